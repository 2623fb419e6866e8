/-
  Walks and plain laws that the law rests on, laid together. No conditions but those that each theorem names.
-/
import Derived.WalkKit
import Derived.OrdersHeld
import Derived.TacticsIn
import Derived.Lib.Strings
import Derived.Lib.UnsafeStr
import Derived.Laws.MakeOwn
import Derived.Laws.StructEq
import Derived.SliceStrings
import Derived.Carry
import Derived.JoinedCond
import Derived.ProofKit
import Derived.OpenShut
import Derived.Test.YtiagknaekaknhaaGreatDoorRows
import Derived.Test.YtiagknaekaknhaaGreatDoorChecked
import Derived.RangeFuncFrom
import Derived.RangeFuncLeaves
import Derived.Recover
import Derived.Laws.OwnMore
import Derived.OrdersIn
import Derived.Lib.SliceRun
import Derived.Lib.Bytealg
import Derived.Lib.FrozenHead
import Derived.Deep.AppendSrc
import Derived.RangeFuncNested
import Derived.Stop.LaidErr
set_option linter.unusedVariables false
set_option maxRecDepth 20000
set_option maxHeartbeats 1000000
open Array renaming ext_getElem?→DB,getD_eq_getD_getElem?→iO,getElem?_append_left→DD,getElem?_append_right→DE,getElem?_eq_getElem→nD,getElem?_eq_none→tF,getElem?_eq_some_iff→dh,getElem?_replicate→DG,getElem?_setIfInBounds→qS,length_toList→lh,mem_toList_iff→tH,range→lj,replicate→nE,setIfInBounds_comm→xZ,toArray_toList→x7,toList_append→DH,toList_inj→qT,toList_map→iP
open BitVec renaming ofInt→il
open Bool renaming and_eq_true→aZ,and_eq_true_iff→pf,eq_iff_iff→ph,false_eq_true→lk,noConfusion→di,not_eq_true'→jm,or_eq_true→nF
open Go renaming Addr→bP,Code→bJ,Edge→bR,Exit→bl,Func→fM,FuncId→dR,IntKind→bw,Oper→aA,Operand→aV,Program→au,TypeId→av,Value→ag,World→ah
open Go.Addr renaming add→tJ
open Go.Builtin renaming append_→jS,firstCells→tL,lenOf→DP,len_→x9
open Go.ByteArray renaming toList_eq→DR
open Go.Calls renaming mono→kp
open Go.CallsD renaming mono→DS
open Go.CallsIn renaming mono→DT
open Go.Code renaming wp_mono→ya
open Go.Conv renaming bytesToString→DV,seenAt→DW,unsafePointer→DX
open Go.DataW renaming TrodAll→DY
open Go.Deferred renaming ofValue→mh
open Go.Fence renaming wide→eO
open Go.Instr renaming alloc→tM,box→yb,buildSlice→qV,checkKey→kq,fill→iQ,findAsking→nG,findKey→nH,findNow→nI,indexAt→D4,loadAt→D5,lookup→D6,slice→qX,sliceAt→nJ,sliceBound→nK,sliceBounds→kr,storeAt→ye,sureAddr→nL,typeAssert→D8
open Go.IntKind renaming i64→tN
open Go.Next renaming value→qY
open Go.Obj.cells renaming injEq→Eb
open Go.Op renaming bytesLess→yf,equal→mi,equalIn→im,intArith→qZ,intCmp→pn,intDiv→yg,stringOp→nN
open Go.Oper renaming semAt_eq→q6,upon→iq,uponIn→q7,wp→gD
open Go.Program renaming built→Ec,underlying→Ed
open Go.Proofs.Tryz renaming prog→ar
open Go.Region renaming Mode→nO,binds→dz,free_spec→yh,noSelect_spec→yi,ready→dq,wanted→jU
open Go.Result renaming andThen_ok→gT,ok→q8
open Go.Rows renaming mono→tO
open Go.RowsIn renaming mono→Ee
open Go.Sem renaming run→ll,run_bind→ir,run_ite→q9,run_pure→ks
open Go.Value renaming bool→bp,cells→po,int→ba,oneCell'→eQ,ownBlock→gk,pointer→tP,slice→bH
open Go.Value.slice renaming injEq→yj
open Go.Value.string renaming inj→Ef
open Go.World renaming freeze→ln,ownsRow_nil→gE,setCell→Ei,shape?→ym
open Int renaming tdiv_eq_ediv_of_nonneg→Ek
open List renaming all_cons→nQ,all_eq_true→El,any_eq_true→Em,eq_nil_of_length_eq_zero→jV,ext_getElem?→pq,flatMap_cons→Es,foldl_cons→iR,getD_eq_getElem?_getD→bY,getElem?_cons_succ→iS,getElem?_cons_zero→iT,getElem?_eq_getElem→bF,getElem?_eq_none→gF,getElem?_eq_some_iff→cI,getElem?_map→fP,getElem?_range→rf,getElem?_take→iU,getElem?_toArray→lx,length_append→cC,length_cons→dL,length_singleton→px,mapM_toArray→yq,map_cons→ei,mem_append_left→pB,mem_cons→ej,mem_map_of_mem→ri,mem_of_getElem?→mo,nil_append→ua,range→fw,range_eq_range'→EE,replicate→cW,size_toArray→eD,zipIdx_cons→EJ
open List.cons renaming inj→En
open Nat renaming add_comm→ud,beq→aM,ble→bc,blt→aE,eq_of_beq_eq_true→bM,le_of_ble_eq_true→bN,le_refl→aP,le_trans→cQ,lt_of_lt_of_le→mr,lt_or_ge→dA,lt_succ_self→mu,mul_le_mul_right→nU,succ_mul→yA,zero_add→cx,zero_mul→ug
open Option renaming bind_some→ET,isSome_iff_exists→mw,map_eq_some_iff→gG,map_some→fA
open Option.some renaming injEq→bL
open Prod renaming fst→fQ
open Prod.mk renaming injEq→gW
open UInt8 renaming ofNat→eS,toNat_lt→ky
open Go.Proofs.Tryz
open Go.RowKit

namespace Go.Hb
theorem ab {p:Prop} (h:p:=by omega):p:=h
theorem ai {p:Prop} (h:p:=by kernel_rfl):p:=h
theorem aD {p:Prop} (h:p:=by decide):p:=h
theorem U {α:Sort _} {a:α} :a=a:=rfl
end Go.Hb
section
namespace Go.Hb
structure Fm where
 n:Nat
 D:List Deferred
 F:List Nat
 r:Option Nat
def aU (σ:Nat→ag) (d:Nat) (v:ag):Nat→ag:=fun i=>cond (aM i d) v<|σ i
def dn (σ:Nat→ag):Option Nat→ag→Nat→ag
 | some d,v=>aU σ d v
 | none,_=>σ
def act (N:Fm) (σ:Nat→ag):Act:=⟨((fw N.n).map σ).toArray,N.D⟩
def ev (N:Fm) (σ:Nat→ag):aV→ag
 | .tmp t=>cond (aE t N.n) (σ t) undef
 | .const v=>v
 | .global g=> .pointer<|some ⟨g,0,none⟩
 | .func f=> .func (.func f) #[] #[]
theorem iX (N:Fm) (σ:Nat→ag) (t:Nat):(act N σ).tmps[t]? =if t < N.n then some (σ t) else none:=by grind [act]
theorem dj (N:Fm) (σ:Nat→ag):(act N σ).eval=ev N σ:=by
 funext x;cases x with
 | tmp t=>
   simp only [Act.eval,ev,iO,iX];by_cases h:t < N.n
   · rw [if_pos h,show aE t N.n=true from by simpa using h]; rfl
   · rw [if_neg h,show aE t N.n=false from by cases hx:aE t N.n <;> simp_all [aE,Nat.ble_eq] <;> omega]; rfl
 | _=>rfl
theorem rC {a b:Act} (A:a.defers=b.defers) (C:∀ i:Nat,a.tmps[i]? =b.tmps[i]?):a=b:=by
 cases a; cases b;simp only at A C;subst A;congr 1;exact DB C
theorem eG (N:Fm) (σ:Nat→ag) (dst:Option Nat) (v:ag):(act N σ).put dst v=act N (dn σ dst v):=by
 cases dst with
 | none=>rfl
 | some d=>
   refine rC U fun i=> ?_;have h0:((act N σ).put (some d) v).tmps=(act N σ).tmps.setIfInBounds d v:=rfl;rw [h0,qS,iX,iX];have C:(act N σ).tmps.size=N.n:=by simp [act]
   simp only [dn,aU];by_cases A:i=d
   · subst A;rw [C];have hb:aM i i=true :=by simp
     by_cases h:i < N.n
     · rw [if_pos rfl,if_pos h,if_pos h,hb]; rfl
     · rw [if_pos rfl,if_neg h,if_neg h]
   · rw [if_neg (fun e=>A e.symm)];have hb:aM i d=false :=by
      cases hx:aM i d
      · rfl
      · exact absurd (bM hx) A
     rw [hb]; rfl
theorem nb {σ:Nat→ag} {i:Nat} {v:ag} (h:σ i=v):aU σ i v=σ:=by grind [aU,aM,bM]
def lift (N:Fm) (Q:bl→(Nat→ag)→ah→Prop):bl→Act→ah→Prop
 | .panic c,a,w=> ∃ σ,a=act N σ∧∀ σ',(∀ i∈N.F,σ' i=σ i)→Q (.panic c) σ' w
 | .outgrown,_,_=>False
 | e,a,w=> ∃ σ,a=act N σ∧Q e σ w
def fe:Option Nat→Fence
 | none=>eO
 | some l=>eO.inRound l
theorem mM (r:Option Nat):(fe r).round=r:=by cases r <;> rfl
theorem j3 (r:Option Nat) (f:dR):(fe r).fn f:=by cases r <;> trivial
theorem mL (r:Option Nat):(fe r).depth=none:=by cases r <;> rfl
theorem r9 {r:Option Nat} {n:Nat} {P:au} {f:dR} {args:Array ag} {w:ah} {R:Ending→ah→Prop} (h:Calls P f args w R):CallsIn (fe r) n P f args w R:=by
 cases r
 · exact callsIn_wide.2 h
 · exact (callsIn_wide (n:=n)).2 h
theorem Ao {r:Option Nat} {n:Nat} {P:au} {row:String} {args:Array ag} {w:ah} {R:ag→ah→Prop} (h:Rows P row args w R):RowsIn (fe r) n P row args w R:=fun c cs _=>by
 obtain ⟨v,w',C,A⟩:=h c cs;refine ⟨v,w',C,?_⟩;cases r
 · exact stepsIn_wide.2 A
 · exact stepsIn_wide.2 A
def wh (ops:List aA):Bool:=ops.all fun o=>match o.op with | .defer _=>false | _=>true
def ke (r:Option Nat) (ops:List aA):Bool:=match r with | none=>true | some _=>wh ops
theorem I4 {l:List aA} (h:wh l=true):∀ o∈l,∀ c,o.op≠.defer c:=by grind [wh]
theorem vF {r:Option Nat} {P:au} {ops:Array aA} {Q:bl→Act→ah→Prop} (A:¬LetsOut Q) (hr:ke r ops.toList=true):∀ (l:List Nat) (a:Act) (w:ah),wpOps P ops Q l a w→wpOpsIn (fe r) 0 P ops Q l a w:=by
 intro l
 induction l with
 | nil=>exact fun _ _ h=>h
 | cons i l ih=>
   intro a w h;simp only [wpOps] at h;simp only [wpOpsIn];cases ho:ops[i]? with
   | none=>simp only [ho] at h ⊢; exact ih a w h
   | some o=>
     simp only [ho] at h ⊢;by_cases hw:jU o (yielded ops a.tmps)=true
     · rw [if_pos hw] at h ⊢;rcases h with h | h
       · refine ⟨fun f _=>j3 r f,?_⟩;rw [mM];have C:o.semAt r a.eval=execOp a.eval o:=by
          cases r with
          | none=>rfl
          | some k=>exact q6 _ _ _<|I4 hr o<|tH.2<|Array.mem_of_getElem? ho
         rw [C];unfold gD at h;generalize (execOp a.eval o).run P w=x at h;cases x with
         | ok n w'=>
           cases n <;> simp only [iq,q7] at h ⊢ <;>
            first
             | exact ih _ _ h
             | (refine ⟨fun h0=>(by rw [mL] at h0; cases h0),DT (r9 h) fun e w'' he=> ?_⟩
                cases e <;> first | exact ih _ _ he | exact he)
             | exact ⟨fun h0=>(by rw [mL] at h0; cases h0),Ee (Ao h) fun v w'' he=>ih _ _ he⟩
         | halt x w'=>cases x <;> simp only [iq,q7] at h ⊢ <;> exact h
       · exact absurd h.2 A
     · rw [if_neg hw] at h ⊢;exact ⟨fun f _=>j3 r f,ih _ _ h⟩
def bA (P:au) (N:Fm) (c:bJ) (Q:bl→(Nat→ag)→ah→Prop) (σ:Nat→ag) (w:ah):Prop :=
 c.wpIn (fe N.r) 0 P (lift N Q) (act N σ) w
def bQ (P:au) (N:Fm) (ops:Array aA) (Q:bl→(Nat→ag)→ah→Prop) (l:List aA) (σ:Nat→ag) (w:ah):Prop :=
 wpList P ops (lift N Q) l (act N σ) w
def gQ (K:(Nat→ag)→ah→Prop) (Q:bl→(Nat→ag)→ah→Prop):bl→(Nat→ag)→ah→Prop
 | .normal,σ,w=>K σ w
 | e,σ,w=>Q e σ w
def kJ (id:Nat) (Q:bl→(Nat→ag)→ah→Prop):bl→(Nat→ag)→ah→Prop
 | .exit A,σ,w=>if A=id then Q .normal σ w else Q (.exit A) σ w
 | e,σ,w=>Q e σ w
section
variable {P:au} {N:Fm} {Q:bl→(Nat→ag)→ah→Prop} {σ:Nat→ag} {w:ah} {K:(Nat→ag)→ah→Prop}
theorem Iy {Q C:bl→(Nat→ag)→ah→Prop} (h:∀ e σ w,Q e σ w→C e σ w) (e:bl) (a:Act) (w:ah):lift N Q e a w→lift N C e a w:=by
 cases e <;> first | exact fun h=>h.elim | exact fun ⟨σ,ha,A⟩=>⟨σ,ha,h _ _ _ A⟩ | exact fun ⟨σ,ha,A⟩=>⟨σ,ha,fun σ' E=>h _ _ _<|A σ' E⟩
theorem Dq {A:bl→(Nat→ag)→ah→Prop} {c:bJ} (h:∀ e σ w,Q e σ w→A e σ w) (C:bA P N c Q σ w):bA P N c A σ w:=
 wpIn_mono C (Iy h)
theorem tn (h:K σ w):gQ K Q .normal σ w:=h
theorem te (id:Nat) (h:Q (.exit id) σ w):gQ K Q (.exit id) σ w:=h
theorem tr (h:Q .ret σ w):gQ K Q .ret σ w:=h
theorem bn {id:Nat} (h:Q .normal σ w):kJ id Q .normal σ w:=h
theorem be {id:Nat} (h:Q .normal σ w):kJ id Q (.exit id) σ w:=by simpa only [kJ,if_true] using h
theorem Fp {id A:Nat} (C:A≠id) (h:Q (.exit A) σ w):kJ id Q (.exit A) σ w:=by simpa only [kJ,if_neg C] using h
theorem br {id:Nat} (h:Q .ret σ w):kJ id Q .ret σ w:=h
theorem sq {x y:bJ} (h:∀ K:(Nat→ag)→ah→Prop,(∀ σ w,bA P N y Q σ w→K σ w)→bA P N x (gQ K Q) σ w):bA P N (.seq x y) Q σ w:=by
 refine wpIn_seq<|wpIn_mono (h (fun σ w=>bA P N y Q σ w) fun _ _ h=>h) ?_;intro e a w A;cases e with
 | normal=>obtain ⟨σ,rfl,C⟩:=A; exact C
 | panic c=>exact A
 | outgrown=>exact A
 | _=>obtain ⟨σ,rfl,C⟩:=A; exact ⟨σ,rfl,C⟩
theorem fu {x y:bJ} (A:(Nat→ag)→ah→Prop) (h:bA P N x (gQ A Q) σ w) (I:∀ σ w,A σ w→bA P N y Q σ w):bA P N (.seq x y) Q σ w:=
 sq fun _ E=>Dq (fun e _ _ C=>by cases e <;> first | exact E _ _ (I _ _ C) | exact C) h
theorem ct {c:aV} {x y:bJ} (A:ev N σ c= .bool true) (h:bA P N x Q σ w):bA P N (.cond c x y) Q σ w:=
 wpIn_cond_true (by rw [dj]; exact A) h
theorem cf {c:aV} {x y:bJ} (A:ev N σ c= .bool false) (h:bA P N y Q σ w):bA P N (.cond c x y) Q σ w:=
 wpIn_cond_false (by rw [dj]; exact A) h
theorem cb {c:aV} {x y:bJ} {b:Bool} (A:ev N σ c= .bool b) (E:b=true→bA P N x Q σ w) (C:b=false→bA P N y Q σ w):bA P N (.cond c x y) Q σ w:=by
 cases b
 · exact cf A<|C U
 · exact ct A<|E U
theorem cd {c:aV} {x y:bJ} {p:Prop} [Decidable p] (A:ev N σ c= .bool (decide p)) (E:p→bA P N x Q σ w) (C:¬p→bA P N y Q σ w):bA P N (.cond c x y) Q σ w:=by grind [cb]
theorem ak {id:Nat} {c:bJ} (h:bA P N c (kJ id Q) σ w):bA P N (.block id c) Q σ w:=by
 refine wpIn_block<|wpIn_mono h ?_;intro e a w C;cases e with
 | panic c=>exact C
 | outgrown=>exact C
 | exit E=>
   obtain ⟨σ,rfl,A⟩:=C;simp only [kJ,Exit.inBlock] at A ⊢;split
   · rename_i e; rw [if_pos e] at A; exact ⟨σ,rfl,A⟩
   · rename_i e; rw [if_neg e] at A; exact ⟨σ,rfl,A⟩
 | _=>obtain ⟨σ,rfl,A⟩:=C; exact ⟨σ,rfl,A⟩
theorem ext {id:Nat} (h:Q (.exit id) σ w):bA P N (.exit id) Q σ w:=wpIn_exit ⟨σ,rfl,h⟩
theorem CD (h:Q .normal σ w):bA P N .skip Q σ w:=wpIn_skip ⟨σ,rfl,h⟩
theorem rt (h:Q .ret σ w):bA P N .ret Q σ w:=wpIn_ret ⟨σ,rfl,h⟩
def Sl (σ:Nat→ag) (L:List (Nat×ag)):Prop :=L.map (fun p=>σ p.1)=L.map (fun p=>p.2)
def o7 (σ:Nat→ag):List (Nat×ag)→Nat→ag
 | []=>σ
 | p::L=>aU (o7 σ L) p.1 p.2
theorem tv {σ:Nat→ag} :∀ {L:List (Nat×ag)},Sl σ L→o7 σ L=σ
 | [],_=>rfl
 | p::L,h=>by
   have h1:σ p.1=p.2:=(En h).1;have A:Sl σ L:=(En h).2;rw [o7,tv A,nb h1]
theorem bO {c:bJ} {L:List (Nat×ag)} (h:Sl σ L) (A:bA P N c Q (o7 σ L) w):bA P N c Q σ w:=by rw [tv h] at A; exact A
theorem lp {c:bJ} (L:Nat→(Nat→ag)→ah→Prop) (n:Nat) (h0:L n σ w)
 (h:∀ n σ w,L n σ w→bA P N c (gQ (fun σ' w'=> ∃ m,m < n∧L m σ' w') Q) σ w):bA P N (.loop c) Q σ w:=by
 intro b k cs ai hb hr;have key:∀ n σ w,L n σ w→
  ∃ e M w',lift N Q e M w'∧ArrivesIn (Machine.fenced P<|fe N.r) P (lone (b.atR (act N σ) (.code c:: .inLoop c::k)) cs w) b k cs e M w':=by
  intro n
  induction n using Nat.strongRecOn with
  | _ n ih=>
    intro σ w ab;obtain ⟨e,O,J,I,C⟩:=h n σ w ab b (.inLoop c::k) cs ai hb hr;cases e with
    | normal=>
      obtain ⟨A,rfl,m,hm,ac⟩:=I;obtain ⟨aa,V,aj,ae,ad⟩:=ih m hm A J ac;exact ⟨aa,V,aj,ae,.of_steps (StepsIn.trans C<|.one (fenced_calm hb hr U) stepR_inLoop) ad⟩
    | exit id=>obtain ⟨A,rfl,E⟩:=I; exact ⟨.exit id,act N A,J,⟨A,rfl,E⟩,.pass (x:= .inLoop c) rfl (fun _ _=> .inl<|by simp) C⟩
    | goto l=>obtain ⟨A,rfl,E⟩:=I; exact ⟨.goto l,act N A,J,⟨A,rfl,E⟩,.pass (x:= .inLoop c) rfl (fun _ _=> .inl<|by simp) C⟩
    | ret=>obtain ⟨A,rfl,E⟩:=I; exact ⟨.ret,act N A,J,⟨A,rfl,E⟩,.pass (x:= .inLoop c) rfl (fun _ _=> .inl<|by simp) C⟩
    | panic Z=>exact ⟨.panic Z,O,J,I,.pass (x:= .inLoop c) rfl (fun _ _=> .inl<|by simp) C⟩
    | outgrown=>exact I.elim
 obtain ⟨e,M,w',E,C⟩:=key _ σ w h0;exact ⟨e,M,w',E,.of_steps (.one (fenced_calm hb hr U) stepR_loop) C⟩
def bV (P:au) (N:Fm) (o:aA) (σ:Nat→ag) (w:ah) (K:(Nat→ag)→ah→Prop):Prop :=
 gD P o (act N σ) w (fun a w=> ∃ σ,a=act N σ∧K σ w) (fun _ _ _=>False)
theorem Lj {o:aA} {a:Act} {K C:Act→ah→Prop} {Q:bl→Act→ah→Prop} (h:∀ a w,K a w→C a w)
 (r:Result Next) (A:o.upon P a K (fun _ _ _=>False) r):o.upon P a C Q r:=by
 cases r with
 | ok n w'=>
   cases n <;> simp only [iq] at A ⊢ <;>
    first
     | exact h _ _ A
     | exact kp A (fun e w'' he=>by
      cases e with
      | returned v=>exact h _ _ he
      | panicked c=>exact he.elim
      | outgrown=>obtain ⟨_,_,E⟩:=he; exact E.elim)
     | exact tO A fun _ _ he=>h _ _ he
 | halt x w'=>cases x <;> simp only [iq] at A ⊢
theorem o8 {K:(Nat→ag)→ah→Prop} {A:Act→ah→Prop} {Q:bl→Act→ah→Prop} {o:aA} (h:bV P N o σ w K) (E:∀ σ w,K σ w→A (act N σ) w):o.wp P (act N σ) w A Q:=by
 unfold bV at h;unfold gD at*;exact Lj (fun a w ⟨σ,ha,C⟩=>by subst ha; exact E _ _ C) _ h
theorem Dt {K A:(Nat→ag)→ah→Prop} {o:aA} (h:bV P N o σ w K) (E:∀ σ w,K σ w→A σ w):bV P N o σ w A:=
 o8 h (fun σ w C=>⟨σ,rfl,E σ w C⟩)
variable {ops:Array aA} {rest:List aA} {d:Nat} {op:Op} {ty:av} {pos :String} {af:Array bR} {d':Option Nat} {v:ag} {o:aA}
theorem tE (A:jU o (yielded ops (act N σ).tmps)=true) (h:bV P N o σ w (fun σ w=>bQ P N ops Q rest σ w)):bQ P N ops Q (o::rest) σ w:=by
 unfold bQ wpList;rw [if_pos A];exact .inl<|o8 h fun _ _ C=>C
theorem ik {K:(Nat→ag)→ah→Prop} {w':ah} (hr:(execOp (ev N σ) o).run P w= .ok (.value v) w') (A:K (dn σ o.dst v) w'):bV P N o σ w K:=by
 unfold bV gD;rw [dj,hr];exact ⟨_,eG ..,A⟩
theorem fj (o:aA) (A:o.guard=none) (y:Nat→Option Bool):jU o y=true :=by simp [jU,A]
def dJ (ops:Array aA) (j:Nat):Option Nat:=(ops[j]?).bind (·.dst)
theorem me {j t:Nat} {want b:Bool} (C:o.guard=some (j,want)) (A:dJ ops j=some t) (E:aE t N.n=true) (I:σ t= .bool b):
 jU o (yielded ops (act N σ).tmps)=(b==want):=by
 have h1:yielded ops (act N σ).tmps j=some b:=by
  unfold yielded;unfold dJ at A;rw [A];simp only [ET,iX];rw [if_pos (mr (mu t)<|bN E),I]
 simp only [jU,C,h1];cases b <;> cases want <;> rfl
theorem xP {j t:Nat} {want:Bool} (C:o.guard=some (j,want)) (A:dJ ops j=some t) (E:aE t N.n=true) (I:σ t=undef):
 jU o (yielded ops (act N σ).tmps)=false :=by
 have h1:yielded ops (act N σ).tmps j=none:=by
  unfold yielded;unfold dJ at A;rw [A];simp only [ET,iX];rw [if_pos (mr (mu t)<|bN E),I]; rfl
 simp only [jU,C,h1];rfl
theorem p (h:(execOp (ev N σ) ⟨some d,op,ty,pos,af,none⟩).run P w= .ok (.value v) w) (k:bQ P N ops Q rest (aU σ d v) w):
 bQ P N ops Q (⟨some d,op,ty,pos,af,none⟩::rest) σ w:=
 tE (fj _ rfl _) (ik h k)
theorem pg {j t:Nat} {want:Bool} (A:dJ ops j=some t) (C:aE t N.n=true) (E:σ t= .bool want)
 (h:(execOp (ev N σ) ⟨some d,op,ty,pos,af,some (j,want)⟩).run P w= .ok (.value v) w) (k:bQ P N ops Q rest (aU σ d v) w):
 bQ P N ops Q (⟨some d,op,ty,pos,af,some (j,want)⟩::rest) σ w:=
 tE (by rw [me rfl A C E]; cases want <;> rfl) (ik h k)
theorem sk {j t:Nat} {want b:Bool} (A:dJ ops j=some t) (C:aE t N.n=true) (E:σ t= .bool b) (hb:(b==want)=false)
 (k:bQ P N ops Q rest (aU σ d undef) w):bQ P N ops Q (⟨some d,op,ty,pos,af,some (j,want)⟩::rest) σ w:=by
 unfold bQ wpList;rw [if_neg (by rw [me rfl A C E,hb]; simp),eG];exact k
theorem CE {j t:Nat} {want:Bool} (A:dJ ops j=some t) (C:aE t N.n=true) (E:σ t=undef)
 (k:bQ P N ops Q rest (aU σ d undef) w):bQ P N ops Q (⟨some d,op,ty,pos,af,some (j,want)⟩::rest) σ w:=by
 unfold bQ wpList;rw [if_neg (by rw [xP rfl A C E]; simp),eG];exact k
theorem e (h:bV P N ⟨d',op,ty,pos,af,none⟩ σ w (fun σ w=>bQ P N ops Q rest σ w)):bQ P N ops Q (⟨d',op,ty,pos,af,none⟩::rest) σ w:=
 tE (fj _ rfl _) h
theorem eg {j t:Nat} {want:Bool} (A:dJ ops j=some t) (C:aE t N.n=true) (E:σ t= .bool want)
 (h:bV P N ⟨d',op,ty,pos,af,some (j,want)⟩ σ w (fun σ w=>bQ P N ops Q rest σ w)):bQ P N ops Q (⟨d',op,ty,pos,af,some (j,want)⟩::rest) σ w:=by grind [tE,me]
theorem nl (h:Q .normal σ w):bQ P N ops Q [] σ w:=⟨σ,rfl,h⟩
theorem vS:¬LetsOut (lift N Q):=fun ⟨_,_,h⟩=>h
theorem rg {id:Nat} {l:List aA} (hr:ke N.r l=true) (h:bQ P N l.toArray Q l σ w):bA P N (.region id l.toArray false) Q σ w:=by
 refine wpIn_region<|vF vS hr _ _ _ ?_;have h1:=wpOps_eq_wpList (P:=P) (ops:=l.toArray) (Q:=lift N Q) l 0 fun j=>by simp
 rw [EE,eD,h1];exact h
theorem gs {l:List aA} {t:Nat} {q:Prop} [Decidable q] (h:σ t= .bool (decide q)) (E:q→bQ P N ops Q l (aU σ t<|.bool true) w) (C:¬q→bQ P N ops Q l (aU σ t<|.bool false) w):bQ P N ops Q l σ w:=by
 by_cases A:q
 · have :=E A; rwa [nb (by rw [h,decide_eq_true A])] at this
 · have :=C A; rwa [nb (by rw [h,decide_eq_false A])] at this
theorem gb {l:List aA} {t:Nat} {b:Bool} (h:σ t= .bool b) (C:b=true→bQ P N ops Q l (aU σ t<|.bool true) w) (A:b=false→bQ P N ops Q l (aU σ t<|.bool false) w):bQ P N ops Q l σ w:=by
 cases b
 · have :=A rfl; rwa [nb h] at this
 · have :=C rfl; rwa [nb h] at this
def cg (P:au) (N:Fm) (ops:Array aA) (Q:bl→(Nat→ag)→ah→Prop) (S:ah→Prop) (fuel:Nat) (listed:Array Bool) (σ:Nat→ag) (w:ah):Prop :=
 wpAnyH P .any ops (lift N Q) S fuel listed (act N σ) w
variable {S:ah→Prop} {fuel:Nat} {listed:Array Bool}
theorem yN {id:Nat} {l:List aA} (hr:ke N.r l=true) (hm:P.follows .mixedOrders=true) (h:wpAny P .any l.toArray (lift N Q) l.toArray.size (nE l.toArray.size false) (act N σ) w.drew):bA P N (.region id l.toArray true) Q σ w:=by
 refine wpIn_region_draw fun t=>vF vS hr _ _ _ ?_;simp only [Region.schedule,hm,Bool.true_or,if_true];exact wpAny_sound _ t _ _ _ h
theorem bj {id:Nat} {l:List aA} (S:ah→Prop) (hr:ke N.r l=true) (hm:P.follows .mixedOrders=true) (A:S w.drew) (h:cg P N l.toArray Q S l.length (nE l.length false) σ w.drew):bA P N (.region id l.toArray true) Q σ w:=
 yN hr hm (wpAny_of_held _ _ _ _<|by rw [eD]; exact h)
def wv (F:List Nat) (d:Option Nat):Bool:=match d with | some d=> !(F.contains d) | none=>true
def et (F:List Nat) (ops:Array aA) (listed:Array Bool) (i:Nat):Bool:=
 Region.noSelect ops && Region.free .any ops listed i && (dq .any ops listed).contains i && wv F ((ops[i]?).bind (·.dst))
theorem mW {d:Option Nat} {v:ag} (A:wv N.F d=true) (c:List PanicEntry) (a:Act) (w:ah):lift N Q (.panic c) (a.put d v) w→lift N Q (.panic c) a w:=by
 rintro ⟨σ,ha,h⟩;cases d with
 | none=>exact ⟨σ,ha,h⟩
 | some d=>
   have L:a.tmps.size=N.n:=by
    have :=congrArg (fun x:Act=>x.tmps.size) ha;simpa [Act.put,act] using this
   have E:a.defers=N.D:=congrArg (fun x:Act=>x.defers) ha;have I:∀ i:Nat,i≠d→a.tmps[i]? =if i < N.n then some (σ i) else none:=fun i hi=>by
    have h1:(a.put (some d) v).tmps[i]? =a.tmps[i]? :=by
     show (a.tmps.setIfInBounds d v)[i]? =_;rw [qS,if_neg (fun e=>hi e.symm)]
    rw [← h1,ha,iX]
   refine ⟨fun i=>if i < N.n then a.tmps.getD i undef else σ i,rC E fun i=> ?_,fun σ' C=>h σ' fun i hi=> ?_⟩
   · rw [iX];by_cases h1:i < N.n
     · rw [if_pos h1,if_pos h1,iO,nD ab]; rfl
     · rw [if_neg h1,tF ab]
   · have J:i≠d:=by
      rintro rfl;simp only [wv,jm,List.contains_eq_mem,decide_eq_false_iff_not] at A;exact A hi
     rw [C i hi];by_cases h1:i < N.n
     · simp only [if_pos h1];rw [iO,I i J,if_pos h1]; rfl
     · simp only [if_neg h1]
theorem hp (i:Nat) (hi:ops[i]? =some ⟨some d,op,ty,pos,af,none⟩) (A:et N.F ops listed i=true)
 (E:∀ w,S w→(execOp (ev N σ) ⟨some d,op,ty,pos,af,none⟩).run P w= .ok (.value v) w) (C:S w)
 (k:cg P N ops Q S fuel (listed.setIfInBounds i true) (aU σ d v) w):cg P N ops Q S (fuel+1) listed σ w:=by
 simp only [et,aZ] at A;refine wpAnyH_take hi A.1.1.1 A.1.1.2 A.1.2 (fun c a w=>mW (by have :=A.2; rwa [hi] at this) c a w) (.inl ⟨fj _ rfl _,fun w C=> ?_⟩) C ?_ (v:=v)
 · rw [dj]; exact E w C
 · rw [eG]; exact k
theorem bT (i:Nat) {j t:Nat} {want:Bool} (hi:ops[i]? =some ⟨some d,op,ty,pos,af,some (j,want)⟩) (A:et N.F ops listed i=true)
 (E:dJ ops j=some t) (I:aE t N.n=true) (J:σ t= .bool want)
 (L:∀ w,S w→(execOp (ev N σ) ⟨some d,op,ty,pos,af,some (j,want)⟩).run P w= .ok (.value v) w) (C:S w)
 (k:cg P N ops Q S fuel (listed.setIfInBounds i true) (aU σ d v) w):cg P N ops Q S (fuel+1) listed σ w:=by
 simp only [et,aZ] at A;refine wpAnyH_take hi A.1.1.1 A.1.1.2 A.1.2 (fun c a w=>mW (by have :=A.2; rwa [hi] at this) c a w) (.inl ⟨by rw [me U E I J]; cases want <;> rfl,fun w C=> ?_⟩) C ?_ (v:=v)
 · rw [dj]; exact L w C
 · rw [eG]; exact k
theorem AL (i:Nat) {j t:Nat} {want b:Bool} (hi:ops[i]? =some ⟨some d,op,ty,pos,af,some (j,want)⟩) (A:et N.F ops listed i=true)
 (E:dJ ops j=some t) (I:aE t N.n=true) (J:σ t= .bool b) (hb:(b==want)=false) (C:S w)
 (k:cg P N ops Q S fuel (listed.setIfInBounds i true) (aU σ d undef) w):cg P N ops Q S (fuel+1) listed σ w:=by
 simp only [et,aZ] at A;refine wpAnyH_take hi A.1.1.1 A.1.1.2 A.1.2 (fun c a w=>mW (by have :=A.2; rwa [hi] at this) c a w) (.inr ⟨by rw [me U E I J,hb],U⟩) C ?_ (v:=undef);rw [eG]; exact k
theorem HO (i:Nat) {j t:Nat} {want:Bool} (hi:ops[i]? =some ⟨some d,op,ty,pos,af,some (j,want)⟩) (A:et N.F ops listed i=true)
 (E:dJ ops j=some t) (I:aE t N.n=true) (J:σ t=undef) (C:S w)
 (k:cg P N ops Q S fuel (listed.setIfInBounds i true) (aU σ d undef) w):cg P N ops Q S (fuel+1) listed σ w:=by
 simp only [et,aZ] at A;refine wpAnyH_take hi A.1.1.1 A.1.1.2 A.1.2 (fun c a w=>mW (by have :=A.2; rwa [hi] at this) c a w) (.inr ⟨xP U E I J,U⟩) C ?_ (v:=undef);rw [eG]; exact k
def gK (ops:Array aA) (listed:Array Bool) (i:Nat):Bool:=(dq .any ops listed)== [i]
theorem he (i:Nat) (hi:ops[i]? =some ⟨d',op,ty,pos,af,none⟩) (hr:gK ops listed i=true)
 (h:bV P N ⟨d',op,ty,pos,af,none⟩ σ w (fun σ w=>S w∧cg P N ops Q S fuel (listed.setIfInBounds i true) σ w)):cg P N ops Q S (fuel+1) listed σ w:=by
 refine wpAnyH_all (rs:= [i]) (by simpa [gK] using hr) (by simp) ?_;intro k A;obtain rfl :k=i:=by simpa using A
 unfold wpOp;simp only [hi];rw [if_pos (fj _ rfl _)];exact .inl<|o8 h fun _ _ A=>A
theorem AK (i:Nat) {j t:Nat} {want:Bool} (hi:ops[i]? =some ⟨d',op,ty,pos,af,some (j,want)⟩) (hr:gK ops listed i=true)
 (C:dJ ops j=some t) (E:aE t N.n=true) (I:σ t= .bool want)
 (h:bV P N ⟨d',op,ty,pos,af,some (j,want)⟩ σ w (fun σ w=>S w∧cg P N ops Q S fuel (listed.setIfInBounds i true) σ w)):cg P N ops Q S (fuel+1) listed σ w:=by
 refine wpAnyH_all (rs:= [i]) (by simpa [gK] using hr) (by simp) ?_;intro k A;obtain rfl :k=i:=by simpa using A
 unfold wpOp;simp only [hi];rw [if_pos (by rw [me rfl C E I]; cases want <;> rfl)];exact .inl<|o8 h fun _ _ A=>A
theorem hn (hr:(dq .any ops listed).isEmpty=true) (h:Q .normal σ w):cg P N ops Q S fuel listed σ w:=
 wpAnyH_done (by simpa using hr) ⟨σ,rfl,h⟩ fuel
theorem kI {t:Nat} {q:Prop} [Decidable q] (h:σ t= .bool (decide q)) (E:q→cg P N ops Q S fuel listed (aU σ t<|.bool true) w) (C:¬q→cg P N ops Q S fuel listed (aU σ t<|.bool false) w):cg P N ops Q S fuel listed σ w:=by
 by_cases A:q
 · have :=E A; rwa [nb (by rw [h,decide_eq_true A])] at this
 · have :=C A; rwa [nb (by rw [h,decide_eq_false A])] at this
end
def bq (P:au) (f:dR) (args:Array ag) (w:ah) (R:ag→ah→Prop):Prop :=
 Calls P f args w fun e w'=> ∃ v,e= .returned v∧R v w'
theorem bq.mono {P:au} {f:dR} {args:Array ag} {w:ah} {R A:ag→ah→Prop} (h:bq P f args w R) (hr:∀ v w',R v w'→A v w'):bq P f args w A:=
 kp h fun _ _ ⟨v,he,C⟩=>⟨v,he,hr _ _ C⟩
def dm (args:List ag):Nat→ag:=fun i=>args.getD i undef
def fin (P:au) (fn:fM) (N:Fm) (R:ag→ah→Prop):bl→(Nat→ag)→ah→Prop
 | .normal,σ,w=> ∃ v,(results fn (act N σ).tmps).run P w= .ok v w∧R v w
 | .ret,σ,w=> ∃ v,(results fn (act N σ).tmps).run P w= .ok v w∧R v w
 | _,_,_=>False
theorem enter {P:au} {f:dR} {N:Nat} {fn:fM} {c:bJ} {args:List ag} {w:ah} {R:ag→ah→Prop} (L:P.funcs[f]? =some fn) (hb:fn.body=some c)
 (J:fn.ntmps=N) (hn:bc args.length N=true) (h:bA P ⟨N,[],[],none⟩ c (fin P fn ⟨N,[],[],none⟩ R) (dm args) w):bq P f args.toArray w R:=by
 subst J;refine calls_of_wp L hb ?_;have ha:({tmps:=args.toArray++nE (fn.ntmps - args.toArray.size) undef,defers:= []} :Act)=act ⟨fn.ntmps,[],[],none⟩ (dm args):=by
  have M:args.length≤fn.ntmps:=by simpa using hn
  refine rC U fun i=> ?_;rw [iX];simp only [dm,bY,eD];by_cases h1:i < args.length
  · rw [DD (by simpa using h1),if_pos ab];simp [h1]
  · rw [DE (by simpa using h1)];simp only [eD,DG];by_cases I:i < fn.ntmps
    · rw [if_pos ab,if_pos I,gF ab]; rfl
    · rw [if_neg ab,if_neg I]
 rw [ha];refine ya ?_<|wpIn_wide.1 h;intro e a w A;cases e with
 | normal=>obtain ⟨σ,rfl,v,hr,E⟩:=A; exact ⟨rfl,v,hr,v,rfl,E⟩
 | ret=>obtain ⟨σ,rfl,v,hr,E⟩:=A; exact ⟨rfl,v,hr,v,rfl,E⟩
 | exit id=>obtain ⟨σ,rfl,C⟩:=A; exact C.elim
 | goto l=>obtain ⟨σ,rfl,C⟩:=A; exact C.elim
 | panic c=>obtain ⟨σ,rfl,C⟩:=A; exact (C σ fun _ _=>rfl).elim
 | outgrown=>exact A.elim
section
variable {P:au} {N:Fm} {σ:Nat→ag} {w:ah} {fn:fM} {R:ag→ah→Prop}
theorem m8 (t:Nat):(act N σ).tmps.getD t undef=ev N σ (.tmp t):=by
 rw [← dj]; rfl
theorem f0 (h:fn.results= #[]) (A:R (.tuple #[]) w):fin P fn N R .normal σ w:=⟨_,results_none h _ _ _,A⟩
theorem Hk (h:fn.results= #[]) (A:R (.tuple #[]) w):fin P fn N R .ret σ w:=⟨_,results_none h _ _ _,A⟩
theorem f1 {t:Nat} {v:ag} (h:fn.results= #[.tmp t]) (C:ev N σ (.tmp t)=v) (A:R v w):fin P fn N R .ret σ w:=
 ⟨v,by rw [results_tmp h,m8,C],A⟩
theorem f2 {t u:Nat} {v A:ag} (h:fn.results= #[.tmp t,.tmp u]) (E:ev N σ (.tmp t)=v) (hu:ev N σ (.tmp u)=A) (C:R (.tuple #[v,A]) w):fin P fn N R .ret σ w:=
 ⟨_,by rw [results_tmp2 h,m8,m8,E,hu],C⟩
theorem f3 {t u s:Nat} {v A C:ag} (h:fn.results= #[.tmp t,.tmp u,.tmp s]) (J:ev N σ (.tmp t)=v) (hu:ev N σ (.tmp u)=A) (I:ev N σ (.tmp s)=C) (E:R (.tuple #[v,A,C]) w):fin P fn N R .ret σ w:=by
 refine ⟨_,?_,E⟩;simp only [results,h];subst J hu I;simp only [← m8];simp [yq]
end
attribute [irreducible] bQ bA cg bV
end Go.Hb
namespace Go.Hb
def ay (h:Array Obj) (b off :Nat):Option ag:=
 match h[b]? with
 | some (.cells c _ _)=>c[off]?
 | _=>none
theorem jx (w:ah) (b off :Nat):w.cell? ⟨b,off,none⟩=ay w.heap b off :=by
 unfold World.cell? ay;simp only;split <;> simp_all
theorem bg {h:Array Obj} {b off :Nat} {c:Array ag} {t:av} {f:Nat×Nat} (hb:h[b]? =some (.cells c t f)):ay h b off =c[off]? :=by
 simp only [ay,hb]
theorem FW {h:Array Obj} {b off :Nat} {v:ag} (A:ay h b off =some v):b < h.size:=by grind [ay]
structure Md (F:Nat→Prop) (w w':ah):Prop where
 os:w'.os=w.os
 output:w'.output=w.output
 size:w.heap.size≤w'.heap.size
 dE:∀ k,k < w.heap.size→¬F k→w'.heap[k]? =w.heap[k]?
abbrev Wk (w w':ah):Prop :=Md (fun _=>False) w w'
theorem Md.refl (F:Nat→Prop) (w:ah):Md F w w:=⟨rfl,rfl,aP _,fun _ _ _=>rfl⟩
theorem Md.drew {F:Nat→Prop} {w w':ah} (h:Md F w w'):Md F w w'.drew:=⟨h.os,h.output,h.size,h.dE⟩
theorem Md.mono {F G:Nat→Prop} {w w':ah} (h:Md F w w') (E:∀ k,k < w.heap.size→F k→G k):Md G w w':=
 ⟨h.os,h.output,h.size,fun k A I=>h.dE k A fun C=>I<|E k A C⟩
theorem Md.trans {F:Nat→Prop} {a b c:ah} (h:Md F a b) (h':Md F b c):Md F a c:=
 ⟨h'.os.trans h.os,h'.output.trans h.output,cQ h.size h'.size,fun k C A=>(h'.dE k (mr C h.size) A).trans<|h.dE k C A⟩
theorem Md.trans' {F G:Nat→Prop} {a b c:ah} (h:Md F a b) (h':Md G b c) (E:∀ k,k < a.heap.size→G k→F k):Md F a c:=
 ⟨h'.os.trans h.os,h'.output.trans h.output,cQ h.size h'.size,
  fun k A C=>(h'.dE k (mr A h.size) fun x=>C<|E k A x).trans (h.dE k A C)⟩
theorem Md.ak {F:Nat→Prop} {w w':ah} (h:Md F w w') {k:Nat} {o:Obj} (A:w.heap[k]? =some o) (C:¬F k):w'.heap[k]? =some o:=
 (h.dE k (dh.1 A).1 C).trans A
theorem Md.ay {F:Nat→Prop} {w w':ah} (h:Md F w w') {b off :Nat} {v:ag} (A:Hb.ay w.heap b off =some v) (C:¬F b):Hb.ay w'.heap b off =some v:=by
 have :=h.dE b (FW A) C;unfold Hb.ay at*;rw [this]; exact A
theorem Wk.ay {w w':ah} (h:Wk w w') {b off :Nat} {v:ag} (A:Hb.ay w.heap b off =some v):Hb.ay w'.heap b off =some v:=Md.ay h A id
theorem Wk.ak {w w':ah} (h:Wk w w') {k:Nat} {o:Obj} (A:w.heap[k]? =some o):w'.heap[k]? =some o:=Md.ak h A id
structure Nw (w w':ah):Prop where
 md:Wk w w'
 size:w'.heap.size=w.heap.size+1
 one:∃ o,w'= {w with heap:=w.heap.push o}
theorem BC (w:ah) (o:Obj):Nw w {w with heap:=w.heap.push o} :=
 ⟨⟨rfl,rfl,by simp,fun k A _=>by show (w.heap.push o)[k]? =_; rw [Array.getElem?_push,if_neg ab]⟩,by simp,o,rfl⟩
def cY (P:au) (t:av):Option (Option Nat):=
 match P.underlying t with
 | some (.struct _) | some (.array _ _)=>((P.info? t).map (·.size)).map some
 | some _=>some none
 | none=>none
def mN (P:au) (s f:Nat):Option Nat:=
 match P.underlying s with
 | some (.struct A)=>match A[f]? with
   | some fd=>match P.info? fd.type with
     | some i=>if i.size=0 then none else some fd.offset
     | none=>none
   | none=>none
 | _=>none
def cS (P:au) (t:av):Option Nat:=
 match P.underlying t with
 | some (.slice e)=>(P.info? e).map (·.size)
 | _=>none
section
variable {P:au} {N:Fm} {σ:Nat→ag} {w:ah} {dst:Option Nat} {ty:av} {pos :String} {af:Array bR} {g:Option (Nat×Bool)} {x y z:aV}
theorem bu {t:av} {d:TypeDesc} (h:P.underlying t=some d) (w:ah):(underlying t).run P w= .ok d w:=by
 simp [underlying,h]
theorem db {t:av} {i:TypeInfo} (h:P.info? t=some i) (w:ah):(typeInfo t).run P w= .ok i w:=by
 simp [typeInfo,h]
theorem mv:(execOp (ev N σ) ⟨dst,.move x,ty,pos,af,g⟩).run P w= .ok (.value<|ev N σ x) w:=rfl
theorem aR:(execOp (ev N σ) ⟨dst,.assign x,ty,pos,af,g⟩).run P w= .ok (.value<|ev N σ x) w:=rfl
theorem iG (v:ag) (h:ev N σ x=v):(execOp (ev N σ) ⟨dst,.move x,ty,pos,af,g⟩).run P w= .ok (.value v) w:=by rw [← h]; rfl
theorem ux (v:ag) (h:ev N σ x=v):(execOp (ev N σ) ⟨dst,.assign x,ty,pos,af,g⟩).run P w= .ok (.value v) w:=by rw [← h]; rfl
theorem l5 {c:aV} (A:ev N σ c= .bool true):(execOp (ev N σ) ⟨dst,.pick c x y,ty,pos,af,g⟩).run P w= .ok (.value<|ev N σ x) w:=by
 simp [execOp,A,asBool]
theorem oL {c:aV} (A:ev N σ c= .bool false):(execOp (ev N σ) ⟨dst,.pick c x y,ty,pos,af,g⟩).run P w= .ok (.value<|ev N σ y) w:=by
 simp [execOp,A,asBool]
theorem nc {a:bP} (A:ev N σ x= .pointer (some a)):(execOp (ev N σ) ⟨dst,.nilCheck x,ty,pos,af,g⟩).run P w= .ok (.value<|.pointer<|some a) w:=by
 simp [execOp,A]
theorem xt {i:Nat} {vs:Array ag} {v:ag} (C:ev N σ x= .tuple vs) (A:vs[i]? =some v):(execOp (ev N σ) ⟨dst,.extract x i,ty,pos,af,g⟩).run P w= .ok (.value v) w:=by
 simp [execOp,C,Instr.extract,A]
theorem fa {s f n b off :Nat} (A:mN P s f=some n) (I:ev N σ x= .pointer (some ⟨b,off,none⟩)):
 (execOp (ev N σ) ⟨dst,.fieldAddr s x f,ty,pos,af,g⟩).run P w= .ok (.value<|.pointer<|some ⟨b,off+n,none⟩) w:=by
 unfold mN at A;split at A
 · rename_i L hu;split at A
   · rename_i fd E;split at A
     · rename_i i hi;split at A
       · cases A
       · rename_i J;cases A;have C:(⟨b,off,none⟩:bP).add fd.offset=⟨b,off+fd.offset,none⟩:=by unfold tJ; split <;> simp_all
         simp [execOp,Instr.fieldAt,bu hu,E,I,nL,fieldPlace,sizeOf,db hi,J,C]
     · cases A
   · cases A
 · cases A
theorem ld {t b off :Nat} {v:ag} (hu:cY P t=some none) (E:ev N σ x= .pointer (some ⟨b,off,none⟩)) (A:ay w.heap b off =some v):
 (execOp (ev N σ) ⟨dst,.load t x,ty,pos,af,g⟩).run P w= .ok (.value v) w:=by
 have C:w.cell? ⟨b,off,none⟩=some v:=by rw [jx]; exact A
 unfold cY at hu;cases hd:P.underlying t with
 | none=>rw [hd] at hu; cases hu
 | some d=>
   rw [hd] at hu;cases d <;> first
    | (simp only [gG] at hu; obtain ⟨_,_,h⟩:=hu; cases h; done)
    | simp [execOp,D5,E,nL,loadVar,isAgg,bu hd,run_load,C]
theorem fU (b off j:Nat):(⟨b,off,none⟩:bP).add j=⟨b,off+j,none⟩:=by
 unfold tJ; split <;> simp_all
theorem eK {t n b off :Nat} {cs:List ag} (hu:cY P t=some (some n)) (J:ev N σ x= .pointer (some ⟨b,off,none⟩)) (I:cs.length=n)
 (C:∀ j,j < n→ay w.heap b (off+j)=cs[j]?):
 (execOp (ev N σ) ⟨dst,.load t x,ty,pos,af,g⟩).run P w= .ok (.value<|.agg cs.toArray) w:=by
 have E:(loadCells ⟨b,off,none⟩ n).run P w= .ok cs.toArray w:=by
  subst I;refine run_loadCells_list (P:=P) w ⟨b,off,none⟩ cs fun j v A=> ?_;rw [fU,jx];exact (C j (cI.1 A).1).trans A
 unfold cY at hu;cases hd:P.underlying t with
 | none=>rw [hd] at hu; cases hu
 | some d=>
   rw [hd] at hu;cases hi:P.info? t with
   | none=>simp [Ed,hi] at hd
   | some i=>
     rw [hi] at hu;cases d <;> first
      | (cases hu; done)
      | (simp only [fA,bL] at hu; subst hu
         simp [execOp,D5,J,nL,loadVar,isAgg,bu hd,sizeOf,db hi,E])
theorem ia {t n b off len cap:Nat} {k:bw} {i:Int} (he:cS P t=some n) (A:ev N σ x= .slice (some ⟨b,off,none⟩) len cap) (C:ev N σ y= .int k i) (h0:0≤i∧i < len):
 (execOp (ev N σ) ⟨dst,.indexAddr t x y,ty,pos,af,g⟩).run P w= .ok (.value<|.pointer<|some ⟨b,off+i.toNat*n,none⟩) w:=by
 unfold cS at he;cases hd:P.underlying t with
 | none=>rw [hd] at he; cases he
 | some d=>
   rw [hd] at he;cases d <;> first | (cases he; done) | skip
   rename_i e;cases hi:P.info? e with
   | none=>simp [hi] at he
   | some j=>
     simp only [hi,fA,bL] at he;subst he;simp [execOp,D4,A,C,asIntOf,bu hd,h0.1,h0.2,sizeOf,db hi,fU]
def eb (a:Option bP) (cap l n:Nat):Option bP:=if cap=l then a else a.map (·.add (l*n))
theorem xw {t n len cap:Nat} {a:Option bP} {lo hi:Option ag} {l h:Nat} (he:cS P t=some n) (E:ev N σ x= .slice a len cap)
 (hb:(kr true len cap lo hi none).run P w= .ok (l,h,cap) w) (A C:Option aV) (I:A.map (ev N σ)=lo) (J:C.map (ev N σ)=hi):
 (execOp (ev N σ) ⟨dst,.slice t x A C none,ty,pos,af,g⟩).run P w= .ok (.value<|.slice (eb a cap l n) (h - l)<|cap - l) w:=by
 unfold cS at he;cases hd:P.underlying t with
 | none=>rw [hd] at he; cases he
 | some d=>
   rw [hd] at he;cases d <;> first | (cases he; done) | skip
   rename_i e;cases hi':P.info? e with
   | none=>simp [hi'] at he
   | some j=>
     simp only [hi',fA,bL] at he;subst he;simp [execOp,nJ,qX,E,I,J,bu hd,hb,sizeOf,db hi',eb]
theorem CG {t n len cap:Nat} {a:Option bP} {k:bw} {i:Int} (he:cS P t=some n) (C:ev N σ x= .slice a len cap) (E:ev N σ z= .int k i) (h0:0≤i∧i≤cap):
 (execOp (ev N σ) ⟨dst,.slice t x none (some z) none,ty,pos,af,g⟩).run P w= .ok (.value<|.slice a i.toNat cap) w:=by
 have :=xw (dst:=dst) (ty:=ty) (pos :=pos) (af:=af) (g:=g) (w:=w) (lo:=none) (hi:=some<|.int k i) (l:=0) (h:=i.toNat) he C
  (by simp [kr,nK,asIntOf,h0.1,h0.2]) none (some z) rfl (by simp [E])
 rw [this];have A:eb a cap 0 n=a:=by
  unfold eb; split
  · rfl
  · cases a <;> simp [tJ]
 rw [A]; rfl
theorem xx {t n len cap:Nat} {a:Option bP} {k:bw} {i:Int} (he:cS P t=some n) (A:ev N σ x= .slice a len cap) (C:ev N σ y= .int k i) (h0:0≤i∧i≤len):
 (execOp (ev N σ) ⟨dst,.slice t x (some y) none none,ty,pos,af,g⟩).run P w= .ok (.value<|.slice (eb a cap i.toNat n) (len - i.toNat)<|cap - i.toNat) w:=
 xw (lo:=some<|.int k i) (hi:=none) he A
  (by simp [kr,nK,asIntOf,h0.1,h0.2]) (some y) none (by simp [C]) rfl
theorem xu {t n len cap:Nat} {a:Option bP} {k A:bw} {i j:Int} (he:cS P t=some n) (E:ev N σ x= .slice a len cap) (I:ev N σ y= .int k i) (J:ev N σ z= .int A j) (h0:0≤i∧i≤j∧j≤cap):
 (execOp (ev N σ) ⟨dst,.slice t x (some y) (some z) none,ty,pos,af,g⟩).run P w= .ok (.value<|.slice (eb a cap i.toNat n) (j.toNat - i.toNat)<|cap - i.toNat) w:=by
 have h1:0≤j:=ab;have C:i≤(j.toNat:Int):=ab;refine xw (lo:=some<|.int k i) (hi:=some<|.int A j) he E ?_ (some y) (some z) (by simp [I])<|by simp [J]
 simp only [kr,nK,asIntOf,ir,ks,gT,q9,h0.1,h1,h0.2.2,C,and_self,if_true]
theorem gS {n:Int} (h: -9223372036854775808≤n∧n≤9223372036854775807):tN.wrap n=n:=IntWalk.i64_in n h
theorem xQ {n:Int} (h: -2147483648≤n∧n≤2147483647):IntKind.i32.wrap n=n:=IntWalk.i32_in n h
theorem xT {n:Int} (h:0≤n∧n≤255):IntKind.u8.wrap n=n:=IntWalk.u8_in n h
theorem Du {n:Int} (h:0≤n∧n≤4294967295):IntKind.u32.wrap n=n:=IntWalk.u32_in n h
theorem gB {n:Int} (h:0≤n∧n≤18446744073709551615):IntKind.u64.wrap n=n:=IntWalk.u64_in n h
theorem iv {k:bw} {a b:Int} (h:a=b):ba k a=ba k b:=by rw [h]
theorem ad {t E:av} {k:bw} {a b:Int} (A:ev N σ x= .int k a) (C:ev N σ y= .int k b) (hr:k.wrap (a+b)=a+b):
 (execOp (ev N σ) ⟨dst,.binOp .add t x y E,ty,pos,af,g⟩).run P w= .ok (.value<|.int k<|a+b) w:=by
 simp [execOp,A,C,eqGuard,binOp,qZ,hr]
theorem ur {t E:av} {k:bw} {a b:Int} (v:Int) (A:ev N σ x= .int k a) (C:ev N σ y= .int k b) (hr:k.wrap (a+b)=v):
 (execOp (ev N σ) ⟨dst,.binOp .add t x y E,ty,pos,af,g⟩).run P w= .ok (.value<|.int k v) w:=by
 subst hr; simp [execOp,A,C,eqGuard,binOp,qZ]
theorem xf {t E:av} {k:bw} {a b:Int} (v:Int) (A:ev N σ x= .int k a) (C:ev N σ y= .int k b) (hr:k.wrap (a - b)=v):
 (execOp (ev N σ) ⟨dst,.binOp .sub t x y E,ty,pos,af,g⟩).run P w= .ok (.value<|.int k v) w:=by
 subst hr; simp [execOp,A,C,eqGuard,binOp,qZ]
theorem wc {t E:av} {k:bw} {a b:Int} (v:Int) (A:ev N σ x= .int k a) (C:ev N σ y= .int k b) (hr:k.wrap (a*b)=v):
 (execOp (ev N σ) ⟨dst,.binOp .mul t x y E,ty,pos,af,g⟩).run P w= .ok (.value<|.int k v) w:=by
 subst hr; simp [execOp,A,C,eqGuard,binOp,qZ]
theorem xO {a:Int} {n:Nat} (h:a=n) (hn:n≤9223372036854775807):tN.wrap a=(n:Int):=by rw [h]; exact gS ab
theorem bv {p q:Prop} [Decidable p] [Decidable q] (h:p↔q):bp (decide p)=bp (decide q):=by rw [decide_eq_decide.2 h]
theorem sb {t E:av} {k:bw} {a b:Int} (A:ev N σ x= .int k a) (C:ev N σ y= .int k b) (hr:k.wrap (a - b)=a - b):
 (execOp (ev N σ) ⟨dst,.binOp .sub t x y E,ty,pos,af,g⟩).run P w= .ok (.value<|.int k<|a - b) w:=by
 simp [execOp,A,C,eqGuard,binOp,qZ,hr]
theorem qu {t E:av} {k:bw} {a b:Int} (A:ev N σ x= .int k a) (C:ev N σ y= .int k b) (h0:0≤a∧0 < b) (hr:k.wrap (a / b)=a / b):
 (execOp (ev N σ) ⟨dst,.binOp .quo t x y E,ty,pos,af,g⟩).run P w= .ok (.value<|.int k<|a / b) w:=by
 have :a.tdiv b=a / b:=Ek h0.1;simp [execOp,A,C,eqGuard,binOp,yg,show b≠0 from by omega,this,hr]
theorem Jr {t E:av} {k:bw} {a b:Int} (v:Int) (A:ev N σ x= .int k a) (C:ev N σ y= .int k b) (h0:0≤a∧0 < b) (hr:k.wrap (a / b)=v):
 (execOp (ev N σ) ⟨dst,.binOp .quo t x y E,ty,pos,af,g⟩).run P w= .ok (.value<|.int k v) w:=by
 have :a.tdiv b=a / b:=Ek h0.1;subst hr; simp [execOp,A,C,eqGuard,binOp,yg,show b≠0 from by omega,this]
theorem rm {t E:av} {k:bw} {a b:Int} (A:ev N σ x= .int k a) (C:ev N σ y= .int k b) (h0:0≤a∧0 < b):
 (execOp (ev N σ) ⟨dst,.binOp .rem t x y E,ty,pos,af,g⟩).run P w= .ok (.value<|.int k<|a % b) w:=by
 have :a.tmod b=a % b:=Int.tmod_eq_emod_of_nonneg h0.1;simp [execOp,A,C,eqGuard,binOp,yg,show b≠0 from by omega,this]
theorem lt {t E:av} {k:bw} {a b:Int} (A:ev N σ x= .int k a) (C:ev N σ y= .int k b):
 (execOp (ev N σ) ⟨dst,.binOp .lss t x y E,ty,pos,af,g⟩).run P w= .ok (.value<|.bool<|decide (a < b)) w:=by
 simp [execOp,A,C,eqGuard,binOp,pn]
theorem le {t E:av} {k:bw} {a b:Int} (A:ev N σ x= .int k a) (C:ev N σ y= .int k b):
 (execOp (ev N σ) ⟨dst,.binOp .leq t x y E,ty,pos,af,g⟩).run P w= .ok (.value<|.bool<|decide (a≤b)) w:=by
 simp [execOp,A,C,eqGuard,binOp,pn]
theorem gt {t E:av} {k:bw} {a b:Int} (A:ev N σ x= .int k a) (C:ev N σ y= .int k b):
 (execOp (ev N σ) ⟨dst,.binOp .gtr t x y E,ty,pos,af,g⟩).run P w= .ok (.value<|.bool<|decide (b < a)) w:=by
 simp [execOp,A,C,eqGuard,binOp,pn]
theorem ge {t E:av} {k:bw} {a b:Int} (A:ev N σ x= .int k a) (C:ev N σ y= .int k b):
 (execOp (ev N σ) ⟨dst,.binOp .geq t x y E,ty,pos,af,g⟩).run P w= .ok (.value<|.bool<|decide (b≤a)) w:=by
 simp [execOp,A,C,eqGuard,binOp,pn]
theorem Ai {t E:av} {k:bw} {a b:Int} (A:ev N σ x= .int k a) (C:ev N σ y= .int k b):
 (execOp (ev N σ) ⟨dst,.binOp .eql t x y E,ty,pos,af,g⟩).run P w= .ok (.value<|.bool<|decide (a=b)) w:=by
 simp [execOp,A,C,eqGuard,binOp,pn];rw [ph]; simp
theorem By {t E:av} {k:bw} {a b:Int} (A:ev N σ x= .int k a) (C:ev N σ y= .int k b):
 (execOp (ev N σ) ⟨dst,.binOp .neq t x y E,ty,pos,af,g⟩).run P w= .ok (.value<|.bool<|decide (a≠b)) w:=by
 simp [execOp,A,C,eqGuard,binOp,pn];rw [ph]; simp
theorem no {t:av} {b:Bool} (A:ev N σ x= .bool b):(execOp (ev N σ) ⟨dst,.unOp .not t x,ty,pos,af,g⟩).run P w= .ok (.value<|.bool<|!b) w:=by
 simp [execOp,A,Op.unary]
theorem yW {t I:av} {k:bw} {a b v:Int} (C:ev N σ x= .int k a) (E:ev N σ y= .int k b) (A:k.wrap (il k.bits a ||| il k.bits b).toNat=v):
 (execOp (ev N σ) ⟨dst,.binOp .or t x y I,ty,pos,af,g⟩).run P w= .ok (.value<|.int k v) w:=by
 subst A; simp [execOp,C,E,eqGuard,binOp,Op.intBits]
theorem cR {t I:av} {k:bw} {a b v:Int} (C:ev N σ x= .int k a) (E:ev N σ y= .int k b) (A:k.wrap (il k.bits a &&& il k.bits b).toNat=v):
 (execOp (ev N σ) ⟨dst,.binOp .and t x y I,ty,pos,af,g⟩).run P w= .ok (.value<|.int k v) w:=by
 subst A; simp [execOp,C,E,eqGuard,binOp,Op.intBits]
theorem shr {t I:av} {k J:bw} {a b v:Int} (C:ev N σ x= .int k a) (E:ev N σ y= .int J b) (h0:0≤b) (A:a.fdiv (2 ^ min b.toNat k.bits)=v):
 (execOp (ev N σ) ⟨dst,.binOp .shr t x y I,ty,pos,af,g⟩).run P w= .ok (.value<|.int k v) w:=by
 have :¬b < 0:=ab;simp [execOp,C,E,eqGuard,binOp,Op.shift,this,A]
theorem shl {t I:av} {k J:bw} {a b v:Int} (C:ev N σ x= .int k a) (E:ev N σ y= .int J b) (h0:0≤b) (A:k.wrap (a*2 ^ min b.toNat k.bits)=v):
 (execOp (ev N σ) ⟨dst,.binOp .shl t x y I,ty,pos,af,g⟩).run P w= .ok (.value<|.int k v) w:=by
 have :¬b < 0:=ab;simp [execOp,C,E,eqGuard,binOp,Op.shift,this,A]
theorem Le (m:Nat) (h:m < 256):((eS m).toNat:Int)=(m:Int):=by
 simp [Nat.mod_eq_of_lt h]
theorem cv {t u:av} {k A:bw} {n:Int} (hu:P.underlying u=some (.int A)) (E:(P.underlying t).isSome=true) (I:ev N σ x= .int k n):
 (execOp (ev N σ) ⟨dst,.convert t u x,ty,pos,af,g⟩).run P w= .ok (.value<|.int A<|A.wrap n) w:=by
 obtain ⟨d,C⟩:=mw.1 E;cases d <;> simp [execOp,I,convert,bu hu,bu C,Conv.intToInt]
theorem Gt {t u:av} {k A:bw} {n v:Int} (hu:P.underlying u=some (.int A)) (C:(P.underlying t).isSome=true) (E:ev N σ x= .int k n) (hr:A.wrap n=v):
 (execOp (ev N σ) ⟨dst,.convert t u x,ty,pos,af,g⟩).run P w= .ok (.value<|.int A v) w:=by
 rw [cv hu C E,hr]
theorem fC {t u:av} {k A:bw} {n:Int} (hu:P.underlying u=some (.int A)) (C:(P.underlying t).isSome=true) (E:ev N σ x= .int k n) (hr:A.wrap n=n):
 (execOp (ev N σ) ⟨dst,.convert t u x,ty,pos,af,g⟩).run P w= .ok (.value<|.int A n) w:=by
 rw [cv hu C E,hr]
theorem u7 (d:Nat) {t e:av} {a:Option bP} (hu:P.underlying t=some (.pointer e)):(im (d+1) t (.pointer a)<|.pointer none).run P w= .ok a.isNone w:=by
 cases a <;> simp [im,bu hu]
theorem G9 {t e:av} {a:Option bP} (hu:P.underlying t=some (.pointer e)):(mi t (.pointer a)<|.pointer none).run P w= .ok a.isNone w:=u7 9999 hu
theorem jB {t E e:av} {a:Option bP} (hu:P.underlying t=some (.pointer e)) (A:ev N σ x= .pointer a) (C:ev N σ y= .pointer none):
 (execOp (ev N σ) ⟨dst,.binOp .eql t x y E,ty,pos,af,g⟩).run P w= .ok (.value<|.bool a.isNone) w:=by
 have h:(binOp .eql t (.pointer a)<|.pointer none).run P w= .ok (.bool a.isNone) w:=by
  simp only [binOp]; simp [G9 hu]
 simp [execOp,A,C,eqGuard,h]
theorem Ag (d:Nat) {t:av} {a b:Bool} (hu:P.underlying t=some .bool):(im (d+1) t (.bool a)<|.bool b).run P w= .ok (a==b) w:=by
 simp [im,bu hu]
theorem G8 {t:av} {a b:Bool} (hu:P.underlying t=some .bool):(mi t (.bool a)<|.bool b).run P w= .ok (a==b) w:=Ag 9999 hu
theorem Ah {t E:av} {a b:Bool} (hu:P.underlying t=some .bool) (A:ev N σ x= .bool a) (C:ev N σ y= .bool b):
 (execOp (ev N σ) ⟨dst,.binOp .eql t x y E,ty,pos,af,g⟩).run P w= .ok (.value<|.bool<|decide (a=b)) w:=by
 have h:(binOp .eql t (.bool a)<|.bool b).run P w= .ok (.bool<|decide (a=b)) w:=by
  simp only [binOp]; simp [G8 hu]; cases a <;> cases b <;> rfl
 simp [execOp,A,C,eqGuard,h]
def str (l:List UInt8):ag:= .string ⟨⟨l⟩⟩
theorem Bf {t:av} {l:List UInt8} {at_:Array av} (A:P.underlying t=some .string) (ha:at_= #[t]) (C:ev N σ x=str l):
 (execOp (ev N σ) ⟨dst,.call ⟨.builtin .len,#[x],at_⟩,ty,pos,af,g⟩).run P w= .ok (.value<|.int .i64 l.length) w:=by
 subst ha;simp [execOp,resolve,invoke,builtin,x9,bu A,C,str,goInt];rfl
theorem vT {t e:av} {a:Option bP} {n c:Nat} {at_:Array av} (A:P.underlying t=some (.slice e)) (ha:at_= #[t]) (C:ev N σ x= .slice a n c):
 (execOp (ev N σ) ⟨dst,.call ⟨.builtin .len,#[x],at_⟩,ty,pos,af,g⟩).run P w= .ok (.value<|.int .i64 n) w:=by
 subst ha;simp [execOp,resolve,invoke,builtin,x9,bu A,C,goInt]
theorem IC {t k e r:av} {es:Array MapEntry} {c:Nat} {at_:Array av} (A:P.underlying t=some (.map k e)) (ha:at_= #[t]) (C:ev N σ x= .map (some r)) (hr:w.heap[r]? =some (.map es c)):
 (execOp (ev N σ) ⟨dst,.call ⟨.builtin .len,#[x],at_⟩,ty,pos,af,g⟩).run P w= .ok (.value<|.int .i64 es.size) w:=by
 subst ha;simp [execOp,resolve,invoke,builtin,x9,bu A,C,goInt,getObj,ll,hr]
theorem mn {k:bw} {a b:Int} {at_:Array av} (A:ev N σ x= .int k a) (C:ev N σ y= .int k b):
 (execOp (ev N σ) ⟨dst,.call ⟨.builtin .min,#[x,y],at_⟩,ty,pos,af,g⟩).run P w= .ok (.value<|.int k<|min a b) w:=by
 have :(if b < a then b else a)=min a b:=ab;simp [execOp,resolve,invoke,builtin,Builtin.min_,Builtin.min2,A,C,this]
theorem mx {k:bw} {a b:Int} {at_:Array av} (A:ev N σ x= .int k a) (C:ev N σ y= .int k b):
 (execOp (ev N σ) ⟨dst,.call ⟨.builtin .max,#[x,y],at_⟩,ty,pos,af,g⟩).run P w= .ok (.value<|.int k<|max a b) w:=by
 have :(if b > a then b else a)=max a b:=ab;simp [execOp,resolve,invoke,builtin,Builtin.max_,Builtin.max2,A,C,this]
theorem HZ {t:av} {l:List UInt8} {k:bw} {i:Int} (I:P.underlying t=some .string) (J:ev N σ x=str l) (L:ev N σ y= .int k i) (h0:0≤i∧i < l.length):
 (execOp (ev N σ) ⟨dst,.index t x y,ty,pos,af,g⟩).run P w= .ok (.value<|.int .u8 ((l.getD i.toNat 0).toNat:Int)) w:=by
 have E:(⟨⟨l⟩⟩:ByteArray)[i.toNat]? =some (l.getD i.toNat 0):=by
  have A:i.toNat < l.length:=ab;have C:i.toNat < (⟨⟨l⟩⟩:ByteArray).size:=A;rw [getElem?_pos (⟨⟨l⟩⟩:ByteArray) i.toNat C];simp [bY,A,ByteArray.getElem_eq_getElem_data]
 simp [execOp,Instr.index,J,L,asIntOf,str,bu I,h0.1,E]
theorem xr (l:List UInt8) (a b:Nat):Value.string ((⟨⟨l⟩⟩:ByteArray).extract a b)=str ((l.take b).drop a):=by
 unfold str;congr 1;apply ByteArray.ext;simp [ByteArray.data_extract,List.extract_eq_take_drop,List.drop_take]
theorem AR (n:Nat) {t:av} {l:List UInt8} {k:bw} (A:P.underlying t=some .string) (C:ev N σ x=str l) (E:ev N σ y= .int k (n:Int)) (h:n < l.length):
 (execOp (ev N σ) ⟨dst,.index t x y,ty,pos,af,g⟩).run P w= .ok (.value<|.int .u8 ((l.getD n 0).toNat:Int)) w:=HZ A C E ⟨ab,ab⟩
theorem fE {n:Nat} {t:av} {l:List UInt8} {k:bw} (A:P.underlying t=some .string) (C:ev N σ x=str l) (E:ev N σ y= .int k (n:Int)) (h:n < l.length):
 (execOp (ev N σ) ⟨dst,.index t x y,ty,pos,af,g⟩).run P w= .ok (.value<|.int .u8 ((l.getD n 0).toNat:Int)) w:=AR n A C E h
theorem l8 {t:av} {l:List UInt8} {k L:bw} {a b:Int} (C:P.underlying t=some .string) (E:ev N σ x=str l) (I:ev N σ y= .int k a) (J:ev N σ z= .int L b) (h0:0≤a∧a≤b∧b≤l.length):
 (execOp (ev N σ) ⟨dst,.slice t x (some y) (some z) none,ty,pos,af,g⟩).run P w= .ok (.value<|str<|(l.take b.toNat).drop a.toNat) w:=by
 have h1:b≤((⟨⟨l⟩⟩:ByteArray).size:Nat):=h0.2.2;have A:0≤b:=ab;have M:a≤(b.toNat:Nat):=ab;simp [execOp,nJ,qX,kr,nK,E,I,J,asIntOf,str,bu C,h0.1,h1,A];rw [if_pos ab];exact congrArg (fun v=>q8 (qY v) w)<|xr l a.toNat b.toNat
theorem xy {t:av} {l:List UInt8} {I:bw} {b:Int} (A:P.underlying t=some .string) (C:ev N σ x=str l) (E:ev N σ z= .int I b) (h0:0≤b∧b≤l.length):
 (execOp (ev N σ) ⟨dst,.slice t x none (some z) none,ty,pos,af,g⟩).run P w= .ok (.value<|str<|l.take b.toNat) w:=by
 have h1:b≤((⟨⟨l⟩⟩:ByteArray).size:Nat):=h0.2;have :=xr l 0 b.toNat;simp only [List.drop_zero] at this;simp [execOp,nJ,qX,kr,nK,C,E,asIntOf,str,bu A,h0.1,h1];exact Ef this
theorem Ks {t:av} {l:List UInt8} {k:bw} {a:Int} (A:P.underlying t=some .string) (C:ev N σ x=str l) (E:ev N σ y= .int k a) (h0:0≤a∧a≤l.length):
 (execOp (ev N σ) ⟨dst,.slice t x (some y) none none,ty,pos,af,g⟩).run P w= .ok (.value<|str<|l.drop a.toNat) w:=by
 have h1:a≤((⟨⟨l⟩⟩:ByteArray).size:Nat):=h0.2;have :=xr l a.toNat l.length;simp only [List.take_length] at this;simp [execOp,nJ,qX,kr,nK,C,E,asIntOf,str,bu A,h0.1,h1];exact Ef this
theorem o5 (l:List UInt8):(⟨⟨l⟩⟩:ByteArray).toList=l:=Lib.toList_data ⟨⟨l⟩⟩
theorem cc {t I:av} {l m:List UInt8} (C:ev N σ x=str l) (E:ev N σ y=str m) (h:l.length+m.length≤9223372036854775807):
 (execOp (ev N σ) ⟨dst,.binOp .add t x y I,ty,pos,af,g⟩).run P w= .ok (.value<|str<|l++m) w:=by
 have h1:¬(((⟨⟨l⟩⟩:ByteArray).size+(⟨⟨m⟩⟩:ByteArray).size:Nat):Int) > tN.max:=by
  have :tN.max=9223372036854775807:=aD;rw [this];show ¬((l.length+m.length:Nat):Int) > _;omega
 have A:(⟨⟨l⟩⟩:ByteArray)++(⟨⟨m⟩⟩:ByteArray)=⟨⟨l++m⟩⟩:=by
  apply ByteArray.ext; simp
 simp only [execOp,C,E,str,eqGuard,binOp,nN];rw [if_neg h1,A];rfl
theorem Aj {t E:av} {l m:List UInt8} (A:ev N σ x=str l) (C:ev N σ y=str m):
 (execOp (ev N σ) ⟨dst,.binOp .eql t x y E,ty,pos,af,g⟩).run P w= .ok (.value<|.bool<|decide (l=m)) w:=by
 simp only [execOp,A,C,str,eqGuard,binOp,nN,o5];show q8 (qY<|.bool<|l==m) w=_;rw [show (l==m)=decide (l=m) from by rw [ph]; simp]
theorem Bz {t E:av} {l m:List UInt8} (A:ev N σ x=str l) (C:ev N σ y=str m):
 (execOp (ev N σ) ⟨dst,.binOp .neq t x y E,ty,pos,af,g⟩).run P w= .ok (.value<|.bool<|decide (l≠m)) w:=by
 simp only [execOp,A,C,str,eqGuard,binOp,nN,o5];show q8 (qY<|.bool<|!(l==m)) w=_;rw [show (!(l==m))=decide (l≠m) from by rw [ph]; simp]
def m7 (a b:List UInt8):Bool:=yf a b
theorem Kr (x y:UInt8) (a b:List UInt8):m7 (x::a) (y::b)=(decide (x < y) || (x==y && m7 a b)):=rfl
theorem IE {t E:av} {l m:List UInt8} (A:ev N σ x=str l) (C:ev N σ y=str m):
 (execOp (ev N σ) ⟨dst,.binOp .lss t x y E,ty,pos,af,g⟩).run P w= .ok (.value<|.bool<|m7 l m) w:=by
 simp only [execOp,A,C,str,eqGuard,binOp,nN,o5];rfl
theorem Iv {t E:av} {l m:List UInt8} (A:ev N σ x=str l) (C:ev N σ y=str m):
 (execOp (ev N σ) ⟨dst,.binOp .leq t x y E,ty,pos,af,g⟩).run P w= .ok (.value<|.bool (m7 l m || decide (l=m))) w:=by
 simp only [execOp,A,C,str,eqGuard,binOp,nN,o5];show q8 (qY<|.bool (yf l m || l==m)) w=_;rw [show (l==m)=decide (l=m) from by rw [ph]; simp];rfl
theorem HH {t E:av} {l m:List UInt8} (A:ev N σ x=str l) (C:ev N σ y=str m):
 (execOp (ev N σ) ⟨dst,.binOp .gtr t x y E,ty,pos,af,g⟩).run P w= .ok (.value<|.bool<|!(m7 l m || decide (l=m))) w:=by
 simp only [execOp,A,C,str,eqGuard,binOp,nN,o5];show q8 (qY<|.bool<|!(yf l m || l==m)) w=_;rw [show (l==m)=decide (l=m) from by rw [ph]; simp];rfl
theorem HC {t E:av} {l m:List UInt8} (A:ev N σ x=str l) (C:ev N σ y=str m):
 (execOp (ev N σ) ⟨dst,.binOp .geq t x y E,ty,pos,af,g⟩).run P w= .ok (.value<|.bool<|!m7 l m) w:=by
 simp only [execOp,A,C,str,eqGuard,binOp,nN,o5];rfl
theorem mf {fn:Fn} {first captured:Array aV} :(execOp (ev N σ) ⟨dst,.makeFunc fn first captured,ty,pos,af,g⟩).run P w= .ok (.value<|.func fn (first.map<|ev N σ)<|captured.map<|ev N σ) w:=rfl
theorem Bv {fn:Fn} {first captured:Array aV} :(execOp (ev N σ) ⟨dst,.makeFunc fn first captured,ty,pos,af,g⟩).run P w= .ok (.value<|.func fn (first.toList.map<|ev N σ).toArray (captured.toList.map<|ev N σ).toArray) w:=by
 rw [mf,← iP,← iP]
end
end Go.Hb
namespace Go.Hb
def aB (h:Array Obj) (b:Nat) (L:List ag):Prop := ∃ e,h[b]? =some (.cells L.toArray e (0,0))
theorem aB.ay {h:Array Obj} {b:Nat} {L:List ag} (hb:aB h b L) (j:Nat):Hb.ay h b j=L[j]? :=by
 obtain ⟨e,hb⟩:=hb;rw [bg hb]; simp
theorem aB.aJ {h:Array Obj} {b:Nat} {L:List ag} (hb:aB h b L) (j:Nat):Hb.ay h b (0 +j)=L[j]? :=by
 rw [cx,hb.ay]
theorem Md.B {F:Nat→Prop} {w w':ah} (h:Md F w w') {b:Nat} {L:List ag} (hb:aB w.heap b L) (A:¬F b):aB w'.heap b L:=
 let ⟨e,hb⟩:=hb; ⟨e,h.ak hb A⟩
theorem Wk.B {w w':ah} (h:Wk w w') {b:Nat} {L:List ag} (hb:aB w.heap b L):aB w'.heap b L:=Md.B h hb id
theorem aB.lt {h:Array Obj} {b:Nat} {L:List ag} (hb:aB h b L):b < h.size:=by grind [aB]
def bk (a:Option bP):Nat:=match a with | some ad=>ad.block | none=>0
def fo (a:Option bP):Nat:=match a with | some ad=>ad.off | none=>0
structure a9 (h:Array Obj) (a:Option bP) (xs:List ag):Prop where
 ok:xs≠[]→a=some ⟨bk a,fo a,none⟩
 ay:∀ j u,xs[j]? =some u→Hb.ay h (bk a) (fo a+j)=some u
theorem a9.nil (h:Array Obj) (a:Option bP):a9 h a []:=⟨fun h=>absurd rfl h,fun _ _ hu=>by simp at hu⟩
theorem a9.md {F:Nat→Prop} {w w':ah} {a:Option bP} {xs:List ag} (A:a9 w.heap a xs) (h:Md F w w') (C:xs≠[]→¬F (bk a)):a9 w'.heap a xs:=
 ⟨A.ok,fun j u hu=>h.ay (A.ay j u hu)<|C<|by rintro rfl; simp at hu⟩
theorem a9.wk {w w':ah} {a:Option bP} {xs:List ag} (A:a9 w.heap a xs) (h:Wk w w'):a9 w'.heap a xs:=A.md h fun _ x=>x
theorem a9.gh {h:Array Obj} {b:Nat} {L:List ag} (hb:aB h b L):a9 h (some ⟨b,0,none⟩) L:=
 ⟨fun _=>rfl,fun j u hu=>by show Hb.ay h b (0 +j)=_; rw [cx,hb.ay]; exact hu⟩
theorem a9.uy {h:Array Obj} {a:Option bP} {xs:List ag} (A:a9 h a xs) {i:Nat} {u:ag} (hu:xs[i]? =some u):Hb.ay h (bk a) (fo a+i*1)=some u:=by
 rw [Nat.mul_one]; exact A.ay i u hu
theorem Bx {α:Type} {f:α→ag} {l:List α} (h:0 < l.length):l.map f≠[]:=by
 cases l with
 | nil=>simp at h
 | cons x l=>simp
def dG (P:au) (t e size bytes:Nat):Bool:=
 match P.underlying t with
 | some (.slice e')=>e'==e && match P.info? e with
   | some i=>i.size==size && i.bytes==bytes && aE 0 size && match i.zero with
     | some z=>z.cells.size==size
     | none=>false
   | none=>false
 | _=>false
theorem oY {P:au} {t e size bytes:Nat} (h:dG P t e size bytes=true):
 P.underlying t=some (.slice e)∧∃ i z,P.info? e=some i∧i.zero=some z∧i.size=size∧i.bytes=bytes∧z.cells.size=size∧0 < size:=by
 unfold dG at h;split at h
 · rename_i e' hu;simp only [aZ,beq_iff_eq] at h;obtain ⟨rfl,h⟩:=h;split at h
   · rename_i i hi;simp only [aZ,beq_iff_eq] at h;obtain ⟨⟨⟨h1,A⟩,h3⟩,h4⟩:=h;split at h4
     · rename_i z C;exact ⟨hu,i,z,hi,C,h1,A,by simpa using h4,mr (mu 0)<|bN h3⟩
     · cases h4
   · cases h
 · cases h
def cz (P:au) (t:av):Option Nat:=(P.info? t).map (·.size)
def zeroOf (P:au) (t:av):Option (Option<|List ag):=(P.info? t).map fun i=>i.zero.map fun z=>z.cells.toList
def gr (P:au) (f:dR):Prop := ∀ args w,(callFunc f args).run P w= .ok (.enter f args) w
theorem uF {P:au} {f:dR} {fn:fM} (C:P.funcs[f]? =some fn) (hn:(fn.name== "runtime.NumGoroutine")=false) (hb:fn.body.isNone=false):gr P f:=by
 intro args w;have h1:¬((fn.name== "runtime.NumGoroutine")=true):=by rw [hn]; simp
 have A:¬(fn.body.isNone=true):=by rw [hb]; simp
 simp only [callFunc,ir,run_program,gT,C];rw [if_neg h1,if_neg A];rfl
section
variable {P:au} {N:Fm} {σ:Nat→ag} {w:ah} {dst:Option Nat} {ty:av} {pos :String} {af:Array bR} {g:Option (Nat×Bool)} {x y z:aV} {K:(Nat→ag)→ah→Prop}
theorem Dr {o:aA} {f:dR} {L:List ag} {R:ag→ah→Prop} (C:(execOp (ev N σ) o).run P w= .ok (.enter f L.toArray) w) (hr:bq P f L.toArray w R)
 (k:∀ v w',R v w'→K (dn σ o.dst v) w'):bV P N o σ w K:=by
 unfold bV gD;rw [dj,C];refine kp hr fun e w' ⟨v,he,A⟩=> ?_;subst he;exact ⟨_,eG ..,k v w' A⟩
theorem cl {f:dR} {args:Array aV} {A:Array av} {L:List ag} {R:ag→ah→Prop} (E:gr P f) (hr:bq P f L.toArray w R) (C:args.toList.map (ev N σ)=L)
 (k:∀ v w',R v w'→K (dn σ dst v) w'):bV P N ⟨dst,.call ⟨.value (.func f),args,A⟩,ty,pos,af,g⟩ σ w K:=by
 refine Dr (f:=f) ?_ hr k;have :args.map (ev N σ)=L.toArray:=by rw [← C,← iP]
 simp [execOp,resolve,ev,mh,invoke,this,E L.toArray w]
theorem ze {f:dR} {fo:aV} {first cap:Array ag} {args:Array aV} {A:Array av} {L:List ag} {R:ag→ah→Prop} (E:gr P f) (I:ev N σ fo= .func (.func f) first cap)
 (hr:bq P f L.toArray w R) (C:first.toList++args.toList.map (ev N σ)++cap.toList=L)
 (k:∀ v w',R v w'→K (dn σ dst v) w'):bV P N ⟨dst,.call ⟨.value fo,args,A⟩,ty,pos,af,g⟩ σ w K:=by
 refine Dr (f:=f) ?_ hr k;have :first++args.map (ev N σ)++cap=L.toArray:=by rw [← C,← iP,← DH,← DH]
 simp [execOp,resolve,I,mh,invoke,this,E L.toArray w]
theorem k9 {o:aA} {ob:Obj} {v:Nat→ag} (A:(execOp (ev N σ) o).run P w= .ok (.value<|v w.heap.size) {w with heap:=w.heap.push ob})
 (k:∀ b w',b=w.heap.size→Nw w w'→w'.heap[b]? =some ob→K (dn σ o.dst<|v b) w'):bV P N o σ w K:=by grind [ik,BC]
theorem al {e:av} {C:List ag} (A:zeroOf P e=some (some C)) (k:∀ b w',b=w.heap.size→Nw w w'→aB w'.heap b C→K (dn σ dst<|.pointer<|some ⟨b,0,none⟩) w'):
 bV P N ⟨dst,.alloc e,ty,pos,af,g⟩ σ w K:=by
 refine k9 (v:=fun b=> .pointer<|some ⟨b,0,none⟩) (ob:= .cells C.toArray e (0,0)) ?_ fun b w' h1 E I=>k b w' h1 E ⟨e,I⟩;unfold zeroOf at A;simp only [gG] at A;obtain ⟨i,hi,zv,J,rfl⟩:=A;simp [execOp,tM,zeroValue,db hi,J,newVar,newRow]
theorem dB {e:av} {C:List ag} (A:zeroOf P e=some (some C)) (k:∀ b w',b=w.heap.size→Nw w w'→w'.heap[b]? =some (.cells C.toArray e (0,0))→K (dn σ dst<|.pointer<|some ⟨b,0,none⟩) w'):
 bV P N ⟨dst,.alloc e,ty,pos,af,g⟩ σ w K:=by
 refine k9 (v:=fun b=> .pointer<|some ⟨b,0,none⟩) (ob:= .cells C.toArray e (0,0)) ?_ k;unfold zeroOf at A;simp only [gG] at A;obtain ⟨i,hi,zv,E,rfl⟩:=A;simp [execOp,tM,zeroValue,db hi,E,newVar,newRow]
theorem bx {e:av} {v:ag} {L:List ag} (I:ev N σ x=v) (E:v.cells.toList=L) (k:∀ b w',b=w.heap.size→Nw w w'→aB w'.heap b L→K (dn σ dst<|.pointer<|some ⟨b,0,none⟩) w'):
 bV P N ⟨dst,.box e x,ty,pos,af,g⟩ σ w K:=by
 subst E;refine k9 (v:=fun b=> .pointer<|some ⟨b,0,none⟩) (ob:= .cells v.cells e (0,0)) ?_ fun b w' h1 A C=>k b w' h1 A ⟨e,C⟩;simp [execOp,yb,I,newVar,newRow]
theorem rI {t e:av} {size bytes:Nat} (I:dG P t e size bytes=true)
 (k:∀ b w',b=w.heap.size→Nw w w'→(∀ B,B≤b→w'.ownsRow B e size (.slice (some ⟨b,0,none⟩) 0 0) 0 [])→K (dn σ dst<|.slice (some ⟨b,0,none⟩) 0 0) w'):bV P N ⟨dst,.buildSlice t 0 #[],ty,pos,af,g⟩ σ w K:=by
 refine k9 (v:=fun b=> .slice (some ⟨b,0,none⟩) 0 0) (ob:= .cells #[] e (0,0)) ?_ fun b w' h1 A C=>k b w' h1 A fun B E=>⟨by simp,.inr ⟨b,0,#[],U,E,C,aP _,by simp [maxLen],by simp,by simp⟩⟩
 obtain ⟨hu,i,zv,hi,L,h1,A,C,J⟩:=oY I;simp [execOp,qV,bu hu,sizeOf,db hi,iQ,newRow];congr 2;exact Array.eq_empty_of_size_eq_zero<|by simp
theorem FA {t e:av} {size bytes:Nat} {v:ag} {L:List ag} (U:dG P t e size bytes=true) (O:bc size 1000=true) (Z:ev N σ x=v) (V:v.cells.size=size)
 (I:v.cells.toList=L) (k:∀ b w',b=w.heap.size→Nw w w'→w'.heap[b]? =some (.cells L.toArray e (0,0))→K (dn σ dst<|.slice (some ⟨b,0,none⟩) 1 1) w'):bV P N ⟨dst,.buildSlice t 1 #[(0,x)],ty,pos,af,g⟩ σ w K:=by
 subst I;refine k9 (v:=fun b=> .slice (some ⟨b,0,none⟩) 1 1) (ob:= .cells v.cells e (0,0)) ?_ fun b w' h1 A C=>k b w' h1 A<|by simpa using C
 obtain ⟨hu,i,zv,hi,aa,h1,A,C,ac⟩:=oY U;have ad:size≤1000:=by simpa using O
 have J:iQ (fun i=>some (i*size,size)) ((lj size).map (zv.cells[· % zv.cells.size]!)) [(0,v)]=some v.cells:=by
  have E:((lj size).map (zv.cells[· % zv.cells.size]!)).size=size:=by simp
  generalize (lj size).map (zv.cells[· % zv.cells.size]!)=cs at E;simp only [iQ,V];rw [if_neg (by rw [E]; simp)];congr 1;have key:∀ (l:List ag) (m:Nat) (cs:Array ag),m+l.length≤cs.size→∀ j,((l.zipIdx m).foldl (fun (cs:Array ag) (c,j)=>cs.setIfInBounds (0 *size+j) c) cs)[j]? =if j < m then cs[j]? else if j < m+l.length then l[j - m]? else cs[j]? :=by
   intro l
   induction l with
   | nil=>intro m cs hm j; simp; intro h1 A; omega
   | cons c l ih=>
     intro m cs hm j;simp only [EJ,iR,dL] at hm ⊢;rw [ih (m+1) _ (by simp; omega)];simp only [ug,cx,qS];by_cases h1:j < m
     · rw [if_pos ab,if_pos h1,if_neg ab]
     · rw [if_neg h1];by_cases A:j=m
       · subst A;rw [if_pos ab,if_pos rfl,if_pos ab,if_pos ab];simp
       · rw [if_neg ab];by_cases C:j < m+1 +l.length
         · rw [if_pos C,if_pos ab];obtain ⟨q,M⟩:∃ q,j - m=q+1:=⟨j - m - 1,ab⟩
           rw [M,iS,show j - (m+1)=q from by omega]
         · rw [if_neg C,if_neg ab,if_neg ab]
  apply DB;intro j;have :=key v.cells.toList 0 cs (by simp; omega) j;rw [show (v.cells.zipIdx.foldl (fun (cs:Array ag) (c,j)=>cs.setIfInBounds (0 *size+j) c) cs)=((v.cells.toList.zipIdx 0).foldl (fun (cs:Array ag) (c,j)=>cs.setIfInBounds (0 *size+j) c) cs) from by
   rw [← Array.foldl_toList]; simp [Array.toList_zipIdx]]
  rw [this];simp only [Nat.not_lt_zero,if_false,cx,Nat.sub_zero,lh,Array.getElem?_toList];split
  · rfl
  · rw [tF ab,tF ab]
 simp only [execOp,qV,ir,bu hu,gT,sizeOf,db hi,ks,h1,Nat.one_mul,q9,zeroValue,aa,List.map_toArray,ei,List.map_nil,Z,J];rw [if_neg (by rw [show (2:Nat) ^ 24=16777216 from rfl]; omega),if_neg ab];simp [newRow]
theorem yX {t e:av} {size bytes:Nat} {v:ag} {L:List ag} (J:dG P t e size bytes=true) (I:bc size 1000=true) (O:ev N σ x=v) (M:v.cells.size=size)
 (E:v.cells.toList=L) (k:∀ b w',b=w.heap.size→Nw w w'→aB w'.heap b L→K (dn σ dst<|.slice (some ⟨b,0,none⟩) 1 1) w'):bV P N ⟨dst,.buildSlice t 1 #[(0,x)],ty,pos,af,g⟩ σ w K:=
 FA J I O M E fun b w' h1 A C=>k b w' h1 A ⟨_,C⟩
theorem mY {v:ag} (h:v.oneCell'=true):v.cells= #[v]:=by cases v <;> first | rfl | (cases h; done)
theorem Aq {loc:Nat→Option (Nat×Nat)} (C:∀ i,loc i=some (i*1,1)):∀ (rest pre A:List ag),A.length=rest.length→rest.all eQ=true→
 iQ loc (pre++A).toArray ((rest.zipIdx pre.length).map fun q=>(q.2,q.1))=some (pre++rest).toArray
 | [],pre,A,hl,_=>by
   rw [jV hl]; rfl
 | v::r,pre,A,hl,h1=>by
   cases A with
   | nil=>simp at hl
   | cons z A=>
     rw [nQ,aZ] at h1;have E:=mY h1.1;have ih:=Aq C r (pre++ [v]) A (by simpa using hl) h1.2;simp only [EJ,ei,iQ,C,E];rw [if_neg (by simp)];simp only [cC,px,List.append_assoc,List.singleton_append] at ih;rw [← ih];simp
theorem FB {t e bytes n:Nat} {ps:Array (Nat×aV)} {L:List ag} (I:dG P t e 1 bytes=true) (hp:ps.toList.map (fun p=>(p.1,ev N σ p.2))=(L.zipIdx 0).map fun q=>(q.2,q.1)) (h1:L.all eQ=true) (hn:L.length=n) (A:(bc n 1000 && aE 0 n)=true)
 (k:∀ b w',b=w.heap.size→Nw w w'→w'.heap[b]? =some (.cells L.toArray e (0,0))→K (dn σ dst<|.slice (some ⟨b,0,none⟩) n n) w'):bV P N ⟨dst,.buildSlice t n ps,ty,pos,af,g⟩ σ w K:=by
 subst hn;refine k9 (v:=fun b=> .slice (some ⟨b,0,none⟩) L.length L.length) (ob:= .cells L.toArray e (0,0)) ?_ k;obtain ⟨hu,i,zv,hi,J,C,O,U,V⟩:=oY I;simp only [aZ] at A;have Z:L.length≤1000:=by simpa using A.1
 have aa:0 < L.length:=by have :=bN A.2; omega
 have E:iQ (fun i=>some (i*1,1)) ((lj<|L.length*1).map (zv.cells[· % zv.cells.size]!)) (ps.toList.map fun p=>(p.1,ev N σ p.2))=some L.toArray:=by
  rw [hp];have M:((lj<|L.length*1).map (zv.cells[· % zv.cells.size]!)).toList.length=L.length:=by simp
  have :=Aq (loc:=fun i=>some (i*1,1)) (fun _=>rfl) L [] ((lj<|L.length*1).map (zv.cells[· % zv.cells.size]!)).toList M h1;rw [ua,ua,x7] at this;exact this
 simp only [execOp,qV,ir,bu hu,gT,sizeOf,db hi,ks,C,q9,zeroValue,J,iP,E];rw [if_neg (by rw [show (2:Nat) ^ 24=16777216 from rfl]; omega),if_neg ab];simp [newRow]
theorem j1 {t e:av} {bytes:Nat} {v:ag} (A:dG P t e 1 bytes=true) (C:ev N σ x=v) (h1:v.oneCell'=true)
 (k:∀ b w',b=w.heap.size→Nw w w'→aB w'.heap b [v]→K (dn σ dst<|.slice (some ⟨b,0,none⟩) 1 1) w'):bV P N ⟨dst,.buildSlice t 1 #[(0,x)],ty,pos,af,g⟩ σ w K:=
 yX A rfl C (by rw [mY h1]; rfl) (by rw [mY h1]) k
theorem n4 {t e:av} {size bytes:Nat} {L:List ag} (E:dG P t e size bytes=true) (C:bc size 1000=true) (I:ev N σ x= .agg L.toArray) (A:L.length=size)
 (k:∀ b w',b=w.heap.size→Nw w w'→aB w'.heap b L→K (dn σ dst<|.slice (some ⟨b,0,none⟩) 1 1) w'):bV P N ⟨dst,.buildSlice t 1 #[(0,x)],ty,pos,af,g⟩ σ w K:=
 yX E C I (by simpa [po] using A) (by simp [po]) k
theorem n5 {e:av} {L:List ag} (A:ev N σ x= .agg L.toArray) (k:∀ b w',b=w.heap.size→Nw w w'→aB w'.heap b L→K (dn σ dst<|.pointer<|some ⟨b,0,none⟩) w'):
 bV P N ⟨dst,.box e x,ty,pos,af,g⟩ σ w K:=bx A (by simp [po]) k
theorem pM {e:av} {L:List ag} (E:ev N σ x= .agg L.toArray) (k:∀ b w',b=w.heap.size→Nw w w'→w'.heap[b]? =some (.cells L.toArray e (0,0))→K (dn σ dst<|.pointer<|some ⟨b,0,none⟩) w'):
 bV P N ⟨dst,.box e x,ty,pos,af,g⟩ σ w K:=by
 refine k9 (v:=fun b=> .pointer<|some ⟨b,0,none⟩) (ob:= .cells L.toArray e (0,0)) ?_ fun b w' h1 A C=>k b w' h1 A C;simp [execOp,yb,E,newVar,newRow,po]
theorem rG {l:List ag} (h:l.all eQ=true):∀ u∈l,u.oneCell'=true :=El.1 h
theorem dg {t b off :Nat} {e:av} {L:List ag} {v:ag} (A:cz P t=some 1) (ac:ev N σ x= .pointer (some ⟨b,off,none⟩)) (ad:ev N σ y=v) (h1:v.oneCell'=true) (hb:w.heap[b]? =some (.cells L.toArray e (0,0))) (V:off < L.length)
 (k:∀ w',Md (fun k=>k=b) w w'→w'.heap[b]? =some (.cells (L.set off v).toArray e (0,0))→K σ w'):bV P N ⟨none,.store t x y,ty,pos,af,g⟩ σ w K:=by
 have E:v.cells= #[v]:=by cases v <;> first | rfl | (cases h1; done)
 have I:w.cell? ⟨b,off,none⟩=some L[off]:=by rw [jx,bg hb]; simp [V]
 have J:w.frozen? ⟨b,off,none⟩=false :=by simp only [World.frozen?,show w.heap[b]? =_ from hb]; simp
 unfold cz at A;simp only [gG] at A;obtain ⟨i,hi,aa⟩:=A;have C:(⟨b,off,none⟩:bP).add 0=⟨b,off,none⟩:=rfl;have Z:(execOp (ev N σ) ⟨none,.store t x y,ty,pos,af,g⟩).run P w= .ok .skip (w.setCell ⟨b,off,none⟩ v):=by
  simp [execOp,ye,ac,ad,nL,storeVar,E,sizeOf,db hi,aa,storeCells,C,run_store P w _ v _ h1,I,J]
 unfold bV gD;rw [dj,Z];refine ⟨σ,U,k _ ⟨U,U,by simp [Ei],fun k _ M=> ?_⟩ ?_⟩
 · exact Below.heap_setCell w _ v k M
 · have O:=(dh.1 hb).1;have ab:w.heap[b]= .cells L.toArray e (0,0):=(dh.1 hb).2;simp only [Ei];rw [nD (by simpa using O),Array.getElem_modify];simp [ab,List.setIfInBounds_toArray]
theorem st {t b off :Nat} {L:List ag} {v:ag} (J:cz P t=some 1) (E:ev N σ x= .pointer (some ⟨b,off,none⟩)) (I:ev N σ y=v) (h1:v.oneCell'=true) (hb:aB w.heap b L) (C:off < L.length)
 (k:∀ w',Md (fun k=>k=b) w w'→aB w'.heap b (L.set off v)→K σ w'):bV P N ⟨none,.store t x y,ty,pos,af,g⟩ σ w K:=
 let ⟨_,hb⟩:=hb
 dg J E I h1 hb C fun w' h1 A=>k w' h1 ⟨_,A⟩
theorem ez {t b off n:Nat} {e:av} {L vs:List ag} (A:cz P t=some n) (J:ev N σ x= .pointer (some ⟨b,off,none⟩)) (M:ev N σ y= .agg vs.toArray) (hn:vs.length=n) (h1:vs.all eQ=true) (hb:w.heap[b]? =some (.cells L.toArray e (0,0))) (O:off+n≤L.length)
 (k:∀ w',Md (fun k=>k=b) w w'→w'.heap[b]? =some (.cells (L.take off++vs++L.drop (off+n)).toArray e (0,0))→K σ w'):bV P N ⟨none,.store t x y,ty,pos,af,g⟩ σ w K:=by
 unfold cz at A;simp only [gG] at A;obtain ⟨i,hi,I⟩:=A;have bj:=run_storeCells_at P b off e vs 0 L.toArray w hb (by simp; omega)<|rG h1;have E:(execOp (ev N σ) ⟨none,.store t x y,ty,pos,af,g⟩).run P w= .ok .skip (w.setRow b (L.take off++vs++L.drop (off+n)).toArray):=by
  simp [execOp,ye,J,M,nL,storeVar,po,sizeOf,db hi,I,hn,bj]
 unfold bV gD;rw [dj,E];exact ⟨σ,U,k _ ⟨U,U,by simp,fun k _ C=>setRow_other w b k _ C⟩<|setRow_heap w b _ _ e _ hb⟩
theorem qK {t b off n:Nat} {L vs:List ag} (A:cz P t=some n) (J:ev N σ x= .pointer (some ⟨b,off,none⟩)) (M:ev N σ y= .agg vs.toArray) (hn:vs.length=n) (h1:vs.all eQ=true) (hb:aB w.heap b L) (O:off+n≤L.length)
 (k:∀ w',Md (fun k=>k=b) w w'→aB w'.heap b (L.take off++vs++L.drop (off+n))→K σ w'):bV P N ⟨none,.store t x y,ty,pos,af,g⟩ σ w K:=by
 obtain ⟨e,hb⟩:=hb;unfold cz at A;simp only [gG] at A;obtain ⟨i,hi,I⟩:=A;have bj:=run_storeCells_at P b off e vs 0 L.toArray w hb (by simp; omega)<|rG h1;have E:(execOp (ev N σ) ⟨none,.store t x y,ty,pos,af,g⟩).run P w= .ok .skip (w.setRow b (L.take off++vs++L.drop (off+n)).toArray):=by
  simp [execOp,ye,J,M,nL,storeVar,po,sizeOf,db hi,I,hn,bj]
 unfold bV gD;rw [dj,E];exact ⟨σ,U,k _ ⟨U,U,by simp,fun k _ C=>setRow_other w b k _ C⟩ ⟨e,setRow_heap w b _ _ e _ hb⟩⟩
theorem Fj {t ty e:av} {i:TypeInfo} {zv:ag} {B n m c:Nat} {v V:ag} {xs news:List ag} {ad:bP} {w':ah} (hu:P.underlying t=some (.slice e)) (hi:P.info? e=some i) (U:i.zero=some zv) (ak:zv.cells.size=i.size) (ai:0 < i.size)
 (I:w.ownsRow B e i.size v n xs) (E:news.length=m*i.size) (J:∀ j u,news[j]? =some u→w.cell? (ad.add j)=some u) (h1:∀ u∈news,u.oneCell'=true) (L:n+m≤maxLen) (hb:(n+m)*i.bytes≤140737488355328)
 (hr:(jS #[t,t] ty #[v,.slice (some ad) m c]).run P w= .ok V w'):∀ k,V.ownBlock=some k→v.ownBlock=some k∨w.heap.size≤k:=by
 intro k A;have am:n+m≤9223372036854775807:=by unfold maxLen at L; omega
 rcases I.2 with ⟨rfl,rfl⟩ | ⟨C,cap,cur,rfl,ao,ae,ar,ap,aa,au⟩
 · have aj:xs= []:=jV<|by simpa using I.1
   subst aj;obtain ⟨v2,aw,M,Z,_,_⟩:=run_append_own (P:=P) w w.heap.size t ty e i zv i.size i.bytes hu hi U rfl rfl ak ai _ 0 [] (gE w w.heap.size e i.size) ad m c news E J h1 L hb (aP _);rw [hr] at M;cases M;exact .inr (by
    rcases Z.2 with ⟨h,_⟩ | ⟨al,_,_,h,an,_⟩
    · rw [h] at A; simp [gk] at A
    · rw [h] at A; simp only [gk,bL] at A; omega)
 · by_cases O:n+m≤cap
   · have ac:n*i.size+news.length≤cur.size:=by rw [E,aa,← Nat.add_mul]; exact nU _ O
     rw [run_append_room (P:=P) w t ty e i hu hi C n cap cur ae ad m c news E J h1 O ac] at hr;cases hr;exact .inl A
   · have holds:∀ j u,xs[j]? =some u→w.cell? ((⟨C,0,none⟩:bP).add j)=some u:=I.cells (g:=C) rfl;rw [run_append_grow (P:=P) w t ty e i zv hu hi U ⟨C,0,none⟩ n cap xs I.1 holds ad m c news E J ab ab (growslice_fits ab hb)] at hr;cases hr;simp only [gk,bL] at A;exact .inr ab
theorem ap {t e size bytes B n m c:Nat} {v:ag} {xs news:List ag} {a:Option bP} (an:dG P t e size bytes=true) (E:w.ownsRow B e size v n xs) (Z:ev N σ x=v) (ah:B≤w.heap.size)
 (aa:ev N σ y= .slice a m c) (L:a9 w.heap a news) (I:news.length=m*size) (h1:news.all eQ=true) (hb:(n+m)*bytes≤140737488355328) (au:n+m≤9223372036854775807)
 (k:∀ A w',w'.ownsRow B e size A (n+m) (xs++news)→Md (fun k=>v.ownBlock=some k) w w'→(A= .slice none 0 0↔v= .slice none 0 0∧m=0)→(∀ k,A.ownBlock=some k→v.ownBlock=some k∨w.heap.size≤k)→K (dn σ dst A) w'):
 bV P N ⟨dst,.call ⟨.builtin .append,#[x,y],#[t,t]⟩,ty,pos,af,g⟩ σ w K:=by
 obtain ⟨hu,i,zv,hi,ab,V,J,ac,U⟩:=oY an;have M:n+m≤maxLen:=by unfold maxLen; omega
 by_cases hm:news= []
 · subst hm;have ak:m=0:=by
    rcases Nat.mul_eq_zero.1 (I.symm.trans rfl) with h | h
    · exact h
    · omega
   subst ak;have am:(jS #[t,t] ty #[v,.slice a 0 c]).run P w= .ok v w:=by
    rcases E.2 with ⟨rfl,rfl⟩ | ⟨ar,cap,cur,rfl,_,_,hle,_⟩
    · cases a <;> simp [jS,bu hu,sizeOf,db hi,DP,tL,loadCells,loadCellsFrom]
    · cases a <;> simp [jS,bu hu,sizeOf,db hi,DP,tL,loadCells,loadCellsFrom,hle,storeCells]
   refine ik (w':=w) (v:=v) ?_<|k v w (by simpa using E) (Md.refl _ _) (by simp) fun _ h=> .inl h;simp [execOp,resolve,invoke,builtin,Z,aa,am]
 · have ha:=L.ok hm;have O:∀ j u,news[j]? =some u→w.cell? ((⟨bk a,fo a,none⟩:bP).add j)=some u:=fun j u hu=>by rw [fU,jx]; exact L.ay j u hu
   obtain ⟨A,w',hr,ad,C,ae⟩:=run_append_own (P:=P) w B t ty e i zv size bytes hu hi ab V J ac U v n xs E ⟨bk a,fo a,none⟩ m c news I O (rG h1) M hb ah;subst V J;have ai:=Fj hu hi ab ac U E I O (rG h1) M hb hr;refine ik (w':=w') (v:=A) ?_<|k A w' ad ⟨C.os,C.output,C.size,fun k aj al=>C.block k aj fun e=>al e.symm⟩ ae ai;have ao:ev N σ y= .slice (some ⟨bk a,fo a,none⟩) m c:=aa.trans<|congrArg (fun a=>bH a m c) ha;simp [execOp,resolve,invoke,builtin,Z,ao,hr]
theorem bf {t n len cap:Nat} {k:bw} {i:Int} {a:Option bP} (he:cS P t=some n) (A:ev N σ x= .slice a len cap) (C:ev N σ y= .int k i) (h0:0≤i∧i < len) (ha:a=some ⟨bk a,fo a,none⟩):
 (execOp (ev N σ) ⟨dst,.indexAddr t x y,ty,pos,af,g⟩).run P w= .ok (.value<|.pointer<|some ⟨bk a,fo a+i.toNat*n,none⟩) w:=
 ia he (by rw [A]; congr 1) C h0
end
theorem bG {F:Nat→Prop} {w w':ah} {B e size n:Nat} {v:ag} {xs:List ag} (h:w.ownsRow B e size v n xs) (hm:Md F w w') (A:∀ k,v.ownBlock=some k→¬F k):w'.ownsRow B e size v n xs:=by
 refine ⟨h.1,?_⟩;rcases h.2 with hn | ⟨g,cap,cur,rfl,hb,C,rest⟩
 · exact .inl hn
 · exact .inr ⟨g,cap,cur,U,hb,hm.ak C (A g U),rest⟩
section
variable {P:au} {N:Fm} {σ:Nat→ag} {w:ah} {dst:Option Nat} {ty:av} {pos :String} {af:Array bR} {g:Option (Nat×Bool)} {x y z:aV} {K:(Nat→ag)→ah→Prop}
theorem jk {t B e size n cap off j:Nat} {a:Option bP} {xs:List ag} {u:ag} (ac:w.ownsRow B e size (.slice a n cap) n xs) (ai:cz P t=some 1) (ae:ev N σ x= .pointer (some ⟨bk a,off,none⟩)) (ah:ev N σ y=u) (h1:u.oneCell'=true)
 (V:off =fo a+j) (ab:j < n*size)
 (k:∀ w',Md (fun k=>(bH a n cap).ownBlock=some k) w w'→w'.ownsRow B e size (.slice a n cap) n (xs.set j u)→K σ w'):bV P N ⟨none,.store t x y,ty,pos,af,g⟩ σ w K:=by
 obtain ⟨h0,h⟩:=ac;rcases h with ⟨h,rfl⟩ | ⟨A,aj,cur,h,E,O,hle,M,C,ad⟩
 · simp at ab
 · simp only [yj,true_and] at h;obtain ⟨rfl,rfl⟩:=h;have Z:off =j:=by rw [V]; simp [fo]
   subst Z;have hlen:off < cur.toList.length:=by
    have :=nU size hle;rw [lh,C]; omega
   refine dg (L:=cur.toList) ai ae ah h1 (show w.heap[A]? =_ by simpa using O) hlen fun w' J I=>k w' (J.mono fun k _ aa=>by subst aa; rfl) ⟨by simpa using h0,.inr ⟨A,cap,_,U,E,I,hle,M,by simpa using C,?_⟩⟩;rw [← ad];simp only;rw [List.take_set]
end
theorem Jm {w:ah} {B e size n:Nat} {v:ag} {xs:List ag} (h:w.ownsRow B e size v n xs):v.oneCell'=true :=by
 rcases h.2 with ⟨rfl,_⟩ | ⟨g,cap,cur,rfl,_⟩ <;> rfl
theorem ew {w:ah} {B e size n:Nat} {v:ag} {xs:List ag} (h:w.ownsRow B e size v n xs):∃ a cap,v= .slice a n cap:=by
 rcases h.2 with ⟨rfl,rfl⟩ | ⟨g,cap,cur,rfl,_⟩
 · exact ⟨_,_,U⟩
 · exact ⟨_,_,U⟩
theorem aW {w w':ah} {B e size n:Nat} {v:ag} {xs:List ag} (h:w.ownsRow B e size v n xs) (hm:Wk w w'):w'.ownsRow B e size v n xs:=bG h hm fun _ _ x=>x
theorem cr {w:ah} {B e size n:Nat} {v:ag} {xs:List ag} (h:w.ownsRow B e size v n xs) {k:Nat} (A:v.ownBlock=some k):B≤k∧k < w.heap.size:=h.lt k A
theorem Wk.own {w0 w w':ah} {B e size n:Nat} {v:ag} {xs:List ag} (h:Wk w0 w) (A:w.ownsRow B e size v n xs) (hm:Md (fun k=>v.ownBlock=some k) w w') (E:w0.heap.size≤B):Wk w0 w':=
 Md.trans' h hm (fun k I C=>by have :=(cr A C).1; omega)
theorem sJ {w:ah} {B e size n:Nat} {v:ag} {xs:List ag} (h:w.ownsRow B e size v n xs):∃ a cap,v= .slice a n cap∧a9 w.heap a xs∧n≤cap∧(∀ k,v.ownBlock=some k→a=some ⟨k,0,none⟩∧B≤k∧k < w.heap.size)∧(v.ownBlock=none→xs= []):=by
 rcases h.2 with ⟨rfl,rfl⟩ | ⟨g,cap,cur,rfl,hb,C,hle,_,_,E⟩
 · have :xs= []:=jV<|by simpa using h.1
   subst this;exact ⟨none,0,U,a9.nil _ _,aP _,fun k A=>by simp [gk] at A,fun _=>rfl⟩
 · refine ⟨_,cap,U,⟨fun _=>rfl,fun j u hu=> ?_⟩,hle,fun k A=> ?_,fun A=>by simp [gk] at A⟩
   · show ay w.heap g (0 +j)=_;rw [cx,bg C];rw [← E,iU] at hu;split at hu
     · simpa using hu
     · cases hu
   · simp only [gk,bL] at A; subst A;exact ⟨U,hb,(dh.1 C).1⟩
theorem bU {w:ah} {B e size n cap:Nat} {a:Option bP} {xs:List ag} (h:w.ownsRow B e size (.slice a n cap) n xs):n≤cap∧a9 w.heap a xs:=by grind [sJ]
theorem kR {w:ah} {B B' e size n:Nat} {v:ag} {xs:List ag} (h:w.ownsRow B e size v n xs) (C:B'≤B):w.ownsRow B' e size v n xs:=by
 refine ⟨h.1,?_⟩;rcases h.2 with h | ⟨g,cap,cur,h1,A,r⟩
 · exact .inl h
 · exact .inr ⟨g,cap,cur,h1,cQ C A,r⟩
section
variable {P:au} {N:Fm} {σ:Nat→ag} {w:ah} {dst:Option Nat} {ty:av} {pos :String} {af:Array bR} {g:Option (Nat×Bool)} {x y z:aV} {K:(Nat→ag)→ah→Prop}
end
end Go.Hb
namespace Go.Hb
section
variable {P:au} {md:nO} {ops:Array aA} {Q:bl→Act→ah→Prop} {S:ah→Prop} {r:Nat}
def k0 (P:au) (md:nO) (ops:Array aA) (Q:bl→Act→ah→Prop) (S:ah→Prop) (r:Nat):Nat→Array Bool→Act→ah→Prop
 | 0,listed,a,w=>dq md ops listed= []∧Q .normal a w
 | fuel+1,listed,a,w=>
   (dq md ops listed= []→Q .normal a w)∧
   ∀ i∈dq md ops listed,wpOp P ops Q i (fun A w'=>((listed.setIfInBounds i true).getD r false =false→S w')∧k0 P md ops Q S r fuel (listed.setIfInBounds i true) A w') a w
theorem Dn:∀ (fuel:Nat) (listed:Array Bool) (a:Act) (w:ah),k0 P md ops Q S r fuel listed a w→wpAny P md ops Q fuel listed a w
 | 0,_,_,_,h=>h
 | fuel+1,_,_,_,h=>⟨h.1,fun i hi=>wpOp_mono (fun A w' h'=>Dn fuel _ A w' h'.2)<|h.2 i hi⟩
theorem Me {i:Nat} {E:aA} {v:ag} (hi:ops[i]? =some E) (ai:∀ (j:Nat) (o:aA) cs b,ops[j]? =some o→o.op≠.select cs b)
 (am:∀ c a w,Q (.panic c) (a.put E.dst v) w→Q (.panic c) a w) (ay:∀ o,ops[r]? =some o→∃ x∈o.after,dz md x=true∧x.on=i) (ap:i≠r):
 ∀ (fuel:Nat) (listed:Array Bool) (a:Act) (w:ah),
   (∀ j C,ops[j]? =some C→j≠i→listed.getD j true =false→(∀ x∈C.after,dz md x=true→x.on≠i)→E.apart ops C=true)→
   i∈dq md ops listed→YieldsIf P ops S E v a→S w→listed.getD r false =false→
   k0 P md ops Q S r fuel (listed.setIfInBounds i true) (a.put E.dst v) w→k0 P md ops Q S r (fuel+1) listed a w:=by
 intro fuel
 induction fuel with
 | zero=>
   intro listed a w _ hr O I _ H;refine ⟨fun h=>(by rw [h] at hr; cases hr),fun j L=> ?_⟩;by_cases A:j=i
   · subst A; exact O.wpOp hi I ⟨fun _=>I,H⟩
   · have :=ready_mono L A;rw [H.1] at this;cases this
 | succ fuel ih=>
   intro listed a w V hr O I ac H;refine ⟨fun h=>(by rw [h] at hr; cases hr),fun j L=> ?_⟩;by_cases A:j=i
   · subst A; exact O.wpOp hi I ⟨fun _=>I,H⟩
   · have h1:=H.2 j<|ready_mono L A;obtain ⟨ab,C,M,an⟩:=mem_ready.1 L;have ae:∀ x∈C.after,dz md x=true→x.on≠i:=fun x U hb heq=>by
      have h1:=an x U hb;have h0:=(mem_ready.1 hr).1;rw [heq] at h1;rcases dA i listed.size with h' | h'
      · simp [h'] at h0 h1; rw [h0] at h1; cases h1
      · simp [tF h'] at h1
     have aa:j≠r:=by
      rintro rfl;obtain ⟨x,U,hb,ax⟩:=ay C M;exact ae x U hb ax
     have av:(listed.setIfInBounds j true).getD r false =false :=by rw [getD_set_ne false aa]; exact ac
     have ad:((listed.setIfInBounds i true).setIfInBounds j true).getD r false =false :=by rw [getD_set_ne false aa,getD_set_ne false ap]; exact ac
     have al:=wpOp_putIf M (V j C M A ab ae) (fun cs b=>ai i E cs b hi) (fun cs b=>ai j C cs b M) am O h1;have ao:∀ k ok,ops[k]? =some ok→k≠i→(listed.setIfInBounds j true).getD k true =false→
      (∀ x∈ok.after,dz md x=true→x.on≠i)→E.apart ops ok=true :=fun k ok ar au aj aw=>by
      refine V k ok ar au ?_ aw;by_cases Z:j=k
      · subst Z; exact ab
      · rw [getD_set_ne true Z] at aj; exact aj
     refine wpOp_mono (fun ak w' J=>⟨fun _=>J.2.1 ad,ih (listed.setIfInBounds j true) ak w' ao (ready_mono hr<|Ne.symm A) J.1 (J.2.1 ad) av ?_⟩) al;rw [xZ _ _ A];exact J.2.2
end
section
variable {P:au} {N:Fm} {ops:Array aA} {Q:bl→(Nat→ag)→ah→Prop} {σ:Nat→ag} {w:ah} {S:ah→Prop} {r fuel:Nat} {listed:Array Bool}
 {d':Option Nat} {d:Nat} {op:Op} {ty:av} {pos :String} {af:Array bR} {v:ag}
def cq (P:au) (N:Fm) (ops:Array aA) (Q:bl→(Nat→ag)→ah→Prop) (S:ah→Prop) (r fuel:Nat) (listed:Array Bool) (σ:Nat→ag) (w:ah):Prop :=
 k0 P .any ops (lift N Q) S r fuel listed (act N σ) w
theorem oA {id:Nat} {l:List aA} (S:ah→Prop) (r:Nat) (hr:ke N.r l=true) (hm:P.follows .mixedOrders=true) (A:S w.drew) (h:cq P N l.toArray Q S r l.length (nE l.length false) σ w.drew):bA P N (.region id l.toArray true) Q σ w:=by
 exact yN hr hm<|Dn _ _ _ _<|by rw [eD]; exact h
def ou (F:List Nat) (ops:Array aA) (listed:Array Bool) (r i:Nat):Bool:=
 et F ops listed i && !(listed.getD r false) && i !=r && (match ops[r]? with | some o=>o.after.toList.any (fun x=>dz .any x && x.on==i) | none=>false)
theorem lq (i:Nat) (hi:ops[i]? =some ⟨some d,op,ty,pos,af,none⟩) (C:ou N.F ops listed r i=true)
 (O:∀ w,S w→(execOp (ev N σ) ⟨some d,op,ty,pos,af,none⟩).run P w= .ok (.value v) w) (A:S w)
 (k:cq P N ops Q S r fuel (listed.setIfInBounds i true) (aU σ d v) w):cq P N ops Q S r (fuel+1) listed σ w:=by
 simp only [ou,et,aZ,jm,bne_iff_ne,ne_eq] at C;obtain ⟨⟨⟨⟨⟨⟨I,J⟩,hf3⟩,hfF⟩,hf4⟩,hf5⟩,hf6⟩:=C;rw [hi] at hfF;refine Me hi (yi I) (fun c a w=>mW hfF c a w) (fun o L=> ?_) hf5 fuel listed _ w (yh hi J) (by simpa using hf3) (.inl ⟨fj _ rfl _,fun w A=> ?_⟩) A hf4 ?_ (v:=v)
 · rw [L] at hf6;simp only [Em,aZ,beq_iff_eq] at hf6;obtain ⟨x,M,h1,E⟩:=hf6;exact ⟨x,tH.1 M,h1,E⟩
 · rw [dj]; exact O w A
 · rw [eG]; exact k
theorem A7 (i:Nat) (hi:ops[i]? =some ⟨d',op,ty,pos,af,none⟩) (hr:gK ops listed i=true)
 (h:bV P N ⟨d',op,ty,pos,af,none⟩ σ w (fun σ w=>((listed.setIfInBounds i true).getD r false =false→S w)∧cq P N ops Q S r fuel (listed.setIfInBounds i true) σ w)):cq P N ops Q S r (fuel+1) listed σ w:=by
 have C:dq .any ops listed= [i]:=by simpa [gK] using hr
 refine ⟨fun h0=>absurd (C ▸ h0) (by simp),fun k A=> ?_⟩;rw [C] at A;obtain rfl :k=i:=by simpa using A
 unfold wpOp;simp only [hi];rw [if_pos (fj _ rfl _)];exact .inl<|o8 h fun _ _ A=>A
theorem fG (i:Nat) (hi:ops[i]? =some ⟨d',op,ty,pos,af,none⟩) (hr:gK ops listed i=true)
 (h:bV P N ⟨d',op,ty,pos,af,none⟩ σ w (fun σ w=>S w∧cq P N ops Q S r fuel (listed.setIfInBounds i true) σ w)):cq P N ops Q S r (fuel+1) listed σ w:=by grind [A7,Dt]
theorem jK (i:Nat) (hi:ops[i]? =some ⟨d',op,ty,pos,af,none⟩) (hr:gK ops listed i=true) (C:(listed.setIfInBounds i true).getD r false =true)
 (h:bV P N ⟨d',op,ty,pos,af,none⟩ σ w (fun σ w=>cq P N ops Q S r fuel (listed.setIfInBounds i true) σ w)):cq P N ops Q S r (fuel+1) listed σ w:=
 A7 i hi hr (Dt h fun _ _ A=>⟨fun h0=>absurd (h0.symm.trans C) di,A⟩)
theorem jL (hr:(dq .any ops listed).isEmpty=true) (h:Q .normal σ w):cq P N ops Q S r fuel listed σ w:=by
 have A:dq .any ops listed= []:=by simpa using hr
 cases fuel with
 | zero=>exact ⟨A,σ,rfl,h⟩
 | succ fuel=>exact ⟨fun _=>⟨σ,rfl,h⟩,by rw [A]; simp⟩
attribute [irreducible] cq
end
end Go.Hb
namespace Go.Hb
section
variable {P:au} {md:nO} {ops:Array aA} {Q:bl→Act→ah→Prop} {S:ah→Prop} {r:Nat}
inductive mz (md:nO) (ops:Array aA) (i:Nat):Nat→Prop
 | one {r o e} :ops[r]? =some o→e∈o.after→dz md e=true→e.on=i→mz md ops i r
 | more {r o e} :ops[r]? =some o→e∈o.after→dz md e=true→mz md ops i e.on→mz md ops i r
def my (md:nO) (ops:Array aA) (listed:Array Bool):Prop := ∀ (j:Nat) (o:aA),ops[j]? =some o→listed.getD j false =true→∀ e∈o.after,dz md e=true→listed.getD e.on false =true
theorem AG {listed:Array Bool} {j k:Nat} (h:listed.getD k false =true):(listed.setIfInBounds j true).getD k false =true :=by
 by_cases e:j=k
 · subst e;by_cases A:j < listed.size
   · simp [A]
   · simp [A] at h
 · rw [getD_set_ne false e]; exact h
theorem my.set {listed:Array Bool} {j:Nat} (h:my md ops listed) (J:j∈dq md ops listed):my md ops (listed.setIfInBounds j true):=by
 intro k o A E e he hb;obtain ⟨_,M,L,I⟩:=mem_ready.1 J;by_cases C:j=k
 · subst C;rw [L] at A; cases A;exact AG<|I e he hb
 · rw [getD_set_ne false C] at E;exact AG<|h k o A E e he hb
theorem mz.listed {listed:Array Bool} {i r:Nat} (J:mz md ops i r) (I:my md ops listed) (ha:∀ o,ops[r]? =some o→∀ e∈o.after,dz md e=true→listed.getD e.on false =true):listed.getD i false =true :=by
 induction J with
 | one h1 A C E=>rw [← E]; exact ha _ h1 _ A C
 | more h1 A C _ ih=>exact ih fun o L e he hb=>I _ o L (ha _ h1 _ A C) e he hb
theorem Mc {i:Nat} {C:aA} {v:ag} (hi:ops[i]? =some C) (ak:∀ (j:Nat) (o:aA) cs b,ops[j]? =some o→o.op≠.select cs b)
 (ao:∀ c a w,Q (.panic c) (a.put C.dst v) w→Q (.panic c) a w) (ap:mz md ops i r) (au:i≠r):
 ∀ (fuel:Nat) (listed:Array Bool) (a:Act) (w:ah),my md ops listed→
   (∀ j E,ops[j]? =some E→j≠i→listed.getD j true =false→(∀ x∈E.after,dz md x=true→x.on≠i)→C.apart ops E=true)→
   i∈dq md ops listed→YieldsIf P ops S C v a→S w→listed.getD r false =false→
   k0 P md ops Q S r fuel (listed.setIfInBounds i true) (a.put C.dst v) w→k0 P md ops Q S r (fuel+1) listed a w:=by
 intro fuel
 induction fuel with
 | zero=>
   intro listed a w _ _ hr O I _ H;refine ⟨fun h=>(by rw [h] at hr; cases hr),fun j J=> ?_⟩;by_cases A:j=i
   · subst A; exact O.wpOp hi I ⟨fun _=>I,H⟩
   · have :=ready_mono J A;rw [H.1] at this;cases this
 | succ fuel ih=>
   intro listed a w V Z hr O I ae H;refine ⟨fun h=>(by rw [h] at hr; cases hr),fun j J=> ?_⟩;by_cases A:j=i
   · subst A; exact O.wpOp hi I ⟨fun _=>I,H⟩
   · have h1:=H.2 j<|ready_mono J A;obtain ⟨ad,E,M,U⟩:=mem_ready.1 J;have aa:listed.getD i false =false :=by
      have h0:=(mem_ready.1 hr).1;rcases dA i listed.size with h' | h'
      · simpa [h'] using h0
      · simp [h'] at h0
     have az:∀ x∈E.after,dz md x=true→x.on≠i:=fun x aB hb heq=>by
      have h1:=U x aB hb;rw [heq,aa] at h1; cases h1
     have ac:j≠r:=by
      rintro rfl;have :=ap.listed V fun o aj=>by rw [M] at aj; cases aj; exact U
      rw [aa] at this; cases this
     have ax:(listed.setIfInBounds j true).getD r false =false :=by rw [getD_set_ne false ac]; exact ae
     have ai:((listed.setIfInBounds i true).setIfInBounds j true).getD r false =false :=by rw [getD_set_ne false ac,getD_set_ne false au]; exact ae
     have an:=wpOp_putIf M (Z j E M A ad az) (fun cs b=>ak i C cs b hi) (fun cs b=>ak j E cs b M) ao O h1;have ar:∀ k ok,ops[k]? =some ok→k≠i→(listed.setIfInBounds j true).getD k true =false→
      (∀ x∈ok.after,dz md x=true→x.on≠i)→C.apart ops ok=true :=fun k ok av aw al ay=>by
      refine Z k ok av aw ?_ ay;by_cases ab:j=k
      · subst ab; exact ad
      · rw [getD_set_ne true ab] at al; exact al
     refine wpOp_mono (fun am w' L=>⟨fun _=>L.2.1 ai,ih (listed.setIfInBounds j true) am w' (V.set J) ar (ready_mono hr<|Ne.symm A) L.1 (L.2.1 ai) ax ?_⟩) an;rw [xZ _ _ A];exact L.2.2
theorem Mf {i:Nat} {C:aA} {v:ag} (hi:ops[i]? =some C) (ad:∀ (j:Nat) (o:aA) cs b,ops[j]? =some o→o.op≠.select cs b)
 (ak:∀ c a w,Q (.panic c) (a.put C.dst v) w→Q (.panic c) a w) (O:i≠r):
 ∀ (fuel:Nat) (listed:Array Bool) (a:Act) (w:ah),
   (∀ j E,ops[j]? =some E→j≠i→listed.getD j true =false→(∀ x∈E.after,dz md x=true→x.on≠i)→C.apart ops E=true)→
   i∈dq md ops listed→YieldsIf P ops (fun _=>True) C v a→(listed.getD r false =false→S w)→
   k0 P md ops Q S r fuel (listed.setIfInBounds i true) (a.put C.dst v) w→k0 P md ops Q S r (fuel+1) listed a w:=by
 intro fuel
 induction fuel with
 | zero=>
   intro listed a w _ hr L M H;refine ⟨fun h=>(by rw [h] at hr; cases hr),fun j J=> ?_⟩;by_cases A:j=i
   · subst A; exact L.wpOp hi trivial ⟨fun h=>M (by rw [getD_set_ne false O] at h; exact h),H⟩
   · have :=ready_mono J A;rw [H.1] at this;cases this
 | succ fuel ih=>
   intro listed a w Z hr L M H;refine ⟨fun h=>(by rw [h] at hr; cases hr),fun j J=> ?_⟩;by_cases A:j=i
   · subst A; exact L.wpOp hi trivial ⟨fun h=>M (by rw [getD_set_ne false O] at h; exact h),H⟩
   · have h1:=H.2 j<|ready_mono J A;obtain ⟨ac,E,U,al⟩:=mem_ready.1 J;have an:listed.getD i false =false :=by
      have h0:=(mem_ready.1 hr).1;rcases dA i listed.size with h' | h'
      · simpa [h'] using h0
      · simp [h'] at h0
     have au:∀ x∈E.after,dz md x=true→x.on≠i:=fun x av hb heq=>by
      have h1:=al x av hb;rw [heq,an] at h1; cases h1
     have aj:=wpOp_putIf U (Z j E U A ac au) (fun cs b=>ad i C cs b hi) (fun cs b=>ad j E cs b U) ak L h1;have am:∀ k ok,ops[k]? =some ok→k≠i→(listed.setIfInBounds j true).getD k true =false→
      (∀ x∈ok.after,dz md x=true→x.on≠i)→C.apart ops ok=true :=fun k ok ao ap ae ar=>by
      refine Z k ok ao ap ?_ ar;by_cases ab:j=k
      · subst ab; exact ac
      · rw [getD_set_ne true ab] at ae; exact ae
     have V:(listed.setIfInBounds i true).setIfInBounds j true =(listed.setIfInBounds j true).setIfInBounds i true :=xZ _ _ fun e=>A e.symm;have aa:(listed.setIfInBounds j true).getD r false =false→((listed.setIfInBounds i true).setIfInBounds j true).getD r false =false :=fun h=>by rw [V,getD_set_ne false O]; exact h
     refine wpOp_mono (fun ai w' I=>⟨fun h=>I.2.1 (aa h),ih (listed.setIfInBounds j true) ai w' am (ready_mono hr<|Ne.symm A) I.1 (fun h=>I.2.1<|aa h) ?_⟩) aj;rw [← V];exact I.2.2
end
section
variable {P:au} {N:Fm} {ops:Array aA} {Q:bl→(Nat→ag)→ah→Prop} {σ:Nat→ag} {w:ah} {S:ah→Prop} {r fuel:Nat} {listed:Array Bool}
 {d:Nat} {op:Op} {ty:av} {pos :String} {af:Array bR} {v:ag}
def rS (ops:Array aA) (i:Nat):Nat→Nat→Bool
 | 0,_=>false
 | f+1,r=>match ops[r]? with | some o=>o.after.toList.any (fun e=>dz .any e && (e.on==i || rS ops i f e.on)) | none=>false
theorem GR {i:Nat} :∀ (f r:Nat),rS ops i f r=true→mz .any ops i r:=by
 intro f
 induction f with
 | zero=>intro r h; cases h
 | succ f ih=>
   intro r h;rw [rS] at h;split at h
   · rename_i o A;simp only [Em,aZ,nF,beq_iff_eq] at h;obtain ⟨e,he,hb,h⟩:=h;rcases h with h | h
     · exact .one A (tH.1 he) hb h
     · exact .more A (tH.1 he) hb<|ih _ h
   · cases h
def uJ (ops:Array aA) (listed:Array Bool):Bool:=(fw ops.size).all fun j=> !listed.getD j false || match ops[j]? with | some o=>o.after.toList.all (fun e=> !dz .any e || listed.getD e.on false) | none=>true
theorem F8 (h:uJ ops listed=true):my .any ops listed:=by grind [uJ,my]
def vw (F:List Nat) (ops:Array aA) (listed:Array Bool) (r i:Nat):Bool:=et F ops listed i && !(listed.getD r false) && i !=r && uJ ops listed && rS ops i ops.size r
def mP (F:List Nat) (ops:Array aA) (listed:Array Bool) (r i:Nat):Bool:=et F ops listed i && i !=r
theorem Bi (i:Nat) (hi:ops[i]? =some ⟨some d,op,ty,pos,af,none⟩) (C:vw N.F ops listed r i=true)
 (J:∀ w,S w→(execOp (ev N σ) ⟨some d,op,ty,pos,af,none⟩).run P w= .ok (.value v) w) (A:S w)
 (k:cq P N ops Q S r fuel (listed.setIfInBounds i true) (aU σ d v) w):cq P N ops Q S r (fuel+1) listed σ w:=by
 simp only [vw,et,aZ,jm,bne_iff_ne,ne_eq] at C;obtain ⟨⟨⟨⟨⟨⟨⟨E,I⟩,hf3⟩,hfF⟩,hf4⟩,hf5⟩,hf6⟩,hf7⟩:=C;rw [hi] at hfF;unfold cq at*;refine Mc hi (yi E) (fun c a w=>mW hfF c a w) (GR _ _ hf7) hf5 fuel listed _ w (F8 hf6) (yh hi I) (by simpa using hf3) (.inl ⟨fj _ rfl _,fun w A=> ?_⟩) A hf4 ?_ (v:=v)
 · rw [dj]; exact J w A
 · rw [eG]; exact k
theorem qp (i:Nat) (hi:ops[i]? =some ⟨some d,op,ty,pos,af,none⟩) (A:mP N.F ops listed r i=true)
 (J:∀ w,(execOp (ev N σ) ⟨some d,op,ty,pos,af,none⟩).run P w= .ok (.value v) w) (C:listed.getD r false =false→S w)
 (k:cq P N ops Q S r fuel (listed.setIfInBounds i true) (aU σ d v) w):cq P N ops Q S r (fuel+1) listed σ w:=by
 simp only [mP,et,aZ,bne_iff_ne,ne_eq] at A;obtain ⟨⟨⟨⟨E,I⟩,hf3⟩,hfF⟩,hf5⟩:=A;rw [hi] at hfF;unfold cq at*;refine Mf hi (yi E) (fun c a w=>mW hfF c a w) hf5 fuel listed _ w (yh hi I) (by simpa using hf3) (.inl ⟨fj _ rfl _,fun w _=> ?_⟩) C ?_ (v:=v)
 · rw [dj]; exact J w
 · rw [eG]; exact k
end
end Go.Hb
namespace Go.Hb
def Db:Nat→Nat→List UInt8
 | 0,n=> [eS n]
 | f+1,n=>if n < 128 then [eS n] else eS (n % 128 +128)::Db f (n / 128)
def Lg (n:Nat):List UInt8:=Db n n
def frame:List (List UInt8)→List UInt8
 | []=> []
 | r::l=>Lg r.length++(r++frame l)
theorem C2 {α:Type} (l:List α) (i:Nat) (d:α) (h:i < l.length):l.take (i+1)=l.take i++ [l.getD i d]:=by simp_all
end Go.Hb
namespace Go.Hb
def U8 (l:List UInt8):List ag:=l.map fun b=>ba .u8 b.toNat
theorem rB (l:List UInt8):(U8 l).length=l.length:=by simp [U8]
theorem yF (a b:List UInt8):U8 (a++b)=U8 a++U8 b:=by simp [U8]
def mE (P:au) (t e u:av):Bool:=
 dG P t e 1 1 && (match P.underlying e with | some (.int .u8)=>true | _=>false) && (match P.underlying u with | some .string=>true | _=>false) &&
  (match P.info? e with | some i=>(match i.zero with | some (.int .u8 0)=>true | _=>false) | none=>false)
theorem FO {P:au} {t e u:av} (h:mE P t e u=true):
 dG P t e 1 1=true∧P.underlying e=some (.int .u8)∧P.underlying u=some .string∧∃ i,P.info? e=some i∧i.zero=some (.int .u8 0):=by grind [mE,dG]
section
variable {P:au} {N:Fm} {σ:Nat→ag} {w:ah} {dst:Option Nat} {ty:av} {pos :String} {af:Array bR} {g:Option (Nat×Bool)} {x y z:aV} {K:(Nat→ag)→ah→Prop}
theorem foldl_push (l:List UInt8) (r:ByteArray):(l.map fun b=>(b.toNat:Int)).foldl (fun r n=>r.push<|eS n.toNat) r=⟨r.data++l.toArray⟩:=by
 induction l generalizing r with
 | nil=>simp
 | cons b l ih=>
   simp only [ei,iR];rw [ih];apply ByteArray.ext;simp [ByteArray.push]
theorem rN {t e u n c:Nat} {a:Option bP} {l:List UInt8} (h:mE P t e u=true) (O:ev N σ x= .slice a n c) (A:a9 w.heap a (U8 l)) (C:l.length=n):
 (execOp (ev N σ) ⟨dst,.convert t u x,ty,pos,af,g⟩).run P w= .ok (.value<|str l) w:=by
 obtain ⟨h1,E,I,_⟩:=FO h;obtain ⟨hu,_⟩:=oY h1;have J:(DV<|.slice a n c).run P w= .ok (str l) w:=by
  by_cases he:l= []
  · subst he;cases a with
    | none=>simp [DV,str]; rfl
    | some a=>
      subst C;have :=run_bytesToString (P:=P) w a 0 c []<|by simp [loadCells,loadCellsFrom]
      exact this.trans U
  · have ha:=A.ok<|by simpa [U8] using he
    have M:(loadCells ⟨bk a,fo a,none⟩ n).run P w= .ok ((l.map fun b=>(b.toNat:Int)).map<|ba .u8).toArray w:=by
     subst C;have :=run_loadCells_list (P:=P) w ⟨bk a,fo a,none⟩ (U8 l) fun j v L=>by
      rw [fU,jx];exact A.ay j v L
     rw [rB] at this;rw [this];simp [U8]
    rw [ha,run_bytesToString w _ n c _ M,foldl_push];simp [str,ByteArray.empty,ByteArray.emptyWithCapacity];rfl
 simp [execOp,O,run_convert_bytes_string w t u e a n c hu E I,J]
theorem xK {at_:Array av} {v:ag} {a:Option bP} {n c:Nat} (A:ev N σ x= .slice a n c) (h:a=none∨c≠0):
 (execOp (ev N σ) ⟨dst,.call ⟨.builtin .unsafeSliceData,#[x],at_⟩,ty,pos,af,g⟩).run P w= .ok (.value<|.pointer a) w:=by
 have _:=v;have :(Builtin.unsafeSliceData_ at_ ty #[.slice a n c]).run P w= .ok (.pointer a) w:=by
  cases a with
  | none=>exact Lib.run_unsafeSliceData_nil w at_ ty n c
  | some a=>exact Lib.run_unsafeSliceData_row w at_ ty a n c<|h.resolve_left<|by simp
 simp [execOp,resolve,invoke,builtin,A,this]
def ptrTo (P:au) (A e:av):Bool:=match P.underlying A with | some (.pointer e')=>e'==e && P.cellsOf e==1 | _=>false
theorem Ll {I it e B n c:Nat} {a:Option bP} {l:List UInt8} {xs:List ag} (hp:ptrTo P I e=true) (L:ev N σ x= .pointer a) (M:ev N σ y= .int .i64 n) (E:w.ownsRow B e 1 (.slice a n c) n xs)
 (aj:xs=U8 l) (al:n≤9223372036854775807)
 (k:∀ w',Md (fun k=>(bH a n c).ownBlock=some k) w w'→w'.heap.size=w.heap.size→K (dn σ dst<|str l) w'):
 bV P N ⟨dst,.call ⟨.builtin .unsafeString,#[x,y],#[I,it]⟩,ty,pos,af,g⟩ σ w K:=by
 subst aj;have A:l.length=n:=by have :=E.1; simpa [U8] using this
 unfold ptrTo at hp;split at hp
 case h_2=>cases hp
 rename_i e' hu;simp only [aZ,beq_iff_eq] at hp;obtain ⟨rfl,O⟩:=hp;by_cases he:l= []
 · subst he;obtain rfl :n=0:=A.symm;refine ik (w':=w) (v:=str []) ?_<|k w (Md.refl _ _) U;simp [execOp,resolve,invoke,builtin,L,M,Lib.run_unsafeString_none];rfl
 · rcases E.2 with ⟨h,h0⟩ | ⟨C,cap,cur,h,_,Z,hle,_,ai,am⟩
   · subst h0; simp only [List.length_eq_zero_iff] at A; exact absurd A he
   · simp only [yj,true_and] at h;obtain ⟨rfl,rfl⟩:=h;have ah:w.shape? C=some (e',cur.size):=by simp [ym,Z]
     have hr:=Lib.run_unsafeString_row (P:=P) w I it ty e' hu O C cur.size ah l he (by rw [A,ai]; omega) ab (fun j u hu=>by
      obtain ⟨ad,ak,J,V,_,aa,_⟩:=sJ E;simp only [yj,true_and] at J;obtain ⟨rfl,rfl⟩:=J;rw [fU,jx];exact V.ay j _ (by simp [U8,hu]))
     refine ik (w':=w.freeze ⟨C,0,none⟩ l.length) (v:=str l) ?_ (k _ ⟨?_,?_,?_,?_⟩ ?_)
     · simp [execOp,resolve,invoke,builtin,L,M,← A,hr,str]
     · unfold ln; split <;> rfl
     · unfold ln; split <;> rfl
     · unfold ln; split <;> simp
     · intro k aa ac;have ae:k≠C:=fun e=>ac<|by simp [gk,e]
       unfold ln;split
       · rfl
       · simp only [Array.getElem?_modify]; rw [if_neg (fun e=>ae e.symm)]
     · unfold ln; split <;> simp
def na (P:au) (A up e n:Nat):Bool:=
 (match P.underlying A with | some (.pointer e')=>e'==e | _=>false) && (match P.underlying up with | some .unsafePointer=>true | _=>false) && P.cellsOf e==n && aE 0 n && (match P.info? e with | some i=>i.size==n | _=>false)
theorem Dd {P:au} {C up e n:Nat} (h:na P C up e n=true):P.underlying C=some (.pointer e)∧P.underlying up=some .unsafePointer∧P.cellsOf e=n∧0 < n∧∃ i,P.info? e=some i∧i.size=n:=by
 simp only [na,aZ] at h;obtain ⟨⟨⟨⟨h1,A⟩,h3⟩,h4⟩,h5⟩:=h;refine ⟨?_,?_,by simpa using h3,mr (mu 0) (bN h4),?_⟩
 · split at h1
   · rename_i h; simp only [beq_iff_eq] at h1; rw [h,h1]
   · cases h1
 · split at A
   · rename_i h; exact h
   · cases A
 · split at h5
   · rename_i i hi; exact ⟨i,hi,by simpa using h5⟩
   · cases h5
theorem C5 {A up e n b:Nat} {L:List ag} (h:na P A up e n=true) (O:ev N σ x= .pointer (some ⟨b,0,none⟩)) (hb:w.heap[b]? =some (.cells L.toArray e (0,0))) (E:L.length=n):
 (execOp (ev N σ) ⟨dst,.convert A up x,ty,pos,af,g⟩).run P w= .ok (.value<|.pointer<|some ⟨b,0,none⟩) w:=by
 obtain ⟨h1,C,U,V,i,hi,J⟩:=Dd h;have M:w.shape? b=some (e,L.length):=by simp [ym,hb]
 have I:¬n=0:=ab;simp [execOp,O,convert,bu h1,bu C,DX,DW,viewAt,M,cellsIn,E,sizeOf,db hi,J,I]
theorem AE {E up e n b:Nat} {L:List ag} (h:na P E up e n=true) (aa:ev N σ x= .pointer (some ⟨b,0,none⟩)) (hb:w.heap[b]? =some (.cells L.toArray e (0,0))) (O:L.length=n):
 (execOp (ev N σ) ⟨dst,.convert up E x,ty,pos,af,g⟩).run P w= .ok (.value<|.pointer<|some ⟨b,0,none⟩) w:=by
 obtain ⟨h1,I,J,M,i,hi,V⟩:=Dd h;have Z:w.shape? b=some (e,L.length):=by simp [ym,hb]
 have C:¬n=0:=ab;have U:liesAt P P.depth e (L.length / P.cellsOf e) 0 e 1=true :=by
  have A:P.depth=(2 *(P.types.size+Made.depth)+1)+1:=rfl;rw [A];simp only [liesAt,nF];left;rw [A];simp [rowAt,J,C,O,sameLayout,Nat.div_self M]
 simp [execOp,aa,convert,bu h1,bu I,DX,DW,viewAt,Z,variablesAt,sizeOf,db hi,V,C,U]
theorem I2 {t J e:av} {a:bP} (hu:P.underlying t=some (.pointer e)) (C:(P.info? e).isSome=true) (E:ev N σ x= .pointer (some a)) (I:ev N σ y= .pointer (some a)):
 (execOp (ev N σ) ⟨dst,.binOp .neq t x y J,ty,pos,af,g⟩).run P w= .ok (.value<|.bool false) w:=by
 obtain ⟨i,hi⟩:=mw.1 C;have he:∀ d,(im (d+1) t (.pointer<|some a)<|.pointer<|some a).run P w= .ok true w:=by
  intro d;simp [im,bu hu,sizeOf,db hi,sameAddr]
 have h:(binOp .neq t (.pointer<|some a)<|.pointer<|some a).run P w= .ok (.bool false) w:=by
  have :=he 9999;simp only [binOp];have A:(mi t (.pointer<|some a)<|.pointer<|some a).run P w= .ok true w:=this;simp [A]
 simp [execOp,E,I,eqGuard,h]
theorem F9 {f:dR} {args:Array aV} {A:Array av} {v:ag} (E:∀ v w,(callFunc f #[v]).run P w= .ok (.value v) w) (C:args.toList.map (ev N σ)= [v]):
 (execOp (ev N σ) ⟨dst,.call ⟨.value (.func f),args,A⟩,ty,pos,af,g⟩).run P w= .ok (.value v) w:=by
 have :args.map (ev N σ)= #[v]:=by rw [← qT,iP,C]
 simp [execOp,resolve,ev,mh,invoke,this,E]
structure Bd (T e:av) (w:ah) (b:Nat) (buf:ag) (l:List UInt8):Prop where
 ak:∃ pa,w.heap[b]? =some (.cells [tP pa,buf].toArray T (0,0))∧(pa=none∨pa=some ⟨b,0,none⟩)
 own:w.ownsRow (b+1) e 1 buf l.length (U8 l)
 nil:buf= .slice none 0 0↔l= []
def BF (b:Nat) (A:ag) (k:Nat):Prop :=k=b∨A.ownBlock=some k
end
theorem Bd.lt {T e b:Nat} {w:ah} {A:ag} {l:List UInt8} (h:Bd T e w b A l):b < w.heap.size:=let ⟨_,h,_⟩:=h.ak; (dh.1 h).1
theorem Bd.sc {T e b:Nat} {w:ah} {C:ag} {l:List UInt8} (h:Bd T e w b C l) {k:Nat} (A:BF b C k):b≤k∧k < w.heap.size:=by
 rcases A with rfl | A
 · exact ⟨aP _,h.lt⟩
 · have :=h.own.lt k A; omega
theorem Bd.md {T e b:Nat} {F:Nat→Prop} {w w':ah} {A:ag} {l:List UInt8} (h:Bd T e w b A l) (hm:Md F w w') (C:∀ k,BF b A k→¬F k):Bd T e w' b A l:=by
 obtain ⟨⟨J,h1,E⟩,h3,h4⟩:=h;exact ⟨⟨J,hm.ak h1 (C b<|.inl U),E⟩,bG h3 hm (fun k I=>C k<|.inr I),h4⟩
end Go.Hb
namespace Go.Hb
def eA (P:au) (t:av):Option (List (Nat×Nat)×List ag):=
 match P.info? t,P.underlying t with
 | some it,some (.struct fields)=>
   match it.zero,fields.toList.mapM (fun f=>(P.info? f.type).map fun i=>(f.offset,i.size)) with
   | some z,some pl=>some (pl,z.cells.toList)
   | _,_=>none
 | _,_=>none
def qA (pl:List (Nat×Nat)):List ag→List (Nat×ag)→Option (List ag)
 | A,[]=>some A
 | A,(i,v)::r=>match pl[i]? with
   | some (off,s)=>if (s==1 && v.oneCell' && aE off A.length)=true then qA pl (A.set off v) r else none
   | none=>none
theorem Jq {pl:List (Nat×Nat)} {A L:List ag} {ps:List (Nat×ag)} (h:qA pl A ps=some L):iQ (pl.toArray[·]?) A.toArray ps=some L.toArray:=by
 induction ps generalizing A with
 | nil=>simp only [qA,bL] at h; subst h; rfl
 | cons p ps ih=>
   obtain ⟨i,v⟩:=p;simp only [qA] at h;split at h
   · rename_i off s I;split at h
     · rename_i C;simp only [aZ,beq_iff_eq] at C;obtain ⟨⟨rfl,h1⟩,ho⟩:=C;have M:off < A.length:=bN ho;have J:v.cells= #[v]:=mY h1;have E:pl.toArray[i]? =some (off,1):=by simpa using I
       simp only [iQ,E,J];rw [if_neg (by simp; omega),← ih h];simp
     · cases h
   · cases h
theorem sa {α:Type} {f:α→List ag} {m:Nat} (A:∀ a,(f a).length=m) (l:List α):(l.flatMap f).length=l.length*m:=by
 induction l with
 | nil=>simp
 | cons x l ih=>simp [ih,A,yA,ud]
theorem Hw {α:Type} {f:α→List ag} {m:Nat} (A:∀ a,(f a).length=m) {l:List α} {j c:Nat} {a:α} (h:l[j]? =some a) (C:c < m):(l.flatMap f)[j*m+c]? =(f a)[c]? :=by
 induction l generalizing j with
 | nil=>simp at h
 | cons x l ih=>
   cases j with
   | zero=>
     simp only [iT,bL] at h; subst h;rw [ug,cx,Es,List.getElem?_append_left (by rw [A]; exact C)]
   | succ j=>
     simp only [iS] at h;rw [Es,List.getElem?_append_right (by rw [A,yA]; omega),A,show (j+1)*m+c - m=j*m+c from by rw [yA]; omega];exact ih h
theorem lO {α:Type} {f:α→List ag} {m:Nat} (A:∀ a,(f a).length=m) {h:Array Obj} {a:Option bP} {l:List α} {i:Nat} {e:α} (I:a9 h a (l.flatMap f)) (J:l[i]? =some e):∀ j,j < m→Hb.ay h (bk a) (fo a+i*m+j)=(f e)[j]? :=by
 intro j C;have h1:=Hw A J C;have E:j < (f e).length:=by rw [A]; exact C
 rw [bF E] at h1 ⊢;rw [Nat.add_assoc]; exact I.ay _ _ h1
theorem oq {α:Type} {f:α→List ag} {m:Nat} (A:∀ a,(f a).length=m) (hm:0 < m) {l:List α} (h:0 < l.length):l.flatMap f≠[]:=by
 intro e;have :=sa A l;rw [e] at this;have :0 < l.length*m:=Nat.mul_pos h hm;simp at*; omega
theorem Aw {α:Type} {f:α→List ag} (A:∀ a,(f a).all eQ=true) (l:List α):(l.flatMap f).all eQ=true :=by grind
section
variable {P:au} {N:Fm} {σ:Nat→ag} {w:ah} {dst:Option Nat} {ty:av} {pos :String} {af:Array bR} {g:Option (Nat×Bool)} {x y z:aV} {K:(Nat→ag)→ah→Prop}
theorem eV {t:av} {parts:Array (Nat×aV)} {pl:List (Nat×Nat)} {A L:List ag} {ps:List (Nat×ag)} (h:eA P t=some (pl,A)) (hp:parts.toList.map (fun p=>(p.1,ev N σ p.2))=ps) (C:qA pl A ps=some L):
 (execOp (ev N σ) ⟨dst,.build t parts,ty,pos,af,g⟩).run P w= .ok (.value<|.agg L.toArray) w:=by
 unfold eA at h;split at h
 · rename_i it fields hi hu;split at h
   · rename_i z I E hm;simp only [bL,gW] at h;obtain ⟨rfl,rfl⟩:=h;have hb:P.built t (parts.map fun p=>(p.1,ev N σ p.2)).toList=some L.toArray:=by
      have :=Jq C;simp only [x7] at this;simp only [Ec,hi,hu,E,hm,iP,hp]; exact this
     simp [execOp,run_build w t _ _ hb]
   · cases h
 · cases h
theorem Ft {t:av} {parts:Array (Nat×aV)} {pl:List (Nat×Nat)} {A L:List ag} {ps:List (Nat×ag)} (h:eA P t=some (pl,A)) (hp:parts.toList.map (fun p=>(p.1,ev N σ p.2))=ps) (C:iQ (pl.toArray[·]?) A.toArray ps=some L.toArray):
 (execOp (ev N σ) ⟨dst,.build t parts,ty,pos,af,g⟩).run P w= .ok (.value<|.agg L.toArray) w:=by
 unfold eA at h;split at h
 · rename_i it fields hi hu;split at h
   · rename_i z I E hm;simp only [bL,gW] at h;obtain ⟨rfl,rfl⟩:=h;have hb:P.built t (parts.map fun p=>(p.1,ev N σ p.2)).toList=some L.toArray:=by
      have :=C;simp only [x7] at this;simp only [Ec,hi,hu,E,hm,iP,hp]; exact this
     simp [execOp,run_build w t _ _ hb]
   · cases h
 · cases h
end
end Go.Hb
namespace Go.Hb
section
variable {P:au} {N:Fm} {σ:Nat→ag} {w:ah} {dst:Option Nat} {ty:av} {pos :String} {af:Array bR} {g:Option (Nat×Bool)} {x y z:aV} {K:(Nat→ag)→ah→Prop}
theorem IH {zv:ag} (h1:zv.oneCell'=true) (n:Nat):madeCells zv.cells n=(cW n zv).toArray:=by
 rw [mY h1];apply Array.ext
 · simp [madeCells]
 · intro i A C;simp [madeCells,Nat.mod_one]
theorem fI {t e bytes n:Nat} {J I:bw} {zv:ag} (ad:dG P t e 1 bytes=true) (A:zeroOf P e=some (some [zv])) (h1:zv.oneCell'=true) (ae:ev N σ x= .int J n) (ah:ev N σ y= .int I n) (hb:bytes*n≤281474976710656) (C:n≤maxLen)
 (k:∀ b w',b=w.heap.size→Nw w w'→(∀ B,B≤b→w'.ownsRow B e 1 (.slice (some ⟨b,0,none⟩) n n) n (cW n zv))→K (dn σ dst<|.slice (some ⟨b,0,none⟩) n n) w'):bV P N ⟨dst,.makeSlice t x y,ty,pos,af,g⟩ σ w K:=by
 obtain ⟨hu,i,L,hi,E,ac,aa,ak,aj⟩:=oY ad;have ai:L.cells= #[zv]:=by
  unfold zeroOf at A;simp only [hi,E,fA,bL] at A;exact qT.1<|by simpa using A
 refine k9 (v:=fun b=> .slice (some ⟨b,0,none⟩) n n) (ob:= .cells (cW n zv).toArray e (0,0)) ?_ fun b w' M O V=>k b w' M O fun B Z=>⟨by simp,.inr ⟨b,n,_,U,Z,V,aP _,C,by simp,by simp⟩⟩
 have hr:=run_make (P:=P) w t e i L hu hi E J I n n ab (Int.le_refl _) (by rw [aa,← Int.natCast_mul]; omega)<|by unfold maxLen at C; omega
 rw [ai,ac,Nat.mul_one,Int.toNat_natCast,show madeCells #[zv] n=(cW n zv).toArray by rw [← IH h1,mY h1]] at hr;simp [execOp,ae,ah,hr]
end
end Go.Hb
namespace Go.Hb
section
variable {P:au} {N:Fm} {σ:Nat→ag} {w:ah} {dst:Option Nat} {ty:av} {pos :String} {af:Array bR} {g:Option (Nat×Bool)} {x y z:aV}
theorem F4 {t n len cap i:Nat} {a:Option bP} {k I:bw} (he:cS P t=some n) (A:ev N σ x= .slice a len cap) (C:ev N σ y= .int k (i:Nat)) (E:ev N σ z= .int I (i:Nat)) (h:i≤cap):
 (execOp (ev N σ) ⟨dst,.slice t x none (some y) (some z),ty,pos,af,g⟩).run P w= .ok (.value<|.slice a i i) w:=by
 have h0:(0:Int)≤(i:Int):=ab;unfold cS at he;cases hd:P.underlying t with
 | none=>rw [hd] at he; cases he
 | some d=>
   rw [hd] at he;cases d <;> first | (cases he; done) | skip
   rename_i e;cases hi':P.info? e with
   | none=>simp [hi'] at he
   | some j=>
     have ha:(if i=0 then a else a.map (·.add 0))=a:=by
      split
      · rfl
      · cases a <;> simp [tJ]
     simp only [execOp,nJ,qX,A,C,E,fA,Option.map_none,kr,nK,asIntOf];simp [bu hd,db hi',sizeOf,h0,ha];intro J; omega
end
end Go.Hb
namespace Go.Hb
def ui (h:Array Obj) (b:Nat) (kvs:List (ag×ag)):Prop := ∃ es clock,h[b]? =some (.map es clock)∧es.toList.map (fun e=>(e.key,e.val))=kvs
structure nY (P:au) (k:av) (cU:ag→Prop):Prop where
 check:∀ em w v,cU v→(kq em 10000 k v).run P w= .ok () w
 find:∀ w x es,cU x→(∀ e∈es,cU e.key)→
  ((nH k x es).run P w= .ok none w∧∀ e∈es,e.key≠x)∨∃ j e,(nH k x es).run P w= .ok (some (j,e.val)) w∧es[j]? =some e∧e.key=x
theorem FX {P:au} {k:av} {em:Bool} {n:Nat} {a:Bool} (A:P.underlying k=some .bool) (w:ah):(kq em (n+1) k<|.bool a).run P w= .ok () w:=by
 simp only [kq,ir,bu A,gT,ks]
theorem zb {P:au} {k:av} {em:Bool} {n:Nat} {a:List UInt8} (A:P.underlying k=some .string) (w:ah):(kq em (n+1) k<|str a).run P w= .ok () w:=by
 simp only [str,kq,ir,bu A,gT,ks]
def vH (v:ag):Prop := ∃ (f:Bool) (s:List UInt8),v= .agg #[.bool f,str s]
def mD (P:au) (k:av):Bool:=
 match P.underlying k with
 | some (.struct A)=>match A.toList with
   | [f1,f2]=>f1.name != "_" && f2.name != "_" && f1.offset==0 && f2.offset==1 && !P.stoodInHeld k &&
     (match P.underlying f1.type with | some .bool=>true | _=>false) && (match P.underlying f2.type with | some .string=>true | _=>false)
   | _=>false
 | _=>false
theorem sL {P:au} {t:av} {cs:Array ag} {o:Nat} {v:ag} {d:TypeDesc} (C:P.underlying t=some d) (A:(match d with | .bool | .string=>true | _=>false)=true) (E:cs[o]? =some v) (w:ah):(part t cs o).run P w= .ok v w:=by
 cases d <;> first | (cases A; done) | simp [part,isAgg,bu C,E]
theorem uB {P:au} {k:av} (h:mD P k=true):∃ A f1 f2,P.underlying k=some (.struct A)∧A.toList= [f1,f2]∧f1.name≠ "_" ∧f2.name≠ "_" ∧f1.offset=0∧f2.offset=1∧P.stoodInHeld k=false∧P.underlying f1.type=some .bool∧P.underlying f2.type=some .string:=by grind [mD]
theorem Hc {P:au} {k:av} (h:mD P k=true) {f g:Bool} {s t:List UInt8} (w:ah):(mi k (.agg #[.bool f,str s])<|.agg #[.bool g,str t]).run P w= .ok (decide (f=g∧s=t)) w:=by
 obtain ⟨M,f1,f2,hu,aa,h1,O,U,V,Z,A,C⟩:=uB h;have E:P.fieldsOf k=M:=by simp [Program.fieldsOf,hu]
 have J:∀ (x:Bool) (y:List UInt8) (w:ah),(part f1.type #[.bool x,str y] f1.offset).run P w= .ok (.bool x) w:=fun x y w=>sL A rfl (by rw [U]; rfl) w;have L:∀ (x:Bool) (y:List UInt8) (w:ah),(part f2.type #[.bool x,str y] f2.offset).run P w= .ok (str y) w:=fun x y w=>sL C rfl (by rw [V]; rfl) w;unfold mi;show (im (9998 +1 +1) k _ _).run P w=_;rw [run_equalIn_struct w (9998 +1) k _ _ (by rw [E]; exact hu) Z,E,aa];simp only [Op.eqFields,ir,q9,J,L,gT,run_equalIn_bool' w 9998 f1.type f g A,h1,O,ne_eq,not_false_eq_true,if_true];by_cases I:f=g
 · subst I;have :(im (9998 +1) f2.type (str s)<|str t).run P w= .ok (decide (s=t)) w:=by
    rw [str,str,run_equalIn_string w 9998 f2.type _ _ C,DR,DR];congr 1;by_cases bj:s=t
    · subst bj; simp
    · simp [bj]
   simp only [beq_self_eq_true,Bool.not_true,lk,if_false,this,gT,true_and];by_cases bj:s=t <;> simp [bj]
 · simp [I]
theorem FY {P:au} {k:av} {em:Bool} {n:Nat} (h:mD P k=true) {f:Bool} {s:List UInt8} (w:ah):(kq em (n+1 +1) k<|.agg #[.bool f,str s]).run P w= .ok () w:=by
 obtain ⟨U,f1,f2,hu,O,h1,J,L,M,V,A,C⟩:=uB h;have E:∀ (w:ah),(part f1.type #[.bool f,str s] f1.offset).run P w= .ok (.bool f) w:=fun w=>sL A rfl (by rw [L]; rfl) w;have I:∀ (w:ah),(part f2.type #[.bool f,str s] f2.offset).run P w= .ok (str s) w:=fun w=>sL C rfl (by rw [M]; rfl) w;rw [kq];simp only [ir,bu hu,gT];rw [← Array.forIn_toList,O];simp only [List.forIn_cons,List.forIn_nil,ir,E,I,h1,J,ne_eq,not_false_eq_true,if_true,gT,FX A,zb C,ks]
theorem As {P:au} {k:av} (h:mD P k=true) {f:Bool} {s:List UInt8} (w:ah):∀ (es:List MapEntry) (i:Nat),(∀ e∈es,vH e.key)→
 ((nG k (.agg #[.bool f,str s]) es i).run P w= .ok none w∧∀ e∈es,e.key≠.agg #[.bool f,str s])∨∃ j e,(nG k (.agg #[.bool f,str s]) es i).run P w= .ok (some (i+j,e.val)) w∧es[j]? =some e∧e.key= .agg #[.bool f,str s]
 | [],i,_=> .inl ⟨by simp [nG],fun _ h=>by simp at h⟩
 | e::es,i,hk=>by
   obtain ⟨g,t,ha⟩:=hk e<|by simp
   have he:=Hc h (f:=f) (g:=g) (s:=s) (t:=t) w;rw [← ha] at he;by_cases A:f=g∧s=t
   · obtain ⟨rfl,rfl⟩:=A;refine .inr ⟨0,e,?_,U,ha⟩;simp [nG,he]
   · have L:e.key≠.agg #[.bool f,str s]:=by
      rw [ha]; intro E; simp [str] at E; exact A ⟨E.1.symm,E.2.symm⟩
     rcases As (f:=f) (s:=s) h w es (i+1) (fun e he=>hk e<|by simp [he]) with ⟨h1,C⟩ | ⟨j,e',h1,C,J⟩
     · refine .inl ⟨by simp [nG,he,A,h1],fun e' I=> ?_⟩;rcases ej.1 I with rfl | I
       · exact L
       · exact C e' I
     · refine .inr ⟨j+1,e',?_,C,J⟩;simp only [nG,ir,he,A,gT,decide_false,q9,lk,if_false,h1]; rw [show i+1 +j=i+(j+1) from by omega]
theorem Ih {P:au} {k:av} (h:mD P k=true):nY P k vH where
 check em w v hv:=by obtain ⟨f,s,rfl⟩:=hv; exact FY (n:=9998) h w
 find w x es hx hes:=by
  obtain ⟨f,s,rfl⟩:=hx;obtain ⟨J,f1,f2,hu,_⟩:=uB h;have I:es≠[]→(nH k (.agg #[.bool f,str s]) es).run P w=(nG k (.agg #[.bool f,str s]) es).run P w:=by
   intro A;cases es with
   | nil=>exact absurd rfl A
   | cons e es=>simp [nH,bu hu,nI,Instr.sameNow]
  by_cases A:es= []
  · subst A; exact .inl ⟨by simp [nH,bu hu,nI],fun _ h=>by simp at h⟩
  · rw [I A];rcases As h w es 0 hes with h1 | ⟨j,e,h1,C,E⟩
    · exact .inl h1
    · exact .inr ⟨j,e,by rw [h1,cx],C,E⟩
def zeroV (P:au) (e:av):Option ag:=(P.info? e).bind (·.zero)
theorem Dv {P:au} {e:av} {z:ag} (h:zeroV P e=some z) (w:ah):(zeroValue e).run P w= .ok z w:=by
 unfold zeroV at h;simp only [Option.bind_eq_some_iff] at h;obtain ⟨i,hi,A⟩:=h;simp [zeroValue,db hi,A]
section
variable {P:au} {N:Fm} {σ:Nat→ag} {w:ah} {dst:Option Nat} {ty:av} {pos :String} {af:Array bR} {g:Option (Nat×Bool)} {x y z:aV} {K:(Nat→ag)→ah→Prop}
variable {t k e:av} {cU:ag→Prop} {b:Nat} {kvs:List (ag×ag)} {kx v:ag}
theorem r5 {es:Array MapEntry} (h:es.toList.map (fun e=>(e.key,e.val))=kvs) (A:∀ p∈kvs,cU p.1):∀ e∈es.toList,cU e.key:=by grind [e,he,ri]
theorem run_getObj_map {es:Array MapEntry} {c:Nat} (hr:w.heap[b]? =some (.map es c)):(getObj b).run P w= .ok (.map es c) w:=by
 simp [getObj,ll,hr]
theorem I8 {kvs:List (ag×ag)} (hn:(kvs.map fQ).Nodup) {kx v C:ag} (h1:(kx,v)∈kvs) (A:(kx,C)∈kvs):v=C:=by
 induction kvs with
 | nil=>simp at h1
 | cons p kvs ih=>
   simp only [ei,List.nodup_cons] at hn;rcases ej.1 h1 with h1 | h1
   · rcases ej.1 A with A | A
     · rw [← h1] at A; cases A; rfl
     · rw [← h1] at hn; exact absurd (ri (f:=fQ) A) hn.1
   · rcases ej.1 A with A | A
     · rw [← A] at hn; exact absurd (ri (f:=fQ) h1) hn.1
     · exact ih hn.2 h1 A
theorem IA {ok:Bool} (V:P.underlying t=some (.map k e)) (E:nY P k cU) (hm:ui w.heap b kvs) (O:∀ p∈kvs,cU p.1) (aa:ev N σ x= .map (some b)) (ab:ev N σ y=kx) (hi:cU kx) (hn:(kvs.map fQ).Nodup) (C:(kx,v)∈kvs):
 (execOp (ev N σ) ⟨dst,.lookup t x y ok,ty,pos,af,g⟩).run P w= .ok (.value (if ok then .tuple #[v,.bool true] else v)) w:=by
 obtain ⟨es,c,hr,he⟩:=hm;rcases E.find w kx es.toList hi (r5 he O) with ⟨_,A⟩ | ⟨j,e',h1,A,J⟩
 · rw [← he] at C;obtain ⟨I,M,L⟩:=List.mem_map.1 C;cases L;exact absurd U<|A I M
 · have Z:(kx,e'.val)∈kvs:=by rw [← he,← J]; exact ri (f:=fun e:MapEntry=>(e.key,e.val))<|mo A
   have :=I8 hn C Z;subst this;cases ok <;> simp [execOp,D6,bu V,aa,ab,run_getObj_map hr,E.check _ w kx hi,h1]
theorem IB {ok:Bool} {zv:ag} (J:P.underlying t=some (.map k e)) (O:zeroV P e=some zv) (A:nY P k cU) (hm:ui w.heap b kvs) (I:∀ p∈kvs,cU p.1) (L:ev N σ x= .map (some b)) (M:ev N σ y=kx) (hi:cU kx) (hn:∀ v,(kx,v)∉kvs):
 (execOp (ev N σ) ⟨dst,.lookup t x y ok,ty,pos,af,g⟩).run P w= .ok (.value (if ok then .tuple #[zv,.bool false] else zv)) w:=by
 obtain ⟨es,c,hr,he⟩:=hm;rcases A.find w kx es.toList hi (r5 he I) with ⟨h1,_⟩ | ⟨j,e',h1,C,E⟩
 · cases ok <;> simp [execOp,D6,bu J,L,M,run_getObj_map hr,A.check _ w kx hi,h1,Dv O]
 · exact absurd (by rw [← he,← E]; exact ri (f:=fun e:MapEntry=>(e.key,e.val))<|mo C)<|hn e'.val
end
end Go.Hb
namespace Go.Hb
end Go.Hb
namespace Go.Hb
inductive TD | no | int (k:bw) | str | bool | ptr | de (e n:Nat) | st (offs:List Nat)
def kO {α:Type} :List α→Nat→α→α
 | [],_,d=>d
 | a::_,0,_=>a
 | _::l,n+1,d=>kO l n d
def o4 (T:List (List TD)) (t:Nat):TD:=kO (kO T (t / 16) []) (t % 16) .no
def dC:bw→Nat
 | .i8=>0 | .i16=>1 | .i32=>2 | .i64=>3 | .u8=>4 | .u16=>5 | .u32=>6 | .u64=>7
theorem mS {a b:bw} (h:aM (dC a) (dC b)=true):a=b:=by
 cases a <;> cases b <;> first | rfl | (cases h)
def sC (P:au) (t:Nat):Nat→List Nat→Bool
 | _,[]=>true
 | f,n::l=>(match mN P t f with | some m=>aM m n | none=>false) && sC P t (f+1) l
def xF (P:au) (t:Nat):TD→Bool
 | .no=>true
 | .int k=>match P.underlying t with | some (.int A)=>aM (dC k) (dC A) | _=>false
 | .str=>match P.underlying t with | some .string=>true | _=>false
 | .bool=>match P.underlying t with | some .bool=>true | _=>false
 | .ptr=>match P.underlying t with | some (.pointer _)=>true | _=>false
 | .de e n=>match P.underlying t,cS P t with | some (.slice e'),some n'=>aM e e' && aM n n' | _,_=>false
 | .st C=>sC P t 0 C
def sS (P:au):Nat→List TD→Bool
 | _,[]=>true
 | t,d::l=>xF P t d && sS P (t+1) l
def jl (P:au):Nat→List (List TD)→Bool
 | _,[]=>true
 | t,r::l=>sS P t r && jl P (t+16) l
theorem B6 {P:au} :∀ {l:List TD} {b j:Nat},sS P b l=true→xF P (b+j) (kO l j .no)=true
 | [],b,j,_=>rfl
 | d::l,b,0,h=>(pf.1 h).1
 | d::l,b,j+1,h=>by
   have :=B6 (j:=j) (pf.1 h).2;rw [show b+(j+1)=b+1 +j from by omega]; exact this
theorem C0 {P:au} :∀ {T:List (List TD)} {b i:Nat},jl P b T=true→sS P (b+16 *i) (kO T i [])=true
 | [],b,i,_=>rfl
 | r::T,b,0,h=>(pf.1 h).1
 | r::T,b,i+1,h=>by
   have :=C0 (i:=i) (pf.1 h).2;rw [show b+16 *(i+1)=b+16 +16 *i from by omega]; exact this
theorem xE {P:au} {T:List (List TD)} (h:jl P 0 T=true) (t:Nat):xF P t (o4 T t)=true :=by
 have :=B6 (j:=t % 16)<|C0 (i:=t / 16) h;rw [show 0 +16 *(t / 16)+t % 16=t from by omega] at this;exact this
theorem BD {P:au} {t:Nat} :∀ {l:List Nat} {b f n:Nat},sC P t b l=true→l[f]? =some n→mN P t (b+f)=some n
 | [],b,f,n,_,h=>by simp at h
 | m::l,b,0,n,h,hn=>by
   have h1:=(pf.1 h).1;obtain rfl :m=n:=by simpa using hn
   split at h1
   · rename_i A hm; rw [Nat.add_zero,hm,bM h1]
   · cases h1
 | m::l,b,f+1,n,h,hn=>by
   have :=BD (f:=f) (pf.1 h).2<|by simpa using hn
   rw [show b+(f+1)=b+1 +f from by omega]; exact this
section
variable {P:au} {T:List (List TD)} (hT:jl P 0 T=true) {t:Nat}
include hT
theorem GH (h:o4 T t= .str):P.underlying t=some .string:=by
 have :=xE hT t;rw [h] at this;change (match P.underlying t with | some .string=>true | _=>false)=true at this;split at this
 · assumption
 · cases this
theorem GF {e n:Nat} (h:o4 T t= .de e n):P.underlying t=some (.slice e)∧cS P t=some n:=by
 have :=xE hT t;rw [h] at this;change (match P.underlying t,cS P t with | some (.slice e'),some n'=>aM e e' && aM n n' | _,_=>false)=true at this;split at this
 · rename_i h1 A;simp only [aZ] at this;rw [h1,A,bM this.1,bM this.2]; exact ⟨rfl,rfl⟩
 · cases this
theorem GG {l:List Nat} {f n:Nat} (h:o4 T t= .st l) (hn:l[f]? =some n):mN P t f=some n:=by
 have :=xE hT t;rw [h] at this;have :=BD (show sC P t 0 l=true from this) hn;rwa [cx] at this
end
def JG (k:bw) (n:Int):Prop :=match k with
 | .i64=> -9223372036854775808≤n∧n≤9223372036854775807
 | .u8=>0≤n∧n≤255
 | .i32=> -2147483648≤n∧n≤2147483647
 | .u32=>0≤n∧n≤4294967295
 | .u64=>0≤n∧n≤18446744073709551615
 | _=>False
theorem B5 {k:bw} {n:Int} (h:JG k n):k.wrap n=n:=by
 cases k <;> first | exact gS h | exact xT h | exact xQ h | exact Du h | exact gB h | exact h.elim
inductive n3 | no | v (x:ag) | vc (x:ag) (c:Prop)
def sM (k:bw) (n:Int):n3:=match k with
 | .i64=> .vc (.int .i64 n)<|-9223372036854775808≤n∧n≤9223372036854775807
 | .u8=> .vc (.int .u8 n)<|0≤n∧n≤255
 | .i32=> .vc (.int .i32 n)<|-2147483648≤n∧n≤2147483647
 | .u32=> .vc (.int .u32 n)<|0≤n∧n≤4294967295
 | .u64=> .vc (.int .u64 n)<|0≤n∧n≤18446744073709551615
 | _=> .no
def vD (op:BinOp) (k:bw) (a b:Int):n3:=match op with
 | .lss=> .v<|.bool<|decide (a < b)
 | .leq=> .v<|.bool<|decide (a≤b)
 | .gtr=> .v<|.bool<|decide (b < a)
 | .geq=> .v<|.bool<|decide (b≤a)
 | .eql=> .v<|.bool<|decide (a=b)
 | .neq=> .v<|.bool<|decide (a≠b)
 | .add=>sM k<|a+b
 | .sub=>sM k<|a - b
 | _=> .no
def CN (op:BinOp) (l m:List UInt8):n3:=match op with
 | .eql=> .v<|.bool<|decide (l=m)
 | .neq=> .v<|.bool<|decide (l≠m)
 | .add=> .vc (str<|l++m)<|l.length+m.length≤9223372036854775807
 | _=> .no
def j4 (v:ag):n3:=match v with
 | .int k n=> .v<|.int k n
 | .bool b=> .v<|.bool b
 | .string ⟨⟨l⟩⟩=> .v<|str l
 | .pointer a=> .v<|.pointer a
 | .slice a n c=> .v<|.slice a n c
 | .map r=> .v<|.map r
 | .func f a b=> .v<|.func f a b
 | .nilFunc=> .v .nilFunc
 | .iface t v=> .v<|.iface t v
 | .nilIface=> .v .nilIface
 | .agg c=> .v<|.agg c
 | .tuple c=> .v<|.tuple c
 | _=> .no
theorem Hz {v x:ag} (h:j4 v= .v x):v=x:=by
 unfold j4 at h;split at h <;> cases h <;> rfl
theorem HA {v x:ag} {c:Prop} (h:j4 v= .vc x c):False:=by
 unfold j4 at h;split at h <;> cases h
def oH (T:List (List TD)) (N:Fm) (σ:Nat→ag) (o:Op):n3:=match o with
 | .move x=>j4<|ev N σ x
 | .assign x=>j4<|ev N σ x
 | .pick c x y=>match ev N σ c with
   | .bool true =>j4<|ev N σ x
   | .bool false =>j4<|ev N σ y
   | _=> .no
 | .nilCheck x=>match ev N σ x with
   | .pointer (some a)=> .v<|.pointer<|some a
   | _=> .no
 | .extract x i=>match ev N σ x with
   | .tuple ⟨vs⟩=>match vs[i]? with
     | some v=> .v v
     | none=> .no
   | _=> .no
 | .fieldAddr s x f=>match ev N σ x,o4 T s with
   | .pointer (some ⟨b,off,none⟩),.st l=>match l[f]? with
     | some n=> .v<|.pointer<|some ⟨b,off+n,none⟩
     | none=> .no
   | _,_=> .no
 | .binOp op t x y _=>match ev N σ x,ev N σ y with
   | .int k a,.int k' b=>cond (aM (dC k)<|dC k') (vD op k a b) .no
   | .string ⟨⟨l⟩⟩,.string ⟨⟨m⟩⟩=>CN op l m
   | _,_=> .no
 | .unOp .not _ x=>match ev N σ x with
   | .bool b=> .v<|.bool<|!b
   | _=> .no
 | .call ⟨.builtin .len,⟨[x]⟩,⟨[t]⟩⟩=>match ev N σ x,o4 T t with
   | .string ⟨⟨l⟩⟩,.str=> .v<|.int .i64 l.length
   | .slice a n c,.de _ _=> .v<|.int .i64 n
   | _,_=> .no
 | _=> .no
def wx (P:au) (N:Fm) (σ:Nat→ag) (o:aA) (w:ah):n3→Prop
 | .no=>True
 | .v x=>(execOp (ev N σ) o).run P w= .ok (.value x) w
 | .vc x c=>c→(execOp (ev N σ) o).run P w= .ok (.value x) w
theorem sd {P:au} {N:Fm} {σ:Nat→ag} {o:aA} {w:ah} {v:ag} (h:(execOp (ev N σ) o).run P w= .ok (.value v) w):wx P N σ o w (j4 v):=by
 cases hf:j4 v with
 | no=>trivial
 | v x=>rw [← Hz hf]; exact h
 | vc x c=>exact (HA hf).elim
theorem sF {P:au} {T:List (List TD)} (hT:jl P 0 T=true) {N:Fm} {σ:Nat→ag} (d:Option Nat) (o:Op) (ty:av) (pos :String) (af:Array bR) (g:Option (Nat×Bool)) (w:ah):wx P N σ ⟨d,o,ty,pos,af,g⟩ w (oH T N σ o):=by
 unfold oH;split
 · exact sd mv
 · exact sd aR
 · split
   · exact sd<|l5<|by assumption
   · exact sd<|oL<|by assumption
   · trivial
 · split
   · exact nc<|by assumption
   · trivial
 · split
   · split
     · exact xt (by assumption)<|by simpa using by assumption
     · trivial
   · trivial
 · split
   · split
     · exact fa (GG hT (by assumption)<|by assumption)<|by assumption
     · trivial
   · trivial
 · split
   · rename_i k a E b A C;cases hk:aM (dC k) (dC E)
     · trivial
     · obtain rfl :=mS hk;show wx _ _ _ _ _ (vD _ _ _ _);unfold vD;split
       · exact lt A C
       · exact le A C
       · exact gt A C
       · exact ge A C
       · exact Ai A C
       · exact By A C
       · unfold sM; split <;> first | trivial | exact fun h=>ad A C<|B5 h
       · unfold sM; split <;> first | trivial | exact fun h=>sb A C<|B5 h
       · trivial
   · rename_i l m A C;unfold CN;split
     · exact Aj A C
     · exact Bz A C
     · exact fun h=>cc A C h
     · trivial
   · trivial
 · split
   · exact no<|by assumption
   · trivial
 · split
   · exact Bf (GH hT<|by assumption) U<|by assumption
   · exact vT (GF hT<|by assumption).1 U<|by assumption
   · trivial
 · trivial
inductive Pt | c (c:bJ) | l (ops:Array aA) (l:List aA) | x (e:bl)
inductive Kn | sq (y:bJ) | bk (id:Nat)
def eh (P:au) (N:Fm):List Kn→(bl→(Nat→ag)→ah→Prop)→bl→(Nat→ag)→ah→Prop
 | [],Q=>Q
 | .sq y::st,Q=>gQ (fun σ w=>bA P N y (eh P N st Q) σ w)<|eh P N st Q
 | .bk id::st,Q=>kJ id<|eh P N st Q
@[reducible] def At (P:au) (N:Fm) (Q:bl→(Nat→ag)→ah→Prop) (w:ah) (p:Pt) (st:List Kn) (σ:Nat→ag):Prop :=match p with
 | .c c=>bA P N c (eh P N st Q) σ w
 | .l ops l=>bQ P N ops (eh P N st Q) l σ w
 | .x e=>eh P N st Q e σ w
inductive Out | no | at (p:Pt) (st:List Kn) (σ:Nat→ag) (c:Option Prop)
def andG (c:Prop):Option Prop→Option Prop
 | none=>some c
 | some d=>some<|c∧d
def optG:Option Prop→Prop
 | none=>True
 | some c=>c
theorem rH {c:Prop} {d:Option Prop} (h:optG (andG c d)):c∧optG d:=by
 cases d
 · exact ⟨h,trivial⟩
 · exact h
inductive E7 | no | go (p:Pt) (st:List Kn) (σ:Nat→ag) (c:Option Prop)
def stepG (T:List (List TD)) (N:Fm) (p:Pt) (st:List Kn) (σ:Nat→ag) (c:Option Prop):E7:=match p with
 | .x .normal=>match st with
   | .sq y::st=> .go (.c y) st σ c
   | .bk _::st=> .go (.x .normal) st σ c
   | []=> .no
 | .x .ret=>match st with
   | _::st=> .go (.x .ret) st σ c
   | []=> .no
 | .x (.exit i)=>match st with
   | .sq _::st=> .go (.x<|.exit i) st σ c
   | .bk j::st=>cond (aM i j) (.go (.x .normal) st σ c)<|.go (.x<|.exit i) st σ c
   | []=> .no
 | .x _=> .no
 | .c (.seq x y)=> .go (.c x) (.sq y::st) σ c
 | .c (.block id x)=> .go (.c x) (.bk id::st) σ c
 | .c .skip => .go (.x .normal) st σ c
 | .c .ret=> .go (.x .ret) st σ c
 | .c (.exit i)=> .go (.x<|.exit i) st σ c
 | .c (.region id ⟨l⟩ false)=>cond (ke N.r l) (.go (.l ⟨l⟩ l) st σ c) .no
 | .c (.cond x a b)=>match ev N σ x with
   | .bool true => .go (.c a) st σ c
   | .bool false => .go (.c b) st σ c
   | _=> .no
 | .c _=> .no
 | .l ops []=> .go (.x .normal) st σ c
 | .l ops (⟨some d,o,ty,pos,af,none⟩::r)=>match oH T N σ o with
   | .v x=> .go (.l ops r) st (aU σ d x) c
   | .vc x c'=> .go (.l ops r) st (aU σ d x)<|andG c' c
   | .no=> .no
 | .l ops (⟨some d,o,ty,pos,af,some (j,want)⟩::r)=>match dJ ops j with
   | some t=>cond (aE t N.n) (match σ t with
     | .bool b=>cond (b==want) (match oH T N σ o with
       | .v x=> .go (.l ops r) st (aU σ d x) c
       | .vc x c'=> .go (.l ops r) st (aU σ d x)<|andG c' c
       | .no=> .no) (.go (.l ops r) st (aU σ d undef) c)
     | .tuple ⟨[]⟩=> .go (.l ops r) st (aU σ d undef) c
     | _=> .no) .no
   | none=> .no
 | .l ops _=> .no
def gN (T:List (List TD)) (N:Fm):Nat→Pt→List Kn→(Nat→ag)→Option Prop→Out
 | 0,p,st,σ,c=> .at p st σ c
 | n+1,p,st,σ,c=>match stepG T N p st σ c with
   | .go p st σ c=>gN T N n p st σ c
   | .no=> .no
section
variable {P:au} {T:List (List TD)} {N:Fm} {Q:bl→(Nat→ag)→ah→Prop} {w:ah} {σ σ':Nat→ag} {p p':Pt} {st st':List Kn} {c c':Option Prop} {n:Nat}
theorem KU (hT:jl P 0 T=true) (h:stepG T N p st σ c= .go p' st' σ' c') (A:optG c') (C:At P N Q w p' st' σ'):optG c∧At P N Q w p st σ:=by
 unfold stepG at h;split at h
 · split at h
   · cases h; exact ⟨A,tn C⟩
   · cases h; exact ⟨A,bn C⟩
   · cases h
 · split at h
   · rename_i k _;cases h; cases k
     · exact ⟨A,tr C⟩
     · exact ⟨A,br C⟩
   · cases h
 · split at h
   · cases h; exact ⟨A,te _ C⟩
   · rename_i i _ j _;cases hij:aM i j
     · rw [hij] at h; cases h;exact ⟨A,Fp (fun e=>by rw [e] at hij; simp at hij) C⟩
     · rw [hij] at h; cases h;obtain rfl :=bM hij;exact ⟨A,be C⟩
   · cases h
 · cases h
 · cases h; exact ⟨A,sq fun K U=>Dq (fun e σ w O=>by cases e <;> first | exact U _ _ O | exact O) C⟩
 · cases h; exact ⟨A,ak C⟩
 · cases h; exact ⟨A,CD C⟩
 · cases h; exact ⟨A,rt C⟩
 · cases h; exact ⟨A,ext C⟩
 · rename_i id l;cases hr:ke N.r l
   · rw [hr] at h; cases h
   · rw [hr] at h; cases h;exact ⟨A,rg hr C⟩
 · split at h
   · cases h; exact ⟨A,ct (by assumption) C⟩
   · cases h; exact ⟨A,cf (by assumption) C⟩
   · cases h
 · cases h
 · cases h; exact ⟨A,nl C⟩
 · rename_i ops d o ty pos af r;have bt:=sF (P:=P) hT (N:=N) (σ:=σ) (some d) o ty pos af none w;split at h
   · rename_i x E;rw [E] at bt; cases h;exact ⟨A,Hb.p bt C⟩
   · rename_i x q E;rw [E] at bt; cases h;obtain ⟨L,M⟩:=rH A;exact ⟨M,Hb.p (bt L) C⟩
   · cases h
 · rename_i ops d o ty pos af j want r;have bt:=sF (P:=P) hT (N:=N) (σ:=σ) (some d) o ty pos af (some (j,want)) w;split at h
   · rename_i t J;cases hb:aE t N.n
     · rw [hb] at h; cases h
     · rw [hb] at h;simp only [cond_true] at h;split at h
       · rename_i b I;cases hw:(b==want)
         · rw [hw] at h; cases h;exact ⟨A,sk J hb I hw C⟩
         · rw [hw] at h;simp only [cond_true] at h;obtain rfl :b=want:=by simpa using hw
           split at h
           · rename_i x E;rw [E] at bt; cases h;exact ⟨A,pg J hb I bt C⟩
           · rename_i x q E;rw [E] at bt; cases h;obtain ⟨L,M⟩:=rH A;exact ⟨M,pg J hb I (bt L) C⟩
           · cases h
       · rename_i I;cases h;exact ⟨A,CE J hb I C⟩
       · cases h
   · cases h
 · cases h
theorem iL (hT:jl P 0 T=true):∀ (n:Nat) (p:Pt) (st:List Kn) (σ:Nat→ag) (c:Option Prop),gN T N n p st σ c= .at p' st' σ' c'→optG c'→At P N Q w p' st' σ'→optG c∧At P N Q w p st σ
 | 0,p,st,σ,c,h,hc,hk=>by cases h; exact ⟨hc,hk⟩
 | n+1,p,st,σ,c,h,hc,hk=>by
   simp only [gN] at h;split at h
   · rename_i C;obtain ⟨h1,A⟩:=iL hT n _ _ _ _ h hc hk;exact KU hT C h1 A
   · cases h
end
inductive E2 | no | at (fuel:Nat) (listed:Array Bool) (σ:Nat→ag) (c:Option Prop)
inductive E5 | no | go (σ:Nat→ag) (c:Option Prop)
def CS (T:List (List TD)) (N:Fm) (g:Bool) (ops:Array aA) (i:Nat) (σ:Nat→ag) (c:Option Prop):E5:=match ops[i]? with
 | some ⟨some d,o,_,_,_,none⟩=>match oH T N σ o with
   | .v x=> .go (aU σ d x) c
   | .vc x c'=> .go (aU σ d x)<|andG c' c
   | .no=> .no
 | some ⟨some d,o,_,_,_,some (j,want)⟩=>cond g (match dJ ops j with
   | some t=>cond (aE t N.n) (match σ t with
     | .bool b=>cond (b==want) (match oH T N σ o with
       | .v x=> .go (aU σ d x) c
       | .vc x c'=> .go (aU σ d x)<|andG c' c
       | .no=> .no) (.go (aU σ d undef) c)
     | .tuple ⟨[]⟩=> .go (aU σ d undef) c
     | _=> .no) .no
   | none=> .no) .no
 | _=> .no
def kV (T:List (List TD)) (N:Fm) (g:Bool) (ops:Array aA):List Nat→Nat→Array Bool→(Nat→ag)→Option Prop→E2
 | [],fuel,listed,σ,c=> .at fuel listed σ c
 | _::_,0,_,_,_=> .no
 | i::is,fuel+1,listed,σ,c=>match CS T N g ops i σ c with
   | .go σ c=>kV T N g ops is fuel (listed.setIfInBounds i true) σ c
   | .no=> .no
def kB (fr:Array Bool→Nat→Bool):List Nat→Array Bool→Bool
 | [],_=>true
 | i::is,listed=>fr listed i && kB fr is (listed.setIfInBounds i true)
section
variable {P:au} {T:List (List TD)} {N:Fm} {g:Bool} {ops:Array aA} {fr:Array Bool→Nat→Bool} {fuel':Nat} {listed':Array Bool} {σ':Nat→ag} {c':Option Prop} {w:ah}
theorem sX (hT:jl P 0 T=true) (W:Nat→Array Bool→(Nat→ag)→Prop)
 (H1:∀ {i d o ty pos af v fuel listed σ},ops[i]? =some ⟨some d,o,ty,pos,af,none⟩→fr listed i=true→(∀ w,(execOp (ev N σ) ⟨some d,o,ty,pos,af,none⟩).run P w= .ok (.value v) w)→W fuel (listed.setIfInBounds i true) (aU σ d v)→W (fuel+1) listed σ)
 (M:g=true→∀ {i d o ty pos af v fuel listed σ j want t},ops[i]? =some ⟨some d,o,ty,pos,af,some (j,want)⟩→fr listed i=true→dJ ops j=some t→aE t N.n=true→σ t= .bool want→(∀ w,(execOp (ev N σ) ⟨some d,o,ty,pos,af,some (j,want)⟩).run P w= .ok (.value v) w)→W fuel (listed.setIfInBounds i true) (aU σ d v)→W (fuel+1) listed σ)
 (V:g=true→∀ {i d o ty pos af fuel listed σ j want t b},ops[i]? =some ⟨some d,o,ty,pos,af,some (j,want)⟩→fr listed i=true→dJ ops j=some t→aE t N.n=true→σ t= .bool b→(b==want)=false→W fuel (listed.setIfInBounds i true) (aU σ d undef)→W (fuel+1) listed σ)
 (Z:g=true→∀ {i d o ty pos af fuel listed σ j want t},ops[i]? =some ⟨some d,o,ty,pos,af,some (j,want)⟩→fr listed i=true→dJ ops j=some t→aE t N.n=true→σ t=undef→W fuel (listed.setIfInBounds i true) (aU σ d undef)→W (fuel+1) listed σ):
 ∀ (is:List Nat) (fuel:Nat) (listed:Array Bool) (σ:Nat→ag) (c:Option Prop),kV T N g ops is fuel listed σ c= .at fuel' listed' σ' c'→kB fr is listed=true→optG c'→W fuel' listed' σ'→optG c∧W fuel listed σ
 | [],fuel,listed,σ,c,h,_,C,E=>by cases h; exact ⟨C,E⟩
 | i::is,0,listed,σ,c,h,_,C,E=>by cases h
 | i::is,fuel+1,listed,σ,c,h,hf,C,E=>by
   simp only [kB,aZ] at hf;simp only [kV] at h;split at h
   · rename_i aa c2 A;obtain ⟨C,E⟩:=sX hT W H1 M V Z is fuel _ _ _ h hf.2 C E;unfold CS at A;split at A
     · rename_i d o ty pos af hi;have bt:=fun w=>sF hT (N:=N) (σ:=σ) (some d) o ty pos af none w;split at A
       · rename_i x I;rw [I] at bt; cases A;exact ⟨C,H1 hi hf.1 bt E⟩
       · rename_i x q I;rw [I] at bt; cases A;obtain ⟨O,U⟩:=rH C;exact ⟨U,H1 hi hf.1 (fun w=>bt w O) E⟩
       · cases A
     · rename_i d o ty pos af j want hi;have bt:=fun w=>sF hT (N:=N) (σ:=σ) (some d) o ty pos af (some (j,want)) w;cases hg:g
       · rw [hg] at A; cases A
       · rw [hg] at A;simp only [cond_true] at A;split at A
         · rename_i t L;cases hb:aE t N.n
           · rw [hb] at A; cases A
           · rw [hb] at A;simp only [cond_true] at A;split at A
             · rename_i b J;cases hw:(b==want)
               · rw [hw] at A; cases A;exact ⟨C,V hg hi hf.1 L hb J hw E⟩
               · rw [hw] at A;simp only [cond_true] at A;obtain rfl :b=want:=by simpa using hw
                 split at A
                 · rename_i x I;rw [I] at bt; cases A;exact ⟨C,M hg hi hf.1 L hb J bt E⟩
                 · rename_i x q I;rw [I] at bt; cases A;obtain ⟨O,U⟩:=rH C;exact ⟨U,M hg hi hf.1 L hb J (fun w=>bt w O) E⟩
                 · cases A
             · rename_i J;cases A;exact ⟨C,Z hg hi hf.1 L hb J E⟩
             · cases A
         · cases A
     · cases A
   · cases h
variable {Q:bl→(Nat→ag)→ah→Prop} {S:ah→Prop} {r fuel:Nat} {listed:Array Bool} {σ:Nat→ag}
theorem HE (hT:jl P 0 T=true) (is:List Nat) (h:kV T N true ops is fuel listed σ none= .at fuel' listed' σ' c') (J:S w) (k:cg P N ops Q S fuel' listed' σ' w) (M:optG c') (A:kB (et N.F ops) is listed=true):cg P N ops Q S fuel listed σ w:=
 (sX hT (fun fuel listed σ=>cg P N ops Q S fuel listed σ w) (fun hi A L k=>hp _ hi A (fun w _=>L w) J k) (fun _=>fun hi A C E I L k=>bT _ hi A C E I (fun w _=>L w) J k) (fun _=>fun hi A C E I hb k=>AL _ hi A C E I hb J k) (fun _=>fun hi A C E I k=>HO _ hi A C E I J k) is fuel listed σ none h A M k).2
theorem HG (hT:jl P 0 T=true) (is:List Nat) (h:kV T N false ops is fuel listed σ none= .at fuel' listed' σ' c') (C:S w) (k:cq P N ops Q S r fuel' listed' σ' w) (E:optG c') (A:kB (fun l i=>ou N.F ops l r i) is listed=true):cq P N ops Q S r fuel listed σ w:=
 (sX (g:=false) hT (fun fuel listed σ=>cq P N ops Q S r fuel listed σ w) (fun hi A I k=>lq _ hi A (fun w _=>I w) C k) (fun h=>di h) (fun h=>di h) (fun h=>di h) is fuel listed σ none h A E k).2
theorem HF (hT:jl P 0 T=true) (is:List Nat) (h:kV T N false ops is fuel listed σ none= .at fuel' listed' σ' c') (C:S w) (k:cq P N ops Q S r fuel' listed' σ' w) (E:optG c') (A:kB (fun l i=>mP N.F ops l r i) is listed=true):cq P N ops Q S r fuel listed σ w:=
 (sX (g:=false) hT (fun fuel listed σ=>cq P N ops Q S r fuel listed σ w) (fun hi A I k=>qp _ hi A I (fun _=>C) k) (fun h=>di h) (fun h=>di h) (fun h=>di h) is fuel listed σ none h A E k).2
end
def uE (P:au) (f:dR):Bool:=match P.funcs[f]? with
 | some fn=> !(fn.name== "runtime.NumGoroutine") && !fn.body.isNone
 | none=>false
theorem FT {P:au} {f:dR} (h:uE P f=true):gr P f:=by
 unfold uE at h;split at h
 · simp only [aZ,jm] at h;exact uF (by assumption) h.1 h.2
 · cases h
section
variable {P:au} {N:Fm} {σ:Nat→ag} {w:ah} {dst:Option Nat} {ty:av} {pos :String} {af:Array bR} {g:Option (Nat×Bool)} {x y z:aV} {K:(Nat→ag)→ah→Prop}
theorem bo {f:dR} {args:Array aV} {A:Array av} {L:List ag} {R:ag→ah→Prop} (hr:bq P f L.toArray w R) (C:args.toList.map (ev N σ)=L)
 (k:∀ v w',R v w'→K (dn σ dst v) w') (E:uE P f=true :=by kernel_rfl):bV P N ⟨dst,.call ⟨.value (.func f),args,A⟩,ty,pos,af,g⟩ σ w K:=cl (FT E) hr C k
theorem aw {t b off :Nat} {v:ag} (C:ev N σ x= .pointer (some ⟨b,off,none⟩)) (A:ay w.heap b off =some v) (hu:cY P t=some none:=by kernel_rfl):
 (execOp (ev N σ) ⟨dst,.load t x,ty,pos,af,g⟩).run P w= .ok (.value v) w:=ld hu C A
theorem bD (n:Nat) {t E:av} {a b:Int} (A:ev N σ x= .int .i64 a:=by exact U) (C:ev N σ y= .int .i64 b:=by exact U) (h:a+b=(n:Int)∧n≤9223372036854775807:=by omega):
 (execOp (ev N σ) ⟨dst,.binOp .add t x y E,ty,pos,af,g⟩).run P w= .ok (.value<|.int .i64 (n:Int)) w:=ur (n:Int) A C<|xO h.1 h.2
theorem oT (n:Nat) {t E:av} {a b:Int} (A:ev N σ x= .int .i64 a:=by exact U) (C:ev N σ y= .int .i64 b:=by exact U) (h:a - b=(n:Int)∧n≤9223372036854775807:=by omega):
 (execOp (ev N σ) ⟨dst,.binOp .sub t x y E,ty,pos,af,g⟩).run P w= .ok (.value<|.int .i64 (n:Int)) w:=xf (n:Int) A C<|xO h.1 h.2
variable {ops:Array aA} {Q:bl→(Nat→ag)→ah→Prop} {S:ah→Prop} {r fuel d t b off :Nat} {listed:Array Bool} {v:ag} {W:ah} {l:List aA} {id:Nat}
theorem dx (i:Nat) (h:(ops[i]?,ev N σ x)=(some ⟨some d,.load t x,ty,pos,af,none⟩,.pointer (some ⟨b,off,none⟩))) (A:Wk W w) (C:ay W.heap b off =some v) (k:cg P N ops Q (fun w'=>Wk W w') fuel (listed.setIfInBounds i true) (aU σ d v) w)
 (E:et N.F ops listed i=true :=by kernel_rfl) (hu:cY P t=some none:=by kernel_rfl):cg P N ops Q (fun w'=>Wk W w') (fuel+1) listed σ w:=hp i (congrArg fQ h) E (fun _ hw=>ld hu (congrArg Prod.snd h)<|hw.ay C) A k
theorem gM (i:Nat) (h:(ops[i]?,ev N σ x)=(some ⟨some d,.load t x,ty,pos,af,none⟩,.pointer (some ⟨b,off,none⟩))) (A:Wk W w) (C:ay W.heap b off =some v) (k:cq P N ops Q (fun w'=>Wk W w') r fuel (listed.setIfInBounds i true) (aU σ d v) w)
 (E:ou N.F ops listed r i=true :=by kernel_rfl) (hu:cY P t=some none:=by kernel_rfl):cq P N ops Q (fun w'=>Wk W w') r (fuel+1) listed σ w:=lq i (congrArg fQ h) E (fun _ hw=>ld hu (congrArg Prod.snd h)<|hw.ay C) A k
theorem ie (h:Wk w w.drew→cg P N l.toArray Q (fun w'=>Wk w w') l.length (nE l.length false) σ w.drew) (hr:ke N.r l=true :=by exact U) (hm:P.follows .mixedOrders=true :=by kernel_rfl):bA P N (.region id l.toArray true) Q σ w:=bj _ hr hm (Md.refl _ _).drew<|h (Md.refl _ _).drew
theorem oB (r:Nat) (h:Wk w w.drew→cq P N l.toArray Q (fun w'=>Wk w w') r l.length (nE l.length false) σ w.drew) (hr:ke N.r l=true :=by exact U) (hm:P.follows .mixedOrders=true :=by kernel_rfl):bA P N (.region id l.toArray true) Q σ w:=oA _ r hr hm (Md.refl _ _).drew<|h (Md.refl _ _).drew
end
end Go.Hb
end
section
namespace Go.Hb
open Go.ChangeShapes Go.WideShapes Go.ChangeAt
theorem Wk.frame {w w':ah} (h:Wk w w') (may:MemPlace→Prop):w.keptBut w' may:=by
 refine ⟨h.os,h.output,fun i hi=> ?_⟩;rw [h.dE i hi id];split <;> simp_all
theorem Wk.same {w w':ah} (h:Wk w w') {p:MemPlace} (hp:p.block < w.heap.size):w.sameAt w' p:=by
 cases p with
 | cell b o=>exact World.cell?_of_block (w:=w)<|h.dE b hp id
 | map b=>exact h.dE b hp id
section
variable {H:Type} {enc:av×ag→H} {P:au} {W W':ah}
theorem C7 (J:laidOutB P=true) (I:Wk W W'):∀ (C:List av) (vs:List ag) (E:List (DataW H)) (ps:List MemPlace),C.all (fun t=>P.readableRec t && decide (t < P.types.size))=true→(∀ x∈ps,x.block < W.heap.size)→
 DY enc P W 0 (fun _=>true) true C vs E ps→DY enc P W' 0 (fun b=>decide (b < W.heap.size)) true C vs E ps
 | [],[],[],_,_,_,h=>h
 | t::C,v::vs,d::E,_,hp,hlt,⟨p,q,h1,h2,he⟩=>by
   subst he;rw [nQ,aZ,aZ] at hp;exact ⟨p,q,WideElems.Trod_stays J hp.1.1 (of_decide_eq_true hp.1.2) h1 (fun x A=>I.same<|hlt x<|pB _ A) (fun x A=>decide_eq_true<|hlt x<|pB _ A),
    C7 J I C vs E q hp.2 (fun x A=>hlt x<|List.mem_append_right _ A) h2,rfl⟩
 | [],_::_,_,_,_,_,h=>h.elim
 | [],[],_::_,_,_,_,h=>h.elim
 | _::_,[],_,_,_,_,h=>h.elim
 | _::_,_::_,[],_,_,_,h=>h.elim
theorem Jy {f:dR} {fn:fM} {s:ChangeSpec} {args:Array ag} {A gs:List (DataW H)} {before:List MemPlace} {O:av} (I:DataW.Whole enc P fn.params.toList s.vars false W args.toList A gs before) (M:s.vars= [])
 (C:s.fn H (A++gs)= {results:= [.lit (.bool true)],args:=A}) (hr:fn.resultTypes= #[O]) (hb:P.underlying O=some .bool) (V:laidOutB P=true) (hp:fn.params.toList.all (fun t=>P.readableRec t && decide (t < P.types.size))=true)
 (h:bq P f args W (fun v w'=>v= .bool true∧Wk W w')):Calls P f args W fun e W'=> ∃ v,e= .returned v∧s.post enc P fn false true false false W args v W':=by
 refine kp h fun e W' ⟨v,he,aa,L⟩=>⟨v,he,?_⟩
 subst aa;have J:=I;obtain ⟨p,q,U,E,rfl,_,_⟩:=I;rw [M] at E;obtain ⟨rfl,rfl⟩:=trodVars_none E;have Z:∀ x∈p,x.block < W.heap.size:=fun x ab=>J.lt x<|by simpa using ab
 refine ⟨_,_,_,[],p,[],J,?_,?_,?_,L.frame _,fun h=>by cases h⟩
 · rw [C,hr];exact trodAll_cons_mk (shut_bool hb _) trodAll_mk0
 · rw [C];exact C7 V L _ _ _ _ hp Z U
 · rw [C,M]; rfl
end
end Go.Hb
namespace Go.Hb
open Go.Proofs.YtiagknaekaknhaaGreatDoor
theorem FD {H:Type} {l:List (DataW H)} (A:Rows.uptoSmall H l=true):Rows.uptoBulkAll l≤1048576:=of_decide_eq_true A
end Go.Hb
namespace Go.Hb
open Go.Proofs.YtiagknaekaknhaaGreatDoor Go.ChangeShapes Go.WideShapes Go.ChangeAt
structure E1 (P:au) (t:av) (m:Nat) {X:Type} (R:ah→List ag→X→Prop) (B:X→Nat):Prop where
 cells:P.cellsOf t=m
 op:∀ {H:Type} (enc:av×ag→H) (W:ah) (fuel:Nat) (cs:List ag) (d:DataW H) (p:List MemPlace),DataW.trod enc P W 0 (fun _=>true) true fuel t cs=some (d,p)→cs.length=m∧∃ x,R W cs x∧B x≤Rows.uptoBulk d
section
variable {P:au} {t t0 t1 e:av} {m m0 m1:Nat} {X X0 X1:Type} {R:ah→List ag→X→Prop} {B:X→Nat} {R0:ah→List ag→X0→Prop} {B0:X0→Nat} {R1:ah→List ag→X1→Prop} {B1:X1→Nat}
theorem BO (C:P.underlying t=some .string) (A:P.cellsOf t=1):E1 P t 1 (fun _ cs (x:List UInt8)=>cs= [str x]) (fun x=>x.length+1) where
 cells:=A
 op enc W fuel cs d p h:=by
  obtain ⟨s,rfl,E,hw⟩:=DataW.trod_string C h;cases E;exact ⟨U,s.data.toList,U,by simp [Rows.uptoBulk]⟩
end
end Go.Hb
end
section
namespace Go.Hb
open Go.Proofs
def gA:List (List TD):= [
 [.no,.no,.no,.no,.no,.no,.no,.st [0,1,2,3],.st [0,1,2,3],.str,.str,.str,.no,.st [0,1],.st [0,1],.no],
 [.no,.no,.st [0],.st [0],.no,.no,.no,.de 100 2,.de 143 2,.no,.st [0,1,2,3],.st [0,1,2,3],.no,.no,.no,.de 9 1],
 [.no,.no,.no,.no,.no,.no,.no,.no,.de 77 2,.de 81 2,.no,.st [0,1,2,3],.st [0,1,2,3],.no,.no,.de 3 1],
 [.no,.no,.no,.no,.no,.no,.no,.no,.no,.no,.no,.st [0,1,2,3,4],.st [0,1,2,3,4],.de 64 1,.no,.no],
 [.de 4 1,.no,.no,.de 47 1,.st [0,1,2],.st [0,1,2],.no,.no,.no,.st [0,7],.st [0,7],.no,.st [0,1],.st [0,1],.no,.de 84 2],
 [.st [0,1],.st [0,1],.no,.st [0,1],.st [0,1],.no,.no,.no,.no,.no,.no,.no,.no,.no,.no,.st [0,1,2]],
 [.st [0,1,2],.no,.no,.no,.st [0,1],.no,.no,.no,.st [0,1,2],.st [0,1,2],.no,.no,.no,.st [0,1,2],.no,.no],
 [.st [0],.st [0],.no,.no,.no,.no,.no,.de 188 1,.de 186 5,.de 192 7,.st [0,1,2,3,8,9,10,11,12],.st [0,1,2,3,8,9,10,11,12],.no,.no,.no,.de 262 2],
 [.st [0,1,2,15],.st [0,1,2,15],.no,.no,.no,.st [0,1,6],.st [0,1,6],.no,.no,.no,.no,.no,.no,.de 167 2,.st [0,1],.st [0,1]],
 [.no,.no,.no,.no,.no,.no,.de 5 1,.st [0,1,2,3],.st [0,1,2,3],.no,.no,.st [0,1],.st [0,1],.no,.no,.no],
 [.no,.no,.no,.no,.no,.no,.no,.st [0,1],.no,.no,.no,.no,.no,.no,.no,.no],
 [.no,.no,.no,.st [0,1,2,3,4],.st [0,1,2,3,4],.no,.st [0,13],.st [0,13],.no,.st [0,1,2,3,4],.st [0,1,2,3,4],.no,.de 117 1,.no,.no,.st [0,1,2,3,4,5,6]],
 [.st [0,1,2,3,4,5,6],.no,.st [0,1,2,3,4,5],.st [0,1,2,3,4,5],.no,.no,.st [0],.st [0],.no,.st [0,1],.st [0,1],.de 202 2,.no,.no,.no,.no],
 [.no,.no,.no,.no,.no,.st [0,1],.st [0,1],.no,.no,.no,.no,.no,.no,.no,.no,.no],
 [.no,.st [0,1,2],.st [0,1,2],.no,.no,.no,.no,.no,.no,.no,.st [0,1,2],.st [0,1,2],.no,.de 257 2,.no,.no],
 [.no,.no,.no,.st [0,1,2,3,4,5,6],.st [0,1,2,3,4,5,6],.no,.no,.no,.no,.no,.st [0,1],.st [0,1],.no,.no,.no,.no],
 [.st [0,1],.st [0,1],.no,.st [0,1],.st [0,1],.st [0,1],.st [0,1],.no,.no,.no,.no,.no,.no,.no,.no,.no],
 [.no,.no,.no,.no,.no,.no,.no,.no,.no,.no,.no,.no,.no,.no,.no,.no],
 [.no,.no,.no,.no,.no,.st [0,1,2],.st [0,1,2],.no,.no,.no,.no,.no,.no,.no,.no,.no],
 [.no,.no,.no,.no,.no,.no,.no,.no,.no,.no,.no,.no,.de 117 1,.no,.no,.no],
 [.st [0,1,2,3,4,5],.st [0,1,2,3,4,5],.no,.no,.no,.st [0,1,2,3,4],.st [0,1,2,3,4],.no,.no,.no,.no,.no,.no,.no,.no,.no],
 [.no,.no,.no,.no,.no,.no,.no,.de 341 1,.no,.st [0,1,2,3,4,5,6],.st [0,1,2,3,4,5,6],.no,.st [0],.st [0],.no,.no],
 [.no,.no,.no,.no,.de 52 1,.no,.no,.no,.no,.no,.no,.no,.no,.no,.no,.no],
 [.no,.no,.no,.no,.no,.no,.no,.no,.no,.no,.no,.no,.no,.no,.no,.no],
 [.no,.no,.no,.no,.no,.no,.no,.no,.no,.st [0,1,2,3,4,5,6],.st [0,1,2,3,4,5,6],.no,.no,.de 402 2,.st [0,1,2],.st [0,1,2]],
 [.no,.st [0,1],.st [0,1],.st [0,1],.st [0,1],.no,.no,.no,.no,.no,.no,.de 436 4,.st [0],.st [0],.no,.no],
 [.no,.no,.no,.no,.no,.no,.no,.no,.no,.st [0,1,2,3,4],.st [0,1,2,3,4],.no,.no,.st [0,1],.st [0,1],.no],
 [.de 199 1,.no,.no,.no,.no,.no,.no,.no,.no,.no,.no,.no,.no,.no,.no,.no],
 [.no,.no,.no,.no,.no,.no,.no,.no,.no,.no,.no,.no,.no,.st [0],.st [0],.no],
 [.no,.no,.no,.no,.no,.no,.no,.no,.no,.no,.no,.no,.no,.no,.no,.no],
 [.no,.no,.no,.no,.no,.no,.no,.no,.no,.no,.no,.no,.no,.no,.no,.no],
 [.de 462 1,.de 501 2,.st [0,1,2],.st [0,1,2],.st [0,1],.st [0,1],.no,.no,.no,.no,.no,.no,.no,.no,.no,.no],
 [.no,.no,.no,.no,.no,.no,.no,.no,.no,.st [0,1],.st [0,1],.no,.no,.st [0,1,2,3],.st [0,1,2,3],.no],
 [.no,.no,.no,.no,.no,.no,.no,.st [0,1,2,3,4,5,6,7,8,9,10],.st [0,1,2,3,4,5,6,7,8,9,10],.no,.no,.st [0,1],.st [0,1],.st [0],.st [0],.no],
 [.no,.st [0,1,2,3,4],.st [0,1,2,3,4],.de 550 4,.no,.st [0,1,2,3],.st [0,1,2,3],.no,.no]]
theorem gR:jl ar 0 gA=true :=ai
section
variable {N:Fm} {Q:bl→(Nat→ag)→ah→Prop} {w:ah} {σ σ':Nat→ag} {p':Pt} {st st':List Kn} {c':Option Prop}
theorem cm {x:bJ} {A:bJ} (n:Nat) (h:gN gA N n (.c x) [] σ none= .at (.c A) st' σ' c') (k:bA ar N A (eh ar N st' Q) σ' w) (C:optG c':=by first | exact trivial | (simp only [optG,andG]; omega)):bA ar N x Q σ w:=(iL gR n _ _ _ _ h C k).2
theorem aT {x:bJ} {C:Array aA} {A:List aA} (n:Nat) (h:gN gA N n (.c x) [] σ none= .at (.l C A) st' σ' c') (k:bQ ar N C (eh ar N st' Q) A σ' w) (E:optG c':=by first | exact trivial | (simp only [optG,andG]; omega)):bA ar N x Q σ w:=(iL gR n _ _ _ _ h E k).2
theorem jH {x:bJ} {e':bl} (n:Nat) (h:gN gA N n (.c x) [] σ none= .at (.x e') [] σ' c') (k:Q e' σ' w) (A:optG c':=by first | exact trivial | (simp only [optG,andG]; omega)):bA ar N x Q σ w:=(iL gR n _ _ _ _ h A k).2
theorem cn {x:bJ} {A:bJ} (n:Nat) (h:gN gA N n (.c x) st σ none= .at (.c A) st' σ' c') (k:bA ar N A (eh ar N st' Q) σ' w) (C:optG c':=by first | exact trivial | (simp only [optG,andG]; omega)):bA ar N x (eh ar N st Q) σ w:=(iL gR n _ _ _ _ h C k).2
theorem aF {x:bJ} {C:Array aA} {A:List aA} (n:Nat) (h:gN gA N n (.c x) st σ none= .at (.l C A) st' σ' c') (k:bQ ar N C (eh ar N st' Q) A σ' w) (E:optG c':=by first | exact trivial | (simp only [optG,andG]; omega)):bA ar N x (eh ar N st Q) σ w:=(iL gR n _ _ _ _ h E k).2
theorem aH {x:bJ} {e':bl} (n:Nat) (h:gN gA N n (.c x) st σ none= .at (.x e') [] σ' c') (k:Q e' σ' w) (A:optG c':=by first | exact trivial | (simp only [optG,andG]; omega)):bA ar N x (eh ar N st Q) σ w:=(iL gR n _ _ _ _ h A k).2
theorem aI {ops:Array aA} {l:List aA} {A:bJ} (n:Nat) (h:gN gA N n (.l ops l) st σ none= .at (.c A) st' σ' c') (k:bA ar N A (eh ar N st' Q) σ' w) (C:optG c':=by first | exact trivial | (simp only [optG,andG]; omega)):bQ ar N ops (eh ar N st Q) l σ w:=(iL gR n _ _ _ _ h C k).2
theorem aj {ops:Array aA} {l:List aA} {C:Array aA} {A:List aA} (n:Nat) (h:gN gA N n (.l ops l) st σ none= .at (.l C A) st' σ' c') (k:bQ ar N C (eh ar N st' Q) A σ' w) (E:optG c':=by first | exact trivial | (simp only [optG,andG]; omega)):bQ ar N ops (eh ar N st Q) l σ w:=(iL gR n _ _ _ _ h E k).2
theorem ax {ops:Array aA} {l:List aA} {e':bl} (n:Nat) (h:gN gA N n (.l ops l) st σ none= .at (.x e') [] σ' c') (k:Q e' σ' w) (A:optG c':=by first | exact trivial | (simp only [optG,andG]; omega)):bQ ar N ops (eh ar N st Q) l σ w:=(iL gR n _ _ _ _ h A k).2
theorem dw {e:bl} {A:bJ} (n:Nat) (h:gN gA N n (.x e) st σ none= .at (.c A) st' σ' c') (k:bA ar N A (eh ar N st' Q) σ' w) (C:optG c':=by first | exact trivial | (simp only [optG,andG]; omega)):eh ar N st Q e σ w:=(iL gR n _ _ _ _ h C k).2
theorem fD {e:bl} {C:Array aA} {A:List aA} (n:Nat) (h:gN gA N n (.x e) st σ none= .at (.l C A) st' σ' c') (k:bQ ar N C (eh ar N st' Q) A σ' w) (E:optG c':=by first | exact trivial | (simp only [optG,andG]; omega)):eh ar N st Q e σ w:=(iL gR n _ _ _ _ h E k).2
theorem bh {e:bl} {e':bl} (n:Nat) (h:gN gA N n (.x e) st σ none= .at (.x e') [] σ' c') (k:Q e' σ' w) (A:optG c':=by first | exact trivial | (simp only [optG,andG]; omega)):eh ar N st Q e σ w:=(iL gR n _ _ _ _ h A k).2
variable {ops:Array aA} {S:ah→Prop} {r fuel fuel':Nat} {listed listed':Array Bool}
theorem aN (is:List Nat) (h:kV gA N true ops is fuel listed σ none= .at fuel' listed' σ' c') (A:S w) (k:cg ar N ops Q S fuel' listed' σ' w) (C:optG c':=by first | exact trivial | (simp only [optG,andG]; omega)) (E:kB (et N.F ops) is listed=true :=by kernel_rfl):cg ar N ops Q S fuel listed σ w:=HE gR is h A k C E
theorem eu (is:List Nat) (h:kV gA N false ops is fuel listed σ none= .at fuel' listed' σ' c') (A:S w) (k:cq ar N ops Q S r fuel' listed' σ' w) (C:optG c':=by first | exact trivial | (simp only [optG,andG]; omega)) (E:kB (fun l i=>ou N.F ops l r i) is listed=true :=by kernel_rfl):cq ar N ops Q S r fuel listed σ w:=HG gR is h A k C E
theorem qe (is:List Nat) (h:kV gA N false ops is fuel listed σ none= .at fuel' listed' σ' c') (A:S w) (k:cq ar N ops Q S r fuel' listed' σ' w) (C:optG c':=by first | exact trivial | (simp only [optG,andG]; omega)) (E:kB (fun l i=>mP N.F ops l r i) is listed=true :=by kernel_rfl):cq ar N ops Q S r fuel listed σ w:=HF gR is h A k C E
end
end Go.Hb
end
namespace Go.Hb
theorem drop_cons {α:Type} {l:List α} {i:Nat} (d:α) (h:i < l.length):l.drop i=l.getD i d::l.drop (i+1):=by simp_all
def kK (c:UInt8) (l:List UInt8):Int:=if l.idxOf c < l.length then (l.idxOf c:Int) else -1
theorem Ld {h:Array Obj} {a:Option bP} {l:List UInt8} {i:Nat} (A:a9 h a (U8 l)) (hi:i < l.length):Hb.ay h (bk a) (fo a+i*1)=some (.int .u8 (l.getD i 0).toNat):=by
 refine A.uy ?_;unfold U8;rw [fP,bF hi,bY,bF hi]; rfl
theorem Lf {l:List UInt8} (h:0 < l.length):U8 l≠[]:=by
 intro e;have :=congrArg List.length e;rw [rB,List.length_nil] at this;omega
theorem BQ {w:ah} {B e:Nat} {v:ag} {l:List UInt8} {x:UInt8} (h:w.ownsRow B e 1 v (l.length+1) (U8 l++ [.int .u8 x.toNat])):w.ownsRow B e 1 v (l++ [x]).length (U8<|l++ [x]):=by
 rw [cC,yF]; exact h
def Tg (w:ah) (B e n:Nat) (v:ag) (xs:List ag):Prop :=
 ∃ a A,v= .slice a n A∧n≤A∧(xs= []∨∃ b cur z,a=some ⟨b,0,none⟩∧B≤b∧w.heap[b]? =some (.cells cur e z)∧∀ (j:Nat) u,xs[j]? =some u→cur[j]? =some u)
theorem Tg.oF {w:ah} {B e size n:Nat} {v:ag} {xs:List ag} (h:w.ownsRow B e size v n xs):Tg w B e n v xs:=by
 have h0:=h;rcases h.2 with ⟨rfl,rfl⟩ | ⟨g,cap,cur,rfl,hb,A,_,_,_,C⟩
 · exact ⟨none,0,U,aP _,.inl<|jV<|by simpa using h.1⟩
 · refine ⟨_,cap,U,(bU h0).1,.inr ⟨g,cur,_,U,hb,A,fun j u hu=> ?_⟩⟩;rw [← C,iU] at hu;split at hu
   · simpa using hu
   · cases hu
theorem Tg.cells {w:ah} {B e n:Nat} {v:ag} {xs:List ag} (h:Tg w B e n v xs):∃ a A,v= .slice a n A∧a9 w.heap a xs:=by
 obtain ⟨a,A,rfl,_,h | ⟨b,cur,z,rfl,_,C,E⟩⟩:=h
 · subst h; exact ⟨a,A,rfl,a9.nil _ _⟩
 · refine ⟨_,A,U,fun _=>rfl,fun j u hu=> ?_⟩;show Hb.ay w.heap b (0 +j)=_;rw [cx,bg C]; exact E j u hu
theorem Tg.pO {w:ah} {B e n A:Nat} {a:Option bP} {xs:List ag} (h:Tg w B e n (.slice a n A) xs):n≤A∧a9 w.heap a xs:=by
 obtain ⟨L,c',E,C,O⟩:=id h;obtain ⟨M,c2,I,J⟩:=h.cells;cases E; cases I;exact ⟨C,J⟩
theorem Tg.slice {w:ah} {B e n:Nat} {v:ag} {xs:List ag} (h:Tg w B e n v xs):∃ a A,v= .slice a n A:=let ⟨a,A,hv,_⟩:=h; ⟨a,A,hv⟩
theorem Tg.md {F:Nat→Prop} {w w':ah} {B e n:Nat} {v:ag} {xs:List ag} (h:Tg w B e n v xs) (hm:Md F w w') (I:∀ k,F k→∀ cur z,w.heap[k]?≠some (.cells cur e z)):Tg w' B e n v xs:=by
 obtain ⟨a,C,rfl,E,h | ⟨b,cur,z,rfl,hb,A,L⟩⟩:=h
 · exact ⟨a,C,U,E,.inl h⟩
 · exact ⟨_,C,U,E,.inr ⟨b,cur,z,U,hb,by rw [hm.dE b (dh.1 A).1 (fun J=>I b J cur z A)]; exact A,L⟩⟩
theorem Tg.wk {w w':ah} {B e n:Nat} {v:ag} {xs:List ag} (h:Tg w B e n v xs) (hm:Wk w w'):Tg w' B e n v xs:=h.md hm fun _ A=>A.elim
theorem gx {w:ah} {B e e' size n:Nat} {v:ag} {xs:List ag} (h:w.ownsRow B e size v n xs) (I:e≠e'):∀ k,v.ownBlock=some k→∀ cur z,w.heap[k]?≠some (.cells cur e' z):=by
 intro k C cur z A;rcases h.2 with ⟨rfl,_⟩ | ⟨g,cap,J,rfl,_,E,_⟩
 · simp [gk] at C
 · simp only [gk,bL] at C;subst C;rw [E] at A;simp only [bL,Eb] at A;exact I A.2.1
theorem Tg.mono {w:ah} {B B' e n:Nat} {v:ag} {xs:List ag} (h:Tg w B e n v xs) (A:B'≤B):Tg w B' e n v xs:=by grind [Tg]
def fl (b:UInt8):Bool:=decide (33≤b.toNat∧b.toNat≠127)
def fV (w:List UInt8):Bool:=w.all fl
def nf (w:List UInt8):Bool:=decide (1≤w.length∧w.length≤64∧fV w=true)
theorem j5 {α:Type} {l:List α} {i:Nat} {d:α} (h:i < l.length):l.getD i d∈l:=by
 rw [bY,bF h]; exact List.getElem_mem h
theorem IS {α:Type} {l:List α} {x:α} (d:α) (h:x∈l):∃ i,i < l.length∧l.getD i d=x:=by
 obtain ⟨i,hi,rfl⟩:=List.mem_iff_getElem.1 h;exact ⟨i,hi,by rw [bY,bF hi]; rfl⟩
theorem yL {α:Type} {f:α→Bool} {l:List α} {i:Nat} (d:α) (h:i < l.length) (h1:f (l.getD i d)=false):l.all f=false :=by
 rw [List.all_eq_false]; exact ⟨_,j5 h,by rw [h1]; exact di⟩
theorem yM {α:Type} {f:α→Bool} {l:List α} (d:α) (h:∀ i,i < l.length→f (l.getD i d)=true):l.all f=true :=by
 rw [El]; intro x A; obtain ⟨i,hi,rfl⟩:=IS d A; exact h i hi
theorem pN {w:List UInt8} {i:Nat} (h:i < w.length) (h1:fl (w.getD i 0)=false):fV w=false :=yL 0 h h1
theorem rJ {w:List UInt8} (h:∀ i,i < w.length→fl (w.getD i 0)=true):fV w=true :=yM 0 h
def lets (s:List UInt8):List UInt8:=s.foldl (fun a b=>if b∈a then a else a++ [b]) []
def letE (s:List UInt8):List UInt8×Nat:=if s= []∨fV s=false then ([],21) else (lets s,0)
theorem lV {s:List UInt8} {i:Nat} (h:i < s.length):lets (s.take<|i+1)=if s.getD i 0∈lets (s.take i) then lets (s.take i) else lets (s.take i)++ [s.getD i 0]:=by
 unfold lets;rw [C2 s i 0 h,List.foldl_append]; rfl
theorem vR (s:List UInt8):(lets s).length≤s.length:=by
 have key:∀ (s a:List UInt8),(s.foldl (fun a b=>if b∈a then a else a++ [b]) a).length≤a.length+s.length:=by
  intro s
  induction s with
  | nil=>intro a; simp
  | cons b s ih=>
    intro a;rw [iR,dL];split
    · have :=ih a; omega
    · have :=ih (a++ [b]); rw [cC,px] at this; omega
 have :=key s [];simpa [lets] using this
def marksOf (a:List UInt8):List ag:=(fw 256).map fun k=> .bool<|decide (eS k∈a)
theorem Bs (a:List UInt8):(marksOf a).length=256:=by simp [marksOf]
theorem IJ (a:List UInt8) (b:UInt8):(marksOf a)[b.toNat]? =some (.bool<|decide (b∈a)):=by
 have :=ky b;unfold marksOf;rw [fP,rf ab];simp
theorem IL (a:List UInt8) (b:UInt8):(marksOf a).set b.toNat (.bool true)=marksOf (a++ [b]):=by
 apply pq;intro k;rw [List.getElem?_set,Bs];unfold marksOf;rw [fP,fP];by_cases C:k < 256
 · rw [rf C];simp only [fA];have he:(eS k=b)↔b.toNat=k:=by
    constructor
    · rintro rfl; simp; omega
    · rintro rfl; simp
   by_cases h:b.toNat=k
   · have A:=he.2 h;simp [h,C,A]
   · have A:¬eS k=b:=fun e=>h<|he.1 e;simp [h,A]
 · have :(fw 256)[k]? =none:=gF<|by simp; omega
   have hb:=ky b;rw [this];simp; omega
theorem IK:marksOf []=cW 256 (.bool false):=by
 unfold marksOf;apply pq;intro k;rw [fP,List.getElem?_replicate];by_cases A:k < 256
 · rw [rf A]; simp [A]
 · rw [gF (by simp; omega)]; simp [A]
theorem Bd.new {T e b:Nat} {w:ah} (h:w.heap[b]? =some (.cells [tP none,.slice none 0 0].toArray T (0,0))):Bd T e w b (.slice none 0 0) []:=
 ⟨⟨none,h,.inl rfl⟩,gE _ _ _ _,by simp⟩
theorem Bd.step {T e b:Nat} {w0 w w':ah} {A:ag} {l:List UInt8} (h:Bd T e w b A l) (C:Wk w0 w) (E:Md (BF b A) w w') (hb:w0.heap.size≤b):Wk w0 w':=
 Md.trans' C E fun k J I=>by have :=h.sc I; omega
theorem Bd.KV {T e b:Nat} {w0 w w':ah} {A:ag} {l:List UInt8} (h:Bd T e w b A l) (C:Wk w0 w) (E:Md (fun k=>A.ownBlock=some k) w w') (hb:w0.heap.size≤b):Wk w0 w':=
 Md.trans' C E fun k J I=>by have :=h.sc (.inr I); omega
end Go.Hb
section
namespace Go.Hb
def kz (P:au) (t:av):Option (Nat×Nat):=
 match P.underlying t with
 | some (.array n e)=>(P.info? e).map fun i=>(n,i.size)
 | _=>none
section
variable {P:au} {N:Fm} {σ:Nat→ag} {w:ah} {dst:Option Nat} {ty:av} {pos :String} {af:Array bR} {g:Option (Nat×Bool)} {x y:aV}
theorem jc {t n A b off :Nat} {k:bw} {i:Int} (he:kz P t=some (n,A)) (C:ev N σ x= .pointer (some ⟨b,off,none⟩)) (E:ev N σ y= .int k i) (h0:0≤i∧i < n):
 (execOp (ev N σ) ⟨dst,.indexAddr t x y,ty,pos,af,g⟩).run P w= .ok (.value<|.pointer<|some ⟨b,off+i.toNat*A,none⟩) w:=by
 unfold kz at he;cases hd:P.underlying t with
 | none=>rw [hd] at he; cases he
 | some d=>
   rw [hd] at he;cases d <;> first | (cases he; done) | skip
   rename_i m e;cases hi:P.info? e with
   | none=>simp [hi] at he
   | some j=>
     simp only [hi,fA,bL,gW] at he;obtain ⟨rfl,rfl⟩:=he;simp [execOp,D4,nL,C,E,asIntOf,bu hd,h0.1,h0.2,sizeOf,db hi,fU]
end
theorem IM {h:Array Obj} {b:Nat} {a:List UInt8} (A:aB h b (marksOf a)) (c:UInt8):Hb.ay h b (0 +((c.toNat:Nat):Int).toNat*1)=some (.bool<|decide (c∈a)):=by
 rw [A.ay,show 0 +((c.toNat:Nat):Int).toNat*1=c.toNat from by omega]; exact IJ a c
theorem IN {h:Array Obj} {b:Nat} {a:List UInt8} {c:UInt8} (A:aB h b ((marksOf a).set (0 +((c.toNat:Nat):Int).toNat*1)<|.bool true)):aB h b (marksOf<|a++ [c]):=by
 rw [show 0 +((c.toNat:Nat):Int).toNat*1=c.toNat from by omega,IL] at A; exact A
end Go.Hb
end
section
namespace Go.Hb
section
variable {P:au} {N:Fm} {σ:Nat→ag} {w:ah} {fn:fM} {R:ag→ah→Prop}
theorem IF {t b off :Nat} {v:ag} (hu:cY P t=some none) (A:Hb.ay w.heap b off =some v):(loadVar t ⟨b,off,none⟩).run P w= .ok v w:=by
 have C:w.cell? ⟨b,off,none⟩=some v:=by rw [jx]; exact A
 unfold cY at hu;cases hd:P.underlying t with
 | none=>rw [hd] at hu; cases hu
 | some d=>
   rw [hd] at hu;cases d <;> first
    | (simp only [gG] at hu; obtain ⟨_,_,h⟩:=hu; cases h; done)
    | simp [loadVar,isAgg,bu hd,run_load,C]
theorem IG {t n b off :Nat} {cs:List ag} (hu:cY P t=some (some n)) (I:cs.length=n) (C:∀ j,j < n→Hb.ay w.heap b (off+j)=cs[j]?):(loadVar t ⟨b,off,none⟩).run P w= .ok (.agg cs.toArray) w:=by
 have E:(loadCells ⟨b,off,none⟩ n).run P w= .ok cs.toArray w:=by
  subst I;refine run_loadCells_list (P:=P) w ⟨b,off,none⟩ cs fun j v A=> ?_;rw [fU,jx];exact (C j (cI.1 A).1).trans A
 unfold cY at hu;cases hd:P.underlying t with
 | none=>rw [hd] at hu; cases hu
 | some d=>
   rw [hd] at hu;cases hi:P.info? t with
   | none=>simp [Ed,hi] at hd
   | some i=>
     rw [hi] at hu;cases d <;> first
      | (cases hu; done)
      | (simp only [fA,bL] at hu; subst hu
         simp [loadVar,isAgg,bu hd,sizeOf,db hi,E])
def gX (P:au) (N:Fm) (σ:Nat→ag) (w:ah):ResultVar→ag→Prop
 | .tmp t,v=>ev N σ (.tmp t)=v
 | .cell a t,v=> ∃ ad,ev N σ (.tmp a)= .pointer (some ad)∧(loadVar t ad).run P w= .ok v w
theorem kU {t:Tmp} :gX P N σ w (.tmp t) (ev N σ<|.tmp t):=rfl
theorem ji {a t b off :Nat} {v:ag} (C:ev N σ (.tmp a)= .pointer (some ⟨b,off,none⟩)) (hu:cY P t=some none) (A:Hb.ay w.heap b off =some v):gX P N σ w (.cell a t) v:=⟨_,C,IF hu A⟩
theorem iK {a t n b off :Nat} {cs:List ag} (E:ev N σ (.tmp a)= .pointer (some ⟨b,off,none⟩)) (hu:cY P t=some (some n)) (C:cs.length=n) (A:∀ j,j < n→Hb.ay w.heap b (off+j)=cs[j]?):gX P N σ w (.cell a t) (.agg cs.toArray):=⟨_,E,IG hu C A⟩
def ij (tmps:Array ag):ResultVar→Sem ag
 | .tmp t=>pure<|tmps.getD t undef
 | .cell a t=>do loadVar t (← asAddr (tmps.getD a undef))
theorem gz {r:ResultVar} {v:ag} (h:gX P N σ w r v):(ij (act N σ).tmps r).run P w= .ok v w:=by
 cases r with
 | tmp t=>
   show ll P (pure<|(act N σ).tmps.getD t undef) w=_;rw [m8]; simp only [gX] at h; rw [h]; rfl
 | cell a t=>
   obtain ⟨ad,h1,A⟩:=h;show ll P (do loadVar t (← asAddr ((act N σ).tmps.getD a undef))) w=_;rw [m8,h1];simp [asAddr,A]
theorem Cd {tmps:Array ag} {r:ResultVar} {v:ag} (h:fn.results= #[r]) (h1:(ij tmps r).run P w= .ok v w):(results fn tmps).run P w= .ok v w:=by
 have A:(results fn tmps)=(do let vs ← #[r].mapM (ij tmps); pure (if h:vs.size=1 then vs[0] else .tuple vs)):=by
  unfold results; rw [h]; rfl
 rw [A]; simp [yq,h1]
theorem sU {tmps:Array ag} {r s:ResultVar} {v u:ag} (h:fn.results= #[r,s]) (h1:(ij tmps r).run P w= .ok v w) (A:(ij tmps s).run P w= .ok u w):(results fn tmps).run P w= .ok (.tuple #[v,u]) w:=by
 have C:(results fn tmps)=(do let vs ← #[r,s].mapM (ij tmps); pure (if h:vs.size=1 then vs[0] else .tuple vs)):=by
  unfold results; rw [h]; rfl
 rw [C]; simp [yq,h1,A]
theorem r7 {r:ResultVar} {v:ag} (h:fn.results= #[r]) (h1:gX P N σ w r v) (A:R v w):fin P fn N R .ret σ w:=⟨v,Cd h (gz h1),A⟩
theorem r8 {r s:ResultVar} {v u:ag} (h:fn.results= #[r,s]) (h1:gX P N σ w r v) (A:gX P N σ w s u) (C:R (.tuple #[v,u]) w):fin P fn N R .ret σ w:=⟨_,sU h (gz h1) (gz A),C⟩
end
end Go.Hb
end
section
namespace Go.Hb
def eN (P:au) (N:Fm) (c:bJ) (B:bl→Act→ah→Prop) (σ:Nat→ag) (w:ah):Prop :=c.wpIn (fe N.r) 0 P B (act N σ) w
def qb (N:Fm) (B:bl→Act→ah→Prop):bl→(Nat→ag)→ah→Prop :=fun e σ w=>B e (act N σ) w
section
variable {P:au} {N:Fm} {B:bl→Act→ah→Prop} {σ:Nat→ag} {w:ah}
theorem cP {x y:bJ} (h:eN P N x (Exit.then (y.wpIn (fe N.r) 0 P B) B) σ w):eN P N (.seq x y) B σ w:=wpIn_seq h
theorem bB {y:bJ} (h:eN P N y B σ w):qb N (Exit.then (y.wpIn (fe N.r) 0 P B) B) .normal σ w:=h
theorem wG {y:Act→ah→Prop} (h:qb N B .ret σ w):qb N (Exit.then y B) .ret σ w:=h
theorem Ce (h:qb N B .ret σ w):eN P N .ret B σ w:=wpIn_ret h
theorem Ky {x y:bJ} (A:(Nat→ag)→ah→Prop) (h:eN P N x (Exit.then (fun a w=> ∃ σ,a=act N σ∧A σ w) B) σ w) (I:∀ σ w,A σ w→eN P N y B σ w):eN P N (.seq x y) B σ w:=by
 refine wpIn_seq<|wpIn_mono h ?_;intro e a w C;cases e with
 | normal=>obtain ⟨σ,rfl,E⟩:=C; exact I _ _ E
 | _=>exact C
theorem zh {A:(Nat→ag)→ah→Prop} (h:A σ w):qb N (Exit.then (fun a w=> ∃ σ,a=act N σ∧A σ w) B) .normal σ w:=⟨σ,rfl,h⟩
theorem Kg {c:bJ} {L:List (Nat×ag)} (h:Sl σ L) (A:eN P N c B (o7 σ L) w):eN P N c B σ w:=by rw [tv h] at A; exact A
theorem cO {c:bJ} (h:bA P N c (qb N B) σ w):eN P N c B σ w:=by
 unfold bA at h;refine wpIn_mono h ?_;intro e a w A;cases e with
 | panic c=>obtain ⟨σ,rfl,C⟩:=A; exact C σ fun _ _=>rfl
 | outgrown=>exact A.elim
 | _=>obtain ⟨σ,rfl,C⟩:=A; exact C
end
theorem m6 (fn:fM) (args:List ag) (F:List Nat) (hn:bc args.length fn.ntmps=true):({tmps:=args.toArray++nE (fn.ntmps - args.toArray.size) undef,defers:= []} :Act)=act ⟨fn.ntmps,[],F,none⟩ (dm args):=by
 have C:args.length≤fn.ntmps:=by simpa using hn
 refine rC U fun i=> ?_;rw [iX];simp only [dm,bY,eD];by_cases h1:i < args.length
 · rw [DD (by simpa using h1),if_pos ab];simp [h1]
 · rw [DE (by simpa using h1)];simp only [eD,DG];by_cases A:i < fn.ntmps
   · rw [if_pos ab,if_pos A,gF ab]; rfl
   · rw [if_neg ab,if_neg A]
abbrev Bm (P:au) (fn:fM) (R:ag→ah→Prop):bl→Act→ah→Prop :=bodyPostM eO 0 P fn (fun e w'=> ∃ v,e= .returned v∧R v w')
theorem Aa {P:au} {f:dR} {N:Nat} {fn:fM} {c:bJ} {args:List ag} {w:ah} {R:ag→ah→Prop} (F:List Nat) (C:P.funcs[f]? =some fn) (hb:fn.body=some c)
 (A:fn.ntmps=N) (hn:bc args.length N=true) (h:eN P ⟨N,[],F,none⟩ c (Bm P fn R) (dm args) w):bq P f args.toArray w R:=by
 subst A;refine callsIn_wide.1<|callsIn_of_wp_marks (F:=eO) (n:=0) C hb trivial ?_;rw [m6 fn args F hn];exact h
section
variable {P:au} {n:Nat} {F:List Nat} {σ:Nat→ag} {w:ah} {fn:fM} {R:ag→ah→Prop}
theorem Ip {e:bl} (he:e= .ret∨e= .normal) {v:ag} (hr:(results fn (act ⟨n,[],F,none⟩ σ).tmps).run P w= .ok v w) (A:R v w):qb ⟨n,[],F,none⟩ (Bm P fn R) e σ w:=by
 rcases he with rfl | rfl <;> exact ⟨v,hr,v,rfl,A⟩
theorem An {t:Nat} {v:ag} (h:fn.results= #[.tmp t]) (C:ev ⟨n,[],F,none⟩ σ (.tmp t)=v) (A:R v w):qb ⟨n,[],F,none⟩ (Bm P fn R) .ret σ w:=
 Ip (.inl rfl) (by rw [results_tmp h,m8,C]) A
end
theorem gj {w:ah} {B t size n pp C:Nat} {v:ag} {xs:List ag} {cs:Array ag} {z:Nat×Nat} (h:w.ownsRow B t size v n xs) (hp:w.heap[pp]? =some (.cells cs C z)) (I:t≠C):v.ownBlock≠some pp:=by
 intro A;rcases h.2 with ⟨h1,_⟩ | ⟨g,cap,cur,h1,_,E,_⟩
 · rw [h1] at A; simp [gk] at A
 · rw [h1] at A;simp only [gk,bL] at A;subst A;rw [E] at hp;simp only [bL,Eb] at hp;exact I hp.2.1
section
variable {P:au} {N:Fm} {σ:Nat→ag} {w:ah} {dst:Option Nat} {ty:av} {pos :String} {af:Array bR} {g:Option (Nat×Bool)} {x:aV} {K:(Nat→ag)→ah→Prop}
theorem uC {e:av} {v:ag} (A:ev N σ x=v) (h1:v.oneCell'=true) (k:∀ b w',b=w.heap.size→Nw w w'→w'.heap[b]? =some (.cells [v].toArray e (0,0))→K (dn σ dst<|.pointer<|some ⟨b,0,none⟩) w'):
 bV P N ⟨dst,.box e x,ty,pos,af,g⟩ σ w K:=by
 refine k9 (v:=fun b=> .pointer<|some ⟨b,0,none⟩) (ob:= .cells [v].toArray e (0,0)) ?_ k;have :=mY h1;simp [execOp,yb,A,this,newVar,newRow]
end
theorem vZ (w:ah) (k:Nat) (o:Obj):Md (fun j=>j=k) w (w.putObj k o):=
 ⟨rfl,rfl,by simp [World.putObj],fun j _ A=>World.putObj_heap_other A⟩
def bW (w w':ah):Prop := ∀ (k:Nat) (o:Obj),w.heap[k]? =some o→((∀ cur e z,o≠.cells cur e z)∧∀ es c,o≠.map es c)→w'.heap[k]? =some o
theorem bW.trans {a b c:ah} (h:bW a b) (h':bW b c):bW a c:=fun k o A hn=>h' k o (h k o A hn) hn
theorem bW.md {F:Nat→Prop} {w w':ah} (hm:Md F w w') (C:∀ k,F k→∃ cur e z,w.heap[k]? =some (.cells cur e z)):bW w w':=fun k o A hn=>by
 rw [hm.dE k (dh.1 A).1 (fun E=>by obtain ⟨c,e,z,h⟩:=C k E; rw [A] at h; exact hn.1 _ _ _<|Option.some.inj h)]; exact A
theorem bW.wk {w w':ah} (hm:Wk w w'):bW w w':=bW.md hm fun _ h=>h.elim
theorem oJ {w:ah} {B e size n:Nat} {v:ag} {xs:List ag} (h:w.ownsRow B e size v n xs):∀ k,v.ownBlock=some k→∃ cur e z,w.heap[k]? =some (.cells cur e z):=by
 intro k A;rcases h.2 with ⟨rfl,_⟩ | ⟨g,cap,E,rfl,_,C,_⟩
 · simp [gk] at A
 · simp only [gk,bL] at A; subst A; exact ⟨_,_,_,C⟩
section
variable {F:Nat→Prop} {W W':ah} {B:Nat}
end
theorem yG (N:Fm):∀ (l:List (Tmp×ag)) (σ:Nat→ag),l.foldl (fun t p=>t.setIfInBounds p.1 p.2) (act N σ).tmps=(act N<|l.foldl (fun s p=>aU s p.1 p.2) σ).tmps:=by
 intro l
 induction l with
 | nil=>intro σ; rfl
 | cons p l ih=>
   intro σ;rw [iR,iR,← ih];congr 1;have :=congrArg Act.tmps<|eG N σ (some p.1) p.2;exact this
section
variable {P:au} {N:Fm} {ops:Array aA} {Q:bl→(Nat→ag)→ah→Prop} {rest:List aA} {σ:Nat→ag} {w:ah} {d':Option Nat} {d:Nat} {op:Op} {ty:av} {pos :String} {af:Array bR} {v:ag}
def ko (P:au) (N:Fm) (ops:Array aA) (Q:bl→(Nat→ag)→ah→Prop) (l:List aA) (σ:Nat→ag) (w:ah):Prop :=wpListIn (fe N.r) 0 P ops (lift N Q) l (act N σ) w
theorem Jz {id:Nat} {l:List aA} (h:ko P N l.toArray Q l σ w):bA P N (.region id l.toArray false) Q σ w:=by
 unfold bA; exact wpIn_region_lit h
theorem I3 (h:Q .normal σ w):ko P N ops Q [] σ w:=⟨σ,rfl,h⟩
def wi (o:Op):Bool:=match o with | .defer _=>false | _=>true
theorem I7 {o:Op} (h:wi o=true):∀ c,o≠.defer c:=fun c e=>by subst e; cases h
theorem ey (hn:wi op=true) (h:bV P N ⟨d',op,ty,pos,af,none⟩ σ w (fun σ w=>ko P N ops Q rest σ w)):ko P N ops Q (⟨d',op,ty,pos,af,none⟩::rest) σ w:=by
 unfold ko wpListIn;rw [if_pos (fj _ rfl _)];refine ⟨fun f _=>j3 _ f,?_⟩;rw [mM,q6 _ _ _ (I7 hn)];unfold bV gD at h;generalize (execOp (act N σ).eval ⟨d',op,ty,pos,af,none⟩).run P w=x at h ⊢;cases x with
 | ok n w'=>
   cases n <;> simp only [iq,q7] at h ⊢ <;>
    first
     | (obtain ⟨σ',ha,A⟩:=h; rw [ha]; exact A)
     | (refine ⟨fun h0=>(by rw [mL] at h0; cases h0),DT (r9 h) fun e w'' he=> ?_⟩
        cases e with
        | returned v=>obtain ⟨σ',ha,A⟩:=he; simp only; rw [ha]; exact A
        | panicked c=>exact he.elim
        | outgrown=>obtain ⟨_,_,C⟩:=he; exact C.elim)
     | (refine ⟨fun h0=>(by rw [mL] at h0; cases h0),Ee (Ao h) fun v w'' he=> ?_⟩
        obtain ⟨σ',ha,A⟩:=he; rw [ha]; exact A)
 | halt x w'=>cases x <;> simp only [iq] at h
theorem py (hn:wi op=true) (h:(execOp (ev N σ) ⟨some d,op,ty,pos,af,none⟩).run P w= .ok (.value v) w) (k:ko P N ops Q rest (aU σ d v) w):ko P N ops Q (⟨some d,op,ty,pos,af,none⟩::rest) σ w:=
 ey hn (ik h k)
end
end Go.Hb
end
section
namespace Go.Hb
def mA (P:au) (f:dR) (args:Array ag) (w:ah) (R:ag→ah→Prop) (A:List PanicEntry→ah→Prop):Prop :=
 Calls P f args w fun e w'=>(∃ v,e= .returned v∧R v w')∨∃ c,e= .panicked c∧A c w'
def Ar (P:au) (fn:fM) (N:Fm) (R:ag→ah→Prop) (A:List PanicEntry→ah→Prop):bl→(Nat→ag)→ah→Prop
 | .normal,σ,w=> ∃ v,(results fn (act N σ).tmps).run P w= .ok v w∧R v w
 | .ret,σ,w=> ∃ v,(results fn (act N σ).tmps).run P w= .ok v w∧R v w
 | .panic c,_,w=>A c w
 | _,_,_=>False
theorem qa {P:au} {fn:fM} {N:Fm} {R:ag→ah→Prop} {A:List PanicEntry→ah→Prop} {e:bl} {σ:Nat→ag} {w:ah} (h:fin P fn N R e σ w):Ar P fn N R A e σ w:=by
 cases e <;> first | exact h | exact h.elim
theorem pW {P:au} {f:dR} {N:Nat} {fn:fM} {c:bJ} {args:List ag} {w:ah} {R:ag→ah→Prop} {I:List PanicEntry→ah→Prop} (L:P.funcs[f]? =some fn) (hb:fn.body=some c)
 (J:fn.ntmps=N) (hn:bc args.length N=true) (h:bA P ⟨N,[],[],none⟩ c (Ar P fn ⟨N,[],[],none⟩ R I) (dm args) w):mA P f args.toArray w R I:=by
 subst J;refine calls_of_wp L hb ?_;rw [m6 fn args [] hn];unfold bA at h;refine ya ?_<|wpIn_wide.1 h;intro e a w A;cases e with
 | normal=>obtain ⟨σ,rfl,v,hr,E⟩:=A; exact ⟨rfl,v,hr,.inl ⟨v,rfl,E⟩⟩
 | ret=>obtain ⟨σ,rfl,v,hr,E⟩:=A; exact ⟨rfl,v,hr,.inl ⟨v,rfl,E⟩⟩
 | exit id=>obtain ⟨σ,rfl,C⟩:=A; exact C.elim
 | goto l=>obtain ⟨σ,rfl,C⟩:=A; exact C.elim
 | panic c=>obtain ⟨σ,rfl,C⟩:=A; exact ⟨rfl,.inr ⟨c,rfl,C σ fun _ _=>rfl⟩⟩
 | outgrown=>exact A.elim
section
variable {P:au} {N:Fm} {Q:bl→(Nat→ag)→ah→Prop} {σ:Nat→ag} {w:ah} {ops:Array aA} {rest:List aA} {dst:Option Nat} {ty:av} {pos :String} {af:Array bR} {g:Option (Nat×Bool)} {x:aV}
def nB (P:au) (N:Fm) (o:aA) (σ:Nat→ag) (w:ah) (K:(Nat→ag)→ah→Prop) (A:List PanicEntry→ah→Prop):Prop :=
 gD P o (act N σ) w (fun a w=> ∃ σ,a=act N σ∧K σ w) (fun e a w=>match e with | .panic c=>a=act N σ∧A c w | _=>False)
theorem xS {o:aA} {K:(Nat→ag)→ah→Prop} {C:List PanicEntry→ah→Prop} {A:Act→ah→Prop} (h:nB P N o σ w K C) (L:∀ σ w,K σ w→A (act N σ) w) (hp:∀ c w',C c w'→∀ σ',(∀ i∈N.F,σ' i=σ i)→Q (.panic c) σ' w'):o.wp P (act N σ) w A (lift N Q):=by
 unfold nB at h;unfold gD at*;generalize (execOp (act N σ).eval o).run P w=r at h ⊢;have E:∀ a w,(∃ σ,a=act N σ∧K σ w)→A a w:=by rintro a w ⟨σ,rfl,h⟩; exact L _ _ h
 have I:∀ c (a:Act) w',(a=act N σ∧C c w')→lift N Q (.panic c) a w':=by rintro c a w' ⟨rfl,h⟩; exact ⟨σ,rfl,hp c w' h⟩
 cases r with
 | ok n w'=>
   cases n <;> simp only [iq] at h ⊢ <;>
    first
     | exact E _ _ h
     | exact kp h (fun e w'' he=>by
      cases e with
      | returned v=>exact E _ _ he
      | panicked c=>exact I _ _ _ ⟨rfl,he.2⟩
      | outgrown=>obtain ⟨_,_,J⟩:=he; exact J.elim)
     | exact tO h fun _ _ he=>E _ _ he
 | halt x w'=>cases x <;> simp only [iq] at h ⊢ <;> exact I _ _ _ ⟨rfl,h.2⟩
theorem ef {f:dR} {args:Array aV} {C:Array av} {L:List ag} {R:ag→ah→Prop} {A:List PanicEntry→ah→Prop} {K:(Nat→ag)→ah→Prop} (O:gr P f) (hr:mA P f L.toArray w R A) (I:args.toList.map (ev N σ)=L)
 (k:∀ v w',R v w'→K (dn σ dst v) w'):nB P N ⟨dst,.call ⟨.value (.func f),args,C⟩,ty,pos,af,g⟩ σ w K A:=by
 unfold nB gD;have hm:args.map (ev N σ)=L.toArray:=by rw [← I,← iP]
 have U:(execOp (ev N σ) ⟨dst,.call ⟨.value (.func f),args,C⟩,ty,pos,af,g⟩).run P w= .ok (.enter f L.toArray) w:=by
  have E:=O L.toArray w;simp [execOp,resolve,ev,mh,invoke,hm,E]
 rw [dj,U];simp only [iq];refine kp hr ?_;rintro e w' (⟨v,rfl,M⟩ | ⟨c,rfl,J⟩)
 · exact ⟨_,eG ..,k v w' M⟩
 · exact ⟨trivial,J⟩
theorem eP {o:aA} {A:List PanicEntry→ah→Prop} (E:o.guard=none) (h:nB P N o σ w (fun σ w=>bQ P N ops Q rest σ w) A) (hp:∀ c w',A c w'→∀ σ',(∀ i∈N.F,σ' i=σ i)→Q (.panic c) σ' w'):bQ P N ops Q (o::rest) σ w:=by
 unfold bQ wpList;rw [if_pos (fj o E _)];refine .inl<|xS h (fun σ w C=> ?_) hp;unfold bQ at C; exact C
theorem Jo {t:av} {v:ag} (A:ev N σ x= .iface t v) (hp:∀ σ',(∀ i∈N.F,σ' i=σ i)→Q (.panic [{v:= .iface t v,recovered:=false}]) σ' w):bQ P N ops Q (⟨dst,.panic x,ty,pos,af,none⟩::rest) σ w:=by
 unfold bQ wpList;rw [if_pos (fj _ rfl _)];refine .inl ?_;unfold gD;have hr:(execOp (ev N σ) ⟨dst,.panic x,ty,pos,af,none⟩).run P w= .halt (.panic<|.iface t v) w:=by
  simp [execOp,A,Instr.panic]
 rw [dj,hr];exact ⟨σ,U,hp⟩
theorem IW {t:av} {d:TypeDesc} {v:ag} (hu:P.underlying t=some d) (A:(match d with | .interface _=>false | _=>true)=true) (C:ev N σ x=v):(execOp (ev N σ) ⟨dst,.makeInterface t x,ty,pos,af,g⟩).run P w= .ok (.value<|.iface t v) w:=by
 cases d <;> first | (cases A; done) | simp [execOp,Instr.makeInterface,C,bu hu]
def j8 (P:au) (t:av):Bool:=match P.underlying t with | some (.interface _)=>false | some _=>true | none=>false
theorem wb {t:av} {v:ag} (h:j8 P t=true) (A:ev N σ x=v):(execOp (ev N σ) ⟨dst,.makeInterface t x,ty,pos,af,g⟩).run P w= .ok (.value<|.iface t v) w:=by
 unfold j8 at h;cases hd:P.underlying t with
 | none=>rw [hd] at h; cases h
 | some d=>rw [hd] at h; exact IW hd (by cases d <;> first | rfl | cases h) A
theorem CZ {xt a:av} {zv:ag} (hu:j8 P a=true) (C:zeroV P a=some zv) (A:ev N σ x= .nilIface):(execOp (ev N σ) ⟨dst,.typeAssert x xt a true,ty,pos,af,g⟩).run P w= .ok (.value<|.tuple #[zv,.bool false]) w:=by
 unfold j8 at hu;cases hd:P.underlying a with
 | none=>rw [hd] at hu; cases hu
 | some d=>rw [hd] at hu; cases d <;> first | (cases hu; done) | simp [execOp,D8,A,bu hd,Dv C]
theorem CY {xt a:av} {v:ag} (hu:j8 P a=true) (A:ev N σ x= .iface a v):(execOp (ev N σ) ⟨dst,.typeAssert x xt a true,ty,pos,af,g⟩).run P w= .ok (.value<|.tuple #[v,.bool true]) w:=by
 unfold j8 at hu;cases hd:P.underlying a with
 | none=>rw [hd] at hu; cases hu
 | some d=>rw [hd] at hu; cases d <;> first | (cases hu; done) | simp [execOp,D8,A,bu hd]
variable {S:ah→Prop} {fuel:Nat} {listed:Array Bool}
theorem HL {o:aA} {C:List PanicEntry→ah→Prop} (i:Nat) (hi:ops[i]? =some o) (hr:gK ops listed i=true) (E:o.guard=none)
 (h:nB P N o σ w (fun σ w=>S w∧cg P N ops Q S fuel (listed.setIfInBounds i true) σ w) C) (hp:∀ c w',C c w'→∀ σ',(∀ i∈N.F,σ' i=σ i)→Q (.panic c) σ' w'):cg P N ops Q S (fuel+1) listed σ w:=by
 unfold cg at*;refine wpAnyH_all (rs:= [i]) (by simpa [gK] using hr) (by simp) ?_;intro k A;obtain rfl :k=i:=by simpa using A
 unfold wpOp;simp only [hi];rw [if_pos (fj _ E _)];exact .inl<|xS h (fun σ w A=>A) hp
end
section
variable {P:au} {N:Fm} {Q:bl→(Nat→ag)→ah→Prop} {σ:Nat→ag} {w:ah} {ops:Array aA} {S:ah→Prop} {fuel:Nat} {listed:Array Bool}
end
section
variable {P:au} {N:Fm} {Q:bl→(Nat→ag)→ah→Prop} {σ:Nat→ag} {w:ah} {ops:Array aA} {S:ah→Prop} {fuel r:Nat} {listed:Array Bool}
theorem Iu {o:aA} {C:List PanicEntry→ah→Prop} (i:Nat) (hi:ops[i]? =some o) (hr:gK ops listed i=true) (I:o.guard=none)
 (h:nB P N o σ w (fun σ w=>S w∧cq P N ops Q S r fuel (listed.setIfInBounds i true) σ w) C) (hp:∀ c w',C c w'→∀ σ',(∀ i∈N.F,σ' i=σ i)→Q (.panic c) σ' w'):cq P N ops Q S r (fuel+1) listed σ w:=by
 unfold cq at*;have E:dq .any ops listed= [i]:=by simpa [gK] using hr
 refine ⟨fun h0=>absurd (E ▸ h0) (by simp),fun k A=> ?_⟩;rw [E] at A;obtain rfl :k=i:=by simpa using A
 unfold wpOp;simp only [hi];rw [if_pos (fj _ I _)];exact .inl<|xS h (fun σ w A=>⟨fun _=>A.1,A.2⟩) hp
end
abbrev lD (P:au) (fn:fM) (R:ag→ah→Prop):bl→Act→ah→Prop :=bodyPostD P fn (fun e w'=> ∃ v,e= .returned v∧R v w')
theorem G5 {P:au} {f:dR} {N:Nat} {fn:fM} {c:bJ} {args:List ag} {w:ah} {R:ag→ah→Prop} (F:List Nat) (C:P.funcs[f]? =some fn) (hb:fn.body=some c)
 (A:fn.ntmps=N) (hn:bc args.length N=true) (h:eN P ⟨N,[],F,none⟩ c (lD P fn R) (dm args) w):bq P f args.toArray w R:=by
 subst A;refine calls_of_wp_defers C hb ?_;rw [m6 fn args F hn];exact wpIn_wide.1 h
section
variable {P:au} {n:Nat} {D:List Deferred} {F:List Nat} {σ:Nat→ag} {w:ah} {fn:fM} {R:ag→ah→Prop} {B:bl→Act→ah→Prop}
theorem Hn {v:ag} (hr:(results fn (act ⟨n,[],F,none⟩ σ).tmps).run P w= .ok v w) (A:R v w):qb ⟨n,[],F,none⟩ (lD P fn R) .ret σ w:=⟨v,hr,v,rfl,A⟩
theorem Iw:¬LetsOut (lD P fn R):=fun ⟨_,_,h⟩=>by obtain ⟨v,h,_⟩:=h; cases h
theorem kF {id d:Nat} {f:dR} (M:¬LetsOut B) {cs:Array aV} {I J:av} {p1 p2:String} {C E:Array bR} {y:bJ} (A:Array ag) (V:cs.toList.map (ev ⟨n,[],F,none⟩ σ)=A.toList) (aa:d < n)
 (h:eN P ⟨n,[{target:= .fn (.func f) A,args:= #[]}],F,none⟩ y B (aU σ d<|.func (.func f) #[] A) w):
 eN P ⟨n,[],F,none⟩ (.region id #[⟨some d,.makeFunc (.func f) #[] cs,I,p1,C,none⟩,⟨none,.defer ⟨.value (.tmp d),#[],#[]⟩,J,p2,E,none⟩] false) (Exit.then (y.wpIn (fe none) 0 P B) B) σ w:=by
 have Z:cs.map (ev ⟨n,[],F,none⟩ σ)=A:=qT.1<|by rw [iP]; exact V
 refine wpIn_region ?_;have O:¬LetsOut (Exit.then (y.wpIn (fe none) 0 P B) B):=fun ⟨a,w,h⟩=>M ⟨a,w,h⟩;refine vF (r:=none) O U _ _ _ ?_;show wpOps P _ _ [0,1] _ _;simp only [wpOps,lx,iT,iS];rw [if_pos (fj _ rfl _)];refine .inl ?_;unfold gD;have h1:(execOp (act ⟨n,[],F,none⟩ σ).eval ⟨some d,.makeFunc (.func f) #[] cs,I,p1,C,none⟩).run P w= .ok (.value<|.func (.func f) #[] A) w:=by
  rw [dj,mf,Z]; simp
 rw [h1];simp only [iq];rw [if_pos (fj _ rfl _),eG];refine .inl ?_;have L:(execOp (act ⟨n,[],F,none⟩<|dn σ (some d)<|.func (.func f) #[] A).eval ⟨none,.defer ⟨.value (.tmp d),#[],#[]⟩,J,p2,E,none⟩).run P w= .ok (.defer {target:= .fn (.func f) A,args:= #[]}) w:=by
  have ab:ev ⟨n,[],F,none⟩ (aU σ d<|.func (.func f) #[] A) (.tmp d)= .func (.func f) #[] A:=by
   show cond (aE d n) (aU σ d _ d) undef=_;rw [show aE d n=true from by simpa using aa];show aU σ d _ d=_;unfold aU; simp
  rw [dj];show (execOp (ev ⟨n,[],F,none⟩<|aU σ d<|.func (.func f) #[] A) _).run P w=_;simp [execOp,resolve,ab,mh]
 rw [L];exact h
end
theorem Jj {P:au} {ops:Array aA} {Q:bl→Act→List Frame→ah→Prop} {cs:List Frame} (A:¬LetsOut fun e a w=>Q e a cs w):∀ (l:List Nat) (a:Act) (w:ah),wpOps P ops (fun e a w=>Q e a cs w) l a w→wpOpsS P ops Q l a cs w:=by
 intro l
 induction l with
 | nil=>exact fun _ _ h=>h
 | cons i l ih=>
   intro a w h;simp only [wpOps] at h;simp only [wpOpsS];cases ho:ops[i]? with
   | none=>simp only [ho] at h ⊢; exact ih a w h
   | some o=>
     simp only [ho] at h ⊢;by_cases hw:jU o (yielded ops a.tmps)=true
     · rw [if_pos hw] at h ⊢;rcases h with h | h
       · unfold gD at h;generalize (execOp a.eval o).run P w=x at h;cases x with
         | ok n w'=>
           cases n <;> simp only [iq] at h ⊢ <;>
            first
             | exact ih _ _ h
             | exact kp h fun e w'' he=>by cases e <;> first | exact ih _ _ he | exact he
             | exact tO h fun v w'' he=>ih _ _ he
         | halt x w'=>cases x <;> simp only [iq] at h ⊢ <;> exact h
       · exact absurd h.2 A
     · rw [if_neg hw] at h ⊢;exact ih _ _ h
theorem Iz {P:au} {ops:Array aA} {Q C:bl→Act→ah→Prop} (A:∀ e a w,Q e a w→C e a w) (E:¬LetsOut Q):∀ (l:List aA) (a:Act) (w:ah),wpList P ops Q l a w→wpList P ops C l a w:=by
 intro l
 induction l with
 | nil=>exact fun _ _ h=>A _ _ _ h
 | cons o l ih=>
   intro a w h;unfold wpList at h ⊢;split at h
   · rename_i hw;rw [if_pos hw];rcases h with h | h
     · left;unfold gD at h ⊢;generalize (execOp a.eval o).run P w=x at h;cases x with
       | ok n w'=>
         cases n <;> simp only [iq] at h ⊢ <;>
          first
           | exact ih _ _ h
           | exact kp h (fun e w'' he=>by
            cases e with
            | returned v=>exact ih _ _ he
            | panicked c=>exact A _ _ _ he
            | outgrown=>exact absurd he E)
           | exact tO h fun v w'' he=>ih _ _ he
       | halt x w'=>cases x <;> simp only [iq] at h ⊢ <;> exact A _ _ _ h
     · exact absurd h.2 E
   · rename_i hw;rw [if_neg hw]; exact ih _ _ h
theorem y8 {P:au} {f:dR} {fn:fM} {id N d:Nat} {ty:av} {pos :String} {af:Array bR} {rest:List aA} {y:bJ} {args:List ag} {w:ah} {u I:FrameMode} {v:ag} {R:ah→Prop}
 (ae:P.funcs[f]? =some fn) (hb:fn.body=some (.seq (.region id (⟨some d,.call ⟨.builtin .recover,#[],#[]⟩,ty,pos,af,none⟩::rest).toArray false) y)) (ac:fn.ntmps=N) (hn:bc args.length N=true)
 (ai:∀ (C:Frame) (cs:List Frame),C.mode=u→(recoverD (C::cs)=some (v,{C with mode:=I} ::cs))∨(recoverD (C::cs)=none∧v= .nilIface∧I=u))
 (h:bQ P ⟨N,[],[],none⟩ (⟨some d,.call ⟨.builtin .recover,#[],#[]⟩,ty,pos,af,none⟩::rest).toArray (gQ (fun σ w=>bA P ⟨N,[],[],none⟩ y (fin P fn ⟨N,[],[],none⟩ fun _ w=>R w) σ w)<|fin P fn ⟨N,[],[],none⟩ fun _ w=>R w) rest (aU (dm args) d v) w):
 CallsD P f args.toArray u w fun e J w'=> ∃ v,e= .returned v∧J=I∧R w':=by
 subst ac;refine callsD_of_wpS ae hb ?_;intro C cs hu;rw [m6 fn args [] hn];refine wpS_seq<|wpS_region ?_;have aj:fw (⟨some d,.call ⟨.builtin .recover,#[],#[]⟩,ty,pos,af,none⟩::rest).toArray.size=0::(List.range' 1 rest.length):=by
  rw [eD,dL,EE,List.range'_succ]
 rw [aj];simp only [wpOpsS,lx,iT];rw [if_pos (fj _ rfl _)];have ak:(execOp (act ⟨fn.ntmps,[],[],none⟩<|dm args).eval ⟨some d,.call ⟨.builtin .recover,#[],#[]⟩,ty,pos,af,none⟩).run P w= .ok .recover w:=by
  rw [dj];simp [execOp,resolve,invoke,builtin]
 rw [ak];simp only;obtain ⟨L,M⟩:∃ L,L=({C with mode:=I} ::cs:List Frame):=⟨_,rfl⟩
 have ad:∀ X:Act→List Frame→Prop,X ((act ⟨fn.ntmps,[],[],none⟩<|dm args).put (some d) v) L→
  (match recoverD (C::cs) with
   | some (v,O)=>X ((act ⟨fn.ntmps,[],[],none⟩<|dm args).put (some d) v) O
   | none=>X ((act ⟨fn.ntmps,[],[],none⟩<|dm args).put (some d) .nilIface) (C::cs)):=by
  intro X V;rcases ai C cs hu with h1 | ⟨h1,aa,ab⟩;rw [h1]; subst M; exact V;rw [h1]; subst aa ab;have :({C with mode:=I} :Frame)=C:=by subst hu; rfl
  rw [this] at M; subst M; exact V
 refine ad (fun a O=>wpOpsS P _ _ _ a O w) ?_;rw [eG];refine Jj ?_ _ _ _ ?_;rintro ⟨a,w,h⟩;simp only [Exit.thenS,bodyPostS] at h;obtain ⟨_,_,h,_⟩:=h; cases h;have h1:=wpOps_eq_wpList (P:=P) (ops:=(⟨some d,.call ⟨.builtin .recover,#[],#[]⟩,ty,pos,af,none⟩::rest).toArray) (Q:=fun e a w'=>Exit.thenS (Code.wpS P y (bodyPostS P fn C cs fun e J w'=> ∃ v,e= .returned v∧J=I∧R w')) (bodyPostS P fn C cs fun e J w'=> ∃ v,e= .returned v∧J=I∧R w') e a L w') rest 1 fun j=>by simp [ud]
 rw [h1];unfold bQ at h;refine Iz ?_ vS _ _ _ h;intro e a w' E;have Z:∀ (e:bl) (σ:Nat→ag) (w':ah),fin P fn ⟨fn.ntmps,[],[],none⟩ (fun _ w=>R w) e σ w'→bodyPostS P fn C cs (fun e J w'=> ∃ v,e= .returned v∧J=I∧R w') e (act ⟨fn.ntmps,[],[],none⟩ σ) L w':=by
  intro e σ w' A;cases e with
  | normal=>obtain ⟨v,hr,U⟩:=A; exact ⟨rfl,I,M,v,hr,v,rfl,rfl,U⟩
  | ret=>obtain ⟨v,hr,U⟩:=A; exact ⟨rfl,I,M,v,hr,v,rfl,rfl,U⟩
  | _=>exact A.elim
 cases e with
 | normal=>
   obtain ⟨σ,rfl,A⟩:=E;refine wpS_of_wp ?_;simp only [gQ] at A;unfold bA at A;refine ya ?_<|wpIn_wide.1 A;intro e a w' E;cases e with
   | panic c=>obtain ⟨σ,rfl,A⟩:=E; exact (A σ fun _ _=>rfl).elim
   | outgrown=>exact E.elim
   | _=>obtain ⟨σ,rfl,A⟩:=E; exact Z _ σ w' A
 | panic c=>obtain ⟨σ,rfl,A⟩:=E; exact (A σ fun _ _=>rfl).elim
 | outgrown=>exact E.elim
 | ret=>obtain ⟨σ,rfl,A⟩:=E; exact Z .ret σ w' A
 | exit i=>obtain ⟨σ,rfl,A⟩:=E; exact A.elim
 | goto i=>obtain ⟨σ,rfl,A⟩:=E; exact A.elim
section
variable {P:au} {n:Nat} {F:List Nat} {σ:Nat→ag} {w:ah} {fn:fM} {R:ag→ah→Prop}
theorem Hq {g:dR} {A:Array ag} {M:ah→Prop} (hu:(invoke (.fn (.func g) A) #[]).run P w= .ok (.enter g A) w)
 (I:CallsD P g A .returning w fun e J w'=> ∃ v,e= .returned v∧J= .returning∧M w') (E:∀ w',M w'→∃ v,(results fn (act ⟨n,[{target:= .fn (.func g) A,args:= #[]}],F,none⟩ σ).tmps).run P w'= .ok v w'∧R v w'):
 qb ⟨n,[{target:= .fn (.func g) A,args:= #[]}],F,none⟩ (lD P fn R) .ret σ w:=by
 refine leaves_cons (by simp) hu ?_;refine DS I ?_;rintro e L w' ⟨v,rfl,rfl,hm⟩;obtain ⟨v2,h1,C⟩:=E w' hm;exact ⟨v2,h1,v2,U,C⟩
theorem Hr {g:dR} {A:Array ag} {M:ah→Prop} {v:ag} (hu:(invoke (.fn (.func g) A) #[]).run P w= .ok (.enter g A) w)
 (I:CallsD P g A (.panicking [{v:=v,recovered:=false}]) w fun e J w'=> ∃ x,e= .returned x∧J= .panicking [{v:=v,recovered:=true}]∧M w') (E:∀ w',M w'→∃ v,(results fn (act ⟨n,[{target:= .fn (.func g) A,args:= #[]}],F,none⟩ σ).tmps).run P w'= .ok v w'∧R v w'):
 qb ⟨n,[{target:= .fn (.func g) A,args:= #[]}],F,none⟩ (lD P fn R) (.panic [{v:=v,recovered:=false}]) σ w:=by
 refine leaves_cons (by simp) hu ?_;refine DS I ?_;rintro e L w' ⟨x,rfl,rfl,hm⟩;obtain ⟨v2,h1,C⟩:=E w' hm;exact ⟨v2,h1,v2,U,C⟩
end
end Go.Hb
end
section
namespace Go.Hb
abbrev Tl:=List<|List UInt8
def vB:Tl→List (UInt8×Tl)
 | []=> []
 | []::ts=>vB ts
 | (c::t)::ts=>match vB ts with
   | []=> [(c,[t])]
   | (c',g)::r=>if c=c' then (c,t::g)::r else (c,[t])::(c',g)::r
def HT (A:Tl):Bool:=match A with | []::_=>true | _=>false
def GV (A:Tl):Tl:=match A with | []::r=>r | r=>r
structure VS where
 known:List Tl
 km:List (Bool×List (UInt8×Nat))
def VS.add (s:VS) (A:Tl):VS:=⟨s.known++ [A],s.km++ [(false,[])]⟩
end Go.Hb
namespace Go.Hb
end Go.Hb
namespace Go.Hb
abbrev EY:=Bool×List (UInt8×Nat)
end Go.Hb
namespace Go.Hb
def B4 (l:List (UInt8×Nat)):Prop :=l.Pairwise fun a b=>a.1.toNat < b.1.toNat
end Go.Hb
namespace Go.Hb
def G4 (A:List Tl) (p:UInt8×Tl):UInt8×Nat:=(p.1,A.idxOf p.2+1)
def enc (A:List Tl) (L:Tl):EY:=(HT L,(vB<|GV L).map (G4 A))
end Go.Hb
namespace Go.Hb
def nm (A:List Tl) (i:Nat):Tl:=A.getD (i - 1) []
end Go.Hb
namespace Go.Hb
end Go.Hb
namespace Go.Hb
end Go.Hb
end
