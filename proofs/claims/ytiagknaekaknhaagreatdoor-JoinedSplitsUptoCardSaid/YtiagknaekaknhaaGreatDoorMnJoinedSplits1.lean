/-
  Walks and plain laws that the law rests on, laid together. No conditions but those that each theorem names.
-/
import Derived.WalkKit
import Derived.OrdersHeld
import Derived.TacticsIn
import Derived.Lib.Strings
import Derived.Lib.UnsafeStr
import Derived.Laws.MakeOwn
import Derived.Laws.StructEq
import Derived.SliceStrings
import Derived.Carry
import Derived.JoinedCond
import Derived.ProofKit
import Derived.OpenShut
import Derived.Test.YtiagknaekaknhaaGreatDoorRows
import Derived.Test.YtiagknaekaknhaaGreatDoorChecked
import Derived.RangeFuncFrom
import Derived.RangeFuncLeaves
import Derived.Recover
import Derived.Laws.OwnMore
import Derived.OrdersIn
import Derived.Lib.SliceRun
import Derived.Lib.Bytealg
import Derived.Lib.FrozenHead
import Derived.Deep.AppendSrc
import Derived.RangeFuncNested
import Derived.Stop.LaidErr
set_option linter.unusedVariables false
set_option maxRecDepth 20000
set_option maxHeartbeats 1000000
open Array renaming ext_getElem?→Dt,getD_eq_getD_getElem?→iG,getElem?_append_left→Dv,getElem?_append_right→Dw,getElem?_eq_getElem→nD,getElem?_eq_none→tJ,getElem?_eq_some_iff→dm,getElem?_replicate→Dy,getElem?_setIfInBounds→qR,length_toList→lk,mem_toList_iff→tL,range→ll,replicate→nE,setIfInBounds_comm→x8,toArray_toList→x9,toList_append→Dz,toList_inj→qS,toList_map→iH
open BitVec renaming ofInt→ic
open Bool renaming and_eq_true→a0,and_eq_true_iff→pb,eq_iff_iff→pd,false_eq_true→nF,noConfusion→dn,not_eq_true'→ki,or_eq_true→nG
open Go renaming Addr→bR,Code→bL,Edge→bT,Exit→bp,Func→fH,FuncId→dT,IntKind→bu,Oper→aB,Operand→aW,Program→au,TypeId→av,Value→ag,World→ah
open Go.Addr renaming add→tM
open Go.Builtin renaming append_→jO,firstCells→tO,lenOf→DH,len_→yb
open Go.ByteArray renaming toList_eq→DJ
open Go.Calls renaming mono→kj
open Go.CallsD renaming mono→DK
open Go.CallsIn renaming mono→DL
open Go.Code renaming wp_mono→yc
open Go.Conv renaming bytesToString→DN,seenAt→DO,unsafePointer→DP
open Go.DataW renaming TrodAll→DQ
open Go.Deferred renaming ofValue→mb
open Go.Fence renaming wide→eN
open Go.Instr renaming alloc→tP,box→yd,buildSlice→qU,checkKey→km,fill→iI,findAsking→nH,findKey→nI,findNow→nJ,indexAt→DT,loadAt→DU,lookup→DV,slice→qW,sliceAt→nK,sliceBound→nL,sliceBounds→kn,storeAt→yg,sureAddr→nM,typeAssert→DX
open Go.IntKind renaming i64→tQ
open Go.Next renaming value→qX
open Go.Obj.cells renaming injEq→D3
open Go.Op renaming bytesLess→yh,equal→mc,equalIn→ie,intArith→qY,intCmp→pk,intDiv→yi,stringOp→nO
open Go.Oper renaming semAt_eq→qZ,upon→ig,uponIn→q6,wp→gE
open Go.Program renaming built→D4,underlying→D5
open Go.Proofs.Tryz renaming prog→ar
open Go.Region renaming Mode→nP,binds→dE,free_spec→yj,noSelect_spec→ym,ready→dw,wanted→jP
open Go.Result renaming andThen_ok→gQ,ok→q7
open Go.Rows renaming mono→tR
open Go.RowsIn renaming mono→D6
open Go.Sem renaming run→ln,run_bind→ij,run_ite→q8,run_pure→ko
open Go.Value renaming bool→bq,cells→pn,int→bd,oneCell'→eO,ownBlock→gj,pointer→tS,slice→bE
open Go.Value.slice renaming injEq→yn
open Go.Value.string renaming inj→D7
open Go.World renaming freeze→lr,ownsRow_nil→ez,setCell→Ea,shape?→yo
open Int renaming tdiv_eq_ediv_of_nonneg→Ec
open List renaming all_cons→nR,all_eq_true→Ed,any_eq_true→Ee,eq_nil_of_length_eq_zero→lz,ext_getElem?→pq,flatMap_cons→Ej,foldl_cons→jg,getD_eq_getElem?_getD→b9,getElem?_cons_succ→iJ,getElem?_cons_zero→iK,getElem?_eq_getElem→bG,getElem?_eq_none→gF,getElem?_eq_some_iff→cK,getElem?_map→fq,getElem?_range→re,getElem?_take→iL,getElem?_toArray→lA,length_append→cz,length_cons→dP,length_singleton→px,mapM_toArray→ys,map_cons→gn,mem_append_left→pB,mem_cons→ei,mem_map_of_mem→rh,mem_of_getElem?→mi,nil_append→uc,range→ml,range_eq_range'→Ew,replicate→cZ,size_toArray→eB,zipIdx_cons→EB
open List.cons renaming inj→Ef
open Nat renaming add_comm→uf,beq→aN,ble→bf,blt→aD,eq_of_beq_eq_true→bO,le_of_ble_eq_true→bP,le_refl→aQ,le_trans→cS,lt_of_lt_of_le→mq,lt_or_ge→dF,lt_succ_self→mr,mul_le_mul_right→nU,succ_mul→yC,zero_add→cM,zero_mul→uj
open Option renaming bind_some→EJ,isSome_iff_exists→mu,map_eq_some_iff→gG,map_some→fu
open Option.some renaming injEq→bM
open Prod renaming fst→fL
open Prod.mk renaming injEq→gT
open UInt8 renaming ofNat→eR,toNat_lt→ks
open Go.Proofs.Tryz
open Go.RowKit

namespace Go.Hb
theorem ab {p:Prop} (h:p:=by omega):p:=h
theorem ai {p:Prop} (h:p:=by kernel_rfl):p:=h
theorem aE {p:Prop} (h:p:=by decide):p:=h
theorem U {α:Sort _} {a:α} :a=a:=rfl
end Go.Hb
section
namespace Go.Hb
structure Fm where
 n:Nat
 D:List Deferred
 F:List Nat
 r:Option Nat
def aU (σ:Nat→ag) (d:Nat) (v:ag):Nat→ag:=fun i=>cond (aN i d) v<|σ i
def dv (σ:Nat→ag):Option Nat→ag→Nat→ag
 | some d,v=>aU σ d v
 | none,_=>σ
def act (N:Fm) (σ:Nat→ag):Act:=⟨((ml N.n).map σ).toArray,N.D⟩
def ev (N:Fm) (σ:Nat→ag):aW→ag
 | .tmp t=>cond (aD t N.n) (σ t) undef
 | .const v=>v
 | .global g=> .pointer<|some ⟨g,0,none⟩
 | .func f=> .func (.func f) #[] #[]
theorem iP (N:Fm) (σ:Nat→ag) (t:Nat):(act N σ).tmps[t]? =if t < N.n then some (σ t) else none:=by grind [act]
theorem dr (N:Fm) (σ:Nat→ag):(act N σ).eval=ev N σ:=by
 funext x;cases x with
 | tmp t=>
   simp only [Act.eval,ev,iG,iP];by_cases h:t < N.n
   · rw [if_pos h,show aD t N.n=true from by simpa using h]; rfl
   · rw [if_neg h,show aD t N.n=false from by cases hx:aD t N.n <;> simp_all [aD,Nat.ble_eq] <;> omega]; rfl
 | _=>rfl
theorem rB {a b:Act} (A:a.defers=b.defers) (C:∀ i:Nat,a.tmps[i]? =b.tmps[i]?):a=b:=by
 cases a; cases b;simp only at A C;subst A;congr 1;exact Dt C
theorem eD (N:Fm) (σ:Nat→ag) (dst:Option Nat) (v:ag):(act N σ).put dst v=act N (dv σ dst v):=by
 cases dst with
 | none=>rfl
 | some d=>
   refine rB U fun i=> ?_;have h0:((act N σ).put (some d) v).tmps=(act N σ).tmps.setIfInBounds d v:=rfl;rw [h0,qR,iP,iP];have C:(act N σ).tmps.size=N.n:=by simp [act]
   simp only [dv,aU];by_cases A:i=d
   · subst A;rw [C];have hb:aN i i=true :=by simp
     by_cases h:i < N.n
     · rw [if_pos rfl,if_pos h,if_pos h,hb]; rfl
     · rw [if_pos rfl,if_neg h,if_neg h]
   · rw [if_neg (fun e=>A e.symm)];have hb:aN i d=false :=by
      cases hx:aN i d
      · rfl
      · exact absurd (bO hx) A
     rw [hb]; rfl
theorem k9 {σ:Nat→ag} {i:Nat} {v:ag} (h:σ i=v):aU σ i v=σ:=by grind [aU,aN,bO]
def lift (N:Fm) (Q:bp→(Nat→ag)→ah→Prop):bp→Act→ah→Prop
 | .panic c,a,w=> ∃ σ,a=act N σ∧∀ σ',(∀ i∈N.F,σ' i=σ i)→Q (.panic c) σ' w
 | .outgrown,_,_=>False
 | e,a,w=> ∃ σ,a=act N σ∧Q e σ w
def fe:Option Nat→Fence
 | none=>eN
 | some l=>eN.inRound l
theorem mL (r:Option Nat):(fe r).round=r:=by cases r <;> rfl
theorem jW (r:Option Nat) (f:dT):(fe r).fn f:=by cases r <;> trivial
theorem mK (r:Option Nat):(fe r).depth=none:=by cases r <;> rfl
theorem r9 {r:Option Nat} {n:Nat} {P:au} {f:dT} {args:Array ag} {w:ah} {R:Ending→ah→Prop} (h:Calls P f args w R):CallsIn (fe r) n P f args w R:=by
 cases r
 · exact callsIn_wide.2 h
 · exact (callsIn_wide (n:=n)).2 h
theorem Ah {r:Option Nat} {n:Nat} {P:au} {row:String} {args:Array ag} {w:ah} {R:ag→ah→Prop} (h:Rows P row args w R):RowsIn (fe r) n P row args w R:=fun c cs _=>by
 obtain ⟨v,w',C,A⟩:=h c cs;refine ⟨v,w',C,?_⟩;cases r
 · exact stepsIn_wide.2 A
 · exact stepsIn_wide.2 A
def wi (ops:List aB):Bool:=ops.all fun o=>match o.op with | .defer _=>false | _=>true
def j6 (r:Option Nat) (ops:List aB):Bool:=match r with | none=>true | some _=>wi ops
theorem IS {l:List aB} (h:wi l=true):∀ o∈l,∀ c,o.op≠.defer c:=by grind [wi]
theorem vG {r:Option Nat} {P:au} {ops:Array aB} {Q:bp→Act→ah→Prop} (A:¬LetsOut Q) (hr:j6 r ops.toList=true):∀ (l:List Nat) (a:Act) (w:ah),wpOps P ops Q l a w→wpOpsIn (fe r) 0 P ops Q l a w:=by
 intro l
 induction l with
 | nil=>exact fun _ _ h=>h
 | cons i l ih=>
   intro a w h;simp only [wpOps] at h;simp only [wpOpsIn];cases ho:ops[i]? with
   | none=>simp only [ho] at h ⊢; exact ih a w h
   | some o=>
     simp only [ho] at h ⊢;by_cases hw:jP o (yielded ops a.tmps)=true
     · rw [if_pos hw] at h ⊢;rcases h with h | h
       · refine ⟨fun f _=>jW r f,?_⟩;rw [mL];have C:o.semAt r a.eval=execOp a.eval o:=by
          cases r with
          | none=>rfl
          | some k=>exact qZ _ _ _<|IS hr o<|tL.2<|Array.mem_of_getElem? ho
         rw [C];unfold gE at h;generalize (execOp a.eval o).run P w=x at h;cases x with
         | ok n w'=>
           cases n <;> simp only [ig,q6] at h ⊢ <;>
            first
             | exact ih _ _ h
             | (refine ⟨fun h0=>(by rw [mK] at h0; cases h0),DL (r9 h) fun e w'' he=> ?_⟩
                cases e <;> first | exact ih _ _ he | exact he)
             | exact ⟨fun h0=>(by rw [mK] at h0; cases h0),D6 (Ah h) fun v w'' he=>ih _ _ he⟩
         | halt x w'=>cases x <;> simp only [ig,q6] at h ⊢ <;> exact h
       · exact absurd h.2 A
     · rw [if_neg hw] at h ⊢;exact ⟨fun f _=>jW r f,ih _ _ h⟩
def bA (P:au) (N:Fm) (c:bL) (Q:bp→(Nat→ag)→ah→Prop) (σ:Nat→ag) (w:ah):Prop :=
 c.wpIn (fe N.r) 0 P (lift N Q) (act N σ) w
def bS (P:au) (N:Fm) (ops:Array aB) (Q:bp→(Nat→ag)→ah→Prop) (l:List aB) (σ:Nat→ag) (w:ah):Prop :=
 wpList P ops (lift N Q) l (act N σ) w
def gN (K:(Nat→ag)→ah→Prop) (Q:bp→(Nat→ag)→ah→Prop):bp→(Nat→ag)→ah→Prop
 | .normal,σ,w=>K σ w
 | e,σ,w=>Q e σ w
def kG (id:Nat) (Q:bp→(Nat→ag)→ah→Prop):bp→(Nat→ag)→ah→Prop
 | .exit A,σ,w=>if A=id then Q .normal σ w else Q (.exit A) σ w
 | e,σ,w=>Q e σ w
section
variable {P:au} {N:Fm} {Q:bp→(Nat→ag)→ah→Prop} {σ:Nat→ag} {w:ah} {K:(Nat→ag)→ah→Prop}
theorem Il {Q C:bp→(Nat→ag)→ah→Prop} (h:∀ e σ w,Q e σ w→C e σ w) (e:bp) (a:Act) (w:ah):lift N Q e a w→lift N C e a w:=by
 cases e <;> first | exact fun h=>h.elim | exact fun ⟨σ,ha,A⟩=>⟨σ,ha,h _ _ _ A⟩ | exact fun ⟨σ,ha,A⟩=>⟨σ,ha,fun σ' E=>h _ _ _<|A σ' E⟩
theorem Dh {A:bp→(Nat→ag)→ah→Prop} {c:bL} (h:∀ e σ w,Q e σ w→A e σ w) (C:bA P N c Q σ w):bA P N c A σ w:=
 wpIn_mono C (Il h)
theorem tn (h:K σ w):gN K Q .normal σ w:=h
theorem te (id:Nat) (h:Q (.exit id) σ w):gN K Q (.exit id) σ w:=h
theorem tr (h:Q .ret σ w):gN K Q .ret σ w:=h
theorem bn {id:Nat} (h:Q .normal σ w):kG id Q .normal σ w:=h
theorem be {id:Nat} (h:Q .normal σ w):kG id Q (.exit id) σ w:=by simpa only [kG,if_true] using h
theorem Fe {id A:Nat} (C:A≠id) (h:Q (.exit A) σ w):kG id Q (.exit A) σ w:=by simpa only [kG,if_neg C] using h
theorem br {id:Nat} (h:Q .ret σ w):kG id Q .ret σ w:=h
theorem sq {x y:bL} (h:∀ K:(Nat→ag)→ah→Prop,(∀ σ w,bA P N y Q σ w→K σ w)→bA P N x (gN K Q) σ w):bA P N (.seq x y) Q σ w:=by
 refine wpIn_seq<|wpIn_mono (h (fun σ w=>bA P N y Q σ w) fun _ _ h=>h) ?_;intro e a w A;cases e with
 | normal=>obtain ⟨σ,rfl,C⟩:=A; exact C
 | panic c=>exact A
 | outgrown=>exact A
 | _=>obtain ⟨σ,rfl,C⟩:=A; exact ⟨σ,rfl,C⟩
theorem ff {x y:bL} (A:(Nat→ag)→ah→Prop) (h:bA P N x (gN A Q) σ w) (I:∀ σ w,A σ w→bA P N y Q σ w):bA P N (.seq x y) Q σ w:=
 sq fun _ E=>Dh (fun e _ _ C=>by cases e <;> first | exact E _ _ (I _ _ C) | exact C) h
theorem ct {c:aW} {x y:bL} (A:ev N σ c= .bool true) (h:bA P N x Q σ w):bA P N (.cond c x y) Q σ w:=
 wpIn_cond_true (by rw [dr]; exact A) h
theorem cf {c:aW} {x y:bL} (A:ev N σ c= .bool false) (h:bA P N y Q σ w):bA P N (.cond c x y) Q σ w:=
 wpIn_cond_false (by rw [dr]; exact A) h
theorem cb {c:aW} {x y:bL} {b:Bool} (A:ev N σ c= .bool b) (E:b=true→bA P N x Q σ w) (C:b=false→bA P N y Q σ w):bA P N (.cond c x y) Q σ w:=by
 cases b
 · exact cf A<|C U
 · exact ct A<|E U
theorem cd {c:aW} {x y:bL} {p:Prop} [Decidable p] (A:ev N σ c= .bool (decide p)) (E:p→bA P N x Q σ w) (C:¬p→bA P N y Q σ w):bA P N (.cond c x y) Q σ w:=by grind [cb]
theorem ak {id:Nat} {c:bL} (h:bA P N c (kG id Q) σ w):bA P N (.block id c) Q σ w:=by
 refine wpIn_block<|wpIn_mono h ?_;intro e a w C;cases e with
 | panic c=>exact C
 | outgrown=>exact C
 | exit E=>
   obtain ⟨σ,rfl,A⟩:=C;simp only [kG,Exit.inBlock] at A ⊢;split
   · rename_i e; rw [if_pos e] at A; exact ⟨σ,rfl,A⟩
   · rename_i e; rw [if_neg e] at A; exact ⟨σ,rfl,A⟩
 | _=>obtain ⟨σ,rfl,A⟩:=C; exact ⟨σ,rfl,A⟩
theorem ext {id:Nat} (h:Q (.exit id) σ w):bA P N (.exit id) Q σ w:=wpIn_exit ⟨σ,rfl,h⟩
theorem Cy (h:Q .normal σ w):bA P N .skip Q σ w:=wpIn_skip ⟨σ,rfl,h⟩
theorem rt (h:Q .ret σ w):bA P N .ret Q σ w:=wpIn_ret ⟨σ,rfl,h⟩
def Sl (σ:Nat→ag) (L:List (Nat×ag)):Prop :=L.map (fun p=>σ p.1)=L.map (fun p=>p.2)
def o5 (σ:Nat→ag):List (Nat×ag)→Nat→ag
 | []=>σ
 | p::L=>aU (o5 σ L) p.1 p.2
theorem tB {σ:Nat→ag} :∀ {L:List (Nat×ag)},Sl σ L→o5 σ L=σ
 | [],_=>rfl
 | p::L,h=>by
   have h1:σ p.1=p.2:=(Ef h).1;have A:Sl σ L:=(Ef h).2;rw [o5,tB A,k9 h1]
theorem bK {c:bL} {L:List (Nat×ag)} (h:Sl σ L) (A:bA P N c Q (o5 σ L) w):bA P N c Q σ w:=by rw [tB h] at A; exact A
theorem lp {c:bL} (L:Nat→(Nat→ag)→ah→Prop) (n:Nat) (h0:L n σ w)
 (h:∀ n σ w,L n σ w→bA P N c (gN (fun σ' w'=> ∃ m,m < n∧L m σ' w') Q) σ w):bA P N (.loop c) Q σ w:=by
 intro b k cs ai hb hr;have key:∀ n σ w,L n σ w→
  ∃ e M w',lift N Q e M w'∧ArrivesIn (Machine.fenced P<|fe N.r) P (lone (b.atR (act N σ) (.code c:: .inLoop c::k)) cs w) b k cs e M w':=by
  intro n
  induction n using Nat.strongRecOn with
  | _ n ih=>
    intro σ w ab;obtain ⟨e,O,J,I,C⟩:=h n σ w ab b (.inLoop c::k) cs ai hb hr;cases e with
    | normal=>
      obtain ⟨A,rfl,m,hm,ac⟩:=I;obtain ⟨aa,V,aj,ae,ad⟩:=ih m hm A J ac;exact ⟨aa,V,aj,ae,.of_steps (StepsIn.trans C<|.one (fenced_calm hb hr U) stepR_inLoop) ad⟩
    | exit id=>obtain ⟨A,rfl,E⟩:=I; exact ⟨.exit id,act N A,J,⟨A,rfl,E⟩,.pass (x:= .inLoop c) rfl (fun _ _=> .inl<|by simp) C⟩
    | goto l=>obtain ⟨A,rfl,E⟩:=I; exact ⟨.goto l,act N A,J,⟨A,rfl,E⟩,.pass (x:= .inLoop c) rfl (fun _ _=> .inl<|by simp) C⟩
    | ret=>obtain ⟨A,rfl,E⟩:=I; exact ⟨.ret,act N A,J,⟨A,rfl,E⟩,.pass (x:= .inLoop c) rfl (fun _ _=> .inl<|by simp) C⟩
    | panic Z=>exact ⟨.panic Z,O,J,I,.pass (x:= .inLoop c) rfl (fun _ _=> .inl<|by simp) C⟩
    | outgrown=>exact I.elim
 obtain ⟨e,M,w',E,C⟩:=key _ σ w h0;exact ⟨e,M,w',E,.of_steps (.one (fenced_calm hb hr U) stepR_loop) C⟩
def bZ (P:au) (N:Fm) (o:aB) (σ:Nat→ag) (w:ah) (K:(Nat→ag)→ah→Prop):Prop :=
 gE P o (act N σ) w (fun a w=> ∃ σ,a=act N σ∧K σ w) (fun _ _ _=>False)
theorem K7 {o:aB} {a:Act} {K C:Act→ah→Prop} {Q:bp→Act→ah→Prop} (h:∀ a w,K a w→C a w)
 (r:Result Next) (A:o.upon P a K (fun _ _ _=>False) r):o.upon P a C Q r:=by
 cases r with
 | ok n w'=>
   cases n <;> simp only [ig] at A ⊢ <;>
    first
     | exact h _ _ A
     | exact kj A (fun e w'' he=>by
      cases e with
      | returned v=>exact h _ _ he
      | panicked c=>exact he.elim
      | outgrown=>obtain ⟨_,_,E⟩:=he; exact E.elim)
     | exact tR A fun _ _ he=>h _ _ he
 | halt x w'=>cases x <;> simp only [ig] at A ⊢
theorem o6 {K:(Nat→ag)→ah→Prop} {A:Act→ah→Prop} {Q:bp→Act→ah→Prop} {o:aB} (h:bZ P N o σ w K) (E:∀ σ w,K σ w→A (act N σ) w):o.wp P (act N σ) w A Q:=by
 unfold bZ at h;unfold gE at*;exact K7 (fun a w ⟨σ,ha,C⟩=>by subst ha; exact E _ _ C) _ h
theorem Dj {K A:(Nat→ag)→ah→Prop} {o:aB} (h:bZ P N o σ w K) (E:∀ σ w,K σ w→A σ w):bZ P N o σ w A:=
 o6 h (fun σ w C=>⟨σ,rfl,E σ w C⟩)
variable {ops:Array aB} {rest:List aB} {d:Nat} {op:Op} {ty:av} {pos :String} {af:Array bT} {d':Option Nat} {v:ag} {o:aB}
theorem tI (A:jP o (yielded ops (act N σ).tmps)=true) (h:bZ P N o σ w (fun σ w=>bS P N ops Q rest σ w)):bS P N ops Q (o::rest) σ w:=by
 unfold bS wpList;rw [if_pos A];exact .inl<|o6 h fun _ _ C=>C
theorem je {K:(Nat→ag)→ah→Prop} {w':ah} (hr:(execOp (ev N σ) o).run P w= .ok (.value v) w') (A:K (dv σ o.dst v) w'):bZ P N o σ w K:=by
 unfold bZ gE;rw [dr,hr];exact ⟨_,eD ..,A⟩
theorem fh (o:aB) (A:o.guard=none) (y:Nat→Option Bool):jP o y=true :=by simp [jP,A]
def dN (ops:Array aB) (j:Nat):Option Nat:=(ops[j]?).bind (·.dst)
theorem ma {j t:Nat} {want b:Bool} (C:o.guard=some (j,want)) (A:dN ops j=some t) (E:aD t N.n=true) (I:σ t= .bool b):
 jP o (yielded ops (act N σ).tmps)=(b==want):=by
 have h1:yielded ops (act N σ).tmps j=some b:=by
  unfold yielded;unfold dN at A;rw [A];simp only [EJ,iP];rw [if_pos (mq (mr t)<|bP E),I]
 simp only [jP,C,h1];cases b <;> cases want <;> rfl
theorem xQ {j t:Nat} {want:Bool} (C:o.guard=some (j,want)) (A:dN ops j=some t) (E:aD t N.n=true) (I:σ t=undef):
 jP o (yielded ops (act N σ).tmps)=false :=by
 have h1:yielded ops (act N σ).tmps j=none:=by
  unfold yielded;unfold dN at A;rw [A];simp only [EJ,iP];rw [if_pos (mq (mr t)<|bP E),I]; rfl
 simp only [jP,C,h1];rfl
theorem p (h:(execOp (ev N σ) ⟨some d,op,ty,pos,af,none⟩).run P w= .ok (.value v) w) (k:bS P N ops Q rest (aU σ d v) w):
 bS P N ops Q (⟨some d,op,ty,pos,af,none⟩::rest) σ w:=
 tI (fh _ rfl _) (je h k)
theorem pg {j t:Nat} {want:Bool} (A:dN ops j=some t) (C:aD t N.n=true) (E:σ t= .bool want)
 (h:(execOp (ev N σ) ⟨some d,op,ty,pos,af,some (j,want)⟩).run P w= .ok (.value v) w) (k:bS P N ops Q rest (aU σ d v) w):
 bS P N ops Q (⟨some d,op,ty,pos,af,some (j,want)⟩::rest) σ w:=
 tI (by rw [ma rfl A C E]; cases want <;> rfl) (je h k)
theorem sk {j t:Nat} {want b:Bool} (A:dN ops j=some t) (C:aD t N.n=true) (E:σ t= .bool b) (hb:(b==want)=false)
 (k:bS P N ops Q rest (aU σ d undef) w):bS P N ops Q (⟨some d,op,ty,pos,af,some (j,want)⟩::rest) σ w:=by
 unfold bS wpList;rw [if_neg (by rw [ma rfl A C E,hb]; simp),eD];exact k
theorem Cz {j t:Nat} {want:Bool} (A:dN ops j=some t) (C:aD t N.n=true) (E:σ t=undef)
 (k:bS P N ops Q rest (aU σ d undef) w):bS P N ops Q (⟨some d,op,ty,pos,af,some (j,want)⟩::rest) σ w:=by
 unfold bS wpList;rw [if_neg (by rw [xQ rfl A C E]; simp),eD];exact k
theorem e (h:bZ P N ⟨d',op,ty,pos,af,none⟩ σ w (fun σ w=>bS P N ops Q rest σ w)):bS P N ops Q (⟨d',op,ty,pos,af,none⟩::rest) σ w:=
 tI (fh _ rfl _) h
theorem eg {j t:Nat} {want:Bool} (A:dN ops j=some t) (C:aD t N.n=true) (E:σ t= .bool want)
 (h:bZ P N ⟨d',op,ty,pos,af,some (j,want)⟩ σ w (fun σ w=>bS P N ops Q rest σ w)):bS P N ops Q (⟨d',op,ty,pos,af,some (j,want)⟩::rest) σ w:=by grind [tI,ma]
theorem nl (h:Q .normal σ w):bS P N ops Q [] σ w:=⟨σ,rfl,h⟩
theorem vT:¬LetsOut (lift N Q):=fun ⟨_,_,h⟩=>h
theorem rg {id:Nat} {l:List aB} (hr:j6 N.r l=true) (h:bS P N l.toArray Q l σ w):bA P N (.region id l.toArray false) Q σ w:=by
 refine wpIn_region<|vG vT hr _ _ _ ?_;have h1:=wpOps_eq_wpList (P:=P) (ops:=l.toArray) (Q:=lift N Q) l 0 fun j=>by simp
 rw [Ew,eB,h1];exact h
theorem gs {l:List aB} {t:Nat} {q:Prop} [Decidable q] (h:σ t= .bool (decide q)) (E:q→bS P N ops Q l (aU σ t<|.bool true) w) (C:¬q→bS P N ops Q l (aU σ t<|.bool false) w):bS P N ops Q l σ w:=by
 by_cases A:q
 · have :=E A; rwa [k9 (by rw [h,decide_eq_true A])] at this
 · have :=C A; rwa [k9 (by rw [h,decide_eq_false A])] at this
theorem gb {l:List aB} {t:Nat} {b:Bool} (h:σ t= .bool b) (C:b=true→bS P N ops Q l (aU σ t<|.bool true) w) (A:b=false→bS P N ops Q l (aU σ t<|.bool false) w):bS P N ops Q l σ w:=by
 cases b
 · have :=A rfl; rwa [k9 h] at this
 · have :=C rfl; rwa [k9 h] at this
def bY (P:au) (N:Fm) (ops:Array aB) (Q:bp→(Nat→ag)→ah→Prop) (S:ah→Prop) (fuel:Nat) (listed:Array Bool) (σ:Nat→ag) (w:ah):Prop :=
 wpAnyH P .any ops (lift N Q) S fuel listed (act N σ) w
variable {S:ah→Prop} {fuel:Nat} {listed:Array Bool}
theorem yP {id:Nat} {l:List aB} (hr:j6 N.r l=true) (hm:P.follows .mixedOrders=true) (h:wpAny P .any l.toArray (lift N Q) l.toArray.size (nE l.toArray.size false) (act N σ) w.drew):bA P N (.region id l.toArray true) Q σ w:=by
 refine wpIn_region_draw fun t=>vG vT hr _ _ _ ?_;simp only [Region.schedule,hm,Bool.true_or,if_true];exact wpAny_sound _ t _ _ _ h
theorem bo {id:Nat} {l:List aB} (S:ah→Prop) (hr:j6 N.r l=true) (hm:P.follows .mixedOrders=true) (A:S w.drew) (h:bY P N l.toArray Q S l.length (nE l.length false) σ w.drew):bA P N (.region id l.toArray true) Q σ w:=
 yP hr hm (wpAny_of_held _ _ _ _<|by rw [eB]; exact h)
def wx (F:List Nat) (d:Option Nat):Bool:=match d with | some d=> !(F.contains d) | none=>true
def eo (F:List Nat) (ops:Array aB) (listed:Array Bool) (i:Nat):Bool:=
 Region.noSelect ops && Region.free .any ops listed i && (dw .any ops listed).contains i && wx F ((ops[i]?).bind (·.dst))
theorem mU {d:Option Nat} {v:ag} (A:wx N.F d=true) (c:List PanicEntry) (a:Act) (w:ah):lift N Q (.panic c) (a.put d v) w→lift N Q (.panic c) a w:=by
 rintro ⟨σ,ha,h⟩;cases d with
 | none=>exact ⟨σ,ha,h⟩
 | some d=>
   have L:a.tmps.size=N.n:=by
    have :=congrArg (fun x:Act=>x.tmps.size) ha;simpa [Act.put,act] using this
   have E:a.defers=N.D:=congrArg (fun x:Act=>x.defers) ha;have I:∀ i:Nat,i≠d→a.tmps[i]? =if i < N.n then some (σ i) else none:=fun i hi=>by
    have h1:(a.put (some d) v).tmps[i]? =a.tmps[i]? :=by
     show (a.tmps.setIfInBounds d v)[i]? =_;rw [qR,if_neg (fun e=>hi e.symm)]
    rw [← h1,ha,iP]
   refine ⟨fun i=>if i < N.n then a.tmps.getD i undef else σ i,rB E fun i=> ?_,fun σ' C=>h σ' fun i hi=> ?_⟩
   · rw [iP];by_cases h1:i < N.n
     · rw [if_pos h1,if_pos h1,iG,nD ab]; rfl
     · rw [if_neg h1,tJ ab]
   · have J:i≠d:=by
      rintro rfl;simp only [wx,ki,List.contains_eq_mem,decide_eq_false_iff_not] at A;exact A hi
     rw [C i hi];by_cases h1:i < N.n
     · simp only [if_pos h1];rw [iG,I i J,if_pos h1]; rfl
     · simp only [if_neg h1]
theorem hp (i:Nat) (hi:ops[i]? =some ⟨some d,op,ty,pos,af,none⟩) (A:eo N.F ops listed i=true)
 (E:∀ w,S w→(execOp (ev N σ) ⟨some d,op,ty,pos,af,none⟩).run P w= .ok (.value v) w) (C:S w)
 (k:bY P N ops Q S fuel (listed.setIfInBounds i true) (aU σ d v) w):bY P N ops Q S (fuel+1) listed σ w:=by
 simp only [eo,a0] at A;refine wpAnyH_take hi A.1.1.1 A.1.1.2 A.1.2 (fun c a w=>mU (by have :=A.2; rwa [hi] at this) c a w) (.inl ⟨fh _ rfl _,fun w C=> ?_⟩) C ?_ (v:=v)
 · rw [dr]; exact E w C
 · rw [eD]; exact k
theorem bX (i:Nat) {j t:Nat} {want:Bool} (hi:ops[i]? =some ⟨some d,op,ty,pos,af,some (j,want)⟩) (A:eo N.F ops listed i=true)
 (E:dN ops j=some t) (I:aD t N.n=true) (J:σ t= .bool want)
 (L:∀ w,S w→(execOp (ev N σ) ⟨some d,op,ty,pos,af,some (j,want)⟩).run P w= .ok (.value v) w) (C:S w)
 (k:bY P N ops Q S fuel (listed.setIfInBounds i true) (aU σ d v) w):bY P N ops Q S (fuel+1) listed σ w:=by
 simp only [eo,a0] at A;refine wpAnyH_take hi A.1.1.1 A.1.1.2 A.1.2 (fun c a w=>mU (by have :=A.2; rwa [hi] at this) c a w) (.inl ⟨by rw [ma U E I J]; cases want <;> rfl,fun w C=> ?_⟩) C ?_ (v:=v)
 · rw [dr]; exact L w C
 · rw [eD]; exact k
theorem AE (i:Nat) {j t:Nat} {want b:Bool} (hi:ops[i]? =some ⟨some d,op,ty,pos,af,some (j,want)⟩) (A:eo N.F ops listed i=true)
 (E:dN ops j=some t) (I:aD t N.n=true) (J:σ t= .bool b) (hb:(b==want)=false) (C:S w)
 (k:bY P N ops Q S fuel (listed.setIfInBounds i true) (aU σ d undef) w):bY P N ops Q S (fuel+1) listed σ w:=by
 simp only [eo,a0] at A;refine wpAnyH_take hi A.1.1.1 A.1.1.2 A.1.2 (fun c a w=>mU (by have :=A.2; rwa [hi] at this) c a w) (.inr ⟨by rw [ma U E I J,hb],U⟩) C ?_ (v:=undef);rw [eD]; exact k
theorem HA (i:Nat) {j t:Nat} {want:Bool} (hi:ops[i]? =some ⟨some d,op,ty,pos,af,some (j,want)⟩) (A:eo N.F ops listed i=true)
 (E:dN ops j=some t) (I:aD t N.n=true) (J:σ t=undef) (C:S w)
 (k:bY P N ops Q S fuel (listed.setIfInBounds i true) (aU σ d undef) w):bY P N ops Q S (fuel+1) listed σ w:=by
 simp only [eo,a0] at A;refine wpAnyH_take hi A.1.1.1 A.1.1.2 A.1.2 (fun c a w=>mU (by have :=A.2; rwa [hi] at this) c a w) (.inr ⟨xQ U E I J,U⟩) C ?_ (v:=undef);rw [eD]; exact k
def gK (ops:Array aB) (listed:Array Bool) (i:Nat):Bool:=(dw .any ops listed)== [i]
theorem he (i:Nat) (hi:ops[i]? =some ⟨d',op,ty,pos,af,none⟩) (hr:gK ops listed i=true)
 (h:bZ P N ⟨d',op,ty,pos,af,none⟩ σ w (fun σ w=>S w∧bY P N ops Q S fuel (listed.setIfInBounds i true) σ w)):bY P N ops Q S (fuel+1) listed σ w:=by
 refine wpAnyH_all (rs:= [i]) (by simpa [gK] using hr) (by simp) ?_;intro k A;obtain rfl :k=i:=by simpa using A
 unfold wpOp;simp only [hi];rw [if_pos (fh _ rfl _)];exact .inl<|o6 h fun _ _ A=>A
theorem AB (i:Nat) {j t:Nat} {want:Bool} (hi:ops[i]? =some ⟨d',op,ty,pos,af,some (j,want)⟩) (hr:gK ops listed i=true)
 (C:dN ops j=some t) (E:aD t N.n=true) (I:σ t= .bool want)
 (h:bZ P N ⟨d',op,ty,pos,af,some (j,want)⟩ σ w (fun σ w=>S w∧bY P N ops Q S fuel (listed.setIfInBounds i true) σ w)):bY P N ops Q S (fuel+1) listed σ w:=by
 refine wpAnyH_all (rs:= [i]) (by simpa [gK] using hr) (by simp) ?_;intro k A;obtain rfl :k=i:=by simpa using A
 unfold wpOp;simp only [hi];rw [if_pos (by rw [ma rfl C E I]; cases want <;> rfl)];exact .inl<|o6 h fun _ _ A=>A
theorem hn (hr:(dw .any ops listed).isEmpty=true) (h:Q .normal σ w):bY P N ops Q S fuel listed σ w:=
 wpAnyH_done (by simpa using hr) ⟨σ,rfl,h⟩ fuel
theorem jA {t:Nat} {q:Prop} [Decidable q] (h:σ t= .bool (decide q)) (E:q→bY P N ops Q S fuel listed (aU σ t<|.bool true) w) (C:¬q→bY P N ops Q S fuel listed (aU σ t<|.bool false) w):bY P N ops Q S fuel listed σ w:=by
 by_cases A:q
 · have :=E A; rwa [k9 (by rw [h,decide_eq_true A])] at this
 · have :=C A; rwa [k9 (by rw [h,decide_eq_false A])] at this
theorem Hx {t:Nat} {b:Bool} (h:σ t= .bool b) (C:b=true→bY P N ops Q S fuel listed (aU σ t<|.bool true) w) (A:b=false→bY P N ops Q S fuel listed (aU σ t<|.bool false) w):bY P N ops Q S fuel listed σ w:=by
 cases b
 · have :=A rfl; rwa [k9 h] at this
 · have :=C rfl; rwa [k9 h] at this
end
def bj (P:au) (f:dT) (args:Array ag) (w:ah) (R:ag→ah→Prop):Prop :=
 Calls P f args w fun e w'=> ∃ v,e= .returned v∧R v w'
theorem bj.mono {P:au} {f:dT} {args:Array ag} {w:ah} {R A:ag→ah→Prop} (h:bj P f args w R) (hr:∀ v w',R v w'→A v w'):bj P f args w A:=
 kj h fun _ _ ⟨v,he,C⟩=>⟨v,he,hr _ _ C⟩
def du (args:List ag):Nat→ag:=fun i=>args.getD i undef
def fin (P:au) (fn:fH) (N:Fm) (R:ag→ah→Prop):bp→(Nat→ag)→ah→Prop
 | .normal,σ,w=> ∃ v,(results fn (act N σ).tmps).run P w= .ok v w∧R v w
 | .ret,σ,w=> ∃ v,(results fn (act N σ).tmps).run P w= .ok v w∧R v w
 | _,_,_=>False
theorem enter {P:au} {f:dT} {N:Nat} {fn:fH} {c:bL} {args:List ag} {w:ah} {R:ag→ah→Prop} (L:P.funcs[f]? =some fn) (hb:fn.body=some c)
 (J:fn.ntmps=N) (hn:bf args.length N=true) (h:bA P ⟨N,[],[],none⟩ c (fin P fn ⟨N,[],[],none⟩ R) (du args) w):bj P f args.toArray w R:=by
 subst J;refine calls_of_wp L hb ?_;have ha:({tmps:=args.toArray++nE (fn.ntmps - args.toArray.size) undef,defers:= []} :Act)=act ⟨fn.ntmps,[],[],none⟩ (du args):=by
  have M:args.length≤fn.ntmps:=by simpa using hn
  refine rB U fun i=> ?_;rw [iP];simp only [du,b9,eB];by_cases h1:i < args.length
  · rw [Dv (by simpa using h1),if_pos ab];simp [h1]
  · rw [Dw (by simpa using h1)];simp only [eB,Dy];by_cases I:i < fn.ntmps
    · rw [if_pos ab,if_pos I,gF ab]; rfl
    · rw [if_neg ab,if_neg I]
 rw [ha];refine yc ?_<|wpIn_wide.1 h;intro e a w A;cases e with
 | normal=>obtain ⟨σ,rfl,v,hr,E⟩:=A; exact ⟨rfl,v,hr,v,rfl,E⟩
 | ret=>obtain ⟨σ,rfl,v,hr,E⟩:=A; exact ⟨rfl,v,hr,v,rfl,E⟩
 | exit id=>obtain ⟨σ,rfl,C⟩:=A; exact C.elim
 | goto l=>obtain ⟨σ,rfl,C⟩:=A; exact C.elim
 | panic c=>obtain ⟨σ,rfl,C⟩:=A; exact (C σ fun _ _=>rfl).elim
 | outgrown=>exact A.elim
section
variable {P:au} {N:Fm} {σ:Nat→ag} {w:ah} {fn:fH} {R:ag→ah→Prop}
theorem m9 (t:Nat):(act N σ).tmps.getD t undef=ev N σ (.tmp t):=by
 rw [← dr]; rfl
theorem f0 (h:fn.results= #[]) (A:R (.tuple #[]) w):fin P fn N R .normal σ w:=⟨_,results_none h _ _ _,A⟩
theorem G4 (h:fn.results= #[]) (A:R (.tuple #[]) w):fin P fn N R .ret σ w:=⟨_,results_none h _ _ _,A⟩
theorem f1 {t:Nat} {v:ag} (h:fn.results= #[.tmp t]) (C:ev N σ (.tmp t)=v) (A:R v w):fin P fn N R .ret σ w:=
 ⟨v,by rw [results_tmp h,m9,C],A⟩
theorem f2 {t u:Nat} {v A:ag} (h:fn.results= #[.tmp t,.tmp u]) (E:ev N σ (.tmp t)=v) (hu:ev N σ (.tmp u)=A) (C:R (.tuple #[v,A]) w):fin P fn N R .ret σ w:=
 ⟨_,by rw [results_tmp2 h,m9,m9,E,hu],C⟩
theorem f3 {t u s:Nat} {v A C:ag} (h:fn.results= #[.tmp t,.tmp u,.tmp s]) (J:ev N σ (.tmp t)=v) (hu:ev N σ (.tmp u)=A) (I:ev N σ (.tmp s)=C) (E:R (.tuple #[v,A,C]) w):fin P fn N R .ret σ w:=by
 refine ⟨_,?_,E⟩;simp only [results,h];subst J hu I;simp only [← m9];simp [ys]
end
attribute [irreducible] bS bA bY bZ
end Go.Hb
namespace Go.Hb
def ay (h:Array Obj) (b off :Nat):Option ag:=
 match h[b]? with
 | some (.cells c _ _)=>c[off]?
 | _=>none
theorem js (w:ah) (b off :Nat):w.cell? ⟨b,off,none⟩=ay w.heap b off :=by
 unfold World.cell? ay;simp only;split <;> simp_all
theorem bh {h:Array Obj} {b off :Nat} {c:Array ag} {t:av} {f:Nat×Nat} (hb:h[b]? =some (.cells c t f)):ay h b off =c[off]? :=by
 simp only [ay,hb]
theorem FL {h:Array Obj} {b off :Nat} {v:ag} (A:ay h b off =some v):b < h.size:=by grind [ay]
structure Md (F:Nat→Prop) (w w':ah):Prop where
 os:w'.os=w.os
 output:w'.output=w.output
 size:w.heap.size≤w'.heap.size
 dH:∀ k,k < w.heap.size→¬F k→w'.heap[k]? =w.heap[k]?
abbrev Wk (w w':ah):Prop :=Md (fun _=>False) w w'
theorem Md.refl (F:Nat→Prop) (w:ah):Md F w w:=⟨rfl,rfl,aQ _,fun _ _ _=>rfl⟩
theorem Md.drew {F:Nat→Prop} {w w':ah} (h:Md F w w'):Md F w w'.drew:=⟨h.os,h.output,h.size,h.dH⟩
theorem Md.mono {F G:Nat→Prop} {w w':ah} (h:Md F w w') (E:∀ k,k < w.heap.size→F k→G k):Md G w w':=
 ⟨h.os,h.output,h.size,fun k A I=>h.dH k A fun C=>I<|E k A C⟩
theorem Md.trans {F:Nat→Prop} {a b c:ah} (h:Md F a b) (h':Md F b c):Md F a c:=
 ⟨h'.os.trans h.os,h'.output.trans h.output,cS h.size h'.size,fun k C A=>(h'.dH k (mq C h.size) A).trans<|h.dH k C A⟩
theorem Md.trans' {F G:Nat→Prop} {a b c:ah} (h:Md F a b) (h':Md G b c) (E:∀ k,k < a.heap.size→G k→F k):Md F a c:=
 ⟨h'.os.trans h.os,h'.output.trans h.output,cS h.size h'.size,
  fun k A C=>(h'.dH k (mq A h.size) fun x=>C<|E k A x).trans (h.dH k A C)⟩
theorem Md.ak {F:Nat→Prop} {w w':ah} (h:Md F w w') {k:Nat} {o:Obj} (A:w.heap[k]? =some o) (C:¬F k):w'.heap[k]? =some o:=
 (h.dH k (dm.1 A).1 C).trans A
theorem Md.ay {F:Nat→Prop} {w w':ah} (h:Md F w w') {b off :Nat} {v:ag} (A:Hb.ay w.heap b off =some v) (C:¬F b):Hb.ay w'.heap b off =some v:=by
 have :=h.dH b (FL A) C;unfold Hb.ay at*;rw [this]; exact A
theorem Wk.ay {w w':ah} (h:Wk w w') {b off :Nat} {v:ag} (A:Hb.ay w.heap b off =some v):Hb.ay w'.heap b off =some v:=Md.ay h A id
theorem Wk.ak {w w':ah} (h:Wk w w') {k:Nat} {o:Obj} (A:w.heap[k]? =some o):w'.heap[k]? =some o:=Md.ak h A id
structure Nw (w w':ah):Prop where
 md:Wk w w'
 size:w'.heap.size=w.heap.size+1
 one:∃ o,w'= {w with heap:=w.heap.push o}
theorem Bv (w:ah) (o:Obj):Nw w {w with heap:=w.heap.push o} :=
 ⟨⟨rfl,rfl,by simp,fun k A _=>by show (w.heap.push o)[k]? =_; rw [Array.getElem?_push,if_neg ab]⟩,by simp,o,rfl⟩
def da (P:au) (t:av):Option (Option Nat):=
 match P.underlying t with
 | some (.struct _) | some (.array _ _)=>((P.info? t).map (·.size)).map some
 | some _=>some none
 | none=>none
def mM (P:au) (s f:Nat):Option Nat:=
 match P.underlying s with
 | some (.struct A)=>match A[f]? with
   | some fd=>match P.info? fd.type with
     | some i=>if i.size=0 then none else some fd.offset
     | none=>none
   | none=>none
 | _=>none
def cU (P:au) (t:av):Option Nat:=
 match P.underlying t with
 | some (.slice e)=>(P.info? e).map (·.size)
 | _=>none
section
variable {P:au} {N:Fm} {σ:Nat→ag} {w:ah} {dst:Option Nat} {ty:av} {pos :String} {af:Array bT} {g:Option (Nat×Bool)} {x y z:aW}
theorem bt {t:av} {d:TypeDesc} (h:P.underlying t=some d) (w:ah):(underlying t).run P w= .ok d w:=by
 simp [underlying,h]
theorem de {t:av} {i:TypeInfo} (h:P.info? t=some i) (w:ah):(typeInfo t).run P w= .ok i w:=by
 simp [typeInfo,h]
theorem mv:(execOp (ev N σ) ⟨dst,.move x,ty,pos,af,g⟩).run P w= .ok (.value<|ev N σ x) w:=rfl
theorem aT:(execOp (ev N σ) ⟨dst,.assign x,ty,pos,af,g⟩).run P w= .ok (.value<|ev N σ x) w:=rfl
theorem iX (v:ag) (h:ev N σ x=v):(execOp (ev N σ) ⟨dst,.move x,ty,pos,af,g⟩).run P w= .ok (.value v) w:=by rw [← h]; rfl
theorem pK (v:ag) (h:ev N σ x=v):(execOp (ev N σ) ⟨dst,.assign x,ty,pos,af,g⟩).run P w= .ok (.value v) w:=by rw [← h]; rfl
theorem mZ {c:aW} (A:ev N σ c= .bool true):(execOp (ev N σ) ⟨dst,.pick c x y,ty,pos,af,g⟩).run P w= .ok (.value<|ev N σ x) w:=by
 simp [execOp,A,asBool]
theorem mY {c:aW} (A:ev N σ c= .bool false):(execOp (ev N σ) ⟨dst,.pick c x y,ty,pos,af,g⟩).run P w= .ok (.value<|ev N σ y) w:=by
 simp [execOp,A,asBool]
theorem nc {a:bR} (A:ev N σ x= .pointer (some a)):(execOp (ev N σ) ⟨dst,.nilCheck x,ty,pos,af,g⟩).run P w= .ok (.value<|.pointer<|some a) w:=by
 simp [execOp,A]
theorem xt {i:Nat} {vs:Array ag} {v:ag} (C:ev N σ x= .tuple vs) (A:vs[i]? =some v):(execOp (ev N σ) ⟨dst,.extract x i,ty,pos,af,g⟩).run P w= .ok (.value v) w:=by
 simp [execOp,C,Instr.extract,A]
theorem fa {s f n b off :Nat} (A:mM P s f=some n) (I:ev N σ x= .pointer (some ⟨b,off,none⟩)):
 (execOp (ev N σ) ⟨dst,.fieldAddr s x f,ty,pos,af,g⟩).run P w= .ok (.value<|.pointer<|some ⟨b,off+n,none⟩) w:=by
 unfold mM at A;split at A
 · rename_i L hu;split at A
   · rename_i fd E;split at A
     · rename_i i hi;split at A
       · cases A
       · rename_i J;cases A;have C:(⟨b,off,none⟩:bR).add fd.offset=⟨b,off+fd.offset,none⟩:=by unfold tM; split <;> simp_all
         simp [execOp,Instr.fieldAt,bt hu,E,I,nM,fieldPlace,sizeOf,de hi,J,C]
     · cases A
   · cases A
 · cases A
theorem ld {t b off :Nat} {v:ag} (hu:da P t=some none) (E:ev N σ x= .pointer (some ⟨b,off,none⟩)) (A:ay w.heap b off =some v):
 (execOp (ev N σ) ⟨dst,.load t x,ty,pos,af,g⟩).run P w= .ok (.value v) w:=by
 have C:w.cell? ⟨b,off,none⟩=some v:=by rw [js]; exact A
 unfold da at hu;cases hd:P.underlying t with
 | none=>rw [hd] at hu; cases hu
 | some d=>
   rw [hd] at hu;cases d <;> first
    | (simp only [gG] at hu; obtain ⟨_,_,h⟩:=hu; cases h; done)
    | simp [execOp,DU,E,nM,loadVar,isAgg,bt hd,run_load,C]
theorem fP (b off j:Nat):(⟨b,off,none⟩:bR).add j=⟨b,off+j,none⟩:=by
 unfold tM; split <;> simp_all
theorem eI {t n b off :Nat} {cs:List ag} (hu:da P t=some (some n)) (J:ev N σ x= .pointer (some ⟨b,off,none⟩)) (I:cs.length=n)
 (C:∀ j,j < n→ay w.heap b (off+j)=cs[j]?):
 (execOp (ev N σ) ⟨dst,.load t x,ty,pos,af,g⟩).run P w= .ok (.value<|.agg cs.toArray) w:=by
 have E:(loadCells ⟨b,off,none⟩ n).run P w= .ok cs.toArray w:=by
  subst I;refine run_loadCells_list (P:=P) w ⟨b,off,none⟩ cs fun j v A=> ?_;rw [fP,js];exact (C j (cK.1 A).1).trans A
 unfold da at hu;cases hd:P.underlying t with
 | none=>rw [hd] at hu; cases hu
 | some d=>
   rw [hd] at hu;cases hi:P.info? t with
   | none=>simp [D5,hi] at hd
   | some i=>
     rw [hi] at hu;cases d <;> first
      | (cases hu; done)
      | (simp only [fu,bM] at hu; subst hu
         simp [execOp,DU,J,nM,loadVar,isAgg,bt hd,sizeOf,de hi,E])
theorem ia {t n b off len cap:Nat} {k:bu} {i:Int} (he:cU P t=some n) (A:ev N σ x= .slice (some ⟨b,off,none⟩) len cap) (C:ev N σ y= .int k i) (h0:0≤i∧i < len):
 (execOp (ev N σ) ⟨dst,.indexAddr t x y,ty,pos,af,g⟩).run P w= .ok (.value<|.pointer<|some ⟨b,off+i.toNat*n,none⟩) w:=by
 unfold cU at he;cases hd:P.underlying t with
 | none=>rw [hd] at he; cases he
 | some d=>
   rw [hd] at he;cases d <;> first | (cases he; done) | skip
   rename_i e;cases hi:P.info? e with
   | none=>simp [hi] at he
   | some j=>
     simp only [hi,fu,bM] at he;subst he;simp [execOp,DT,A,C,asIntOf,bt hd,h0.1,h0.2,sizeOf,de hi,fP]
def eb (a:Option bR) (cap l n:Nat):Option bR:=if cap=l then a else a.map (·.add (l*n))
theorem xr {t n len cap:Nat} {a:Option bR} {lo hi:Option ag} {l h:Nat} (he:cU P t=some n) (E:ev N σ x= .slice a len cap)
 (hb:(kn true len cap lo hi none).run P w= .ok (l,h,cap) w) (A C:Option aW) (I:A.map (ev N σ)=lo) (J:C.map (ev N σ)=hi):
 (execOp (ev N σ) ⟨dst,.slice t x A C none,ty,pos,af,g⟩).run P w= .ok (.value<|.slice (eb a cap l n) (h - l)<|cap - l) w:=by
 unfold cU at he;cases hd:P.underlying t with
 | none=>rw [hd] at he; cases he
 | some d=>
   rw [hd] at he;cases d <;> first | (cases he; done) | skip
   rename_i e;cases hi':P.info? e with
   | none=>simp [hi'] at he
   | some j=>
     simp only [hi',fu,bM] at he;subst he;simp [execOp,nK,qW,E,I,J,bt hd,hb,sizeOf,de hi',eb]
theorem CB {t n len cap:Nat} {a:Option bR} {k:bu} {i:Int} (he:cU P t=some n) (C:ev N σ x= .slice a len cap) (E:ev N σ z= .int k i) (h0:0≤i∧i≤cap):
 (execOp (ev N σ) ⟨dst,.slice t x none (some z) none,ty,pos,af,g⟩).run P w= .ok (.value<|.slice a i.toNat cap) w:=by
 have :=xr (dst:=dst) (ty:=ty) (pos :=pos) (af:=af) (g:=g) (w:=w) (lo:=none) (hi:=some<|.int k i) (l:=0) (h:=i.toNat) he C
  (by simp [kn,nL,asIntOf,h0.1,h0.2]) none (some z) rfl (by simp [E])
 rw [this];have A:eb a cap 0 n=a:=by
  unfold eb; split
  · rfl
  · cases a <;> simp [tM]
 rw [A]; rfl
theorem xu {t n len cap:Nat} {a:Option bR} {k:bu} {i:Int} (he:cU P t=some n) (A:ev N σ x= .slice a len cap) (C:ev N σ y= .int k i) (h0:0≤i∧i≤len):
 (execOp (ev N σ) ⟨dst,.slice t x (some y) none none,ty,pos,af,g⟩).run P w= .ok (.value<|.slice (eb a cap i.toNat n) (len - i.toNat)<|cap - i.toNat) w:=
 xr (lo:=some<|.int k i) (hi:=none) he A
  (by simp [kn,nL,asIntOf,h0.1,h0.2]) (some y) none (by simp [C]) rfl
theorem xq {t n len cap:Nat} {a:Option bR} {k A:bu} {i j:Int} (he:cU P t=some n) (E:ev N σ x= .slice a len cap) (I:ev N σ y= .int k i) (J:ev N σ z= .int A j) (h0:0≤i∧i≤j∧j≤cap):
 (execOp (ev N σ) ⟨dst,.slice t x (some y) (some z) none,ty,pos,af,g⟩).run P w= .ok (.value<|.slice (eb a cap i.toNat n) (j.toNat - i.toNat)<|cap - i.toNat) w:=by
 have h1:0≤j:=ab;have C:i≤(j.toNat:Int):=ab;refine xr (lo:=some<|.int k i) (hi:=some<|.int A j) he E ?_ (some y) (some z) (by simp [I])<|by simp [J]
 simp only [kn,nL,asIntOf,ij,ko,gQ,q8,h0.1,h1,h0.2.2,C,and_self,if_true]
theorem gP {n:Int} (h: -9223372036854775808≤n∧n≤9223372036854775807):tQ.wrap n=n:=IntWalk.i64_in n h
theorem xR {n:Int} (h: -2147483648≤n∧n≤2147483647):IntKind.i32.wrap n=n:=IntWalk.i32_in n h
theorem xU {n:Int} (h:0≤n∧n≤255):IntKind.u8.wrap n=n:=IntWalk.u8_in n h
theorem Dk {n:Int} (h:0≤n∧n≤4294967295):IntKind.u32.wrap n=n:=IntWalk.u32_in n h
theorem gC {n:Int} (h:0≤n∧n≤18446744073709551615):IntKind.u64.wrap n=n:=IntWalk.u64_in n h
theorem iv {k:bu} {a b:Int} (h:a=b):bd k a=bd k b:=by rw [h]
theorem ad {t E:av} {k:bu} {a b:Int} (A:ev N σ x= .int k a) (C:ev N σ y= .int k b) (hr:k.wrap (a+b)=a+b):
 (execOp (ev N σ) ⟨dst,.binOp .add t x y E,ty,pos,af,g⟩).run P w= .ok (.value<|.int k<|a+b) w:=by
 simp [execOp,A,C,eqGuard,binOp,qY,hr]
theorem uw {t E:av} {k:bu} {a b:Int} (v:Int) (A:ev N σ x= .int k a) (C:ev N σ y= .int k b) (hr:k.wrap (a+b)=v):
 (execOp (ev N σ) ⟨dst,.binOp .add t x y E,ty,pos,af,g⟩).run P w= .ok (.value<|.int k v) w:=by
 subst hr; simp [execOp,A,C,eqGuard,binOp,qY]
theorem xd {t E:av} {k:bu} {a b:Int} (v:Int) (A:ev N σ x= .int k a) (C:ev N σ y= .int k b) (hr:k.wrap (a - b)=v):
 (execOp (ev N σ) ⟨dst,.binOp .sub t x y E,ty,pos,af,g⟩).run P w= .ok (.value<|.int k v) w:=by
 subst hr; simp [execOp,A,C,eqGuard,binOp,qY]
theorem wg {t E:av} {k:bu} {a b:Int} (v:Int) (A:ev N σ x= .int k a) (C:ev N σ y= .int k b) (hr:k.wrap (a*b)=v):
 (execOp (ev N σ) ⟨dst,.binOp .mul t x y E,ty,pos,af,g⟩).run P w= .ok (.value<|.int k v) w:=by
 subst hr; simp [execOp,A,C,eqGuard,binOp,qY]
theorem xP {a:Int} {n:Nat} (h:a=n) (hn:n≤9223372036854775807):tQ.wrap a=(n:Int):=by rw [h]; exact gP ab
theorem bv {p q:Prop} [Decidable p] [Decidable q] (h:p↔q):bq (decide p)=bq (decide q):=by rw [decide_eq_decide.2 h]
theorem sb {t E:av} {k:bu} {a b:Int} (A:ev N σ x= .int k a) (C:ev N σ y= .int k b) (hr:k.wrap (a - b)=a - b):
 (execOp (ev N σ) ⟨dst,.binOp .sub t x y E,ty,pos,af,g⟩).run P w= .ok (.value<|.int k<|a - b) w:=by
 simp [execOp,A,C,eqGuard,binOp,qY,hr]
theorem qu {t E:av} {k:bu} {a b:Int} (A:ev N σ x= .int k a) (C:ev N σ y= .int k b) (h0:0≤a∧0 < b) (hr:k.wrap (a / b)=a / b):
 (execOp (ev N σ) ⟨dst,.binOp .quo t x y E,ty,pos,af,g⟩).run P w= .ok (.value<|.int k<|a / b) w:=by
 have :a.tdiv b=a / b:=Ec h0.1;simp [execOp,A,C,eqGuard,binOp,yi,show b≠0 from by omega,this,hr]
theorem Je {t E:av} {k:bu} {a b:Int} (v:Int) (A:ev N σ x= .int k a) (C:ev N σ y= .int k b) (h0:0≤a∧0 < b) (hr:k.wrap (a / b)=v):
 (execOp (ev N σ) ⟨dst,.binOp .quo t x y E,ty,pos,af,g⟩).run P w= .ok (.value<|.int k v) w:=by
 have :a.tdiv b=a / b:=Ec h0.1;subst hr; simp [execOp,A,C,eqGuard,binOp,yi,show b≠0 from by omega,this]
theorem rm {t E:av} {k:bu} {a b:Int} (A:ev N σ x= .int k a) (C:ev N σ y= .int k b) (h0:0≤a∧0 < b):
 (execOp (ev N σ) ⟨dst,.binOp .rem t x y E,ty,pos,af,g⟩).run P w= .ok (.value<|.int k<|a % b) w:=by
 have :a.tmod b=a % b:=Int.tmod_eq_emod_of_nonneg h0.1;simp [execOp,A,C,eqGuard,binOp,yi,show b≠0 from by omega,this]
theorem lt {t E:av} {k:bu} {a b:Int} (A:ev N σ x= .int k a) (C:ev N σ y= .int k b):
 (execOp (ev N σ) ⟨dst,.binOp .lss t x y E,ty,pos,af,g⟩).run P w= .ok (.value<|.bool<|decide (a < b)) w:=by
 simp [execOp,A,C,eqGuard,binOp,pk]
theorem le {t E:av} {k:bu} {a b:Int} (A:ev N σ x= .int k a) (C:ev N σ y= .int k b):
 (execOp (ev N σ) ⟨dst,.binOp .leq t x y E,ty,pos,af,g⟩).run P w= .ok (.value<|.bool<|decide (a≤b)) w:=by
 simp [execOp,A,C,eqGuard,binOp,pk]
theorem gt {t E:av} {k:bu} {a b:Int} (A:ev N σ x= .int k a) (C:ev N σ y= .int k b):
 (execOp (ev N σ) ⟨dst,.binOp .gtr t x y E,ty,pos,af,g⟩).run P w= .ok (.value<|.bool<|decide (b < a)) w:=by
 simp [execOp,A,C,eqGuard,binOp,pk]
theorem ge {t E:av} {k:bu} {a b:Int} (A:ev N σ x= .int k a) (C:ev N σ y= .int k b):
 (execOp (ev N σ) ⟨dst,.binOp .geq t x y E,ty,pos,af,g⟩).run P w= .ok (.value<|.bool<|decide (b≤a)) w:=by
 simp [execOp,A,C,eqGuard,binOp,pk]
theorem Ab {t E:av} {k:bu} {a b:Int} (A:ev N σ x= .int k a) (C:ev N σ y= .int k b):
 (execOp (ev N σ) ⟨dst,.binOp .eql t x y E,ty,pos,af,g⟩).run P w= .ok (.value<|.bool<|decide (a=b)) w:=by
 simp [execOp,A,C,eqGuard,binOp,pk];rw [pd]; simp
theorem Br {t E:av} {k:bu} {a b:Int} (A:ev N σ x= .int k a) (C:ev N σ y= .int k b):
 (execOp (ev N σ) ⟨dst,.binOp .neq t x y E,ty,pos,af,g⟩).run P w= .ok (.value<|.bool<|decide (a≠b)) w:=by
 simp [execOp,A,C,eqGuard,binOp,pk];rw [pd]; simp
theorem no {t:av} {b:Bool} (A:ev N σ x= .bool b):(execOp (ev N σ) ⟨dst,.unOp .not t x,ty,pos,af,g⟩).run P w= .ok (.value<|.bool<|!b) w:=by
 simp [execOp,A,Op.unary]
theorem yZ {t I:av} {k:bu} {a b v:Int} (C:ev N σ x= .int k a) (E:ev N σ y= .int k b) (A:k.wrap (ic k.bits a ||| ic k.bits b).toNat=v):
 (execOp (ev N σ) ⟨dst,.binOp .or t x y I,ty,pos,af,g⟩).run P w= .ok (.value<|.int k v) w:=by
 subst A; simp [execOp,C,E,eqGuard,binOp,Op.intBits]
theorem cT {t I:av} {k:bu} {a b v:Int} (C:ev N σ x= .int k a) (E:ev N σ y= .int k b) (A:k.wrap (ic k.bits a &&& ic k.bits b).toNat=v):
 (execOp (ev N σ) ⟨dst,.binOp .and t x y I,ty,pos,af,g⟩).run P w= .ok (.value<|.int k v) w:=by
 subst A; simp [execOp,C,E,eqGuard,binOp,Op.intBits]
theorem shr {t I:av} {k J:bu} {a b v:Int} (C:ev N σ x= .int k a) (E:ev N σ y= .int J b) (h0:0≤b) (A:a.fdiv (2 ^ min b.toNat k.bits)=v):
 (execOp (ev N σ) ⟨dst,.binOp .shr t x y I,ty,pos,af,g⟩).run P w= .ok (.value<|.int k v) w:=by
 have :¬b < 0:=ab;simp [execOp,C,E,eqGuard,binOp,Op.shift,this,A]
theorem shl {t I:av} {k J:bu} {a b v:Int} (C:ev N σ x= .int k a) (E:ev N σ y= .int J b) (h0:0≤b) (A:k.wrap (a*2 ^ min b.toNat k.bits)=v):
 (execOp (ev N σ) ⟨dst,.binOp .shl t x y I,ty,pos,af,g⟩).run P w= .ok (.value<|.int k v) w:=by
 have :¬b < 0:=ab;simp [execOp,C,E,eqGuard,binOp,Op.shift,this,A]
theorem K2 (m:Nat) (h:m < 256):((eR m).toNat:Int)=(m:Int):=by
 simp [Nat.mod_eq_of_lt h]
theorem cv {t u:av} {k A:bu} {n:Int} (hu:P.underlying u=some (.int A)) (E:(P.underlying t).isSome=true) (I:ev N σ x= .int k n):
 (execOp (ev N σ) ⟨dst,.convert t u x,ty,pos,af,g⟩).run P w= .ok (.value<|.int A<|A.wrap n) w:=by
 obtain ⟨d,C⟩:=mu.1 E;cases d <;> simp [execOp,I,convert,bt hu,bt C,Conv.intToInt]
theorem Gf {t u:av} {k A:bu} {n v:Int} (hu:P.underlying u=some (.int A)) (C:(P.underlying t).isSome=true) (E:ev N σ x= .int k n) (hr:A.wrap n=v):
 (execOp (ev N σ) ⟨dst,.convert t u x,ty,pos,af,g⟩).run P w= .ok (.value<|.int A v) w:=by
 rw [cv hu C E,hr]
theorem fw {t u:av} {k A:bu} {n:Int} (hu:P.underlying u=some (.int A)) (C:(P.underlying t).isSome=true) (E:ev N σ x= .int k n) (hr:A.wrap n=n):
 (execOp (ev N σ) ⟨dst,.convert t u x,ty,pos,af,g⟩).run P w= .ok (.value<|.int A n) w:=by
 rw [cv hu C E,hr]
theorem u7 (d:Nat) {t e:av} {a:Option bR} (hu:P.underlying t=some (.pointer e)):(ie (d+1) t (.pointer a)<|.pointer none).run P w= .ok a.isNone w:=by
 cases a <;> simp [ie,bt hu]
theorem GV {t e:av} {a:Option bR} (hu:P.underlying t=some (.pointer e)):(mc t (.pointer a)<|.pointer none).run P w= .ok a.isNone w:=u7 9999 hu
theorem jw {t E e:av} {a:Option bR} (hu:P.underlying t=some (.pointer e)) (A:ev N σ x= .pointer a) (C:ev N σ y= .pointer none):
 (execOp (ev N σ) ⟨dst,.binOp .eql t x y E,ty,pos,af,g⟩).run P w= .ok (.value<|.bool a.isNone) w:=by
 have h:(binOp .eql t (.pointer a)<|.pointer none).run P w= .ok (.bool a.isNone) w:=by
  simp only [binOp]; simp [GV hu]
 simp [execOp,A,C,eqGuard,h]
theorem Aa (d:Nat) {t:av} {a b:Bool} (hu:P.underlying t=some .bool):(ie (d+1) t (.bool a)<|.bool b).run P w= .ok (a==b) w:=by
 simp [ie,bt hu]
theorem GU {t:av} {a b:Bool} (hu:P.underlying t=some .bool):(mc t (.bool a)<|.bool b).run P w= .ok (a==b) w:=Aa 9999 hu
theorem u6 {t E:av} {a b:Bool} (hu:P.underlying t=some .bool) (A:ev N σ x= .bool a) (C:ev N σ y= .bool b):
 (execOp (ev N σ) ⟨dst,.binOp .eql t x y E,ty,pos,af,g⟩).run P w= .ok (.value<|.bool<|decide (a=b)) w:=by
 have h:(binOp .eql t (.bool a)<|.bool b).run P w= .ok (.bool<|decide (a=b)) w:=by
  simp only [binOp]; simp [GU hu]; cases a <;> cases b <;> rfl
 simp [execOp,A,C,eqGuard,h]
def str (l:List UInt8):ag:= .string ⟨⟨l⟩⟩
theorem A7 {t:av} {l:List UInt8} {at_:Array av} (A:P.underlying t=some .string) (ha:at_= #[t]) (C:ev N σ x=str l):
 (execOp (ev N σ) ⟨dst,.call ⟨.builtin .len,#[x],at_⟩,ty,pos,af,g⟩).run P w= .ok (.value<|.int .i64 l.length) w:=by
 subst ha;simp [execOp,resolve,invoke,builtin,yb,bt A,C,str,goInt];rfl
theorem vU {t e:av} {a:Option bR} {n c:Nat} {at_:Array av} (A:P.underlying t=some (.slice e)) (ha:at_= #[t]) (C:ev N σ x= .slice a n c):
 (execOp (ev N σ) ⟨dst,.call ⟨.builtin .len,#[x],at_⟩,ty,pos,af,g⟩).run P w= .ok (.value<|.int .i64 n) w:=by
 subst ha;simp [execOp,resolve,invoke,builtin,yb,bt A,C,goInt]
theorem Iq {t k e r:av} {es:Array MapEntry} {c:Nat} {at_:Array av} (A:P.underlying t=some (.map k e)) (ha:at_= #[t]) (C:ev N σ x= .map (some r)) (hr:w.heap[r]? =some (.map es c)):
 (execOp (ev N σ) ⟨dst,.call ⟨.builtin .len,#[x],at_⟩,ty,pos,af,g⟩).run P w= .ok (.value<|.int .i64 es.size) w:=by
 subst ha;simp [execOp,resolve,invoke,builtin,yb,bt A,C,goInt,getObj,ln,hr]
theorem mn {k:bu} {a b:Int} {at_:Array av} (A:ev N σ x= .int k a) (C:ev N σ y= .int k b):
 (execOp (ev N σ) ⟨dst,.call ⟨.builtin .min,#[x,y],at_⟩,ty,pos,af,g⟩).run P w= .ok (.value<|.int k<|min a b) w:=by
 have :(if b < a then b else a)=min a b:=ab;simp [execOp,resolve,invoke,builtin,Builtin.min_,Builtin.min2,A,C,this]
theorem mx {k:bu} {a b:Int} {at_:Array av} (A:ev N σ x= .int k a) (C:ev N σ y= .int k b):
 (execOp (ev N σ) ⟨dst,.call ⟨.builtin .max,#[x,y],at_⟩,ty,pos,af,g⟩).run P w= .ok (.value<|.int k<|max a b) w:=by
 have :(if b > a then b else a)=max a b:=ab;simp [execOp,resolve,invoke,builtin,Builtin.max_,Builtin.max2,A,C,this]
theorem HL {t:av} {l:List UInt8} {k:bu} {i:Int} (I:P.underlying t=some .string) (J:ev N σ x=str l) (L:ev N σ y= .int k i) (h0:0≤i∧i < l.length):
 (execOp (ev N σ) ⟨dst,.index t x y,ty,pos,af,g⟩).run P w= .ok (.value<|.int .u8 ((l.getD i.toNat 0).toNat:Int)) w:=by
 have E:(⟨⟨l⟩⟩:ByteArray)[i.toNat]? =some (l.getD i.toNat 0):=by
  have A:i.toNat < l.length:=ab;have C:i.toNat < (⟨⟨l⟩⟩:ByteArray).size:=A;rw [getElem?_pos (⟨⟨l⟩⟩:ByteArray) i.toNat C];simp [b9,A,ByteArray.getElem_eq_getElem_data]
 simp [execOp,Instr.index,J,L,asIntOf,str,bt I,h0.1,E]
theorem xp (l:List UInt8) (a b:Nat):Value.string ((⟨⟨l⟩⟩:ByteArray).extract a b)=str ((l.take b).drop a):=by
 unfold str;congr 1;apply ByteArray.ext;simp [ByteArray.data_extract,List.extract_eq_take_drop,List.drop_take]
theorem AJ (n:Nat) {t:av} {l:List UInt8} {k:bu} (A:P.underlying t=some .string) (C:ev N σ x=str l) (E:ev N σ y= .int k (n:Int)) (h:n < l.length):
 (execOp (ev N σ) ⟨dst,.index t x y,ty,pos,af,g⟩).run P w= .ok (.value<|.int .u8 ((l.getD n 0).toNat:Int)) w:=HL A C E ⟨ab,ab⟩
theorem fy {n:Nat} {t:av} {l:List UInt8} {k:bu} (A:P.underlying t=some .string) (C:ev N σ x=str l) (E:ev N σ y= .int k (n:Int)) (h:n < l.length):
 (execOp (ev N σ) ⟨dst,.index t x y,ty,pos,af,g⟩).run P w= .ok (.value<|.int .u8 ((l.getD n 0).toNat:Int)) w:=AJ n A C E h
theorem kX {t:av} {l:List UInt8} {k L:bu} {a b:Int} (C:P.underlying t=some .string) (E:ev N σ x=str l) (I:ev N σ y= .int k a) (J:ev N σ z= .int L b) (h0:0≤a∧a≤b∧b≤l.length):
 (execOp (ev N σ) ⟨dst,.slice t x (some y) (some z) none,ty,pos,af,g⟩).run P w= .ok (.value<|str<|(l.take b.toNat).drop a.toNat) w:=by
 have h1:b≤((⟨⟨l⟩⟩:ByteArray).size:Nat):=h0.2.2;have A:0≤b:=ab;have M:a≤(b.toNat:Nat):=ab;simp [execOp,nK,qW,kn,nL,E,I,J,asIntOf,str,bt C,h0.1,h1,A];rw [if_pos ab];exact congrArg (fun v=>q7 (qX v) w)<|xp l a.toNat b.toNat
theorem xw {t:av} {l:List UInt8} {I:bu} {b:Int} (A:P.underlying t=some .string) (C:ev N σ x=str l) (E:ev N σ z= .int I b) (h0:0≤b∧b≤l.length):
 (execOp (ev N σ) ⟨dst,.slice t x none (some z) none,ty,pos,af,g⟩).run P w= .ok (.value<|str<|l.take b.toNat) w:=by
 have h1:b≤((⟨⟨l⟩⟩:ByteArray).size:Nat):=h0.2;have :=xp l 0 b.toNat;simp only [List.drop_zero] at this;simp [execOp,nK,qW,kn,nL,C,E,asIntOf,str,bt A,h0.1,h1];exact D7 this
theorem Kc {t:av} {l:List UInt8} {k:bu} {a:Int} (A:P.underlying t=some .string) (C:ev N σ x=str l) (E:ev N σ y= .int k a) (h0:0≤a∧a≤l.length):
 (execOp (ev N σ) ⟨dst,.slice t x (some y) none none,ty,pos,af,g⟩).run P w= .ok (.value<|str<|l.drop a.toNat) w:=by
 have h1:a≤((⟨⟨l⟩⟩:ByteArray).size:Nat):=h0.2;have :=xp l a.toNat l.length;simp only [List.take_length] at this;simp [execOp,nK,qW,kn,nL,C,E,asIntOf,str,bt A,h0.1,h1];exact D7 this
theorem o0 (l:List UInt8):(⟨⟨l⟩⟩:ByteArray).toList=l:=Lib.toList_data ⟨⟨l⟩⟩
theorem cc {t I:av} {l m:List UInt8} (C:ev N σ x=str l) (E:ev N σ y=str m) (h:l.length+m.length≤9223372036854775807):
 (execOp (ev N σ) ⟨dst,.binOp .add t x y I,ty,pos,af,g⟩).run P w= .ok (.value<|str<|l++m) w:=by
 have h1:¬(((⟨⟨l⟩⟩:ByteArray).size+(⟨⟨m⟩⟩:ByteArray).size:Nat):Int) > tQ.max:=by
  have :tQ.max=9223372036854775807:=aE;rw [this];show ¬((l.length+m.length:Nat):Int) > _;omega
 have A:(⟨⟨l⟩⟩:ByteArray)++(⟨⟨m⟩⟩:ByteArray)=⟨⟨l++m⟩⟩:=by
  apply ByteArray.ext; simp
 simp only [execOp,C,E,str,eqGuard,binOp,nO];rw [if_neg h1,A];rfl
theorem Ac {t E:av} {l m:List UInt8} (A:ev N σ x=str l) (C:ev N σ y=str m):
 (execOp (ev N σ) ⟨dst,.binOp .eql t x y E,ty,pos,af,g⟩).run P w= .ok (.value<|.bool<|decide (l=m)) w:=by
 simp only [execOp,A,C,str,eqGuard,binOp,nO,o0];show q7 (qX<|.bool<|l==m) w=_;rw [show (l==m)=decide (l=m) from by rw [pd]; simp]
theorem Bs {t E:av} {l m:List UInt8} (A:ev N σ x=str l) (C:ev N σ y=str m):
 (execOp (ev N σ) ⟨dst,.binOp .neq t x y E,ty,pos,af,g⟩).run P w= .ok (.value<|.bool<|decide (l≠m)) w:=by
 simp only [execOp,A,C,str,eqGuard,binOp,nO,o0];show q7 (qX<|.bool<|!(l==m)) w=_;rw [show (!(l==m))=decide (l≠m) from by rw [pd]; simp]
def m8 (a b:List UInt8):Bool:=yh a b
theorem Kb (x y:UInt8) (a b:List UInt8):m8 (x::a) (y::b)=(decide (x < y) || (x==y && m8 a b)):=rfl
theorem It {t E:av} {l m:List UInt8} (A:ev N σ x=str l) (C:ev N σ y=str m):
 (execOp (ev N σ) ⟨dst,.binOp .lss t x y E,ty,pos,af,g⟩).run P w= .ok (.value<|.bool<|m8 l m) w:=by
 simp only [execOp,A,C,str,eqGuard,binOp,nO,o0];rfl
theorem Ii {t E:av} {l m:List UInt8} (A:ev N σ x=str l) (C:ev N σ y=str m):
 (execOp (ev N σ) ⟨dst,.binOp .leq t x y E,ty,pos,af,g⟩).run P w= .ok (.value<|.bool (m8 l m || decide (l=m))) w:=by
 simp only [execOp,A,C,str,eqGuard,binOp,nO,o0];show q7 (qX<|.bool (yh l m || l==m)) w=_;rw [show (l==m)=decide (l=m) from by rw [pd]; simp];rfl
theorem Hs {t E:av} {l m:List UInt8} (A:ev N σ x=str l) (C:ev N σ y=str m):
 (execOp (ev N σ) ⟨dst,.binOp .gtr t x y E,ty,pos,af,g⟩).run P w= .ok (.value<|.bool<|!(m8 l m || decide (l=m))) w:=by
 simp only [execOp,A,C,str,eqGuard,binOp,nO,o0];show q7 (qX<|.bool<|!(yh l m || l==m)) w=_;rw [show (l==m)=decide (l=m) from by rw [pd]; simp];rfl
theorem Hn {t E:av} {l m:List UInt8} (A:ev N σ x=str l) (C:ev N σ y=str m):
 (execOp (ev N σ) ⟨dst,.binOp .geq t x y E,ty,pos,af,g⟩).run P w= .ok (.value<|.bool<|!m8 l m) w:=by
 simp only [execOp,A,C,str,eqGuard,binOp,nO,o0];rfl
theorem mf {fn:Fn} {first captured:Array aW} :(execOp (ev N σ) ⟨dst,.makeFunc fn first captured,ty,pos,af,g⟩).run P w= .ok (.value<|.func fn (first.map<|ev N σ)<|captured.map<|ev N σ) w:=rfl
theorem Bo {fn:Fn} {first captured:Array aW} :(execOp (ev N σ) ⟨dst,.makeFunc fn first captured,ty,pos,af,g⟩).run P w= .ok (.value<|.func fn (first.toList.map<|ev N σ).toArray (captured.toList.map<|ev N σ).toArray) w:=by
 rw [mf,← iH,← iH]
end
end Go.Hb
namespace Go.Hb
def aC (h:Array Obj) (b:Nat) (L:List ag):Prop := ∃ e,h[b]? =some (.cells L.toArray e (0,0))
theorem aC.ay {h:Array Obj} {b:Nat} {L:List ag} (hb:aC h b L) (j:Nat):Hb.ay h b j=L[j]? :=by
 obtain ⟨e,hb⟩:=hb;rw [bh hb]; simp
theorem aC.aK {h:Array Obj} {b:Nat} {L:List ag} (hb:aC h b L) (j:Nat):Hb.ay h b (0 +j)=L[j]? :=by
 rw [cM,hb.ay]
theorem Md.B {F:Nat→Prop} {w w':ah} (h:Md F w w') {b:Nat} {L:List ag} (hb:aC w.heap b L) (A:¬F b):aC w'.heap b L:=
 let ⟨e,hb⟩:=hb; ⟨e,h.ak hb A⟩
theorem Wk.B {w w':ah} (h:Wk w w') {b:Nat} {L:List ag} (hb:aC w.heap b L):aC w'.heap b L:=Md.B h hb id
theorem aC.lt {h:Array Obj} {b:Nat} {L:List ag} (hb:aC h b L):b < h.size:=by grind [aC]
def bk (a:Option bR):Nat:=match a with | some ad=>ad.block | none=>0
def fo (a:Option bR):Nat:=match a with | some ad=>ad.off | none=>0
structure aX (h:Array Obj) (a:Option bR) (xs:List ag):Prop where
 ok:xs≠[]→a=some ⟨bk a,fo a,none⟩
 ay:∀ j u,xs[j]? =some u→Hb.ay h (bk a) (fo a+j)=some u
theorem aX.nil (h:Array Obj) (a:Option bR):aX h a []:=⟨fun h=>absurd rfl h,fun _ _ hu=>by simp at hu⟩
theorem aX.md {F:Nat→Prop} {w w':ah} {a:Option bR} {xs:List ag} (A:aX w.heap a xs) (h:Md F w w') (C:xs≠[]→¬F (bk a)):aX w'.heap a xs:=
 ⟨A.ok,fun j u hu=>h.ay (A.ay j u hu)<|C<|by rintro rfl; simp at hu⟩
theorem aX.wk {w w':ah} {a:Option bR} {xs:List ag} (A:aX w.heap a xs) (h:Wk w w'):aX w'.heap a xs:=A.md h fun _ x=>x
theorem aX.fD {h:Array Obj} {b:Nat} {L:List ag} (hb:aC h b L):aX h (some ⟨b,0,none⟩) L:=
 ⟨fun _=>rfl,fun j u hu=>by show Hb.ay h b (0 +j)=_; rw [cM,hb.ay]; exact hu⟩
theorem aX.uA {h:Array Obj} {a:Option bR} {xs:List ag} (A:aX h a xs) {i:Nat} {u:ag} (hu:xs[i]? =some u):Hb.ay h (bk a) (fo a+i*1)=some u:=by
 rw [Nat.mul_one]; exact A.ay i u hu
theorem Bq {α:Type} {f:α→ag} {l:List α} (h:0 < l.length):l.map f≠[]:=by
 cases l with
 | nil=>simp at h
 | cons x l=>simp
def dK (P:au) (t e size bytes:Nat):Bool:=
 match P.underlying t with
 | some (.slice e')=>e'==e && match P.info? e with
   | some i=>i.size==size && i.bytes==bytes && aD 0 size && match i.zero with
     | some z=>z.cells.size==size
     | none=>false
   | none=>false
 | _=>false
theorem oW {P:au} {t e size bytes:Nat} (h:dK P t e size bytes=true):
 P.underlying t=some (.slice e)∧∃ i z,P.info? e=some i∧i.zero=some z∧i.size=size∧i.bytes=bytes∧z.cells.size=size∧0 < size:=by
 unfold dK at h;split at h
 · rename_i e' hu;simp only [a0,beq_iff_eq] at h;obtain ⟨rfl,h⟩:=h;split at h
   · rename_i i hi;simp only [a0,beq_iff_eq] at h;obtain ⟨⟨⟨h1,A⟩,h3⟩,h4⟩:=h;split at h4
     · rename_i z C;exact ⟨hu,i,z,hi,C,h1,A,by simpa using h4,mq (mr 0)<|bP h3⟩
     · cases h4
   · cases h
 · cases h
def cC (P:au) (t:av):Option Nat:=(P.info? t).map (·.size)
def zeroOf (P:au) (t:av):Option (Option<|List ag):=(P.info? t).map fun i=>i.zero.map fun z=>z.cells.toList
def gr (P:au) (f:dT):Prop := ∀ args w,(callFunc f args).run P w= .ok (.enter f args) w
theorem uG {P:au} {f:dT} {fn:fH} (C:P.funcs[f]? =some fn) (hn:(fn.name== "runtime.NumGoroutine")=false) (hb:fn.body.isNone=false):gr P f:=by
 intro args w;have h1:¬((fn.name== "runtime.NumGoroutine")=true):=by rw [hn]; simp
 have A:¬(fn.body.isNone=true):=by rw [hb]; simp
 simp only [callFunc,ij,run_program,gQ,C];rw [if_neg h1,if_neg A];rfl
section
variable {P:au} {N:Fm} {σ:Nat→ag} {w:ah} {dst:Option Nat} {ty:av} {pos :String} {af:Array bT} {g:Option (Nat×Bool)} {x y z:aW} {K:(Nat→ag)→ah→Prop}
theorem Di {o:aB} {f:dT} {L:List ag} {R:ag→ah→Prop} (C:(execOp (ev N σ) o).run P w= .ok (.enter f L.toArray) w) (hr:bj P f L.toArray w R)
 (k:∀ v w',R v w'→K (dv σ o.dst v) w'):bZ P N o σ w K:=by
 unfold bZ gE;rw [dr,C];refine kj hr fun e w' ⟨v,he,A⟩=> ?_;subst he;exact ⟨_,eD ..,k v w' A⟩
theorem cl {f:dT} {args:Array aW} {A:Array av} {L:List ag} {R:ag→ah→Prop} (E:gr P f) (hr:bj P f L.toArray w R) (C:args.toList.map (ev N σ)=L)
 (k:∀ v w',R v w'→K (dv σ dst v) w'):bZ P N ⟨dst,.call ⟨.value (.func f),args,A⟩,ty,pos,af,g⟩ σ w K:=by
 refine Di (f:=f) ?_ hr k;have :args.map (ev N σ)=L.toArray:=by rw [← C,← iH]
 simp [execOp,resolve,ev,mb,invoke,this,E L.toArray w]
theorem zi {f:dT} {fo:aW} {first cap:Array ag} {args:Array aW} {A:Array av} {L:List ag} {R:ag→ah→Prop} (E:gr P f) (I:ev N σ fo= .func (.func f) first cap)
 (hr:bj P f L.toArray w R) (C:first.toList++args.toList.map (ev N σ)++cap.toList=L)
 (k:∀ v w',R v w'→K (dv σ dst v) w'):bZ P N ⟨dst,.call ⟨.value fo,args,A⟩,ty,pos,af,g⟩ σ w K:=by
 refine Di (f:=f) ?_ hr k;have :first++args.map (ev N σ)++cap=L.toArray:=by rw [← C,← iH,← Dz,← Dz]
 simp [execOp,resolve,I,mb,invoke,this,E L.toArray w]
theorem lh {o:aB} {ob:Obj} {v:Nat→ag} (A:(execOp (ev N σ) o).run P w= .ok (.value<|v w.heap.size) {w with heap:=w.heap.push ob})
 (k:∀ b w',b=w.heap.size→Nw w w'→w'.heap[b]? =some ob→K (dv σ o.dst<|v b) w'):bZ P N o σ w K:=by grind [je,Bv]
theorem al {e:av} {C:List ag} (A:zeroOf P e=some (some C)) (k:∀ b w',b=w.heap.size→Nw w w'→aC w'.heap b C→K (dv σ dst<|.pointer<|some ⟨b,0,none⟩) w'):
 bZ P N ⟨dst,.alloc e,ty,pos,af,g⟩ σ w K:=by
 refine lh (v:=fun b=> .pointer<|some ⟨b,0,none⟩) (ob:= .cells C.toArray e (0,0)) ?_ fun b w' h1 E I=>k b w' h1 E ⟨e,I⟩;unfold zeroOf at A;simp only [gG] at A;obtain ⟨i,hi,zv,J,rfl⟩:=A;simp [execOp,tP,zeroValue,de hi,J,newVar,newRow]
theorem dC {e:av} {C:List ag} (A:zeroOf P e=some (some C)) (k:∀ b w',b=w.heap.size→Nw w w'→w'.heap[b]? =some (.cells C.toArray e (0,0))→K (dv σ dst<|.pointer<|some ⟨b,0,none⟩) w'):
 bZ P N ⟨dst,.alloc e,ty,pos,af,g⟩ σ w K:=by
 refine lh (v:=fun b=> .pointer<|some ⟨b,0,none⟩) (ob:= .cells C.toArray e (0,0)) ?_ k;unfold zeroOf at A;simp only [gG] at A;obtain ⟨i,hi,zv,E,rfl⟩:=A;simp [execOp,tP,zeroValue,de hi,E,newVar,newRow]
theorem bx {e:av} {v:ag} {L:List ag} (I:ev N σ x=v) (E:v.cells.toList=L) (k:∀ b w',b=w.heap.size→Nw w w'→aC w'.heap b L→K (dv σ dst<|.pointer<|some ⟨b,0,none⟩) w'):
 bZ P N ⟨dst,.box e x,ty,pos,af,g⟩ σ w K:=by
 subst E;refine lh (v:=fun b=> .pointer<|some ⟨b,0,none⟩) (ob:= .cells v.cells e (0,0)) ?_ fun b w' h1 A C=>k b w' h1 A ⟨e,C⟩;simp [execOp,yd,I,newVar,newRow]
theorem rH {t e:av} {size bytes:Nat} (I:dK P t e size bytes=true)
 (k:∀ b w',b=w.heap.size→Nw w w'→(∀ B,B≤b→w'.ownsRow B e size (.slice (some ⟨b,0,none⟩) 0 0) 0 [])→K (dv σ dst<|.slice (some ⟨b,0,none⟩) 0 0) w'):bZ P N ⟨dst,.buildSlice t 0 #[],ty,pos,af,g⟩ σ w K:=by
 refine lh (v:=fun b=> .slice (some ⟨b,0,none⟩) 0 0) (ob:= .cells #[] e (0,0)) ?_ fun b w' h1 A C=>k b w' h1 A fun B E=>⟨by simp,.inr ⟨b,0,#[],U,E,C,aQ _,by simp [maxLen],by simp,by simp⟩⟩
 obtain ⟨hu,i,zv,hi,L,h1,A,C,J⟩:=oW I;simp [execOp,qU,bt hu,sizeOf,de hi,iI,newRow];congr 2;exact Array.eq_empty_of_size_eq_zero<|by simp
theorem Fo {t e:av} {size bytes:Nat} {v:ag} {L:List ag} (U:dK P t e size bytes=true) (O:bf size 1000=true) (Z:ev N σ x=v) (V:v.cells.size=size)
 (I:v.cells.toList=L) (k:∀ b w',b=w.heap.size→Nw w w'→w'.heap[b]? =some (.cells L.toArray e (0,0))→K (dv σ dst<|.slice (some ⟨b,0,none⟩) 1 1) w'):bZ P N ⟨dst,.buildSlice t 1 #[(0,x)],ty,pos,af,g⟩ σ w K:=by
 subst I;refine lh (v:=fun b=> .slice (some ⟨b,0,none⟩) 1 1) (ob:= .cells v.cells e (0,0)) ?_ fun b w' h1 A C=>k b w' h1 A<|by simpa using C
 obtain ⟨hu,i,zv,hi,aa,h1,A,C,ac⟩:=oW U;have ad:size≤1000:=by simpa using O
 have J:iI (fun i=>some (i*size,size)) ((ll size).map (zv.cells[· % zv.cells.size]!)) [(0,v)]=some v.cells:=by
  have E:((ll size).map (zv.cells[· % zv.cells.size]!)).size=size:=by simp
  generalize (ll size).map (zv.cells[· % zv.cells.size]!)=cs at E;simp only [iI,V];rw [if_neg (by rw [E]; simp)];congr 1;have key:∀ (l:List ag) (m:Nat) (cs:Array ag),m+l.length≤cs.size→∀ j,((l.zipIdx m).foldl (fun (cs:Array ag) (c,j)=>cs.setIfInBounds (0 *size+j) c) cs)[j]? =if j < m then cs[j]? else if j < m+l.length then l[j - m]? else cs[j]? :=by
   intro l
   induction l with
   | nil=>intro m cs hm j; simp; intro h1 A; omega
   | cons c l ih=>
     intro m cs hm j;simp only [EB,jg,dP] at hm ⊢;rw [ih (m+1) _ (by simp; omega)];simp only [uj,cM,qR];by_cases h1:j < m
     · rw [if_pos ab,if_pos h1,if_neg ab]
     · rw [if_neg h1];by_cases A:j=m
       · subst A;rw [if_pos ab,if_pos rfl,if_pos ab,if_pos ab];simp
       · rw [if_neg ab];by_cases C:j < m+1 +l.length
         · rw [if_pos C,if_pos ab];obtain ⟨q,M⟩:∃ q,j - m=q+1:=⟨j - m - 1,ab⟩
           rw [M,iJ,show j - (m+1)=q from by omega]
         · rw [if_neg C,if_neg ab,if_neg ab]
  apply Dt;intro j;have :=key v.cells.toList 0 cs (by simp; omega) j;rw [show (v.cells.zipIdx.foldl (fun (cs:Array ag) (c,j)=>cs.setIfInBounds (0 *size+j) c) cs)=((v.cells.toList.zipIdx 0).foldl (fun (cs:Array ag) (c,j)=>cs.setIfInBounds (0 *size+j) c) cs) from by
   rw [← Array.foldl_toList]; simp [Array.toList_zipIdx]]
  rw [this];simp only [Nat.not_lt_zero,if_false,cM,Nat.sub_zero,lk,Array.getElem?_toList];split
  · rfl
  · rw [tJ ab,tJ ab]
 simp only [execOp,qU,ij,bt hu,gQ,sizeOf,de hi,ko,h1,Nat.one_mul,q8,zeroValue,aa,List.map_toArray,gn,List.map_nil,Z,J];rw [if_neg (by rw [show (2:Nat) ^ 24=16777216 from rfl]; omega),if_neg ab];simp [newRow]
theorem y7 {t e:av} {size bytes:Nat} {v:ag} {L:List ag} (J:dK P t e size bytes=true) (I:bf size 1000=true) (O:ev N σ x=v) (M:v.cells.size=size)
 (E:v.cells.toList=L) (k:∀ b w',b=w.heap.size→Nw w w'→aC w'.heap b L→K (dv σ dst<|.slice (some ⟨b,0,none⟩) 1 1) w'):bZ P N ⟨dst,.buildSlice t 1 #[(0,x)],ty,pos,af,g⟩ σ w K:=
 Fo J I O M E fun b w' h1 A C=>k b w' h1 A ⟨_,C⟩
theorem mW {v:ag} (h:v.oneCell'=true):v.cells= #[v]:=by cases v <;> first | rfl | (cases h; done)
theorem Aj {loc:Nat→Option (Nat×Nat)} (C:∀ i,loc i=some (i*1,1)):∀ (rest pre A:List ag),A.length=rest.length→rest.all eO=true→
 iI loc (pre++A).toArray ((rest.zipIdx pre.length).map fun q=>(q.2,q.1))=some (pre++rest).toArray
 | [],pre,A,hl,_=>by
   rw [lz hl]; rfl
 | v::r,pre,A,hl,h1=>by
   cases A with
   | nil=>simp at hl
   | cons z A=>
     rw [nR,a0] at h1;have E:=mW h1.1;have ih:=Aj C r (pre++ [v]) A (by simpa using hl) h1.2;simp only [EB,gn,iI,C,E];rw [if_neg (by simp)];simp only [cz,px,List.append_assoc,List.singleton_append] at ih;rw [← ih];simp
theorem Fp {t e bytes n:Nat} {ps:Array (Nat×aW)} {L:List ag} (I:dK P t e 1 bytes=true) (hp:ps.toList.map (fun p=>(p.1,ev N σ p.2))=(L.zipIdx 0).map fun q=>(q.2,q.1)) (h1:L.all eO=true) (hn:L.length=n) (A:(bf n 1000 && aD 0 n)=true)
 (k:∀ b w',b=w.heap.size→Nw w w'→w'.heap[b]? =some (.cells L.toArray e (0,0))→K (dv σ dst<|.slice (some ⟨b,0,none⟩) n n) w'):bZ P N ⟨dst,.buildSlice t n ps,ty,pos,af,g⟩ σ w K:=by
 subst hn;refine lh (v:=fun b=> .slice (some ⟨b,0,none⟩) L.length L.length) (ob:= .cells L.toArray e (0,0)) ?_ k;obtain ⟨hu,i,zv,hi,J,C,O,U,V⟩:=oW I;simp only [a0] at A;have Z:L.length≤1000:=by simpa using A.1
 have aa:0 < L.length:=by have :=bP A.2; omega
 have E:iI (fun i=>some (i*1,1)) ((ll<|L.length*1).map (zv.cells[· % zv.cells.size]!)) (ps.toList.map fun p=>(p.1,ev N σ p.2))=some L.toArray:=by
  rw [hp];have M:((ll<|L.length*1).map (zv.cells[· % zv.cells.size]!)).toList.length=L.length:=by simp
  have :=Aj (loc:=fun i=>some (i*1,1)) (fun _=>rfl) L [] ((ll<|L.length*1).map (zv.cells[· % zv.cells.size]!)).toList M h1;rw [uc,uc,x9] at this;exact this
 simp only [execOp,qU,ij,bt hu,gQ,sizeOf,de hi,ko,C,q8,zeroValue,J,iH,E];rw [if_neg (by rw [show (2:Nat) ^ 24=16777216 from rfl]; omega),if_neg ab];simp [newRow]
theorem jo {t e:av} {bytes:Nat} {v:ag} (A:dK P t e 1 bytes=true) (C:ev N σ x=v) (h1:v.oneCell'=true)
 (k:∀ b w',b=w.heap.size→Nw w w'→aC w'.heap b [v]→K (dv σ dst<|.slice (some ⟨b,0,none⟩) 1 1) w'):bZ P N ⟨dst,.buildSlice t 1 #[(0,x)],ty,pos,af,g⟩ σ w K:=
 y7 A rfl C (by rw [mW h1]; rfl) (by rw [mW h1]) k
theorem n4 {t e:av} {size bytes:Nat} {L:List ag} (E:dK P t e size bytes=true) (C:bf size 1000=true) (I:ev N σ x= .agg L.toArray) (A:L.length=size)
 (k:∀ b w',b=w.heap.size→Nw w w'→aC w'.heap b L→K (dv σ dst<|.slice (some ⟨b,0,none⟩) 1 1) w'):bZ P N ⟨dst,.buildSlice t 1 #[(0,x)],ty,pos,af,g⟩ σ w K:=
 y7 E C I (by simpa [pn] using A) (by simp [pn]) k
theorem n5 {e:av} {L:List ag} (A:ev N σ x= .agg L.toArray) (k:∀ b w',b=w.heap.size→Nw w w'→aC w'.heap b L→K (dv σ dst<|.pointer<|some ⟨b,0,none⟩) w'):
 bZ P N ⟨dst,.box e x,ty,pos,af,g⟩ σ w K:=bx A (by simp [pn]) k
theorem pM {e:av} {L:List ag} (E:ev N σ x= .agg L.toArray) (k:∀ b w',b=w.heap.size→Nw w w'→w'.heap[b]? =some (.cells L.toArray e (0,0))→K (dv σ dst<|.pointer<|some ⟨b,0,none⟩) w'):
 bZ P N ⟨dst,.box e x,ty,pos,af,g⟩ σ w K:=by
 refine lh (v:=fun b=> .pointer<|some ⟨b,0,none⟩) (ob:= .cells L.toArray e (0,0)) ?_ fun b w' h1 A C=>k b w' h1 A C;simp [execOp,yd,E,newVar,newRow,pn]
theorem rF {l:List ag} (h:l.all eO=true):∀ u∈l,u.oneCell'=true :=Ed.1 h
theorem dg {t b off :Nat} {e:av} {L:List ag} {v:ag} (A:cC P t=some 1) (ac:ev N σ x= .pointer (some ⟨b,off,none⟩)) (ad:ev N σ y=v) (h1:v.oneCell'=true) (hb:w.heap[b]? =some (.cells L.toArray e (0,0))) (V:off < L.length)
 (k:∀ w',Md (fun k=>k=b) w w'→w'.heap[b]? =some (.cells (L.set off v).toArray e (0,0))→K σ w'):bZ P N ⟨none,.store t x y,ty,pos,af,g⟩ σ w K:=by
 have E:v.cells= #[v]:=by cases v <;> first | rfl | (cases h1; done)
 have I:w.cell? ⟨b,off,none⟩=some L[off]:=by rw [js,bh hb]; simp [V]
 have J:w.frozen? ⟨b,off,none⟩=false :=by simp only [World.frozen?,show w.heap[b]? =_ from hb]; simp
 unfold cC at A;simp only [gG] at A;obtain ⟨i,hi,aa⟩:=A;have C:(⟨b,off,none⟩:bR).add 0=⟨b,off,none⟩:=rfl;have Z:(execOp (ev N σ) ⟨none,.store t x y,ty,pos,af,g⟩).run P w= .ok .skip (w.setCell ⟨b,off,none⟩ v):=by
  simp [execOp,yg,ac,ad,nM,storeVar,E,sizeOf,de hi,aa,storeCells,C,run_store P w _ v _ h1,I,J]
 unfold bZ gE;rw [dr,Z];refine ⟨σ,U,k _ ⟨U,U,by simp [Ea],fun k _ M=> ?_⟩ ?_⟩
 · exact Below.heap_setCell w _ v k M
 · have O:=(dm.1 hb).1;have ab:w.heap[b]= .cells L.toArray e (0,0):=(dm.1 hb).2;simp only [Ea];rw [nD (by simpa using O),Array.getElem_modify];simp [ab,List.setIfInBounds_toArray]
theorem st {t b off :Nat} {L:List ag} {v:ag} (J:cC P t=some 1) (E:ev N σ x= .pointer (some ⟨b,off,none⟩)) (I:ev N σ y=v) (h1:v.oneCell'=true) (hb:aC w.heap b L) (C:off < L.length)
 (k:∀ w',Md (fun k=>k=b) w w'→aC w'.heap b (L.set off v)→K σ w'):bZ P N ⟨none,.store t x y,ty,pos,af,g⟩ σ w K:=
 let ⟨_,hb⟩:=hb
 dg J E I h1 hb C fun w' h1 A=>k w' h1 ⟨_,A⟩
theorem eu {t b off n:Nat} {e:av} {L vs:List ag} (A:cC P t=some n) (J:ev N σ x= .pointer (some ⟨b,off,none⟩)) (M:ev N σ y= .agg vs.toArray) (hn:vs.length=n) (h1:vs.all eO=true) (hb:w.heap[b]? =some (.cells L.toArray e (0,0))) (O:off+n≤L.length)
 (k:∀ w',Md (fun k=>k=b) w w'→w'.heap[b]? =some (.cells (L.take off++vs++L.drop (off+n)).toArray e (0,0))→K σ w'):bZ P N ⟨none,.store t x y,ty,pos,af,g⟩ σ w K:=by
 unfold cC at A;simp only [gG] at A;obtain ⟨i,hi,I⟩:=A;have bo:=run_storeCells_at P b off e vs 0 L.toArray w hb (by simp; omega)<|rF h1;have E:(execOp (ev N σ) ⟨none,.store t x y,ty,pos,af,g⟩).run P w= .ok .skip (w.setRow b (L.take off++vs++L.drop (off+n)).toArray):=by
  simp [execOp,yg,J,M,nM,storeVar,pn,sizeOf,de hi,I,hn,bo]
 unfold bZ gE;rw [dr,E];exact ⟨σ,U,k _ ⟨U,U,by simp,fun k _ C=>setRow_other w b k _ C⟩<|setRow_heap w b _ _ e _ hb⟩
theorem qJ {t b off n:Nat} {L vs:List ag} (A:cC P t=some n) (J:ev N σ x= .pointer (some ⟨b,off,none⟩)) (M:ev N σ y= .agg vs.toArray) (hn:vs.length=n) (h1:vs.all eO=true) (hb:aC w.heap b L) (O:off+n≤L.length)
 (k:∀ w',Md (fun k=>k=b) w w'→aC w'.heap b (L.take off++vs++L.drop (off+n))→K σ w'):bZ P N ⟨none,.store t x y,ty,pos,af,g⟩ σ w K:=by
 obtain ⟨e,hb⟩:=hb;unfold cC at A;simp only [gG] at A;obtain ⟨i,hi,I⟩:=A;have bo:=run_storeCells_at P b off e vs 0 L.toArray w hb (by simp; omega)<|rF h1;have E:(execOp (ev N σ) ⟨none,.store t x y,ty,pos,af,g⟩).run P w= .ok .skip (w.setRow b (L.take off++vs++L.drop (off+n)).toArray):=by
  simp [execOp,yg,J,M,nM,storeVar,pn,sizeOf,de hi,I,hn,bo]
 unfold bZ gE;rw [dr,E];exact ⟨σ,U,k _ ⟨U,U,by simp,fun k _ C=>setRow_other w b k _ C⟩ ⟨e,setRow_heap w b _ _ e _ hb⟩⟩
theorem E9 {t ty e:av} {i:TypeInfo} {zv:ag} {B n m c:Nat} {v V:ag} {xs news:List ag} {ad:bR} {w':ah} (hu:P.underlying t=some (.slice e)) (hi:P.info? e=some i) (U:i.zero=some zv) (ak:zv.cells.size=i.size) (ai:0 < i.size)
 (I:w.ownsRow B e i.size v n xs) (E:news.length=m*i.size) (J:∀ j u,news[j]? =some u→w.cell? (ad.add j)=some u) (h1:∀ u∈news,u.oneCell'=true) (L:n+m≤maxLen) (hb:(n+m)*i.bytes≤140737488355328)
 (hr:(jO #[t,t] ty #[v,.slice (some ad) m c]).run P w= .ok V w'):∀ k,V.ownBlock=some k→v.ownBlock=some k∨w.heap.size≤k:=by
 intro k A;have am:n+m≤9223372036854775807:=by unfold maxLen at L; omega
 rcases I.2 with ⟨rfl,rfl⟩ | ⟨C,cap,cur,rfl,ap,ae,ar,aq,aa,au⟩
 · have aj:xs= []:=lz<|by simpa using I.1
   subst aj;obtain ⟨v2,aw,M,Z,_,_⟩:=run_append_own (P:=P) w w.heap.size t ty e i zv i.size i.bytes hu hi U rfl rfl ak ai _ 0 [] (ez w w.heap.size e i.size) ad m c news E J h1 L hb (aQ _);rw [hr] at M;cases M;exact .inr (by
    rcases Z.2 with ⟨h,_⟩ | ⟨al,_,_,h,ao,_⟩
    · rw [h] at A; simp [gj] at A
    · rw [h] at A; simp only [gj,bM] at A; omega)
 · by_cases O:n+m≤cap
   · have ac:n*i.size+news.length≤cur.size:=by rw [E,aa,← Nat.add_mul]; exact nU _ O
     rw [run_append_room (P:=P) w t ty e i hu hi C n cap cur ae ad m c news E J h1 O ac] at hr;cases hr;exact .inl A
   · have holds:∀ j u,xs[j]? =some u→w.cell? ((⟨C,0,none⟩:bR).add j)=some u:=I.cells (g:=C) rfl;rw [run_append_grow (P:=P) w t ty e i zv hu hi U ⟨C,0,none⟩ n cap xs I.1 holds ad m c news E J ab ab (growslice_fits ab hb)] at hr;cases hr;simp only [gj,bM] at A;exact .inr ab
theorem ap {t e size bytes B n m c:Nat} {v:ag} {xs news:List ag} {a:Option bR} (ao:dK P t e size bytes=true) (E:w.ownsRow B e size v n xs) (Z:ev N σ x=v) (ah:B≤w.heap.size)
 (aa:ev N σ y= .slice a m c) (L:aX w.heap a news) (I:news.length=m*size) (h1:news.all eO=true) (hb:(n+m)*bytes≤140737488355328) (au:n+m≤9223372036854775807)
 (k:∀ A w',w'.ownsRow B e size A (n+m) (xs++news)→Md (fun k=>v.ownBlock=some k) w w'→(A= .slice none 0 0↔v= .slice none 0 0∧m=0)→(∀ k,A.ownBlock=some k→v.ownBlock=some k∨w.heap.size≤k)→K (dv σ dst A) w'):
 bZ P N ⟨dst,.call ⟨.builtin .append,#[x,y],#[t,t]⟩,ty,pos,af,g⟩ σ w K:=by
 obtain ⟨hu,i,zv,hi,ab,V,J,ac,U⟩:=oW ao;have M:n+m≤maxLen:=by unfold maxLen; omega
 by_cases hm:news= []
 · subst hm;have ak:m=0:=by
    rcases Nat.mul_eq_zero.1 (I.symm.trans rfl) with h | h
    · exact h
    · omega
   subst ak;have am:(jO #[t,t] ty #[v,.slice a 0 c]).run P w= .ok v w:=by
    rcases E.2 with ⟨rfl,rfl⟩ | ⟨ar,cap,cur,rfl,_,_,hle,_⟩
    · cases a <;> simp [jO,bt hu,sizeOf,de hi,DH,tO,loadCells,loadCellsFrom]
    · cases a <;> simp [jO,bt hu,sizeOf,de hi,DH,tO,loadCells,loadCellsFrom,hle,storeCells]
   refine je (w':=w) (v:=v) ?_<|k v w (by simpa using E) (Md.refl _ _) (by simp) fun _ h=> .inl h;simp [execOp,resolve,invoke,builtin,Z,aa,am]
 · have ha:=L.ok hm;have O:∀ j u,news[j]? =some u→w.cell? ((⟨bk a,fo a,none⟩:bR).add j)=some u:=fun j u hu=>by rw [fP,js]; exact L.ay j u hu
   obtain ⟨A,w',hr,ad,C,ae⟩:=run_append_own (P:=P) w B t ty e i zv size bytes hu hi ab V J ac U v n xs E ⟨bk a,fo a,none⟩ m c news I O (rF h1) M hb ah;subst V J;have ai:=E9 hu hi ab ac U E I O (rF h1) M hb hr;refine je (w':=w') (v:=A) ?_<|k A w' ad ⟨C.os,C.output,C.size,fun k aj al=>C.block k aj fun e=>al e.symm⟩ ae ai;have aq:ev N σ y= .slice (some ⟨bk a,fo a,none⟩) m c:=aa.trans<|congrArg (fun a=>bE a m c) ha;simp [execOp,resolve,invoke,builtin,Z,aq,hr]
theorem bc {t n len cap:Nat} {k:bu} {i:Int} {a:Option bR} (he:cU P t=some n) (A:ev N σ x= .slice a len cap) (C:ev N σ y= .int k i) (h0:0≤i∧i < len) (ha:a=some ⟨bk a,fo a,none⟩):
 (execOp (ev N σ) ⟨dst,.indexAddr t x y,ty,pos,af,g⟩).run P w= .ok (.value<|.pointer<|some ⟨bk a,fo a+i.toNat*n,none⟩) w:=
 ia he (by rw [A]; congr 1) C h0
end
theorem bI {F:Nat→Prop} {w w':ah} {B e size n:Nat} {v:ag} {xs:List ag} (h:w.ownsRow B e size v n xs) (hm:Md F w w') (A:∀ k,v.ownBlock=some k→¬F k):w'.ownsRow B e size v n xs:=by
 refine ⟨h.1,?_⟩;rcases h.2 with hn | ⟨g,cap,cur,rfl,hb,C,rest⟩
 · exact .inl hn
 · exact .inr ⟨g,cap,cur,U,hb,hm.ak C (A g U),rest⟩
section
variable {P:au} {N:Fm} {σ:Nat→ag} {w:ah} {dst:Option Nat} {ty:av} {pos :String} {af:Array bT} {g:Option (Nat×Bool)} {x y z:aW} {K:(Nat→ag)→ah→Prop}
theorem jc {t B e size n cap off j:Nat} {a:Option bR} {xs:List ag} {u:ag} (ac:w.ownsRow B e size (.slice a n cap) n xs) (ai:cC P t=some 1) (ae:ev N σ x= .pointer (some ⟨bk a,off,none⟩)) (ah:ev N σ y=u) (h1:u.oneCell'=true)
 (V:off =fo a+j) (ab:j < n*size)
 (k:∀ w',Md (fun k=>(bE a n cap).ownBlock=some k) w w'→w'.ownsRow B e size (.slice a n cap) n (xs.set j u)→K σ w'):bZ P N ⟨none,.store t x y,ty,pos,af,g⟩ σ w K:=by
 obtain ⟨h0,h⟩:=ac;rcases h with ⟨h,rfl⟩ | ⟨A,aj,cur,h,E,O,hle,M,C,ad⟩
 · simp at ab
 · simp only [yn,true_and] at h;obtain ⟨rfl,rfl⟩:=h;have Z:off =j:=by rw [V]; simp [fo]
   subst Z;have hlen:off < cur.toList.length:=by
    have :=nU size hle;rw [lk,C]; omega
   refine dg (L:=cur.toList) ai ae ah h1 (show w.heap[A]? =_ by simpa using O) hlen fun w' J I=>k w' (J.mono fun k _ aa=>by subst aa; rfl) ⟨by simpa using h0,.inr ⟨A,cap,_,U,E,I,hle,M,by simpa using C,?_⟩⟩;rw [← ad];simp only;rw [List.take_set]
end
theorem I9 {w:ah} {B e size n:Nat} {v:ag} {xs:List ag} (h:w.ownsRow B e size v n xs):v.oneCell'=true :=by
 rcases h.2 with ⟨rfl,_⟩ | ⟨g,cap,cur,rfl,_⟩ <;> rfl
theorem dA {w:ah} {B e size n:Nat} {v:ag} {xs:List ag} (h:w.ownsRow B e size v n xs):∃ a cap,v= .slice a n cap:=by
 rcases h.2 with ⟨rfl,rfl⟩ | ⟨g,cap,cur,rfl,_⟩
 · exact ⟨_,_,U⟩
 · exact ⟨_,_,U⟩
theorem aV {w w':ah} {B e size n:Nat} {v:ag} {xs:List ag} (h:w.ownsRow B e size v n xs) (hm:Wk w w'):w'.ownsRow B e size v n xs:=bI h hm fun _ _ x=>x
theorem cw {w:ah} {B e size n:Nat} {v:ag} {xs:List ag} (h:w.ownsRow B e size v n xs) {k:Nat} (A:v.ownBlock=some k):B≤k∧k < w.heap.size:=h.lt k A
theorem Wk.own {w0 w w':ah} {B e size n:Nat} {v:ag} {xs:List ag} (h:Wk w0 w) (A:w.ownsRow B e size v n xs) (hm:Md (fun k=>v.ownBlock=some k) w w') (E:w0.heap.size≤B):Wk w0 w':=
 Md.trans' h hm (fun k I C=>by have :=(cw A C).1; omega)
theorem sL {w:ah} {B e size n:Nat} {v:ag} {xs:List ag} (h:w.ownsRow B e size v n xs):∃ a cap,v= .slice a n cap∧aX w.heap a xs∧n≤cap∧(∀ k,v.ownBlock=some k→a=some ⟨k,0,none⟩∧B≤k∧k < w.heap.size)∧(v.ownBlock=none→xs= []):=by
 rcases h.2 with ⟨rfl,rfl⟩ | ⟨g,cap,cur,rfl,hb,C,hle,_,_,E⟩
 · have :xs= []:=lz<|by simpa using h.1
   subst this;exact ⟨none,0,U,aX.nil _ _,aQ _,fun k A=>by simp [gj] at A,fun _=>rfl⟩
 · refine ⟨_,cap,U,⟨fun _=>rfl,fun j u hu=> ?_⟩,hle,fun k A=> ?_,fun A=>by simp [gj] at A⟩
   · show ay w.heap g (0 +j)=_;rw [cM,bh C];rw [← E,iL] at hu;split at hu
     · simpa using hu
     · cases hu
   · simp only [gj,bM] at A; subst A;exact ⟨U,hb,(dm.1 C).1⟩
theorem bB {w:ah} {B e size n cap:Nat} {a:Option bR} {xs:List ag} (h:w.ownsRow B e size (.slice a n cap) n xs):n≤cap∧aX w.heap a xs:=by grind [sL]
theorem j9 {w:ah} {B B' e size n:Nat} {v:ag} {xs:List ag} (h:w.ownsRow B e size v n xs) (C:B'≤B):w.ownsRow B' e size v n xs:=by
 refine ⟨h.1,?_⟩;rcases h.2 with h | ⟨g,cap,cur,h1,A,r⟩
 · exact .inl h
 · exact .inr ⟨g,cap,cur,h1,cS C A,r⟩
section
variable {P:au} {N:Fm} {σ:Nat→ag} {w:ah} {dst:Option Nat} {ty:av} {pos :String} {af:Array bT} {g:Option (Nat×Bool)} {x y z:aW} {K:(Nat→ag)→ah→Prop}
end
end Go.Hb
namespace Go.Hb
section
variable {P:au} {md:nP} {ops:Array aB} {Q:bp→Act→ah→Prop} {S:ah→Prop} {r:Nat}
def lg (P:au) (md:nP) (ops:Array aB) (Q:bp→Act→ah→Prop) (S:ah→Prop) (r:Nat):Nat→Array Bool→Act→ah→Prop
 | 0,listed,a,w=>dw md ops listed= []∧Q .normal a w
 | fuel+1,listed,a,w=>
   (dw md ops listed= []→Q .normal a w)∧
   ∀ i∈dw md ops listed,wpOp P ops Q i (fun A w'=>((listed.setIfInBounds i true).getD r false =false→S w')∧lg P md ops Q S r fuel (listed.setIfInBounds i true) A w') a w
theorem Df:∀ (fuel:Nat) (listed:Array Bool) (a:Act) (w:ah),lg P md ops Q S r fuel listed a w→wpAny P md ops Q fuel listed a w
 | 0,_,_,_,h=>h
 | fuel+1,_,_,_,h=>⟨h.1,fun i hi=>wpOp_mono (fun A w' h'=>Df fuel _ A w' h'.2)<|h.2 i hi⟩
theorem LX {i:Nat} {E:aB} {v:ag} (hi:ops[i]? =some E) (ai:∀ (j:Nat) (o:aB) cs b,ops[j]? =some o→o.op≠.select cs b)
 (am:∀ c a w,Q (.panic c) (a.put E.dst v) w→Q (.panic c) a w) (ay:∀ o,ops[r]? =some o→∃ x∈o.after,dE md x=true∧x.on=i) (aq:i≠r):
 ∀ (fuel:Nat) (listed:Array Bool) (a:Act) (w:ah),
   (∀ j C,ops[j]? =some C→j≠i→listed.getD j true =false→(∀ x∈C.after,dE md x=true→x.on≠i)→E.apart ops C=true)→
   i∈dw md ops listed→YieldsIf P ops S E v a→S w→listed.getD r false =false→
   lg P md ops Q S r fuel (listed.setIfInBounds i true) (a.put E.dst v) w→lg P md ops Q S r (fuel+1) listed a w:=by
 intro fuel
 induction fuel with
 | zero=>
   intro listed a w _ hr O I _ H;refine ⟨fun h=>(by rw [h] at hr; cases hr),fun j L=> ?_⟩;by_cases A:j=i
   · subst A; exact O.wpOp hi I ⟨fun _=>I,H⟩
   · have :=ready_mono L A;rw [H.1] at this;cases this
 | succ fuel ih=>
   intro listed a w V hr O I ac H;refine ⟨fun h=>(by rw [h] at hr; cases hr),fun j L=> ?_⟩;by_cases A:j=i
   · subst A; exact O.wpOp hi I ⟨fun _=>I,H⟩
   · have h1:=H.2 j<|ready_mono L A;obtain ⟨ab,C,M,ao⟩:=mem_ready.1 L;have ae:∀ x∈C.after,dE md x=true→x.on≠i:=fun x U hb heq=>by
      have h1:=ao x U hb;have h0:=(mem_ready.1 hr).1;rw [heq] at h1;rcases dF i listed.size with h' | h'
      · simp [h'] at h0 h1; rw [h0] at h1; cases h1
      · simp [tJ h'] at h1
     have aa:j≠r:=by
      rintro rfl;obtain ⟨x,U,hb,ax⟩:=ay C M;exact ae x U hb ax
     have av:(listed.setIfInBounds j true).getD r false =false :=by rw [getD_set_ne false aa]; exact ac
     have ad:((listed.setIfInBounds i true).setIfInBounds j true).getD r false =false :=by rw [getD_set_ne false aa,getD_set_ne false aq]; exact ac
     have al:=wpOp_putIf M (V j C M A ab ae) (fun cs b=>ai i E cs b hi) (fun cs b=>ai j C cs b M) am O h1;have ap:∀ k ok,ops[k]? =some ok→k≠i→(listed.setIfInBounds j true).getD k true =false→
      (∀ x∈ok.after,dE md x=true→x.on≠i)→E.apart ops ok=true :=fun k ok ar au aj aw=>by
      refine V k ok ar au ?_ aw;by_cases Z:j=k
      · subst Z; exact ab
      · rw [getD_set_ne true Z] at aj; exact aj
     refine wpOp_mono (fun ak w' J=>⟨fun _=>J.2.1 ad,ih (listed.setIfInBounds j true) ak w' ap (ready_mono hr<|Ne.symm A) J.1 (J.2.1 ad) av ?_⟩) al;rw [x8 _ _ A];exact J.2.2
end
section
variable {P:au} {N:Fm} {ops:Array aB} {Q:bp→(Nat→ag)→ah→Prop} {σ:Nat→ag} {w:ah} {S:ah→Prop} {r fuel:Nat} {listed:Array Bool}
 {d':Option Nat} {d:Nat} {op:Op} {ty:av} {pos :String} {af:Array bT} {v:ag}
def cx (P:au) (N:Fm) (ops:Array aB) (Q:bp→(Nat→ag)→ah→Prop) (S:ah→Prop) (r fuel:Nat) (listed:Array Bool) (σ:Nat→ag) (w:ah):Prop :=
 lg P .any ops (lift N Q) S r fuel listed (act N σ) w
theorem oB {id:Nat} {l:List aB} (S:ah→Prop) (r:Nat) (hr:j6 N.r l=true) (hm:P.follows .mixedOrders=true) (A:S w.drew) (h:cx P N l.toArray Q S r l.length (nE l.length false) σ w.drew):bA P N (.region id l.toArray true) Q σ w:=by
 exact yP hr hm<|Df _ _ _ _<|by rw [eB]; exact h
def ou (F:List Nat) (ops:Array aB) (listed:Array Bool) (r i:Nat):Bool:=
 eo F ops listed i && !(listed.getD r false) && i !=r && (match ops[r]? with | some o=>o.after.toList.any (fun x=>dE .any x && x.on==i) | none=>false)
theorem lq (i:Nat) (hi:ops[i]? =some ⟨some d,op,ty,pos,af,none⟩) (C:ou N.F ops listed r i=true)
 (O:∀ w,S w→(execOp (ev N σ) ⟨some d,op,ty,pos,af,none⟩).run P w= .ok (.value v) w) (A:S w)
 (k:cx P N ops Q S r fuel (listed.setIfInBounds i true) (aU σ d v) w):cx P N ops Q S r (fuel+1) listed σ w:=by
 simp only [ou,eo,a0,ki,bne_iff_ne,ne_eq] at C;obtain ⟨⟨⟨⟨⟨⟨I,J⟩,hf3⟩,hfF⟩,hf4⟩,hf5⟩,hf6⟩:=C;rw [hi] at hfF;refine LX hi (ym I) (fun c a w=>mU hfF c a w) (fun o L=> ?_) hf5 fuel listed _ w (yj hi J) (by simpa using hf3) (.inl ⟨fh _ rfl _,fun w A=> ?_⟩) A hf4 ?_ (v:=v)
 · rw [L] at hf6;simp only [Ee,a0,beq_iff_eq] at hf6;obtain ⟨x,M,h1,E⟩:=hf6;exact ⟨x,tL.1 M,h1,E⟩
 · rw [dr]; exact O w A
 · rw [eD]; exact k
theorem A0 (i:Nat) (hi:ops[i]? =some ⟨d',op,ty,pos,af,none⟩) (hr:gK ops listed i=true)
 (h:bZ P N ⟨d',op,ty,pos,af,none⟩ σ w (fun σ w=>((listed.setIfInBounds i true).getD r false =false→S w)∧cx P N ops Q S r fuel (listed.setIfInBounds i true) σ w)):cx P N ops Q S r (fuel+1) listed σ w:=by
 have C:dw .any ops listed= [i]:=by simpa [gK] using hr
 refine ⟨fun h0=>absurd (C ▸ h0) (by simp),fun k A=> ?_⟩;rw [C] at A;obtain rfl :k=i:=by simpa using A
 unfold wpOp;simp only [hi];rw [if_pos (fh _ rfl _)];exact .inl<|o6 h fun _ _ A=>A
theorem gw (i:Nat) (hi:ops[i]? =some ⟨d',op,ty,pos,af,none⟩) (hr:gK ops listed i=true)
 (h:bZ P N ⟨d',op,ty,pos,af,none⟩ σ w (fun σ w=>S w∧cx P N ops Q S r fuel (listed.setIfInBounds i true) σ w)):cx P N ops Q S r (fuel+1) listed σ w:=by grind [A0,Dj]
theorem kL (i:Nat) (hi:ops[i]? =some ⟨d',op,ty,pos,af,none⟩) (hr:gK ops listed i=true) (C:(listed.setIfInBounds i true).getD r false =true)
 (h:bZ P N ⟨d',op,ty,pos,af,none⟩ σ w (fun σ w=>cx P N ops Q S r fuel (listed.setIfInBounds i true) σ w)):cx P N ops Q S r (fuel+1) listed σ w:=
 A0 i hi hr (Dj h fun _ _ A=>⟨fun h0=>absurd (h0.symm.trans C) dn,A⟩)
theorem kM (hr:(dw .any ops listed).isEmpty=true) (h:Q .normal σ w):cx P N ops Q S r fuel listed σ w:=by
 have A:dw .any ops listed= []:=by simpa using hr
 cases fuel with
 | zero=>exact ⟨A,σ,rfl,h⟩
 | succ fuel=>exact ⟨fun _=>⟨σ,rfl,h⟩,by rw [A]; simp⟩
attribute [irreducible] cx
end
end Go.Hb
namespace Go.Hb
section
variable {P:au} {md:nP} {ops:Array aB} {Q:bp→Act→ah→Prop} {S:ah→Prop} {r:Nat}
inductive my (md:nP) (ops:Array aB) (i:Nat):Nat→Prop
 | one {r o e} :ops[r]? =some o→e∈o.after→dE md e=true→e.on=i→my md ops i r
 | more {r o e} :ops[r]? =some o→e∈o.after→dE md e=true→my md ops i e.on→my md ops i r
def mw (md:nP) (ops:Array aB) (listed:Array Bool):Prop := ∀ (j:Nat) (o:aB),ops[j]? =some o→listed.getD j false =true→∀ e∈o.after,dE md e=true→listed.getD e.on false =true
theorem Ax {listed:Array Bool} {j k:Nat} (h:listed.getD k false =true):(listed.setIfInBounds j true).getD k false =true :=by
 by_cases e:j=k
 · subst e;by_cases A:j < listed.size
   · simp [A]
   · simp [A] at h
 · rw [getD_set_ne false e]; exact h
theorem mw.set {listed:Array Bool} {j:Nat} (h:mw md ops listed) (J:j∈dw md ops listed):mw md ops (listed.setIfInBounds j true):=by
 intro k o A E e he hb;obtain ⟨_,M,L,I⟩:=mem_ready.1 J;by_cases C:j=k
 · subst C;rw [L] at A; cases A;exact Ax<|I e he hb
 · rw [getD_set_ne false C] at E;exact Ax<|h k o A E e he hb
theorem my.listed {listed:Array Bool} {i r:Nat} (J:my md ops i r) (I:mw md ops listed) (ha:∀ o,ops[r]? =some o→∀ e∈o.after,dE md e=true→listed.getD e.on false =true):listed.getD i false =true :=by
 induction J with
 | one h1 A C E=>rw [← E]; exact ha _ h1 _ A C
 | more h1 A C _ ih=>exact ih fun o L e he hb=>I _ o L (ha _ h1 _ A C) e he hb
theorem LW {i:Nat} {C:aB} {v:ag} (hi:ops[i]? =some C) (ak:∀ (j:Nat) (o:aB) cs b,ops[j]? =some o→o.op≠.select cs b)
 (ap:∀ c a w,Q (.panic c) (a.put C.dst v) w→Q (.panic c) a w) (aq:my md ops i r) (au:i≠r):
 ∀ (fuel:Nat) (listed:Array Bool) (a:Act) (w:ah),mw md ops listed→
   (∀ j E,ops[j]? =some E→j≠i→listed.getD j true =false→(∀ x∈E.after,dE md x=true→x.on≠i)→C.apart ops E=true)→
   i∈dw md ops listed→YieldsIf P ops S C v a→S w→listed.getD r false =false→
   lg P md ops Q S r fuel (listed.setIfInBounds i true) (a.put C.dst v) w→lg P md ops Q S r (fuel+1) listed a w:=by
 intro fuel
 induction fuel with
 | zero=>
   intro listed a w _ _ hr O I _ H;refine ⟨fun h=>(by rw [h] at hr; cases hr),fun j J=> ?_⟩;by_cases A:j=i
   · subst A; exact O.wpOp hi I ⟨fun _=>I,H⟩
   · have :=ready_mono J A;rw [H.1] at this;cases this
 | succ fuel ih=>
   intro listed a w V Z hr O I ae H;refine ⟨fun h=>(by rw [h] at hr; cases hr),fun j J=> ?_⟩;by_cases A:j=i
   · subst A; exact O.wpOp hi I ⟨fun _=>I,H⟩
   · have h1:=H.2 j<|ready_mono J A;obtain ⟨ad,E,M,U⟩:=mem_ready.1 J;have aa:listed.getD i false =false :=by
      have h0:=(mem_ready.1 hr).1;rcases dF i listed.size with h' | h'
      · simpa [h'] using h0
      · simp [h'] at h0
     have az:∀ x∈E.after,dE md x=true→x.on≠i:=fun x aA hb heq=>by
      have h1:=U x aA hb;rw [heq,aa] at h1; cases h1
     have ac:j≠r:=by
      rintro rfl;have :=aq.listed V fun o aj=>by rw [M] at aj; cases aj; exact U
      rw [aa] at this; cases this
     have ax:(listed.setIfInBounds j true).getD r false =false :=by rw [getD_set_ne false ac]; exact ae
     have ai:((listed.setIfInBounds i true).setIfInBounds j true).getD r false =false :=by rw [getD_set_ne false ac,getD_set_ne false au]; exact ae
     have ao:=wpOp_putIf M (Z j E M A ad az) (fun cs b=>ak i C cs b hi) (fun cs b=>ak j E cs b M) ap O h1;have ar:∀ k ok,ops[k]? =some ok→k≠i→(listed.setIfInBounds j true).getD k true =false→
      (∀ x∈ok.after,dE md x=true→x.on≠i)→C.apart ops ok=true :=fun k ok av aw al ay=>by
      refine Z k ok av aw ?_ ay;by_cases ab:j=k
      · subst ab; exact ad
      · rw [getD_set_ne true ab] at al; exact al
     refine wpOp_mono (fun am w' L=>⟨fun _=>L.2.1 ai,ih (listed.setIfInBounds j true) am w' (V.set J) ar (ready_mono hr<|Ne.symm A) L.1 (L.2.1 ai) ax ?_⟩) ao;rw [x8 _ _ A];exact L.2.2
theorem LY {i:Nat} {C:aB} {v:ag} (hi:ops[i]? =some C) (ad:∀ (j:Nat) (o:aB) cs b,ops[j]? =some o→o.op≠.select cs b)
 (ak:∀ c a w,Q (.panic c) (a.put C.dst v) w→Q (.panic c) a w) (O:i≠r):
 ∀ (fuel:Nat) (listed:Array Bool) (a:Act) (w:ah),
   (∀ j E,ops[j]? =some E→j≠i→listed.getD j true =false→(∀ x∈E.after,dE md x=true→x.on≠i)→C.apart ops E=true)→
   i∈dw md ops listed→YieldsIf P ops (fun _=>True) C v a→(listed.getD r false =false→S w)→
   lg P md ops Q S r fuel (listed.setIfInBounds i true) (a.put C.dst v) w→lg P md ops Q S r (fuel+1) listed a w:=by
 intro fuel
 induction fuel with
 | zero=>
   intro listed a w _ hr L M H;refine ⟨fun h=>(by rw [h] at hr; cases hr),fun j J=> ?_⟩;by_cases A:j=i
   · subst A; exact L.wpOp hi trivial ⟨fun h=>M (by rw [getD_set_ne false O] at h; exact h),H⟩
   · have :=ready_mono J A;rw [H.1] at this;cases this
 | succ fuel ih=>
   intro listed a w Z hr L M H;refine ⟨fun h=>(by rw [h] at hr; cases hr),fun j J=> ?_⟩;by_cases A:j=i
   · subst A; exact L.wpOp hi trivial ⟨fun h=>M (by rw [getD_set_ne false O] at h; exact h),H⟩
   · have h1:=H.2 j<|ready_mono J A;obtain ⟨ac,E,U,al⟩:=mem_ready.1 J;have ao:listed.getD i false =false :=by
      have h0:=(mem_ready.1 hr).1;rcases dF i listed.size with h' | h'
      · simpa [h'] using h0
      · simp [h'] at h0
     have au:∀ x∈E.after,dE md x=true→x.on≠i:=fun x av hb heq=>by
      have h1:=al x av hb;rw [heq,ao] at h1; cases h1
     have aj:=wpOp_putIf U (Z j E U A ac au) (fun cs b=>ad i C cs b hi) (fun cs b=>ad j E cs b U) ak L h1;have am:∀ k ok,ops[k]? =some ok→k≠i→(listed.setIfInBounds j true).getD k true =false→
      (∀ x∈ok.after,dE md x=true→x.on≠i)→C.apart ops ok=true :=fun k ok ap aq ae ar=>by
      refine Z k ok ap aq ?_ ar;by_cases ab:j=k
      · subst ab; exact ac
      · rw [getD_set_ne true ab] at ae; exact ae
     have V:(listed.setIfInBounds i true).setIfInBounds j true =(listed.setIfInBounds j true).setIfInBounds i true :=x8 _ _ fun e=>A e.symm;have aa:(listed.setIfInBounds j true).getD r false =false→((listed.setIfInBounds i true).setIfInBounds j true).getD r false =false :=fun h=>by rw [V,getD_set_ne false O]; exact h
     refine wpOp_mono (fun ai w' I=>⟨fun h=>I.2.1 (aa h),ih (listed.setIfInBounds j true) ai w' am (ready_mono hr<|Ne.symm A) I.1 (fun h=>I.2.1<|aa h) ?_⟩) aj;rw [← V];exact I.2.2
end
section
variable {P:au} {N:Fm} {ops:Array aB} {Q:bp→(Nat→ag)→ah→Prop} {σ:Nat→ag} {w:ah} {S:ah→Prop} {r fuel:Nat} {listed:Array Bool}
 {d:Nat} {op:Op} {ty:av} {pos :String} {af:Array bT} {v:ag}
def rT (ops:Array aB) (i:Nat):Nat→Nat→Bool
 | 0,_=>false
 | f+1,r=>match ops[r]? with | some o=>o.after.toList.any (fun e=>dE .any e && (e.on==i || rT ops i f e.on)) | none=>false
theorem GD {i:Nat} :∀ (f r:Nat),rT ops i f r=true→my .any ops i r:=by
 intro f
 induction f with
 | zero=>intro r h; cases h
 | succ f ih=>
   intro r h;rw [rT] at h;split at h
   · rename_i o A;simp only [Ee,a0,nG,beq_iff_eq] at h;obtain ⟨e,he,hb,h⟩:=h;rcases h with h | h
     · exact .one A (tL.1 he) hb h
     · exact .more A (tL.1 he) hb<|ih _ h
   · cases h
def uK (ops:Array aB) (listed:Array Bool):Bool:=(ml ops.size).all fun j=> !listed.getD j false || match ops[j]? with | some o=>o.after.toList.all (fun e=> !dE .any e || listed.getD e.on false) | none=>true
theorem FX (h:uK ops listed=true):mw .any ops listed:=by grind [uK,mw]
def vx (F:List Nat) (ops:Array aB) (listed:Array Bool) (r i:Nat):Bool:=eo F ops listed i && !(listed.getD r false) && i !=r && uK ops listed && rT ops i ops.size r
def mO (F:List Nat) (ops:Array aB) (listed:Array Bool) (r i:Nat):Bool:=eo F ops listed i && i !=r
theorem Ba (i:Nat) (hi:ops[i]? =some ⟨some d,op,ty,pos,af,none⟩) (C:vx N.F ops listed r i=true)
 (J:∀ w,S w→(execOp (ev N σ) ⟨some d,op,ty,pos,af,none⟩).run P w= .ok (.value v) w) (A:S w)
 (k:cx P N ops Q S r fuel (listed.setIfInBounds i true) (aU σ d v) w):cx P N ops Q S r (fuel+1) listed σ w:=by
 simp only [vx,eo,a0,ki,bne_iff_ne,ne_eq] at C;obtain ⟨⟨⟨⟨⟨⟨⟨E,I⟩,hf3⟩,hfF⟩,hf4⟩,hf5⟩,hf6⟩,hf7⟩:=C;rw [hi] at hfF;unfold cx at*;refine LW hi (ym E) (fun c a w=>mU hfF c a w) (GD _ _ hf7) hf5 fuel listed _ w (FX hf6) (yj hi I) (by simpa using hf3) (.inl ⟨fh _ rfl _,fun w A=> ?_⟩) A hf4 ?_ (v:=v)
 · rw [dr]; exact J w A
 · rw [eD]; exact k
theorem qn (i:Nat) (hi:ops[i]? =some ⟨some d,op,ty,pos,af,none⟩) (A:mO N.F ops listed r i=true)
 (J:∀ w,(execOp (ev N σ) ⟨some d,op,ty,pos,af,none⟩).run P w= .ok (.value v) w) (C:listed.getD r false =false→S w)
 (k:cx P N ops Q S r fuel (listed.setIfInBounds i true) (aU σ d v) w):cx P N ops Q S r (fuel+1) listed σ w:=by
 simp only [mO,eo,a0,bne_iff_ne,ne_eq] at A;obtain ⟨⟨⟨⟨E,I⟩,hf3⟩,hfF⟩,hf5⟩:=A;rw [hi] at hfF;unfold cx at*;refine LY hi (ym E) (fun c a w=>mU hfF c a w) hf5 fuel listed _ w (yj hi I) (by simpa using hf3) (.inl ⟨fh _ rfl _,fun w _=> ?_⟩) C ?_ (v:=v)
 · rw [dr]; exact J w
 · rw [eD]; exact k
end
end Go.Hb
namespace Go.Hb
def C4:Nat→Nat→List UInt8
 | 0,n=> [eR n]
 | f+1,n=>if n < 128 then [eR n] else eR (n % 128 +128)::C4 f (n / 128)
def K4 (n:Nat):List UInt8:=C4 n n
def frame:List (List UInt8)→List UInt8
 | []=> []
 | r::l=>K4 r.length++(r++frame l)
theorem CV {α:Type} (l:List α) (i:Nat) (d:α) (h:i < l.length):l.take (i+1)=l.take i++ [l.getD i d]:=by simp_all
end Go.Hb
namespace Go.Hb
def U8 (l:List UInt8):List ag:=l.map fun b=>bd .u8 b.toNat
theorem rA (l:List UInt8):(U8 l).length=l.length:=by simp [U8]
theorem yH (a b:List UInt8):U8 (a++b)=U8 a++U8 b:=by simp [U8]
def mD (P:au) (t e u:av):Bool:=
 dK P t e 1 1 && (match P.underlying e with | some (.int .u8)=>true | _=>false) && (match P.underlying u with | some .string=>true | _=>false) &&
  (match P.info? e with | some i=>(match i.zero with | some (.int .u8 0)=>true | _=>false) | none=>false)
theorem FE {P:au} {t e u:av} (h:mD P t e u=true):
 dK P t e 1 1=true∧P.underlying e=some (.int .u8)∧P.underlying u=some .string∧∃ i,P.info? e=some i∧i.zero=some (.int .u8 0):=by grind [mD,dK]
section
variable {P:au} {N:Fm} {σ:Nat→ag} {w:ah} {dst:Option Nat} {ty:av} {pos :String} {af:Array bT} {g:Option (Nat×Bool)} {x y z:aW} {K:(Nat→ag)→ah→Prop}
theorem foldl_push (l:List UInt8) (r:ByteArray):(l.map fun b=>(b.toNat:Int)).foldl (fun r n=>r.push<|eR n.toNat) r=⟨r.data++l.toArray⟩:=by
 induction l generalizing r with
 | nil=>simp
 | cons b l ih=>
   simp only [gn,jg];rw [ih];apply ByteArray.ext;simp [ByteArray.push]
theorem rO {t e u n c:Nat} {a:Option bR} {l:List UInt8} (h:mD P t e u=true) (O:ev N σ x= .slice a n c) (A:aX w.heap a (U8 l)) (C:l.length=n):
 (execOp (ev N σ) ⟨dst,.convert t u x,ty,pos,af,g⟩).run P w= .ok (.value<|str l) w:=by
 obtain ⟨h1,E,I,_⟩:=FE h;obtain ⟨hu,_⟩:=oW h1;have J:(DN<|.slice a n c).run P w= .ok (str l) w:=by
  by_cases he:l= []
  · subst he;cases a with
    | none=>simp [DN,str]; rfl
    | some a=>
      subst C;have :=run_bytesToString (P:=P) w a 0 c []<|by simp [loadCells,loadCellsFrom]
      exact this.trans U
  · have ha:=A.ok<|by simpa [U8] using he
    have M:(loadCells ⟨bk a,fo a,none⟩ n).run P w= .ok ((l.map fun b=>(b.toNat:Int)).map<|bd .u8).toArray w:=by
     subst C;have :=run_loadCells_list (P:=P) w ⟨bk a,fo a,none⟩ (U8 l) fun j v L=>by
      rw [fP,js];exact A.ay j v L
     rw [rA] at this;rw [this];simp [U8]
    rw [ha,run_bytesToString w _ n c _ M,foldl_push];simp [str,ByteArray.empty,ByteArray.emptyWithCapacity];rfl
 simp [execOp,O,run_convert_bytes_string w t u e a n c hu E I,J]
theorem xL {at_:Array av} {v:ag} {a:Option bR} {n c:Nat} (A:ev N σ x= .slice a n c) (h:a=none∨c≠0):
 (execOp (ev N σ) ⟨dst,.call ⟨.builtin .unsafeSliceData,#[x],at_⟩,ty,pos,af,g⟩).run P w= .ok (.value<|.pointer a) w:=by
 have _:=v;have :(Builtin.unsafeSliceData_ at_ ty #[.slice a n c]).run P w= .ok (.pointer a) w:=by
  cases a with
  | none=>exact Lib.run_unsafeSliceData_nil w at_ ty n c
  | some a=>exact Lib.run_unsafeSliceData_row w at_ ty a n c<|h.resolve_left<|by simp
 simp [execOp,resolve,invoke,builtin,A,this]
def ptrTo (P:au) (A e:av):Bool:=match P.underlying A with | some (.pointer e')=>e'==e && P.cellsOf e==1 | _=>false
theorem K9 {I it e B n c:Nat} {a:Option bR} {l:List UInt8} {xs:List ag} (hp:ptrTo P I e=true) (L:ev N σ x= .pointer a) (M:ev N σ y= .int .i64 n) (E:w.ownsRow B e 1 (.slice a n c) n xs)
 (aj:xs=U8 l) (al:n≤9223372036854775807)
 (k:∀ w',Md (fun k=>(bE a n c).ownBlock=some k) w w'→w'.heap.size=w.heap.size→K (dv σ dst<|str l) w'):
 bZ P N ⟨dst,.call ⟨.builtin .unsafeString,#[x,y],#[I,it]⟩,ty,pos,af,g⟩ σ w K:=by
 subst aj;have A:l.length=n:=by have :=E.1; simpa [U8] using this
 unfold ptrTo at hp;split at hp
 case h_2=>cases hp
 rename_i e' hu;simp only [a0,beq_iff_eq] at hp;obtain ⟨rfl,O⟩:=hp;by_cases he:l= []
 · subst he;obtain rfl :n=0:=A.symm;refine je (w':=w) (v:=str []) ?_<|k w (Md.refl _ _) U;simp [execOp,resolve,invoke,builtin,L,M,Lib.run_unsafeString_none];rfl
 · rcases E.2 with ⟨h,h0⟩ | ⟨C,cap,cur,h,_,Z,hle,_,ai,am⟩
   · subst h0; simp only [List.length_eq_zero_iff] at A; exact absurd A he
   · simp only [yn,true_and] at h;obtain ⟨rfl,rfl⟩:=h;have ah:w.shape? C=some (e',cur.size):=by simp [yo,Z]
     have hr:=Lib.run_unsafeString_row (P:=P) w I it ty e' hu O C cur.size ah l he (by rw [A,ai]; omega) ab (fun j u hu=>by
      obtain ⟨ad,ak,J,V,_,aa,_⟩:=sL E;simp only [yn,true_and] at J;obtain ⟨rfl,rfl⟩:=J;rw [fP,js];exact V.ay j _ (by simp [U8,hu]))
     refine je (w':=w.freeze ⟨C,0,none⟩ l.length) (v:=str l) ?_ (k _ ⟨?_,?_,?_,?_⟩ ?_)
     · simp [execOp,resolve,invoke,builtin,L,M,← A,hr,str]
     · unfold lr; split <;> rfl
     · unfold lr; split <;> rfl
     · unfold lr; split <;> simp
     · intro k aa ac;have ae:k≠C:=fun e=>ac<|by simp [gj,e]
       unfold lr;split
       · rfl
       · simp only [Array.getElem?_modify]; rw [if_neg (fun e=>ae e.symm)]
     · unfold lr; split <;> simp
def nb (P:au) (A up e n:Nat):Bool:=
 (match P.underlying A with | some (.pointer e')=>e'==e | _=>false) && (match P.underlying up with | some .unsafePointer=>true | _=>false) && P.cellsOf e==n && aD 0 n && (match P.info? e with | some i=>i.size==n | _=>false)
theorem C6 {P:au} {C up e n:Nat} (h:nb P C up e n=true):P.underlying C=some (.pointer e)∧P.underlying up=some .unsafePointer∧P.cellsOf e=n∧0 < n∧∃ i,P.info? e=some i∧i.size=n:=by
 simp only [nb,a0] at h;obtain ⟨⟨⟨⟨h1,A⟩,h3⟩,h4⟩,h5⟩:=h;refine ⟨?_,?_,by simpa using h3,mq (mr 0) (bP h4),?_⟩
 · split at h1
   · rename_i h; simp only [beq_iff_eq] at h1; rw [h,h1]
   · cases h1
 · split at A
   · rename_i h; exact h
   · cases A
 · split at h5
   · rename_i i hi; exact ⟨i,hi,by simpa using h5⟩
   · cases h5
theorem CY {A up e n b:Nat} {L:List ag} (h:nb P A up e n=true) (O:ev N σ x= .pointer (some ⟨b,0,none⟩)) (hb:w.heap[b]? =some (.cells L.toArray e (0,0))) (E:L.length=n):
 (execOp (ev N σ) ⟨dst,.convert A up x,ty,pos,af,g⟩).run P w= .ok (.value<|.pointer<|some ⟨b,0,none⟩) w:=by
 obtain ⟨h1,C,U,V,i,hi,J⟩:=C6 h;have M:w.shape? b=some (e,L.length):=by simp [yo,hb]
 have I:¬n=0:=ab;simp [execOp,O,convert,bt h1,bt C,DP,DO,viewAt,M,cellsIn,E,sizeOf,de hi,J,I]
theorem Av {E up e n b:Nat} {L:List ag} (h:nb P E up e n=true) (aa:ev N σ x= .pointer (some ⟨b,0,none⟩)) (hb:w.heap[b]? =some (.cells L.toArray e (0,0))) (O:L.length=n):
 (execOp (ev N σ) ⟨dst,.convert up E x,ty,pos,af,g⟩).run P w= .ok (.value<|.pointer<|some ⟨b,0,none⟩) w:=by
 obtain ⟨h1,I,J,M,i,hi,V⟩:=C6 h;have Z:w.shape? b=some (e,L.length):=by simp [yo,hb]
 have C:¬n=0:=ab;have U:liesAt P P.depth e (L.length / P.cellsOf e) 0 e 1=true :=by
  have A:P.depth=(2 *(P.types.size+Made.depth)+1)+1:=rfl;rw [A];simp only [liesAt,nG];left;rw [A];simp [rowAt,J,C,O,sameLayout,Nat.div_self M]
 simp [execOp,aa,convert,bt h1,bt I,DP,DO,viewAt,Z,variablesAt,sizeOf,de hi,V,C,U]
theorem IP {t J e:av} {a:bR} (hu:P.underlying t=some (.pointer e)) (C:(P.info? e).isSome=true) (E:ev N σ x= .pointer (some a)) (I:ev N σ y= .pointer (some a)):
 (execOp (ev N σ) ⟨dst,.binOp .neq t x y J,ty,pos,af,g⟩).run P w= .ok (.value<|.bool false) w:=by
 obtain ⟨i,hi⟩:=mu.1 C;have he:∀ d,(ie (d+1) t (.pointer<|some a)<|.pointer<|some a).run P w= .ok true w:=by
  intro d;simp [ie,bt hu,sizeOf,de hi,sameAddr]
 have h:(binOp .neq t (.pointer<|some a)<|.pointer<|some a).run P w= .ok (.bool false) w:=by
  have :=he 9999;simp only [binOp];have A:(mc t (.pointer<|some a)<|.pointer<|some a).run P w= .ok true w:=this;simp [A]
 simp [execOp,E,I,eqGuard,h]
theorem FY {f:dT} {args:Array aW} {A:Array av} {v:ag} (E:∀ v w,(callFunc f #[v]).run P w= .ok (.value v) w) (C:args.toList.map (ev N σ)= [v]):
 (execOp (ev N σ) ⟨dst,.call ⟨.value (.func f),args,A⟩,ty,pos,af,g⟩).run P w= .ok (.value v) w:=by
 have :args.map (ev N σ)= #[v]:=by rw [← qS,iH,C]
 simp [execOp,resolve,ev,mb,invoke,this,E]
structure Bd (T e:av) (w:ah) (b:Nat) (buf:ag) (l:List UInt8):Prop where
 ak:∃ pa,w.heap[b]? =some (.cells [tS pa,buf].toArray T (0,0))∧(pa=none∨pa=some ⟨b,0,none⟩)
 own:w.ownsRow (b+1) e 1 buf l.length (U8 l)
 nil:buf= .slice none 0 0↔l= []
def BF (b:Nat) (A:ag) (k:Nat):Prop :=k=b∨A.ownBlock=some k
end
theorem Bd.lt {T e b:Nat} {w:ah} {A:ag} {l:List UInt8} (h:Bd T e w b A l):b < w.heap.size:=let ⟨_,h,_⟩:=h.ak; (dm.1 h).1
theorem Bd.sd {T e b:Nat} {w:ah} {C:ag} {l:List UInt8} (h:Bd T e w b C l) {k:Nat} (A:BF b C k):b≤k∧k < w.heap.size:=by
 rcases A with rfl | A
 · exact ⟨aQ _,h.lt⟩
 · have :=h.own.lt k A; omega
theorem Bd.md {T e b:Nat} {F:Nat→Prop} {w w':ah} {A:ag} {l:List UInt8} (h:Bd T e w b A l) (hm:Md F w w') (C:∀ k,BF b A k→¬F k):Bd T e w' b A l:=by
 obtain ⟨⟨J,h1,E⟩,h3,h4⟩:=h;exact ⟨⟨J,hm.ak h1 (C b<|.inl U),E⟩,bI h3 hm (fun k I=>C k<|.inr I),h4⟩
end Go.Hb
namespace Go.Hb
def ew (P:au) (t:av):Option (List (Nat×Nat)×List ag):=
 match P.info? t,P.underlying t with
 | some it,some (.struct fields)=>
   match it.zero,fields.toList.mapM (fun f=>(P.info? f.type).map fun i=>(f.offset,i.size)) with
   | some z,some pl=>some (pl,z.cells.toList)
   | _,_=>none
 | _,_=>none
def qy (pl:List (Nat×Nat)):List ag→List (Nat×ag)→Option (List ag)
 | A,[]=>some A
 | A,(i,v)::r=>match pl[i]? with
   | some (off,s)=>if (s==1 && v.oneCell' && aD off A.length)=true then qy pl (A.set off v) r else none
   | none=>none
theorem Jd {pl:List (Nat×Nat)} {A L:List ag} {ps:List (Nat×ag)} (h:qy pl A ps=some L):iI (pl.toArray[·]?) A.toArray ps=some L.toArray:=by
 induction ps generalizing A with
 | nil=>simp only [qy,bM] at h; subst h; rfl
 | cons p ps ih=>
   obtain ⟨i,v⟩:=p;simp only [qy] at h;split at h
   · rename_i off s I;split at h
     · rename_i C;simp only [a0,beq_iff_eq] at C;obtain ⟨⟨rfl,h1⟩,ho⟩:=C;have M:off < A.length:=bP ho;have J:v.cells= #[v]:=mW h1;have E:pl.toArray[i]? =some (off,1):=by simpa using I
       simp only [iI,E,J];rw [if_neg (by simp; omega),← ih h];simp
     · cases h
   · cases h
theorem sc {α:Type} {f:α→List ag} {m:Nat} (A:∀ a,(f a).length=m) (l:List α):(l.flatMap f).length=l.length*m:=by
 induction l with
 | nil=>simp
 | cons x l ih=>simp [ih,A,yC,uf]
theorem Hh {α:Type} {f:α→List ag} {m:Nat} (A:∀ a,(f a).length=m) {l:List α} {j c:Nat} {a:α} (h:l[j]? =some a) (C:c < m):(l.flatMap f)[j*m+c]? =(f a)[c]? :=by
 induction l generalizing j with
 | nil=>simp at h
 | cons x l ih=>
   cases j with
   | zero=>
     simp only [iK,bM] at h; subst h;rw [uj,cM,Ej,List.getElem?_append_left (by rw [A]; exact C)]
   | succ j=>
     simp only [iJ] at h;rw [Ej,List.getElem?_append_right (by rw [A,yC]; omega),A,show (j+1)*m+c - m=j*m+c from by rw [yC]; omega];exact ih h
theorem lP {α:Type} {f:α→List ag} {m:Nat} (A:∀ a,(f a).length=m) {h:Array Obj} {a:Option bR} {l:List α} {i:Nat} {e:α} (I:aX h a (l.flatMap f)) (J:l[i]? =some e):∀ j,j < m→Hb.ay h (bk a) (fo a+i*m+j)=(f e)[j]? :=by
 intro j C;have h1:=Hh A J C;have E:j < (f e).length:=by rw [A]; exact C
 rw [bG E] at h1 ⊢;rw [Nat.add_assoc]; exact I.ay _ _ h1
theorem oq {α:Type} {f:α→List ag} {m:Nat} (A:∀ a,(f a).length=m) (hm:0 < m) {l:List α} (h:0 < l.length):l.flatMap f≠[]:=by
 intro e;have :=sc A l;rw [e] at this;have :0 < l.length*m:=Nat.mul_pos h hm;simp at*; omega
theorem Ao {α:Type} {f:α→List ag} (A:∀ a,(f a).all eO=true) (l:List α):(l.flatMap f).all eO=true :=by grind
section
variable {P:au} {N:Fm} {σ:Nat→ag} {w:ah} {dst:Option Nat} {ty:av} {pos :String} {af:Array bT} {g:Option (Nat×Bool)} {x y z:aW} {K:(Nat→ag)→ah→Prop}
theorem eU {t:av} {parts:Array (Nat×aW)} {pl:List (Nat×Nat)} {A L:List ag} {ps:List (Nat×ag)} (h:ew P t=some (pl,A)) (hp:parts.toList.map (fun p=>(p.1,ev N σ p.2))=ps) (C:qy pl A ps=some L):
 (execOp (ev N σ) ⟨dst,.build t parts,ty,pos,af,g⟩).run P w= .ok (.value<|.agg L.toArray) w:=by
 unfold ew at h;split at h
 · rename_i it fields hi hu;split at h
   · rename_i z I E hm;simp only [bM,gT] at h;obtain ⟨rfl,rfl⟩:=h;have hb:P.built t (parts.map fun p=>(p.1,ev N σ p.2)).toList=some L.toArray:=by
      have :=Jd C;simp only [x9] at this;simp only [D4,hi,hu,E,hm,iH,hp]; exact this
     simp [execOp,run_build w t _ _ hb]
   · cases h
 · cases h
theorem Fh {t:av} {parts:Array (Nat×aW)} {pl:List (Nat×Nat)} {A L:List ag} {ps:List (Nat×ag)} (h:ew P t=some (pl,A)) (hp:parts.toList.map (fun p=>(p.1,ev N σ p.2))=ps) (C:iI (pl.toArray[·]?) A.toArray ps=some L.toArray):
 (execOp (ev N σ) ⟨dst,.build t parts,ty,pos,af,g⟩).run P w= .ok (.value<|.agg L.toArray) w:=by
 unfold ew at h;split at h
 · rename_i it fields hi hu;split at h
   · rename_i z I E hm;simp only [bM,gT] at h;obtain ⟨rfl,rfl⟩:=h;have hb:P.built t (parts.map fun p=>(p.1,ev N σ p.2)).toList=some L.toArray:=by
      have :=C;simp only [x9] at this;simp only [D4,hi,hu,E,hm,iH,hp]; exact this
     simp [execOp,run_build w t _ _ hb]
   · cases h
 · cases h
end
end Go.Hb
namespace Go.Hb
section
variable {P:au} {N:Fm} {σ:Nat→ag} {w:ah} {dst:Option Nat} {ty:av} {pos :String} {af:Array bT} {g:Option (Nat×Bool)} {x y z:aW} {K:(Nat→ag)→ah→Prop}
theorem Iw {zv:ag} (h1:zv.oneCell'=true) (n:Nat):madeCells zv.cells n=(cZ n zv).toArray:=by
 rw [mW h1];apply Array.ext
 · simp [madeCells]
 · intro i A C;simp [madeCells,Nat.mod_one]
theorem fC {t e bytes n:Nat} {J I:bu} {zv:ag} (ad:dK P t e 1 bytes=true) (A:zeroOf P e=some (some [zv])) (h1:zv.oneCell'=true) (ae:ev N σ x= .int J n) (ah:ev N σ y= .int I n) (hb:bytes*n≤281474976710656) (C:n≤maxLen)
 (k:∀ b w',b=w.heap.size→Nw w w'→(∀ B,B≤b→w'.ownsRow B e 1 (.slice (some ⟨b,0,none⟩) n n) n (cZ n zv))→K (dv σ dst<|.slice (some ⟨b,0,none⟩) n n) w'):bZ P N ⟨dst,.makeSlice t x y,ty,pos,af,g⟩ σ w K:=by
 obtain ⟨hu,i,L,hi,E,ac,aa,ak,aj⟩:=oW ad;have ai:L.cells= #[zv]:=by
  unfold zeroOf at A;simp only [hi,E,fu,bM] at A;exact qS.1<|by simpa using A
 refine lh (v:=fun b=> .slice (some ⟨b,0,none⟩) n n) (ob:= .cells (cZ n zv).toArray e (0,0)) ?_ fun b w' M O V=>k b w' M O fun B Z=>⟨by simp,.inr ⟨b,n,_,U,Z,V,aQ _,C,by simp,by simp⟩⟩
 have hr:=run_make (P:=P) w t e i L hu hi E J I n n ab (Int.le_refl _) (by rw [aa,← Int.natCast_mul]; omega)<|by unfold maxLen at C; omega
 rw [ai,ac,Nat.mul_one,Int.toNat_natCast,show madeCells #[zv] n=(cZ n zv).toArray by rw [← Iw h1,mW h1]] at hr;simp [execOp,ae,ah,hr]
end
end Go.Hb
namespace Go.Hb
section
variable {P:au} {N:Fm} {σ:Nat→ag} {w:ah} {dst:Option Nat} {ty:av} {pos :String} {af:Array bT} {g:Option (Nat×Bool)} {x y z:aW}
theorem FT {t n len cap i:Nat} {a:Option bR} {k I:bu} (he:cU P t=some n) (A:ev N σ x= .slice a len cap) (C:ev N σ y= .int k (i:Nat)) (E:ev N σ z= .int I (i:Nat)) (h:i≤cap):
 (execOp (ev N σ) ⟨dst,.slice t x none (some y) (some z),ty,pos,af,g⟩).run P w= .ok (.value<|.slice a i i) w:=by
 have h0:(0:Int)≤(i:Int):=ab;unfold cU at he;cases hd:P.underlying t with
 | none=>rw [hd] at he; cases he
 | some d=>
   rw [hd] at he;cases d <;> first | (cases he; done) | skip
   rename_i e;cases hi':P.info? e with
   | none=>simp [hi'] at he
   | some j=>
     have ha:(if i=0 then a else a.map (·.add 0))=a:=by
      split
      · rfl
      · cases a <;> simp [tM]
     simp only [execOp,nK,qW,A,C,E,fu,Option.map_none,kn,nL,asIntOf];simp [bt hd,de hi',sizeOf,h0,ha];intro J; omega
end
end Go.Hb
namespace Go.Hb
def um (h:Array Obj) (b:Nat) (kvs:List (ag×ag)):Prop := ∃ es clock,h[b]? =some (.map es clock)∧es.toList.map (fun e=>(e.key,e.val))=kvs
structure nY (P:au) (k:av) (cW:ag→Prop):Prop where
 check:∀ em w v,cW v→(km em 10000 k v).run P w= .ok () w
 find:∀ w x es,cW x→(∀ e∈es,cW e.key)→
  ((nI k x es).run P w= .ok none w∧∀ e∈es,e.key≠x)∨∃ j e,(nI k x es).run P w= .ok (some (j,e.val)) w∧es[j]? =some e∧e.key=x
theorem FM {P:au} {k:av} {em:Bool} {n:Nat} {a:Bool} (A:P.underlying k=some .bool) (w:ah):(km em (n+1) k<|.bool a).run P w= .ok () w:=by
 simp only [km,ij,bt A,gQ,ko]
theorem ze {P:au} {k:av} {em:Bool} {n:Nat} {a:List UInt8} (A:P.underlying k=some .string) (w:ah):(km em (n+1) k<|str a).run P w= .ok () w:=by
 simp only [str,km,ij,bt A,gQ,ko]
def vI (v:ag):Prop := ∃ (f:Bool) (s:List UInt8),v= .agg #[.bool f,str s]
def mC (P:au) (k:av):Bool:=
 match P.underlying k with
 | some (.struct A)=>match A.toList with
   | [f1,f2]=>f1.name != "_" && f2.name != "_" && f1.offset==0 && f2.offset==1 && !P.stoodInHeld k &&
     (match P.underlying f1.type with | some .bool=>true | _=>false) && (match P.underlying f2.type with | some .string=>true | _=>false)
   | _=>false
 | _=>false
theorem sN {P:au} {t:av} {cs:Array ag} {o:Nat} {v:ag} {d:TypeDesc} (C:P.underlying t=some d) (A:(match d with | .bool | .string=>true | _=>false)=true) (E:cs[o]? =some v) (w:ah):(part t cs o).run P w= .ok v w:=by
 cases d <;> first | (cases A; done) | simp [part,isAgg,bt C,E]
theorem uD {P:au} {k:av} (h:mC P k=true):∃ A f1 f2,P.underlying k=some (.struct A)∧A.toList= [f1,f2]∧f1.name≠ "_" ∧f2.name≠ "_" ∧f1.offset=0∧f2.offset=1∧P.stoodInHeld k=false∧P.underlying f1.type=some .bool∧P.underlying f2.type=some .string:=by grind [mC]
theorem GX {P:au} {k:av} (h:mC P k=true) {f g:Bool} {s t:List UInt8} (w:ah):(mc k (.agg #[.bool f,str s])<|.agg #[.bool g,str t]).run P w= .ok (decide (f=g∧s=t)) w:=by
 obtain ⟨M,f1,f2,hu,aa,h1,O,U,V,Z,A,C⟩:=uD h;have E:P.fieldsOf k=M:=by simp [Program.fieldsOf,hu]
 have J:∀ (x:Bool) (y:List UInt8) (w:ah),(part f1.type #[.bool x,str y] f1.offset).run P w= .ok (.bool x) w:=fun x y w=>sN A rfl (by rw [U]; rfl) w;have L:∀ (x:Bool) (y:List UInt8) (w:ah),(part f2.type #[.bool x,str y] f2.offset).run P w= .ok (str y) w:=fun x y w=>sN C rfl (by rw [V]; rfl) w;unfold mc;show (ie (9998 +1 +1) k _ _).run P w=_;rw [run_equalIn_struct w (9998 +1) k _ _ (by rw [E]; exact hu) Z,E,aa];simp only [Op.eqFields,ij,q8,J,L,gQ,run_equalIn_bool' w 9998 f1.type f g A,h1,O,ne_eq,not_false_eq_true,if_true];by_cases I:f=g
 · subst I;have :(ie (9998 +1) f2.type (str s)<|str t).run P w= .ok (decide (s=t)) w:=by
    rw [str,str,run_equalIn_string w 9998 f2.type _ _ C,DJ,DJ];congr 1;by_cases bo:s=t
    · subst bo; simp
    · simp [bo]
   simp only [beq_self_eq_true,Bool.not_true,nF,if_false,this,gQ,true_and];by_cases bo:s=t <;> simp [bo]
 · simp [I]
theorem FN {P:au} {k:av} {em:Bool} {n:Nat} (h:mC P k=true) {f:Bool} {s:List UInt8} (w:ah):(km em (n+1 +1) k<|.agg #[.bool f,str s]).run P w= .ok () w:=by
 obtain ⟨U,f1,f2,hu,O,h1,J,L,M,V,A,C⟩:=uD h;have E:∀ (w:ah),(part f1.type #[.bool f,str s] f1.offset).run P w= .ok (.bool f) w:=fun w=>sN A rfl (by rw [L]; rfl) w;have I:∀ (w:ah),(part f2.type #[.bool f,str s] f2.offset).run P w= .ok (str s) w:=fun w=>sN C rfl (by rw [M]; rfl) w;rw [km];simp only [ij,bt hu,gQ];rw [← Array.forIn_toList,O];simp only [List.forIn_cons,List.forIn_nil,ij,E,I,h1,J,ne_eq,not_false_eq_true,if_true,gQ,FM A,ze C,ko]
theorem Al {P:au} {k:av} (h:mC P k=true) {f:Bool} {s:List UInt8} (w:ah):∀ (es:List MapEntry) (i:Nat),(∀ e∈es,vI e.key)→
 ((nH k (.agg #[.bool f,str s]) es i).run P w= .ok none w∧∀ e∈es,e.key≠.agg #[.bool f,str s])∨∃ j e,(nH k (.agg #[.bool f,str s]) es i).run P w= .ok (some (i+j,e.val)) w∧es[j]? =some e∧e.key= .agg #[.bool f,str s]
 | [],i,_=> .inl ⟨by simp [nH],fun _ h=>by simp at h⟩
 | e::es,i,hk=>by
   obtain ⟨g,t,ha⟩:=hk e<|by simp
   have he:=GX h (f:=f) (g:=g) (s:=s) (t:=t) w;rw [← ha] at he;by_cases A:f=g∧s=t
   · obtain ⟨rfl,rfl⟩:=A;refine .inr ⟨0,e,?_,U,ha⟩;simp [nH,he]
   · have L:e.key≠.agg #[.bool f,str s]:=by
      rw [ha]; intro E; simp [str] at E; exact A ⟨E.1.symm,E.2.symm⟩
     rcases Al (f:=f) (s:=s) h w es (i+1) (fun e he=>hk e<|by simp [he]) with ⟨h1,C⟩ | ⟨j,e',h1,C,J⟩
     · refine .inl ⟨by simp [nH,he,A,h1],fun e' I=> ?_⟩;rcases ei.1 I with rfl | I
       · exact L
       · exact C e' I
     · refine .inr ⟨j+1,e',?_,C,J⟩;simp only [nH,ij,he,A,gQ,decide_false,q8,nF,if_false,h1]; rw [show i+1 +j=i+(j+1) from by omega]
theorem H5 {P:au} {k:av} (h:mC P k=true):nY P k vI where
 check em w v hv:=by obtain ⟨f,s,rfl⟩:=hv; exact FN (n:=9998) h w
 find w x es hx hes:=by
  obtain ⟨f,s,rfl⟩:=hx;obtain ⟨J,f1,f2,hu,_⟩:=uD h;have I:es≠[]→(nI k (.agg #[.bool f,str s]) es).run P w=(nH k (.agg #[.bool f,str s]) es).run P w:=by
   intro A;cases es with
   | nil=>exact absurd rfl A
   | cons e es=>simp [nI,bt hu,nJ,Instr.sameNow]
  by_cases A:es= []
  · subst A; exact .inl ⟨by simp [nI,bt hu,nJ],fun _ h=>by simp at h⟩
  · rw [I A];rcases Al h w es 0 hes with h1 | ⟨j,e,h1,C,E⟩
    · exact .inl h1
    · exact .inr ⟨j,e,by rw [h1,cM],C,E⟩
def zeroV (P:au) (e:av):Option ag:=(P.info? e).bind (·.zero)
theorem Dm {P:au} {e:av} {z:ag} (h:zeroV P e=some z) (w:ah):(zeroValue e).run P w= .ok z w:=by
 unfold zeroV at h;simp only [Option.bind_eq_some_iff] at h;obtain ⟨i,hi,A⟩:=h;simp [zeroValue,de hi,A]
section
variable {P:au} {N:Fm} {σ:Nat→ag} {w:ah} {dst:Option Nat} {ty:av} {pos :String} {af:Array bT} {g:Option (Nat×Bool)} {x y z:aW} {K:(Nat→ag)→ah→Prop}
variable {t k e:av} {cW:ag→Prop} {b:Nat} {kvs:List (ag×ag)} {kx v:ag}
theorem r5 {es:Array MapEntry} (h:es.toList.map (fun e=>(e.key,e.val))=kvs) (A:∀ p∈kvs,cW p.1):∀ e∈es.toList,cW e.key:=by grind [e,he,rh]
theorem run_getObj_map {es:Array MapEntry} {c:Nat} (hr:w.heap[b]? =some (.map es c)):(getObj b).run P w= .ok (.map es c) w:=by
 simp [getObj,ln,hr]
theorem IW {kvs:List (ag×ag)} (hn:(kvs.map fL).Nodup) {kx v C:ag} (h1:(kx,v)∈kvs) (A:(kx,C)∈kvs):v=C:=by
 induction kvs with
 | nil=>simp at h1
 | cons p kvs ih=>
   simp only [gn,List.nodup_cons] at hn;rcases ei.1 h1 with h1 | h1
   · rcases ei.1 A with A | A
     · rw [← h1] at A; cases A; rfl
     · rw [← h1] at hn; exact absurd (rh (f:=fL) A) hn.1
   · rcases ei.1 A with A | A
     · rw [← A] at hn; exact absurd (rh (f:=fL) h1) hn.1
     · exact ih hn.2 h1 A
theorem Io {ok:Bool} (V:P.underlying t=some (.map k e)) (E:nY P k cW) (hm:um w.heap b kvs) (O:∀ p∈kvs,cW p.1) (aa:ev N σ x= .map (some b)) (ab:ev N σ y=kx) (hi:cW kx) (hn:(kvs.map fL).Nodup) (C:(kx,v)∈kvs):
 (execOp (ev N σ) ⟨dst,.lookup t x y ok,ty,pos,af,g⟩).run P w= .ok (.value (if ok then .tuple #[v,.bool true] else v)) w:=by
 obtain ⟨es,c,hr,he⟩:=hm;rcases E.find w kx es.toList hi (r5 he O) with ⟨_,A⟩ | ⟨j,e',h1,A,J⟩
 · rw [← he] at C;obtain ⟨I,M,L⟩:=List.mem_map.1 C;cases L;exact absurd U<|A I M
 · have Z:(kx,e'.val)∈kvs:=by rw [← he,← J]; exact rh (f:=fun e:MapEntry=>(e.key,e.val))<|mi A
   have :=IW hn C Z;subst this;cases ok <;> simp [execOp,DV,bt V,aa,ab,run_getObj_map hr,E.check _ w kx hi,h1]
theorem Ip {ok:Bool} {zv:ag} (J:P.underlying t=some (.map k e)) (O:zeroV P e=some zv) (A:nY P k cW) (hm:um w.heap b kvs) (I:∀ p∈kvs,cW p.1) (L:ev N σ x= .map (some b)) (M:ev N σ y=kx) (hi:cW kx) (hn:∀ v,(kx,v)∉kvs):
 (execOp (ev N σ) ⟨dst,.lookup t x y ok,ty,pos,af,g⟩).run P w= .ok (.value (if ok then .tuple #[zv,.bool false] else zv)) w:=by
 obtain ⟨es,c,hr,he⟩:=hm;rcases A.find w kx es.toList hi (r5 he I) with ⟨h1,_⟩ | ⟨j,e',h1,C,E⟩
 · cases ok <;> simp [execOp,DV,bt J,L,M,run_getObj_map hr,A.check _ w kx hi,h1,Dm O]
 · exact absurd (by rw [← he,← E]; exact rh (f:=fun e:MapEntry=>(e.key,e.val))<|mi C)<|hn e'.val
end
end Go.Hb
namespace Go.Hb
end Go.Hb
namespace Go.Hb
inductive TD | no | int (k:bu) | str | bool | ptr | dj (e n:Nat) | st (offs:List Nat)
def kO {α:Type} :List α→Nat→α→α
 | [],_,d=>d
 | a::_,0,_=>a
 | _::l,n+1,d=>kO l n d
def oZ (T:List (List TD)) (t:Nat):TD:=kO (kO T (t / 16) []) (t % 16) .no
def dG:bu→Nat
 | .i8=>0 | .i16=>1 | .i32=>2 | .i64=>3 | .u8=>4 | .u16=>5 | .u32=>6 | .u64=>7
theorem mQ {a b:bu} (h:aN (dG a) (dG b)=true):a=b:=by
 cases a <;> cases b <;> first | rfl | (cases h)
def sE (P:au) (t:Nat):Nat→List Nat→Bool
 | _,[]=>true
 | f,n::l=>(match mM P t f with | some m=>aN m n | none=>false) && sE P t (f+1) l
def xG (P:au) (t:Nat):TD→Bool
 | .no=>true
 | .int k=>match P.underlying t with | some (.int A)=>aN (dG k) (dG A) | _=>false
 | .str=>match P.underlying t with | some .string=>true | _=>false
 | .bool=>match P.underlying t with | some .bool=>true | _=>false
 | .ptr=>match P.underlying t with | some (.pointer _)=>true | _=>false
 | .dj e n=>match P.underlying t,cU P t with | some (.slice e'),some n'=>aN e e' && aN n n' | _,_=>false
 | .st C=>sE P t 0 C
def sW (P:au):Nat→List TD→Bool
 | _,[]=>true
 | t,d::l=>xG P t d && sW P (t+1) l
def jd (P:au):Nat→List (List TD)→Bool
 | _,[]=>true
 | t,r::l=>sW P t r && jd P (t+16) l
theorem BZ {P:au} :∀ {l:List TD} {b j:Nat},sW P b l=true→xG P (b+j) (kO l j .no)=true
 | [],b,j,_=>rfl
 | d::l,b,0,h=>(pb.1 h).1
 | d::l,b,j+1,h=>by
   have :=BZ (j:=j) (pb.1 h).2;rw [show b+(j+1)=b+1 +j from by omega]; exact this
theorem CS {P:au} :∀ {T:List (List TD)} {b i:Nat},jd P b T=true→sW P (b+16 *i) (kO T i [])=true
 | [],b,i,_=>rfl
 | r::T,b,0,h=>(pb.1 h).1
 | r::T,b,i+1,h=>by
   have :=CS (i:=i) (pb.1 h).2;rw [show b+16 *(i+1)=b+16 +16 *i from by omega]; exact this
theorem xF {P:au} {T:List (List TD)} (h:jd P 0 T=true) (t:Nat):xG P t (oZ T t)=true :=by
 have :=BZ (j:=t % 16)<|CS (i:=t / 16) h;rw [show 0 +16 *(t / 16)+t % 16=t from by omega] at this;exact this
theorem Bx {P:au} {t:Nat} :∀ {l:List Nat} {b f n:Nat},sE P t b l=true→l[f]? =some n→mM P t (b+f)=some n
 | [],b,f,n,_,h=>by simp at h
 | m::l,b,0,n,h,hn=>by
   have h1:=(pb.1 h).1;obtain rfl :m=n:=by simpa using hn
   split at h1
   · rename_i A hm; rw [Nat.add_zero,hm,bO h1]
   · cases h1
 | m::l,b,f+1,n,h,hn=>by
   have :=Bx (f:=f) (pb.1 h).2<|by simpa using hn
   rw [show b+(f+1)=b+1 +f from by omega]; exact this
section
variable {P:au} {T:List (List TD)} (hT:jd P 0 T=true) {t:Nat}
include hT
theorem Gs (h:oZ T t= .str):P.underlying t=some .string:=by
 have :=xF hT t;rw [h] at this;change (match P.underlying t with | some .string=>true | _=>false)=true at this;split at this
 · assumption
 · cases this
theorem Gq {e n:Nat} (h:oZ T t= .dj e n):P.underlying t=some (.slice e)∧cU P t=some n:=by
 have :=xF hT t;rw [h] at this;change (match P.underlying t,cU P t with | some (.slice e'),some n'=>aN e e' && aN n n' | _,_=>false)=true at this;split at this
 · rename_i h1 A;simp only [a0] at this;rw [h1,A,bO this.1,bO this.2]; exact ⟨rfl,rfl⟩
 · cases this
theorem Gr {l:List Nat} {f n:Nat} (h:oZ T t= .st l) (hn:l[f]? =some n):mM P t f=some n:=by
 have :=xF hT t;rw [h] at this;have :=Bx (show sE P t 0 l=true from this) hn;rwa [cM] at this
end
def Jr (k:bu) (n:Int):Prop :=match k with
 | .i64=> -9223372036854775808≤n∧n≤9223372036854775807
 | .u8=>0≤n∧n≤255
 | .i32=> -2147483648≤n∧n≤2147483647
 | .u32=>0≤n∧n≤4294967295
 | .u64=>0≤n∧n≤18446744073709551615
 | _=>False
theorem BX {k:bu} {n:Int} (h:Jr k n):k.wrap n=n:=by
 cases k <;> first | exact gP h | exact xU h | exact xR h | exact Dk h | exact gC h | exact h.elim
inductive n3 | no | v (x:ag) | vc (x:ag) (c:Prop)
def sP (k:bu) (n:Int):n3:=match k with
 | .i64=> .vc (.int .i64 n)<|-9223372036854775808≤n∧n≤9223372036854775807
 | .u8=> .vc (.int .u8 n)<|0≤n∧n≤255
 | .i32=> .vc (.int .i32 n)<|-2147483648≤n∧n≤2147483647
 | .u32=> .vc (.int .u32 n)<|0≤n∧n≤4294967295
 | .u64=> .vc (.int .u64 n)<|0≤n∧n≤18446744073709551615
 | _=> .no
def vE (op:BinOp) (k:bu) (a b:Int):n3:=match op with
 | .lss=> .v<|.bool<|decide (a < b)
 | .leq=> .v<|.bool<|decide (a≤b)
 | .gtr=> .v<|.bool<|decide (b < a)
 | .geq=> .v<|.bool<|decide (b≤a)
 | .eql=> .v<|.bool<|decide (a=b)
 | .neq=> .v<|.bool<|decide (a≠b)
 | .add=>sP k<|a+b
 | .sub=>sP k<|a - b
 | _=> .no
def CJ (op:BinOp) (l m:List UInt8):n3:=match op with
 | .eql=> .v<|.bool<|decide (l=m)
 | .neq=> .v<|.bool<|decide (l≠m)
 | .add=> .vc (str<|l++m)<|l.length+m.length≤9223372036854775807
 | _=> .no
def jX (v:ag):n3:=match v with
 | .int k n=> .v<|.int k n
 | .bool b=> .v<|.bool b
 | .string ⟨⟨l⟩⟩=> .v<|str l
 | .pointer a=> .v<|.pointer a
 | .slice a n c=> .v<|.slice a n c
 | .map r=> .v<|.map r
 | .func f a b=> .v<|.func f a b
 | .nilFunc=> .v .nilFunc
 | .iface t v=> .v<|.iface t v
 | .nilIface=> .v .nilIface
 | .agg c=> .v<|.agg c
 | .tuple c=> .v<|.tuple c
 | _=> .no
theorem Hk {v x:ag} (h:jX v= .v x):v=x:=by
 unfold jX at h;split at h <;> cases h <;> rfl
theorem Hl {v x:ag} {c:Prop} (h:jX v= .vc x c):False:=by
 unfold jX at h;split at h <;> cases h
def oH (T:List (List TD)) (N:Fm) (σ:Nat→ag) (o:Op):n3:=match o with
 | .move x=>jX<|ev N σ x
 | .assign x=>jX<|ev N σ x
 | .pick c x y=>match ev N σ c with
   | .bool true =>jX<|ev N σ x
   | .bool false =>jX<|ev N σ y
   | _=> .no
 | .nilCheck x=>match ev N σ x with
   | .pointer (some a)=> .v<|.pointer<|some a
   | _=> .no
 | .extract x i=>match ev N σ x with
   | .tuple ⟨vs⟩=>match vs[i]? with
     | some v=> .v v
     | none=> .no
   | _=> .no
 | .fieldAddr s x f=>match ev N σ x,oZ T s with
   | .pointer (some ⟨b,off,none⟩),.st l=>match l[f]? with
     | some n=> .v<|.pointer<|some ⟨b,off+n,none⟩
     | none=> .no
   | _,_=> .no
 | .binOp op t x y _=>match ev N σ x,ev N σ y with
   | .int k a,.int k' b=>cond (aN (dG k)<|dG k') (vE op k a b) .no
   | .string ⟨⟨l⟩⟩,.string ⟨⟨m⟩⟩=>CJ op l m
   | _,_=> .no
 | .unOp .not _ x=>match ev N σ x with
   | .bool b=> .v<|.bool<|!b
   | _=> .no
 | .call ⟨.builtin .len,⟨[x]⟩,⟨[t]⟩⟩=>match ev N σ x,oZ T t with
   | .string ⟨⟨l⟩⟩,.str=> .v<|.int .i64 l.length
   | .slice a n c,.dj _ _=> .v<|.int .i64 n
   | _,_=> .no
 | _=> .no
def wy (P:au) (N:Fm) (σ:Nat→ag) (o:aB) (w:ah):n3→Prop
 | .no=>True
 | .v x=>(execOp (ev N σ) o).run P w= .ok (.value x) w
 | .vc x c=>c→(execOp (ev N σ) o).run P w= .ok (.value x) w
theorem se {P:au} {N:Fm} {σ:Nat→ag} {o:aB} {w:ah} {v:ag} (h:(execOp (ev N σ) o).run P w= .ok (.value v) w):wy P N σ o w (jX v):=by
 cases hf:jX v with
 | no=>trivial
 | v x=>rw [← Hk hf]; exact h
 | vc x c=>exact (Hl hf).elim
theorem sI {P:au} {T:List (List TD)} (hT:jd P 0 T=true) {N:Fm} {σ:Nat→ag} (d:Option Nat) (o:Op) (ty:av) (pos :String) (af:Array bT) (g:Option (Nat×Bool)) (w:ah):wy P N σ ⟨d,o,ty,pos,af,g⟩ w (oH T N σ o):=by
 unfold oH;split
 · exact se mv
 · exact se aT
 · split
   · exact se<|mZ<|by assumption
   · exact se<|mY<|by assumption
   · trivial
 · split
   · exact nc<|by assumption
   · trivial
 · split
   · split
     · exact xt (by assumption)<|by simpa using by assumption
     · trivial
   · trivial
 · split
   · split
     · exact fa (Gr hT (by assumption)<|by assumption)<|by assumption
     · trivial
   · trivial
 · split
   · rename_i k a E b A C;cases hk:aN (dG k) (dG E)
     · trivial
     · obtain rfl :=mQ hk;show wy _ _ _ _ _ (vE _ _ _ _);unfold vE;split
       · exact lt A C
       · exact le A C
       · exact gt A C
       · exact ge A C
       · exact Ab A C
       · exact Br A C
       · unfold sP; split <;> first | trivial | exact fun h=>ad A C<|BX h
       · unfold sP; split <;> first | trivial | exact fun h=>sb A C<|BX h
       · trivial
   · rename_i l m A C;unfold CJ;split
     · exact Ac A C
     · exact Bs A C
     · exact fun h=>cc A C h
     · trivial
   · trivial
 · split
   · exact no<|by assumption
   · trivial
 · split
   · exact A7 (Gs hT<|by assumption) U<|by assumption
   · exact vU (Gq hT<|by assumption).1 U<|by assumption
   · trivial
 · trivial
inductive Pt | c (c:bL) | l (ops:Array aB) (l:List aB) | x (e:bp)
inductive Kn | sq (y:bL) | bk (id:Nat)
def eh (P:au) (N:Fm):List Kn→(bp→(Nat→ag)→ah→Prop)→bp→(Nat→ag)→ah→Prop
 | [],Q=>Q
 | .sq y::st,Q=>gN (fun σ w=>bA P N y (eh P N st Q) σ w)<|eh P N st Q
 | .bk id::st,Q=>kG id<|eh P N st Q
@[reducible] def At (P:au) (N:Fm) (Q:bp→(Nat→ag)→ah→Prop) (w:ah) (p:Pt) (st:List Kn) (σ:Nat→ag):Prop :=match p with
 | .c c=>bA P N c (eh P N st Q) σ w
 | .l ops l=>bS P N ops (eh P N st Q) l σ w
 | .x e=>eh P N st Q e σ w
inductive Out | no | at (p:Pt) (st:List Kn) (σ:Nat→ag) (c:Option Prop)
def andG (c:Prop):Option Prop→Option Prop
 | none=>some c
 | some d=>some<|c∧d
def optG:Option Prop→Prop
 | none=>True
 | some c=>c
theorem rG {c:Prop} {d:Option Prop} (h:optG (andG c d)):c∧optG d:=by
 cases d
 · exact ⟨h,trivial⟩
 · exact h
inductive EY | no | go (p:Pt) (st:List Kn) (σ:Nat→ag) (c:Option Prop)
def stepG (T:List (List TD)) (N:Fm) (p:Pt) (st:List Kn) (σ:Nat→ag) (c:Option Prop):EY:=match p with
 | .x .normal=>match st with
   | .sq y::st=> .go (.c y) st σ c
   | .bk _::st=> .go (.x .normal) st σ c
   | []=> .no
 | .x .ret=>match st with
   | _::st=> .go (.x .ret) st σ c
   | []=> .no
 | .x (.exit i)=>match st with
   | .sq _::st=> .go (.x<|.exit i) st σ c
   | .bk j::st=>cond (aN i j) (.go (.x .normal) st σ c)<|.go (.x<|.exit i) st σ c
   | []=> .no
 | .x _=> .no
 | .c (.seq x y)=> .go (.c x) (.sq y::st) σ c
 | .c (.block id x)=> .go (.c x) (.bk id::st) σ c
 | .c .skip => .go (.x .normal) st σ c
 | .c .ret=> .go (.x .ret) st σ c
 | .c (.exit i)=> .go (.x<|.exit i) st σ c
 | .c (.region id ⟨l⟩ false)=>cond (j6 N.r l) (.go (.l ⟨l⟩ l) st σ c) .no
 | .c (.cond x a b)=>match ev N σ x with
   | .bool true => .go (.c a) st σ c
   | .bool false => .go (.c b) st σ c
   | _=> .no
 | .c _=> .no
 | .l ops []=> .go (.x .normal) st σ c
 | .l ops (⟨some d,o,ty,pos,af,none⟩::r)=>match oH T N σ o with
   | .v x=> .go (.l ops r) st (aU σ d x) c
   | .vc x c'=> .go (.l ops r) st (aU σ d x)<|andG c' c
   | .no=> .no
 | .l ops (⟨some d,o,ty,pos,af,some (j,want)⟩::r)=>match dN ops j with
   | some t=>cond (aD t N.n) (match σ t with
     | .bool b=>cond (b==want) (match oH T N σ o with
       | .v x=> .go (.l ops r) st (aU σ d x) c
       | .vc x c'=> .go (.l ops r) st (aU σ d x)<|andG c' c
       | .no=> .no) (.go (.l ops r) st (aU σ d undef) c)
     | .tuple ⟨[]⟩=> .go (.l ops r) st (aU σ d undef) c
     | _=> .no) .no
   | none=> .no
 | .l ops _=> .no
def gL (T:List (List TD)) (N:Fm):Nat→Pt→List Kn→(Nat→ag)→Option Prop→Out
 | 0,p,st,σ,c=> .at p st σ c
 | n+1,p,st,σ,c=>match stepG T N p st σ c with
   | .go p st σ c=>gL T N n p st σ c
   | .no=> .no
section
variable {P:au} {T:List (List TD)} {N:Fm} {Q:bp→(Nat→ag)→ah→Prop} {w:ah} {σ σ':Nat→ag} {p p':Pt} {st st':List Kn} {c c':Option Prop} {n:Nat}
theorem KG (hT:jd P 0 T=true) (h:stepG T N p st σ c= .go p' st' σ' c') (A:optG c') (C:At P N Q w p' st' σ'):optG c∧At P N Q w p st σ:=by
 unfold stepG at h;split at h
 · split at h
   · cases h; exact ⟨A,tn C⟩
   · cases h; exact ⟨A,bn C⟩
   · cases h
 · split at h
   · rename_i k _;cases h; cases k
     · exact ⟨A,tr C⟩
     · exact ⟨A,br C⟩
   · cases h
 · split at h
   · cases h; exact ⟨A,te _ C⟩
   · rename_i i _ j _;cases hij:aN i j
     · rw [hij] at h; cases h;exact ⟨A,Fe (fun e=>by rw [e] at hij; simp at hij) C⟩
     · rw [hij] at h; cases h;obtain rfl :=bO hij;exact ⟨A,be C⟩
   · cases h
 · cases h
 · cases h; exact ⟨A,sq fun K U=>Dh (fun e σ w O=>by cases e <;> first | exact U _ _ O | exact O) C⟩
 · cases h; exact ⟨A,ak C⟩
 · cases h; exact ⟨A,Cy C⟩
 · cases h; exact ⟨A,rt C⟩
 · cases h; exact ⟨A,ext C⟩
 · rename_i id l;cases hr:j6 N.r l
   · rw [hr] at h; cases h
   · rw [hr] at h; cases h;exact ⟨A,rg hr C⟩
 · split at h
   · cases h; exact ⟨A,ct (by assumption) C⟩
   · cases h; exact ⟨A,cf (by assumption) C⟩
   · cases h
 · cases h
 · cases h; exact ⟨A,nl C⟩
 · rename_i ops d o ty pos af r;have bQ:=sI (P:=P) hT (N:=N) (σ:=σ) (some d) o ty pos af none w;split at h
   · rename_i x E;rw [E] at bQ; cases h;exact ⟨A,Hb.p bQ C⟩
   · rename_i x q E;rw [E] at bQ; cases h;obtain ⟨L,M⟩:=rG A;exact ⟨M,Hb.p (bQ L) C⟩
   · cases h
 · rename_i ops d o ty pos af j want r;have bQ:=sI (P:=P) hT (N:=N) (σ:=σ) (some d) o ty pos af (some (j,want)) w;split at h
   · rename_i t J;cases hb:aD t N.n
     · rw [hb] at h; cases h
     · rw [hb] at h;simp only [cond_true] at h;split at h
       · rename_i b I;cases hw:(b==want)
         · rw [hw] at h; cases h;exact ⟨A,sk J hb I hw C⟩
         · rw [hw] at h;simp only [cond_true] at h;obtain rfl :b=want:=by simpa using hw
           split at h
           · rename_i x E;rw [E] at bQ; cases h;exact ⟨A,pg J hb I bQ C⟩
           · rename_i x q E;rw [E] at bQ; cases h;obtain ⟨L,M⟩:=rG A;exact ⟨M,pg J hb I (bQ L) C⟩
           · cases h
       · rename_i I;cases h;exact ⟨A,Cz J hb I C⟩
       · cases h
   · cases h
 · cases h
theorem iD (hT:jd P 0 T=true):∀ (n:Nat) (p:Pt) (st:List Kn) (σ:Nat→ag) (c:Option Prop),gL T N n p st σ c= .at p' st' σ' c'→optG c'→At P N Q w p' st' σ'→optG c∧At P N Q w p st σ
 | 0,p,st,σ,c,h,hc,hk=>by cases h; exact ⟨hc,hk⟩
 | n+1,p,st,σ,c,h,hc,hk=>by
   simp only [gL] at h;split at h
   · rename_i C;obtain ⟨h1,A⟩:=iD hT n _ _ _ _ h hc hk;exact KG hT C h1 A
   · cases h
end
inductive ES | no | at (fuel:Nat) (listed:Array Bool) (σ:Nat→ag) (c:Option Prop)
inductive EV | no | go (σ:Nat→ag) (c:Option Prop)
def CO (T:List (List TD)) (N:Fm) (g:Bool) (ops:Array aB) (i:Nat) (σ:Nat→ag) (c:Option Prop):EV:=match ops[i]? with
 | some ⟨some d,o,_,_,_,none⟩=>match oH T N σ o with
   | .v x=> .go (aU σ d x) c
   | .vc x c'=> .go (aU σ d x)<|andG c' c
   | .no=> .no
 | some ⟨some d,o,_,_,_,some (j,want)⟩=>cond g (match dN ops j with
   | some t=>cond (aD t N.n) (match σ t with
     | .bool b=>cond (b==want) (match oH T N σ o with
       | .v x=> .go (aU σ d x) c
       | .vc x c'=> .go (aU σ d x)<|andG c' c
       | .no=> .no) (.go (aU σ d undef) c)
     | .tuple ⟨[]⟩=> .go (aU σ d undef) c
     | _=> .no) .no
   | none=> .no) .no
 | _=> .no
def kU (T:List (List TD)) (N:Fm) (g:Bool) (ops:Array aB):List Nat→Nat→Array Bool→(Nat→ag)→Option Prop→ES
 | [],fuel,listed,σ,c=> .at fuel listed σ c
 | _::_,0,_,_,_=> .no
 | i::is,fuel+1,listed,σ,c=>match CO T N g ops i σ c with
   | .go σ c=>kU T N g ops is fuel (listed.setIfInBounds i true) σ c
   | .no=> .no
def ky (fr:Array Bool→Nat→Bool):List Nat→Array Bool→Bool
 | [],_=>true
 | i::is,listed=>fr listed i && ky fr is (listed.setIfInBounds i true)
section
variable {P:au} {T:List (List TD)} {N:Fm} {g:Bool} {ops:Array aB} {fr:Array Bool→Nat→Bool} {fuel':Nat} {listed':Array Bool} {σ':Nat→ag} {c':Option Prop} {w:ah}
theorem tc (hT:jd P 0 T=true) (W:Nat→Array Bool→(Nat→ag)→Prop)
 (H1:∀ {i d o ty pos af v fuel listed σ},ops[i]? =some ⟨some d,o,ty,pos,af,none⟩→fr listed i=true→(∀ w,(execOp (ev N σ) ⟨some d,o,ty,pos,af,none⟩).run P w= .ok (.value v) w)→W fuel (listed.setIfInBounds i true) (aU σ d v)→W (fuel+1) listed σ)
 (M:g=true→∀ {i d o ty pos af v fuel listed σ j want t},ops[i]? =some ⟨some d,o,ty,pos,af,some (j,want)⟩→fr listed i=true→dN ops j=some t→aD t N.n=true→σ t= .bool want→(∀ w,(execOp (ev N σ) ⟨some d,o,ty,pos,af,some (j,want)⟩).run P w= .ok (.value v) w)→W fuel (listed.setIfInBounds i true) (aU σ d v)→W (fuel+1) listed σ)
 (V:g=true→∀ {i d o ty pos af fuel listed σ j want t b},ops[i]? =some ⟨some d,o,ty,pos,af,some (j,want)⟩→fr listed i=true→dN ops j=some t→aD t N.n=true→σ t= .bool b→(b==want)=false→W fuel (listed.setIfInBounds i true) (aU σ d undef)→W (fuel+1) listed σ)
 (Z:g=true→∀ {i d o ty pos af fuel listed σ j want t},ops[i]? =some ⟨some d,o,ty,pos,af,some (j,want)⟩→fr listed i=true→dN ops j=some t→aD t N.n=true→σ t=undef→W fuel (listed.setIfInBounds i true) (aU σ d undef)→W (fuel+1) listed σ):
 ∀ (is:List Nat) (fuel:Nat) (listed:Array Bool) (σ:Nat→ag) (c:Option Prop),kU T N g ops is fuel listed σ c= .at fuel' listed' σ' c'→ky fr is listed=true→optG c'→W fuel' listed' σ'→optG c∧W fuel listed σ
 | [],fuel,listed,σ,c,h,_,C,E=>by cases h; exact ⟨C,E⟩
 | i::is,0,listed,σ,c,h,_,C,E=>by cases h
 | i::is,fuel+1,listed,σ,c,h,hf,C,E=>by
   simp only [ky,a0] at hf;simp only [kU] at h;split at h
   · rename_i aa c2 A;obtain ⟨C,E⟩:=tc hT W H1 M V Z is fuel _ _ _ h hf.2 C E;unfold CO at A;split at A
     · rename_i d o ty pos af hi;have bQ:=fun w=>sI hT (N:=N) (σ:=σ) (some d) o ty pos af none w;split at A
       · rename_i x I;rw [I] at bQ; cases A;exact ⟨C,H1 hi hf.1 bQ E⟩
       · rename_i x q I;rw [I] at bQ; cases A;obtain ⟨O,U⟩:=rG C;exact ⟨U,H1 hi hf.1 (fun w=>bQ w O) E⟩
       · cases A
     · rename_i d o ty pos af j want hi;have bQ:=fun w=>sI hT (N:=N) (σ:=σ) (some d) o ty pos af (some (j,want)) w;cases hg:g
       · rw [hg] at A; cases A
       · rw [hg] at A;simp only [cond_true] at A;split at A
         · rename_i t L;cases hb:aD t N.n
           · rw [hb] at A; cases A
           · rw [hb] at A;simp only [cond_true] at A;split at A
             · rename_i b J;cases hw:(b==want)
               · rw [hw] at A; cases A;exact ⟨C,V hg hi hf.1 L hb J hw E⟩
               · rw [hw] at A;simp only [cond_true] at A;obtain rfl :b=want:=by simpa using hw
                 split at A
                 · rename_i x I;rw [I] at bQ; cases A;exact ⟨C,M hg hi hf.1 L hb J bQ E⟩
                 · rename_i x q I;rw [I] at bQ; cases A;obtain ⟨O,U⟩:=rG C;exact ⟨U,M hg hi hf.1 L hb J (fun w=>bQ w O) E⟩
                 · cases A
             · rename_i J;cases A;exact ⟨C,Z hg hi hf.1 L hb J E⟩
             · cases A
         · cases A
     · cases A
   · cases h
variable {Q:bp→(Nat→ag)→ah→Prop} {S:ah→Prop} {r fuel:Nat} {listed:Array Bool} {σ:Nat→ag}
theorem Ho (hT:jd P 0 T=true) (is:List Nat) (h:kU T N true ops is fuel listed σ none= .at fuel' listed' σ' c') (J:S w) (k:bY P N ops Q S fuel' listed' σ' w) (M:optG c') (A:ky (eo N.F ops) is listed=true):bY P N ops Q S fuel listed σ w:=
 (tc hT (fun fuel listed σ=>bY P N ops Q S fuel listed σ w) (fun hi A L k=>hp _ hi A (fun w _=>L w) J k) (fun _=>fun hi A C E I L k=>bX _ hi A C E I (fun w _=>L w) J k) (fun _=>fun hi A C E I hb k=>AE _ hi A C E I hb J k) (fun _=>fun hi A C E I k=>HA _ hi A C E I J k) is fuel listed σ none h A M k).2
theorem Hr (hT:jd P 0 T=true) (is:List Nat) (h:kU T N false ops is fuel listed σ none= .at fuel' listed' σ' c') (C:S w) (k:cx P N ops Q S r fuel' listed' σ' w) (E:optG c') (A:ky (fun l i=>ou N.F ops l r i) is listed=true):cx P N ops Q S r fuel listed σ w:=
 (tc (g:=false) hT (fun fuel listed σ=>cx P N ops Q S r fuel listed σ w) (fun hi A I k=>lq _ hi A (fun w _=>I w) C k) (fun h=>dn h) (fun h=>dn h) (fun h=>dn h) is fuel listed σ none h A E k).2
theorem Hq (hT:jd P 0 T=true) (is:List Nat) (h:kU T N false ops is fuel listed σ none= .at fuel' listed' σ' c') (C:S w) (k:cx P N ops Q S r fuel' listed' σ' w) (E:optG c') (A:ky (fun l i=>mO N.F ops l r i) is listed=true):cx P N ops Q S r fuel listed σ w:=
 (tc (g:=false) hT (fun fuel listed σ=>cx P N ops Q S r fuel listed σ w) (fun hi A I k=>qn _ hi A I (fun _=>C) k) (fun h=>dn h) (fun h=>dn h) (fun h=>dn h) is fuel listed σ none h A E k).2
end
def uF (P:au) (f:dT):Bool:=match P.funcs[f]? with
 | some fn=> !(fn.name== "runtime.NumGoroutine") && !fn.body.isNone
 | none=>false
theorem FI {P:au} {f:dT} (h:uF P f=true):gr P f:=by
 unfold uF at h;split at h
 · simp only [a0,ki] at h;exact uG (by assumption) h.1 h.2
 · cases h
section
variable {P:au} {N:Fm} {σ:Nat→ag} {w:ah} {dst:Option Nat} {ty:av} {pos :String} {af:Array bT} {g:Option (Nat×Bool)} {x y z:aW} {K:(Nat→ag)→ah→Prop}
theorem bg {f:dT} {args:Array aW} {A:Array av} {L:List ag} {R:ag→ah→Prop} (hr:bj P f L.toArray w R) (C:args.toList.map (ev N σ)=L)
 (k:∀ v w',R v w'→K (dv σ dst v) w') (E:uF P f=true :=by kernel_rfl):bZ P N ⟨dst,.call ⟨.value (.func f),args,A⟩,ty,pos,af,g⟩ σ w K:=cl (FI E) hr C k
theorem aw {t b off :Nat} {v:ag} (C:ev N σ x= .pointer (some ⟨b,off,none⟩)) (A:ay w.heap b off =some v) (hu:da P t=some none:=by kernel_rfl):
 (execOp (ev N σ) ⟨dst,.load t x,ty,pos,af,g⟩).run P w= .ok (.value v) w:=ld hu C A
theorem bF (n:Nat) {t E:av} {a b:Int} (A:ev N σ x= .int .i64 a:=by exact U) (C:ev N σ y= .int .i64 b:=by exact U) (h:a+b=(n:Int)∧n≤9223372036854775807:=by omega):
 (execOp (ev N σ) ⟨dst,.binOp .add t x y E,ty,pos,af,g⟩).run P w= .ok (.value<|.int .i64 (n:Int)) w:=uw (n:Int) A C<|xP h.1 h.2
theorem kV (n:Nat) {t E:av} {a b:Int} (A:ev N σ x= .int .i64 a:=by exact U) (C:ev N σ y= .int .i64 b:=by exact U) (h:a - b=(n:Int)∧n≤9223372036854775807:=by omega):
 (execOp (ev N σ) ⟨dst,.binOp .sub t x y E,ty,pos,af,g⟩).run P w= .ok (.value<|.int .i64 (n:Int)) w:=xd (n:Int) A C<|xP h.1 h.2
variable {ops:Array aB} {Q:bp→(Nat→ag)→ah→Prop} {S:ah→Prop} {r fuel d t b off :Nat} {listed:Array Bool} {v:ag} {W:ah} {l:List aB} {id:Nat}
theorem di (i:Nat) (h:(ops[i]?,ev N σ x)=(some ⟨some d,.load t x,ty,pos,af,none⟩,.pointer (some ⟨b,off,none⟩))) (A:Wk W w) (C:ay W.heap b off =some v) (k:bY P N ops Q (fun w'=>Wk W w') fuel (listed.setIfInBounds i true) (aU σ d v) w)
 (E:eo N.F ops listed i=true :=by kernel_rfl) (hu:da P t=some none:=by kernel_rfl):bY P N ops Q (fun w'=>Wk W w') (fuel+1) listed σ w:=hp i (congrArg fL h) E (fun _ hw=>ld hu (congrArg Prod.snd h)<|hw.ay C) A k
theorem jJ (i:Nat) (h:(ops[i]?,ev N σ x)=(some ⟨some d,.load t x,ty,pos,af,none⟩,.pointer (some ⟨b,off,none⟩))) (A:Wk W w) (C:ay W.heap b off =some v) (k:cx P N ops Q (fun w'=>Wk W w') r fuel (listed.setIfInBounds i true) (aU σ d v) w)
 (E:ou N.F ops listed r i=true :=by kernel_rfl) (hu:da P t=some none:=by kernel_rfl):cx P N ops Q (fun w'=>Wk W w') r (fuel+1) listed σ w:=lq i (congrArg fL h) E (fun _ hw=>ld hu (congrArg Prod.snd h)<|hw.ay C) A k
theorem fU (h:Wk w w.drew→bY P N l.toArray Q (fun w'=>Wk w w') l.length (nE l.length false) σ w.drew) (hr:j6 N.r l=true :=by exact U) (hm:P.follows .mixedOrders=true :=by kernel_rfl):bA P N (.region id l.toArray true) Q σ w:=bo _ hr hm (Md.refl _ _).drew<|h (Md.refl _ _).drew
theorem sx (r:Nat) (h:Wk w w.drew→cx P N l.toArray Q (fun w'=>Wk w w') r l.length (nE l.length false) σ w.drew) (hr:j6 N.r l=true :=by exact U) (hm:P.follows .mixedOrders=true :=by kernel_rfl):bA P N (.region id l.toArray true) Q σ w:=oB _ r hr hm (Md.refl _ _).drew<|h (Md.refl _ _).drew
end
end Go.Hb
end
section
namespace Go.Hb
open Go.ChangeShapes Go.WideShapes Go.ChangeAt
theorem Wk.frame {w w':ah} (h:Wk w w') (may:MemPlace→Prop):w.keptBut w' may:=by
 refine ⟨h.os,h.output,fun i hi=> ?_⟩;rw [h.dH i hi id];split <;> simp_all
theorem Wk.same {w w':ah} (h:Wk w w') {p:MemPlace} (hp:p.block < w.heap.size):w.sameAt w' p:=by
 cases p with
 | cell b o=>exact World.cell?_of_block (w:=w)<|h.dH b hp id
 | map b=>exact h.dH b hp id
section
variable {H:Type} {enc:av×ag→H} {P:au} {W W':ah}
theorem C0 (J:laidOutB P=true) (I:Wk W W'):∀ (C:List av) (vs:List ag) (E:List (DataW H)) (ps:List MemPlace),C.all (fun t=>P.readableRec t && decide (t < P.types.size))=true→(∀ x∈ps,x.block < W.heap.size)→
 DQ enc P W 0 (fun _=>true) true C vs E ps→DQ enc P W' 0 (fun b=>decide (b < W.heap.size)) true C vs E ps
 | [],[],[],_,_,_,h=>h
 | t::C,v::vs,d::E,_,hp,hlt,⟨p,q,h1,h2,he⟩=>by
   subst he;rw [nR,a0,a0] at hp;exact ⟨p,q,WideElems.Trod_stays J hp.1.1 (of_decide_eq_true hp.1.2) h1 (fun x A=>I.same<|hlt x<|pB _ A) (fun x A=>decide_eq_true<|hlt x<|pB _ A),
    C0 J I C vs E q hp.2 (fun x A=>hlt x<|List.mem_append_right _ A) h2,rfl⟩
 | [],_::_,_,_,_,_,h=>h.elim
 | [],[],_::_,_,_,_,h=>h.elim
 | _::_,[],_,_,_,_,h=>h.elim
 | _::_,_::_,[],_,_,_,h=>h.elim
theorem Jj {f:dT} {fn:fH} {s:ChangeSpec} {args:Array ag} {A gs:List (DataW H)} {before:List MemPlace} {O:av} (I:DataW.Whole enc P fn.params.toList s.vars false W args.toList A gs before) (M:s.vars= [])
 (C:s.fn H (A++gs)= {results:= [.lit (.bool true)],args:=A}) (hr:fn.resultTypes= #[O]) (hb:P.underlying O=some .bool) (V:laidOutB P=true) (hp:fn.params.toList.all (fun t=>P.readableRec t && decide (t < P.types.size))=true)
 (h:bj P f args W (fun v w'=>v= .bool true∧Wk W w')):Calls P f args W fun e W'=> ∃ v,e= .returned v∧s.post enc P fn false true false false W args v W':=by
 refine kj h fun e W' ⟨v,he,aa,L⟩=>⟨v,he,?_⟩
 subst aa;have J:=I;obtain ⟨p,q,U,E,rfl,_,_⟩:=I;rw [M] at E;obtain ⟨rfl,rfl⟩:=trodVars_none E;have Z:∀ x∈p,x.block < W.heap.size:=fun x ab=>J.lt x<|by simpa using ab
 refine ⟨_,_,_,[],p,[],J,?_,?_,?_,L.frame _,fun h=>by cases h⟩
 · rw [C,hr];exact trodAll_cons_mk (shut_bool hb _) trodAll_mk0
 · rw [C];exact C0 V L _ _ _ _ hp Z U
 · rw [C,M]; rfl
end
end Go.Hb
namespace Go.Hb
open Go.Proofs.YtiagknaekaknhaaGreatDoor
theorem Fs {H:Type} {l:List (DataW H)} (A:Rows.uptoSmall H l=true):Rows.uptoBulkAll l≤1048576:=of_decide_eq_true A
end Go.Hb
namespace Go.Hb
open Go.Proofs.YtiagknaekaknhaaGreatDoor Go.ChangeShapes Go.WideShapes Go.ChangeAt
structure ER (P:au) (t:av) (m:Nat) {X:Type} (R:ah→List ag→X→Prop) (B:X→Nat):Prop where
 cells:P.cellsOf t=m
 op:∀ {H:Type} (enc:av×ag→H) (W:ah) (fuel:Nat) (cs:List ag) (d:DataW H) (p:List MemPlace),DataW.trod enc P W 0 (fun _=>true) true fuel t cs=some (d,p)→cs.length=m∧∃ x,R W cs x∧B x≤Rows.uptoBulk d
section
variable {P:au} {t t0 t1 e:av} {m m0 m1:Nat} {X X0 X1:Type} {R:ah→List ag→X→Prop} {B:X→Nat} {R0:ah→List ag→X0→Prop} {B0:X0→Nat} {R1:ah→List ag→X1→Prop} {B1:X1→Nat}
theorem BI (C:P.underlying t=some .string) (A:P.cellsOf t=1):ER P t 1 (fun _ cs (x:List UInt8)=>cs= [str x]) (fun x=>x.length+1) where
 cells:=A
 op enc W fuel cs d p h:=by
  obtain ⟨s,rfl,E,hw⟩:=DataW.trod_string C h;cases E;exact ⟨U,s.data.toList,U,by simp [Rows.uptoBulk]⟩
end
end Go.Hb
end
section
namespace Go.Hb
open Go.Proofs
def gB:List (List TD):= [
 [.no,.no,.no,.no,.no,.no,.no,.st [0,1,2,3],.st [0,1,2,3],.str,.str,.str,.no,.st [0,1],.st [0,1],.no],
 [.no,.no,.st [0],.st [0],.no,.no,.no,.dj 100 2,.dj 143 2,.no,.st [0,1,2,3],.st [0,1,2,3],.no,.no,.no,.dj 9 1],
 [.no,.no,.no,.no,.no,.no,.no,.no,.dj 77 2,.dj 81 2,.no,.st [0,1,2,3],.st [0,1,2,3],.no,.no,.dj 3 1],
 [.no,.no,.no,.no,.no,.no,.no,.no,.no,.no,.no,.st [0,1,2,3,4],.st [0,1,2,3,4],.dj 64 1,.no,.no],
 [.dj 4 1,.no,.no,.dj 47 1,.st [0,1,2],.st [0,1,2],.no,.no,.no,.st [0,7],.st [0,7],.no,.st [0,1],.st [0,1],.no,.dj 84 2],
 [.st [0,1],.st [0,1],.no,.st [0,1],.st [0,1],.no,.no,.no,.no,.no,.no,.no,.no,.no,.no,.st [0,1,2]],
 [.st [0,1,2],.no,.no,.no,.st [0,1],.no,.no,.no,.st [0,1,2],.st [0,1,2],.no,.no,.no,.st [0,1,2],.no,.no],
 [.st [0],.st [0],.no,.no,.no,.no,.no,.dj 188 1,.dj 186 5,.dj 192 7,.st [0,1,2,3,8,9,10,11,12],.st [0,1,2,3,8,9,10,11,12],.no,.no,.no,.dj 262 2],
 [.st [0,1,2,15],.st [0,1,2,15],.no,.no,.no,.st [0,1,6],.st [0,1,6],.no,.no,.no,.no,.no,.no,.dj 167 2,.st [0,1],.st [0,1]],
 [.no,.no,.no,.no,.no,.no,.dj 5 1,.st [0,1,2,3],.st [0,1,2,3],.no,.no,.st [0,1],.st [0,1],.no,.no,.no],
 [.no,.no,.no,.no,.no,.no,.no,.st [0,1],.no,.no,.no,.no,.no,.no,.no,.no],
 [.no,.no,.no,.st [0,1,2,3,4],.st [0,1,2,3,4],.no,.st [0,13],.st [0,13],.no,.st [0,1,2,3,4],.st [0,1,2,3,4],.no,.dj 117 1,.no,.no,.st [0,1,2,3,4,5,6]],
 [.st [0,1,2,3,4,5,6],.no,.st [0,1,2,3,4,5],.st [0,1,2,3,4,5],.no,.no,.st [0],.st [0],.no,.st [0,1],.st [0,1],.dj 202 2,.no,.no,.no,.no],
 [.no,.no,.no,.no,.no,.st [0,1],.st [0,1],.no,.no,.no,.no,.no,.no,.no,.no,.no],
 [.no,.st [0,1,2],.st [0,1,2],.no,.no,.no,.no,.no,.no,.no,.st [0,1,2],.st [0,1,2],.no,.dj 257 2,.no,.no],
 [.no,.no,.no,.st [0,1,2,3,4,5,6],.st [0,1,2,3,4,5,6],.no,.no,.no,.no,.no,.st [0,1],.st [0,1],.no,.no,.no,.no],
 [.st [0,1],.st [0,1],.no,.st [0,1],.st [0,1],.st [0,1],.st [0,1],.no,.no,.no,.no,.no,.no,.no,.no,.no],
 [.no,.no,.no,.no,.no,.no,.no,.no,.no,.no,.no,.no,.no,.no,.no,.no],
 [.no,.no,.no,.no,.no,.st [0,1,2],.st [0,1,2],.no,.no,.no,.no,.no,.no,.no,.no,.no],
 [.no,.no,.no,.no,.no,.no,.no,.no,.no,.no,.no,.no,.dj 117 1,.no,.no,.no],
 [.st [0,1,2,3,4,5],.st [0,1,2,3,4,5],.no,.no,.no,.st [0,1,2,3,4],.st [0,1,2,3,4],.no,.no,.no,.no,.no,.no,.no,.no,.no],
 [.no,.no,.no,.no,.no,.no,.no,.dj 341 1,.no,.st [0,1,2,3,4,5,6],.st [0,1,2,3,4,5,6],.no,.st [0],.st [0],.no,.no],
 [.no,.no,.no,.no,.dj 52 1,.no,.no,.no,.no,.no,.no,.no,.no,.no,.no,.no],
 [.no,.no,.no,.no,.no,.no,.no,.no,.no,.no,.no,.no,.no,.no,.no,.no],
 [.no,.no,.no,.no,.no,.no,.no,.no,.no,.st [0,1,2,3,4,5,6],.st [0,1,2,3,4,5,6],.no,.no,.dj 402 2,.st [0,1,2],.st [0,1,2]],
 [.no,.st [0,1],.st [0,1],.st [0,1],.st [0,1],.no,.no,.no,.no,.no,.no,.dj 436 4,.st [0],.st [0],.no,.no],
 [.no,.no,.no,.no,.no,.no,.no,.no,.no,.st [0,1,2,3,4],.st [0,1,2,3,4],.no,.no,.st [0,1],.st [0,1],.no],
 [.dj 199 1,.no,.no,.no,.no,.no,.no,.no,.no,.no,.no,.no,.no,.no,.no,.no],
 [.no,.no,.no,.no,.no,.no,.no,.no,.no,.no,.no,.no,.no,.st [0],.st [0],.no],
 [.no,.no,.no,.no,.no,.no,.no,.no,.no,.no,.no,.no,.no,.no,.no,.no],
 [.no,.no,.no,.no,.no,.no,.no,.no,.no,.no,.no,.no,.no,.no,.no,.no],
 [.dj 462 1,.dj 501 2,.st [0,1,2],.st [0,1,2],.st [0,1],.st [0,1],.no,.no,.no,.no,.no,.no,.no,.no,.no,.no],
 [.no,.no,.no,.no,.no,.no,.no,.no,.no,.st [0,1],.st [0,1],.no,.no,.st [0,1,2,3],.st [0,1,2,3],.no],
 [.no,.no,.no,.no,.no,.no,.no,.st [0,1,2,3,4,5,6,7,8,9,10],.st [0,1,2,3,4,5,6,7,8,9,10],.no,.no,.st [0,1],.st [0,1],.st [0],.st [0],.no],
 [.no,.st [0,1,2,3,4],.st [0,1,2,3,4],.dj 550 4,.no,.st [0,1,2,3],.st [0,1,2,3],.no,.no]]
theorem gO:jd ar 0 gB=true :=ai
section
variable {N:Fm} {Q:bp→(Nat→ag)→ah→Prop} {w:ah} {σ σ':Nat→ag} {p':Pt} {st st':List Kn} {c':Option Prop}
theorem cj {x:bL} {A:bL} (n:Nat) (h:gL gB N n (.c x) [] σ none= .at (.c A) st' σ' c') (k:bA ar N A (eh ar N st' Q) σ' w) (C:optG c':=by first | exact trivial | (simp only [optG,andG]; omega)):bA ar N x Q σ w:=(iD gO n _ _ _ _ h C k).2
theorem aR {x:bL} {C:Array aB} {A:List aB} (n:Nat) (h:gL gB N n (.c x) [] σ none= .at (.l C A) st' σ' c') (k:bS ar N C (eh ar N st' Q) A σ' w) (E:optG c':=by first | exact trivial | (simp only [optG,andG]; omega)):bA ar N x Q σ w:=(iD gO n _ _ _ _ h E k).2
theorem iV {x:bL} {e':bp} (n:Nat) (h:gL gB N n (.c x) [] σ none= .at (.x e') [] σ' c') (k:Q e' σ' w) (A:optG c':=by first | exact trivial | (simp only [optG,andG]; omega)):bA ar N x Q σ w:=(iD gO n _ _ _ _ h A k).2
theorem bW {x:bL} {A:bL} (n:Nat) (h:gL gB N n (.c x) st σ none= .at (.c A) st' σ' c') (k:bA ar N A (eh ar N st' Q) σ' w) (C:optG c':=by first | exact trivial | (simp only [optG,andG]; omega)):bA ar N x (eh ar N st Q) σ w:=(iD gO n _ _ _ _ h C k).2
theorem aG {x:bL} {C:Array aB} {A:List aB} (n:Nat) (h:gL gB N n (.c x) st σ none= .at (.l C A) st' σ' c') (k:bS ar N C (eh ar N st' Q) A σ' w) (E:optG c':=by first | exact trivial | (simp only [optG,andG]; omega)):bA ar N x (eh ar N st Q) σ w:=(iD gO n _ _ _ _ h E k).2
theorem aH {x:bL} {e':bp} (n:Nat) (h:gL gB N n (.c x) st σ none= .at (.x e') [] σ' c') (k:Q e' σ' w) (A:optG c':=by first | exact trivial | (simp only [optG,andG]; omega)):bA ar N x (eh ar N st Q) σ w:=(iD gO n _ _ _ _ h A k).2
theorem aJ {ops:Array aB} {l:List aB} {A:bL} (n:Nat) (h:gL gB N n (.l ops l) st σ none= .at (.c A) st' σ' c') (k:bA ar N A (eh ar N st' Q) σ' w) (C:optG c':=by first | exact trivial | (simp only [optG,andG]; omega)):bS ar N ops (eh ar N st Q) l σ w:=(iD gO n _ _ _ _ h C k).2
theorem aj {ops:Array aB} {l:List aB} {C:Array aB} {A:List aB} (n:Nat) (h:gL gB N n (.l ops l) st σ none= .at (.l C A) st' σ' c') (k:bS ar N C (eh ar N st' Q) A σ' w) (E:optG c':=by first | exact trivial | (simp only [optG,andG]; omega)):bS ar N ops (eh ar N st Q) l σ w:=(iD gO n _ _ _ _ h E k).2
theorem ax {ops:Array aB} {l:List aB} {e':bp} (n:Nat) (h:gL gB N n (.l ops l) st σ none= .at (.x e') [] σ' c') (k:Q e' σ' w) (A:optG c':=by first | exact trivial | (simp only [optG,andG]; omega)):bS ar N ops (eh ar N st Q) l σ w:=(iD gO n _ _ _ _ h A k).2
theorem dh {e:bp} {A:bL} (n:Nat) (h:gL gB N n (.x e) st σ none= .at (.c A) st' σ' c') (k:bA ar N A (eh ar N st' Q) σ' w) (C:optG c':=by first | exact trivial | (simp only [optG,andG]; omega)):eh ar N st Q e σ w:=(iD gO n _ _ _ _ h C k).2
theorem eY {e:bp} {C:Array aB} {A:List aB} (n:Nat) (h:gL gB N n (.x e) st σ none= .at (.l C A) st' σ' c') (k:bS ar N C (eh ar N st' Q) A σ' w) (E:optG c':=by first | exact trivial | (simp only [optG,andG]; omega)):eh ar N st Q e σ w:=(iD gO n _ _ _ _ h E k).2
theorem bl {e:bp} {e':bp} (n:Nat) (h:gL gB N n (.x e) st σ none= .at (.x e') [] σ' c') (k:Q e' σ' w) (A:optG c':=by first | exact trivial | (simp only [optG,andG]; omega)):eh ar N st Q e σ w:=(iD gO n _ _ _ _ h A k).2
variable {ops:Array aB} {S:ah→Prop} {r fuel fuel':Nat} {listed listed':Array Bool}
theorem aF (is:List Nat) (h:kU gB N true ops is fuel listed σ none= .at fuel' listed' σ' c') (A:S w) (k:bY ar N ops Q S fuel' listed' σ' w) (C:optG c':=by first | exact trivial | (simp only [optG,andG]; omega)) (E:ky (eo N.F ops) is listed=true :=by kernel_rfl):bY ar N ops Q S fuel listed σ w:=Ho gO is h A k C E
theorem gu (is:List Nat) (h:kU gB N false ops is fuel listed σ none= .at fuel' listed' σ' c') (A:S w) (k:cx ar N ops Q S r fuel' listed' σ' w) (C:optG c':=by first | exact trivial | (simp only [optG,andG]; omega)) (E:ky (fun l i=>ou N.F ops l r i) is listed=true :=by kernel_rfl):cx ar N ops Q S r fuel listed σ w:=Hr gO is h A k C E
theorem qc (is:List Nat) (h:kU gB N false ops is fuel listed σ none= .at fuel' listed' σ' c') (A:S w) (k:cx ar N ops Q S r fuel' listed' σ' w) (C:optG c':=by first | exact trivial | (simp only [optG,andG]; omega)) (E:ky (fun l i=>mO N.F ops l r i) is listed=true :=by kernel_rfl):cx ar N ops Q S r fuel listed σ w:=Hq gO is h A k C E
end
end Go.Hb
end
namespace Go.Hb
theorem drop_cons {α:Type} {l:List α} {i:Nat} (d:α) (h:i < l.length):l.drop i=l.getD i d::l.drop (i+1):=by simp_all
def kH (c:UInt8) (l:List UInt8):Int:=if l.idxOf c < l.length then (l.idxOf c:Int) else -1
theorem K0 {h:Array Obj} {a:Option bR} {l:List UInt8} {i:Nat} (A:aX h a (U8 l)) (hi:i < l.length):Hb.ay h (bk a) (fo a+i*1)=some (.int .u8 (l.getD i 0).toNat):=by
 refine A.uA ?_;unfold U8;rw [fq,bG hi,b9,bG hi]; rfl
theorem K3 {l:List UInt8} (h:0 < l.length):U8 l≠[]:=by
 intro e;have :=congrArg List.length e;rw [rA,List.length_nil] at this;omega
theorem BK {w:ah} {B e:Nat} {v:ag} {l:List UInt8} {x:UInt8} (h:w.ownsRow B e 1 v (l.length+1) (U8 l++ [.int .u8 x.toNat])):w.ownsRow B e 1 v (l++ [x]).length (U8<|l++ [x]):=by
 rw [cz,yH]; exact h
def Tg (w:ah) (B e n:Nat) (v:ag) (xs:List ag):Prop :=
 ∃ a A,v= .slice a n A∧n≤A∧(xs= []∨∃ b cur z,a=some ⟨b,0,none⟩∧B≤b∧w.heap[b]? =some (.cells cur e z)∧∀ (j:Nat) u,xs[j]? =some u→cur[j]? =some u)
theorem Tg.oF {w:ah} {B e size n:Nat} {v:ag} {xs:List ag} (h:w.ownsRow B e size v n xs):Tg w B e n v xs:=by
 have h0:=h;rcases h.2 with ⟨rfl,rfl⟩ | ⟨g,cap,cur,rfl,hb,A,_,_,_,C⟩
 · exact ⟨none,0,U,aQ _,.inl<|lz<|by simpa using h.1⟩
 · refine ⟨_,cap,U,(bB h0).1,.inr ⟨g,cur,_,U,hb,A,fun j u hu=> ?_⟩⟩;rw [← C,iL] at hu;split at hu
   · simpa using hu
   · cases hu
theorem Tg.cells {w:ah} {B e n:Nat} {v:ag} {xs:List ag} (h:Tg w B e n v xs):∃ a A,v= .slice a n A∧aX w.heap a xs:=by
 obtain ⟨a,A,rfl,_,h | ⟨b,cur,z,rfl,_,C,E⟩⟩:=h
 · subst h; exact ⟨a,A,rfl,aX.nil _ _⟩
 · refine ⟨_,A,U,fun _=>rfl,fun j u hu=> ?_⟩;show Hb.ay w.heap b (0 +j)=_;rw [cM,bh C]; exact E j u hu
theorem Tg.pO {w:ah} {B e n A:Nat} {a:Option bR} {xs:List ag} (h:Tg w B e n (.slice a n A) xs):n≤A∧aX w.heap a xs:=by
 obtain ⟨L,c',E,C,O⟩:=id h;obtain ⟨M,c2,I,J⟩:=h.cells;cases E; cases I;exact ⟨C,J⟩
theorem Tg.slice {w:ah} {B e n:Nat} {v:ag} {xs:List ag} (h:Tg w B e n v xs):∃ a A,v= .slice a n A:=let ⟨a,A,hv,_⟩:=h; ⟨a,A,hv⟩
theorem Tg.md {F:Nat→Prop} {w w':ah} {B e n:Nat} {v:ag} {xs:List ag} (h:Tg w B e n v xs) (hm:Md F w w') (I:∀ k,F k→∀ cur z,w.heap[k]?≠some (.cells cur e z)):Tg w' B e n v xs:=by
 obtain ⟨a,C,rfl,E,h | ⟨b,cur,z,rfl,hb,A,L⟩⟩:=h
 · exact ⟨a,C,U,E,.inl h⟩
 · exact ⟨_,C,U,E,.inr ⟨b,cur,z,U,hb,by rw [hm.dH b (dm.1 A).1 (fun J=>I b J cur z A)]; exact A,L⟩⟩
theorem Tg.wk {w w':ah} {B e n:Nat} {v:ag} {xs:List ag} (h:Tg w B e n v xs) (hm:Wk w w'):Tg w' B e n v xs:=h.md hm fun _ A=>A.elim
theorem gy {w:ah} {B e e' size n:Nat} {v:ag} {xs:List ag} (h:w.ownsRow B e size v n xs) (I:e≠e'):∀ k,v.ownBlock=some k→∀ cur z,w.heap[k]?≠some (.cells cur e' z):=by
 intro k C cur z A;rcases h.2 with ⟨rfl,_⟩ | ⟨g,cap,J,rfl,_,E,_⟩
 · simp [gj] at C
 · simp only [gj,bM] at C;subst C;rw [E] at A;simp only [bM,D3] at A;exact I A.2.1
theorem Tg.mono {w:ah} {B B' e n:Nat} {v:ag} {xs:List ag} (h:Tg w B e n v xs) (A:B'≤B):Tg w B' e n v xs:=by grind [Tg]
def fj (b:UInt8):Bool:=decide (33≤b.toNat∧b.toNat≠127)
def fQ (w:List UInt8):Bool:=w.all fj
def nf (w:List UInt8):Bool:=decide (1≤w.length∧w.length≤64∧fQ w=true)
theorem jY {α:Type} {l:List α} {i:Nat} {d:α} (h:i < l.length):l.getD i d∈l:=by
 rw [b9,bG h]; exact List.getElem_mem h
theorem IF {α:Type} {l:List α} {x:α} (d:α) (h:x∈l):∃ i,i < l.length∧l.getD i d=x:=by
 obtain ⟨i,hi,rfl⟩:=List.mem_iff_getElem.1 h;exact ⟨i,hi,by rw [b9,bG hi]; rfl⟩
theorem yN {α:Type} {f:α→Bool} {l:List α} {i:Nat} (d:α) (h:i < l.length) (h1:f (l.getD i d)=false):l.all f=false :=by
 rw [List.all_eq_false]; exact ⟨_,jY h,by rw [h1]; exact dn⟩
theorem yO {α:Type} {f:α→Bool} {l:List α} (d:α) (h:∀ i,i < l.length→f (l.getD i d)=true):l.all f=true :=by
 rw [Ed]; intro x A; obtain ⟨i,hi,rfl⟩:=IF d A; exact h i hi
theorem pN {w:List UInt8} {i:Nat} (h:i < w.length) (h1:fj (w.getD i 0)=false):fQ w=false :=yN 0 h h1
theorem rJ {w:List UInt8} (h:∀ i,i < w.length→fj (w.getD i 0)=true):fQ w=true :=yO 0 h
def lets (s:List UInt8):List UInt8:=s.foldl (fun a b=>if b∈a then a else a++ [b]) []
def letE (s:List UInt8):List UInt8×Nat:=if s= []∨fQ s=false then ([],21) else (lets s,0)
theorem lU {s:List UInt8} {i:Nat} (h:i < s.length):lets (s.take<|i+1)=if s.getD i 0∈lets (s.take i) then lets (s.take i) else lets (s.take i)++ [s.getD i 0]:=by
 unfold lets;rw [CV s i 0 h,List.foldl_append]; rfl
theorem vS (s:List UInt8):(lets s).length≤s.length:=by
 have key:∀ (s a:List UInt8),(s.foldl (fun a b=>if b∈a then a else a++ [b]) a).length≤a.length+s.length:=by
  intro s
  induction s with
  | nil=>intro a; simp
  | cons b s ih=>
    intro a;rw [jg,dP];split
    · have :=ih a; omega
    · have :=ih (a++ [b]); rw [cz,px] at this; omega
 have :=key s [];simpa [lets] using this
def marksOf (a:List UInt8):List ag:=(ml 256).map fun k=> .bool<|decide (eR k∈a)
theorem Bk (a:List UInt8):(marksOf a).length=256:=by simp [marksOf]
theorem Iy (a:List UInt8) (b:UInt8):(marksOf a)[b.toNat]? =some (.bool<|decide (b∈a)):=by
 have :=ks b;unfold marksOf;rw [fq,re ab];simp
theorem IA (a:List UInt8) (b:UInt8):(marksOf a).set b.toNat (.bool true)=marksOf (a++ [b]):=by
 apply pq;intro k;rw [List.getElem?_set,Bk];unfold marksOf;rw [fq,fq];by_cases C:k < 256
 · rw [re C];simp only [fu];have he:(eR k=b)↔b.toNat=k:=by
    constructor
    · rintro rfl; simp; omega
    · rintro rfl; simp
   by_cases h:b.toNat=k
   · have A:=he.2 h;simp [h,C,A]
   · have A:¬eR k=b:=fun e=>h<|he.1 e;simp [h,A]
 · have :(ml 256)[k]? =none:=gF<|by simp; omega
   have hb:=ks b;rw [this];simp; omega
theorem Iz:marksOf []=cZ 256 (.bool false):=by
 unfold marksOf;apply pq;intro k;rw [fq,List.getElem?_replicate];by_cases A:k < 256
 · rw [re A]; simp [A]
 · rw [gF (by simp; omega)]; simp [A]
theorem Bd.new {T e b:Nat} {w:ah} (h:w.heap[b]? =some (.cells [tS none,.slice none 0 0].toArray T (0,0))):Bd T e w b (.slice none 0 0) []:=
 ⟨⟨none,h,.inl rfl⟩,ez _ _ _ _,by simp⟩
theorem Bd.step {T e b:Nat} {w0 w w':ah} {A:ag} {l:List UInt8} (h:Bd T e w b A l) (C:Wk w0 w) (E:Md (BF b A) w w') (hb:w0.heap.size≤b):Wk w0 w':=
 Md.trans' C E fun k J I=>by have :=h.sd I; omega
theorem Bd.KH {T e b:Nat} {w0 w w':ah} {A:ag} {l:List UInt8} (h:Bd T e w b A l) (C:Wk w0 w) (E:Md (fun k=>A.ownBlock=some k) w w') (hb:w0.heap.size≤b):Wk w0 w':=
 Md.trans' C E fun k J I=>by have :=h.sd (.inr I); omega
end Go.Hb
section
namespace Go.Hb
def ku (P:au) (t:av):Option (Nat×Nat):=
 match P.underlying t with
 | some (.array n e)=>(P.info? e).map fun i=>(n,i.size)
 | _=>none
section
variable {P:au} {N:Fm} {σ:Nat→ag} {w:ah} {dst:Option Nat} {ty:av} {pos :String} {af:Array bT} {g:Option (Nat×Bool)} {x y:aW}
theorem iW {t n A b off :Nat} {k:bu} {i:Int} (he:ku P t=some (n,A)) (C:ev N σ x= .pointer (some ⟨b,off,none⟩)) (E:ev N σ y= .int k i) (h0:0≤i∧i < n):
 (execOp (ev N σ) ⟨dst,.indexAddr t x y,ty,pos,af,g⟩).run P w= .ok (.value<|.pointer<|some ⟨b,off+i.toNat*A,none⟩) w:=by
 unfold ku at he;cases hd:P.underlying t with
 | none=>rw [hd] at he; cases he
 | some d=>
   rw [hd] at he;cases d <;> first | (cases he; done) | skip
   rename_i m e;cases hi:P.info? e with
   | none=>simp [hi] at he
   | some j=>
     simp only [hi,fu,bM,gT] at he;obtain ⟨rfl,rfl⟩:=he;simp [execOp,DT,nM,C,E,asIntOf,bt hd,h0.1,h0.2,sizeOf,de hi,fP]
end
theorem IB {h:Array Obj} {b:Nat} {a:List UInt8} (A:aC h b (marksOf a)) (c:UInt8):Hb.ay h b (0 +((c.toNat:Nat):Int).toNat*1)=some (.bool<|decide (c∈a)):=by
 rw [A.ay,show 0 +((c.toNat:Nat):Int).toNat*1=c.toNat from by omega]; exact Iy a c
theorem IC {h:Array Obj} {b:Nat} {a:List UInt8} {c:UInt8} (A:aC h b ((marksOf a).set (0 +((c.toNat:Nat):Int).toNat*1)<|.bool true)):aC h b (marksOf<|a++ [c]):=by
 rw [show 0 +((c.toNat:Nat):Int).toNat*1=c.toNat from by omega,IA] at A; exact A
end Go.Hb
end
section
namespace Go.Hb
section
variable {P:au} {N:Fm} {σ:Nat→ag} {w:ah} {fn:fH} {R:ag→ah→Prop}
theorem Iu {t b off :Nat} {v:ag} (hu:da P t=some none) (A:Hb.ay w.heap b off =some v):(loadVar t ⟨b,off,none⟩).run P w= .ok v w:=by
 have C:w.cell? ⟨b,off,none⟩=some v:=by rw [js]; exact A
 unfold da at hu;cases hd:P.underlying t with
 | none=>rw [hd] at hu; cases hu
 | some d=>
   rw [hd] at hu;cases d <;> first
    | (simp only [gG] at hu; obtain ⟨_,_,h⟩:=hu; cases h; done)
    | simp [loadVar,isAgg,bt hd,run_load,C]
theorem Iv {t n b off :Nat} {cs:List ag} (hu:da P t=some (some n)) (I:cs.length=n) (C:∀ j,j < n→Hb.ay w.heap b (off+j)=cs[j]?):(loadVar t ⟨b,off,none⟩).run P w= .ok (.agg cs.toArray) w:=by
 have E:(loadCells ⟨b,off,none⟩ n).run P w= .ok cs.toArray w:=by
  subst I;refine run_loadCells_list (P:=P) w ⟨b,off,none⟩ cs fun j v A=> ?_;rw [fP,js];exact (C j (cK.1 A).1).trans A
 unfold da at hu;cases hd:P.underlying t with
 | none=>rw [hd] at hu; cases hu
 | some d=>
   rw [hd] at hu;cases hi:P.info? t with
   | none=>simp [D5,hi] at hd
   | some i=>
     rw [hi] at hu;cases d <;> first
      | (cases hu; done)
      | (simp only [fu,bM] at hu; subst hu
         simp [loadVar,isAgg,bt hd,sizeOf,de hi,E])
def gU (P:au) (N:Fm) (σ:Nat→ag) (w:ah):ResultVar→ag→Prop
 | .tmp t,v=>ev N σ (.tmp t)=v
 | .cell a t,v=> ∃ ad,ev N σ (.tmp a)= .pointer (some ad)∧(loadVar t ad).run P w= .ok v w
theorem kT {t:Tmp} :gU P N σ w (.tmp t) (ev N σ<|.tmp t):=rfl
theorem ja {a t b off :Nat} {v:ag} (C:ev N σ (.tmp a)= .pointer (some ⟨b,off,none⟩)) (hu:da P t=some none) (A:Hb.ay w.heap b off =some v):gU P N σ w (.cell a t) v:=⟨_,C,Iu hu A⟩
theorem iC {a t n b off :Nat} {cs:List ag} (E:ev N σ (.tmp a)= .pointer (some ⟨b,off,none⟩)) (hu:da P t=some (some n)) (C:cs.length=n) (A:∀ j,j < n→Hb.ay w.heap b (off+j)=cs[j]?):gU P N σ w (.cell a t) (.agg cs.toArray):=⟨_,E,Iv hu C A⟩
def hZ (tmps:Array ag):ResultVar→Sem ag
 | .tmp t=>pure<|tmps.getD t undef
 | .cell a t=>do loadVar t (← asAddr (tmps.getD a undef))
theorem gA {r:ResultVar} {v:ag} (h:gU P N σ w r v):(hZ (act N σ).tmps r).run P w= .ok v w:=by
 cases r with
 | tmp t=>
   show ln P (pure<|(act N σ).tmps.getD t undef) w=_;rw [m9]; simp only [gU] at h; rw [h]; rfl
 | cell a t=>
   obtain ⟨ad,h1,A⟩:=h;show ln P (do loadVar t (← asAddr ((act N σ).tmps.getD a undef))) w=_;rw [m9,h1];simp [asAddr,A]
theorem B8 {tmps:Array ag} {r:ResultVar} {v:ag} (h:fn.results= #[r]) (h1:(hZ tmps r).run P w= .ok v w):(results fn tmps).run P w= .ok v w:=by
 have A:(results fn tmps)=(do let vs ← #[r].mapM (hZ tmps); pure (if h:vs.size=1 then vs[0] else .tuple vs)):=by
  unfold results; rw [h]; rfl
 rw [A]; simp [ys,h1]
theorem sY {tmps:Array ag} {r s:ResultVar} {v u:ag} (h:fn.results= #[r,s]) (h1:(hZ tmps r).run P w= .ok v w) (A:(hZ tmps s).run P w= .ok u w):(results fn tmps).run P w= .ok (.tuple #[v,u]) w:=by
 have C:(results fn tmps)=(do let vs ← #[r,s].mapM (hZ tmps); pure (if h:vs.size=1 then vs[0] else .tuple vs)):=by
  unfold results; rw [h]; rfl
 rw [C]; simp [ys,h1,A]
theorem r7 {r:ResultVar} {v:ag} (h:fn.results= #[r]) (h1:gU P N σ w r v) (A:R v w):fin P fn N R .ret σ w:=⟨v,B8 h (gA h1),A⟩
theorem r8 {r s:ResultVar} {v u:ag} (h:fn.results= #[r,s]) (h1:gU P N σ w r v) (A:gU P N σ w s u) (C:R (.tuple #[v,u]) w):fin P fn N R .ret σ w:=⟨_,sY h (gA h1) (gA A),C⟩
end
end Go.Hb
end
section
namespace Go.Hb
def eM (P:au) (N:Fm) (c:bL) (B:bp→Act→ah→Prop) (σ:Nat→ag) (w:ah):Prop :=c.wpIn (fe N.r) 0 P B (act N σ) w
def qb (N:Fm) (B:bp→Act→ah→Prop):bp→(Nat→ag)→ah→Prop :=fun e σ w=>B e (act N σ) w
section
variable {P:au} {N:Fm} {B:bp→Act→ah→Prop} {σ:Nat→ag} {w:ah}
theorem cG {x y:bL} (h:eM P N x (Exit.then (y.wpIn (fe N.r) 0 P B) B) σ w):eM P N (.seq x y) B σ w:=wpIn_seq h
theorem bw {y:bL} (h:eM P N y B σ w):qb N (Exit.then (y.wpIn (fe N.r) 0 P B) B) .normal σ w:=h
theorem sO {y:Act→ah→Prop} (h:qb N B .ret σ w):qb N (Exit.then y B) .ret σ w:=h
theorem B9 (h:qb N B .ret σ w):eM P N .ret B σ w:=wpIn_ret h
theorem Kl {x y:bL} (A:(Nat→ag)→ah→Prop) (h:eM P N x (Exit.then (fun a w=> ∃ σ,a=act N σ∧A σ w) B) σ w) (I:∀ σ w,A σ w→eM P N y B σ w):eM P N (.seq x y) B σ w:=by
 refine wpIn_seq<|wpIn_mono h ?_;intro e a w C;cases e with
 | normal=>obtain ⟨σ,rfl,E⟩:=C; exact I _ _ E
 | _=>exact C
theorem zk {A:(Nat→ag)→ah→Prop} (h:A σ w):qb N (Exit.then (fun a w=> ∃ σ,a=act N σ∧A σ w) B) .normal σ w:=⟨σ,rfl,h⟩
theorem J1 {c:bL} {L:List (Nat×ag)} (h:Sl σ L) (A:eM P N c B (o5 σ L) w):eM P N c B σ w:=by rw [tB h] at A; exact A
theorem cE {c:bL} (h:bA P N c (qb N B) σ w):eM P N c B σ w:=by
 unfold bA at h;refine wpIn_mono h ?_;intro e a w A;cases e with
 | panic c=>obtain ⟨σ,rfl,C⟩:=A; exact C σ fun _ _=>rfl
 | outgrown=>exact A.elim
 | _=>obtain ⟨σ,rfl,C⟩:=A; exact C
end
theorem m7 (fn:fH) (args:List ag) (F:List Nat) (hn:bf args.length fn.ntmps=true):({tmps:=args.toArray++nE (fn.ntmps - args.toArray.size) undef,defers:= []} :Act)=act ⟨fn.ntmps,[],F,none⟩ (du args):=by
 have C:args.length≤fn.ntmps:=by simpa using hn
 refine rB U fun i=> ?_;rw [iP];simp only [du,b9,eB];by_cases h1:i < args.length
 · rw [Dv (by simpa using h1),if_pos ab];simp [h1]
 · rw [Dw (by simpa using h1)];simp only [eB,Dy];by_cases A:i < fn.ntmps
   · rw [if_pos ab,if_pos A,gF ab]; rfl
   · rw [if_neg ab,if_neg A]
abbrev Bm (P:au) (fn:fH) (R:ag→ah→Prop):bp→Act→ah→Prop :=bodyPostM eN 0 P fn (fun e w'=> ∃ v,e= .returned v∧R v w')
theorem uZ {P:au} {f:dT} {N:Nat} {fn:fH} {c:bL} {args:List ag} {w:ah} {R:ag→ah→Prop} (F:List Nat) (C:P.funcs[f]? =some fn) (hb:fn.body=some c)
 (A:fn.ntmps=N) (hn:bf args.length N=true) (h:eM P ⟨N,[],F,none⟩ c (Bm P fn R) (du args) w):bj P f args.toArray w R:=by
 subst A;refine callsIn_wide.1<|callsIn_of_wp_marks (F:=eN) (n:=0) C hb trivial ?_;rw [m7 fn args F hn];exact h
section
variable {P:au} {n:Nat} {F:List Nat} {σ:Nat→ag} {w:ah} {fn:fH} {R:ag→ah→Prop}
theorem Ic {e:bp} (he:e= .ret∨e= .normal) {v:ag} (hr:(results fn (act ⟨n,[],F,none⟩ σ).tmps).run P w= .ok v w) (A:R v w):qb ⟨n,[],F,none⟩ (Bm P fn R) e σ w:=by
 rcases he with rfl | rfl <;> exact ⟨v,hr,v,rfl,A⟩
theorem vh {t:Nat} {v:ag} (h:fn.results= #[.tmp t]) (C:ev ⟨n,[],F,none⟩ σ (.tmp t)=v) (A:R v w):qb ⟨n,[],F,none⟩ (Bm P fn R) .ret σ w:=
 Ic (.inl rfl) (by rw [results_tmp h,m9,C]) A
end
theorem gi {w:ah} {B t size n pp C:Nat} {v:ag} {xs:List ag} {cs:Array ag} {z:Nat×Nat} (h:w.ownsRow B t size v n xs) (hp:w.heap[pp]? =some (.cells cs C z)) (I:t≠C):v.ownBlock≠some pp:=by
 intro A;rcases h.2 with ⟨h1,_⟩ | ⟨g,cap,cur,h1,_,E,_⟩
 · rw [h1] at A; simp [gj] at A
 · rw [h1] at A;simp only [gj,bM] at A;subst A;rw [E] at hp;simp only [bM,D3] at hp;exact I hp.2.1
section
variable {P:au} {N:Fm} {σ:Nat→ag} {w:ah} {dst:Option Nat} {ty:av} {pos :String} {af:Array bT} {g:Option (Nat×Bool)} {x:aW} {K:(Nat→ag)→ah→Prop}
theorem rI {e:av} {v:ag} (A:ev N σ x=v) (h1:v.oneCell'=true) (k:∀ b w',b=w.heap.size→Nw w w'→w'.heap[b]? =some (.cells [v].toArray e (0,0))→K (dv σ dst<|.pointer<|some ⟨b,0,none⟩) w'):
 bZ P N ⟨dst,.box e x,ty,pos,af,g⟩ σ w K:=by
 refine lh (v:=fun b=> .pointer<|some ⟨b,0,none⟩) (ob:= .cells [v].toArray e (0,0)) ?_ k;have :=mW h1;simp [execOp,yd,A,this,newVar,newRow]
end
theorem wa (w:ah) (k:Nat) (o:Obj):Md (fun j=>j=k) w (w.putObj k o):=
 ⟨rfl,rfl,by simp [World.putObj],fun j _ A=>World.putObj_heap_other A⟩
def cg (w w':ah):Prop := ∀ (k:Nat) (o:Obj),w.heap[k]? =some o→((∀ cur e z,o≠.cells cur e z)∧∀ es c,o≠.map es c)→w'.heap[k]? =some o
theorem cg.trans {a b c:ah} (h:cg a b) (h':cg b c):cg a c:=fun k o A hn=>h' k o (h k o A hn) hn
theorem cg.md {F:Nat→Prop} {w w':ah} (hm:Md F w w') (C:∀ k,F k→∃ cur e z,w.heap[k]? =some (.cells cur e z)):cg w w':=fun k o A hn=>by
 rw [hm.dH k (dm.1 A).1 (fun E=>by obtain ⟨c,e,z,h⟩:=C k E; rw [A] at h; exact hn.1 _ _ _<|Option.some.inj h)]; exact A
theorem cg.wk {w w':ah} (hm:Wk w w'):cg w w':=cg.md hm fun _ h=>h.elim
theorem oJ {w:ah} {B e size n:Nat} {v:ag} {xs:List ag} (h:w.ownsRow B e size v n xs):∀ k,v.ownBlock=some k→∃ cur e z,w.heap[k]? =some (.cells cur e z):=by
 intro k A;rcases h.2 with ⟨rfl,_⟩ | ⟨g,cap,E,rfl,_,C,_⟩
 · simp [gj] at A
 · simp only [gj,bM] at A; subst A; exact ⟨_,_,_,C⟩
section
variable {F:Nat→Prop} {W W':ah} {B:Nat}
end
theorem yI (N:Fm):∀ (l:List (Tmp×ag)) (σ:Nat→ag),l.foldl (fun t p=>t.setIfInBounds p.1 p.2) (act N σ).tmps=(act N<|l.foldl (fun s p=>aU s p.1 p.2) σ).tmps:=by
 intro l
 induction l with
 | nil=>intro σ; rfl
 | cons p l ih=>
   intro σ;rw [jg,jg,← ih];congr 1;have :=congrArg Act.tmps<|eD N σ (some p.1) p.2;exact this
section
variable {P:au} {N:Fm} {ops:Array aB} {Q:bp→(Nat→ag)→ah→Prop} {rest:List aB} {σ:Nat→ag} {w:ah} {d':Option Nat} {d:Nat} {op:Op} {ty:av} {pos :String} {af:Array bT} {v:ag}
def kh (P:au) (N:Fm) (ops:Array aB) (Q:bp→(Nat→ag)→ah→Prop) (l:List aB) (σ:Nat→ag) (w:ah):Prop :=wpListIn (fe N.r) 0 P ops (lift N Q) l (act N σ) w
theorem Jk {id:Nat} {l:List aB} (h:kh P N l.toArray Q l σ w):bA P N (.region id l.toArray false) Q σ w:=by
 unfold bA; exact wpIn_region_lit h
theorem IQ (h:Q .normal σ w):kh P N ops Q [] σ w:=⟨σ,rfl,h⟩
def wj (o:Op):Bool:=match o with | .defer _=>false | _=>true
theorem IV {o:Op} (h:wj o=true):∀ c,o≠.defer c:=fun c e=>by subst e; cases h
theorem ey (hn:wj op=true) (h:bZ P N ⟨d',op,ty,pos,af,none⟩ σ w (fun σ w=>kh P N ops Q rest σ w)):kh P N ops Q (⟨d',op,ty,pos,af,none⟩::rest) σ w:=by
 unfold kh wpListIn;rw [if_pos (fh _ rfl _)];refine ⟨fun f _=>jW _ f,?_⟩;rw [mL,qZ _ _ _ (IV hn)];unfold bZ gE at h;generalize (execOp (act N σ).eval ⟨d',op,ty,pos,af,none⟩).run P w=x at h ⊢;cases x with
 | ok n w'=>
   cases n <;> simp only [ig,q6] at h ⊢ <;>
    first
     | (obtain ⟨σ',ha,A⟩:=h; rw [ha]; exact A)
     | (refine ⟨fun h0=>(by rw [mK] at h0; cases h0),DL (r9 h) fun e w'' he=> ?_⟩
        cases e with
        | returned v=>obtain ⟨σ',ha,A⟩:=he; simp only; rw [ha]; exact A
        | panicked c=>exact he.elim
        | outgrown=>obtain ⟨_,_,C⟩:=he; exact C.elim)
     | (refine ⟨fun h0=>(by rw [mK] at h0; cases h0),D6 (Ah h) fun v w'' he=> ?_⟩
        obtain ⟨σ',ha,A⟩:=he; rw [ha]; exact A)
 | halt x w'=>cases x <;> simp only [ig] at h
theorem py (hn:wj op=true) (h:(execOp (ev N σ) ⟨some d,op,ty,pos,af,none⟩).run P w= .ok (.value v) w) (k:kh P N ops Q rest (aU σ d v) w):kh P N ops Q (⟨some d,op,ty,pos,af,none⟩::rest) σ w:=
 ey hn (je h k)
end
end Go.Hb
end
section
namespace Go.Hb
def mz (P:au) (f:dT) (args:Array ag) (w:ah) (R:ag→ah→Prop) (A:List PanicEntry→ah→Prop):Prop :=
 Calls P f args w fun e w'=>(∃ v,e= .returned v∧R v w')∨∃ c,e= .panicked c∧A c w'
def Ak (P:au) (fn:fH) (N:Fm) (R:ag→ah→Prop) (A:List PanicEntry→ah→Prop):bp→(Nat→ag)→ah→Prop
 | .normal,σ,w=> ∃ v,(results fn (act N σ).tmps).run P w= .ok v w∧R v w
 | .ret,σ,w=> ∃ v,(results fn (act N σ).tmps).run P w= .ok v w∧R v w
 | .panic c,_,w=>A c w
 | _,_,_=>False
theorem p7 {P:au} {fn:fH} {N:Fm} {R:ag→ah→Prop} {A:List PanicEntry→ah→Prop} {e:bp} {σ:Nat→ag} {w:ah} (h:fin P fn N R e σ w):Ak P fn N R A e σ w:=by
 cases e <;> first | exact h | exact h.elim
theorem pV {P:au} {f:dT} {N:Nat} {fn:fH} {c:bL} {args:List ag} {w:ah} {R:ag→ah→Prop} {I:List PanicEntry→ah→Prop} (L:P.funcs[f]? =some fn) (hb:fn.body=some c)
 (J:fn.ntmps=N) (hn:bf args.length N=true) (h:bA P ⟨N,[],[],none⟩ c (Ak P fn ⟨N,[],[],none⟩ R I) (du args) w):mz P f args.toArray w R I:=by
 subst J;refine calls_of_wp L hb ?_;rw [m7 fn args [] hn];unfold bA at h;refine yc ?_<|wpIn_wide.1 h;intro e a w A;cases e with
 | normal=>obtain ⟨σ,rfl,v,hr,E⟩:=A; exact ⟨rfl,v,hr,.inl ⟨v,rfl,E⟩⟩
 | ret=>obtain ⟨σ,rfl,v,hr,E⟩:=A; exact ⟨rfl,v,hr,.inl ⟨v,rfl,E⟩⟩
 | exit id=>obtain ⟨σ,rfl,C⟩:=A; exact C.elim
 | goto l=>obtain ⟨σ,rfl,C⟩:=A; exact C.elim
 | panic c=>obtain ⟨σ,rfl,C⟩:=A; exact ⟨rfl,.inr ⟨c,rfl,C σ fun _ _=>rfl⟩⟩
 | outgrown=>exact A.elim
section
variable {P:au} {N:Fm} {Q:bp→(Nat→ag)→ah→Prop} {σ:Nat→ag} {w:ah} {ops:Array aB} {rest:List aB} {dst:Option Nat} {ty:av} {pos :String} {af:Array bT} {g:Option (Nat×Bool)} {x:aW}
def nB (P:au) (N:Fm) (o:aB) (σ:Nat→ag) (w:ah) (K:(Nat→ag)→ah→Prop) (A:List PanicEntry→ah→Prop):Prop :=
 gE P o (act N σ) w (fun a w=> ∃ σ,a=act N σ∧K σ w) (fun e a w=>match e with | .panic c=>a=act N σ∧A c w | _=>False)
theorem xT {o:aB} {K:(Nat→ag)→ah→Prop} {C:List PanicEntry→ah→Prop} {A:Act→ah→Prop} (h:nB P N o σ w K C) (L:∀ σ w,K σ w→A (act N σ) w) (hp:∀ c w',C c w'→∀ σ',(∀ i∈N.F,σ' i=σ i)→Q (.panic c) σ' w'):o.wp P (act N σ) w A (lift N Q):=by
 unfold nB at h;unfold gE at*;generalize (execOp (act N σ).eval o).run P w=r at h ⊢;have E:∀ a w,(∃ σ,a=act N σ∧K σ w)→A a w:=by rintro a w ⟨σ,rfl,h⟩; exact L _ _ h
 have I:∀ c (a:Act) w',(a=act N σ∧C c w')→lift N Q (.panic c) a w':=by rintro c a w' ⟨rfl,h⟩; exact ⟨σ,rfl,hp c w' h⟩
 cases r with
 | ok n w'=>
   cases n <;> simp only [ig] at h ⊢ <;>
    first
     | exact E _ _ h
     | exact kj h (fun e w'' he=>by
      cases e with
      | returned v=>exact E _ _ he
      | panicked c=>exact I _ _ _ ⟨rfl,he.2⟩
      | outgrown=>obtain ⟨_,_,J⟩:=he; exact J.elim)
     | exact tR h fun _ _ he=>E _ _ he
 | halt x w'=>cases x <;> simp only [ig] at h ⊢ <;> exact I _ _ _ ⟨rfl,h.2⟩
theorem ef {f:dT} {args:Array aW} {C:Array av} {L:List ag} {R:ag→ah→Prop} {A:List PanicEntry→ah→Prop} {K:(Nat→ag)→ah→Prop} (O:gr P f) (hr:mz P f L.toArray w R A) (I:args.toList.map (ev N σ)=L)
 (k:∀ v w',R v w'→K (dv σ dst v) w'):nB P N ⟨dst,.call ⟨.value (.func f),args,C⟩,ty,pos,af,g⟩ σ w K A:=by
 unfold nB gE;have hm:args.map (ev N σ)=L.toArray:=by rw [← I,← iH]
 have U:(execOp (ev N σ) ⟨dst,.call ⟨.value (.func f),args,C⟩,ty,pos,af,g⟩).run P w= .ok (.enter f L.toArray) w:=by
  have E:=O L.toArray w;simp [execOp,resolve,ev,mb,invoke,hm,E]
 rw [dr,U];simp only [ig];refine kj hr ?_;rintro e w' (⟨v,rfl,M⟩ | ⟨c,rfl,J⟩)
 · exact ⟨_,eD ..,k v w' M⟩
 · exact ⟨trivial,J⟩
theorem eP {o:aB} {A:List PanicEntry→ah→Prop} (E:o.guard=none) (h:nB P N o σ w (fun σ w=>bS P N ops Q rest σ w) A) (hp:∀ c w',A c w'→∀ σ',(∀ i∈N.F,σ' i=σ i)→Q (.panic c) σ' w'):bS P N ops Q (o::rest) σ w:=by
 unfold bS wpList;rw [if_pos (fh o E _)];refine .inl<|xT h (fun σ w C=> ?_) hp;unfold bS at C; exact C
theorem Jb {t:av} {v:ag} (A:ev N σ x= .iface t v) (hp:∀ σ',(∀ i∈N.F,σ' i=σ i)→Q (.panic [{v:= .iface t v,recovered:=false}]) σ' w):bS P N ops Q (⟨dst,.panic x,ty,pos,af,none⟩::rest) σ w:=by
 unfold bS wpList;rw [if_pos (fh _ rfl _)];refine .inl ?_;unfold gE;have hr:(execOp (ev N σ) ⟨dst,.panic x,ty,pos,af,none⟩).run P w= .halt (.panic<|.iface t v) w:=by
  simp [execOp,A,Instr.panic]
 rw [dr,hr];exact ⟨σ,U,hp⟩
theorem IJ {t:av} {d:TypeDesc} {v:ag} (hu:P.underlying t=some d) (A:(match d with | .interface _=>false | _=>true)=true) (C:ev N σ x=v):(execOp (ev N σ) ⟨dst,.makeInterface t x,ty,pos,af,g⟩).run P w= .ok (.value<|.iface t v) w:=by
 cases d <;> first | (cases A; done) | simp [execOp,Instr.makeInterface,C,bt hu]
def j2 (P:au) (t:av):Bool:=match P.underlying t with | some (.interface _)=>false | some _=>true | none=>false
theorem wc {t:av} {v:ag} (h:j2 P t=true) (A:ev N σ x=v):(execOp (ev N σ) ⟨dst,.makeInterface t x,ty,pos,af,g⟩).run P w= .ok (.value<|.iface t v) w:=by
 unfold j2 at h;cases hd:P.underlying t with
 | none=>rw [hd] at h; cases h
 | some d=>rw [hd] at h; exact IJ hd (by cases d <;> first | rfl | cases h) A
theorem CR {xt a:av} {zv:ag} (hu:j2 P a=true) (C:zeroV P a=some zv) (A:ev N σ x= .nilIface):(execOp (ev N σ) ⟨dst,.typeAssert x xt a true,ty,pos,af,g⟩).run P w= .ok (.value<|.tuple #[zv,.bool false]) w:=by
 unfold j2 at hu;cases hd:P.underlying a with
 | none=>rw [hd] at hu; cases hu
 | some d=>rw [hd] at hu; cases d <;> first | (cases hu; done) | simp [execOp,DX,A,bt hd,Dm C]
theorem CQ {xt a:av} {v:ag} (hu:j2 P a=true) (A:ev N σ x= .iface a v):(execOp (ev N σ) ⟨dst,.typeAssert x xt a true,ty,pos,af,g⟩).run P w= .ok (.value<|.tuple #[v,.bool true]) w:=by
 unfold j2 at hu;cases hd:P.underlying a with
 | none=>rw [hd] at hu; cases hu
 | some d=>rw [hd] at hu; cases d <;> first | (cases hu; done) | simp [execOp,DX,A,bt hd]
variable {S:ah→Prop} {fuel:Nat} {listed:Array Bool}
theorem Hw {o:aB} {C:List PanicEntry→ah→Prop} (i:Nat) (hi:ops[i]? =some o) (hr:gK ops listed i=true) (E:o.guard=none)
 (h:nB P N o σ w (fun σ w=>S w∧bY P N ops Q S fuel (listed.setIfInBounds i true) σ w) C) (hp:∀ c w',C c w'→∀ σ',(∀ i∈N.F,σ' i=σ i)→Q (.panic c) σ' w'):bY P N ops Q S (fuel+1) listed σ w:=by
 unfold bY at*;refine wpAnyH_all (rs:= [i]) (by simpa [gK] using hr) (by simp) ?_;intro k A;obtain rfl :k=i:=by simpa using A
 unfold wpOp;simp only [hi];rw [if_pos (fh _ E _)];exact .inl<|xT h (fun σ w A=>A) hp
end
section
variable {P:au} {N:Fm} {Q:bp→(Nat→ag)→ah→Prop} {σ:Nat→ag} {w:ah} {ops:Array aB} {S:ah→Prop} {fuel:Nat} {listed:Array Bool}
end
section
variable {P:au} {N:Fm} {Q:bp→(Nat→ag)→ah→Prop} {σ:Nat→ag} {w:ah} {ops:Array aB} {S:ah→Prop} {fuel r:Nat} {listed:Array Bool}
theorem Ih {o:aB} {C:List PanicEntry→ah→Prop} (i:Nat) (hi:ops[i]? =some o) (hr:gK ops listed i=true) (I:o.guard=none)
 (h:nB P N o σ w (fun σ w=>S w∧cx P N ops Q S r fuel (listed.setIfInBounds i true) σ w) C) (hp:∀ c w',C c w'→∀ σ',(∀ i∈N.F,σ' i=σ i)→Q (.panic c) σ' w'):cx P N ops Q S r (fuel+1) listed σ w:=by
 unfold cx at*;have E:dw .any ops listed= [i]:=by simpa [gK] using hr
 refine ⟨fun h0=>absurd (E ▸ h0) (by simp),fun k A=> ?_⟩;rw [E] at A;obtain rfl :k=i:=by simpa using A
 unfold wpOp;simp only [hi];rw [if_pos (fh _ I _)];exact .inl<|xT h (fun σ w A=>⟨fun _=>A.1,A.2⟩) hp
end
abbrev lE (P:au) (fn:fH) (R:ag→ah→Prop):bp→Act→ah→Prop :=bodyPostD P fn (fun e w'=> ∃ v,e= .returned v∧R v w')
theorem GQ {P:au} {f:dT} {N:Nat} {fn:fH} {c:bL} {args:List ag} {w:ah} {R:ag→ah→Prop} (F:List Nat) (C:P.funcs[f]? =some fn) (hb:fn.body=some c)
 (A:fn.ntmps=N) (hn:bf args.length N=true) (h:eM P ⟨N,[],F,none⟩ c (lE P fn R) (du args) w):bj P f args.toArray w R:=by
 subst A;refine calls_of_wp_defers C hb ?_;rw [m7 fn args F hn];exact wpIn_wide.1 h
section
variable {P:au} {n:Nat} {D:List Deferred} {F:List Nat} {σ:Nat→ag} {w:ah} {fn:fH} {R:ag→ah→Prop} {B:bp→Act→ah→Prop}
theorem G7 {v:ag} (hr:(results fn (act ⟨n,[],F,none⟩ σ).tmps).run P w= .ok v w) (A:R v w):qb ⟨n,[],F,none⟩ (lE P fn R) .ret σ w:=⟨v,hr,v,rfl,A⟩
theorem Ij:¬LetsOut (lE P fn R):=fun ⟨_,_,h⟩=>by obtain ⟨v,h,_⟩:=h; cases h
theorem kC {id d:Nat} {f:dT} (M:¬LetsOut B) {cs:Array aW} {I J:av} {p1 p2:String} {C E:Array bT} {y:bL} (A:Array ag) (V:cs.toList.map (ev ⟨n,[],F,none⟩ σ)=A.toList) (aa:d < n)
 (h:eM P ⟨n,[{target:= .fn (.func f) A,args:= #[]}],F,none⟩ y B (aU σ d<|.func (.func f) #[] A) w):
 eM P ⟨n,[],F,none⟩ (.region id #[⟨some d,.makeFunc (.func f) #[] cs,I,p1,C,none⟩,⟨none,.defer ⟨.value (.tmp d),#[],#[]⟩,J,p2,E,none⟩] false) (Exit.then (y.wpIn (fe none) 0 P B) B) σ w:=by
 have Z:cs.map (ev ⟨n,[],F,none⟩ σ)=A:=qS.1<|by rw [iH]; exact V
 refine wpIn_region ?_;have O:¬LetsOut (Exit.then (y.wpIn (fe none) 0 P B) B):=fun ⟨a,w,h⟩=>M ⟨a,w,h⟩;refine vG (r:=none) O U _ _ _ ?_;show wpOps P _ _ [0,1] _ _;simp only [wpOps,lA,iK,iJ];rw [if_pos (fh _ rfl _)];refine .inl ?_;unfold gE;have h1:(execOp (act ⟨n,[],F,none⟩ σ).eval ⟨some d,.makeFunc (.func f) #[] cs,I,p1,C,none⟩).run P w= .ok (.value<|.func (.func f) #[] A) w:=by
  rw [dr,mf,Z]; simp
 rw [h1];simp only [ig];rw [if_pos (fh _ rfl _),eD];refine .inl ?_;have L:(execOp (act ⟨n,[],F,none⟩<|dv σ (some d)<|.func (.func f) #[] A).eval ⟨none,.defer ⟨.value (.tmp d),#[],#[]⟩,J,p2,E,none⟩).run P w= .ok (.defer {target:= .fn (.func f) A,args:= #[]}) w:=by
  have ab:ev ⟨n,[],F,none⟩ (aU σ d<|.func (.func f) #[] A) (.tmp d)= .func (.func f) #[] A:=by
   show cond (aD d n) (aU σ d _ d) undef=_;rw [show aD d n=true from by simpa using aa];show aU σ d _ d=_;unfold aU; simp
  rw [dr];show (execOp (ev ⟨n,[],F,none⟩<|aU σ d<|.func (.func f) #[] A) _).run P w=_;simp [execOp,resolve,ab,mb]
 rw [L];exact h
end
theorem I7 {P:au} {ops:Array aB} {Q:bp→Act→List Frame→ah→Prop} {cs:List Frame} (A:¬LetsOut fun e a w=>Q e a cs w):∀ (l:List Nat) (a:Act) (w:ah),wpOps P ops (fun e a w=>Q e a cs w) l a w→wpOpsS P ops Q l a cs w:=by
 intro l
 induction l with
 | nil=>exact fun _ _ h=>h
 | cons i l ih=>
   intro a w h;simp only [wpOps] at h;simp only [wpOpsS];cases ho:ops[i]? with
   | none=>simp only [ho] at h ⊢; exact ih a w h
   | some o=>
     simp only [ho] at h ⊢;by_cases hw:jP o (yielded ops a.tmps)=true
     · rw [if_pos hw] at h ⊢;rcases h with h | h
       · unfold gE at h;generalize (execOp a.eval o).run P w=x at h;cases x with
         | ok n w'=>
           cases n <;> simp only [ig] at h ⊢ <;>
            first
             | exact ih _ _ h
             | exact kj h fun e w'' he=>by cases e <;> first | exact ih _ _ he | exact he
             | exact tR h fun v w'' he=>ih _ _ he
         | halt x w'=>cases x <;> simp only [ig] at h ⊢ <;> exact h
       · exact absurd h.2 A
     · rw [if_neg hw] at h ⊢;exact ih _ _ h
theorem Im {P:au} {ops:Array aB} {Q C:bp→Act→ah→Prop} (A:∀ e a w,Q e a w→C e a w) (E:¬LetsOut Q):∀ (l:List aB) (a:Act) (w:ah),wpList P ops Q l a w→wpList P ops C l a w:=by
 intro l
 induction l with
 | nil=>exact fun _ _ h=>A _ _ _ h
 | cons o l ih=>
   intro a w h;unfold wpList at h ⊢;split at h
   · rename_i hw;rw [if_pos hw];rcases h with h | h
     · left;unfold gE at h ⊢;generalize (execOp a.eval o).run P w=x at h;cases x with
       | ok n w'=>
         cases n <;> simp only [ig] at h ⊢ <;>
          first
           | exact ih _ _ h
           | exact kj h (fun e w'' he=>by
            cases e with
            | returned v=>exact ih _ _ he
            | panicked c=>exact A _ _ _ he
            | outgrown=>exact absurd he E)
           | exact tR h fun v w'' he=>ih _ _ he
       | halt x w'=>cases x <;> simp only [ig] at h ⊢ <;> exact A _ _ _ h
     · exact absurd h.2 E
   · rename_i hw;rw [if_neg hw]; exact ih _ _ h
theorem zb {P:au} {f:dT} {fn:fH} {id N d:Nat} {ty:av} {pos :String} {af:Array bT} {rest:List aB} {y:bL} {args:List ag} {w:ah} {u I:FrameMode} {v:ag} {R:ah→Prop}
 (ae:P.funcs[f]? =some fn) (hb:fn.body=some (.seq (.region id (⟨some d,.call ⟨.builtin .recover,#[],#[]⟩,ty,pos,af,none⟩::rest).toArray false) y)) (ac:fn.ntmps=N) (hn:bf args.length N=true)
 (ai:∀ (C:Frame) (cs:List Frame),C.mode=u→(recoverD (C::cs)=some (v,{C with mode:=I} ::cs))∨(recoverD (C::cs)=none∧v= .nilIface∧I=u))
 (h:bS P ⟨N,[],[],none⟩ (⟨some d,.call ⟨.builtin .recover,#[],#[]⟩,ty,pos,af,none⟩::rest).toArray (gN (fun σ w=>bA P ⟨N,[],[],none⟩ y (fin P fn ⟨N,[],[],none⟩ fun _ w=>R w) σ w)<|fin P fn ⟨N,[],[],none⟩ fun _ w=>R w) rest (aU (du args) d v) w):
 CallsD P f args.toArray u w fun e J w'=> ∃ v,e= .returned v∧J=I∧R w':=by
 subst ac;refine callsD_of_wpS ae hb ?_;intro C cs hu;rw [m7 fn args [] hn];refine wpS_seq<|wpS_region ?_;have aj:ml (⟨some d,.call ⟨.builtin .recover,#[],#[]⟩,ty,pos,af,none⟩::rest).toArray.size=0::(List.range' 1 rest.length):=by
  rw [eB,dP,Ew,List.range'_succ]
 rw [aj];simp only [wpOpsS,lA,iK];rw [if_pos (fh _ rfl _)];have ak:(execOp (act ⟨fn.ntmps,[],[],none⟩<|du args).eval ⟨some d,.call ⟨.builtin .recover,#[],#[]⟩,ty,pos,af,none⟩).run P w= .ok .recover w:=by
  rw [dr];simp [execOp,resolve,invoke,builtin]
 rw [ak];simp only;obtain ⟨L,M⟩:∃ L,L=({C with mode:=I} ::cs:List Frame):=⟨_,rfl⟩
 have ad:∀ X:Act→List Frame→Prop,X ((act ⟨fn.ntmps,[],[],none⟩<|du args).put (some d) v) L→
  (match recoverD (C::cs) with
   | some (v,O)=>X ((act ⟨fn.ntmps,[],[],none⟩<|du args).put (some d) v) O
   | none=>X ((act ⟨fn.ntmps,[],[],none⟩<|du args).put (some d) .nilIface) (C::cs)):=by
  intro X V;rcases ai C cs hu with h1 | ⟨h1,aa,ab⟩;rw [h1]; subst M; exact V;rw [h1]; subst aa ab;have :({C with mode:=I} :Frame)=C:=by subst hu; rfl
  rw [this] at M; subst M; exact V
 refine ad (fun a O=>wpOpsS P _ _ _ a O w) ?_;rw [eD];refine I7 ?_ _ _ _ ?_;rintro ⟨a,w,h⟩;simp only [Exit.thenS,bodyPostS] at h;obtain ⟨_,_,h,_⟩:=h; cases h;have h1:=wpOps_eq_wpList (P:=P) (ops:=(⟨some d,.call ⟨.builtin .recover,#[],#[]⟩,ty,pos,af,none⟩::rest).toArray) (Q:=fun e a w'=>Exit.thenS (Code.wpS P y (bodyPostS P fn C cs fun e J w'=> ∃ v,e= .returned v∧J=I∧R w')) (bodyPostS P fn C cs fun e J w'=> ∃ v,e= .returned v∧J=I∧R w') e a L w') rest 1 fun j=>by simp [uf]
 rw [h1];unfold bS at h;refine Im ?_ vT _ _ _ h;intro e a w' E;have Z:∀ (e:bp) (σ:Nat→ag) (w':ah),fin P fn ⟨fn.ntmps,[],[],none⟩ (fun _ w=>R w) e σ w'→bodyPostS P fn C cs (fun e J w'=> ∃ v,e= .returned v∧J=I∧R w') e (act ⟨fn.ntmps,[],[],none⟩ σ) L w':=by
  intro e σ w' A;cases e with
  | normal=>obtain ⟨v,hr,U⟩:=A; exact ⟨rfl,I,M,v,hr,v,rfl,rfl,U⟩
  | ret=>obtain ⟨v,hr,U⟩:=A; exact ⟨rfl,I,M,v,hr,v,rfl,rfl,U⟩
  | _=>exact A.elim
 cases e with
 | normal=>
   obtain ⟨σ,rfl,A⟩:=E;refine wpS_of_wp ?_;simp only [gN] at A;unfold bA at A;refine yc ?_<|wpIn_wide.1 A;intro e a w' E;cases e with
   | panic c=>obtain ⟨σ,rfl,A⟩:=E; exact (A σ fun _ _=>rfl).elim
   | outgrown=>exact E.elim
   | _=>obtain ⟨σ,rfl,A⟩:=E; exact Z _ σ w' A
 | panic c=>obtain ⟨σ,rfl,A⟩:=E; exact (A σ fun _ _=>rfl).elim
 | outgrown=>exact E.elim
 | ret=>obtain ⟨σ,rfl,A⟩:=E; exact Z .ret σ w' A
 | exit i=>obtain ⟨σ,rfl,A⟩:=E; exact A.elim
 | goto i=>obtain ⟨σ,rfl,A⟩:=E; exact A.elim
section
variable {P:au} {n:Nat} {F:List Nat} {σ:Nat→ag} {w:ah} {fn:fH} {R:ag→ah→Prop}
theorem G9 {g:dT} {A:Array ag} {M:ah→Prop} (hu:(invoke (.fn (.func g) A) #[]).run P w= .ok (.enter g A) w)
 (I:CallsD P g A .returning w fun e J w'=> ∃ v,e= .returned v∧J= .returning∧M w') (E:∀ w',M w'→∃ v,(results fn (act ⟨n,[{target:= .fn (.func g) A,args:= #[]}],F,none⟩ σ).tmps).run P w'= .ok v w'∧R v w'):
 qb ⟨n,[{target:= .fn (.func g) A,args:= #[]}],F,none⟩ (lE P fn R) .ret σ w:=by
 refine leaves_cons (by simp) hu ?_;refine DK I ?_;rintro e L w' ⟨v,rfl,rfl,hm⟩;obtain ⟨v2,h1,C⟩:=E w' hm;exact ⟨v2,h1,v2,U,C⟩
theorem Ha {g:dT} {A:Array ag} {M:ah→Prop} {v:ag} (hu:(invoke (.fn (.func g) A) #[]).run P w= .ok (.enter g A) w)
 (I:CallsD P g A (.panicking [{v:=v,recovered:=false}]) w fun e J w'=> ∃ x,e= .returned x∧J= .panicking [{v:=v,recovered:=true}]∧M w') (E:∀ w',M w'→∃ v,(results fn (act ⟨n,[{target:= .fn (.func g) A,args:= #[]}],F,none⟩ σ).tmps).run P w'= .ok v w'∧R v w'):
 qb ⟨n,[{target:= .fn (.func g) A,args:= #[]}],F,none⟩ (lE P fn R) (.panic [{v:=v,recovered:=false}]) σ w:=by
 refine leaves_cons (by simp) hu ?_;refine DK I ?_;rintro e L w' ⟨x,rfl,rfl,hm⟩;obtain ⟨v2,h1,C⟩:=E w' hm;exact ⟨v2,h1,v2,U,C⟩
end
end Go.Hb
end
section
namespace Go.Hb
abbrev Tl:=List<|List UInt8
def vC:Tl→List (UInt8×Tl)
 | []=> []
 | []::ts=>vC ts
 | (c::t)::ts=>match vC ts with
   | []=> [(c,[t])]
   | (c',g)::r=>if c=c' then (c,t::g)::r else (c,[t])::(c',g)::r
def HF (A:Tl):Bool:=match A with | []::_=>true | _=>false
def GH (A:Tl):Tl:=match A with | []::r=>r | r=>r
structure VS where
 known:List Tl
 kf:List (Bool×List (UInt8×Nat))
def VS.add (s:VS) (A:Tl):VS:=⟨s.known++ [A],s.kf++ [(false,[])]⟩
end Go.Hb
namespace Go.Hb
end Go.Hb
namespace Go.Hb
abbrev EN:=Bool×List (UInt8×Nat)
end Go.Hb
namespace Go.Hb
def BW (l:List (UInt8×Nat)):Prop :=l.Pairwise fun a b=>a.1.toNat < b.1.toNat
end Go.Hb
namespace Go.Hb
def GP (A:List Tl) (p:UInt8×Tl):UInt8×Nat:=(p.1,A.idxOf p.2+1)
def enc (A:List Tl) (L:Tl):EN:=(HF L,(vC<|GH L).map (GP A))
end Go.Hb
namespace Go.Hb
def nm (A:List Tl) (i:Nat):Tl:=A.getD (i - 1) []
end Go.Hb
namespace Go.Hb
end Go.Hb
namespace Go.Hb
end Go.Hb
end
