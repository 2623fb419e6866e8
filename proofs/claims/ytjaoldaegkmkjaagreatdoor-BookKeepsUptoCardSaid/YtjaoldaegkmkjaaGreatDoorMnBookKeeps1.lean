/-
  Walks and plain laws that the law rests on, laid together. No conditions but those that each theorem names.
-/
import Derived.WalkKit
import Derived.OrdersHeld
import Derived.TacticsIn
import Derived.Lib.Strings
import Derived.Lib.UnsafeStr
import Derived.Laws.MakeOwn
import Derived.Laws.StructEq
import Derived.SliceStrings
import Derived.Carry
import Derived.JoinedCond
import Derived.ProofKit
import Derived.OpenShut
import Derived.Test.YtjaoldaegkmkjaaGreatDoorRows
import Derived.Test.YtjaoldaegkmkjaaGreatDoorChecked
import Derived.RangeFuncFrom
import Derived.RangeFuncLeaves
import Derived.Recover
import Derived.Laws.OwnMore
import Derived.Lib.Bytealg
import Derived.OrdersIn
import Derived.Lib.SliceRun
import Derived.Lib.FrozenHead
import Derived.Deep.AppendSrc
import Derived.RangeFuncNested
import Derived.Stop.LaidErr
set_option linter.unusedVariables false
set_option maxRecDepth 20000
set_option maxHeartbeats 1000000
open Array renaming ext_getElem?→Cm,getD_eq_getD_getElem?→g9,getElem?_append_left→Co,getElem?_append_right→Cp,getElem?_eq_getElem→mG,getElem?_eq_none→sA,getElem?_eq_some_iff→eC,getElem?_replicate→Cr,getElem?_setIfInBounds→pZ,length_toList→iB,mem_toList_iff→sC,range→og,replicate→mH,setIfInBounds_comm→xf,toArray_toList→Ct,toList_append→Cu,toList_inj→p7,toList_map→iC
open BitVec renaming ofInt→gB
open Bool renaming and_eq_true→a9,and_eq_true_iff→oh,eq_iff_iff→om,false_eq_true→qe,noConfusion→cB,not_eq_true'→jF,or_eq_true→mI
open Go renaming Addr→bh,Code→bF,Edge→cq,Exit→bo,Func→fN,FuncId→dQ,IntKind→bB,Oper→aC,Operand→aY,Program→ar,TypeId→aq,Value→ag,World→ah
open Go.Addr renaming add→sD
open Go.Builtin renaming append_→jh,firstCells→sF,lenOf→CC,len_→xh
open Go.ByteArray renaming toList_eq→CE
open Go.Calls renaming mono→jG
open Go.CallsD renaming mono→CF
open Go.Code renaming wp_mono→xi
open Go.Conv renaming bytesToString→CH,seenAt→CJ,unsafePointer→CK
open Go.DataW renaming TrodAll→CL
open Go.Deferred renaming ofValue→lk
open Go.Fence renaming wide→iD
open Go.Instr renaming alloc→sG,box→xj,buildSlice→sI,checkKey→jH,fill→jI,findAsking→mJ,findKey→mK,findNow→mL,indexAt→CP,loadAt→CQ,lookup→CR,slice→qh,sliceAt→mM,sliceBound→mN,sliceBounds→jJ,storeAt→xn,sureAddr→mO,typeAssert→CU
open Go.IntKind renaming i64→sJ
open Go.Next renaming value→qi
open Go.Obj.cells renaming injEq→sK
open Go.Op renaming bytesLess→xo,equal→ll,equalIn→gC,intArith→qk,intCmp→ot,intDiv→xp,stringOp→mQ
open Go.Oper renaming upon→iE,uponIn→sL,wp→gi
open Go.Program renaming built→CX,underlying→CY
open Go.Proofs.Tryz renaming prog→ak
open Go.Region renaming Mode→mR,binds→dr,free_spec→xr,noSelect_spec→xu,ready→dG,wanted→ji
open Go.Result renaming andThen_ok→gD,ok→qn
open Go.Rows renaming mono→sM
open Go.Sem renaming run→kj,run_bind→hH,run_ite→sN,run_pure→kn
open Go.Value renaming bool→bl,cells→ow,int→aT,oneCell'→eD,ownBlock→eE,pointer→sO,slice→dH
open Go.Value.slice renaming injEq→ln
open Go.Value.string renaming inj→C0
open Go.World renaming freeze→ko,ownsRow_nil→e7,setCell→C4,shape?→xw
open Int renaming tdiv_eq_ediv_of_nonneg→C6
open List renaming all_eq_true→C8,any_eq_true→C9,eq_nil_of_length_eq_zero→kr,ext_getElem?→sQ,flatMap_cons→ox,foldl_cons→qp,getD_eq_getElem?_getD→cr,getElem?_cons_succ→hO,getElem?_cons_zero→hZ,getElem?_eq_getElem→bG,getElem?_eq_none→lr,getElem?_eq_some_iff→cH,getElem?_map→ks,getElem?_range→xx,getElem?_take→ib,getElem?_toArray→ku,length_append→bQ,length_cons→dd,mapM_toArray→xB,map_cons→eR,mem_append_left→oG,mem_cons→fQ,mem_map_of_mem→qs,mem_of_getElem?→kz,range→lu,range_eq_range'→Dp,replicate→cZ,size_toArray→dY
open List.cons renaming inj→Da
open Nat renaming add_comm→sZ,beq→aN,ble→ba,blt→aD,eq_of_beq_eq_true→bH,le_of_ble_eq_true→bJ,le_refl→aZ,le_trans→cS,lt_of_lt_of_le→lz,lt_or_ge→di,lt_succ_self→lA,mul_le_mul_right→iH,succ_mul→xH,zero_add→cy,zero_mul→td
open Option renaming bind_some→Dz,isSome_iff_exists→lB,map_eq_some_iff→fR,map_some→eS
open Option.some renaming injEq→bD
open Prod renaming fst→fS
open Prod.mk renaming injEq→gk
open UInt8 renaming ofNat→ek,toNat_lt→lD
open Go.Proofs.Tryz
open Go.RowKit

namespace Go.Hb
theorem U {p:Prop} (h:p:=by omega):p:=h
theorem aj {p:Prop} (h:p:=by kernel_rfl):p:=h
theorem aM {p:Prop} (h:p:=by decide):p:=h
theorem J {α:Sort _} {a:α} :a=a:=rfl
end Go.Hb
section
namespace Go.Hb
structure Fm where
 n:Nat
 D:List Deferred
 F:List Nat
 r:Option Nat
def bd (σ:Nat→ag) (d:Nat) (v:ag):Nat→ag:=fun i=>cond (aN i d) v<|σ i
def dc (σ:Nat→ag):Option Nat→ag→Nat→ag
 | some d,v=>bd σ d v
 | none,_=>σ
def act (N:Fm) (σ:Nat→ag):Act:=⟨((lu N.n).map σ).toArray,N.D⟩
def ev (N:Fm) (σ:Nat→ag):aY→ag
 | .tmp t=>cond (aD t N.n) (σ t) undef
 | .const v=>v
 | .global g=> .pointer<|some ⟨g,0,none⟩
 | .func f=> .func (.func f) #[] #[]
theorem ij (N:Fm) (σ:Nat→ag) (t:Nat):(act N σ).tmps[t]? =if t < N.n then some (σ t) else none:=by grind [act]
theorem dk (N:Fm) (σ:Nat→ag):(act N σ).eval=ev N σ:=by
 funext x;cases x with
 | tmp t=>
   simp only [Act.eval,ev,g9,ij];by_cases h:t < N.n
   · rw [if_pos h,show aD t N.n=true from by simpa using h]; rfl
   · rw [if_neg h,show aD t N.n=false from by cases hx:aD t N.n <;> simp_all [aD,Nat.ble_eq] <;> omega]; rfl
 | _=>rfl
theorem qC {a b:Act} (C:a.defers=b.defers) (E:∀ i:Nat,a.tmps[i]? =b.tmps[i]?):a=b:=by
 cases a; cases b;simp only at C E;subst C;congr 1;exact Cm E
theorem eu (N:Fm) (σ:Nat→ag) (dst:Option Nat) (v:ag):(act N σ).put dst v=act N (dc σ dst v):=by
 cases dst with
 | none=>rfl
 | some d=>
   refine qC J fun i=> ?_;have h0:((act N σ).put (some d) v).tmps=(act N σ).tmps.setIfInBounds d v:=rfl;rw [h0,pZ,ij,ij];have E:(act N σ).tmps.size=N.n:=by simp [act]
   simp only [dc,bd];by_cases C:i=d
   · subst C;rw [E];have hb:aN i i=true :=by simp
     by_cases h:i < N.n
     · rw [if_pos rfl,if_pos h,if_pos h,hb]; rfl
     · rw [if_pos rfl,if_neg h,if_neg h]
   · rw [if_neg (fun e=>C e.symm)];have hb:aN i d=false :=by
      cases hx:aN i d
      · rfl
      · exact absurd (bH hx) C
     rw [hb]; rfl
theorem jD {σ:Nat→ag} {i:Nat} {v:ag} (h:σ i=v):bd σ i v=σ:=by grind [bd,aN,bH]
def lift (N:Fm) (Q:bo→(Nat→ag)→ah→Prop):bo→Act→ah→Prop
 | .panic c,a,w=> ∃ σ,a=act N σ∧∀ σ',(∀ i∈N.F,σ' i=σ i)→Q (.panic c) σ' w
 | .outgrown,_,_=>False
 | e,a,w=> ∃ σ,a=act N σ∧Q e σ w
def fe:Option Nat→Fence
 | none=>iD
 | some l=>iD.inRound l
theorem o6 (r:Option Nat):(fe r).round=r:=by cases r <;> rfl
theorem kM (r:Option Nat) (f:dQ):(fe r).fn f:=by cases r <;> trivial
theorem qY (r:Option Nat):(fe r).depth=none:=by cases r <;> rfl
theorem uk {r:Option Nat} {n:Nat} {P:ar} {f:dQ} {args:Array ag} {w:ah} {R:Ending→ah→Prop} (h:Calls P f args w R):CallsIn (fe r) n P f args w R:=by
 cases r
 · exact callsIn_wide.2 h
 · exact (callsIn_wide (n:=n)).2 h
theorem FG {r:Option Nat} {n:Nat} {P:ar} {row:String} {args:Array ag} {w:ah} {R:ag→ah→Prop} (h:Rows P row args w R):RowsIn (fe r) n P row args w R:=fun c cs _=>by
 obtain ⟨v,w',E,C⟩:=h c cs;refine ⟨v,w',E,?_⟩;cases r
 · exact stepsIn_wide.2 C
 · exact stepsIn_wide.2 C
def vb (ops:List aC):Bool:=ops.all fun o=>match o.op with | .defer _=>false | _=>true
def jx (r:Option Nat) (ops:List aC):Bool:=match r with | none=>true | some _=>vb ops
theorem Hh {l:List aC} (h:vb l=true):∀ o∈l,∀ c,o.op≠.defer c:=by grind [vb]
theorem uI {r:Option Nat} {P:ar} {ops:Array aC} {Q:bo→Act→ah→Prop} (C:¬LetsOut Q) (hr:jx r ops.toList=true):∀ (l:List Nat) (a:Act) (w:ah),wpOps P ops Q l a w→wpOpsIn (fe r) 0 P ops Q l a w:=by
 intro l
 induction l with
 | nil=>exact fun _ _ h=>h
 | cons i l ih=>
   intro a w h;simp only [wpOps] at h;simp only [wpOpsIn];cases ho:ops[i]? with
   | none=>simp only [ho] at h ⊢; exact ih a w h
   | some o=>
     simp only [ho] at h ⊢;by_cases hw:ji o (yielded ops a.tmps)=true
     · rw [if_pos hw] at h ⊢;rcases h with h | h
       · refine ⟨fun f _=>kM r f,?_⟩;rw [o6];have E:o.semAt r a.eval=execOp a.eval o:=by
          cases r with
          | none=>rfl
          | some k=>exact Oper.semAt_eq _ _ _<|Hh hr o<|sC.2<|Array.mem_of_getElem? ho
         rw [E];unfold gi at h;generalize (execOp a.eval o).run P w=x at h;cases x with
         | ok n w'=>
           cases n <;> simp only [iE,sL] at h ⊢ <;>
            first
             | exact ih _ _ h
             | (refine ⟨fun h0=>(by rw [qY] at h0; cases h0),CallsIn.mono (uk h) fun e w'' he=> ?_⟩
                cases e <;> first | exact ih _ _ he | exact he)
             | exact ⟨fun h0=>(by rw [qY] at h0; cases h0),RowsIn.mono (FG h) fun v w'' he=>ih _ _ he⟩
         | halt x w'=>cases x <;> simp only [iE,sL] at h ⊢ <;> exact h
       · exact absurd h.2 C
     · rw [if_neg hw] at h ⊢;exact ⟨fun f _=>kM r f,ih _ _ h⟩
def bA (P:ar) (N:Fm) (c:bF) (Q:bo→(Nat→ag)→ah→Prop) (σ:Nat→ag) (w:ah):Prop :=
 c.wpIn (fe N.r) 0 P (lift N Q) (act N σ) w
def bL (P:ar) (N:Fm) (ops:Array aC) (Q:bo→(Nat→ag)→ah→Prop) (l:List aC) (σ:Nat→ag) (w:ah):Prop :=
 wpList P ops (lift N Q) l (act N σ) w
def gA (K:(Nat→ag)→ah→Prop) (Q:bo→(Nat→ag)→ah→Prop):bo→(Nat→ag)→ah→Prop
 | .normal,σ,w=>K σ w
 | e,σ,w=>Q e σ w
def j1 (id:Nat) (Q:bo→(Nat→ag)→ah→Prop):bo→(Nat→ag)→ah→Prop
 | .exit C,σ,w=>if C=id then Q .normal σ w else Q (.exit C) σ w
 | e,σ,w=>Q e σ w
section
variable {P:ar} {N:Fm} {Q:bo→(Nat→ag)→ah→Prop} {σ:Nat→ag} {w:ah} {K:(Nat→ag)→ah→Prop}
theorem GM {Q E:bo→(Nat→ag)→ah→Prop} (h:∀ e σ w,Q e σ w→E e σ w) (e:bo) (a:Act) (w:ah):lift N Q e a w→lift N E e a w:=by
 cases e <;> first | exact fun h=>h.elim | exact fun ⟨σ,ha,C⟩=>⟨σ,ha,h _ _ _ C⟩ | exact fun ⟨σ,ha,C⟩=>⟨σ,ha,fun σ' I=>h _ _ _<|C σ' I⟩
theorem Cc {C:bo→(Nat→ag)→ah→Prop} {c:bF} (h:∀ e σ w,Q e σ w→C e σ w) (E:bA P N c Q σ w):bA P N c C σ w:=
 wpIn_mono E (GM h)
theorem tn (h:K σ w):gA K Q .normal σ w:=h
theorem te (id:Nat) (h:Q (.exit id) σ w):gA K Q (.exit id) σ w:=h
theorem tr (h:Q .ret σ w):gA K Q .ret σ w:=h
theorem bn {id:Nat} (h:Q .normal σ w):j1 id Q .normal σ w:=h
theorem be {id:Nat} (h:Q .normal σ w):j1 id Q (.exit id) σ w:=by simpa only [j1,if_true] using h
theorem D8 {id C:Nat} (E:C≠id) (h:Q (.exit C) σ w):j1 id Q (.exit C) σ w:=by simpa only [j1,if_neg E] using h
theorem br {id:Nat} (h:Q .ret σ w):j1 id Q .ret σ w:=h
theorem sq {x y:bF} (h:∀ K:(Nat→ag)→ah→Prop,(∀ σ w,bA P N y Q σ w→K σ w)→bA P N x (gA K Q) σ w):bA P N (.seq x y) Q σ w:=by
 refine wpIn_seq<|wpIn_mono (h (fun σ w=>bA P N y Q σ w) fun _ _ h=>h) ?_;intro e a w C;cases e with
 | normal=>obtain ⟨σ,rfl,E⟩:=C; exact E
 | panic c=>exact C
 | outgrown=>exact C
 | _=>obtain ⟨σ,rfl,E⟩:=C; exact ⟨σ,rfl,E⟩
theorem ej {x y:bF} (C:(Nat→ag)→ah→Prop) (h:bA P N x (gA C Q) σ w) (J:∀ σ w,C σ w→bA P N y Q σ w):bA P N (.seq x y) Q σ w:=
 sq fun _ I=>Cc (fun e _ _ E=>by cases e <;> first | exact I _ _ (J _ _ E) | exact E) h
theorem ct {c:aY} {x y:bF} (C:ev N σ c= .bool true) (h:bA P N x Q σ w):bA P N (.cond c x y) Q σ w:=
 wpIn_cond_true (by rw [dk]; exact C) h
theorem cf {c:aY} {x y:bF} (C:ev N σ c= .bool false) (h:bA P N y Q σ w):bA P N (.cond c x y) Q σ w:=
 wpIn_cond_false (by rw [dk]; exact C) h
theorem cb {c:aY} {x y:bF} {b:Bool} (C:ev N σ c= .bool b) (I:b=true→bA P N x Q σ w) (E:b=false→bA P N y Q σ w):bA P N (.cond c x y) Q σ w:=by
 cases b
 · exact cf C<|E J
 · exact ct C<|I J
theorem cd {c:aY} {x y:bF} {p:Prop} [Decidable p] (C:ev N σ c= .bool (decide p)) (I:p→bA P N x Q σ w) (E:¬p→bA P N y Q σ w):bA P N (.cond c x y) Q σ w:=by grind [cb]
theorem an {id:Nat} {c:bF} (h:bA P N c (j1 id Q) σ w):bA P N (.block id c) Q σ w:=by
 refine wpIn_block<|wpIn_mono h ?_;intro e a w E;cases e with
 | panic c=>exact E
 | outgrown=>exact E
 | exit I=>
   obtain ⟨σ,rfl,C⟩:=E;simp only [j1,Exit.inBlock] at C ⊢;split
   · rename_i e; rw [if_pos e] at C; exact ⟨σ,rfl,C⟩
   · rename_i e; rw [if_neg e] at C; exact ⟨σ,rfl,C⟩
 | _=>obtain ⟨σ,rfl,C⟩:=E; exact ⟨σ,rfl,C⟩
theorem ext {id:Nat} (h:Q (.exit id) σ w):bA P N (.exit id) Q σ w:=wpIn_exit ⟨σ,rfl,h⟩
theorem Bu (h:Q .normal σ w):bA P N .skip Q σ w:=wpIn_skip ⟨σ,rfl,h⟩
theorem rt (h:Q .ret σ w):bA P N .ret Q σ w:=wpIn_ret ⟨σ,rfl,h⟩
theorem fx {c:bF} {v:ag} (i:Nat) (h:σ i=v) (C:bA P N c Q (bd σ i v) w):bA P N c Q σ w:=by rw [jD h] at C; exact C
def Sl (σ:Nat→ag) (L:List (Nat×ag)):Prop :=L.map (fun p=>σ p.1)=L.map (fun p=>p.2)
def pU (σ:Nat→ag):List (Nat×ag)→Nat→ag
 | []=>σ
 | p::L=>bd (pU σ L) p.1 p.2
theorem wq {σ:Nat→ag} :∀ {L:List (Nat×ag)},Sl σ L→pU σ L=σ
 | [],_=>rfl
 | p::L,h=>by
   have h1:σ p.1=p.2:=(Da h).1;have C:Sl σ L:=(Da h).2;rw [pU,wq C,jD h1]
theorem bC {c:bF} {L:List (Nat×ag)} (h:Sl σ L) (C:bA P N c Q (pU σ L) w):bA P N c Q σ w:=by rw [wq h] at C; exact C
theorem lp {c:bF} (U:Nat→(Nat→ag)→ah→Prop) (n:Nat) (h0:U n σ w)
 (h:∀ n σ w,U n σ w→bA P N c (gA (fun σ' w'=> ∃ m,m < n∧U m σ' w') Q) σ w):bA P N (.loop c) Q σ w:=by
 intro b k cs al hb hr;have key:∀ n σ w,U n σ w→
  ∃ e V w',lift N Q e V w'∧ArrivesIn (Machine.fenced P<|fe N.r) P (lone (b.atR (act N σ) (.code c:: .inLoop c::k)) cs w) b k cs e V w':=by
  intro n
  induction n using Nat.strongRecOn with
  | _ n ih=>
    intro σ w ae;obtain ⟨e,Z,O,L,E⟩:=h n σ w ae b (.inLoop c::k) cs al hb hr;cases e with
    | normal=>
      obtain ⟨C,rfl,m,hm,ai⟩:=L;obtain ⟨ad,ab,am,ak,aj⟩:=ih m hm C O ai;exact ⟨ad,ab,am,ak,.of_steps (StepsIn.trans E<|.one (fenced_calm hb hr J) stepR_inLoop) aj⟩
    | exit id=>obtain ⟨C,rfl,I⟩:=L; exact ⟨.exit id,act N C,O,⟨C,rfl,I⟩,.pass (x:= .inLoop c) rfl (fun _ _=> .inl<|by simp) E⟩
    | goto l=>obtain ⟨C,rfl,I⟩:=L; exact ⟨.goto l,act N C,O,⟨C,rfl,I⟩,.pass (x:= .inLoop c) rfl (fun _ _=> .inl<|by simp) E⟩
    | ret=>obtain ⟨C,rfl,I⟩:=L; exact ⟨.ret,act N C,O,⟨C,rfl,I⟩,.pass (x:= .inLoop c) rfl (fun _ _=> .inl<|by simp) E⟩
    | panic ac=>exact ⟨.panic ac,Z,O,L,.pass (x:= .inLoop c) rfl (fun _ _=> .inl<|by simp) E⟩
    | outgrown=>exact L.elim
 obtain ⟨e,V,w',I,E⟩:=key _ σ w h0;exact ⟨e,V,w',I,.of_steps (.one (fenced_calm hb hr J) stepR_loop) E⟩
def bS (P:ar) (N:Fm) (o:aC) (σ:Nat→ag) (w:ah) (K:(Nat→ag)→ah→Prop):Prop :=
 gi P o (act N σ) w (fun a w=> ∃ σ,a=act N σ∧K σ w) (fun _ _ _=>False)
theorem Jp {o:aC} {a:Act} {K E:Act→ah→Prop} {Q:bo→Act→ah→Prop} (h:∀ a w,K a w→E a w)
 (r:Result Next) (C:o.upon P a K (fun _ _ _=>False) r):o.upon P a E Q r:=by
 cases r with
 | ok n w'=>
   cases n <;> simp only [iE] at C ⊢ <;>
    first
     | exact h _ _ C
     | exact jG C (fun e w'' he=>by
      cases e with
      | returned v=>exact h _ _ he
      | panicked c=>exact he.elim
      | outgrown=>obtain ⟨_,_,I⟩:=he; exact I.elim)
     | exact sM C fun _ _ he=>h _ _ he
 | halt x w'=>cases x <;> simp only [iE] at C ⊢
theorem pW {K:(Nat→ag)→ah→Prop} {C:Act→ah→Prop} {Q:bo→Act→ah→Prop} {o:aC} (h:bS P N o σ w K) (I:∀ σ w,K σ w→C (act N σ) w):o.wp P (act N σ) w C Q:=by
 unfold bS at h;unfold gi at*;exact Jp (fun a w ⟨σ,ha,E⟩=>by subst ha; exact I _ _ E) _ h
theorem Ce {K C:(Nat→ag)→ah→Prop} {o:aC} (h:bS P N o σ w K) (I:∀ σ w,K σ w→C σ w):bS P N o σ w C:=
 pW h (fun σ w E=>⟨σ,rfl,I σ w E⟩)
variable {ops:Array aC} {rest:List aC} {d:Nat} {op:Op} {ty:aq} {pos :String} {af:Array cq} {d':Option Nat} {v:ag} {o:aC}
theorem sw (hg:ji o (yielded ops (act N σ).tmps)=true) (h:bS P N o σ w (fun σ w=>bL P N ops Q rest σ w)):bL P N ops Q (o::rest) σ w:=by
 unfold bL wpList;rw [if_pos hg];exact .inl<|pW h fun _ _ C=>C
theorem g8 {K:(Nat→ag)→ah→Prop} {w':ah} (hr:(execOp (ev N σ) o).run P w= .ok (.value v) w') (C:K (dc σ o.dst v) w'):bS P N o σ w K:=by
 unfold bS gi;rw [dk,hr];exact ⟨_,eu ..,C⟩
theorem fw (o:aC) (hg:o.guard=none) (y:Nat→Option Bool):ji o y=true :=by simp [ji,hg]
def dz (ops:Array aC) (j:Nat):Option Nat:=(ops[j]?).bind (·.dst)
theorem lh {j t:Nat} {want b:Bool} (hg:o.guard=some (j,want)) (C:dz ops j=some t) (E:aD t N.n=true) (I:σ t= .bool b):
 ji o (yielded ops (act N σ).tmps)=(b==want):=by
 have h1:yielded ops (act N σ).tmps j=some b:=by
  unfold yielded;unfold dz at C;rw [C];simp only [Dz,ij];rw [if_pos (lz (lA t)<|bJ E),I]
 simp only [ji,hg,h1];cases b <;> cases want <;> rfl
theorem wR {j t:Nat} {want:Bool} (hg:o.guard=some (j,want)) (C:dz ops j=some t) (E:aD t N.n=true) (I:σ t=undef):
 ji o (yielded ops (act N σ).tmps)=false :=by
 have h1:yielded ops (act N σ).tmps j=none:=by
  unfold yielded;unfold dz at C;rw [C];simp only [Dz,ij];rw [if_pos (lz (lA t)<|bJ E),I]; rfl
 simp only [ji,hg,h1];rfl
theorem p (h:(execOp (ev N σ) ⟨some d,op,ty,pos,af,none⟩).run P w= .ok (.value v) w) (k:bL P N ops Q rest (bd σ d v) w):
 bL P N ops Q (⟨some d,op,ty,pos,af,none⟩::rest) σ w:=
 sw (fw _ rfl _) (g8 h k)
theorem pg {j t:Nat} {want:Bool} (C:dz ops j=some t) (E:aD t N.n=true) (I:σ t= .bool want)
 (h:(execOp (ev N σ) ⟨some d,op,ty,pos,af,some (j,want)⟩).run P w= .ok (.value v) w) (k:bL P N ops Q rest (bd σ d v) w):
 bL P N ops Q (⟨some d,op,ty,pos,af,some (j,want)⟩::rest) σ w:=
 sw (by rw [lh rfl C E I]; cases want <;> rfl) (g8 h k)
theorem sk {j t:Nat} {want b:Bool} (C:dz ops j=some t) (E:aD t N.n=true) (I:σ t= .bool b) (hb:(b==want)=false)
 (k:bL P N ops Q rest (bd σ d undef) w):bL P N ops Q (⟨some d,op,ty,pos,af,some (j,want)⟩::rest) σ w:=by
 unfold bL wpList;rw [if_neg (by rw [lh rfl C E I,hb]; simp),eu];exact k
theorem Bv {j t:Nat} {want:Bool} (C:dz ops j=some t) (E:aD t N.n=true) (I:σ t=undef)
 (k:bL P N ops Q rest (bd σ d undef) w):bL P N ops Q (⟨some d,op,ty,pos,af,some (j,want)⟩::rest) σ w:=by
 unfold bL wpList;rw [if_neg (by rw [wR rfl C E I]; simp),eu];exact k
theorem e (h:bS P N ⟨d',op,ty,pos,af,none⟩ σ w (fun σ w=>bL P N ops Q rest σ w)):bL P N ops Q (⟨d',op,ty,pos,af,none⟩::rest) σ w:=
 sw (fw _ rfl _) h
theorem eg {j t:Nat} {want:Bool} (C:dz ops j=some t) (E:aD t N.n=true) (I:σ t= .bool want)
 (h:bS P N ⟨d',op,ty,pos,af,some (j,want)⟩ σ w (fun σ w=>bL P N ops Q rest σ w)):bL P N ops Q (⟨d',op,ty,pos,af,some (j,want)⟩::rest) σ w:=by grind [sw,lh]
theorem nl (h:Q .normal σ w):bL P N ops Q [] σ w:=⟨σ,rfl,h⟩
theorem uS:¬LetsOut (lift N Q):=fun ⟨_,_,h⟩=>h
theorem rg {id:Nat} {l:List aC} (hr:jx N.r l=true) (h:bL P N l.toArray Q l σ w):bA P N (.region id l.toArray false) Q σ w:=by
 refine wpIn_region<|uI uS hr _ _ _ ?_;have h1:=wpOps_eq_wpList (P:=P) (ops:=l.toArray) (Q:=lift N Q) l 0 fun j=>by simp
 rw [Dp,dY,h1];exact h
theorem gs {l:List aC} {t:Nat} {q:Prop} [Decidable q] (h:σ t= .bool (decide q)) (I:q→bL P N ops Q l (bd σ t<|.bool true) w) (E:¬q→bL P N ops Q l (bd σ t<|.bool false) w):bL P N ops Q l σ w:=by
 by_cases C:q
 · have :=I C; rwa [jD (by rw [h,decide_eq_true C])] at this
 · have :=E C; rwa [jD (by rw [h,decide_eq_false C])] at this
theorem gb {l:List aC} {t:Nat} {b:Bool} (h:σ t= .bool b) (E:b=true→bL P N ops Q l (bd σ t<|.bool true) w) (C:b=false→bL P N ops Q l (bd σ t<|.bool false) w):bL P N ops Q l σ w:=by
 cases b
 · have :=C rfl; rwa [jD h] at this
 · have :=E rfl; rwa [jD h] at this
def cj (P:ar) (N:Fm) (ops:Array aC) (Q:bo→(Nat→ag)→ah→Prop) (S:ah→Prop) (fuel:Nat) (listed:Array Bool) (σ:Nat→ag) (w:ah):Prop :=
 wpAnyH P .any ops (lift N Q) S fuel listed (act N σ) w
variable {S:ah→Prop} {fuel:Nat} {listed:Array Bool}
theorem xU {id:Nat} {l:List aC} (hr:jx N.r l=true) (hm:P.follows .mixedOrders=true) (h:wpAny P .any l.toArray (lift N Q) l.toArray.size (mH l.toArray.size false) (act N σ) w.drew):bA P N (.region id l.toArray true) Q σ w:=by
 refine wpIn_region_draw fun t=>uI uS hr _ _ _ ?_;simp only [Region.schedule,hm,Bool.true_or,if_true];exact wpAny_sound _ t _ _ _ h
theorem bg {id:Nat} {l:List aC} (S:ah→Prop) (hr:jx N.r l=true) (hm:P.follows .mixedOrders=true) (C:S w.drew) (h:cj P N l.toArray Q S l.length (mH l.length false) σ w.drew):bA P N (.region id l.toArray true) Q σ w:=
 xU hr hm (wpAny_of_held _ _ _ _<|by rw [dY]; exact h)
def vh (F:List Nat) (d:Option Nat):Bool:=match d with | some d=> !(F.contains d) | none=>true
def dU (F:List Nat) (ops:Array aC) (listed:Array Bool) (i:Nat):Bool:=
 Region.noSelect ops && Region.free .any ops listed i && (dG .any ops listed).contains i && vh F ((ops[i]?).bind (·.dst))
theorem lY {d:Option Nat} {v:ag} (C:vh N.F d=true) (c:List PanicEntry) (a:Act) (w:ah):lift N Q (.panic c) (a.put d v) w→lift N Q (.panic c) a w:=by
 rintro ⟨σ,ha,h⟩;cases d with
 | none=>exact ⟨σ,ha,h⟩
 | some d=>
   have O:a.tmps.size=N.n:=by
    have :=congrArg (fun x:Act=>x.tmps.size) ha;simpa [Act.put,act] using this
   have I:a.defers=N.D:=congrArg (fun x:Act=>x.defers) ha;have J:∀ i:Nat,i≠d→a.tmps[i]? =if i < N.n then some (σ i) else none:=fun i hi=>by
    have h1:(a.put (some d) v).tmps[i]? =a.tmps[i]? :=by
     show (a.tmps.setIfInBounds d v)[i]? =_;rw [pZ,if_neg (fun e=>hi e.symm)]
    rw [← h1,ha,ij]
   refine ⟨fun i=>if i < N.n then a.tmps.getD i undef else σ i,qC I fun i=> ?_,fun σ' E=>h σ' fun i hi=> ?_⟩
   · rw [ij];by_cases h1:i < N.n
     · rw [if_pos h1,if_pos h1,g9,mG U]; rfl
     · rw [if_neg h1,sA U]
   · have L:i≠d:=by
      rintro rfl;simp only [vh,jF,List.contains_eq_mem,decide_eq_false_iff_not] at C;exact C hi
     rw [E i hi];by_cases h1:i < N.n
     · simp only [if_pos h1];rw [g9,J i L,if_pos h1]; rfl
     · simp only [if_neg h1]
theorem hp (i:Nat) (hi:ops[i]? =some ⟨some d,op,ty,pos,af,none⟩) (C:dU N.F ops listed i=true)
 (I:∀ w,S w→(execOp (ev N σ) ⟨some d,op,ty,pos,af,none⟩).run P w= .ok (.value v) w) (E:S w)
 (k:cj P N ops Q S fuel (listed.setIfInBounds i true) (bd σ d v) w):cj P N ops Q S (fuel+1) listed σ w:=by
 simp only [dU,a9] at C;refine wpAnyH_take hi C.1.1.1 C.1.1.2 C.1.2 (fun c a w=>lY (by have :=C.2; rwa [hi] at this) c a w) (.inl ⟨fw _ rfl _,fun w E=> ?_⟩) E ?_ (v:=v)
 · rw [dk]; exact I w E
 · rw [eu]; exact k
theorem zP (i:Nat) {j t:Nat} {want:Bool} (hi:ops[i]? =some ⟨some d,op,ty,pos,af,some (j,want)⟩) (C:dU N.F ops listed i=true)
 (I:dz ops j=some t) (L:aD t N.n=true) (O:σ t= .bool want)
 (U:∀ w,S w→(execOp (ev N σ) ⟨some d,op,ty,pos,af,some (j,want)⟩).run P w= .ok (.value v) w) (E:S w)
 (k:cj P N ops Q S fuel (listed.setIfInBounds i true) (bd σ d v) w):cj P N ops Q S (fuel+1) listed σ w:=by
 simp only [dU,a9] at C;refine wpAnyH_take hi C.1.1.1 C.1.1.2 C.1.2 (fun c a w=>lY (by have :=C.2; rwa [hi] at this) c a w) (.inl ⟨by rw [lh J I L O]; cases want <;> rfl,fun w E=> ?_⟩) E ?_ (v:=v)
 · rw [dk]; exact U w E
 · rw [eu]; exact k
theorem q9 (i:Nat) {j t:Nat} {want b:Bool} (hi:ops[i]? =some ⟨some d,op,ty,pos,af,some (j,want)⟩) (C:dU N.F ops listed i=true)
 (I:dz ops j=some t) (L:aD t N.n=true) (O:σ t= .bool b) (hb:(b==want)=false) (E:S w)
 (k:cj P N ops Q S fuel (listed.setIfInBounds i true) (bd σ d undef) w):cj P N ops Q S (fuel+1) listed σ w:=by
 simp only [dU,a9] at C;refine wpAnyH_take hi C.1.1.1 C.1.1.2 C.1.2 (fun c a w=>lY (by have :=C.2; rwa [hi] at this) c a w) (.inr ⟨by rw [lh J I L O,hb],J⟩) E ?_ (v:=undef);rw [eu]; exact k
theorem F8 (i:Nat) {j t:Nat} {want:Bool} (hi:ops[i]? =some ⟨some d,op,ty,pos,af,some (j,want)⟩) (C:dU N.F ops listed i=true)
 (I:dz ops j=some t) (L:aD t N.n=true) (O:σ t=undef) (E:S w)
 (k:cj P N ops Q S fuel (listed.setIfInBounds i true) (bd σ d undef) w):cj P N ops Q S (fuel+1) listed σ w:=by
 simp only [dU,a9] at C;refine wpAnyH_take hi C.1.1.1 C.1.1.2 C.1.2 (fun c a w=>lY (by have :=C.2; rwa [hi] at this) c a w) (.inr ⟨wR J I L O,J⟩) E ?_ (v:=undef);rw [eu]; exact k
def iu (ops:Array aC) (listed:Array Bool) (i:Nat):Bool:=(dG .any ops listed)== [i]
theorem he (i:Nat) (hi:ops[i]? =some ⟨d',op,ty,pos,af,none⟩) (hr:iu ops listed i=true)
 (h:bS P N ⟨d',op,ty,pos,af,none⟩ σ w (fun σ w=>S w∧cj P N ops Q S fuel (listed.setIfInBounds i true) σ w)):cj P N ops Q S (fuel+1) listed σ w:=by
 refine wpAnyH_all (rs:= [i]) (by simpa [iu] using hr) (by simp) ?_;intro k C;obtain rfl :k=i:=by simpa using C
 unfold wpOp;simp only [hi];rw [if_pos (fw _ rfl _)];exact .inl<|pW h fun _ _ C=>C
theorem nt (i:Nat) {j t:Nat} {want:Bool} (hi:ops[i]? =some ⟨d',op,ty,pos,af,some (j,want)⟩) (hr:iu ops listed i=true)
 (E:dz ops j=some t) (I:aD t N.n=true) (J:σ t= .bool want)
 (h:bS P N ⟨d',op,ty,pos,af,some (j,want)⟩ σ w (fun σ w=>S w∧cj P N ops Q S fuel (listed.setIfInBounds i true) σ w)):cj P N ops Q S (fuel+1) listed σ w:=by
 refine wpAnyH_all (rs:= [i]) (by simpa [iu] using hr) (by simp) ?_;intro k C;obtain rfl :k=i:=by simpa using C
 unfold wpOp;simp only [hi];rw [if_pos (by rw [lh rfl E I J]; cases want <;> rfl)];exact .inl<|pW h fun _ _ C=>C
theorem hn (hr:(dG .any ops listed).isEmpty=true) (h:Q .normal σ w):cj P N ops Q S fuel listed σ w:=
 wpAnyH_done (by simpa using hr) ⟨σ,rfl,h⟩ fuel
theorem kO {t:Nat} {q:Prop} [Decidable q] (h:σ t= .bool (decide q)) (I:q→cj P N ops Q S fuel listed (bd σ t<|.bool true) w) (E:¬q→cj P N ops Q S fuel listed (bd σ t<|.bool false) w):cj P N ops Q S fuel listed σ w:=by
 by_cases C:q
 · have :=I C; rwa [jD (by rw [h,decide_eq_true C])] at this
 · have :=E C; rwa [jD (by rw [h,decide_eq_false C])] at this
theorem zO {t:Nat} {b:Bool} (h:σ t= .bool b) (E:b=true→cj P N ops Q S fuel listed (bd σ t<|.bool true) w) (C:b=false→cj P N ops Q S fuel listed (bd σ t<|.bool false) w):cj P N ops Q S fuel listed σ w:=by
 cases b
 · have :=C rfl; rwa [jD h] at this
 · have :=E rfl; rwa [jD h] at this
end
def bc (P:ar) (f:dQ) (args:Array ag) (w:ah) (R:ag→ah→Prop):Prop :=
 Calls P f args w fun e w'=> ∃ v,e= .returned v∧R v w'
theorem bc.mono {P:ar} {f:dQ} {args:Array ag} {w:ah} {R C:ag→ah→Prop} (h:bc P f args w R) (hr:∀ v w',R v w'→C v w'):bc P f args w C:=
 jG h fun _ _ ⟨v,he,E⟩=>⟨v,he,hr _ _ E⟩
def dh (args:List ag):Nat→ag:=fun i=>args.getD i undef
def fin (P:ar) (fn:fN) (N:Fm) (R:ag→ah→Prop):bo→(Nat→ag)→ah→Prop
 | .normal,σ,w=> ∃ v,(results fn (act N σ).tmps).run P w= .ok v w∧R v w
 | .ret,σ,w=> ∃ v,(results fn (act N σ).tmps).run P w= .ok v w∧R v w
 | _,_,_=>False
theorem enter {P:ar} {f:dQ} {N:Nat} {fn:fN} {c:bF} {args:List ag} {w:ah} {R:ag→ah→Prop} (V:P.funcs[f]? =some fn) (hb:fn.body=some c)
 (O:fn.ntmps=N) (hn:ba args.length N=true) (h:bA P ⟨N,[],[],none⟩ c (fin P fn ⟨N,[],[],none⟩ R) (dh args) w):bc P f args.toArray w R:=by
 subst O;refine calls_of_wp V hb ?_;have ha:({tmps:=args.toArray++mH (fn.ntmps - args.toArray.size) undef,defers:= []} :Act)=act ⟨fn.ntmps,[],[],none⟩ (dh args):=by
  have Z:args.length≤fn.ntmps:=by simpa using hn
  refine qC J fun i=> ?_;rw [ij];simp only [dh,cr,dY];by_cases h1:i < args.length
  · rw [Co (by simpa using h1),if_pos U];simp [h1]
  · rw [Cp (by simpa using h1)];simp only [dY,Cr];by_cases L:i < fn.ntmps
    · rw [if_pos U,if_pos L,lr U]; rfl
    · rw [if_neg U,if_neg L]
 rw [ha];refine xi ?_<|wpIn_wide.1 h;intro e a w C;cases e with
 | normal=>obtain ⟨σ,rfl,v,hr,I⟩:=C; exact ⟨rfl,v,hr,v,rfl,I⟩
 | ret=>obtain ⟨σ,rfl,v,hr,I⟩:=C; exact ⟨rfl,v,hr,v,rfl,I⟩
 | exit id=>obtain ⟨σ,rfl,E⟩:=C; exact E.elim
 | goto l=>obtain ⟨σ,rfl,E⟩:=C; exact E.elim
 | panic c=>obtain ⟨σ,rfl,E⟩:=C; exact (E σ fun _ _=>rfl).elim
 | outgrown=>exact C.elim
section
variable {P:ar} {N:Fm} {σ:Nat→ag} {w:ah} {fn:fN} {R:ag→ah→Prop}
theorem n7 (t:Nat):(act N σ).tmps.getD t undef=ev N σ (.tmp t):=by
 rw [← dk]; rfl
theorem f0 (h:fn.results= #[]) (C:R (.tuple #[]) w):fin P fn N R .normal σ w:=⟨_,results_none h _ _ _,C⟩
theorem f1 {t:Nat} {v:ag} (h:fn.results= #[.tmp t]) (E:ev N σ (.tmp t)=v) (C:R v w):fin P fn N R .ret σ w:=
 ⟨v,by rw [results_tmp h,n7,E],C⟩
theorem f2 {t u:Nat} {v C:ag} (h:fn.results= #[.tmp t,.tmp u]) (I:ev N σ (.tmp t)=v) (hu:ev N σ (.tmp u)=C) (E:R (.tuple #[v,C]) w):fin P fn N R .ret σ w:=
 ⟨_,by rw [results_tmp2 h,n7,n7,I,hu],E⟩
theorem f3 {t u s:Nat} {v C E:ag} (h:fn.results= #[.tmp t,.tmp u,.tmp s]) (L:ev N σ (.tmp t)=v) (hu:ev N σ (.tmp u)=C) (J:ev N σ (.tmp s)=E) (I:R (.tuple #[v,C,E]) w):fin P fn N R .ret σ w:=by
 refine ⟨_,?_,I⟩;simp only [results,h];subst L hu J;simp only [← n7];simp [xB]
end
attribute [irreducible] bL bA cj bS
end Go.Hb
namespace Go.Hb
def au (h:Array Obj) (b off :Nat):Option ag:=
 match h[b]? with
 | some (.cells c _ _)=>c[off]?
 | _=>none
theorem iP (w:ah) (b off :Nat):w.cell? ⟨b,off,none⟩=au w.heap b off :=by
 unfold World.cell? au;simp only;split <;> simp_all
theorem bV {h:Array Obj} {b off :Nat} {c:Array ag} {t:aq} {f:Nat×Nat} (hb:h[b]? =some (.cells c t f)):au h b off =c[off]? :=by
 simp only [au,hb]
theorem Eo {h:Array Obj} {b off :Nat} {v:ag} (C:au h b off =some v):b < h.size:=by grind [au]
structure Md (F:Nat→Prop) (w w':ah):Prop where
 os:w'.os=w.os
 output:w'.output=w.output
 size:w.heap.size≤w'.heap.size
 eW:∀ k,k < w.heap.size→¬F k→w'.heap[k]? =w.heap[k]?
abbrev Wk (w w':ah):Prop :=Md (fun _=>False) w w'
theorem Md.refl (F:Nat→Prop) (w:ah):Md F w w:=⟨rfl,rfl,aZ _,fun _ _ _=>rfl⟩
theorem Md.drew {F:Nat→Prop} {w w':ah} (h:Md F w w'):Md F w w'.drew:=⟨h.os,h.output,h.size,h.eW⟩
theorem Md.mono {F G:Nat→Prop} {w w':ah} (h:Md F w w') (I:∀ k,k < w.heap.size→F k→G k):Md G w w':=
 ⟨h.os,h.output,h.size,fun k C hg=>h.eW k C fun E=>hg<|I k C E⟩
theorem Md.trans {F:Nat→Prop} {a b c:ah} (h:Md F a b) (h':Md F b c):Md F a c:=
 ⟨h'.os.trans h.os,h'.output.trans h.output,cS h.size h'.size,fun k E C=>(h'.eW k (lz E h.size) C).trans<|h.eW k E C⟩
theorem Md.trans' {F G:Nat→Prop} {a b c:ah} (h:Md F a b) (h':Md G b c) (hg:∀ k,k < a.heap.size→G k→F k):Md F a c:=
 ⟨h'.os.trans h.os,h'.output.trans h.output,cS h.size h'.size,
  fun k C E=>(h'.eW k (lz C h.size) fun x=>E<|hg k C x).trans (h.eW k C E)⟩
theorem Md.an {F:Nat→Prop} {w w':ah} (h:Md F w w') {k:Nat} {o:Obj} (C:w.heap[k]? =some o) (E:¬F k):w'.heap[k]? =some o:=
 (h.eW k (eC.1 C).1 E).trans C
theorem Md.au {F:Nat→Prop} {w w':ah} (h:Md F w w') {b off :Nat} {v:ag} (C:Hb.au w.heap b off =some v) (E:¬F b):Hb.au w'.heap b off =some v:=by
 have :=h.eW b (Eo C) E;unfold Hb.au at*;rw [this]; exact C
theorem Wk.au {w w':ah} (h:Wk w w') {b off :Nat} {v:ag} (C:Hb.au w.heap b off =some v):Hb.au w'.heap b off =some v:=Md.au h C id
theorem Wk.an {w w':ah} (h:Wk w w') {k:Nat} {o:Obj} (C:w.heap[k]? =some o):w'.heap[k]? =some o:=Md.an h C id
structure Nw (w w':ah):Prop where
 md:Wk w w'
 size:w'.heap.size=w.heap.size+1
 one:∃ o,w'= {w with heap:=w.heap.push o}
theorem Hm (w:ah) (o:Obj):Nw w {w with heap:=w.heap.push o} :=
 ⟨⟨rfl,rfl,by simp,fun k C _=>by show (w.heap.push o)[k]? =_; rw [Array.getElem?_push,if_neg U]⟩,by simp,o,rfl⟩
def cN (P:ar) (t:aq):Option (Option Nat):=
 match P.underlying t with
 | some (.struct _) | some (.array _ _)=>((P.info? t).map (·.size)).map some
 | some _=>some none
 | none=>none
def lQ (P:ar) (s f:Nat):Option Nat:=
 match P.underlying s with
 | some (.struct C)=>match C[f]? with
   | some fd=>match P.info? fd.type with
     | some i=>if i.size=0 then none else some fd.offset
     | none=>none
   | none=>none
 | _=>none
def cT (P:ar) (t:aq):Option Nat:=
 match P.underlying t with
 | some (.slice e)=>(P.info? e).map (·.size)
 | _=>none
section
variable {P:ar} {N:Fm} {σ:Nat→ag} {w:ah} {dst:Option Nat} {ty:aq} {pos :String} {af:Array cq} {g:Option (Nat×Bool)} {x y z:aY}
theorem bp {t:aq} {d:TypeDesc} (h:P.underlying t=some d) (w:ah):(underlying t).run P w= .ok d w:=by
 simp [underlying,h]
theorem cU {t:aq} {i:TypeInfo} (h:P.info? t=some i) (w:ah):(typeInfo t).run P w= .ok i w:=by
 simp [typeInfo,h]
theorem mv:(execOp (ev N σ) ⟨dst,.move x,ty,pos,af,g⟩).run P w= .ok (.value<|ev N σ x) w:=rfl
theorem aR:(execOp (ev N σ) ⟨dst,.assign x,ty,pos,af,g⟩).run P w= .ok (.value<|ev N σ x) w:=rfl
theorem rC (v:ag) (h:ev N σ x=v):(execOp (ev N σ) ⟨dst,.move x,ty,pos,af,g⟩).run P w= .ok (.value v) w:=by rw [← h]; rfl
theorem D5 (v:ag) (h:ev N σ x=v):(execOp (ev N σ) ⟨dst,.assign x,ty,pos,af,g⟩).run P w= .ok (.value v) w:=by rw [← h]; rfl
theorem pF {c:aY} (C:ev N σ c= .bool true):(execOp (ev N σ) ⟨dst,.pick c x y,ty,pos,af,g⟩).run P w= .ok (.value<|ev N σ x) w:=by
 simp [execOp,C,asBool]
theorem rL {c:aY} (C:ev N σ c= .bool false):(execOp (ev N σ) ⟨dst,.pick c x y,ty,pos,af,g⟩).run P w= .ok (.value<|ev N σ y) w:=by
 simp [execOp,C,asBool]
theorem nc {a:bh} (C:ev N σ x= .pointer (some a)):(execOp (ev N σ) ⟨dst,.nilCheck x,ty,pos,af,g⟩).run P w= .ok (.value<|.pointer<|some a) w:=by
 simp [execOp,C]
theorem xt {i:Nat} {vs:Array ag} {v:ag} (E:ev N σ x= .tuple vs) (C:vs[i]? =some v):(execOp (ev N σ) ⟨dst,.extract x i,ty,pos,af,g⟩).run P w= .ok (.value v) w:=by
 simp [execOp,E,Instr.extract,C]
theorem fa {s f n b off :Nat} (C:lQ P s f=some n) (J:ev N σ x= .pointer (some ⟨b,off,none⟩)):
 (execOp (ev N σ) ⟨dst,.fieldAddr s x f,ty,pos,af,g⟩).run P w= .ok (.value<|.pointer<|some ⟨b,off+n,none⟩) w:=by
 unfold lQ at C;split at C
 · rename_i O hu;split at C
   · rename_i fd I;split at C
     · rename_i i hi;split at C
       · cases C
       · rename_i L;cases C;have E:(⟨b,off,none⟩:bh).add fd.offset=⟨b,off+fd.offset,none⟩:=by unfold sD; split <;> simp_all
         simp [execOp,Instr.fieldAt,bp hu,I,J,mO,fieldPlace,sizeOf,cU hi,L,E]
     · cases C
   · cases C
 · cases C
theorem ld {t b off :Nat} {v:ag} (hu:cN P t=some none) (I:ev N σ x= .pointer (some ⟨b,off,none⟩)) (C:au w.heap b off =some v):
 (execOp (ev N σ) ⟨dst,.load t x,ty,pos,af,g⟩).run P w= .ok (.value v) w:=by
 have E:w.cell? ⟨b,off,none⟩=some v:=by rw [iP]; exact C
 unfold cN at hu;cases hd:P.underlying t with
 | none=>rw [hd] at hu; cases hu
 | some d=>
   rw [hd] at hu;cases d <;> first
    | (simp only [fR] at hu; obtain ⟨_,_,h⟩:=hu; cases h; done)
    | simp [execOp,CQ,I,mO,loadVar,isAgg,bp hd,run_load,E]
theorem fh (b off j:Nat):(⟨b,off,none⟩:bh).add j=⟨b,off+j,none⟩:=by
 unfold sD; split <;> simp_all
theorem dn {t n b off :Nat} {cs:List ag} (hu:cN P t=some (some n)) (L:ev N σ x= .pointer (some ⟨b,off,none⟩)) (J:cs.length=n)
 (E:∀ j,j < n→au w.heap b (off+j)=cs[j]?):
 (execOp (ev N σ) ⟨dst,.load t x,ty,pos,af,g⟩).run P w= .ok (.value<|.agg cs.toArray) w:=by
 have I:(loadCells ⟨b,off,none⟩ n).run P w= .ok cs.toArray w:=by
  subst J;refine run_loadCells_list (P:=P) w ⟨b,off,none⟩ cs fun j v C=> ?_;rw [fh,iP];exact (E j (cH.1 C).1).trans C
 unfold cN at hu;cases hd:P.underlying t with
 | none=>rw [hd] at hu; cases hu
 | some d=>
   rw [hd] at hu;cases hi:P.info? t with
   | none=>simp [CY,hi] at hd
   | some i=>
     rw [hi] at hu;cases d <;> first
      | (cases hu; done)
      | (simp only [eS,bD] at hu; subst hu
         simp [execOp,CQ,L,mO,loadVar,isAgg,bp hd,sizeOf,cU hi,I])
theorem ia {t n b off len cap:Nat} {k:bB} {i:Int} (he:cT P t=some n) (C:ev N σ x= .slice (some ⟨b,off,none⟩) len cap) (E:ev N σ y= .int k i) (h0:0≤i∧i < len):
 (execOp (ev N σ) ⟨dst,.indexAddr t x y,ty,pos,af,g⟩).run P w= .ok (.value<|.pointer<|some ⟨b,off+i.toNat*n,none⟩) w:=by
 unfold cT at he;cases hd:P.underlying t with
 | none=>rw [hd] at he; cases he
 | some d=>
   rw [hd] at he;cases d <;> first | (cases he; done) | skip
   rename_i e;cases hi:P.info? e with
   | none=>simp [hi] at he
   | some j=>
     simp only [hi,eS,bD] at he;subst he;simp [execOp,CP,C,E,asIntOf,bp hd,h0.1,h0.2,sizeOf,cU hi,fh]
def dN (a:Option bh) (cap l n:Nat):Option bh:=if cap=l then a else a.map (·.add (l*n))
theorem vS {t n len cap:Nat} {a:Option bh} {lo hi:Option ag} {l h:Nat} (he:cT P t=some n) (I:ev N σ x= .slice a len cap)
 (hb:(jJ true len cap lo hi none).run P w= .ok (l,h,cap) w) (C E:Option aY) (J:C.map (ev N σ)=lo) (L:E.map (ev N σ)=hi):
 (execOp (ev N σ) ⟨dst,.slice t x C E none,ty,pos,af,g⟩).run P w= .ok (.value<|.slice (dN a cap l n) (h - l)<|cap - l) w:=by
 unfold cT at he;cases hd:P.underlying t with
 | none=>rw [hd] at he; cases he
 | some d=>
   rw [hd] at he;cases d <;> first | (cases he; done) | skip
   rename_i e;cases hi':P.info? e with
   | none=>simp [hi'] at he
   | some j=>
     simp only [hi',eS,bD] at he;subst he;simp [execOp,mM,qh,I,J,L,bp hd,hb,sizeOf,cU hi',dN]
theorem vT {t n len cap:Nat} {a:Option bh} {k:bB} {i:Int} (he:cT P t=some n) (E:ev N σ x= .slice a len cap) (I:ev N σ z= .int k i) (h0:0≤i∧i≤cap):
 (execOp (ev N σ) ⟨dst,.slice t x none (some z) none,ty,pos,af,g⟩).run P w= .ok (.value<|.slice a i.toNat cap) w:=by
 have :=vS (dst:=dst) (ty:=ty) (pos :=pos) (af:=af) (g:=g) (w:=w) (lo:=none) (hi:=some<|.int k i) (l:=0) (h:=i.toNat) he E
  (by simp [jJ,mN,asIntOf,h0.1,h0.2]) none (some z) rfl (by simp [I])
 rw [this];have C:dN a cap 0 n=a:=by
  unfold dN; split
  · rfl
  · cases a <;> simp [sD]
 rw [C]; rfl
theorem vU {t n len cap:Nat} {a:Option bh} {k:bB} {i:Int} (he:cT P t=some n) (C:ev N σ x= .slice a len cap) (E:ev N σ y= .int k i) (h0:0≤i∧i≤len):
 (execOp (ev N σ) ⟨dst,.slice t x (some y) none none,ty,pos,af,g⟩).run P w= .ok (.value<|.slice (dN a cap i.toNat n) (len - i.toNat)<|cap - i.toNat) w:=
 vS (lo:=some<|.int k i) (hi:=none) he C
  (by simp [jJ,mN,asIntOf,h0.1,h0.2]) (some y) none (by simp [E]) rfl
theorem vR {t n len cap:Nat} {a:Option bh} {k C:bB} {i j:Int} (he:cT P t=some n) (I:ev N σ x= .slice a len cap) (J:ev N σ y= .int k i) (L:ev N σ z= .int C j) (h0:0≤i∧i≤j∧j≤cap):
 (execOp (ev N σ) ⟨dst,.slice t x (some y) (some z) none,ty,pos,af,g⟩).run P w= .ok (.value<|.slice (dN a cap i.toNat n) (j.toNat - i.toNat)<|cap - i.toNat) w:=by
 have h1:0≤j:=U;have E:i≤(j.toNat:Int):=U;refine vS (lo:=some<|.int k i) (hi:=some<|.int C j) he I ?_ (some y) (some z) (by simp [J])<|by simp [L]
 simp only [jJ,mN,asIntOf,hH,kn,gD,sN,h0.1,h1,h0.2.2,E,and_self,if_true]
theorem iA {n:Int} (h: -9223372036854775808≤n∧n≤9223372036854775807):sJ.wrap n=n:=IntWalk.i64_in n h
theorem wS {n:Int} (h: -2147483648≤n∧n≤2147483647):IntKind.i32.wrap n=n:=IntWalk.i32_in n h
theorem wV {n:Int} (h:0≤n∧n≤255):IntKind.u8.wrap n=n:=IntWalk.u8_in n h
theorem Cf {n:Int} (h:0≤n∧n≤4294967295):IntKind.u32.wrap n=n:=IntWalk.u32_in n h
theorem gh {n:Int} (h:0≤n∧n≤18446744073709551615):IntKind.u64.wrap n=n:=IntWalk.u64_in n h
theorem iv {k:bB} {a b:Int} (h:a=b):aT k a=aT k b:=by rw [h]
theorem ad {t t':aq} {k:bB} {a b:Int} (C:ev N σ x= .int k a) (E:ev N σ y= .int k b) (hr:k.wrap (a+b)=a+b):
 (execOp (ev N σ) ⟨dst,.binOp .add t x y t',ty,pos,af,g⟩).run P w= .ok (.value<|.int k<|a+b) w:=by
 simp [execOp,C,E,eqGuard,binOp,qk,hr]
theorem tv {t t':aq} {k:bB} {a b:Int} (v:Int) (C:ev N σ x= .int k a) (E:ev N σ y= .int k b) (hr:k.wrap (a+b)=v):
 (execOp (ev N σ) ⟨dst,.binOp .add t x y t',ty,pos,af,g⟩).run P w= .ok (.value<|.int k v) w:=by
 subst hr; simp [execOp,C,E,eqGuard,binOp,qk]
theorem vC {t t':aq} {k:bB} {a b:Int} (v:Int) (C:ev N σ x= .int k a) (E:ev N σ y= .int k b) (hr:k.wrap (a - b)=v):
 (execOp (ev N σ) ⟨dst,.binOp .sub t x y t',ty,pos,af,g⟩).run P w= .ok (.value<|.int k v) w:=by
 subst hr; simp [execOp,C,E,eqGuard,binOp,qk]
theorem u7 {t t':aq} {k:bB} {a b:Int} (v:Int) (C:ev N σ x= .int k a) (E:ev N σ y= .int k b) (hr:k.wrap (a*b)=v):
 (execOp (ev N σ) ⟨dst,.binOp .mul t x y t',ty,pos,af,g⟩).run P w= .ok (.value<|.int k v) w:=by
 subst hr; simp [execOp,C,E,eqGuard,binOp,qk]
theorem wQ {a:Int} {n:Nat} (h:a=n) (hn:n≤9223372036854775807):sJ.wrap a=(n:Int):=by rw [h]; exact iA U
theorem bv {p q:Prop} [Decidable p] [Decidable q] (h:p↔q):bl (decide p)=bl (decide q):=by rw [decide_eq_decide.2 h]
theorem sb {t t':aq} {k:bB} {a b:Int} (C:ev N σ x= .int k a) (E:ev N σ y= .int k b) (hr:k.wrap (a - b)=a - b):
 (execOp (ev N σ) ⟨dst,.binOp .sub t x y t',ty,pos,af,g⟩).run P w= .ok (.value<|.int k<|a - b) w:=by
 simp [execOp,C,E,eqGuard,binOp,qk,hr]
theorem qu {t t':aq} {k:bB} {a b:Int} (C:ev N σ x= .int k a) (E:ev N σ y= .int k b) (h0:0≤a∧0 < b) (hr:k.wrap (a / b)=a / b):
 (execOp (ev N σ) ⟨dst,.binOp .quo t x y t',ty,pos,af,g⟩).run P w= .ok (.value<|.int k<|a / b) w:=by
 have :a.tdiv b=a / b:=C6 h0.1;simp [execOp,C,E,eqGuard,binOp,xp,show b≠0 from by omega,this,hr]
theorem HE {t t':aq} {k:bB} {a b:Int} (v:Int) (C:ev N σ x= .int k a) (E:ev N σ y= .int k b) (h0:0≤a∧0 < b) (hr:k.wrap (a / b)=v):
 (execOp (ev N σ) ⟨dst,.binOp .quo t x y t',ty,pos,af,g⟩).run P w= .ok (.value<|.int k v) w:=by
 have :a.tdiv b=a / b:=C6 h0.1;subst hr; simp [execOp,C,E,eqGuard,binOp,xp,show b≠0 from by omega,this]
theorem rm {t t':aq} {k:bB} {a b:Int} (C:ev N σ x= .int k a) (E:ev N σ y= .int k b) (h0:0≤a∧0 < b):
 (execOp (ev N σ) ⟨dst,.binOp .rem t x y t',ty,pos,af,g⟩).run P w= .ok (.value<|.int k<|a % b) w:=by
 have :a.tmod b=a % b:=Int.tmod_eq_emod_of_nonneg h0.1;simp [execOp,C,E,eqGuard,binOp,xp,show b≠0 from by omega,this]
theorem lt {t t':aq} {k:bB} {a b:Int} (C:ev N σ x= .int k a) (E:ev N σ y= .int k b):
 (execOp (ev N σ) ⟨dst,.binOp .lss t x y t',ty,pos,af,g⟩).run P w= .ok (.value<|.bool<|decide (a < b)) w:=by
 simp [execOp,C,E,eqGuard,binOp,ot]
theorem le {t t':aq} {k:bB} {a b:Int} (C:ev N σ x= .int k a) (E:ev N σ y= .int k b):
 (execOp (ev N σ) ⟨dst,.binOp .leq t x y t',ty,pos,af,g⟩).run P w= .ok (.value<|.bool<|decide (a≤b)) w:=by
 simp [execOp,C,E,eqGuard,binOp,ot]
theorem gt {t t':aq} {k:bB} {a b:Int} (C:ev N σ x= .int k a) (E:ev N σ y= .int k b):
 (execOp (ev N σ) ⟨dst,.binOp .gtr t x y t',ty,pos,af,g⟩).run P w= .ok (.value<|.bool<|decide (b < a)) w:=by
 simp [execOp,C,E,eqGuard,binOp,ot]
theorem ge {t t':aq} {k:bB} {a b:Int} (C:ev N σ x= .int k a) (E:ev N σ y= .int k b):
 (execOp (ev N σ) ⟨dst,.binOp .geq t x y t',ty,pos,af,g⟩).run P w= .ok (.value<|.bool<|decide (b≤a)) w:=by
 simp [execOp,C,E,eqGuard,binOp,ot]
theorem zj {t t':aq} {k:bB} {a b:Int} (C:ev N σ x= .int k a) (E:ev N σ y= .int k b):
 (execOp (ev N σ) ⟨dst,.binOp .eql t x y t',ty,pos,af,g⟩).run P w= .ok (.value<|.bool<|decide (a=b)) w:=by
 simp [execOp,C,E,eqGuard,binOp,ot];rw [om]; simp
theorem Ar {t t':aq} {k:bB} {a b:Int} (C:ev N σ x= .int k a) (E:ev N σ y= .int k b):
 (execOp (ev N σ) ⟨dst,.binOp .neq t x y t',ty,pos,af,g⟩).run P w= .ok (.value<|.bool<|decide (a≠b)) w:=by
 simp [execOp,C,E,eqGuard,binOp,ot];rw [om]; simp
theorem no {t:aq} {b:Bool} (C:ev N σ x= .bool b):(execOp (ev N σ) ⟨dst,.unOp .not t x,ty,pos,af,g⟩).run P w= .ok (.value<|.bool<|!b) w:=by
 simp [execOp,C,Op.unary]
theorem yc {t t':aq} {k:bB} {a b v:Int} (E:ev N σ x= .int k a) (I:ev N σ y= .int k b) (C:k.wrap (gB k.bits a ||| gB k.bits b).toNat=v):
 (execOp (ev N σ) ⟨dst,.binOp .or t x y t',ty,pos,af,g⟩).run P w= .ok (.value<|.int k v) w:=by
 subst C; simp [execOp,E,I,eqGuard,binOp,Op.intBits]
theorem cI {t t':aq} {k:bB} {a b v:Int} (E:ev N σ x= .int k a) (I:ev N σ y= .int k b) (C:k.wrap (gB k.bits a &&& gB k.bits b).toNat=v):
 (execOp (ev N σ) ⟨dst,.binOp .and t x y t',ty,pos,af,g⟩).run P w= .ok (.value<|.int k v) w:=by
 subst C; simp [execOp,E,I,eqGuard,binOp,Op.intBits]
theorem shr {t t':aq} {k J:bB} {a b v:Int} (E:ev N σ x= .int k a) (I:ev N σ y= .int J b) (h0:0≤b) (C:a.fdiv (2 ^ min b.toNat k.bits)=v):
 (execOp (ev N σ) ⟨dst,.binOp .shr t x y t',ty,pos,af,g⟩).run P w= .ok (.value<|.int k v) w:=by
 have :¬b < 0:=U;simp [execOp,E,I,eqGuard,binOp,Op.shift,this,C]
theorem shl {t t':aq} {k J:bB} {a b v:Int} (E:ev N σ x= .int k a) (I:ev N σ y= .int J b) (h0:0≤b) (C:k.wrap (a*2 ^ min b.toNat k.bits)=v):
 (execOp (ev N σ) ⟨dst,.binOp .shl t x y t',ty,pos,af,g⟩).run P w= .ok (.value<|.int k v) w:=by
 have :¬b < 0:=U;simp [execOp,E,I,eqGuard,binOp,Op.shift,this,C]
theorem Jk (m:Nat) (h:m < 256):((ek m).toNat:Int)=(m:Int):=by
 simp [Nat.mod_eq_of_lt h]
theorem cv {t u:aq} {k C:bB} {n:Int} (hu:P.underlying u=some (.int C)) (I:(P.underlying t).isSome=true) (J:ev N σ x= .int k n):
 (execOp (ev N σ) ⟨dst,.convert t u x,ty,pos,af,g⟩).run P w= .ok (.value<|.int C<|C.wrap n) w:=by
 obtain ⟨d,E⟩:=lB.1 I;cases d <;> simp [execOp,J,convert,bp hu,bp E,Conv.intToInt]
theorem EL {t u:aq} {k C:bB} {n v:Int} (hu:P.underlying u=some (.int C)) (E:(P.underlying t).isSome=true) (I:ev N σ x= .int k n) (hr:C.wrap n=v):
 (execOp (ev N σ) ⟨dst,.convert t u x,ty,pos,af,g⟩).run P w= .ok (.value<|.int C v) w:=by
 rw [cv hu E I,hr]
theorem gn {t u:aq} {k C:bB} {n:Int} (hu:P.underlying u=some (.int C)) (E:(P.underlying t).isSome=true) (I:ev N σ x= .int k n) (hr:C.wrap n=n):
 (execOp (ev N σ) ⟨dst,.convert t u x,ty,pos,af,g⟩).run P w= .ok (.value<|.int C n) w:=by
 rw [cv hu E I,hr]
theorem ue (d:Nat) {t e:aq} {a:Option bh} (hu:P.underlying t=some (.pointer e)):(gC (d+1) t (.pointer a)<|.pointer none).run P w= .ok a.isNone w:=by
 cases a <;> simp [gC,bp hu]
theorem zk {t e:aq} {a:Option bh} (hu:P.underlying t=some (.pointer e)):(ll t (.pointer a)<|.pointer none).run P w= .ok a.isNone w:=ue 9999 hu
theorem jV {t t' e:aq} {a:Option bh} (hu:P.underlying t=some (.pointer e)) (C:ev N σ x= .pointer a) (E:ev N σ y= .pointer none):
 (execOp (ev N σ) ⟨dst,.binOp .eql t x y t',ty,pos,af,g⟩).run P w= .ok (.value<|.bool a.isNone) w:=by
 have h:(binOp .eql t (.pointer a)<|.pointer none).run P w= .ok (.bool a.isNone) w:=by
  simp only [binOp]; simp [zk hu]
 simp [execOp,C,E,eqGuard,h]
theorem rD {t t' e:aq} {a:Option bh} (hu:P.underlying t=some (.pointer e)) (C:ev N σ x= .pointer a) (E:ev N σ y= .pointer none):
 (execOp (ev N σ) ⟨dst,.binOp .neq t x y t',ty,pos,af,g⟩).run P w= .ok (.value<|.bool a.isSome) w:=by
 have h:(binOp .neq t (.pointer a)<|.pointer none).run P w= .ok (.bool a.isSome) w:=by
  simp only [binOp]; simp [zk hu]
 simp [execOp,C,E,eqGuard,h]
theorem zg (d:Nat) {t:aq} {a b:Bool} (hu:P.underlying t=some .bool):(gC (d+1) t (.bool a)<|.bool b).run P w= .ok (a==b) w:=by
 simp [gC,bp hu]
theorem zh {t:aq} {a b:Bool} (hu:P.underlying t=some .bool):(ll t (.bool a)<|.bool b).run P w= .ok (a==b) w:=zg 9999 hu
theorem Fs {t t':aq} {a b:Bool} (hu:P.underlying t=some .bool) (C:ev N σ x= .bool a) (E:ev N σ y= .bool b):
 (execOp (ev N σ) ⟨dst,.binOp .eql t x y t',ty,pos,af,g⟩).run P w= .ok (.value<|.bool<|decide (a=b)) w:=by
 have h:(binOp .eql t (.bool a)<|.bool b).run P w= .ok (.bool<|decide (a=b)) w:=by
  simp only [binOp]; simp [zh hu]; cases a <;> cases b <;> rfl
 simp [execOp,C,E,eqGuard,h]
theorem Hc {t t':aq} {a b:Bool} (hu:P.underlying t=some .bool) (C:ev N σ x= .bool a) (E:ev N σ y= .bool b):
 (execOp (ev N σ) ⟨dst,.binOp .neq t x y t',ty,pos,af,g⟩).run P w= .ok (.value<|.bool<|decide (a≠b)) w:=by
 have h:(binOp .neq t (.bool a)<|.bool b).run P w= .ok (.bool<|decide (a≠b)) w:=by
  simp only [binOp]; simp [zh hu]; cases a <;> cases b <;> rfl
 simp [execOp,C,E,eqGuard,h]
def str (l:List UInt8):ag:= .string ⟨⟨l⟩⟩
theorem Ae {t:aq} {l:List UInt8} {at_:Array aq} (C:P.underlying t=some .string) (ha:at_= #[t]) (E:ev N σ x=str l):
 (execOp (ev N σ) ⟨dst,.call ⟨.builtin .len,#[x],at_⟩,ty,pos,af,g⟩).run P w= .ok (.value<|.int .i64 l.length) w:=by
 subst ha;simp [execOp,resolve,invoke,builtin,xh,bp C,E,str,goInt];rfl
theorem uT {t e:aq} {a:Option bh} {n c:Nat} {at_:Array aq} (C:P.underlying t=some (.slice e)) (ha:at_= #[t]) (E:ev N σ x= .slice a n c):
 (execOp (ev N σ) ⟨dst,.call ⟨.builtin .len,#[x],at_⟩,ty,pos,af,g⟩).run P w= .ok (.value<|.int .i64 n) w:=by
 subst ha;simp [execOp,resolve,invoke,builtin,xh,bp C,E,goInt]
theorem GQ {t k e r:aq} {es:Array MapEntry} {c:Nat} {at_:Array aq} (C:P.underlying t=some (.map k e)) (ha:at_= #[t]) (E:ev N σ x= .map (some r)) (hr:w.heap[r]? =some (.map es c)):
 (execOp (ev N σ) ⟨dst,.call ⟨.builtin .len,#[x],at_⟩,ty,pos,af,g⟩).run P w= .ok (.value<|.int .i64 es.size) w:=by
 subst ha;simp [execOp,resolve,invoke,builtin,xh,bp C,E,goInt,getObj,kj,hr]
theorem mn {k:bB} {a b:Int} {at_:Array aq} (C:ev N σ x= .int k a) (E:ev N σ y= .int k b):
 (execOp (ev N σ) ⟨dst,.call ⟨.builtin .min,#[x,y],at_⟩,ty,pos,af,g⟩).run P w= .ok (.value<|.int k<|min a b) w:=by
 have :(if b < a then b else a)=min a b:=U;simp [execOp,resolve,invoke,builtin,Builtin.min_,Builtin.min2,C,E,this]
theorem mx {k:bB} {a b:Int} {at_:Array aq} (C:ev N σ x= .int k a) (E:ev N σ y= .int k b):
 (execOp (ev N σ) ⟨dst,.call ⟨.builtin .max,#[x,y],at_⟩,ty,pos,af,g⟩).run P w= .ok (.value<|.int k<|max a b) w:=by
 have :(if b > a then b else a)=max a b:=U;simp [execOp,resolve,invoke,builtin,Builtin.max_,Builtin.max2,C,E,this]
theorem Gm {t:aq} {l:List UInt8} {k:bB} {i:Int} (I:P.underlying t=some .string) (J:ev N σ x=str l) (L:ev N σ y= .int k i) (h0:0≤i∧i < l.length):
 (execOp (ev N σ) ⟨dst,.index t x y,ty,pos,af,g⟩).run P w= .ok (.value<|.int .u8 ((l.getD i.toNat 0).toNat:Int)) w:=by
 have E:(⟨⟨l⟩⟩:ByteArray)[i.toNat]? =some (l.getD i.toNat 0):=by
  have aP:i.toNat < l.length:=U;have C:i.toNat < (⟨⟨l⟩⟩:ByteArray).size:=aP;rw [getElem?_pos (⟨⟨l⟩⟩:ByteArray) i.toNat C];simp [cr,aP,ByteArray.getElem_eq_getElem_data]
 simp [execOp,Instr.index,J,L,asIntOf,str,bp I,h0.1,E]
theorem vQ (l:List UInt8) (a b:Nat):Value.string ((⟨⟨l⟩⟩:ByteArray).extract a b)=str ((l.take b).drop a):=by
 unfold str;congr 1;apply ByteArray.ext;simp [ByteArray.data_extract,List.extract_eq_take_drop,List.drop_take]
theorem rj (n:Nat) {t:aq} {l:List UInt8} {k:bB} (C:P.underlying t=some .string) (E:ev N σ x=str l) (I:ev N σ y= .int k (n:Int)) (h:n < l.length):
 (execOp (ev N σ) ⟨dst,.index t x y,ty,pos,af,g⟩).run P w= .ok (.value<|.int .u8 ((l.getD n 0).toNat:Int)) w:=Gm C E I ⟨U,U⟩
theorem eV {n:Nat} {t:aq} {l:List UInt8} {k:bB} (C:P.underlying t=some .string) (E:ev N σ x=str l) (I:ev N σ y= .int k (n:Int)) (h:n < l.length):
 (execOp (ev N σ) ⟨dst,.index t x y,ty,pos,af,g⟩).run P w= .ok (.value<|.int .u8 ((l.getD n 0).toNat:Int)) w:=rj n C E I h
theorem r6 {t:aq} {l:List UInt8} {k O:bB} {a b:Int} (E:P.underlying t=some .string) (I:ev N σ x=str l) (J:ev N σ y= .int k a) (L:ev N σ z= .int O b) (h0:0≤a∧a≤b∧b≤l.length):
 (execOp (ev N σ) ⟨dst,.slice t x (some y) (some z) none,ty,pos,af,g⟩).run P w= .ok (.value<|str<|(l.take b.toNat).drop a.toNat) w:=by
 have h1:b≤((⟨⟨l⟩⟩:ByteArray).size:Nat):=h0.2.2;have C:0≤b:=U;have V:a≤(b.toNat:Nat):=U;simp [execOp,mM,qh,jJ,mN,I,J,L,asIntOf,str,bp E,h0.1,h1,C];rw [if_pos U];exact congrArg (fun v=>qn (qi v) w)<|vQ l a.toNat b.toNat
theorem vV {t:aq} {l:List UInt8} {J:bB} {b:Int} (C:P.underlying t=some .string) (E:ev N σ x=str l) (I:ev N σ z= .int J b) (h0:0≤b∧b≤l.length):
 (execOp (ev N σ) ⟨dst,.slice t x none (some z) none,ty,pos,af,g⟩).run P w= .ok (.value<|str<|l.take b.toNat) w:=by
 have h1:b≤((⟨⟨l⟩⟩:ByteArray).size:Nat):=h0.2;have :=vQ l 0 b.toNat;simp only [List.drop_zero] at this;simp [execOp,mM,qh,jJ,mN,E,I,asIntOf,str,bp C,h0.1,h1];exact C0 this
theorem Bx {t:aq} {l:List UInt8} {k:bB} {a:Int} (C:P.underlying t=some .string) (E:ev N σ x=str l) (I:ev N σ y= .int k a) (h0:0≤a∧a≤l.length):
 (execOp (ev N σ) ⟨dst,.slice t x (some y) none none,ty,pos,af,g⟩).run P w= .ok (.value<|str<|l.drop a.toNat) w:=by
 have h1:a≤((⟨⟨l⟩⟩:ByteArray).size:Nat):=h0.2;have :=vQ l a.toNat l.length;simp only [List.take_length] at this;simp [execOp,mM,qh,jJ,mN,E,I,asIntOf,str,bp C,h0.1,h1];exact C0 this
theorem n8 (l:List UInt8):(⟨⟨l⟩⟩:ByteArray).toList=l:=Lib.toList_data ⟨⟨l⟩⟩
theorem cc {t t':aq} {l m:List UInt8} (E:ev N σ x=str l) (I:ev N σ y=str m) (h:l.length+m.length≤9223372036854775807):
 (execOp (ev N σ) ⟨dst,.binOp .add t x y t',ty,pos,af,g⟩).run P w= .ok (.value<|str<|l++m) w:=by
 have h1:¬(((⟨⟨l⟩⟩:ByteArray).size+(⟨⟨m⟩⟩:ByteArray).size:Nat):Int) > sJ.max:=by
  have :sJ.max=9223372036854775807:=aM;rw [this];show ¬((l.length+m.length:Nat):Int) > _;omega
 have C:(⟨⟨l⟩⟩:ByteArray)++(⟨⟨m⟩⟩:ByteArray)=⟨⟨l++m⟩⟩:=by
  apply ByteArray.ext; simp
 simp only [execOp,E,I,str,eqGuard,binOp,mQ];rw [if_neg h1,C];rfl
theorem zl {t t':aq} {l m:List UInt8} (C:ev N σ x=str l) (E:ev N σ y=str m):
 (execOp (ev N σ) ⟨dst,.binOp .eql t x y t',ty,pos,af,g⟩).run P w= .ok (.value<|.bool<|decide (l=m)) w:=by
 simp only [execOp,C,E,str,eqGuard,binOp,mQ,n8];show qn (qi<|.bool<|l==m) w=_;rw [show (l==m)=decide (l=m) from by rw [om]; simp]
theorem As {t t':aq} {l m:List UInt8} (C:ev N σ x=str l) (E:ev N σ y=str m):
 (execOp (ev N σ) ⟨dst,.binOp .neq t x y t',ty,pos,af,g⟩).run P w= .ok (.value<|.bool<|decide (l≠m)) w:=by
 simp only [execOp,C,E,str,eqGuard,binOp,mQ,n8];show qn (qi<|.bool<|!(l==m)) w=_;rw [show (!(l==m))=decide (l≠m) from by rw [om]; simp]
def mb (a b:List UInt8):Bool:=xo a b
theorem Iz (x y:UInt8) (a b:List UInt8):mb (x::a) (y::b)=(decide (x < y) || (x==y && mb a b)):=rfl
theorem GS {t t':aq} {l m:List UInt8} (C:ev N σ x=str l) (E:ev N σ y=str m):
 (execOp (ev N σ) ⟨dst,.binOp .lss t x y t',ty,pos,af,g⟩).run P w= .ok (.value<|.bool<|mb l m) w:=by
 simp only [execOp,C,E,str,eqGuard,binOp,mQ,n8];rfl
theorem GI {t t':aq} {l m:List UInt8} (C:ev N σ x=str l) (E:ev N σ y=str m):
 (execOp (ev N σ) ⟨dst,.binOp .leq t x y t',ty,pos,af,g⟩).run P w= .ok (.value<|.bool (mb l m || decide (l=m))) w:=by
 simp only [execOp,C,E,str,eqGuard,binOp,mQ,n8];show qn (qi<|.bool (xo l m || l==m)) w=_;rw [show (l==m)=decide (l=m) from by rw [om]; simp];rfl
theorem F0 {t t':aq} {l m:List UInt8} (C:ev N σ x=str l) (E:ev N σ y=str m):
 (execOp (ev N σ) ⟨dst,.binOp .gtr t x y t',ty,pos,af,g⟩).run P w= .ok (.value<|.bool<|!(mb l m || decide (l=m))) w:=by
 simp only [execOp,C,E,str,eqGuard,binOp,mQ,n8];show qn (qi<|.bool<|!(xo l m || l==m)) w=_;rw [show (l==m)=decide (l=m) from by rw [om]; simp];rfl
theorem FW {t t':aq} {l m:List UInt8} (C:ev N σ x=str l) (E:ev N σ y=str m):
 (execOp (ev N σ) ⟨dst,.binOp .geq t x y t',ty,pos,af,g⟩).run P w= .ok (.value<|.bool<|!mb l m) w:=by
 simp only [execOp,C,E,str,eqGuard,binOp,mQ,n8];rfl
theorem mf {fn:Fn} {first captured:Array aY} :(execOp (ev N σ) ⟨dst,.makeFunc fn first captured,ty,pos,af,g⟩).run P w= .ok (.value<|.func fn (first.map<|ev N σ)<|captured.map<|ev N σ) w:=rfl
theorem u5 {fn:Fn} {first captured:Array aY} :(execOp (ev N σ) ⟨dst,.makeFunc fn first captured,ty,pos,af,g⟩).run P w= .ok (.value<|.func fn (first.toList.map<|ev N σ).toArray (captured.toList.map<|ev N σ).toArray) w:=by
 rw [mf,← iC,← iC]
end
end Go.Hb
namespace Go.Hb
def ax (h:Array Obj) (b:Nat) (L:List ag):Prop := ∃ e,h[b]? =some (.cells L.toArray e (0,0))
theorem ax.au {h:Array Obj} {b:Nat} {L:List ag} (hb:ax h b L) (j:Nat):Hb.au h b j=L[j]? :=by
 obtain ⟨e,hb⟩:=hb;rw [bV hb]; simp
theorem ax.aU {h:Array Obj} {b:Nat} {L:List ag} (hb:ax h b L) (j:Nat):Hb.au h b (0 +j)=L[j]? :=by
 rw [cy,hb.au]
theorem Md.B {F:Nat→Prop} {w w':ah} (h:Md F w w') {b:Nat} {L:List ag} (hb:ax w.heap b L) (C:¬F b):ax w'.heap b L:=
 let ⟨e,hb⟩:=hb; ⟨e,h.an hb C⟩
theorem Wk.B {w w':ah} (h:Wk w w') {b:Nat} {L:List ag} (hb:ax w.heap b L):ax w'.heap b L:=Md.B h hb id
theorem ax.lt {h:Array Obj} {b:Nat} {L:List ag} (hb:ax h b L):b < h.size:=by grind [ax]
def bk (a:Option bh):Nat:=match a with | some ad=>ad.block | none=>0
def fo (a:Option bh):Nat:=match a with | some ad=>ad.off | none=>0
structure bt (h:Array Obj) (a:Option bh) (xs:List ag):Prop where
 ok:xs≠[]→a=some ⟨bk a,fo a,none⟩
 au:∀ j u,xs[j]? =some u→Hb.au h (bk a) (fo a+j)=some u
theorem bt.nil (h:Array Obj) (a:Option bh):bt h a []:=⟨fun h=>absurd rfl h,fun _ _ hu=>by simp at hu⟩
theorem bt.md {F:Nat→Prop} {w w':ah} {a:Option bh} {xs:List ag} (C:bt w.heap a xs) (h:Md F w w') (E:xs≠[]→¬F (bk a)):bt w'.heap a xs:=
 ⟨C.ok,fun j u hu=>h.au (C.au j u hu)<|E<|by rintro rfl; simp at hu⟩
theorem bt.wk {w w':ah} {a:Option bh} {xs:List ag} (C:bt w.heap a xs) (h:Wk w w'):bt w'.heap a xs:=C.md h fun _ x=>x
theorem bt.gS {h:Array Obj} {b:Nat} {L:List ag} (hb:ax h b L):bt h (some ⟨b,0,none⟩) L:=
 ⟨fun _=>rfl,fun j u hu=>by show Hb.au h b (0 +j)=_; rw [cy,hb.au]; exact hu⟩
theorem bt.D6 {h:Array Obj} {a:Option bh} {xs:List ag} (C:bt h a xs) {i:Nat} {u:ag} (hu:xs[i]? =some u):Hb.au h (bk a) (fo a+i*1)=some u:=by
 rw [Nat.mul_one]; exact C.au i u hu
def dV (P:ar) (t e size bytes:Nat):Bool:=
 match P.underlying t with
 | some (.slice e')=>e'==e && match P.info? e with
   | some i=>i.size==size && i.bytes==bytes && aD 0 size && match i.zero with
     | some z=>z.cells.size==size
     | none=>false
   | none=>false
 | _=>false
theorem pP {P:ar} {t e size bytes:Nat} (h:dV P t e size bytes=true):
 P.underlying t=some (.slice e)∧∃ i z,P.info? e=some i∧i.zero=some z∧i.size=size∧i.bytes=bytes∧z.cells.size=size∧0 < size:=by
 unfold dV at h;split at h
 · rename_i e' hu;simp only [a9,beq_iff_eq] at h;obtain ⟨rfl,h⟩:=h;split at h
   · rename_i i hi;simp only [a9,beq_iff_eq] at h;obtain ⟨⟨⟨h1,C⟩,h3⟩,h4⟩:=h;split at h4
     · rename_i z E;exact ⟨hu,i,z,hi,E,h1,C,by simpa using h4,lz (lA 0)<|bJ h3⟩
     · cases h4
   · cases h
 · cases h
def bY (P:ar) (t:aq):Option Nat:=(P.info? t).map (·.size)
def zeroOf (P:ar) (t:aq):Option (Option<|List ag):=(P.info? t).map fun i=>i.zero.map fun z=>z.cells.toList
def fT (P:ar) (f:dQ):Prop := ∀ args w,(callFunc f args).run P w= .ok (.enter f args) w
theorem tJ {P:ar} {f:dQ} {fn:fN} (E:P.funcs[f]? =some fn) (hn:(fn.name== "runtime.NumGoroutine")=false) (hb:fn.body.isNone=false):fT P f:=by
 intro args w;have h1:¬((fn.name== "runtime.NumGoroutine")=true):=by rw [hn]; simp
 have C:¬(fn.body.isNone=true):=by rw [hb]; simp
 simp only [callFunc,hH,run_program,gD,E];rw [if_neg h1,if_neg C];rfl
section
variable {P:ar} {N:Fm} {σ:Nat→ag} {w:ah} {dst:Option Nat} {ty:aq} {pos :String} {af:Array cq} {g:Option (Nat×Bool)} {x y z:aY} {K:(Nat→ag)→ah→Prop}
theorem Cd {o:aC} {f:dQ} {L:List ag} {R:ag→ah→Prop} (E:(execOp (ev N σ) o).run P w= .ok (.enter f L.toArray) w) (hr:bc P f L.toArray w R)
 (k:∀ v w',R v w'→K (dc σ o.dst v) w'):bS P N o σ w K:=by
 unfold bS gi;rw [dk,E];refine jG hr fun e w' ⟨v,he,C⟩=> ?_;subst he;exact ⟨_,eu ..,k v w' C⟩
theorem cl {f:dQ} {args:Array aY} {C:Array aq} {L:List ag} {R:ag→ah→Prop} (I:fT P f) (hr:bc P f L.toArray w R) (E:args.toList.map (ev N σ)=L)
 (k:∀ v w',R v w'→K (dc σ dst v) w'):bS P N ⟨dst,.call ⟨.value (.func f),args,C⟩,ty,pos,af,g⟩ σ w K:=by
 refine Cd (f:=f) ?_ hr k;have :args.map (ev N σ)=L.toArray:=by rw [← E,← iC]
 simp [execOp,resolve,ev,lk,invoke,this,I L.toArray w]
theorem tP {f:dQ} {fo:aY} {first cap:Array ag} {args:Array aY} {C:Array aq} {L:List ag} {R:ag→ah→Prop} (I:fT P f) (J:ev N σ fo= .func (.func f) first cap)
 (hr:bc P f L.toArray w R) (E:first.toList++args.toList.map (ev N σ)++cap.toList=L)
 (k:∀ v w',R v w'→K (dc σ dst v) w'):bS P N ⟨dst,.call ⟨.value fo,args,C⟩,ty,pos,af,g⟩ σ w K:=by
 refine Cd (f:=f) ?_ hr k;have :first++args.map (ev N σ)++cap=L.toArray:=by rw [← E,← iC,← Cu,← Cu]
 simp [execOp,resolve,J,lk,invoke,this,I L.toArray w]
theorem lj {o:aC} {ob:Obj} {v:Nat→ag} (C:(execOp (ev N σ) o).run P w= .ok (.value<|v w.heap.size) {w with heap:=w.heap.push ob})
 (k:∀ b w',b=w.heap.size→Nw w w'→w'.heap[b]? =some ob→K (dc σ o.dst<|v b) w'):bS P N o σ w K:=by grind [g8,Hm]
theorem al {e:aq} {E:List ag} (C:zeroOf P e=some (some E)) (k:∀ b w',b=w.heap.size→Nw w w'→ax w'.heap b E→K (dc σ dst<|.pointer<|some ⟨b,0,none⟩) w'):
 bS P N ⟨dst,.alloc e,ty,pos,af,g⟩ σ w K:=by
 refine lj (v:=fun b=> .pointer<|some ⟨b,0,none⟩) (ob:= .cells E.toArray e (0,0)) ?_ fun b w' h1 I J=>k b w' h1 I ⟨e,J⟩;unfold zeroOf at C;simp only [fR] at C;obtain ⟨i,hi,zv,L,rfl⟩:=C;simp [execOp,sG,zeroValue,cU hi,L,newVar,newRow]
theorem c7 {e:aq} {E:List ag} (C:zeroOf P e=some (some E)) (k:∀ b w',b=w.heap.size→Nw w w'→w'.heap[b]? =some (.cells E.toArray e (0,0))→K (dc σ dst<|.pointer<|some ⟨b,0,none⟩) w'):
 bS P N ⟨dst,.alloc e,ty,pos,af,g⟩ σ w K:=by
 refine lj (v:=fun b=> .pointer<|some ⟨b,0,none⟩) (ob:= .cells E.toArray e (0,0)) ?_ k;unfold zeroOf at C;simp only [fR] at C;obtain ⟨i,hi,zv,I,rfl⟩:=C;simp [execOp,sG,zeroValue,cU hi,I,newVar,newRow]
theorem bx {e:aq} {v:ag} {L:List ag} (J:ev N σ x=v) (I:v.cells.toList=L) (k:∀ b w',b=w.heap.size→Nw w w'→ax w'.heap b L→K (dc σ dst<|.pointer<|some ⟨b,0,none⟩) w'):
 bS P N ⟨dst,.box e x,ty,pos,af,g⟩ σ w K:=by
 subst I;refine lj (v:=fun b=> .pointer<|some ⟨b,0,none⟩) (ob:= .cells v.cells e (0,0)) ?_ fun b w' h1 C E=>k b w' h1 C ⟨e,E⟩;simp [execOp,xj,J,newVar,newRow]
theorem qI {t e:aq} {size bytes:Nat} (L:dV P t e size bytes=true)
 (k:∀ b w',b=w.heap.size→Nw w w'→(∀ B,B≤b→w'.ownsRow B e size (.slice (some ⟨b,0,none⟩) 0 0) 0 [])→K (dc σ dst<|.slice (some ⟨b,0,none⟩) 0 0) w'):bS P N ⟨dst,.buildSlice t 0 #[],ty,pos,af,g⟩ σ w K:=by
 refine lj (v:=fun b=> .slice (some ⟨b,0,none⟩) 0 0) (ob:= .cells #[] e (0,0)) ?_ fun b w' h1 C E=>k b w' h1 C fun B I=>⟨by simp,.inr ⟨b,0,#[],J,I,E,aZ _,by simp [maxLen],by simp,by simp⟩⟩
 obtain ⟨hu,i,zv,hi,U,h1,C,E,O⟩:=pP L;simp [execOp,sI,bp hu,sizeOf,cU hi,jI,newRow];congr 2;exact Array.eq_empty_of_size_eq_zero<|by simp
theorem Ef {t e:aq} {size bytes:Nat} {v:ag} {L:List ag} (ab:dV P t e size bytes=true) (Z:ba size 1000=true) (ad:ev N σ x=v) (ac:v.cells.size=size)
 (J:v.cells.toList=L) (k:∀ b w',b=w.heap.size→Nw w w'→w'.heap[b]? =some (.cells L.toArray e (0,0))→K (dc σ dst<|.slice (some ⟨b,0,none⟩) 1 1) w'):bS P N ⟨dst,.buildSlice t 1 #[(0,x)],ty,pos,af,g⟩ σ w K:=by
 subst J;refine lj (v:=fun b=> .slice (some ⟨b,0,none⟩) 1 1) (ob:= .cells v.cells e (0,0)) ?_ fun b w' h1 C E=>k b w' h1 C<|by simpa using E
 obtain ⟨hu,i,zv,hi,ae,h1,C,E,ah⟩:=pP ab;have ai:size≤1000:=by simpa using Z
 have O:jI (fun i=>some (i*size,size)) ((og size).map (zv.cells[· % zv.cells.size]!)) [(0,v)]=some v.cells:=by
  have I:((og size).map (zv.cells[· % zv.cells.size]!)).size=size:=by simp
  generalize (og size).map (zv.cells[· % zv.cells.size]!)=cs at I;simp only [jI,ac];rw [if_neg (by rw [I]; simp)];congr 1;have key:∀ (l:List ag) (m:Nat) (cs:Array ag),m+l.length≤cs.size→∀ j,((l.zipIdx m).foldl (fun (cs:Array ag) (c,j)=>cs.setIfInBounds (0 *size+j) c) cs)[j]? =if j < m then cs[j]? else if j < m+l.length then l[j - m]? else cs[j]? :=by
   intro l
   induction l with
   | nil=>intro m cs hm j; simp; intro h1 C; omega
   | cons c l ih=>
     intro m cs hm j;simp only [List.zipIdx_cons,qp,dd] at hm ⊢;rw [ih (m+1) _ (by simp; omega)];simp only [td,cy,pZ];by_cases h1:j < m
     · rw [if_pos U,if_pos h1,if_neg U]
     · rw [if_neg h1];by_cases C:j=m
       · subst C;rw [if_pos U,if_pos rfl,if_pos U,if_pos U];simp
       · rw [if_neg U];by_cases E:j < m+1 +l.length
         · rw [if_pos E,if_pos U];obtain ⟨q,V⟩:∃ q,j - m=q+1:=⟨j - m - 1,U⟩
           rw [V,hO,show j - (m+1)=q from by omega]
         · rw [if_neg E,if_neg U,if_neg U]
  apply Cm;intro j;have :=key v.cells.toList 0 cs (by simp; omega) j;rw [show (v.cells.zipIdx.foldl (fun (cs:Array ag) (c,j)=>cs.setIfInBounds (0 *size+j) c) cs)=((v.cells.toList.zipIdx 0).foldl (fun (cs:Array ag) (c,j)=>cs.setIfInBounds (0 *size+j) c) cs) from by
   rw [← Array.foldl_toList]; simp [Array.toList_zipIdx]]
  rw [this];simp only [Nat.not_lt_zero,if_false,cy,Nat.sub_zero,iB,Array.getElem?_toList];split
  · rfl
  · rw [sA U,sA U]
 simp only [execOp,sI,hH,bp hu,gD,sizeOf,cU hi,kn,h1,Nat.one_mul,sN,zeroValue,ae,List.map_toArray,eR,List.map_nil,ad,O];rw [if_neg (by rw [show (2:Nat) ^ 24=16777216 from rfl]; omega),if_neg U];simp [newRow]
theorem yd {t e:aq} {size bytes:Nat} {v:ag} {L:List ag} (O:dV P t e size bytes=true) (J:ba size 1000=true) (V:ev N σ x=v) (U:v.cells.size=size)
 (I:v.cells.toList=L) (k:∀ b w',b=w.heap.size→Nw w w'→ax w'.heap b L→K (dc σ dst<|.slice (some ⟨b,0,none⟩) 1 1) w'):bS P N ⟨dst,.buildSlice t 1 #[(0,x)],ty,pos,af,g⟩ σ w K:=
 Ef O J V U I fun b w' h1 C E=>k b w' h1 C ⟨_,E⟩
theorem l7 {v:ag} (h:v.oneCell'=true):v.cells= #[v]:=by cases v <;> first | rfl | (cases h; done)
theorem oQ {t e:aq} {bytes:Nat} {v:ag} (C:dV P t e 1 bytes=true) (E:ev N σ x=v) (h1:v.oneCell'=true)
 (k:∀ b w',b=w.heap.size→Nw w w'→ax w'.heap b [v]→K (dc σ dst<|.slice (some ⟨b,0,none⟩) 1 1) w'):bS P N ⟨dst,.buildSlice t 1 #[(0,x)],ty,pos,af,g⟩ σ w K:=
 yd C rfl E (by rw [l7 h1]; rfl) (by rw [l7 h1]) k
theorem kF {t e:aq} {size bytes:Nat} {L:List ag} (I:dV P t e size bytes=true) (E:ba size 1000=true) (J:ev N σ x= .agg L.toArray) (C:L.length=size)
 (k:∀ b w',b=w.heap.size→Nw w w'→ax w'.heap b L→K (dc σ dst<|.slice (some ⟨b,0,none⟩) 1 1) w'):bS P N ⟨dst,.buildSlice t 1 #[(0,x)],ty,pos,af,g⟩ σ w K:=
 yd I E J (by simpa [ow] using C) (by simp [ow]) k
theorem Eh {e:aq} {v:ag} (C:ev N σ x=v) (h1:v.oneCell'=true) (k:∀ b w',b=w.heap.size→Nw w w'→ax w'.heap b [v]→K (dc σ dst<|.pointer<|some ⟨b,0,none⟩) w'):
 bS P N ⟨dst,.box e x,ty,pos,af,g⟩ σ w K:=bx C (by rw [l7 h1]) k
theorem m6 {e:aq} {L:List ag} (C:ev N σ x= .agg L.toArray) (k:∀ b w',b=w.heap.size→Nw w w'→ax w'.heap b L→K (dc σ dst<|.pointer<|some ⟨b,0,none⟩) w'):
 bS P N ⟨dst,.box e x,ty,pos,af,g⟩ σ w K:=bx C (by simp [ow]) k
theorem oR {e:aq} {L:List ag} (I:ev N σ x= .agg L.toArray) (k:∀ b w',b=w.heap.size→Nw w w'→w'.heap[b]? =some (.cells L.toArray e (0,0))→K (dc σ dst<|.pointer<|some ⟨b,0,none⟩) w'):
 bS P N ⟨dst,.box e x,ty,pos,af,g⟩ σ w K:=by
 refine lj (v:=fun b=> .pointer<|some ⟨b,0,none⟩) (ob:= .cells L.toArray e (0,0)) ?_ fun b w' h1 C E=>k b w' h1 C E;simp [execOp,xj,I,newVar,newRow,ow]
theorem qF {l:List ag} (h:l.all eD=true):∀ u∈l,u.oneCell'=true :=C8.1 h
theorem dq {t b off :Nat} {e:aq} {L:List ag} {v:ag} (C:bY P t=some 1) (ae:ev N σ x= .pointer (some ⟨b,off,none⟩)) (ah:ev N σ y=v) (h1:v.oneCell'=true) (hb:w.heap[b]? =some (.cells L.toArray e (0,0))) (Z:off < L.length)
 (k:∀ w',Md (fun k=>k=b) w w'→w'.heap[b]? =some (.cells (L.set off v).toArray e (0,0))→K σ w'):bS P N ⟨none,.store t x y,ty,pos,af,g⟩ σ w K:=by
 have I:v.cells= #[v]:=by cases v <;> first | rfl | (cases h1; done)
 have O:w.cell? ⟨b,off,none⟩=some L[off]:=by rw [iP,bV hb]; simp [Z]
 have U:w.frozen? ⟨b,off,none⟩=false :=by simp only [World.frozen?,show w.heap[b]? =_ from hb]; simp
 unfold bY at C;simp only [fR] at C;obtain ⟨i,hi,ac⟩:=C;have E:(⟨b,off,none⟩:bh).add 0=⟨b,off,none⟩:=rfl;have ab:(execOp (ev N σ) ⟨none,.store t x y,ty,pos,af,g⟩).run P w= .ok .skip (w.setCell ⟨b,off,none⟩ v):=by
  simp [execOp,xn,ae,ah,mO,storeVar,I,sizeOf,cU hi,ac,storeCells,E,run_store P w _ v _ h1,O,U]
 unfold bS gi;rw [dk,ab];refine ⟨σ,J,k _ ⟨J,J,by simp [C4],fun k _ V=> ?_⟩ ?_⟩
 · exact Below.heap_setCell w _ v k V
 · have aP:=(eC.1 hb).1;have ad:w.heap[b]= .cells L.toArray e (0,0):=(eC.1 hb).2;simp only [C4];rw [mG (by simpa using aP),Array.getElem_modify];simp [ad,List.setIfInBounds_toArray]
theorem st {t b off :Nat} {L:List ag} {v:ag} (O:bY P t=some 1) (I:ev N σ x= .pointer (some ⟨b,off,none⟩)) (J:ev N σ y=v) (h1:v.oneCell'=true) (hb:ax w.heap b L) (E:off < L.length)
 (k:∀ w',Md (fun k=>k=b) w w'→ax w'.heap b (L.set off v)→K σ w'):bS P N ⟨none,.store t x y,ty,pos,af,g⟩ σ w K:=
 let ⟨_,hb⟩:=hb
 dq O I J h1 hb E fun w' h1 C=>k w' h1 ⟨_,C⟩
theorem da {t b off n:Nat} {e:aq} {L vs:List ag} (C:bY P t=some n) (U:ev N σ x= .pointer (some ⟨b,off,none⟩)) (V:ev N σ y= .agg vs.toArray) (hn:vs.length=n) (h1:vs.all eD=true) (hb:w.heap[b]? =some (.cells L.toArray e (0,0))) (Z:off+n≤L.length)
 (k:∀ w',Md (fun k=>k=b) w w'→w'.heap[b]? =some (.cells (L.take off++vs++L.drop (off+n)).toArray e (0,0))→K σ w'):bS P N ⟨none,.store t x y,ty,pos,af,g⟩ σ w K:=by
 unfold bY at C;simp only [fR] at C;obtain ⟨i,hi,O⟩:=C;have bg:=run_storeCells_at P b off e vs 0 L.toArray w hb (by simp; omega)<|qF h1;have I:(execOp (ev N σ) ⟨none,.store t x y,ty,pos,af,g⟩).run P w= .ok .skip (w.setRow b (L.take off++vs++L.drop (off+n)).toArray):=by
  simp [execOp,xn,U,V,mO,storeVar,ow,sizeOf,cU hi,O,hn,bg]
 unfold bS gi;rw [dk,I];exact ⟨σ,J,k _ ⟨J,J,by simp,fun k _ E=>setRow_other w b k _ E⟩<|setRow_heap w b _ _ e _ hb⟩
theorem pS {t b off n:Nat} {L vs:List ag} (C:bY P t=some n) (U:ev N σ x= .pointer (some ⟨b,off,none⟩)) (V:ev N σ y= .agg vs.toArray) (hn:vs.length=n) (h1:vs.all eD=true) (hb:ax w.heap b L) (Z:off+n≤L.length)
 (k:∀ w',Md (fun k=>k=b) w w'→ax w'.heap b (L.take off++vs++L.drop (off+n))→K σ w'):bS P N ⟨none,.store t x y,ty,pos,af,g⟩ σ w K:=by
 obtain ⟨e,hb⟩:=hb;unfold bY at C;simp only [fR] at C;obtain ⟨i,hi,O⟩:=C;have bg:=run_storeCells_at P b off e vs 0 L.toArray w hb (by simp; omega)<|qF h1;have I:(execOp (ev N σ) ⟨none,.store t x y,ty,pos,af,g⟩).run P w= .ok .skip (w.setRow b (L.take off++vs++L.drop (off+n)).toArray):=by
  simp [execOp,xn,U,V,mO,storeVar,ow,sizeOf,cU hi,O,hn,bg]
 unfold bS gi;rw [dk,I];exact ⟨σ,J,k _ ⟨J,J,by simp,fun k _ E=>setRow_other w b k _ E⟩ ⟨e,setRow_heap w b _ _ e _ hb⟩⟩
theorem D0 {t ty e:aq} {i:TypeInfo} {zv:ag} {B n m c:Nat} {v ac:ag} {xs news:List ag} {ad:bh} {w':ah} (hu:P.underlying t=some (.slice e)) (hi:P.info? e=some i) (ab:i.zero=some zv) (am:zv.cells.size=i.size) (ak:0 < i.size)
 (J:w.ownsRow B e i.size v n xs) (I:news.length=m*i.size) (L:∀ j u,news[j]? =some u→w.cell? (ad.add j)=some u) (h1:∀ u∈news,u.oneCell'=true) (O:n+m≤maxLen) (hb:(n+m)*i.bytes≤140737488355328)
 (hr:(jh #[t,t] ty #[v,.slice (some ad) m c]).run P w= .ok ac w'):∀ k,ac.ownBlock=some k→v.ownBlock=some k∨w.heap.size≤k:=by
 intro k C;have ao:n+m≤9223372036854775807:=by unfold maxLen at O; omega
 rcases J.2 with ⟨rfl,rfl⟩ | ⟨E,cap,cur,rfl,ar,hg,av,au,ai,aw⟩
 · have al:xs= []:=kr<|by simpa using J.1
   subst al;obtain ⟨v2,ax,V,ae,_,_⟩:=run_append_own (P:=P) w w.heap.size t ty e i zv i.size i.bytes hu hi ab rfl rfl am ak _ 0 [] (e7 w w.heap.size e i.size) ad m c news I L h1 O hb (aZ _);rw [hr] at V;cases V;exact .inr (by
    rcases ae.2 with ⟨h,_⟩ | ⟨an,_,_,h,ap,_⟩
    · rw [h] at C; simp [eE] at C
    · rw [h] at C; simp only [eE,bD] at C; omega)
 · by_cases Z:n+m≤cap
   · have aj:n*i.size+news.length≤cur.size:=by rw [I,ai,← Nat.add_mul]; exact iH _ Z
     rw [run_append_room (P:=P) w t ty e i hu hi E n cap cur hg ad m c news I L h1 Z aj] at hr;cases hr;exact .inl C
   · have holds:∀ j u,xs[j]? =some u→w.cell? ((⟨E,0,none⟩:bh).add j)=some u:=J.cells (g:=E) rfl;rw [run_append_grow (P:=P) w t ty e i zv hu hi ab ⟨E,0,none⟩ n cap xs J.1 holds ad m c news I L U U (growslice_fits U hb)] at hr;cases hr;simp only [eE,bD] at C;exact .inr U
theorem ap {t e size bytes B n m c:Nat} {v:ag} {xs news:List ag} {a:Option bh} (ar:dV P t e size bytes=true) (I:w.ownsRow B e size v n xs) (ac:ev N σ x=v) (ak:B≤w.heap.size)
 (ad:ev N σ y= .slice a m c) (O:bt w.heap a news) (J:news.length=m*size) (h1:news.all eD=true) (hb:(n+m)*bytes≤140737488355328) (ax:n+m≤9223372036854775807)
 (k:∀ C w',w'.ownsRow B e size C (n+m) (xs++news)→Md (fun k=>v.ownBlock=some k) w w'→(C= .slice none 0 0↔v= .slice none 0 0∧m=0)→(∀ k,C.ownBlock=some k→v.ownBlock=some k∨w.heap.size≤k)→K (dc σ dst C) w'):
 bS P N ⟨dst,.call ⟨.builtin .append,#[x,y],#[t,t]⟩,ty,pos,af,g⟩ σ w K:=by
 obtain ⟨hu,i,zv,hi,ae,ab,L,ah,Z⟩:=pP ar;have U:n+m≤maxLen:=by unfold maxLen; omega
 by_cases hm:news= []
 · subst hm;have an:m=0:=by
    rcases Nat.mul_eq_zero.1 (J.symm.trans rfl) with h | h
    · exact h
    · omega
   subst an;have aq:(jh #[t,t] ty #[v,.slice a 0 c]).run P w= .ok v w:=by
    rcases I.2 with ⟨rfl,rfl⟩ | ⟨aw,cap,cur,rfl,_,_,hle,_⟩
    · cases a <;> simp [jh,bp hu,sizeOf,cU hi,CC,sF,loadCells,loadCellsFrom]
    · cases a <;> simp [jh,bp hu,sizeOf,cU hi,CC,sF,loadCells,loadCellsFrom,hle,storeCells]
   refine g8 (w':=w) (v:=v) ?_<|k v w (by simpa using I) (Md.refl _ _) (by simp) fun _ h=> .inl h;simp [execOp,resolve,invoke,builtin,ac,ad,aq]
 · have ha:=O.ok hm;have V:∀ j u,news[j]? =some u→w.cell? ((⟨bk a,fo a,none⟩:bh).add j)=some u:=fun j u hu=>by rw [fh,iP]; exact O.au j u hu
   obtain ⟨C,w',hr,ai,E,aj⟩:=run_append_own (P:=P) w B t ty e i zv size bytes hu hi ae ab L ah Z v n xs I ⟨bk a,fo a,none⟩ m c news J V (qF h1) U hb ak;subst ab L;have al:=D0 hu hi ae ah Z I J V (qF h1) U hb hr;refine g8 (w':=w') (v:=C) ?_<|k C w' ai ⟨E.os,E.output,E.size,fun k am ao=>E.block k am fun e=>ao e.symm⟩ aj al;have av:ev N σ y= .slice (some ⟨bk a,fo a,none⟩) m c:=ad.trans<|congrArg (fun a=>dH a m c) ha;simp [execOp,resolve,invoke,builtin,ac,av,hr]
theorem bK {t n len cap:Nat} {k:bB} {i:Int} {a:Option bh} (he:cT P t=some n) (C:ev N σ x= .slice a len cap) (E:ev N σ y= .int k i) (h0:0≤i∧i < len) (ha:a=some ⟨bk a,fo a,none⟩):
 (execOp (ev N σ) ⟨dst,.indexAddr t x y,ty,pos,af,g⟩).run P w= .ok (.value<|.pointer<|some ⟨bk a,fo a+i.toNat*n,none⟩) w:=
 ia he (by rw [C]; congr 1) E h0
end
theorem cG {F:Nat→Prop} {w w':ah} {B e size n:Nat} {v:ag} {xs:List ag} (h:w.ownsRow B e size v n xs) (hm:Md F w w') (C:∀ k,v.ownBlock=some k→¬F k):w'.ownsRow B e size v n xs:=by
 refine ⟨h.1,?_⟩;rcases h.2 with hn | ⟨g,cap,cur,rfl,hb,E,rest⟩
 · exact .inl hn
 · exact .inr ⟨g,cap,cur,J,hb,hm.an E (C g J),rest⟩
section
variable {P:ar} {N:Fm} {σ:Nat→ag} {w:ah} {dst:Option Nat} {ty:aq} {pos :String} {af:Array cq} {g:Option (Nat×Bool)} {x y z:aY} {K:(Nat→ag)→ah→Prop}
theorem BK {t B e size n cap off j:Nat} {a:Option bh} {xs:List ag} {u:ag} (ae:w.ownsRow B e size (.slice a n cap) n xs) (ak:bY P t=some 1) (ai:ev N σ x= .pointer (some ⟨bk a,off,none⟩)) (aj:ev N σ y=u) (h1:u.oneCell'=true)
 (Z:off =fo a+j) (ad:j < n*size)
 (k:∀ w',Md (fun k=>(dH a n cap).ownBlock=some k) w w'→w'.ownsRow B e size (.slice a n cap) n (xs.set j u)→K σ w'):bS P N ⟨none,.store t x y,ty,pos,af,g⟩ σ w K:=by
 obtain ⟨h0,h⟩:=ae;rcases h with ⟨h,rfl⟩ | ⟨C,al,cur,h,I,hg,hle,V,E,ah⟩
 · simp at ad
 · simp only [ln,true_and] at h;obtain ⟨rfl,rfl⟩:=h;have ab:off =j:=by rw [Z]; simp [fo]
   subst ab;have hlen:off < cur.toList.length:=by
    have :=iH size hle;rw [iB,E]; omega
   refine dq (L:=cur.toList) ak ai aj h1 (show w.heap[C]? =_ by simpa using hg) hlen fun w' U O=>k w' (U.mono fun k _ ac=>by subst ac; rfl) ⟨by simpa using h0,.inr ⟨C,cap,_,J,I,O,hle,V,by simpa using E,?_⟩⟩;rw [← ah];simp only;rw [List.take_set]
end
theorem pE {w:ah} {B e size n:Nat} {v:ag} {xs:List ag} (h:w.ownsRow B e size v n xs):v.oneCell'=true :=by
 rcases h.2 with ⟨rfl,_⟩ | ⟨g,cap,cur,rfl,_⟩ <;> rfl
theorem dg {w:ah} {B e size n:Nat} {v:ag} {xs:List ag} (h:w.ownsRow B e size v n xs):∃ a cap,v= .slice a n cap:=by
 rcases h.2 with ⟨rfl,rfl⟩ | ⟨g,cap,cur,rfl,_⟩
 · exact ⟨_,_,J⟩
 · exact ⟨_,_,J⟩
theorem vm {w:ah} {B B' e e' size U n O:Nat} {v J:ag} {xs V:List ag} (h:w.ownsRow B e size v n xs) (h':w.ownsRow B' e' U J O V) (L:e≠e') {k:Nat} (E:v.ownBlock=some k):J.ownBlock≠some k:=by
 intro I;rcases h.2 with ⟨rfl,_⟩ | ⟨g,cap,cur,rfl,_,hg,_⟩
 · simp [eE] at E
 · rcases h'.2 with ⟨rfl,_⟩ | ⟨ac,Z,ab,rfl,_,C,_⟩
   · simp [eE] at I
   · simp only [eE,bD] at E I;subst E I;rw [hg] at C;simp only [bD,sK] at C;exact L C.2.1
theorem bZ {w w':ah} {B e size n:Nat} {v:ag} {xs:List ag} (h:w.ownsRow B e size v n xs) (hm:Wk w w'):w'.ownsRow B e size v n xs:=cG h hm fun _ _ x=>x
theorem cK {w:ah} {B e size n:Nat} {v:ag} {xs:List ag} (h:w.ownsRow B e size v n xs) {k:Nat} (C:v.ownBlock=some k):B≤k∧k < w.heap.size:=h.lt k C
theorem Wk.own {w0 w w':ah} {B e size n:Nat} {v:ag} {xs:List ag} (h:Wk w0 w) (C:w.ownsRow B e size v n xs) (hm:Md (fun k=>v.ownBlock=some k) w w') (I:w0.heap.size≤B):Wk w0 w':=
 Md.trans' h hm (fun k J E=>by have :=(cK C E).1; omega)
theorem nF {w:ah} {B e size n:Nat} {v:ag} {xs:List ag} (h:w.ownsRow B e size v n xs):∃ a cap,v= .slice a n cap∧bt w.heap a xs∧n≤cap∧(∀ k,v.ownBlock=some k→a=some ⟨k,0,none⟩∧B≤k∧k < w.heap.size)∧(v.ownBlock=none→xs= []):=by
 rcases h.2 with ⟨rfl,rfl⟩ | ⟨g,cap,cur,rfl,hb,E,hle,_,_,I⟩
 · have :xs= []:=kr<|by simpa using h.1
   subst this;exact ⟨none,0,J,bt.nil _ _,aZ _,fun k C=>by simp [eE] at C,fun _=>rfl⟩
 · refine ⟨_,cap,J,⟨fun _=>rfl,fun j u hu=> ?_⟩,hle,fun k C=> ?_,fun C=>by simp [eE] at C⟩
   · show au w.heap g (0 +j)=_;rw [cy,bV E];rw [← I,ib] at hu;split at hu
     · simpa using hu
     · cases hu
   · simp only [eE,bD] at C; subst C;exact ⟨J,hb,(eC.1 E).1⟩
theorem eM {w:ah} {B e size n cap:Nat} {a:Option bh} {xs:List ag} (h:w.ownsRow B e size (.slice a n cap) n xs):n≤cap∧bt w.heap a xs:=by grind [nF]
theorem nH {w:ah} {B B' e size n:Nat} {v:ag} {xs:List ag} (h:w.ownsRow B e size v n xs) (E:B'≤B):w.ownsRow B' e size v n xs:=by
 refine ⟨h.1,?_⟩;rcases h.2 with h | ⟨g,cap,cur,h1,C,r⟩
 · exact .inl h
 · exact .inr ⟨g,cap,cur,h1,cS E C,r⟩
section
variable {P:ar} {N:Fm} {σ:Nat→ag} {w:ah} {dst:Option Nat} {ty:aq} {pos :String} {af:Array cq} {g:Option (Nat×Bool)} {x y z:aY} {K:(Nat→ag)→ah→Prop}
end
end Go.Hb
namespace Go.Hb
section
variable {P:ar} {md:mR} {ops:Array aC} {Q:bo→Act→ah→Prop} {S:ah→Prop} {r:Nat}
def kh (P:ar) (md:mR) (ops:Array aC) (Q:bo→Act→ah→Prop) (S:ah→Prop) (r:Nat):Nat→Array Bool→Act→ah→Prop
 | 0,listed,a,w=>dG md ops listed= []∧Q .normal a w
 | fuel+1,listed,a,w=>
   (dG md ops listed= []→Q .normal a w)∧
   ∀ i∈dG md ops listed,wpOp P ops Q i (fun C w'=>((listed.setIfInBounds i true).getD r false =false→S w')∧kh P md ops Q S r fuel (listed.setIfInBounds i true) C w') a w
theorem Ca:∀ (fuel:Nat) (listed:Array Bool) (a:Act) (w:ah),kh P md ops Q S r fuel listed a w→wpAny P md ops Q fuel listed a w
 | 0,_,_,_,h=>h
 | fuel+1,_,_,_,h=>⟨h.1,fun i hi=>wpOp_mono (fun C w' h'=>Ca fuel _ C w' h'.2)<|h.2 i hi⟩
theorem J5 {i:Nat} {I:aC} {v:ag} (hi:ops[i]? =some I) (al:∀ (j:Nat) (o:aC) cs b,ops[j]? =some o→o.op≠.select cs b)
 (ap:∀ c a w,Q (.panic c) (a.put I.dst v) w→Q (.panic c) a w) (aB:∀ o,ops[r]? =some o→∃ x∈o.after,dr md x=true∧x.on=i) (au:i≠r):
 ∀ (fuel:Nat) (listed:Array Bool) (a:Act) (w:ah),
   (∀ j E,ops[j]? =some E→j≠i→listed.getD j true =false→(∀ x∈E.after,dr md x=true→x.on≠i)→I.apart ops E=true)→
   i∈dG md ops listed→YieldsIf P ops S I v a→S w→listed.getD r false =false→
   kh P md ops Q S r fuel (listed.setIfInBounds i true) (a.put I.dst v) w→kh P md ops Q S r (fuel+1) listed a w:=by
 intro fuel
 induction fuel with
 | zero=>
   intro listed a w _ hr V J _ H;refine ⟨fun h=>(by rw [h] at hr; cases hr),fun j O=> ?_⟩;by_cases C:j=i
   · subst C; exact V.wpOp hi J ⟨fun _=>J,H⟩
   · have :=ready_mono O C;rw [H.1] at this;cases this
 | succ fuel ih=>
   intro listed a w ab hr V J ai H;refine ⟨fun h=>(by rw [h] at hr; cases hr),fun j O=> ?_⟩;by_cases C:j=i
   · subst C; exact V.wpOp hi J ⟨fun _=>J,H⟩
   · have h1:=H.2 j<|ready_mono O C;obtain ⟨ae,E,U,aq⟩:=mem_ready.1 O;have ak:∀ x∈E.after,dr md x=true→x.on≠i:=fun x Z hb heq=>by
      have h1:=aq x Z hb;have h0:=(mem_ready.1 hr).1;rw [heq] at h1;rcases di i listed.size with h' | h'
      · simp [h'] at h0 h1; rw [h0] at h1; cases h1
      · simp [sA h'] at h1
     have ad:j≠r:=by
      rintro rfl;obtain ⟨x,Z,hb,aA⟩:=aB E U;exact ak x Z hb aA
     have ax:(listed.setIfInBounds j true).getD r false =false :=by rw [getD_set_ne false ad]; exact ai
     have aj:((listed.setIfInBounds i true).setIfInBounds j true).getD r false =false :=by rw [getD_set_ne false ad,getD_set_ne false au]; exact ai
     have ao:=wpOp_putIf U (ab j E U C ae ak) (fun cs b=>al i I cs b hi) (fun cs b=>al j E cs b U) ap V h1;have ar:∀ k ok,ops[k]? =some ok→k≠i→(listed.setIfInBounds j true).getD k true =false→
      (∀ x∈ok.after,dr md x=true→x.on≠i)→I.apart ops ok=true :=fun k ok av aw am ay=>by
      refine ab k ok av aw ?_ ay;by_cases ac:j=k
      · subst ac; exact ae
      · rw [getD_set_ne true ac] at am; exact am
     refine wpOp_mono (fun an w' L=>⟨fun _=>L.2.1 aj,ih (listed.setIfInBounds j true) an w' ar (ready_mono hr<|Ne.symm C) L.1 (L.2.1 aj) ax ?_⟩) ao;rw [xf _ _ C];exact L.2.2
end
section
variable {P:ar} {N:Fm} {ops:Array aC} {Q:bo→(Nat→ag)→ah→Prop} {σ:Nat→ag} {w:ah} {S:ah→Prop} {r fuel:Nat} {listed:Array Bool}
 {d':Option Nat} {d:Nat} {op:Op} {ty:aq} {pos :String} {af:Array cq} {v:ag}
def cg (P:ar) (N:Fm) (ops:Array aC) (Q:bo→(Nat→ag)→ah→Prop) (S:ah→Prop) (r fuel:Nat) (listed:Array Bool) (σ:Nat→ag) (w:ah):Prop :=
 kh P .any ops (lift N Q) S r fuel listed (act N σ) w
theorem po {id:Nat} {l:List aC} (S:ah→Prop) (r:Nat) (hr:jx N.r l=true) (hm:P.follows .mixedOrders=true) (C:S w.drew) (h:cg P N l.toArray Q S r l.length (mH l.length false) σ w.drew):bA P N (.region id l.toArray true) Q σ w:=by
 exact xU hr hm<|Ca _ _ _ _<|by rw [dY]; exact h
def nr (F:List Nat) (ops:Array aC) (listed:Array Bool) (r i:Nat):Bool:=
 dU F ops listed i && !(listed.getD r false) && i !=r && (match ops[r]? with | some o=>o.after.toList.any (fun x=>dr .any x && x.on==i) | none=>false)
theorem lq (i:Nat) (hi:ops[i]? =some ⟨some d,op,ty,pos,af,none⟩) (E:nr N.F ops listed r i=true)
 (V:∀ w,S w→(execOp (ev N σ) ⟨some d,op,ty,pos,af,none⟩).run P w= .ok (.value v) w) (C:S w)
 (k:cg P N ops Q S r fuel (listed.setIfInBounds i true) (bd σ d v) w):cg P N ops Q S r (fuel+1) listed σ w:=by
 simp only [nr,dU,a9,jF,bne_iff_ne,ne_eq] at E;obtain ⟨⟨⟨⟨⟨⟨J,L⟩,hf3⟩,hfF⟩,hf4⟩,hf5⟩,hf6⟩:=E;rw [hi] at hfF;refine J5 hi (xu J) (fun c a w=>lY hfF c a w) (fun o O=> ?_) hf5 fuel listed _ w (xr hi L) (by simpa using hf3) (.inl ⟨fw _ rfl _,fun w C=> ?_⟩) C hf4 ?_ (v:=v)
 · rw [O] at hf6;simp only [C9,a9,beq_iff_eq] at hf6;obtain ⟨x,U,h1,I⟩:=hf6;exact ⟨x,sC.1 U,h1,I⟩
 · rw [dk]; exact V w C
 · rw [eu]; exact k
theorem z9 (i:Nat) (hi:ops[i]? =some ⟨d',op,ty,pos,af,none⟩) (hr:iu ops listed i=true)
 (h:bS P N ⟨d',op,ty,pos,af,none⟩ σ w (fun σ w=>((listed.setIfInBounds i true).getD r false =false→S w)∧cg P N ops Q S r fuel (listed.setIfInBounds i true) σ w)):cg P N ops Q S r (fuel+1) listed σ w:=by
 have E:dG .any ops listed= [i]:=by simpa [iu] using hr
 refine ⟨fun h0=>absurd (E ▸ h0) (by simp),fun k C=> ?_⟩;rw [E] at C;obtain rfl :k=i:=by simpa using C
 unfold wpOp;simp only [hi];rw [if_pos (fw _ rfl _)];exact .inl<|pW h fun _ _ C=>C
theorem gP (i:Nat) (hi:ops[i]? =some ⟨d',op,ty,pos,af,none⟩) (hr:iu ops listed i=true)
 (h:bS P N ⟨d',op,ty,pos,af,none⟩ σ w (fun σ w=>S w∧cg P N ops Q S r fuel (listed.setIfInBounds i true) σ w)):cg P N ops Q S r (fuel+1) listed σ w:=by grind [z9,Ce]
theorem nw (i:Nat) (hi:ops[i]? =some ⟨d',op,ty,pos,af,none⟩) (hr:iu ops listed i=true) (E:(listed.setIfInBounds i true).getD r false =true)
 (h:bS P N ⟨d',op,ty,pos,af,none⟩ σ w (fun σ w=>cg P N ops Q S r fuel (listed.setIfInBounds i true) σ w)):cg P N ops Q S r (fuel+1) listed σ w:=
 z9 i hi hr (Ce h fun _ _ C=>⟨fun h0=>absurd (h0.symm.trans E) cB,C⟩)
theorem ny (hr:(dG .any ops listed).isEmpty=true) (h:Q .normal σ w):cg P N ops Q S r fuel listed σ w:=by
 have C:dG .any ops listed= []:=by simpa using hr
 cases fuel with
 | zero=>exact ⟨C,σ,rfl,h⟩
 | succ fuel=>exact ⟨fun _=>⟨σ,rfl,h⟩,by rw [C]; simp⟩
attribute [irreducible] cg
end
end Go.Hb
namespace Go.Hb
section
variable {P:ar} {md:mR} {ops:Array aC} {Q:bo→Act→ah→Prop} {S:ah→Prop} {r:Nat}
inductive lG (md:mR) (ops:Array aC) (i:Nat):Nat→Prop
 | one {r o e} :ops[r]? =some o→e∈o.after→dr md e=true→e.on=i→lG md ops i r
 | more {r o e} :ops[r]? =some o→e∈o.after→dr md e=true→lG md ops i e.on→lG md ops i r
def lF (md:mR) (ops:Array aC) (listed:Array Bool):Prop := ∀ (j:Nat) (o:aC),ops[j]? =some o→listed.getD j false =true→∀ e∈o.after,dr md e=true→listed.getD e.on false =true
theorem zM {listed:Array Bool} {j k:Nat} (h:listed.getD k false =true):(listed.setIfInBounds j true).getD k false =true :=by
 by_cases e:j=k
 · subst e;by_cases C:j < listed.size
   · simp [C]
   · simp [C] at h
 · rw [getD_set_ne false e]; exact h
theorem lF.set {listed:Array Bool} {j:Nat} (h:lF md ops listed) (L:j∈dG md ops listed):lF md ops (listed.setIfInBounds j true):=by
 intro k o C I e he hb;obtain ⟨_,U,O,J⟩:=mem_ready.1 L;by_cases E:j=k
 · subst E;rw [O] at C; cases C;exact zM<|J e he hb
 · rw [getD_set_ne false E] at I;exact zM<|h k o C I e he hb
theorem lG.listed {listed:Array Bool} {i r:Nat} (L:lG md ops i r) (J:lF md ops listed) (ha:∀ o,ops[r]? =some o→∀ e∈o.after,dr md e=true→listed.getD e.on false =true):listed.getD i false =true :=by
 induction L with
 | one h1 C E I=>rw [← I]; exact ha _ h1 _ C E
 | more h1 C E _ ih=>exact ih fun o O e he hb=>J _ o O (ha _ h1 _ C E) e he hb
theorem J4 {i:Nat} {E:aC} {v:ag} (hi:ops[i]? =some E) (an:∀ (j:Nat) (o:aC) cs b,ops[j]? =some o→o.op≠.select cs b)
 (ar:∀ c a w,Q (.panic c) (a.put E.dst v) w→Q (.panic c) a w) (au:lG md ops i r) (aw:i≠r):
 ∀ (fuel:Nat) (listed:Array Bool) (a:Act) (w:ah),lF md ops listed→
   (∀ j I,ops[j]? =some I→j≠i→listed.getD j true =false→(∀ x∈I.after,dr md x=true→x.on≠i)→E.apart ops I=true)→
   i∈dG md ops listed→YieldsIf P ops S E v a→S w→listed.getD r false =false→
   kh P md ops Q S r fuel (listed.setIfInBounds i true) (a.put E.dst v) w→kh P md ops Q S r (fuel+1) listed a w:=by
 intro fuel
 induction fuel with
 | zero=>
   intro listed a w _ _ hr V J _ H;refine ⟨fun h=>(by rw [h] at hr; cases hr),fun j L=> ?_⟩;by_cases C:j=i
   · subst C; exact V.wpOp hi J ⟨fun _=>J,H⟩
   · have :=ready_mono L C;rw [H.1] at this;cases this
 | succ fuel ih=>
   intro listed a w ab ac hr V J ak H;refine ⟨fun h=>(by rw [h] at hr; cases hr),fun j L=> ?_⟩;by_cases C:j=i
   · subst C; exact V.wpOp hi J ⟨fun _=>J,H⟩
   · have h1:=H.2 j<|ready_mono L C;obtain ⟨aj,I,U,Z⟩:=mem_ready.1 L;have ad:listed.getD i false =false :=by
      have h0:=(mem_ready.1 hr).1;rcases di i listed.size with h' | h'
      · simpa [h'] using h0
      · simp [h'] at h0
     have aD:∀ x∈I.after,dr md x=true→x.on≠i:=fun x aE hb heq=>by
      have h1:=Z x aE hb;rw [heq,ad] at h1; cases h1
     have ai:j≠r:=by
      rintro rfl;have :=au.listed ab fun o am=>by rw [U] at am; cases am; exact Z
      rw [ad] at this; cases this
     have aA:(listed.setIfInBounds j true).getD r false =false :=by rw [getD_set_ne false ai]; exact ak
     have al:((listed.setIfInBounds i true).setIfInBounds j true).getD r false =false :=by rw [getD_set_ne false ai,getD_set_ne false aw]; exact ak
     have aq:=wpOp_putIf U (ac j I U C aj aD) (fun cs b=>an i E cs b hi) (fun cs b=>an j I cs b U) ar V h1;have av:∀ k ok,ops[k]? =some ok→k≠i→(listed.setIfInBounds j true).getD k true =false→
      (∀ x∈ok.after,dr md x=true→x.on≠i)→E.apart ops ok=true :=fun k ok ax ay ao aB=>by
      refine ac k ok ax ay ?_ aB;by_cases ae:j=k
      · subst ae; exact aj
      · rw [getD_set_ne true ae] at ao; exact ao
     refine wpOp_mono (fun ap w' O=>⟨fun _=>O.2.1 al,ih (listed.setIfInBounds j true) ap w' (ab.set L) av (ready_mono hr<|Ne.symm C) O.1 (O.2.1 al) aA ?_⟩) aq;rw [xf _ _ C];exact O.2.2
theorem J6 {i:Nat} {E:aC} {v:ag} (hi:ops[i]? =some E) (ai:∀ (j:Nat) (o:aC) cs b,ops[j]? =some o→o.op≠.select cs b)
 (am:∀ c a w,Q (.panic c) (a.put E.dst v) w→Q (.panic c) a w) (V:i≠r):
 ∀ (fuel:Nat) (listed:Array Bool) (a:Act) (w:ah),
   (∀ j I,ops[j]? =some I→j≠i→listed.getD j true =false→(∀ x∈I.after,dr md x=true→x.on≠i)→E.apart ops I=true)→
   i∈dG md ops listed→YieldsIf P ops (fun _=>True) E v a→(listed.getD r false =false→S w)→
   kh P md ops Q S r fuel (listed.setIfInBounds i true) (a.put E.dst v) w→kh P md ops Q S r (fuel+1) listed a w:=by
 intro fuel
 induction fuel with
 | zero=>
   intro listed a w _ hr O U H;refine ⟨fun h=>(by rw [h] at hr; cases hr),fun j L=> ?_⟩;by_cases C:j=i
   · subst C; exact O.wpOp hi trivial ⟨fun h=>U (by rw [getD_set_ne false V] at h; exact h),H⟩
   · have :=ready_mono L C;rw [H.1] at this;cases this
 | succ fuel ih=>
   intro listed a w ac hr O U H;refine ⟨fun h=>(by rw [h] at hr; cases hr),fun j L=> ?_⟩;by_cases C:j=i
   · subst C; exact O.wpOp hi trivial ⟨fun h=>U (by rw [getD_set_ne false V] at h; exact h),H⟩
   · have h1:=H.2 j<|ready_mono L C;obtain ⟨ae,I,Z,an⟩:=mem_ready.1 L;have ap:listed.getD i false =false :=by
      have h0:=(mem_ready.1 hr).1;rcases di i listed.size with h' | h'
      · simpa [h'] using h0
      · simp [h'] at h0
     have av:∀ x∈I.after,dr md x=true→x.on≠i:=fun x aw hb heq=>by
      have h1:=an x aw hb;rw [heq,ap] at h1; cases h1
     have al:=wpOp_putIf Z (ac j I Z C ae av) (fun cs b=>ai i E cs b hi) (fun cs b=>ai j I cs b Z) am O h1;have ao:∀ k ok,ops[k]? =some ok→k≠i→(listed.setIfInBounds j true).getD k true =false→
      (∀ x∈ok.after,dr md x=true→x.on≠i)→E.apart ops ok=true :=fun k ok aq ar aj au=>by
      refine ac k ok aq ar ?_ au;by_cases ad:j=k
      · subst ad; exact ae
      · rw [getD_set_ne true ad] at aj; exact aj
     have ab:(listed.setIfInBounds i true).setIfInBounds j true =(listed.setIfInBounds j true).setIfInBounds i true :=xf _ _ fun e=>C e.symm;have hg:(listed.setIfInBounds j true).getD r false =false→((listed.setIfInBounds i true).setIfInBounds j true).getD r false =false :=fun h=>by rw [ab,getD_set_ne false V]; exact h
     refine wpOp_mono (fun ak w' J=>⟨fun h=>J.2.1 (hg h),ih (listed.setIfInBounds j true) ak w' ao (ready_mono hr<|Ne.symm C) J.1 (fun h=>J.2.1<|hg h) ?_⟩) al;rw [← ab];exact J.2.2
end
section
variable {P:ar} {N:Fm} {ops:Array aC} {Q:bo→(Nat→ag)→ah→Prop} {σ:Nat→ag} {w:ah} {S:ah→Prop} {r fuel:Nat} {listed:Array Bool}
 {d:Nat} {op:Op} {ty:aq} {pos :String} {af:Array cq} {v:ag}
def qO (ops:Array aC) (i:Nat):Nat→Nat→Bool
 | 0,_=>false
 | f+1,r=>match ops[r]? with | some o=>o.after.toList.any (fun e=>dr .any e && (e.on==i || qO ops i f e.on)) | none=>false
theorem Fb {i:Nat} :∀ (f r:Nat),qO ops i f r=true→lG .any ops i r:=by
 intro f
 induction f with
 | zero=>intro r h; cases h
 | succ f ih=>
   intro r h;rw [qO] at h;split at h
   · rename_i o C;simp only [C9,a9,mI,beq_iff_eq] at h;obtain ⟨e,he,hb,h⟩:=h;rcases h with h | h
     · exact .one C (sC.1 he) hb h
     · exact .more C (sC.1 he) hb<|ih _ h
   · cases h
def tO (ops:Array aC) (listed:Array Bool):Bool:=(lu ops.size).all fun j=> !listed.getD j false || match ops[j]? with | some o=>o.after.toList.all (fun e=> !dr .any e || listed.getD e.on false) | none=>true
theorem Ez (h:tO ops listed=true):lF .any ops listed:=by grind [tO,lF]
def uz (F:List Nat) (ops:Array aC) (listed:Array Bool) (r i:Nat):Bool:=dU F ops listed i && !(listed.getD r false) && i !=r && tO ops listed && qO ops i ops.size r
def lS (F:List Nat) (ops:Array aC) (listed:Array Bool) (r i:Nat):Bool:=dU F ops listed i && i !=r
theorem Ag (i:Nat) (hi:ops[i]? =some ⟨some d,op,ty,pos,af,none⟩) (E:uz N.F ops listed r i=true)
 (L:∀ w,S w→(execOp (ev N σ) ⟨some d,op,ty,pos,af,none⟩).run P w= .ok (.value v) w) (C:S w)
 (k:cg P N ops Q S r fuel (listed.setIfInBounds i true) (bd σ d v) w):cg P N ops Q S r (fuel+1) listed σ w:=by
 simp only [uz,dU,a9,jF,bne_iff_ne,ne_eq] at E;obtain ⟨⟨⟨⟨⟨⟨⟨I,J⟩,hf3⟩,hfF⟩,hf4⟩,hf5⟩,hf6⟩,hf7⟩:=E;rw [hi] at hfF;unfold cg at*;refine J4 hi (xu I) (fun c a w=>lY hfF c a w) (Fb _ _ hf7) hf5 fuel listed _ w (Ez hf6) (xr hi J) (by simpa using hf3) (.inl ⟨fw _ rfl _,fun w C=> ?_⟩) C hf4 ?_ (v:=v)
 · rw [dk]; exact L w C
 · rw [eu]; exact k
theorem pn (i:Nat) (hi:ops[i]? =some ⟨some d,op,ty,pos,af,none⟩) (C:lS N.F ops listed r i=true)
 (L:∀ w,(execOp (ev N σ) ⟨some d,op,ty,pos,af,none⟩).run P w= .ok (.value v) w) (E:listed.getD r false =false→S w)
 (k:cg P N ops Q S r fuel (listed.setIfInBounds i true) (bd σ d v) w):cg P N ops Q S r (fuel+1) listed σ w:=by
 simp only [lS,dU,a9,bne_iff_ne,ne_eq] at C;obtain ⟨⟨⟨⟨I,J⟩,hf3⟩,hfF⟩,hf5⟩:=C;rw [hi] at hfF;unfold cg at*;refine J6 hi (xu I) (fun c a w=>lY hfF c a w) hf5 fuel listed _ w (xr hi J) (by simpa using hf3) (.inl ⟨fw _ rfl _,fun w _=> ?_⟩) E ?_ (v:=v)
 · rw [dk]; exact L w
 · rw [eu]; exact k
end
end Go.Hb
namespace Go.Hb
def BY:Nat→Nat→List UInt8
 | 0,n=> [ek n]
 | f+1,n=>if n < 128 then [ek n] else ek (n % 128 +128)::BY f (n / 128)
def Jm (n:Nat):List UInt8:=BY n n
def frame:List (List UInt8)→List UInt8
 | []=> []
 | r::l=>Jm r.length++(r++frame l)
theorem wg {α:Type} (l:List α) (i:Nat) (d:α) (h:i < l.length):l.take (i+1)=l.take i++ [l.getD i d]:=by simp_all
end Go.Hb
namespace Go.Hb
def U8 (l:List UInt8):List ag:=l.map fun b=>aT .u8 b.toNat
theorem m3 (l:List UInt8):(U8 l).length=l.length:=by simp [U8]
theorem qB (a b:List UInt8):U8 (a++b)=U8 a++U8 b:=by simp [U8]
def lK (P:ar) (t e u:aq):Bool:=
 dV P t e 1 1 && (match P.underlying e with | some (.int .u8)=>true | _=>false) && (match P.underlying u with | some .string=>true | _=>false) &&
  (match P.info? e with | some i=>(match i.zero with | some (.int .u8 0)=>true | _=>false) | none=>false)
theorem Ei {P:ar} {t e u:aq} (h:lK P t e u=true):
 dV P t e 1 1=true∧P.underlying e=some (.int .u8)∧P.underlying u=some .string∧∃ i,P.info? e=some i∧i.zero=some (.int .u8 0):=by grind [lK,dV]
section
variable {P:ar} {N:Fm} {σ:Nat→ag} {w:ah} {dst:Option Nat} {ty:aq} {pos :String} {af:Array cq} {g:Option (Nat×Bool)} {x y z:aY} {K:(Nat→ag)→ah→Prop}
theorem foldl_push (l:List UInt8) (r:ByteArray):(l.map fun b=>(b.toNat:Int)).foldl (fun r n=>r.push<|ek n.toNat) r=⟨r.data++l.toArray⟩:=by
 induction l generalizing r with
 | nil=>simp
 | cons b l ih=>
   simp only [eR,qp];rw [ih];apply ByteArray.ext;simp [ByteArray.push]
theorem oW {t e u n c:Nat} {a:Option bh} {l:List UInt8} (h:lK P t e u=true) (Z:ev N σ x= .slice a n c) (C:bt w.heap a (U8 l)) (E:l.length=n):
 (execOp (ev N σ) ⟨dst,.convert t u x,ty,pos,af,g⟩).run P w= .ok (.value<|str l) w:=by
 obtain ⟨h1,I,L,_⟩:=Ei h;obtain ⟨hu,_⟩:=pP h1;have O:(CH<|.slice a n c).run P w= .ok (str l) w:=by
  by_cases he:l= []
  · subst he;cases a with
    | none=>simp [CH,str]; rfl
    | some a=>
      subst E;have :=run_bytesToString (P:=P) w a 0 c []<|by simp [loadCells,loadCellsFrom]
      exact this.trans J
  · have ha:=C.ok<|by simpa [U8] using he
    have V:(loadCells ⟨bk a,fo a,none⟩ n).run P w= .ok ((l.map fun b=>(b.toNat:Int)).map<|aT .u8).toArray w:=by
     subst E;have :=run_loadCells_list (P:=P) w ⟨bk a,fo a,none⟩ (U8 l) fun j v U=>by
      rw [fh,iP];exact C.au j v U
     rw [m3] at this;rw [this];simp [U8]
    rw [ha,run_bytesToString w _ n c _ V,foldl_push];simp [str,ByteArray.empty,ByteArray.emptyWithCapacity];rfl
 simp [execOp,Z,run_convert_bytes_string w t u e a n c hu I L,O]
theorem wG {at_:Array aq} {v:ag} {a:Option bh} {n c:Nat} (C:ev N σ x= .slice a n c) (h:a=none∨c≠0):
 (execOp (ev N σ) ⟨dst,.call ⟨.builtin .unsafeSliceData,#[x],at_⟩,ty,pos,af,g⟩).run P w= .ok (.value<|.pointer a) w:=by
 have _:=v;have :(Builtin.unsafeSliceData_ at_ ty #[.slice a n c]).run P w= .ok (.pointer a) w:=by
  cases a with
  | none=>exact Lib.run_unsafeSliceData_nil w at_ ty n c
  | some a=>exact Lib.run_unsafeSliceData_row w at_ ty a n c<|h.resolve_left<|by simp
 simp [execOp,resolve,invoke,builtin,C,this]
def ptrTo (P:ar) (C e:aq):Bool:=match P.underlying C with | some (.pointer e')=>e'==e && P.cellsOf e==1 | _=>false
theorem Jq {L it e B n c:Nat} {a:Option bh} {l:List UInt8} {xs:List ag} (hp:ptrTo P L e=true) (V:ev N σ x= .pointer a) (Z:ev N σ y= .int .i64 n) (I:w.ownsRow B e 1 (.slice a n c) n xs)
 (am:xs=U8 l) (ao:n≤9223372036854775807)
 (k:∀ w',Md (fun k=>(dH a n c).ownBlock=some k) w w'→w'.heap.size=w.heap.size→K (dc σ dst<|str l) w'):
 bS P N ⟨dst,.call ⟨.builtin .unsafeString,#[x,y],#[L,it]⟩,ty,pos,af,g⟩ σ w K:=by
 subst am;have C:l.length=n:=by have :=I.1; simpa [U8] using this
 unfold ptrTo at hp;split at hp
 case h_2=>cases hp
 rename_i e' hu;simp only [a9,beq_iff_eq] at hp;obtain ⟨rfl,ab⟩:=hp;by_cases he:l= []
 · subst he;obtain rfl :n=0:=C.symm;refine g8 (w':=w) (v:=str []) ?_<|k w (Md.refl _ _) J;simp [execOp,resolve,invoke,builtin,V,Z,Lib.run_unsafeString_none];rfl
 · rcases I.2 with ⟨h,h0⟩ | ⟨E,cap,cur,h,_,ae,hle,_,al,ap⟩
   · subst h0; simp only [List.length_eq_zero_iff] at C; exact absurd C he
   · simp only [ln,true_and] at h;obtain ⟨rfl,rfl⟩:=h;have ak:w.shape? E=some (e',cur.size):=by simp [xw,ae]
     have hr:=Lib.run_unsafeString_row (P:=P) w L it ty e' hu ab E cur.size ak l he (by rw [C,al]; omega) U (fun j u hu=>by
      obtain ⟨ad,an,O,ac,_,ah,_⟩:=nF I;simp only [ln,true_and] at O;obtain ⟨rfl,rfl⟩:=O;rw [fh,iP];exact ac.au j _ (by simp [U8,hu]))
     refine g8 (w':=w.freeze ⟨E,0,none⟩ l.length) (v:=str l) ?_ (k _ ⟨?_,?_,?_,?_⟩ ?_)
     · simp [execOp,resolve,invoke,builtin,V,Z,← C,hr,str]
     · unfold ko; split <;> rfl
     · unfold ko; split <;> rfl
     · unfold ko; split <;> simp
     · intro k ah ai;have aj:k≠E:=fun e=>ai<|by simp [eE,e]
       unfold ko;split
       · rfl
       · simp only [Array.getElem?_modify]; rw [if_neg (fun e=>aj e.symm)]
     · unfold ko; split <;> simp
def mg (P:ar) (C up e n:Nat):Bool:=
 (match P.underlying C with | some (.pointer e')=>e'==e | _=>false) && (match P.underlying up with | some .unsafePointer=>true | _=>false) && P.cellsOf e==n && aD 0 n && (match P.info? e with | some i=>i.size==n | _=>false)
theorem B2 {P:ar} {E up e n:Nat} (h:mg P E up e n=true):P.underlying E=some (.pointer e)∧P.underlying up=some .unsafePointer∧P.cellsOf e=n∧0 < n∧∃ i,P.info? e=some i∧i.size=n:=by
 simp only [mg,a9] at h;obtain ⟨⟨⟨⟨h1,C⟩,h3⟩,h4⟩,h5⟩:=h;refine ⟨?_,?_,by simpa using h3,lz (lA 0) (bJ h4),?_⟩
 · split at h1
   · rename_i h; simp only [beq_iff_eq] at h1; rw [h,h1]
   · cases h1
 · split at C
   · rename_i h; exact h
   · cases C
 · split at h5
   · rename_i i hi; exact ⟨i,hi,by simpa using h5⟩
   · cases h5
theorem BS {C up e n b:Nat} {L:List ag} (h:mg P C up e n=true) (Z:ev N σ x= .pointer (some ⟨b,0,none⟩)) (hb:w.heap[b]? =some (.cells L.toArray e (0,0))) (I:L.length=n):
 (execOp (ev N σ) ⟨dst,.convert C up x,ty,pos,af,g⟩).run P w= .ok (.value<|.pointer<|some ⟨b,0,none⟩) w:=by
 obtain ⟨h1,E,ab,ac,i,hi,O⟩:=B2 h;have V:w.shape? b=some (e,L.length):=by simp [xw,hb]
 have J:¬n=0:=U;simp [execOp,Z,convert,bp h1,bp E,CK,CJ,viewAt,V,cellsIn,I,sizeOf,cU hi,O,J]
theorem zF {I up e n b:Nat} {L:List ag} (h:mg P I up e n=true) (ae:ev N σ x= .pointer (some ⟨b,0,none⟩)) (hb:w.heap[b]? =some (.cells L.toArray e (0,0))) (Z:L.length=n):
 (execOp (ev N σ) ⟨dst,.convert up I x,ty,pos,af,g⟩).run P w= .ok (.value<|.pointer<|some ⟨b,0,none⟩) w:=by
 obtain ⟨h1,J,O,V,i,hi,ac⟩:=B2 h;have ad:w.shape? b=some (e,L.length):=by simp [xw,hb]
 have E:¬n=0:=U;have ab:liesAt P P.depth e (L.length / P.cellsOf e) 0 e 1=true :=by
  have C:P.depth=(2 *(P.types.size+Made.depth)+1)+1:=rfl;rw [C];simp only [liesAt,mI];left;rw [C];simp [rowAt,O,E,Z,sameLayout,Nat.div_self V]
 simp [execOp,ae,convert,bp h1,bp J,CK,CJ,viewAt,ad,variablesAt,sizeOf,cU hi,ac,E,ab]
theorem He {t t' e:aq} {a:bh} (hu:P.underlying t=some (.pointer e)) (E:(P.info? e).isSome=true) (I:ev N σ x= .pointer (some a)) (J:ev N σ y= .pointer (some a)):
 (execOp (ev N σ) ⟨dst,.binOp .neq t x y t',ty,pos,af,g⟩).run P w= .ok (.value<|.bool false) w:=by
 obtain ⟨i,hi⟩:=lB.1 E;have he:∀ d,(gC (d+1) t (.pointer<|some a)<|.pointer<|some a).run P w= .ok true w:=by
  intro d;simp [gC,bp hu,sizeOf,cU hi,sameAddr]
 have h:(binOp .neq t (.pointer<|some a)<|.pointer<|some a).run P w= .ok (.bool false) w:=by
  have :=he 9999;simp only [binOp];have C:(ll t (.pointer<|some a)<|.pointer<|some a).run P w= .ok true w:=this;simp [C]
 simp [execOp,I,J,eqGuard,h]
theorem EA {f:dQ} {args:Array aY} {C:Array aq} {v:ag} (I:∀ v w,(callFunc f #[v]).run P w= .ok (.value v) w) (E:args.toList.map (ev N σ)= [v]):
 (execOp (ev N σ) ⟨dst,.call ⟨.value (.func f),args,C⟩,ty,pos,af,g⟩).run P w= .ok (.value v) w:=by
 have :args.map (ev N σ)= #[v]:=by rw [← p7,iC,E]
 simp [execOp,resolve,ev,lk,invoke,this,I]
structure Bd (T e:aq) (w:ah) (b:Nat) (buf:ag) (l:List UInt8):Prop where
 an:∃ pa,w.heap[b]? =some (.cells [sO pa,buf].toArray T (0,0))∧(pa=none∨pa=some ⟨b,0,none⟩)
 own:w.ownsRow (b+1) e 1 buf l.length (U8 l)
 nil:buf= .slice none 0 0↔l= []
def BF (b:Nat) (C:ag) (k:Nat):Prop :=k=b∨C.ownBlock=some k
end
theorem Bd.lt {T e b:Nat} {w:ah} {C:ag} {l:List UInt8} (h:Bd T e w b C l):b < w.heap.size:=let ⟨_,h,_⟩:=h.an; (eC.1 h).1
theorem Bd.q6 {T e b:Nat} {w:ah} {E:ag} {l:List UInt8} (h:Bd T e w b E l) {k:Nat} (C:BF b E k):b≤k∧k < w.heap.size:=by
 rcases C with rfl | C
 · exact ⟨aZ _,h.lt⟩
 · have :=h.own.lt k C; omega
theorem Bd.md {T e b:Nat} {F:Nat→Prop} {w w':ah} {C:ag} {l:List UInt8} (h:Bd T e w b C l) (hm:Md F w w') (E:∀ k,BF b C k→¬F k):Bd T e w' b C l:=by
 obtain ⟨⟨O,h1,I⟩,h3,h4⟩:=h;exact ⟨⟨O,hm.an h1 (E b<|.inl J),I⟩,cG h3 hm (fun k L=>E k<|.inr L),h4⟩
end Go.Hb
namespace Go.Hb
def dX (P:ar) (t:aq):Option (List (Nat×Nat)×List ag):=
 match P.info? t,P.underlying t with
 | some it,some (.struct fields)=>
   match it.zero,fields.toList.mapM (fun f=>(P.info? f.type).map fun i=>(f.offset,i.size)) with
   | some z,some pl=>some (pl,z.cells.toList)
   | _,_=>none
 | _,_=>none
def pG (pl:List (Nat×Nat)):List ag→List (Nat×ag)→Option (List ag)
 | C,[]=>some C
 | C,(i,v)::r=>match pl[i]? with
   | some (off,s)=>if (s==1 && v.oneCell' && aD off C.length)=true then pG pl (C.set off v) r else none
   | none=>none
theorem HC {pl:List (Nat×Nat)} {C L:List ag} {ps:List (Nat×ag)} (h:pG pl C ps=some L):jI (pl.toArray[·]?) C.toArray ps=some L.toArray:=by
 induction ps generalizing C with
 | nil=>simp only [pG,bD] at h; subst h; rfl
 | cons p ps ih=>
   obtain ⟨i,v⟩:=p;simp only [pG] at h;split at h
   · rename_i off s J;split at h
     · rename_i E;simp only [a9,beq_iff_eq] at E;obtain ⟨⟨rfl,h1⟩,ho⟩:=E;have U:off < C.length:=bJ ho;have O:v.cells= #[v]:=l7 h1;have I:pl.toArray[i]? =some (off,1):=by simpa using J
       simp only [jI,I,O];rw [if_neg (by simp; omega),← ih h];simp
     · cases h
   · cases h
theorem qZ {α:Type} {f:α→List ag} {m:Nat} (C:∀ a,(f a).length=m) (l:List α):(l.flatMap f).length=l.length*m:=by
 induction l with
 | nil=>simp
 | cons x l ih=>simp [ih,C,xH,sZ]
theorem FK {α:Type} {f:α→List ag} {m:Nat} (C:∀ a,(f a).length=m) {l:List α} {j c:Nat} {a:α} (h:l[j]? =some a) (E:c < m):(l.flatMap f)[j*m+c]? =(f a)[c]? :=by
 induction l generalizing j with
 | nil=>simp at h
 | cons x l ih=>
   cases j with
   | zero=>
     simp only [hZ,bD] at h; subst h;rw [td,cy,ox,List.getElem?_append_left (by rw [C]; exact E)]
   | succ j=>
     simp only [hO] at h;rw [ox,List.getElem?_append_right (by rw [C,xH]; omega),C,show (j+1)*m+c - m=j*m+c from by rw [xH]; omega];exact ih h
theorem eU {α:Type} {f:α→List ag} {m:Nat} (C:∀ a,(f a).length=m) {h:Array Obj} {a:Option bh} {l:List α} {i:Nat} {e:α} (J:bt h a (l.flatMap f)) (L:l[i]? =some e):∀ j,j < m→Hb.au h (bk a) (fo a+i*m+j)=(f e)[j]? :=by
 intro j E;have h1:=FK C L E;have I:j < (f e).length:=by rw [C]; exact E
 rw [bG I] at h1 ⊢;rw [Nat.add_assoc]; exact J.au _ _ h1
theorem gK {α:Type} {f:α→List ag} {m:Nat} (C:∀ a,(f a).length=m) (hm:0 < m) {l:List α} (h:0 < l.length):l.flatMap f≠[]:=by
 intro e;have :=qZ C l;rw [e] at this;have :0 < l.length*m:=Nat.mul_pos h hm;simp at*; omega
theorem zy {α:Type} {f:α→List ag} (C:∀ a,(f a).all eD=true) (l:List α):(l.flatMap f).all eD=true :=by grind
section
variable {P:ar} {N:Fm} {σ:Nat→ag} {w:ah} {dst:Option Nat} {ty:aq} {pos :String} {af:Array cq} {g:Option (Nat×Bool)} {x y z:aY} {K:(Nat→ag)→ah→Prop}
theorem dt {t:aq} {parts:Array (Nat×aY)} {pl:List (Nat×Nat)} {C L:List ag} {ps:List (Nat×ag)} (h:dX P t=some (pl,C)) (hp:parts.toList.map (fun p=>(p.1,ev N σ p.2))=ps) (E:pG pl C ps=some L):
 (execOp (ev N σ) ⟨dst,.build t parts,ty,pos,af,g⟩).run P w= .ok (.value<|.agg L.toArray) w:=by
 unfold dX at h;split at h
 · rename_i it fields hi hu;split at h
   · rename_i z J I hm;simp only [bD,gk] at h;obtain ⟨rfl,rfl⟩:=h;have hb:P.built t (parts.map fun p=>(p.1,ev N σ p.2)).toList=some L.toArray:=by
      have :=HC E;simp only [Ct] at this;simp only [CX,hi,hu,I,hm,iC,hp]; exact this
     simp [execOp,run_build w t _ _ hb]
   · cases h
 · cases h
theorem Eb {t:aq} {parts:Array (Nat×aY)} {pl:List (Nat×Nat)} {C L:List ag} {ps:List (Nat×ag)} (h:dX P t=some (pl,C)) (hp:parts.toList.map (fun p=>(p.1,ev N σ p.2))=ps) (E:jI (pl.toArray[·]?) C.toArray ps=some L.toArray):
 (execOp (ev N σ) ⟨dst,.build t parts,ty,pos,af,g⟩).run P w= .ok (.value<|.agg L.toArray) w:=by
 unfold dX at h;split at h
 · rename_i it fields hi hu;split at h
   · rename_i z J I hm;simp only [bD,gk] at h;obtain ⟨rfl,rfl⟩:=h;have hb:P.built t (parts.map fun p=>(p.1,ev N σ p.2)).toList=some L.toArray:=by
      have :=E;simp only [Ct] at this;simp only [CX,hi,hu,I,hm,iC,hp]; exact this
     simp [execOp,run_build w t _ _ hb]
   · cases h
 · cases h
end
end Go.Hb
namespace Go.Hb
section
variable {P:ar} {N:Fm} {σ:Nat→ag} {w:ah} {dst:Option Nat} {ty:aq} {pos :String} {af:Array cq} {g:Option (Nat×Bool)} {x y z:aY} {K:(Nat→ag)→ah→Prop}
theorem GW {zv:ag} (h1:zv.oneCell'=true) (n:Nat):madeCells zv.cells n=(cZ n zv).toArray:=by
 rw [l7 h1];apply Array.ext
 · simp [madeCells]
 · intro i C E;simp [madeCells,Nat.mod_one]
theorem fJ {t e bytes n:Nat} {O L:bB} {zv:ag} (ai:dV P t e 1 bytes=true) (C:zeroOf P e=some (some [zv])) (h1:zv.oneCell'=true) (aj:ev N σ x= .int O n) (ak:ev N σ y= .int L n) (hb:bytes*n≤281474976710656) (E:n≤maxLen)
 (k:∀ b w',b=w.heap.size→Nw w w'→(∀ B,B≤b→w'.ownsRow B e 1 (.slice (some ⟨b,0,none⟩) n n) n (cZ n zv))→K (dc σ dst<|.slice (some ⟨b,0,none⟩) n n) w'):bS P N ⟨dst,.makeSlice t x y,ty,pos,af,g⟩ σ w K:=by
 obtain ⟨hu,i,V,hi,I,ah,ae,an,am⟩:=pP ai;have al:V.cells= #[zv]:=by
  unfold zeroOf at C;simp only [hi,I,eS,bD] at C;exact p7.1<|by simpa using C
 refine lj (v:=fun b=> .slice (some ⟨b,0,none⟩) n n) (ob:= .cells (cZ n zv).toArray e (0,0)) ?_ fun b w' Z ab ac=>k b w' Z ab fun B ad=>⟨by simp,.inr ⟨b,n,_,J,ad,ac,aZ _,E,by simp,by simp⟩⟩
 have hr:=run_make (P:=P) w t e i V hu hi I O L n n U (Int.le_refl _) (by rw [ae,← Int.natCast_mul]; omega)<|by unfold maxLen at E; omega
 rw [al,ah,Nat.mul_one,Int.toNat_natCast,show madeCells #[zv] n=(cZ n zv).toArray by rw [← GW h1,l7 h1]] at hr;simp [execOp,aj,ak,hr]
end
end Go.Hb
namespace Go.Hb
section
variable {P:ar} {N:Fm} {σ:Nat→ag} {w:ah} {dst:Option Nat} {ty:aq} {pos :String} {af:Array cq} {g:Option (Nat×Bool)} {x y z:aY}
theorem Ev {t n len cap i:Nat} {a:Option bh} {k J:bB} (he:cT P t=some n) (C:ev N σ x= .slice a len cap) (E:ev N σ y= .int k (i:Nat)) (I:ev N σ z= .int J (i:Nat)) (h:i≤cap):
 (execOp (ev N σ) ⟨dst,.slice t x none (some y) (some z),ty,pos,af,g⟩).run P w= .ok (.value<|.slice a i i) w:=by
 have h0:(0:Int)≤(i:Int):=U;unfold cT at he;cases hd:P.underlying t with
 | none=>rw [hd] at he; cases he
 | some d=>
   rw [hd] at he;cases d <;> first | (cases he; done) | skip
   rename_i e;cases hi':P.info? e with
   | none=>simp [hi'] at he
   | some j=>
     have ha:(if i=0 then a else a.map (·.add 0))=a:=by
      split
      · rfl
      · cases a <;> simp [sD]
     simp only [execOp,mM,qh,C,E,I,eS,Option.map_none,jJ,mN,asIntOf];simp [bp hd,cU hi',sizeOf,h0,ha];intro aP; omega
end
end Go.Hb
namespace Go.Hb
def tk (h:Array Obj) (b:Nat) (kvs:List (ag×ag)):Prop := ∃ es clock,h[b]? =some (.map es clock)∧es.toList.map (fun e=>(e.key,e.val))=kvs
structure mX (P:ar) (k:aq) (cO:ag→Prop):Prop where
 check:∀ em w v,cO v→(jH em 10000 k v).run P w= .ok () w
 find:∀ w x es,cO x→(∀ e∈es,cO e.key)→
  ((mK k x es).run P w= .ok none w∧∀ e∈es,e.key≠x)∨∃ j e,(mK k x es).run P w= .ok (some (j,e.val)) w∧es[j]? =some e∧e.key=x
theorem Ep {P:ar} {k:aq} {em:Bool} {n:Nat} {a:Bool} (C:P.underlying k=some .bool) (w:ah):(jH em (n+1) k<|.bool a).run P w= .ok () w:=by
 simp only [jH,hH,bp C,gD,kn]
theorem yo {P:ar} {k:aq} {em:Bool} {n:Nat} {a:List UInt8} (C:P.underlying k=some .string) (w:ah):(jH em (n+1) k<|str a).run P w= .ok () w:=by
 simp only [str,jH,hH,bp C,gD,kn]
def uL (v:ag):Prop := ∃ (f:Bool) (s:List UInt8),v= .agg #[.bool f,str s]
def lJ (P:ar) (k:aq):Bool:=
 match P.underlying k with
 | some (.struct C)=>match C.toList with
   | [f1,f2]=>f1.name != "_" && f2.name != "_" && f1.offset==0 && f2.offset==1 && !P.stoodInHeld k &&
     (match P.underlying f1.type with | some .bool=>true | _=>false) && (match P.underlying f2.type with | some .string=>true | _=>false)
   | _=>false
 | _=>false
theorem rK {P:ar} {t:aq} {cs:Array ag} {o:Nat} {v:ag} {d:TypeDesc} (E:P.underlying t=some d) (C:(match d with | .bool | .string=>true | _=>false)=true) (I:cs[o]? =some v) (w:ah):(part t cs o).run P w= .ok v w:=by
 cases d <;> first | (cases C; done) | simp [part,isAgg,bp E,I]
theorem tG {P:ar} {k:aq} (h:lJ P k=true):∃ C f1 f2,P.underlying k=some (.struct C)∧C.toList= [f1,f2]∧f1.name≠ "_" ∧f2.name≠ "_" ∧f1.offset=0∧f2.offset=1∧P.stoodInHeld k=false∧P.underlying f1.type=some .bool∧P.underlying f2.type=some .string:=by grind [lJ]
theorem Fv {P:ar} {k:aq} (h:lJ P k=true) {f g:Bool} {s t:List UInt8} (w:ah):(ll k (.agg #[.bool f,str s])<|.agg #[.bool g,str t]).run P w= .ok (decide (f=g∧s=t)) w:=by
 obtain ⟨U,f1,f2,hu,ad,h1,V,Z,ab,ac,C,E⟩:=tG h;have I:P.fieldsOf k=U:=by simp [Program.fieldsOf,hu]
 have L:∀ (x:Bool) (y:List UInt8) (w:ah),(part f1.type #[.bool x,str y] f1.offset).run P w= .ok (.bool x) w:=fun x y w=>rK C rfl (by rw [Z]; rfl) w;have O:∀ (x:Bool) (y:List UInt8) (w:ah),(part f2.type #[.bool x,str y] f2.offset).run P w= .ok (str y) w:=fun x y w=>rK E rfl (by rw [ab]; rfl) w;unfold ll;show (gC (9998 +1 +1) k _ _).run P w=_;rw [run_equalIn_struct w (9998 +1) k _ _ (by rw [I]; exact hu) ac,I,ad];simp only [Op.eqFields,hH,sN,L,O,gD,run_equalIn_bool' w 9998 f1.type f g C,h1,V,ne_eq,not_false_eq_true,if_true];by_cases J:f=g
 · subst J;have :(gC (9998 +1) f2.type (str s)<|str t).run P w= .ok (decide (s=t)) w:=by
    rw [str,str,run_equalIn_string w 9998 f2.type _ _ E,CE,CE];congr 1;by_cases bg:s=t
    · subst bg; simp
    · simp [bg]
   simp only [beq_self_eq_true,Bool.not_true,qe,if_false,this,gD,true_and];by_cases bg:s=t <;> simp [bg]
 · simp [J]
theorem Er {P:ar} {k:aq} {em:Bool} {n:Nat} (h:lJ P k=true) {f:Bool} {s:List UInt8} (w:ah):(jH em (n+1 +1) k<|.agg #[.bool f,str s]).run P w= .ok () w:=by
 obtain ⟨Z,f1,f2,hu,V,h1,L,O,U,ab,C,E⟩:=tG h;have I:∀ (w:ah),(part f1.type #[.bool f,str s] f1.offset).run P w= .ok (.bool f) w:=fun w=>rK C rfl (by rw [O]; rfl) w;have J:∀ (w:ah),(part f2.type #[.bool f,str s] f2.offset).run P w= .ok (str s) w:=fun w=>rK E rfl (by rw [U]; rfl) w;rw [jH];simp only [hH,bp hu,gD];rw [← Array.forIn_toList,V];simp only [List.forIn_cons,List.forIn_nil,hH,I,J,h1,L,ne_eq,not_false_eq_true,if_true,gD,Ep C,yo E,kn]
theorem zt {P:ar} {k:aq} (h:lJ P k=true) {f:Bool} {s:List UInt8} (w:ah):∀ (es:List MapEntry) (i:Nat),(∀ e∈es,uL e.key)→
 ((mJ k (.agg #[.bool f,str s]) es i).run P w= .ok none w∧∀ e∈es,e.key≠.agg #[.bool f,str s])∨∃ j e,(mJ k (.agg #[.bool f,str s]) es i).run P w= .ok (some (i+j,e.val)) w∧es[j]? =some e∧e.key= .agg #[.bool f,str s]
 | [],i,_=> .inl ⟨by simp [mJ],fun _ h=>by simp at h⟩
 | e::es,i,hk=>by
   obtain ⟨g,t,ha⟩:=hk e<|by simp
   have he:=Fv h (f:=f) (g:=g) (s:=s) (t:=t) w;rw [← ha] at he;by_cases C:f=g∧s=t
   · obtain ⟨rfl,rfl⟩:=C;refine .inr ⟨0,e,?_,J,ha⟩;simp [mJ,he]
   · have U:e.key≠.agg #[.bool f,str s]:=by
      rw [ha]; intro I; simp [str] at I; exact C ⟨I.1.symm,I.2.symm⟩
     rcases zt (f:=f) (s:=s) h w es (i+1) (fun e he=>hk e<|by simp [he]) with ⟨h1,E⟩ | ⟨j,e',h1,E,O⟩
     · refine .inl ⟨by simp [mJ,he,C,h1],fun e' L=> ?_⟩;rcases fQ.1 L with rfl | L
       · exact U
       · exact E e' L
     · refine .inr ⟨j+1,e',?_,E,O⟩;simp only [mJ,hH,he,C,gD,decide_false,sN,qe,if_false,h1]; rw [show i+1 +j=i+(j+1) from by omega]
theorem Gu {P:ar} {k:aq} (h:lJ P k=true):mX P k uL where
 check em w v hv:=by obtain ⟨f,s,rfl⟩:=hv; exact Er (n:=9998) h w
 find w x es hx hes:=by
  obtain ⟨f,s,rfl⟩:=hx;obtain ⟨L,f1,f2,hu,_⟩:=tG h;have J:es≠[]→(mK k (.agg #[.bool f,str s]) es).run P w=(mJ k (.agg #[.bool f,str s]) es).run P w:=by
   intro C;cases es with
   | nil=>exact absurd rfl C
   | cons e es=>simp [mK,bp hu,mL,Instr.sameNow]
  by_cases C:es= []
  · subst C; exact .inl ⟨by simp [mK,bp hu,mL],fun _ h=>by simp at h⟩
  · rw [J C];rcases zt h w es 0 hes with h1 | ⟨j,e,h1,E,I⟩
    · exact .inl h1
    · exact .inr ⟨j,e,by rw [h1,cy],E,I⟩
def zeroV (P:ar) (e:aq):Option ag:=(P.info? e).bind (·.zero)
theorem Cg {P:ar} {e:aq} {z:ag} (h:zeroV P e=some z) (w:ah):(zeroValue e).run P w= .ok z w:=by
 unfold zeroV at h;simp only [Option.bind_eq_some_iff] at h;obtain ⟨i,hi,C⟩:=h;simp [zeroValue,cU hi,C]
section
variable {P:ar} {N:Fm} {σ:Nat→ag} {w:ah} {dst:Option Nat} {ty:aq} {pos :String} {af:Array cq} {g:Option (Nat×Bool)} {x y z:aY} {K:(Nat→ag)→ah→Prop}
variable {t k e:aq} {cO:ag→Prop} {b:Nat} {kvs:List (ag×ag)} {kx v:ag}
theorem qV {es:Array MapEntry} (h:es.toList.map (fun e=>(e.key,e.val))=kvs) (C:∀ p∈kvs,cO p.1):∀ e∈es.toList,cO e.key:=by grind [e,he,qs]
theorem run_getObj_map {es:Array MapEntry} {c:Nat} (hr:w.heap[b]? =some (.map es c)):(getObj b).run P w= .ok (.map es c) w:=by
 simp [getObj,kj,hr]
theorem Hk {kvs:List (ag×ag)} (hn:(kvs.map fS).Nodup) {kx v E:ag} (h1:(kx,v)∈kvs) (C:(kx,E)∈kvs):v=E:=by
 induction kvs with
 | nil=>simp at h1
 | cons p kvs ih=>
   simp only [eR,List.nodup_cons] at hn;rcases fQ.1 h1 with h1 | h1
   · rcases fQ.1 C with C | C
     · rw [← h1] at C; cases C; rfl
     · rw [← h1] at hn; exact absurd (qs (f:=fS) C) hn.1
   · rcases fQ.1 C with C | C
     · rw [← C] at hn; exact absurd (qs (f:=fS) h1) hn.1
     · exact ih hn.2 h1 C
theorem GO {ok:Bool} (ab:P.underlying t=some (.map k e)) (I:mX P k cO) (hm:tk w.heap b kvs) (Z:∀ p∈kvs,cO p.1) (ad:ev N σ x= .map (some b)) (ae:ev N σ y=kx) (hi:cO kx) (hn:(kvs.map fS).Nodup) (E:(kx,v)∈kvs):
 (execOp (ev N σ) ⟨dst,.lookup t x y ok,ty,pos,af,g⟩).run P w= .ok (.value (if ok then .tuple #[v,.bool true] else v)) w:=by
 obtain ⟨es,c,hr,he⟩:=hm;rcases I.find w kx es.toList hi (qV he Z) with ⟨_,C⟩ | ⟨j,e',h1,C,O⟩
 · rw [← he] at E;obtain ⟨L,V,U⟩:=List.mem_map.1 E;cases U;exact absurd J<|C L V
 · have ac:(kx,e'.val)∈kvs:=by rw [← he,← O]; exact qs (f:=fun e:MapEntry=>(e.key,e.val))<|kz C
   have :=Hk hn E ac;subst this;cases ok <;> simp [execOp,CR,bp ab,ad,ae,run_getObj_map hr,I.check _ w kx hi,h1]
theorem GP {ok:Bool} {zv:ag} (L:P.underlying t=some (.map k e)) (V:zeroV P e=some zv) (C:mX P k cO) (hm:tk w.heap b kvs) (J:∀ p∈kvs,cO p.1) (O:ev N σ x= .map (some b)) (U:ev N σ y=kx) (hi:cO kx) (hn:∀ v,(kx,v)∉kvs):
 (execOp (ev N σ) ⟨dst,.lookup t x y ok,ty,pos,af,g⟩).run P w= .ok (.value (if ok then .tuple #[zv,.bool false] else zv)) w:=by
 obtain ⟨es,c,hr,he⟩:=hm;rcases C.find w kx es.toList hi (qV he J) with ⟨h1,_⟩ | ⟨j,e',h1,E,I⟩
 · cases ok <;> simp [execOp,CR,bp L,O,U,run_getObj_map hr,C.check _ w kx hi,h1,Cg V]
 · exact absurd (by rw [← he,← I]; exact qs (f:=fun e:MapEntry=>(e.key,e.val))<|kz E)<|hn e'.val
end
end Go.Hb
namespace Go.Hb
def tag (w:ah) (k:Nat):Nat:=match w.heap[k]? with | some (.cells _ t _)=>t+2 | some (.map _ _)=>1 | _=>0
theorem pT {w:ah} {k t:Nat} {cs:Array ag} {z:Nat×Nat} (h:w.heap[k]? =some (.cells cs t z)):tag w k=t+2:=by unfold tag; rw [h]
theorem BO {w:ah} {B e size n k:Nat} {v:ag} {xs:List ag} (h:w.ownsRow B e size v n xs) (C:v.ownBlock=some k):tag w k=e+2:=by
 rcases h.2 with ⟨rfl,_⟩ | ⟨g,cap,cur,rfl,_,hg,_⟩
 · simp [eE] at C
 · simp only [eE,bD] at C; subst C;exact pT hg
def TF (w:ah) (L:List Nat) (F:Nat→Prop):Prop := ∀ k,F k→L.contains (tag w k)=true
theorem TF.no {w:ah} {L:List Nat} {F:Nat→Prop} (h:TF w L F) {k t:Nat} (E:tag w k=t) (C:L.contains t=false):¬F k:=by grind [TF,tag]
theorem TF.eq {w:ah} {L:List Nat} {b t:Nat} (I:tag w b=t) (E:L.contains t=true):TF w L (fun k=>k=b):=fun k C=>by
 subst C; rw [I]; exact E
theorem TF.own {w:ah} {L:List Nat} {B e size n:Nat} {v:ag} {xs:List ag} (h:w.ownsRow B e size v n xs) (E:L.contains (e+2)=true):TF w L (fun k=>v.ownBlock=some k):=fun k C=>by
 rw [BO h C]; exact E
theorem Md.x8 {F:Nat→Prop} {w w':ah} {L:List Nat} {k t:Nat} {cs:Array ag} {z:Nat×Nat} (hm:Md F w w') (hT:TF w L F) (h:w.heap[k]? =some (.cells cs t z)) (C:L.contains (t+2)=false):w'.heap[k]? =some (.cells cs t z):=hm.an h<|hT.no (pT h) C
theorem kY {F:Nat→Prop} {w w':ah} {L:List Nat} {B e size n:Nat} {v:ag} {xs:List ag} (h:w.ownsRow B e size v n xs) (hm:Md F w w') (hT:TF w L F) (E:L.contains (e+2)=false):w'.ownsRow B e size v n xs:=cG h hm fun _ C=>hT.no (BO h C) E
end Go.Hb
namespace Go.Hb
inductive TD | no | int (k:bB) | str | bool | ptr | cY (e n:Nat) | st (offs:List Nat)
def j5 {α:Type} :List α→Nat→α→α
 | [],_,d=>d
 | a::_,0,_=>a
 | _::l,n+1,d=>j5 l n d
def n6 (T:List (List TD)) (t:Nat):TD:=j5 (j5 T (t / 16) []) (t % 16) .no
def du:bB→Nat
 | .i8=>0 | .i16=>1 | .i32=>2 | .i64=>3 | .u8=>4 | .u16=>5 | .u32=>6 | .u64=>7
theorem lU {a b:bB} (h:aN (du a) (du b)=true):a=b:=by
 cases a <;> cases b <;> first | rfl | (cases h)
def rE (P:ar) (t:Nat):Nat→List Nat→Bool
 | _,[]=>true
 | f,n::l=>(match lQ P t f with | some m=>aN m n | none=>false) && rE P t (f+1) l
def wi (P:ar) (t:Nat):TD→Bool
 | .no=>true
 | .int k=>match P.underlying t with | some (.int C)=>aN (du k) (du C) | _=>false
 | .str=>match P.underlying t with | some .string=>true | _=>false
 | .bool=>match P.underlying t with | some .bool=>true | _=>false
 | .ptr=>match P.underlying t with | some (.pointer _)=>true | _=>false
 | .cY e n=>match P.underlying t,cT P t with | some (.slice e'),some n'=>aN e e' && aN n n' | _,_=>false
 | .st E=>rE P t 0 E
def rP (P:ar):Nat→List TD→Bool
 | _,[]=>true
 | t,d::l=>wi P t d && rP P (t+1) l
def iz (P:ar):Nat→List (List TD)→Bool
 | _,[]=>true
 | t,r::l=>rP P t r && iz P (t+16) l
theorem A1 {P:ar} :∀ {l:List TD} {b j:Nat},rP P b l=true→wi P (b+j) (j5 l j .no)=true
 | [],b,j,_=>rfl
 | d::l,b,0,h=>(oh.1 h).1
 | d::l,b,j+1,h=>by
   have :=A1 (j:=j) (oh.1 h).2;rw [show b+(j+1)=b+1 +j from by omega]; exact this
theorem BN {P:ar} :∀ {T:List (List TD)} {b i:Nat},iz P b T=true→rP P (b+16 *i) (j5 T i [])=true
 | [],b,i,_=>rfl
 | r::T,b,0,h=>(oh.1 h).1
 | r::T,b,i+1,h=>by
   have :=BN (i:=i) (oh.1 h).2;rw [show b+16 *(i+1)=b+16 +16 *i from by omega]; exact this
theorem wh {P:ar} {T:List (List TD)} (h:iz P 0 T=true) (t:Nat):wi P t (n6 T t)=true :=by
 have :=A1 (j:=t % 16)<|BN (i:=t / 16) h;rw [show 0 +16 *(t / 16)+t % 16=t from by omega] at this;exact this
theorem Aw {P:ar} {t:Nat} :∀ {l:List Nat} {b f n:Nat},rE P t b l=true→l[f]? =some n→lQ P t (b+f)=some n
 | [],b,f,n,_,h=>by simp at h
 | m::l,b,0,n,h,hn=>by
   have h1:=(oh.1 h).1;obtain rfl :m=n:=by simpa using hn
   split at h1
   · rename_i C hm; rw [Nat.add_zero,hm,bH h1]
   · cases h1
 | m::l,b,f+1,n,h,hn=>by
   have :=Aw (f:=f) (oh.1 h).2<|by simpa using hn
   rw [show b+(f+1)=b+1 +f from by omega]; exact this
section
variable {P:ar} {T:List (List TD)} (hT:iz P 0 T=true) {t:Nat}
include hT
theorem EZ (h:n6 T t= .str):P.underlying t=some .string:=by
 have :=wh hT t;rw [h] at this;change (match P.underlying t with | some .string=>true | _=>false)=true at this;split at this
 · assumption
 · cases this
theorem EW {e n:Nat} (h:n6 T t= .cY e n):P.underlying t=some (.slice e)∧cT P t=some n:=by
 have :=wh hT t;rw [h] at this;change (match P.underlying t,cT P t with | some (.slice e'),some n'=>aN e e' && aN n n' | _,_=>false)=true at this;split at this
 · rename_i h1 C;simp only [a9] at this;rw [h1,C,bH this.1,bH this.2]; exact ⟨rfl,rfl⟩
 · cases this
theorem EY {l:List Nat} {f n:Nat} (h:n6 T t= .st l) (hn:l[f]? =some n):lQ P t f=some n:=by
 have :=wh hT t;rw [h] at this;have :=Aw (show rE P t 0 l=true from this) hn;rwa [cy] at this
end
def HO (k:bB) (n:Int):Prop :=match k with
 | .i64=> -9223372036854775808≤n∧n≤9223372036854775807
 | .u8=>0≤n∧n≤255
 | .i32=> -2147483648≤n∧n≤2147483647
 | .u32=>0≤n∧n≤4294967295
 | .u64=>0≤n∧n≤18446744073709551615
 | _=>False
theorem AZ {k:bB} {n:Int} (h:HO k n):k.wrap n=n:=by
 cases k <;> first | exact iA h | exact wV h | exact wS h | exact Cf h | exact gh h | exact h.elim
inductive mZ | no | v (x:ag) | vc (x:ag) (c:Prop)
def rM (k:bB) (n:Int):mZ:=match k with
 | .i64=> .vc (.int .i64 n)<|-9223372036854775808≤n∧n≤9223372036854775807
 | .u8=> .vc (.int .u8 n)<|0≤n∧n≤255
 | .i32=> .vc (.int .i32 n)<|-2147483648≤n∧n≤2147483647
 | .u32=> .vc (.int .u32 n)<|0≤n∧n≤4294967295
 | .u64=> .vc (.int .u64 n)<|0≤n∧n≤18446744073709551615
 | _=> .no
def uF (op:BinOp) (k:bB) (a b:Int):mZ:=match op with
 | .lss=> .v<|.bool<|decide (a < b)
 | .leq=> .v<|.bool<|decide (a≤b)
 | .gtr=> .v<|.bool<|decide (b < a)
 | .geq=> .v<|.bool<|decide (b≤a)
 | .eql=> .v<|.bool<|decide (a=b)
 | .neq=> .v<|.bool<|decide (a≠b)
 | .add=>rM k<|a+b
 | .sub=>rM k<|a - b
 | _=> .no
def BC (op:BinOp) (l m:List UInt8):mZ:=match op with
 | .eql=> .v<|.bool<|decide (l=m)
 | .neq=> .v<|.bool<|decide (l≠m)
 | .add=> .vc (str<|l++m)<|l.length+m.length≤9223372036854775807
 | _=> .no
def jr (v:ag):mZ:=match v with
 | .int k n=> .v<|.int k n
 | .bool b=> .v<|.bool b
 | .string ⟨⟨l⟩⟩=> .v<|str l
 | .pointer a=> .v<|.pointer a
 | .slice a n c=> .v<|.slice a n c
 | .map r=> .v<|.map r
 | .func f a b=> .v<|.func f a b
 | .nilFunc=> .v .nilFunc
 | .iface t v=> .v<|.iface t v
 | .nilIface=> .v .nilIface
 | .agg c=> .v<|.agg c
 | .tuple c=> .v<|.tuple c
 | _=> .no
theorem FN {v x:ag} (h:jr v= .v x):v=x:=by
 unfold jr at h;split at h <;> cases h <;> rfl
theorem FO {v x:ag} {c:Prop} (h:jr v= .vc x c):False:=by
 unfold jr at h;split at h <;> cases h
def nD (T:List (List TD)) (N:Fm) (σ:Nat→ag) (o:Op):mZ:=match o with
 | .move x=>jr<|ev N σ x
 | .assign x=>jr<|ev N σ x
 | .pick c x y=>match ev N σ c with
   | .bool true =>jr<|ev N σ x
   | .bool false =>jr<|ev N σ y
   | _=> .no
 | .nilCheck x=>match ev N σ x with
   | .pointer (some a)=> .v<|.pointer<|some a
   | _=> .no
 | .extract x i=>match ev N σ x with
   | .tuple ⟨vs⟩=>match vs[i]? with
     | some v=> .v v
     | none=> .no
   | _=> .no
 | .fieldAddr s x f=>match ev N σ x,n6 T s with
   | .pointer (some ⟨b,off,none⟩),.st l=>match l[f]? with
     | some n=> .v<|.pointer<|some ⟨b,off+n,none⟩
     | none=> .no
   | _,_=> .no
 | .binOp op t x y _=>match ev N σ x,ev N σ y with
   | .int k a,.int k' b=>cond (aN (du k)<|du k') (uF op k a b) .no
   | .string ⟨⟨l⟩⟩,.string ⟨⟨m⟩⟩=>BC op l m
   | _,_=> .no
 | .unOp .not _ x=>match ev N σ x with
   | .bool b=> .v<|.bool<|!b
   | _=> .no
 | .call ⟨.builtin .len,⟨[x]⟩,⟨[t]⟩⟩=>match ev N σ x,n6 T t with
   | .string ⟨⟨l⟩⟩,.str=> .v<|.int .i64 l.length
   | .slice a n c,.cY _ _=> .v<|.int .i64 n
   | _,_=> .no
 | _=> .no
def vi (P:ar) (N:Fm) (σ:Nat→ag) (o:aC) (w:ah):mZ→Prop
 | .no=>True
 | .v x=>(execOp (ev N σ) o).run P w= .ok (.value x) w
 | .vc x c=>c→(execOp (ev N σ) o).run P w= .ok (.value x) w
theorem q7 {P:ar} {N:Fm} {σ:Nat→ag} {o:aC} {w:ah} {v:ag} (h:(execOp (ev N σ) o).run P w= .ok (.value v) w):vi P N σ o w (jr v):=by
 cases hf:jr v with
 | no=>trivial
 | v x=>rw [← FN hf]; exact h
 | vc x c=>exact (FO hf).elim
theorem rH {P:ar} {T:List (List TD)} (hT:iz P 0 T=true) {N:Fm} {σ:Nat→ag} (d:Option Nat) (o:Op) (ty:aq) (pos :String) (af:Array cq) (g:Option (Nat×Bool)) (w:ah):vi P N σ ⟨d,o,ty,pos,af,g⟩ w (nD T N σ o):=by
 unfold nD;split
 · exact q7 mv
 · exact q7 aR
 · split
   · exact q7<|pF<|by assumption
   · exact q7<|rL<|by assumption
   · trivial
 · split
   · exact nc<|by assumption
   · trivial
 · split
   · split
     · exact xt (by assumption)<|by simpa using by assumption
     · trivial
   · trivial
 · split
   · split
     · exact fa (EY hT (by assumption)<|by assumption)<|by assumption
     · trivial
   · trivial
 · split
   · rename_i k a I b C E;cases hk:aN (du k) (du I)
     · trivial
     · obtain rfl :=lU hk;show vi _ _ _ _ _ (uF _ _ _ _);unfold uF;split
       · exact lt C E
       · exact le C E
       · exact gt C E
       · exact ge C E
       · exact zj C E
       · exact Ar C E
       · unfold rM; split <;> first | trivial | exact fun h=>ad C E<|AZ h
       · unfold rM; split <;> first | trivial | exact fun h=>sb C E<|AZ h
       · trivial
   · rename_i l m C E;unfold BC;split
     · exact zl C E
     · exact As C E
     · exact fun h=>cc C E h
     · trivial
   · trivial
 · split
   · exact no<|by assumption
   · trivial
 · split
   · exact Ae (EZ hT<|by assumption) J<|by assumption
   · exact uT (EW hT<|by assumption).1 J<|by assumption
   · trivial
 · trivial
inductive Pt | c (c:bF) | l (ops:Array aC) (l:List aC) | x (e:bo)
inductive Kn | sq (y:bF) | bk (id:Nat)
def dP (P:ar) (N:Fm):List Kn→(bo→(Nat→ag)→ah→Prop)→bo→(Nat→ag)→ah→Prop
 | [],Q=>Q
 | .sq y::st,Q=>gA (fun σ w=>bA P N y (dP P N st Q) σ w)<|dP P N st Q
 | .bk id::st,Q=>j1 id<|dP P N st Q
@[reducible] def At (P:ar) (N:Fm) (Q:bo→(Nat→ag)→ah→Prop) (w:ah) (p:Pt) (st:List Kn) (σ:Nat→ag):Prop :=match p with
 | .c c=>bA P N c (dP P N st Q) σ w
 | .l ops l=>bL P N ops (dP P N st Q) l σ w
 | .x e=>dP P N st Q e σ w
inductive Out | no | at (p:Pt) (st:List Kn) (σ:Nat→ag) (c:Option Prop)
def andG (c:Prop):Option Prop→Option Prop
 | none=>some c
 | some d=>some<|c∧d
def optG:Option Prop→Prop
 | none=>True
 | some c=>c
theorem qG {c:Prop} {d:Option Prop} (h:optG (andG c d)):c∧optG d:=by
 cases d
 · exact ⟨h,trivial⟩
 · exact h
inductive DK | no | go (p:Pt) (st:List Kn) (σ:Nat→ag) (c:Option Prop)
def stepG (T:List (List TD)) (N:Fm) (p:Pt) (st:List Kn) (σ:Nat→ag) (c:Option Prop):DK:=match p with
 | .x .normal=>match st with
   | .sq y::st=> .go (.c y) st σ c
   | .bk _::st=> .go (.x .normal) st σ c
   | []=> .no
 | .x .ret=>match st with
   | _::st=> .go (.x .ret) st σ c
   | []=> .no
 | .x (.exit i)=>match st with
   | .sq _::st=> .go (.x<|.exit i) st σ c
   | .bk j::st=>cond (aN i j) (.go (.x .normal) st σ c)<|.go (.x<|.exit i) st σ c
   | []=> .no
 | .x _=> .no
 | .c (.seq x y)=> .go (.c x) (.sq y::st) σ c
 | .c (.block id x)=> .go (.c x) (.bk id::st) σ c
 | .c .skip => .go (.x .normal) st σ c
 | .c .ret=> .go (.x .ret) st σ c
 | .c (.exit i)=> .go (.x<|.exit i) st σ c
 | .c (.region id ⟨l⟩ false)=>cond (jx N.r l) (.go (.l ⟨l⟩ l) st σ c) .no
 | .c (.cond x a b)=>match ev N σ x with
   | .bool true => .go (.c a) st σ c
   | .bool false => .go (.c b) st σ c
   | _=> .no
 | .c _=> .no
 | .l ops []=> .go (.x .normal) st σ c
 | .l ops (⟨some d,o,ty,pos,af,none⟩::r)=>match nD T N σ o with
   | .v x=> .go (.l ops r) st (bd σ d x) c
   | .vc x c'=> .go (.l ops r) st (bd σ d x)<|andG c' c
   | .no=> .no
 | .l ops (⟨some d,o,ty,pos,af,some (j,want)⟩::r)=>match dz ops j with
   | some t=>cond (aD t N.n) (match σ t with
     | .bool b=>cond (b==want) (match nD T N σ o with
       | .v x=> .go (.l ops r) st (bd σ d x) c
       | .vc x c'=> .go (.l ops r) st (bd σ d x)<|andG c' c
       | .no=> .no) (.go (.l ops r) st (bd σ d undef) c)
     | .tuple ⟨[]⟩=> .go (.l ops r) st (bd σ d undef) c
     | _=> .no) .no
   | none=> .no
 | .l ops _=> .no
def ga (T:List (List TD)) (N:Fm):Nat→Pt→List Kn→(Nat→ag)→Option Prop→Out
 | 0,p,st,σ,c=> .at p st σ c
 | n+1,p,st,σ,c=>match stepG T N p st σ c with
   | .go p st σ c=>ga T N n p st σ c
   | .no=> .no
section
variable {P:ar} {T:List (List TD)} {N:Fm} {Q:bo→(Nat→ag)→ah→Prop} {w:ah} {σ σ':Nat→ag} {p p':Pt} {st st':List Kn} {c c':Option Prop} {n:Nat}
theorem IW (hT:iz P 0 T=true) (h:stepG T N p st σ c= .go p' st' σ' c') (C:optG c') (E:At P N Q w p' st' σ'):optG c∧At P N Q w p st σ:=by
 unfold stepG at h;split at h
 · split at h
   · cases h; exact ⟨C,tn E⟩
   · cases h; exact ⟨C,bn E⟩
   · cases h
 · split at h
   · rename_i k _;cases h; cases k
     · exact ⟨C,tr E⟩
     · exact ⟨C,br E⟩
   · cases h
 · split at h
   · cases h; exact ⟨C,te _ E⟩
   · rename_i i _ j _;cases hij:aN i j
     · rw [hij] at h; cases h;exact ⟨C,D8 (fun e=>by rw [e] at hij; simp at hij) E⟩
     · rw [hij] at h; cases h;obtain rfl :=bH hij;exact ⟨C,be E⟩
   · cases h
 · cases h
 · cases h; exact ⟨C,sq fun K Z=>Cc (fun e σ w V=>by cases e <;> first | exact Z _ _ V | exact V) E⟩
 · cases h; exact ⟨C,an E⟩
 · cases h; exact ⟨C,Bu E⟩
 · cases h; exact ⟨C,rt E⟩
 · cases h; exact ⟨C,ext E⟩
 · rename_i id l;cases hr:jx N.r l
   · rw [hr] at h; cases h
   · rw [hr] at h; cases h;exact ⟨C,rg hr E⟩
 · split at h
   · cases h; exact ⟨C,ct (by assumption) E⟩
   · cases h; exact ⟨C,cf (by assumption) E⟩
   · cases h
 · cases h
 · cases h; exact ⟨C,nl E⟩
 · rename_i ops d o ty pos af r;have bI:=rH (P:=P) hT (N:=N) (σ:=σ) (some d) o ty pos af none w;split at h
   · rename_i x I;rw [I] at bI; cases h;exact ⟨C,Hb.p bI E⟩
   · rename_i x q I;rw [I] at bI; cases h;obtain ⟨O,U⟩:=qG C;exact ⟨U,Hb.p (bI O) E⟩
   · cases h
 · rename_i ops d o ty pos af j want r;have bI:=rH (P:=P) hT (N:=N) (σ:=σ) (some d) o ty pos af (some (j,want)) w;split at h
   · rename_i t L;cases hb:aD t N.n
     · rw [hb] at h; cases h
     · rw [hb] at h;simp only [cond_true] at h;split at h
       · rename_i b J;cases hw:(b==want)
         · rw [hw] at h; cases h;exact ⟨C,sk L hb J hw E⟩
         · rw [hw] at h;simp only [cond_true] at h;obtain rfl :b=want:=by simpa using hw
           split at h
           · rename_i x I;rw [I] at bI; cases h;exact ⟨C,pg L hb J bI E⟩
           · rename_i x q I;rw [I] at bI; cases h;obtain ⟨O,U⟩:=qG C;exact ⟨U,pg L hb J (bI O) E⟩
           · cases h
       · rename_i J;cases h;exact ⟨C,Bv L hb J E⟩
       · cases h
   · cases h
 · cases h
theorem gV (hT:iz P 0 T=true):∀ (n:Nat) (p:Pt) (st:List Kn) (σ:Nat→ag) (c:Option Prop),ga T N n p st σ c= .at p' st' σ' c'→optG c'→At P N Q w p' st' σ'→optG c∧At P N Q w p st σ
 | 0,p,st,σ,c,h,hc,hk=>by cases h; exact ⟨hc,hk⟩
 | n+1,p,st,σ,c,h,hc,hk=>by
   simp only [ga] at h;split at h
   · rename_i E;obtain ⟨h1,C⟩:=gV hT n _ _ _ _ h hc hk;exact IW hT E h1 C
   · cases h
end
inductive DH | no | at (fuel:Nat) (listed:Array Bool) (σ:Nat→ag) (c:Option Prop)
inductive DJ | no | go (σ:Nat→ag) (c:Option Prop)
def BI (T:List (List TD)) (N:Fm) (g:Bool) (ops:Array aC) (i:Nat) (σ:Nat→ag) (c:Option Prop):DJ:=match ops[i]? with
 | some ⟨some d,o,_,_,_,none⟩=>match nD T N σ o with
   | .v x=> .go (bd σ d x) c
   | .vc x c'=> .go (bd σ d x)<|andG c' c
   | .no=> .no
 | some ⟨some d,o,_,_,_,some (j,want)⟩=>cond g (match dz ops j with
   | some t=>cond (aD t N.n) (match σ t with
     | .bool b=>cond (b==want) (match nD T N σ o with
       | .v x=> .go (bd σ d x) c
       | .vc x c'=> .go (bd σ d x)<|andG c' c
       | .no=> .no) (.go (bd σ d undef) c)
     | .tuple ⟨[]⟩=> .go (bd σ d undef) c
     | _=> .no) .no
   | none=> .no) .no
 | _=> .no
def ke (T:List (List TD)) (N:Fm) (g:Bool) (ops:Array aC):List Nat→Nat→Array Bool→(Nat→ag)→Option Prop→DH
 | [],fuel,listed,σ,c=> .at fuel listed σ c
 | _::_,0,_,_,_=> .no
 | i::is,fuel+1,listed,σ,c=>match BI T N g ops i σ c with
   | .go σ c=>ke T N g ops is fuel (listed.setIfInBounds i true) σ c
   | .no=> .no
def jQ (fr:Array Bool→Nat→Bool):List Nat→Array Bool→Bool
 | [],_=>true
 | i::is,listed=>fr listed i && jQ fr is (listed.setIfInBounds i true)
section
variable {P:ar} {T:List (List TD)} {N:Fm} {g:Bool} {ops:Array aC} {fr:Array Bool→Nat→Bool} {fuel':Nat} {listed':Array Bool} {σ':Nat→ag} {c':Option Prop} {w:ah}
theorem rT (hT:iz P 0 T=true) (W:Nat→Array Bool→(Nat→ag)→Prop)
 (H1:∀ {i d o ty pos af v fuel listed σ},ops[i]? =some ⟨some d,o,ty,pos,af,none⟩→fr listed i=true→(∀ w,(execOp (ev N σ) ⟨some d,o,ty,pos,af,none⟩).run P w= .ok (.value v) w)→W fuel (listed.setIfInBounds i true) (bd σ d v)→W (fuel+1) listed σ)
 (U:g=true→∀ {i d o ty pos af v fuel listed σ j want t},ops[i]? =some ⟨some d,o,ty,pos,af,some (j,want)⟩→fr listed i=true→dz ops j=some t→aD t N.n=true→σ t= .bool want→(∀ w,(execOp (ev N σ) ⟨some d,o,ty,pos,af,some (j,want)⟩).run P w= .ok (.value v) w)→W fuel (listed.setIfInBounds i true) (bd σ d v)→W (fuel+1) listed σ)
 (ab:g=true→∀ {i d o ty pos af fuel listed σ j want t b},ops[i]? =some ⟨some d,o,ty,pos,af,some (j,want)⟩→fr listed i=true→dz ops j=some t→aD t N.n=true→σ t= .bool b→(b==want)=false→W fuel (listed.setIfInBounds i true) (bd σ d undef)→W (fuel+1) listed σ)
 (ac:g=true→∀ {i d o ty pos af fuel listed σ j want t},ops[i]? =some ⟨some d,o,ty,pos,af,some (j,want)⟩→fr listed i=true→dz ops j=some t→aD t N.n=true→σ t=undef→W fuel (listed.setIfInBounds i true) (bd σ d undef)→W (fuel+1) listed σ):
 ∀ (is:List Nat) (fuel:Nat) (listed:Array Bool) (σ:Nat→ag) (c:Option Prop),ke T N g ops is fuel listed σ c= .at fuel' listed' σ' c'→jQ fr is listed=true→optG c'→W fuel' listed' σ'→optG c∧W fuel listed σ
 | [],fuel,listed,σ,c,h,_,E,I=>by cases h; exact ⟨E,I⟩
 | i::is,0,listed,σ,c,h,_,E,I=>by cases h
 | i::is,fuel+1,listed,σ,c,h,hf,E,I=>by
   simp only [jQ,a9] at hf;simp only [ke] at h;split at h
   · rename_i ad c2 C;obtain ⟨E,I⟩:=rT hT W H1 U ab ac is fuel _ _ _ h hf.2 E I;unfold BI at C;split at C
     · rename_i d o ty pos af hi;have bI:=fun w=>rH hT (N:=N) (σ:=σ) (some d) o ty pos af none w;split at C
       · rename_i x J;rw [J] at bI; cases C;exact ⟨E,H1 hi hf.1 bI I⟩
       · rename_i x q J;rw [J] at bI; cases C;obtain ⟨V,Z⟩:=qG E;exact ⟨Z,H1 hi hf.1 (fun w=>bI w V) I⟩
       · cases C
     · rename_i d o ty pos af j want hi;have bI:=fun w=>rH hT (N:=N) (σ:=σ) (some d) o ty pos af (some (j,want)) w;cases hg:g
       · rw [hg] at C; cases C
       · rw [hg] at C;simp only [cond_true] at C;split at C
         · rename_i t O;cases hb:aD t N.n
           · rw [hb] at C; cases C
           · rw [hb] at C;simp only [cond_true] at C;split at C
             · rename_i b L;cases hw:(b==want)
               · rw [hw] at C; cases C;exact ⟨E,ab hg hi hf.1 O hb L hw I⟩
               · rw [hw] at C;simp only [cond_true] at C;obtain rfl :b=want:=by simpa using hw
                 split at C
                 · rename_i x J;rw [J] at bI; cases C;exact ⟨E,U hg hi hf.1 O hb L bI I⟩
                 · rename_i x q J;rw [J] at bI; cases C;obtain ⟨V,Z⟩:=qG E;exact ⟨Z,U hg hi hf.1 O hb L (fun w=>bI w V) I⟩
                 · cases C
             · rename_i L;cases C;exact ⟨E,ac hg hi hf.1 O hb L I⟩
             · cases C
         · cases C
     · cases C
   · cases h
variable {Q:bo→(Nat→ag)→ah→Prop} {S:ah→Prop} {r fuel:Nat} {listed:Array Bool} {σ:Nat→ag}
theorem FX (hT:iz P 0 T=true) (is:List Nat) (h:ke T N true ops is fuel listed σ none= .at fuel' listed' σ' c') (L:S w) (k:cj P N ops Q S fuel' listed' σ' w) (U:optG c') (C:jQ (dU N.F ops) is listed=true):cj P N ops Q S fuel listed σ w:=
 (rT hT (fun fuel listed σ=>cj P N ops Q S fuel listed σ w) (fun hi C O k=>hp _ hi C (fun w _=>O w) L k) (fun _=>fun hi C E I J O k=>zP _ hi C E I J (fun w _=>O w) L k) (fun _=>fun hi C E I J hb k=>q9 _ hi C E I J hb L k) (fun _=>fun hi C E I J k=>F8 _ hi C E I J L k) is fuel listed σ none h C U k).2
theorem FZ (hT:iz P 0 T=true) (is:List Nat) (h:ke T N false ops is fuel listed σ none= .at fuel' listed' σ' c') (E:S w) (k:cg P N ops Q S r fuel' listed' σ' w) (I:optG c') (C:jQ (fun l i=>nr N.F ops l r i) is listed=true):cg P N ops Q S r fuel listed σ w:=
 (rT (g:=false) hT (fun fuel listed σ=>cg P N ops Q S r fuel listed σ w) (fun hi C J k=>lq _ hi C (fun w _=>J w) E k) (fun h=>cB h) (fun h=>cB h) (fun h=>cB h) is fuel listed σ none h C I k).2
theorem FY (hT:iz P 0 T=true) (is:List Nat) (h:ke T N false ops is fuel listed σ none= .at fuel' listed' σ' c') (E:S w) (k:cg P N ops Q S r fuel' listed' σ' w) (I:optG c') (C:jQ (fun l i=>lS N.F ops l r i) is listed=true):cg P N ops Q S r fuel listed σ w:=
 (rT (g:=false) hT (fun fuel listed σ=>cg P N ops Q S r fuel listed σ w) (fun hi C J k=>pn _ hi C J (fun _=>E) k) (fun h=>cB h) (fun h=>cB h) (fun h=>cB h) is fuel listed σ none h C I k).2
end
def tI (P:ar) (f:dQ):Bool:=match P.funcs[f]? with
 | some fn=> !(fn.name== "runtime.NumGoroutine") && !fn.body.isNone
 | none=>false
theorem El {P:ar} {f:dQ} (h:tI P f=true):fT P f:=by
 unfold tI at h;split at h
 · simp only [a9,jF] at h;exact tJ (by assumption) h.1 h.2
 · cases h
section
variable {P:ar} {N:Fm} {σ:Nat→ag} {w:ah} {dst:Option Nat} {ty:aq} {pos :String} {af:Array cq} {g:Option (Nat×Bool)} {x y z:aY} {K:(Nat→ag)→ah→Prop}
theorem aQ {f:dQ} {args:Array aY} {C:Array aq} {L:List ag} {R:ag→ah→Prop} (hr:bc P f L.toArray w R) (E:args.toList.map (ev N σ)=L)
 (k:∀ v w',R v w'→K (dc σ dst v) w') (I:tI P f=true :=by kernel_rfl):bS P N ⟨dst,.call ⟨.value (.func f),args,C⟩,ty,pos,af,g⟩ σ w K:=cl (El I) hr E k
theorem ay {t b off :Nat} {v:ag} (E:ev N σ x= .pointer (some ⟨b,off,none⟩)) (C:au w.heap b off =some v) (hu:cN P t=some none:=by kernel_rfl):
 (execOp (ev N σ) ⟨dst,.load t x,ty,pos,af,g⟩).run P w= .ok (.value v) w:=ld hu E C
theorem cm (n:Nat) {t t':aq} {a b:Int} (C:ev N σ x= .int .i64 a:=by exact J) (E:ev N σ y= .int .i64 b:=by exact J) (h:a+b=(n:Int)∧n≤9223372036854775807:=by omega):
 (execOp (ev N σ) ⟨dst,.binOp .add t x y t',ty,pos,af,g⟩).run P w= .ok (.value<|.int .i64 (n:Int)) w:=tv (n:Int) C E<|wQ h.1 h.2
theorem pL (n:Nat) {t t':aq} {a b:Int} (C:ev N σ x= .int .i64 a:=by exact J) (E:ev N σ y= .int .i64 b:=by exact J) (h:a - b=(n:Int)∧n≤9223372036854775807:=by omega):
 (execOp (ev N σ) ⟨dst,.binOp .sub t x y t',ty,pos,af,g⟩).run P w= .ok (.value<|.int .i64 (n:Int)) w:=vC (n:Int) C E<|wQ h.1 h.2
variable {ops:Array aC} {Q:bo→(Nat→ag)→ah→Prop} {S:ah→Prop} {r fuel d t b off :Nat} {listed:Array Bool} {v:ag} {W:ah} {l:List aC} {id:Nat}
theorem cR (i:Nat) (h:(ops[i]?,ev N σ x)=(some ⟨some d,.load t x,ty,pos,af,none⟩,.pointer (some ⟨b,off,none⟩))) (C:Wk W w) (E:au W.heap b off =some v) (k:cj P N ops Q (fun w'=>Wk W w') fuel (listed.setIfInBounds i true) (bd σ d v) w)
 (I:dU N.F ops listed i=true :=by kernel_rfl) (hu:cN P t=some none:=by kernel_rfl):cj P N ops Q (fun w'=>Wk W w') (fuel+1) listed σ w:=hp i (congrArg fS h) I (fun _ hw=>ld hu (congrArg Prod.snd h)<|hw.au E) C k
theorem vn (i:Nat) (h:(ops[i]?,ev N σ x)=(some ⟨some d,.load t x,ty,pos,af,none⟩,.pointer (some ⟨b,off,none⟩))) (C:Wk W w) (E:au W.heap b off =some v) (k:cg P N ops Q (fun w'=>Wk W w') r fuel (listed.setIfInBounds i true) (bd σ d v) w)
 (I:nr N.F ops listed r i=true :=by kernel_rfl) (hu:cN P t=some none:=by kernel_rfl):cg P N ops Q (fun w'=>Wk W w') r (fuel+1) listed σ w:=lq i (congrArg fS h) I (fun _ hw=>ld hu (congrArg Prod.snd h)<|hw.au E) C k
theorem eh (h:Wk w w.drew→cj P N l.toArray Q (fun w'=>Wk w w') l.length (mH l.length false) σ w.drew) (hr:jx N.r l=true :=by exact J) (hm:P.follows .mixedOrders=true :=by kernel_rfl):bA P N (.region id l.toArray true) Q σ w:=bg _ hr hm (Md.refl _ _).drew<|h (Md.refl _ _).drew
theorem Ah (r:Nat) (h:Wk w w.drew→cg P N l.toArray Q (fun w'=>Wk w w') r l.length (mH l.length false) σ w.drew) (hr:jx N.r l=true :=by exact J) (hm:P.follows .mixedOrders=true :=by kernel_rfl):bA P N (.region id l.toArray true) Q σ w:=po _ r hr hm (Md.refl _ _).drew<|h (Md.refl _ _).drew
end
end Go.Hb
end
section
namespace Go.Hb
open Go.ChangeShapes Go.WideShapes Go.ChangeAt
theorem Wk.frame {w w':ah} (h:Wk w w') (may:MemPlace→Prop):w.keptBut w' may:=by
 refine ⟨h.os,h.output,fun i hi=> ?_⟩;rw [h.eW i hi id];split <;> simp_all
theorem Wk.same {w w':ah} (h:Wk w w') {p:MemPlace} (hp:p.block < w.heap.size):w.sameAt w' p:=by
 cases p with
 | cell b o=>exact World.cell?_of_block (w:=w)<|h.eW b hp id
 | map b=>exact h.eW b hp id
section
variable {H:Type} {enc:aq×ag→H} {P:ar} {W W':ah}
theorem BU (L:laidOutB P=true) (J:Wk W W'):∀ (E:List aq) (vs:List ag) (I:List (DataW H)) (ps:List MemPlace),E.all (fun t=>P.readableRec t && decide (t < P.types.size))=true→(∀ x∈ps,x.block < W.heap.size)→
 CL enc P W 0 (fun _=>true) true E vs I ps→CL enc P W' 0 (fun b=>decide (b < W.heap.size)) true E vs I ps
 | [],[],[],_,_,_,h=>h
 | t::E,v::vs,d::I,_,hp,aP,⟨p,q,h1,h2,he⟩=>by
   subst he;rw [List.all_cons,a9,a9] at hp;exact ⟨p,q,WideElems.Trod_stays L hp.1.1 (of_decide_eq_true hp.1.2) h1 (fun x C=>J.same<|aP x<|oG _ C) (fun x C=>decide_eq_true<|aP x<|oG _ C),
    BU L J E vs I q hp.2 (fun x C=>aP x<|List.mem_append_right _ C) h2,rfl⟩
 | [],_::_,_,_,_,_,h=>h.elim
 | [],[],_::_,_,_,_,h=>h.elim
 | _::_,[],_,_,_,_,h=>h.elim
 | _::_,_::_,[],_,_,_,h=>h.elim
theorem HK {f:dQ} {fn:fN} {s:ChangeSpec} {args:Array ag} {C gs:List (DataW H)} {before:List MemPlace} {V:aq} (J:DataW.Whole enc P fn.params.toList s.vars false W args.toList C gs before) (U:s.vars= [])
 (E:s.fn H (C++gs)= {results:= [.lit (.bool true)],args:=C}) (hr:fn.resultTypes= #[V]) (hb:P.underlying V=some .bool) (ab:laidOutB P=true) (hp:fn.params.toList.all (fun t=>P.readableRec t && decide (t < P.types.size))=true)
 (h:bc P f args W (fun v w'=>v= .bool true∧Wk W w')):Calls P f args W fun e W'=> ∃ v,e= .returned v∧s.post enc P fn false true false false W args v W':=by
 refine jG h fun e W' ⟨v,he,ac,O⟩=>⟨v,he,?_⟩
 subst ac;have L:=J;obtain ⟨p,q,Z,I,rfl,_,_⟩:=J;rw [U] at I;obtain ⟨rfl,rfl⟩:=trodVars_none I;have aP:∀ x∈p,x.block < W.heap.size:=fun x ad=>L.lt x<|by simpa using ad
 refine ⟨_,_,_,[],p,[],L,?_,?_,?_,O.frame _,fun h=>by cases h⟩
 · rw [E,hr];exact trodAll_cons_mk (shut_bool hb _) trodAll_mk0
 · rw [E];exact BU ab O _ _ _ _ hp aP Z
 · rw [E,U]; rfl
end
end Go.Hb
namespace Go.Hb
open Go.Proofs.YtjaoldaegkmkjaaGreatDoor
theorem Eg {H:Type} {l:List (DataW H)} (C:Rows.uptoSmall H l=true):Rows.uptoBulkAll l≤1048576:=of_decide_eq_true C
end Go.Hb
namespace Go.Hb
open Go.Proofs.YtjaoldaegkmkjaaGreatDoor Go.ChangeShapes Go.WideShapes Go.ChangeAt
structure DG (P:ar) (t:aq) (m:Nat) {X:Type} (R:ah→List ag→X→Prop) (B:X→Nat):Prop where
 cells:P.cellsOf t=m
 op:∀ {H:Type} (enc:aq×ag→H) (W:ah) (fuel:Nat) (cs:List ag) (d:DataW H) (p:List MemPlace),DataW.trod enc P W 0 (fun _=>true) true fuel t cs=some (d,p)→cs.length=m∧∃ x,R W cs x∧B x≤Rows.uptoBulk d
section
variable {P:ar} {t t0 t1 e:aq} {m m0 m1:Nat} {X X0 X1:Type} {R:ah→List ag→X→Prop} {B:X→Nat} {R0:ah→List ag→X0→Prop} {B0:X0→Nat} {R1:ah→List ag→X1→Prop} {B1:X1→Nat}
theorem AK (E:P.underlying t=some .string) (C:P.cellsOf t=1):DG P t 1 (fun _ cs (x:List UInt8)=>cs= [str x]) (fun x=>x.length+1) where
 cells:=C
 op enc W fuel cs d p h:=by
  obtain ⟨s,rfl,I,hw⟩:=DataW.trod_string E h;cases I;exact ⟨J,s.data.toList,J,by simp [Rows.uptoBulk]⟩
end
end Go.Hb
end
section
namespace Go.Hb
open Go.Proofs
def fL:List (List TD):= [
 [.no,.no,.no,.no,.no,.no,.no,.st [0,1,2,3],.st [0,1,2,3],.str,.str,.str,.no,.st [0,1],.st [0,1],.no],
 [.no,.no,.st [0],.st [0],.no,.no,.no,.no,.no,.no,.no,.cY 77 2,.cY 93 2,.no,.st [0,1,2,3],.st [0,1,2,3]],
 [.no,.no,.no,.no,.no,.no,.cY 60 2,.cY 63 2,.no,.st [0,1,2,3],.st [0,1,2,3],.no,.no,.cY 9 1,.st [0,1,2,3,4],.st [0,1,2,3,4]],
 [.no,.no,.no,.no,.no,.no,.no,.cY 3 1,.no,.no,.no,.st [0,1],.st [0,1],.cY 65 2,.st [0,1],.st [0,1]],
 [.st [0,1],.st [0,1],.no,.no,.no,.st [0,7],.st [0,7],.no,.st [0,1,2],.st [0,1,2],.no,.no,.no,.st [0,1],.no,.no],
 [.no,.no,.st [0,1,2,3,4],.st [0,1,2,3,4],.no,.no,.no,.no,.no,.no,.no,.cY 103 2,.st [0,1],.st [0,1],.no,.no],
 [.no,.no,.no,.no,.no,.no,.cY 55 1,.st [0,1],.no,.no,.no,.st [0,1],.st [0,1],.no,.no,.no],
 [.no,.no,.no,.no,.no,.no,.no,.no,.st [0,1,2],.st [0,1,2],.no,.no,.no,.st [0,1,2],.no,.no],
 [.st [0],.st [0],.no,.no,.no,.no,.no,.cY 194 1,.cY 192 5,.cY 198 7,.st [0,1,2,3,8,9,10,11,12],.st [0,1,2,3,8,9,10,11,12],.no,.no,.no,.cY 259 2],
 [.st [0,1,2,15],.st [0,1,2,15],.no,.no,.no,.st [0,1,6],.st [0,1,6],.no,.no,.no,.no,.no,.no,.no,.no,.no],
 [.no,.no,.cY 5 1,.st [0,1,2,3],.st [0,1,2,3],.no,.no,.no,.no,.no,.no,.no,.cY 4 1,.st [0,1,2],.st [0,1,2],.no],
 [.no,.no,.no,.no,.no,.no,.no,.no,.no,.st [0,1,2,3,4],.st [0,1,2,3,4],.no,.st [0,13],.st [0,13],.no,.st [0,1,2,3,4]],
 [.st [0,1,2,3,4],.no,.cY 133 1,.no,.no,.st [0,1,2,3,4,5,6],.st [0,1,2,3,4,5,6],.no,.st [0,1,2,3,4,5],.st [0,1,2,3,4,5],.no,.no,.st [0],.st [0],.no,.st [0,1]],
 [.st [0,1],.cY 208 2,.no,.no,.no,.no,.no,.no,.no,.no,.no,.st [0,1],.st [0,1],.no,.no,.no],
 [.no,.no,.no,.no,.no,.no,.st [0,1,2],.st [0,1,2],.no,.no,.no,.cY 254 2,.no,.no,.no,.no],
 [.no,.st [0,1,2,3,4,5,6],.st [0,1,2,3,4,5,6],.no,.no,.no,.no,.no,.st [0,1],.st [0,1],.no,.no,.no,.st [0,1],.st [0,1],.no],
 [.st [0,1],.st [0,1],.st [0,1],.st [0,1],.no,.no,.no,.no,.no,.no,.no,.no,.no,.no,.no,.no],
 [.no,.no,.no,.no,.no,.no,.no,.no,.no,.no,.no,.no,.no,.no,.no,.no],
 [.no,.no,.st [0,1,2],.st [0,1,2],.no,.no,.no,.no,.no,.no,.no,.no,.no,.no,.no,.no],
 [.no,.no,.no,.no,.no,.no,.no,.no,.cY 133 1,.no,.no,.no,.st [0,1,2,3,4,5],.st [0,1,2,3,4,5],.no,.no],
 [.no,.st [0,1,2,3,4],.st [0,1,2,3,4],.no,.no,.no,.no,.no,.no,.no,.no,.no,.no,.no,.no,.no],
 [.no,.no,.no,.no,.cY 338 1,.no,.st [0,1,2,3,4,5,6],.st [0,1,2,3,4,5,6],.no,.st [0],.st [0],.no,.no,.no,.no,.no],
 [.no,.cY 24 1,.no,.no,.no,.no,.no,.no,.no,.no,.no,.no,.no,.no,.no,.no],
 [.no,.no,.no,.no,.no,.no,.no,.no,.no,.no,.no,.no,.no,.no,.no,.no],
 [.no,.no,.no,.no,.no,.no,.st [0,1,2,3,4,5,6],.st [0,1,2,3,4,5,6],.no,.no,.cY 399 2,.st [0,1,2],.st [0,1,2],.no,.st [0,1],.st [0,1]],
 [.st [0,1],.st [0,1],.no,.no,.no,.no,.no,.no,.no,.cY 434 4,.st [0],.st [0],.no,.no,.no,.no],
 [.no,.no,.no,.no,.no,.no,.no,.st [0,1,2,3,4],.st [0,1,2,3,4],.no,.no,.st [0,1],.st [0,1],.no,.cY 205 1,.no],
 [.no,.no,.no,.no,.no,.no,.no,.no,.no,.no,.no,.no,.no,.no,.no,.no],
 [.no,.no,.no,.no,.no,.no,.no,.no,.no,.no,.no,.st [0],.st [0],.no,.no,.no],
 [.no,.no,.no,.no,.no,.no,.no,.no,.no,.no,.no,.no,.no,.no,.no,.no],
 [.no,.no,.no,.no,.no,.no,.no,.no,.no,.no,.no,.no,.no,.cY 460 1,.cY 498 2,.st [0,1,2]],
 [.st [0,1,2],.st [0,1],.st [0,1],.no,.no,.no,.no,.no,.no,.no,.no,.no,.no,.no,.no,.no],
 [.no,.no,.no,.no,.no,.st [0,1],.st [0,1],.no,.no,.st [0,1,2,3],.st [0,1,2,3],.no,.no,.no,.no,.no],
 [.no,.no,.no,.st [0,1,2,3,4,5,6,7,8,9,10],.st [0,1,2,3,4,5,6,7,8,9,10],.no,.no,.st [0,1],.st [0,1],.st [0],.st [0],.no,.no,.st [0,1,2,3,4],.st [0,1,2,3,4],.cY 546 4],
 [.no,.st [0,1,2,3],.st [0,1,2,3],.no,.no]]
theorem gf:iz ak 0 fL=true :=aj
section
variable {N:Fm} {Q:bo→(Nat→ag)→ah→Prop} {w:ah} {σ σ':Nat→ag} {p':Pt} {st st':List Kn} {c':Option Prop}
theorem bN {x:bF} {C:bF} (n:Nat) (h:ga fL N n (.c x) [] σ none= .at (.c C) st' σ' c') (k:bA ak N C (dP ak N st' Q) σ' w) (E:optG c':=by first | exact trivial | (simp only [optG,andG]; omega)):bA ak N x Q σ w:=(gV gf n _ _ _ _ h E k).2
theorem aV {x:bF} {E:Array aC} {C:List aC} (n:Nat) (h:ga fL N n (.c x) [] σ none= .at (.l E C) st' σ' c') (k:bL ak N E (dP ak N st' Q) C σ' w) (I:optG c':=by first | exact trivial | (simp only [optG,andG]; omega)):bA ak N x Q σ w:=(gV gf n _ _ _ _ h I k).2
theorem o9 {x:bF} {e':bo} (n:Nat) (h:ga fL N n (.c x) [] σ none= .at (.x e') [] σ' c') (k:Q e' σ' w) (C:optG c':=by first | exact trivial | (simp only [optG,andG]; omega)):bA ak N x Q σ w:=(gV gf n _ _ _ _ h C k).2
theorem bO {x:bF} {C:bF} (n:Nat) (h:ga fL N n (.c x) st σ none= .at (.c C) st' σ' c') (k:bA ak N C (dP ak N st' Q) σ' w) (E:optG c':=by first | exact trivial | (simp only [optG,andG]; omega)):bA ak N x (dP ak N st Q) σ w:=(gV gf n _ _ _ _ h E k).2
theorem aE {x:bF} {E:Array aC} {C:List aC} (n:Nat) (h:ga fL N n (.c x) st σ none= .at (.l E C) st' σ' c') (k:bL ak N E (dP ak N st' Q) C σ' w) (I:optG c':=by first | exact trivial | (simp only [optG,andG]; omega)):bA ak N x (dP ak N st Q) σ w:=(gV gf n _ _ _ _ h I k).2
theorem aG {x:bF} {e':bo} (n:Nat) (h:ga fL N n (.c x) st σ none= .at (.x e') [] σ' c') (k:Q e' σ' w) (C:optG c':=by first | exact trivial | (simp only [optG,andG]; omega)):bA ak N x (dP ak N st Q) σ w:=(gV gf n _ _ _ _ h C k).2
theorem aH {ops:Array aC} {l:List aC} {C:bF} (n:Nat) (h:ga fL N n (.l ops l) st σ none= .at (.c C) st' σ' c') (k:bA ak N C (dP ak N st' Q) σ' w) (E:optG c':=by first | exact trivial | (simp only [optG,andG]; omega)):bL ak N ops (dP ak N st Q) l σ w:=(gV gf n _ _ _ _ h E k).2
theorem ai {ops:Array aC} {l:List aC} {E:Array aC} {C:List aC} (n:Nat) (h:ga fL N n (.l ops l) st σ none= .at (.l E C) st' σ' c') (k:bL ak N E (dP ak N st' Q) C σ' w) (I:optG c':=by first | exact trivial | (simp only [optG,andG]; omega)):bL ak N ops (dP ak N st Q) l σ w:=(gV gf n _ _ _ _ h I k).2
theorem aA {ops:Array aC} {l:List aC} {e':bo} (n:Nat) (h:ga fL N n (.l ops l) st σ none= .at (.x e') [] σ' c') (k:Q e' σ' w) (C:optG c':=by first | exact trivial | (simp only [optG,andG]; omega)):bL ak N ops (dP ak N st Q) l σ w:=(gV gf n _ _ _ _ h C k).2
theorem c9 {e:bo} {C:bF} (n:Nat) (h:ga fL N n (.x e) st σ none= .at (.c C) st' σ' c') (k:bA ak N C (dP ak N st' Q) σ' w) (E:optG c':=by first | exact trivial | (simp only [optG,andG]; omega)):dP ak N st Q e σ w:=(gV gf n _ _ _ _ h E k).2
theorem gN {e:bo} {E:Array aC} {C:List aC} (n:Nat) (h:ga fL N n (.x e) st σ none= .at (.l E C) st' σ' c') (k:bL ak N E (dP ak N st' Q) C σ' w) (I:optG c':=by first | exact trivial | (simp only [optG,andG]; omega)):dP ak N st Q e σ w:=(gV gf n _ _ _ _ h I k).2
theorem bf {e:bo} {e':bo} (n:Nat) (h:ga fL N n (.x e) st σ none= .at (.x e') [] σ' c') (k:Q e' σ' w) (C:optG c':=by first | exact trivial | (simp only [optG,andG]; omega)):dP ak N st Q e σ w:=(gV gf n _ _ _ _ h C k).2
variable {ops:Array aC} {S:ah→Prop} {r fuel fuel':Nat} {listed listed':Array Bool}
theorem aJ (is:List Nat) (h:ke fL N true ops is fuel listed σ none= .at fuel' listed' σ' c') (C:S w) (k:cj ak N ops Q S fuel' listed' σ' w) (E:optG c':=by first | exact trivial | (simp only [optG,andG]; omega)) (I:jQ (dU N.F ops) is listed=true :=by kernel_rfl):cj ak N ops Q S fuel listed σ w:=FX gf is h C k E I
theorem ey (is:List Nat) (h:ke fL N false ops is fuel listed σ none= .at fuel' listed' σ' c') (C:S w) (k:cg ak N ops Q S r fuel' listed' σ' w) (E:optG c':=by first | exact trivial | (simp only [optG,andG]; omega)) (I:jQ (fun l i=>nr N.F ops l r i) is listed=true :=by kernel_rfl):cg ak N ops Q S r fuel listed σ w:=FZ gf is h C k E I
theorem uD (is:List Nat) (h:ke fL N false ops is fuel listed σ none= .at fuel' listed' σ' c') (C:S w) (k:cg ak N ops Q S r fuel' listed' σ' w) (E:optG c':=by first | exact trivial | (simp only [optG,andG]; omega)) (I:jQ (fun l i=>lS N.F ops l r i) is listed=true :=by kernel_rfl):cg ak N ops Q S r fuel listed σ w:=FY gf is h C k E I
end
end Go.Hb
end
namespace Go.Hb
theorem drop_cons {α:Type} {l:List α} {i:Nat} (d:α) (h:i < l.length):l.drop i=l.getD i d::l.drop (i+1):=by simp_all
def j2 (c:UInt8) (l:List UInt8):Int:=if l.idxOf c < l.length then (l.idxOf c:Int) else -1
theorem Jj {h:Array Obj} {a:Option bh} {l:List UInt8} {i:Nat} (C:bt h a (U8 l)) (hi:i < l.length):Hb.au h (bk a) (fo a+i*1)=some (.int .u8 (l.getD i 0).toNat):=by
 refine C.D6 ?_;unfold U8;rw [ks,bG hi,cr,bG hi]; rfl
theorem Jl {l:List UInt8} (h:0 < l.length):U8 l≠[]:=by
 intro e;have :=congrArg List.length e;rw [m3,List.length_nil] at this;omega
theorem AN {w:ah} {B e:Nat} {v:ag} {l:List UInt8} {x:UInt8} (h:w.ownsRow B e 1 v (l.length+1) (U8 l++ [.int .u8 x.toNat])):w.ownsRow B e 1 v (l++ [x]).length (U8<|l++ [x]):=by
 rw [bQ,qB]; exact h
def Tg (w:ah) (B e n:Nat) (v:ag) (xs:List ag):Prop :=
 ∃ a C,v= .slice a n C∧n≤C∧(xs= []∨∃ b cur z,a=some ⟨b,0,none⟩∧B≤b∧w.heap[b]? =some (.cells cur e z)∧∀ (j:Nat) u,xs[j]? =some u→cur[j]? =some u)
theorem Tg.l6 {w:ah} {B e size n:Nat} {v:ag} {xs:List ag} (h:w.ownsRow B e size v n xs):Tg w B e n v xs:=by
 have h0:=h;rcases h.2 with ⟨rfl,rfl⟩ | ⟨g,cap,cur,rfl,hb,hg,_,_,_,C⟩
 · exact ⟨none,0,J,aZ _,.inl<|kr<|by simpa using h.1⟩
 · refine ⟨_,cap,J,(eM h0).1,.inr ⟨g,cur,_,J,hb,hg,fun j u hu=> ?_⟩⟩;rw [← C,ib] at hu;split at hu
   · simpa using hu
   · cases hu
theorem Tg.cells {w:ah} {B e n:Nat} {v:ag} {xs:List ag} (h:Tg w B e n v xs):∃ a C,v= .slice a n C∧bt w.heap a xs:=by
 obtain ⟨a,C,rfl,_,h | ⟨b,cur,z,rfl,_,hg,E⟩⟩:=h
 · subst h; exact ⟨a,C,rfl,bt.nil _ _⟩
 · refine ⟨_,C,J,fun _=>rfl,fun j u hu=> ?_⟩;show Hb.au w.heap b (0 +j)=_;rw [cy,bV hg]; exact E j u hu
theorem Tg.oU {w:ah} {B e n C:Nat} {a:Option bh} {xs:List ag} (h:Tg w B e n (.slice a n C) xs):n≤C∧bt w.heap a xs:=by
 obtain ⟨O,c',I,E,V⟩:=id h;obtain ⟨U,c2,J,L⟩:=h.cells;cases I; cases J;exact ⟨E,L⟩
theorem Tg.slice {w:ah} {B e n:Nat} {v:ag} {xs:List ag} (h:Tg w B e n v xs):∃ a C,v= .slice a n C:=let ⟨a,C,hv,_⟩:=h; ⟨a,C,hv⟩
theorem Tg.md {F:Nat→Prop} {w w':ah} {B e n:Nat} {v:ag} {xs:List ag} (h:Tg w B e n v xs) (hm:Md F w w') (I:∀ k,F k→∀ cur z,w.heap[k]?≠some (.cells cur e z)):Tg w' B e n v xs:=by
 obtain ⟨a,C,rfl,E,h | ⟨b,cur,z,rfl,hb,hg,O⟩⟩:=h
 · exact ⟨a,C,J,E,.inl h⟩
 · exact ⟨_,C,J,E,.inr ⟨b,cur,z,J,hb,by rw [hm.eW b (eC.1 hg).1 (fun L=>I b L cur z hg)]; exact hg,O⟩⟩
theorem Tg.wk {w w':ah} {B e n:Nat} {v:ag} {xs:List ag} (h:Tg w B e n v xs) (hm:Wk w w'):Tg w' B e n v xs:=h.md hm fun _ C=>C.elim
theorem j8 {w:ah} {B e e' size n:Nat} {v:ag} {xs:List ag} (h:w.ownsRow B e size v n xs) (I:e≠e'):∀ k,v.ownBlock=some k→∀ cur z,w.heap[k]?≠some (.cells cur e' z):=by
 intro k C cur z hg;rcases h.2 with ⟨rfl,_⟩ | ⟨g,cap,J,rfl,_,E,_⟩
 · simp [eE] at C
 · simp only [eE,bD] at C;subst C;rw [E] at hg;simp only [bD,sK] at hg;exact I hg.2.1
theorem Tg.mono {w:ah} {B B' e n:Nat} {v:ag} {xs:List ag} (h:Tg w B e n v xs) (C:B'≤B):Tg w B' e n v xs:=by grind [Tg]
def eJ (b:UInt8):Bool:=decide (33≤b.toNat∧b.toNat≠127)
def fi (w:List UInt8):Bool:=w.all eJ
def mh (w:List UInt8):Bool:=decide (1≤w.length∧w.length≤64∧fi w=true)
theorem iX {α:Type} {l:List α} {i:Nat} {d:α} (h:i < l.length):l.getD i d∈l:=by
 rw [cr,bG h]; exact List.getElem_mem h
theorem G7 {α:Type} {l:List α} {x:α} (d:α) (h:x∈l):∃ i,i < l.length∧l.getD i d=x:=by
 obtain ⟨i,hi,rfl⟩:=List.mem_iff_getElem.1 h;exact ⟨i,hi,by rw [cr,bG hi]; rfl⟩
theorem xQ {α:Type} {f:α→Bool} {l:List α} {i:Nat} (d:α) (h:i < l.length) (h1:f (l.getD i d)=false):l.all f=false :=by
 rw [List.all_eq_false]; exact ⟨_,iX h,by rw [h1]; exact cB⟩
theorem xR {α:Type} {f:α→Bool} {l:List α} (d:α) (h:∀ i,i < l.length→f (l.getD i d)=true):l.all f=true :=by
 rw [C8]; intro x C; obtain ⟨i,hi,rfl⟩:=G7 d C; exact h i hi
theorem oS {w:List UInt8} {i:Nat} (h:i < w.length) (h1:eJ (w.getD i 0)=false):fi w=false :=xQ 0 h h1
theorem qJ {w:List UInt8} (h:∀ i,i < w.length→eJ (w.getD i 0)=true):fi w=true :=xR 0 h
def lets (s:List UInt8):List UInt8:=s.foldl (fun a b=>if b∈a then a else a++ [b]) []
def letE (s:List UInt8):List UInt8×Nat:=if s= []∨fi s=false then ([],21) else (lets s,0)
theorem kT {s:List UInt8} {i:Nat} (h:i < s.length):lets (s.take<|i+1)=if s.getD i 0∈lets (s.take i) then lets (s.take i) else lets (s.take i)++ [s.getD i 0]:=by
 unfold lets;rw [wg s i 0 h,List.foldl_append]; rfl
theorem uR (s:List UInt8):(lets s).length≤s.length:=by
 have key:∀ (s a:List UInt8),(s.foldl (fun a b=>if b∈a then a else a++ [b]) a).length≤a.length+s.length:=by
  intro s
  induction s with
  | nil=>intro a; simp
  | cons b s ih=>
    intro a;rw [qp,dd];split
    · have :=ih a; omega
    · have :=ih (a++ [b]); rw [bQ,List.length_singleton] at this; omega
 have :=key s [];simpa [lets] using this
def marksOf (a:List UInt8):List ag:=(lu 256).map fun k=> .bool<|decide (ek k∈a)
theorem Ap (a:List UInt8):(marksOf a).length=256:=by simp [marksOf]
theorem GY (a:List UInt8) (b:UInt8):(marksOf a)[b.toNat]? =some (.bool<|decide (b∈a)):=by
 have :=lD b;unfold marksOf;rw [ks,xx U];simp
theorem G0 (a:List UInt8) (b:UInt8):(marksOf a).set b.toNat (.bool true)=marksOf (a++ [b]):=by
 apply sQ;intro k;rw [List.getElem?_set,Ap];unfold marksOf;rw [ks,ks];by_cases E:k < 256
 · rw [xx E];simp only [eS];have he:(ek k=b)↔b.toNat=k:=by
    constructor
    · rintro rfl; simp; omega
    · rintro rfl; simp
   by_cases h:b.toNat=k
   · have C:=he.2 h;simp [h,E,C]
   · have C:¬ek k=b:=fun e=>h<|he.1 e;simp [h,C]
 · have :(lu 256)[k]? =none:=lr<|by simp; omega
   have hb:=lD b;rw [this];simp; omega
theorem GZ:marksOf []=cZ 256 (.bool false):=by
 unfold marksOf;apply sQ;intro k;rw [ks,List.getElem?_replicate];by_cases C:k < 256
 · rw [xx C]; simp [C]
 · rw [lr (by simp; omega)]; simp [C]
theorem Bd.new {T e b:Nat} {w:ah} (h:w.heap[b]? =some (.cells [sO none,.slice none 0 0].toArray T (0,0))):Bd T e w b (.slice none 0 0) []:=
 ⟨⟨none,h,.inl rfl⟩,e7 _ _ _ _,by simp⟩
theorem Bd.step {T e b:Nat} {w0 w w':ah} {C:ag} {l:List UInt8} (h:Bd T e w b C l) (E:Wk w0 w) (I:Md (BF b C) w w') (hb:w0.heap.size≤b):Wk w0 w':=
 Md.trans' E I fun k L J=>by have :=h.q6 J; omega
theorem Bd.IX {T e b:Nat} {w0 w w':ah} {C:ag} {l:List UInt8} (h:Bd T e w b C l) (E:Wk w0 w) (I:Md (fun k=>C.ownBlock=some k) w w') (hb:w0.heap.size≤b):Wk w0 w':=
 Md.trans' E I fun k L J=>by have :=h.q6 (.inr J); omega
end Go.Hb
section
namespace Go.Hb
def jO (P:ar) (t:aq):Option (Nat×Nat):=
 match P.underlying t with
 | some (.array n e)=>(P.info? e).map fun i=>(n,i.size)
 | _=>none
section
variable {P:ar} {N:Fm} {σ:Nat→ag} {w:ah} {dst:Option Nat} {ty:aq} {pos :String} {af:Array cq} {g:Option (Nat×Bool)} {x y:aY}
theorem eK {t n C b off :Nat} {k:bB} {i:Int} (he:jO P t=some (n,C)) (E:ev N σ x= .pointer (some ⟨b,off,none⟩)) (I:ev N σ y= .int k i) (h0:0≤i∧i < n):
 (execOp (ev N σ) ⟨dst,.indexAddr t x y,ty,pos,af,g⟩).run P w= .ok (.value<|.pointer<|some ⟨b,off+i.toNat*C,none⟩) w:=by
 unfold jO at he;cases hd:P.underlying t with
 | none=>rw [hd] at he; cases he
 | some d=>
   rw [hd] at he;cases d <;> first | (cases he; done) | skip
   rename_i m e;cases hi:P.info? e with
   | none=>simp [hi] at he
   | some j=>
     simp only [hi,eS,bD,gk] at he;obtain ⟨rfl,rfl⟩:=he;simp [execOp,CP,mO,E,I,asIntOf,bp hd,h0.1,h0.2,sizeOf,cU hi,fh]
end
theorem G4 {h:Array Obj} {b:Nat} {a:List UInt8} (C:ax h b (marksOf a)) (c:UInt8):Hb.au h b (0 +((c.toNat:Nat):Int).toNat*1)=some (.bool<|decide (c∈a)):=by
 rw [C.au,show 0 +((c.toNat:Nat):Int).toNat*1=c.toNat from by omega]; exact GY a c
theorem G5 {h:Array Obj} {b:Nat} {a:List UInt8} {c:UInt8} (C:ax h b ((marksOf a).set (0 +((c.toNat:Nat):Int).toNat*1)<|.bool true)):ax h b (marksOf<|a++ [c]):=by
 rw [show 0 +((c.toNat:Nat):Int).toNat*1=c.toNat from by omega,G0] at C; exact C
end Go.Hb
end
section
namespace Go.Hb
section
variable {P:ar} {N:Fm} {σ:Nat→ag} {w:ah} {fn:fN} {R:ag→ah→Prop}
theorem GU {t b off :Nat} {v:ag} (hu:cN P t=some none) (C:Hb.au w.heap b off =some v):(loadVar t ⟨b,off,none⟩).run P w= .ok v w:=by
 have E:w.cell? ⟨b,off,none⟩=some v:=by rw [iP]; exact C
 unfold cN at hu;cases hd:P.underlying t with
 | none=>rw [hd] at hu; cases hu
 | some d=>
   rw [hd] at hu;cases d <;> first
    | (simp only [fR] at hu; obtain ⟨_,_,h⟩:=hu; cases h; done)
    | simp [loadVar,isAgg,bp hd,run_load,E]
theorem GV {t n b off :Nat} {cs:List ag} (hu:cN P t=some (some n)) (J:cs.length=n) (E:∀ j,j < n→Hb.au w.heap b (off+j)=cs[j]?):(loadVar t ⟨b,off,none⟩).run P w= .ok (.agg cs.toArray) w:=by
 have I:(loadCells ⟨b,off,none⟩ n).run P w= .ok cs.toArray w:=by
  subst J;refine run_loadCells_list (P:=P) w ⟨b,off,none⟩ cs fun j v C=> ?_;rw [fh,iP];exact (E j (cH.1 C).1).trans C
 unfold cN at hu;cases hd:P.underlying t with
 | none=>rw [hd] at hu; cases hu
 | some d=>
   rw [hd] at hu;cases hi:P.info? t with
   | none=>simp [CY,hi] at hd
   | some i=>
     rw [hi] at hu;cases d <;> first
      | (cases hu; done)
      | (simp only [eS,bD] at hu; subst hu
         simp [loadVar,isAgg,bp hd,sizeOf,cU hi,I])
def jN (P:ar) (N:Fm) (σ:Nat→ag) (w:ah):ResultVar→ag→Prop
 | .tmp t,v=>ev N σ (.tmp t)=v
 | .cell a t,v=> ∃ ad,ev N σ (.tmp a)= .pointer (some ad)∧(loadVar t ad).run P w= .ok v w
theorem pI {t:Tmp} :jN P N σ w (.tmp t) (ev N σ<|.tmp t):=rfl
theorem ix {a t b off :Nat} {v:ag} (E:ev N σ (.tmp a)= .pointer (some ⟨b,off,none⟩)) (hu:cN P t=some none) (C:Hb.au w.heap b off =some v):jN P N σ w (.cell a t) v:=⟨_,E,GU hu C⟩
theorem gz {a t n b off :Nat} {cs:List ag} (I:ev N σ (.tmp a)= .pointer (some ⟨b,off,none⟩)) (hu:cN P t=some (some n)) (E:cs.length=n) (C:∀ j,j < n→Hb.au w.heap b (off+j)=cs[j]?):jN P N σ w (.cell a t) (.agg cs.toArray):=⟨_,I,GV hu E C⟩
def kd (tmps:Array ag):ResultVar→Sem ag
 | .tmp t=>pure<|tmps.getD t undef
 | .cell a t=>do loadVar t (← asAddr (tmps.getD a undef))
theorem jg {r:ResultVar} {v:ag} (h:jN P N σ w r v):(kd (act N σ).tmps r).run P w= .ok v w:=by
 cases r with
 | tmp t=>
   show kj P (pure<|(act N σ).tmps.getD t undef) w=_;rw [n7]; simp only [jN] at h; rw [h]; rfl
 | cell a t=>
   obtain ⟨ad,h1,C⟩:=h;show kj P (do loadVar t (← asAddr ((act N σ).tmps.getD a undef))) w=_;rw [n7,h1];simp [asAddr,C]
theorem HT {tmps:Array ag} {r:ResultVar} {v:ag} (h:fn.results= #[r]) (h1:(kd tmps r).run P w= .ok v w):(results fn tmps).run P w= .ok v w:=by
 have C:(results fn tmps)=(do let vs ← #[r].mapM (kd tmps); pure (if h:vs.size=1 then vs[0] else .tuple vs)):=by
  unfold results; rw [h]; rfl
 rw [C]; simp [xB,h1]
theorem rQ {tmps:Array ag} {r s:ResultVar} {v u:ag} (h:fn.results= #[r,s]) (h1:(kd tmps r).run P w= .ok v w) (C:(kd tmps s).run P w= .ok u w):(results fn tmps).run P w= .ok (.tuple #[v,u]) w:=by
 have E:(results fn tmps)=(do let vs ← #[r,s].mapM (kd tmps); pure (if h:vs.size=1 then vs[0] else .tuple vs)):=by
  unfold results; rw [h]; rfl
 rw [E]; simp [xB,h1,C]
theorem np {r:ResultVar} {v:ag} (h:fn.results= #[r]) (h1:jN P N σ w r v) (C:R v w):fin P fn N R .ret σ w:=⟨v,HT h (jg h1),C⟩
theorem qX {r s:ResultVar} {v u:ag} (h:fn.results= #[r,s]) (h1:jN P N σ w r v) (C:jN P N σ w s u) (E:R (.tuple #[v,u]) w):fin P fn N R .ret σ w:=⟨_,rQ h (jg h1) (jg C),E⟩
end
end Go.Hb
end
section
namespace Go.Hb
def gZ (P:ar) (N:Fm) (c:bF) (B:bo→Act→ah→Prop) (σ:Nat→ag) (w:ah):Prop :=c.wpIn (fe N.r) 0 P B (act N σ) w
def qb (N:Fm) (B:bo→Act→ah→Prop):bo→(Nat→ag)→ah→Prop :=fun e σ w=>B e (act N σ) w
section
variable {P:ar} {N:Fm} {B:bo→Act→ah→Prop} {σ:Nat→ag} {w:ah}
theorem fv {x y:bF} (h:gZ P N x (Exit.then (y.wpIn (fe N.r) 0 P B) B) σ w):gZ P N (.seq x y) B σ w:=wpIn_seq h
theorem bX {y:bF} (h:gZ P N y B σ w):qb N (Exit.then (y.wpIn (fe N.r) 0 P B) B) .normal σ w:=h
theorem HA {y:Act→ah→Prop} (h:qb N B .ret σ w):qb N (Exit.then y B) .ret σ w:=h
theorem HX (h:qb N B .ret σ w):gZ P N .ret B σ w:=wpIn_ret h
theorem IC {x y:bF} (C:(Nat→ag)→ah→Prop) (h:gZ P N x (Exit.then (fun a w=> ∃ σ,a=act N σ∧C σ w) B) σ w) (J:∀ σ w,C σ w→gZ P N y B σ w):gZ P N (.seq x y) B σ w:=by
 refine wpIn_seq<|wpIn_mono h ?_;intro e a w E;cases e with
 | normal=>obtain ⟨σ,rfl,I⟩:=E; exact J _ _ I
 | _=>exact E
theorem yv {C:(Nat→ag)→ah→Prop} (h:C σ w):qb N (Exit.then (fun a w=> ∃ σ,a=act N σ∧C σ w) B) .normal σ w:=⟨σ,rfl,h⟩
theorem Iq {c:bF} {L:List (Nat×ag)} (h:Sl σ L) (C:gZ P N c B (pU σ L) w):gZ P N c B σ w:=by rw [wq h] at C; exact C
theorem fl {c:bF} (h:bA P N c (qb N B) σ w):gZ P N c B σ w:=by
 unfold bA at h;refine wpIn_mono h ?_;intro e a w C;cases e with
 | panic c=>obtain ⟨σ,rfl,E⟩:=C; exact E σ fun _ _=>rfl
 | outgrown=>exact C.elim
 | _=>obtain ⟨σ,rfl,E⟩:=C; exact E
end
theorem nX (fn:fN) (args:List ag) (F:List Nat) (hn:ba args.length fn.ntmps=true):({tmps:=args.toArray++mH (fn.ntmps - args.toArray.size) undef,defers:= []} :Act)=act ⟨fn.ntmps,[],F,none⟩ (dh args):=by
 have E:args.length≤fn.ntmps:=by simpa using hn
 refine qC J fun i=> ?_;rw [ij];simp only [dh,cr,dY];by_cases h1:i < args.length
 · rw [Co (by simpa using h1),if_pos U];simp [h1]
 · rw [Cp (by simpa using h1)];simp only [dY,Cr];by_cases C:i < fn.ntmps
   · rw [if_pos U,if_pos C,lr U]; rfl
   · rw [if_neg U,if_neg C]
section
variable {P:ar} {n:Nat} {F:List Nat} {σ:Nat→ag} {w:ah} {fn:fN} {R:ag→ah→Prop}
end
section
variable {P:ar} {N:Fm} {σ:Nat→ag} {w:ah} {dst:Option Nat} {ty:aq} {pos :String} {af:Array cq} {g:Option (Nat×Bool)} {x:aY} {K:(Nat→ag)→ah→Prop}
theorem ye {e:aq} {v:ag} (C:ev N σ x=v) (h1:v.oneCell'=true) (k:∀ b w',b=w.heap.size→Nw w w'→w'.heap[b]? =some (.cells [v].toArray e (0,0))→K (dc σ dst<|.pointer<|some ⟨b,0,none⟩) w'):
 bS P N ⟨dst,.box e x,ty,pos,af,g⟩ σ w K:=by
 refine lj (v:=fun b=> .pointer<|some ⟨b,0,none⟩) (ob:= .cells [v].toArray e (0,0)) ?_ k;have :=l7 h1;simp [execOp,xj,C,this,newVar,newRow]
end
section
variable {F:Nat→Prop} {W W':ah} {B:Nat}
end
theorem DO (N:Fm):∀ (l:List (Tmp×ag)) (σ:Nat→ag),l.foldl (fun t p=>t.setIfInBounds p.1 p.2) (act N σ).tmps=(act N<|l.foldl (fun s p=>bd s p.1 p.2) σ).tmps:=by
 intro l
 induction l with
 | nil=>intro σ; rfl
 | cons p l ih=>
   intro σ;rw [qp,qp,← ih];congr 1;have :=congrArg Act.tmps<|eu N σ (some p.1) p.2;exact this
section
variable {P:ar} {N:Fm} {ops:Array aC} {Q:bo→(Nat→ag)→ah→Prop} {rest:List aC} {σ:Nat→ag} {w:ah} {d':Option Nat} {d:Nat} {op:Op} {ty:aq} {pos :String} {af:Array cq} {v:ag}
end
end Go.Hb
end
section
namespace Go.Hb
def lH (P:ar) (f:dQ) (args:Array ag) (w:ah) (R:ag→ah→Prop) (C:List PanicEntry→ah→Prop):Prop :=
 Calls P f args w fun e w'=>(∃ v,e= .returned v∧R v w')∨∃ c,e= .panicked c∧C c w'
def zr (P:ar) (fn:fN) (N:Fm) (R:ag→ah→Prop) (C:List PanicEntry→ah→Prop):bo→(Nat→ag)→ah→Prop
 | .normal,σ,w=> ∃ v,(results fn (act N σ).tmps).run P w= .ok v w∧R v w
 | .ret,σ,w=> ∃ v,(results fn (act N σ).tmps).run P w= .ok v w∧R v w
 | .panic c,_,w=>C c w
 | _,_,_=>False
theorem o7 {P:ar} {fn:fN} {N:Fm} {R:ag→ah→Prop} {C:List PanicEntry→ah→Prop} {e:bo} {σ:Nat→ag} {w:ah} (h:fin P fn N R e σ w):zr P fn N R C e σ w:=by
 cases e <;> first | exact h | exact h.elim
theorem o4 {P:ar} {f:dQ} {N:Nat} {fn:fN} {c:bF} {args:List ag} {w:ah} {R:ag→ah→Prop} {J:List PanicEntry→ah→Prop} (O:P.funcs[f]? =some fn) (hb:fn.body=some c)
 (L:fn.ntmps=N) (hn:ba args.length N=true) (h:bA P ⟨N,[],[],none⟩ c (zr P fn ⟨N,[],[],none⟩ R J) (dh args) w):lH P f args.toArray w R J:=by
 subst L;refine calls_of_wp O hb ?_;rw [nX fn args [] hn];unfold bA at h;refine xi ?_<|wpIn_wide.1 h;intro e a w C;cases e with
 | normal=>obtain ⟨σ,rfl,v,hr,I⟩:=C; exact ⟨rfl,v,hr,.inl ⟨v,rfl,I⟩⟩
 | ret=>obtain ⟨σ,rfl,v,hr,I⟩:=C; exact ⟨rfl,v,hr,.inl ⟨v,rfl,I⟩⟩
 | exit id=>obtain ⟨σ,rfl,E⟩:=C; exact E.elim
 | goto l=>obtain ⟨σ,rfl,E⟩:=C; exact E.elim
 | panic c=>obtain ⟨σ,rfl,E⟩:=C; exact ⟨rfl,.inr ⟨c,rfl,E σ fun _ _=>rfl⟩⟩
 | outgrown=>exact C.elim
section
variable {P:ar} {N:Fm} {Q:bo→(Nat→ag)→ah→Prop} {σ:Nat→ag} {w:ah} {ops:Array aC} {rest:List aC} {dst:Option Nat} {ty:aq} {pos :String} {af:Array cq} {g:Option (Nat×Bool)} {x:aY}
def mD (P:ar) (N:Fm) (o:aC) (σ:Nat→ag) (w:ah) (K:(Nat→ag)→ah→Prop) (C:List PanicEntry→ah→Prop):Prop :=
 gi P o (act N σ) w (fun a w=> ∃ σ,a=act N σ∧K σ w) (fun e a w=>match e with | .panic c=>a=act N σ∧C c w | _=>False)
theorem wU {o:aC} {K:(Nat→ag)→ah→Prop} {E:List PanicEntry→ah→Prop} {C:Act→ah→Prop} (h:mD P N o σ w K E) (O:∀ σ w,K σ w→C (act N σ) w) (hp:∀ c w',E c w'→∀ σ',(∀ i∈N.F,σ' i=σ i)→Q (.panic c) σ' w'):o.wp P (act N σ) w C (lift N Q):=by
 unfold mD at h;unfold gi at*;generalize (execOp (act N σ).eval o).run P w=r at h ⊢;have I:∀ a w,(∃ σ,a=act N σ∧K σ w)→C a w:=by rintro a w ⟨σ,rfl,h⟩; exact O _ _ h
 have J:∀ c (a:Act) w',(a=act N σ∧E c w')→lift N Q (.panic c) a w':=by rintro c a w' ⟨rfl,h⟩; exact ⟨σ,rfl,hp c w' h⟩
 cases r with
 | ok n w'=>
   cases n <;> simp only [iE] at h ⊢ <;>
    first
     | exact I _ _ h
     | exact jG h (fun e w'' he=>by
      cases e with
      | returned v=>exact I _ _ he
      | panicked c=>exact J _ _ _ ⟨rfl,he.2⟩
      | outgrown=>obtain ⟨_,_,L⟩:=he; exact L.elim)
     | exact sM h fun _ _ he=>I _ _ he
 | halt x w'=>cases x <;> simp only [iE] at h ⊢ <;> exact J _ _ _ ⟨rfl,h.2⟩
theorem dO {f:dQ} {args:Array aY} {E:Array aq} {L:List ag} {R:ag→ah→Prop} {C:List PanicEntry→ah→Prop} {K:(Nat→ag)→ah→Prop} (V:fT P f) (hr:lH P f L.toArray w R C) (J:args.toList.map (ev N σ)=L)
 (k:∀ v w',R v w'→K (dc σ dst v) w'):mD P N ⟨dst,.call ⟨.value (.func f),args,E⟩,ty,pos,af,g⟩ σ w K C:=by
 unfold mD gi;have hm:args.map (ev N σ)=L.toArray:=by rw [← J,← iC]
 have Z:(execOp (ev N σ) ⟨dst,.call ⟨.value (.func f),args,E⟩,ty,pos,af,g⟩).run P w= .ok (.enter f L.toArray) w:=by
  have I:=V L.toArray w;simp [execOp,resolve,ev,lk,invoke,hm,I]
 rw [dk,Z];simp only [iE];refine jG hr ?_;rintro e w' (⟨v,rfl,U⟩ | ⟨c,rfl,O⟩)
 · exact ⟨_,eu ..,k v w' U⟩
 · exact ⟨trivial,O⟩
theorem eP {o:aC} {C:List PanicEntry→ah→Prop} (hg:o.guard=none) (h:mD P N o σ w (fun σ w=>bL P N ops Q rest σ w) C) (hp:∀ c w',C c w'→∀ σ',(∀ i∈N.F,σ' i=σ i)→Q (.panic c) σ' w'):bL P N ops Q (o::rest) σ w:=by
 unfold bL wpList;rw [if_pos (fw o hg _)];refine .inl<|wU h (fun σ w E=> ?_) hp;unfold bL at E; exact E
theorem Hz {t:aq} {v:ag} (C:ev N σ x= .iface t v) (hp:∀ σ',(∀ i∈N.F,σ' i=σ i)→Q (.panic [{v:= .iface t v,recovered:=false}]) σ' w):bL P N ops Q (⟨dst,.panic x,ty,pos,af,none⟩::rest) σ w:=by
 unfold bL wpList;rw [if_pos (fw _ rfl _)];refine .inl ?_;unfold gi;have hr:(execOp (ev N σ) ⟨dst,.panic x,ty,pos,af,none⟩).run P w= .halt (.panic<|.iface t v) w:=by
  simp [execOp,C,Instr.panic]
 rw [dk,hr];exact ⟨σ,J,hp⟩
theorem G9 {t:aq} {d:TypeDesc} {v:ag} (hu:P.underlying t=some d) (C:(match d with | .interface _=>false | _=>true)=true) (E:ev N σ x=v):(execOp (ev N σ) ⟨dst,.makeInterface t x,ty,pos,af,g⟩).run P w= .ok (.value<|.iface t v) w:=by
 cases d <;> first | (cases C; done) | simp [execOp,Instr.makeInterface,E,bp hu]
def jt (P:ar) (t:aq):Bool:=match P.underlying t with | some (.interface _)=>false | some _=>true | none=>false
theorem u6 {t:aq} {v:ag} (h:jt P t=true) (C:ev N σ x=v):(execOp (ev N σ) ⟨dst,.makeInterface t x,ty,pos,af,g⟩).run P w= .ok (.value<|.iface t v) w:=by
 unfold jt at h;cases hd:P.underlying t with
 | none=>rw [hd] at h; cases h
 | some d=>rw [hd] at h; exact G9 hd (by cases d <;> first | rfl | cases h) C
theorem BM {xt a:aq} {zv:ag} (hu:jt P a=true) (E:zeroV P a=some zv) (C:ev N σ x= .nilIface):(execOp (ev N σ) ⟨dst,.typeAssert x xt a true,ty,pos,af,g⟩).run P w= .ok (.value<|.tuple #[zv,.bool false]) w:=by
 unfold jt at hu;cases hd:P.underlying a with
 | none=>rw [hd] at hu; cases hu
 | some d=>rw [hd] at hu; cases d <;> first | (cases hu; done) | simp [execOp,CU,C,bp hd,Cg E]
theorem BL {xt a:aq} {v:ag} (hu:jt P a=true) (C:ev N σ x= .iface a v):(execOp (ev N σ) ⟨dst,.typeAssert x xt a true,ty,pos,af,g⟩).run P w= .ok (.value<|.tuple #[v,.bool true]) w:=by
 unfold jt at hu;cases hd:P.underlying a with
 | none=>rw [hd] at hu; cases hu
 | some d=>rw [hd] at hu; cases d <;> first | (cases hu; done) | simp [execOp,CU,C,bp hd]
variable {S:ah→Prop} {fuel:Nat} {listed:Array Bool}
theorem F4 {o:aC} {E:List PanicEntry→ah→Prop} (i:Nat) (hi:ops[i]? =some o) (hr:iu ops listed i=true) (hg:o.guard=none)
 (h:mD P N o σ w (fun σ w=>S w∧cj P N ops Q S fuel (listed.setIfInBounds i true) σ w) E) (hp:∀ c w',E c w'→∀ σ',(∀ i∈N.F,σ' i=σ i)→Q (.panic c) σ' w'):cj P N ops Q S (fuel+1) listed σ w:=by
 unfold cj at*;refine wpAnyH_all (rs:= [i]) (by simpa [iu] using hr) (by simp) ?_;intro k C;obtain rfl :k=i:=by simpa using C
 unfold wpOp;simp only [hi];rw [if_pos (fw _ hg _)];exact .inl<|wU h (fun σ w C=>C) hp
end
section
variable {P:ar} {N:Fm} {Q:bo→(Nat→ag)→ah→Prop} {σ:Nat→ag} {w:ah} {ops:Array aC} {S:ah→Prop} {fuel:Nat} {listed:Array Bool}
end
section
variable {P:ar} {N:Fm} {Q:bo→(Nat→ag)→ah→Prop} {σ:Nat→ag} {w:ah} {ops:Array aC} {S:ah→Prop} {fuel r:Nat} {listed:Array Bool}
theorem GG {o:aC} {E:List PanicEntry→ah→Prop} (i:Nat) (hi:ops[i]? =some o) (hr:iu ops listed i=true) (hg:o.guard=none)
 (h:mD P N o σ w (fun σ w=>S w∧cg P N ops Q S r fuel (listed.setIfInBounds i true) σ w) E) (hp:∀ c w',E c w'→∀ σ',(∀ i∈N.F,σ' i=σ i)→Q (.panic c) σ' w'):cg P N ops Q S r (fuel+1) listed σ w:=by
 unfold cg at*;have I:dG .any ops listed= [i]:=by simpa [iu] using hr
 refine ⟨fun h0=>absurd (I ▸ h0) (by simp),fun k C=> ?_⟩;rw [I] at C;obtain rfl :k=i:=by simpa using C
 unfold wpOp;simp only [hi];rw [if_pos (fw _ hg _)];exact .inl<|wU h (fun σ w C=>⟨fun _=>C.1,C.2⟩) hp
end
abbrev kB (P:ar) (fn:fN) (R:ag→ah→Prop):bo→Act→ah→Prop :=bodyPostD P fn (fun e w'=> ∃ v,e= .returned v∧R v w')
theorem Fo {P:ar} {f:dQ} {N:Nat} {fn:fN} {c:bF} {args:List ag} {w:ah} {R:ag→ah→Prop} (F:List Nat) (E:P.funcs[f]? =some fn) (hb:fn.body=some c)
 (C:fn.ntmps=N) (hn:ba args.length N=true) (h:gZ P ⟨N,[],F,none⟩ c (kB P fn R) (dh args) w):bc P f args.toArray w R:=by
 subst C;refine calls_of_wp_defers E hb ?_;rw [nX fn args F hn];exact wpIn_wide.1 h
section
variable {P:ar} {n:Nat} {D:List Deferred} {F:List Nat} {σ:Nat→ag} {w:ah} {fn:fN} {R:ag→ah→Prop} {B:bo→Act→ah→Prop}
theorem FB {v:ag} (hr:(results fn (act ⟨n,[],F,none⟩ σ).tmps).run P w= .ok v w) (C:R v w):qb ⟨n,[],F,none⟩ (kB P fn R) .ret σ w:=⟨v,hr,v,rfl,C⟩
theorem GJ:¬LetsOut (kB P fn R):=fun ⟨_,_,h⟩=>by obtain ⟨v,h,_⟩:=h; cases h
theorem jU {id d:Nat} {f:dQ} (V:¬LetsOut B) {cs:Array aY} {L O:aq} {p1 p2:String} {E I:Array cq} {y:bF} (C:Array ag) (ab:cs.toList.map (ev ⟨n,[],F,none⟩ σ)=C.toList) (ad:d < n)
 (h:gZ P ⟨n,[{target:= .fn (.func f) C,args:= #[]}],F,none⟩ y B (bd σ d<|.func (.func f) #[] C) w):
 gZ P ⟨n,[],F,none⟩ (.region id #[⟨some d,.makeFunc (.func f) #[] cs,L,p1,E,none⟩,⟨none,.defer ⟨.value (.tmp d),#[],#[]⟩,O,p2,I,none⟩] false) (Exit.then (y.wpIn (fe none) 0 P B) B) σ w:=by
 have ac:cs.map (ev ⟨n,[],F,none⟩ σ)=C:=p7.1<|by rw [iC]; exact ab
 refine wpIn_region ?_;have Z:¬LetsOut (Exit.then (y.wpIn (fe none) 0 P B) B):=fun ⟨a,w,h⟩=>V ⟨a,w,h⟩;refine uI (r:=none) Z J _ _ _ ?_;show wpOps P _ _ [0,1] _ _;simp only [wpOps,ku,hZ,hO];rw [if_pos (fw _ rfl _)];refine .inl ?_;unfold gi;have h1:(execOp (act ⟨n,[],F,none⟩ σ).eval ⟨some d,.makeFunc (.func f) #[] cs,L,p1,E,none⟩).run P w= .ok (.value<|.func (.func f) #[] C) w:=by
  rw [dk,mf,ac]; simp
 rw [h1];simp only [iE];rw [if_pos (fw _ rfl _),eu];refine .inl ?_;have U:(execOp (act ⟨n,[],F,none⟩<|dc σ (some d)<|.func (.func f) #[] C).eval ⟨none,.defer ⟨.value (.tmp d),#[],#[]⟩,O,p2,I,none⟩).run P w= .ok (.defer {target:= .fn (.func f) C,args:= #[]}) w:=by
  have ae:ev ⟨n,[],F,none⟩ (bd σ d<|.func (.func f) #[] C) (.tmp d)= .func (.func f) #[] C:=by
   show cond (aD d n) (bd σ d _ d) undef=_;rw [show aD d n=true from by simpa using ad];show bd σ d _ d=_;unfold bd; simp
  rw [dk];show (execOp (ev ⟨n,[],F,none⟩<|bd σ d<|.func (.func f) #[] C) _).run P w=_;simp [execOp,resolve,ae,lk]
 rw [U];exact h
end
theorem Hv {P:ar} {ops:Array aC} {Q:bo→Act→List Frame→ah→Prop} {cs:List Frame} (C:¬LetsOut fun e a w=>Q e a cs w):∀ (l:List Nat) (a:Act) (w:ah),wpOps P ops (fun e a w=>Q e a cs w) l a w→wpOpsS P ops Q l a cs w:=by
 intro l
 induction l with
 | nil=>exact fun _ _ h=>h
 | cons i l ih=>
   intro a w h;simp only [wpOps] at h;simp only [wpOpsS];cases ho:ops[i]? with
   | none=>simp only [ho] at h ⊢; exact ih a w h
   | some o=>
     simp only [ho] at h ⊢;by_cases hw:ji o (yielded ops a.tmps)=true
     · rw [if_pos hw] at h ⊢;rcases h with h | h
       · unfold gi at h;generalize (execOp a.eval o).run P w=x at h;cases x with
         | ok n w'=>
           cases n <;> simp only [iE] at h ⊢ <;>
            first
             | exact ih _ _ h
             | exact jG h fun e w'' he=>by cases e <;> first | exact ih _ _ he | exact he
             | exact sM h fun v w'' he=>ih _ _ he
         | halt x w'=>cases x <;> simp only [iE] at h ⊢ <;> exact h
       · exact absurd h.2 C
     · rw [if_neg hw] at h ⊢;exact ih _ _ h
theorem GN {P:ar} {ops:Array aC} {Q E:bo→Act→ah→Prop} (C:∀ e a w,Q e a w→E e a w) (I:¬LetsOut Q):∀ (l:List aC) (a:Act) (w:ah),wpList P ops Q l a w→wpList P ops E l a w:=by
 intro l
 induction l with
 | nil=>exact fun _ _ h=>C _ _ _ h
 | cons o l ih=>
   intro a w h;unfold wpList at h ⊢;split at h
   · rename_i hw;rw [if_pos hw];rcases h with h | h
     · left;unfold gi at h ⊢;generalize (execOp a.eval o).run P w=x at h;cases x with
       | ok n w'=>
         cases n <;> simp only [iE] at h ⊢ <;>
          first
           | exact ih _ _ h
           | exact jG h (fun e w'' he=>by
            cases e with
            | returned v=>exact ih _ _ he
            | panicked c=>exact C _ _ _ he
            | outgrown=>exact absurd he I)
           | exact sM h fun v w'' he=>ih _ _ he
       | halt x w'=>cases x <;> simp only [iE] at h ⊢ <;> exact C _ _ _ h
     · exact absurd h.2 I
   · rename_i hw;rw [if_neg hw]; exact ih _ _ h
theorem yj {P:ar} {f:dQ} {fn:fN} {id N d:Nat} {ty:aq} {pos :String} {af:Array cq} {rest:List aC} {y:bF} {args:List ag} {w:ah} {u J:FrameMode} {v:ag} {R:ah→Prop}
 (ak:P.funcs[f]? =some fn) (hb:fn.body=some (.seq (.region id (⟨some d,.call ⟨.builtin .recover,#[],#[]⟩,ty,pos,af,none⟩::rest).toArray false) y)) (ai:fn.ntmps=N) (hn:ba args.length N=true)
 (al:∀ (E:Frame) (cs:List Frame),E.mode=u→(recoverD (E::cs)=some (v,{E with mode:=J} ::cs))∨(recoverD (E::cs)=none∧v= .nilIface∧J=u))
 (h:bL P ⟨N,[],[],none⟩ (⟨some d,.call ⟨.builtin .recover,#[],#[]⟩,ty,pos,af,none⟩::rest).toArray (gA (fun σ w=>bA P ⟨N,[],[],none⟩ y (fin P fn ⟨N,[],[],none⟩ fun _ w=>R w) σ w)<|fin P fn ⟨N,[],[],none⟩ fun _ w=>R w) rest (bd (dh args) d v) w):
 CallsD P f args.toArray u w fun e L w'=> ∃ v,e= .returned v∧L=J∧R w':=by
 subst ai;refine callsD_of_wpS ak hb ?_;intro E cs hu;rw [nX fn args [] hn];refine wpS_seq<|wpS_region ?_;have am:lu (⟨some d,.call ⟨.builtin .recover,#[],#[]⟩,ty,pos,af,none⟩::rest).toArray.size=0::(List.range' 1 rest.length):=by
  rw [dY,dd,Dp,List.range'_succ]
 rw [am];simp only [wpOpsS,ku,hZ];rw [if_pos (fw _ rfl _)];have an:(execOp (act ⟨fn.ntmps,[],[],none⟩<|dh args).eval ⟨some d,.call ⟨.builtin .recover,#[],#[]⟩,ty,pos,af,none⟩).run P w= .ok .recover w:=by
  rw [dk];simp [execOp,resolve,invoke,builtin]
 rw [an];simp only;obtain ⟨O,U⟩:∃ O,O=({E with mode:=J} ::cs:List Frame):=⟨_,rfl⟩
 have aj:∀ X:Act→List Frame→Prop,X ((act ⟨fn.ntmps,[],[],none⟩<|dh args).put (some d) v) O→
  (match recoverD (E::cs) with
   | some (v,V)=>X ((act ⟨fn.ntmps,[],[],none⟩<|dh args).put (some d) v) V
   | none=>X ((act ⟨fn.ntmps,[],[],none⟩<|dh args).put (some d) .nilIface) (E::cs)):=by
  intro X ab;rcases al E cs hu with h1 | ⟨h1,ad,ae⟩;rw [h1]; subst U; exact ab;rw [h1]; subst ad ae;have :({E with mode:=J} :Frame)=E:=by subst hu; rfl
  rw [this] at U; subst U; exact ab
 refine aj (fun a V=>wpOpsS P _ _ _ a V w) ?_;rw [eu];refine Hv ?_ _ _ _ ?_;rintro ⟨a,w,h⟩;simp only [Exit.thenS,bodyPostS] at h;obtain ⟨_,_,h,_⟩:=h; cases h;have h1:=wpOps_eq_wpList (P:=P) (ops:=(⟨some d,.call ⟨.builtin .recover,#[],#[]⟩,ty,pos,af,none⟩::rest).toArray) (Q:=fun e a w'=>Exit.thenS (Code.wpS P y (bodyPostS P fn E cs fun e L w'=> ∃ v,e= .returned v∧L=J∧R w')) (bodyPostS P fn E cs fun e L w'=> ∃ v,e= .returned v∧L=J∧R w') e a O w') rest 1 fun j=>by simp [sZ]
 rw [h1];unfold bL at h;refine GN ?_ uS _ _ _ h;intro e a w' I;have ac:∀ (e:bo) (σ:Nat→ag) (w':ah),fin P fn ⟨fn.ntmps,[],[],none⟩ (fun _ w=>R w) e σ w'→bodyPostS P fn E cs (fun e L w'=> ∃ v,e= .returned v∧L=J∧R w') e (act ⟨fn.ntmps,[],[],none⟩ σ) O w':=by
  intro e σ w' C;cases e with
  | normal=>obtain ⟨v,hr,Z⟩:=C; exact ⟨rfl,J,U,v,hr,v,rfl,rfl,Z⟩
  | ret=>obtain ⟨v,hr,Z⟩:=C; exact ⟨rfl,J,U,v,hr,v,rfl,rfl,Z⟩
  | _=>exact C.elim
 cases e with
 | normal=>
   obtain ⟨σ,rfl,C⟩:=I;refine wpS_of_wp ?_;simp only [gA] at C;unfold bA at C;refine xi ?_<|wpIn_wide.1 C;intro e a w' I;cases e with
   | panic c=>obtain ⟨σ,rfl,C⟩:=I; exact (C σ fun _ _=>rfl).elim
   | outgrown=>exact I.elim
   | _=>obtain ⟨σ,rfl,C⟩:=I; exact ac _ σ w' C
 | panic c=>obtain ⟨σ,rfl,C⟩:=I; exact (C σ fun _ _=>rfl).elim
 | outgrown=>exact I.elim
 | ret=>obtain ⟨σ,rfl,C⟩:=I; exact ac .ret σ w' C
 | exit i=>obtain ⟨σ,rfl,C⟩:=I; exact C.elim
 | goto i=>obtain ⟨σ,rfl,C⟩:=I; exact C.elim
section
variable {P:ar} {n:Nat} {F:List Nat} {σ:Nat→ag} {w:ah} {fn:fN} {R:ag→ah→Prop}
theorem FD {g:dQ} {C:Array ag} {M:ah→Prop} (hu:(invoke (.fn (.func g) C) #[]).run P w= .ok (.enter g C) w)
 (L:CallsD P g C .returning w fun e O w'=> ∃ v,e= .returned v∧O= .returning∧M w') (I:∀ w',M w'→∃ v,(results fn (act ⟨n,[{target:= .fn (.func g) C,args:= #[]}],F,none⟩ σ).tmps).run P w'= .ok v w'∧R v w'):
 qb ⟨n,[{target:= .fn (.func g) C,args:= #[]}],F,none⟩ (kB P fn R) .ret σ w:=by
 refine leaves_cons (by simp) hu ?_;refine CF L ?_;rintro e U w' ⟨v,rfl,rfl,hm⟩;obtain ⟨v2,h1,E⟩:=I w' hm;exact ⟨v2,h1,v2,J,E⟩
theorem FE {g:dQ} {C:Array ag} {M:ah→Prop} {v:ag} (hu:(invoke (.fn (.func g) C) #[]).run P w= .ok (.enter g C) w)
 (L:CallsD P g C (.panicking [{v:=v,recovered:=false}]) w fun e O w'=> ∃ x,e= .returned x∧O= .panicking [{v:=v,recovered:=true}]∧M w') (I:∀ w',M w'→∃ v,(results fn (act ⟨n,[{target:= .fn (.func g) C,args:= #[]}],F,none⟩ σ).tmps).run P w'= .ok v w'∧R v w'):
 qb ⟨n,[{target:= .fn (.func g) C,args:= #[]}],F,none⟩ (kB P fn R) (.panic [{v:=v,recovered:=false}]) σ w:=by
 refine leaves_cons (by simp) hu ?_;refine CF L ?_;rintro e U w' ⟨x,rfl,rfl,hm⟩;obtain ⟨v2,h1,E⟩:=I w' hm;exact ⟨v2,h1,v2,J,E⟩
end
end Go.Hb
end
section
namespace Go.Hb
abbrev Tl:=List<|List UInt8
def uE:Tl→List (UInt8×Tl)
 | []=> []
 | []::ts=>uE ts
 | (c::t)::ts=>match uE ts with
   | []=> [(c,[t])]
   | (c',g)::r=>if c=c' then (c,t::g)::r else (c,[t])::(c',g)::r
def Gg (C:Tl):Bool:=match C with | []::_=>true | _=>false
def Fe (C:Tl):Tl:=match C with | []::r=>r | r=>r
structure VS where
 known:List Tl
 db:List (Bool×List (UInt8×Nat))
def VS.add (s:VS) (C:Tl):VS:=⟨s.known++ [C],s.db++ [(false,[])]⟩
end Go.Hb
namespace Go.Hb
end Go.Hb
namespace Go.Hb
abbrev DE:=Bool×List (UInt8×Nat)
end Go.Hb
namespace Go.Hb
def vz (l:List (UInt8×Nat)):Prop :=l.Pairwise fun a b=>a.1.toNat < b.1.toNat
end Go.Hb
namespace Go.Hb
def Fl (C:List Tl) (p:UInt8×Tl):UInt8×Nat:=(p.1,C.idxOf p.2+1)
def enc (C:List Tl) (L:Tl):DE:=(Gg L,(uE<|Fe L).map (Fl C))
end Go.Hb
namespace Go.Hb
def nm (C:List Tl) (i:Nat):Tl:=C.getD (i - 1) []
end Go.Hb
namespace Go.Hb
end Go.Hb
namespace Go.Hb
end Go.Hb
end
