/-
  Walks and plain laws that the law rests on, laid together. No conditions but those that each theorem names.
-/
import Derived.WalkKit
import Derived.OrdersHeld
import Derived.TacticsIn
import Derived.Lib.Strings
import Derived.Lib.UnsafeStr
import Derived.Laws.MakeOwn
import Derived.Laws.StructEq
import Derived.SliceStrings
import Derived.Carry
import Derived.JoinedCond
import Derived.ProofKit
import Derived.OpenShut
import Derived.Test.YtjaoldaegkmkjaaGreatDoorRows
import Derived.Test.YtjaoldaegkmkjaaGreatDoorChecked
import Derived.RangeFuncFrom
import Derived.RangeFuncLeaves
import Derived.Recover
import Derived.Laws.OwnMore
import Derived.Lib.Bytealg
import Derived.OrdersIn
import Derived.Lib.SliceRun
import Derived.Lib.FrozenHead
import Derived.Deep.AppendSrc
import Derived.RangeFuncNested
import Derived.Laws.CopyRow
import Derived.Laws.IdiomCopy
import Derived.Stop.LaidErr
set_option linter.unusedVariables false
set_option maxRecDepth 20000
set_option maxHeartbeats 1000000
open Array renaming ext_getElem?→CW,getD_eq_getD_getElem?→ij,getElem?_append_left→CY,getElem?_append_right→CZ,getElem?_eq_getElem→mU,getElem?_eq_none→ta,getElem?_eq_some_iff→eM,getElem?_replicate→C1,getElem?_setIfInBounds→qD,length_toList→kC,mem_toList_iff→td,range→oN,replicate→oO,setIfInBounds_comm→xM,toArray_toList→C2,toList_append→C3,toList_inj→qE,toList_map→iO
open BitVec renaming ofInt→gH
open Bool renaming and_eq_true→bg,and_eq_true_iff→oP,eq_iff_iff→oQ,false_eq_true→qF,noConfusion→cQ,not_eq_true'→jU,or_eq_true→mV
open Go renaming Addr→aZ,Code→bJ,Edge→cH,Exit→bt,Func→fP,FuncId→dW,IntKind→bC,Oper→aE,Operand→aY,Program→av,TypeId→au,Value→ag,World→ai
open Go.Addr renaming add→tf
open Go.Builtin renaming append_→jv,firstCells→tj,lenOf→Da,len_→xO
open Go.ByteArray renaming toList_eq→Dc
open Go.Calls renaming mono→jV
open Go.CallsD renaming mono→Dd
open Go.Code renaming wp_mono→xP
open Go.Conv renaming bytesToString→Df,seenAt→Dg,unsafePointer→Dh
open Go.DataW renaming TrodAll→Di,trod→mW
open Go.Deferred renaming ofValue→lL
open Go.Fence renaming wide→iP
open Go.Instr renaming alloc→tk,box→xQ,buildSlice→tl,checkKey→jW,fill→jX,findAsking→mX,findKey→mY,findNow→mZ,indexAt→Dn,loadAt→Dp,lookup→Dq,slice→qI,sliceAt→m3,sliceBound→m4,sliceBounds→jY,storeAt→xT,sureAddr→m5,typeAssert→Ds
open Go.IntKind renaming i64→tq
open Go.Next renaming value→qJ
open Go.Obj.cells renaming injEq→Dv
open Go.Op renaming bytesLess→xU,equal→lM,equalIn→gI,intArith→qK,intCmp→oS,intDiv→xV,stringOp→m7
open Go.Oper renaming upon→iQ,uponIn→tt,wp→gj
open Go.Program renaming built→Dw,underlying→Dx
open Go.Proofs.Tryz renaming prog→ar
open Go.Region renaming Mode→m8,binds→dw,free_spec→xX,noSelect_spec→xY,ready→dM,wanted→jw
open Go.Result renaming andThen_ok→gJ,ok→qL
open Go.Rows renaming mono→tu
open Go.Sem renaming run→kD,run_bind→ik,run_ite→tv,run_pure→kE
open Go.Value renaming bool→bG,cells→oT,int→aT,oneCell'→jx,ownBlock→eU,pointer→tw,slice→bZ
open Go.Value.slice renaming injEq→m9
open Go.Value.string renaming inj→Dz
open Go.World renaming cell?→DA,cells?_some→DB,freeze→kF,ownsRow_nil→fF,setCell→DF,shape?→xZ
open Int renaming tdiv_eq_ediv_of_nonneg→DH
open List renaming all_eq_true→x7,any_eq_true→DL,eq_nil_of_length_eq_zero→kH,ext_getElem?→tz,flatMap_cons→oU,flatten_cons→oV,foldl_cons→kI,getD_eq_getElem?_getD→b9,getElem?_append_left→ey,getElem?_append_right→ez,getElem?_cons_succ→gK,getElem?_cons_zero→gL,getElem?_eq_getElem→bK,getElem?_eq_none→iT,getElem?_eq_some_iff→cI,getElem?_map→fG,getElem?_range→tC,getElem?_take→il,getElem?_toArray→kJ,length_append→bL,length_cons→dx,length_range→DS,mapM_toArray→yb,map_cons→eA,mem_append_left→o6,mem_cons→fQ,mem_map→o7,mem_map_of_mem→qN,mem_of_getElem?→gn,range→ir,range_eq_range'→DZ,replicate→cJ,size_toArray→eh
open List.cons renaming inj→DM
open Nat renaming add_assoc→iu,add_comm→tK,beq→aM,ble→bj,blt→aF,div_add_mod→D7,eq_of_beq_eq_true→bO,le_of_ble_eq_true→bQ,le_refl→aV,le_trans→cX,lt_of_le_of_lt→Ea,lt_of_lt_of_le→lQ,lt_or_ge→dk,lt_succ_self→lR,mul_comm→qS,mul_le_mul_right→kN,succ_mul→o9,zero_add→cK,zero_mul→pb
open Option renaming bind_eq_some_iff→lS,bind_some→Eg,isSome_iff_exists→lT,map_eq_some_iff→fg,map_some→eV
open Option.some renaming injEq→bH
open Prod renaming fst→gp
open Prod.mk renaming injEq→gq
open UInt8 renaming ofNat→eB,toNat_lt→lU
open Go.Proofs.Tryz
open Go.RowKit

namespace Go.Hb
theorem U {p:Prop} (h:p:=by omega):p:=h
theorem aq {p:Prop} (h:p:=by kernel_rfl):p:=h
theorem aX {p:Prop} (h:p:=by decide):p:=h
theorem J {α:Sort _} {a:α} :a=a:=rfl
end Go.Hb
section
namespace Go.Hb
structure Fm where
 n:Nat
 D:List Deferred
 F:List Nat
 r:Option Nat
def bo (σ:Nat→ag) (d:Nat) (v:ag):Nat→ag:=fun i=>cond (aM i d) v<|σ i
def dd (σ:Nat→ag):Option Nat→ag→Nat→ag
 | some d,v=>bo σ d v
 | none,_=>σ
def act (N:Fm) (σ:Nat→ag):Act:=⟨((ir N.n).map σ).toArray,N.D⟩
def ev (N:Fm) (σ:Nat→ag):aY→ag
 | .tmp t=>cond (aF t N.n) (σ t) undef
 | .const v=>v
 | .global g=> .pointer<|some ⟨g,0,none⟩
 | .func f=> .func (.func f) #[] #[]
theorem iy (N:Fm) (σ:Nat→ag) (t:Nat):(act N σ).tmps[t]? =if t < N.n then some (σ t) else none:=by grind [act]
theorem dq (N:Fm) (σ:Nat→ag):(act N σ).eval=ev N σ:=by
 funext x;cases x with
 | tmp t=>
   simp only [Act.eval,ev,ij,iy];by_cases h:t < N.n
   · rw [if_pos h,show aF t N.n=true from by simpa using h]; rfl
   · rw [if_neg h,show aF t N.n=false from by cases hx:aF t N.n <;> simp_all [aF,Nat.ble_eq] <;> omega]; rfl
 | _=>rfl
theorem qY {a b:Act} (A:a.defers=b.defers) (C:∀ i:Nat,a.tmps[i]? =b.tmps[i]?):a=b:=by
 cases a; cases b;simp only at A C;subst A;congr 1;exact CW C
theorem eD (N:Fm) (σ:Nat→ag) (dst:Option Nat) (v:ag):(act N σ).put dst v=act N (dd σ dst v):=by
 cases dst with
 | none=>rfl
 | some d=>
   refine qY J fun i=> ?_;have h0:((act N σ).put (some d) v).tmps=(act N σ).tmps.setIfInBounds d v:=rfl;rw [h0,qD,iy,iy];have C:(act N σ).tmps.size=N.n:=by simp [act]
   simp only [dd,bo];by_cases A:i=d
   · subst A;rw [C];have hb:aM i i=true :=by simp
     by_cases h:i < N.n
     · rw [if_pos rfl,if_pos h,if_pos h,hb]; rfl
     · rw [if_pos rfl,if_neg h,if_neg h]
   · rw [if_neg (fun e=>A e.symm)];have hb:aM i d=false :=by
      cases hx:aM i d
      · rfl
      · exact absurd (bO hx) A
     rw [hb]; rfl
theorem lG {σ:Nat→ag} {i:Nat} {v:ag} (h:σ i=v):bo σ i v=σ:=by grind [bo,aM,bO]
def lift (N:Fm) (Q:bt→(Nat→ag)→ai→Prop):bt→Act→ai→Prop
 | .panic c,a,w=> ∃ σ,a=act N σ∧∀ σ',(∀ i∈N.F,σ' i=σ i)→Q (.panic c) σ' w
 | .outgrown,_,_=>False
 | e,a,w=> ∃ σ,a=act N σ∧Q e σ w
def fe:Option Nat→Fence
 | none=>iP
 | some l=>iP.inRound l
theorem pJ (r:Option Nat):(fe r).round=r:=by cases r <;> rfl
theorem kX (r:Option Nat) (f:dW):(fe r).fn f:=by cases r <;> trivial
theorem rH (r:Option Nat):(fe r).depth=none:=by cases r <;> rfl
theorem uI {r:Option Nat} {n:Nat} {P:av} {f:dW} {args:Array ag} {w:ai} {R:Ending→ai→Prop} (h:Calls P f args w R):CallsIn (fe r) n P f args w R:=by
 cases r
 · exact callsIn_wide.2 h
 · exact (callsIn_wide (n:=n)).2 h
theorem GA {r:Option Nat} {n:Nat} {P:av} {row:String} {args:Array ag} {w:ai} {R:ag→ai→Prop} (h:Rows P row args w R):RowsIn (fe r) n P row args w R:=fun c cs _=>by
 obtain ⟨v,w',C,A⟩:=h c cs;refine ⟨v,w',C,?_⟩;cases r
 · exact stepsIn_wide.2 A
 · exact stepsIn_wide.2 A
def vK (ops:List aE):Bool:=ops.all fun o=>match o.op with | .defer _=>false | _=>true
def kq (r:Option Nat) (ops:List aE):Bool:=match r with | none=>true | some _=>vK ops
theorem Im {l:List aE} (h:vK l=true):∀ o∈l,∀ c,o.op≠.defer c:=by grind [vK]
theorem vf {r:Option Nat} {P:av} {ops:Array aE} {Q:bt→Act→ai→Prop} (A:¬LetsOut Q) (hr:kq r ops.toList=true):∀ (l:List Nat) (a:Act) (w:ai),wpOps P ops Q l a w→wpOpsIn (fe r) 0 P ops Q l a w:=by
 intro l
 induction l with
 | nil=>exact fun _ _ h=>h
 | cons i l ih=>
   intro a w h;simp only [wpOps] at h;simp only [wpOpsIn];cases ho:ops[i]? with
   | none=>simp only [ho] at h ⊢; exact ih a w h
   | some o=>
     simp only [ho] at h ⊢;by_cases hw:jw o (yielded ops a.tmps)=true
     · rw [if_pos hw] at h ⊢;rcases h with h | h
       · refine ⟨fun f _=>kX r f,?_⟩;rw [pJ];have C:o.semAt r a.eval=execOp a.eval o:=by
          cases r with
          | none=>rfl
          | some k=>exact Oper.semAt_eq _ _ _<|Im hr o<|td.2<|Array.mem_of_getElem? ho
         rw [C];unfold gj at h;generalize (execOp a.eval o).run P w=x at h;cases x with
         | ok n w'=>
           cases n <;> simp only [iQ,tt] at h ⊢ <;>
            first
             | exact ih _ _ h
             | (refine ⟨fun h0=>(by rw [rH] at h0; cases h0),CallsIn.mono (uI h) fun e w'' he=> ?_⟩
                cases e <;> first | exact ih _ _ he | exact he)
             | exact ⟨fun h0=>(by rw [rH] at h0; cases h0),RowsIn.mono (GA h) fun v w'' he=>ih _ _ he⟩
         | halt x w'=>cases x <;> simp only [iQ,tt] at h ⊢ <;> exact h
       · exact absurd h.2 A
     · rw [if_neg hw] at h ⊢;exact ⟨fun f _=>kX r f,ih _ _ h⟩
def bE (P:av) (N:Fm) (c:bJ) (Q:bt→(Nat→ag)→ai→Prop) (σ:Nat→ag) (w:ai):Prop :=
 c.wpIn (fe N.r) 0 P (lift N Q) (act N σ) w
def bR (P:av) (N:Fm) (ops:Array aE) (Q:bt→(Nat→ag)→ai→Prop) (l:List aE) (σ:Nat→ag) (w:ai):Prop :=
 wpList P ops (lift N Q) l (act N σ) w
def gG (K:(Nat→ag)→ai→Prop) (Q:bt→(Nat→ag)→ai→Prop):bt→(Nat→ag)→ai→Prop
 | .normal,σ,w=>K σ w
 | e,σ,w=>Q e σ w
def kh (id:Nat) (Q:bt→(Nat→ag)→ai→Prop):bt→(Nat→ag)→ai→Prop
 | .exit A,σ,w=>if A=id then Q .normal σ w else Q (.exit A) σ w
 | e,σ,w=>Q e σ w
section
variable {P:av} {N:Fm} {Q:bt→(Nat→ag)→ai→Prop} {σ:Nat→ag} {w:ai} {K:(Nat→ag)→ai→Prop}
theorem HO {Q C:bt→(Nat→ag)→ai→Prop} (h:∀ e σ w,Q e σ w→C e σ w) (e:bt) (a:Act) (w:ai):lift N Q e a w→lift N C e a w:=by
 cases e <;> first | exact fun h=>h.elim | exact fun ⟨σ,ha,A⟩=>⟨σ,ha,h _ _ _ A⟩ | exact fun ⟨σ,ha,A⟩=>⟨σ,ha,fun σ' E=>h _ _ _<|A σ' E⟩
theorem CJ {A:bt→(Nat→ag)→ai→Prop} {c:bJ} (h:∀ e σ w,Q e σ w→A e σ w) (C:bE P N c Q σ w):bE P N c A σ w:=
 wpIn_mono C (HO h)
theorem tn (h:K σ w):gG K Q .normal σ w:=h
theorem te (id:Nat) (h:Q (.exit id) σ w):gG K Q (.exit id) σ w:=h
theorem tr (h:Q .ret σ w):gG K Q .ret σ w:=h
theorem bn {id:Nat} (h:Q .normal σ w):kh id Q .normal σ w:=h
theorem be {id:Nat} (h:Q .normal σ w):kh id Q (.exit id) σ w:=by simpa only [kh,if_true] using h
theorem EU {id A:Nat} (C:A≠id) (h:Q (.exit A) σ w):kh id Q (.exit A) σ w:=by simpa only [kh,if_neg C] using h
theorem br {id:Nat} (h:Q .ret σ w):kh id Q .ret σ w:=h
theorem sq {x y:bJ} (h:∀ K:(Nat→ag)→ai→Prop,(∀ σ w,bE P N y Q σ w→K σ w)→bE P N x (gG K Q) σ w):bE P N (.seq x y) Q σ w:=by
 refine wpIn_seq<|wpIn_mono (h (fun σ w=>bE P N y Q σ w) fun _ _ h=>h) ?_;intro e a w A;cases e with
 | normal=>obtain ⟨σ,rfl,C⟩:=A; exact C
 | panic c=>exact A
 | outgrown=>exact A
 | _=>obtain ⟨σ,rfl,C⟩:=A; exact ⟨σ,rfl,C⟩
theorem dv {x y:bJ} (A:(Nat→ag)→ai→Prop) (h:bE P N x (gG A Q) σ w) (I:∀ σ w,A σ w→bE P N y Q σ w):bE P N (.seq x y) Q σ w:=
 sq fun _ E=>CJ (fun e _ _ C=>by cases e <;> first | exact E _ _ (I _ _ C) | exact C) h
theorem ct {c:aY} {x y:bJ} (A:ev N σ c= .bool true) (h:bE P N x Q σ w):bE P N (.cond c x y) Q σ w:=
 wpIn_cond_true (by rw [dq]; exact A) h
theorem cf {c:aY} {x y:bJ} (A:ev N σ c= .bool false) (h:bE P N y Q σ w):bE P N (.cond c x y) Q σ w:=
 wpIn_cond_false (by rw [dq]; exact A) h
theorem cb {c:aY} {x y:bJ} {b:Bool} (A:ev N σ c= .bool b) (E:b=true→bE P N x Q σ w) (C:b=false→bE P N y Q σ w):bE P N (.cond c x y) Q σ w:=by
 cases b
 · exact cf A<|C J
 · exact ct A<|E J
theorem cd {c:aY} {x y:bJ} {p:Prop} [Decidable p] (A:ev N σ c= .bool (decide p)) (E:p→bE P N x Q σ w) (C:¬p→bE P N y Q σ w):bE P N (.cond c x y) Q σ w:=by grind [cb]
theorem ax {id:Nat} {c:bJ} (h:bE P N c (kh id Q) σ w):bE P N (.block id c) Q σ w:=by
 refine wpIn_block<|wpIn_mono h ?_;intro e a w C;cases e with
 | panic c=>exact C
 | outgrown=>exact C
 | exit E=>
   obtain ⟨σ,rfl,A⟩:=C;simp only [kh,Exit.inBlock] at A ⊢;split
   · rename_i e; rw [if_pos e] at A; exact ⟨σ,rfl,A⟩
   · rename_i e; rw [if_neg e] at A; exact ⟨σ,rfl,A⟩
 | _=>obtain ⟨σ,rfl,A⟩:=C; exact ⟨σ,rfl,A⟩
theorem ext {id:Nat} (h:Q (.exit id) σ w):bE P N (.exit id) Q σ w:=wpIn_exit ⟨σ,rfl,h⟩
theorem BK (h:Q .normal σ w):bE P N .skip Q σ w:=wpIn_skip ⟨σ,rfl,h⟩
theorem rt (h:Q .ret σ w):bE P N .ret Q σ w:=wpIn_ret ⟨σ,rfl,h⟩
theorem fx {c:bJ} {v:ag} (i:Nat) (h:σ i=v) (A:bE P N c Q (bo σ i v) w):bE P N c Q σ w:=by rw [lG h] at A; exact A
def Sl (σ:Nat→ag) (L:List (Nat×ag)):Prop :=L.map (fun p=>σ p.1)=L.map (fun p=>p.2)
def qy (σ:Nat→ag):List (Nat×ag)→Nat→ag
 | []=>σ
 | p::L=>bo (qy σ L) p.1 p.2
theorem xo {σ:Nat→ag} :∀ {L:List (Nat×ag)},Sl σ L→qy σ L=σ
 | [],_=>rfl
 | p::L,h=>by
   have h1:σ p.1=p.2:=(DM h).1;have A:Sl σ L:=(DM h).2;rw [qy,xo A,lG h1]
theorem bw {c:bJ} {L:List (Nat×ag)} (h:Sl σ L) (A:bE P N c Q (qy σ L) w):bE P N c Q σ w:=by rw [xo h] at A; exact A
theorem lp {c:bJ} (M:Nat→(Nat→ag)→ai→Prop) (n:Nat) (h0:M n σ w)
 (h:∀ n σ w,M n σ w→bE P N c (gG (fun σ' w'=> ∃ m,m < n∧M m σ' w') Q) σ w):bE P N (.loop c) Q σ w:=by
 intro b k cs aj hb hr;have key:∀ n σ w,M n σ w→
  ∃ e O w',lift N Q e O w'∧ArrivesIn (Machine.fenced P<|fe N.r) P (lone (b.atR (act N σ) (.code c:: .inLoop c::k)) cs w) b k cs e O w':=by
  intro n
  induction n using Nat.strongRecOn with
  | _ n ih=>
    intro σ w ac;obtain ⟨e,U,L,I,C⟩:=h n σ w ac b (.inLoop c::k) cs aj hb hr;cases e with
    | normal=>
      obtain ⟨A,rfl,m,hm,ad⟩:=I;obtain ⟨ab,V,ak,ah,ae⟩:=ih m hm A L ad;exact ⟨ab,V,ak,ah,.of_steps (StepsIn.trans C<|.one (fenced_calm hb hr J) stepR_inLoop) ae⟩
    | exit id=>obtain ⟨A,rfl,E⟩:=I; exact ⟨.exit id,act N A,L,⟨A,rfl,E⟩,.pass (x:= .inLoop c) rfl (fun _ _=> .inl<|by simp) C⟩
    | goto l=>obtain ⟨A,rfl,E⟩:=I; exact ⟨.goto l,act N A,L,⟨A,rfl,E⟩,.pass (x:= .inLoop c) rfl (fun _ _=> .inl<|by simp) C⟩
    | ret=>obtain ⟨A,rfl,E⟩:=I; exact ⟨.ret,act N A,L,⟨A,rfl,E⟩,.pass (x:= .inLoop c) rfl (fun _ _=> .inl<|by simp) C⟩
    | panic Z=>exact ⟨.panic Z,U,L,I,.pass (x:= .inLoop c) rfl (fun _ _=> .inl<|by simp) C⟩
    | outgrown=>exact I.elim
 obtain ⟨e,O,w',E,C⟩:=key _ σ w h0;exact ⟨e,O,w',E,.of_steps (.one (fenced_calm hb hr J) stepR_loop) C⟩
def bW (P:av) (N:Fm) (o:aE) (σ:Nat→ag) (w:ai) (K:(Nat→ag)→ai→Prop):Prop :=
 gj P o (act N σ) w (fun a w=> ∃ σ,a=act N σ∧K σ w) (fun _ _ _=>False)
theorem Kk {o:aE} {a:Act} {K C:Act→ai→Prop} {Q:bt→Act→ai→Prop} (h:∀ a w,K a w→C a w)
 (r:Result Next) (A:o.upon P a K (fun _ _ _=>False) r):o.upon P a C Q r:=by
 cases r with
 | ok n w'=>
   cases n <;> simp only [iQ] at A ⊢ <;>
    first
     | exact h _ _ A
     | exact jV A (fun e w'' he=>by
      cases e with
      | returned v=>exact h _ _ he
      | panicked c=>exact he.elim
      | outgrown=>obtain ⟨_,_,E⟩:=he; exact E.elim)
     | exact tu A fun _ _ he=>h _ _ he
 | halt x w'=>cases x <;> simp only [iQ] at A ⊢
theorem qA {K:(Nat→ag)→ai→Prop} {A:Act→ai→Prop} {Q:bt→Act→ai→Prop} {o:aE} (h:bW P N o σ w K) (E:∀ σ w,K σ w→A (act N σ) w):o.wp P (act N σ) w A Q:=by
 unfold bW at h;unfold gj at*;exact Kk (fun a w ⟨σ,ha,C⟩=>by subst ha; exact E _ _ C) _ h
theorem CM {K A:(Nat→ag)→ai→Prop} {o:aE} (h:bW P N o σ w K) (E:∀ σ w,K σ w→A σ w):bW P N o σ w A:=
 qA h (fun σ w C=>⟨σ,rfl,E σ w C⟩)
variable {ops:Array aE} {rest:List aE} {d:Nat} {op:Op} {ty:au} {pos :String} {af:Array cH} {d':Option Nat} {v:ag} {o:aE}
theorem sY (hg:jw o (yielded ops (act N σ).tmps)=true) (h:bW P N o σ w (fun σ w=>bR P N ops Q rest σ w)):bR P N ops Q (o::rest) σ w:=by
 unfold bR wpList;rw [if_pos hg];exact .inl<|qA h fun _ _ A=>A
theorem ig {K:(Nat→ag)→ai→Prop} {w':ai} (hr:(execOp (ev N σ) o).run P w= .ok (.value v) w') (A:K (dd σ o.dst v) w'):bW P N o σ w K:=by
 unfold bW gj;rw [dq,hr];exact ⟨_,eD ..,A⟩
theorem fE (o:aE) (hg:o.guard=none) (y:Nat→Option Bool):jw o y=true :=by simp [jw,hg]
def dC (ops:Array aE) (j:Nat):Option Nat:=(ops[j]?).bind (·.dst)
theorem lJ {j t:Nat} {want b:Bool} (hg:o.guard=some (j,want)) (A:dC ops j=some t) (C:aF t N.n=true) (E:σ t= .bool b):
 jw o (yielded ops (act N σ).tmps)=(b==want):=by
 have h1:yielded ops (act N σ).tmps j=some b:=by
  unfold yielded;unfold dC at A;rw [A];simp only [Eg,iy];rw [if_pos (lQ (lR t)<|bQ C),E]
 simp only [jw,hg,h1];cases b <;> cases want <;> rfl
theorem xB {j t:Nat} {want:Bool} (hg:o.guard=some (j,want)) (A:dC ops j=some t) (C:aF t N.n=true) (E:σ t=undef):
 jw o (yielded ops (act N σ).tmps)=false :=by
 have h1:yielded ops (act N σ).tmps j=none:=by
  unfold yielded;unfold dC at A;rw [A];simp only [Eg,iy];rw [if_pos (lQ (lR t)<|bQ C),E]; rfl
 simp only [jw,hg,h1];rfl
theorem p (h:(execOp (ev N σ) ⟨some d,op,ty,pos,af,none⟩).run P w= .ok (.value v) w) (k:bR P N ops Q rest (bo σ d v) w):
 bR P N ops Q (⟨some d,op,ty,pos,af,none⟩::rest) σ w:=
 sY (fE _ rfl _) (ig h k)
theorem pg {j t:Nat} {want:Bool} (A:dC ops j=some t) (C:aF t N.n=true) (E:σ t= .bool want)
 (h:(execOp (ev N σ) ⟨some d,op,ty,pos,af,some (j,want)⟩).run P w= .ok (.value v) w) (k:bR P N ops Q rest (bo σ d v) w):
 bR P N ops Q (⟨some d,op,ty,pos,af,some (j,want)⟩::rest) σ w:=
 sY (by rw [lJ rfl A C E]; cases want <;> rfl) (ig h k)
theorem sk {j t:Nat} {want b:Bool} (A:dC ops j=some t) (C:aF t N.n=true) (E:σ t= .bool b) (hb:(b==want)=false)
 (k:bR P N ops Q rest (bo σ d undef) w):bR P N ops Q (⟨some d,op,ty,pos,af,some (j,want)⟩::rest) σ w:=by
 unfold bR wpList;rw [if_neg (by rw [lJ rfl A C E,hb]; simp),eD];exact k
theorem BL {j t:Nat} {want:Bool} (A:dC ops j=some t) (C:aF t N.n=true) (E:σ t=undef)
 (k:bR P N ops Q rest (bo σ d undef) w):bR P N ops Q (⟨some d,op,ty,pos,af,some (j,want)⟩::rest) σ w:=by
 unfold bR wpList;rw [if_neg (by rw [xB rfl A C E]; simp),eD];exact k
theorem e (h:bW P N ⟨d',op,ty,pos,af,none⟩ σ w (fun σ w=>bR P N ops Q rest σ w)):bR P N ops Q (⟨d',op,ty,pos,af,none⟩::rest) σ w:=
 sY (fE _ rfl _) h
theorem eg {j t:Nat} {want:Bool} (A:dC ops j=some t) (C:aF t N.n=true) (E:σ t= .bool want)
 (h:bW P N ⟨d',op,ty,pos,af,some (j,want)⟩ σ w (fun σ w=>bR P N ops Q rest σ w)):bR P N ops Q (⟨d',op,ty,pos,af,some (j,want)⟩::rest) σ w:=by grind [sY,lJ]
theorem nl (h:Q .normal σ w):bR P N ops Q [] σ w:=⟨σ,rfl,h⟩
theorem vu:¬LetsOut (lift N Q):=fun ⟨_,_,h⟩=>h
theorem rg {id:Nat} {l:List aE} (hr:kq N.r l=true) (h:bR P N l.toArray Q l σ w):bE P N (.region id l.toArray false) Q σ w:=by
 refine wpIn_region<|vf vu hr _ _ _ ?_;have h1:=wpOps_eq_wpList (P:=P) (ops:=l.toArray) (Q:=lift N Q) l 0 fun j=>by simp
 rw [DZ,eh,h1];exact h
theorem gs {l:List aE} {t:Nat} {q:Prop} [Decidable q] (h:σ t= .bool (decide q)) (E:q→bR P N ops Q l (bo σ t<|.bool true) w) (C:¬q→bR P N ops Q l (bo σ t<|.bool false) w):bR P N ops Q l σ w:=by
 by_cases A:q
 · have :=E A; rwa [lG (by rw [h,decide_eq_true A])] at this
 · have :=C A; rwa [lG (by rw [h,decide_eq_false A])] at this
theorem gb {l:List aE} {t:Nat} {b:Bool} (h:σ t= .bool b) (C:b=true→bR P N ops Q l (bo σ t<|.bool true) w) (A:b=false→bR P N ops Q l (bo σ t<|.bool false) w):bR P N ops Q l σ w:=by
 cases b
 · have :=A rfl; rwa [lG h] at this
 · have :=C rfl; rwa [lG h] at this
def cE (P:av) (N:Fm) (ops:Array aE) (Q:bt→(Nat→ag)→ai→Prop) (S:ai→Prop) (fuel:Nat) (listed:Array Bool) (σ:Nat→ag) (w:ai):Prop :=
 wpAnyH P .any ops (lift N Q) S fuel listed (act N σ) w
variable {S:ai→Prop} {fuel:Nat} {listed:Array Bool}
theorem yx {id:Nat} {l:List aE} (hr:kq N.r l=true) (hm:P.follows .mixedOrders=true) (h:wpAny P .any l.toArray (lift N Q) l.toArray.size (oO l.toArray.size false) (act N σ) w.drew):bE P N (.region id l.toArray true) Q σ w:=by
 refine wpIn_region_draw fun t=>vf vu hr _ _ _ ?_;simp only [Region.schedule,hm,Bool.true_or,if_true];exact wpAny_sound _ t _ _ _ h
theorem bh {id:Nat} {l:List aE} (S:ai→Prop) (hr:kq N.r l=true) (hm:P.follows .mixedOrders=true) (A:S w.drew) (h:cE P N l.toArray Q S l.length (oO l.length false) σ w.drew):bE P N (.region id l.toArray true) Q σ w:=
 yx hr hm (wpAny_of_held _ _ _ _<|by rw [eh]; exact h)
def vN (F:List Nat) (d:Option Nat):Bool:=match d with | some d=> !(F.contains d) | none=>true
def ee (F:List Nat) (ops:Array aE) (listed:Array Bool) (i:Nat):Bool:=
 Region.noSelect ops && Region.free .any ops listed i && (dM .any ops listed).contains i && vN F ((ops[i]?).bind (·.dst))
theorem mr {d:Option Nat} {v:ag} (A:vN N.F d=true) (c:List PanicEntry) (a:Act) (w:ai):lift N Q (.panic c) (a.put d v) w→lift N Q (.panic c) a w:=by
 rintro ⟨σ,ha,h⟩;cases d with
 | none=>exact ⟨σ,ha,h⟩
 | some d=>
   have L:a.tmps.size=N.n:=by
    have :=congrArg (fun x:Act=>x.tmps.size) ha;simpa [Act.put,act] using this
   have E:a.defers=N.D:=congrArg (fun x:Act=>x.defers) ha;have I:∀ i:Nat,i≠d→a.tmps[i]? =if i < N.n then some (σ i) else none:=fun i hi=>by
    have h1:(a.put (some d) v).tmps[i]? =a.tmps[i]? :=by
     show (a.tmps.setIfInBounds d v)[i]? =_;rw [qD,if_neg (fun e=>hi e.symm)]
    rw [← h1,ha,iy]
   refine ⟨fun i=>if i < N.n then a.tmps.getD i undef else σ i,qY E fun i=> ?_,fun σ' C=>h σ' fun i hi=> ?_⟩
   · rw [iy];by_cases h1:i < N.n
     · rw [if_pos h1,if_pos h1,ij,mU U]; rfl
     · rw [if_neg h1,ta U]
   · have J:i≠d:=by
      rintro rfl;simp only [vN,jU,List.contains_eq_mem,decide_eq_false_iff_not] at A;exact A hi
     rw [C i hi];by_cases h1:i < N.n
     · simp only [if_pos h1];rw [ij,I i J,if_pos h1]; rfl
     · simp only [if_neg h1]
theorem hp (i:Nat) (hi:ops[i]? =some ⟨some d,op,ty,pos,af,none⟩) (A:ee N.F ops listed i=true)
 (E:∀ w,S w→(execOp (ev N σ) ⟨some d,op,ty,pos,af,none⟩).run P w= .ok (.value v) w) (C:S w)
 (k:cE P N ops Q S fuel (listed.setIfInBounds i true) (bo σ d v) w):cE P N ops Q S (fuel+1) listed σ w:=by
 simp only [ee,bg] at A;refine wpAnyH_take hi A.1.1.1 A.1.1.2 A.1.2 (fun c a w=>mr (by have :=A.2; rwa [hi] at this) c a w) (.inl ⟨fE _ rfl _,fun w C=> ?_⟩) C ?_ (v:=v)
 · rw [dq]; exact E w C
 · rw [eD]; exact k
theorem Ac (i:Nat) {j t:Nat} {want:Bool} (hi:ops[i]? =some ⟨some d,op,ty,pos,af,some (j,want)⟩) (A:ee N.F ops listed i=true)
 (E:dC ops j=some t) (I:aF t N.n=true) (L:σ t= .bool want)
 (M:∀ w,S w→(execOp (ev N σ) ⟨some d,op,ty,pos,af,some (j,want)⟩).run P w= .ok (.value v) w) (C:S w)
 (k:cE P N ops Q S fuel (listed.setIfInBounds i true) (bo σ d v) w):cE P N ops Q S (fuel+1) listed σ w:=by
 simp only [ee,bg] at A;refine wpAnyH_take hi A.1.1.1 A.1.1.2 A.1.2 (fun c a w=>mr (by have :=A.2; rwa [hi] at this) c a w) (.inl ⟨by rw [lJ J E I L]; cases want <;> rfl,fun w C=> ?_⟩) C ?_ (v:=v)
 · rw [dq]; exact M w C
 · rw [eD]; exact k
theorem jH (i:Nat) {j t:Nat} {want b:Bool} (hi:ops[i]? =some ⟨some d,op,ty,pos,af,some (j,want)⟩) (A:ee N.F ops listed i=true)
 (E:dC ops j=some t) (I:aF t N.n=true) (L:σ t= .bool b) (hb:(b==want)=false) (C:S w)
 (k:cE P N ops Q S fuel (listed.setIfInBounds i true) (bo σ d undef) w):cE P N ops Q S (fuel+1) listed σ w:=by
 simp only [ee,bg] at A;refine wpAnyH_take hi A.1.1.1 A.1.1.2 A.1.2 (fun c a w=>mr (by have :=A.2; rwa [hi] at this) c a w) (.inr ⟨by rw [lJ J E I L,hb],J⟩) C ?_ (v:=undef);rw [eD]; exact k
theorem He (i:Nat) {j t:Nat} {want:Bool} (hi:ops[i]? =some ⟨some d,op,ty,pos,af,some (j,want)⟩) (A:ee N.F ops listed i=true)
 (E:dC ops j=some t) (I:aF t N.n=true) (L:σ t=undef) (C:S w)
 (k:cE P N ops Q S fuel (listed.setIfInBounds i true) (bo σ d undef) w):cE P N ops Q S (fuel+1) listed σ w:=by
 simp only [ee,bg] at A;refine wpAnyH_take hi A.1.1.1 A.1.1.2 A.1.2 (fun c a w=>mr (by have :=A.2; rwa [hi] at this) c a w) (.inr ⟨xB J E I L,J⟩) C ?_ (v:=undef);rw [eD]; exact k
def iF (ops:Array aE) (listed:Array Bool) (i:Nat):Bool:=(dM .any ops listed)== [i]
theorem he (i:Nat) (hi:ops[i]? =some ⟨d',op,ty,pos,af,none⟩) (hr:iF ops listed i=true)
 (h:bW P N ⟨d',op,ty,pos,af,none⟩ σ w (fun σ w=>S w∧cE P N ops Q S fuel (listed.setIfInBounds i true) σ w)):cE P N ops Q S (fuel+1) listed σ w:=by
 refine wpAnyH_all (rs:= [i]) (by simpa [iF] using hr) (by simp) ?_;intro k A;obtain rfl :k=i:=by simpa using A
 unfold wpOp;simp only [hi];rw [if_pos (fE _ rfl _)];exact .inl<|qA h fun _ _ A=>A
theorem Aa (i:Nat) {j t:Nat} {want:Bool} (hi:ops[i]? =some ⟨d',op,ty,pos,af,some (j,want)⟩) (hr:iF ops listed i=true)
 (C:dC ops j=some t) (E:aF t N.n=true) (I:σ t= .bool want)
 (h:bW P N ⟨d',op,ty,pos,af,some (j,want)⟩ σ w (fun σ w=>S w∧cE P N ops Q S fuel (listed.setIfInBounds i true) σ w)):cE P N ops Q S (fuel+1) listed σ w:=by
 refine wpAnyH_all (rs:= [i]) (by simpa [iF] using hr) (by simp) ?_;intro k A;obtain rfl :k=i:=by simpa using A
 unfold wpOp;simp only [hi];rw [if_pos (by rw [lJ rfl C E I]; cases want <;> rfl)];exact .inl<|qA h fun _ _ A=>A
theorem hn (hr:(dM .any ops listed).isEmpty=true) (h:Q .normal σ w):cE P N ops Q S fuel listed σ w:=
 wpAnyH_done (by simpa using hr) ⟨σ,rfl,h⟩ fuel
theorem pO {t:Nat} {q:Prop} [Decidable q] (h:σ t= .bool (decide q)) (E:q→cE P N ops Q S fuel listed (bo σ t<|.bool true) w) (C:¬q→cE P N ops Q S fuel listed (bo σ t<|.bool false) w):cE P N ops Q S fuel listed σ w:=by
 by_cases A:q
 · have :=E A; rwa [lG (by rw [h,decide_eq_true A])] at this
 · have :=C A; rwa [lG (by rw [h,decide_eq_false A])] at this
end
def bp (P:av) (f:dW) (args:Array ag) (w:ai) (R:ag→ai→Prop):Prop :=
 Calls P f args w fun e w'=> ∃ v,e= .returned v∧R v w'
theorem bp.mono {P:av} {f:dW} {args:Array ag} {w:ai} {R A:ag→ai→Prop} (h:bp P f args w R) (hr:∀ v w',R v w'→A v w'):bp P f args w A:=
 jV h fun _ _ ⟨v,he,C⟩=>⟨v,he,hr _ _ C⟩
def dj (args:List ag):Nat→ag:=fun i=>args.getD i undef
def fin (P:av) (fn:fP) (N:Fm) (R:ag→ai→Prop):bt→(Nat→ag)→ai→Prop
 | .normal,σ,w=> ∃ v,(results fn (act N σ).tmps).run P w= .ok v w∧R v w
 | .ret,σ,w=> ∃ v,(results fn (act N σ).tmps).run P w= .ok v w∧R v w
 | _,_,_=>False
theorem enter {P:av} {f:dW} {N:Nat} {fn:fP} {c:bJ} {args:List ag} {w:ai} {R:ag→ai→Prop} (M:P.funcs[f]? =some fn) (hb:fn.body=some c)
 (L:fn.ntmps=N) (hn:bj args.length N=true) (h:bE P ⟨N,[],[],none⟩ c (fin P fn ⟨N,[],[],none⟩ R) (dj args) w):bp P f args.toArray w R:=by
 subst L;refine calls_of_wp M hb ?_;have ha:({tmps:=args.toArray++oO (fn.ntmps - args.toArray.size) undef,defers:= []} :Act)=act ⟨fn.ntmps,[],[],none⟩ (dj args):=by
  have O:args.length≤fn.ntmps:=by simpa using hn
  refine qY J fun i=> ?_;rw [iy];simp only [dj,b9,eh];by_cases h1:i < args.length
  · rw [CY (by simpa using h1),if_pos U];simp [h1]
  · rw [CZ (by simpa using h1)];simp only [eh,C1];by_cases I:i < fn.ntmps
    · rw [if_pos U,if_pos I,iT U]; rfl
    · rw [if_neg U,if_neg I]
 rw [ha];refine xP ?_<|wpIn_wide.1 h;intro e a w A;cases e with
 | normal=>obtain ⟨σ,rfl,v,hr,E⟩:=A; exact ⟨rfl,v,hr,v,rfl,E⟩
 | ret=>obtain ⟨σ,rfl,v,hr,E⟩:=A; exact ⟨rfl,v,hr,v,rfl,E⟩
 | exit id=>obtain ⟨σ,rfl,C⟩:=A; exact C.elim
 | goto l=>obtain ⟨σ,rfl,C⟩:=A; exact C.elim
 | panic c=>obtain ⟨σ,rfl,C⟩:=A; exact (C σ fun _ _=>rfl).elim
 | outgrown=>exact A.elim
section
variable {P:av} {N:Fm} {σ:Nat→ag} {w:ai} {fn:fP} {R:ag→ai→Prop}
theorem oJ (t:Nat):(act N σ).tmps.getD t undef=ev N σ (.tmp t):=by
 rw [← dq]; rfl
theorem f0 (h:fn.results= #[]) (A:R (.tuple #[]) w):fin P fn N R .normal σ w:=⟨_,results_none h _ _ _,A⟩
theorem f1 {t:Nat} {v:ag} (h:fn.results= #[.tmp t]) (C:ev N σ (.tmp t)=v) (A:R v w):fin P fn N R .ret σ w:=
 ⟨v,by rw [results_tmp h,oJ,C],A⟩
theorem f2 {t u:Nat} {v A:ag} (h:fn.results= #[.tmp t,.tmp u]) (E:ev N σ (.tmp t)=v) (hu:ev N σ (.tmp u)=A) (C:R (.tuple #[v,A]) w):fin P fn N R .ret σ w:=
 ⟨_,by rw [results_tmp2 h,oJ,oJ,E,hu],C⟩
theorem f3 {t u s:Nat} {v A C:ag} (h:fn.results= #[.tmp t,.tmp u,.tmp s]) (J:ev N σ (.tmp t)=v) (hu:ev N σ (.tmp u)=A) (I:ev N σ (.tmp s)=C) (E:R (.tuple #[v,A,C]) w):fin P fn N R .ret σ w:=by
 refine ⟨_,?_,E⟩;simp only [results,h];subst J hu I;simp only [← oJ];simp [yb]
end
attribute [irreducible] bR bE cE bW
end Go.Hb
namespace Go.Hb
def az (h:Array Obj) (b off :Nat):Option ag:=
 match h[b]? with
 | some (.cells c _ _)=>c[off]?
 | _=>none
theorem gR (w:ai) (b off :Nat):w.cell? ⟨b,off,none⟩=az w.heap b off :=by
 unfold DA az;simp only;split <;> simp_all
theorem eo {h:Array Obj} {b off :Nat} {c:Array ag} {t:au} {f:Nat×Nat} (hb:h[b]? =some (.cells c t f)):az h b off =c[off]? :=by
 simp only [az,hb]
theorem Fe {h:Array Obj} {b off :Nat} {v:ag} (A:az h b off =some v):b < h.size:=by grind [az]
structure Md (F:Nat→Prop) (w w':ai):Prop where
 os:w'.os=w.os
 output:w'.output=w.output
 size:w.heap.size≤w'.heap.size
 eY:∀ k,k < w.heap.size→¬F k→w'.heap[k]? =w.heap[k]?
abbrev Wk (w w':ai):Prop :=Md (fun _=>False) w w'
theorem Md.refl (F:Nat→Prop) (w:ai):Md F w w:=⟨rfl,rfl,aV _,fun _ _ _=>rfl⟩
theorem Md.drew {F:Nat→Prop} {w w':ai} (h:Md F w w'):Md F w w'.drew:=⟨h.os,h.output,h.size,h.eY⟩
theorem Md.mono {F G:Nat→Prop} {w w':ai} (h:Md F w w') (E:∀ k,k < w.heap.size→F k→G k):Md G w w':=
 ⟨h.os,h.output,h.size,fun k A hg=>h.eY k A fun C=>hg<|E k A C⟩
theorem Md.trans {F:Nat→Prop} {a b c:ai} (h:Md F a b) (h':Md F b c):Md F a c:=
 ⟨h'.os.trans h.os,h'.output.trans h.output,cX h.size h'.size,fun k C A=>(h'.eY k (lQ C h.size) A).trans<|h.eY k C A⟩
theorem Md.trans' {F G:Nat→Prop} {a b c:ai} (h:Md F a b) (h':Md G b c) (hg:∀ k,k < a.heap.size→G k→F k):Md F a c:=
 ⟨h'.os.trans h.os,h'.output.trans h.output,cX h.size h'.size,
  fun k A C=>(h'.eY k (lQ A h.size) fun x=>C<|hg k A x).trans (h.eY k A C)⟩
theorem Md.ax {F:Nat→Prop} {w w':ai} (h:Md F w w') {k:Nat} {o:Obj} (A:w.heap[k]? =some o) (C:¬F k):w'.heap[k]? =some o:=
 (h.eY k (eM.1 A).1 C).trans A
theorem Md.az {F:Nat→Prop} {w w':ai} (h:Md F w w') {b off :Nat} {v:ag} (A:Hb.az w.heap b off =some v) (C:¬F b):Hb.az w'.heap b off =some v:=by
 have :=h.eY b (Fe A) C;unfold Hb.az at*;rw [this]; exact A
theorem Wk.az {w w':ai} (h:Wk w w') {b off :Nat} {v:ag} (A:Hb.az w.heap b off =some v):Hb.az w'.heap b off =some v:=Md.az h A id
theorem Wk.ax {w w':ai} (h:Wk w w') {k:Nat} {o:Obj} (A:w.heap[k]? =some o):w'.heap[k]? =some o:=Md.ax h A id
structure Nw (w w':ai):Prop where
 md:Wk w w'
 size:w'.heap.size=w.heap.size+1
 one:∃ o,w'= {w with heap:=w.heap.push o}
theorem It (w:ai) (o:Obj):Nw w {w with heap:=w.heap.push o} :=
 ⟨⟨rfl,rfl,by simp,fun k A _=>by show (w.heap.push o)[k]? =_; rw [Array.getElem?_push,if_neg U]⟩,by simp,o,rfl⟩
def cZ (P:av) (t:au):Option (Option Nat):=
 match P.underlying t with
 | some (.struct _) | some (.array _ _)=>((P.info? t).map (·.size)).map some
 | some _=>some none
 | none=>none
def nF (P:av) (s f:Nat):Option Nat:=
 match P.underlying s with
 | some (.struct A)=>match A[f]? with
   | some fd=>match P.info? fd.type with
     | some i=>if i.size=0 then none else some fd.offset
     | none=>none
   | none=>none
 | _=>none
def cV (P:av) (t:au):Option Nat:=
 match P.underlying t with
 | some (.slice e)=>(P.info? e).map (·.size)
 | _=>none
section
variable {P:av} {N:Fm} {σ:Nat→ag} {w:ai} {dst:Option Nat} {ty:au} {pos :String} {af:Array cH} {g:Option (Nat×Bool)} {x y z:aY}
theorem bu {t:au} {d:TypeDesc} (h:P.underlying t=some d) (w:ai):(underlying t).run P w= .ok d w:=by
 simp [underlying,h]
theorem c9 {t:au} {i:TypeInfo} (h:P.info? t=some i) (w:ai):(typeInfo t).run P w= .ok i w:=by
 simp [typeInfo,h]
theorem mv:(execOp (ev N σ) ⟨dst,.move x,ty,pos,af,g⟩).run P w= .ok (.value<|ev N σ x) w:=rfl
theorem aQ:(execOp (ev N σ) ⟨dst,.assign x,ty,pos,af,g⟩).run P w= .ok (.value<|ev N σ x) w:=rfl
theorem rZ (v:ag) (h:ev N σ x=v):(execOp (ev N σ) ⟨dst,.move x,ty,pos,af,g⟩).run P w= .ok (.value v) w:=by rw [← h]; rfl
theorem n6 {c:aY} (A:ev N σ c= .bool true):(execOp (ev N σ) ⟨dst,.pick c x y,ty,pos,af,g⟩).run P w= .ok (.value<|ev N σ x) w:=by
 simp [execOp,A,asBool]
theorem lC {c:aY} (A:ev N σ c= .bool false):(execOp (ev N σ) ⟨dst,.pick c x y,ty,pos,af,g⟩).run P w= .ok (.value<|ev N σ y) w:=by
 simp [execOp,A,asBool]
theorem nc {a:aZ} (A:ev N σ x= .pointer (some a)):(execOp (ev N σ) ⟨dst,.nilCheck x,ty,pos,af,g⟩).run P w= .ok (.value<|.pointer<|some a) w:=by
 simp [execOp,A]
theorem xt {i:Nat} {vs:Array ag} {v:ag} (C:ev N σ x= .tuple vs) (A:vs[i]? =some v):(execOp (ev N σ) ⟨dst,.extract x i,ty,pos,af,g⟩).run P w= .ok (.value v) w:=by
 simp [execOp,C,Instr.extract,A]
theorem fa {s f n b off :Nat} (A:nF P s f=some n) (I:ev N σ x= .pointer (some ⟨b,off,none⟩)):
 (execOp (ev N σ) ⟨dst,.fieldAddr s x f,ty,pos,af,g⟩).run P w= .ok (.value<|.pointer<|some ⟨b,off+n,none⟩) w:=by
 unfold nF at A;split at A
 · rename_i L hu;split at A
   · rename_i fd E;split at A
     · rename_i i hi;split at A
       · cases A
       · rename_i J;cases A;have C:(⟨b,off,none⟩:aZ).add fd.offset=⟨b,off+fd.offset,none⟩:=by unfold tf; split <;> simp_all
         simp [execOp,Instr.fieldAt,bu hu,E,I,m5,fieldPlace,sizeOf,c9 hi,J,C]
     · cases A
   · cases A
 · cases A
theorem ld {t b off :Nat} {v:ag} (hu:cZ P t=some none) (E:ev N σ x= .pointer (some ⟨b,off,none⟩)) (A:az w.heap b off =some v):
 (execOp (ev N σ) ⟨dst,.load t x,ty,pos,af,g⟩).run P w= .ok (.value v) w:=by
 have C:w.cell? ⟨b,off,none⟩=some v:=by rw [gR]; exact A
 unfold cZ at hu;cases hd:P.underlying t with
 | none=>rw [hd] at hu; cases hu
 | some d=>
   rw [hd] at hu;cases d <;> first
    | (simp only [fg] at hu; obtain ⟨_,_,h⟩:=hu; cases h; done)
    | simp [execOp,Dp,E,m5,loadVar,isAgg,bu hd,run_load,C]
theorem dY (b off j:Nat):(⟨b,off,none⟩:aZ).add j=⟨b,off+j,none⟩:=by
 unfold tf; split <;> simp_all
theorem fu {t n b off :Nat} {cs:List ag} (hu:cZ P t=some (some n)) (J:ev N σ x= .pointer (some ⟨b,off,none⟩)) (I:cs.length=n)
 (C:∀ j,j < n→az w.heap b (off+j)=cs[j]?):
 (execOp (ev N σ) ⟨dst,.load t x,ty,pos,af,g⟩).run P w= .ok (.value<|.agg cs.toArray) w:=by
 have E:(loadCells ⟨b,off,none⟩ n).run P w= .ok cs.toArray w:=by
  subst I;refine run_loadCells_list (P:=P) w ⟨b,off,none⟩ cs fun j v A=> ?_;rw [dY,gR];exact (C j (cI.1 A).1).trans A
 unfold cZ at hu;cases hd:P.underlying t with
 | none=>rw [hd] at hu; cases hu
 | some d=>
   rw [hd] at hu;cases hi:P.info? t with
   | none=>simp [Dx,hi] at hd
   | some i=>
     rw [hi] at hu;cases d <;> first
      | (cases hu; done)
      | (simp only [eV,bH] at hu; subst hu
         simp [execOp,Dp,J,m5,loadVar,isAgg,bu hd,sizeOf,c9 hi,E])
theorem ia {t n b off len cap:Nat} {k:bC} {i:Int} (he:cV P t=some n) (A:ev N σ x= .slice (some ⟨b,off,none⟩) len cap) (C:ev N σ y= .int k i) (h0:0≤i∧i < len):
 (execOp (ev N σ) ⟨dst,.indexAddr t x y,ty,pos,af,g⟩).run P w= .ok (.value<|.pointer<|some ⟨b,off+i.toNat*n,none⟩) w:=by
 unfold cV at he;cases hd:P.underlying t with
 | none=>rw [hd] at he; cases he
 | some d=>
   rw [hd] at he;cases d <;> first | (cases he; done) | skip
   rename_i e;cases hi:P.info? e with
   | none=>simp [hi] at he
   | some j=>
     simp only [hi,eV,bH] at he;subst he;simp [execOp,Dn,A,C,asIntOf,bu hd,h0.1,h0.2,sizeOf,c9 hi,dY]
def dS (a:Option aZ) (cap l n:Nat):Option aZ:=if cap=l then a else a.map (·.add (l*n))
theorem wY {t n len cap:Nat} {a:Option aZ} {lo hi:Option ag} {l h:Nat} (he:cV P t=some n) (E:ev N σ x= .slice a len cap)
 (hb:(jY true len cap lo hi none).run P w= .ok (l,h,cap) w) (A C:Option aY) (I:A.map (ev N σ)=lo) (J:C.map (ev N σ)=hi):
 (execOp (ev N σ) ⟨dst,.slice t x A C none,ty,pos,af,g⟩).run P w= .ok (.value<|.slice (dS a cap l n) (h - l)<|cap - l) w:=by
 unfold cV at he;cases hd:P.underlying t with
 | none=>rw [hd] at he; cases he
 | some d=>
   rw [hd] at he;cases d <;> first | (cases he; done) | skip
   rename_i e;cases hi':P.info? e with
   | none=>simp [hi'] at he
   | some j=>
     simp only [hi',eV,bH] at he;subst he;simp [execOp,m3,qI,E,I,J,bu hd,hb,sizeOf,c9 hi',dS]
theorem wZ {t n len cap:Nat} {a:Option aZ} {k:bC} {i:Int} (he:cV P t=some n) (C:ev N σ x= .slice a len cap) (E:ev N σ z= .int k i) (h0:0≤i∧i≤cap):
 (execOp (ev N σ) ⟨dst,.slice t x none (some z) none,ty,pos,af,g⟩).run P w= .ok (.value<|.slice a i.toNat cap) w:=by
 have :=wY (dst:=dst) (ty:=ty) (pos :=pos) (af:=af) (g:=g) (w:=w) (lo:=none) (hi:=some<|.int k i) (l:=0) (h:=i.toNat) he C
  (by simp [jY,m4,asIntOf,h0.1,h0.2]) none (some z) rfl (by simp [E])
 rw [this];have A:dS a cap 0 n=a:=by
  unfold dS; split
  · rfl
  · cases a <;> simp [tf]
 rw [A]; rfl
theorem xa {t n len cap:Nat} {a:Option aZ} {k:bC} {i:Int} (he:cV P t=some n) (A:ev N σ x= .slice a len cap) (C:ev N σ y= .int k i) (h0:0≤i∧i≤len):
 (execOp (ev N σ) ⟨dst,.slice t x (some y) none none,ty,pos,af,g⟩).run P w= .ok (.value<|.slice (dS a cap i.toNat n) (len - i.toNat)<|cap - i.toNat) w:=
 wY (lo:=some<|.int k i) (hi:=none) he A
  (by simp [jY,m4,asIntOf,h0.1,h0.2]) (some y) none (by simp [C]) rfl
theorem wX {t n len cap:Nat} {a:Option aZ} {k A:bC} {i j:Int} (he:cV P t=some n) (E:ev N σ x= .slice a len cap) (I:ev N σ y= .int k i) (J:ev N σ z= .int A j) (h0:0≤i∧i≤j∧j≤cap):
 (execOp (ev N σ) ⟨dst,.slice t x (some y) (some z) none,ty,pos,af,g⟩).run P w= .ok (.value<|.slice (dS a cap i.toNat n) (j.toNat - i.toNat)<|cap - i.toNat) w:=by
 have h1:0≤j:=U;have C:i≤(j.toNat:Int):=U;refine wY (lo:=some<|.int k i) (hi:=some<|.int A j) he E ?_ (some y) (some z) (by simp [I])<|by simp [J]
 simp only [jY,m4,asIntOf,ik,kE,gJ,tv,h0.1,h1,h0.2.2,C,and_self,if_true]
theorem iN {n:Int} (h: -9223372036854775808≤n∧n≤9223372036854775807):tq.wrap n=n:=IntWalk.i64_in n h
theorem xC {n:Int} (h: -2147483648≤n∧n≤2147483647):IntKind.i32.wrap n=n:=IntWalk.i32_in n h
theorem xF {n:Int} (h:0≤n∧n≤255):IntKind.u8.wrap n=n:=IntWalk.u8_in n h
theorem CN {n:Int} (h:0≤n∧n≤4294967295):IntKind.u32.wrap n=n:=IntWalk.u32_in n h
theorem gi {n:Int} (h:0≤n∧n≤18446744073709551615):IntKind.u64.wrap n=n:=IntWalk.u64_in n h
theorem iv {k:bC} {a b:Int} (h:a=b):aT k a=aT k b:=by rw [h]
theorem ad {t t':au} {k:bC} {a b:Int} (A:ev N σ x= .int k a) (C:ev N σ y= .int k b) (hr:k.wrap (a+b)=a+b):
 (execOp (ev N σ) ⟨dst,.binOp .add t x y t',ty,pos,af,g⟩).run P w= .ok (.value<|.int k<|a+b) w:=by
 simp [execOp,A,C,eqGuard,binOp,qK,hr]
theorem tX {t t':au} {k:bC} {a b:Int} (v:Int) (A:ev N σ x= .int k a) (C:ev N σ y= .int k b) (hr:k.wrap (a+b)=v):
 (execOp (ev N σ) ⟨dst,.binOp .add t x y t',ty,pos,af,g⟩).run P w= .ok (.value<|.int k v) w:=by
 subst hr; simp [execOp,A,C,eqGuard,binOp,qK]
theorem wo {t t':au} {k:bC} {a b:Int} (v:Int) (A:ev N σ x= .int k a) (C:ev N σ y= .int k b) (hr:k.wrap (a - b)=v):
 (execOp (ev N σ) ⟨dst,.binOp .sub t x y t',ty,pos,af,g⟩).run P w= .ok (.value<|.int k v) w:=by
 subst hr; simp [execOp,A,C,eqGuard,binOp,qK]
theorem vF {t t':au} {k:bC} {a b:Int} (v:Int) (A:ev N σ x= .int k a) (C:ev N σ y= .int k b) (hr:k.wrap (a*b)=v):
 (execOp (ev N σ) ⟨dst,.binOp .mul t x y t',ty,pos,af,g⟩).run P w= .ok (.value<|.int k v) w:=by
 subst hr; simp [execOp,A,C,eqGuard,binOp,qK]
theorem xA {a:Int} {n:Nat} (h:a=n) (hn:n≤9223372036854775807):tq.wrap a=(n:Int):=by rw [h]; exact iN U
theorem bv {p q:Prop} [Decidable p] [Decidable q] (h:p↔q):bG (decide p)=bG (decide q):=by rw [decide_eq_decide.2 h]
theorem sb {t t':au} {k:bC} {a b:Int} (A:ev N σ x= .int k a) (C:ev N σ y= .int k b) (hr:k.wrap (a - b)=a - b):
 (execOp (ev N σ) ⟨dst,.binOp .sub t x y t',ty,pos,af,g⟩).run P w= .ok (.value<|.int k<|a - b) w:=by
 simp [execOp,A,C,eqGuard,binOp,qK,hr]
theorem qu {t t':au} {k:bC} {a b:Int} (A:ev N σ x= .int k a) (C:ev N σ y= .int k b) (h0:0≤a∧0 < b) (hr:k.wrap (a / b)=a / b):
 (execOp (ev N σ) ⟨dst,.binOp .quo t x y t',ty,pos,af,g⟩).run P w= .ok (.value<|.int k<|a / b) w:=by
 have :a.tdiv b=a / b:=DH h0.1;simp [execOp,A,C,eqGuard,binOp,xV,show b≠0 from by omega,this,hr]
theorem IM {t t':au} {k:bC} {a b:Int} (v:Int) (A:ev N σ x= .int k a) (C:ev N σ y= .int k b) (h0:0≤a∧0 < b) (hr:k.wrap (a / b)=v):
 (execOp (ev N σ) ⟨dst,.binOp .quo t x y t',ty,pos,af,g⟩).run P w= .ok (.value<|.int k v) w:=by
 have :a.tdiv b=a / b:=DH h0.1;subst hr; simp [execOp,A,C,eqGuard,binOp,xV,show b≠0 from by omega,this]
theorem rm {t t':au} {k:bC} {a b:Int} (A:ev N σ x= .int k a) (C:ev N σ y= .int k b) (h0:0≤a∧0 < b):
 (execOp (ev N σ) ⟨dst,.binOp .rem t x y t',ty,pos,af,g⟩).run P w= .ok (.value<|.int k<|a % b) w:=by
 have :a.tmod b=a % b:=Int.tmod_eq_emod_of_nonneg h0.1;simp [execOp,A,C,eqGuard,binOp,xV,show b≠0 from by omega,this]
theorem lt {t t':au} {k:bC} {a b:Int} (A:ev N σ x= .int k a) (C:ev N σ y= .int k b):
 (execOp (ev N σ) ⟨dst,.binOp .lss t x y t',ty,pos,af,g⟩).run P w= .ok (.value<|.bool<|decide (a < b)) w:=by
 simp [execOp,A,C,eqGuard,binOp,oS]
theorem le {t t':au} {k:bC} {a b:Int} (A:ev N σ x= .int k a) (C:ev N σ y= .int k b):
 (execOp (ev N σ) ⟨dst,.binOp .leq t x y t',ty,pos,af,g⟩).run P w= .ok (.value<|.bool<|decide (a≤b)) w:=by
 simp [execOp,A,C,eqGuard,binOp,oS]
theorem gt {t t':au} {k:bC} {a b:Int} (A:ev N σ x= .int k a) (C:ev N σ y= .int k b):
 (execOp (ev N σ) ⟨dst,.binOp .gtr t x y t',ty,pos,af,g⟩).run P w= .ok (.value<|.bool<|decide (b < a)) w:=by
 simp [execOp,A,C,eqGuard,binOp,oS]
theorem ge {t t':au} {k:bC} {a b:Int} (A:ev N σ x= .int k a) (C:ev N σ y= .int k b):
 (execOp (ev N σ) ⟨dst,.binOp .geq t x y t',ty,pos,af,g⟩).run P w= .ok (.value<|.bool<|decide (b≤a)) w:=by
 simp [execOp,A,C,eqGuard,binOp,oS]
theorem zI {t t':au} {k:bC} {a b:Int} (A:ev N σ x= .int k a) (C:ev N σ y= .int k b):
 (execOp (ev N σ) ⟨dst,.binOp .eql t x y t',ty,pos,af,g⟩).run P w= .ok (.value<|.bool<|decide (a=b)) w:=by
 simp [execOp,A,C,eqGuard,binOp,oS];rw [oQ]; simp
theorem AN {t t':au} {k:bC} {a b:Int} (A:ev N σ x= .int k a) (C:ev N σ y= .int k b):
 (execOp (ev N σ) ⟨dst,.binOp .neq t x y t',ty,pos,af,g⟩).run P w= .ok (.value<|.bool<|decide (a≠b)) w:=by
 simp [execOp,A,C,eqGuard,binOp,oS];rw [oQ]; simp
theorem no {t:au} {b:Bool} (A:ev N σ x= .bool b):(execOp (ev N σ) ⟨dst,.unOp .not t x,ty,pos,af,g⟩).run P w= .ok (.value<|.bool<|!b) w:=by
 simp [execOp,A,Op.unary]
theorem yG {t t':au} {k:bC} {a b v:Int} (C:ev N σ x= .int k a) (E:ev N σ y= .int k b) (A:k.wrap (gH k.bits a ||| gH k.bits b).toNat=v):
 (execOp (ev N σ) ⟨dst,.binOp .or t x y t',ty,pos,af,g⟩).run P w= .ok (.value<|.int k v) w:=by
 subst A; simp [execOp,C,E,eqGuard,binOp,Op.intBits]
theorem cR {t t':au} {k:bC} {a b v:Int} (C:ev N σ x= .int k a) (E:ev N σ y= .int k b) (A:k.wrap (gH k.bits a &&& gH k.bits b).toNat=v):
 (execOp (ev N σ) ⟨dst,.binOp .and t x y t',ty,pos,af,g⟩).run P w= .ok (.value<|.int k v) w:=by
 subst A; simp [execOp,C,E,eqGuard,binOp,Op.intBits]
theorem shr {t t':au} {k I:bC} {a b v:Int} (C:ev N σ x= .int k a) (E:ev N σ y= .int I b) (h0:0≤b) (A:a.fdiv (2 ^ min b.toNat k.bits)=v):
 (execOp (ev N σ) ⟨dst,.binOp .shr t x y t',ty,pos,af,g⟩).run P w= .ok (.value<|.int k v) w:=by
 have :¬b < 0:=U;simp [execOp,C,E,eqGuard,binOp,Op.shift,this,A]
theorem shl {t t':au} {k I:bC} {a b v:Int} (C:ev N σ x= .int k a) (E:ev N σ y= .int I b) (h0:0≤b) (A:k.wrap (a*2 ^ min b.toNat k.bits)=v):
 (execOp (ev N σ) ⟨dst,.binOp .shl t x y t',ty,pos,af,g⟩).run P w= .ok (.value<|.int k v) w:=by
 have :¬b < 0:=U;simp [execOp,C,E,eqGuard,binOp,Op.shift,this,A]
theorem Kf (m:Nat) (h:m < 256):((eB m).toNat:Int)=(m:Int):=by
 simp [Nat.mod_eq_of_lt h]
theorem cv {t u:au} {k A:bC} {n:Int} (hu:P.underlying u=some (.int A)) (E:(P.underlying t).isSome=true) (I:ev N σ x= .int k n):
 (execOp (ev N σ) ⟨dst,.convert t u x,ty,pos,af,g⟩).run P w= .ok (.value<|.int A<|A.wrap n) w:=by
 obtain ⟨d,C⟩:=lT.1 E;cases d <;> simp [execOp,I,convert,bu hu,bu C,Conv.intToInt]
theorem FH {t u:au} {k A:bC} {n v:Int} (hu:P.underlying u=some (.int A)) (C:(P.underlying t).isSome=true) (E:ev N σ x= .int k n) (hr:A.wrap n=v):
 (execOp (ev N σ) ⟨dst,.convert t u x,ty,pos,af,g⟩).run P w= .ok (.value<|.int A v) w:=by
 rw [cv hu C E,hr]
theorem gr {t u:au} {k A:bC} {n:Int} (hu:P.underlying u=some (.int A)) (C:(P.underlying t).isSome=true) (E:ev N σ x= .int k n) (hr:A.wrap n=n):
 (execOp (ev N σ) ⟨dst,.convert t u x,ty,pos,af,g⟩).run P w= .ok (.value<|.int A n) w:=by
 rw [cv hu C E,hr]
theorem uE (d:Nat) {t e:au} {a:Option aZ} (hu:P.underlying t=some (.pointer e)):(gI (d+1) t (.pointer a)<|.pointer none).run P w= .ok a.isNone w:=by
 cases a <;> simp [gI,bu hu]
theorem zJ {t e:au} {a:Option aZ} (hu:P.underlying t=some (.pointer e)):(lM t (.pointer a)<|.pointer none).run P w= .ok a.isNone w:=uE 9999 hu
theorem rB {t t' e:au} {a:Option aZ} (hu:P.underlying t=some (.pointer e)) (A:ev N σ x= .pointer a) (C:ev N σ y= .pointer none):
 (execOp (ev N σ) ⟨dst,.binOp .eql t x y t',ty,pos,af,g⟩).run P w= .ok (.value<|.bool a.isNone) w:=by
 have h:(binOp .eql t (.pointer a)<|.pointer none).run P w= .ok (.bool a.isNone) w:=by
  simp only [binOp]; simp [zJ hu]
 simp [execOp,A,C,eqGuard,h]
theorem vJ {t t' e:au} {a:Option aZ} (hu:P.underlying t=some (.pointer e)) (A:ev N σ x= .pointer a) (C:ev N σ y= .pointer none):
 (execOp (ev N σ) ⟨dst,.binOp .neq t x y t',ty,pos,af,g⟩).run P w= .ok (.value<|.bool a.isSome) w:=by
 have h:(binOp .neq t (.pointer a)<|.pointer none).run P w= .ok (.bool a.isSome) w:=by
  simp only [binOp]; simp [zJ hu]
 simp [execOp,A,C,eqGuard,h]
theorem zG (d:Nat) {t:au} {a b:Bool} (hu:P.underlying t=some .bool):(gI (d+1) t (.bool a)<|.bool b).run P w= .ok (a==b) w:=by
 simp [gI,bu hu]
theorem Gm {t:au} {a b:Bool} (hu:P.underlying t=some .bool):(lM t (.bool a)<|.bool b).run P w= .ok (a==b) w:=zG 9999 hu
theorem vI {t t':au} {a b:Bool} (hu:P.underlying t=some .bool) (A:ev N σ x= .bool a) (C:ev N σ y= .bool b):
 (execOp (ev N σ) ⟨dst,.binOp .neq t x y t',ty,pos,af,g⟩).run P w= .ok (.value<|.bool<|decide (a≠b)) w:=by
 have h:(binOp .neq t (.bool a)<|.bool b).run P w= .ok (.bool<|decide (a≠b)) w:=by
  simp only [binOp]; simp [Gm hu]; cases a <;> cases b <;> rfl
 simp [execOp,A,C,eqGuard,h]
def str (l:List UInt8):ag:= .string ⟨⟨l⟩⟩
theorem Ay {t:au} {l:List UInt8} {at_:Array au} (A:P.underlying t=some .string) (ha:at_= #[t]) (C:ev N σ x=str l):
 (execOp (ev N σ) ⟨dst,.call ⟨.builtin .len,#[x],at_⟩,ty,pos,af,g⟩).run P w= .ok (.value<|.int .i64 l.length) w:=by
 subst ha;simp [execOp,resolve,invoke,builtin,xO,bu A,C,str,goInt];rfl
theorem vv {t e:au} {a:Option aZ} {n c:Nat} {at_:Array au} (A:P.underlying t=some (.slice e)) (ha:at_= #[t]) (C:ev N σ x= .slice a n c):
 (execOp (ev N σ) ⟨dst,.call ⟨.builtin .len,#[x],at_⟩,ty,pos,af,g⟩).run P w= .ok (.value<|.int .i64 n) w:=by
 subst ha;simp [execOp,resolve,invoke,builtin,xO,bu A,C,goInt]
theorem HU {t k e r:au} {es:Array MapEntry} {c:Nat} {at_:Array au} (A:P.underlying t=some (.map k e)) (ha:at_= #[t]) (C:ev N σ x= .map (some r)) (hr:w.heap[r]? =some (.map es c)):
 (execOp (ev N σ) ⟨dst,.call ⟨.builtin .len,#[x],at_⟩,ty,pos,af,g⟩).run P w= .ok (.value<|.int .i64 es.size) w:=by
 subst ha;simp [execOp,resolve,invoke,builtin,xO,bu A,C,goInt,getObj,kD,hr]
theorem mn {k:bC} {a b:Int} {at_:Array au} (A:ev N σ x= .int k a) (C:ev N σ y= .int k b):
 (execOp (ev N σ) ⟨dst,.call ⟨.builtin .min,#[x,y],at_⟩,ty,pos,af,g⟩).run P w= .ok (.value<|.int k<|min a b) w:=by
 have :(if b < a then b else a)=min a b:=U;simp [execOp,resolve,invoke,builtin,Builtin.min_,Builtin.min2,A,C,this]
theorem mx {k:bC} {a b:Int} {at_:Array au} (A:ev N σ x= .int k a) (C:ev N σ y= .int k b):
 (execOp (ev N σ) ⟨dst,.call ⟨.builtin .max,#[x,y],at_⟩,ty,pos,af,g⟩).run P w= .ok (.value<|.int k<|max a b) w:=by
 have :(if b > a then b else a)=max a b:=U;simp [execOp,resolve,invoke,builtin,Builtin.max_,Builtin.max2,A,C,this]
theorem Hr {t:au} {l:List UInt8} {k:bC} {i:Int} (E:P.underlying t=some .string) (I:ev N σ x=str l) (J:ev N σ y= .int k i) (h0:0≤i∧i < l.length):
 (execOp (ev N σ) ⟨dst,.index t x y,ty,pos,af,g⟩).run P w= .ok (.value<|.int .u8 ((l.getD i.toNat 0).toNat:Int)) w:=by
 have C:(⟨⟨l⟩⟩:ByteArray)[i.toNat]? =some (l.getD i.toNat 0):=by
  have aP:i.toNat < l.length:=U;have A:i.toNat < (⟨⟨l⟩⟩:ByteArray).size:=aP;rw [getElem?_pos (⟨⟨l⟩⟩:ByteArray) i.toNat A];simp [b9,aP,ByteArray.getElem_eq_getElem_data]
 simp [execOp,Instr.index,I,J,asIntOf,str,bu E,h0.1,C]
theorem wW (l:List UInt8) (a b:Nat):Value.string ((⟨⟨l⟩⟩:ByteArray).extract a b)=str ((l.take b).drop a):=by
 unfold str;congr 1;apply ByteArray.ext;simp [ByteArray.data_extract,List.extract_eq_take_drop,List.drop_take]
theorem rP (n:Nat) {t:au} {l:List UInt8} {k:bC} (A:P.underlying t=some .string) (C:ev N σ x=str l) (E:ev N σ y= .int k (n:Int)) (h:n < l.length):
 (execOp (ev N σ) ⟨dst,.index t x y,ty,pos,af,g⟩).run P w= .ok (.value<|.int .u8 ((l.getD n 0).toNat:Int)) w:=Hr A C E ⟨U,U⟩
theorem eH {n:Nat} {t:au} {l:List UInt8} {k:bC} (A:P.underlying t=some .string) (C:ev N σ x=str l) (E:ev N σ y= .int k (n:Int)) (h:n < l.length):
 (execOp (ev N σ) ⟨dst,.index t x y,ty,pos,af,g⟩).run P w= .ok (.value<|.int .u8 ((l.getD n 0).toNat:Int)) w:=rP n A C E h
theorem sJ {t:au} {l:List UInt8} {k L:bC} {a b:Int} (C:P.underlying t=some .string) (E:ev N σ x=str l) (I:ev N σ y= .int k a) (J:ev N σ z= .int L b) (h0:0≤a∧a≤b∧b≤l.length):
 (execOp (ev N σ) ⟨dst,.slice t x (some y) (some z) none,ty,pos,af,g⟩).run P w= .ok (.value<|str<|(l.take b.toNat).drop a.toNat) w:=by
 have h1:b≤((⟨⟨l⟩⟩:ByteArray).size:Nat):=h0.2.2;have A:0≤b:=U;have M:a≤(b.toNat:Nat):=U;simp [execOp,m3,qI,jY,m4,E,I,J,asIntOf,str,bu C,h0.1,h1,A];rw [if_pos U];exact congrArg (fun v=>qL (qJ v) w)<|wW l a.toNat b.toNat
theorem xc {t:au} {l:List UInt8} {I:bC} {b:Int} (A:P.underlying t=some .string) (C:ev N σ x=str l) (E:ev N σ z= .int I b) (h0:0≤b∧b≤l.length):
 (execOp (ev N σ) ⟨dst,.slice t x none (some z) none,ty,pos,af,g⟩).run P w= .ok (.value<|str<|l.take b.toNat) w:=by
 have h1:b≤((⟨⟨l⟩⟩:ByteArray).size:Nat):=h0.2;have :=wW l 0 b.toNat;simp only [List.drop_zero] at this;simp [execOp,m3,qI,jY,m4,C,E,asIntOf,str,bu A,h0.1,h1];exact Dz this
theorem BN {t:au} {l:List UInt8} {k:bC} {a:Int} (A:P.underlying t=some .string) (C:ev N σ x=str l) (E:ev N σ y= .int k a) (h0:0≤a∧a≤l.length):
 (execOp (ev N σ) ⟨dst,.slice t x (some y) none none,ty,pos,af,g⟩).run P w= .ok (.value<|str<|l.drop a.toNat) w:=by
 have h1:a≤((⟨⟨l⟩⟩:ByteArray).size:Nat):=h0.2;have :=wW l a.toNat l.length;simp only [List.take_length] at this;simp [execOp,m3,qI,jY,m4,C,E,asIntOf,str,bu A,h0.1,h1];exact Dz this
theorem oK (l:List UInt8):(⟨⟨l⟩⟩:ByteArray).toList=l:=Lib.toList_data ⟨⟨l⟩⟩
theorem cc {t t':au} {l m:List UInt8} (C:ev N σ x=str l) (E:ev N σ y=str m) (h:l.length+m.length≤9223372036854775807):
 (execOp (ev N σ) ⟨dst,.binOp .add t x y t',ty,pos,af,g⟩).run P w= .ok (.value<|str<|l++m) w:=by
 have h1:¬(((⟨⟨l⟩⟩:ByteArray).size+(⟨⟨m⟩⟩:ByteArray).size:Nat):Int) > tq.max:=by
  have :tq.max=9223372036854775807:=aX;rw [this];show ¬((l.length+m.length:Nat):Int) > _;omega
 have A:(⟨⟨l⟩⟩:ByteArray)++(⟨⟨m⟩⟩:ByteArray)=⟨⟨l++m⟩⟩:=by
  apply ByteArray.ext; simp
 simp only [execOp,C,E,str,eqGuard,binOp,m7];rw [if_neg h1,A];rfl
theorem zK {t t':au} {l m:List UInt8} (A:ev N σ x=str l) (C:ev N σ y=str m):
 (execOp (ev N σ) ⟨dst,.binOp .eql t x y t',ty,pos,af,g⟩).run P w= .ok (.value<|.bool<|decide (l=m)) w:=by
 simp only [execOp,A,C,str,eqGuard,binOp,m7,oK];show qL (qJ<|.bool<|l==m) w=_;rw [show (l==m)=decide (l=m) from by rw [oQ]; simp]
theorem AP {t t':au} {l m:List UInt8} (A:ev N σ x=str l) (C:ev N σ y=str m):
 (execOp (ev N σ) ⟨dst,.binOp .neq t x y t',ty,pos,af,g⟩).run P w= .ok (.value<|.bool<|decide (l≠m)) w:=by
 simp only [execOp,A,C,str,eqGuard,binOp,m7,oK];show qL (qJ<|.bool<|!(l==m)) w=_;rw [show (!(l==m))=decide (l≠m) from by rw [oQ]; simp]
def mB (a b:List UInt8):Bool:=xU a b
theorem JC (x y:UInt8) (a b:List UInt8):mB (x::a) (y::b)=(decide (x < y) || (x==y && mB a b)):=rfl
theorem HW {t t':au} {l m:List UInt8} (A:ev N σ x=str l) (C:ev N σ y=str m):
 (execOp (ev N σ) ⟨dst,.binOp .lss t x y t',ty,pos,af,g⟩).run P w= .ok (.value<|.bool<|mB l m) w:=by
 simp only [execOp,A,C,str,eqGuard,binOp,m7,oK];rfl
theorem HK {t t':au} {l m:List UInt8} (A:ev N σ x=str l) (C:ev N σ y=str m):
 (execOp (ev N σ) ⟨dst,.binOp .leq t x y t',ty,pos,af,g⟩).run P w= .ok (.value<|.bool (mB l m || decide (l=m))) w:=by
 simp only [execOp,A,C,str,eqGuard,binOp,m7,oK];show qL (qJ<|.bool (xU l m || l==m)) w=_;rw [show (l==m)=decide (l=m) from by rw [oQ]; simp];rfl
theorem GX {t t':au} {l m:List UInt8} (A:ev N σ x=str l) (C:ev N σ y=str m):
 (execOp (ev N σ) ⟨dst,.binOp .gtr t x y t',ty,pos,af,g⟩).run P w= .ok (.value<|.bool<|!(mB l m || decide (l=m))) w:=by
 simp only [execOp,A,C,str,eqGuard,binOp,m7,oK];show qL (qJ<|.bool<|!(xU l m || l==m)) w=_;rw [show (l==m)=decide (l=m) from by rw [oQ]; simp];rfl
theorem GS {t t':au} {l m:List UInt8} (A:ev N σ x=str l) (C:ev N σ y=str m):
 (execOp (ev N σ) ⟨dst,.binOp .geq t x y t',ty,pos,af,g⟩).run P w= .ok (.value<|.bool<|!mB l m) w:=by
 simp only [execOp,A,C,str,eqGuard,binOp,m7,oK];rfl
theorem mf {fn:Fn} {first captured:Array aY} :(execOp (ev N σ) ⟨dst,.makeFunc fn first captured,ty,pos,af,g⟩).run P w= .ok (.value<|.func fn (first.map<|ev N σ)<|captured.map<|ev N σ) w:=rfl
theorem vD {fn:Fn} {first captured:Array aY} :(execOp (ev N σ) ⟨dst,.makeFunc fn first captured,ty,pos,af,g⟩).run P w= .ok (.value<|.func fn (first.toList.map<|ev N σ).toArray (captured.toList.map<|ev N σ).toArray) w:=by
 rw [mf,← iO,← iO]
end
end Go.Hb
namespace Go.Hb
def aA (h:Array Obj) (b:Nat) (L:List ag):Prop := ∃ e,h[b]? =some (.cells L.toArray e (0,0))
theorem aA.az {h:Array Obj} {b:Nat} {L:List ag} (hb:aA h b L) (j:Nat):Hb.az h b j=L[j]? :=by
 obtain ⟨e,hb⟩:=hb;rw [eo hb]; simp
theorem aA.aN {h:Array Obj} {b:Nat} {L:List ag} (hb:aA h b L) (j:Nat):Hb.az h b (0 +j)=L[j]? :=by
 rw [cK,hb.az]
theorem Md.B {F:Nat→Prop} {w w':ai} (h:Md F w w') {b:Nat} {L:List ag} (hb:aA w.heap b L) (A:¬F b):aA w'.heap b L:=
 let ⟨e,hb⟩:=hb; ⟨e,h.ax hb A⟩
theorem Wk.B {w w':ai} (h:Wk w w') {b:Nat} {L:List ag} (hb:aA w.heap b L):aA w'.heap b L:=Md.B h hb id
theorem aA.lt {h:Array Obj} {b:Nat} {L:List ag} (hb:aA h b L):b < h.size:=by grind [aA]
def bk (a:Option aZ):Nat:=match a with | some ad=>ad.block | none=>0
def fo (a:Option aZ):Nat:=match a with | some ad=>ad.off | none=>0
structure aU (h:Array Obj) (a:Option aZ) (xs:List ag):Prop where
 ok:xs≠[]→a=some ⟨bk a,fo a,none⟩
 az:∀ j u,xs[j]? =some u→Hb.az h (bk a) (fo a+j)=some u
theorem aU.nil (h:Array Obj) (a:Option aZ):aU h a []:=⟨fun h=>absurd rfl h,fun _ _ hu=>by simp at hu⟩
theorem aU.md {F:Nat→Prop} {w w':ai} {a:Option aZ} {xs:List ag} (A:aU w.heap a xs) (h:Md F w w') (C:xs≠[]→¬F (bk a)):aU w'.heap a xs:=
 ⟨A.ok,fun j u hu=>h.az (A.az j u hu)<|C<|by rintro rfl; simp at hu⟩
theorem aU.wk {w w':ai} {a:Option aZ} {xs:List ag} (A:aU w.heap a xs) (h:Wk w w'):aU w'.heap a xs:=A.md h fun _ x=>x
theorem aU.fZ {h:Array Obj} {b:Nat} {L:List ag} (hb:aA h b L):aU h (some ⟨b,0,none⟩) L:=
 ⟨fun _=>rfl,fun j u hu=>by show Hb.az h b (0 +j)=_; rw [cK,hb.az]; exact hu⟩
theorem aU.pv {h:Array Obj} {a:Option aZ} {xs:List ag} (A:aU h a xs) {i:Nat} {u:ag} (hu:xs[i]? =some u):Hb.az h (bk a) (fo a+i*1)=some u:=by
 rw [Nat.mul_one]; exact A.az i u hu
def gP (h:Array Obj) (a:Option aZ) (l:List (List UInt8)):Prop :=aU h a<|l.map str
theorem gP.get {h:Array Obj} {a:Option aZ} {l:List (List UInt8)} (A:gP h a l) {i:Nat} (hi:i < l.length):Hb.az h (bk a) (fo a+i*1)=some (str<|l.getD i []):=
 aU.pv A (by simp [b9,hi])
theorem gP.wk {w w':ai} {a:Option aZ} {l:List (List UInt8)} (A:gP w.heap a l) (h:Wk w w'):gP w'.heap a l:=aU.wk A h
theorem nQ {α:Type} {f:α→ag} {l:List α} (h:0 < l.length):l.map f≠[]:=by
 cases l with
 | nil=>simp at h
 | cons x l=>simp
def dL (P:av) (t e size bytes:Nat):Bool:=
 match P.underlying t with
 | some (.slice A)=>A==e && match P.info? e with
   | some i=>i.size==size && i.bytes==bytes && aF 0 size && match i.zero with
     | some z=>z.cells.size==size
     | none=>false
   | none=>false
 | _=>false
theorem oD {P:av} {t e size bytes:Nat} (h:dL P t e size bytes=true):
 P.underlying t=some (.slice e)∧∃ i z,P.info? e=some i∧i.zero=some z∧i.size=size∧i.bytes=bytes∧z.cells.size=size∧0 < size:=by
 unfold dL at h;split at h
 · rename_i E hu;simp only [bg,beq_iff_eq] at h;obtain ⟨rfl,h⟩:=h;split at h
   · rename_i i hi;simp only [bg,beq_iff_eq] at h;obtain ⟨⟨⟨h1,A⟩,h3⟩,h4⟩:=h;split at h4
     · rename_i z C;exact ⟨hu,i,z,hi,C,h1,A,by simpa using h4,lQ (lR 0)<|bQ h3⟩
     · cases h4
   · cases h
 · cases h
def cr (P:av) (t:au):Option Nat:=(P.info? t).map (·.size)
def zeroOf (P:av) (t:au):Option (Option<|List ag):=(P.info? t).map fun i=>i.zero.map fun z=>z.cells.toList
def fT (P:av) (f:dW):Prop := ∀ args w,(callFunc f args).run P w= .ok (.enter f args) w
theorem ug {P:av} {f:dW} {fn:fP} (C:P.funcs[f]? =some fn) (hn:(fn.name== "runtime.NumGoroutine")=false) (hb:fn.body.isNone=false):fT P f:=by
 intro args w;have h1:¬((fn.name== "runtime.NumGoroutine")=true):=by rw [hn]; simp
 have A:¬(fn.body.isNone=true):=by rw [hb]; simp
 simp only [callFunc,ik,run_program,gJ,C];rw [if_neg h1,if_neg A];rfl
section
variable {P:av} {N:Fm} {σ:Nat→ag} {w:ai} {dst:Option Nat} {ty:au} {pos :String} {af:Array cH} {g:Option (Nat×Bool)} {x y z:aY} {K:(Nat→ag)→ai→Prop}
theorem CL {o:aE} {f:dW} {L:List ag} {R:ag→ai→Prop} (C:(execOp (ev N σ) o).run P w= .ok (.enter f L.toArray) w) (hr:bp P f L.toArray w R)
 (k:∀ v w',R v w'→K (dd σ o.dst v) w'):bW P N o σ w K:=by
 unfold bW gj;rw [dq,C];refine jV hr fun e w' ⟨v,he,A⟩=> ?_;subst he;exact ⟨_,eD ..,k v w' A⟩
theorem cl {f:dW} {args:Array aY} {A:Array au} {L:List ag} {R:ag→ai→Prop} (E:fT P f) (hr:bp P f L.toArray w R) (C:args.toList.map (ev N σ)=L)
 (k:∀ v w',R v w'→K (dd σ dst v) w'):bW P N ⟨dst,.call ⟨.value (.func f),args,A⟩,ty,pos,af,g⟩ σ w K:=by
 refine CL (f:=f) ?_ hr k;have :args.map (ev N σ)=L.toArray:=by rw [← C,← iO]
 simp [execOp,resolve,ev,lL,invoke,this,E L.toArray w]
theorem uo {f:dW} {fo:aY} {first cap:Array ag} {args:Array aY} {A:Array au} {L:List ag} {R:ag→ai→Prop} (E:fT P f) (I:ev N σ fo= .func (.func f) first cap)
 (hr:bp P f L.toArray w R) (C:first.toList++args.toList.map (ev N σ)++cap.toList=L)
 (k:∀ v w',R v w'→K (dd σ dst v) w'):bW P N ⟨dst,.call ⟨.value fo,args,A⟩,ty,pos,af,g⟩ σ w K:=by
 refine CL (f:=f) ?_ hr k;have :first++args.map (ev N σ)++cap=L.toArray:=by rw [← C,← iO,← C3,← C3]
 simp [execOp,resolve,I,lL,invoke,this,E L.toArray w]
theorem lK {o:aE} {ob:Obj} {v:Nat→ag} (A:(execOp (ev N σ) o).run P w= .ok (.value<|v w.heap.size) {w with heap:=w.heap.push ob})
 (k:∀ b w',b=w.heap.size→Nw w w'→w'.heap[b]? =some ob→K (dd σ o.dst<|v b) w'):bW P N o σ w K:=by grind [ig,It]
theorem al {e:au} {C:List ag} (A:zeroOf P e=some (some C)) (k:∀ b w',b=w.heap.size→Nw w w'→aA w'.heap b C→K (dd σ dst<|.pointer<|some ⟨b,0,none⟩) w'):
 bW P N ⟨dst,.alloc e,ty,pos,af,g⟩ σ w K:=by
 refine lK (v:=fun b=> .pointer<|some ⟨b,0,none⟩) (ob:= .cells C.toArray e (0,0)) ?_ fun b w' h1 E I=>k b w' h1 E ⟨e,I⟩;unfold zeroOf at A;simp only [fg] at A;obtain ⟨i,hi,zv,J,rfl⟩:=A;simp [execOp,tk,zeroValue,c9 hi,J,newVar,newRow]
theorem ek {e:au} {C:List ag} (A:zeroOf P e=some (some C)) (k:∀ b w',b=w.heap.size→Nw w w'→w'.heap[b]? =some (.cells C.toArray e (0,0))→K (dd σ dst<|.pointer<|some ⟨b,0,none⟩) w'):
 bW P N ⟨dst,.alloc e,ty,pos,af,g⟩ σ w K:=by
 refine lK (v:=fun b=> .pointer<|some ⟨b,0,none⟩) (ob:= .cells C.toArray e (0,0)) ?_ k;unfold zeroOf at A;simp only [fg] at A;obtain ⟨i,hi,zv,E,rfl⟩:=A;simp [execOp,tk,zeroValue,c9 hi,E,newVar,newRow]
theorem bx {e:au} {v:ag} {L:List ag} (I:ev N σ x=v) (E:v.cells.toList=L) (k:∀ b w',b=w.heap.size→Nw w w'→aA w'.heap b L→K (dd σ dst<|.pointer<|some ⟨b,0,none⟩) w'):
 bW P N ⟨dst,.box e x,ty,pos,af,g⟩ σ w K:=by
 subst E;refine lK (v:=fun b=> .pointer<|some ⟨b,0,none⟩) (ob:= .cells v.cells e (0,0)) ?_ fun b w' h1 A C=>k b w' h1 A ⟨e,C⟩;simp [execOp,xQ,I,newVar,newRow]
theorem E2 {t e:au} {size bytes:Nat} (I:dL P t e size bytes=true)
 (k:∀ b w',b=w.heap.size→Nw w w'→(∀ B,B≤b→w'.ownsRow B e size (.slice (some ⟨b,0,none⟩) 0 0) 0 [])→K (dd σ dst<|.slice (some ⟨b,0,none⟩) 0 0) w'):bW P N ⟨dst,.buildSlice t 0 #[],ty,pos,af,g⟩ σ w K:=by
 refine lK (v:=fun b=> .slice (some ⟨b,0,none⟩) 0 0) (ob:= .cells #[] e (0,0)) ?_ fun b w' h1 A C=>k b w' h1 A fun B E=>⟨by simp,.inr ⟨b,0,#[],J,E,C,aV _,by simp [maxLen],by simp,by simp⟩⟩
 obtain ⟨hu,i,zv,hi,M,h1,A,C,L⟩:=oD I;simp [execOp,tl,bu hu,sizeOf,c9 hi,jX,newRow];congr 2;exact Array.eq_empty_of_size_eq_zero<|by simp
theorem E3 {t e:au} {size bytes:Nat} {v:ag} {L:List ag} (V:dL P t e size bytes=true) (O:bj size 1000=true) (ab:ev N σ x=v) (Z:v.cells.size=size)
 (I:v.cells.toList=L) (k:∀ b w',b=w.heap.size→Nw w w'→w'.heap[b]? =some (.cells L.toArray e (0,0))→K (dd σ dst<|.slice (some ⟨b,0,none⟩) 1 1) w'):bW P N ⟨dst,.buildSlice t 1 #[(0,x)],ty,pos,af,g⟩ σ w K:=by
 subst I;refine lK (v:=fun b=> .slice (some ⟨b,0,none⟩) 1 1) (ob:= .cells v.cells e (0,0)) ?_ fun b w' h1 A C=>k b w' h1 A<|by simpa using C
 obtain ⟨hu,i,zv,hi,ac,h1,A,C,ad⟩:=oD V;have ae:size≤1000:=by simpa using O
 have J:jX (fun i=>some (i*size,size)) ((oN size).map (zv.cells[· % zv.cells.size]!)) [(0,v)]=some v.cells:=by
  have E:((oN size).map (zv.cells[· % zv.cells.size]!)).size=size:=by simp
  generalize (oN size).map (zv.cells[· % zv.cells.size]!)=cs at E;simp only [jX,Z];rw [if_neg (by rw [E]; simp)];congr 1;have key:∀ (l:List ag) (m:Nat) (cs:Array ag),m+l.length≤cs.size→∀ j,((l.zipIdx m).foldl (fun (cs:Array ag) (c,j)=>cs.setIfInBounds (0 *size+j) c) cs)[j]? =if j < m then cs[j]? else if j < m+l.length then l[j - m]? else cs[j]? :=by
   intro l
   induction l with
   | nil=>intro m cs hm j; simp; intro h1 A; omega
   | cons c l ih=>
     intro m cs hm j;simp only [List.zipIdx_cons,kI,dx] at hm ⊢;rw [ih (m+1) _ (by simp; omega)];simp only [pb,cK,qD];by_cases h1:j < m
     · rw [if_pos U,if_pos h1,if_neg U]
     · rw [if_neg h1];by_cases A:j=m
       · subst A;rw [if_pos U,if_pos rfl,if_pos U,if_pos U];simp
       · rw [if_neg U];by_cases C:j < m+1 +l.length
         · rw [if_pos C,if_pos U];obtain ⟨q,M⟩:∃ q,j - m=q+1:=⟨j - m - 1,U⟩
           rw [M,gK,show j - (m+1)=q from by omega]
         · rw [if_neg C,if_neg U,if_neg U]
  apply CW;intro j;have :=key v.cells.toList 0 cs (by simp; omega) j;rw [show (v.cells.zipIdx.foldl (fun (cs:Array ag) (c,j)=>cs.setIfInBounds (0 *size+j) c) cs)=((v.cells.toList.zipIdx 0).foldl (fun (cs:Array ag) (c,j)=>cs.setIfInBounds (0 *size+j) c) cs) from by
   rw [← Array.foldl_toList]; simp [Array.toList_zipIdx]]
  rw [this];simp only [Nat.not_lt_zero,if_false,cK,Nat.sub_zero,kC,Array.getElem?_toList];split
  · rfl
  · rw [ta U,ta U]
 simp only [execOp,tl,ik,bu hu,gJ,sizeOf,c9 hi,kE,h1,Nat.one_mul,tv,zeroValue,ac,List.map_toArray,eA,List.map_nil,ab,J];rw [if_neg (by rw [show (2:Nat) ^ 24=16777216 from rfl]; omega),if_neg U];simp [newRow]
theorem yH {t e:au} {size bytes:Nat} {v:ag} {L:List ag} (J:dL P t e size bytes=true) (I:bj size 1000=true) (O:ev N σ x=v) (M:v.cells.size=size)
 (E:v.cells.toList=L) (k:∀ b w',b=w.heap.size→Nw w w'→aA w'.heap b L→K (dd σ dst<|.slice (some ⟨b,0,none⟩) 1 1) w'):bW P N ⟨dst,.buildSlice t 1 #[(0,x)],ty,pos,af,g⟩ σ w K:=
 E3 J I O M E fun b w' h1 A C=>k b w' h1 A ⟨_,C⟩
theorem mw {v:ag} (h:v.oneCell'=true):v.cells= #[v]:=by cases v <;> first | rfl | (cases h; done)
theorem j6 {t e:au} {bytes:Nat} {v:ag} (A:dL P t e 1 bytes=true) (C:ev N σ x=v) (h1:v.oneCell'=true)
 (k:∀ b w',b=w.heap.size→Nw w w'→aA w'.heap b [v]→K (dd σ dst<|.slice (some ⟨b,0,none⟩) 1 1) w'):bW P N ⟨dst,.buildSlice t 1 #[(0,x)],ty,pos,af,g⟩ σ w K:=
 yH A rfl C (by rw [mw h1]; rfl) (by rw [mw h1]) k
theorem nq {t e:au} {size bytes:Nat} {L:List ag} (E:dL P t e size bytes=true) (C:bj size 1000=true) (I:ev N σ x= .agg L.toArray) (A:L.length=size)
 (k:∀ b w',b=w.heap.size→Nw w w'→aA w'.heap b L→K (dd σ dst<|.slice (some ⟨b,0,none⟩) 1 1) w'):bW P N ⟨dst,.buildSlice t 1 #[(0,x)],ty,pos,af,g⟩ σ w K:=
 yH E C I (by simpa [oT] using A) (by simp [oT]) k
theorem E5 {e:au} {v:ag} (A:ev N σ x=v) (h1:v.oneCell'=true) (k:∀ b w',b=w.heap.size→Nw w w'→aA w'.heap b [v]→K (dd σ dst<|.pointer<|some ⟨b,0,none⟩) w'):
 bW P N ⟨dst,.box e x,ty,pos,af,g⟩ σ w K:=bx A (by rw [mw h1]) k
theorem nr {e:au} {L:List ag} (A:ev N σ x= .agg L.toArray) (k:∀ b w',b=w.heap.size→Nw w w'→aA w'.heap b L→K (dd σ dst<|.pointer<|some ⟨b,0,none⟩) w'):
 bW P N ⟨dst,.box e x,ty,pos,af,g⟩ σ w K:=bx A (by simp [oT]) k
theorem px {e:au} {L:List ag} (E:ev N σ x= .agg L.toArray) (k:∀ b w',b=w.heap.size→Nw w w'→w'.heap[b]? =some (.cells L.toArray e (0,0))→K (dd σ dst<|.pointer<|some ⟨b,0,none⟩) w'):
 bW P N ⟨dst,.box e x,ty,pos,af,g⟩ σ w K:=by
 refine lK (v:=fun b=> .pointer<|some ⟨b,0,none⟩) (ob:= .cells L.toArray e (0,0)) ?_ fun b w' h1 A C=>k b w' h1 A C;simp [execOp,xQ,E,newVar,newRow,oT]
theorem pq {l:List ag} (h:l.all jx=true):∀ u∈l,u.oneCell'=true :=x7.1 h
theorem dT {t b off :Nat} {e:au} {L:List ag} {v:ag} (A:cr P t=some 1) (ac:ev N σ x= .pointer (some ⟨b,off,none⟩)) (ad:ev N σ y=v) (h1:v.oneCell'=true) (hb:w.heap[b]? =some (.cells L.toArray e (0,0))) (U:off < L.length)
 (k:∀ w',Md (fun k=>k=b) w w'→w'.heap[b]? =some (.cells (L.set off v).toArray e (0,0))→K σ w'):bW P N ⟨none,.store t x y,ty,pos,af,g⟩ σ w K:=by
 have E:v.cells= #[v]:=by cases v <;> first | rfl | (cases h1; done)
 have I:w.cell? ⟨b,off,none⟩=some L[off]:=by rw [gR,eo hb]; simp [U]
 have M:w.frozen? ⟨b,off,none⟩=false :=by simp only [World.frozen?,show w.heap[b]? =_ from hb]; simp
 unfold cr at A;simp only [fg] at A;obtain ⟨i,hi,Z⟩:=A;have C:(⟨b,off,none⟩:aZ).add 0=⟨b,off,none⟩:=rfl;have V:(execOp (ev N σ) ⟨none,.store t x y,ty,pos,af,g⟩).run P w= .ok .skip (w.setCell ⟨b,off,none⟩ v):=by
  simp [execOp,xT,ac,ad,m5,storeVar,E,sizeOf,c9 hi,Z,storeCells,C,run_store P w _ v _ h1,I,M]
 unfold bW gj;rw [dq,V];refine ⟨σ,J,k _ ⟨J,J,by simp [DF],fun k _ O=> ?_⟩ ?_⟩
 · exact Below.heap_setCell w _ v k O
 · have aP:=(eM.1 hb).1;have ab:w.heap[b]= .cells L.toArray e (0,0):=(eM.1 hb).2;simp only [DF];rw [mU (by simpa using aP),Array.getElem_modify];simp [ab,List.setIfInBounds_toArray]
theorem st {t b off :Nat} {L:List ag} {v:ag} (J:cr P t=some 1) (E:ev N σ x= .pointer (some ⟨b,off,none⟩)) (I:ev N σ y=v) (h1:v.oneCell'=true) (hb:aA w.heap b L) (C:off < L.length)
 (k:∀ w',Md (fun k=>k=b) w w'→aA w'.heap b (L.set off v)→K σ w'):bW P N ⟨none,.store t x y,ty,pos,af,g⟩ σ w K:=
 let ⟨_,hb⟩:=hb
 dT J E I h1 hb C fun w' h1 A=>k w' h1 ⟨_,A⟩
theorem eK {t b off n:Nat} {e:au} {L vs:List ag} (A:cr P t=some n) (M:ev N σ x= .pointer (some ⟨b,off,none⟩)) (O:ev N σ y= .agg vs.toArray) (hn:vs.length=n) (h1:vs.all jx=true) (hb:w.heap[b]? =some (.cells L.toArray e (0,0))) (U:off+n≤L.length)
 (k:∀ w',Md (fun k=>k=b) w w'→w'.heap[b]? =some (.cells (L.take off++vs++L.drop (off+n)).toArray e (0,0))→K σ w'):bW P N ⟨none,.store t x y,ty,pos,af,g⟩ σ w K:=by
 unfold cr at A;simp only [fg] at A;obtain ⟨i,hi,I⟩:=A;have bh:=run_storeCells_at P b off e vs 0 L.toArray w hb (by simp; omega)<|pq h1;have E:(execOp (ev N σ) ⟨none,.store t x y,ty,pos,af,g⟩).run P w= .ok .skip (w.setRow b (L.take off++vs++L.drop (off+n)).toArray):=by
  simp [execOp,xT,M,O,m5,storeVar,oT,sizeOf,c9 hi,I,hn,bh]
 unfold bW gj;rw [dq,E];exact ⟨σ,J,k _ ⟨J,J,by simp,fun k _ C=>setRow_other w b k _ C⟩<|setRow_heap w b _ _ e _ hb⟩
theorem qv {t b off n:Nat} {L vs:List ag} (A:cr P t=some n) (M:ev N σ x= .pointer (some ⟨b,off,none⟩)) (O:ev N σ y= .agg vs.toArray) (hn:vs.length=n) (h1:vs.all jx=true) (hb:aA w.heap b L) (U:off+n≤L.length)
 (k:∀ w',Md (fun k=>k=b) w w'→aA w'.heap b (L.take off++vs++L.drop (off+n))→K σ w'):bW P N ⟨none,.store t x y,ty,pos,af,g⟩ σ w K:=by
 obtain ⟨e,hb⟩:=hb;unfold cr at A;simp only [fg] at A;obtain ⟨i,hi,I⟩:=A;have bh:=run_storeCells_at P b off e vs 0 L.toArray w hb (by simp; omega)<|pq h1;have E:(execOp (ev N σ) ⟨none,.store t x y,ty,pos,af,g⟩).run P w= .ok .skip (w.setRow b (L.take off++vs++L.drop (off+n)).toArray):=by
  simp [execOp,xT,M,O,m5,storeVar,oT,sizeOf,c9 hi,I,hn,bh]
 unfold bW gj;rw [dq,E];exact ⟨σ,J,k _ ⟨J,J,by simp,fun k _ C=>setRow_other w b k _ C⟩ ⟨e,setRow_heap w b _ _ e _ hb⟩⟩
theorem EM {t ty e:au} {i:TypeInfo} {zv:ag} {B n m c:Nat} {v Z:ag} {xs news:List ag} {ad:aZ} {w':ai} (hu:P.underlying t=some (.slice e)) (hi:P.info? e=some i) (V:i.zero=some zv) (ak:zv.cells.size=i.size) (ah:0 < i.size)
 (I:w.ownsRow B e i.size v n xs) (E:news.length=m*i.size) (J:∀ j u,news[j]? =some u→w.cell? (ad.add j)=some u) (h1:∀ u∈news,u.oneCell'=true) (L:n+m≤maxLen) (hb:(n+m)*i.bytes≤140737488355328)
 (hr:(jv #[t,t] ty #[v,.slice (some ad) m c]).run P w= .ok Z w'):∀ k,Z.ownBlock=some k→v.ownBlock=some k∨w.heap.size≤k:=by
 intro k A;have am:n+m≤9223372036854775807:=by unfold maxLen at L; omega
 rcases I.2 with ⟨rfl,rfl⟩ | ⟨C,cap,cur,rfl,ao,hg,aq,ap,ac,ar⟩
 · have aj:xs= []:=kH<|by simpa using I.1
   subst aj;obtain ⟨v2,av,M,ab,_,_⟩:=run_append_own (P:=P) w w.heap.size t ty e i zv i.size i.bytes hu hi V rfl rfl ak ah _ 0 [] (fF w w.heap.size e i.size) ad m c news E J h1 L hb (aV _);rw [hr] at M;cases M;exact .inr (by
    rcases ab.2 with ⟨h,_⟩ | ⟨al,_,_,h,an,_⟩
    · rw [h] at A; simp [eU] at A
    · rw [h] at A; simp only [eU,bH] at A; omega)
 · by_cases O:n+m≤cap
   · have ae:n*i.size+news.length≤cur.size:=by rw [E,ac,← Nat.add_mul]; exact kN _ O
     rw [run_append_room (P:=P) w t ty e i hu hi C n cap cur hg ad m c news E J h1 O ae] at hr;cases hr;exact .inl A
   · have holds:∀ j u,xs[j]? =some u→w.cell? ((⟨C,0,none⟩:aZ).add j)=some u:=I.cells (g:=C) rfl;rw [run_append_grow (P:=P) w t ty e i zv hu hi V ⟨C,0,none⟩ n cap xs I.1 holds ad m c news E J U U (growslice_fits U hb)] at hr;cases hr;simp only [eU,bH] at A;exact .inr U
theorem ap {t e size bytes B n m c:Nat} {v:ag} {xs news:List ag} {a:Option aZ} (ao:dL P t e size bytes=true) (E:w.ownsRow B e size v n xs) (Z:ev N σ x=v) (ai:B≤w.heap.size)
 (ab:ev N σ y= .slice a m c) (L:aU w.heap a news) (I:news.length=m*size) (h1:news.all jx=true) (hb:(n+m)*bytes≤140737488355328) (au:n+m≤9223372036854775807)
 (k:∀ A w',w'.ownsRow B e size A (n+m) (xs++news)→Md (fun k=>v.ownBlock=some k) w w'→(A= .slice none 0 0↔v= .slice none 0 0∧m=0)→(∀ k,A.ownBlock=some k→v.ownBlock=some k∨w.heap.size≤k)→K (dd σ dst A) w'):
 bW P N ⟨dst,.call ⟨.builtin .append,#[x,y],#[t,t]⟩,ty,pos,af,g⟩ σ w K:=by
 obtain ⟨hu,i,zv,hi,ac,V,J,ad,U⟩:=oD ao;have M:n+m≤maxLen:=by unfold maxLen; omega
 by_cases hm:news= []
 · subst hm;have al:m=0:=by
    rcases Nat.mul_eq_zero.1 (I.symm.trans rfl) with h | h
    · exact h
    · omega
   subst al;have an:(jv #[t,t] ty #[v,.slice a 0 c]).run P w= .ok v w:=by
    rcases E.2 with ⟨rfl,rfl⟩ | ⟨ar,cap,cur,rfl,_,_,hle,_⟩
    · cases a <;> simp [jv,bu hu,sizeOf,c9 hi,Da,tj,loadCells,loadCellsFrom]
    · cases a <;> simp [jv,bu hu,sizeOf,c9 hi,Da,tj,loadCells,loadCellsFrom,hle,storeCells]
   refine ig (w':=w) (v:=v) ?_<|k v w (by simpa using E) (Md.refl _ _) (by simp) fun _ h=> .inl h;simp [execOp,resolve,invoke,builtin,Z,ab,an]
 · have ha:=L.ok hm;have O:∀ j u,news[j]? =some u→w.cell? ((⟨bk a,fo a,none⟩:aZ).add j)=some u:=fun j u hu=>by rw [dY,gR]; exact L.az j u hu
   obtain ⟨A,w',hr,ae,C,ah⟩:=run_append_own (P:=P) w B t ty e i zv size bytes hu hi ac V J ad U v n xs E ⟨bk a,fo a,none⟩ m c news I O (pq h1) M hb ai;subst V J;have aj:=EM hu hi ac ad U E I O (pq h1) M hb hr;refine ig (w':=w') (v:=A) ?_<|k A w' ae ⟨C.os,C.output,C.size,fun k ak am=>C.block k ak fun e=>am e.symm⟩ ah aj;have aq:ev N σ y= .slice (some ⟨bk a,fo a,none⟩) m c:=ab.trans<|congrArg (fun a=>bZ a m c) ha;simp [execOp,resolve,invoke,builtin,Z,aq,hr]
theorem bF {t n len cap:Nat} {k:bC} {i:Int} {a:Option aZ} (he:cV P t=some n) (A:ev N σ x= .slice a len cap) (C:ev N σ y= .int k i) (h0:0≤i∧i < len) (ha:a=some ⟨bk a,fo a,none⟩):
 (execOp (ev N σ) ⟨dst,.indexAddr t x y,ty,pos,af,g⟩).run P w= .ok (.value<|.pointer<|some ⟨bk a,fo a+i.toNat*n,none⟩) w:=
 ia he (by rw [A]; congr 1) C h0
end
theorem du {F:Nat→Prop} {w w':ai} {B e size n:Nat} {v:ag} {xs:List ag} (h:w.ownsRow B e size v n xs) (hm:Md F w w') (A:∀ k,v.ownBlock=some k→¬F k):w'.ownsRow B e size v n xs:=by
 refine ⟨h.1,?_⟩;rcases h.2 with hn | ⟨g,cap,cur,rfl,hb,C,rest⟩
 · exact .inl hn
 · exact .inr ⟨g,cap,cur,J,hb,hm.ax C (A g J),rest⟩
section
variable {P:av} {N:Fm} {σ:Nat→ag} {w:ai} {dst:Option Nat} {ty:au} {pos :String} {af:Array cH} {g:Option (Nat×Bool)} {x y z:aY} {K:(Nat→ag)→ai→Prop}
theorem sO {t B e size n cap off j:Nat} {a:Option aZ} {xs:List ag} {u:ag} (ac:w.ownsRow B e size (.slice a n cap) n xs) (ai:cr P t=some 1) (ae:ev N σ x= .pointer (some ⟨bk a,off,none⟩)) (ah:ev N σ y=u) (h1:u.oneCell'=true)
 (U:off =fo a+j) (ab:j < n*size)
 (k:∀ w',Md (fun k=>(bZ a n cap).ownBlock=some k) w w'→w'.ownsRow B e size (.slice a n cap) n (xs.set j u)→K σ w'):bW P N ⟨none,.store t x y,ty,pos,af,g⟩ σ w K:=by
 obtain ⟨h0,h⟩:=ac;rcases h with ⟨h,rfl⟩ | ⟨A,aj,cur,h,E,hg,hle,O,C,ad⟩
 · simp at ab
 · simp only [m9,true_and] at h;obtain ⟨rfl,rfl⟩:=h;have V:off =j:=by rw [U]; simp [fo]
   subst V;have hlen:off < cur.toList.length:=by
    have :=kN size hle;rw [kC,C]; omega
   refine dT (L:=cur.toList) ai ae ah h1 (show w.heap[A]? =_ by simpa using hg) hlen fun w' M I=>k w' (M.mono fun k _ Z=>by subst Z; rfl) ⟨by simpa using h0,.inr ⟨A,cap,_,J,E,I,hle,O,by simpa using C,?_⟩⟩;rw [← ad];simp only;rw [List.take_set]
end
theorem vU {w:ai} {B e size n:Nat} {v:ag} {xs:List ag} (h:w.ownsRow B e size v n xs):v.oneCell'=true :=by
 rcases h.2 with ⟨rfl,_⟩ | ⟨g,cap,cur,rfl,_⟩ <;> rfl
theorem dK {w:ai} {B e size n:Nat} {v:ag} {xs:List ag} (h:w.ownsRow B e size v n xs):∃ a cap,v= .slice a n cap:=by
 rcases h.2 with ⟨rfl,rfl⟩ | ⟨g,cap,cur,rfl,_⟩
 · exact ⟨_,_,J⟩
 · exact ⟨_,_,J⟩
theorem si {w:ai} {B B' e I size O n M:Nat} {v J:ag} {xs U:List ag} (h:w.ownsRow B e size v n xs) (h':w.ownsRow B' I O J M U) (L:e≠I) {k:Nat} (C:v.ownBlock=some k):J.ownBlock≠some k:=by
 intro E;rcases h.2 with ⟨rfl,_⟩ | ⟨g,cap,cur,rfl,_,hg,_⟩
 · simp [eU] at C
 · rcases h'.2 with ⟨rfl,_⟩ | ⟨ab,V,Z,rfl,_,A,_⟩
   · simp [eU] at E
   · simp only [eU,bH] at C E;subst C E;rw [hg] at A;simp only [bH,Dv] at A;exact L A.2.1
theorem bN {w w':ai} {B e size n:Nat} {v:ag} {xs:List ag} (h:w.ownsRow B e size v n xs) (hm:Wk w w'):w'.ownsRow B e size v n xs:=du h hm fun _ _ x=>x
theorem de {w:ai} {B e size n:Nat} {v:ag} {xs:List ag} (h:w.ownsRow B e size v n xs) {k:Nat} (A:v.ownBlock=some k):B≤k∧k < w.heap.size:=h.lt k A
theorem Wk.own {w0 w w':ai} {B e size n:Nat} {v:ag} {xs:List ag} (h:Wk w0 w) (A:w.ownsRow B e size v n xs) (hm:Md (fun k=>v.ownBlock=some k) w w') (E:w0.heap.size≤B):Wk w0 w':=
 Md.trans' h hm (fun k I C=>by have :=(de A C).1; omega)
theorem nZ {w:ai} {B e size n:Nat} {v:ag} {xs:List ag} (h:w.ownsRow B e size v n xs):∃ a cap,v= .slice a n cap∧aU w.heap a xs∧n≤cap∧(∀ k,v.ownBlock=some k→a=some ⟨k,0,none⟩∧B≤k∧k < w.heap.size)∧(v.ownBlock=none→xs= []):=by
 rcases h.2 with ⟨rfl,rfl⟩ | ⟨g,cap,cur,rfl,hb,C,hle,_,_,E⟩
 · have :xs= []:=kH<|by simpa using h.1
   subst this;exact ⟨none,0,J,aU.nil _ _,aV _,fun k A=>by simp [eU] at A,fun _=>rfl⟩
 · refine ⟨_,cap,J,⟨fun _=>rfl,fun j u hu=> ?_⟩,hle,fun k A=> ?_,fun A=>by simp [eU] at A⟩
   · show az w.heap g (0 +j)=_;rw [cK,eo C];rw [← E,il] at hu;split at hu
     · simpa using hu
     · cases hu
   · simp only [eU,bH] at A; subst A;exact ⟨J,hb,(eM.1 C).1⟩
theorem bV {w:ai} {B e size n cap:Nat} {a:Option aZ} {xs:List ag} (h:w.ownsRow B e size (.slice a n cap) n xs):n≤cap∧aU w.heap a xs:=by grind [nZ]
theorem vT {w:ai} {B B' e size n:Nat} {v:ag} {xs:List ag} (h:w.ownsRow B e size v n xs) (C:B'≤B):w.ownsRow B' e size v n xs:=by
 refine ⟨h.1,?_⟩;rcases h.2 with h | ⟨g,cap,cur,h1,A,r⟩
 · exact .inl h
 · exact .inr ⟨g,cap,cur,h1,cX C A,r⟩
theorem IG {w:ai} {B e size n cap:Nat} {a:Option aZ} {xs:List ag} (h:w.ownsRow B e size (.slice a n cap) n xs) (J:xs≠[]):B≤bk a∧bk a < w.heap.size:=by
 obtain ⟨L,c',A,_,_,h1,C⟩:=nZ h;simp only [m9,true_and] at A;obtain ⟨rfl,rfl⟩:=A;cases hk:(bZ a n cap).ownBlock with
 | none=>exact absurd (C hk) J
 | some k=>
   obtain ⟨rfl,E,I⟩:=h1 k hk;exact ⟨E,I⟩
section
variable {P:av} {N:Fm} {σ:Nat→ag} {w:ai} {dst:Option Nat} {ty:au} {pos :String} {af:Array cH} {g:Option (Nat×Bool)} {x y z:aY} {K:(Nat→ag)→ai→Prop}
end
end Go.Hb
namespace Go.Hb
section
variable {P:av} {md:m8} {ops:Array aE} {Q:bt→Act→ai→Prop} {S:ai→Prop} {r:Nat}
def kA (P:av) (md:m8) (ops:Array aE) (Q:bt→Act→ai→Prop) (S:ai→Prop) (r:Nat):Nat→Array Bool→Act→ai→Prop
 | 0,listed,a,w=>dM md ops listed= []∧Q .normal a w
 | fuel+1,listed,a,w=>
   (dM md ops listed= []→Q .normal a w)∧
   ∀ i∈dM md ops listed,wpOp P ops Q i (fun A w'=>((listed.setIfInBounds i true).getD r false =false→S w')∧kA P md ops Q S r fuel (listed.setIfInBounds i true) A w') a w
theorem CG:∀ (fuel:Nat) (listed:Array Bool) (a:Act) (w:ai),kA P md ops Q S r fuel listed a w→wpAny P md ops Q fuel listed a w
 | 0,_,_,_,h=>h
 | fuel+1,_,_,_,h=>⟨h.1,fun i hi=>wpOp_mono (fun A w' h'=>CG fuel _ A w' h'.2)<|h.2 i hi⟩
theorem K4 {i:Nat} {E:aE} {v:ag} (hi:ops[i]? =some E) (aj:∀ (j:Nat) (o:aE) cs b,ops[j]? =some o→o.op≠.select cs b)
 (an:∀ c a w,Q (.panic c) (a.put E.dst v) w→Q (.panic c) a w) (ay:∀ o,ops[r]? =some o→∃ x∈o.after,dw md x=true∧x.on=i) (aq:i≠r):
 ∀ (fuel:Nat) (listed:Array Bool) (a:Act) (w:ai),
   (∀ j C,ops[j]? =some C→j≠i→listed.getD j true =false→(∀ x∈C.after,dw md x=true→x.on≠i)→E.apart ops C=true)→
   i∈dM md ops listed→YieldsIf P ops S E v a→S w→listed.getD r false =false→
   kA P md ops Q S r fuel (listed.setIfInBounds i true) (a.put E.dst v) w→kA P md ops Q S r (fuel+1) listed a w:=by
 intro fuel
 induction fuel with
 | zero=>
   intro listed a w _ hr O I _ H;refine ⟨fun h=>(by rw [h] at hr; cases hr),fun j L=> ?_⟩;by_cases A:j=i
   · subst A; exact O.wpOp hi I ⟨fun _=>I,H⟩
   · have :=ready_mono L A;rw [H.1] at this;cases this
 | succ fuel ih=>
   intro listed a w V hr O I ad H;refine ⟨fun h=>(by rw [h] at hr; cases hr),fun j L=> ?_⟩;by_cases A:j=i
   · subst A; exact O.wpOp hi I ⟨fun _=>I,H⟩
   · have h1:=H.2 j<|ready_mono L A;obtain ⟨ac,C,M,ao⟩:=mem_ready.1 L;have ah:∀ x∈C.after,dw md x=true→x.on≠i:=fun x U hb heq=>by
      have h1:=ao x U hb;have h0:=(mem_ready.1 hr).1;rw [heq] at h1;rcases dk i listed.size with h' | h'
      · simp [h'] at h0 h1; rw [h0] at h1; cases h1
      · simp [ta h'] at h1
     have ab:j≠r:=by
      rintro rfl;obtain ⟨x,U,hb,ax⟩:=ay C M;exact ah x U hb ax
     have av:(listed.setIfInBounds j true).getD r false =false :=by rw [getD_set_ne false ab]; exact ad
     have ae:((listed.setIfInBounds i true).setIfInBounds j true).getD r false =false :=by rw [getD_set_ne false ab,getD_set_ne false aq]; exact ad
     have am:=wpOp_putIf M (V j C M A ac ah) (fun cs b=>aj i E cs b hi) (fun cs b=>aj j C cs b M) an O h1;have ap:∀ k ok,ops[k]? =some ok→k≠i→(listed.setIfInBounds j true).getD k true =false→
      (∀ x∈ok.after,dw md x=true→x.on≠i)→E.apart ops ok=true :=fun k ok ar au ak aw=>by
      refine V k ok ar au ?_ aw;by_cases Z:j=k
      · subst Z; exact ac
      · rw [getD_set_ne true Z] at ak; exact ak
     refine wpOp_mono (fun al w' J=>⟨fun _=>J.2.1 ae,ih (listed.setIfInBounds j true) al w' ap (ready_mono hr<|Ne.symm A) J.1 (J.2.1 ae) av ?_⟩) am;rw [xM _ _ A];exact J.2.2
end
section
variable {P:av} {N:Fm} {ops:Array aE} {Q:bt→(Nat→ag)→ai→Prop} {σ:Nat→ag} {w:ai} {S:ai→Prop} {r fuel:Nat} {listed:Array Bool}
 {d':Option Nat} {d:Nat} {op:Op} {ty:au} {pos :String} {af:Array cH} {v:ag}
def cD (P:av) (N:Fm) (ops:Array aE) (Q:bt→(Nat→ag)→ai→Prop) (S:ai→Prop) (r fuel:Nat) (listed:Array Bool) (σ:Nat→ag) (w:ai):Prop :=
 kA P .any ops (lift N Q) S r fuel listed (act N σ) w
theorem nO {id:Nat} {l:List aE} (S:ai→Prop) (r:Nat) (hr:kq N.r l=true) (hm:P.follows .mixedOrders=true) (A:S w.drew) (h:cD P N l.toArray Q S r l.length (oO l.length false) σ w.drew):bE P N (.region id l.toArray true) Q σ w:=by
 exact yx hr hm<|CG _ _ _ _<|by rw [eh]; exact h
def pM (F:List Nat) (ops:Array aE) (listed:Array Bool) (r i:Nat):Bool:=
 ee F ops listed i && !(listed.getD r false) && i !=r && (match ops[r]? with | some o=>o.after.toList.any (fun x=>dw .any x && x.on==i) | none=>false)
theorem lq (i:Nat) (hi:ops[i]? =some ⟨some d,op,ty,pos,af,none⟩) (C:pM N.F ops listed r i=true)
 (O:∀ w,S w→(execOp (ev N σ) ⟨some d,op,ty,pos,af,none⟩).run P w= .ok (.value v) w) (A:S w)
 (k:cD P N ops Q S r fuel (listed.setIfInBounds i true) (bo σ d v) w):cD P N ops Q S r (fuel+1) listed σ w:=by
 simp only [pM,ee,bg,jU,bne_iff_ne,ne_eq] at C;obtain ⟨⟨⟨⟨⟨⟨I,J⟩,hf3⟩,hfF⟩,hf4⟩,hf5⟩,hf6⟩:=C;rw [hi] at hfF;refine K4 hi (xY I) (fun c a w=>mr hfF c a w) (fun o L=> ?_) hf5 fuel listed _ w (xX hi J) (by simpa using hf3) (.inl ⟨fE _ rfl _,fun w A=> ?_⟩) A hf4 ?_ (v:=v)
 · rw [L] at hf6;simp only [DL,bg,beq_iff_eq] at hf6;obtain ⟨x,M,h1,E⟩:=hf6;exact ⟨x,td.1 M,h1,E⟩
 · rw [dq]; exact O w A
 · rw [eD]; exact k
theorem Au (i:Nat) (hi:ops[i]? =some ⟨d',op,ty,pos,af,none⟩) (hr:iF ops listed i=true)
 (h:bW P N ⟨d',op,ty,pos,af,none⟩ σ w (fun σ w=>((listed.setIfInBounds i true).getD r false =false→S w)∧cD P N ops Q S r fuel (listed.setIfInBounds i true) σ w)):cD P N ops Q S r (fuel+1) listed σ w:=by
 have C:dM .any ops listed= [i]:=by simpa [iF] using hr
 refine ⟨fun h0=>absurd (C ▸ h0) (by simp),fun k A=> ?_⟩;rw [C] at A;obtain rfl :k=i:=by simpa using A
 unfold wpOp;simp only [hi];rw [if_pos (fE _ rfl _)];exact .inl<|qA h fun _ _ A=>A
theorem jn (i:Nat) (hi:ops[i]? =some ⟨d',op,ty,pos,af,none⟩) (hr:iF ops listed i=true)
 (h:bW P N ⟨d',op,ty,pos,af,none⟩ σ w (fun σ w=>S w∧cD P N ops Q S r fuel (listed.setIfInBounds i true) σ w)):cD P N ops Q S r (fuel+1) listed σ w:=by grind [Au,CM]
theorem nM (i:Nat) (hi:ops[i]? =some ⟨d',op,ty,pos,af,none⟩) (hr:iF ops listed i=true) (C:(listed.setIfInBounds i true).getD r false =true)
 (h:bW P N ⟨d',op,ty,pos,af,none⟩ σ w (fun σ w=>cD P N ops Q S r fuel (listed.setIfInBounds i true) σ w)):cD P N ops Q S r (fuel+1) listed σ w:=
 Au i hi hr (CM h fun _ _ A=>⟨fun h0=>absurd (h0.symm.trans C) cQ,A⟩)
theorem nN (hr:(dM .any ops listed).isEmpty=true) (h:Q .normal σ w):cD P N ops Q S r fuel listed σ w:=by
 have A:dM .any ops listed= []:=by simpa using hr
 cases fuel with
 | zero=>exact ⟨A,σ,rfl,h⟩
 | succ fuel=>exact ⟨fun _=>⟨σ,rfl,h⟩,by rw [A]; simp⟩
attribute [irreducible] cD
end
end Go.Hb
namespace Go.Hb
section
variable {P:av} {md:m8} {ops:Array aE} {Q:bt→Act→ai→Prop} {S:ai→Prop} {r:Nat}
inductive lW (md:m8) (ops:Array aE) (i:Nat):Nat→Prop
 | one {r o e} :ops[r]? =some o→e∈o.after→dw md e=true→e.on=i→lW md ops i r
 | more {r o e} :ops[r]? =some o→e∈o.after→dw md e=true→lW md ops i e.on→lW md ops i r
def lV (md:m8) (ops:Array aE) (listed:Array Bool):Prop := ∀ (j:Nat) (o:aE),ops[j]? =some o→listed.getD j false =true→∀ e∈o.after,dw md e=true→listed.getD e.on false =true
theorem z8 {listed:Array Bool} {j k:Nat} (h:listed.getD k false =true):(listed.setIfInBounds j true).getD k false =true :=by
 by_cases e:j=k
 · subst e;by_cases A:j < listed.size
   · simp [A]
   · simp [A] at h
 · rw [getD_set_ne false e]; exact h
theorem lV.set {listed:Array Bool} {j:Nat} (h:lV md ops listed) (J:j∈dM md ops listed):lV md ops (listed.setIfInBounds j true):=by
 intro k o A E e he hb;obtain ⟨_,M,L,I⟩:=mem_ready.1 J;by_cases C:j=k
 · subst C;rw [L] at A; cases A;exact z8<|I e he hb
 · rw [getD_set_ne false C] at E;exact z8<|h k o A E e he hb
theorem lW.listed {listed:Array Bool} {i r:Nat} (J:lW md ops i r) (I:lV md ops listed) (ha:∀ o,ops[r]? =some o→∀ e∈o.after,dw md e=true→listed.getD e.on false =true):listed.getD i false =true :=by
 induction J with
 | one h1 A C E=>rw [← E]; exact ha _ h1 _ A C
 | more h1 A C _ ih=>exact ih fun o L e he hb=>I _ o L (ha _ h1 _ A C) e he hb
theorem K3 {i:Nat} {C:aE} {v:ag} (hi:ops[i]? =some C) (al:∀ (j:Nat) (o:aE) cs b,ops[j]? =some o→o.op≠.select cs b)
 (ap:∀ c a w,Q (.panic c) (a.put C.dst v) w→Q (.panic c) a w) (aq:lW md ops i r) (au:i≠r):
 ∀ (fuel:Nat) (listed:Array Bool) (a:Act) (w:ai),lV md ops listed→
   (∀ j E,ops[j]? =some E→j≠i→listed.getD j true =false→(∀ x∈E.after,dw md x=true→x.on≠i)→C.apart ops E=true)→
   i∈dM md ops listed→YieldsIf P ops S C v a→S w→listed.getD r false =false→
   kA P md ops Q S r fuel (listed.setIfInBounds i true) (a.put C.dst v) w→kA P md ops Q S r (fuel+1) listed a w:=by
 intro fuel
 induction fuel with
 | zero=>
   intro listed a w _ _ hr O I _ H;refine ⟨fun h=>(by rw [h] at hr; cases hr),fun j J=> ?_⟩;by_cases A:j=i
   · subst A; exact O.wpOp hi I ⟨fun _=>I,H⟩
   · have :=ready_mono J A;rw [H.1] at this;cases this
 | succ fuel ih=>
   intro listed a w V Z hr O I ah H;refine ⟨fun h=>(by rw [h] at hr; cases hr),fun j J=> ?_⟩;by_cases A:j=i
   · subst A; exact O.wpOp hi I ⟨fun _=>I,H⟩
   · have h1:=H.2 j<|ready_mono J A;obtain ⟨ae,E,M,U⟩:=mem_ready.1 J;have ab:listed.getD i false =false :=by
      have h0:=(mem_ready.1 hr).1;rcases dk i listed.size with h' | h'
      · simpa [h'] using h0
      · simp [h'] at h0
     have az:∀ x∈E.after,dw md x=true→x.on≠i:=fun x aA hb heq=>by
      have h1:=U x aA hb;rw [heq,ab] at h1; cases h1
     have ad:j≠r:=by
      rintro rfl;have :=aq.listed V fun o ak=>by rw [M] at ak; cases ak; exact U
      rw [ab] at this; cases this
     have ax:(listed.setIfInBounds j true).getD r false =false :=by rw [getD_set_ne false ad]; exact ah
     have aj:((listed.setIfInBounds i true).setIfInBounds j true).getD r false =false :=by rw [getD_set_ne false ad,getD_set_ne false au]; exact ah
     have ao:=wpOp_putIf M (Z j E M A ae az) (fun cs b=>al i C cs b hi) (fun cs b=>al j E cs b M) ap O h1;have ar:∀ k ok,ops[k]? =some ok→k≠i→(listed.setIfInBounds j true).getD k true =false→
      (∀ x∈ok.after,dw md x=true→x.on≠i)→C.apart ops ok=true :=fun k ok av aw am ay=>by
      refine Z k ok av aw ?_ ay;by_cases ac:j=k
      · subst ac; exact ae
      · rw [getD_set_ne true ac] at am; exact am
     refine wpOp_mono (fun an w' L=>⟨fun _=>L.2.1 aj,ih (listed.setIfInBounds j true) an w' (V.set J) ar (ready_mono hr<|Ne.symm A) L.1 (L.2.1 aj) ax ?_⟩) ao;rw [xM _ _ A];exact L.2.2
theorem K5 {i:Nat} {C:aE} {v:ag} (hi:ops[i]? =some C) (ad:∀ (j:Nat) (o:aE) cs b,ops[j]? =some o→o.op≠.select cs b)
 (ak:∀ c a w,Q (.panic c) (a.put C.dst v) w→Q (.panic c) a w) (O:i≠r):
 ∀ (fuel:Nat) (listed:Array Bool) (a:Act) (w:ai),
   (∀ j E,ops[j]? =some E→j≠i→listed.getD j true =false→(∀ x∈E.after,dw md x=true→x.on≠i)→C.apart ops E=true)→
   i∈dM md ops listed→YieldsIf P ops (fun _=>True) C v a→(listed.getD r false =false→S w)→
   kA P md ops Q S r fuel (listed.setIfInBounds i true) (a.put C.dst v) w→kA P md ops Q S r (fuel+1) listed a w:=by
 intro fuel
 induction fuel with
 | zero=>
   intro listed a w _ hr L M H;refine ⟨fun h=>(by rw [h] at hr; cases hr),fun j J=> ?_⟩;by_cases A:j=i
   · subst A; exact L.wpOp hi trivial ⟨fun h=>M (by rw [getD_set_ne false O] at h; exact h),H⟩
   · have :=ready_mono J A;rw [H.1] at this;cases this
 | succ fuel ih=>
   intro listed a w Z hr L M H;refine ⟨fun h=>(by rw [h] at hr; cases hr),fun j J=> ?_⟩;by_cases A:j=i
   · subst A; exact L.wpOp hi trivial ⟨fun h=>M (by rw [getD_set_ne false O] at h; exact h),H⟩
   · have h1:=H.2 j<|ready_mono J A;obtain ⟨ac,E,U,al⟩:=mem_ready.1 J;have an:listed.getD i false =false :=by
      have h0:=(mem_ready.1 hr).1;rcases dk i listed.size with h' | h'
      · simpa [h'] using h0
      · simp [h'] at h0
     have ar:∀ x∈E.after,dw md x=true→x.on≠i:=fun x au hb heq=>by
      have h1:=al x au hb;rw [heq,an] at h1; cases h1
     have aj:=wpOp_putIf U (Z j E U A ac ar) (fun cs b=>ad i C cs b hi) (fun cs b=>ad j E cs b U) ak L h1;have am:∀ k ok,ops[k]? =some ok→k≠i→(listed.setIfInBounds j true).getD k true =false→
      (∀ x∈ok.after,dw md x=true→x.on≠i)→C.apart ops ok=true :=fun k ok ao ap ae aq=>by
      refine Z k ok ao ap ?_ aq;by_cases ab:j=k
      · subst ab; exact ac
      · rw [getD_set_ne true ab] at ae; exact ae
     have V:(listed.setIfInBounds i true).setIfInBounds j true =(listed.setIfInBounds j true).setIfInBounds i true :=xM _ _ fun e=>A e.symm;have hg:(listed.setIfInBounds j true).getD r false =false→((listed.setIfInBounds i true).setIfInBounds j true).getD r false =false :=fun h=>by rw [V,getD_set_ne false O]; exact h
     refine wpOp_mono (fun ah w' I=>⟨fun h=>I.2.1 (hg h),ih (listed.setIfInBounds j true) ah w' am (ready_mono hr<|Ne.symm A) I.1 (fun h=>I.2.1<|hg h) ?_⟩) aj;rw [← V];exact I.2.2
end
section
variable {P:av} {N:Fm} {ops:Array aE} {Q:bt→(Nat→ag)→ai→Prop} {σ:Nat→ag} {w:ai} {S:ai→Prop} {r fuel:Nat} {listed:Array Bool}
 {d:Nat} {op:Op} {ty:au} {pos :String} {af:Array cH} {v:ag}
def rp (ops:Array aE) (i:Nat):Nat→Nat→Bool
 | 0,_=>false
 | f+1,r=>match ops[r]? with | some o=>o.after.toList.any (fun e=>dw .any e && (e.on==i || rp ops i f e.on)) | none=>false
theorem Ga {i:Nat} :∀ (f r:Nat),rp ops i f r=true→lW .any ops i r:=by
 intro f
 induction f with
 | zero=>intro r h; cases h
 | succ f ih=>
   intro r h;rw [rp] at h;split at h
   · rename_i o A;simp only [DL,bg,mV,beq_iff_eq] at h;obtain ⟨e,he,hb,h⟩:=h;rcases h with h | h
     · exact .one A (td.1 he) hb h
     · exact .more A (td.1 he) hb<|ih _ h
   · cases h
def um (ops:Array aE) (listed:Array Bool):Bool:=(ir ops.size).all fun j=> !listed.getD j false || match ops[j]? with | some o=>o.after.toList.all (fun e=> !dw .any e || listed.getD e.on false) | none=>true
theorem Fo (h:um ops listed=true):lV .any ops listed:=by grind [um,lV]
def uT (F:List Nat) (ops:Array aE) (listed:Array Bool) (r i:Nat):Bool:=ee F ops listed i && !(listed.getD r false) && i !=r && um ops listed && rp ops i ops.size r
def mh (F:List Nat) (ops:Array aE) (listed:Array Bool) (r i:Nat):Bool:=ee F ops listed i && i !=r
theorem AA (i:Nat) (hi:ops[i]? =some ⟨some d,op,ty,pos,af,none⟩) (C:uT N.F ops listed r i=true)
 (J:∀ w,S w→(execOp (ev N σ) ⟨some d,op,ty,pos,af,none⟩).run P w= .ok (.value v) w) (A:S w)
 (k:cD P N ops Q S r fuel (listed.setIfInBounds i true) (bo σ d v) w):cD P N ops Q S r (fuel+1) listed σ w:=by
 simp only [uT,ee,bg,jU,bne_iff_ne,ne_eq] at C;obtain ⟨⟨⟨⟨⟨⟨⟨E,I⟩,hf3⟩,hfF⟩,hf4⟩,hf5⟩,hf6⟩,hf7⟩:=C;rw [hi] at hfF;unfold cD at*;refine K3 hi (xY E) (fun c a w=>mr hfF c a w) (Ga _ _ hf7) hf5 fuel listed _ w (Fo hf6) (xX hi I) (by simpa using hf3) (.inl ⟨fE _ rfl _,fun w A=> ?_⟩) A hf4 ?_ (v:=v)
 · rw [dq]; exact J w A
 · rw [eD]; exact k
theorem pV (i:Nat) (hi:ops[i]? =some ⟨some d,op,ty,pos,af,none⟩) (A:mh N.F ops listed r i=true)
 (J:∀ w,(execOp (ev N σ) ⟨some d,op,ty,pos,af,none⟩).run P w= .ok (.value v) w) (C:listed.getD r false =false→S w)
 (k:cD P N ops Q S r fuel (listed.setIfInBounds i true) (bo σ d v) w):cD P N ops Q S r (fuel+1) listed σ w:=by
 simp only [mh,ee,bg,bne_iff_ne,ne_eq] at A;obtain ⟨⟨⟨⟨E,I⟩,hf3⟩,hfF⟩,hf5⟩:=A;rw [hi] at hfF;unfold cD at*;refine K5 hi (xY E) (fun c a w=>mr hfF c a w) hf5 fuel listed _ w (xX hi I) (by simpa using hf3) (.inl ⟨fE _ rfl _,fun w _=> ?_⟩) C ?_ (v:=v)
 · rw [dq]; exact J w
 · rw [eD]; exact k
end
end Go.Hb
namespace Go.Hb
def Cv:Nat→Nat→List UInt8
 | 0,n=> [eB n]
 | f+1,n=>if n < 128 then [eB n] else eB (n % 128 +128)::Cv f (n / 128)
def Kh (n:Nat):List UInt8:=Cv n n
def frame:List (List UInt8)→List UInt8
 | []=> []
 | r::l=>Kh r.length++(r++frame l)
theorem Ci {α:Type} (l:List α) (i:Nat) (d:α) (h:i < l.length):l.take (i+1)=l.take i++ [l.getD i d]:=by simp_all
end Go.Hb
namespace Go.Hb
def U8 (l:List UInt8):List ag:=l.map fun b=>aT .u8 b.toNat
theorem j4 (l:List UInt8):(U8 l).length=l.length:=by simp [U8]
theorem pk (a b:List UInt8):U8 (a++b)=U8 a++U8 b:=by simp [U8]
theorem Ev (l:List UInt8):(U8 l).all jx=true :=by
 rw [x7];intro u hu;simp only [U8,o7] at hu;obtain ⟨b,_,rfl⟩:=hu;rfl
def l5 (P:av) (t e u:au):Bool:=
 dL P t e 1 1 && (match P.underlying e with | some (.int .u8)=>true | _=>false) && (match P.underlying u with | some .string=>true | _=>false) &&
  (match P.info? e with | some i=>(match i.zero with | some (.int .u8 0)=>true | _=>false) | none=>false)
theorem E7 {P:av} {t e u:au} (h:l5 P t e u=true):
 dL P t e 1 1=true∧P.underlying e=some (.int .u8)∧P.underlying u=some .string∧∃ i,P.info? e=some i∧i.zero=some (.int .u8 0):=by grind [l5,dL]
section
variable {P:av} {N:Fm} {σ:Nat→ag} {w:ai} {dst:Option Nat} {ty:au} {pos :String} {af:Array cH} {g:Option (Nat×Bool)} {x y z:aY} {K:(Nat→ag)→ai→Prop}
theorem foldl_push (l:List UInt8) (r:ByteArray):(l.map fun b=>(b.toNat:Int)).foldl (fun r n=>r.push<|eB n.toNat) r=⟨r.data++l.toArray⟩:=by
 induction l generalizing r with
 | nil=>simp
 | cons b l ih=>
   simp only [eA,kI];rw [ih];apply ByteArray.ext;simp [ByteArray.push]
theorem l7 {t e u n c:Nat} {a:Option aZ} {l:List UInt8} (h:l5 P t e u=true) (U:ev N σ x= .slice a n c) (A:aU w.heap a (U8 l)) (C:l.length=n):
 (execOp (ev N σ) ⟨dst,.convert t u x,ty,pos,af,g⟩).run P w= .ok (.value<|str l) w:=by
 obtain ⟨h1,E,I,_⟩:=E7 h;obtain ⟨hu,_⟩:=oD h1;have L:(Df<|.slice a n c).run P w= .ok (str l) w:=by
  by_cases he:l= []
  · subst he;cases a with
    | none=>simp [Df,str]; rfl
    | some a=>
      subst C;have :=run_bytesToString (P:=P) w a 0 c []<|by simp [loadCells,loadCellsFrom]
      exact this.trans J
  · have ha:=A.ok<|by simpa [U8] using he
    have O:(loadCells ⟨bk a,fo a,none⟩ n).run P w= .ok ((l.map fun b=>(b.toNat:Int)).map<|aT .u8).toArray w:=by
     subst C;have :=run_loadCells_list (P:=P) w ⟨bk a,fo a,none⟩ (U8 l) fun j v M=>by
      rw [dY,gR];exact A.az j v M
     rw [j4] at this;rw [this];simp [U8]
    rw [ha,run_bytesToString w _ n c _ O,foldl_push];simp [str,ByteArray.empty,ByteArray.emptyWithCapacity];rfl
 simp [execOp,U,run_convert_bytes_string w t u e a n c hu E I,L]
theorem xw {at_:Array au} {v:ag} {a:Option aZ} {n c:Nat} (A:ev N σ x= .slice a n c) (h:a=none∨c≠0):
 (execOp (ev N σ) ⟨dst,.call ⟨.builtin .unsafeSliceData,#[x],at_⟩,ty,pos,af,g⟩).run P w= .ok (.value<|.pointer a) w:=by
 have _:=v;have :(Builtin.unsafeSliceData_ at_ ty #[.slice a n c]).run P w= .ok (.pointer a) w:=by
  cases a with
  | none=>exact Lib.run_unsafeSliceData_nil w at_ ty n c
  | some a=>exact Lib.run_unsafeSliceData_row w at_ ty a n c<|h.resolve_left<|by simp
 simp [execOp,resolve,invoke,builtin,A,this]
def ptrTo (P:av) (C e:au):Bool:=match P.underlying C with | some (.pointer A)=>A==e && P.cellsOf e==1 | _=>false
theorem Kl {I it e B n c:Nat} {a:Option aZ} {l:List UInt8} {xs:List ag} (hp:ptrTo P I e=true) (O:ev N σ x= .pointer a) (V:ev N σ y= .int .i64 n) (E:w.ownsRow B e 1 (.slice a n c) n xs)
 (al:xs=U8 l) (an:n≤9223372036854775807)
 (k:∀ w',Md (fun k=>(bZ a n c).ownBlock=some k) w w'→w'.heap.size=w.heap.size→K (dd σ dst<|str l) w'):
 bW P N ⟨dst,.call ⟨.builtin .unsafeString,#[x,y],#[I,it]⟩,ty,pos,af,g⟩ σ w K:=by
 subst al;have A:l.length=n:=by have :=E.1; simpa [U8] using this
 unfold ptrTo at hp;split at hp
 case h_2=>cases hp
 rename_i L hu;simp only [bg,beq_iff_eq] at hp;obtain ⟨rfl,Z⟩:=hp;by_cases he:l= []
 · subst he;obtain rfl :n=0:=A.symm;refine ig (w':=w) (v:=str []) ?_<|k w (Md.refl _ _) J;simp [execOp,resolve,invoke,builtin,O,V,Lib.run_unsafeString_none];rfl
 · rcases E.2 with ⟨h,h0⟩ | ⟨C,cap,cur,h,_,ac,hle,_,ak,ao⟩
   · subst h0; simp only [List.length_eq_zero_iff] at A; exact absurd A he
   · simp only [m9,true_and] at h;obtain ⟨rfl,rfl⟩:=h;have aj:w.shape? C=some (L,cur.size):=by simp [xZ,ac]
     have hr:=Lib.run_unsafeString_row (P:=P) w I it ty L hu Z C cur.size aj l he (by rw [A,ak]; omega) U (fun j u hu=>by
      obtain ⟨ad,am,M,ab,_,ae,_⟩:=nZ E;simp only [m9,true_and] at M;obtain ⟨rfl,rfl⟩:=M;rw [dY,gR];exact ab.az j _ (by simp [U8,hu]))
     refine ig (w':=w.freeze ⟨C,0,none⟩ l.length) (v:=str l) ?_ (k _ ⟨?_,?_,?_,?_⟩ ?_)
     · simp [execOp,resolve,invoke,builtin,O,V,← A,hr,str]
     · unfold kF; split <;> rfl
     · unfold kF; split <;> rfl
     · unfold kF; split <;> simp
     · intro k ae ah;have ai:k≠C:=fun e=>ah<|by simp [eU,e]
       unfold kF;split
       · rfl
       · simp only [Array.getElem?_modify]; rw [if_neg (fun e=>ai e.symm)]
     · unfold kF; split <;> simp
def mE (P:av) (C up e n:Nat):Bool:=
 (match P.underlying C with | some (.pointer A)=>A==e | _=>false) && (match P.underlying up with | some .unsafePointer=>true | _=>false) && P.cellsOf e==n && aF 0 n && (match P.info? e with | some i=>i.size==n | _=>false)
theorem Cx {P:av} {C up e n:Nat} (h:mE P C up e n=true):P.underlying C=some (.pointer e)∧P.underlying up=some .unsafePointer∧P.cellsOf e=n∧0 < n∧∃ i,P.info? e=some i∧i.size=n:=by
 simp only [mE,bg] at h;obtain ⟨⟨⟨⟨h1,A⟩,h3⟩,h4⟩,h5⟩:=h;refine ⟨?_,?_,by simpa using h3,lQ (lR 0) (bQ h4),?_⟩
 · split at h1
   · rename_i h; simp only [beq_iff_eq] at h1; rw [h,h1]
   · cases h1
 · split at A
   · rename_i h; exact h
   · cases A
 · split at h5
   · rename_i i hi; exact ⟨i,hi,by simpa using h5⟩
   · cases h5
theorem Cn {A up e n b:Nat} {L:List ag} (h:mE P A up e n=true) (O:ev N σ x= .pointer (some ⟨b,0,none⟩)) (hb:w.heap[b]? =some (.cells L.toArray e (0,0))) (E:L.length=n):
 (execOp (ev N σ) ⟨dst,.convert A up x,ty,pos,af,g⟩).run P w= .ok (.value<|.pointer<|some ⟨b,0,none⟩) w:=by
 obtain ⟨h1,C,V,Z,i,hi,J⟩:=Cx h;have M:w.shape? b=some (e,L.length):=by simp [xZ,hb]
 have I:¬n=0:=U;simp [execOp,O,convert,bu h1,bu C,Dh,Dg,viewAt,M,cellsIn,E,sizeOf,c9 hi,J,I]
theorem z1 {E up e n b:Nat} {L:List ag} (h:mE P E up e n=true) (ac:ev N σ x= .pointer (some ⟨b,0,none⟩)) (hb:w.heap[b]? =some (.cells L.toArray e (0,0))) (O:L.length=n):
 (execOp (ev N σ) ⟨dst,.convert up E x,ty,pos,af,g⟩).run P w= .ok (.value<|.pointer<|some ⟨b,0,none⟩) w:=by
 obtain ⟨h1,I,J,M,i,hi,Z⟩:=Cx h;have ab:w.shape? b=some (e,L.length):=by simp [xZ,hb]
 have C:¬n=0:=U;have V:liesAt P P.depth e (L.length / P.cellsOf e) 0 e 1=true :=by
  have A:P.depth=(2 *(P.types.size+Made.depth)+1)+1:=rfl;rw [A];simp only [liesAt,mV];left;rw [A];simp [rowAt,J,C,O,sameLayout,Nat.div_self M]
 simp [execOp,ac,convert,bu h1,bu I,Dh,Dg,viewAt,ab,variablesAt,sizeOf,c9 hi,Z,C,V]
theorem Ik {t t' e:au} {a:aZ} (hu:P.underlying t=some (.pointer e)) (C:(P.info? e).isSome=true) (E:ev N σ x= .pointer (some a)) (I:ev N σ y= .pointer (some a)):
 (execOp (ev N σ) ⟨dst,.binOp .neq t x y t',ty,pos,af,g⟩).run P w= .ok (.value<|.bool false) w:=by
 obtain ⟨i,hi⟩:=lT.1 C;have he:∀ d,(gI (d+1) t (.pointer<|some a)<|.pointer<|some a).run P w= .ok true w:=by
  intro d;simp [gI,bu hu,sizeOf,c9 hi,sameAddr]
 have h:(binOp .neq t (.pointer<|some a)<|.pointer<|some a).run P w= .ok (.bool false) w:=by
  have :=he 9999;simp only [binOp];have A:(lM t (.pointer<|some a)<|.pointer<|some a).run P w= .ok true w:=this;simp [A]
 simp [execOp,E,I,eqGuard,h]
theorem Fp {f:dW} {args:Array aY} {A:Array au} {v:ag} (E:∀ v w,(callFunc f #[v]).run P w= .ok (.value v) w) (C:args.toList.map (ev N σ)= [v]):
 (execOp (ev N σ) ⟨dst,.call ⟨.value (.func f),args,A⟩,ty,pos,af,g⟩).run P w= .ok (.value v) w:=by
 have :args.map (ev N σ)= #[v]:=by rw [← qE,iO,C]
 simp [execOp,resolve,ev,lL,invoke,this,E]
structure Bd (T e:au) (w:ai) (b:Nat) (buf:ag) (l:List UInt8):Prop where
 ax:∃ pa,w.heap[b]? =some (.cells [tw pa,buf].toArray T (0,0))∧(pa=none∨pa=some ⟨b,0,none⟩)
 own:w.ownsRow (b+1) e 1 buf l.length (U8 l)
 nil:buf= .slice none 0 0↔l= []
def BF (b:Nat) (A:ag) (k:Nat):Prop :=k=b∨A.ownBlock=some k
end
theorem Bd.lt {T e b:Nat} {w:ai} {A:ag} {l:List UInt8} (h:Bd T e w b A l):b < w.heap.size:=let ⟨_,h,_⟩:=h.ax; (eM.1 h).1
theorem Bd.rI {T e b:Nat} {w:ai} {C:ag} {l:List UInt8} (h:Bd T e w b C l) {k:Nat} (A:BF b C k):b≤k∧k < w.heap.size:=by
 rcases A with rfl | A
 · exact ⟨aV _,h.lt⟩
 · have :=h.own.lt k A; omega
theorem Bd.md {T e b:Nat} {F:Nat→Prop} {w w':ai} {A:ag} {l:List UInt8} (h:Bd T e w b A l) (hm:Md F w w') (C:∀ k,BF b A k→¬F k):Bd T e w' b A l:=by
 obtain ⟨⟨L,h1,E⟩,h3,h4⟩:=h;exact ⟨⟨L,hm.ax h1 (C b<|.inl J),E⟩,du h3 hm (fun k I=>C k<|.inr I),h4⟩
end Go.Hb
namespace Go.Hb
def ef (P:av) (t:au):Option (List (Nat×Nat)×List ag):=
 match P.info? t,P.underlying t with
 | some it,some (.struct fields)=>
   match it.zero,fields.toList.mapM (fun f=>(P.info? f.type).map fun i=>(f.offset,i.size)) with
   | some z,some pl=>some (pl,z.cells.toList)
   | _,_=>none
 | _,_=>none
def qe (pl:List (Nat×Nat)):List ag→List (Nat×ag)→Option (List ag)
 | A,[]=>some A
 | A,(i,v)::r=>match pl[i]? with
   | some (off,s)=>if (s==1 && v.oneCell' && aF off A.length)=true then qe pl (A.set off v) r else none
   | none=>none
theorem IL {pl:List (Nat×Nat)} {A L:List ag} {ps:List (Nat×ag)} (h:qe pl A ps=some L):jX (pl.toArray[·]?) A.toArray ps=some L.toArray:=by
 induction ps generalizing A with
 | nil=>simp only [qe,bH] at h; subst h; rfl
 | cons p ps ih=>
   obtain ⟨i,v⟩:=p;simp only [qe] at h;split at h
   · rename_i off s I;split at h
     · rename_i C;simp only [bg,beq_iff_eq] at C;obtain ⟨⟨rfl,h1⟩,ho⟩:=C;have M:off < A.length:=bQ ho;have J:v.cells= #[v]:=mw h1;have E:pl.toArray[i]? =some (off,1):=by simpa using I
       simp only [jX,E,J];rw [if_neg (by simp; omega),← ih h];simp
     · cases h
   · cases h
theorem GG {α:Type} {f:α→List ag} {m:Nat} (A:∀ a,(f a).length=m) (l:List α):(l.flatMap f).length=l.length*m:=by
 induction l with
 | nil=>simp
 | cons x l ih=>simp [ih,A,o9,tK]
theorem GF {α:Type} {f:α→List ag} {m:Nat} (A:∀ a,(f a).length=m) {l:List α} {j c:Nat} {a:α} (h:l[j]? =some a) (C:c < m):(l.flatMap f)[j*m+c]? =(f a)[c]? :=by
 induction l generalizing j with
 | nil=>simp at h
 | cons x l ih=>
   cases j with
   | zero=>
     simp only [gL,bH] at h; subst h;rw [pb,cK,oU,ey (by rw [A]; exact C)]
   | succ j=>
     simp only [gK] at h;rw [oU,ez (by rw [A,o9]; omega),A,show (j+1)*m+c - m=j*m+c from by rw [o9]; omega];exact ih h
theorem mg {α:Type} {f:α→List ag} {m:Nat} (A:∀ a,(f a).length=m) {h:Array Obj} {a:Option aZ} {l:List α} {i:Nat} {e:α} (I:aU h a (l.flatMap f)) (J:l[i]? =some e):∀ j,j < m→Hb.az h (bk a) (fo a+i*m+j)=(f e)[j]? :=by
 intro j C;have h1:=GF A J C;have E:j < (f e).length:=by rw [A]; exact C
 rw [bK E] at h1 ⊢;rw [iu]; exact I.az _ _ h1
theorem pK {α:Type} {f:α→List ag} {m:Nat} (A:∀ a,(f a).length=m) (hm:0 < m) {l:List α} (h:0 < l.length):l.flatMap f≠[]:=by
 intro e;have :=GG A l;rw [e] at this;have :0 < l.length*m:=Nat.mul_pos h hm;simp at*; omega
section
variable {P:av} {N:Fm} {σ:Nat→ag} {w:ai} {dst:Option Nat} {ty:au} {pos :String} {af:Array cH} {g:Option (Nat×Bool)} {x y z:aY} {K:(Nat→ag)→ai→Prop}
theorem eF {t:au} {parts:Array (Nat×aY)} {pl:List (Nat×Nat)} {A L:List ag} {ps:List (Nat×ag)} (h:ef P t=some (pl,A)) (hp:parts.toList.map (fun p=>(p.1,ev N σ p.2))=ps) (C:qe pl A ps=some L):
 (execOp (ev N σ) ⟨dst,.build t parts,ty,pos,af,g⟩).run P w= .ok (.value<|.agg L.toArray) w:=by
 unfold ef at h;split at h
 · rename_i it fields hi hu;split at h
   · rename_i z I E hm;simp only [bH,gq] at h;obtain ⟨rfl,rfl⟩:=h;have hb:P.built t (parts.map fun p=>(p.1,ev N σ p.2)).toList=some L.toArray:=by
      have :=IL C;simp only [C2] at this;simp only [Dw,hi,hu,E,hm,iO,hp]; exact this
     simp [execOp,run_build w t _ _ hb]
   · cases h
 · cases h
theorem EY {t:au} {parts:Array (Nat×aY)} {pl:List (Nat×Nat)} {A L:List ag} {ps:List (Nat×ag)} (h:ef P t=some (pl,A)) (hp:parts.toList.map (fun p=>(p.1,ev N σ p.2))=ps) (C:jX (pl.toArray[·]?) A.toArray ps=some L.toArray):
 (execOp (ev N σ) ⟨dst,.build t parts,ty,pos,af,g⟩).run P w= .ok (.value<|.agg L.toArray) w:=by
 unfold ef at h;split at h
 · rename_i it fields hi hu;split at h
   · rename_i z I E hm;simp only [bH,gq] at h;obtain ⟨rfl,rfl⟩:=h;have hb:P.built t (parts.map fun p=>(p.1,ev N σ p.2)).toList=some L.toArray:=by
      have :=C;simp only [C2] at this;simp only [Dw,hi,hu,E,hm,iO,hp]; exact this
     simp [execOp,run_build w t _ _ hb]
   · cases h
 · cases h
end
end Go.Hb
namespace Go.Hb
section
variable {P:av} {N:Fm} {σ:Nat→ag} {w:ai} {dst:Option Nat} {ty:au} {pos :String} {af:Array cH} {g:Option (Nat×Bool)} {x y z:aY} {K:(Nat→ag)→ai→Prop}
theorem HZ {zv:ag} (h1:zv.oneCell'=true) (n:Nat):madeCells zv.cells n=(cJ n zv).toArray:=by
 rw [mw h1];apply Array.ext
 · simp [madeCells]
 · intro i A C;simp [madeCells,Nat.mod_one]
theorem eS {t e bytes n:Nat} {L I:bC} {zv:ag} (ae:dL P t e 1 bytes=true) (A:zeroOf P e=some (some [zv])) (h1:zv.oneCell'=true) (ah:ev N σ x= .int L n) (ai:ev N σ y= .int I n) (hb:bytes*n≤281474976710656) (C:n≤maxLen)
 (k:∀ b w',b=w.heap.size→Nw w w'→(∀ B,B≤b→w'.ownsRow B e 1 (.slice (some ⟨b,0,none⟩) n n) n (cJ n zv))→K (dd σ dst<|.slice (some ⟨b,0,none⟩) n n) w'):bW P N ⟨dst,.makeSlice t x y,ty,pos,af,g⟩ σ w K:=by
 obtain ⟨hu,i,M,hi,E,ad,ac,al,ak⟩:=oD ae;have aj:M.cells= #[zv]:=by
  unfold zeroOf at A;simp only [hi,E,eV,bH] at A;exact qE.1<|by simpa using A
 refine lK (v:=fun b=> .slice (some ⟨b,0,none⟩) n n) (ob:= .cells (cJ n zv).toArray e (0,0)) ?_ fun b w' O V Z=>k b w' O V fun B ab=>⟨by simp,.inr ⟨b,n,_,J,ab,Z,aV _,C,by simp,by simp⟩⟩
 have hr:=run_make (P:=P) w t e i M hu hi E L I n n U (Int.le_refl _) (by rw [ac,← Int.natCast_mul]; omega)<|by unfold maxLen at C; omega
 rw [aj,ad,Nat.mul_one,Int.toNat_natCast,show madeCells #[zv] n=(cJ n zv).toArray by rw [← HZ h1,mw h1]] at hr;simp [execOp,ah,ai,hr]
end
end Go.Hb
namespace Go.Hb
section
variable {P:av} {N:Fm} {σ:Nat→ag} {w:ai} {dst:Option Nat} {ty:au} {pos :String} {af:Array cH} {g:Option (Nat×Bool)} {x y z:aY}
theorem Fl {t n len cap i:Nat} {a:Option aZ} {k I:bC} (he:cV P t=some n) (A:ev N σ x= .slice a len cap) (C:ev N σ y= .int k (i:Nat)) (E:ev N σ z= .int I (i:Nat)) (h:i≤cap):
 (execOp (ev N σ) ⟨dst,.slice t x none (some y) (some z),ty,pos,af,g⟩).run P w= .ok (.value<|.slice a i i) w:=by
 have h0:(0:Int)≤(i:Int):=U;unfold cV at he;cases hd:P.underlying t with
 | none=>rw [hd] at he; cases he
 | some d=>
   rw [hd] at he;cases d <;> first | (cases he; done) | skip
   rename_i e;cases hi':P.info? e with
   | none=>simp [hi'] at he
   | some j=>
     have ha:(if i=0 then a else a.map (·.add 0))=a:=by
      split
      · rfl
      · cases a <;> simp [tf]
     simp only [execOp,m3,qI,A,C,E,eV,Option.map_none,jY,m4,asIntOf];simp [bu hd,c9 hi',sizeOf,h0,ha];intro aP; omega
end
end Go.Hb
namespace Go.Hb
def tS (h:Array Obj) (b:Nat) (kvs:List (ag×ag)):Prop := ∃ es clock,h[b]? =some (.map es clock)∧es.toList.map (fun e=>(e.key,e.val))=kvs
structure ni (P:av) (k:au) (cW:ag→Prop):Prop where
 check:∀ em w v,cW v→(jW em 10000 k v).run P w= .ok () w
 find:∀ w x es,cW x→(∀ e∈es,cW e.key)→
  ((mY k x es).run P w= .ok none w∧∀ e∈es,e.key≠x)∨∃ j e,(mY k x es).run P w= .ok (some (j,e.val)) w∧es[j]? =some e∧e.key=x
theorem Fg {P:av} {k:au} {em:Bool} {n:Nat} {a:Bool} (A:P.underlying k=some .bool) (w:ai):(jW em (n+1) k<|.bool a).run P w= .ok () w:=by
 simp only [jW,ik,bu A,gJ,kE]
theorem yP {P:av} {k:au} {em:Bool} {n:Nat} {a:List UInt8} (A:P.underlying k=some .string) (w:ai):(jW em (n+1) k<|str a).run P w= .ok () w:=by
 simp only [str,jW,ik,bu A,gJ,kE]
def vh (v:ag):Prop := ∃ (f:Bool) (s:List UInt8),v= .agg #[.bool f,str s]
def lZ (P:av) (k:au):Bool:=
 match P.underlying k with
 | some (.struct A)=>match A.toList with
   | [f1,f2]=>f1.name != "_" && f2.name != "_" && f1.offset==0 && f2.offset==1 && !P.stoodInHeld k &&
     (match P.underlying f1.type with | some .bool=>true | _=>false) && (match P.underlying f2.type with | some .string=>true | _=>false)
   | _=>false
 | _=>false
theorem sm {P:av} {t:au} {cs:Array ag} {o:Nat} {v:ag} {d:TypeDesc} (C:P.underlying t=some d) (A:(match d with | .bool | .string=>true | _=>false)=true) (E:cs[o]? =some v) (w:ai):(part t cs o).run P w= .ok v w:=by
 cases d <;> first | (cases A; done) | simp [part,isAgg,bu C,E]
theorem ud {P:av} {k:au} (h:lZ P k=true):∃ A f1 f2,P.underlying k=some (.struct A)∧A.toList= [f1,f2]∧f1.name≠ "_" ∧f2.name≠ "_" ∧f1.offset=0∧f2.offset=1∧P.stoodInHeld k=false∧P.underlying f1.type=some .bool∧P.underlying f2.type=some .string:=by grind [lZ]
theorem Gp {P:av} {k:au} (h:lZ P k=true) {f g:Bool} {s t:List UInt8} (w:ai):(lM k (.agg #[.bool f,str s])<|.agg #[.bool g,str t]).run P w= .ok (decide (f=g∧s=t)) w:=by
 obtain ⟨M,f1,f2,hu,ab,h1,O,U,V,Z,A,C⟩:=ud h;have E:P.fieldsOf k=M:=by simp [Program.fieldsOf,hu]
 have J:∀ (x:Bool) (y:List UInt8) (w:ai),(part f1.type #[.bool x,str y] f1.offset).run P w= .ok (.bool x) w:=fun x y w=>sm A rfl (by rw [U]; rfl) w;have L:∀ (x:Bool) (y:List UInt8) (w:ai),(part f2.type #[.bool x,str y] f2.offset).run P w= .ok (str y) w:=fun x y w=>sm C rfl (by rw [V]; rfl) w;unfold lM;show (gI (9998 +1 +1) k _ _).run P w=_;rw [run_equalIn_struct w (9998 +1) k _ _ (by rw [E]; exact hu) Z,E,ab];simp only [Op.eqFields,ik,tv,J,L,gJ,run_equalIn_bool' w 9998 f1.type f g A,h1,O,ne_eq,not_false_eq_true,if_true];by_cases I:f=g
 · subst I;have :(gI (9998 +1) f2.type (str s)<|str t).run P w= .ok (decide (s=t)) w:=by
    rw [str,str,run_equalIn_string w 9998 f2.type _ _ C,Dc,Dc];congr 1;by_cases bh:s=t
    · subst bh; simp
    · simp [bh]
   simp only [beq_self_eq_true,Bool.not_true,qF,if_false,this,gJ,true_and];by_cases bh:s=t <;> simp [bh]
 · simp [I]
theorem Fh {P:av} {k:au} {em:Bool} {n:Nat} (h:lZ P k=true) {f:Bool} {s:List UInt8} (w:ai):(jW em (n+1 +1) k<|.agg #[.bool f,str s]).run P w= .ok () w:=by
 obtain ⟨U,f1,f2,hu,O,h1,J,L,M,V,A,C⟩:=ud h;have E:∀ (w:ai),(part f1.type #[.bool f,str s] f1.offset).run P w= .ok (.bool f) w:=fun w=>sm A rfl (by rw [L]; rfl) w;have I:∀ (w:ai),(part f2.type #[.bool f,str s] f2.offset).run P w= .ok (str s) w:=fun w=>sm C rfl (by rw [M]; rfl) w;rw [jW];simp only [ik,bu hu,gJ];rw [← Array.forIn_toList,O];simp only [List.forIn_cons,List.forIn_nil,ik,E,I,h1,J,ne_eq,not_false_eq_true,if_true,gJ,Fg A,yP C,kE]
theorem zR {P:av} {k:au} (h:lZ P k=true) {f:Bool} {s:List UInt8} (w:ai):∀ (es:List MapEntry) (i:Nat),(∀ e∈es,vh e.key)→
 ((mX k (.agg #[.bool f,str s]) es i).run P w= .ok none w∧∀ e∈es,e.key≠.agg #[.bool f,str s])∨∃ j e,(mX k (.agg #[.bool f,str s]) es i).run P w= .ok (some (i+j,e.val)) w∧es[j]? =some e∧e.key= .agg #[.bool f,str s]
 | [],i,_=> .inl ⟨by simp [mX],fun _ h=>by simp at h⟩
 | e::es,i,hk=>by
   obtain ⟨g,t,ha⟩:=hk e<|by simp
   have he:=Gp h (f:=f) (g:=g) (s:=s) (t:=t) w;rw [← ha] at he;by_cases A:f=g∧s=t
   · obtain ⟨rfl,rfl⟩:=A;refine .inr ⟨0,e,?_,J,ha⟩;simp [mX,he]
   · have O:e.key≠.agg #[.bool f,str s]:=by
      rw [ha]; intro I; simp [str] at I; exact A ⟨I.1.symm,I.2.symm⟩
     rcases zR (f:=f) (s:=s) h w es (i+1) (fun e he=>hk e<|by simp [he]) with ⟨h1,E⟩ | ⟨j,C,h1,E,M⟩
     · refine .inl ⟨by simp [mX,he,A,h1],fun C L=> ?_⟩;rcases fQ.1 L with rfl | L
       · exact O
       · exact E C L
     · refine .inr ⟨j+1,C,?_,E,M⟩;simp only [mX,ik,he,A,gJ,decide_false,tv,qF,if_false,h1]; rw [show i+1 +j=i+(j+1) from by omega]
theorem Hx {P:av} {k:au} (h:lZ P k=true):ni P k vh where
 check em w v hv:=by obtain ⟨f,s,rfl⟩:=hv; exact Fh (n:=9998) h w
 find w x es hx hes:=by
  obtain ⟨f,s,rfl⟩:=hx;obtain ⟨J,f1,f2,hu,_⟩:=ud h;have I:es≠[]→(mY k (.agg #[.bool f,str s]) es).run P w=(mX k (.agg #[.bool f,str s]) es).run P w:=by
   intro A;cases es with
   | nil=>exact absurd rfl A
   | cons e es=>simp [mY,bu hu,mZ,Instr.sameNow]
  by_cases A:es= []
  · subst A; exact .inl ⟨by simp [mY,bu hu,mZ],fun _ h=>by simp at h⟩
  · rw [I A];rcases zR h w es 0 hes with h1 | ⟨j,e,h1,C,E⟩
    · exact .inl h1
    · exact .inr ⟨j,e,by rw [h1,cK],C,E⟩
def zeroV (P:av) (e:au):Option ag:=(P.info? e).bind (·.zero)
theorem CO {P:av} {e:au} {z:ag} (h:zeroV P e=some z) (w:ai):(zeroValue e).run P w= .ok z w:=by
 unfold zeroV at h;simp only [lS] at h;obtain ⟨i,hi,A⟩:=h;simp [zeroValue,c9 hi,A]
section
variable {P:av} {N:Fm} {σ:Nat→ag} {w:ai} {dst:Option Nat} {ty:au} {pos :String} {af:Array cH} {g:Option (Nat×Bool)} {x y z:aY} {K:(Nat→ag)→ai→Prop}
variable {t k e:au} {cW:ag→Prop} {b:Nat} {kvs:List (ag×ag)} {kx v:ag}
theorem rD {es:Array MapEntry} (h:es.toList.map (fun e=>(e.key,e.val))=kvs) (A:∀ p∈kvs,cW p.1):∀ e∈es.toList,cW e.key:=by grind [e,he,qN]
theorem run_getObj_map {es:Array MapEntry} {c:Nat} (hr:w.heap[b]? =some (.map es c)):(getObj b).run P w= .ok (.map es c) w:=by
 simp [getObj,kD,hr]
theorem Iq {kvs:List (ag×ag)} (hn:(kvs.map gp).Nodup) {kx v C:ag} (h1:(kx,v)∈kvs) (A:(kx,C)∈kvs):v=C:=by
 induction kvs with
 | nil=>simp at h1
 | cons p kvs ih=>
   simp only [eA,List.nodup_cons] at hn;rcases fQ.1 h1 with h1 | h1
   · rcases fQ.1 A with A | A
     · rw [← h1] at A; cases A; rfl
     · rw [← h1] at hn; exact absurd (qN (f:=gp) A) hn.1
   · rcases fQ.1 A with A | A
     · rw [← A] at hn; exact absurd (qN (f:=gp) h1) hn.1
     · exact ih hn.2 h1 A
theorem HS {ok:Bool} (Z:P.underlying t=some (.map k e)) (E:ni P k cW) (hm:tS w.heap b kvs) (V:∀ p∈kvs,cW p.1) (ac:ev N σ x= .map (some b)) (ad:ev N σ y=kx) (hi:cW kx) (hn:(kvs.map gp).Nodup) (C:(kx,v)∈kvs):
 (execOp (ev N σ) ⟨dst,.lookup t x y ok,ty,pos,af,g⟩).run P w= .ok (.value (if ok then .tuple #[v,.bool true] else v)) w:=by
 obtain ⟨es,c,hr,he⟩:=hm;rcases E.find w kx es.toList hi (rD he V) with ⟨_,A⟩ | ⟨j,I,h1,A,M⟩
 · rw [← he] at C;obtain ⟨L,U,O⟩:=o7.1 C;cases O;exact absurd J<|A L U
 · have ab:(kx,I.val)∈kvs:=by rw [← he,← M]; exact qN (f:=fun e:MapEntry=>(e.key,e.val))<|gn A
   have :=Iq hn C ab;subst this;cases ok <;> simp [execOp,Dq,bu Z,ac,ad,run_getObj_map hr,E.check _ w kx hi,h1]
theorem HT {ok:Bool} {zv:ag} (L:P.underlying t=some (.map k e)) (U:zeroV P e=some zv) (A:ni P k cW) (hm:tS w.heap b kvs) (J:∀ p∈kvs,cW p.1) (M:ev N σ x= .map (some b)) (O:ev N σ y=kx) (hi:cW kx) (hn:∀ v,(kx,v)∉kvs):
 (execOp (ev N σ) ⟨dst,.lookup t x y ok,ty,pos,af,g⟩).run P w= .ok (.value (if ok then .tuple #[zv,.bool false] else zv)) w:=by
 obtain ⟨es,c,hr,he⟩:=hm;rcases A.find w kx es.toList hi (rD he J) with ⟨h1,_⟩ | ⟨j,C,h1,E,I⟩
 · cases ok <;> simp [execOp,Dq,bu L,M,O,run_getObj_map hr,A.check _ w kx hi,h1,CO U]
 · exact absurd (by rw [← he,← I]; exact qN (f:=fun e:MapEntry=>(e.key,e.val))<|gn E)<|hn C.val
end
end Go.Hb
namespace Go.Hb
def tag (w:ai) (k:Nat):Nat:=match w.heap[k]? with | some (.cells _ t _)=>t+2 | some (.map _ _)=>1 | _=>0
theorem qw {w:ai} {k t:Nat} {cs:Array ag} {z:Nat×Nat} (h:w.heap[k]? =some (.cells cs t z)):tag w k=t+2:=by unfold tag; rw [h]
theorem Cg {w:ai} {B e size n k:Nat} {v:ag} {xs:List ag} (h:w.ownsRow B e size v n xs) (A:v.ownBlock=some k):tag w k=e+2:=by
 rcases h.2 with ⟨rfl,_⟩ | ⟨g,cap,cur,rfl,_,hg,_⟩
 · simp [eU] at A
 · simp only [eU,bH] at A; subst A;exact qw hg
def TF (w:ai) (L:List Nat) (F:Nat→Prop):Prop := ∀ k,F k→L.contains (tag w k)=true
theorem TF.no {w:ai} {L:List Nat} {F:Nat→Prop} (h:TF w L F) {k t:Nat} (C:tag w k=t) (A:L.contains t=false):¬F k:=by grind [TF,tag]
theorem TF.eq {w:ai} {L:List Nat} {b t:Nat} (E:tag w b=t) (C:L.contains t=true):TF w L (fun k=>k=b):=fun k A=>by
 subst A; rw [E]; exact C
theorem TF.own {w:ai} {L:List Nat} {B e size n:Nat} {v:ag} {xs:List ag} (h:w.ownsRow B e size v n xs) (C:L.contains (e+2)=true):TF w L (fun k=>v.ownBlock=some k):=fun k A=>by
 rw [Cg h A]; exact C
theorem Md.yF {F:Nat→Prop} {w w':ai} {L:List Nat} {k t:Nat} {cs:Array ag} {z:Nat×Nat} (hm:Md F w w') (hT:TF w L F) (h:w.heap[k]? =some (.cells cs t z)) (A:L.contains (t+2)=false):w'.heap[k]? =some (.cells cs t z):=hm.ax h<|hT.no (qw h) A
theorem lB {F:Nat→Prop} {w w':ai} {L:List Nat} {B e size n:Nat} {v:ag} {xs:List ag} (h:w.ownsRow B e size v n xs) (hm:Md F w w') (hT:TF w L F) (C:L.contains (e+2)=false):w'.ownsRow B e size v n xs:=du h hm fun _ A=>hT.no (Cg h A) C
end Go.Hb
namespace Go.Hb
inductive TD | no | int (k:bC) | str | bool | ptr | dc (e n:Nat) | st (offs:List Nat)
def ko {α:Type} :List α→Nat→α→α
 | [],_,d=>d
 | a::_,0,_=>a
 | _::l,n+1,d=>ko l n d
def oI (T:List (List TD)) (t:Nat):TD:=ko (ko T (t / 16) []) (t % 16) .no
def dz:bC→Nat
 | .i8=>0 | .i16=>1 | .i32=>2 | .i64=>3 | .u8=>4 | .u16=>5 | .u32=>6 | .u64=>7
theorem mi {a b:bC} (h:aM (dz a) (dz b)=true):a=b:=by
 cases a <;> cases b <;> first | rfl | (cases h)
def r8 (P:av) (t:Nat):Nat→List Nat→Bool
 | _,[]=>true
 | f,n::l=>(match nF P t f with | some m=>aM m n | none=>false) && r8 P t (f+1) l
def xl (P:av) (t:Nat):TD→Bool
 | .no=>true
 | .int k=>match P.underlying t with | some (.int C)=>aM (dz k) (dz C) | _=>false
 | .str=>match P.underlying t with | some .string=>true | _=>false
 | .bool=>match P.underlying t with | some .bool=>true | _=>false
 | .ptr=>match P.underlying t with | some (.pointer _)=>true | _=>false
 | .dc e n=>match P.underlying t,cV P t with | some (.slice A),some n'=>aM e A && aM n n' | _,_=>false
 | .st E=>r8 P t 0 E
def su (P:av):Nat→List TD→Bool
 | _,[]=>true
 | t,d::l=>xl P t d && su P (t+1) l
def iM (P:av):Nat→List (List TD)→Bool
 | _,[]=>true
 | t,r::l=>su P t r && iM P (t+16) l
theorem Bi {P:av} :∀ {l:List TD} {b j:Nat},su P b l=true→xl P (b+j) (ko l j .no)=true
 | [],b,j,_=>rfl
 | d::l,b,0,h=>(oP.1 h).1
 | d::l,b,j+1,h=>by
   have :=Bi (j:=j) (oP.1 h).2;rw [show b+(j+1)=b+1 +j from by omega]; exact this
theorem Cc {P:av} :∀ {T:List (List TD)} {b i:Nat},iM P b T=true→su P (b+16 *i) (ko T i [])=true
 | [],b,i,_=>rfl
 | r::T,b,0,h=>(oP.1 h).1
 | r::T,b,i+1,h=>by
   have :=Cc (i:=i) (oP.1 h).2;rw [show b+16 *(i+1)=b+16 +16 *i from by omega]; exact this
theorem xj {P:av} {T:List (List TD)} (h:iM P 0 T=true) (t:Nat):xl P t (oI T t)=true :=by
 have :=Bi (j:=t % 16)<|Cc (i:=t / 16) h;rw [show 0 +16 *(t / 16)+t % 16=t from by omega] at this;exact this
theorem AU {P:av} {t:Nat} :∀ {l:List Nat} {b f n:Nat},r8 P t b l=true→l[f]? =some n→nF P t (b+f)=some n
 | [],b,f,n,_,h=>by simp at h
 | m::l,b,0,n,h,hn=>by
   have h1:=(oP.1 h).1;obtain rfl :m=n:=by simpa using hn
   split at h1
   · rename_i A hm; rw [Nat.add_zero,hm,bO h1]
   · cases h1
 | m::l,b,f+1,n,h,hn=>by
   have :=AU (f:=f) (oP.1 h).2<|by simpa using hn
   rw [show b+(f+1)=b+1 +f from by omega]; exact this
section
variable {P:av} {T:List (List TD)} (hT:iM P 0 T=true) {t:Nat}
include hT
theorem FX (h:oI T t= .str):P.underlying t=some .string:=by
 have :=xj hT t;rw [h] at this;change (match P.underlying t with | some .string=>true | _=>false)=true at this;split at this
 · assumption
 · cases this
theorem FV {e n:Nat} (h:oI T t= .dc e n):P.underlying t=some (.slice e)∧cV P t=some n:=by
 have :=xj hT t;rw [h] at this;change (match P.underlying t,cV P t with | some (.slice A),some n'=>aM e A && aM n n' | _,_=>false)=true at this;split at this
 · rename_i h1 C;simp only [bg] at this;rw [h1,C,bO this.1,bO this.2]; exact ⟨rfl,rfl⟩
 · cases this
theorem FW {l:List Nat} {f n:Nat} (h:oI T t= .st l) (hn:l[f]? =some n):nF P t f=some n:=by
 have :=xj hT t;rw [h] at this;have :=AU (show r8 P t 0 l=true from this) hn;rwa [cK] at this
end
def I2 (k:bC) (n:Int):Prop :=match k with
 | .i64=> -9223372036854775808≤n∧n≤9223372036854775807
 | .u8=>0≤n∧n≤255
 | .i32=> -2147483648≤n∧n≤2147483647
 | .u32=>0≤n∧n≤4294967295
 | .u64=>0≤n∧n≤18446744073709551615
 | _=>False
theorem Bh {k:bC} {n:Int} (h:I2 k n):k.wrap n=n:=by
 cases k <;> first | exact iN h | exact xF h | exact xC h | exact CN h | exact gi h | exact h.elim
inductive nk | no | v (x:ag) | vc (x:ag) (c:Prop)
def sn (k:bC) (n:Int):nk:=match k with
 | .i64=> .vc (.int .i64 n)<|-9223372036854775808≤n∧n≤9223372036854775807
 | .u8=> .vc (.int .u8 n)<|0≤n∧n≤255
 | .i32=> .vc (.int .i32 n)<|-2147483648≤n∧n≤2147483647
 | .u32=> .vc (.int .u32 n)<|0≤n∧n≤4294967295
 | .u64=> .vc (.int .u64 n)<|0≤n∧n≤18446744073709551615
 | _=> .no
def vb (op:BinOp) (k:bC) (a b:Int):nk:=match op with
 | .lss=> .v<|.bool<|decide (a < b)
 | .leq=> .v<|.bool<|decide (a≤b)
 | .gtr=> .v<|.bool<|decide (b < a)
 | .geq=> .v<|.bool<|decide (b≤a)
 | .eql=> .v<|.bool<|decide (a=b)
 | .neq=> .v<|.bool<|decide (a≠b)
 | .add=>sn k<|a+b
 | .sub=>sn k<|a - b
 | _=> .no
def BW (op:BinOp) (l m:List UInt8):nk:=match op with
 | .eql=> .v<|.bool<|decide (l=m)
 | .neq=> .v<|.bool<|decide (l≠m)
 | .add=> .vc (str<|l++m)<|l.length+m.length≤9223372036854775807
 | _=> .no
def jF (v:ag):nk:=match v with
 | .int k n=> .v<|.int k n
 | .bool b=> .v<|.bool b
 | .string ⟨⟨l⟩⟩=> .v<|str l
 | .pointer a=> .v<|.pointer a
 | .slice a n c=> .v<|.slice a n c
 | .map r=> .v<|.map r
 | .func f a b=> .v<|.func f a b
 | .nilFunc=> .v .nilFunc
 | .iface t v=> .v<|.iface t v
 | .nilIface=> .v .nilIface
 | .agg c=> .v<|.agg c
 | .tuple c=> .v<|.tuple c
 | _=> .no
theorem GL {v x:ag} (h:jF v= .v x):v=x:=by
 unfold jF at h;split at h <;> cases h <;> rfl
theorem GM {v x:ag} {c:Prop} (h:jF v= .vc x c):False:=by
 unfold jF at h;split at h <;> cases h
def nX (T:List (List TD)) (N:Fm) (σ:Nat→ag) (o:Op):nk:=match o with
 | .move x=>jF<|ev N σ x
 | .assign x=>jF<|ev N σ x
 | .pick c x y=>match ev N σ c with
   | .bool true =>jF<|ev N σ x
   | .bool false =>jF<|ev N σ y
   | _=> .no
 | .nilCheck x=>match ev N σ x with
   | .pointer (some a)=> .v<|.pointer<|some a
   | _=> .no
 | .extract x i=>match ev N σ x with
   | .tuple ⟨vs⟩=>match vs[i]? with
     | some v=> .v v
     | none=> .no
   | _=> .no
 | .fieldAddr s x f=>match ev N σ x,oI T s with
   | .pointer (some ⟨b,off,none⟩),.st l=>match l[f]? with
     | some n=> .v<|.pointer<|some ⟨b,off+n,none⟩
     | none=> .no
   | _,_=> .no
 | .binOp op t x y _=>match ev N σ x,ev N σ y with
   | .int k a,.int k' b=>cond (aM (dz k)<|dz k') (vb op k a b) .no
   | .string ⟨⟨l⟩⟩,.string ⟨⟨m⟩⟩=>BW op l m
   | _,_=> .no
 | .unOp .not _ x=>match ev N σ x with
   | .bool b=> .v<|.bool<|!b
   | _=> .no
 | .call ⟨.builtin .len,⟨[x]⟩,⟨[t]⟩⟩=>match ev N σ x,oI T t with
   | .string ⟨⟨l⟩⟩,.str=> .v<|.int .i64 l.length
   | .slice a n c,.dc _ _=> .v<|.int .i64 n
   | _,_=> .no
 | _=> .no
def vO (P:av) (N:Fm) (σ:Nat→ag) (o:aE) (w:ai):nk→Prop
 | .no=>True
 | .v x=>(execOp (ev N σ) o).run P w= .ok (.value x) w
 | .vc x c=>c→(execOp (ev N σ) o).run P w= .ok (.value x) w
theorem rJ {P:av} {N:Fm} {σ:Nat→ag} {o:aE} {w:ai} {v:ag} (h:(execOp (ev N σ) o).run P w= .ok (.value v) w):vO P N σ o w (jF v):=by
 cases hf:jF v with
 | no=>trivial
 | v x=>rw [← GL hf]; exact h
 | vc x c=>exact (GM hf).elim
theorem se {P:av} {T:List (List TD)} (hT:iM P 0 T=true) {N:Fm} {σ:Nat→ag} (d:Option Nat) (o:Op) (ty:au) (pos :String) (af:Array cH) (g:Option (Nat×Bool)) (w:ai):vO P N σ ⟨d,o,ty,pos,af,g⟩ w (nX T N σ o):=by
 unfold nX;split
 · exact rJ mv
 · exact rJ aQ
 · split
   · exact rJ<|n6<|by assumption
   · exact rJ<|lC<|by assumption
   · trivial
 · split
   · exact nc<|by assumption
   · trivial
 · split
   · split
     · exact xt (by assumption)<|by simpa using by assumption
     · trivial
   · trivial
 · split
   · split
     · exact fa (FW hT (by assumption)<|by assumption)<|by assumption
     · trivial
   · trivial
 · split
   · rename_i k a E b A C;cases hk:aM (dz k) (dz E)
     · trivial
     · obtain rfl :=mi hk;show vO _ _ _ _ _ (vb _ _ _ _);unfold vb;split
       · exact lt A C
       · exact le A C
       · exact gt A C
       · exact ge A C
       · exact zI A C
       · exact AN A C
       · unfold sn; split <;> first | trivial | exact fun h=>ad A C<|Bh h
       · unfold sn; split <;> first | trivial | exact fun h=>sb A C<|Bh h
       · trivial
   · rename_i l m A C;unfold BW;split
     · exact zK A C
     · exact AP A C
     · exact fun h=>cc A C h
     · trivial
   · trivial
 · split
   · exact no<|by assumption
   · trivial
 · split
   · exact Ay (FX hT<|by assumption) J<|by assumption
   · exact vv (FV hT<|by assumption).1 J<|by assumption
   · trivial
 · trivial
inductive Pt | c (c:bJ) | l (ops:Array aE) (l:List aE) | x (e:bt)
inductive Kn | sq (y:bJ) | bk (id:Nat)
def dV (P:av) (N:Fm):List Kn→(bt→(Nat→ag)→ai→Prop)→bt→(Nat→ag)→ai→Prop
 | [],Q=>Q
 | .sq y::st,Q=>gG (fun σ w=>bE P N y (dV P N st Q) σ w)<|dV P N st Q
 | .bk id::st,Q=>kh id<|dV P N st Q
@[reducible] def At (P:av) (N:Fm) (Q:bt→(Nat→ag)→ai→Prop) (w:ai) (p:Pt) (st:List Kn) (σ:Nat→ag):Prop :=match p with
 | .c c=>bE P N c (dV P N st Q) σ w
 | .l ops l=>bR P N ops (dV P N st Q) l σ w
 | .x e=>dV P N st Q e σ w
inductive Out | no | at (p:Pt) (st:List Kn) (σ:Nat→ag) (c:Option Prop)
def andG (c:Prop):Option Prop→Option Prop
 | none=>some c
 | some d=>some<|c∧d
def optG:Option Prop→Prop
 | none=>True
 | some c=>c
theorem q8 {c:Prop} {d:Option Prop} (h:optG (andG c d)):c∧optG d:=by
 cases d
 · exact ⟨h,trivial⟩
 · exact h
inductive Eu | no | go (p:Pt) (st:List Kn) (σ:Nat→ag) (c:Option Prop)
def stepG (T:List (List TD)) (N:Fm) (p:Pt) (st:List Kn) (σ:Nat→ag) (c:Option Prop):Eu:=match p with
 | .x .normal=>match st with
   | .sq y::st=> .go (.c y) st σ c
   | .bk _::st=> .go (.x .normal) st σ c
   | []=> .no
 | .x .ret=>match st with
   | _::st=> .go (.x .ret) st σ c
   | []=> .no
 | .x (.exit i)=>match st with
   | .sq _::st=> .go (.x<|.exit i) st σ c
   | .bk j::st=>cond (aM i j) (.go (.x .normal) st σ c)<|.go (.x<|.exit i) st σ c
   | []=> .no
 | .x _=> .no
 | .c (.seq x y)=> .go (.c x) (.sq y::st) σ c
 | .c (.block id x)=> .go (.c x) (.bk id::st) σ c
 | .c .skip => .go (.x .normal) st σ c
 | .c .ret=> .go (.x .ret) st σ c
 | .c (.exit i)=> .go (.x<|.exit i) st σ c
 | .c (.region id ⟨l⟩ false)=>cond (kq N.r l) (.go (.l ⟨l⟩ l) st σ c) .no
 | .c (.cond x a b)=>match ev N σ x with
   | .bool true => .go (.c a) st σ c
   | .bool false => .go (.c b) st σ c
   | _=> .no
 | .c _=> .no
 | .l ops []=> .go (.x .normal) st σ c
 | .l ops (⟨some d,o,ty,pos,af,none⟩::r)=>match nX T N σ o with
   | .v x=> .go (.l ops r) st (bo σ d x) c
   | .vc x c'=> .go (.l ops r) st (bo σ d x)<|andG c' c
   | .no=> .no
 | .l ops (⟨some d,o,ty,pos,af,some (j,want)⟩::r)=>match dC ops j with
   | some t=>cond (aF t N.n) (match σ t with
     | .bool b=>cond (b==want) (match nX T N σ o with
       | .v x=> .go (.l ops r) st (bo σ d x) c
       | .vc x c'=> .go (.l ops r) st (bo σ d x)<|andG c' c
       | .no=> .no) (.go (.l ops r) st (bo σ d undef) c)
     | .tuple ⟨[]⟩=> .go (.l ops r) st (bo σ d undef) c
     | _=> .no) .no
   | none=> .no
 | .l ops _=> .no
def ga (T:List (List TD)) (N:Fm):Nat→Pt→List Kn→(Nat→ag)→Option Prop→Out
 | 0,p,st,σ,c=> .at p st σ c
 | n+1,p,st,σ,c=>match stepG T N p st σ c with
   | .go p st σ c=>ga T N n p st σ c
   | .no=> .no
section
variable {P:av} {T:List (List TD)} {N:Fm} {Q:bt→(Nat→ag)→ai→Prop} {w:ai} {σ σ':Nat→ag} {p p':Pt} {st st':List Kn} {c c':Option Prop} {n:Nat}
theorem JV (hT:iM P 0 T=true) (h:stepG T N p st σ c= .go p' st' σ' c') (A:optG c') (C:At P N Q w p' st' σ'):optG c∧At P N Q w p st σ:=by
 unfold stepG at h;split at h
 · split at h
   · cases h; exact ⟨A,tn C⟩
   · cases h; exact ⟨A,bn C⟩
   · cases h
 · split at h
   · rename_i k _;cases h; cases k
     · exact ⟨A,tr C⟩
     · exact ⟨A,br C⟩
   · cases h
 · split at h
   · cases h; exact ⟨A,te _ C⟩
   · rename_i i _ j _;cases hij:aM i j
     · rw [hij] at h; cases h;exact ⟨A,EU (fun e=>by rw [e] at hij; simp at hij) C⟩
     · rw [hij] at h; cases h;obtain rfl :=bO hij;exact ⟨A,be C⟩
   · cases h
 · cases h
 · cases h; exact ⟨A,sq fun K U=>CJ (fun e σ w O=>by cases e <;> first | exact U _ _ O | exact O) C⟩
 · cases h; exact ⟨A,ax C⟩
 · cases h; exact ⟨A,BK C⟩
 · cases h; exact ⟨A,rt C⟩
 · cases h; exact ⟨A,ext C⟩
 · rename_i id l;cases hr:kq N.r l
   · rw [hr] at h; cases h
   · rw [hr] at h; cases h;exact ⟨A,rg hr C⟩
 · split at h
   · cases h; exact ⟨A,ct (by assumption) C⟩
   · cases h; exact ⟨A,cf (by assumption) C⟩
   · cases h
 · cases h
 · cases h; exact ⟨A,nl C⟩
 · rename_i ops d o ty pos af r;have bP:=se (P:=P) hT (N:=N) (σ:=σ) (some d) o ty pos af none w;split at h
   · rename_i x E;rw [E] at bP; cases h;exact ⟨A,Hb.p bP C⟩
   · rename_i x q E;rw [E] at bP; cases h;obtain ⟨L,M⟩:=q8 A;exact ⟨M,Hb.p (bP L) C⟩
   · cases h
 · rename_i ops d o ty pos af j want r;have bP:=se (P:=P) hT (N:=N) (σ:=σ) (some d) o ty pos af (some (j,want)) w;split at h
   · rename_i t J;cases hb:aF t N.n
     · rw [hb] at h; cases h
     · rw [hb] at h;simp only [cond_true] at h;split at h
       · rename_i b I;cases hw:(b==want)
         · rw [hw] at h; cases h;exact ⟨A,sk J hb I hw C⟩
         · rw [hw] at h;simp only [cond_true] at h;obtain rfl :b=want:=by simpa using hw
           split at h
           · rename_i x E;rw [E] at bP; cases h;exact ⟨A,pg J hb I bP C⟩
           · rename_i x q E;rw [E] at bP; cases h;obtain ⟨L,M⟩:=q8 A;exact ⟨M,pg J hb I (bP L) C⟩
           · cases h
       · rename_i I;cases h;exact ⟨A,BL J hb I C⟩
       · cases h
   · cases h
 · cases h
theorem hJ (hT:iM P 0 T=true):∀ (n:Nat) (p:Pt) (st:List Kn) (σ:Nat→ag) (c:Option Prop),ga T N n p st σ c= .at p' st' σ' c'→optG c'→At P N Q w p' st' σ'→optG c∧At P N Q w p st σ
 | 0,p,st,σ,c,h,hc,hk=>by cases h; exact ⟨hc,hk⟩
 | n+1,p,st,σ,c,h,hc,hk=>by
   simp only [ga] at h;split at h
   · rename_i C;obtain ⟨h1,A⟩:=hJ hT n _ _ _ _ h hc hk;exact JV hT C h1 A
   · cases h
end
inductive Er | no | at (fuel:Nat) (listed:Array Bool) (σ:Nat→ag) (c:Option Prop)
inductive Et | no | go (σ:Nat→ag) (c:Option Prop)
def B7 (T:List (List TD)) (N:Fm) (g:Bool) (ops:Array aE) (i:Nat) (σ:Nat→ag) (c:Option Prop):Et:=match ops[i]? with
 | some ⟨some d,o,_,_,_,none⟩=>match nX T N σ o with
   | .v x=> .go (bo σ d x) c
   | .vc x c'=> .go (bo σ d x)<|andG c' c
   | .no=> .no
 | some ⟨some d,o,_,_,_,some (j,want)⟩=>cond g (match dC ops j with
   | some t=>cond (aF t N.n) (match σ t with
     | .bool b=>cond (b==want) (match nX T N σ o with
       | .v x=> .go (bo σ d x) c
       | .vc x c'=> .go (bo σ d x)<|andG c' c
       | .no=> .no) (.go (bo σ d undef) c)
     | .tuple ⟨[]⟩=> .go (bo σ d undef) c
     | _=> .no) .no
   | none=> .no) .no
 | _=> .no
def ky (T:List (List TD)) (N:Fm) (g:Bool) (ops:Array aE):List Nat→Nat→Array Bool→(Nat→ag)→Option Prop→Er
 | [],fuel,listed,σ,c=> .at fuel listed σ c
 | _::_,0,_,_,_=> .no
 | i::is,fuel+1,listed,σ,c=>match B7 T N g ops i σ c with
   | .go σ c=>ky T N g ops is fuel (listed.setIfInBounds i true) σ c
   | .no=> .no
def j8 (fr:Array Bool→Nat→Bool):List Nat→Array Bool→Bool
 | [],_=>true
 | i::is,listed=>fr listed i && j8 fr is (listed.setIfInBounds i true)
section
variable {P:av} {T:List (List TD)} {N:Fm} {g:Bool} {ops:Array aE} {fr:Array Bool→Nat→Bool} {fuel':Nat} {listed':Array Bool} {σ':Nat→ag} {c':Option Prop} {w:ai}
theorem sA (hT:iM P 0 T=true) (W:Nat→Array Bool→(Nat→ag)→Prop)
 (H1:∀ {i d o ty pos af v fuel listed σ},ops[i]? =some ⟨some d,o,ty,pos,af,none⟩→fr listed i=true→(∀ w,(execOp (ev N σ) ⟨some d,o,ty,pos,af,none⟩).run P w= .ok (.value v) w)→W fuel (listed.setIfInBounds i true) (bo σ d v)→W (fuel+1) listed σ)
 (M:g=true→∀ {i d o ty pos af v fuel listed σ j want t},ops[i]? =some ⟨some d,o,ty,pos,af,some (j,want)⟩→fr listed i=true→dC ops j=some t→aF t N.n=true→σ t= .bool want→(∀ w,(execOp (ev N σ) ⟨some d,o,ty,pos,af,some (j,want)⟩).run P w= .ok (.value v) w)→W fuel (listed.setIfInBounds i true) (bo σ d v)→W (fuel+1) listed σ)
 (V:g=true→∀ {i d o ty pos af fuel listed σ j want t b},ops[i]? =some ⟨some d,o,ty,pos,af,some (j,want)⟩→fr listed i=true→dC ops j=some t→aF t N.n=true→σ t= .bool b→(b==want)=false→W fuel (listed.setIfInBounds i true) (bo σ d undef)→W (fuel+1) listed σ)
 (Z:g=true→∀ {i d o ty pos af fuel listed σ j want t},ops[i]? =some ⟨some d,o,ty,pos,af,some (j,want)⟩→fr listed i=true→dC ops j=some t→aF t N.n=true→σ t=undef→W fuel (listed.setIfInBounds i true) (bo σ d undef)→W (fuel+1) listed σ):
 ∀ (is:List Nat) (fuel:Nat) (listed:Array Bool) (σ:Nat→ag) (c:Option Prop),ky T N g ops is fuel listed σ c= .at fuel' listed' σ' c'→j8 fr is listed=true→optG c'→W fuel' listed' σ'→optG c∧W fuel listed σ
 | [],fuel,listed,σ,c,h,_,C,E=>by cases h; exact ⟨C,E⟩
 | i::is,0,listed,σ,c,h,_,C,E=>by cases h
 | i::is,fuel+1,listed,σ,c,h,hf,C,E=>by
   simp only [j8,bg] at hf;simp only [ky] at h;split at h
   · rename_i ab c2 A;obtain ⟨C,E⟩:=sA hT W H1 M V Z is fuel _ _ _ h hf.2 C E;unfold B7 at A;split at A
     · rename_i d o ty pos af hi;have bP:=fun w=>se hT (N:=N) (σ:=σ) (some d) o ty pos af none w;split at A
       · rename_i x I;rw [I] at bP; cases A;exact ⟨C,H1 hi hf.1 bP E⟩
       · rename_i x q I;rw [I] at bP; cases A;obtain ⟨O,U⟩:=q8 C;exact ⟨U,H1 hi hf.1 (fun w=>bP w O) E⟩
       · cases A
     · rename_i d o ty pos af j want hi;have bP:=fun w=>se hT (N:=N) (σ:=σ) (some d) o ty pos af (some (j,want)) w;cases hg:g
       · rw [hg] at A; cases A
       · rw [hg] at A;simp only [cond_true] at A;split at A
         · rename_i t L;cases hb:aF t N.n
           · rw [hb] at A; cases A
           · rw [hb] at A;simp only [cond_true] at A;split at A
             · rename_i b J;cases hw:(b==want)
               · rw [hw] at A; cases A;exact ⟨C,V hg hi hf.1 L hb J hw E⟩
               · rw [hw] at A;simp only [cond_true] at A;obtain rfl :b=want:=by simpa using hw
                 split at A
                 · rename_i x I;rw [I] at bP; cases A;exact ⟨C,M hg hi hf.1 L hb J bP E⟩
                 · rename_i x q I;rw [I] at bP; cases A;obtain ⟨O,U⟩:=q8 C;exact ⟨U,M hg hi hf.1 L hb J (fun w=>bP w O) E⟩
                 · cases A
             · rename_i J;cases A;exact ⟨C,Z hg hi hf.1 L hb J E⟩
             · cases A
         · cases A
     · cases A
   · cases h
variable {Q:bt→(Nat→ag)→ai→Prop} {S:ai→Prop} {r fuel:Nat} {listed:Array Bool} {σ:Nat→ag}
theorem GU (hT:iM P 0 T=true) (is:List Nat) (h:ky T N true ops is fuel listed σ none= .at fuel' listed' σ' c') (J:S w) (k:cE P N ops Q S fuel' listed' σ' w) (M:optG c') (A:j8 (ee N.F ops) is listed=true):cE P N ops Q S fuel listed σ w:=
 (sA hT (fun fuel listed σ=>cE P N ops Q S fuel listed σ w) (fun hi A L k=>hp _ hi A (fun w _=>L w) J k) (fun _=>fun hi A C E I L k=>Ac _ hi A C E I (fun w _=>L w) J k) (fun _=>fun hi A C E I hb k=>jH _ hi A C E I hb J k) (fun _=>fun hi A C E I k=>He _ hi A C E I J k) is fuel listed σ none h A M k).2
theorem GW (hT:iM P 0 T=true) (is:List Nat) (h:ky T N false ops is fuel listed σ none= .at fuel' listed' σ' c') (C:S w) (k:cD P N ops Q S r fuel' listed' σ' w) (E:optG c') (A:j8 (fun l i=>pM N.F ops l r i) is listed=true):cD P N ops Q S r fuel listed σ w:=
 (sA (g:=false) hT (fun fuel listed σ=>cD P N ops Q S r fuel listed σ w) (fun hi A I k=>lq _ hi A (fun w _=>I w) C k) (fun h=>cQ h) (fun h=>cQ h) (fun h=>cQ h) is fuel listed σ none h A E k).2
theorem GV (hT:iM P 0 T=true) (is:List Nat) (h:ky T N false ops is fuel listed σ none= .at fuel' listed' σ' c') (C:S w) (k:cD P N ops Q S r fuel' listed' σ' w) (E:optG c') (A:j8 (fun l i=>mh N.F ops l r i) is listed=true):cD P N ops Q S r fuel listed σ w:=
 (sA (g:=false) hT (fun fuel listed σ=>cD P N ops Q S r fuel listed σ w) (fun hi A I k=>pV _ hi A I (fun _=>C) k) (fun h=>cQ h) (fun h=>cQ h) (fun h=>cQ h) is fuel listed σ none h A E k).2
end
def uf (P:av) (f:dW):Bool:=match P.funcs[f]? with
 | some fn=> !(fn.name== "runtime.NumGoroutine") && !fn.body.isNone
 | none=>false
theorem Fa {P:av} {f:dW} (h:uf P f=true):fT P f:=by
 unfold uf at h;split at h
 · simp only [bg,jU] at h;exact ug (by assumption) h.1 h.2
 · cases h
section
variable {P:av} {N:Fm} {σ:Nat→ag} {w:ai} {dst:Option Nat} {ty:au} {pos :String} {af:Array cH} {g:Option (Nat×Bool)} {x y z:aY} {K:(Nat→ag)→ai→Prop}
theorem a9 {f:dW} {args:Array aY} {A:Array au} {L:List ag} {R:ag→ai→Prop} (hr:bp P f L.toArray w R) (C:args.toList.map (ev N σ)=L)
 (k:∀ v w',R v w'→K (dd σ dst v) w') (E:uf P f=true :=by kernel_rfl):bW P N ⟨dst,.call ⟨.value (.func f),args,A⟩,ty,pos,af,g⟩ σ w K:=cl (Fa E) hr C k
theorem ay {t b off :Nat} {v:ag} (C:ev N σ x= .pointer (some ⟨b,off,none⟩)) (A:az w.heap b off =some v) (hu:cZ P t=some none:=by kernel_rfl):
 (execOp (ev N σ) ⟨dst,.load t x,ty,pos,af,g⟩).run P w= .ok (.value v) w:=ld hu C A
theorem cq (n:Nat) {t t':au} {a b:Int} (A:ev N σ x= .int .i64 a:=by exact J) (C:ev N σ y= .int .i64 b:=by exact J) (h:a+b=(n:Int)∧n≤9223372036854775807:=by omega):
 (execOp (ev N σ) ⟨dst,.binOp .add t x y t',ty,pos,af,g⟩).run P w= .ok (.value<|.int .i64 (n:Int)) w:=tX (n:Int) A C<|xA h.1 h.2
theorem qk (n:Nat) {t t':au} {a b:Int} (A:ev N σ x= .int .i64 a:=by exact J) (C:ev N σ y= .int .i64 b:=by exact J) (h:a - b=(n:Int)∧n≤9223372036854775807:=by omega):
 (execOp (ev N σ) ⟨dst,.binOp .sub t x y t',ty,pos,af,g⟩).run P w= .ok (.value<|.int .i64 (n:Int)) w:=wo (n:Int) A C<|xA h.1 h.2
variable {ops:Array aE} {Q:bt→(Nat→ag)→ai→Prop} {S:ai→Prop} {r fuel d t b off :Nat} {listed:Array Bool} {v:ag} {W:ai} {l:List aE} {id:Nat}
theorem da (i:Nat) (h:(ops[i]?,ev N σ x)=(some ⟨some d,.load t x,ty,pos,af,none⟩,.pointer (some ⟨b,off,none⟩))) (A:Wk W w) (C:az W.heap b off =some v) (k:cE P N ops Q (fun w'=>Wk W w') fuel (listed.setIfInBounds i true) (bo σ d v) w)
 (E:ee N.F ops listed i=true :=by kernel_rfl) (hu:cZ P t=some none:=by kernel_rfl):cE P N ops Q (fun w'=>Wk W w') (fuel+1) listed σ w:=hp i (congrArg gp h) E (fun _ hw=>ld hu (congrArg Prod.snd h)<|hw.az C) A k
theorem fl (h:Wk w w.drew→cE P N l.toArray Q (fun w'=>Wk w w') l.length (oO l.length false) σ w.drew) (hr:kq N.r l=true :=by exact J) (hm:P.follows .mixedOrders=true :=by kernel_rfl):bE P N (.region id l.toArray true) Q σ w:=bh _ hr hm (Md.refl _ _).drew<|h (Md.refl _ _).drew
end
end Go.Hb
end
section
namespace Go.Hb
open Go.ChangeShapes Go.WideShapes Go.ChangeAt
theorem Wk.frame {w w':ai} (h:Wk w w') (may:MemPlace→Prop):w.keptBut w' may:=by
 refine ⟨h.os,h.output,fun i hi=> ?_⟩;rw [h.eY i hi id];split <;> simp_all
theorem Wk.same {w w':ai} (h:Wk w w') {p:MemPlace} (hp:p.block < w.heap.size):w.sameAt w' p:=by
 cases p with
 | cell b o=>exact World.cell?_of_block (w:=w)<|h.eY b hp id
 | map b=>exact h.eY b hp id
section
variable {H:Type} {enc:au×ag→H} {P:av} {W W':ai}
theorem Cp (J:laidOutB P=true) (I:Wk W W'):∀ (C:List au) (vs:List ag) (E:List (DataW H)) (ps:List MemPlace),C.all (fun t=>P.readableRec t && decide (t < P.types.size))=true→(∀ x∈ps,x.block < W.heap.size)→
 Di enc P W 0 (fun _=>true) true C vs E ps→Di enc P W' 0 (fun b=>decide (b < W.heap.size)) true C vs E ps
 | [],[],[],_,_,_,h=>h
 | t::C,v::vs,d::E,_,hp,aP,⟨p,q,h1,h2,he⟩=>by
   subst he;rw [List.all_cons,bg,bg] at hp;exact ⟨p,q,WideElems.Trod_stays J hp.1.1 (of_decide_eq_true hp.1.2) h1 (fun x A=>I.same<|aP x<|o6 _ A) (fun x A=>decide_eq_true<|aP x<|o6 _ A),
    Cp J I C vs E q hp.2 (fun x A=>aP x<|List.mem_append_right _ A) h2,rfl⟩
 | [],_::_,_,_,_,_,h=>h.elim
 | [],[],_::_,_,_,_,h=>h.elim
 | _::_,[],_,_,_,_,h=>h.elim
 | _::_,_::_,[],_,_,_,h=>h.elim
theorem IW {f:dW} {fn:fP} {s:ChangeSpec} {args:Array ag} {A gs:List (DataW H)} {before:List MemPlace} {O:au} (I:DataW.Whole enc P fn.params.toList s.vars false W args.toList A gs before) (M:s.vars= [])
 (C:s.fn H (A++gs)= {results:= [.lit (.bool true)],args:=A}) (hr:fn.resultTypes= #[O]) (hb:P.underlying O=some .bool) (V:laidOutB P=true) (hp:fn.params.toList.all (fun t=>P.readableRec t && decide (t < P.types.size))=true)
 (h:bp P f args W (fun v w'=>v= .bool true∧Wk W w')):Calls P f args W fun e W'=> ∃ v,e= .returned v∧s.post enc P fn false true false false W args v W':=by
 refine jV h fun e W' ⟨v,he,Z,L⟩=>⟨v,he,?_⟩
 subst Z;have J:=I;obtain ⟨p,q,U,E,rfl,_,_⟩:=I;rw [M] at E;obtain ⟨rfl,rfl⟩:=trodVars_none E;have aP:∀ x∈p,x.block < W.heap.size:=fun x ab=>J.lt x<|by simpa using ab
 refine ⟨_,_,_,[],p,[],J,?_,?_,?_,L.frame _,fun h=>by cases h⟩
 · rw [C,hr];exact trodAll_cons_mk (shut_bool hb _) trodAll_mk0
 · rw [C];exact Cp V L _ _ _ _ hp aP U
 · rw [C,M]; rfl
theorem yO {w:ai} {a:aZ} {v:ag} (h:w.cell? a=some v):a=⟨a.block,a.off,none⟩∧az w.heap a.block a.off=some v:=by
 obtain ⟨b,o,C⟩:=a;unfold DA at h;simp only at h;split at h
 · rename_i c t z hb;split at h
   · cases h
   · rename_i A;cases C with
     | none=>exact ⟨rfl,by rw [eo hb]; exact h⟩
     | some x=>simp at A
 · cases h
theorem Ff {w:ai} {a:aZ} {xs:List ag} (h:∀ j u,xs[j]? =some u→w.cell? (a.add j)=some u):aU w.heap (some a) xs:=by
 cases xs with
 | nil=>exact aU.nil _ _
 | cons x xs=>
   have h0:=(yO<|h 0 x rfl).1;have ha:a=⟨a.block,a.off,none⟩:=h0;refine ⟨fun _=>congrArg some ha,fun j u hu=> ?_⟩;have h1:=h j u hu;rw [ha,dY,gR] at h1;exact h1
end
end Go.Hb
namespace Go.Hb
open Go.Proofs.YtjaoldaegkmkjaaGreatDoor
theorem E4 {H:Type} {l:List (DataW H)} (A:Rows.uptoSmall H l=true):Rows.uptoBulkAll l≤1048576:=of_decide_eq_true A
end Go.Hb
namespace Go.Hb
open Go.Proofs.YtjaoldaegkmkjaaGreatDoor Go.ChangeShapes Go.WideShapes Go.ChangeAt
structure jB (P:av) (t:au) (m:Nat) {X:Type} (R:ai→List ag→X→Prop) (B:X→Nat):Prop where
 cells:P.cellsOf t=m
 op:∀ {H:Type} (enc:au×ag→H) (W:ai) (fuel:Nat) (cs:List ag) (d:DataW H) (p:List MemPlace),mW enc P W 0 (fun _=>true) true fuel t cs=some (d,p)→cs.length=m∧∃ x,R W cs x∧B x≤Rows.uptoBulk d
section
variable {P:av} {t t0 t1 e:au} {m m0 m1:Nat} {X X0 X1:Type} {R:ai→List ag→X→Prop} {B:X→Nat} {R0:ai→List ag→X0→Prop} {B0:X0→Nat} {R1:ai→List ag→X1→Prop} {B1:X1→Nat}
theorem A5 {k:bC} (C:P.underlying t=some (.int k)) (A:P.cellsOf t=1):jB P t 1 (fun _ cs (x:Int)=>cs= [.int k x]∧(Lit.int k x).wf=true) (fun _=>1) where
 cells:=A
 op enc W fuel cs d p h:=by
  obtain ⟨n,rfl,E,hw⟩:=DataW.trod_int C h;cases E;exact ⟨J,n,⟨J,hw⟩,by simp [Rows.uptoBulk]⟩
theorem vP (C:P.underlying t=some .string) (A:P.cellsOf t=1):jB P t 1 (fun _ cs (x:List UInt8)=>cs= [str x]) (fun x=>x.length+1) where
 cells:=A
 op enc W fuel cs d p h:=by
  obtain ⟨s,rfl,E,hw⟩:=DataW.trod_string C h;cases E;exact ⟨J,s.data.toList,J,by simp [Rows.uptoBulk]⟩
def RS (m:Nat) (R:ai→List ag→X→Prop) (W:ai) (cs:List ag) (xs:List X):Prop :=
 ∃ (a:Option aZ) (c:Nat) (L:List (List ag)),cs= [.slice a xs.length c]∧L.length=xs.length∧aU W.heap a L.flatten∧xs.length≤c∧∀ (i:Nat) l x,L[i]? =some l→xs[i]? =some x→l.length=m∧R W l x
theorem GJ {L:List (List ag)} {m:Nat} (h:∀ l∈L,l.length=m):L.flatten.length=L.length*m:=by
 induction L with
 | nil=>simp
 | cons a L ih=>
   rw [oV,bL,ih (fun l A=>h l<|by simp [A]),h a (by simp),dx,o9]; omega
theorem GH {L:List (List ag)} {m:Nat} (h:∀ l∈L,l.length=m) {i c:Nat} {l:List ag} (A:L[i]? =some l) (C:c < m):L.flatten[i*m+c]? =l[c]? :=by
 induction L generalizing i with
 | nil=>simp at A
 | cons a L ih=>
   have ha:=h a<|by simp
   cases i with
   | zero=>
     simp only [gL,bH] at A;subst A;rw [oV,pb,cK,ey U]
   | succ i=>
     simp only [gK] at A;rw [oV,ez (by rw [ha,o9]; omega),ha,show (i+1)*m+c - m=i*m+c from by rw [o9]; omega];exact ih (fun l A=>h l<|by simp [A]) A
theorem GI {L:List (List ag)} {m:Nat} (hm:0 < m) (h:∀ l∈L,l.length=m) {j:Nat} {u:ag} (hu:L.flatten[j]? =some u):∃ l,L[j / m]? =some l∧l[j % m]? =some u:=by
 have A:=(cI.1 hu).1;rw [GJ h] at A;have h1:j / m < L.length:=(Nat.div_lt_iff_lt_mul hm).2 A;refine ⟨L[j / m],bK h1,?_⟩;have :=GH h (bK h1)<|Nat.mod_lt j hm;rw [qS,D7] at this;rw [← this]; exact hu
theorem yI {H:Type} {f:X→Nat} :∀ (xs:List X) (A:List (DataW H)),xs.length=A.length→(∀ (i:Nat) x d,xs[i]? =some x→A[i]? =some d→f x≤Rows.uptoBulk d)→(xs.map f).sum≤Rows.uptoBulkAll A
 | [],_,_,_=>by simp
 | x::xs,[],h,_=>by simp at h
 | x::xs,d::A,h,hf=>by
   have h1:=hf 0 x d rfl rfl;have E:=yI xs A (by simpa using h) fun i y e C he=>hf (i+1) y e (by simpa using C)<|by simpa using he
   simp only [eA,List.sum_cons,Rows.uptoBulkAll]; omega
theorem IB (he:jB P e m R B) (az:P.underlying t=some (.slice e)) (ax:P.cellsOf t=1) (hm:0 < m):jB P t 1 (RS m R) (fun xs=>(xs.map B).sum+1) where
 cells:=ax
 op enc W fuel cs d p h:=by
  rcases DataW.trod_slice az h with ⟨rfl,E⟩ | ⟨a,len,cap,elems,rest,n,_,rfl,E,_,I,_,aB,ak,_,_⟩
  · cases E;exact ⟨J,[],⟨none,0,[],J,J,aU.nil _ _,aV _,fun i l x I=>by simp at I⟩,by simp [Rows.uptoBulk]⟩
  · cases E;rw [he.cells] at ak;have hex:∀ i,i < len→∃ (l:List ag) (x:X) (y:DataW _×List MemPlace),elems[i]? =some y∧W.cells? 0 (a.add<|i*m) m=some l∧l.length=m∧R W l x∧B x≤Rows.uptoBulk y.1:=by
     intro i hi;have h1:=ak i hi;rw [bK U,lS] at h1;obtain ⟨l,A,C⟩:=h1;obtain ⟨ac,x,aj,ad⟩:=he.op enc W n l elems[i].1 elems[i].2 C;exact ⟨l,x,elems[i],bK U,A,ac,aj,ad⟩
    let M:Nat→List ag:=fun i=>if hi:i < len then (hex i hi).choose else []
    let Z:(i:Nat)→i < len→X:=fun i hi=>(hex i hi).choose_spec.choose
    have O:∀ i (hi:i < len),∃ (y:DataW _×List MemPlace),elems[i]? =some y∧W.cells? 0 (a.add<|i*m) m=some (M i)∧(M i).length=m∧R W (M i) (Z i hi)∧B (Z i hi)≤Rows.uptoBulk y.1:=fun i hi=>by
     have :=(hex i hi).choose_spec.choose_spec;simp only [M,dif_pos hi];exact this
    let xs:List X:=(ir len).attach.map fun q=>Z q.1<|List.mem_range.1 q.2
    have ah:xs.length=len:=by simp [xs]
    have an:∀ (i:Nat) x,xs[i]? =some x→∃ hi:i < len,x=Z i hi:=fun i x E=>by
     simp only [xs,fG,fg] at E;obtain ⟨q,V,rfl⟩:=E;have h1:=cI.1 V;obtain ⟨hi,A⟩:=h1;simp only [List.length_attach,DS] at hi;have C:q.1=i:=by rw [← A]; simp
     subst C;exact ⟨hi,J⟩
    let L:List (List ag):=(ir len).map M
    have au:L.length=len:=by simp [L]
    have ae:∀ (i:Nat) l,L[i]? =some l→i < len∧l=M i:=fun i l I=>by
     simp only [L,fG,fg] at I;obtain ⟨q,V,rfl⟩:=I;have hi:=(cI.1 V).1;rw [DS] at hi;rw [tC hi] at V;cases V;exact ⟨hi,J⟩
    have av:∀ l∈L,l.length=m:=fun l I=>by
     obtain ⟨i,hi⟩:=List.mem_iff_getElem?.1 I;obtain ⟨h1,rfl⟩:=ae i l hi;obtain ⟨_,_,_,A,_⟩:=O i h1;exact A
    refine ⟨J,xs,⟨some a,cap,L,by rw [ah],by rw [au,ah],Ff fun j u hu=> ?_,U,fun i l x I E=> ?_⟩,?_⟩
    · obtain ⟨l,h1,A⟩:=GI hm av hu;obtain ⟨C,rfl⟩:=ae _ l h1;obtain ⟨y,_,ac,aj,_⟩:=O _ C;obtain ⟨_,_,ad⟩:=DB ac;have ap:=ad (j % m)<|Nat.mod_lt j hm;have ha:(a.add<|j / m*m).add (j % m)=a.add j:=by
       have aw:∀ (a:aZ) (x y:Nat),a.spot=none→(a.add x).add y=a.add (x+y):=by
        intro a x y am;obtain ⟨b,o,s⟩:=a;simp only at am; subst am;rw [dY,dY,dY,iu]
       have ay:a.spot=none:=by
        have h0:=O 0<|Ea (Nat.zero_le _) C;obtain ⟨_,_,aq,_⟩:=h0;obtain ⟨_,_,ar⟩:=DB aq;have ab:=ar 0 hm;obtain ⟨aD,_,_,aA,_⟩:=O 0<|Ea (Nat.zero_le _) C;rw [bK U] at ab;simp only [pb] at ab;have ai:=(yO ab).1;have ao:(a.add 0).add 0=a:=rfl;rw [ao] at ai;rw [ai]
       rw [aw a _ _ ay,qS,D7]
      rw [← ha,ap]; exact A
    · obtain ⟨hi,rfl⟩:=an i x E;obtain ⟨_,rfl⟩:=ae i l I;obtain ⟨_,_,_,A,C,_⟩:=O i hi;exact ⟨A,C⟩
    · have h1:(xs.map B).sum≤Rows.uptoBulkAll (elems.map (·.1)):=yI xs _ (by rw [ah,List.length_map]; omega) fun i x d E al=>by
       obtain ⟨hi,rfl⟩:=an i x E;obtain ⟨y,A,_,_,_,C⟩:=O i hi;rw [fG,A] at al;cases al;exact C
      simp only [Rows.uptoBulk]; omega
theorem Kc {H:Type} {enc:au×ag→H} {W:ai} {f0 f1 f2 f3 f4:Field} {fuel:Nat} {cs:List ag} {x:DataW H×List MemPlace} (O:P.underlying t=some (.struct #[f0,f1,f2,f3,f4])) (h:mW enc P W 0 (fun _=>true) true fuel t cs=some x):
 ∃ C E I J L n,x=(.agg [C.1,E.1,I.1,J.1,L.1],C.2++(E.2++(I.2++(J.2++L.2))))∧cs.length=P.cellsOf t∧mW enc P W 0 (fun _=>true) true n f0.type ((cs.drop f0.offset).take<|P.cellsOf f0.type)=some C∧mW enc P W 0 (fun _=>true) true n f1.type ((cs.drop f1.offset).take<|P.cellsOf f1.type)=some E∧mW enc P W 0 (fun _=>true) true n f2.type ((cs.drop f2.offset).take<|P.cellsOf f2.type)=some I∧mW enc P W 0 (fun _=>true) true n f3.type ((cs.drop f3.offset).take<|P.cellsOf f3.type)=some J∧mW enc P W 0 (fun _=>true) true n f4.type ((cs.drop f4.offset).take<|P.cellsOf f4.type)=some L:=by
 obtain ⟨xs,n,_,rfl,M,hlen,A⟩:=DataW.trod_struct O h
 match xs,hlen with
 | [C,E,I,J,L],_=>exact ⟨C,E,I,J,L,n,by simp,M,by simpa using A 0 f0 rfl,by simpa using A 1 f1 rfl,by simpa using A 2 f2 rfl,by simpa using A 3 f3 rfl,by simpa using A 4 f4 rfl⟩
theorem IC {t2 t3 t4:au} {I L M:Type} {Z:ai→List ag→I→Prop} {O:I→Nat} {ab:ai→List ag→L→Prop} {U:L→Nat} {ac:ai→List ag→M→Prop} {V:M→Nat} (h0:jB P t0 1 R0 B0) (h1:jB P t1 1 R1 B1) (al:jB P t2 1 Z O) (am:jB P t3 1 ab U) (an:jB P t4 1 ac V) {f0 f1 f2 f3 f4:Field}
 (ay:P.underlying t=some (.struct #[f0,f1,f2,f3,f4])) (aq:f0.type=t0) (ar:f1.type=t1) (av:f2.type=t2) (aw:f3.type=t3) (ax:f4.type=t4) (aG:f0.offset=0) (aH:f1.offset=1) (aI:f2.offset=2) (aJ:f3.offset=3) (aK:f4.offset=4) (ao:P.cellsOf t=5):
 jB P t 5 (fun W cs (x:X0×X1×I×L×M)=> ∃ A C E u3 u4,cs= [A,C,E,u3,u4]∧R0 W [A] x.1∧R1 W [C] x.2.1∧Z W [E] x.2.2.1∧ab W [u3] x.2.2.2.1∧ac W [u4] x.2.2.2.2) (fun x=>B0 x.1+B1 x.2.1+O x.2.2.1+U x.2.2.2.1+V x.2.2.2.2+1) where
 cells:=ao
 op enc W fuel cs d p h:=by
  obtain ⟨aU,aV,aW,aX,aY,n,az,ap,ad,ae,ah,aj,ak⟩:=Kc ay h;cases az;rw [ao] at ap
  match cs,ap with
  | [A,C,E,u3,u4],_=>
    rw [aq,aG,h0.cells] at ad;rw [ar,aH,h1.cells] at ae;rw [av,aI,al.cells] at ah;rw [aw,aJ,am.cells] at aj;rw [ax,aK,an.cells] at ak;obtain ⟨_,aL,aA,aP⟩:=h0.op enc W n _ _ _ ad;obtain ⟨_,aM,aB,aQ⟩:=h1.op enc W n _ _ _ ae;obtain ⟨_,x2,aD,aR⟩:=al.op enc W n _ _ _ ah;obtain ⟨_,aN,aE,aS⟩:=am.op enc W n _ _ _ aj;obtain ⟨_,aO,aF,aT⟩:=an.op enc W n _ _ _ ak;refine ⟨J,(aL,aM,x2,aN,aO),⟨A,C,E,u3,u4,J,aA,aB,aD,aE,aF⟩,?_⟩;simp only [Rows.uptoBulk,Rows.uptoBulkAll]; omega
end
theorem J5 {W:ai} {v:ag} {ws:(List<|List UInt8)} (h:RS 1 (fun _ cs (x:List UInt8)=>cs= [str x]) W [v] ws):∃ a c,v= .slice a ws.length c∧gP W.heap a ws∧ws.length≤c:=by
 obtain ⟨a,c,L,E,M,I,J,A⟩:=h;simp only [List.cons.injEq,and_true] at E;refine ⟨a,c,E,?_,J⟩;have e:L.flatten=ws.map str:=by
  have key:∀ (L:List (List ag)) (ws:(List<|List UInt8)),L.length=ws.length→(∀ (i:Nat) l x,L[i]? =some l→ws[i]? =some x→l= [str x])→L.flatten=ws.map str:=by
   intro L
   induction L with
   | nil=>intro ws h _; rw [kH h.symm]; rfl
   | cons a L ih=>
     intro ws h A;cases ws with
     | nil=>simp at h
     | cons w ws=>
       rw [oV,eA,A 0 a w rfl rfl,ih ws (by simpa using h) (fun i l x h1 C=>A (i+1) l x (by simpa using h1)<|by simpa using C)]; rfl
  exact key L ws M fun i l x h1 C=>(A i l x h1 C).2
 unfold gP;rw [← e]; exact I
end Go.Hb
end
section
namespace Go.Hb
open Go.Proofs
def fN:List (List TD):= [
 [.no,.no,.no,.no,.no,.no,.no,.st [0,1,2,3],.st [0,1,2,3],.str,.str,.str,.no,.st [0,1],.st [0,1],.no],
 [.no,.no,.st [0],.st [0],.no,.no,.no,.no,.no,.no,.no,.dc 77 2,.dc 93 2,.no,.st [0,1,2,3],.st [0,1,2,3]],
 [.no,.no,.no,.no,.no,.no,.dc 60 2,.dc 63 2,.no,.st [0,1,2,3],.st [0,1,2,3],.no,.no,.dc 9 1,.st [0,1,2,3,4],.st [0,1,2,3,4]],
 [.no,.no,.no,.no,.no,.no,.no,.dc 3 1,.no,.no,.no,.st [0,1],.st [0,1],.dc 65 2,.st [0,1],.st [0,1]],
 [.st [0,1],.st [0,1],.no,.no,.no,.st [0,7],.st [0,7],.no,.st [0,1,2],.st [0,1,2],.no,.no,.no,.st [0,1],.no,.no],
 [.no,.no,.st [0,1,2,3,4],.st [0,1,2,3,4],.no,.no,.no,.no,.no,.no,.no,.dc 103 2,.st [0,1],.st [0,1],.no,.no],
 [.no,.no,.no,.no,.no,.no,.dc 55 1,.st [0,1],.no,.no,.no,.st [0,1],.st [0,1],.no,.no,.no],
 [.no,.no,.no,.no,.no,.no,.no,.no,.st [0,1,2],.st [0,1,2],.no,.no,.no,.st [0,1,2],.no,.no],
 [.st [0],.st [0],.no,.no,.no,.no,.no,.dc 194 1,.dc 192 5,.dc 198 7,.st [0,1,2,3,8,9,10,11,12],.st [0,1,2,3,8,9,10,11,12],.no,.no,.no,.dc 259 2],
 [.st [0,1,2,15],.st [0,1,2,15],.no,.no,.no,.st [0,1,6],.st [0,1,6],.no,.no,.no,.no,.no,.no,.no,.no,.no],
 [.no,.no,.dc 5 1,.st [0,1,2,3],.st [0,1,2,3],.no,.no,.no,.no,.no,.no,.no,.dc 4 1,.st [0,1,2],.st [0,1,2],.no],
 [.no,.no,.no,.no,.no,.no,.no,.no,.no,.st [0,1,2,3,4],.st [0,1,2,3,4],.no,.st [0,13],.st [0,13],.no,.st [0,1,2,3,4]],
 [.st [0,1,2,3,4],.no,.dc 133 1,.no,.no,.st [0,1,2,3,4,5,6],.st [0,1,2,3,4,5,6],.no,.st [0,1,2,3,4,5],.st [0,1,2,3,4,5],.no,.no,.st [0],.st [0],.no,.st [0,1]],
 [.st [0,1],.dc 208 2,.no,.no,.no,.no,.no,.no,.no,.no,.no,.st [0,1],.st [0,1],.no,.no,.no],
 [.no,.no,.no,.no,.no,.no,.st [0,1,2],.st [0,1,2],.no,.no,.no,.dc 254 2,.no,.no,.no,.no],
 [.no,.st [0,1,2,3,4,5,6],.st [0,1,2,3,4,5,6],.no,.no,.no,.no,.no,.st [0,1],.st [0,1],.no,.no,.no,.st [0,1],.st [0,1],.no],
 [.st [0,1],.st [0,1],.st [0,1],.st [0,1],.no,.no,.no,.no,.no,.no,.no,.no,.no,.no,.no,.no],
 [.no,.no,.no,.no,.no,.no,.no,.no,.no,.no,.no,.no,.no,.no,.no,.no],
 [.no,.no,.st [0,1,2],.st [0,1,2],.no,.no,.no,.no,.no,.no,.no,.no,.no,.no,.no,.no],
 [.no,.no,.no,.no,.no,.no,.no,.no,.dc 133 1,.no,.no,.no,.st [0,1,2,3,4,5],.st [0,1,2,3,4,5],.no,.no],
 [.no,.st [0,1,2,3,4],.st [0,1,2,3,4],.no,.no,.no,.no,.no,.no,.no,.no,.no,.no,.no,.no,.no],
 [.no,.no,.no,.no,.dc 338 1,.no,.st [0,1,2,3,4,5,6],.st [0,1,2,3,4,5,6],.no,.st [0],.st [0],.no,.no,.no,.no,.no],
 [.no,.dc 24 1,.no,.no,.no,.no,.no,.no,.no,.no,.no,.no,.no,.no,.no,.no],
 [.no,.no,.no,.no,.no,.no,.no,.no,.no,.no,.no,.no,.no,.no,.no,.no],
 [.no,.no,.no,.no,.no,.no,.st [0,1,2,3,4,5,6],.st [0,1,2,3,4,5,6],.no,.no,.dc 399 2,.st [0,1,2],.st [0,1,2],.no,.st [0,1],.st [0,1]],
 [.st [0,1],.st [0,1],.no,.no,.no,.no,.no,.no,.no,.dc 434 4,.st [0],.st [0],.no,.no,.no,.no],
 [.no,.no,.no,.no,.no,.no,.no,.st [0,1,2,3,4],.st [0,1,2,3,4],.no,.no,.st [0,1],.st [0,1],.no,.dc 205 1,.no],
 [.no,.no,.no,.no,.no,.no,.no,.no,.no,.no,.no,.no,.no,.no,.no,.no],
 [.no,.no,.no,.no,.no,.no,.no,.no,.no,.no,.no,.st [0],.st [0],.no,.no,.no],
 [.no,.no,.no,.no,.no,.no,.no,.no,.no,.no,.no,.no,.no,.no,.no,.no],
 [.no,.no,.no,.no,.no,.no,.no,.no,.no,.no,.no,.no,.no,.dc 460 1,.dc 498 2,.st [0,1,2]],
 [.st [0,1,2],.st [0,1],.st [0,1],.no,.no,.no,.no,.no,.no,.no,.no,.no,.no,.no,.no,.no],
 [.no,.no,.no,.no,.no,.st [0,1],.st [0,1],.no,.no,.st [0,1,2,3],.st [0,1,2,3],.no,.no,.no,.no,.no],
 [.no,.no,.no,.st [0,1,2,3,4,5,6,7,8,9,10],.st [0,1,2,3,4,5,6,7,8,9,10],.no,.no,.st [0,1],.st [0,1],.st [0],.st [0],.no,.no,.st [0,1,2,3,4],.st [0,1,2,3,4],.dc 546 4],
 [.no,.st [0,1,2,3],.st [0,1,2,3],.no,.no]]
theorem gh:iM ar 0 fN=true :=aq
section
variable {N:Fm} {Q:bt→(Nat→ag)→ai→Prop} {w:ai} {σ σ':Nat→ag} {p':Pt} {st st':List Kn} {c':Option Prop}
theorem cg {x:bJ} {A:bJ} (n:Nat) (h:ga fN N n (.c x) [] σ none= .at (.c A) st' σ' c') (k:bE ar N A (dV ar N st' Q) σ' w) (C:optG c':=by first | exact trivial | (simp only [optG,andG]; omega)):bE ar N x Q σ w:=(hJ gh n _ _ _ _ h C k).2
theorem aW {x:bJ} {C:Array aE} {A:List aE} (n:Nat) (h:ga fN N n (.c x) [] σ none= .at (.l C A) st' σ' c') (k:bR ar N C (dV ar N st' Q) A σ' w) (E:optG c':=by first | exact trivial | (simp only [optG,andG]; omega)):bE ar N x Q σ w:=(hJ gh n _ _ _ _ h E k).2
theorem pN {x:bJ} {A:bt} (n:Nat) (h:ga fN N n (.c x) [] σ none= .at (.x A) [] σ' c') (k:Q A σ' w) (C:optG c':=by first | exact trivial | (simp only [optG,andG]; omega)):bE ar N x Q σ w:=(hJ gh n _ _ _ _ h C k).2
theorem bM {x:bJ} {A:bJ} (n:Nat) (h:ga fN N n (.c x) st σ none= .at (.c A) st' σ' c') (k:bE ar N A (dV ar N st' Q) σ' w) (C:optG c':=by first | exact trivial | (simp only [optG,andG]; omega)):bE ar N x (dV ar N st Q) σ w:=(hJ gh n _ _ _ _ h C k).2
theorem aH {x:bJ} {C:Array aE} {A:List aE} (n:Nat) (h:ga fN N n (.c x) st σ none= .at (.l C A) st' σ' c') (k:bR ar N C (dV ar N st' Q) A σ' w) (E:optG c':=by first | exact trivial | (simp only [optG,andG]; omega)):bE ar N x (dV ar N st Q) σ w:=(hJ gh n _ _ _ _ h E k).2
theorem aJ {x:bJ} {A:bt} (n:Nat) (h:ga fN N n (.c x) st σ none= .at (.x A) [] σ' c') (k:Q A σ' w) (C:optG c':=by first | exact trivial | (simp only [optG,andG]; omega)):bE ar N x (dV ar N st Q) σ w:=(hJ gh n _ _ _ _ h C k).2
theorem aI {ops:Array aE} {l:List aE} {A:bJ} (n:Nat) (h:ga fN N n (.l ops l) st σ none= .at (.c A) st' σ' c') (k:bE ar N A (dV ar N st' Q) σ' w) (C:optG c':=by first | exact trivial | (simp only [optG,andG]; omega)):bR ar N ops (dV ar N st Q) l σ w:=(hJ gh n _ _ _ _ h C k).2
theorem an {ops:Array aE} {l:List aE} {C:Array aE} {A:List aE} (n:Nat) (h:ga fN N n (.l ops l) st σ none= .at (.l C A) st' σ' c') (k:bR ar N C (dV ar N st' Q) A σ' w) (E:optG c':=by first | exact trivial | (simp only [optG,andG]; omega)):bR ar N ops (dV ar N st Q) l σ w:=(hJ gh n _ _ _ _ h E k).2
theorem aB {ops:Array aE} {l:List aE} {A:bt} (n:Nat) (h:ga fN N n (.l ops l) st σ none= .at (.x A) [] σ' c') (k:Q A σ' w) (C:optG c':=by first | exact trivial | (simp only [optG,andG]; omega)):bR ar N ops (dV ar N st Q) l σ w:=(hJ gh n _ _ _ _ h C k).2
theorem dG {e:bt} {A:bJ} (n:Nat) (h:ga fN N n (.x e) st σ none= .at (.c A) st' σ' c') (k:bE ar N A (dV ar N st' Q) σ' w) (C:optG c':=by first | exact trivial | (simp only [optG,andG]; omega)):dV ar N st Q e σ w:=(hJ gh n _ _ _ _ h C k).2
theorem iC {e:bt} {C:Array aE} {A:List aE} (n:Nat) (h:ga fN N n (.x e) st σ none= .at (.l C A) st' σ' c') (k:bR ar N C (dV ar N st' Q) A σ' w) (E:optG c':=by first | exact trivial | (simp only [optG,andG]; omega)):dV ar N st Q e σ w:=(hJ gh n _ _ _ _ h E k).2
theorem bl {e:bt} {A:bt} (n:Nat) (h:ga fN N n (.x e) st σ none= .at (.x A) [] σ' c') (k:Q A σ' w) (C:optG c':=by first | exact trivial | (simp only [optG,andG]; omega)):dV ar N st Q e σ w:=(hJ gh n _ _ _ _ h C k).2
variable {ops:Array aE} {S:ai→Prop} {r fuel fuel':Nat} {listed listed':Array Bool}
theorem ba (is:List Nat) (h:ky fN N true ops is fuel listed σ none= .at fuel' listed' σ' c') (A:S w) (k:cE ar N ops Q S fuel' listed' σ' w) (C:optG c':=by first | exact trivial | (simp only [optG,andG]; omega)) (E:j8 (ee N.F ops) is listed=true :=by kernel_rfl):cE ar N ops Q S fuel listed σ w:=GU gh is h A k C E
theorem eW (is:List Nat) (h:ky fN N false ops is fuel listed σ none= .at fuel' listed' σ' c') (A:S w) (k:cD ar N ops Q S r fuel' listed' σ' w) (C:optG c':=by first | exact trivial | (simp only [optG,andG]; omega)) (E:j8 (fun l i=>pM N.F ops l r i) is listed=true :=by kernel_rfl):cD ar N ops Q S r fuel listed σ w:=GW gh is h A k C E
theorem u6 (is:List Nat) (h:ky fN N false ops is fuel listed σ none= .at fuel' listed' σ' c') (A:S w) (k:cD ar N ops Q S r fuel' listed' σ' w) (C:optG c':=by first | exact trivial | (simp only [optG,andG]; omega)) (E:j8 (fun l i=>mh N.F ops l r i) is listed=true :=by kernel_rfl):cD ar N ops Q S r fuel listed σ w:=GV gh is h A k C E
end
end Go.Hb
end
namespace Go.Hb
theorem drop_cons {α:Type} {l:List α} {i:Nat} (d:α) (h:i < l.length):l.drop i=l.getD i d::l.drop (i+1):=by simp_all
def ki (c:UInt8) (l:List UInt8):Int:=if l.idxOf c < l.length then (l.idxOf c:Int) else -1
theorem Ke {h:Array Obj} {a:Option aZ} {l:List UInt8} {i:Nat} (A:aU h a (U8 l)) (hi:i < l.length):Hb.az h (bk a) (fo a+i*1)=some (.int .u8 (l.getD i 0).toNat):=by
 refine A.pv ?_;unfold U8;rw [fG,bK hi,b9,bK hi]; rfl
theorem Kg {l:List UInt8} (h:0 < l.length):U8 l≠[]:=by
 intro e;have :=congrArg List.length e;rw [j4,List.length_nil] at this;omega
theorem A7 {w:ai} {B e:Nat} {v:ag} {l:List UInt8} {x:UInt8} (h:w.ownsRow B e 1 v (l.length+1) (U8 l++ [.int .u8 x.toNat])):w.ownsRow B e 1 v (l++ [x]).length (U8<|l++ [x]):=by
 rw [bL,pk]; exact h
def Tg (w:ai) (B e n:Nat) (v:ag) (xs:List ag):Prop :=
 ∃ a A,v= .slice a n A∧n≤A∧(xs= []∨∃ b cur z,a=some ⟨b,0,none⟩∧B≤b∧w.heap[b]? =some (.cells cur e z)∧∀ (j:Nat) u,xs[j]? =some u→cur[j]? =some u)
theorem Tg.r7 {w:ai} {B e size n:Nat} {v:ag} {xs:List ag} (h:w.ownsRow B e size v n xs):Tg w B e n v xs:=by
 have h0:=h;rcases h.2 with ⟨rfl,rfl⟩ | ⟨g,cap,cur,rfl,hb,hg,_,_,_,A⟩
 · exact ⟨none,0,J,aV _,.inl<|kH<|by simpa using h.1⟩
 · refine ⟨_,cap,J,(bV h0).1,.inr ⟨g,cur,_,J,hb,hg,fun j u hu=> ?_⟩⟩;rw [← A,il] at hu;split at hu
   · simpa using hu
   · cases hu
theorem Tg.cells {w:ai} {B e n:Nat} {v:ag} {xs:List ag} (h:Tg w B e n v xs):∃ a A,v= .slice a n A∧aU w.heap a xs:=by
 obtain ⟨a,A,rfl,_,h | ⟨b,cur,z,rfl,_,hg,C⟩⟩:=h
 · subst h; exact ⟨a,A,rfl,aU.nil _ _⟩
 · refine ⟨_,A,J,fun _=>rfl,fun j u hu=> ?_⟩;show Hb.az w.heap b (0 +j)=_;rw [cK,eo hg]; exact C j u hu
theorem Tg.rh {w:ai} {B e n A:Nat} {a:Option aZ} {xs:List ag} (h:Tg w B e n (.slice a n A) xs):n≤A∧aU w.heap a xs:=by
 obtain ⟨L,c',E,C,O⟩:=id h;obtain ⟨M,c2,I,J⟩:=h.cells;cases E; cases I;exact ⟨C,J⟩
theorem Tg.slice {w:ai} {B e n:Nat} {v:ag} {xs:List ag} (h:Tg w B e n v xs):∃ a A,v= .slice a n A:=let ⟨a,A,hv,_⟩:=h; ⟨a,A,hv⟩
theorem Tg.md {F:Nat→Prop} {w w':ai} {B e n:Nat} {v:ag} {xs:List ag} (h:Tg w B e n v xs) (hm:Md F w w') (E:∀ k,F k→∀ cur z,w.heap[k]?≠some (.cells cur e z)):Tg w' B e n v xs:=by
 obtain ⟨a,A,rfl,C,h | ⟨b,cur,z,rfl,hb,hg,L⟩⟩:=h
 · exact ⟨a,A,J,C,.inl h⟩
 · exact ⟨_,A,J,C,.inr ⟨b,cur,z,J,hb,by rw [hm.eY b (eM.1 hg).1 (fun I=>E b I cur z hg)]; exact hg,L⟩⟩
theorem Tg.wk {w w':ai} {B e n:Nat} {v:ag} {xs:List ag} (h:Tg w B e n v xs) (hm:Wk w w'):Tg w' B e n v xs:=h.md hm fun _ A=>A.elim
theorem sj {w:ai} {B e C size n:Nat} {v:ag} {xs:List ag} (h:w.ownsRow B e size v n xs) (I:e≠C):∀ k,v.ownBlock=some k→∀ cur z,w.heap[k]?≠some (.cells cur C z):=by
 intro k A cur z hg;rcases h.2 with ⟨rfl,_⟩ | ⟨g,cap,J,rfl,_,E,_⟩
 · simp [eU] at A
 · simp only [eU,bH] at A;subst A;rw [E] at hg;simp only [bH,Dv] at hg;exact I hg.2.1
theorem Tg.mono {w:ai} {B B' e n:Nat} {v:ag} {xs:List ag} (h:Tg w B e n v xs) (A:B'≤B):Tg w B' e n v xs:=by grind [Tg]
def eQ (b:UInt8):Bool:=decide (33≤b.toNat∧b.toNat≠127)
def fj (w:List UInt8):Bool:=w.all eQ
def mF (w:List UInt8):Bool:=decide (1≤w.length∧w.length≤64∧fj w=true)
theorem kY {α:Type} {l:List α} {i:Nat} {d:α} (h:i < l.length):l.getD i d∈l:=by
 rw [b9,bK h]; exact List.getElem_mem h
theorem Ib {α:Type} {l:List α} {x:α} (d:α) (h:x∈l):∃ i,i < l.length∧l.getD i d=x:=by
 obtain ⟨i,hi,rfl⟩:=List.mem_iff_getElem.1 h;exact ⟨i,hi,by rw [b9,bK hi]; rfl⟩
theorem yv {α:Type} {f:α→Bool} {l:List α} {i:Nat} (d:α) (h:i < l.length) (h1:f (l.getD i d)=false):l.all f=false :=by
 rw [List.all_eq_false]; exact ⟨_,kY h,by rw [h1]; exact cQ⟩
theorem yw {α:Type} {f:α→Bool} {l:List α} (d:α) (h:∀ i,i < l.length→f (l.getD i d)=true):l.all f=true :=by
 rw [x7]; intro x A; obtain ⟨i,hi,rfl⟩:=Ib d A; exact h i hi
theorem py {w:List UInt8} {i:Nat} (h:i < w.length) (h1:eQ (w.getD i 0)=false):fj w=false :=yv 0 h h1
theorem re {w:List UInt8} (h:∀ i,i < w.length→eQ (w.getD i 0)=true):fj w=true :=yw 0 h
def lets (s:List UInt8):List UInt8:=s.foldl (fun a b=>if b∈a then a else a++ [b]) []
def letE (s:List UInt8):List UInt8×Nat:=if s= []∨fj s=false then ([],21) else (lets s,0)
theorem lr {s:List UInt8} {i:Nat} (h:i < s.length):lets (s.take<|i+1)=if s.getD i 0∈lets (s.take i) then lets (s.take i) else lets (s.take i)++ [s.getD i 0]:=by
 unfold lets;rw [Ci s i 0 h,List.foldl_append]; rfl
theorem vt (s:List UInt8):(lets s).length≤s.length:=by
 have key:∀ (s a:List UInt8),(s.foldl (fun a b=>if b∈a then a else a++ [b]) a).length≤a.length+s.length:=by
  intro s
  induction s with
  | nil=>intro a; simp
  | cons b s ih=>
    intro a;rw [kI,dx];split
    · have :=ih a; omega
    · have :=ih (a++ [b]); rw [bL,List.length_singleton] at this; omega
 have :=key s [];simpa [lets] using this
def marksOf (a:List UInt8):List ag:=(ir 256).map fun k=> .bool<|decide (eB k∈a)
theorem AL (a:List UInt8):(marksOf a).length=256:=by simp [marksOf]
theorem H5 (a:List UInt8) (b:UInt8):(marksOf a)[b.toNat]? =some (.bool<|decide (b∈a)):=by
 have :=lU b;unfold marksOf;rw [fG,tC U];simp
theorem H7 (a:List UInt8) (b:UInt8):(marksOf a).set b.toNat (.bool true)=marksOf (a++ [b]):=by
 apply tz;intro k;rw [List.getElem?_set,AL];unfold marksOf;rw [fG,fG];by_cases C:k < 256
 · rw [tC C];simp only [eV];have he:(eB k=b)↔b.toNat=k:=by
    constructor
    · rintro rfl; simp; omega
    · rintro rfl; simp
   by_cases h:b.toNat=k
   · have A:=he.2 h;simp [h,C,A]
   · have A:¬eB k=b:=fun e=>h<|he.1 e;simp [h,A]
 · have :(ir 256)[k]? =none:=iT<|by simp; omega
   have hb:=lU b;rw [this];simp; omega
theorem H6:marksOf []=cJ 256 (.bool false):=by
 unfold marksOf;apply tz;intro k;rw [fG,List.getElem?_replicate];by_cases A:k < 256
 · rw [tC A]; simp [A]
 · rw [iT (by simp; omega)]; simp [A]
theorem Bd.new {T e b:Nat} {w:ai} (h:w.heap[b]? =some (.cells [tw none,.slice none 0 0].toArray T (0,0))):Bd T e w b (.slice none 0 0) []:=
 ⟨⟨none,h,.inl rfl⟩,fF _ _ _ _,by simp⟩
theorem Bd.step {T e b:Nat} {w0 w w':ai} {A:ag} {l:List UInt8} (h:Bd T e w b A l) (C:Wk w0 w) (E:Md (BF b A) w w') (hb:w0.heap.size≤b):Wk w0 w':=
 Md.trans' C E fun k J I=>by have :=h.rI I; omega
theorem Bd.JW {T e b:Nat} {w0 w w':ai} {A:ag} {l:List UInt8} (h:Bd T e w b A l) (C:Wk w0 w) (E:Md (fun k=>A.ownBlock=some k) w w') (hb:w0.heap.size≤b):Wk w0 w':=
 Md.trans' C E fun k J I=>by have :=h.rI (.inr I); omega
end Go.Hb
section
namespace Go.Hb
def j5 (P:av) (t:au):Option (Nat×Nat):=
 match P.underlying t with
 | some (.array n e)=>(P.info? e).map fun i=>(n,i.size)
 | _=>none
section
variable {P:av} {N:Fm} {σ:Nat→ag} {w:ai} {dst:Option Nat} {ty:au} {pos :String} {af:Array cH} {g:Option (Nat×Bool)} {x y:aY}
theorem lh {t n A b off :Nat} {k:bC} {i:Int} (he:j5 P t=some (n,A)) (C:ev N σ x= .pointer (some ⟨b,off,none⟩)) (E:ev N σ y= .int k i) (h0:0≤i∧i < n):
 (execOp (ev N σ) ⟨dst,.indexAddr t x y,ty,pos,af,g⟩).run P w= .ok (.value<|.pointer<|some ⟨b,off+i.toNat*A,none⟩) w:=by
 unfold j5 at he;cases hd:P.underlying t with
 | none=>rw [hd] at he; cases he
 | some d=>
   rw [hd] at he;cases d <;> first | (cases he; done) | skip
   rename_i m e;cases hi:P.info? e with
   | none=>simp [hi] at he
   | some j=>
     simp only [hi,eV,bH,gq] at he;obtain ⟨rfl,rfl⟩:=he;simp [execOp,Dn,m5,C,E,asIntOf,bu hd,h0.1,h0.2,sizeOf,c9 hi,dY]
end
theorem H8 {h:Array Obj} {b:Nat} {a:List UInt8} (A:aA h b (marksOf a)) (c:UInt8):Hb.az h b (0 +((c.toNat:Nat):Int).toNat*1)=some (.bool<|decide (c∈a)):=by
 rw [A.az,show 0 +((c.toNat:Nat):Int).toNat*1=c.toNat from by omega]; exact H5 a c
theorem H9 {h:Array Obj} {b:Nat} {a:List UInt8} {c:UInt8} (A:aA h b ((marksOf a).set (0 +((c.toNat:Nat):Int).toNat*1)<|.bool true)):aA h b (marksOf<|a++ [c]):=by
 rw [show 0 +((c.toNat:Nat):Int).toNat*1=c.toNat from by omega,H7] at A; exact A
end Go.Hb
end
section
namespace Go.Hb
section
variable {P:av} {N:Fm} {σ:Nat→ag} {w:ai} {fn:fP} {R:ag→ai→Prop}
theorem HX {t b off :Nat} {v:ag} (hu:cZ P t=some none) (A:Hb.az w.heap b off =some v):(loadVar t ⟨b,off,none⟩).run P w= .ok v w:=by
 have C:w.cell? ⟨b,off,none⟩=some v:=by rw [gR]; exact A
 unfold cZ at hu;cases hd:P.underlying t with
 | none=>rw [hd] at hu; cases hu
 | some d=>
   rw [hd] at hu;cases d <;> first
    | (simp only [fg] at hu; obtain ⟨_,_,h⟩:=hu; cases h; done)
    | simp [loadVar,isAgg,bu hd,run_load,C]
theorem HY {t n b off :Nat} {cs:List ag} (hu:cZ P t=some (some n)) (I:cs.length=n) (C:∀ j,j < n→Hb.az w.heap b (off+j)=cs[j]?):(loadVar t ⟨b,off,none⟩).run P w= .ok (.agg cs.toArray) w:=by
 have E:(loadCells ⟨b,off,none⟩ n).run P w= .ok cs.toArray w:=by
  subst I;refine run_loadCells_list (P:=P) w ⟨b,off,none⟩ cs fun j v A=> ?_;rw [dY,gR];exact (C j (cI.1 A).1).trans A
 unfold cZ at hu;cases hd:P.underlying t with
 | none=>rw [hd] at hu; cases hu
 | some d=>
   rw [hd] at hu;cases hi:P.info? t with
   | none=>simp [Dx,hi] at hd
   | some i=>
     rw [hi] at hu;cases d <;> first
      | (cases hu; done)
      | (simp only [eV,bH] at hu; subst hu
         simp [loadVar,isAgg,bu hd,sizeOf,c9 hi,E])
def j3 (P:av) (N:Fm) (σ:Nat→ag) (w:ai):ResultVar→ag→Prop
 | .tmp t,v=>ev N σ (.tmp t)=v
 | .cell a t,v=> ∃ ad,ev N σ (.tmp a)= .pointer (some ad)∧(loadVar t ad).run P w= .ok v w
theorem qg {t:Tmp} :j3 P N σ w (.tmp t) (ev N σ<|.tmp t):=rfl
theorem iH {a t b off :Nat} {v:ag} (C:ev N σ (.tmp a)= .pointer (some ⟨b,off,none⟩)) (hu:cZ P t=some none) (A:Hb.az w.heap b off =some v):j3 P N σ w (.cell a t) v:=⟨_,C,HX hu A⟩
theorem iI {a t n b off :Nat} {cs:List ag} (E:ev N σ (.tmp a)= .pointer (some ⟨b,off,none⟩)) (hu:cZ P t=some (some n)) (C:cs.length=n) (A:∀ j,j < n→Hb.az w.heap b (off+j)=cs[j]?):j3 P N σ w (.cell a t) (.agg cs.toArray):=⟨_,E,HY hu C A⟩
def kv (tmps:Array ag):ResultVar→Sem ag
 | .tmp t=>pure<|tmps.getD t undef
 | .cell a t=>do loadVar t (← asAddr (tmps.getD a undef))
theorem jt {r:ResultVar} {v:ag} (h:j3 P N σ w r v):(kv (act N σ).tmps r).run P w= .ok v w:=by
 cases r with
 | tmp t=>
   show kD P (pure<|(act N σ).tmps.getD t undef) w=_;rw [oJ]; simp only [j3] at h; rw [h]; rfl
 | cell a t=>
   obtain ⟨ad,h1,A⟩:=h;show kD P (do loadVar t (← asAddr ((act N σ).tmps.getD a undef))) w=_;rw [oJ,h1];simp [asAddr,A]
theorem I5 {tmps:Array ag} {r:ResultVar} {v:ag} (h:fn.results= #[r]) (h1:(kv tmps r).run P w= .ok v w):(results fn tmps).run P w= .ok v w:=by
 have A:(results fn tmps)=(do let vs ← #[r].mapM (kv tmps); pure (if h:vs.size=1 then vs[0] else .tuple vs)):=by
  unfold results; rw [h]; rfl
 rw [A]; simp [yb,h1]
theorem sw {tmps:Array ag} {r s:ResultVar} {v u:ag} (h:fn.results= #[r,s]) (h1:(kv tmps r).run P w= .ok v w) (A:(kv tmps s).run P w= .ok u w):(results fn tmps).run P w= .ok (.tuple #[v,u]) w:=by
 have C:(results fn tmps)=(do let vs ← #[r,s].mapM (kv tmps); pure (if h:vs.size=1 then vs[0] else .tuple vs)):=by
  unfold results; rw [h]; rfl
 rw [C]; simp [yb,h1,A]
theorem rF {r:ResultVar} {v:ag} (h:fn.results= #[r]) (h1:j3 P N σ w r v) (A:R v w):fin P fn N R .ret σ w:=⟨v,I5 h (jt h1),A⟩
theorem rG {r s:ResultVar} {v u:ag} (h:fn.results= #[r,s]) (h1:j3 P N σ w r v) (A:j3 P N σ w s u) (C:R (.tuple #[v,u]) w):fin P fn N R .ret σ w:=⟨_,sw h (jt h1) (jt A),C⟩
end
end Go.Hb
end
section
namespace Go.Hb
def ie (P:av) (N:Fm) (c:bJ) (B:bt→Act→ai→Prop) (σ:Nat→ag) (w:ai):Prop :=c.wpIn (fe N.r) 0 P B (act N σ) w
def qb (N:Fm) (B:bt→Act→ai→Prop):bt→(Nat→ag)→ai→Prop :=fun e σ w=>B e (act N σ) w
section
variable {P:av} {N:Fm} {B:bt→Act→ai→Prop} {σ:Nat→ag} {w:ai}
theorem fD {x y:bJ} (h:ie P N x (Exit.then (y.wpIn (fe N.r) 0 P B) B) σ w):ie P N (.seq x y) B σ w:=wpIn_seq h
theorem cn {y:bJ} (h:ie P N y B σ w):qb N (Exit.then (y.wpIn (fe N.r) 0 P B) B) .normal σ w:=h
theorem IJ {y:Act→ai→Prop} (h:qb N B .ret σ w):qb N (Exit.then y B) .ret σ w:=h
theorem I9 (h:qb N B .ret σ w):ie P N .ret B σ w:=wpIn_ret h
theorem JE {x y:bJ} (A:(Nat→ag)→ai→Prop) (h:ie P N x (Exit.then (fun a w=> ∃ σ,a=act N σ∧A σ w) B) σ w) (I:∀ σ w,A σ w→ie P N y B σ w):ie P N (.seq x y) B σ w:=by
 refine wpIn_seq<|wpIn_mono h ?_;intro e a w C;cases e with
 | normal=>obtain ⟨σ,rfl,E⟩:=C; exact I _ _ E
 | _=>exact C
theorem yT {A:(Nat→ag)→ai→Prop} (h:A σ w):qb N (Exit.then (fun a w=> ∃ σ,a=act N σ∧A σ w) B) .normal σ w:=⟨σ,rfl,h⟩
theorem Jt {c:bJ} {L:List (Nat×ag)} (h:Sl σ L) (A:ie P N c B (qy σ L) w):ie P N c B σ w:=by rw [xo h] at A; exact A
theorem fq {c:bJ} (h:bE P N c (qb N B) σ w):ie P N c B σ w:=by
 unfold bE at h;refine wpIn_mono h ?_;intro e a w A;cases e with
 | panic c=>obtain ⟨σ,rfl,C⟩:=A; exact C σ fun _ _=>rfl
 | outgrown=>exact A.elim
 | _=>obtain ⟨σ,rfl,C⟩:=A; exact C
end
theorem oB (fn:fP) (args:List ag) (F:List Nat) (hn:bj args.length fn.ntmps=true):({tmps:=args.toArray++oO (fn.ntmps - args.toArray.size) undef,defers:= []} :Act)=act ⟨fn.ntmps,[],F,none⟩ (dj args):=by
 have C:args.length≤fn.ntmps:=by simpa using hn
 refine qY J fun i=> ?_;rw [iy];simp only [dj,b9,eh];by_cases h1:i < args.length
 · rw [CY (by simpa using h1),if_pos U];simp [h1]
 · rw [CZ (by simpa using h1)];simp only [eh,C1];by_cases A:i < fn.ntmps
   · rw [if_pos U,if_pos A,iT U]; rfl
   · rw [if_neg U,if_neg A]
section
variable {P:av} {n:Nat} {F:List Nat} {σ:Nat→ag} {w:ai} {fn:fP} {R:ag→ai→Prop}
end
section
variable {P:av} {N:Fm} {σ:Nat→ag} {w:ai} {dst:Option Nat} {ty:au} {pos :String} {af:Array cH} {g:Option (Nat×Bool)} {x:aY} {K:(Nat→ag)→ai→Prop}
theorem E6 {e:au} {v:ag} (A:ev N σ x=v) (h1:v.oneCell'=true) (k:∀ b w',b=w.heap.size→Nw w w'→w'.heap[b]? =some (.cells [v].toArray e (0,0))→K (dd σ dst<|.pointer<|some ⟨b,0,none⟩) w'):
 bW P N ⟨dst,.box e x,ty,pos,af,g⟩ σ w K:=by
 refine lK (v:=fun b=> .pointer<|some ⟨b,0,none⟩) (ob:= .cells [v].toArray e (0,0)) ?_ k;have :=mw h1;simp [execOp,xQ,A,this,newVar,newRow]
end
section
variable {F:Nat→Prop} {W W':ai} {B:Nat}
end
theorem Ez (N:Fm):∀ (l:List (Tmp×ag)) (σ:Nat→ag),l.foldl (fun t p=>t.setIfInBounds p.1 p.2) (act N σ).tmps=(act N<|l.foldl (fun s p=>bo s p.1 p.2) σ).tmps:=by
 intro l
 induction l with
 | nil=>intro σ; rfl
 | cons p l ih=>
   intro σ;rw [kI,kI,← ih];congr 1;have :=congrArg Act.tmps<|eD N σ (some p.1) p.2;exact this
section
variable {P:av} {N:Fm} {ops:Array aE} {Q:bt→(Nat→ag)→ai→Prop} {rest:List aE} {σ:Nat→ag} {w:ai} {d':Option Nat} {d:Nat} {op:Op} {ty:au} {pos :String} {af:Array cH} {v:ag}
end
end Go.Hb
end
section
namespace Go.Hb
def lX (P:av) (f:dW) (args:Array ag) (w:ai) (R:ag→ai→Prop) (A:List PanicEntry→ai→Prop):Prop :=
 Calls P f args w fun e w'=>(∃ v,e= .returned v∧R v w')∨∃ c,e= .panicked c∧A c w'
def zQ (P:av) (fn:fP) (N:Fm) (R:ag→ai→Prop) (A:List PanicEntry→ai→Prop):bt→(Nat→ag)→ai→Prop
 | .normal,σ,w=> ∃ v,(results fn (act N σ).tmps).run P w= .ok v w∧R v w
 | .ret,σ,w=> ∃ v,(results fn (act N σ).tmps).run P w= .ok v w∧R v w
 | .panic c,_,w=>A c w
 | _,_,_=>False
theorem pL {P:av} {fn:fP} {N:Fm} {R:ag→ai→Prop} {A:List PanicEntry→ai→Prop} {e:bt} {σ:Nat→ag} {w:ai} (h:fin P fn N R e σ w):zQ P fn N R A e σ w:=by
 cases e <;> first | exact h | exact h.elim
theorem pI {P:av} {f:dW} {N:Nat} {fn:fP} {c:bJ} {args:List ag} {w:ai} {R:ag→ai→Prop} {I:List PanicEntry→ai→Prop} (L:P.funcs[f]? =some fn) (hb:fn.body=some c)
 (J:fn.ntmps=N) (hn:bj args.length N=true) (h:bE P ⟨N,[],[],none⟩ c (zQ P fn ⟨N,[],[],none⟩ R I) (dj args) w):lX P f args.toArray w R I:=by
 subst J;refine calls_of_wp L hb ?_;rw [oB fn args [] hn];unfold bE at h;refine xP ?_<|wpIn_wide.1 h;intro e a w A;cases e with
 | normal=>obtain ⟨σ,rfl,v,hr,E⟩:=A; exact ⟨rfl,v,hr,.inl ⟨v,rfl,E⟩⟩
 | ret=>obtain ⟨σ,rfl,v,hr,E⟩:=A; exact ⟨rfl,v,hr,.inl ⟨v,rfl,E⟩⟩
 | exit id=>obtain ⟨σ,rfl,C⟩:=A; exact C.elim
 | goto l=>obtain ⟨σ,rfl,C⟩:=A; exact C.elim
 | panic c=>obtain ⟨σ,rfl,C⟩:=A; exact ⟨rfl,.inr ⟨c,rfl,C σ fun _ _=>rfl⟩⟩
 | outgrown=>exact A.elim
section
variable {P:av} {N:Fm} {Q:bt→(Nat→ag)→ai→Prop} {σ:Nat→ag} {w:ai} {ops:Array aE} {rest:List aE} {dst:Option Nat} {ty:au} {pos :String} {af:Array cH} {g:Option (Nat×Bool)} {x:aY}
def mS (P:av) (N:Fm) (o:aE) (σ:Nat→ag) (w:ai) (K:(Nat→ag)→ai→Prop) (A:List PanicEntry→ai→Prop):Prop :=
 gj P o (act N σ) w (fun a w=> ∃ σ,a=act N σ∧K σ w) (fun e a w=>match e with | .panic c=>a=act N σ∧A c w | _=>False)
theorem xE {o:aE} {K:(Nat→ag)→ai→Prop} {C:List PanicEntry→ai→Prop} {A:Act→ai→Prop} (h:mS P N o σ w K C) (L:∀ σ w,K σ w→A (act N σ) w) (hp:∀ c w',C c w'→∀ σ',(∀ i∈N.F,σ' i=σ i)→Q (.panic c) σ' w'):o.wp P (act N σ) w A (lift N Q):=by
 unfold mS at h;unfold gj at*;generalize (execOp (act N σ).eval o).run P w=r at h ⊢;have E:∀ a w,(∃ σ,a=act N σ∧K σ w)→A a w:=by rintro a w ⟨σ,rfl,h⟩; exact L _ _ h
 have I:∀ c (a:Act) w',(a=act N σ∧C c w')→lift N Q (.panic c) a w':=by rintro c a w' ⟨rfl,h⟩; exact ⟨σ,rfl,hp c w' h⟩
 cases r with
 | ok n w'=>
   cases n <;> simp only [iQ] at h ⊢ <;>
    first
     | exact E _ _ h
     | exact jV h (fun e w'' he=>by
      cases e with
      | returned v=>exact E _ _ he
      | panicked c=>exact I _ _ _ ⟨rfl,he.2⟩
      | outgrown=>obtain ⟨_,_,J⟩:=he; exact J.elim)
     | exact tu h fun _ _ he=>E _ _ he
 | halt x w'=>cases x <;> simp only [iQ] at h ⊢ <;> exact I _ _ _ ⟨rfl,h.2⟩
theorem dU {f:dW} {args:Array aY} {C:Array au} {L:List ag} {R:ag→ai→Prop} {A:List PanicEntry→ai→Prop} {K:(Nat→ag)→ai→Prop} (O:fT P f) (hr:lX P f L.toArray w R A) (I:args.toList.map (ev N σ)=L)
 (k:∀ v w',R v w'→K (dd σ dst v) w'):mS P N ⟨dst,.call ⟨.value (.func f),args,C⟩,ty,pos,af,g⟩ σ w K A:=by
 unfold mS gj;have hm:args.map (ev N σ)=L.toArray:=by rw [← I,← iO]
 have U:(execOp (ev N σ) ⟨dst,.call ⟨.value (.func f),args,C⟩,ty,pos,af,g⟩).run P w= .ok (.enter f L.toArray) w:=by
  have E:=O L.toArray w;simp [execOp,resolve,ev,lL,invoke,hm,E]
 rw [dq,U];simp only [iQ];refine jV hr ?_;rintro e w' (⟨v,rfl,M⟩ | ⟨c,rfl,J⟩)
 · exact ⟨_,eD ..,k v w' M⟩
 · exact ⟨trivial,J⟩
theorem eP {o:aE} {A:List PanicEntry→ai→Prop} (hg:o.guard=none) (h:mS P N o σ w (fun σ w=>bR P N ops Q rest σ w) A) (hp:∀ c w',A c w'→∀ σ',(∀ i∈N.F,σ' i=σ i)→Q (.panic c) σ' w'):bR P N ops Q (o::rest) σ w:=by
 unfold bR wpList;rw [if_pos (fE o hg _)];refine .inl<|xE h (fun σ w C=> ?_) hp;unfold bR at C; exact C
theorem II {t:au} {v:ag} (A:ev N σ x= .iface t v) (hp:∀ σ',(∀ i∈N.F,σ' i=σ i)→Q (.panic [{v:= .iface t v,recovered:=false}]) σ' w):bR P N ops Q (⟨dst,.panic x,ty,pos,af,none⟩::rest) σ w:=by
 unfold bR wpList;rw [if_pos (fE _ rfl _)];refine .inl ?_;unfold gj;have hr:(execOp (ev N σ) ⟨dst,.panic x,ty,pos,af,none⟩).run P w= .halt (.panic<|.iface t v) w:=by
  simp [execOp,A,Instr.panic]
 rw [dq,hr];exact ⟨σ,J,hp⟩
theorem Ie {t:au} {d:TypeDesc} {v:ag} (hu:P.underlying t=some d) (A:(match d with | .interface _=>false | _=>true)=true) (C:ev N σ x=v):(execOp (ev N σ) ⟨dst,.makeInterface t x,ty,pos,af,g⟩).run P w= .ok (.value<|.iface t v) w:=by
 cases d <;> first | (cases A; done) | simp [execOp,Instr.makeInterface,C,bu hu]
def jI (P:av) (t:au):Bool:=match P.underlying t with | some (.interface _)=>false | some _=>true | none=>false
theorem vE {t:au} {v:ag} (h:jI P t=true) (A:ev N σ x=v):(execOp (ev N σ) ⟨dst,.makeInterface t x,ty,pos,af,g⟩).run P w= .ok (.value<|.iface t v) w:=by
 unfold jI at h;cases hd:P.underlying t with
 | none=>rw [hd] at h; cases h
 | some d=>rw [hd] at h; exact Ie hd (by cases d <;> first | rfl | cases h) A
theorem Cb {xt a:au} {zv:ag} (hu:jI P a=true) (C:zeroV P a=some zv) (A:ev N σ x= .nilIface):(execOp (ev N σ) ⟨dst,.typeAssert x xt a true,ty,pos,af,g⟩).run P w= .ok (.value<|.tuple #[zv,.bool false]) w:=by
 unfold jI at hu;cases hd:P.underlying a with
 | none=>rw [hd] at hu; cases hu
 | some d=>rw [hd] at hu; cases d <;> first | (cases hu; done) | simp [execOp,Ds,A,bu hd,CO C]
theorem Ca {xt a:au} {v:ag} (hu:jI P a=true) (A:ev N σ x= .iface a v):(execOp (ev N σ) ⟨dst,.typeAssert x xt a true,ty,pos,af,g⟩).run P w= .ok (.value<|.tuple #[v,.bool true]) w:=by
 unfold jI at hu;cases hd:P.underlying a with
 | none=>rw [hd] at hu; cases hu
 | some d=>rw [hd] at hu; cases d <;> first | (cases hu; done) | simp [execOp,Ds,A,bu hd]
variable {S:ai→Prop} {fuel:Nat} {listed:Array Bool}
theorem G4 {o:aE} {C:List PanicEntry→ai→Prop} (i:Nat) (hi:ops[i]? =some o) (hr:iF ops listed i=true) (hg:o.guard=none)
 (h:mS P N o σ w (fun σ w=>S w∧cE P N ops Q S fuel (listed.setIfInBounds i true) σ w) C) (hp:∀ c w',C c w'→∀ σ',(∀ i∈N.F,σ' i=σ i)→Q (.panic c) σ' w'):cE P N ops Q S (fuel+1) listed σ w:=by
 unfold cE at*;refine wpAnyH_all (rs:= [i]) (by simpa [iF] using hr) (by simp) ?_;intro k A;obtain rfl :k=i:=by simpa using A
 unfold wpOp;simp only [hi];rw [if_pos (fE _ hg _)];exact .inl<|xE h (fun σ w A=>A) hp
end
section
variable {P:av} {N:Fm} {Q:bt→(Nat→ag)→ai→Prop} {σ:Nat→ag} {w:ai} {ops:Array aE} {S:ai→Prop} {fuel:Nat} {listed:Array Bool}
end
section
variable {P:av} {N:Fm} {Q:bt→(Nat→ag)→ai→Prop} {σ:Nat→ag} {w:ai} {ops:Array aE} {S:ai→Prop} {fuel r:Nat} {listed:Array Bool}
theorem HH {o:aE} {C:List PanicEntry→ai→Prop} (i:Nat) (hi:ops[i]? =some o) (hr:iF ops listed i=true) (hg:o.guard=none)
 (h:mS P N o σ w (fun σ w=>S w∧cD P N ops Q S r fuel (listed.setIfInBounds i true) σ w) C) (hp:∀ c w',C c w'→∀ σ',(∀ i∈N.F,σ' i=σ i)→Q (.panic c) σ' w'):cD P N ops Q S r (fuel+1) listed σ w:=by
 unfold cD at*;have E:dM .any ops listed= [i]:=by simpa [iF] using hr
 refine ⟨fun h0=>absurd (E ▸ h0) (by simp),fun k A=> ?_⟩;rw [E] at A;obtain rfl :k=i:=by simpa using A
 unfold wpOp;simp only [hi];rw [if_pos (fE _ hg _)];exact .inl<|xE h (fun σ w A=>⟨fun _=>A.1,A.2⟩) hp
end
abbrev kP (P:av) (fn:fP) (R:ag→ai→Prop):bt→Act→ai→Prop :=bodyPostD P fn (fun e w'=> ∃ v,e= .returned v∧R v w')
theorem Gj {P:av} {f:dW} {N:Nat} {fn:fP} {c:bJ} {args:List ag} {w:ai} {R:ag→ai→Prop} (F:List Nat) (C:P.funcs[f]? =some fn) (hb:fn.body=some c)
 (A:fn.ntmps=N) (hn:bj args.length N=true) (h:ie P ⟨N,[],F,none⟩ c (kP P fn R) (dj args) w):bp P f args.toArray w R:=by
 subst A;refine calls_of_wp_defers C hb ?_;rw [oB fn args F hn];exact wpIn_wide.1 h
section
variable {P:av} {n:Nat} {D:List Deferred} {F:List Nat} {σ:Nat→ag} {w:ai} {fn:fP} {R:ag→ai→Prop} {B:bt→Act→ai→Prop}
theorem Gw {v:ag} (hr:(results fn (act ⟨n,[],F,none⟩ σ).tmps).run P w= .ok v w) (A:R v w):qb ⟨n,[],F,none⟩ (kP P fn R) .ret σ w:=⟨v,hr,v,rfl,A⟩
theorem HL:¬LetsOut (kP P fn R):=fun ⟨_,_,h⟩=>by obtain ⟨v,h,_⟩:=h; cases h
theorem kd {id d:Nat} {f:dW} (O:¬LetsOut B) {cs:Array aY} {I L:au} {p1 p2:String} {C E:Array cH} {y:bJ} (A:Array ag) (V:cs.toList.map (ev ⟨n,[],F,none⟩ σ)=A.toList) (ab:d < n)
 (h:ie P ⟨n,[{target:= .fn (.func f) A,args:= #[]}],F,none⟩ y B (bo σ d<|.func (.func f) #[] A) w):
 ie P ⟨n,[],F,none⟩ (.region id #[⟨some d,.makeFunc (.func f) #[] cs,I,p1,C,none⟩,⟨none,.defer ⟨.value (.tmp d),#[],#[]⟩,L,p2,E,none⟩] false) (Exit.then (y.wpIn (fe none) 0 P B) B) σ w:=by
 have Z:cs.map (ev ⟨n,[],F,none⟩ σ)=A:=qE.1<|by rw [iO]; exact V
 refine wpIn_region ?_;have U:¬LetsOut (Exit.then (y.wpIn (fe none) 0 P B) B):=fun ⟨a,w,h⟩=>O ⟨a,w,h⟩;refine vf (r:=none) U J _ _ _ ?_;show wpOps P _ _ [0,1] _ _;simp only [wpOps,kJ,gL,gK];rw [if_pos (fE _ rfl _)];refine .inl ?_;unfold gj;have h1:(execOp (act ⟨n,[],F,none⟩ σ).eval ⟨some d,.makeFunc (.func f) #[] cs,I,p1,C,none⟩).run P w= .ok (.value<|.func (.func f) #[] A) w:=by
  rw [dq,mf,Z]; simp
 rw [h1];simp only [iQ];rw [if_pos (fE _ rfl _),eD];refine .inl ?_;have M:(execOp (act ⟨n,[],F,none⟩<|dd σ (some d)<|.func (.func f) #[] A).eval ⟨none,.defer ⟨.value (.tmp d),#[],#[]⟩,L,p2,E,none⟩).run P w= .ok (.defer {target:= .fn (.func f) A,args:= #[]}) w:=by
  have ac:ev ⟨n,[],F,none⟩ (bo σ d<|.func (.func f) #[] A) (.tmp d)= .func (.func f) #[] A:=by
   show cond (aF d n) (bo σ d _ d) undef=_;rw [show aF d n=true from by simpa using ab];show bo σ d _ d=_;unfold bo; simp
  rw [dq];show (execOp (ev ⟨n,[],F,none⟩<|bo σ d<|.func (.func f) #[] A) _).run P w=_;simp [execOp,resolve,ac,lL]
 rw [M];exact h
end
theorem ID {P:av} {ops:Array aE} {Q:bt→Act→List Frame→ai→Prop} {cs:List Frame} (A:¬LetsOut fun e a w=>Q e a cs w):∀ (l:List Nat) (a:Act) (w:ai),wpOps P ops (fun e a w=>Q e a cs w) l a w→wpOpsS P ops Q l a cs w:=by
 intro l
 induction l with
 | nil=>exact fun _ _ h=>h
 | cons i l ih=>
   intro a w h;simp only [wpOps] at h;simp only [wpOpsS];cases ho:ops[i]? with
   | none=>simp only [ho] at h ⊢; exact ih a w h
   | some o=>
     simp only [ho] at h ⊢;by_cases hw:jw o (yielded ops a.tmps)=true
     · rw [if_pos hw] at h ⊢;rcases h with h | h
       · unfold gj at h;generalize (execOp a.eval o).run P w=x at h;cases x with
         | ok n w'=>
           cases n <;> simp only [iQ] at h ⊢ <;>
            first
             | exact ih _ _ h
             | exact jV h fun e w'' he=>by cases e <;> first | exact ih _ _ he | exact he
             | exact tu h fun v w'' he=>ih _ _ he
         | halt x w'=>cases x <;> simp only [iQ] at h ⊢ <;> exact h
       · exact absurd h.2 A
     · rw [if_neg hw] at h ⊢;exact ih _ _ h
theorem HQ {P:av} {ops:Array aE} {Q C:bt→Act→ai→Prop} (A:∀ e a w,Q e a w→C e a w) (E:¬LetsOut Q):∀ (l:List aE) (a:Act) (w:ai),wpList P ops Q l a w→wpList P ops C l a w:=by
 intro l
 induction l with
 | nil=>exact fun _ _ h=>A _ _ _ h
 | cons o l ih=>
   intro a w h;unfold wpList at h ⊢;split at h
   · rename_i hw;rw [if_pos hw];rcases h with h | h
     · left;unfold gj at h ⊢;generalize (execOp a.eval o).run P w=x at h;cases x with
       | ok n w'=>
         cases n <;> simp only [iQ] at h ⊢ <;>
          first
           | exact ih _ _ h
           | exact jV h (fun e w'' he=>by
            cases e with
            | returned v=>exact ih _ _ he
            | panicked c=>exact A _ _ _ he
            | outgrown=>exact absurd he E)
           | exact tu h fun v w'' he=>ih _ _ he
       | halt x w'=>cases x <;> simp only [iQ] at h ⊢ <;> exact A _ _ _ h
     · exact absurd h.2 E
   · rename_i hw;rw [if_neg hw]; exact ih _ _ h
theorem yM {P:av} {f:dW} {fn:fP} {id N d:Nat} {ty:au} {pos :String} {af:Array cH} {rest:List aE} {y:bJ} {args:List ag} {w:ai} {u I:FrameMode} {v:ag} {R:ai→Prop}
 (ah:P.funcs[f]? =some fn) (hb:fn.body=some (.seq (.region id (⟨some d,.call ⟨.builtin .recover,#[],#[]⟩,ty,pos,af,none⟩::rest).toArray false) y)) (ad:fn.ntmps=N) (hn:bj args.length N=true)
 (aj:∀ (C:Frame) (cs:List Frame),C.mode=u→(recoverD (C::cs)=some (v,{C with mode:=I} ::cs))∨(recoverD (C::cs)=none∧v= .nilIface∧I=u))
 (h:bR P ⟨N,[],[],none⟩ (⟨some d,.call ⟨.builtin .recover,#[],#[]⟩,ty,pos,af,none⟩::rest).toArray (gG (fun σ w=>bE P ⟨N,[],[],none⟩ y (fin P fn ⟨N,[],[],none⟩ fun _ w=>R w) σ w)<|fin P fn ⟨N,[],[],none⟩ fun _ w=>R w) rest (bo (dj args) d v) w):
 CallsD P f args.toArray u w fun e J w'=> ∃ v,e= .returned v∧J=I∧R w':=by
 subst ad;refine callsD_of_wpS ah hb ?_;intro C cs hu;rw [oB fn args [] hn];refine wpS_seq<|wpS_region ?_;have ak:ir (⟨some d,.call ⟨.builtin .recover,#[],#[]⟩,ty,pos,af,none⟩::rest).toArray.size=0::(List.range' 1 rest.length):=by
  rw [eh,dx,DZ,List.range'_succ]
 rw [ak];simp only [wpOpsS,kJ,gL];rw [if_pos (fE _ rfl _)];have al:(execOp (act ⟨fn.ntmps,[],[],none⟩<|dj args).eval ⟨some d,.call ⟨.builtin .recover,#[],#[]⟩,ty,pos,af,none⟩).run P w= .ok .recover w:=by
  rw [dq];simp [execOp,resolve,invoke,builtin]
 rw [al];simp only;obtain ⟨L,M⟩:∃ L,L=({C with mode:=I} ::cs:List Frame):=⟨_,rfl⟩
 have ae:∀ X:Act→List Frame→Prop,X ((act ⟨fn.ntmps,[],[],none⟩<|dj args).put (some d) v) L→
  (match recoverD (C::cs) with
   | some (v,O)=>X ((act ⟨fn.ntmps,[],[],none⟩<|dj args).put (some d) v) O
   | none=>X ((act ⟨fn.ntmps,[],[],none⟩<|dj args).put (some d) .nilIface) (C::cs)):=by
  intro X V;rcases aj C cs hu with h1 | ⟨h1,ab,ac⟩;rw [h1]; subst M; exact V;rw [h1]; subst ab ac;have :({C with mode:=I} :Frame)=C:=by subst hu; rfl
  rw [this] at M; subst M; exact V
 refine ae (fun a O=>wpOpsS P _ _ _ a O w) ?_;rw [eD];refine ID ?_ _ _ _ ?_;rintro ⟨a,w,h⟩;simp only [Exit.thenS,bodyPostS] at h;obtain ⟨_,_,h,_⟩:=h; cases h;have h1:=wpOps_eq_wpList (P:=P) (ops:=(⟨some d,.call ⟨.builtin .recover,#[],#[]⟩,ty,pos,af,none⟩::rest).toArray) (Q:=fun e a w'=>Exit.thenS (Code.wpS P y (bodyPostS P fn C cs fun e J w'=> ∃ v,e= .returned v∧J=I∧R w')) (bodyPostS P fn C cs fun e J w'=> ∃ v,e= .returned v∧J=I∧R w') e a L w') rest 1 fun j=>by simp [tK]
 rw [h1];unfold bR at h;refine HQ ?_ vu _ _ _ h;intro e a w' E;have Z:∀ (e:bt) (σ:Nat→ag) (w':ai),fin P fn ⟨fn.ntmps,[],[],none⟩ (fun _ w=>R w) e σ w'→bodyPostS P fn C cs (fun e J w'=> ∃ v,e= .returned v∧J=I∧R w') e (act ⟨fn.ntmps,[],[],none⟩ σ) L w':=by
  intro e σ w' A;cases e with
  | normal=>obtain ⟨v,hr,U⟩:=A; exact ⟨rfl,I,M,v,hr,v,rfl,rfl,U⟩
  | ret=>obtain ⟨v,hr,U⟩:=A; exact ⟨rfl,I,M,v,hr,v,rfl,rfl,U⟩
  | _=>exact A.elim
 cases e with
 | normal=>
   obtain ⟨σ,rfl,A⟩:=E;refine wpS_of_wp ?_;simp only [gG] at A;unfold bE at A;refine xP ?_<|wpIn_wide.1 A;intro e a w' E;cases e with
   | panic c=>obtain ⟨σ,rfl,A⟩:=E; exact (A σ fun _ _=>rfl).elim
   | outgrown=>exact E.elim
   | _=>obtain ⟨σ,rfl,A⟩:=E; exact Z _ σ w' A
 | panic c=>obtain ⟨σ,rfl,A⟩:=E; exact (A σ fun _ _=>rfl).elim
 | outgrown=>exact E.elim
 | ret=>obtain ⟨σ,rfl,A⟩:=E; exact Z .ret σ w' A
 | exit i=>obtain ⟨σ,rfl,A⟩:=E; exact A.elim
 | goto i=>obtain ⟨σ,rfl,A⟩:=E; exact A.elim
section
variable {P:av} {n:Nat} {F:List Nat} {σ:Nat→ag} {w:ai} {fn:fP} {R:ag→ai→Prop}
theorem Gy {g:dW} {A:Array ag} {M:ai→Prop} (hu:(invoke (.fn (.func g) A) #[]).run P w= .ok (.enter g A) w)
 (I:CallsD P g A .returning w fun e L w'=> ∃ v,e= .returned v∧L= .returning∧M w') (E:∀ w',M w'→∃ v,(results fn (act ⟨n,[{target:= .fn (.func g) A,args:= #[]}],F,none⟩ σ).tmps).run P w'= .ok v w'∧R v w'):
 qb ⟨n,[{target:= .fn (.func g) A,args:= #[]}],F,none⟩ (kP P fn R) .ret σ w:=by
 refine leaves_cons (by simp) hu ?_;refine Dd I ?_;rintro e O w' ⟨v,rfl,rfl,hm⟩;obtain ⟨v2,h1,C⟩:=E w' hm;exact ⟨v2,h1,v2,J,C⟩
theorem Gz {g:dW} {A:Array ag} {M:ai→Prop} {v:ag} (hu:(invoke (.fn (.func g) A) #[]).run P w= .ok (.enter g A) w)
 (I:CallsD P g A (.panicking [{v:=v,recovered:=false}]) w fun e L w'=> ∃ x,e= .returned x∧L= .panicking [{v:=v,recovered:=true}]∧M w') (E:∀ w',M w'→∃ v,(results fn (act ⟨n,[{target:= .fn (.func g) A,args:= #[]}],F,none⟩ σ).tmps).run P w'= .ok v w'∧R v w'):
 qb ⟨n,[{target:= .fn (.func g) A,args:= #[]}],F,none⟩ (kP P fn R) (.panic [{v:=v,recovered:=false}]) σ w:=by
 refine leaves_cons (by simp) hu ?_;refine Dd I ?_;rintro e O w' ⟨x,rfl,rfl,hm⟩;obtain ⟨v2,h1,C⟩:=E w' hm;exact ⟨v2,h1,v2,J,C⟩
end
end Go.Hb
end
section
namespace Go.Hb
abbrev Tl:=List<|List UInt8
def u7:Tl→List (UInt8×Tl)
 | []=> []
 | []::ts=>u7 ts
 | (c::t)::ts=>match u7 ts with
   | []=> [(c,[t])]
   | (c',g)::r=>if c=c' then (c,t::g)::r else (c,[t])::(c',g)::r
def Hk (A:Tl):Bool:=match A with | []::_=>true | _=>false
def Gc (A:Tl):Tl:=match A with | []::r=>r | r=>r
structure VS where
 known:List Tl
 ju:List (Bool×List (UInt8×Nat))
def VS.add (s:VS) (A:Tl):VS:=⟨s.known++ [A],s.ju++ [(false,[])]⟩
end Go.Hb
namespace Go.Hb
end Go.Hb
namespace Go.Hb
abbrev Eo:=Bool×List (UInt8×Nat)
end Go.Hb
namespace Go.Hb
def og (l:List (UInt8×Nat)):Prop :=l.Pairwise fun a b=>a.1.toNat < b.1.toNat
end Go.Hb
namespace Go.Hb
def Gi (A:List Tl) (p:UInt8×Tl):UInt8×Nat:=(p.1,A.idxOf p.2+1)
def enc (A:List Tl) (L:Tl):Eo:=(Hk L,(u7<|Gc L).map (Gi A))
end Go.Hb
namespace Go.Hb
def nm (A:List Tl) (i:Nat):Tl:=A.getD (i - 1) []
end Go.Hb
namespace Go.Hb
end Go.Hb
namespace Go.Hb
end Go.Hb
end
