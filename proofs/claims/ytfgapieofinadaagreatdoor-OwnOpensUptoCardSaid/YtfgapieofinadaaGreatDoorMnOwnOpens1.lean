/-
  Walks and plain laws that the law rests on, laid together. No conditions but those that each theorem names.
-/
import Derived.WalkKit
import Derived.OrdersHeld
import Derived.TacticsIn
import Derived.Lib.Strings
import Derived.Lib.UnsafeStr
import Derived.Laws.MakeOwn
import Derived.Laws.StructEq
import Derived.SliceStrings
import Derived.Carry
import Derived.JoinedCond
import Derived.ProofKit
import Derived.OpenShut
import Derived.Test.YtfgapieofinadaaGreatDoorRows
import Derived.Test.YtfgapieofinadaaGreatDoorChecked
import Derived.Maps.RangeRun
import Derived.Laws.OwnMore
import Derived.Lib.SliceRun
import Derived.RangeFuncFrom
import Derived.RangeFuncLeaves
import Derived.Recover
import Derived.OrdersIn
import Derived.Lib.Bytealg
import Derived.Lib.FrozenHead
import Derived.Deep.AppendSrc
import Derived.RangeFuncNested
import Derived.Stop.LaidErr
import Derived.Shelf.Slices.In.SortAlone
import Derived.Shelf.Slices.In.SortNone
import Derived.Sort.OwnSorted
import Derived.Sort.EveryDepth
set_option linter.unusedVariables false
set_option maxRecDepth 20000
set_option maxHeartbeats 1000000
open Array renaming ext_getElem?→xN,getD_eq_getD_getElem?→kn,getElem?_eq_getElem→pU,getElem?_eq_none→xP,getElem?_eq_some_iff→cr,getElem?_setIfInBounds→uq,mem_toList_iff→xS,range→nA,replicate→sr,setIfInBounds_comm→Bv,toArray_toList→Bw,toList_append→HT,toList_inj→su,toList_map→ju
open BitVec renaming ofInt→jV
open Bool renaming and_eq_true→bO,and_eq_true_iff→sw,eq_iff_iff→pW,false_eq_true→uu,noConfusion→dw,not_eq_true'→mC,or_eq_true→lI
open Go renaming Addr→ba,Code→cj,Edge→cH,Exit→bM,FuncId→eX,IntKind→bY,Oper→aJ,Operand→bA,Program→av,TypeId→au,Value→ah,World→ai
open Go.Addr renaming add→xU
open Go.Builtin renaming append_→lJ,firstCells→xW,lenOf→H0,len_→Bx
open Go.ByteArray renaming toList_eq→H6
open Go.Calls renaming mono→jv
open Go.Conv renaming bytesToString→Ia,seenAt→Ib,unsafePointer→Ic
open Go.DataW renaming TrodAll→Ie
open Go.Deferred renaming ofValue→mE
open Go.Fence renaming wide→fX
open Go.Instr renaming alloc→xX,buildSlice→uv,checkKey→mF,fill→ko,findAsking→pX,findKey→pY,findNow→pZ,indexAt→Ij,keyThatStays→uw,loadAt→Ik,lookup→Il,sameBits→Im,sameNow→xY,slice→ux,sliceAt→p7,sliceBound→qa,sliceBounds→mG,storeAt→By,sureAddr→qc
open Go.IntKind renaming i64→xZ
open Go.Lib renaming run_append_own_string→Iq
open Go.Next renaming value→uy
open Go.Obj.cells renaming injEq→nC
open Go.Op renaming bytesLess→Bz,equal→oD,equalIn→jW,intArith→uz,intCmp→sD,intDiv→BA,stringOp→qf
open Go.Oper renaming upon→jX,uponIn→sE,wp→iB
open Go.Program renaming built→It
open Go.Proofs.Tryz renaming prog→aq
open Go.Region renaming Mode→qg,binds→eQ,free_spec→BB,noSelect_spec→BC,ready→fF,wanted→mH
open Go.Result renaming andThen_ok→gS,ok→uB
open Go.Sem renaming run_bind→ie,run_ite→uC,run_pure→jY
open Go.Value renaming bool→bB,cells→sF,int→bh,oneCell'→kW,ownBlock→dM,pointer→cZ,slice→eY
open Go.Value.slice renaming injEq→mI
open Go.Value.string renaming inj→Iv
open Go.World renaming freeze→nD,ownsRow_nil→eL,setCell→x8,shape?→BE
open Int renaming tdiv_eq_ediv_of_nonneg→Iy
open List renaming all_cons→uD,all_eq_true→IB,any_eq_true→IC,append_assoc→iC,append_nil→kr,drop_eq_nil_of_le→iT,eq_nil_of_length_eq_zero→ku,ext_getElem?→ya,flatMap_cons→IK,foldl_cons→uH,getD_cons_zero→oE,getD_eq_getElem?_getD→cW,getElem?_append_left→eZ,getElem?_append_right→eH,getElem?_cons_succ→jZ,getElem?_eq_getElem→cI,getElem?_eq_none→qk,getElem?_map→ij,getElem?_range→BL,getElem?_take→j0,idxOf_cons→IN,idxOf_cons_self→IP,length→jx,length_append→bp,length_cons→cn,length_nil→fq,length_singleton→dC,length_take→bX,mapM_toArray→yc,map_cons→fZ,map_take→IU,mem_append_left→IV,mem_cons→ew,mem_map_of_mem→qq,mem_of_getElem?→kX,mem_singleton→fu,nil_append→oF,range→qt,replicate→eM,size_toArray→fP,takeWhile_sublist→I5,take_succ_cons→BP,take_zero→uL,zipIdx_cons→I9
open List.cons renaming inj→ID,injEq→lM
open Nat renaming add_assoc→jy,beq→bC,ble→bL,blt→aZ,eq_of_beq_eq_true→cO,le_of_ble_eq_true→cE,le_refl→bf,le_trans→cQ,lt_of_lt_of_le→oI,lt_or_eq_of_le→Ja,lt_or_ge→dN,lt_succ_self→oJ,mul_one→oK,succ_mul→BT,zero_add→dx,zero_mul→yq
open Option renaming bind_some→Jf,isSome_iff_exists→oL,map_eq_some_iff→iW,map_some→e7
open Option.some renaming injEq→bR
open Prod renaming fst→dj
open Prod.mk renaming injEq→kY
open UInt8 renaming lt_iff_toNat_lt→yt,ofNat→ga,toNat_inj→nG,toNat_lt→oM
open Go.Proofs.Tryz
open Go.RowKit

namespace Go.Hb
theorem ag {p:Prop} (h:p:=by omega):p:=h
theorem an {p:Prop} (h:p:=by kernel_rfl):p:=h
theorem aI {p:Prop} (h:p:=by decide):p:=h
theorem U {α:Sort _} {a:α} :a=a:=rfl
end Go.Hb
section
namespace Go.Hb
structure Fm where
 n:Nat
 D:List Deferred
 F:List Nat
 r:Option Nat
def bI (σ:Nat→ah) (d:Nat) (v:ah):Nat→ah:=fun i=>cond (bC i d) v<|σ i
def dq (σ:Nat→ah):Option Nat→ah→Nat→ah
 | some d,v=>bI σ d v
 | none,_=>σ
def act (N:Fm) (σ:Nat→ah):Act:=⟨((qt N.n).map σ).toArray,N.D⟩
def ev (N:Fm) (σ:Nat→ah):bA→ah
 | .tmp t=>cond (aZ t N.n) (σ t) undef
 | .const v=>v
 | .global g=> .pointer<|some ⟨g,0,none⟩
 | .func f=> .func (.func f) #[] #[]
theorem kD (N:Fm) (σ:Nat→ah) (t:Nat):(act N σ).tmps[t]? =if t < N.n then some (σ t) else none:=by grind [act]
theorem ej (N:Fm) (σ:Nat→ah):(act N σ).eval=ev N σ:=by
 funext x;cases x with
 | tmp t=>
   simp only [Act.eval,ev,kn,kD];by_cases h:t < N.n
   · rw [if_pos h,show aZ t N.n=true from by simpa using h]; rfl
   · rw [if_neg h,show aZ t N.n=false from by cases hx:aZ t N.n <;> simp_all [aZ,Nat.ble_eq] <;> omega]; rfl
 | _=>rfl
theorem vf {a b:Act} (A:a.defers=b.defers) (C:∀ i:Nat,a.tmps[i]? =b.tmps[i]?):a=b:=by
 cases a; cases b;simp only at A C;subst A;congr 1;exact xN C
theorem gi (N:Fm) (σ:Nat→ah) (dst:Option Nat) (v:ah):(act N σ).put dst v=act N (dq σ dst v):=by
 cases dst with
 | none=>rfl
 | some d=>
   refine vf U fun i=> ?_;have h0:((act N σ).put (some d) v).tmps=(act N σ).tmps.setIfInBounds d v:=rfl;rw [h0,uq,kD,kD];have C:(act N σ).tmps.size=N.n:=by simp [act]
   simp only [dq,bI];by_cases A:i=d
   · subst A;rw [C];have hb:bC i i=true :=by simp
     by_cases h:i < N.n
     · rw [if_pos rfl,if_pos h,if_pos h,hb]; rfl
     · rw [if_pos rfl,if_neg h,if_neg h]
   · rw [if_neg (fun e=>A e.symm)];have hb:bC i d=false :=by
      cases hx:bC i d
      · rfl
      · exact absurd (cO hx) A
     rw [hb]; rfl
theorem oy {σ:Nat→ah} {i:Nat} {v:ah} (h:σ i=v):bI σ i v=σ:=by grind [bI,bC,cO]
def lift (N:Fm) (Q:bM→(Nat→ah)→ai→Prop):bM→Act→ai→Prop
 | .panic c,a,w=> ∃ σ,a=act N σ∧∀ σ',(∀ i∈N.F,σ' i=σ i)→Q (.panic c) σ' w
 | .outgrown,_,_=>False
 | e,a,w=> ∃ σ,a=act N σ∧Q e σ w
def fe:Option Nat→Fence
 | none=>fX
 | some l=>fX.inRound l
theorem o6 (r:Option Nat):(fe r).round=r:=by cases r <;> rfl
theorem lY (r:Option Nat) (f:eX):(fe r).fn f:=by cases r <;> trivial
theorem o5 (r:Option Nat):(fe r).depth=none:=by cases r <;> rfl
theorem vJ {r:Option Nat} {n:Nat} {P:av} {f:eX} {args:Array ah} {w:ai} {R:Ending→ai→Prop} (h:Calls P f args w R):CallsIn (fe r) n P f args w R:=by
 cases r
 · exact callsIn_wide.2 h
 · exact (callsIn_wide (n:=n)).2 h
theorem DP {r:Option Nat} {n:Nat} {P:av} {row:String} {args:Array ah} {w:ai} {R:ah→ai→Prop} (h:Rows P row args w R):RowsIn (fe r) n P row args w R:=fun c cs _=>by
 obtain ⟨v,w',C,A⟩:=h c cs;refine ⟨v,w',C,?_⟩;cases r
 · exact stepsIn_wide.2 A
 · exact stepsIn_wide.2 A
def Aj (ops:List aJ):Bool:=ops.all fun o=>match o.op with | .defer _=>false | _=>true
def mi (r:Option Nat) (ops:List aJ):Bool:=match r with | none=>true | some _=>Aj ops
theorem NG {l:List aJ} (h:Aj l=true):∀ o∈l,∀ c,o.op≠.defer c:=by grind [Aj]
theorem zI {r:Option Nat} {P:av} {ops:Array aJ} {Q:bM→Act→ai→Prop} (A:¬LetsOut Q) (hr:mi r ops.toList=true):∀ (l:List Nat) (a:Act) (w:ai),wpOps P ops Q l a w→wpOpsIn (fe r) 0 P ops Q l a w:=by
 intro l
 induction l with
 | nil=>exact fun _ _ h=>h
 | cons i l ih=>
   intro a w h;simp only [wpOps] at h;simp only [wpOpsIn];cases ho:ops[i]? with
   | none=>simp only [ho] at h ⊢; exact ih a w h
   | some o=>
     simp only [ho] at h ⊢;by_cases hw:mH o (yielded ops a.tmps)=true
     · rw [if_pos hw] at h ⊢;rcases h with h | h
       · refine ⟨fun f _=>lY r f,?_⟩;rw [o6];have C:o.semAt r a.eval=execOp a.eval o:=by
          cases r with
          | none=>rfl
          | some k=>exact Oper.semAt_eq _ _ _<|NG hr o<|xS.2<|Array.mem_of_getElem? ho
         rw [C];unfold iB at h;generalize (execOp a.eval o).run P w=x at h;cases x with
         | ok n w'=>
           cases n <;> simp only [jX,sE] at h ⊢ <;>
            first
             | exact ih _ _ h
             | (refine ⟨fun h0=>(by rw [o5] at h0; cases h0),CallsIn.mono (vJ h) fun e w'' he=> ?_⟩
                cases e <;> first | exact ih _ _ he | exact he)
             | exact ⟨fun h0=>(by rw [o5] at h0; cases h0),RowsIn.mono (DP h) fun v w'' he=>ih _ _ he⟩
         | halt x w'=>cases x <;> simp only [jX,sE] at h ⊢ <;> exact h
       · exact absurd h.2 A
     · rw [if_neg hw] at h ⊢;exact ⟨fun f _=>lY r f,ih _ _ h⟩
def bU (P:av) (N:Fm) (c:cj) (Q:bM→(Nat→ah)→ai→Prop) (σ:Nat→ah) (w:ai):Prop :=
 c.wpIn (fe N.r) 0 P (lift N Q) (act N σ) w
def cG (P:av) (N:Fm) (ops:Array aJ) (Q:bM→(Nat→ah)→ai→Prop) (l:List aJ) (σ:Nat→ah) (w:ai):Prop :=
 wpList P ops (lift N Q) l (act N σ) w
def iP (K:(Nat→ah)→ai→Prop) (Q:bM→(Nat→ah)→ai→Prop):bM→(Nat→ah)→ai→Prop
 | .normal,σ,w=>K σ w
 | e,σ,w=>Q e σ w
def m8 (id:Nat) (Q:bM→(Nat→ah)→ai→Prop):bM→(Nat→ah)→ai→Prop
 | .exit A,σ,w=>if A=id then Q .normal σ w else Q (.exit A) σ w
 | e,σ,w=>Q e σ w
section
variable {P:av} {N:Fm} {Q:bM→(Nat→ah)→ai→Prop} {σ:Nat→ah} {w:ai} {K:(Nat→ah)→ai→Prop}
theorem M5 {Q C:bM→(Nat→ah)→ai→Prop} (h:∀ e σ w,Q e σ w→C e σ w) (e:bM) (a:Act) (w:ai):lift N Q e a w→lift N C e a w:=by
 cases e <;> first | exact fun h=>h.elim | exact fun ⟨σ,ha,A⟩=>⟨σ,ha,h _ _ _ A⟩ | exact fun ⟨σ,ha,A⟩=>⟨σ,ha,fun σ' E=>h _ _ _<|A σ' E⟩
theorem HG {A:bM→(Nat→ah)→ai→Prop} {c:cj} (h:∀ e σ w,Q e σ w→A e σ w) (C:bU P N c Q σ w):bU P N c A σ w:=
 wpIn_mono C (M5 h)
theorem tn (h:K σ w):iP K Q .normal σ w:=h
theorem te (id:Nat) (h:Q (.exit id) σ w):iP K Q (.exit id) σ w:=h
theorem tr (h:Q .ret σ w):iP K Q .ret σ w:=h
theorem bn {id:Nat} (h:Q .normal σ w):m8 id Q .normal σ w:=h
theorem be {id:Nat} (h:Q .normal σ w):m8 id Q (.exit id) σ w:=by simpa only [m8,if_true] using h
theorem JP {id A:Nat} (C:A≠id) (h:Q (.exit A) σ w):m8 id Q (.exit A) σ w:=by simpa only [m8,if_neg C] using h
theorem br {id:Nat} (h:Q .ret σ w):m8 id Q .ret σ w:=h
theorem sq {x y:cj} (h:∀ K:(Nat→ah)→ai→Prop,(∀ σ w,bU P N y Q σ w→K σ w)→bU P N x (iP K Q) σ w):bU P N (.seq x y) Q σ w:=by
 refine wpIn_seq<|wpIn_mono (h (fun σ w=>bU P N y Q σ w) fun _ _ h=>h) ?_;intro e a w A;cases e with
 | normal=>obtain ⟨σ,rfl,C⟩:=A; exact C
 | panic c=>exact A
 | outgrown=>exact A
 | _=>obtain ⟨σ,rfl,C⟩:=A; exact ⟨σ,rfl,C⟩
theorem ei {x y:cj} (A:(Nat→ah)→ai→Prop) (h:bU P N x (iP A Q) σ w) (I:∀ σ w,A σ w→bU P N y Q σ w):bU P N (.seq x y) Q σ w:=
 sq fun _ E=>HG (fun e _ _ C=>by cases e <;> first | exact E _ _ (I _ _ C) | exact C) h
theorem ct {c:bA} {x y:cj} (A:ev N σ c= .bool true) (h:bU P N x Q σ w):bU P N (.cond c x y) Q σ w:=
 wpIn_cond_true (by rw [ej]; exact A) h
theorem cf {c:bA} {x y:cj} (A:ev N σ c= .bool false) (h:bU P N y Q σ w):bU P N (.cond c x y) Q σ w:=
 wpIn_cond_false (by rw [ej]; exact A) h
theorem cb {c:bA} {x y:cj} {b:Bool} (A:ev N σ c= .bool b) (E:b=true→bU P N x Q σ w) (C:b=false→bU P N y Q σ w):bU P N (.cond c x y) Q σ w:=by
 cases b
 · exact cf A<|C U
 · exact ct A<|E U
theorem cd {c:bA} {x y:cj} {p:Prop} [Decidable p] (A:ev N σ c= .bool (decide p)) (E:p→bU P N x Q σ w) (C:¬p→bU P N y Q σ w):bU P N (.cond c x y) Q σ w:=by grind [cb]
theorem ax {id:Nat} {c:cj} (h:bU P N c (m8 id Q) σ w):bU P N (.block id c) Q σ w:=by
 refine wpIn_block<|wpIn_mono h ?_;intro e a w C;cases e with
 | panic c=>exact C
 | outgrown=>exact C
 | exit E=>
   obtain ⟨σ,rfl,A⟩:=C;simp only [m8,Exit.inBlock] at A ⊢;split
   · rename_i e; rw [if_pos e] at A; exact ⟨σ,rfl,A⟩
   · rename_i e; rw [if_neg e] at A; exact ⟨σ,rfl,A⟩
 | _=>obtain ⟨σ,rfl,A⟩:=C; exact ⟨σ,rfl,A⟩
theorem ext {id:Nat} (h:Q (.exit id) σ w):bU P N (.exit id) Q σ w:=wpIn_exit ⟨σ,rfl,h⟩
theorem GA (h:Q .normal σ w):bU P N .skip Q σ w:=wpIn_skip ⟨σ,rfl,h⟩
theorem rt (h:Q .ret σ w):bU P N .ret Q σ w:=wpIn_ret ⟨σ,rfl,h⟩
theorem fx {c:cj} {v:ah} (i:Nat) (h:σ i=v) (A:bU P N c Q (bI σ i v) w):bU P N c Q σ w:=by rw [oy h] at A; exact A
def Sl (σ:Nat→ah) (L:List (Nat×ah)):Prop :=L.map (fun p=>σ p.1)=L.map (fun p=>p.2)
def ug (σ:Nat→ah):List (Nat×ah)→Nat→ah
 | []=>σ
 | p::L=>bI (ug σ L) p.1 p.2
theorem Ba {σ:Nat→ah} :∀ {L:List (Nat×ah)},Sl σ L→ug σ L=σ
 | [],_=>rfl
 | p::L,h=>by
   have A:σ p.1=p.2:=(ID h).1;have C:Sl σ L:=(ID h).2;rw [ug,Ba C,oy A]
theorem bG {c:cj} {L:List (Nat×ah)} (h:Sl σ L) (A:bU P N c Q (ug σ L) w):bU P N c Q σ w:=by rw [Ba h] at A; exact A
theorem lp {c:cj} (L:Nat→(Nat→ah)→ai→Prop) (n:Nat) (h0:L n σ w)
 (h:∀ n σ w,L n σ w→bU P N c (iP (fun σ' w'=> ∃ m,m < n∧L m σ' w') Q) σ w):bU P N (.loop c) Q σ w:=by
 intro b k cs ae hb hr;have key:∀ n σ w,L n σ w→
  ∃ e a' w',lift N Q e a' w'∧ArrivesIn (Machine.fenced P<|fe N.r) P (lone (b.atR (act N σ) (.code c:: .inLoop c::k)) cs w) b k cs e a' w':=by
  intro n
  induction n using Nat.strongRecOn with
  | _ n ih=>
    intro σ w aa;obtain ⟨e,M,J,I,C⟩:=h n σ w aa b (.inLoop c::k) cs ae hb hr;cases e with
    | normal=>
      obtain ⟨A,rfl,m,hm,ab⟩:=I;obtain ⟨Z,O,ag,ad,ac⟩:=ih m hm A J ab;exact ⟨Z,O,ag,ad,.of_steps (StepsIn.trans C<|.one (fenced_calm hb hr U) stepR_inLoop) ac⟩
    | exit id=>obtain ⟨A,rfl,E⟩:=I; exact ⟨.exit id,act N A,J,⟨A,rfl,E⟩,.pass (x:= .inLoop c) rfl (fun _ _=> .inl<|by simp) C⟩
    | goto l=>obtain ⟨A,rfl,E⟩:=I; exact ⟨.goto l,act N A,J,⟨A,rfl,E⟩,.pass (x:= .inLoop c) rfl (fun _ _=> .inl<|by simp) C⟩
    | ret=>obtain ⟨A,rfl,E⟩:=I; exact ⟨.ret,act N A,J,⟨A,rfl,E⟩,.pass (x:= .inLoop c) rfl (fun _ _=> .inl<|by simp) C⟩
    | panic V=>exact ⟨.panic V,M,J,I,.pass (x:= .inLoop c) rfl (fun _ _=> .inl<|by simp) C⟩
    | outgrown=>exact I.elim
 obtain ⟨e,a',w',E,C⟩:=key _ σ w h0;exact ⟨e,a',w',E,.of_steps (.one (fenced_calm hb hr U) stepR_loop) C⟩
def cy (P:av) (N:Fm) (o:aJ) (σ:Nat→ah) (w:ai) (K:(Nat→ah)→ai→Prop):Prop :=
 iB P o (act N σ) w (fun a w=> ∃ σ,a=act N σ∧K σ w) (fun _ _ _=>False)
theorem Qv {o:aJ} {a:Act} {K C:Act→ai→Prop} {Q:bM→Act→ai→Prop} (h:∀ a w,K a w→C a w)
 (r:Result Next) (A:o.upon P a K (fun _ _ _=>False) r):o.upon P a C Q r:=by
 cases r with
 | ok n w'=>
   cases n <;> simp only [jX] at A ⊢ <;>
    first
     | exact h _ _ A
     | exact jv A (fun e w'' he=>by
      cases e with
      | returned v=>exact h _ _ he
      | panicked c=>exact he.elim
      | outgrown=>obtain ⟨_,_,E⟩:=he; exact E.elim)
     | exact Rows.mono A fun _ _ he=>h _ _ he
 | halt x w'=>cases x <;> simp only [jX] at A ⊢
theorem uk {K:(Nat→ah)→ai→Prop} {A:Act→ai→Prop} {Q:bM→Act→ai→Prop} {o:aJ} (h:cy P N o σ w K) (E:∀ σ w,K σ w→A (act N σ) w):o.wp P (act N σ) w A Q:=by
 unfold cy at h;unfold iB at*;exact Qv (fun a w ⟨σ,ha,C⟩=>by subst ha; exact E _ _ C) _ h
theorem HI {K A:(Nat→ah)→ai→Prop} {o:aJ} (h:cy P N o σ w K) (E:∀ σ w,K σ w→A σ w):cy P N o σ w A:=
 uk h (fun σ w C=>⟨σ,rfl,E σ w C⟩)
variable {ops:Array aJ} {rest:List aJ} {d:Nat} {op:Op} {ty:au} {pos :String} {af:Array cH} {d':Option Nat} {v:ah} {o:aJ}
theorem xF (A:mH o (yielded ops (act N σ).tmps)=true) (h:cy P N o σ w (fun σ w=>cG P N ops Q rest σ w)):cG P N ops Q (o::rest) σ w:=by
 unfold cG wpList;rw [if_pos A];exact .inl<|uk h fun _ _ C=>C
theorem jU {K:(Nat→ah)→ai→Prop} {w':ai} (hr:(execOp (ev N σ) o).run P w= .ok (.value v) w') (A:K (dq σ o.dst v) w'):cy P N o σ w K:=by
 unfold cy iB;rw [ej,hr];exact ⟨_,gi ..,A⟩
theorem gR (o:aJ) (A:o.guard=none) (y:Nat→Option Bool):mH o y=true :=by simp [mH,A]
def fg (ops:Array aJ) (j:Nat):Option Nat:=(ops[j]?).bind (·.dst)
theorem oB {j t:Nat} {want b:Bool} (E:o.guard=some (j,want)) (A:fg ops j=some t) (I:aZ t N.n=true) (J:σ t= .bool b):
 mH o (yielded ops (act N σ).tmps)=(b==want):=by
 have C:yielded ops (act N σ).tmps j=some b:=by
  unfold yielded;unfold fg at A;rw [A];simp only [Jf,kD];rw [if_pos (oI (oJ t)<|cE I),J]
 simp only [mH,E,C];cases b <;> cases want <;> rfl
theorem Bk {j t:Nat} {want:Bool} (E:o.guard=some (j,want)) (A:fg ops j=some t) (I:aZ t N.n=true) (J:σ t=undef):
 mH o (yielded ops (act N σ).tmps)=false :=by
 have C:yielded ops (act N σ).tmps j=none:=by
  unfold yielded;unfold fg at A;rw [A];simp only [Jf,kD];rw [if_pos (oI (oJ t)<|cE I),J]; rfl
 simp only [mH,E,C];rfl
theorem p (h:(execOp (ev N σ) ⟨some d,op,ty,pos,af,none⟩).run P w= .ok (.value v) w) (k:cG P N ops Q rest (bI σ d v) w):
 cG P N ops Q (⟨some d,op,ty,pos,af,none⟩::rest) σ w:=
 xF (gR _ rfl _) (jU h k)
theorem pg {j t:Nat} {want:Bool} (A:fg ops j=some t) (C:aZ t N.n=true) (E:σ t= .bool want)
 (h:(execOp (ev N σ) ⟨some d,op,ty,pos,af,some (j,want)⟩).run P w= .ok (.value v) w) (k:cG P N ops Q rest (bI σ d v) w):
 cG P N ops Q (⟨some d,op,ty,pos,af,some (j,want)⟩::rest) σ w:=
 xF (by rw [oB rfl A C E]; cases want <;> rfl) (jU h k)
theorem sk {j t:Nat} {want b:Bool} (A:fg ops j=some t) (C:aZ t N.n=true) (E:σ t= .bool b) (hb:(b==want)=false)
 (k:cG P N ops Q rest (bI σ d undef) w):cG P N ops Q (⟨some d,op,ty,pos,af,some (j,want)⟩::rest) σ w:=by
 unfold cG wpList;rw [if_neg (by rw [oB rfl A C E,hb]; simp),gi];exact k
theorem GB {j t:Nat} {want:Bool} (A:fg ops j=some t) (C:aZ t N.n=true) (E:σ t=undef)
 (k:cG P N ops Q rest (bI σ d undef) w):cG P N ops Q (⟨some d,op,ty,pos,af,some (j,want)⟩::rest) σ w:=by
 unfold cG wpList;rw [if_neg (by rw [Bk rfl A C E]; simp),gi];exact k
theorem e (h:cy P N ⟨d',op,ty,pos,af,none⟩ σ w (fun σ w=>cG P N ops Q rest σ w)):cG P N ops Q (⟨d',op,ty,pos,af,none⟩::rest) σ w:=
 xF (gR _ rfl _) h
theorem eg {j t:Nat} {want:Bool} (A:fg ops j=some t) (C:aZ t N.n=true) (E:σ t= .bool want)
 (h:cy P N ⟨d',op,ty,pos,af,some (j,want)⟩ σ w (fun σ w=>cG P N ops Q rest σ w)):cG P N ops Q (⟨d',op,ty,pos,af,some (j,want)⟩::rest) σ w:=by grind [xF,oB]
theorem nl (h:Q .normal σ w):cG P N ops Q [] σ w:=⟨σ,rfl,h⟩
theorem zS:¬LetsOut (lift N Q):=fun ⟨_,_,h⟩=>h
theorem rg {id:Nat} {l:List aJ} (hr:mi N.r l=true) (h:cG P N l.toArray Q l σ w):bU P N (.region id l.toArray false) Q σ w:=by
 refine wpIn_region<|zI zS hr _ _ _ ?_;have A:=wpOps_eq_wpList (P:=P) (ops:=l.toArray) (Q:=lift N Q) l 0 fun j=>by simp
 rw [List.range_eq_range',fP,A];exact h
theorem gs {l:List aJ} {t:Nat} {q:Prop} [Decidable q] (h:σ t= .bool (decide q)) (E:q→cG P N ops Q l (bI σ t<|.bool true) w) (C:¬q→cG P N ops Q l (bI σ t<|.bool false) w):cG P N ops Q l σ w:=by
 by_cases A:q
 · have :=E A; rwa [oy (by rw [h,decide_eq_true A])] at this
 · have :=C A; rwa [oy (by rw [h,decide_eq_false A])] at this
theorem gb {l:List aJ} {t:Nat} {b:Bool} (h:σ t= .bool b) (C:b=true→cG P N ops Q l (bI σ t<|.bool true) w) (A:b=false→cG P N ops Q l (bI σ t<|.bool false) w):cG P N ops Q l σ w:=by
 cases b
 · have :=A rfl; rwa [oy h] at this
 · have :=C rfl; rwa [oy h] at this
def dr (P:av) (N:Fm) (ops:Array aJ) (Q:bM→(Nat→ah)→ai→Prop) (S:ai→Prop) (fuel:Nat) (listed:Array Bool) (σ:Nat→ah) (w:ai):Prop :=
 wpAnyH P .any ops (lift N Q) S fuel listed (act N σ) w
variable {S:ai→Prop} {fuel:Nat} {listed:Array Bool}
theorem Ce {id:Nat} {l:List aJ} (hr:mi N.r l=true) (hm:P.follows .mixedOrders=true) (h:wpAny P .any l.toArray (lift N Q) l.toArray.size (sr l.toArray.size false) (act N σ) w.drew):bU P N (.region id l.toArray true) Q σ w:=by
 refine wpIn_region_draw fun t=>zI zS hr _ _ _ ?_;simp only [Region.schedule,hm,Bool.true_or,if_true];exact wpAny_sound _ t _ _ _ h
theorem bK {id:Nat} {l:List aJ} (S:ai→Prop) (hr:mi N.r l=true) (hm:P.follows .mixedOrders=true) (A:S w.drew) (h:dr P N l.toArray Q S l.length (sr l.length false) σ w.drew):bU P N (.region id l.toArray true) Q σ w:=
 Ce hr hm (wpAny_of_held _ _ _ _<|by rw [fP]; exact h)
def Ap (F:List Nat) (d:Option Nat):Bool:=match d with | some d=> !(F.contains d) | none=>true
def fU (F:List Nat) (ops:Array aJ) (listed:Array Bool) (i:Nat):Bool:=
 Region.noSelect ops && Region.free .any ops listed i && (fF .any ops listed).contains i && Ap F ((ops[i]?).bind (·.dst))
theorem po {d:Option Nat} {v:ah} (C:Ap N.F d=true) (c:List PanicEntry) (a:Act) (w:ai):lift N Q (.panic c) (a.put d v) w→lift N Q (.panic c) a w:=by
 rintro ⟨σ,ha,h⟩;cases d with
 | none=>exact ⟨σ,ha,h⟩
 | some d=>
   have M:a.tmps.size=N.n:=by
    have :=congrArg (fun x:Act=>x.tmps.size) ha;simpa [Act.put,act] using this
   have I:a.defers=N.D:=congrArg (fun x:Act=>x.defers) ha;have J:∀ i:Nat,i≠d→a.tmps[i]? =if i < N.n then some (σ i) else none:=fun i hi=>by
    have A:(a.put (some d) v).tmps[i]? =a.tmps[i]? :=by
     show (a.tmps.setIfInBounds d v)[i]? =_;rw [uq,if_neg (fun e=>hi e.symm)]
    rw [← A,ha,kD]
   refine ⟨fun i=>if i < N.n then a.tmps.getD i undef else σ i,vf I fun i=> ?_,fun σ' E=>h σ' fun i hi=> ?_⟩
   · rw [kD];by_cases A:i < N.n
     · rw [if_pos A,if_pos A,kn,pU ag]; rfl
     · rw [if_neg A,xP ag]
   · have L:i≠d:=by
      rintro rfl;simp only [Ap,mC,List.contains_eq_mem,decide_eq_false_iff_not] at C;exact C hi
     rw [E i hi];by_cases A:i < N.n
     · simp only [if_pos A];rw [kn,J i L,if_pos A]; rfl
     · simp only [if_neg A]
theorem hp (i:Nat) (hi:ops[i]? =some ⟨some d,op,ty,pos,af,none⟩) (A:fU N.F ops listed i=true)
 (E:∀ w,S w→(execOp (ev N σ) ⟨some d,op,ty,pos,af,none⟩).run P w= .ok (.value v) w) (C:S w)
 (k:dr P N ops Q S fuel (listed.setIfInBounds i true) (bI σ d v) w):dr P N ops Q S (fuel+1) listed σ w:=by
 simp only [fU,bO] at A;refine wpAnyH_take hi A.1.1.1 A.1.1.2 A.1.2 (fun c a w=>po (by have :=A.2; rwa [hi] at this) c a w) (.inl ⟨gR _ rfl _,fun w C=> ?_⟩) C ?_ (v:=v)
 · rw [ej]; exact E w C
 · rw [gi]; exact k
theorem El (i:Nat) {j t:Nat} {want:Bool} (hi:ops[i]? =some ⟨some d,op,ty,pos,af,some (j,want)⟩) (A:fU N.F ops listed i=true)
 (E:fg ops j=some t) (I:aZ t N.n=true) (J:σ t= .bool want)
 (L:∀ w,S w→(execOp (ev N σ) ⟨some d,op,ty,pos,af,some (j,want)⟩).run P w= .ok (.value v) w) (C:S w)
 (k:dr P N ops Q S fuel (listed.setIfInBounds i true) (bI σ d v) w):dr P N ops Q S (fuel+1) listed σ w:=by
 simp only [fU,bO] at A;refine wpAnyH_take hi A.1.1.1 A.1.1.2 A.1.2 (fun c a w=>po (by have :=A.2; rwa [hi] at this) c a w) (.inl ⟨by rw [oB U E I J]; cases want <;> rfl,fun w C=> ?_⟩) C ?_ (v:=v)
 · rw [ej]; exact L w C
 · rw [gi]; exact k
theorem Em (i:Nat) {j t:Nat} {want b:Bool} (hi:ops[i]? =some ⟨some d,op,ty,pos,af,some (j,want)⟩) (A:fU N.F ops listed i=true)
 (E:fg ops j=some t) (I:aZ t N.n=true) (J:σ t= .bool b) (hb:(b==want)=false) (C:S w)
 (k:dr P N ops Q S fuel (listed.setIfInBounds i true) (bI σ d undef) w):dr P N ops Q S (fuel+1) listed σ w:=by
 simp only [fU,bO] at A;refine wpAnyH_take hi A.1.1.1 A.1.1.2 A.1.2 (fun c a w=>po (by have :=A.2; rwa [hi] at this) c a w) (.inr ⟨by rw [oB U E I J,hb],U⟩) C ?_ (v:=undef);rw [gi]; exact k
theorem Ml (i:Nat) {j t:Nat} {want:Bool} (hi:ops[i]? =some ⟨some d,op,ty,pos,af,some (j,want)⟩) (A:fU N.F ops listed i=true)
 (E:fg ops j=some t) (I:aZ t N.n=true) (J:σ t=undef) (C:S w)
 (k:dr P N ops Q S fuel (listed.setIfInBounds i true) (bI σ d undef) w):dr P N ops Q S (fuel+1) listed σ w:=by
 simp only [fU,bO] at A;refine wpAnyH_take hi A.1.1.1 A.1.1.2 A.1.2 (fun c a w=>po (by have :=A.2; rwa [hi] at this) c a w) (.inr ⟨Bk U E I J,U⟩) C ?_ (v:=undef);rw [gi]; exact k
def kN (ops:Array aJ) (listed:Array Bool) (i:Nat):Bool:=(fF .any ops listed)== [i]
theorem he (i:Nat) (hi:ops[i]? =some ⟨d',op,ty,pos,af,none⟩) (hr:kN ops listed i=true)
 (h:cy P N ⟨d',op,ty,pos,af,none⟩ σ w (fun σ w=>S w∧dr P N ops Q S fuel (listed.setIfInBounds i true) σ w)):dr P N ops Q S (fuel+1) listed σ w:=by
 refine wpAnyH_all (rs:= [i]) (by simpa [kN] using hr) (by simp) ?_;intro k A;obtain rfl :k=i:=by simpa using A
 unfold wpOp;simp only [hi];rw [if_pos (gR _ rfl _)];exact .inl<|uk h fun _ _ A=>A
theorem zE (i:Nat) {j t:Nat} {want:Bool} (hi:ops[i]? =some ⟨d',op,ty,pos,af,some (j,want)⟩) (hr:kN ops listed i=true)
 (C:fg ops j=some t) (E:aZ t N.n=true) (I:σ t= .bool want)
 (h:cy P N ⟨d',op,ty,pos,af,some (j,want)⟩ σ w (fun σ w=>S w∧dr P N ops Q S fuel (listed.setIfInBounds i true) σ w)):dr P N ops Q S (fuel+1) listed σ w:=by
 refine wpAnyH_all (rs:= [i]) (by simpa [kN] using hr) (by simp) ?_;intro k A;obtain rfl :k=i:=by simpa using A
 unfold wpOp;simp only [hi];rw [if_pos (by rw [oB rfl C E I]; cases want <;> rfl)];exact .inl<|uk h fun _ _ A=>A
theorem hn (hr:(fF .any ops listed).isEmpty=true) (h:Q .normal σ w):dr P N ops Q S fuel listed σ w:=
 wpAnyH_done (by simpa using hr) ⟨σ,rfl,h⟩ fuel
theorem kJ {t:Nat} {q:Prop} [Decidable q] (h:σ t= .bool (decide q)) (E:q→dr P N ops Q S fuel listed (bI σ t<|.bool true) w) (C:¬q→dr P N ops Q S fuel listed (bI σ t<|.bool false) w):dr P N ops Q S fuel listed σ w:=by
 by_cases A:q
 · have :=E A; rwa [oy (by rw [h,decide_eq_true A])] at this
 · have :=C A; rwa [oy (by rw [h,decide_eq_false A])] at this
end
def aY (P:av) (f:eX) (args:Array ah) (w:ai) (R:ah→ai→Prop):Prop :=
 Calls P f args w fun e w'=> ∃ v,e= .returned v∧R v w'
theorem aY.mono {P:av} {f:eX} {args:Array ah} {w:ai} {R A:ah→ai→Prop} (h:aY P f args w R) (hr:∀ v w',R v w'→A v w'):aY P f args w A:=
 jv h fun _ _ ⟨v,he,C⟩=>⟨v,he,hr _ _ C⟩
def eE (args:List ah):Nat→ah:=fun i=>args.getD i undef
def fin (P:av) (fn:Func) (N:Fm) (R:ah→ai→Prop):bM→(Nat→ah)→ai→Prop
 | .normal,σ,w=> ∃ v,(results fn (act N σ).tmps).run P w= .ok v w∧R v w
 | .ret,σ,w=> ∃ v,(results fn (act N σ).tmps).run P w= .ok v w∧R v w
 | _,_,_=>False
theorem enter {P:av} {f:eX} {N:Nat} {fn:Func} {c:cj} {args:List ah} {w:ai} {R:ah→ai→Prop} (M:P.funcs[f]? =some fn) (hb:fn.body=some c)
 (L:fn.ntmps=N) (hn:bL args.length N=true) (h:bU P ⟨N,[],[],none⟩ c (fin P fn ⟨N,[],[],none⟩ R) (eE args) w):aY P f args.toArray w R:=by
 subst L;refine calls_of_wp M hb ?_;have ha:({tmps:=args.toArray++sr (fn.ntmps - args.toArray.size) undef,defers:= []} :Act)=act ⟨fn.ntmps,[],[],none⟩ (eE args):=by
  have O:args.length≤fn.ntmps:=by simpa using hn
  refine vf U fun i=> ?_;rw [kD];simp only [eE,cW,fP];by_cases E:i < args.length
  · rw [Array.getElem?_append_left (by simpa using E),if_pos ag];simp [E]
  · rw [Array.getElem?_append_right (by simpa using E)];simp only [fP,Array.getElem?_replicate];by_cases J:i < fn.ntmps
    · rw [if_pos ag,if_pos J,qk ag]; rfl
    · rw [if_neg ag,if_neg J]
 rw [ha];refine Code.wp_mono ?_<|wpIn_wide.1 h;intro e a w A;cases e with
 | normal=>obtain ⟨σ,rfl,v,hr,I⟩:=A; exact ⟨rfl,v,hr,v,rfl,I⟩
 | ret=>obtain ⟨σ,rfl,v,hr,I⟩:=A; exact ⟨rfl,v,hr,v,rfl,I⟩
 | exit id=>obtain ⟨σ,rfl,C⟩:=A; exact C.elim
 | goto l=>obtain ⟨σ,rfl,C⟩:=A; exact C.elim
 | panic c=>obtain ⟨σ,rfl,C⟩:=A; exact (C σ fun _ _=>rfl).elim
 | outgrown=>exact A.elim
section
variable {P:av} {N:Fm} {σ:Nat→ah} {w:ai} {fn:Func} {R:ah→ai→Prop}
theorem kU (t:Nat):(act N σ).tmps.getD t undef=ev N σ (.tmp t):=by
 rw [← ej]; rfl
theorem f0 (h:fn.results= #[]) (A:R (.tuple #[]) w):fin P fn N R .normal σ w:=⟨_,results_none h _ _ _,A⟩
theorem f1 {t:Nat} {v:ah} (h:fn.results= #[.tmp t]) (C:ev N σ (.tmp t)=v) (A:R v w):fin P fn N R .ret σ w:=
 ⟨v,by rw [results_tmp h,kU,C],A⟩
theorem f2 {t u:Nat} {v A:ah} (h:fn.results= #[.tmp t,.tmp u]) (E:ev N σ (.tmp t)=v) (hu:ev N σ (.tmp u)=A) (C:R (.tuple #[v,A]) w):fin P fn N R .ret σ w:=
 ⟨_,by rw [results_tmp2 h,kU,kU,E,hu],C⟩
theorem f3 {t u s:Nat} {v A C:ah} (h:fn.results= #[.tmp t,.tmp u,.tmp s]) (J:ev N σ (.tmp t)=v) (hu:ev N σ (.tmp u)=A) (I:ev N σ (.tmp s)=C) (E:R (.tuple #[v,A,C]) w):fin P fn N R .ret σ w:=by
 refine ⟨_,?_,E⟩;simp only [results,h];subst J hu I;simp only [← kU];simp [yc]
theorem f4 {t u s r:Nat} {v A C v3:ah} (h:fn.results= #[.tmp t,.tmp u,.tmp s,.tmp r]) (J:ev N σ (.tmp t)=v) (hu:ev N σ (.tmp u)=A) (I:ev N σ (.tmp s)=C) (hr:ev N σ (.tmp r)=v3) (E:R (.tuple #[v,A,C,v3]) w):fin P fn N R .ret σ w:=by
 refine ⟨_,?_,E⟩;simp only [results,h];subst J hu I hr;simp only [← kU];simp [yc]
end
attribute [irreducible] cG bU dr cy
end Go.Hb
namespace Go.Hb
def aO (h:Array Obj) (b off :Nat):Option ah:=
 match h[b]? with
 | some (.cells c _ _)=>c[off]?
 | _=>none
theorem j4 (w:ai) (b off :Nat):w.cell? ⟨b,off,none⟩=aO w.heap b off :=by
 unfold World.cell? aO;simp only;split <;> simp_all
theorem eC {h:Array Obj} {b off :Nat} {c:Array ah} {t:au} {f:Nat×Nat} (hb:h[b]? =some (.cells c t f)):aO h b off =c[off]? :=by
 simp only [aO,hb]
theorem Kb {h:Array Obj} {b off :Nat} {v:ah} (A:aO h b off =some v):b < h.size:=by grind [aO]
structure Md (F:Nat→Prop) (w w':ai):Prop where
 os:w'.os=w.os
 output:w'.output=w.output
 size:w.heap.size≤w'.heap.size
 dA:∀ k,k < w.heap.size→¬F k→w'.heap[k]? =w.heap[k]?
abbrev Wk (w w':ai):Prop :=Md (fun _=>False) w w'
theorem Md.refl (F:Nat→Prop) (w:ai):Md F w w:=⟨rfl,rfl,bf _,fun _ _ _=>rfl⟩
theorem Md.drew {F:Nat→Prop} {w w':ai} (h:Md F w w'):Md F w w'.drew:=⟨h.os,h.output,h.size,h.dA⟩
theorem Md.mono {F G:Nat→Prop} {w w':ai} (h:Md F w w') (E:∀ k,k < w.heap.size→F k→G k):Md G w w':=
 ⟨h.os,h.output,h.size,fun k A I=>h.dA k A fun C=>I<|E k A C⟩
theorem Md.trans {F:Nat→Prop} {a b c:ai} (h:Md F a b) (A:Md F b c):Md F a c:=
 ⟨A.os.trans h.os,A.output.trans h.output,cQ h.size A.size,fun k E C=>(A.dA k (oI E h.size) C).trans<|h.dA k E C⟩
theorem Md.trans' {F G:Nat→Prop} {a b c:ai} (h:Md F a b) (A:Md G b c) (I:∀ k,k < a.heap.size→G k→F k):Md F a c:=
 ⟨A.os.trans h.os,A.output.trans h.output,cQ h.size A.size,
  fun k C E=>(A.dA k (oI C h.size) fun x=>E<|I k C x).trans (h.dA k C E)⟩
theorem Md.ax {F:Nat→Prop} {w w':ai} (h:Md F w w') {k:Nat} {o:Obj} (A:w.heap[k]? =some o) (C:¬F k):w'.heap[k]? =some o:=
 (h.dA k (cr.1 A).1 C).trans A
theorem Md.aO {F:Nat→Prop} {w w':ai} (h:Md F w w') {b off :Nat} {v:ah} (A:Hb.aO w.heap b off =some v) (C:¬F b):Hb.aO w'.heap b off =some v:=by
 have :=h.dA b (Kb A) C;unfold Hb.aO at*;rw [this]; exact A
theorem Wk.aO {w w':ai} (h:Wk w w') {b off :Nat} {v:ah} (A:Hb.aO w.heap b off =some v):Hb.aO w'.heap b off =some v:=Md.aO h A id
theorem Wk.ax {w w':ai} (h:Wk w w') {k:Nat} {o:Obj} (A:w.heap[k]? =some o):w'.heap[k]? =some o:=Md.ax h A id
structure Nw (w w':ai):Prop where
 md:Wk w w'
 size:w'.heap.size=w.heap.size+1
 one:∃ o,w'= {w with heap:=w.heap.push o}
theorem An (w:ai) (o:Obj):Nw w {w with heap:=w.heap.push o} :=
 ⟨⟨rfl,rfl,by simp,fun k A _=>by show (w.heap.push o)[k]? =_; rw [Array.getElem?_push,if_neg ag]⟩,by simp,o,rfl⟩
def dD (P:av) (t:au):Option (Option Nat):=
 match P.underlying t with
 | some (.struct _) | some (.array _ _)=>((P.info? t).map (·.size)).map some
 | some _=>some none
 | none=>none
def qU (P:av) (s f:Nat):Option Nat:=
 match P.underlying s with
 | some (.struct A)=>match A[f]? with
   | some fd=>match P.info? fd.type with
     | some i=>if i.size=0 then none else some fd.offset
     | none=>none
   | none=>none
 | _=>none
def dH (P:av) (t:au):Option Nat:=
 match P.underlying t with
 | some (.slice e)=>(P.info? e).map (·.size)
 | _=>none
section
variable {P:av} {N:Fm} {σ:Nat→ah} {w:ai} {dst:Option Nat} {ty:au} {pos :String} {af:Array cH} {g:Option (Nat×Bool)} {x y z:bA}
theorem bS {t:au} {d:TypeDesc} (h:P.underlying t=some d) (w:ai):(underlying t).run P w= .ok d w:=by
 simp [underlying,h]
theorem eh {t:au} {i:TypeInfo} (h:P.info? t=some i) (w:ai):(typeInfo t).run P w= .ok i w:=by
 simp [typeInfo,h]
theorem mv:(execOp (ev N σ) ⟨dst,.move x,ty,pos,af,g⟩).run P w= .ok (.value<|ev N σ x) w:=rfl
theorem aT:(execOp (ev N σ) ⟨dst,.assign x,ty,pos,af,g⟩).run P w= .ok (.value<|ev N σ x) w:=rfl
theorem pC (v:ah) (h:ev N σ x=v):(execOp (ev N σ) ⟨dst,.move x,ty,pos,af,g⟩).run P w= .ok (.value v) w:=by rw [← h]; rfl
theorem sT (v:ah) (h:ev N σ x=v):(execOp (ev N σ) ⟨dst,.assign x,ty,pos,af,g⟩).run P w= .ok (.value v) w:=by rw [← h]; rfl
theorem rG {c:bA} (A:ev N σ c= .bool true):(execOp (ev N σ) ⟨dst,.pick c x y,ty,pos,af,g⟩).run P w= .ok (.value<|ev N σ x) w:=by
 simp [execOp,A,asBool]
theorem rF {c:bA} (A:ev N σ c= .bool false):(execOp (ev N σ) ⟨dst,.pick c x y,ty,pos,af,g⟩).run P w= .ok (.value<|ev N σ y) w:=by
 simp [execOp,A,asBool]
theorem nc {a:ba} (A:ev N σ x= .pointer (some a)):(execOp (ev N σ) ⟨dst,.nilCheck x,ty,pos,af,g⟩).run P w= .ok (.value<|.pointer<|some a) w:=by
 simp [execOp,A]
theorem xt {i:Nat} {vs:Array ah} {v:ah} (C:ev N σ x= .tuple vs) (A:vs[i]? =some v):(execOp (ev N σ) ⟨dst,.extract x i,ty,pos,af,g⟩).run P w= .ok (.value v) w:=by
 simp [execOp,C,Instr.extract,A]
theorem fa {s f n b off :Nat} (A:qU P s f=some n) (I:ev N σ x= .pointer (some ⟨b,off,none⟩)):
 (execOp (ev N σ) ⟨dst,.fieldAddr s x f,ty,pos,af,g⟩).run P w= .ok (.value<|.pointer<|some ⟨b,off+n,none⟩) w:=by
 unfold qU at A;split at A
 · rename_i L hu;split at A
   · rename_i fd E;split at A
     · rename_i i hi;split at A
       · cases A
       · rename_i J;cases A;have C:(⟨b,off,none⟩:ba).add fd.offset=⟨b,off+fd.offset,none⟩:=by unfold xU; split <;> simp_all
         simp [execOp,Instr.fieldAt,bS hu,E,I,qc,fieldPlace,sizeOf,eh hi,J,C]
     · cases A
   · cases A
 · cases A
theorem ld {t b off :Nat} {v:ah} (hu:dD P t=some none) (E:ev N σ x= .pointer (some ⟨b,off,none⟩)) (A:aO w.heap b off =some v):
 (execOp (ev N σ) ⟨dst,.load t x,ty,pos,af,g⟩).run P w= .ok (.value v) w:=by
 have C:w.cell? ⟨b,off,none⟩=some v:=by rw [j4]; exact A
 unfold dD at hu;cases hd:P.underlying t with
 | none=>rw [hd] at hu; cases hu
 | some d=>
   rw [hd] at hu;cases d <;> first
    | (simp only [iW] at hu; obtain ⟨_,_,h⟩:=hu; cases h; done)
    | simp [execOp,Ik,E,qc,loadVar,isAgg,bS hd,run_load,C]
theorem gw (b off j:Nat):(⟨b,off,none⟩:ba).add j=⟨b,off+j,none⟩:=by
 unfold xU; split <;> simp_all
theorem fi {t n b off :Nat} {cs:List ah} (hu:dD P t=some (some n)) (J:ev N σ x= .pointer (some ⟨b,off,none⟩)) (I:cs.length=n)
 (C:∀ j,j < n→aO w.heap b (off+j)=cs[j]?):
 (execOp (ev N σ) ⟨dst,.load t x,ty,pos,af,g⟩).run P w= .ok (.value<|.agg cs.toArray) w:=by
 have E:(loadCells ⟨b,off,none⟩ n).run P w= .ok cs.toArray w:=by
  subst I;refine run_loadCells_list (P:=P) w ⟨b,off,none⟩ cs fun j v A=> ?_;rw [gw,j4];exact (C j (List.getElem?_eq_some_iff.1 A).1).trans A
 unfold dD at hu;cases hd:P.underlying t with
 | none=>rw [hd] at hu; cases hu
 | some d=>
   rw [hd] at hu;cases hi:P.info? t with
   | none=>simp [Program.underlying,hi] at hd
   | some i=>
     rw [hi] at hu;cases d <;> first
      | (cases hu; done)
      | (simp only [e7,bR] at hu; subst hu
         simp [execOp,Ik,J,qc,loadVar,isAgg,bS hd,sizeOf,eh hi,E])
theorem ia {t n b off len cap:Nat} {k:bY} {i:Int} (he:dH P t=some n) (A:ev N σ x= .slice (some ⟨b,off,none⟩) len cap) (C:ev N σ y= .int k i) (h0:0≤i∧i < len):
 (execOp (ev N σ) ⟨dst,.indexAddr t x y,ty,pos,af,g⟩).run P w= .ok (.value<|.pointer<|some ⟨b,off+i.toNat*n,none⟩) w:=by
 unfold dH at he;cases hd:P.underlying t with
 | none=>rw [hd] at he; cases he
 | some d=>
   rw [hd] at he;cases d <;> first | (cases he; done) | skip
   rename_i e;cases hi:P.info? e with
   | none=>simp [hi] at he
   | some j=>
     simp only [hi,e7,bR] at he;subst he;simp [execOp,Ij,A,C,asIntOf,bS hd,h0.1,h0.2,sizeOf,eh hi,gw]
def dV (a:Option ba) (cap l n:Nat):Option ba:=if cap=l then a else a.map (·.add (l*n))
theorem AY {t n len cap:Nat} {a:Option ba} {lo hi:Option ah} {l h:Nat} (he:dH P t=some n) (E:ev N σ x= .slice a len cap)
 (hb:(mG true len cap lo hi none).run P w= .ok (l,h,cap) w) (A C:Option bA) (I:A.map (ev N σ)=lo) (J:C.map (ev N σ)=hi):
 (execOp (ev N σ) ⟨dst,.slice t x A C none,ty,pos,af,g⟩).run P w= .ok (.value<|.slice (dV a cap l n) (h - l)<|cap - l) w:=by
 unfold dH at he;cases hd:P.underlying t with
 | none=>rw [hd] at he; cases he
 | some d=>
   rw [hd] at he;cases d <;> first | (cases he; done) | skip
   rename_i e;cases hi':P.info? e with
   | none=>simp [hi'] at he
   | some j=>
     simp only [hi',e7,bR] at he;subst he;simp [execOp,p7,ux,E,I,J,bS hd,hb,sizeOf,eh hi',dV]
theorem rX {t n len cap:Nat} {a:Option ba} {k:bY} {i:Int} (he:dH P t=some n) (C:ev N σ x= .slice a len cap) (E:ev N σ z= .int k i) (h0:0≤i∧i≤cap):
 (execOp (ev N σ) ⟨dst,.slice t x none (some z) none,ty,pos,af,g⟩).run P w= .ok (.value<|.slice a i.toNat cap) w:=by
 have :=AY (dst:=dst) (ty:=ty) (pos :=pos) (af:=af) (g:=g) (w:=w) (lo:=none) (hi:=some<|.int k i) (l:=0) (h:=i.toNat) he C
  (by simp [mG,qa,asIntOf,h0.1,h0.2]) none (some z) rfl (by simp [E])
 rw [this];have A:dV a cap 0 n=a:=by
  unfold dV; split
  · rfl
  · cases a <;> simp [xU]
 rw [A]; rfl
theorem tX {t n len cap:Nat} {a:Option ba} {k:bY} {i:Int} (he:dH P t=some n) (A:ev N σ x= .slice a len cap) (C:ev N σ y= .int k i) (h0:0≤i∧i≤len):
 (execOp (ev N σ) ⟨dst,.slice t x (some y) none none,ty,pos,af,g⟩).run P w= .ok (.value<|.slice (dV a cap i.toNat n) (len - i.toNat)<|cap - i.toNat) w:=
 AY (lo:=some<|.int k i) (hi:=none) he A
  (by simp [mG,qa,asIntOf,h0.1,h0.2]) (some y) none (by simp [C]) rfl
theorem xl {t n len cap:Nat} {a:Option ba} {k A:bY} {i j:Int} (he:dH P t=some n) (I:ev N σ x= .slice a len cap) (J:ev N σ y= .int k i) (L:ev N σ z= .int A j) (h0:0≤i∧i≤j∧j≤cap):
 (execOp (ev N σ) ⟨dst,.slice t x (some y) (some z) none,ty,pos,af,g⟩).run P w= .ok (.value<|.slice (dV a cap i.toNat n) (j.toNat - i.toNat)<|cap - i.toNat) w:=by
 have C:0≤j:=ag;have E:i≤(j.toNat:Int):=ag;refine AY (lo:=some<|.int k i) (hi:=some<|.int A j) he I ?_ (some y) (some z) (by simp [J])<|by simp [L]
 simp only [mG,qa,asIntOf,ie,jY,gS,uC,h0.1,C,h0.2.2,E,and_self,if_true]
theorem km {n:Int} (h: -9223372036854775808≤n∧n≤9223372036854775807):xZ.wrap n=n:=IntWalk.i64_in n h
theorem Bl {n:Int} (h: -2147483648≤n∧n≤2147483647):IntKind.i32.wrap n=n:=IntWalk.i32_in n h
theorem Bp {n:Int} (h:0≤n∧n≤255):IntKind.u8.wrap n=n:=IntWalk.u8_in n h
theorem HK {n:Int} (h:0≤n∧n≤4294967295):IntKind.u32.wrap n=n:=IntWalk.u32_in n h
theorem jt {n:Int} (h:0≤n∧n≤18446744073709551615):IntKind.u64.wrap n=n:=IntWalk.u64_in n h
theorem iv {k:bY} {a b:Int} (h:a=b):bh k a=bh k b:=by rw [h]
theorem ad {t E:au} {k:bY} {a b:Int} (A:ev N σ x= .int k a) (C:ev N σ y= .int k b) (hr:k.wrap (a+b)=a+b):
 (execOp (ev N σ) ⟨dst,.binOp .add t x y E,ty,pos,af,g⟩).run P w= .ok (.value<|.int k<|a+b) w:=by
 simp [execOp,A,C,eqGuard,binOp,uz,hr]
theorem yD {t E:au} {k:bY} {a b:Int} (v:Int) (A:ev N σ x= .int k a) (C:ev N σ y= .int k b) (hr:k.wrap (a+b)=v):
 (execOp (ev N σ) ⟨dst,.binOp .add t x y E,ty,pos,af,g⟩).run P w= .ok (.value<|.int k v) w:=by
 subst hr; simp [execOp,A,C,eqGuard,binOp,uz]
theorem AL {t E:au} {k:bY} {a b:Int} (v:Int) (A:ev N σ x= .int k a) (C:ev N σ y= .int k b) (hr:k.wrap (a - b)=v):
 (execOp (ev N σ) ⟨dst,.binOp .sub t x y E,ty,pos,af,g⟩).run P w= .ok (.value<|.int k v) w:=by
 subst hr; simp [execOp,A,C,eqGuard,binOp,uz]
theorem Ah {t E:au} {k:bY} {a b:Int} (v:Int) (A:ev N σ x= .int k a) (C:ev N σ y= .int k b) (hr:k.wrap (a*b)=v):
 (execOp (ev N σ) ⟨dst,.binOp .mul t x y E,ty,pos,af,g⟩).run P w= .ok (.value<|.int k v) w:=by
 subst hr; simp [execOp,A,C,eqGuard,binOp,uz]
theorem uj {a:Int} {n:Nat} (h:a=n) (hn:n≤9223372036854775807):xZ.wrap a=(n:Int):=by rw [h]; exact km ag
theorem bv {p q:Prop} [Decidable p] [Decidable q] (h:p↔q):bB (decide p)=bB (decide q):=by rw [decide_eq_decide.2 h]
theorem bT {p:Prop} [Decidable p] (h:p):bB true =bB (decide p):=by rw [decide_eq_true h]
theorem bF {p:Prop} [Decidable p] (h:¬p):bB false =bB (decide p):=by rw [decide_eq_false h]
theorem sb {t E:au} {k:bY} {a b:Int} (A:ev N σ x= .int k a) (C:ev N σ y= .int k b) (hr:k.wrap (a - b)=a - b):
 (execOp (ev N σ) ⟨dst,.binOp .sub t x y E,ty,pos,af,g⟩).run P w= .ok (.value<|.int k<|a - b) w:=by
 simp [execOp,A,C,eqGuard,binOp,uz,hr]
theorem qu {t E:au} {k:bY} {a b:Int} (A:ev N σ x= .int k a) (C:ev N σ y= .int k b) (h0:0≤a∧0 < b) (hr:k.wrap (a / b)=a / b):
 (execOp (ev N σ) ⟨dst,.binOp .quo t x y E,ty,pos,af,g⟩).run P w= .ok (.value<|.int k<|a / b) w:=by
 have :a.tdiv b=a / b:=Iy h0.1;simp [execOp,A,C,eqGuard,binOp,BA,show b≠0 from by omega,this,hr]
theorem Au {t E:au} {k:bY} {a b:Int} (v:Int) (A:ev N σ x= .int k a) (C:ev N σ y= .int k b) (h0:0≤a∧0 < b) (hr:k.wrap (a / b)=v):
 (execOp (ev N σ) ⟨dst,.binOp .quo t x y E,ty,pos,af,g⟩).run P w= .ok (.value<|.int k v) w:=by
 have :a.tdiv b=a / b:=Iy h0.1;subst hr; simp [execOp,A,C,eqGuard,binOp,BA,show b≠0 from by omega,this]
theorem rm {t E:au} {k:bY} {a b:Int} (A:ev N σ x= .int k a) (C:ev N σ y= .int k b) (h0:0≤a∧0 < b):
 (execOp (ev N σ) ⟨dst,.binOp .rem t x y E,ty,pos,af,g⟩).run P w= .ok (.value<|.int k<|a % b) w:=by
 have :a.tmod b=a % b:=Int.tmod_eq_emod_of_nonneg h0.1;simp [execOp,A,C,eqGuard,binOp,BA,show b≠0 from by omega,this]
theorem lt {t E:au} {k:bY} {a b:Int} (A:ev N σ x= .int k a) (C:ev N σ y= .int k b):
 (execOp (ev N σ) ⟨dst,.binOp .lss t x y E,ty,pos,af,g⟩).run P w= .ok (.value<|.bool<|decide (a < b)) w:=by
 simp [execOp,A,C,eqGuard,binOp,sD]
theorem le {t E:au} {k:bY} {a b:Int} (A:ev N σ x= .int k a) (C:ev N σ y= .int k b):
 (execOp (ev N σ) ⟨dst,.binOp .leq t x y E,ty,pos,af,g⟩).run P w= .ok (.value<|.bool<|decide (a≤b)) w:=by
 simp [execOp,A,C,eqGuard,binOp,sD]
theorem gt {t E:au} {k:bY} {a b:Int} (A:ev N σ x= .int k a) (C:ev N σ y= .int k b):
 (execOp (ev N σ) ⟨dst,.binOp .gtr t x y E,ty,pos,af,g⟩).run P w= .ok (.value<|.bool<|decide (b < a)) w:=by
 simp [execOp,A,C,eqGuard,binOp,sD]
theorem ge {t E:au} {k:bY} {a b:Int} (A:ev N σ x= .int k a) (C:ev N σ y= .int k b):
 (execOp (ev N σ) ⟨dst,.binOp .geq t x y E,ty,pos,af,g⟩).run P w= .ok (.value<|.bool<|decide (b≤a)) w:=by
 simp [execOp,A,C,eqGuard,binOp,sD]
theorem DG {t E:au} {k:bY} {a b:Int} (A:ev N σ x= .int k a) (C:ev N σ y= .int k b):
 (execOp (ev N σ) ⟨dst,.binOp .eql t x y E,ty,pos,af,g⟩).run P w= .ok (.value<|.bool<|decide (a=b)) w:=by
 simp [execOp,A,C,eqGuard,binOp,sD];rw [pW]; simp
theorem E9 {t E:au} {k:bY} {a b:Int} (A:ev N σ x= .int k a) (C:ev N σ y= .int k b):
 (execOp (ev N σ) ⟨dst,.binOp .neq t x y E,ty,pos,af,g⟩).run P w= .ok (.value<|.bool<|decide (a≠b)) w:=by
 simp [execOp,A,C,eqGuard,binOp,sD];rw [pW]; simp
theorem no {t:au} {b:Bool} (A:ev N σ x= .bool b):(execOp (ev N σ) ⟨dst,.unOp .not t x,ty,pos,af,g⟩).run P w= .ok (.value<|.bool<|!b) w:=by
 simp [execOp,A,Op.unary]
theorem Cu {t I:au} {k:bY} {a b v:Int} (C:ev N σ x= .int k a) (E:ev N σ y= .int k b) (A:k.wrap (jV k.bits a ||| jV k.bits b).toNat=v):
 (execOp (ev N σ) ⟨dst,.binOp .or t x y I,ty,pos,af,g⟩).run P w= .ok (.value<|.int k v) w:=by
 subst A; simp [execOp,C,E,eqGuard,binOp,Op.intBits]
theorem dP {t I:au} {k:bY} {a b v:Int} (C:ev N σ x= .int k a) (E:ev N σ y= .int k b) (A:k.wrap (jV k.bits a &&& jV k.bits b).toNat=v):
 (execOp (ev N σ) ⟨dst,.binOp .and t x y I,ty,pos,af,g⟩).run P w= .ok (.value<|.int k v) w:=by
 subst A; simp [execOp,C,E,eqGuard,binOp,Op.intBits]
theorem shr {t I:au} {k J:bY} {a b v:Int} (C:ev N σ x= .int k a) (E:ev N σ y= .int J b) (h0:0≤b) (A:a.fdiv (2 ^ min b.toNat k.bits)=v):
 (execOp (ev N σ) ⟨dst,.binOp .shr t x y I,ty,pos,af,g⟩).run P w= .ok (.value<|.int k v) w:=by
 have :¬b < 0:=ag;simp [execOp,C,E,eqGuard,binOp,Op.shift,this,A]
theorem shl {t I:au} {k J:bY} {a b v:Int} (C:ev N σ x= .int k a) (E:ev N σ y= .int J b) (h0:0≤b) (A:k.wrap (a*2 ^ min b.toNat k.bits)=v):
 (execOp (ev N σ) ⟨dst,.binOp .shl t x y I,ty,pos,af,g⟩).run P w= .ok (.value<|.int k v) w:=by
 have :¬b < 0:=ag;simp [execOp,C,E,eqGuard,binOp,Op.shift,this,A]
theorem Qe (m:Nat) (h:m < 256):((ga m).toNat:Int)=(m:Int):=by
 simp [Nat.mod_eq_of_lt h]
theorem cv {t u:au} {k A:bY} {n:Int} (hu:P.underlying u=some (.int A)) (E:(P.underlying t).isSome=true) (I:ev N σ x= .int k n):
 (execOp (ev N σ) ⟨dst,.convert t u x,ty,pos,af,g⟩).run P w= .ok (.value<|.int A<|A.wrap n) w:=by
 obtain ⟨d,C⟩:=oL.1 E;cases d <;> simp [execOp,I,convert,bS hu,bS C,Conv.intToInt]
theorem KM {t u:au} {k A:bY} {n v:Int} (hu:P.underlying u=some (.int A)) (C:(P.underlying t).isSome=true) (E:ev N σ x= .int k n) (hr:A.wrap n=v):
 (execOp (ev N σ) ⟨dst,.convert t u x,ty,pos,af,g⟩).run P w= .ok (.value<|.int A v) w:=by
 rw [cv hu C E,hr]
theorem jG {t u:au} {k A:bY} {n:Int} (hu:P.underlying u=some (.int A)) (C:(P.underlying t).isSome=true) (E:ev N σ x= .int k n) (hr:A.wrap n=n):
 (execOp (ev N σ) ⟨dst,.convert t u x,ty,pos,af,g⟩).run P w= .ok (.value<|.int A n) w:=by
 rw [cv hu C E,hr]
theorem ze (d:Nat) {t e:au} {a:Option ba} (hu:P.underlying t=some (.pointer e)):(jW (d+1) t (.pointer a)<|.pointer none).run P w= .ok a.isNone w:=by
 cases a <;> simp [jW,bS hu]
theorem DH {t e:au} {a:Option ba} (hu:P.underlying t=some (.pointer e)):(oD t (.pointer a)<|.pointer none).run P w= .ok a.isNone w:=ze 9999 hu
theorem gW {t E e:au} {a:Option ba} (hu:P.underlying t=some (.pointer e)) (A:ev N σ x= .pointer a) (C:ev N σ y= .pointer none):
 (execOp (ev N σ) ⟨dst,.binOp .eql t x y E,ty,pos,af,g⟩).run P w= .ok (.value<|.bool a.isNone) w:=by
 have h:(binOp .eql t (.pointer a)<|.pointer none).run P w= .ok (.bool a.isNone) w:=by
  simp only [binOp]; simp [DH hu]
 simp [execOp,A,C,eqGuard,h]
theorem pD {t E e:au} {a:Option ba} (hu:P.underlying t=some (.pointer e)) (A:ev N σ x= .pointer a) (C:ev N σ y= .pointer none):
 (execOp (ev N σ) ⟨dst,.binOp .neq t x y E,ty,pos,af,g⟩).run P w= .ok (.value<|.bool a.isSome) w:=by
 have h:(binOp .neq t (.pointer a)<|.pointer none).run P w= .ok (.bool a.isSome) w:=by
  simp only [binOp]; simp [DH hu]
 simp [execOp,A,C,eqGuard,h]
theorem DE (d:Nat) {t:au} {a b:Bool} (hu:P.underlying t=some .bool):(jW (d+1) t (.bool a)<|.bool b).run P w= .ok (a==b) w:=by
 simp [jW,bS hu]
theorem DF {t:au} {a b:Bool} (hu:P.underlying t=some .bool):(oD t (.bool a)<|.bool b).run P w= .ok (a==b) w:=DE 9999 hu
theorem LB {t E:au} {a b:Bool} (hu:P.underlying t=some .bool) (A:ev N σ x= .bool a) (C:ev N σ y= .bool b):
 (execOp (ev N σ) ⟨dst,.binOp .eql t x y E,ty,pos,af,g⟩).run P w= .ok (.value<|.bool<|decide (a=b)) w:=by
 have h:(binOp .eql t (.bool a)<|.bool b).run P w= .ok (.bool<|decide (a=b)) w:=by
  simp only [binOp]; simp [DF hu]; cases a <;> cases b <;> rfl
 simp [execOp,A,C,eqGuard,h]
theorem Ai {t E:au} {a b:Bool} (hu:P.underlying t=some .bool) (A:ev N σ x= .bool a) (C:ev N σ y= .bool b):
 (execOp (ev N σ) ⟨dst,.binOp .neq t x y E,ty,pos,af,g⟩).run P w= .ok (.value<|.bool<|decide (a≠b)) w:=by
 have h:(binOp .neq t (.bool a)<|.bool b).run P w= .ok (.bool<|decide (a≠b)) w:=by
  simp only [binOp]; simp [DF hu]; cases a <;> cases b <;> rfl
 simp [execOp,A,C,eqGuard,h]
def str (l:List UInt8):ah:= .string ⟨⟨l⟩⟩
theorem EO {t:au} {l:List UInt8} {at_:Array au} (A:P.underlying t=some .string) (ha:at_= #[t]) (C:ev N σ x=str l):
 (execOp (ev N σ) ⟨dst,.call ⟨.builtin .len,#[x],at_⟩,ty,pos,af,g⟩).run P w= .ok (.value<|.int .i64 l.length) w:=by
 subst ha;simp [execOp,resolve,invoke,builtin,Bx,bS A,C,str,goInt];rfl
theorem zU {t e:au} {a:Option ba} {n c:Nat} {at_:Array au} (A:P.underlying t=some (.slice e)) (ha:at_= #[t]) (C:ev N σ x= .slice a n c):
 (execOp (ev N σ) ⟨dst,.call ⟨.builtin .len,#[x],at_⟩,ty,pos,af,g⟩).run P w= .ok (.value<|.int .i64 n) w:=by
 subst ha;simp [execOp,resolve,invoke,builtin,Bx,bS A,C,goInt]
theorem EN {t k e r:au} {es:Array MapEntry} {c:Nat} {at_:Array au} (A:P.underlying t=some (.map k e)) (ha:at_= #[t]) (C:ev N σ x= .map (some r)) (hr:w.heap[r]? =some (.map es c)):
 (execOp (ev N σ) ⟨dst,.call ⟨.builtin .len,#[x],at_⟩,ty,pos,af,g⟩).run P w= .ok (.value<|.int .i64 es.size) w:=by
 subst ha;simp [execOp,resolve,invoke,builtin,Bx,bS A,C,goInt,getObj,Sem.run,hr]
theorem mn {k:bY} {a b:Int} {at_:Array au} (A:ev N σ x= .int k a) (C:ev N σ y= .int k b):
 (execOp (ev N σ) ⟨dst,.call ⟨.builtin .min,#[x,y],at_⟩,ty,pos,af,g⟩).run P w= .ok (.value<|.int k<|min a b) w:=by
 have :(if b < a then b else a)=min a b:=ag;simp [execOp,resolve,invoke,builtin,Builtin.min_,Builtin.min2,A,C,this]
theorem mx {k:bY} {a b:Int} {at_:Array au} (A:ev N σ x= .int k a) (C:ev N σ y= .int k b):
 (execOp (ev N σ) ⟨dst,.call ⟨.builtin .max,#[x,y],at_⟩,ty,pos,af,g⟩).run P w= .ok (.value<|.int k<|max a b) w:=by
 have :(if b > a then b else a)=max a b:=ag;simp [execOp,resolve,invoke,builtin,Builtin.max_,Builtin.max2,A,C,this]
theorem MC {t:au} {l:List UInt8} {k:bY} {i:Int} (I:P.underlying t=some .string) (J:ev N σ x=str l) (L:ev N σ y= .int k i) (h0:0≤i∧i < l.length):
 (execOp (ev N σ) ⟨dst,.index t x y,ty,pos,af,g⟩).run P w= .ok (.value<|.int .u8 ((l.getD i.toNat 0).toNat:Int)) w:=by
 have E:(⟨⟨l⟩⟩:ByteArray)[i.toNat]? =some (l.getD i.toNat 0):=by
  have A:i.toNat < l.length:=ag;have C:i.toNat < (⟨⟨l⟩⟩:ByteArray).size:=A;rw [getElem?_pos (⟨⟨l⟩⟩:ByteArray) i.toNat C];simp [cW,A,ByteArray.getElem_eq_getElem_data]
 simp [execOp,Instr.index,J,L,asIntOf,str,bS I,h0.1,E]
theorem AX (l:List UInt8) (a b:Nat):Value.string ((⟨⟨l⟩⟩:ByteArray).extract a b)=str ((l.take b).drop a):=by
 unfold str;congr 1;apply ByteArray.ext;simp [ByteArray.data_extract,List.extract_eq_take_drop,List.drop_take]
theorem kK (n:Nat) {t:au} {l:List UInt8} {k:bY} (A:P.underlying t=some .string) (C:ev N σ x=str l) (E:ev N σ y= .int k (n:Int)) (h:n < l.length):
 (execOp (ev N σ) ⟨dst,.index t x y,ty,pos,af,g⟩).run P w= .ok (.value<|.int .u8 ((l.getD n 0).toNat:Int)) w:=MC A C E ⟨ag,ag⟩
theorem dc {n:Nat} {t:au} {l:List UInt8} {k:bY} (A:P.underlying t=some .string) (C:ev N σ x=str l) (E:ev N σ y= .int k (n:Int)) (h:n < l.length):
 (execOp (ev N σ) ⟨dst,.index t x y,ty,pos,af,g⟩).run P w= .ok (.value<|.int .u8 ((l.getD n 0).toNat:Int)) w:=kK n A C E h
theorem ox {t:au} {l:List UInt8} {k M:bY} {a b:Int} (E:P.underlying t=some .string) (I:ev N σ x=str l) (J:ev N σ y= .int k a) (L:ev N σ z= .int M b) (h0:0≤a∧a≤b∧b≤l.length):
 (execOp (ev N σ) ⟨dst,.slice t x (some y) (some z) none,ty,pos,af,g⟩).run P w= .ok (.value<|str<|(l.take b.toNat).drop a.toNat) w:=by
 have A:b≤((⟨⟨l⟩⟩:ByteArray).size:Nat):=h0.2.2;have C:0≤b:=ag;have O:a≤(b.toNat:Nat):=ag;simp [execOp,p7,ux,mG,qa,I,J,L,asIntOf,str,bS E,h0.1,A,C];rw [if_pos ag];exact congrArg (fun v=>uB (uy v) w)<|AX l a.toNat b.toNat
theorem rZ {t:au} {l:List UInt8} {J:bY} {b:Int} (C:P.underlying t=some .string) (E:ev N σ x=str l) (I:ev N σ z= .int J b) (h0:0≤b∧b≤l.length):
 (execOp (ev N σ) ⟨dst,.slice t x none (some z) none,ty,pos,af,g⟩).run P w= .ok (.value<|str<|l.take b.toNat) w:=by
 have A:b≤((⟨⟨l⟩⟩:ByteArray).size:Nat):=h0.2;have :=AX l 0 b.toNat;simp only [List.drop_zero] at this;simp [execOp,p7,ux,mG,qa,E,I,asIntOf,str,bS C,h0.1,A];exact Iv this
theorem mw {t:au} {l:List UInt8} {k:bY} {a:Int} (C:P.underlying t=some .string) (E:ev N σ x=str l) (I:ev N σ y= .int k a) (h0:0≤a∧a≤l.length):
 (execOp (ev N σ) ⟨dst,.slice t x (some y) none none,ty,pos,af,g⟩).run P w= .ok (.value<|str<|l.drop a.toNat) w:=by
 have A:a≤((⟨⟨l⟩⟩:ByteArray).size:Nat):=h0.2;have :=AX l a.toNat l.length;simp only [List.take_length] at this;simp [execOp,p7,ux,mG,qa,E,I,asIntOf,str,bS C,h0.1,A];exact Iv this
theorem r9 (l:List UInt8):(⟨⟨l⟩⟩:ByteArray).toList=l:=Lib.toList_data ⟨⟨l⟩⟩
theorem cc {t J:au} {l m:List UInt8} (E:ev N σ x=str l) (I:ev N σ y=str m) (h:l.length+m.length≤9223372036854775807):
 (execOp (ev N σ) ⟨dst,.binOp .add t x y J,ty,pos,af,g⟩).run P w= .ok (.value<|str<|l++m) w:=by
 have A:¬(((⟨⟨l⟩⟩:ByteArray).size+(⟨⟨m⟩⟩:ByteArray).size:Nat):Int) > xZ.max:=by
  have :xZ.max=9223372036854775807:=aI;rw [this];show ¬((l.length+m.length:Nat):Int) > _;omega
 have C:(⟨⟨l⟩⟩:ByteArray)++(⟨⟨m⟩⟩:ByteArray)=⟨⟨l++m⟩⟩:=by
  apply ByteArray.ext; simp
 simp only [execOp,E,I,str,eqGuard,binOp,qf];rw [if_neg A,C];rfl
theorem DI {t E:au} {l m:List UInt8} (A:ev N σ x=str l) (C:ev N σ y=str m):
 (execOp (ev N σ) ⟨dst,.binOp .eql t x y E,ty,pos,af,g⟩).run P w= .ok (.value<|.bool<|decide (l=m)) w:=by
 simp only [execOp,A,C,str,eqGuard,binOp,qf,r9];show uB (uy<|.bool<|l==m) w=_;rw [show (l==m)=decide (l=m) from by rw [pW]; simp]
theorem Fa {t E:au} {l m:List UInt8} (A:ev N σ x=str l) (C:ev N σ y=str m):
 (execOp (ev N σ) ⟨dst,.binOp .neq t x y E,ty,pos,af,g⟩).run P w= .ok (.value<|.bool<|decide (l≠m)) w:=by
 simp only [execOp,A,C,str,eqGuard,binOp,qf,r9];show uB (uy<|.bool<|!(l==m)) w=_;rw [show (!(l==m))=decide (l≠m) from by rw [pW]; simp]
def cm (a b:List UInt8):Bool:=Bz a b
theorem tW (a:List UInt8):cm a a=false :=by
 induction a with
 | nil=>rfl
 | cons x a ih=>
   have A:¬x < x:=UInt8.lt_irrefl x;have :cm (x::a) (x::a)=(decide (x < x) || (x==x && cm a a)):=rfl;rw [this,ih]; simp [A]
theorem xi (x y:UInt8) (a b:List UInt8):cm (x::a) (y::b)=(decide (x < y) || (x==y && cm a b)):=rfl
theorem pL {a b c:List UInt8} (C:cm a b=true) (A:cm b c=true):cm a c=true :=by
 induction a generalizing b c with
 | nil=>
   cases b with
   | nil=>cases C
   | cons y b=>cases c with
     | nil=>cases A
     | cons z c=>rfl
 | cons x a ih=>
   cases b with
   | nil=>cases C
   | cons y b=>cases c with
     | nil=>cases A
     | cons z c=>
       rw [xi] at*;simp only [lI,decide_eq_true_eq,bO,beq_iff_eq] at*;rcases C with C | ⟨rfl,C⟩
       · rcases A with A | ⟨rfl,A⟩
         · exact .inl<|UInt8.lt_trans C A
         · exact .inl C
       · rcases A with A | ⟨rfl,A⟩
         · exact .inl A
         · exact .inr ⟨U,ih C A⟩
theorem GG (a b:List UInt8):cm a b=true∨a=b∨cm b a=true :=by
 induction a generalizing b with
 | nil=>cases b with
   | nil=>exact .inr<|.inl rfl
   | cons y b=>exact .inl rfl
 | cons x a ih=>cases b with
   | nil=>exact .inr<|.inr rfl
   | cons y b=>
     simp only [xi,lI,decide_eq_true_eq,bO,beq_iff_eq,lM];rcases Nat.lt_trichotomy x.toNat y.toNat with h | h | h
     · exact .inl<|.inl<|yt.2 h
     · have e:x=y:=nG.1 h;subst e;rcases ih b with h | h | h
       · exact .inl<|.inr ⟨U,h⟩
       · exact .inr<|.inl ⟨U,h⟩
       · exact .inr<|.inr<|.inr ⟨U,h⟩
     · exact .inr<|.inr<|.inl<|yt.2 h
theorem Pq {a b:List UInt8} (h:cm a b=true):cm b a=false :=by grind [cm,pL,tW]
theorem rJ {rs:List (List UInt8)} (C:rs.Pairwise (fun x y=>cm x y=true)) {i j:Nat} (h:i < j) (A:j < rs.length):cm (rs.getD i []) (rs.getD j [])=true :=by
 have :=List.pairwise_iff_getElem.1 C i j ag A h;simpa [cW,cI A,cI (show i < rs.length by omega)] using this
theorem Ps {rs:List (List UInt8)} {r:List UInt8} (A:rs.Pairwise (fun x y=>cm x y=true)) {i m:Nat} (h:i < m+1) (hm:m < rs.length) (hr:cm (rs.getD m []) r=true):cm (rs.getD i []) r=true :=by
 rcases Ja (Nat.le_of_lt_succ h) with h | rfl
 · exact pL (rJ A h hm) hr
 · exact hr
theorem Pr {rs:List (List UInt8)} {r:List UInt8} (A:rs.Pairwise (fun x y=>cm x y=true)) {i m:Nat} (h:m≤i) (hi:i < rs.length) (hr:cm (rs.getD m []) r=false):cm (rs.getD i []) r=false :=by
 rcases Ja h with h | rfl
 · cases hb:cm (rs.getD i []) r
   · rfl
   · have :=pL (rJ A h hi) hb; rw [hr] at this; cases this
 · exact hr
theorem z1 {t E:au} {l m:List UInt8} (A:ev N σ x=str l) (C:ev N σ y=str m):
 (execOp (ev N σ) ⟨dst,.binOp .lss t x y E,ty,pos,af,g⟩).run P w= .ok (.value<|.bool<|cm l m) w:=by
 simp only [execOp,A,C,str,eqGuard,binOp,qf,r9];rfl
theorem M2 {t E:au} {l m:List UInt8} (A:ev N σ x=str l) (C:ev N σ y=str m):
 (execOp (ev N σ) ⟨dst,.binOp .leq t x y E,ty,pos,af,g⟩).run P w= .ok (.value<|.bool (cm l m || decide (l=m))) w:=by
 simp only [execOp,A,C,str,eqGuard,binOp,qf,r9];show uB (uy<|.bool (Bz l m || l==m)) w=_;rw [show (l==m)=decide (l=m) from by rw [pW]; simp];rfl
theorem Mf {t E:au} {l m:List UInt8} (A:ev N σ x=str l) (C:ev N σ y=str m):
 (execOp (ev N σ) ⟨dst,.binOp .gtr t x y E,ty,pos,af,g⟩).run P w= .ok (.value<|.bool<|!(cm l m || decide (l=m))) w:=by
 simp only [execOp,A,C,str,eqGuard,binOp,qf,r9];show uB (uy<|.bool<|!(Bz l m || l==m)) w=_;rw [show (l==m)=decide (l=m) from by rw [pW]; simp];rfl
theorem L9 {t E:au} {l m:List UInt8} (A:ev N σ x=str l) (C:ev N σ y=str m):
 (execOp (ev N σ) ⟨dst,.binOp .geq t x y E,ty,pos,af,g⟩).run P w= .ok (.value<|.bool<|!cm l m) w:=by
 simp only [execOp,A,C,str,eqGuard,binOp,qf,r9];rfl
theorem mf {fn:Fn} {first captured:Array bA} :(execOp (ev N σ) ⟨dst,.makeFunc fn first captured,ty,pos,af,g⟩).run P w= .ok (.value<|.func fn (first.map<|ev N σ)<|captured.map<|ev N σ) w:=rfl
theorem ri {fn:Fn} {first captured:Array bA} :(execOp (ev N σ) ⟨dst,.makeFunc fn first captured,ty,pos,af,g⟩).run P w= .ok (.value<|.func fn (first.toList.map<|ev N σ).toArray (captured.toList.map<|ev N σ).toArray) w:=by
 rw [mf,← ju,← ju]
end
end Go.Hb
namespace Go.Hb
def aD (h:Array Obj) (b:Nat) (L:List ah):Prop := ∃ e,h[b]? =some (.cells L.toArray e (0,0))
theorem aD.aO {h:Array Obj} {b:Nat} {L:List ah} (hb:aD h b L) (j:Nat):Hb.aO h b j=L[j]? :=by
 obtain ⟨e,hb⟩:=hb;rw [eC hb]; simp
theorem aD.aG {h:Array Obj} {b:Nat} {L:List ah} (hb:aD h b L) (j:Nat):Hb.aO h b (0 +j)=L[j]? :=by
 rw [dx,hb.aO]
theorem Md.B {F:Nat→Prop} {w w':ai} (h:Md F w w') {b:Nat} {L:List ah} (hb:aD w.heap b L) (A:¬F b):aD w'.heap b L:=
 let ⟨e,hb⟩:=hb; ⟨e,h.ax hb A⟩
theorem Wk.B {w w':ai} (h:Wk w w') {b:Nat} {L:List ah} (hb:aD w.heap b L):aD w'.heap b L:=Md.B h hb id
theorem aD.lt {h:Array Obj} {b:Nat} {L:List ah} (hb:aD h b L):b < h.size:=by grind [aD]
def bk (a:Option ba):Nat:=match a with | some ad=>ad.block | none=>0
def fo (a:Option ba):Nat:=match a with | some ad=>ad.off | none=>0
structure aU (h:Array Obj) (a:Option ba) (xs:List ah):Prop where
 ok:xs≠[]→a=some ⟨bk a,fo a,none⟩
 aO:∀ j u,xs[j]? =some u→Hb.aO h (bk a) (fo a+j)=some u
theorem aU.nil (h:Array Obj) (a:Option ba):aU h a []:=⟨fun h=>absurd rfl h,fun _ _ hu=>by simp at hu⟩
theorem aU.md {F:Nat→Prop} {w w':ai} {a:Option ba} {xs:List ah} (A:aU w.heap a xs) (h:Md F w w') (C:xs≠[]→¬F (bk a)):aU w'.heap a xs:=
 ⟨A.ok,fun j u hu=>h.aO (A.aO j u hu)<|C<|by rintro rfl; simp at hu⟩
theorem aU.wk {w w':ai} {a:Option ba} {xs:List ah} (A:aU w.heap a xs) (h:Wk w w'):aU w'.heap a xs:=A.md h fun _ x=>x
theorem aU.take {h:Array Obj} {a:Option ba} {xs:List ah} (A:aU h a xs) (n:Nat):aU h a (xs.take n):=
 ⟨fun C=>A.ok (by rintro rfl; simp at C),fun j u hu=>A.aO j u<|by rw [j0] at hu; split at hu; exact hu; cases hu⟩
theorem aU.dB {h:Array Obj} {b:Nat} {L:List ah} (hb:aD h b L):aU h (some ⟨b,0,none⟩) L:=
 ⟨fun _=>rfl,fun j u hu=>by show Hb.aO h b (0 +j)=_; rw [dx,hb.aO]; exact hu⟩
theorem aU.yF {h:Array Obj} {a:Option ba} {xs:List ah} (A:aU h a xs) {i:Nat} {u:ah} (hu:xs[i]? =some u):Hb.aO h (bk a) (fo a+i*1)=some u:=by
 rw [oK]; exact A.aO i u hu
def bQ (h:Array Obj) (a:Option ba) (l:List (List UInt8)):Prop :=aU h a<|l.map str
theorem bQ.get {h:Array Obj} {a:Option ba} {l:List (List UInt8)} (A:bQ h a l) {i:Nat} (hi:i < l.length):Hb.aO h (bk a) (fo a+i*1)=some (str<|l.getD i []):=
 aU.yF A (by simp [cW,hi])
theorem bQ.wk {w w':ai} {a:Option ba} {l:List (List UInt8)} (A:bQ w.heap a l) (h:Wk w w'):bQ w'.heap a l:=aU.wk A h
theorem ef {α:Type} {f:α→ah} {l:List α} (h:0 < l.length):l.map f≠[]:=by
 cases l with
 | nil=>simp at h
 | cons x l=>simp
def eJ (P:av) (t e size bytes:Nat):Bool:=
 match P.underlying t with
 | some (.slice e')=>e'==e && match P.info? e with
   | some i=>i.size==size && i.bytes==bytes && aZ 0 size && match i.zero with
     | some z=>z.cells.size==size
     | none=>false
   | none=>false
 | _=>false
theorem ow {P:av} {t e size bytes:Nat} (h:eJ P t e size bytes=true):
 P.underlying t=some (.slice e)∧∃ i z,P.info? e=some i∧i.zero=some z∧i.size=size∧i.bytes=bytes∧z.cells.size=size∧0 < size:=by
 unfold eJ at h;split at h
 · rename_i e' hu;simp only [bO,beq_iff_eq] at h;obtain ⟨rfl,h⟩:=h;split at h
   · rename_i i hi;simp only [bO,beq_iff_eq] at h;obtain ⟨⟨⟨A,C⟩,h3⟩,h4⟩:=h;split at h4
     · rename_i z E;exact ⟨hu,i,z,hi,E,A,C,by simpa using h4,oI (oJ 0)<|cE h3⟩
     · cases h4
   · cases h
 · cases h
def cP (P:av) (t:au):Option Nat:=(P.info? t).map (·.size)
def zeroOf (P:av) (t:au):Option (Option<|List ah):=(P.info? t).map fun i=>i.zero.map fun z=>z.cells.toList
def gv (P:av) (f:eX):Prop := ∀ args w,(callFunc f args).run P w= .ok (.enter f args) w
theorem yN {P:av} {f:eX} {fn:Func} (E:P.funcs[f]? =some fn) (hn:(fn.name== "runtime.NumGoroutine")=false) (hb:fn.body.isNone=false):gv P f:=by
 intro args w;have A:¬((fn.name== "runtime.NumGoroutine")=true):=by rw [hn]; simp
 have C:¬(fn.body.isNone=true):=by rw [hb]; simp
 simp only [callFunc,ie,run_program,gS,E];rw [if_neg A,if_neg C];rfl
section
variable {P:av} {N:Fm} {σ:Nat→ah} {w:ai} {dst:Option Nat} {ty:au} {pos :String} {af:Array cH} {g:Option (Nat×Bool)} {x y z:bA} {K:(Nat→ah)→ai→Prop}
theorem HH {o:aJ} {f:eX} {L:List ah} {R:ah→ai→Prop} (C:(execOp (ev N σ) o).run P w= .ok (.enter f L.toArray) w) (hr:aY P f L.toArray w R)
 (k:∀ v w',R v w'→K (dq σ o.dst v) w'):cy P N o σ w K:=by
 unfold cy iB;rw [ej,C];refine jv hr fun e w' ⟨v,he,A⟩=> ?_;subst he;exact ⟨_,gi ..,k v w' A⟩
theorem cl {f:eX} {args:Array bA} {A:Array au} {L:List ah} {R:ah→ai→Prop} (E:gv P f) (hr:aY P f L.toArray w R) (C:args.toList.map (ev N σ)=L)
 (k:∀ v w',R v w'→K (dq σ dst v) w'):cy P N ⟨dst,.call ⟨.value (.func f),args,A⟩,ty,pos,af,g⟩ σ w K:=by
 refine HH (f:=f) ?_ hr k;have :args.map (ev N σ)=L.toArray:=by rw [← C,← ju]
 simp [execOp,resolve,ev,mE,invoke,this,E L.toArray w]
theorem yS {f:eX} {fo:bA} {first cap:Array ah} {args:Array bA} {A:Array au} {L:List ah} {R:ah→ai→Prop} (E:gv P f) (I:ev N σ fo= .func (.func f) first cap)
 (hr:aY P f L.toArray w R) (C:first.toList++args.toList.map (ev N σ)++cap.toList=L)
 (k:∀ v w',R v w'→K (dq σ dst v) w'):cy P N ⟨dst,.call ⟨.value fo,args,A⟩,ty,pos,af,g⟩ σ w K:=by
 refine HH (f:=f) ?_ hr k;have :first++args.map (ev N σ)++cap=L.toArray:=by rw [← C,← ju,← HT,← HT]
 simp [execOp,resolve,I,mE,invoke,this,E L.toArray w]
theorem lH {o:aJ} {ob:Obj} {v:Nat→ah} (A:(execOp (ev N σ) o).run P w= .ok (.value<|v w.heap.size) {w with heap:=w.heap.push ob})
 (k:∀ b w',b=w.heap.size→Nw w w'→w'.heap[b]? =some ob→K (dq σ o.dst<|v b) w'):cy P N o σ w K:=by grind [jU,An]
theorem al {e:au} {C:List ah} (A:zeroOf P e=some (some C)) (k:∀ b w',b=w.heap.size→Nw w w'→aD w'.heap b C→K (dq σ dst<|.pointer<|some ⟨b,0,none⟩) w'):
 cy P N ⟨dst,.alloc e,ty,pos,af,g⟩ σ w K:=by
 refine lH (v:=fun b=> .pointer<|some ⟨b,0,none⟩) (ob:= .cells C.toArray e (0,0)) ?_ fun b w' E I J=>k b w' E I ⟨e,J⟩;unfold zeroOf at A;simp only [iW] at A;obtain ⟨i,hi,zv,L,rfl⟩:=A;simp [execOp,xX,zeroValue,eh hi,L,newVar,newRow]
theorem fv {e:au} {C:List ah} (A:zeroOf P e=some (some C)) (k:∀ b w',b=w.heap.size→Nw w w'→w'.heap[b]? =some (.cells C.toArray e (0,0))→K (dq σ dst<|.pointer<|some ⟨b,0,none⟩) w'):
 cy P N ⟨dst,.alloc e,ty,pos,af,g⟩ σ w K:=by
 refine lH (v:=fun b=> .pointer<|some ⟨b,0,none⟩) (ob:= .cells C.toArray e (0,0)) ?_ k;unfold zeroOf at A;simp only [iW] at A;obtain ⟨i,hi,zv,E,rfl⟩:=A;simp [execOp,xX,zeroValue,eh hi,E,newVar,newRow]
theorem bx {e:au} {v:ah} {L:List ah} (J:ev N σ x=v) (I:v.cells.toList=L) (k:∀ b w',b=w.heap.size→Nw w w'→aD w'.heap b L→K (dq σ dst<|.pointer<|some ⟨b,0,none⟩) w'):
 cy P N ⟨dst,.box e x,ty,pos,af,g⟩ σ w K:=by
 subst I;refine lH (v:=fun b=> .pointer<|some ⟨b,0,none⟩) (ob:= .cells v.cells e (0,0)) ?_ fun b w' A C E=>k b w' A C ⟨e,E⟩;simp [execOp,Instr.box,J,newVar,newRow]
theorem E7 {t:au} (k:∀ b w',b=w.heap.size→Nw w w'→w'.heap[b]? =some (.map #[] 0)→K (dq σ dst<|.map<|some b) w'):cy P N ⟨dst,.makeMap t none,ty,pos,af,g⟩ σ w K:=by
 refine lH (v:=fun b=> .map<|some b) ?_ k;simp [execOp,Instr.makeMap]
theorem sV {t e:au} {size bytes:Nat} (J:eJ P t e size bytes=true)
 (k:∀ b w',b=w.heap.size→Nw w w'→(∀ B,B≤b→w'.ownsRow B e size (.slice (some ⟨b,0,none⟩) 0 0) 0 [])→K (dq σ dst<|.slice (some ⟨b,0,none⟩) 0 0) w'):cy P N ⟨dst,.buildSlice t 0 #[],ty,pos,af,g⟩ σ w K:=by
 refine lH (v:=fun b=> .slice (some ⟨b,0,none⟩) 0 0) (ob:= .cells #[] e (0,0)) ?_ fun b w' A C E=>k b w' A C fun B I=>⟨by simp,.inr ⟨b,0,#[],U,I,E,bf _,by simp [maxLen],by simp,by simp⟩⟩
 obtain ⟨hu,i,zv,hi,M,A,C,E,L⟩:=ow J;simp [execOp,uv,bS hu,sizeOf,eh hi,ko,newRow];congr 2;exact Array.eq_empty_of_size_eq_zero<|by simp
theorem Cv {t e:au} {size bytes:Nat} {v:ah} {L:List ah} (V:eJ P t e size bytes=true) (U:bL size 1000=true) (aa:ev N σ x=v) (Z:v.cells.size=size)
 (J:v.cells.toList=L) (k:∀ b w',b=w.heap.size→Nw w w'→w'.heap[b]? =some (.cells L.toArray e (0,0))→K (dq σ dst<|.slice (some ⟨b,0,none⟩) 1 1) w'):cy P N ⟨dst,.buildSlice t 1 #[(0,x)],ty,pos,af,g⟩ σ w K:=by
 subst J;refine lH (v:=fun b=> .slice (some ⟨b,0,none⟩) 1 1) (ob:= .cells v.cells e (0,0)) ?_ fun b w' A C E=>k b w' A C<|by simpa using E
 obtain ⟨hu,i,zv,hi,ab,A,C,E,ac⟩:=ow V;have ad:size≤1000:=by simpa using U
 have M:ko (fun i=>some (i*size,size)) ((nA size).map (zv.cells[· % zv.cells.size]!)) [(0,v)]=some v.cells:=by
  have I:((nA size).map (zv.cells[· % zv.cells.size]!)).size=size:=by simp
  generalize (nA size).map (zv.cells[· % zv.cells.size]!)=cs at I;simp only [ko,Z];rw [if_neg (by rw [I]; simp)];congr 1;have key:∀ (l:List ah) (m:Nat) (cs:Array ah),m+l.length≤cs.size→∀ j,((l.zipIdx m).foldl (fun (cs:Array ah) (c,j)=>cs.setIfInBounds (0 *size+j) c) cs)[j]? =if j < m then cs[j]? else if j < m+l.length then l[j - m]? else cs[j]? :=by
   intro l
   induction l with
   | nil=>intro m cs hm j; simp; intro A C; omega
   | cons c l ih=>
     intro m cs hm j;simp only [I9,uH,cn] at hm ⊢;rw [ih (m+1) _ (by simp; omega)];simp only [yq,dx,uq];by_cases A:j < m
     · rw [if_pos ag,if_pos A,if_neg ag]
     · rw [if_neg A];by_cases C:j=m
       · subst C;rw [if_pos ag,if_pos rfl,if_pos ag,if_pos ag];simp
       · rw [if_neg ag];by_cases E:j < m+1 +l.length
         · rw [if_pos E,if_pos ag];obtain ⟨q,O⟩:∃ q,j - m=q+1:=⟨j - m - 1,ag⟩
           rw [O,jZ,show j - (m+1)=q from by omega]
         · rw [if_neg E,if_neg ag,if_neg ag]
  apply xN;intro j;have :=key v.cells.toList 0 cs (by simp; omega) j;rw [show (v.cells.zipIdx.foldl (fun (cs:Array ah) (c,j)=>cs.setIfInBounds (0 *size+j) c) cs)=((v.cells.toList.zipIdx 0).foldl (fun (cs:Array ah) (c,j)=>cs.setIfInBounds (0 *size+j) c) cs) from by
   rw [← Array.foldl_toList]; simp [Array.toList_zipIdx]]
  rw [this];simp only [Nat.not_lt_zero,if_false,dx,Nat.sub_zero,Array.length_toList,Array.getElem?_toList];split
  · rfl
  · rw [xP ag,xP ag]
 simp only [execOp,uv,ie,bS hu,gS,sizeOf,eh hi,jY,A,Nat.one_mul,uC,zeroValue,ab,List.map_toArray,fZ,List.map_nil,aa,M];rw [if_neg (by rw [show (2:Nat) ^ 24=16777216 from rfl]; omega),if_neg ag];simp [newRow]
theorem Cw {t e:au} {size bytes:Nat} {v:ah} {L:List ah} (M:eJ P t e size bytes=true) (J:bL size 1000=true) (U:ev N σ x=v) (O:v.cells.size=size)
 (I:v.cells.toList=L) (k:∀ b w',b=w.heap.size→Nw w w'→aD w'.heap b L→K (dq σ dst<|.slice (some ⟨b,0,none⟩) 1 1) w'):cy P N ⟨dst,.buildSlice t 1 #[(0,x)],ty,pos,af,g⟩ σ w K:=
 Cv M J U O I fun b w' A C E=>k b w' A C ⟨_,E⟩
theorem mj {v:ah} (h:v.oneCell'=true):v.cells= #[v]:=by cases v <;> first | rfl | (cases h; done)
theorem DR {loc:Nat→Option (Nat×Nat)} (C:∀ i,loc i=some (i*1,1)):∀ (rest pre A:List ah),A.length=rest.length→rest.all kW=true→
 ko loc (pre++A).toArray ((rest.zipIdx pre.length).map fun q=>(q.2,q.1))=some (pre++rest).toArray
 | [],pre,A,hl,_=>by
   rw [ku hl]; rfl
 | v::r,pre,A,hl,h1=>by
   cases A with
   | nil=>simp at hl
   | cons z A=>
     rw [uD,bO] at h1;have E:=mj h1.1;have ih:=DR C r (pre++ [v]) A (by simpa using hl) h1.2;simp only [I9,fZ,ko,C,E];rw [if_neg (by simp)];simp only [bp,dC,iC,List.singleton_append] at ih;rw [← ih];simp
theorem JZ {t e bytes n:Nat} {ps:Array (Nat×bA)} {L:List ah} (J:eJ P t e 1 bytes=true) (hp:ps.toList.map (fun p=>(p.1,ev N σ p.2))=(L.zipIdx 0).map fun q=>(q.2,q.1)) (C:L.all kW=true) (hn:L.length=n) (A:(bL n 1000 && aZ 0 n)=true)
 (k:∀ b w',b=w.heap.size→Nw w w'→w'.heap[b]? =some (.cells L.toArray e (0,0))→K (dq σ dst<|.slice (some ⟨b,0,none⟩) n n) w'):cy P N ⟨dst,.buildSlice t n ps,ty,pos,af,g⟩ σ w K:=by
 subst hn;refine lH (v:=fun b=> .slice (some ⟨b,0,none⟩) L.length L.length) (ob:= .cells L.toArray e (0,0)) ?_ k;obtain ⟨hu,i,zv,hi,M,E,U,V,Z⟩:=ow J;simp only [bO] at A;have aa:L.length≤1000:=by simpa using A.1
 have ab:0 < L.length:=by have :=cE A.2; omega
 have I:ko (fun i=>some (i*1,1)) ((nA<|L.length*1).map (zv.cells[· % zv.cells.size]!)) (ps.toList.map fun p=>(p.1,ev N σ p.2))=some L.toArray:=by
  rw [hp];have O:((nA<|L.length*1).map (zv.cells[· % zv.cells.size]!)).toList.length=L.length:=by simp
  have :=DR (loc:=fun i=>some (i*1,1)) (fun _=>rfl) L [] ((nA<|L.length*1).map (zv.cells[· % zv.cells.size]!)).toList O C;rw [oF,oF,Bw] at this;exact this
 simp only [execOp,uv,ie,bS hu,gS,sizeOf,eh hi,jY,E,uC,zeroValue,M,ju,I];rw [if_neg (by rw [show (2:Nat) ^ 24=16777216 from rfl]; omega),if_neg ag];simp [newRow]
theorem e9 {t e:au} {bytes:Nat} {v:ah} (C:eJ P t e 1 bytes=true) (E:ev N σ x=v) (A:v.oneCell'=true)
 (k:∀ b w',b=w.heap.size→Nw w w'→aD w'.heap b [v]→K (dq σ dst<|.slice (some ⟨b,0,none⟩) 1 1) w'):cy P N ⟨dst,.buildSlice t 1 #[(0,x)],ty,pos,af,g⟩ σ w K:=
 Cw C rfl E (by rw [mj A]; rfl) (by rw [mj A]) k
theorem lU {t e:au} {size bytes:Nat} {L:List ah} (E:eJ P t e size bytes=true) (C:bL size 1000=true) (I:ev N σ x= .agg L.toArray) (A:L.length=size)
 (k:∀ b w',b=w.heap.size→Nw w w'→aD w'.heap b L→K (dq σ dst<|.slice (some ⟨b,0,none⟩) 1 1) w'):cy P N ⟨dst,.buildSlice t 1 #[(0,x)],ty,pos,af,g⟩ σ w K:=
 Cw E C I (by simpa [sF] using A) (by simp [sF]) k
theorem Cx {e:au} {v:ah} (C:ev N σ x=v) (A:v.oneCell'=true) (k:∀ b w',b=w.heap.size→Nw w w'→aD w'.heap b [v]→K (dq σ dst<|.pointer<|some ⟨b,0,none⟩) w'):
 cy P N ⟨dst,.box e x,ty,pos,af,g⟩ σ w K:=bx C (by rw [mj A]) k
theorem lV {e:au} {L:List ah} (A:ev N σ x= .agg L.toArray) (k:∀ b w',b=w.heap.size→Nw w w'→aD w'.heap b L→K (dq σ dst<|.pointer<|some ⟨b,0,none⟩) w'):
 cy P N ⟨dst,.box e x,ty,pos,af,g⟩ σ w K:=bx A (by simp [sF]) k
theorem sW {e:au} {L:List ah} (I:ev N σ x= .agg L.toArray) (k:∀ b w',b=w.heap.size→Nw w w'→w'.heap[b]? =some (.cells L.toArray e (0,0))→K (dq σ dst<|.pointer<|some ⟨b,0,none⟩) w'):
 cy P N ⟨dst,.box e x,ty,pos,af,g⟩ σ w K:=by
 refine lH (v:=fun b=> .pointer<|some ⟨b,0,none⟩) (ob:= .cells L.toArray e (0,0)) ?_ fun b w' A C E=>k b w' A C E;simp [execOp,Instr.box,I,newVar,newRow,sF]
theorem JY {t e:au} {bytes:Nat} {v:ah} (J:eJ P t e 1 bytes=true) (M:ev N σ x=v) (A:v.oneCell'=true)
 (k:∀ b w',b=w.heap.size→Nw w w'→(∀ B,B≤b→w'.ownsRow B e 1 (.slice (some ⟨b,0,none⟩) 1 1) 1 [v])→K (dq σ dst<|.slice (some ⟨b,0,none⟩) 1 1) w'):cy P N ⟨dst,.buildSlice t 1 #[(0,x)],ty,pos,af,g⟩ σ w K:=
 Cv (L:= [v]) J rfl M (by rw [mj A]; rfl) (by rw [mj A]) fun b w' hb I C=>k b w' hb I fun B E=>⟨rfl,.inr ⟨b,1,#[v],rfl,E,C,bf _,by simp [maxLen],rfl,rfl⟩⟩
theorem sR {l:List ah} (h:l.all kW=true):∀ u∈l,u.oneCell'=true :=IB.1 h
theorem fj {t b off :Nat} {e:au} {L:List ah} {v:ah} (A:cP P t=some 1) (ad:ev N σ x= .pointer (some ⟨b,off,none⟩)) (ae:ev N σ y=v) (C:v.oneCell'=true) (hb:w.heap[b]? =some (.cells L.toArray e (0,0))) (Z:off < L.length)
 (k:∀ w',Md (fun k=>k=b) w w'→w'.heap[b]? =some (.cells (L.set off v).toArray e (0,0))→K σ w'):cy P N ⟨none,.store t x y,ty,pos,af,g⟩ σ w K:=by
 have I:v.cells= #[v]:=by cases v <;> first | rfl | (cases C; done)
 have J:w.cell? ⟨b,off,none⟩=some L[off]:=by rw [j4,eC hb]; simp [Z]
 have M:w.frozen? ⟨b,off,none⟩=false :=by simp only [World.frozen?,show w.heap[b]? =_ from hb]; simp
 unfold cP at A;simp only [iW] at A;obtain ⟨i,hi,ab⟩:=A;have E:(⟨b,off,none⟩:ba).add 0=⟨b,off,none⟩:=rfl;have aa:(execOp (ev N σ) ⟨none,.store t x y,ty,pos,af,g⟩).run P w= .ok .skip (w.setCell ⟨b,off,none⟩ v):=by
  simp [execOp,By,ad,ae,qc,storeVar,I,sizeOf,eh hi,ab,storeCells,E,run_store P w _ v _ C,J,M]
 unfold cy iB;rw [ej,aa];refine ⟨σ,U,k _ ⟨U,U,by simp [x8],fun k _ O=> ?_⟩ ?_⟩
 · exact Below.heap_setCell w _ v k O
 · have V:=(cr.1 hb).1;have ac:w.heap[b]= .cells L.toArray e (0,0):=(cr.1 hb).2;simp only [x8];rw [pU (by simpa using V),Array.getElem_modify];simp [ac,List.setIfInBounds_toArray]
theorem st {t b off :Nat} {L:List ah} {v:ah} (M:cP P t=some 1) (I:ev N σ x= .pointer (some ⟨b,off,none⟩)) (J:ev N σ y=v) (A:v.oneCell'=true) (hb:aD w.heap b L) (E:off < L.length)
 (k:∀ w',Md (fun k=>k=b) w w'→aD w'.heap b (L.set off v)→K σ w'):cy P N ⟨none,.store t x y,ty,pos,af,g⟩ σ w K:=
 let ⟨_,hb⟩:=hb
 fj M I J A hb E fun w' A C=>k w' A ⟨_,C⟩
theorem fk {t b off n:Nat} {e:au} {L vs:List ah} (A:cP P t=some n) (M:ev N σ x= .pointer (some ⟨b,off,none⟩)) (O:ev N σ y= .agg vs.toArray) (hn:vs.length=n) (C:vs.all kW=true) (hb:w.heap[b]? =some (.cells L.toArray e (0,0))) (V:off+n≤L.length)
 (k:∀ w',Md (fun k=>k=b) w w'→w'.heap[b]? =some (.cells (L.take off++vs++L.drop (off+n)).toArray e (0,0))→K σ w'):cy P N ⟨none,.store t x y,ty,pos,af,g⟩ σ w K:=by
 unfold cP at A;simp only [iW] at A;obtain ⟨i,hi,J⟩:=A;have bK:=run_storeCells_at P b off e vs 0 L.toArray w hb (by simp; omega)<|sR C;have I:(execOp (ev N σ) ⟨none,.store t x y,ty,pos,af,g⟩).run P w= .ok .skip (w.setRow b (L.take off++vs++L.drop (off+n)).toArray):=by
  simp [execOp,By,M,O,qc,storeVar,sF,sizeOf,eh hi,J,hn,bK]
 unfold cy iB;rw [ej,I];exact ⟨σ,U,k _ ⟨U,U,by simp,fun k _ E=>setRow_other w b k _ E⟩<|setRow_heap w b _ _ e _ hb⟩
theorem r6 {t b off n:Nat} {L vs:List ah} (A:cP P t=some n) (M:ev N σ x= .pointer (some ⟨b,off,none⟩)) (O:ev N σ y= .agg vs.toArray) (hn:vs.length=n) (C:vs.all kW=true) (hb:aD w.heap b L) (V:off+n≤L.length)
 (k:∀ w',Md (fun k=>k=b) w w'→aD w'.heap b (L.take off++vs++L.drop (off+n))→K σ w'):cy P N ⟨none,.store t x y,ty,pos,af,g⟩ σ w K:=by
 obtain ⟨e,hb⟩:=hb;unfold cP at A;simp only [iW] at A;obtain ⟨i,hi,J⟩:=A;have bK:=run_storeCells_at P b off e vs 0 L.toArray w hb (by simp; omega)<|sR C;have I:(execOp (ev N σ) ⟨none,.store t x y,ty,pos,af,g⟩).run P w= .ok .skip (w.setRow b (L.take off++vs++L.drop (off+n)).toArray):=by
  simp [execOp,By,M,O,qc,storeVar,sF,sizeOf,eh hi,J,hn,bK]
 unfold cy iB;rw [ej,I];exact ⟨σ,U,k _ ⟨U,U,by simp,fun k _ E=>setRow_other w b k _ E⟩ ⟨e,setRow_heap w b _ _ e _ hb⟩⟩
theorem JF {t ty e:au} {i:TypeInfo} {zv:ah} {B n m c:Nat} {v Z:ah} {xs news:List ah} {ad:ba} {w':ai} (hu:P.underlying t=some (.slice e)) (hi:P.info? e=some i) (V:i.zero=some zv) (al:zv.cells.size=i.size) (aj:0 < i.size)
 (I:w.ownsRow B e i.size v n xs) (E:news.length=m*i.size) (J:∀ j u,news[j]? =some u→w.cell? (ad.add j)=some u) (L:∀ u∈news,u.oneCell'=true) (M:n+m≤maxLen) (hb:(n+m)*i.bytes≤140737488355328)
 (hr:(lJ #[t,t] ty #[v,.slice (some ad) m c]).run P w= .ok Z w'):∀ k,Z.ownBlock=some k→v.ownBlock=some k∨w.heap.size≤k:=by
 intro k A;have am:n+m≤9223372036854775807:=by unfold maxLen at M; omega
 rcases I.2 with ⟨rfl,rfl⟩ | ⟨C,cap,cur,rfl,ao,ae,aq,ap,ab,ar⟩
 · have ak:xs= []:=ku<|by simpa using I.1
   subst ak;obtain ⟨v2,w2,O,aa,_,_⟩:=run_append_own (P:=P) w w.heap.size t ty e i zv i.size i.bytes hu hi V rfl rfl al aj _ 0 [] (eL w w.heap.size e i.size) ad m c news E J L M hb (bf _);rw [hr] at O;cases O;exact .inr (by
    rcases aa.2 with ⟨h,_⟩ | ⟨g2,_,_,h,an,_⟩
    · rw [h] at A; simp [dM] at A
    · rw [h] at A; simp only [dM,bR] at A; omega)
 · by_cases U:n+m≤cap
   · have ac:n*i.size+news.length≤cur.size:=by rw [E,ab,← Nat.add_mul]; exact Nat.mul_le_mul_right _ U
     rw [run_append_room (P:=P) w t ty e i hu hi C n cap cur ae ad m c news E J L U ac] at hr;cases hr;exact .inl A
   · have holds:∀ j u,xs[j]? =some u→w.cell? ((⟨C,0,none⟩:ba).add j)=some u:=I.cells (g:=C) rfl;rw [run_append_grow (P:=P) w t ty e i zv hu hi V ⟨C,0,none⟩ n cap xs I.1 holds ad m c news E J ag ag (growslice_fits ag hb)] at hr;cases hr;simp only [dM,bR] at A;exact .inr ag
theorem ap {t e size bytes B n m c:Nat} {v:ah} {xs news:List ah} {a:Option ba} (ao:eJ P t e size bytes=true) (E:w.ownsRow B e size v n xs) (aa:ev N σ x=v) (ai:B≤w.heap.size)
 (ab:ev N σ y= .slice a m c) (M:aU w.heap a news) (I:news.length=m*size) (J:news.all kW=true) (hb:(n+m)*bytes≤140737488355328) (au:n+m≤9223372036854775807)
 (k:∀ A w',w'.ownsRow B e size A (n+m) (xs++news)→Md (fun k=>v.ownBlock=some k) w w'→(A= .slice none 0 0↔v= .slice none 0 0∧m=0)→(∀ k,A.ownBlock=some k→v.ownBlock=some k∨w.heap.size≤k)→K (dq σ dst A) w'):
 cy P N ⟨dst,.call ⟨.builtin .append,#[x,y],#[t,t]⟩,ty,pos,af,g⟩ σ w K:=by
 obtain ⟨hu,i,zv,hi,ac,Z,L,ad,V⟩:=ow ao;have O:n+m≤maxLen:=by unfold maxLen; omega
 by_cases hm:news= []
 · subst hm;have al:m=0:=by
    rcases Nat.mul_eq_zero.1 (I.symm.trans rfl) with h | h
    · exact h
    · omega
   subst al;have an:(lJ #[t,t] ty #[v,.slice a 0 c]).run P w= .ok v w:=by
    rcases E.2 with ⟨rfl,rfl⟩ | ⟨ar,cap,cur,rfl,_,_,hle,_⟩
    · cases a <;> simp [lJ,bS hu,sizeOf,eh hi,H0,xW,loadCells,loadCellsFrom]
    · cases a <;> simp [lJ,bS hu,sizeOf,eh hi,H0,xW,loadCells,loadCellsFrom,hle,storeCells]
   refine jU (w':=w) (v:=v) ?_<|k v w (by simpa using E) (Md.refl _ _) (by simp) fun _ h=> .inl h;simp [execOp,resolve,invoke,builtin,aa,ab,an]
 · have ha:=M.ok hm;have U:∀ j u,news[j]? =some u→w.cell? ((⟨bk a,fo a,none⟩:ba).add j)=some u:=fun j u hu=>by rw [gw,j4]; exact M.aO j u hu
   obtain ⟨A,w',hr,ae,C,ag⟩:=run_append_own (P:=P) w B t ty e i zv size bytes hu hi ac Z L ad V v n xs E ⟨bk a,fo a,none⟩ m c news I U (sR J) O hb ai;subst Z L;have aj:=JF hu hi ac ad V E I U (sR J) O hb hr;refine jU (w':=w') (v:=A) ?_<|k A w' ae ⟨C.os,C.output,C.size,fun k ak am=>C.block k ak fun e=>am e.symm⟩ ag aj;have aq:ev N σ y= .slice (some ⟨bk a,fo a,none⟩) m c:=ab.trans<|congrArg (fun a=>eY a m c) ha;simp [execOp,resolve,invoke,builtin,aa,aq,hr]
theorem bZ {t n len cap:Nat} {k:bY} {i:Int} {a:Option ba} (he:dH P t=some n) (A:ev N σ x= .slice a len cap) (C:ev N σ y= .int k i) (h0:0≤i∧i < len) (ha:a=some ⟨bk a,fo a,none⟩):
 (execOp (ev N σ) ⟨dst,.indexAddr t x y,ty,pos,af,g⟩).run P w= .ok (.value<|.pointer<|some ⟨bk a,fo a+i.toNat*n,none⟩) w:=
 ia he (by rw [A]; congr 1) C h0
end
theorem cB {F:Nat→Prop} {w w':ai} {B e size n:Nat} {v:ah} {xs:List ah} (h:w.ownsRow B e size v n xs) (hm:Md F w w') (A:∀ k,v.ownBlock=some k→¬F k):w'.ownsRow B e size v n xs:=by
 refine ⟨h.1,?_⟩;rcases h.2 with hn | ⟨g,cap,cur,rfl,hb,C,rest⟩
 · exact .inl hn
 · exact .inr ⟨g,cap,cur,U,hb,hm.ax C (A g U),rest⟩
section
variable {P:av} {N:Fm} {σ:Nat→ah} {w:ai} {dst:Option Nat} {ty:au} {pos :String} {af:Array cH} {g:Option (Nat×Bool)} {x y z:bA} {K:(Nat→ah)→ai→Prop}
end
theorem FH {w:ai} {B e size n:Nat} {v:ah} {xs:List ah} (h:w.ownsRow B e size v n xs):v.oneCell'=true :=by
 rcases h.2 with ⟨rfl,_⟩ | ⟨g,cap,cur,rfl,_⟩ <;> rfl
theorem de {w:ai} {B e size n:Nat} {v:ah} {xs:List ah} (h:w.ownsRow B e size v n xs):∃ a cap,v= .slice a n cap:=by
 rcases h.2 with ⟨rfl,rfl⟩ | ⟨g,cap,cur,rfl,_⟩
 · exact ⟨_,_,U⟩
 · exact ⟨_,_,U⟩
theorem rC {w:ai} {B B' e e' size U n O:Nat} {v I:ah} {xs V:List ah} (h:w.ownsRow B e size v n xs) (J:w.ownsRow B' e' U I O V) (M:e≠e') {k:Nat} (C:v.ownBlock=some k):I.ownBlock≠some k:=by
 intro E;rcases h.2 with ⟨rfl,_⟩ | ⟨g,cap,cur,rfl,_,L,_⟩
 · simp [dM] at C
 · rcases J.2 with ⟨rfl,_⟩ | ⟨g',Z,aa,rfl,_,A,_⟩
   · simp [dM] at E
   · simp only [dM,bR] at C E;subst C E;rw [L] at A;simp only [bR,nC] at A;exact M A.2.1
theorem aR {w w':ai} {B e size n:Nat} {v:ah} {xs:List ah} (h:w.ownsRow B e size v n xs) (hm:Wk w w'):w'.ownsRow B e size v n xs:=cB h hm fun _ _ x=>x
theorem da {w:ai} {B e size n:Nat} {v:ah} {xs:List ah} (h:w.ownsRow B e size v n xs) {k:Nat} (A:v.ownBlock=some k):B≤k∧k < w.heap.size:=h.lt k A
theorem Wk.own {w0 w w':ai} {B e size n:Nat} {v:ah} {xs:List ah} (h:Wk w0 w) (A:w.ownsRow B e size v n xs) (hm:Md (fun k=>v.ownBlock=some k) w w') (E:w0.heap.size≤B):Wk w0 w':=
 Md.trans' h hm (fun k I C=>by have :=(da A C).1; omega)
theorem tO {w:ai} {B e size n:Nat} {v:ah} {xs:List ah} (h:w.ownsRow B e size v n xs):∃ a cap,v= .slice a n cap∧aU w.heap a xs∧n≤cap∧(∀ k,v.ownBlock=some k→a=some ⟨k,0,none⟩∧B≤k∧k < w.heap.size)∧(v.ownBlock=none→xs= []):=by
 rcases h.2 with ⟨rfl,rfl⟩ | ⟨g,cap,cur,rfl,hb,C,hle,_,_,E⟩
 · have :xs= []:=ku<|by simpa using h.1
   subst this;exact ⟨none,0,U,aU.nil _ _,bf _,fun k A=>by simp [dM] at A,fun _=>rfl⟩
 · refine ⟨_,cap,U,⟨fun _=>rfl,fun j u hu=> ?_⟩,hle,fun k A=> ?_,fun A=>by simp [dM] at A⟩
   · show aO w.heap g (0 +j)=_;rw [dx,eC C];rw [← E,j0] at hu;split at hu
     · simpa using hu
     · cases hu
   · simp only [dM,bR] at A; subst A;exact ⟨U,hb,(cr.1 C).1⟩
theorem du {w:ai} {B e size n cap:Nat} {a:Option ba} {xs:List ah} (h:w.ownsRow B e size (.slice a n cap) n xs):n≤cap∧aU w.heap a xs:=by grind [tO]
theorem nh {w:ai} {B B' e size n:Nat} {v:ah} {xs:List ah} (h:w.ownsRow B e size v n xs) (E:B'≤B):w.ownsRow B' e size v n xs:=by
 refine ⟨h.1,?_⟩;rcases h.2 with h | ⟨g,cap,cur,A,C,r⟩
 · exact .inl h
 · exact .inr ⟨g,cap,cur,A,cQ E C,r⟩
theorem aU.drop {h:Array Obj} {a:Option ba} {xs:List ah} (C:aU h a xs) {cap k size:Nat} (I:xs.length≤cap*size):aU h (dV a cap k size) (xs.drop<|k*size):=by
 unfold dV;by_cases A:cap=k
 · rw [if_pos A,iT (by rw [← A]; exact I)]; exact aU.nil _ _
 · rw [if_neg A];by_cases E:xs= []
   · subst E; rw [List.drop_nil]; exact aU.nil _ _
   · have ha:=C.ok E;rw [ha];simp only [e7,gw];refine ⟨fun _=>rfl,fun j u hu=> ?_⟩;rw [List.getElem?_drop] at hu;have :=C.aO _ _ hu;show Hb.aO h (bk a) (fo a+k*size+j)=_;rw [jy]; exact this
theorem bQ.drop {h:Array Obj} {a:Option ba} {l:List (List UInt8)} (A:bQ h a l) {cap k:Nat} (C:l.length≤cap):bQ h (dV a cap k 1) (l.drop k):=by
 have :=aU.drop (k:=k) (size:=1) A (cap:=cap)<|by rw [List.length_map]; omega
 rw [oK,← List.map_drop] at this; exact this
theorem bQ.take {h:Array Obj} {a:Option ba} {l:List (List UInt8)} (A:bQ h a l) (k:Nat):bQ h a (l.take k):=by simp_all [aU.take,IU,bQ]
section
variable {P:av} {N:Fm} {σ:Nat→ah} {w:ai} {dst:Option Nat} {ty:au} {pos :String} {af:Array cH} {g:Option (Nat×Bool)} {x y z:bA} {K:(Nat→ah)→ai→Prop}
end
end Go.Hb
namespace Go.Hb
section
variable {P:av} {md:qg} {ops:Array aJ} {Q:bM→Act→ai→Prop} {S:ai→Prop} {r:Nat}
def nu (P:av) (md:qg) (ops:Array aJ) (Q:bM→Act→ai→Prop) (S:ai→Prop) (r:Nat):Nat→Array Bool→Act→ai→Prop
 | 0,listed,a,w=>fF md ops listed= []∧Q .normal a w
 | fuel+1,listed,a,w=>
   (fF md ops listed= []→Q .normal a w)∧
   ∀ i∈fF md ops listed,wpOp P ops Q i (fun a' w'=>((listed.setIfInBounds i true).getD r false =false→S w')∧nu P md ops Q S r fuel (listed.setIfInBounds i true) a' w') a w
theorem HE:∀ (fuel:Nat) (listed:Array Bool) (a:Act) (w:ai),nu P md ops Q S r fuel listed a w→wpAny P md ops Q fuel listed a w
 | 0,_,_,_,h=>h
 | fuel+1,_,_,_,h=>⟨h.1,fun i hi=>wpOp_mono (fun a' w' A=>HE fuel _ a' w' A.2)<|h.2 i hi⟩
theorem QO {i:Nat} {I:aJ} {v:ah} (hi:ops[i]? =some I) (ak:∀ (j:Nat) (o:aJ) cs b,ops[j]? =some o→o.op≠.select cs b)
 (an:∀ c a w,Q (.panic c) (a.put I.dst v) w→Q (.panic c) a w) (ay:∀ o,ops[r]? =some o→∃ x∈o.after,eQ md x=true∧x.on=i) (aq:i≠r):
 ∀ (fuel:Nat) (listed:Array Bool) (a:Act) (w:ai),
   (∀ j C,ops[j]? =some C→j≠i→listed.getD j true =false→(∀ x∈C.after,eQ md x=true→x.on≠i)→I.apart ops C=true)→
   i∈fF md ops listed→YieldsIf P ops S I v a→S w→listed.getD r false =false→
   nu P md ops Q S r fuel (listed.setIfInBounds i true) (a.put I.dst v) w→nu P md ops Q S r (fuel+1) listed a w:=by
 intro fuel
 induction fuel with
 | zero=>
   intro listed a w _ hr U J _ H;refine ⟨fun h=>(by rw [h] at hr; cases hr),fun j M=> ?_⟩;by_cases A:j=i
   · subst A; exact U.wpOp hi J ⟨fun _=>J,H⟩
   · have :=ready_mono M A;rw [H.1] at this;cases this
 | succ fuel ih=>
   intro listed a w aa hr U J ae H;refine ⟨fun h=>(by rw [h] at hr; cases hr),fun j M=> ?_⟩;by_cases A:j=i
   · subst A; exact U.wpOp hi J ⟨fun _=>J,H⟩
   · have E:=H.2 j<|ready_mono M A;obtain ⟨ad,C,O,ao⟩:=mem_ready.1 M;have aj:∀ x∈C.after,eQ md x=true→x.on≠i:=fun x Z hb heq=>by
      have E:=ao x Z hb;have h0:=(mem_ready.1 hr).1;rw [heq] at E;rcases dN i listed.size with V | V
      · simp [V] at h0 E; rw [h0] at E; cases E
      · simp [xP V] at E
     have ac:j≠r:=by
      rintro rfl;obtain ⟨x,Z,hb,ax⟩:=ay C O;exact aj x Z hb ax
     have av:(listed.setIfInBounds j true).getD r false =false :=by rw [getD_set_ne false ac]; exact ae
     have ag:((listed.setIfInBounds i true).setIfInBounds j true).getD r false =false :=by rw [getD_set_ne false ac,getD_set_ne false aq]; exact ae
     have am:=wpOp_putIf O (aa j C O A ad aj) (fun cs b=>ak i I cs b hi) (fun cs b=>ak j C cs b O) an U E;have ap:∀ k ok,ops[k]? =some ok→k≠i→(listed.setIfInBounds j true).getD k true =false→
      (∀ x∈ok.after,eQ md x=true→x.on≠i)→I.apart ops ok=true :=fun k ok ar au al aw=>by
      refine aa k ok ar au ?_ aw;by_cases ab:j=k
      · subst ab; exact ad
      · rw [getD_set_ne true ab] at al; exact al
     refine wpOp_mono (fun a' w' L=>⟨fun _=>L.2.1 ag,ih (listed.setIfInBounds j true) a' w' ap (ready_mono hr<|Ne.symm A) L.1 (L.2.1 ag) av ?_⟩) am;rw [Bv _ _ A];exact L.2.2
end
section
variable {P:av} {N:Fm} {ops:Array aJ} {Q:bM→(Nat→ah)→ai→Prop} {σ:Nat→ah} {w:ai} {S:ai→Prop} {r fuel:Nat} {listed:Array Bool}
 {d':Option Nat} {d:Nat} {op:Op} {ty:au} {pos :String} {af:Array cH} {v:ah}
def db (P:av) (N:Fm) (ops:Array aJ) (Q:bM→(Nat→ah)→ai→Prop) (S:ai→Prop) (r fuel:Nat) (listed:Array Bool) (σ:Nat→ah) (w:ai):Prop :=
 nu P .any ops (lift N Q) S r fuel listed (act N σ) w
theorem tF {id:Nat} {l:List aJ} (S:ai→Prop) (r:Nat) (hr:mi N.r l=true) (hm:P.follows .mixedOrders=true) (A:S w.drew) (h:db P N l.toArray Q S r l.length (sr l.length false) σ w.drew):bU P N (.region id l.toArray true) Q σ w:=by
 exact Ce hr hm<|HE _ _ _ _<|by rw [fP]; exact h
def qW (F:List Nat) (ops:Array aJ) (listed:Array Bool) (r i:Nat):Bool:=
 fU F ops listed i && !(listed.getD r false) && i !=r && (match ops[r]? with | some o=>o.after.toList.any (fun x=>eQ .any x && x.on==i) | none=>false)
theorem lq (i:Nat) (hi:ops[i]? =some ⟨some d,op,ty,pos,af,none⟩) (C:qW N.F ops listed r i=true)
 (U:∀ w,S w→(execOp (ev N σ) ⟨some d,op,ty,pos,af,none⟩).run P w= .ok (.value v) w) (A:S w)
 (k:db P N ops Q S r fuel (listed.setIfInBounds i true) (bI σ d v) w):db P N ops Q S r (fuel+1) listed σ w:=by
 simp only [qW,fU,bO,mC,bne_iff_ne,ne_eq] at C;obtain ⟨⟨⟨⟨⟨⟨J,L⟩,hf3⟩,hfF⟩,hf4⟩,hf5⟩,hf6⟩:=C;rw [hi] at hfF;refine QO hi (BC J) (fun c a w=>po hfF c a w) (fun o M=> ?_) hf5 fuel listed _ w (BB hi L) (by simpa using hf3) (.inl ⟨gR _ rfl _,fun w A=> ?_⟩) A hf4 ?_ (v:=v)
 · rw [M] at hf6;simp only [IC,bO,beq_iff_eq] at hf6;obtain ⟨x,O,E,I⟩:=hf6;exact ⟨x,xS.1 O,E,I⟩
 · rw [ej]; exact U w A
 · rw [gi]; exact k
theorem ED (i:Nat) (hi:ops[i]? =some ⟨d',op,ty,pos,af,none⟩) (hr:kN ops listed i=true)
 (h:cy P N ⟨d',op,ty,pos,af,none⟩ σ w (fun σ w=>((listed.setIfInBounds i true).getD r false =false→S w)∧db P N ops Q S r fuel (listed.setIfInBounds i true) σ w)):db P N ops Q S r (fuel+1) listed σ w:=by
 have C:fF .any ops listed= [i]:=by simpa [kN] using hr
 refine ⟨fun h0=>absurd (C ▸ h0) (by simp),fun k A=> ?_⟩;rw [C] at A;obtain rfl :k=i:=by simpa using A
 unfold wpOp;simp only [hi];rw [if_pos (gR _ rfl _)];exact .inl<|uk h fun _ _ A=>A
theorem q6 (i:Nat) (hi:ops[i]? =some ⟨d',op,ty,pos,af,none⟩) (hr:kN ops listed i=true)
 (h:cy P N ⟨d',op,ty,pos,af,none⟩ σ w (fun σ w=>S w∧db P N ops Q S r fuel (listed.setIfInBounds i true) σ w)):db P N ops Q S r (fuel+1) listed σ w:=by grind [ED,HI]
theorem pn (i:Nat) (hi:ops[i]? =some ⟨d',op,ty,pos,af,none⟩) (hr:kN ops listed i=true) (C:(listed.setIfInBounds i true).getD r false =true)
 (h:cy P N ⟨d',op,ty,pos,af,none⟩ σ w (fun σ w=>db P N ops Q S r fuel (listed.setIfInBounds i true) σ w)):db P N ops Q S r (fuel+1) listed σ w:=
 ED i hi hr (HI h fun _ _ A=>⟨fun h0=>absurd (h0.symm.trans C) dw,A⟩)
theorem pq (hr:(fF .any ops listed).isEmpty=true) (h:Q .normal σ w):db P N ops Q S r fuel listed σ w:=by
 have A:fF .any ops listed= []:=by simpa using hr
 cases fuel with
 | zero=>exact ⟨A,σ,rfl,h⟩
 | succ fuel=>exact ⟨fun _=>⟨σ,rfl,h⟩,by rw [A]; simp⟩
attribute [irreducible] db
end
end Go.Hb
namespace Go.Hb
section
variable {P:av} {md:qg} {ops:Array aJ} {Q:bM→Act→ai→Prop} {S:ai→Prop} {r:Nat}
inductive oP (md:qg) (ops:Array aJ) (i:Nat):Nat→Prop
 | one {r o e} :ops[r]? =some o→e∈o.after→eQ md e=true→e.on=i→oP md ops i r
 | more {r o e} :ops[r]? =some o→e∈o.after→eQ md e=true→oP md ops i e.on→oP md ops i r
def oO (md:qg) (ops:Array aJ) (listed:Array Bool):Prop := ∀ (j:Nat) (o:aJ),ops[j]? =some o→listed.getD j false =true→∀ e∈o.after,eQ md e=true→listed.getD e.on false =true
theorem Ei {listed:Array Bool} {j k:Nat} (h:listed.getD k false =true):(listed.setIfInBounds j true).getD k false =true :=by
 by_cases e:j=k
 · subst e;by_cases A:j < listed.size
   · simp [A]
   · simp [A] at h
 · rw [getD_set_ne false e]; exact h
theorem oO.set {listed:Array Bool} {j:Nat} (h:oO md ops listed) (J:j∈fF md ops listed):oO md ops (listed.setIfInBounds j true):=by
 intro k o A E e he hb;obtain ⟨_,M,L,I⟩:=mem_ready.1 J;by_cases C:j=k
 · subst C;rw [L] at A; cases A;exact Ei<|I e he hb
 · rw [getD_set_ne false C] at E;exact Ei<|h k o A E e he hb
theorem oP.listed {listed:Array Bool} {i r:Nat} (L:oP md ops i r) (J:oO md ops listed) (ha:∀ o,ops[r]? =some o→∀ e∈o.after,eQ md e=true→listed.getD e.on false =true):listed.getD i false =true :=by
 induction L with
 | one A C E I=>rw [← I]; exact ha _ A _ C E
 | more A C E _ ih=>exact ih fun o M e he hb=>J _ o M (ha _ A _ C E) e he hb
theorem QN {i:Nat} {C:aJ} {v:ah} (hi:ops[i]? =some C) (am:∀ (j:Nat) (o:aJ) cs b,ops[j]? =some o→o.op≠.select cs b)
 (ap:∀ c a w,Q (.panic c) (a.put C.dst v) w→Q (.panic c) a w) (aq:oP md ops i r) (au:i≠r):
 ∀ (fuel:Nat) (listed:Array Bool) (a:Act) (w:ai),oO md ops listed→
   (∀ j E,ops[j]? =some E→j≠i→listed.getD j true =false→(∀ x∈E.after,eQ md x=true→x.on≠i)→C.apart ops E=true)→
   i∈fF md ops listed→YieldsIf P ops S C v a→S w→listed.getD r false =false→
   nu P md ops Q S r fuel (listed.setIfInBounds i true) (a.put C.dst v) w→nu P md ops Q S r (fuel+1) listed a w:=by
 intro fuel
 induction fuel with
 | zero=>
   intro listed a w _ _ hr U I _ H;refine ⟨fun h=>(by rw [h] at hr; cases hr),fun j J=> ?_⟩;by_cases A:j=i
   · subst A; exact U.wpOp hi I ⟨fun _=>I,H⟩
   · have :=ready_mono J A;rw [H.1] at this;cases this
 | succ fuel ih=>
   intro listed a w aa ab hr U I aj H;refine ⟨fun h=>(by rw [h] at hr; cases hr),fun j J=> ?_⟩;by_cases A:j=i
   · subst A; exact U.wpOp hi I ⟨fun _=>I,H⟩
   · have L:=H.2 j<|ready_mono J A;obtain ⟨ag,E,O,Z⟩:=mem_ready.1 J;have ac:listed.getD i false =false :=by
      have h0:=(mem_ready.1 hr).1;rcases dN i listed.size with V | V
      · simpa [V] using h0
      · simp [V] at h0
     have az:∀ x∈E.after,eQ md x=true→x.on≠i:=fun x aA hb heq=>by
      have L:=Z x aA hb;rw [heq,ac] at L; cases L
     have ae:j≠r:=by
      rintro rfl;have :=aq.listed aa fun o al=>by rw [O] at al; cases al; exact Z
      rw [ac] at this; cases this
     have ax:(listed.setIfInBounds j true).getD r false =false :=by rw [getD_set_ne false ae]; exact aj
     have ak:((listed.setIfInBounds i true).setIfInBounds j true).getD r false =false :=by rw [getD_set_ne false ae,getD_set_ne false au]; exact aj
     have ao:=wpOp_putIf O (ab j E O A ag az) (fun cs b=>am i C cs b hi) (fun cs b=>am j E cs b O) ap U L;have ar:∀ k ok,ops[k]? =some ok→k≠i→(listed.setIfInBounds j true).getD k true =false→
      (∀ x∈ok.after,eQ md x=true→x.on≠i)→C.apart ops ok=true :=fun k ok av aw an ay=>by
      refine ab k ok av aw ?_ ay;by_cases ad:j=k
      · subst ad; exact ag
      · rw [getD_set_ne true ad] at an; exact an
     refine wpOp_mono (fun a' w' M=>⟨fun _=>M.2.1 ak,ih (listed.setIfInBounds j true) a' w' (aa.set J) ar (ready_mono hr<|Ne.symm A) M.1 (M.2.1 ak) ax ?_⟩) ao;rw [Bv _ _ A];exact M.2.2
theorem QP {i:Nat} {C:aJ} {v:ah} (hi:ops[i]? =some C) (ag:∀ (j:Nat) (o:aJ) cs b,ops[j]? =some o→o.op≠.select cs b)
 (al:∀ c a w,Q (.panic c) (a.put C.dst v) w→Q (.panic c) a w) (V:i≠r):
 ∀ (fuel:Nat) (listed:Array Bool) (a:Act) (w:ai),
   (∀ j E,ops[j]? =some E→j≠i→listed.getD j true =false→(∀ x∈E.after,eQ md x=true→x.on≠i)→C.apart ops E=true)→
   i∈fF md ops listed→YieldsIf P ops (fun _=>True) C v a→(listed.getD r false =false→S w)→
   nu P md ops Q S r fuel (listed.setIfInBounds i true) (a.put C.dst v) w→nu P md ops Q S r (fuel+1) listed a w:=by
 intro fuel
 induction fuel with
 | zero=>
   intro listed a w _ hr M U H;refine ⟨fun h=>(by rw [h] at hr; cases hr),fun j L=> ?_⟩;by_cases A:j=i
   · subst A; exact M.wpOp hi trivial ⟨fun h=>U (by rw [getD_set_ne false V] at h; exact h),H⟩
   · have :=ready_mono L A;rw [H.1] at this;cases this
 | succ fuel ih=>
   intro listed a w ab hr M U H;refine ⟨fun h=>(by rw [h] at hr; cases hr),fun j L=> ?_⟩;by_cases A:j=i
   · subst A; exact M.wpOp hi trivial ⟨fun h=>U (by rw [getD_set_ne false V] at h; exact h),H⟩
   · have I:=H.2 j<|ready_mono L A;obtain ⟨ae,E,Z,am⟩:=mem_ready.1 L;have ao:listed.getD i false =false :=by
      have h0:=(mem_ready.1 hr).1;rcases dN i listed.size with O | O
      · simpa [O] using h0
      · simp [O] at h0
     have au:∀ x∈E.after,eQ md x=true→x.on≠i:=fun x av hb heq=>by
      have I:=am x av hb;rw [heq,ao] at I; cases I
     have ak:=wpOp_putIf Z (ab j E Z A ae au) (fun cs b=>ag i C cs b hi) (fun cs b=>ag j E cs b Z) al M I;have an:∀ k ok,ops[k]? =some ok→k≠i→(listed.setIfInBounds j true).getD k true =false→
      (∀ x∈ok.after,eQ md x=true→x.on≠i)→C.apart ops ok=true :=fun k ok ap aq aj ar=>by
      refine ab k ok ap aq ?_ ar;by_cases ad:j=k
      · subst ad; exact ae
      · rw [getD_set_ne true ad] at aj; exact aj
     have aa:(listed.setIfInBounds i true).setIfInBounds j true =(listed.setIfInBounds j true).setIfInBounds i true :=Bv _ _ fun e=>A e.symm;have ac:(listed.setIfInBounds j true).getD r false =false→((listed.setIfInBounds i true).setIfInBounds j true).getD r false =false :=fun h=>by rw [aa,getD_set_ne false V]; exact h
     refine wpOp_mono (fun a' w' J=>⟨fun h=>J.2.1 (ac h),ih (listed.setIfInBounds j true) a' w' an (ready_mono hr<|Ne.symm A) J.1 (fun h=>J.2.1<|ac h) ?_⟩) ak;rw [← aa];exact J.2.2
end
section
variable {P:av} {N:Fm} {ops:Array aJ} {Q:bM→(Nat→ah)→ai→Prop} {σ:Nat→ah} {w:ai} {S:ai→Prop} {r fuel:Nat} {listed:Array Bool}
 {d:Nat} {op:Op} {ty:au} {pos :String} {af:Array cH} {v:ah}
def vw (ops:Array aJ) (i:Nat):Nat→Nat→Bool
 | 0,_=>false
 | f+1,r=>match ops[r]? with | some o=>o.after.toList.any (fun e=>eQ .any e && (e.on==i || vw ops i f e.on)) | none=>false
theorem Lk {i:Nat} :∀ (f r:Nat),vw ops i f r=true→oP .any ops i r:=by
 intro f
 induction f with
 | zero=>intro r h; cases h
 | succ f ih=>
   intro r h;rw [vw] at h;split at h
   · rename_i o A;simp only [IC,bO,lI,beq_iff_eq] at h;obtain ⟨e,he,hb,h⟩:=h;rcases h with h | h
     · exact .one A (xS.1 he) hb h
     · exact .more A (xS.1 he) hb<|ih _ h
   · cases h
def yR (ops:Array aJ) (listed:Array Bool):Bool:=(qt ops.size).all fun j=> !listed.getD j false || match ops[j]? with | some o=>o.after.toList.all (fun e=> !eQ .any e || listed.getD e.on false) | none=>true
theorem Kx (h:yR ops listed=true):oO .any ops listed:=by grind [yR,oO]
def zy (F:List Nat) (ops:Array aJ) (listed:Array Bool) (r i:Nat):Bool:=fU F ops listed i && !(listed.getD r false) && i !=r && yR ops listed && vw ops i ops.size r
def o9 (F:List Nat) (ops:Array aJ) (listed:Array Bool) (r i:Nat):Bool:=fU F ops listed i && i !=r
theorem ET (i:Nat) (hi:ops[i]? =some ⟨some d,op,ty,pos,af,none⟩) (C:zy N.F ops listed r i=true)
 (J:∀ w,S w→(execOp (ev N σ) ⟨some d,op,ty,pos,af,none⟩).run P w= .ok (.value v) w) (A:S w)
 (k:db P N ops Q S r fuel (listed.setIfInBounds i true) (bI σ d v) w):db P N ops Q S r (fuel+1) listed σ w:=by
 simp only [zy,fU,bO,mC,bne_iff_ne,ne_eq] at C;obtain ⟨⟨⟨⟨⟨⟨⟨E,I⟩,hf3⟩,hfF⟩,hf4⟩,hf5⟩,hf6⟩,hf7⟩:=C;rw [hi] at hfF;unfold db at*;refine QN hi (BC E) (fun c a w=>po hfF c a w) (Lk _ _ hf7) hf5 fuel listed _ w (Kx hf6) (BB hi I) (by simpa using hf3) (.inl ⟨gR _ rfl _,fun w A=> ?_⟩) A hf4 ?_ (v:=v)
 · rw [ej]; exact J w A
 · rw [gi]; exact k
theorem tE (i:Nat) (hi:ops[i]? =some ⟨some d,op,ty,pos,af,none⟩) (A:o9 N.F ops listed r i=true)
 (J:∀ w,(execOp (ev N σ) ⟨some d,op,ty,pos,af,none⟩).run P w= .ok (.value v) w) (C:listed.getD r false =false→S w)
 (k:db P N ops Q S r fuel (listed.setIfInBounds i true) (bI σ d v) w):db P N ops Q S r (fuel+1) listed σ w:=by
 simp only [o9,fU,bO,bne_iff_ne,ne_eq] at A;obtain ⟨⟨⟨⟨E,I⟩,hf3⟩,hfF⟩,hf5⟩:=A;rw [hi] at hfF;unfold db at*;refine QP hi (BC E) (fun c a w=>po hfF c a w) hf5 fuel listed _ w (BB hi I) (by simpa using hf3) (.inl ⟨gR _ rfl _,fun w _=> ?_⟩) C ?_ (v:=v)
 · rw [ej]; exact J w
 · rw [gi]; exact k
end
end Go.Hb
namespace Go.Hb
def Hq:Nat→Nat→List UInt8
 | 0,n=> [ga n]
 | f+1,n=>if n < 128 then [ga n] else ga (n % 128 +128)::Hq f (n / 128)
def Qg (n:Nat):List UInt8:=Hq n n
def frame:List (List UInt8)→List UInt8
 | []=> []
 | r::l=>Qg r.length++(r++frame l)
theorem ib {α:Type} (l:List α) (i:Nat) (d:α) (h:i < l.length):l.take (i+1)=l.take i++ [l.getD i d]:=by simp_all
end Go.Hb
namespace Go.Hb
def U8 (l:List UInt8):List ah:=l.map fun b=>bh .u8 b.toNat
theorem vd (l:List UInt8):(U8 l).length=l.length:=by simp [U8]
theorem yA (a b:List UInt8):U8 (a++b)=U8 a++U8 b:=by simp [U8]
def nN (P:av) (t e u:au):Bool:=
 eJ P t e 1 1 && (match P.underlying e with | some (.int .u8)=>true | _=>false) && (match P.underlying u with | some .string=>true | _=>false) &&
  (match P.info? e with | some i=>(match i.zero with | some (.int .u8 0)=>true | _=>false) | none=>false)
theorem Cy {P:av} {t e u:au} (h:nN P t e u=true):
 eJ P t e 1 1=true∧P.underlying e=some (.int .u8)∧P.underlying u=some .string∧∃ i,P.info? e=some i∧i.zero=some (.int .u8 0):=by grind [nN,eJ]
section
variable {P:av} {N:Fm} {σ:Nat→ah} {w:ai} {dst:Option Nat} {ty:au} {pos :String} {af:Array cH} {g:Option (Nat×Bool)} {x y z:bA} {K:(Nat→ah)→ai→Prop}
theorem foldl_push (l:List UInt8) (r:ByteArray):(l.map fun b=>(b.toNat:Int)).foldl (fun r n=>r.push<|ga n.toNat) r=⟨r.data++l.toArray⟩:=by
 induction l generalizing r with
 | nil=>simp
 | cons b l ih=>
   simp only [fZ,uH];rw [ih];apply ByteArray.ext;simp [ByteArray.push]
theorem lW {t e u n c:Nat} {a:Option ba} {l:List UInt8} (h:nN P t e u=true) (V:ev N σ x= .slice a n c) (A:aU w.heap a (U8 l)) (C:l.length=n):
 (execOp (ev N σ) ⟨dst,.convert t u x,ty,pos,af,g⟩).run P w= .ok (.value<|str l) w:=by
 obtain ⟨E,I,J,_⟩:=Cy h;obtain ⟨hu,_⟩:=ow E;have L:(Ia<|.slice a n c).run P w= .ok (str l) w:=by
  by_cases he:l= []
  · subst he;cases a with
    | none=>simp [Ia,str]; rfl
    | some a=>
      subst C;have :=run_bytesToString (P:=P) w a 0 c []<|by simp [loadCells,loadCellsFrom]
      exact this.trans U
  · have ha:=A.ok<|by simpa [U8] using he
    have O:(loadCells ⟨bk a,fo a,none⟩ n).run P w= .ok ((l.map fun b=>(b.toNat:Int)).map<|bh .u8).toArray w:=by
     subst C;have :=run_loadCells_list (P:=P) w ⟨bk a,fo a,none⟩ (U8 l) fun j v M=>by
      rw [gw,j4];exact A.aO j v M
     rw [vd] at this;rw [this];simp [U8]
    rw [ha,run_bytesToString w _ n c _ O,foldl_push];simp [str,ByteArray.empty,ByteArray.emptyWithCapacity];rfl
 simp [execOp,V,run_convert_bytes_string w t u e a n c hu I J,L]
theorem JE {t e u B n:Nat} {v:ah} {xs:List ah} {l:List UInt8} (h:nN P t e u=true) (E:w.ownsRow B e 1 v n xs) (U:ev N σ x=v) (ae:B≤w.heap.size) (am:ev N σ y=str l)
 (hb:n+l.length≤140737488355328)
 (k:∀ C w',w'.ownsRow B e 1 C (n+l.length) (xs++U8 l)→Md (fun k=>v.ownBlock=some k) w w'→(C= .slice none 0 0↔v= .slice none 0 0∧l= [])→(∀ k,C.ownBlock=some k→v.ownBlock=some k∨w.heap.size≤k)→K (dq σ dst C) w'):
 cy P N ⟨dst,.call ⟨.builtin .append,#[x,y],#[t,u]⟩,ty,pos,af,g⟩ σ w K:=by
 obtain ⟨aa,ao,J,i,hi,V⟩:=Cy h;obtain ⟨hu,j,zv,aj,_,M,O,_,_⟩:=ow aa;obtain rfl :j=i:=Option.some.inj<|aj.symm.trans hi;obtain ⟨C,w',hr,ac,L,ad⟩:=Iq (P:=P) w B t u ty e j hu J hi V M O v n xs E ⟨⟨l⟩⟩ (by show n+l.length≤maxLen; unfold maxLen; omega) hb ae;refine jU (w':=w') (v:=C) ?_ (k C w' ac ⟨L.os,L.output,L.size,fun k A ak=>L.block k A fun e=>ak e.symm⟩ ?_ ?_)
 · have an:ev N σ y= .string ⟨⟨l⟩⟩:=am;simp [execOp,resolve,invoke,builtin,U,an,hr]
 · rw [ad];show (_∧l.length=0)↔_;simp
 · intro k A;rcases E.2 with ⟨rfl,rfl⟩ | ⟨I,cap,cur,rfl,aq,ai,av,ar,au,aw⟩
   · have U:xs= []:=ku<|by simpa using E.1
     subst U;obtain ⟨v2,w2,Z,ab,_,_⟩:=Iq (P:=P) w w.heap.size t u ty e j hu J hi V M O _ 0 [] (eL w w.heap.size e 1) ⟨⟨l⟩⟩ (by show 0 +l.length≤maxLen; unfold maxLen; omega) (by show 0 +l.length≤_; omega)<|bf _;rw [hr] at Z;cases Z;rcases ab.2 with ⟨h,_⟩ | ⟨g2,_,_,h,ap,_⟩
     · rw [h] at A; simp [dM] at A
     · rw [h] at A; simp only [dM,bR] at A; exact .inr ag
   · by_cases al:n+l.length≤cap
     · rw [Lib.run_append_room_string (P:=P) w t u ty e j hu J hi M I n cap cur ai ⟨⟨l⟩⟩ al (by show n+l.length≤_; omega)] at hr;cases hr;exact .inl A
     · have holds:∀ j u,xs[j]? =some u→w.cell? ((⟨I,0,none⟩:ba).add j)=some u:=E.cells (g:=I) rfl;rw [Lib.run_append_grow_string (P:=P) w t u ty e j _ hu J hi V ⟨I,0,none⟩ n cap xs (by rw [M]; exact E.1) holds ⟨⟨l⟩⟩ (by show cap < n+l.length; omega) (by show ((n+l.length:Nat):Int)≤_; omega) (growslice_fits (by show cap < n+l.length; omega)<|by rw [O]; show (n+l.length)*1≤_; omega)] at hr;cases hr;simp only [dM,bR] at A;exact .inr ag
theorem Bg {at_:Array au} {v:ah} {a:Option ba} {n c:Nat} (A:ev N σ x= .slice a n c) (h:a=none∨c≠0):
 (execOp (ev N σ) ⟨dst,.call ⟨.builtin .unsafeSliceData,#[x],at_⟩,ty,pos,af,g⟩).run P w= .ok (.value<|.pointer a) w:=by
 have _:=v;have :(Builtin.unsafeSliceData_ at_ ty #[.slice a n c]).run P w= .ok (.pointer a) w:=by
  cases a with
  | none=>exact Lib.run_unsafeSliceData_nil w at_ ty n c
  | some a=>exact Lib.run_unsafeSliceData_row w at_ ty a n c<|h.resolve_left<|by simp
 simp [execOp,resolve,invoke,builtin,A,this]
def ptrTo (P:av) (A e:au):Bool:=match P.underlying A with | some (.pointer e')=>e'==e && P.cellsOf e==1 | _=>false
theorem Qw {I it e B n c:Nat} {a:Option ba} {l:List UInt8} {xs:List ah} (hp:ptrTo P I e=true) (L:ev N σ x= .pointer a) (M:ev N σ y= .int .i64 n) (E:w.ownsRow B e 1 (.slice a n c) n xs)
 (aj:xs=U8 l) (al:n≤9223372036854775807)
 (k:∀ w',Md (fun k=>(eY a n c).ownBlock=some k) w w'→w'.heap.size=w.heap.size→K (dq σ dst<|str l) w'):
 cy P N ⟨dst,.call ⟨.builtin .unsafeString,#[x,y],#[I,it]⟩,ty,pos,af,g⟩ σ w K:=by
 subst aj;have A:l.length=n:=by have :=E.1; simpa [U8] using this
 unfold ptrTo at hp;split at hp
 case h_2=>cases hp
 rename_i e' hu;simp only [bO,beq_iff_eq] at hp;obtain ⟨rfl,O⟩:=hp;by_cases he:l= []
 · subst he;obtain rfl :n=0:=A.symm;refine jU (w':=w) (v:=str []) ?_<|k w (Md.refl _ _) U;simp [execOp,resolve,invoke,builtin,L,M,Lib.run_unsafeString_none];rfl
 · rcases E.2 with ⟨h,h0⟩ | ⟨C,cap,cur,h,_,Z,hle,_,ai,am⟩
   · subst h0; simp only [List.length_eq_zero_iff] at A; exact absurd A he
   · simp only [mI,true_and] at h;obtain ⟨rfl,rfl⟩:=h;have ae:w.shape? C=some (e',cur.size):=by simp [BE,Z]
     have hr:=Lib.run_unsafeString_row (P:=P) w I it ty e' hu O C cur.size ae l he (by rw [A,ai]; omega) ag (fun j u hu=>by
      obtain ⟨ad,ak,J,V,_,aa,_⟩:=tO E;simp only [mI,true_and] at J;obtain ⟨rfl,rfl⟩:=J;rw [gw,j4];exact V.aO j _ (by simp [U8,hu]))
     refine jU (w':=w.freeze ⟨C,0,none⟩ l.length) (v:=str l) ?_ (k _ ⟨?_,?_,?_,?_⟩ ?_)
     · simp [execOp,resolve,invoke,builtin,L,M,← A,hr,str]
     · unfold nD; split <;> rfl
     · unfold nD; split <;> rfl
     · unfold nD; split <;> simp
     · intro k aa ab;have ac:k≠C:=fun e=>ab<|by simp [dM,e]
       unfold nD;split
       · rfl
       · simp only [Array.getElem?_modify]; rw [if_neg (fun e=>ac e.symm)]
     · unfold nD; split <;> simp
def pQ (P:av) (A up e n:Nat):Bool:=
 (match P.underlying A with | some (.pointer e')=>e'==e | _=>false) && (match P.underlying up with | some .unsafePointer=>true | _=>false) && P.cellsOf e==n && aZ 0 n && (match P.info? e with | some i=>i.size==n | _=>false)
theorem Ht {P:av} {E up e n:Nat} (h:pQ P E up e n=true):P.underlying E=some (.pointer e)∧P.underlying up=some .unsafePointer∧P.cellsOf e=n∧0 < n∧∃ i,P.info? e=some i∧i.size=n:=by
 simp only [pQ,bO] at h;obtain ⟨⟨⟨⟨A,C⟩,h3⟩,h4⟩,h5⟩:=h;refine ⟨?_,?_,by simpa using h3,oI (oJ 0) (cE h4),?_⟩
 · split at A
   · rename_i h; simp only [beq_iff_eq] at A; rw [h,A]
   · cases A
 · split at C
   · rename_i h; exact h
   · cases C
 · split at h5
   · rename_i i hi; exact ⟨i,hi,by simpa using h5⟩
   · cases h5
theorem Hc {A up e n b:Nat} {L:List ah} (h:pQ P A up e n=true) (U:ev N σ x= .pointer (some ⟨b,0,none⟩)) (hb:w.heap[b]? =some (.cells L.toArray e (0,0))) (I:L.length=n):
 (execOp (ev N σ) ⟨dst,.convert A up x,ty,pos,af,g⟩).run P w= .ok (.value<|.pointer<|some ⟨b,0,none⟩) w:=by
 obtain ⟨C,E,V,Z,i,hi,M⟩:=Ht h;have O:w.shape? b=some (e,L.length):=by simp [BE,hb]
 have J:¬n=0:=ag;simp [execOp,U,convert,bS C,bS E,Ic,Ib,viewAt,O,cellsIn,I,sizeOf,eh hi,M,J]
theorem D8 {E up e n b:Nat} {L:List ah} (h:pQ P E up e n=true) (ab:ev N σ x= .pointer (some ⟨b,0,none⟩)) (hb:w.heap[b]? =some (.cells L.toArray e (0,0))) (U:L.length=n):
 (execOp (ev N σ) ⟨dst,.convert up E x,ty,pos,af,g⟩).run P w= .ok (.value<|.pointer<|some ⟨b,0,none⟩) w:=by
 obtain ⟨I,J,M,O,i,hi,Z⟩:=Ht h;have aa:w.shape? b=some (e,L.length):=by simp [BE,hb]
 have C:¬n=0:=ag;have V:liesAt P P.depth e (L.length / P.cellsOf e) 0 e 1=true :=by
  have A:P.depth=(2 *(P.types.size+Made.depth)+1)+1:=rfl;rw [A];simp only [liesAt,lI];left;rw [A];simp [rowAt,M,C,U,sameLayout,Nat.div_self O]
 simp [execOp,ab,convert,bS I,bS J,Ic,Ib,viewAt,aa,variablesAt,sizeOf,eh hi,Z,C,V]
theorem NC {t J e:au} {a:ba} (hu:P.underlying t=some (.pointer e)) (C:(P.info? e).isSome=true) (E:ev N σ x= .pointer (some a)) (I:ev N σ y= .pointer (some a)):
 (execOp (ev N σ) ⟨dst,.binOp .neq t x y J,ty,pos,af,g⟩).run P w= .ok (.value<|.bool false) w:=by
 obtain ⟨i,hi⟩:=oL.1 C;have he:∀ d,(jW (d+1) t (.pointer<|some a)<|.pointer<|some a).run P w= .ok true w:=by
  intro d;simp [jW,bS hu,sizeOf,eh hi,sameAddr]
 have h:(binOp .neq t (.pointer<|some a)<|.pointer<|some a).run P w= .ok (.bool false) w:=by
  have :=he 9999;simp only [binOp];have A:(oD t (.pointer<|some a)<|.pointer<|some a).run P w= .ok true w:=this;simp [A]
 simp [execOp,E,I,eqGuard,h]
theorem Kz {f:eX} {args:Array bA} {A:Array au} {v:ah} (E:∀ v w,(callFunc f #[v]).run P w= .ok (.value v) w) (C:args.toList.map (ev N σ)= [v]):
 (execOp (ev N σ) ⟨dst,.call ⟨.value (.func f),args,A⟩,ty,pos,af,g⟩).run P w= .ok (.value v) w:=by
 have :args.map (ev N σ)= #[v]:=by rw [← su,ju,C]
 simp [execOp,resolve,ev,mE,invoke,this,E]
structure Bd (T e:au) (w:ai) (b:Nat) (buf:ah) (l:List UInt8):Prop where
 ax:∃ pa,w.heap[b]? =some (.cells [cZ pa,buf].toArray T (0,0))∧(pa=none∨pa=some ⟨b,0,none⟩)
 own:w.ownsRow (b+1) e 1 buf l.length (U8 l)
 nil:buf= .slice none 0 0↔l= []
def BF (b:Nat) (A:ah) (k:Nat):Prop :=k=b∨A.ownBlock=some k
end
theorem Bd.lt {T e b:Nat} {w:ai} {A:ah} {l:List UInt8} (h:Bd T e w b A l):b < w.heap.size:=let ⟨_,h,_⟩:=h.ax; (cr.1 h).1
theorem Bd.vL {T e b:Nat} {w:ai} {C:ah} {l:List UInt8} (h:Bd T e w b C l) {k:Nat} (A:BF b C k):b≤k∧k < w.heap.size:=by
 rcases A with rfl | A
 · exact ⟨bf _,h.lt⟩
 · have :=h.own.lt k A; omega
theorem Bd.md {T e b:Nat} {F:Nat→Prop} {w w':ai} {A:ah} {l:List UInt8} (h:Bd T e w b A l) (hm:Md F w w') (C:∀ k,BF b A k→¬F k):Bd T e w' b A l:=by
 obtain ⟨⟨L,E,I⟩,h3,h4⟩:=h;exact ⟨⟨L,hm.ax E (C b<|.inl U),I⟩,cB h3 hm (fun k J=>C k<|.inr J),h4⟩
end Go.Hb
namespace Go.Hb
def eF (P:av) (t:au):Option (List (Nat×Nat)×List ah):=
 match P.info? t,P.underlying t with
 | some it,some (.struct fields)=>
   match it.zero,fields.toList.mapM (fun f=>(P.info? f.type).map fun i=>(f.offset,i.size)) with
   | some z,some pl=>some (pl,z.cells.toList)
   | _,_=>none
 | _,_=>none
def tQ (pl:List (Nat×Nat)):List ah→List (Nat×ah)→Option (List ah)
 | A,[]=>some A
 | A,(i,v)::r=>match pl[i]? with
   | some (off,s)=>if (s==1 && v.oneCell' && aZ off A.length)=true then tQ pl (A.set off v) r else none
   | none=>none
theorem Oc {pl:List (Nat×Nat)} {A L:List ah} {ps:List (Nat×ah)} (h:tQ pl A ps=some L):ko (pl.toArray[·]?) A.toArray ps=some L.toArray:=by
 induction ps generalizing A with
 | nil=>simp only [tQ,bR] at h; subst h; rfl
 | cons p ps ih=>
   obtain ⟨i,v⟩:=p;simp only [tQ] at h;split at h
   · rename_i off s J;split at h
     · rename_i C;simp only [bO,beq_iff_eq] at C;obtain ⟨⟨rfl,E⟩,ho⟩:=C;have O:off < A.length:=cE ho;have M:v.cells= #[v]:=mj E;have I:pl.toArray[i]? =some (off,1):=by simpa using J
       simp only [ko,I,M];rw [if_neg (by simp; omega),← ih h];simp
     · cases h
   · cases h
theorem DY {α:Type} {f:α→List ah} {m:Nat} (A:∀ a,(f a).length=m) (l:List α):(l.flatMap f).length=l.length*m:=by
 induction l with
 | nil=>simp
 | cons x l ih=>simp [ih,A,BT,Nat.add_comm]
theorem L0 {α:Type} {f:α→List ah} {m:Nat} (A:∀ a,(f a).length=m) {l:List α} {j c:Nat} {a:α} (h:l[j]? =some a) (C:c < m):(l.flatMap f)[j*m+c]? =(f a)[c]? :=by
 induction l generalizing j with
 | nil=>simp at h
 | cons x l ih=>
   cases j with
   | zero=>
     simp only [List.getElem?_cons_zero,bR] at h; subst h;rw [yq,dx,IK,eZ (by rw [A]; exact C)]
   | succ j=>
     simp only [jZ] at h;rw [IK,eH (by rw [A,BT]; omega),A,show (j+1)*m+c - m=j*m+c from by rw [BT]; omega];exact ih h
theorem mZ {α:Type} {f:α→List ah} {m:Nat} (C:∀ a,(f a).length=m) {h:Array Obj} {a:Option ba} {l:List α} {i:Nat} {e:α} (J:aU h a (l.flatMap f)) (L:l[i]? =some e):∀ j,j < m→Hb.aO h (bk a) (fo a+i*m+j)=(f e)[j]? :=by
 intro j E;have A:=L0 C L E;have I:j < (f e).length:=by rw [C]; exact E
 rw [cI I] at A ⊢;rw [jy]; exact J.aO _ _ A
theorem o8 {α:Type} {f:α→List ah} {m:Nat} (A:∀ a,(f a).length=m) (hm:0 < m) {l:List α} (h:0 < l.length):l.flatMap f≠[]:=by
 intro e;have :=DY A l;rw [e] at this;have :0 < l.length*m:=Nat.mul_pos h hm;simp at*; omega
section
variable {P:av} {N:Fm} {σ:Nat→ah} {w:ai} {dst:Option Nat} {ty:au} {pos :String} {af:Array cH} {g:Option (Nat×Bool)} {x y z:bA} {K:(Nat→ah)→ai→Prop}
theorem dE {t:au} {parts:Array (Nat×bA)} {pl:List (Nat×Nat)} {A L:List ah} {ps:List (Nat×ah)} (h:eF P t=some (pl,A)) (hp:parts.toList.map (fun p=>(p.1,ev N σ p.2))=ps) (C:tQ pl A ps=some L):
 (execOp (ev N σ) ⟨dst,.build t parts,ty,pos,af,g⟩).run P w= .ok (.value<|.agg L.toArray) w:=by
 unfold eF at h;split at h
 · rename_i it fields hi hu;split at h
   · rename_i z I E hm;simp only [bR,kY] at h;obtain ⟨rfl,rfl⟩:=h;have hb:P.built t (parts.map fun p=>(p.1,ev N σ p.2)).toList=some L.toArray:=by
      have :=Oc C;simp only [Bw] at this;simp only [It,hi,hu,E,hm,ju,hp]; exact this
     simp [execOp,run_build w t _ _ hb]
   · cases h
 · cases h
theorem Cr {t:au} {parts:Array (Nat×bA)} {pl:List (Nat×Nat)} {A L:List ah} {ps:List (Nat×ah)} (h:eF P t=some (pl,A)) (hp:parts.toList.map (fun p=>(p.1,ev N σ p.2))=ps) (C:ko (pl.toArray[·]?) A.toArray ps=some L.toArray):
 (execOp (ev N σ) ⟨dst,.build t parts,ty,pos,af,g⟩).run P w= .ok (.value<|.agg L.toArray) w:=by
 unfold eF at h;split at h
 · rename_i it fields hi hu;split at h
   · rename_i z I E hm;simp only [bR,kY] at h;obtain ⟨rfl,rfl⟩:=h;have hb:P.built t (parts.map fun p=>(p.1,ev N σ p.2)).toList=some L.toArray:=by
      have :=C;simp only [Bw] at this;simp only [It,hi,hu,E,hm,ju,hp]; exact this
     simp [execOp,run_build w t _ _ hb]
   · cases h
 · cases h
end
end Go.Hb
namespace Go.Hb
section
variable {P:av} {N:Fm} {σ:Nat→ah} {w:ai} {dst:Option Nat} {ty:au} {pos :String} {af:Array cH} {g:Option (Nat×Bool)} {x y z:bA} {K:(Nat→ah)→ai→Prop}
theorem Nk {zv:ah} (A:zv.oneCell'=true) (n:Nat):madeCells zv.cells n=(eM n zv).toArray:=by
 rw [mj A];apply Array.ext
 · simp [madeCells]
 · intro i C E;simp [madeCells,Nat.mod_one]
theorem jk {t e bytes n:Nat} {L J:bY} {zv:ah} (ad:eJ P t e 1 bytes=true) (A:zeroOf P e=some (some [zv])) (C:zv.oneCell'=true) (ae:ev N σ x= .int L n) (ai:ev N σ y= .int J n) (hb:bytes*n≤281474976710656) (E:n≤maxLen)
 (k:∀ b w',b=w.heap.size→Nw w w'→(∀ B,B≤b→w'.ownsRow B e 1 (.slice (some ⟨b,0,none⟩) n n) n (eM n zv))→K (dq σ dst<|.slice (some ⟨b,0,none⟩) n n) w'):cy P N ⟨dst,.makeSlice t x y,ty,pos,af,g⟩ σ w K:=by
 obtain ⟨hu,i,M,hi,I,ac,ab,al,ak⟩:=ow ad;have aj:M.cells= #[zv]:=by
  unfold zeroOf at A;simp only [hi,I,e7,bR] at A;exact su.1<|by simpa using A
 refine lH (v:=fun b=> .slice (some ⟨b,0,none⟩) n n) (ob:= .cells (eM n zv).toArray e (0,0)) ?_ fun b w' O V Z=>k b w' O V fun B aa=>⟨by simp,.inr ⟨b,n,_,U,aa,Z,bf _,E,by simp,by simp⟩⟩
 have hr:=run_make (P:=P) w t e i M hu hi I L J n n ag (Int.le_refl _) (by rw [ab,← Int.natCast_mul]; omega)<|by unfold maxLen at E; omega
 rw [aj,ac,oK,Int.toNat_natCast,show madeCells #[zv] n=(eM n zv).toArray by rw [← Nk C,mj C]] at hr;simp [execOp,ae,ai,hr]
end
end Go.Hb
namespace Go.Hb
section
variable {P:av} {N:Fm} {σ:Nat→ah} {w:ai} {dst:Option Nat} {ty:au} {pos :String} {af:Array cH} {g:Option (Nat×Bool)} {x y z:bA}
theorem CG {t n len cap i:Nat} {a:Option ba} {k I:bY} (he:dH P t=some n) (A:ev N σ x= .slice a len cap) (C:ev N σ y= .int k (i:Nat)) (E:ev N σ z= .int I (i:Nat)) (h:i≤cap):
 (execOp (ev N σ) ⟨dst,.slice t x none (some y) (some z),ty,pos,af,g⟩).run P w= .ok (.value<|.slice a i i) w:=by
 have h0:(0:Int)≤(i:Int):=ag;unfold dH at he;cases hd:P.underlying t with
 | none=>rw [hd] at he; cases he
 | some d=>
   rw [hd] at he;cases d <;> first | (cases he; done) | skip
   rename_i e;cases hi':P.info? e with
   | none=>simp [hi'] at he
   | some j=>
     have ha:(if i=0 then a else a.map (·.add 0))=a:=by
      split
      · rfl
      · cases a <;> simp [xU]
     simp only [execOp,p7,ux,A,C,E,e7,Option.map_none,mG,qa,asIntOf];simp [bS hd,eh hi',sizeOf,h0,ha];intro J; omega
end
end Go.Hb
namespace Go.Hb
def lR (h:Array Obj) (b:Nat) (kvs:List (ah×ah)):Prop := ∃ es clock,h[b]? =some (.map es clock)∧es.toList.map (fun e=>(e.key,e.val))=kvs
theorem lR.md {F:Nat→Prop} {w w':ai} {b:Nat} {kvs:List (ah×ah)} (h:lR w.heap b kvs) (hm:Md F w w') (A:¬F b):lR w'.heap b kvs:=
 let ⟨es,c,h1,h2⟩:=h; ⟨es,c,hm.ax h1 A,h2⟩
theorem lR.lt {h:Array Obj} {b:Nat} {kvs:List (ah×ah)} (hm:lR h b kvs):b < h.size:=by grind [lR]
structure qA (P:av) (k:au) (bj:ah→Prop):Prop where
 check:∀ em w v,bj v→(mF em 10000 k v).run P w= .ok () w
 find:∀ w x es,bj x→(∀ e∈es,bj e.key)→
  ((pY k x es).run P w= .ok none w∧∀ e∈es,e.key≠x)∨∃ j e,(pY k x es).run P w= .ok (some (j,e.val)) w∧es[j]? =some e∧e.key=x
theorem Ke {P:av} {k:au} {em:Bool} {n:Nat} {a:Bool} (A:P.underlying k=some .bool) (w:ai):(mF em (n+1) k<|.bool a).run P w= .ok () w:=by
 simp only [mF,ie,bS A,gS,jY]
theorem CD {P:av} {k:au} {em:Bool} {n:Nat} {a:List UInt8} (A:P.underlying k=some .string) (w:ai):(mF em (n+1) k<|str a).run P w= .ok () w:=by
 simp only [str,mF,ie,bS A,gS,jY]
def zK (v:ah):Prop := ∃ (f:Bool) (s:List UInt8),v= .agg #[.bool f,str s]
def oY (P:av) (k:au):Bool:=
 match P.underlying k with
 | some (.struct A)=>match A.toList with
   | [f1,f2]=>f1.name != "_" && f2.name != "_" && f1.offset==0 && f2.offset==1 && !P.stoodInHeld k &&
     (match P.underlying f1.type with | some .bool=>true | _=>false) && (match P.underlying f2.type with | some .string=>true | _=>false)
   | _=>false
 | _=>false
theorem wP {P:av} {t:au} {cs:Array ah} {o:Nat} {v:ah} {d:TypeDesc} (C:P.underlying t=some d) (A:(match d with | .bool | .string=>true | _=>false)=true) (E:cs[o]? =some v) (w:ai):(part t cs o).run P w= .ok v w:=by
 cases d <;> first | (cases A; done) | simp [part,isAgg,bS C,E]
theorem yL {P:av} {k:au} (h:oY P k=true):∃ A f1 f2,P.underlying k=some (.struct A)∧A.toList= [f1,f2]∧f1.name≠ "_" ∧f2.name≠ "_" ∧f1.offset=0∧f2.offset=1∧P.stoodInHeld k=false∧P.underlying f1.type=some .bool∧P.underlying f2.type=some .string:=by grind [oY]
theorem LC {P:av} {k:au} (h:oY P k=true) {f g:Bool} {s t:List UInt8} (w:ai):(oD k (.agg #[.bool f,str s])<|.agg #[.bool g,str t]).run P w= .ok (decide (f=g∧s=t)) w:=by
 obtain ⟨M,f1,f2,hu,ab,O,U,V,Z,aa,A,C⟩:=yL h;have E:P.fieldsOf k=M:=by simp [Program.fieldsOf,hu]
 have J:∀ (x:Bool) (y:List UInt8) (w:ai),(part f1.type #[.bool x,str y] f1.offset).run P w= .ok (.bool x) w:=fun x y w=>wP A rfl (by rw [V]; rfl) w;have L:∀ (x:Bool) (y:List UInt8) (w:ai),(part f2.type #[.bool x,str y] f2.offset).run P w= .ok (str y) w:=fun x y w=>wP C rfl (by rw [Z]; rfl) w;unfold oD;show (jW (9998 +1 +1) k _ _).run P w=_;rw [run_equalIn_struct w (9998 +1) k _ _ (by rw [E]; exact hu) aa,E,ab];simp only [Op.eqFields,ie,uC,J,L,gS,run_equalIn_bool' w 9998 f1.type f g A,O,U,ne_eq,not_false_eq_true,if_true];by_cases I:f=g
 · subst I;have :(jW (9998 +1) f2.type (str s)<|str t).run P w= .ok (decide (s=t)) w:=by
    rw [str,str,run_equalIn_string w 9998 f2.type _ _ C,H6,H6];congr 1;by_cases bK:s=t
    · subst bK; simp
    · simp [bK]
   simp only [beq_self_eq_true,Bool.not_true,uu,if_false,this,gS,true_and];by_cases bK:s=t <;> simp [bK]
 · simp [I]
theorem Kf {P:av} {k:au} {em:Bool} {n:Nat} (h:oY P k=true) {f:Bool} {s:List UInt8} (w:ai):(mF em (n+1 +1) k<|.agg #[.bool f,str s]).run P w= .ok () w:=by
 obtain ⟨V,f1,f2,hu,U,J,L,M,O,Z,A,C⟩:=yL h;have E:∀ (w:ai),(part f1.type #[.bool f,str s] f1.offset).run P w= .ok (.bool f) w:=fun w=>wP A rfl (by rw [M]; rfl) w;have I:∀ (w:ai),(part f2.type #[.bool f,str s] f2.offset).run P w= .ok (str s) w:=fun w=>wP C rfl (by rw [O]; rfl) w;rw [mF];simp only [ie,bS hu,gS];rw [← Array.forIn_toList,U];simp only [List.forIn_cons,List.forIn_nil,ie,E,I,J,L,ne_eq,not_false_eq_true,if_true,gS,Ke A,CD C,jY]
theorem DV {P:av} {k:au} (h:oY P k=true) {f:Bool} {s:List UInt8} (w:ai):∀ (es:List MapEntry) (i:Nat),(∀ e∈es,zK e.key)→
 ((pX k (.agg #[.bool f,str s]) es i).run P w= .ok none w∧∀ e∈es,e.key≠.agg #[.bool f,str s])∨∃ j e,(pX k (.agg #[.bool f,str s]) es i).run P w= .ok (some (i+j,e.val)) w∧es[j]? =some e∧e.key= .agg #[.bool f,str s]
 | [],i,_=> .inl ⟨by simp [pX],fun _ h=>by simp at h⟩
 | e::es,i,hk=>by
   obtain ⟨g,t,ha⟩:=hk e<|by simp
   have he:=LC h (f:=f) (g:=g) (s:=s) (t:=t) w;rw [← ha] at he;by_cases A:f=g∧s=t
   · obtain ⟨rfl,rfl⟩:=A;refine .inr ⟨0,e,?_,U,ha⟩;simp [pX,he]
   · have M:e.key≠.agg #[.bool f,str s]:=by
      rw [ha]; intro I; simp [str] at I; exact A ⟨I.1.symm,I.2.symm⟩
     rcases DV (f:=f) (s:=s) h w es (i+1) (fun e he=>hk e<|by simp [he]) with ⟨C,E⟩ | ⟨j,e',C,E,L⟩
     · refine .inl ⟨by simp [pX,he,A,C],fun e' J=> ?_⟩;rcases ew.1 J with rfl | J
       · exact M
       · exact E e' J
     · refine .inr ⟨j+1,e',?_,E,L⟩;simp only [pX,ie,he,A,gS,decide_false,uC,uu,if_false,C]; rw [show i+1 +j=i+(j+1) from by omega]
theorem ML {P:av} {k:au} (h:oY P k=true):qA P k zK where
 check em w v hv:=by obtain ⟨f,s,rfl⟩:=hv; exact Kf (n:=9998) h w
 find w x es hx hes:=by
  obtain ⟨f,s,rfl⟩:=hx;obtain ⟨L,f1,f2,hu,_⟩:=yL h;have J:es≠[]→(pY k (.agg #[.bool f,str s]) es).run P w=(pX k (.agg #[.bool f,str s]) es).run P w:=by
   intro A;cases es with
   | nil=>exact absurd rfl A
   | cons e es=>simp [pY,bS hu,pZ,xY]
  by_cases A:es= []
  · subst A; exact .inl ⟨by simp [pY,bS hu,pZ],fun _ h=>by simp at h⟩
  · rw [J A];rcases DV h w es 0 hes with C | ⟨j,e,C,E,I⟩
    · exact .inl C
    · exact .inr ⟨j,e,by rw [C,dx],E,I⟩
def zeroV (P:av) (e:au):Option ah:=(P.info? e).bind (·.zero)
theorem Bs {P:av} {e:au} {z:ah} (h:zeroV P e=some z) (w:ai):(zeroValue e).run P w= .ok z w:=by
 unfold zeroV at h;simp only [Option.bind_eq_some_iff] at h;obtain ⟨i,hi,A⟩:=h;simp [zeroValue,eh hi,A]
section
variable {P:av} {N:Fm} {σ:Nat→ah} {w:ai} {dst:Option Nat} {ty:au} {pos :String} {af:Array cH} {g:Option (Nat×Bool)} {x y z:bA} {K:(Nat→ah)→ai→Prop}
variable {t k e:au} {bj:ah→Prop} {b:Nat} {kvs:List (ah×ah)} {kx v:ah}
theorem vG {es:Array MapEntry} (h:es.toList.map (fun e=>(e.key,e.val))=kvs) (A:∀ p∈kvs,bj p.1):∀ e∈es.toList,bj e.key:=by grind [e,he,qq]
theorem run_getObj_map {es:Array MapEntry} {c:Nat} (hr:w.heap[b]? =some (.map es c)):(getObj b).run P w= .ok (.map es c) w:=by
 simp [getObj,Sem.run,hr]
theorem NK {kvs:List (ah×ah)} (hn:(kvs.map dj).Nodup) {kx v E:ah} (C:(kx,v)∈kvs) (A:(kx,E)∈kvs):v=E:=by
 induction kvs with
 | nil=>simp at C
 | cons p kvs ih=>
   simp only [fZ,List.nodup_cons] at hn;rcases ew.1 C with C | C
   · rcases ew.1 A with A | A
     · rw [← C] at A; cases A; rfl
     · rw [← C] at hn; exact absurd (qq (f:=dj) A) hn.1
   · rcases ew.1 A with A | A
     · rw [← A] at hn; exact absurd (qq (f:=dj) C) hn.1
     · exact ih hn.2 C A
theorem EK {ok:Bool} (Z:P.underlying t=some (.map k e)) (E:qA P k bj) (hm:lR w.heap b kvs) (V:∀ p∈kvs,bj p.1) (ab:ev N σ x= .map (some b)) (ac:ev N σ y=kx) (hi:bj kx) (hn:(kvs.map dj).Nodup) (C:(kx,v)∈kvs):
 (execOp (ev N σ) ⟨dst,.lookup t x y ok,ty,pos,af,g⟩).run P w= .ok (.value (if ok then .tuple #[v,.bool true] else v)) w:=by
 obtain ⟨es,c,hr,he⟩:=hm;rcases E.find w kx es.toList hi (vG he V) with ⟨_,A⟩ | ⟨j,e',J,A,L⟩
 · rw [← he] at C;obtain ⟨I,O,M⟩:=List.mem_map.1 C;cases M;exact absurd U<|A I O
 · have aa:(kx,e'.val)∈kvs:=by rw [← he,← L]; exact qq (f:=fun e:MapEntry=>(e.key,e.val))<|kX A
   have :=NK hn C aa;subst this;cases ok <;> simp [execOp,Il,bS Z,ab,ac,run_getObj_map hr,E.check _ w kx hi,J]
theorem EL {ok:Bool} {zv:ah} (L:P.underlying t=some (.map k e)) (U:zeroV P e=some zv) (A:qA P k bj) (hm:lR w.heap b kvs) (J:∀ p∈kvs,bj p.1) (M:ev N σ x= .map (some b)) (O:ev N σ y=kx) (hi:bj kx) (hn:∀ v,(kx,v)∉kvs):
 (execOp (ev N σ) ⟨dst,.lookup t x y ok,ty,pos,af,g⟩).run P w= .ok (.value (if ok then .tuple #[zv,.bool false] else zv)) w:=by
 obtain ⟨es,c,hr,he⟩:=hm;rcases A.find w kx es.toList hi (vG he J) with ⟨C,_⟩ | ⟨j,e',C,E,I⟩
 · cases ok <;> simp [execOp,Il,bS L,M,O,run_getObj_map hr,A.check _ w kx hi,C,Bs U]
 · exact absurd (by rw [← he,← I]; exact qq (f:=fun e:MapEntry=>(e.key,e.val))<|kX E)<|hn e'.val
end
end Go.Hb
namespace Go.Hb
end Go.Hb
namespace Go.Hb
inductive TD | no | int (k:bY) | str | bool | ptr | dW (e n:Nat) | st (offs:List Nat)
def nb {α:Type} :List α→Nat→α→α
 | [],_,d=>d
 | a::_,0,_=>a
 | _::l,n+1,d=>nb l n d
def r8 (T:List (List TD)) (t:Nat):TD:=nb (nb T (t / 16) []) (t % 16) .no
def eU:bY→Nat
 | .i8=>0 | .i16=>1 | .i32=>2 | .i64=>3 | .u8=>4 | .u16=>5 | .u32=>6 | .u64=>7
theorem pd {a b:bY} (h:bC (eU a) (eU b)=true):a=b:=by
 cases a <;> cases b <;> first | rfl | (cases h)
def wv (P:av) (t:Nat):Nat→List Nat→Bool
 | _,[]=>true
 | f,n::l=>(match qU P t f with | some m=>bC m n | none=>false) && wv P t (f+1) l
def A6 (P:av) (t:Nat):TD→Bool
 | .no=>true
 | .int k=>match P.underlying t with | some (.int A)=>bC (eU k) (eU A) | _=>false
 | .str=>match P.underlying t with | some .string=>true | _=>false
 | .bool=>match P.underlying t with | some .bool=>true | _=>false
 | .ptr=>match P.underlying t with | some (.pointer _)=>true | _=>false
 | .dW e n=>match P.underlying t,dH P t with | some (.slice e'),some n'=>bC e e' && bC n n' | _,_=>false
 | .st C=>wv P t 0 C
def wW (P:av):Nat→List TD→Bool
 | _,[]=>true
 | t,d::l=>A6 P t d && wW P (t+1) l
def kT (P:av):Nat→List (List TD)→Bool
 | _,[]=>true
 | t,r::l=>wW P t r && kT P (t+16) l
theorem F3 {P:av} :∀ {l:List TD} {b j:Nat},wW P b l=true→A6 P (b+j) (nb l j .no)=true
 | [],b,j,_=>rfl
 | d::l,b,0,h=>(sw.1 h).1
 | d::l,b,j+1,h=>by
   have :=F3 (j:=j) (sw.1 h).2;rw [show b+(j+1)=b+1 +j from by omega]; exact this
theorem G7 {P:av} :∀ {T:List (List TD)} {b i:Nat},kT P b T=true→wW P (b+16 *i) (nb T i [])=true
 | [],b,i,_=>rfl
 | r::T,b,0,h=>(sw.1 h).1
 | r::T,b,i+1,h=>by
   have :=G7 (i:=i) (sw.1 h).2;rw [show b+16 *(i+1)=b+16 +16 *i from by omega]; exact this
theorem A5 {P:av} {T:List (List TD)} (h:kT P 0 T=true) (t:Nat):A6 P t (r8 T t)=true :=by
 have :=F3 (j:=t % 16)<|G7 (i:=t / 16) h;rw [show 0 +16 *(t / 16)+t % 16=t from by omega] at this;exact this
theorem Fl {P:av} {t:Nat} :∀ {l:List Nat} {b f n:Nat},wv P t b l=true→l[f]? =some n→qU P t (b+f)=some n
 | [],b,f,n,_,h=>by simp at h
 | m::l,b,0,n,h,hn=>by
   have A:=(sw.1 h).1;obtain rfl :m=n:=by simpa using hn
   split at A
   · rename_i C hm; rw [Nat.add_zero,hm,cO A]
   · cases A
 | m::l,b,f+1,n,h,hn=>by
   have :=Fl (f:=f) (sw.1 h).2<|by simpa using hn
   rw [show b+(f+1)=b+1 +f from by omega]; exact this
section
variable {P:av} {T:List (List TD)} (hT:kT P 0 T=true) {t:Nat}
include hT
theorem K6 (h:r8 T t= .str):P.underlying t=some .string:=by
 have :=A5 hT t;rw [h] at this;change (match P.underlying t with | some .string=>true | _=>false)=true at this;split at this
 · assumption
 · cases this
theorem K4 {e n:Nat} (h:r8 T t= .dW e n):P.underlying t=some (.slice e)∧dH P t=some n:=by
 have :=A5 hT t;rw [h] at this;change (match P.underlying t,dH P t with | some (.slice e'),some n'=>bC e e' && bC n n' | _,_=>false)=true at this;split at this
 · rename_i A C;simp only [bO] at this;rw [A,C,cO this.1,cO this.2]; exact ⟨rfl,rfl⟩
 · cases this
theorem K5 {l:List Nat} {f n:Nat} (h:r8 T t= .st l) (hn:l[f]? =some n):qU P t f=some n:=by
 have :=A5 hT t;rw [h] at this;have :=Fl (show wv P t 0 l=true from this) hn;rwa [dx] at this
end
def Ox (k:bY) (n:Int):Prop :=match k with
 | .i64=> -9223372036854775808≤n∧n≤9223372036854775807
 | .u8=>0≤n∧n≤255
 | .i32=> -2147483648≤n∧n≤2147483647
 | .u32=>0≤n∧n≤4294967295
 | .u64=>0≤n∧n≤18446744073709551615
 | _=>False
theorem F2 {k:bY} {n:Int} (h:Ox k n):k.wrap n=n:=by
 cases k <;> first | exact km h | exact Bp h | exact Bl h | exact HK h | exact jt h | exact h.elim
inductive qG | no | v (x:ah) | vc (x:ah) (c:Prop)
def wS (k:bY) (n:Int):qG:=match k with
 | .i64=> .vc (.int .i64 n)<|-9223372036854775808≤n∧n≤9223372036854775807
 | .u8=> .vc (.int .u8 n)<|0≤n∧n≤255
 | .i32=> .vc (.int .i32 n)<|-2147483648≤n∧n≤2147483647
 | .u32=> .vc (.int .u32 n)<|0≤n∧n≤4294967295
 | .u64=> .vc (.int .u64 n)<|0≤n∧n≤18446744073709551615
 | _=> .no
def zG (op:BinOp) (k:bY) (a b:Int):qG:=match op with
 | .lss=> .v<|.bool<|decide (a < b)
 | .leq=> .v<|.bool<|decide (a≤b)
 | .gtr=> .v<|.bool<|decide (b < a)
 | .geq=> .v<|.bool<|decide (b≤a)
 | .eql=> .v<|.bool<|decide (a=b)
 | .neq=> .v<|.bool<|decide (a≠b)
 | .add=>wS k<|a+b
 | .sub=>wS k<|a - b
 | _=> .no
def GW (op:BinOp) (l m:List UInt8):qG:=match op with
 | .eql=> .v<|.bool<|decide (l=m)
 | .neq=> .v<|.bool<|decide (l≠m)
 | .add=> .vc (str<|l++m)<|l.length+m.length≤9223372036854775807
 | _=> .no
def lZ (v:ah):qG:=match v with
 | .int k n=> .v<|.int k n
 | .bool b=> .v<|.bool b
 | .string ⟨⟨l⟩⟩=> .v<|str l
 | .pointer a=> .v<|.pointer a
 | .slice a n c=> .v<|.slice a n c
 | .map r=> .v<|.map r
 | .func f a b=> .v<|.func f a b
 | .nilFunc=> .v .nilFunc
 | .iface t v=> .v<|.iface t v
 | .nilIface=> .v .nilIface
 | .agg c=> .v<|.agg c
 | .tuple c=> .v<|.tuple c
 | _=> .no
theorem L3 {v x:ah} (h:lZ v= .v x):v=x:=by
 unfold lZ at h;split at h <;> cases h <;> rfl
theorem L4 {v x:ah} {c:Prop} (h:lZ v= .vc x c):False:=by
 unfold lZ at h;split at h <;> cases h
def ry (T:List (List TD)) (N:Fm) (σ:Nat→ah) (o:Op):qG:=match o with
 | .move x=>lZ<|ev N σ x
 | .assign x=>lZ<|ev N σ x
 | .pick c x y=>match ev N σ c with
   | .bool true =>lZ<|ev N σ x
   | .bool false =>lZ<|ev N σ y
   | _=> .no
 | .nilCheck x=>match ev N σ x with
   | .pointer (some a)=> .v<|.pointer<|some a
   | _=> .no
 | .extract x i=>match ev N σ x with
   | .tuple ⟨vs⟩=>match vs[i]? with
     | some v=> .v v
     | none=> .no
   | _=> .no
 | .fieldAddr s x f=>match ev N σ x,r8 T s with
   | .pointer (some ⟨b,off,none⟩),.st l=>match l[f]? with
     | some n=> .v<|.pointer<|some ⟨b,off+n,none⟩
     | none=> .no
   | _,_=> .no
 | .binOp op t x y _=>match ev N σ x,ev N σ y with
   | .int k a,.int k' b=>cond (bC (eU k)<|eU k') (zG op k a b) .no
   | .string ⟨⟨l⟩⟩,.string ⟨⟨m⟩⟩=>GW op l m
   | _,_=> .no
 | .unOp .not _ x=>match ev N σ x with
   | .bool b=> .v<|.bool<|!b
   | _=> .no
 | .call ⟨.builtin .len,⟨[x]⟩,⟨[t]⟩⟩=>match ev N σ x,r8 T t with
   | .string ⟨⟨l⟩⟩,.str=> .v<|.int .i64 l.length
   | .slice a n c,.dW _ _=> .v<|.int .i64 n
   | _,_=> .no
 | _=> .no
def Aq (P:av) (N:Fm) (σ:Nat→ah) (o:aJ) (w:ai):qG→Prop
 | .no=>True
 | .v x=>(execOp (ev N σ) o).run P w= .ok (.value x) w
 | .vc x c=>c→(execOp (ev N σ) o).run P w= .ok (.value x) w
theorem vM {P:av} {N:Fm} {σ:Nat→ah} {o:aJ} {w:ai} {v:ah} (h:(execOp (ev N σ) o).run P w= .ok (.value v) w):Aq P N σ o w (lZ v):=by
 cases hf:lZ v with
 | no=>trivial
 | v x=>rw [← L3 hf]; exact h
 | vc x c=>exact (L4 hf).elim
theorem wz {P:av} {T:List (List TD)} (hT:kT P 0 T=true) {N:Fm} {σ:Nat→ah} (d:Option Nat) (o:Op) (ty:au) (pos :String) (af:Array cH) (g:Option (Nat×Bool)) (w:ai):Aq P N σ ⟨d,o,ty,pos,af,g⟩ w (ry T N σ o):=by
 unfold ry;split
 · exact vM mv
 · exact vM aT
 · split
   · exact vM<|rG<|by assumption
   · exact vM<|rF<|by assumption
   · trivial
 · split
   · exact nc<|by assumption
   · trivial
 · split
   · split
     · exact xt (by assumption)<|by simpa using by assumption
     · trivial
   · trivial
 · split
   · split
     · exact fa (K5 hT (by assumption)<|by assumption)<|by assumption
     · trivial
   · trivial
 · split
   · rename_i k a E b A C;cases hk:bC (eU k) (eU E)
     · trivial
     · obtain rfl :=pd hk;show Aq _ _ _ _ _ (zG _ _ _ _);unfold zG;split
       · exact lt A C
       · exact le A C
       · exact gt A C
       · exact ge A C
       · exact DG A C
       · exact E9 A C
       · unfold wS; split <;> first | trivial | exact fun h=>ad A C<|F2 h
       · unfold wS; split <;> first | trivial | exact fun h=>sb A C<|F2 h
       · trivial
   · rename_i l m A C;unfold GW;split
     · exact DI A C
     · exact Fa A C
     · exact fun h=>cc A C h
     · trivial
   · trivial
 · split
   · exact no<|by assumption
   · trivial
 · split
   · exact EO (K6 hT<|by assumption) U<|by assumption
   · exact zU (K4 hT<|by assumption).1 U<|by assumption
   · trivial
 · trivial
inductive Pt | c (c:cj) | l (ops:Array aJ) (l:List aJ) | x (e:bM)
inductive Kn | sq (y:cj) | bk (id:Nat)
def fO (P:av) (N:Fm):List Kn→(bM→(Nat→ah)→ai→Prop)→bM→(Nat→ah)→ai→Prop
 | [],Q=>Q
 | .sq y::st,Q=>iP (fun σ w=>bU P N y (fO P N st Q) σ w)<|fO P N st Q
 | .bk id::st,Q=>m8 id<|fO P N st Q
@[reducible] def At (P:av) (N:Fm) (Q:bM→(Nat→ah)→ai→Prop) (w:ai) (p:Pt) (st:List Kn) (σ:Nat→ah):Prop :=match p with
 | .c c=>bU P N c (fO P N st Q) σ w
 | .l ops l=>cG P N ops (fO P N st Q) l σ w
 | .x e=>fO P N st Q e σ w
inductive Out | no | at (p:Pt) (st:List Kn) (σ:Nat→ah) (c:Option Prop)
def andG (c:Prop):Option Prop→Option Prop
 | none=>some c
 | some d=>some<|c∧d
def optG:Option Prop→Prop
 | none=>True
 | some c=>c
theorem vi {c:Prop} {d:Option Prop} (h:optG (andG c d)):c∧optG d:=by
 cases d
 · exact ⟨h,trivial⟩
 · exact h
inductive Jr | no | go (p:Pt) (st:List Kn) (σ:Nat→ah) (c:Option Prop)
def stepG (T:List (List TD)) (N:Fm) (p:Pt) (st:List Kn) (σ:Nat→ah) (c:Option Prop):Jr:=match p with
 | .x .normal=>match st with
   | .sq y::st=> .go (.c y) st σ c
   | .bk _::st=> .go (.x .normal) st σ c
   | []=> .no
 | .x .ret=>match st with
   | _::st=> .go (.x .ret) st σ c
   | []=> .no
 | .x (.exit i)=>match st with
   | .sq _::st=> .go (.x<|.exit i) st σ c
   | .bk j::st=>cond (bC i j) (.go (.x .normal) st σ c)<|.go (.x<|.exit i) st σ c
   | []=> .no
 | .x _=> .no
 | .c (.seq x y)=> .go (.c x) (.sq y::st) σ c
 | .c (.block id x)=> .go (.c x) (.bk id::st) σ c
 | .c .skip => .go (.x .normal) st σ c
 | .c .ret=> .go (.x .ret) st σ c
 | .c (.exit i)=> .go (.x<|.exit i) st σ c
 | .c (.region id ⟨l⟩ false)=>cond (mi N.r l) (.go (.l ⟨l⟩ l) st σ c) .no
 | .c (.cond x a b)=>match ev N σ x with
   | .bool true => .go (.c a) st σ c
   | .bool false => .go (.c b) st σ c
   | _=> .no
 | .c _=> .no
 | .l ops []=> .go (.x .normal) st σ c
 | .l ops (⟨some d,o,ty,pos,af,none⟩::r)=>match ry T N σ o with
   | .v x=> .go (.l ops r) st (bI σ d x) c
   | .vc x c'=> .go (.l ops r) st (bI σ d x)<|andG c' c
   | .no=> .no
 | .l ops (⟨some d,o,ty,pos,af,some (j,want)⟩::r)=>match fg ops j with
   | some t=>cond (aZ t N.n) (match σ t with
     | .bool b=>cond (b==want) (match ry T N σ o with
       | .v x=> .go (.l ops r) st (bI σ d x) c
       | .vc x c'=> .go (.l ops r) st (bI σ d x)<|andG c' c
       | .no=> .no) (.go (.l ops r) st (bI σ d undef) c)
     | .tuple ⟨[]⟩=> .go (.l ops r) st (bI σ d undef) c
     | _=> .no) .no
   | none=> .no
 | .l ops _=> .no
def jo (T:List (List TD)) (N:Fm):Nat→Pt→List Kn→(Nat→ah)→Option Prop→Out
 | 0,p,st,σ,c=> .at p st σ c
 | n+1,p,st,σ,c=>match stepG T N p st σ c with
   | .go p st σ c=>jo T N n p st σ c
   | .no=> .no
section
variable {P:av} {T:List (List TD)} {N:Fm} {Q:bM→(Nat→ah)→ai→Prop} {w:ai} {σ σ':Nat→ah} {p p':Pt} {st st':List Kn} {c c':Option Prop} {n:Nat}
theorem PS (hT:kT P 0 T=true) (h:stepG T N p st σ c= .go p' st' σ' c') (A:optG c') (C:At P N Q w p' st' σ'):optG c∧At P N Q w p st σ:=by
 unfold stepG at h;split at h
 · split at h
   · cases h; exact ⟨A,tn C⟩
   · cases h; exact ⟨A,bn C⟩
   · cases h
 · split at h
   · rename_i k _;cases h; cases k
     · exact ⟨A,tr C⟩
     · exact ⟨A,br C⟩
   · cases h
 · split at h
   · cases h; exact ⟨A,te _ C⟩
   · rename_i i _ j _;cases hij:bC i j
     · rw [hij] at h; cases h;exact ⟨A,JP (fun e=>by rw [e] at hij; simp at hij) C⟩
     · rw [hij] at h; cases h;obtain rfl :=cO hij;exact ⟨A,be C⟩
   · cases h
 · cases h
 · cases h; exact ⟨A,sq fun K V=>HG (fun e σ w U=>by cases e <;> first | exact V _ _ U | exact U) C⟩
 · cases h; exact ⟨A,ax C⟩
 · cases h; exact ⟨A,GA C⟩
 · cases h; exact ⟨A,rt C⟩
 · cases h; exact ⟨A,ext C⟩
 · rename_i id l;cases hr:mi N.r l
   · rw [hr] at h; cases h
   · rw [hr] at h; cases h;exact ⟨A,rg hr C⟩
 · split at h
   · cases h; exact ⟨A,ct (by assumption) C⟩
   · cases h; exact ⟨A,cf (by assumption) C⟩
   · cases h
 · cases h
 · cases h; exact ⟨A,nl C⟩
 · rename_i ops d o ty pos af r;have E:=wz (P:=P) hT (N:=N) (σ:=σ) (some d) o ty pos af none w;split at h
   · rename_i x I;rw [I] at E; cases h;exact ⟨A,Hb.p E C⟩
   · rename_i x q I;rw [I] at E; cases h;obtain ⟨M,O⟩:=vi A;exact ⟨O,Hb.p (E M) C⟩
   · cases h
 · rename_i ops d o ty pos af j want r;have E:=wz (P:=P) hT (N:=N) (σ:=σ) (some d) o ty pos af (some (j,want)) w;split at h
   · rename_i t L;cases hb:aZ t N.n
     · rw [hb] at h; cases h
     · rw [hb] at h;simp only [cond_true] at h;split at h
       · rename_i b J;cases hw:(b==want)
         · rw [hw] at h; cases h;exact ⟨A,sk L hb J hw C⟩
         · rw [hw] at h;simp only [cond_true] at h;obtain rfl :b=want:=by simpa using hw
           split at h
           · rename_i x I;rw [I] at E; cases h;exact ⟨A,pg L hb J E C⟩
           · rename_i x q I;rw [I] at E; cases h;obtain ⟨M,O⟩:=vi A;exact ⟨O,pg L hb J (E M) C⟩
           · cases h
       · rename_i J;cases h;exact ⟨A,GB L hb J C⟩
       · cases h
   · cases h
 · cases h
theorem ki (hT:kT P 0 T=true):∀ (n:Nat) (p:Pt) (st:List Kn) (σ:Nat→ah) (c:Option Prop),jo T N n p st σ c= .at p' st' σ' c'→optG c'→At P N Q w p' st' σ'→optG c∧At P N Q w p st σ
 | 0,p,st,σ,c,h,hc,hk=>by cases h; exact ⟨hc,hk⟩
 | n+1,p,st,σ,c,h,hc,hk=>by
   simp only [jo] at h;split at h
   · rename_i E;obtain ⟨A,C⟩:=ki hT n _ _ _ _ h hc hk;exact PS hT E A C
   · cases h
end
inductive Jm | no | at (fuel:Nat) (listed:Array Bool) (σ:Nat→ah) (c:Option Prop)
inductive Jq | no | go (σ:Nat→ah) (c:Option Prop)
def G3 (T:List (List TD)) (N:Fm) (g:Bool) (ops:Array aJ) (i:Nat) (σ:Nat→ah) (c:Option Prop):Jq:=match ops[i]? with
 | some ⟨some d,o,_,_,_,none⟩=>match ry T N σ o with
   | .v x=> .go (bI σ d x) c
   | .vc x c'=> .go (bI σ d x)<|andG c' c
   | .no=> .no
 | some ⟨some d,o,_,_,_,some (j,want)⟩=>cond g (match fg ops j with
   | some t=>cond (aZ t N.n) (match σ t with
     | .bool b=>cond (b==want) (match ry T N σ o with
       | .v x=> .go (bI σ d x) c
       | .vc x c'=> .go (bI σ d x)<|andG c' c
       | .no=> .no) (.go (bI σ d undef) c)
     | .tuple ⟨[]⟩=> .go (bI σ d undef) c
     | _=> .no) .no
   | none=> .no) .no
 | _=> .no
def nr (T:List (List TD)) (N:Fm) (g:Bool) (ops:Array aJ):List Nat→Nat→Array Bool→(Nat→ah)→Option Prop→Jm
 | [],fuel,listed,σ,c=> .at fuel listed σ c
 | _::_,0,_,_,_=> .no
 | i::is,fuel+1,listed,σ,c=>match G3 T N g ops i σ c with
   | .go σ c=>nr T N g ops is fuel (listed.setIfInBounds i true) σ c
   | .no=> .no
def mS (fr:Array Bool→Nat→Bool):List Nat→Array Bool→Bool
 | [],_=>true
 | i::is,listed=>fr listed i && mS fr is (listed.setIfInBounds i true)
section
variable {P:av} {T:List (List TD)} {N:Fm} {g:Bool} {ops:Array aJ} {fr:Array Bool→Nat→Bool} {fuel':Nat} {listed':Array Bool} {σ':Nat→ah} {c':Option Prop} {w:ai}
theorem xa (hT:kT P 0 T=true) (W:Nat→Array Bool→(Nat→ah)→Prop)
 (H1:∀ {i d o ty pos af v fuel listed σ},ops[i]? =some ⟨some d,o,ty,pos,af,none⟩→fr listed i=true→(∀ w,(execOp (ev N σ) ⟨some d,o,ty,pos,af,none⟩).run P w= .ok (.value v) w)→W fuel (listed.setIfInBounds i true) (bI σ d v)→W (fuel+1) listed σ)
 (O:g=true→∀ {i d o ty pos af v fuel listed σ j want t},ops[i]? =some ⟨some d,o,ty,pos,af,some (j,want)⟩→fr listed i=true→fg ops j=some t→aZ t N.n=true→σ t= .bool want→(∀ w,(execOp (ev N σ) ⟨some d,o,ty,pos,af,some (j,want)⟩).run P w= .ok (.value v) w)→W fuel (listed.setIfInBounds i true) (bI σ d v)→W (fuel+1) listed σ)
 (Z:g=true→∀ {i d o ty pos af fuel listed σ j want t b},ops[i]? =some ⟨some d,o,ty,pos,af,some (j,want)⟩→fr listed i=true→fg ops j=some t→aZ t N.n=true→σ t= .bool b→(b==want)=false→W fuel (listed.setIfInBounds i true) (bI σ d undef)→W (fuel+1) listed σ)
 (aa:g=true→∀ {i d o ty pos af fuel listed σ j want t},ops[i]? =some ⟨some d,o,ty,pos,af,some (j,want)⟩→fr listed i=true→fg ops j=some t→aZ t N.n=true→σ t=undef→W fuel (listed.setIfInBounds i true) (bI σ d undef)→W (fuel+1) listed σ):
 ∀ (is:List Nat) (fuel:Nat) (listed:Array Bool) (σ:Nat→ah) (c:Option Prop),nr T N g ops is fuel listed σ c= .at fuel' listed' σ' c'→mS fr is listed=true→optG c'→W fuel' listed' σ'→optG c∧W fuel listed σ
 | [],fuel,listed,σ,c,h,_,C,E=>by cases h; exact ⟨C,E⟩
 | i::is,0,listed,σ,c,h,_,C,E=>by cases h
 | i::is,fuel+1,listed,σ,c,h,hf,C,E=>by
   simp only [mS,bO] at hf;simp only [nr] at h;split at h
   · rename_i ab c2 A;obtain ⟨C,E⟩:=xa hT W H1 O Z aa is fuel _ _ _ h hf.2 C E;unfold G3 at A;split at A
     · rename_i d o ty pos af hi;have I:=fun w=>wz hT (N:=N) (σ:=σ) (some d) o ty pos af none w;split at A
       · rename_i x J;rw [J] at I; cases A;exact ⟨C,H1 hi hf.1 I E⟩
       · rename_i x q J;rw [J] at I; cases A;obtain ⟨U,V⟩:=vi C;exact ⟨V,H1 hi hf.1 (fun w=>I w U) E⟩
       · cases A
     · rename_i d o ty pos af j want hi;have I:=fun w=>wz hT (N:=N) (σ:=σ) (some d) o ty pos af (some (j,want)) w;cases hg:g
       · rw [hg] at A; cases A
       · rw [hg] at A;simp only [cond_true] at A;split at A
         · rename_i t M;cases hb:aZ t N.n
           · rw [hb] at A; cases A
           · rw [hb] at A;simp only [cond_true] at A;split at A
             · rename_i b L;cases hw:(b==want)
               · rw [hw] at A; cases A;exact ⟨C,Z hg hi hf.1 M hb L hw E⟩
               · rw [hw] at A;simp only [cond_true] at A;obtain rfl :b=want:=by simpa using hw
                 split at A
                 · rename_i x J;rw [J] at I; cases A;exact ⟨C,O hg hi hf.1 M hb L I E⟩
                 · rename_i x q J;rw [J] at I; cases A;obtain ⟨U,V⟩:=vi C;exact ⟨V,O hg hi hf.1 M hb L (fun w=>I w U) E⟩
                 · cases A
             · rename_i L;cases A;exact ⟨C,aa hg hi hf.1 M hb L E⟩
             · cases A
         · cases A
     · cases A
   · cases h
variable {Q:bM→(Nat→ah)→ai→Prop} {S:ai→Prop} {r fuel:Nat} {listed:Array Bool} {σ:Nat→ah}
theorem Mb (hT:kT P 0 T=true) (is:List Nat) (h:nr T N true ops is fuel listed σ none= .at fuel' listed' σ' c') (J:S w) (k:dr P N ops Q S fuel' listed' σ' w) (M:optG c') (A:mS (fU N.F ops) is listed=true):dr P N ops Q S fuel listed σ w:=
 (xa hT (fun fuel listed σ=>dr P N ops Q S fuel listed σ w) (fun hi A L k=>hp _ hi A (fun w _=>L w) J k) (fun _=>fun hi A C E I L k=>El _ hi A C E I (fun w _=>L w) J k) (fun _=>fun hi A C E I hb k=>Em _ hi A C E I hb J k) (fun _=>fun hi A C E I k=>Ml _ hi A C E I J k) is fuel listed σ none h A M k).2
theorem Me (hT:kT P 0 T=true) (is:List Nat) (h:nr T N false ops is fuel listed σ none= .at fuel' listed' σ' c') (C:S w) (k:db P N ops Q S r fuel' listed' σ' w) (E:optG c') (A:mS (fun l i=>qW N.F ops l r i) is listed=true):db P N ops Q S r fuel listed σ w:=
 (xa (g:=false) hT (fun fuel listed σ=>db P N ops Q S r fuel listed σ w) (fun hi A I k=>lq _ hi A (fun w _=>I w) C k) (fun h=>dw h) (fun h=>dw h) (fun h=>dw h) is fuel listed σ none h A E k).2
theorem Mc (hT:kT P 0 T=true) (is:List Nat) (h:nr T N false ops is fuel listed σ none= .at fuel' listed' σ' c') (C:S w) (k:db P N ops Q S r fuel' listed' σ' w) (E:optG c') (A:mS (fun l i=>o9 N.F ops l r i) is listed=true):db P N ops Q S r fuel listed σ w:=
 (xa (g:=false) hT (fun fuel listed σ=>db P N ops Q S r fuel listed σ w) (fun hi A I k=>tE _ hi A I (fun _=>C) k) (fun h=>dw h) (fun h=>dw h) (fun h=>dw h) is fuel listed σ none h A E k).2
end
def yM (P:av) (f:eX):Bool:=match P.funcs[f]? with
 | some fn=> !(fn.name== "runtime.NumGoroutine") && !fn.body.isNone
 | none=>false
theorem J8 {P:av} {f:eX} (h:yM P f=true):gv P f:=by
 unfold yM at h;split at h
 · simp only [bO,mC] at h;exact yN (by assumption) h.1 h.2
 · cases h
section
variable {P:av} {N:Fm} {σ:Nat→ah} {w:ai} {dst:Option Nat} {ty:au} {pos :String} {af:Array cH} {g:Option (Nat×Bool)} {x y z:bA} {K:(Nat→ah)→ai→Prop}
theorem aH {f:eX} {args:Array bA} {A:Array au} {L:List ah} {R:ah→ai→Prop} (hr:aY P f L.toArray w R) (C:args.toList.map (ev N σ)=L)
 (k:∀ v w',R v w'→K (dq σ dst v) w') (E:yM P f=true :=by kernel_rfl):cy P N ⟨dst,.call ⟨.value (.func f),args,A⟩,ty,pos,af,g⟩ σ w K:=cl (J8 E) hr C k
theorem ay {t b off :Nat} {v:ah} (C:ev N σ x= .pointer (some ⟨b,off,none⟩)) (A:aO w.heap b off =some v) (hu:dD P t=some none:=by kernel_rfl):
 (execOp (ev N σ) ⟨dst,.load t x,ty,pos,af,g⟩).run P w= .ok (.value v) w:=ld hu C A
theorem bW (n:Nat) {t E:au} {a b:Int} (A:ev N σ x= .int .i64 a:=by exact U) (C:ev N σ y= .int .i64 b:=by exact U) (h:a+b=(n:Int)∧n≤9223372036854775807:=by omega):
 (execOp (ev N σ) ⟨dst,.binOp .add t x y E,ty,pos,af,g⟩).run P w= .ok (.value<|.int .i64 (n:Int)) w:=yD (n:Int) A C<|uj h.1 h.2
theorem pH (n:Nat) {t E:au} {a b:Int} (A:ev N σ x= .int .i64 a:=by exact U) (C:ev N σ y= .int .i64 b:=by exact U) (h:a - b=(n:Int)∧n≤9223372036854775807:=by omega):
 (execOp (ev N σ) ⟨dst,.binOp .sub t x y E,ty,pos,af,g⟩).run P w= .ok (.value<|.int .i64 (n:Int)) w:=AL (n:Int) A C<|uj h.1 h.2
variable {ops:Array aJ} {Q:bM→(Nat→ah)→ai→Prop} {S:ai→Prop} {r fuel d t b off :Nat} {listed:Array Bool} {v:ah} {W:ai} {l:List aJ} {id:Nat}
theorem c9 (i:Nat) (h:(ops[i]?,ev N σ x)=(some ⟨some d,.load t x,ty,pos,af,none⟩,.pointer (some ⟨b,off,none⟩))) (A:Wk W w) (C:aO W.heap b off =some v) (k:dr P N ops Q (fun w'=>Wk W w') fuel (listed.setIfInBounds i true) (bI σ d v) w)
 (E:fU N.F ops listed i=true :=by kernel_rfl) (hu:dD P t=some none:=by kernel_rfl):dr P N ops Q (fun w'=>Wk W w') (fuel+1) listed σ w:=hp i (congrArg dj h) E (fun _ hw=>ld hu (congrArg Prod.snd h)<|hw.aO C) A k
theorem pF (i:Nat) (h:(ops[i]?,ev N σ x)=(some ⟨some d,.load t x,ty,pos,af,none⟩,.pointer (some ⟨b,off,none⟩))) (A:Wk W w) (C:aO W.heap b off =some v) (k:db P N ops Q (fun w'=>Wk W w') r fuel (listed.setIfInBounds i true) (bI σ d v) w)
 (E:qW N.F ops listed r i=true :=by kernel_rfl) (hu:dD P t=some none:=by kernel_rfl):db P N ops Q (fun w'=>Wk W w') r (fuel+1) listed σ w:=lq i (congrArg dj h) E (fun _ hw=>ld hu (congrArg Prod.snd h)<|hw.aO C) A k
theorem fh (h:Wk w w.drew→dr P N l.toArray Q (fun w'=>Wk w w') l.length (sr l.length false) σ w.drew) (hr:mi N.r l=true :=by exact U) (hm:P.follows .mixedOrders=true :=by kernel_rfl):bU P N (.region id l.toArray true) Q σ w:=bK _ hr hm (Md.refl _ _).drew<|h (Md.refl _ _).drew
theorem zZ (r:Nat) (h:Wk w w.drew→db P N l.toArray Q (fun w'=>Wk w w') r l.length (sr l.length false) σ w.drew) (hr:mi N.r l=true :=by exact U) (hm:P.follows .mixedOrders=true :=by kernel_rfl):bU P N (.region id l.toArray true) Q σ w:=tF _ r hr hm (Md.refl _ _).drew<|h (Md.refl _ _).drew
end
end Go.Hb
end
section
namespace Go.Hb
open Go.ChangeShapes Go.WideShapes Go.ChangeAt
theorem Wk.frame {w w':ai} (h:Wk w w') (may:MemPlace→Prop):w.keptBut w' may:=by
 refine ⟨h.os,h.output,fun i hi=> ?_⟩;rw [h.dA i hi id];split <;> simp_all
theorem Wk.same {w w':ai} (h:Wk w w') {p:MemPlace} (hp:p.block < w.heap.size):w.sameAt w' p:=by
 cases p with
 | cell b o=>exact World.cell?_of_block (w:=w)<|h.dA b hp id
 | map b=>exact h.dA b hp id
section
variable {H:Type} {enc:au×ah→H} {P:av} {W W':ai}
theorem He (J:laidOutB P=true) (I:Wk W W'):∀ (C:List au) (vs:List ah) (E:List (DataW H)) (ps:List MemPlace),C.all (fun t=>P.readableRec t && decide (t < P.types.size))=true→(∀ x∈ps,x.block < W.heap.size)→
 Ie enc P W 0 (fun _=>true) true C vs E ps→Ie enc P W' 0 (fun b=>decide (b < W.heap.size)) true C vs E ps
 | [],[],[],_,_,_,h=>h
 | t::C,v::vs,d::E,_,hp,hlt,⟨p,q,h1,h2,he⟩=>by
   subst he;rw [uD,bO,bO] at hp;exact ⟨p,q,WideElems.Trod_stays J hp.1.1 (of_decide_eq_true hp.1.2) h1 (fun x A=>I.same<|hlt x<|IV _ A) (fun x A=>decide_eq_true<|hlt x<|IV _ A),
    He J I C vs E q hp.2 (fun x A=>hlt x<|List.mem_append_right _ A) h2,rfl⟩
 | [],_::_,_,_,_,_,h=>h.elim
 | [],[],_::_,_,_,_,h=>h.elim
 | _::_,[],_,_,_,_,h=>h.elim
 | _::_,_::_,[],_,_,_,h=>h.elim
theorem Oo {f:eX} {fn:Func} {s:ChangeSpec} {args:Array ah} {A gs:List (DataW H)} {before:List MemPlace} {O:au} (I:DataW.Whole enc P fn.params.toList s.vars false W args.toList A gs before) (M:s.vars= [])
 (C:s.fn H (A++gs)= {results:= [.lit (.bool true)],args:=A}) (hr:fn.resultTypes= #[O]) (hb:P.underlying O=some .bool) (V:laidOutB P=true) (hp:fn.params.toList.all (fun t=>P.readableRec t && decide (t < P.types.size))=true)
 (h:aY P f args W (fun v w'=>v= .bool true∧Wk W w')):Calls P f args W fun e W'=> ∃ v,e= .returned v∧s.post enc P fn false true false false W args v W':=by
 refine jv h fun e W' ⟨v,he,aa,L⟩=>⟨v,he,?_⟩
 subst aa;have J:=I;obtain ⟨p,q,U,E,rfl,_,_⟩:=I;rw [M] at E;obtain ⟨rfl,rfl⟩:=trodVars_none E;have Z:∀ x∈p,x.block < W.heap.size:=fun x ab=>J.lt x<|by simpa using ab
 refine ⟨_,_,_,[],p,[],J,?_,?_,?_,L.frame _,fun h=>by cases h⟩
 · rw [C,hr];exact trodAll_cons_mk (shut_bool hb _) trodAll_mk0
 · rw [C];exact He V L _ _ _ _ hp Z U
 · rw [C,M]; rfl
end
end Go.Hb
namespace Go.Hb
open Go.Proofs.YtfgapieofinadaaGreatDoor
theorem J0 {H:Type} {l:List (DataW H)} (A:Rows.uptoSmall H l=true):Rows.uptoBulkAll l≤1048576:=of_decide_eq_true A
end Go.Hb
namespace Go.Hb
open Go.Proofs.YtfgapieofinadaaGreatDoor Go.ChangeShapes Go.WideShapes Go.ChangeAt
structure Jl (P:av) (t:au) (m:Nat) {X:Type} (R:ai→List ah→X→Prop) (B:X→Nat):Prop where
 cells:P.cellsOf t=m
 op:∀ {H:Type} (enc:au×ah→H) (W:ai) (fuel:Nat) (cs:List ah) (d:DataW H) (p:List MemPlace),DataW.trod enc P W 0 (fun _=>true) true fuel t cs=some (d,p)→cs.length=m∧∃ x,R W cs x∧B x≤Rows.uptoBulk d
section
variable {P:av} {t t0 t1 e:au} {m m0 m1:Nat} {X X0 X1:Type} {R:ai→List ah→X→Prop} {B:X→Nat} {R0:ai→List ah→X0→Prop} {B0:X0→Nat} {R1:ai→List ah→X1→Prop} {B1:X1→Nat}
theorem Fz (C:P.underlying t=some .string) (A:P.cellsOf t=1):Jl P t 1 (fun _ cs (x:List UInt8)=>cs= [str x]) (fun x=>x.length+1) where
 cells:=A
 op enc W fuel cs d p h:=by
  obtain ⟨s,rfl,E,hw⟩:=DataW.trod_string C h;cases E;exact ⟨U,s.data.toList,U,by simp [Rows.uptoBulk]⟩
end
end Go.Hb
end
section
namespace Go.Hb
open Go.Proofs
def iQ:List (List TD):= [
 [.no,.no,.no,.no,.no,.no,.no,.st [0,1,2,3],.st [0,1,2,3],.str,.str,.str,.no,.st [0,1],.st [0,1],.no],
 [.no,.no,.st [0],.st [0],.no,.no,.dW 29 3,.no,.no,.no,.no,.dW 9 1,.st [0,1,2],.st [0,1,2],.no,.no],
 [.no,.no,.st [0,1,2],.st [0,1,2],.no,.no,.no,.no,.no,.no,.no,.no,.no,.no,.no,.no],
 [.no,.no,.no,.no,.no,.no,.st [0,1,2,3,4],.st [0,1,2,3,4],.dW 154 2,.dW 250 2,.no,.st [0,1,2,3],.st [0,1,2,3],.no,.no,.no],
 [.st [0,1],.st [0,1],.dW 65 2,.st [0,2],.st [0,2],.st [0,1,8,9],.st [0,1,8,9],.no,.no,.no,.no,.dW 79 2,.no,.no,.st [0,1],.st [0,1]],
 [.no,.no,.no,.dW 1 1,.st [0,1,2],.st [0,1,2],.no,.no,.dW 181 2,.dW 195 2,.no,.st [0,1,2,3],.st [0,1,2,3],.no,.no,.st [0,7]],
 [.st [0,7],.no,.no,.no,.dW 5 1,.st [0,1],.st [0,1],.no,.no,.no,.no,.no,.no,.no,.no,.no],
 [.no,.no,.no,.no,.st [0,1,2],.no,.no,.st [0],.st [0],.no,.no,.no,.no,.no,.dW 215 1,.dW 213 5],
 [.dW 219 7,.st [0,1,2,3,8,9,10,11,12],.st [0,1,2,3,8,9,10,11,12],.no,.no,.no,.dW 294 2,.st [0,1,2,15],.st [0,1,2,15],.no,.no,.no,.st [0,1,6],.st [0,1,6],.no,.no],
 [.no,.no,.no,.no,.st [0,1,2],.st [0,1,2],.no,.no,.no,.st [0,1],.st [0,1],.no,.no,.no,.no,.no],
 [.no,.no,.no,.no,.no,.no,.no,.no,.no,.dW 174 2,.no,.no,.no,.no,.st [0,1],.no],
 [.no,.st [0,1],.st [0,1],.no,.no,.st [0,1],.no,.no,.no,.no,.no,.no,.no,.no,.no,.no],
 [.no,.dW 244 2,.st [0,1],.st [0,1],.no,.no,.no,.no,.no,.no,.no,.no,.no,.st [0,1,2,3,4],.st [0,1,2,3,4],.no],
 [.st [0,13],.st [0,13],.no,.no,.st [0,1,2,3,4],.st [0,1,2,3,4],.no,.dW 124 1,.no,.no,.st [0,1,2,3,4,5,6],.st [0,1,2,3,4,5,6],.no,.st [0,1,2,3,4,5],.st [0,1,2,3,4,5],.st [0]],
 [.st [0],.no,.dW 3 1,.st [0,1],.st [0,1],.dW 228 2,.no,.no,.no,.no,.no,.no,.no,.no,.no,.no],
 [.no,.no,.no,.st [0,1],.st [0,1],.no,.no,.no,.dW 251 2,.st [0,1],.st [0,1],.st [0,1],.no,.no,.no,.no],
 [.no,.no,.no,.no,.no,.no,.no,.no,.no,.no,.no,.no,.no,.no,.no,.no],
 [.no,.no,.no,.no,.no,.st [0,1,2,3,4,5,6],.st [0,1,2,3,4,5,6],.no,.no,.no,.no,.no,.st [0,1],.st [0,1],.no,.no],
 [.no,.no,.no,.st [0,1],.st [0,1],.st [0,1],.st [0,1],.no,.no,.no,.no,.no,.no,.no,.no,.no],
 [.no,.no,.no,.no,.no,.no,.no,.no,.no,.no,.no,.no,.no,.no,.no,.no],
 [.no,.no,.no,.st [0,1,2],.st [0,1,2],.no,.no,.no,.no,.no,.no,.no,.st [0,1,2],.st [0,1,2],.no,.dW 4 1],
 [.st [0,1,2],.st [0,1,2],.no,.no,.no,.no,.no,.no,.no,.no,.no,.no,.no,.no,.no,.no],
 [.no,.no,.no,.dW 124 1,.no,.no,.no,.st [0,1,2,3,4,5],.st [0,1,2,3,4,5],.no,.no,.no,.st [0,1,2,3,4],.st [0,1,2,3,4],.no,.no],
 [.no,.no,.no,.no,.no,.no,.no,.no,.no,.no,.no,.no,.no,.no,.no,.dW 381 1],
 [.no,.st [0,1,2,3,4,5,6],.st [0,1,2,3,4,5,6],.no,.st [0],.st [0],.no,.no,.no,.no,.no,.no,.dW 42 1,.no,.no,.no],
 [.no,.no,.no,.no,.no,.no,.no,.no,.no,.no,.no,.no,.no,.no,.no,.no],
 [.no,.no,.no,.no,.no,.no,.no,.no,.no,.no,.no,.no,.no,.no,.no,.no],
 [.st [0,1,2,3,4,5,6],.st [0,1,2,3,4,5,6],.no,.dW 439 2,.st [0,1,2],.st [0,1,2],.st [0,1],.st [0,1],.st [0,1],.st [0,1],.no,.no,.no,.no,.no,.no],
 [.no,.no,.no,.no,.no,.no,.dW 479 4,.st [0],.st [0],.no,.no,.no,.no,.no,.no,.no],
 [.no,.no,.st [0,1,2,3,4],.st [0,1,2,3,4],.no,.no,.st [0,1],.st [0,1],.no,.dW 224 1,.no,.no,.no,.no,.no,.no],
 [.no,.no,.no,.no,.no,.no,.no,.no,.no,.no,.no,.no,.no,.no,.st [0],.st [0]],
 [.no,.no,.no,.no,.no,.no,.no,.no,.no,.no,.no,.no,.no,.no,.no,.no],
 [.no,.no,.no,.no,.no,.no,.no,.no,.no,.no,.dW 495 1,.dW 527 2,.st [0,1,2],.st [0,1,2],.st [0,1],.st [0,1]],
 [.no,.no,.no,.no,.no,.no,.no,.no,.no,.no,.no,.no,.no,.st [0,1],.st [0,1],.no],
 [.no,.st [0,1,2,3],.st [0,1,2,3],.no,.no,.no,.no,.no,.no,.no,.no,.st [0,1,2,3,4,5,6,7,8,9,10],.st [0,1,2,3,4,5,6,7,8,9,10],.no,.no,.st [0,1]],
 [.st [0,1],.st [0],.st [0],.no,.no,.st [0,1,2,3,4],.st [0,1,2,3,4],.dW 570 4,.no,.st [0,1,2,3],.st [0,1,2,3],.no,.no]]
theorem js:kT aq 0 iQ=true :=an
section
variable {N:Fm} {Q:bM→(Nat→ah)→ai→Prop} {w:ai} {σ σ':Nat→ah} {p':Pt} {st st':List Kn} {c':Option Prop}
theorem bV {x:cj} {A:cj} (n:Nat) (h:jo iQ N n (.c x) [] σ none= .at (.c A) st' σ' c') (k:bU aq N A (fO aq N st' Q) σ' w) (C:optG c':=by first | exact trivial | (simp only [optG,andG]; omega)):bU aq N x Q σ w:=(ki js n _ _ _ _ h C k).2
theorem aP {x:cj} {C:Array aJ} {A:List aJ} (n:Nat) (h:jo iQ N n (.c x) [] σ none= .at (.l C A) st' σ' c') (k:cG aq N C (fO aq N st' Q) A σ' w) (E:optG c':=by first | exact trivial | (simp only [optG,andG]; omega)):bU aq N x Q σ w:=(ki js n _ _ _ _ h E k).2
theorem kI {x:cj} {e':bM} (n:Nat) (h:jo iQ N n (.c x) [] σ none= .at (.x e') [] σ' c') (k:Q e' σ' w) (A:optG c':=by first | exact trivial | (simp only [optG,andG]; omega)):bU aq N x Q σ w:=(ki js n _ _ _ _ h A k).2
theorem bD {x:cj} {A:cj} (n:Nat) (h:jo iQ N n (.c x) st σ none= .at (.c A) st' σ' c') (k:bU aq N A (fO aq N st' Q) σ' w) (C:optG c':=by first | exact trivial | (simp only [optG,andG]; omega)):bU aq N x (fO aq N st Q) σ w:=(ki js n _ _ _ _ h C k).2
theorem az {x:cj} {C:Array aJ} {A:List aJ} (n:Nat) (h:jo iQ N n (.c x) st σ none= .at (.l C A) st' σ' c') (k:cG aq N C (fO aq N st' Q) A σ' w) (E:optG c':=by first | exact trivial | (simp only [optG,andG]; omega)):bU aq N x (fO aq N st Q) σ w:=(ki js n _ _ _ _ h E k).2
theorem aB {x:cj} {e':bM} (n:Nat) (h:jo iQ N n (.c x) st σ none= .at (.x e') [] σ' c') (k:Q e' σ' w) (A:optG c':=by first | exact trivial | (simp only [optG,andG]; omega)):bU aq N x (fO aq N st Q) σ w:=(ki js n _ _ _ _ h A k).2
theorem aC {ops:Array aJ} {l:List aJ} {A:cj} (n:Nat) (h:jo iQ N n (.l ops l) st σ none= .at (.c A) st' σ' c') (k:bU aq N A (fO aq N st' Q) σ' w) (C:optG c':=by first | exact trivial | (simp only [optG,andG]; omega)):cG aq N ops (fO aq N st Q) l σ w:=(ki js n _ _ _ _ h C k).2
theorem aj {ops:Array aJ} {l:List aJ} {C:Array aJ} {A:List aJ} (n:Nat) (h:jo iQ N n (.l ops l) st σ none= .at (.l C A) st' σ' c') (k:cG aq N C (fO aq N st' Q) A σ' w) (E:optG c':=by first | exact trivial | (simp only [optG,andG]; omega)):cG aq N ops (fO aq N st Q) l σ w:=(ki js n _ _ _ _ h E k).2
theorem ar {ops:Array aJ} {l:List aJ} {e':bM} (n:Nat) (h:jo iQ N n (.l ops l) st σ none= .at (.x e') [] σ' c') (k:Q e' σ' w) (A:optG c':=by first | exact trivial | (simp only [optG,andG]; omega)):cG aq N ops (fO aq N st Q) l σ w:=(ki js n _ _ _ _ h A k).2
theorem ee {e:bM} {A:cj} (n:Nat) (h:jo iQ N n (.x e) st σ none= .at (.c A) st' σ' c') (k:bU aq N A (fO aq N st' Q) σ' w) (C:optG c':=by first | exact trivial | (simp only [optG,andG]; omega)):fO aq N st Q e σ w:=(ki js n _ _ _ _ h C k).2
theorem fV {e:bM} {C:Array aJ} {A:List aJ} (n:Nat) (h:jo iQ N n (.x e) st σ none= .at (.l C A) st' σ' c') (k:cG aq N C (fO aq N st' Q) A σ' w) (E:optG c':=by first | exact trivial | (simp only [optG,andG]; omega)):fO aq N st Q e σ w:=(ki js n _ _ _ _ h E k).2
theorem bg {e:bM} {e':bM} (n:Nat) (h:jo iQ N n (.x e) st σ none= .at (.x e') [] σ' c') (k:Q e' σ' w) (A:optG c':=by first | exact trivial | (simp only [optG,andG]; omega)):fO aq N st Q e σ w:=(ki js n _ _ _ _ h A k).2
variable {ops:Array aJ} {S:ai→Prop} {r fuel fuel':Nat} {listed listed':Array Bool}
theorem aW (is:List Nat) (h:nr iQ N true ops is fuel listed σ none= .at fuel' listed' σ' c') (A:S w) (k:dr aq N ops Q S fuel' listed' σ' w) (C:optG c':=by first | exact trivial | (simp only [optG,andG]; omega)) (E:mS (fU N.F ops) is listed=true :=by kernel_rfl):dr aq N ops Q S fuel listed σ w:=Mb js is h A k C E
theorem nX (is:List Nat) (h:nr iQ N false ops is fuel listed σ none= .at fuel' listed' σ' c') (A:S w) (k:db aq N ops Q S r fuel' listed' σ' w) (C:optG c':=by first | exact trivial | (simp only [optG,andG]; omega)) (E:mS (fun l i=>qW N.F ops l r i) is listed=true :=by kernel_rfl):db aq N ops Q S r fuel listed σ w:=Me js is h A k C E
theorem l6 (is:List Nat) (h:nr iQ N false ops is fuel listed σ none= .at fuel' listed' σ' c') (A:S w) (k:db aq N ops Q S r fuel' listed' σ' w) (C:optG c':=by first | exact trivial | (simp only [optG,andG]; omega)) (E:mS (fun l i=>o9 N.F ops l r i) is listed=true :=by kernel_rfl):db aq N ops Q S r fuel listed σ w:=Mc js is h A k C E
end
end Go.Hb
end
namespace Go.Hb
theorem drop_cons {α:Type} {l:List α} {i:Nat} (d:α) (h:i < l.length):l.drop i=l.getD i d::l.drop (i+1):=by simp_all
theorem AW {α:Type} {l:List α} {k i:Nat} (d:α) (A:k≤i) (hi:i < l.length):(l.take<|i+1).drop k=(l.take i).drop k++ [l.getD i d]:=by
 rw [ib l i d hi,List.drop_append_of_le_length (by rw [bX]; omega)]
def kH (b:UInt8):Bool:=b==32 || b==9
theorem nV (b:UInt8):kH b=decide (b.toNat=32∨b.toNat=9):=by
 unfold kH;have h:∀ x:UInt8,(b==x)=decide (b.toNat=x.toNat):=fun x=>by
  by_cases hb:b=x
  · subst hb; simp
  · have :b.toNat≠x.toNat:=fun h=>hb<|nG.1 h;simp [hb,this]
 rw [h,h];simp [Bool.decide_or]
def bN:List UInt8→List UInt8→List (List UInt8)
 | cur,[]=>if cur= [] then [] else [cur]
 | cur,b::r=>if kH b then (if cur= [] then bN [] r else cur::bN [] r) else bN (cur++ [b]) r
theorem zr:bN [] []= []:=by simp [bN]
theorem D0 {cur:List UInt8} (h:cur≠[]):bN cur []= [cur]:=by simp [bN,h]
theorem vK {b:UInt8} {r:List UInt8} (h:kH b=true):bN [] (b::r)=bN [] r:=by simp [bN,h]
theorem DZ {cur:List UInt8} {b:UInt8} {r:List UInt8} (h:kH b=true) (A:cur≠[]):bN cur (b::r)=cur::bN [] r:=by simp [bN,h,A]
theorem zq {cur:List UInt8} {b:UInt8} {r:List UInt8} (h:kH b=false):bN cur (b::r)=bN (cur++ [b]) r:=by simp [bN,h]
theorem zo:∀ (l cur x:List UInt8),x∈bN cur l→x≠[]∧x.length≤cur.length+l.length:=by
 intro l
 induction l with
 | nil=>
   intro cur x h;unfold bN at h;split at h
   · cases h
   · simp only [fu] at h; subst h; exact ⟨by assumption,by simp⟩
 | cons b r ih=>
   intro cur x h;unfold bN at h;split at h
   · split at h
     · have :=ih [] x h; simp only [cn,fq] at*; exact ⟨this.1,ag⟩
     · rcases ew.1 h with rfl | h
       · exact ⟨by assumption,by simp⟩
       · have :=ih [] x h; simp only [cn,fq] at*; exact ⟨this.1,ag⟩
   · have :=ih _ x h; simp only [cn,bp,fq] at*; exact ⟨this.1,ag⟩
theorem tt:∀ (l cur:List UInt8),(bN cur l).length≤l.length+1:=by
 intro l
 induction l with
 | nil=>intro cur; unfold bN; split <;> simp
 | cons b r ih=>
   intro cur;unfold bN;split
   · split
     · have :=ih []; simp only [cn]; omega
     · have :=ih []; simp only [cn]; omega
   · have :=ih (cur++ [b]); simp only [cn]; omega
theorem zn {cur l:List UInt8} {i:Nat} (A:cur≠[]) (h:l.length≤i∨kH (l.getD i 0)=true):bN cur (l.drop i)=cur::bN [] (l.drop i):=by grind [drop_cons,DZ,vK,iT,D0,zr]
def il (l:List UInt8) (i:Nat) (fr:Int) (cur:List UInt8):Prop :=(fr= -1∧cur= [])∨(∃ k:Nat,fr=k∧k < i∧i≤l.length∧cur=(l.take i).drop k)
theorem il.no {l:List UInt8} {i:Nat} :il l i (-1) []:= .inl ⟨rfl,rfl⟩
theorem il.neg {l cur:List UInt8} {i:Nat} {fr:Int} (h:il l i fr cur) (A:fr < 0):fr= -1∧cur= []:=by grind [il]
theorem il.pos {l cur:List UInt8} {i:Nat} {fr:Int} (h:il l i fr cur) (E:¬fr < 0):(0≤fr∧fr < i)∧cur=(l.take i).drop fr.toNat∧cur≠[]:=by
 rcases h with ⟨rfl,_⟩ | ⟨k,rfl,A,C,rfl⟩
 · omega
 · refine ⟨ag,by simp,fun e=> ?_⟩;have :=congrArg jx e;simp only [List.length_drop,bX,fq] at this;omega
theorem il.begin {l:List UInt8} {i:Nat} (hi:i < l.length):il l (i+1) i [l.getD i 0]:=by
 refine .inr ⟨i,U,ag,ag,?_⟩;rw [AW 0 (bf i) hi,iT (by rw [bX]; omega),oF]
theorem il.more {l cur:List UInt8} {i:Nat} {fr:Int} (h:il l i fr cur) (E:¬fr < 0) (hi:i < l.length):il l (i+1) fr (cur++ [l.getD i 0]):=by
 rcases h with ⟨rfl,_⟩ | ⟨k,rfl,A,C,rfl⟩
 · omega
 · exact .inr ⟨k,U,ag,ag,(AW 0 ag hi).symm⟩
def gl (l:List UInt8):List UInt8:=if 0 < l.length∧l.getD (l.length - 1) 0=13 then l.take (l.length - 1) else l
theorem Dm (l:List UInt8):(gl l).length≤l.length:=by unfold gl; split <;> simp
theorem Dn {l:List UInt8} (h:0 < l.length) (A:l.getD (l.length - 1) 0=13):gl l=l.take (l.length - 1):=if_pos ⟨h,A⟩
theorem za {l:List UInt8} (h:¬(0 < l.length∧l.getD (l.length - 1) 0=13)):gl l=l:=if_neg h
theorem EE {l:List UInt8} (h:0 < l.length):l.drop (l.length - 1)= [l.getD (l.length - 1) 0]:=by grind [drop_cons,iT]
def dU:List UInt8→List UInt8→List (List UInt8)
 | cur,[]=>if cur= [] then [] else [gl cur]
 | cur,b::r=>if b=10 then gl cur::dU [] r else dU (cur++ [b]) r
theorem zX:dU [] []= []:=by simp [dU]
theorem EP {cur:List UInt8} (h:cur≠[]):dU cur []= [gl cur]:=by simp [dU,h]
theorem ER (cur r:List UInt8):dU cur (10::r)=gl cur::dU [] r:=by simp [dU]
theorem zW {cur:List UInt8} {b:UInt8} {r:List UInt8} (h:b≠10):dU cur (b::r)=dU (cur++ [b]) r:=by simp [dU,h]
theorem zV:∀ (l cur:List UInt8),(dU cur l).length≤l.length+1:=by
 intro l
 induction l with
 | nil=>intro cur; unfold dU; split <;> simp
 | cons b r ih=>
   intro cur;unfold dU;split
   · have :=ih []; simp only [cn]; omega
   · have :=ih (cur++ [b]); simp only [cn]; omega
theorem M9 (l:List UInt8):(dU [] l).length≤l.length:=by
 cases l with
 | nil=>simp [dU]
 | cons b r=>
   unfold dU;split
   · have :=zV r [];have A:∀ m:List UInt8,(dU [] m).length≤m.length:=by
      intro m
      induction m with
      | nil=>simp [dU]
      | cons c m ih=>
        unfold dU;split
        · simp only [cn]; omega
        · have :=zV m ([]++ [c]); simp only [cn]; omega
     have :=A r;simp only [cn]; omega
   · have :=zV r ([]++ [b]); simp only [cn]; omega
theorem Na:∀ (l cur x:List UInt8),x∈dU cur l→x.length≤cur.length+l.length:=by
 intro l
 induction l with
 | nil=>
   intro cur x h;unfold dU at h;split at h
   · cases h
   · simp only [fu] at h; subst h; have :=Dm cur; simp only [fq]; omega
 | cons b r ih=>
   intro cur x h;unfold dU at h;split at h
   · rcases ew.1 h with rfl | h
     · have :=Dm cur; omega
     · have :=ih [] x h; simp only [cn,fq] at*; omega
   · have :=ih _ x h; simp only [cn,bp,fq] at*; omega
def fy (c:UInt8) (l:List UInt8):Int:=if l.idxOf c < l.length then (l.idxOf c:Int) else -1
theorem Mz {c:UInt8} {l:List UInt8} (h:fy c l < 0):¬l.idxOf c < l.length:=by grind [fy]
theorem Er {c:UInt8} {l:List UInt8} (h:¬fy c l < 0):fy c l=l.idxOf c∧l.idxOf c < l.length:=by grind [fy]
def j5 (c:UInt8) (l:List UInt8):List UInt8:=if fy c l < 0 then l else l.take (l.idxOf c)
def ll (c:UInt8) (l:List UInt8):List UInt8:=if fy c l < 0 then [] else l.drop (l.idxOf c+1)
theorem KH (c:UInt8) (l:List UInt8):(j5 c l).length≤l.length:=by unfold j5; split <;> simp; omega
theorem KJ {c:UInt8} {l:List UInt8} (h:l≠[]):(ll c l).length < l.length:=by
 have :=List.length_pos_iff.2 h;unfold ll; split <;> simp <;> omega
theorem M8:∀ (l cur:List UInt8),l.idxOf 10 < l.length→dU cur l=gl (cur++l.take (l.idxOf 10))::dU [] (l.drop<|l.idxOf 10 +1):=by
 intro l
 induction l with
 | nil=>intro cur h; simp at h
 | cons b r ih=>
   intro cur h;by_cases hb:b=10
   · subst hb;rw [IP,ER,uL,kr,dx,List.drop_one,List.tail_cons]
   · have A:(b::r).idxOf 10=r.idxOf 10 +1:=by rw [IN,beq_eq_false_iff_ne.2 hb]; rfl
     rw [A] at h ⊢;simp only [cn] at h;rw [zW hb,ih _ ag,BP,List.drop_succ_cons,iC];rfl
theorem Nb:∀ (l cur:List UInt8),¬l.idxOf 10 < l.length→cur++l≠[]→dU cur l= [gl (cur++l)]:=by
 intro l
 induction l with
 | nil=>intro cur _ h; rw [kr] at h ⊢; exact EP h
 | cons b r ih=>
   intro cur h C;by_cases hb:b=10
   · subst hb; rw [IP] at h; simp at h
   · have A:(b::r).idxOf 10=r.idxOf 10 +1:=by rw [IN,beq_eq_false_iff_ne.2 hb]; rfl
     rw [A] at h;simp only [cn] at h;rw [zW hb,ih _ ag (by simp),iC];rfl
theorem Nc {l:List UInt8} (h:l≠[]):dU [] l=gl (j5 10 l)::dU [] (ll 10 l):=by
 by_cases A:fy 10 l < 0
 · rw [Nb l [] (Mz A) (by simpa using h)];unfold j5 ll;rw [if_pos A,if_pos A,zX,oF]
 · rw [M8 l [] (Er A).2];unfold j5 ll;rw [if_neg A,if_neg A,oF]
def sd (s p:List UInt8):List UInt8:=if s.take p.length=p then s.drop p.length else s
def n8:List UInt8:= [239,187,191]
def re (s:List UInt8):Bool:=decide (s.take 3=n8)
def jT (s:List UInt8):List UInt8:=sd s n8
theorem xx (s:List UInt8):(jT s).length≤s.length:=by unfold jT sd; split <;> simp
theorem Qs {s:List UInt8} (h:re s=true):jT s=s.drop 3:=if_pos<|of_decide_eq_true h
theorem Qr {s:List UInt8} (h:re s=false):jT s=s:=if_neg<|of_decide_eq_false h
theorem Nn {s:List UInt8} (h:re s=true):3≤s.length:=by
 have A:=congrArg jx<|of_decide_eq_true h;rw [bX] at A;have :n8.length=3:=rfl;omega
theorem wg (s:List UInt8):re s=decide (3≤s.length∧(s.getD 0 0).toNat=239∧(s.getD 1 0).toNat=187∧(s.getD 2 0).toNat=191):=by
 unfold re;refine decide_eq_decide.2 ?_
 match s with
 | []=>simp [n8]
 | [a]=>simp [n8]
 | [a,b]=>simp [n8]
 | a::b::c::r=>
   have h:∀ (x:UInt8) (n:Nat),n < 256→(x=ga n↔x.toNat=n):=fun x n hn=>by
    constructor
    · rintro rfl; simp; omega
    · intro h; apply nG.1; simp; omega
   have I:=h a 239 aI;have J:=h b 187 aI;have L:=h c 191 aI;simp only [n8,BP,uL,lM,and_true,cn,oE,List.getD_cons_succ];constructor
   · rintro ⟨A,C,E⟩; exact ⟨ag,I.1 A,J.1 C,L.1 E⟩
   · rintro ⟨_,A,C,E⟩; exact ⟨I.2 A,J.2 C,L.2 E⟩
def cx (t:List UInt8):List (List UInt8):=dU []<|jT t
theorem q7 (t:List UInt8):(cx t).length≤t.length:=cQ (M9 _)<|xx t
theorem zT {t x:List UInt8} (h:x∈cx t):x.length≤t.length:=by
 have :=Na _ _ _ h;have :=xx t;simp only [fq] at*; omega
def tS (f:List UInt8):Bool:=decide ((f.getD 0 0).toNat=35)
def lA (f:List (List UInt8)):List (List UInt8):=f.takeWhile fun x=> !tS x
def iJ (l:List UInt8) (n:Nat):List (Nat×List (List UInt8)):=if lA (bN [] l)= [] then [] else [(n,lA (bN [] l))]
def iL (n:Nat):List (List UInt8)→List (Nat×List (List UInt8))
 | []=> []
 | l::r=>iJ l n++iL (n+1) r
def et (t:List UInt8):List (Nat×List (List UInt8)):=iL 1<|cx t
theorem kQ (l:List UInt8):∀ (ls:List (List UInt8)) (n:Nat),iL n (ls++ [l])=iL n ls++iJ l (n+ls.length):=by
 intro ls
 induction ls with
 | nil=>intro n; simp [iL]
 | cons a ls ih=>intro n; rw [List.cons_append,iL,ih,iL,cn,iC,show n+1 +ls.length=n+(ls.length+1) from by omega]
theorem AF:∀ (ls:List (List UInt8)) (n:Nat),(iL n ls).length≤ls.length:=by
 intro ls
 induction ls with
 | nil=>intro n; simp [iL]
 | cons a ls ih=>
   intro n;have :=ih<|n+1;unfold iL iJ;rw [bp];split <;> simp only [fq,cn] <;> omega
theorem F5 (t:List UInt8):(et t).length≤t.length:=cQ (AF _ _)<|q7 t
theorem vR {f:List (List UInt8)} :∀ {j:Nat},j≤f.length→(∀ i,i < j→tS (f.getD i [])=false)→(j=f.length∨tS (f.getD j [])=true)→lA f=f.take j:=by
 induction f with
 | nil=>intro j E _ _; rw [List.take_nil]; rfl
 | cons a f ih=>
   intro j E C A;cases j with
   | zero=>
     rcases A with A | A
     · simp at A
     · simp only [oE] at A;simp [lA,A]
   | succ j=>
     have h0:=C 0 ag;simp only [oE] at h0;have :=ih (j:=j) (by simpa using E) (fun i hi=>by simpa using C (i+1) ag)<|by simpa using A
     unfold lA at*;rw [List.takeWhile_cons,h0];simp only [Bool.not_false,if_true,BP];rw [this]
theorem MK {f:List (List UInt8)} {x:List UInt8} (h:x∈lA f):x∈f:=(I5 _).subset h
theorem MJ (f:List (List UInt8)):(lA f).length≤f.length:=(I5 _).length_le
theorem OC:∀ (ls:List (List UInt8)) (n:Nat) (r:Nat×List (List UInt8)),r∈iL n ls→n≤r.1∧r.1 < n+ls.length∧r.2≠[]∧∃ l∈ls,r.2=lA (bN [] l):=by
 intro ls
 induction ls with
 | nil=>intro n r h; cases h
 | cons a ls ih=>
   intro n r h;rw [iL] at h;rcases List.mem_append.1 h with h | h
   · unfold iJ at h;split at h
     · cases h
     · simp only [fu] at h; subst h;exact ⟨by simp,by simp,by assumption,a,by simp,U⟩
   · obtain ⟨I,J,A,l,E,C⟩:=ih _ _ h;exact ⟨ag,by simp only [cn]; omega,A,l,by simp [E],C⟩
theorem F6 {t:List UInt8} {r:Nat×List (List UInt8)} (h:r∈et t):1≤r.1∧r.1≤t.length∧r.2≠[]∧r.2.length≤t.length+1∧∀ x∈r.2,x≠[]∧x.length≤t.length:=by
 obtain ⟨E,L,I,l,J,A⟩:=OC _ _ _ h;have O:=q7 t;have M:=zT J;refine ⟨E,ag,I,?_,fun x C=> ?_⟩
 · rw [A]; have :=MJ (bN [] l); have :=tt l []; omega
 · rw [A] at C;have :=zo _ _ _<|MK C;simp only [fq] at this;exact ⟨this.1,ag⟩
theorem Hm {h:Array Obj} {a:Option ba} {l:List UInt8} {i:Nat} (A:aU h a (U8 l)) (hi:i < l.length):Hb.aO h (bk a) (fo a+i*1)=some (.int .u8 (l.getD i 0).toNat):=by
 refine A.yF ?_;unfold U8;rw [ij,cI hi,cW,cI hi]; rfl
theorem Qf {h:Array Obj} {a:Option ba} {l:List UInt8} (A:aU h a (U8 l)) (n:Nat):aU h a (U8<|l.take n):=by
 have :=A.take n;unfold U8 at*;rwa [IU]
theorem Hn {l:List UInt8} (h:0 < l.length):U8 l≠[]:=by
 intro e;have :=congrArg jx e;rw [vd,fq] at this;omega
theorem om {w:ai} {B e:Nat} {v:ah} {l:List UInt8} {x:UInt8} (h:w.ownsRow B e 1 v (l.length+1) (U8 l++ [.int .u8 x.toNat])):w.ownsRow B e 1 v (l++ [x]).length (U8<|l++ [x]):=by
 rw [bp,yA]; exact h
theorem ni {w:ai} {B e:Nat} {v:ah} {l:List (List UInt8)} {x:List UInt8} (h:w.ownsRow B e 1 v (l.length+1) (l.map str++ [str x])):w.ownsRow B e 1 v (l++ [x]).length ((l++ [x]).map str):=by grind
abbrev Rw:Type :=Nat×List (List UInt8)
def AK (q:Nat×ah):List ah:= [.int .i64 q.1,q.2]
def mr (l:List (Nat×ah)):List ah:=l.flatMap AK
theorem AJ (a b:List (Nat×ah)):mr (a++b)=mr a++mr b:=by simp [mr]
theorem rP {l:List (Nat×ah)} (h:0 < l.length):mr l≠[]:=o8 (f:=AK) (m:=2) (fun _=>rfl) aI h
def Jo (h:Array Obj) (q:Nat×ah) (r:Rw):Prop :=q.1=r.1∧∃ fa A,q.2= .slice fa r.2.length A∧bQ h fa r.2
def Jn (h:Array Obj) (vs:List (Nat×ah)) (rs:List Rw):Prop :=vs.length=rs.length∧∀ (i:Nat) q r,vs[i]? =some q→rs[i]? =some r→Jo h q r
theorem rQ {h:Array Obj} {ad:Option ba} {vs:List (Nat×ah)} {i:Nat} {q:Nat×ah} (A:aU h ad (mr vs)) (C:vs[i]? =some q):∀ j,j < 2→Hb.aO h (bk ad) (fo ad+i*2 +j)= [bh .i64 q.1,q.2][j]? :=
 mZ (f:=AK) (m:=2) (fun _=>rfl) A C
def Tg (w:ai) (B e n:Nat) (v:ah) (xs:List ah):Prop :=
 ∃ a A,v= .slice a n A∧n≤A∧(xs= []∨∃ b cur z,a=some ⟨b,0,none⟩∧B≤b∧w.heap[b]? =some (.cells cur e z)∧∀ (j:Nat) u,xs[j]? =some u→cur[j]? =some u)
theorem Tg.oh {w:ai} {B e size n:Nat} {v:ah} {xs:List ah} (h:w.ownsRow B e size v n xs):Tg w B e n v xs:=by
 have h0:=h;rcases h.2 with ⟨rfl,rfl⟩ | ⟨g,cap,cur,rfl,hb,A,_,_,_,C⟩
 · exact ⟨none,0,U,bf _,.inl<|ku<|by simpa using h.1⟩
 · refine ⟨_,cap,U,(du h0).1,.inr ⟨g,cur,_,U,hb,A,fun j u hu=> ?_⟩⟩;rw [← C,j0] at hu;split at hu
   · simpa using hu
   · cases hu
theorem Tg.cells {w:ai} {B e n:Nat} {v:ah} {xs:List ah} (h:Tg w B e n v xs):∃ a A,v= .slice a n A∧aU w.heap a xs:=by
 obtain ⟨a,A,rfl,_,h | ⟨b,cur,z,rfl,_,C,E⟩⟩:=h
 · subst h; exact ⟨a,A,rfl,aU.nil _ _⟩
 · refine ⟨_,A,U,fun _=>rfl,fun j u hu=> ?_⟩;show Hb.aO w.heap b (0 +j)=_;rw [dx,eC C]; exact E j u hu
theorem Tg.mR {w:ai} {B e n A:Nat} {a:Option ba} {xs:List ah} (h:Tg w B e n (.slice a n A) xs):n≤A∧aU w.heap a xs:=by
 obtain ⟨a',c',E,C,L⟩:=id h;obtain ⟨a2,c2,I,J⟩:=h.cells;cases E; cases I;exact ⟨C,J⟩
theorem Tg.slice {w:ai} {B e n:Nat} {v:ah} {xs:List ah} (h:Tg w B e n v xs):∃ a A,v= .slice a n A:=let ⟨a,A,hv,_⟩:=h; ⟨a,A,hv⟩
theorem Tg.md {F:Nat→Prop} {w w':ai} {B e n:Nat} {v:ah} {xs:List ah} (h:Tg w B e n v xs) (hm:Md F w w') (I:∀ k,F k→∀ cur z,w.heap[k]?≠some (.cells cur e z)):Tg w' B e n v xs:=by
 obtain ⟨a,C,rfl,E,h | ⟨b,cur,z,rfl,hb,A,L⟩⟩:=h
 · exact ⟨a,C,U,E,.inl h⟩
 · exact ⟨_,C,U,E,.inr ⟨b,cur,z,U,hb,by rw [hm.dA b (cr.1 A).1 (fun J=>I b J cur z A)]; exact A,L⟩⟩
theorem Tg.wk {w w':ai} {B e n:Nat} {v:ah} {xs:List ah} (h:Tg w B e n v xs) (hm:Wk w w'):Tg w' B e n v xs:=h.md hm fun _ A=>A.elim
theorem Tg.clip {w:ai} {B e n k C A:Nat} {a:Option ba} {xs:List ah} (h:Tg w B e n (.slice a n C) xs) (E:k≤A):Tg w B e k (.slice a k A) (xs.take k):=by grind [Tg]
theorem hH {w:ai} {B e e' size n:Nat} {v:ah} {xs:List ah} (h:w.ownsRow B e size v n xs) (I:e≠e'):∀ k,v.ownBlock=some k→∀ cur z,w.heap[k]?≠some (.cells cur e' z):=by
 intro k C cur z A;rcases h.2 with ⟨rfl,_⟩ | ⟨g,cap,J,rfl,_,E,_⟩
 · simp [dM] at C
 · simp only [dM,bR] at C;subst C;rw [E] at A;simp only [bR,nC] at A;exact I A.2.1
theorem Kc {w:ai} {b e e':Nat} {cs:Array ah} {y:Nat×Nat} (h:w.heap[b]? =some (.cells cs e y)) (A:e≠e'):∀ k,k=b→∀ cur z,w.heap[k]?≠some (.cells cur e' z):=by grind
def fS (w:ai) (B e:Nat) (vs:List (Nat×ah)) (rs:List Rw):Prop :=vs.length=rs.length∧∀ (i:Nat) q r,vs[i]? =some q→rs[i]? =some r→q.1=r.1∧Tg w B e r.2.length q.2 (r.2.map str)
theorem fS.nil (w:ai) (B e:Nat):fS w B e [] []:=⟨rfl,fun i q r A=>by simp at A⟩
theorem fS.md {F:Nat→Prop} {w w':ai} {B e:Nat} {vs:List (Nat×ah)} {rs:List Rw} (h:fS w B e vs rs) (hm:Md F w w') (E:∀ k,F k→∀ cur z,w.heap[k]?≠some (.cells cur e z)):fS w' B e vs rs:=
 ⟨h.1,fun i q r A C=>⟨(h.2 i q r A C).1,(h.2 i q r A C).2.md hm E⟩⟩
theorem fS.wk {w w':ai} {B e:Nat} {vs:List (Nat×ah)} {rs:List Rw} (h:fS w B e vs rs) (hm:Wk w w'):fS w' B e vs rs:=h.md hm fun _ A=>A.elim
theorem fS.snoc {w:ai} {B e n:Nat} {vs:List (Nat×ah)} {rs:List Rw} {v:ah} {r:List (List UInt8)} (ha:fS w B e vs rs) (I:Tg w B e r.length v (r.map str)):fS w B e (vs++ [(n,v)]) (rs++ [(n,r)]):=by
 refine ⟨by rw [bp,bp,ha.1]; rfl,fun i q' r' A C=> ?_⟩;have E:=ha.1;by_cases hi:i < vs.length
 · rw [eZ hi] at A;rw [eZ ag] at C;exact ha.2 i q' r' A C
 · rw [eH ag] at A;rw [eH ag,← E] at C;cases hj:i - vs.length with
   | zero=>rw [hj] at A C; cases A; cases C; exact ⟨rfl,I⟩
   | succ j=>rw [hj] at A; simp at A
theorem Tg.mono {w:ai} {B B' e n:Nat} {v:ah} {xs:List ah} (h:Tg w B e n v xs) (A:B'≤B):Tg w B' e n v xs:=by grind [Tg]
theorem fS.mono {w:ai} {B B' e:Nat} {vs:List (Nat×ah)} {rs:List Rw} (h:fS w B e vs rs) (E:B'≤B):fS w B' e vs rs:=⟨h.1,fun i q r A C=>⟨(h.2 i q r A C).1,(h.2 i q r A C).2.mono E⟩⟩
theorem fS.all {w:ai} {B e:Nat} {vs:List (Nat×ah)} {rs:List Rw} (h:fS w B e vs rs):Jn w.heap vs rs:=by
 refine ⟨h.1,fun i q r C E=> ?_⟩;obtain ⟨I,J⟩:=h.2 i q r C E;obtain ⟨a,A,M,L⟩:=J.cells;exact ⟨I,a,A,M,L⟩
def gJ (b:UInt8):Bool:=decide (33≤b.toNat∧b.toNat≠127)
def gG (w:List UInt8):Bool:=w.all gJ
def dL (w:List UInt8):Bool:=decide (1≤w.length∧w.length≤64∧gG w=true)
theorem gK {α:Type} {l:List α} {i:Nat} {d:α} (h:i < l.length):l.getD i d∈l:=by
 rw [cW,cI h]; exact List.getElem_mem h
theorem Nx {α:Type} {l:List α} {x:α} (d:α) (h:x∈l):∃ i,i < l.length∧l.getD i d=x:=by
 obtain ⟨i,hi,rfl⟩:=List.mem_iff_getElem.1 h;exact ⟨i,hi,by rw [cW,cI hi]; rfl⟩
theorem Cb {α:Type} {f:α→Bool} {l:List α} {i:Nat} (d:α) (h:i < l.length) (A:f (l.getD i d)=false):l.all f=false :=by
 rw [List.all_eq_false]; exact ⟨_,gK h,by rw [A]; exact dw⟩
theorem Cc {α:Type} {f:α→Bool} {l:List α} (d:α) (h:∀ i,i < l.length→f (l.getD i d)=true):l.all f=true :=by
 rw [IB]; intro x A; obtain ⟨i,hi,rfl⟩:=Nx d A; exact h i hi
theorem sX {w:List UInt8} {i:Nat} (h:i < w.length) (A:gJ (w.getD i 0)=false):gG w=false :=Cb 0 h A
theorem vm {w:List UInt8} (h:∀ i,i < w.length→gJ (w.getD i 0)=true):gG w=true :=Cc 0 h
def jN (b:UInt8):Bool:=decide (b.toNat=92∨b.toNat=47∨b.toNat=35)
abbrev u6:Type :=List UInt8×List UInt8×Bool×Nat
def FV (r:u6):ah:= .tuple #[str r.1,str r.2.1,.bool r.2.2.1,.int .i64 r.2.2.2]
def fm:List UInt8→List UInt8→u6
 | acc,[]=>(acc,[],false,0)
 | acc,[b]=>if b.toNat=47 then (acc,[],true,0) else if b.toNat=92 then ([],[],false,20) else (acc++ [b],[],false,0)
 | acc,b::c::l=>if b.toNat=47 then (acc,c::l,true,0) else if b.toNat=92 then (if jN c=true then fm (acc++ [c]) l else ([],[],false,20)) else fm (acc++ [b]) (c::l)
theorem xJ (acc:List UInt8):fm acc []=(acc,[],false,0):=by simp [fm]
theorem xK {acc l:List UInt8} {b:UInt8} (h:b.toNat=47):fm acc (b::l)=(acc,l,true,0):=by
 cases l <;> simp [fm,h]
theorem xG {acc:List UInt8} {b:UInt8} (h:b.toNat=92):fm acc [b]=([],[],false,20):=by simp [fm,h]
theorem xH {acc l:List UInt8} {b c:UInt8} (h:b.toNat=92) (A:jN c=false):fm acc (b::c::l)=([],[],false,20):=by simp [fm,h,A]
theorem si {acc l:List UInt8} {b c:UInt8} (h:b.toNat=92) (A:jN c=true):fm acc (b::c::l)=fm (acc++ [c]) l:=by simp [fm,h,A]
theorem xI {acc l:List UInt8} {b:UInt8} (h:¬b.toNat=47) (A:¬b.toNat=92):fm acc (b::l)=fm (acc++ [b]) l:=by
 cases l <;> simp [fm,h,A]
theorem QT (n:Nat):∀ (l acc:List UInt8),l.length≤n→(fm acc l).1.length≤acc.length+l.length∧(fm acc l).2.1.length≤l.length:=by
 induction n with
 | zero=>intro l acc h; obtain rfl :=ku (by omega :l.length=0); rw [xJ]; exact ⟨by simp,by simp⟩
 | succ n ih=>
   intro l acc h;cases l with
   | nil=>rw [xJ]; exact ⟨by simp,by simp⟩
   | cons b l=>
     simp only [cn] at h ⊢;by_cases C:b.toNat=47
     · rw [xK C]; exact ⟨by simp only; omega,by simp only; omega⟩
     · by_cases A:b.toNat=92
       · cases l with
         | nil=>rw [xG A]; exact ⟨by simp,by simp⟩
         | cons c l=>
           simp only [cn] at h ⊢;cases hc:jN c
           · rw [xH A hc]; exact ⟨by simp,by simp⟩
           · rw [si A hc];have :=ih l (acc++ [c]) ag;rw [bp,dC] at this;omega
       · rw [xI C A];have :=ih l (acc++ [b]) ag;rw [bp,dC] at this;omega
def iA (f:List UInt8):u6:=fm [] f
theorem HJ (f:List UInt8):(iA f).1.length≤f.length∧(iA f).2.1.length≤f.length:=by
 have :=QT f.length f []<|bf _;simpa [iA] using this
def eG (w:List UInt8):List UInt8:=w.flatMap fun b=>if jN b=true then [92,b] else [b]
theorem sm {w:List UInt8} {i:Nat} (h:i < w.length):eG (w.take<|i+1)=eG (w.take i)++(if jN (w.getD i 0)=true then [92,w.getD i 0] else [w.getD i 0]):=by
 rw [ib w i 0 h]; simp [eG]
theorem sj (w:List UInt8):(eG w).length≤2 *w.length:=by
 induction w with
 | nil=>simp [eG]
 | cons b w ih=>
   have h:eG (b::w)=(if jN b=true then [92,b] else [b])++eG w:=rfl;rw [h,bp,cn];split <;> simp only [cn,fq] <;> omega
def lets (s:List UInt8):List UInt8:=s.foldl (fun a b=>if b∈a then a else a++ [b]) []
def letE (s:List UInt8):List UInt8×Nat:=if s= []∨gG s=false then ([],21) else (lets s,0)
theorem n7 {s:List UInt8} {i:Nat} (h:i < s.length):lets (s.take<|i+1)=if s.getD i 0∈lets (s.take i) then lets (s.take i) else lets (s.take i)++ [s.getD i 0]:=by
 unfold lets;rw [ib s i 0 h,List.foldl_append]; rfl
theorem zR (s:List UInt8):(lets s).length≤s.length:=by
 have key:∀ (s a:List UInt8),(s.foldl (fun a b=>if b∈a then a else a++ [b]) a).length≤a.length+s.length:=by
  intro s
  induction s with
  | nil=>intro a; simp
  | cons b s ih=>
    intro a;rw [uH,cn];split
    · have :=ih a; omega
    · have :=ih (a++ [b]); rw [bp,dC] at this; omega
 have :=key s [];simpa [lets] using this
def marksOf (a:List UInt8):List ah:=(qt 256).map fun k=> .bool<|decide (ga k∈a)
theorem E3 (a:List UInt8):(marksOf a).length=256:=by simp [marksOf]
theorem Np (a:List UInt8) (b:UInt8):(marksOf a)[b.toNat]? =some (.bool<|decide (b∈a)):=by
 have :=oM b;unfold marksOf;rw [ij,BL ag];simp
theorem Ns (a:List UInt8) (b:UInt8):(marksOf a).set b.toNat (.bool true)=marksOf (a++ [b]):=by
 apply ya;intro k;rw [List.getElem?_set,E3];unfold marksOf;rw [ij,ij];by_cases C:k < 256
 · rw [BL C];simp only [e7];have he:(ga k=b)↔b.toNat=k:=by
    constructor
    · rintro rfl; simp; omega
    · rintro rfl; simp
   by_cases h:b.toNat=k
   · have A:=he.2 h;simp [h,C,A]
   · have A:¬ga k=b:=fun e=>h<|he.1 e;simp [h,A]
 · have :(qt 256)[k]? =none:=qk<|by simp; omega
   have hb:=oM b;rw [this];simp; omega
theorem Nq:marksOf []=eM 256 (.bool false):=by
 unfold marksOf;apply ya;intro k;rw [ij,List.getElem?_replicate];by_cases A:k < 256
 · rw [BL A]; simp [A]
 · rw [qk (by simp; omega)]; simp [A]
theorem Bd.new {T e b:Nat} {w:ai} (h:w.heap[b]? =some (.cells [cZ none,.slice none 0 0].toArray T (0,0))):Bd T e w b (.slice none 0 0) []:=
 ⟨⟨none,h,.inl rfl⟩,eL _ _ _ _,by simp⟩
theorem Bd.step {T e b:Nat} {w0 w w':ai} {A:ah} {l:List UInt8} (h:Bd T e w b A l) (C:Wk w0 w) (E:Md (BF b A) w w') (hb:w0.heap.size≤b):Wk w0 w':=
 Md.trans' C E fun k J I=>by have :=h.vL I; omega
theorem Bd.ud {T e b:Nat} {w0 w w':ai} {A:ah} {l:List UInt8} (h:Bd T e w b A l) (C:Wk w0 w) (E:Md (fun k=>A.ownBlock=some k) w w') (hb:w0.heap.size≤b):Wk w0 w':=
 Md.trans' C E fun k J I=>by have :=h.vL (.inr I); omega
end Go.Hb
section
namespace Go.Hb
def mP (P:av) (t:au):Option (Nat×Nat):=
 match P.underlying t with
 | some (.array n e)=>(P.info? e).map fun i=>(n,i.size)
 | _=>none
section
variable {P:av} {N:Fm} {σ:Nat→ah} {w:ai} {dst:Option Nat} {ty:au} {pos :String} {af:Array cH} {g:Option (Nat×Bool)} {x y:bA}
theorem pc {t n A b off :Nat} {k:bY} {i:Int} (he:mP P t=some (n,A)) (C:ev N σ x= .pointer (some ⟨b,off,none⟩)) (E:ev N σ y= .int k i) (h0:0≤i∧i < n):
 (execOp (ev N σ) ⟨dst,.indexAddr t x y,ty,pos,af,g⟩).run P w= .ok (.value<|.pointer<|some ⟨b,off+i.toNat*A,none⟩) w:=by
 unfold mP at he;cases hd:P.underlying t with
 | none=>rw [hd] at he; cases he
 | some d=>
   rw [hd] at he;cases d <;> first | (cases he; done) | skip
   rename_i m e;cases hi:P.info? e with
   | none=>simp [hi] at he
   | some j=>
     simp only [hi,e7,bR,kY] at he;obtain ⟨rfl,rfl⟩:=he;simp [execOp,Ij,qc,C,E,asIntOf,bS hd,h0.1,h0.2,sizeOf,eh hi,gw]
end
theorem Nt {h:Array Obj} {b:Nat} {a:List UInt8} (A:aD h b (marksOf a)) (c:UInt8):Hb.aO h b (0 +((c.toNat:Nat):Int).toNat*1)=some (.bool<|decide (c∈a)):=by
 rw [A.aO,show 0 +((c.toNat:Nat):Int).toNat*1=c.toNat from by omega]; exact Np a c
theorem Nu {h:Array Obj} {b:Nat} {a:List UInt8} {c:UInt8} (A:aD h b ((marksOf a).set (0 +((c.toNat:Nat):Int).toNat*1)<|.bool true)):aD h b (marksOf<|a++ [c]):=by
 rw [show 0 +((c.toNat:Nat):Int).toNat*1=c.toNat from by omega,Ns] at A; exact A
end Go.Hb
end
section
set_option linter.unusedSimpArgs false
namespace Go.Hb
open Classical
structure lQ (P:av) (k:au) (bj:ah→Prop):Prop where
 key:qA P k bj
 stays:∀ w v,bj v→(uw v v).run P w= .ok v w
def dT (v:ah):Prop := ∃ s:List UInt8,v=str s
def Ep (q:bY) (v:ah):Prop := ∃ a:Int,v= .int q a
theorem DW {d:TypeDesc} {bj:ah→Prop} (M:∀ x y,bj x→bj y→∃ A,xY d x y=some A∧(A=true↔x=y)) {x:ah} (O:bj x):∀ (es:List MapEntry) (i:Nat),(∀ e∈es,bj e.key)→
 (pZ d x es i=some none∧∀ e∈es,e.key≠x)∨∃ j e,pZ d x es i=some (some (i+j,e.val))∧es[j]? =some e∧e.key=x
 | [],i,_=> .inl ⟨rfl,fun _ h=>by simp at h⟩
 | e::es,i,h=>by
   obtain ⟨A,C,L⟩:=M x e.key O<|h e<|by simp
   cases A with
   | true =>exact .inr ⟨0,e,by simp [pZ,C],rfl,(L.1 rfl).symm⟩
   | false =>
     have Z:e.key≠x:=fun V=>by cases L.2 V.symm
     rcases DW M O es (i+1) (fun e he=>h e<|by simp [he]) with ⟨E,I⟩ | ⟨j,e',E,I,U⟩
     · refine .inl ⟨by simp [pZ,C,E],fun e' J=> ?_⟩;rcases ew.1 J with rfl | J
       · exact Z
       · exact I e' J
     · refine .inr ⟨j+1,e',?_,I,U⟩;simp only [pZ,C,E]; rw [show i+1 +j=i+(j+1) from by omega]
theorem Ey {P:av} {k:au} {d:TypeDesc} {bj:ah→Prop} (I:P.underlying k=some d) (M:∀ x y,bj x→bj y→∃ E,xY d x y=some E∧(E=true↔x=y)) (L:∀ em w v,bj v→(mF em 10000 k v).run P w= .ok () w):qA P k bj where
 check:=L
 find w x es hx hes:=by
  rcases DW M hx es 0 hes with ⟨A,C⟩ | ⟨j,e,A,C,J⟩
  · exact .inl ⟨by simp [pY,bS I,A],C⟩
  · exact .inr ⟨j,e,by simp [pY,bS I,A],C,J⟩
theorem Co (a b:ByteArray):(a==b)=decide (a=b):=by
 rw [pW,decide_eq_true_iff];show ((a.data==b.data)=true)↔_;rw [beq_iff_eq];exact ⟨fun h=>by cases a; cases b; cases h; rfl,fun h=>by rw [h]⟩
theorem zM {P:av} {k:au} (A:P.underlying k=some .string):lQ P k dT where
 key:=Ey A (by
  rintro _ _ ⟨a,rfl⟩ ⟨b,rfl⟩;refine ⟨_,U,?_⟩;rw [Co,decide_eq_true_iff];constructor
  · intro h; unfold str; rw [h]
  · intro h; unfold str at h; cases h; rfl) (by rintro em w _ ⟨a,rfl⟩; exact CD (n:=9999) A w)
 stays w v hv:=by obtain ⟨a,rfl⟩:=hv; simp [uw,Im,str,Co]
theorem Kg {P:av} {k:au} {q r:bY} {em:Bool} {n:Nat} {a:Int} (A:P.underlying k=some (.int q)) (w:ai):(mF em (n+1) k<|.int r a).run P w= .ok () w:=by
 simp only [mF,ie,bS A,gS,jY]
theorem Ex {P:av} {k:au} {q r:bY} (A:P.underlying k=some (.int q)):lQ P k (Ep r) where
 key:=Ey A (by
  rintro _ _ ⟨a,rfl⟩ ⟨b,rfl⟩;refine ⟨decide (a=b),by simp [xY]; rfl,?_⟩;rw [decide_eq_true_iff];exact ⟨fun h=>by rw [h],fun h=>by cases h; rfl⟩) (by rintro em w _ ⟨a,rfl⟩; exact Kg (n:=9999) A w)
 stays w v hv:=by obtain ⟨a,rfl⟩:=hv; simp [uw,Im]
def jC (h:Array Obj) (b:Nat) (bj:ah→Prop) (f:ah→Option ah):Prop :=
 ∃ kvs,lR h b kvs∧(∀ p∈kvs,bj p.1)∧(kvs.map dj).Nodup∧∀ k v,f k=some v↔(k,v)∈kvs
theorem jC.md {F:Nat→Prop} {w w':ai} {b:Nat} {bj:ah→Prop} {f:ah→Option ah} (h:jC w.heap b bj f) (hm:Md F w w') (A:¬F b):jC w'.heap b bj f:=
 let ⟨kvs,h1,h2⟩:=h; ⟨kvs,h1.md hm A,h2⟩
theorem jC.lt {h:Array Obj} {b:Nat} {bj:ah→Prop} {f:ah→Option ah} (hm:jC h b bj f):b < h.size:=let ⟨_,h1,_⟩:=hm; h1.lt
theorem jC.isMap {h:Array Obj} {b:Nat} {bj:ah→Prop} {f:ah→Option ah} (hm:jC h b bj f):∃ es c,h[b]? =some (.map es c):=let ⟨_,⟨es,c,h1,_⟩,_⟩:=hm; ⟨es,c,h1⟩
theorem jC.fA {h:Array Obj} {b:Nat} {bj:ah→Prop} {f:ah→Option ah} (hm:jC h b bj f) {cur:Array ah} {e:au} {z:Nat×Nat} :h[b]?≠some (.cells cur e z):=by
 obtain ⟨es,c,A⟩:=hm.isMap; rw [A]; intro h; cases h
noncomputable def jm (f:ah→Option ah) (k v:ah):ah→Option ah:=fun q=>if q=k then some v else f q
section
variable {P:av} {N:Fm} {σ:Nat→ah} {w:ai} {dst:Option Nat} {ty:au} {pos :String} {af:Array cH} {g:Option (Nat×Bool)} {x y z:bA} {K:(Nat→ah)→ai→Prop}
variable {t k e:au} {bj:ah→Prop} {b:Nat} {f:ah→Option ah} {kx v zv:ah}
theorem EM {ok:Bool} (L:P.underlying t=some (.map k e)) (V:zeroV P e=some zv) (C:lQ P k bj) (hm:jC w.heap b bj f) (M:ev N σ x= .map (some b)) (O:ev N σ y=kx) (hi:bj kx):
 (execOp (ev N σ) ⟨dst,.lookup t x y ok,ty,pos,af,g⟩).run P w= .ok (.value (if ok then .tuple #[(f kx).getD zv,.bool (f kx).isSome] else (f kx).getD zv)) w:=by
 obtain ⟨kvs,E,I,U,J⟩:=hm;cases hf:f kx with
 | none=>exact EL L V C.key E I M O hi fun v A=>by rw [← J] at A; rw [hf] at A; cases A
 | some v=>exact EK L C.key E I M O hi U<|(J kx v).1 hf
theorem tC (C:P.underlying t=some (.map k e)) (L:zeroV P e=some zv) (A:lQ P k bj) (hm:jC w.heap b bj f) (I:ev N σ x= .map (some b)) (J:ev N σ y=kx) (hi:bj kx) (E:(f kx).getD zv=v):
 (execOp (ev N σ) ⟨dst,.lookup t x y false,ty,pos,af,g⟩).run P w= .ok (.value v) w:=by
 rw [EM C L A hm I J hi,E]; rfl
theorem M7 {ob:Bool} (E:P.underlying t=some (.map k e)) (M:zeroV P e=some zv) (A:lQ P k bj) (hm:jC w.heap b bj f) (J:ev N σ x= .map (some b)) (L:ev N σ y=kx) (hi:bj kx) (I:(f kx).getD zv=v) (C:(f kx).isSome=ob):
 (execOp (ev N σ) ⟨dst,.lookup t x y true,ty,pos,af,g⟩).run P w= .ok (.value<|.tuple #[v,.bool ob]) w:=by
 rw [EM E M A hm J L hi,I,C]; rfl
end
end Go.Hb
end
