/-
  Walks and plain laws that the law rests on, laid together. No conditions but those that each theorem names.
-/
import Derived.WalkKit
import Derived.OrdersHeld
import Derived.TacticsIn
import Derived.Lib.Strings
import Derived.Lib.UnsafeStr
import Derived.Laws.MakeOwn
import Derived.Laws.StructEq
import Derived.SliceStrings
import Derived.Carry
import Derived.JoinedCond
import Derived.ProofKit
import Derived.OpenShut
import Derived.Test.YtfgapieofinadaaGreatDoorRows
import Derived.Test.YtfgapieofinadaaGreatDoorChecked
import Derived.Maps.RangeRun
import Derived.Laws.OwnMore
import Derived.Lib.SliceRun
import Derived.RangeFuncFrom
import Derived.RangeFuncLeaves
import Derived.Recover
import Derived.OrdersIn
import Derived.Lib.Bytealg
import Derived.Lib.FrozenHead
import Derived.Deep.AppendSrc
import Derived.RangeFuncNested
import Derived.Stop.LaidErr
import Derived.Shelf.Slices.In.SortAlone
import Derived.Shelf.Slices.In.SortNone
import Derived.Sort.OwnSorted
import Derived.Sort.EveryDepth
set_option linter.unusedVariables false
set_option maxRecDepth 20000
set_option maxHeartbeats 1000000
open Array renaming ext_getElem?→ya,getD_eq_getD_getElem?→ky,getElem?_eq_getElem→qe,getElem?_eq_none→yc,getElem?_eq_some_iff→cx,getElem?_setIfInBounds→uF,mem_toList_iff→yf,range→nG,replicate→sD,setIfInBounds_comm→BK,toArray_toList→BL,toList_append→Ij,toList_inj→sF,toList_map→jx
open BitVec renaming ofInt→j1
open Bool renaming and_eq_true→bP,and_eq_true_iff→sG,eq_iff_iff→oM,false_eq_true→uH,noConfusion→dS,not_eq_true'→mI,or_eq_true→lO
open Go renaming Addr→aW,Code→cm,Edge→cI,Exit→bM,FuncId→e9,IntKind→bX,Oper→aO,Operand→bu,Program→av,TypeId→au,Value→ah,World→ai
open Go.Addr renaming add→yh
open Go.Builtin renaming append_→lP,firstCells→yj,lenOf→Ir,len_→BM
open Go.ByteArray renaming toList_eq→Iu
open Go.Calls renaming mono→jy
open Go.Conv renaming bytesToString→Iy,seenAt→Iz,unsafePointer→IA
open Go.DataW renaming TrodAll→IB,trod→uI
open Go.Deferred renaming ofValue→mK
open Go.Fence renaming wide→ga
open Go.Instr renaming alloc→ym,buildSlice→uJ,checkKey→mL,fill→kz,findAsking→qg,findKey→qh,findNow→qi,loadAt→IG,lookup→IH,slice→uL,sliceAt→qk,sliceBound→qo,sliceBounds→mM,storeAt→BO,sureAddr→oN
open Go.IntKind renaming i64→yn
open Go.Lib renaming run_append_own_string→IL
open Go.Next renaming value→uM
open Go.Obj.cells renaming injEq→nH
open Go.Op renaming bytesLess→BP,equal→oO,equalIn→j2,intArith→uN,intCmp→sL,intDiv→BQ,stringOp→qq
open Go.Oper renaming upon→j3,uponIn→sM,wp→iD
open Go.Program renaming built→IN
open Go.Proofs.Tryz renaming prog→aq
open Go.Region renaming Mode→qt,binds→eQ,free_spec→BR,noSelect_spec→BS,ready→fH,wanted→mN
open Go.Result renaming andThen_ok→ij,ok→uP
open Go.Sem renaming run_bind→iE,run_ite→uQ,run_pure→kA
open Go.Value renaming bool→bB,cells→sN,int→bh,oneCell'→lh,ownBlock→dL,pointer→cZ,slice→ff
open Go.Value.slice renaming injEq→mO
open Go.Value.string renaming inj→IQ
open Go.World renaming cell?→IS,cells?_some→IT,freeze→nI,ownsRow_nil→eL,setCell→yp,shape?→BU
open Int renaming tdiv_eq_ediv_of_nonneg→IW
open List renaming all_cons→uR,all_eq_true→IZ,any_eq_true→I0,append_assoc→iF,append_nil→kC,drop_eq_nil_of_le→iY,eq_nil_of_length_eq_zero→j5,ext_getElem?→yt,flatMap_cons→I9,flatten_cons→sO,foldl_cons→uV,getD_cons_zero→oP,getD_eq_getElem?_getD→cQ,getElem?_append_left→eR,getElem?_append_right→eC,getElem?_cons_succ→jA,getElem?_cons_zero→jB,getElem?_eq_getElem→cr,getElem?_eq_none→qy,getElem?_eq_some_iff→dt,getElem?_map→gy,getElem?_range→yu,getElem?_take→j6,idxOf_cons→Jb,idxOf_cons_self→Jc,length→jC,length_append→bo,length_cons→cg,length_map→nK,length_nil→fu,length_range→Je,length_singleton→dE,length_take→bY,mapM_toArray→yw,map_cons→eS,map_take→Jh,mem_append_left→Ji,mem_cons→ej,mem_map_of_mem→qA,mem_of_getElem?→lj,mem_singleton→fv,nil_append→oQ,range→nL,replicate→eM,size_toArray→fS,takeWhile_sublist→Js,take_succ_cons→B8,take_zero→uZ,zipIdx_cons→Jw
open List.cons renaming inj→I2,injEq→j4
open Nat renaming add_assoc→iG,beq→bC,ble→bL,blt→ba,div_add_mod→Jx,eq_of_beq_eq_true→cP,le_of_ble_eq_true→cG,le_refl→bf,le_trans→cR,lt_of_le_of_lt→Jy,lt_of_lt_of_le→oT,lt_or_eq_of_le→Jz,lt_or_ge→dM,lt_succ_self→oU,mul_comm→u7,mul_one→nN,succ_mul→sT,zero_add→du,zero_mul→sV
open Option renaming bind_eq_some_iff→qC,bind_some→JE,isSome_iff_exists→oV,map_eq_some_iff→il,map_some→fg
open Option.some renaming injEq→bR
open Prod renaming fst→dj
open Prod.mk renaming injEq→kF
open UInt8 renaming lt_iff_toNat_lt→yI,ofNat→gi,toNat_inj→nO,toNat_lt→oW
open Go.Proofs.Tryz
open Go.RowKit

namespace Go.Hb
theorem ag {p:Prop} (h:p:=by omega):p:=h
theorem an {p:Prop} (h:p:=by kernel_rfl):p:=h
theorem aJ {p:Prop} (h:p:=by decide):p:=h
theorem U {α:Sort _} {a:α} :a=a:=rfl
end Go.Hb
section
namespace Go.Hb
structure Fm where
 n:Nat
 D:List Deferred
 F:List Nat
 r:Option Nat
def bI (σ:Nat→ah) (d:Nat) (v:ah):Nat→ah:=fun i=>cond (bC i d) v<|σ i
def dq (σ:Nat→ah):Option Nat→ah→Nat→ah
 | some d,v=>bI σ d v
 | none,_=>σ
def act (N:Fm) (σ:Nat→ah):Act:=⟨((nL N.n).map σ).toArray,N.D⟩
def ev (N:Fm) (σ:Nat→ah):bu→ah
 | .tmp t=>cond (ba t N.n) (σ t) undef
 | .const v=>v
 | .global g=> .pointer<|some ⟨g,0,none⟩
 | .func f=> .func (.func f) #[] #[]
theorem kI (N:Fm) (σ:Nat→ah) (t:Nat):(act N σ).tmps[t]? =if t < N.n then some (σ t) else none:=by grind [act]
theorem ek (N:Fm) (σ:Nat→ah):(act N σ).eval=ev N σ:=by
 funext x;cases x with
 | tmp t=>
   simp only [Act.eval,ev,ky,kI];by_cases h:t < N.n
   · rw [if_pos h,show ba t N.n=true from by simpa using h]; rfl
   · rw [if_neg h,show ba t N.n=false from by cases hx:ba t N.n <;> simp_all [ba,Nat.ble_eq] <;> omega]; rfl
 | _=>rfl
theorem vz {a b:Act} (A:a.defers=b.defers) (C:∀ i:Nat,a.tmps[i]? =b.tmps[i]?):a=b:=by
 cases a; cases b;simp only at A C;subst A;congr 1;exact ya C
theorem gk (N:Fm) (σ:Nat→ah) (dst:Option Nat) (v:ah):(act N σ).put dst v=act N (dq σ dst v):=by
 cases dst with
 | none=>rfl
 | some d=>
   refine vz U fun i=> ?_;have h0:((act N σ).put (some d) v).tmps=(act N σ).tmps.setIfInBounds d v:=rfl;rw [h0,uF,kI,kI];have C:(act N σ).tmps.size=N.n:=by simp [act]
   simp only [dq,bI];by_cases A:i=d
   · subst A;rw [C];have hb:bC i i=true :=by simp
     by_cases h:i < N.n
     · rw [if_pos rfl,if_pos h,if_pos h,hb]; rfl
     · rw [if_pos rfl,if_neg h,if_neg h]
   · rw [if_neg (fun e=>A e.symm)];have hb:bC i d=false :=by
      cases hx:bC i d
      · rfl
      · exact absurd (cP hx) A
     rw [hb]; rfl
theorem oH {σ:Nat→ah} {i:Nat} {v:ah} (h:σ i=v):bI σ i v=σ:=by grind [bI,bC,cP]
def lift (N:Fm) (Q:bM→(Nat→ah)→ai→Prop):bM→Act→ai→Prop
 | .panic c,a,w=> ∃ σ,a=act N σ∧∀ σ',(∀ i∈N.F,σ' i=σ i)→Q (.panic c) σ' w
 | .outgrown,_,_=>False
 | e,a,w=> ∃ σ,a=act N σ∧Q e σ w
def fe:Option Nat→Fence
 | none=>ga
 | some l=>ga.inRound l
theorem pn (r:Option Nat):(fe r).round=r:=by cases r <;> rfl
theorem mg (r:Option Nat) (f:e9):(fe r).fn f:=by cases r <;> trivial
theorem pk (r:Option Nat):(fe r).depth=none:=by cases r <;> rfl
theorem wg {r:Option Nat} {n:Nat} {P:av} {f:e9} {args:Array ah} {w:ai} {R:Ending→ai→Prop} (h:Calls P f args w R):CallsIn (fe r) n P f args w R:=by
 cases r
 · exact callsIn_wide.2 h
 · exact (callsIn_wide (n:=n)).2 h
theorem D6 {r:Option Nat} {n:Nat} {P:av} {row:String} {args:Array ah} {w:ai} {R:ah→ai→Prop} (h:Rows P row args w R):RowsIn (fe r) n P row args w R:=fun c cs _=>by
 obtain ⟨v,w',C,A⟩:=h c cs;refine ⟨v,w',C,?_⟩;cases r
 · exact stepsIn_wide.2 A
 · exact stepsIn_wide.2 A
def Ay (ops:List aO):Bool:=ops.all fun o=>match o.op with | .defer _=>false | _=>true
def mu (r:Option Nat) (ops:List aO):Bool:=match r with | none=>true | some _=>Ay ops
theorem N9 {l:List aO} (h:Ay l=true):∀ o∈l,∀ c,o.op≠.defer c:=by grind [Ay]
theorem zW {r:Option Nat} {P:av} {ops:Array aO} {Q:bM→Act→ai→Prop} (A:¬LetsOut Q) (hr:mu r ops.toList=true):∀ (l:List Nat) (a:Act) (w:ai),wpOps P ops Q l a w→wpOpsIn (fe r) 0 P ops Q l a w:=by
 intro l
 induction l with
 | nil=>exact fun _ _ h=>h
 | cons i l ih=>
   intro a w h;simp only [wpOps] at h;simp only [wpOpsIn];cases ho:ops[i]? with
   | none=>simp only [ho] at h ⊢; exact ih a w h
   | some o=>
     simp only [ho] at h ⊢;by_cases hw:mN o (yielded ops a.tmps)=true
     · rw [if_pos hw] at h ⊢;rcases h with h | h
       · refine ⟨fun f _=>mg r f,?_⟩;rw [pn];have C:o.semAt r a.eval=execOp a.eval o:=by
          cases r with
          | none=>rfl
          | some k=>exact Oper.semAt_eq _ _ _<|N9 hr o<|yf.2<|Array.mem_of_getElem? ho
         rw [C];unfold iD at h;generalize (execOp a.eval o).run P w=x at h;cases x with
         | ok n w'=>
           cases n <;> simp only [j3,sM] at h ⊢ <;>
            first
             | exact ih _ _ h
             | (refine ⟨fun h0=>(by rw [pk] at h0; cases h0),CallsIn.mono (wg h) fun e w'' he=> ?_⟩
                cases e <;> first | exact ih _ _ he | exact he)
             | exact ⟨fun h0=>(by rw [pk] at h0; cases h0),RowsIn.mono (D6 h) fun v w'' he=>ih _ _ he⟩
         | halt x w'=>cases x <;> simp only [j3,sM] at h ⊢ <;> exact h
       · exact absurd h.2 A
     · rw [if_neg hw] at h ⊢;exact ⟨fun f _=>mg r f,ih _ _ h⟩
def bU (P:av) (N:Fm) (c:cm) (Q:bM→(Nat→ah)→ai→Prop) (σ:Nat→ah) (w:ai):Prop :=
 c.wpIn (fe N.r) 0 P (lift N Q) (act N σ) w
def cH (P:av) (N:Fm) (ops:Array aO) (Q:bM→(Nat→ah)→ai→Prop) (l:List aO) (σ:Nat→ah) (w:ai):Prop :=
 wpList P ops (lift N Q) l (act N σ) w
def iU (K:(Nat→ah)→ai→Prop) (Q:bM→(Nat→ah)→ai→Prop):bM→(Nat→ah)→ai→Prop
 | .normal,σ,w=>K σ w
 | e,σ,w=>Q e σ w
def nh (id:Nat) (Q:bM→(Nat→ah)→ai→Prop):bM→(Nat→ah)→ai→Prop
 | .exit A,σ,w=>if A=id then Q .normal σ w else Q (.exit A) σ w
 | e,σ,w=>Q e σ w
section
variable {P:av} {N:Fm} {Q:bM→(Nat→ah)→ai→Prop} {σ:Nat→ah} {w:ai} {K:(Nat→ah)→ai→Prop}
theorem NC {Q C:bM→(Nat→ah)→ai→Prop} (h:∀ e σ w,Q e σ w→C e σ w) (e:bM) (a:Act) (w:ai):lift N Q e a w→lift N C e a w:=by
 cases e <;> first | exact fun h=>h.elim | exact fun ⟨σ,ha,A⟩=>⟨σ,ha,h _ _ _ A⟩ | exact fun ⟨σ,ha,A⟩=>⟨σ,ha,fun σ' E=>h _ _ _<|A σ' E⟩
theorem H5 {A:bM→(Nat→ah)→ai→Prop} {c:cm} (h:∀ e σ w,Q e σ w→A e σ w) (C:bU P N c Q σ w):bU P N c A σ w:=
 wpIn_mono C (NC h)
theorem tn (h:K σ w):iU K Q .normal σ w:=h
theorem te (id:Nat) (h:Q (.exit id) σ w):iU K Q (.exit id) σ w:=h
theorem tr (h:Q .ret σ w):iU K Q .ret σ w:=h
theorem bn {id:Nat} (h:Q .normal σ w):nh id Q .normal σ w:=h
theorem be {id:Nat} (h:Q .normal σ w):nh id Q (.exit id) σ w:=by simpa only [nh,if_true] using h
theorem Kd {id A:Nat} (C:A≠id) (h:Q (.exit A) σ w):nh id Q (.exit A) σ w:=by simpa only [nh,if_neg C] using h
theorem br {id:Nat} (h:Q .ret σ w):nh id Q .ret σ w:=h
theorem sq {x y:cm} (h:∀ K:(Nat→ah)→ai→Prop,(∀ σ w,bU P N y Q σ w→K σ w)→bU P N x (iU K Q) σ w):bU P N (.seq x y) Q σ w:=by
 refine wpIn_seq<|wpIn_mono (h (fun σ w=>bU P N y Q σ w) fun _ _ h=>h) ?_;intro e a w A;cases e with
 | normal=>obtain ⟨σ,rfl,C⟩:=A; exact C
 | panic c=>exact A
 | outgrown=>exact A
 | _=>obtain ⟨σ,rfl,C⟩:=A; exact ⟨σ,rfl,C⟩
theorem ei {x y:cm} (A:(Nat→ah)→ai→Prop) (h:bU P N x (iU A Q) σ w) (I:∀ σ w,A σ w→bU P N y Q σ w):bU P N (.seq x y) Q σ w:=
 sq fun _ E=>H5 (fun e _ _ C=>by cases e <;> first | exact E _ _ (I _ _ C) | exact C) h
theorem ct {c:bu} {x y:cm} (A:ev N σ c= .bool true) (h:bU P N x Q σ w):bU P N (.cond c x y) Q σ w:=
 wpIn_cond_true (by rw [ek]; exact A) h
theorem cf {c:bu} {x y:cm} (A:ev N σ c= .bool false) (h:bU P N y Q σ w):bU P N (.cond c x y) Q σ w:=
 wpIn_cond_false (by rw [ek]; exact A) h
theorem cb {c:bu} {x y:cm} {b:Bool} (A:ev N σ c= .bool b) (E:b=true→bU P N x Q σ w) (C:b=false→bU P N y Q σ w):bU P N (.cond c x y) Q σ w:=by
 cases b
 · exact cf A<|C U
 · exact ct A<|E U
theorem cd {c:bu} {x y:cm} {p:Prop} [Decidable p] (A:ev N σ c= .bool (decide p)) (E:p→bU P N x Q σ w) (C:¬p→bU P N y Q σ w):bU P N (.cond c x y) Q σ w:=by grind [cb]
theorem ax {id:Nat} {c:cm} (h:bU P N c (nh id Q) σ w):bU P N (.block id c) Q σ w:=by
 refine wpIn_block<|wpIn_mono h ?_;intro e a w C;cases e with
 | panic c=>exact C
 | outgrown=>exact C
 | exit E=>
   obtain ⟨σ,rfl,A⟩:=C;simp only [nh,Exit.inBlock] at A ⊢;split
   · rename_i e; rw [if_pos e] at A; exact ⟨σ,rfl,A⟩
   · rename_i e; rw [if_neg e] at A; exact ⟨σ,rfl,A⟩
 | _=>obtain ⟨σ,rfl,A⟩:=C; exact ⟨σ,rfl,A⟩
theorem ext {id:Nat} (h:Q (.exit id) σ w):bU P N (.exit id) Q σ w:=wpIn_exit ⟨σ,rfl,h⟩
theorem GU (h:Q .normal σ w):bU P N .skip Q σ w:=wpIn_skip ⟨σ,rfl,h⟩
theorem rt (h:Q .ret σ w):bU P N .ret Q σ w:=wpIn_ret ⟨σ,rfl,h⟩
theorem fx {c:cm} {v:ah} (i:Nat) (h:σ i=v) (A:bU P N c Q (bI σ i v) w):bU P N c Q σ w:=by rw [oH h] at A; exact A
def Sl (σ:Nat→ah) (L:List (Nat×ah)):Prop :=L.map (fun p=>σ p.1)=L.map (fun p=>p.2)
def uy (σ:Nat→ah):List (Nat×ah)→Nat→ah
 | []=>σ
 | p::L=>bI (uy σ L) p.1 p.2
theorem Bq {σ:Nat→ah} :∀ {L:List (Nat×ah)},Sl σ L→uy σ L=σ
 | [],_=>rfl
 | p::L,h=>by
   have A:σ p.1=p.2:=(I2 h).1;have C:Sl σ L:=(I2 h).2;rw [uy,Bq C,oH A]
theorem bE {c:cm} {L:List (Nat×ah)} (h:Sl σ L) (A:bU P N c Q (uy σ L) w):bU P N c Q σ w:=by rw [Bq h] at A; exact A
theorem lp {c:cm} (L:Nat→(Nat→ah)→ai→Prop) (n:Nat) (h0:L n σ w)
 (h:∀ n σ w,L n σ w→bU P N c (iU (fun σ' w'=> ∃ m,m < n∧L m σ' w') Q) σ w):bU P N (.loop c) Q σ w:=by
 intro b k cs ae hb hr;have key:∀ n σ w,L n σ w→
  ∃ e a' w',lift N Q e a' w'∧ArrivesIn (Machine.fenced P<|fe N.r) P (lone (b.atR (act N σ) (.code c:: .inLoop c::k)) cs w) b k cs e a' w':=by
  intro n
  induction n using Nat.strongRecOn with
  | _ n ih=>
    intro σ w aa;obtain ⟨e,M,J,I,C⟩:=h n σ w aa b (.inLoop c::k) cs ae hb hr;cases e with
    | normal=>
      obtain ⟨A,rfl,m,hm,ab⟩:=I;obtain ⟨Z,O,ag,ad,ac⟩:=ih m hm A J ab;exact ⟨Z,O,ag,ad,.of_steps (StepsIn.trans C<|.one (fenced_calm hb hr U) stepR_inLoop) ac⟩
    | exit id=>obtain ⟨A,rfl,E⟩:=I; exact ⟨.exit id,act N A,J,⟨A,rfl,E⟩,.pass (x:= .inLoop c) rfl (fun _ _=> .inl<|by simp) C⟩
    | goto l=>obtain ⟨A,rfl,E⟩:=I; exact ⟨.goto l,act N A,J,⟨A,rfl,E⟩,.pass (x:= .inLoop c) rfl (fun _ _=> .inl<|by simp) C⟩
    | ret=>obtain ⟨A,rfl,E⟩:=I; exact ⟨.ret,act N A,J,⟨A,rfl,E⟩,.pass (x:= .inLoop c) rfl (fun _ _=> .inl<|by simp) C⟩
    | panic V=>exact ⟨.panic V,M,J,I,.pass (x:= .inLoop c) rfl (fun _ _=> .inl<|by simp) C⟩
    | outgrown=>exact I.elim
 obtain ⟨e,a',w',E,C⟩:=key _ σ w h0;exact ⟨e,a',w',E,.of_steps (.one (fenced_calm hb hr U) stepR_loop) C⟩
def cz (P:av) (N:Fm) (o:aO) (σ:Nat→ah) (w:ai) (K:(Nat→ah)→ai→Prop):Prop :=
 iD P o (act N σ) w (fun a w=> ∃ σ,a=act N σ∧K σ w) (fun _ _ _=>False)
theorem Q6 {o:aO} {a:Act} {K C:Act→ai→Prop} {Q:bM→Act→ai→Prop} (h:∀ a w,K a w→C a w)
 (r:Result Next) (A:o.upon P a K (fun _ _ _=>False) r):o.upon P a C Q r:=by
 cases r with
 | ok n w'=>
   cases n <;> simp only [j3] at A ⊢ <;>
    first
     | exact h _ _ A
     | exact jy A (fun e w'' he=>by
      cases e with
      | returned v=>exact h _ _ he
      | panicked c=>exact he.elim
      | outgrown=>obtain ⟨_,_,E⟩:=he; exact E.elim)
     | exact Rows.mono A fun _ _ he=>h _ _ he
 | halt x w'=>cases x <;> simp only [j3] at A ⊢
theorem uC {K:(Nat→ah)→ai→Prop} {A:Act→ai→Prop} {Q:bM→Act→ai→Prop} {o:aO} (h:cz P N o σ w K) (E:∀ σ w,K σ w→A (act N σ) w):o.wp P (act N σ) w A Q:=by
 unfold cz at h;unfold iD at*;exact Q6 (fun a w ⟨σ,ha,C⟩=>by subst ha; exact E _ _ C) _ h
theorem H7 {K A:(Nat→ah)→ai→Prop} {o:aO} (h:cz P N o σ w K) (E:∀ σ w,K σ w→A σ w):cz P N o σ w A:=
 uC h (fun σ w C=>⟨σ,rfl,E σ w C⟩)
variable {ops:Array aO} {rest:List aO} {d:Nat} {op:Op} {ty:au} {pos :String} {af:Array cI} {d':Option Nat} {v:ah} {o:aO}
theorem xW (A:mN o (yielded ops (act N σ).tmps)=true) (h:cz P N o σ w (fun σ w=>cH P N ops Q rest σ w)):cH P N ops Q (o::rest) σ w:=by
 unfold cH wpList;rw [if_pos A];exact .inl<|uC h fun _ _ C=>C
theorem j0 {K:(Nat→ah)→ai→Prop} {w':ai} (hr:(execOp (ev N σ) o).run P w= .ok (.value v) w') (A:K (dq σ o.dst v) w'):cz P N o σ w K:=by
 unfold cz iD;rw [ek,hr];exact ⟨_,gk ..,A⟩
theorem gW (o:aO) (A:o.guard=none) (y:Nat→Option Bool):mN o y=true :=by simp [mN,A]
def fj (ops:Array aO) (j:Nat):Option Nat:=(ops[j]?).bind (·.dst)
theorem oK {j t:Nat} {want b:Bool} (E:o.guard=some (j,want)) (A:fj ops j=some t) (I:ba t N.n=true) (J:σ t= .bool b):
 mN o (yielded ops (act N σ).tmps)=(b==want):=by
 have C:yielded ops (act N σ).tmps j=some b:=by
  unfold yielded;unfold fj at A;rw [A];simp only [JE,kI];rw [if_pos (oT (oU t)<|cG I),J]
 simp only [mN,E,C];cases b <;> cases want <;> rfl
theorem Bz {j t:Nat} {want:Bool} (E:o.guard=some (j,want)) (A:fj ops j=some t) (I:ba t N.n=true) (J:σ t=undef):
 mN o (yielded ops (act N σ).tmps)=false :=by
 have C:yielded ops (act N σ).tmps j=none:=by
  unfold yielded;unfold fj at A;rw [A];simp only [JE,kI];rw [if_pos (oT (oU t)<|cG I),J]; rfl
 simp only [mN,E,C];rfl
theorem p (h:(execOp (ev N σ) ⟨some d,op,ty,pos,af,none⟩).run P w= .ok (.value v) w) (k:cH P N ops Q rest (bI σ d v) w):
 cH P N ops Q (⟨some d,op,ty,pos,af,none⟩::rest) σ w:=
 xW (gW _ rfl _) (j0 h k)
theorem pg {j t:Nat} {want:Bool} (A:fj ops j=some t) (C:ba t N.n=true) (E:σ t= .bool want)
 (h:(execOp (ev N σ) ⟨some d,op,ty,pos,af,some (j,want)⟩).run P w= .ok (.value v) w) (k:cH P N ops Q rest (bI σ d v) w):
 cH P N ops Q (⟨some d,op,ty,pos,af,some (j,want)⟩::rest) σ w:=
 xW (by rw [oK rfl A C E]; cases want <;> rfl) (j0 h k)
theorem sk {j t:Nat} {want b:Bool} (A:fj ops j=some t) (C:ba t N.n=true) (E:σ t= .bool b) (hb:(b==want)=false)
 (k:cH P N ops Q rest (bI σ d undef) w):cH P N ops Q (⟨some d,op,ty,pos,af,some (j,want)⟩::rest) σ w:=by
 unfold cH wpList;rw [if_neg (by rw [oK rfl A C E,hb]; simp),gk];exact k
theorem GV {j t:Nat} {want:Bool} (A:fj ops j=some t) (C:ba t N.n=true) (E:σ t=undef)
 (k:cH P N ops Q rest (bI σ d undef) w):cH P N ops Q (⟨some d,op,ty,pos,af,some (j,want)⟩::rest) σ w:=by
 unfold cH wpList;rw [if_neg (by rw [Bz rfl A C E]; simp),gk];exact k
theorem e (h:cz P N ⟨d',op,ty,pos,af,none⟩ σ w (fun σ w=>cH P N ops Q rest σ w)):cH P N ops Q (⟨d',op,ty,pos,af,none⟩::rest) σ w:=
 xW (gW _ rfl _) h
theorem eg {j t:Nat} {want:Bool} (A:fj ops j=some t) (C:ba t N.n=true) (E:σ t= .bool want)
 (h:cz P N ⟨d',op,ty,pos,af,some (j,want)⟩ σ w (fun σ w=>cH P N ops Q rest σ w)):cH P N ops Q (⟨d',op,ty,pos,af,some (j,want)⟩::rest) σ w:=by grind [xW,oK]
theorem nl (h:Q .normal σ w):cH P N ops Q [] σ w:=⟨σ,rfl,h⟩
theorem Ac:¬LetsOut (lift N Q):=fun ⟨_,_,h⟩=>h
theorem rg {id:Nat} {l:List aO} (hr:mu N.r l=true) (h:cH P N l.toArray Q l σ w):bU P N (.region id l.toArray false) Q σ w:=by
 refine wpIn_region<|zW Ac hr _ _ _ ?_;have A:=wpOps_eq_wpList (P:=P) (ops:=l.toArray) (Q:=lift N Q) l 0 fun j=>by simp
 rw [List.range_eq_range',fS,A];exact h
theorem gs {l:List aO} {t:Nat} {q:Prop} [Decidable q] (h:σ t= .bool (decide q)) (E:q→cH P N ops Q l (bI σ t<|.bool true) w) (C:¬q→cH P N ops Q l (bI σ t<|.bool false) w):cH P N ops Q l σ w:=by
 by_cases A:q
 · have :=E A; rwa [oH (by rw [h,decide_eq_true A])] at this
 · have :=C A; rwa [oH (by rw [h,decide_eq_false A])] at this
theorem gb {l:List aO} {t:Nat} {b:Bool} (h:σ t= .bool b) (C:b=true→cH P N ops Q l (bI σ t<|.bool true) w) (A:b=false→cH P N ops Q l (bI σ t<|.bool false) w):cH P N ops Q l σ w:=by
 cases b
 · have :=A rfl; rwa [oH h] at this
 · have :=C rfl; rwa [oH h] at this
def dr (P:av) (N:Fm) (ops:Array aO) (Q:bM→(Nat→ah)→ai→Prop) (S:ai→Prop) (fuel:Nat) (listed:Array Bool) (σ:Nat→ah) (w:ai):Prop :=
 wpAnyH P .any ops (lift N Q) S fuel listed (act N σ) w
variable {S:ai→Prop} {fuel:Nat} {listed:Array Bool}
theorem Cv {id:Nat} {l:List aO} (hr:mu N.r l=true) (hm:P.follows .mixedOrders=true) (h:wpAny P .any l.toArray (lift N Q) l.toArray.size (sD l.toArray.size false) (act N σ) w.drew):bU P N (.region id l.toArray true) Q σ w:=by
 refine wpIn_region_draw fun t=>zW Ac hr _ _ _ ?_;simp only [Region.schedule,hm,Bool.true_or,if_true];exact wpAny_sound _ t _ _ _ h
theorem bK {id:Nat} {l:List aO} (S:ai→Prop) (hr:mu N.r l=true) (hm:P.follows .mixedOrders=true) (A:S w.drew) (h:dr P N l.toArray Q S l.length (sD l.length false) σ w.drew):bU P N (.region id l.toArray true) Q σ w:=
 Cv hr hm (wpAny_of_held _ _ _ _<|by rw [fS]; exact h)
def AG (F:List Nat) (d:Option Nat):Bool:=match d with | some d=> !(F.contains d) | none=>true
def fX (F:List Nat) (ops:Array aO) (listed:Array Bool) (i:Nat):Bool:=
 Region.noSelect ops && Region.free .any ops listed i && (fH .any ops listed).contains i && AG F ((ops[i]?).bind (·.dst))
theorem pJ {d:Option Nat} {v:ah} (C:AG N.F d=true) (c:List PanicEntry) (a:Act) (w:ai):lift N Q (.panic c) (a.put d v) w→lift N Q (.panic c) a w:=by
 rintro ⟨σ,ha,h⟩;cases d with
 | none=>exact ⟨σ,ha,h⟩
 | some d=>
   have M:a.tmps.size=N.n:=by
    have :=congrArg (fun x:Act=>x.tmps.size) ha;simpa [Act.put,act] using this
   have I:a.defers=N.D:=congrArg (fun x:Act=>x.defers) ha;have J:∀ i:Nat,i≠d→a.tmps[i]? =if i < N.n then some (σ i) else none:=fun i hi=>by
    have A:(a.put (some d) v).tmps[i]? =a.tmps[i]? :=by
     show (a.tmps.setIfInBounds d v)[i]? =_;rw [uF,if_neg (fun e=>hi e.symm)]
    rw [← A,ha,kI]
   refine ⟨fun i=>if i < N.n then a.tmps.getD i undef else σ i,vz I fun i=> ?_,fun σ' E=>h σ' fun i hi=> ?_⟩
   · rw [kI];by_cases A:i < N.n
     · rw [if_pos A,if_pos A,ky,qe ag]; rfl
     · rw [if_neg A,yc ag]
   · have L:i≠d:=by
      rintro rfl;simp only [AG,mI,List.contains_eq_mem,decide_eq_false_iff_not] at C;exact C hi
     rw [E i hi];by_cases A:i < N.n
     · simp only [if_pos A];rw [ky,J i L,if_pos A]; rfl
     · simp only [if_neg A]
theorem hp (i:Nat) (hi:ops[i]? =some ⟨some d,op,ty,pos,af,none⟩) (A:fX N.F ops listed i=true)
 (E:∀ w,S w→(execOp (ev N σ) ⟨some d,op,ty,pos,af,none⟩).run P w= .ok (.value v) w) (C:S w)
 (k:dr P N ops Q S fuel (listed.setIfInBounds i true) (bI σ d v) w):dr P N ops Q S (fuel+1) listed σ w:=by
 simp only [fX,bP] at A;refine wpAnyH_take hi A.1.1.1 A.1.1.2 A.1.2 (fun c a w=>pJ (by have :=A.2; rwa [hi] at this) c a w) (.inl ⟨gW _ rfl _,fun w C=> ?_⟩) C ?_ (v:=v)
 · rw [ek]; exact E w C
 · rw [gk]; exact k
theorem ED (i:Nat) {j t:Nat} {want:Bool} (hi:ops[i]? =some ⟨some d,op,ty,pos,af,some (j,want)⟩) (A:fX N.F ops listed i=true)
 (E:fj ops j=some t) (I:ba t N.n=true) (J:σ t= .bool want)
 (L:∀ w,S w→(execOp (ev N σ) ⟨some d,op,ty,pos,af,some (j,want)⟩).run P w= .ok (.value v) w) (C:S w)
 (k:dr P N ops Q S fuel (listed.setIfInBounds i true) (bI σ d v) w):dr P N ops Q S (fuel+1) listed σ w:=by
 simp only [fX,bP] at A;refine wpAnyH_take hi A.1.1.1 A.1.1.2 A.1.2 (fun c a w=>pJ (by have :=A.2; rwa [hi] at this) c a w) (.inl ⟨by rw [oK U E I J]; cases want <;> rfl,fun w C=> ?_⟩) C ?_ (v:=v)
 · rw [ek]; exact L w C
 · rw [gk]; exact k
theorem EE (i:Nat) {j t:Nat} {want b:Bool} (hi:ops[i]? =some ⟨some d,op,ty,pos,af,some (j,want)⟩) (A:fX N.F ops listed i=true)
 (E:fj ops j=some t) (I:ba t N.n=true) (J:σ t= .bool b) (hb:(b==want)=false) (C:S w)
 (k:dr P N ops Q S fuel (listed.setIfInBounds i true) (bI σ d undef) w):dr P N ops Q S (fuel+1) listed σ w:=by
 simp only [fX,bP] at A;refine wpAnyH_take hi A.1.1.1 A.1.1.2 A.1.2 (fun c a w=>pJ (by have :=A.2; rwa [hi] at this) c a w) (.inr ⟨by rw [oK U E I J,hb],U⟩) C ?_ (v:=undef);rw [gk]; exact k
theorem MP (i:Nat) {j t:Nat} {want:Bool} (hi:ops[i]? =some ⟨some d,op,ty,pos,af,some (j,want)⟩) (A:fX N.F ops listed i=true)
 (E:fj ops j=some t) (I:ba t N.n=true) (J:σ t=undef) (C:S w)
 (k:dr P N ops Q S fuel (listed.setIfInBounds i true) (bI σ d undef) w):dr P N ops Q S (fuel+1) listed σ w:=by
 simp only [fX,bP] at A;refine wpAnyH_take hi A.1.1.1 A.1.1.2 A.1.2 (fun c a w=>pJ (by have :=A.2; rwa [hi] at this) c a w) (.inr ⟨Bz U E I J,U⟩) C ?_ (v:=undef);rw [gk]; exact k
def kS (ops:Array aO) (listed:Array Bool) (i:Nat):Bool:=(fH .any ops listed)== [i]
theorem he (i:Nat) (hi:ops[i]? =some ⟨d',op,ty,pos,af,none⟩) (hr:kS ops listed i=true)
 (h:cz P N ⟨d',op,ty,pos,af,none⟩ σ w (fun σ w=>S w∧dr P N ops Q S fuel (listed.setIfInBounds i true) σ w)):dr P N ops Q S (fuel+1) listed σ w:=by
 refine wpAnyH_all (rs:= [i]) (by simpa [kS] using hr) (by simp) ?_;intro k A;obtain rfl :k=i:=by simpa using A
 unfold wpOp;simp only [hi];rw [if_pos (gW _ rfl _)];exact .inl<|uC h fun _ _ A=>A
theorem zS (i:Nat) {j t:Nat} {want:Bool} (hi:ops[i]? =some ⟨d',op,ty,pos,af,some (j,want)⟩) (hr:kS ops listed i=true)
 (C:fj ops j=some t) (E:ba t N.n=true) (I:σ t= .bool want)
 (h:cz P N ⟨d',op,ty,pos,af,some (j,want)⟩ σ w (fun σ w=>S w∧dr P N ops Q S fuel (listed.setIfInBounds i true) σ w)):dr P N ops Q S (fuel+1) listed σ w:=by
 refine wpAnyH_all (rs:= [i]) (by simpa [kS] using hr) (by simp) ?_;intro k A;obtain rfl :k=i:=by simpa using A
 unfold wpOp;simp only [hi];rw [if_pos (by rw [oK rfl C E I]; cases want <;> rfl)];exact .inl<|uC h fun _ _ A=>A
theorem hn (hr:(fH .any ops listed).isEmpty=true) (h:Q .normal σ w):dr P N ops Q S fuel listed σ w:=
 wpAnyH_done (by simpa using hr) ⟨σ,rfl,h⟩ fuel
theorem kO {t:Nat} {q:Prop} [Decidable q] (h:σ t= .bool (decide q)) (E:q→dr P N ops Q S fuel listed (bI σ t<|.bool true) w) (C:¬q→dr P N ops Q S fuel listed (bI σ t<|.bool false) w):dr P N ops Q S fuel listed σ w:=by
 by_cases A:q
 · have :=E A; rwa [oH (by rw [h,decide_eq_true A])] at this
 · have :=C A; rwa [oH (by rw [h,decide_eq_false A])] at this
end
def aZ (P:av) (f:e9) (args:Array ah) (w:ai) (R:ah→ai→Prop):Prop :=
 Calls P f args w fun e w'=> ∃ v,e= .returned v∧R v w'
theorem aZ.mono {P:av} {f:e9} {args:Array ah} {w:ai} {R A:ah→ai→Prop} (h:aZ P f args w R) (hr:∀ v w',R v w'→A v w'):aZ P f args w A:=
 jy h fun _ _ ⟨v,he,C⟩=>⟨v,he,hr _ _ C⟩
def eF (args:List ah):Nat→ah:=fun i=>args.getD i undef
def fin (P:av) (fn:Func) (N:Fm) (R:ah→ai→Prop):bM→(Nat→ah)→ai→Prop
 | .normal,σ,w=> ∃ v,(results fn (act N σ).tmps).run P w= .ok v w∧R v w
 | .ret,σ,w=> ∃ v,(results fn (act N σ).tmps).run P w= .ok v w∧R v w
 | _,_,_=>False
theorem enter {P:av} {f:e9} {N:Nat} {fn:Func} {c:cm} {args:List ah} {w:ai} {R:ah→ai→Prop} (M:P.funcs[f]? =some fn) (hb:fn.body=some c)
 (L:fn.ntmps=N) (hn:bL args.length N=true) (h:bU P ⟨N,[],[],none⟩ c (fin P fn ⟨N,[],[],none⟩ R) (eF args) w):aZ P f args.toArray w R:=by
 subst L;refine calls_of_wp M hb ?_;have ha:({tmps:=args.toArray++sD (fn.ntmps - args.toArray.size) undef,defers:= []} :Act)=act ⟨fn.ntmps,[],[],none⟩ (eF args):=by
  have O:args.length≤fn.ntmps:=by simpa using hn
  refine vz U fun i=> ?_;rw [kI];simp only [eF,cQ,fS];by_cases E:i < args.length
  · rw [Array.getElem?_append_left (by simpa using E),if_pos ag];simp [E]
  · rw [Array.getElem?_append_right (by simpa using E)];simp only [fS,Array.getElem?_replicate];by_cases J:i < fn.ntmps
    · rw [if_pos ag,if_pos J,qy ag]; rfl
    · rw [if_neg ag,if_neg J]
 rw [ha];refine Code.wp_mono ?_<|wpIn_wide.1 h;intro e a w A;cases e with
 | normal=>obtain ⟨σ,rfl,v,hr,I⟩:=A; exact ⟨rfl,v,hr,v,rfl,I⟩
 | ret=>obtain ⟨σ,rfl,v,hr,I⟩:=A; exact ⟨rfl,v,hr,v,rfl,I⟩
 | exit id=>obtain ⟨σ,rfl,C⟩:=A; exact C.elim
 | goto l=>obtain ⟨σ,rfl,C⟩:=A; exact C.elim
 | panic c=>obtain ⟨σ,rfl,C⟩:=A; exact (C σ fun _ _=>rfl).elim
 | outgrown=>exact A.elim
section
variable {P:av} {N:Fm} {σ:Nat→ah} {w:ai} {fn:Func} {R:ah→ai→Prop}
theorem k9 (t:Nat):(act N σ).tmps.getD t undef=ev N σ (.tmp t):=by
 rw [← ek]; rfl
theorem f0 (h:fn.results= #[]) (A:R (.tuple #[]) w):fin P fn N R .normal σ w:=⟨_,results_none h _ _ _,A⟩
theorem f1 {t:Nat} {v:ah} (h:fn.results= #[.tmp t]) (C:ev N σ (.tmp t)=v) (A:R v w):fin P fn N R .ret σ w:=
 ⟨v,by rw [results_tmp h,k9,C],A⟩
theorem f2 {t u:Nat} {v A:ah} (h:fn.results= #[.tmp t,.tmp u]) (E:ev N σ (.tmp t)=v) (hu:ev N σ (.tmp u)=A) (C:R (.tuple #[v,A]) w):fin P fn N R .ret σ w:=
 ⟨_,by rw [results_tmp2 h,k9,k9,E,hu],C⟩
theorem f3 {t u s:Nat} {v A C:ah} (h:fn.results= #[.tmp t,.tmp u,.tmp s]) (J:ev N σ (.tmp t)=v) (hu:ev N σ (.tmp u)=A) (I:ev N σ (.tmp s)=C) (E:R (.tuple #[v,A,C]) w):fin P fn N R .ret σ w:=by
 refine ⟨_,?_,E⟩;simp only [results,h];subst J hu I;simp only [← k9];simp [yw]
theorem f4 {t u s r:Nat} {v A C v3:ah} (h:fn.results= #[.tmp t,.tmp u,.tmp s,.tmp r]) (J:ev N σ (.tmp t)=v) (hu:ev N σ (.tmp u)=A) (I:ev N σ (.tmp s)=C) (hr:ev N σ (.tmp r)=v3) (E:R (.tuple #[v,A,C,v3]) w):fin P fn N R .ret σ w:=by
 refine ⟨_,?_,E⟩;simp only [results,h];subst J hu I hr;simp only [← k9];simp [yw]
end
attribute [irreducible] cH bU dr cz
end Go.Hb
namespace Go.Hb
def aH (h:Array Obj) (b off :Nat):Option ah:=
 match h[b]? with
 | some (.cells c _ _)=>c[off]?
 | _=>none
theorem jK (w:ai) (b off :Nat):w.cell? ⟨b,off,none⟩=aH w.heap b off :=by
 unfold IS aH;simp only;split <;> simp_all
theorem eB {h:Array Obj} {b off :Nat} {c:Array ah} {t:au} {f:Nat×Nat} (hb:h[b]? =some (.cells c t f)):aH h b off =c[off]? :=by
 simp only [aH,hb]
theorem KA {h:Array Obj} {b off :Nat} {v:ah} (A:aH h b off =some v):b < h.size:=by grind [aH]
structure Md (F:Nat→Prop) (w w':ai):Prop where
 os:w'.os=w.os
 output:w'.output=w.output
 size:w.heap.size≤w'.heap.size
 dC:∀ k,k < w.heap.size→¬F k→w'.heap[k]? =w.heap[k]?
abbrev Wk (w w':ai):Prop :=Md (fun _=>False) w w'
theorem Md.refl (F:Nat→Prop) (w:ai):Md F w w:=⟨rfl,rfl,bf _,fun _ _ _=>rfl⟩
theorem Md.drew {F:Nat→Prop} {w w':ai} (h:Md F w w'):Md F w w'.drew:=⟨h.os,h.output,h.size,h.dC⟩
theorem Md.mono {F G:Nat→Prop} {w w':ai} (h:Md F w w') (E:∀ k,k < w.heap.size→F k→G k):Md G w w':=
 ⟨h.os,h.output,h.size,fun k A I=>h.dC k A fun C=>I<|E k A C⟩
theorem Md.trans {F:Nat→Prop} {a b c:ai} (h:Md F a b) (A:Md F b c):Md F a c:=
 ⟨A.os.trans h.os,A.output.trans h.output,cR h.size A.size,fun k E C=>(A.dC k (oT E h.size) C).trans<|h.dC k E C⟩
theorem Md.trans' {F G:Nat→Prop} {a b c:ai} (h:Md F a b) (A:Md G b c) (I:∀ k,k < a.heap.size→G k→F k):Md F a c:=
 ⟨A.os.trans h.os,A.output.trans h.output,cR h.size A.size,
  fun k C E=>(A.dC k (oT C h.size) fun x=>E<|I k C x).trans (h.dC k C E)⟩
theorem Md.ax {F:Nat→Prop} {w w':ai} (h:Md F w w') {k:Nat} {o:Obj} (A:w.heap[k]? =some o) (C:¬F k):w'.heap[k]? =some o:=
 (h.dC k (cx.1 A).1 C).trans A
theorem Md.aH {F:Nat→Prop} {w w':ai} (h:Md F w w') {b off :Nat} {v:ah} (A:Hb.aH w.heap b off =some v) (C:¬F b):Hb.aH w'.heap b off =some v:=by
 have :=h.dC b (KA A) C;unfold Hb.aH at*;rw [this]; exact A
theorem Wk.aH {w w':ai} (h:Wk w w') {b off :Nat} {v:ah} (A:Hb.aH w.heap b off =some v):Hb.aH w'.heap b off =some v:=Md.aH h A id
theorem Wk.ax {w w':ai} (h:Wk w w') {k:Nat} {o:Obj} (A:w.heap[k]? =some o):w'.heap[k]? =some o:=Md.ax h A id
structure Nw (w w':ai):Prop where
 md:Wk w w'
 size:w'.heap.size=w.heap.size+1
 one:∃ o,w'= {w with heap:=w.heap.push o}
theorem AE (w:ai) (o:Obj):Nw w {w with heap:=w.heap.push o} :=
 ⟨⟨rfl,rfl,by simp,fun k A _=>by show (w.heap.push o)[k]? =_; rw [Array.getElem?_push,if_neg ag]⟩,by simp,o,rfl⟩
def dA (P:av) (t:au):Option (Option Nat):=
 match P.underlying t with
 | some (.struct _) | some (.array _ _)=>((P.info? t).map (·.size)).map some
 | some _=>some none
 | none=>none
def qZ (P:av) (s f:Nat):Option Nat:=
 match P.underlying s with
 | some (.struct A)=>match A[f]? with
   | some fd=>match P.info? fd.type with
     | some i=>if i.size=0 then none else some fd.offset
     | none=>none
   | none=>none
 | _=>none
def dB (P:av) (t:au):Option Nat:=
 match P.underlying t with
 | some (.slice e)=>(P.info? e).map (·.size)
 | _=>none
section
variable {P:av} {N:Fm} {σ:Nat→ah} {w:ai} {dst:Option Nat} {ty:au} {pos :String} {af:Array cI} {g:Option (Nat×Bool)} {x y z:bu}
theorem bS {t:au} {d:TypeDesc} (h:P.underlying t=some d) (w:ai):(underlying t).run P w= .ok d w:=by
 simp [underlying,h]
theorem eh {t:au} {i:TypeInfo} (h:P.info? t=some i) (w:ai):(typeInfo t).run P w= .ok i w:=by
 simp [typeInfo,h]
theorem mv:(execOp (ev N σ) ⟨dst,.move x,ty,pos,af,g⟩).run P w= .ok (.value<|ev N σ x) w:=rfl
theorem aU:(execOp (ev N σ) ⟨dst,.assign x,ty,pos,af,g⟩).run P w= .ok (.value<|ev N σ x) w:=rfl
theorem pN (v:ah) (h:ev N σ x=v):(execOp (ev N σ) ⟨dst,.move x,ty,pos,af,g⟩).run P w= .ok (.value v) w:=by rw [← h]; rfl
theorem th (v:ah) (h:ev N σ x=v):(execOp (ev N σ) ⟨dst,.assign x,ty,pos,af,g⟩).run P w= .ok (.value v) w:=by rw [← h]; rfl
theorem rL {c:bu} (A:ev N σ c= .bool true):(execOp (ev N σ) ⟨dst,.pick c x y,ty,pos,af,g⟩).run P w= .ok (.value<|ev N σ x) w:=by
 simp [execOp,A,asBool]
theorem rK {c:bu} (A:ev N σ c= .bool false):(execOp (ev N σ) ⟨dst,.pick c x y,ty,pos,af,g⟩).run P w= .ok (.value<|ev N σ y) w:=by
 simp [execOp,A,asBool]
theorem nc {a:aW} (A:ev N σ x= .pointer (some a)):(execOp (ev N σ) ⟨dst,.nilCheck x,ty,pos,af,g⟩).run P w= .ok (.value<|.pointer<|some a) w:=by
 simp [execOp,A]
theorem xt {i:Nat} {vs:Array ah} {v:ah} (C:ev N σ x= .tuple vs) (A:vs[i]? =some v):(execOp (ev N σ) ⟨dst,.extract x i,ty,pos,af,g⟩).run P w= .ok (.value v) w:=by
 simp [execOp,C,Instr.extract,A]
theorem fa {s f n b off :Nat} (A:qZ P s f=some n) (I:ev N σ x= .pointer (some ⟨b,off,none⟩)):
 (execOp (ev N σ) ⟨dst,.fieldAddr s x f,ty,pos,af,g⟩).run P w= .ok (.value<|.pointer<|some ⟨b,off+n,none⟩) w:=by
 unfold qZ at A;split at A
 · rename_i L hu;split at A
   · rename_i fd E;split at A
     · rename_i i hi;split at A
       · cases A
       · rename_i J;cases A;have C:(⟨b,off,none⟩:aW).add fd.offset=⟨b,off+fd.offset,none⟩:=by unfold yh; split <;> simp_all
         simp [execOp,Instr.fieldAt,bS hu,E,I,oN,fieldPlace,sizeOf,eh hi,J,C]
     · cases A
   · cases A
 · cases A
theorem ld {t b off :Nat} {v:ah} (hu:dA P t=some none) (E:ev N σ x= .pointer (some ⟨b,off,none⟩)) (A:aH w.heap b off =some v):
 (execOp (ev N σ) ⟨dst,.load t x,ty,pos,af,g⟩).run P w= .ok (.value v) w:=by
 have C:w.cell? ⟨b,off,none⟩=some v:=by rw [jK]; exact A
 unfold dA at hu;cases hd:P.underlying t with
 | none=>rw [hd] at hu; cases hu
 | some d=>
   rw [hd] at hu;cases d <;> first
    | (simp only [il] at hu; obtain ⟨_,_,h⟩:=hu; cases h; done)
    | simp [execOp,IG,E,oN,loadVar,isAgg,bS hd,run_load,C]
theorem fw (b off j:Nat):(⟨b,off,none⟩:aW).add j=⟨b,off+j,none⟩:=by
 unfold yh; split <;> simp_all
theorem eZ {t n b off :Nat} {cs:List ah} (hu:dA P t=some (some n)) (J:ev N σ x= .pointer (some ⟨b,off,none⟩)) (I:cs.length=n)
 (C:∀ j,j < n→aH w.heap b (off+j)=cs[j]?):
 (execOp (ev N σ) ⟨dst,.load t x,ty,pos,af,g⟩).run P w= .ok (.value<|.agg cs.toArray) w:=by
 have E:(loadCells ⟨b,off,none⟩ n).run P w= .ok cs.toArray w:=by
  subst I;refine run_loadCells_list (P:=P) w ⟨b,off,none⟩ cs fun j v A=> ?_;rw [fw,jK];exact (C j (dt.1 A).1).trans A
 unfold dA at hu;cases hd:P.underlying t with
 | none=>rw [hd] at hu; cases hu
 | some d=>
   rw [hd] at hu;cases hi:P.info? t with
   | none=>simp [Program.underlying,hi] at hd
   | some i=>
     rw [hi] at hu;cases d <;> first
      | (cases hu; done)
      | (simp only [fg,bR] at hu; subst hu
         simp [execOp,IG,J,oN,loadVar,isAgg,bS hd,sizeOf,eh hi,E])
theorem ia {t n b off len cap:Nat} {k:bX} {i:Int} (he:dB P t=some n) (A:ev N σ x= .slice (some ⟨b,off,none⟩) len cap) (C:ev N σ y= .int k i) (h0:0≤i∧i < len):
 (execOp (ev N σ) ⟨dst,.indexAddr t x y,ty,pos,af,g⟩).run P w= .ok (.value<|.pointer<|some ⟨b,off+i.toNat*n,none⟩) w:=by
 unfold dB at he;cases hd:P.underlying t with
 | none=>rw [hd] at he; cases he
 | some d=>
   rw [hd] at he;cases d <;> first | (cases he; done) | skip
   rename_i e;cases hi:P.info? e with
   | none=>simp [hi] at he
   | some j=>
     simp only [hi,fg,bR] at he;subst he;simp [execOp,Instr.indexAt,A,C,asIntOf,bS hd,h0.1,h0.2,sizeOf,eh hi,fw]
def dW (a:Option aW) (cap l n:Nat):Option aW:=if cap=l then a else a.map (·.add (l*n))
theorem Bc {t n len cap:Nat} {a:Option aW} {lo hi:Option ah} {l h:Nat} (he:dB P t=some n) (E:ev N σ x= .slice a len cap)
 (hb:(mM true len cap lo hi none).run P w= .ok (l,h,cap) w) (A C:Option bu) (I:A.map (ev N σ)=lo) (J:C.map (ev N σ)=hi):
 (execOp (ev N σ) ⟨dst,.slice t x A C none,ty,pos,af,g⟩).run P w= .ok (.value<|.slice (dW a cap l n) (h - l)<|cap - l) w:=by
 unfold dB at he;cases hd:P.underlying t with
 | none=>rw [hd] at he; cases he
 | some d=>
   rw [hd] at he;cases d <;> first | (cases he; done) | skip
   rename_i e;cases hi':P.info? e with
   | none=>simp [hi'] at he
   | some j=>
     simp only [hi',fg,bR] at he;subst he;simp [execOp,qk,uL,E,I,J,bS hd,hb,sizeOf,eh hi',dW]
theorem r9 {t n len cap:Nat} {a:Option aW} {k:bX} {i:Int} (he:dB P t=some n) (C:ev N σ x= .slice a len cap) (E:ev N σ z= .int k i) (h0:0≤i∧i≤cap):
 (execOp (ev N σ) ⟨dst,.slice t x none (some z) none,ty,pos,af,g⟩).run P w= .ok (.value<|.slice a i.toNat cap) w:=by
 have :=Bc (dst:=dst) (ty:=ty) (pos :=pos) (af:=af) (g:=g) (w:=w) (lo:=none) (hi:=some<|.int k i) (l:=0) (h:=i.toNat) he C
  (by simp [mM,qo,asIntOf,h0.1,h0.2]) none (some z) rfl (by simp [E])
 rw [this];have A:dW a cap 0 n=a:=by
  unfold dW; split
  · rfl
  · cases a <;> simp [yh]
 rw [A]; rfl
theorem um {t n len cap:Nat} {a:Option aW} {k:bX} {i:Int} (he:dB P t=some n) (A:ev N σ x= .slice a len cap) (C:ev N σ y= .int k i) (h0:0≤i∧i≤len):
 (execOp (ev N σ) ⟨dst,.slice t x (some y) none none,ty,pos,af,g⟩).run P w= .ok (.value<|.slice (dW a cap i.toNat n) (len - i.toNat)<|cap - i.toNat) w:=
 Bc (lo:=some<|.int k i) (hi:=none) he A
  (by simp [mM,qo,asIntOf,h0.1,h0.2]) (some y) none (by simp [C]) rfl
theorem xG {t n len cap:Nat} {a:Option aW} {k A:bX} {i j:Int} (he:dB P t=some n) (I:ev N σ x= .slice a len cap) (J:ev N σ y= .int k i) (L:ev N σ z= .int A j) (h0:0≤i∧i≤j∧j≤cap):
 (execOp (ev N σ) ⟨dst,.slice t x (some y) (some z) none,ty,pos,af,g⟩).run P w= .ok (.value<|.slice (dW a cap i.toNat n) (j.toNat - i.toNat)<|cap - i.toNat) w:=by
 have C:0≤j:=ag;have E:i≤(j.toNat:Int):=ag;refine Bc (lo:=some<|.int k i) (hi:=some<|.int A j) he I ?_ (some y) (some z) (by simp [J])<|by simp [L]
 simp only [mM,qo,asIntOf,iE,kA,ij,uQ,h0.1,C,h0.2.2,E,and_self,if_true]
theorem ku {n:Int} (h: -9223372036854775808≤n∧n≤9223372036854775807):yn.wrap n=n:=IntWalk.i64_in n h
theorem BA {n:Int} (h: -2147483648≤n∧n≤2147483647):IntKind.i32.wrap n=n:=IntWalk.i32_in n h
theorem BD {n:Int} (h:0≤n∧n≤255):IntKind.u8.wrap n=n:=IntWalk.u8_in n h
theorem H9 {n:Int} (h:0≤n∧n≤4294967295):IntKind.u32.wrap n=n:=IntWalk.u32_in n h
theorem jw {n:Int} (h:0≤n∧n≤18446744073709551615):IntKind.u64.wrap n=n:=IntWalk.u64_in n h
theorem iv {k:bX} {a b:Int} (h:a=b):bh k a=bh k b:=by rw [h]
theorem ad {t E:au} {k:bX} {a b:Int} (A:ev N σ x= .int k a) (C:ev N σ y= .int k b) (hr:k.wrap (a+b)=a+b):
 (execOp (ev N σ) ⟨dst,.binOp .add t x y E,ty,pos,af,g⟩).run P w= .ok (.value<|.int k<|a+b) w:=by
 simp [execOp,A,C,eqGuard,binOp,uN,hr]
theorem yS {t E:au} {k:bX} {a b:Int} (v:Int) (A:ev N σ x= .int k a) (C:ev N σ y= .int k b) (hr:k.wrap (a+b)=v):
 (execOp (ev N σ) ⟨dst,.binOp .add t x y E,ty,pos,af,g⟩).run P w= .ok (.value<|.int k v) w:=by
 subst hr; simp [execOp,A,C,eqGuard,binOp,uN]
theorem A1 {t E:au} {k:bX} {a b:Int} (v:Int) (A:ev N σ x= .int k a) (C:ev N σ y= .int k b) (hr:k.wrap (a - b)=v):
 (execOp (ev N σ) ⟨dst,.binOp .sub t x y E,ty,pos,af,g⟩).run P w= .ok (.value<|.int k v) w:=by
 subst hr; simp [execOp,A,C,eqGuard,binOp,uN]
theorem Aw {t E:au} {k:bX} {a b:Int} (v:Int) (A:ev N σ x= .int k a) (C:ev N σ y= .int k b) (hr:k.wrap (a*b)=v):
 (execOp (ev N σ) ⟨dst,.binOp .mul t x y E,ty,pos,af,g⟩).run P w= .ok (.value<|.int k v) w:=by
 subst hr; simp [execOp,A,C,eqGuard,binOp,uN]
theorem uB {a:Int} {n:Nat} (h:a=n) (hn:n≤9223372036854775807):yn.wrap a=(n:Int):=by rw [h]; exact ku ag
theorem bv {p q:Prop} [Decidable p] [Decidable q] (h:p↔q):bB (decide p)=bB (decide q):=by rw [decide_eq_decide.2 h]
theorem bT {p:Prop} [Decidable p] (h:p):bB true =bB (decide p):=by rw [decide_eq_true h]
theorem bF {p:Prop} [Decidable p] (h:¬p):bB false =bB (decide p):=by rw [decide_eq_false h]
theorem sb {t E:au} {k:bX} {a b:Int} (A:ev N σ x= .int k a) (C:ev N σ y= .int k b) (hr:k.wrap (a - b)=a - b):
 (execOp (ev N σ) ⟨dst,.binOp .sub t x y E,ty,pos,af,g⟩).run P w= .ok (.value<|.int k<|a - b) w:=by
 simp [execOp,A,C,eqGuard,binOp,uN,hr]
theorem qu {t E:au} {k:bX} {a b:Int} (A:ev N σ x= .int k a) (C:ev N σ y= .int k b) (h0:0≤a∧0 < b) (hr:k.wrap (a / b)=a / b):
 (execOp (ev N σ) ⟨dst,.binOp .quo t x y E,ty,pos,af,g⟩).run P w= .ok (.value<|.int k<|a / b) w:=by
 have :a.tdiv b=a / b:=IW h0.1;simp [execOp,A,C,eqGuard,binOp,BQ,show b≠0 from by omega,this,hr]
theorem AK {t E:au} {k:bX} {a b:Int} (v:Int) (A:ev N σ x= .int k a) (C:ev N σ y= .int k b) (h0:0≤a∧0 < b) (hr:k.wrap (a / b)=v):
 (execOp (ev N σ) ⟨dst,.binOp .quo t x y E,ty,pos,af,g⟩).run P w= .ok (.value<|.int k v) w:=by
 have :a.tdiv b=a / b:=IW h0.1;subst hr; simp [execOp,A,C,eqGuard,binOp,BQ,show b≠0 from by omega,this]
theorem rm {t E:au} {k:bX} {a b:Int} (A:ev N σ x= .int k a) (C:ev N σ y= .int k b) (h0:0≤a∧0 < b):
 (execOp (ev N σ) ⟨dst,.binOp .rem t x y E,ty,pos,af,g⟩).run P w= .ok (.value<|.int k<|a % b) w:=by
 have :a.tmod b=a % b:=Int.tmod_eq_emod_of_nonneg h0.1;simp [execOp,A,C,eqGuard,binOp,BQ,show b≠0 from by omega,this]
theorem lt {t E:au} {k:bX} {a b:Int} (A:ev N σ x= .int k a) (C:ev N σ y= .int k b):
 (execOp (ev N σ) ⟨dst,.binOp .lss t x y E,ty,pos,af,g⟩).run P w= .ok (.value<|.bool<|decide (a < b)) w:=by
 simp [execOp,A,C,eqGuard,binOp,sL]
theorem le {t E:au} {k:bX} {a b:Int} (A:ev N σ x= .int k a) (C:ev N σ y= .int k b):
 (execOp (ev N σ) ⟨dst,.binOp .leq t x y E,ty,pos,af,g⟩).run P w= .ok (.value<|.bool<|decide (a≤b)) w:=by
 simp [execOp,A,C,eqGuard,binOp,sL]
theorem gt {t E:au} {k:bX} {a b:Int} (A:ev N σ x= .int k a) (C:ev N σ y= .int k b):
 (execOp (ev N σ) ⟨dst,.binOp .gtr t x y E,ty,pos,af,g⟩).run P w= .ok (.value<|.bool<|decide (b < a)) w:=by
 simp [execOp,A,C,eqGuard,binOp,sL]
theorem ge {t E:au} {k:bX} {a b:Int} (A:ev N σ x= .int k a) (C:ev N σ y= .int k b):
 (execOp (ev N σ) ⟨dst,.binOp .geq t x y E,ty,pos,af,g⟩).run P w= .ok (.value<|.bool<|decide (b≤a)) w:=by
 simp [execOp,A,C,eqGuard,binOp,sL]
theorem DV {t E:au} {k:bX} {a b:Int} (A:ev N σ x= .int k a) (C:ev N σ y= .int k b):
 (execOp (ev N σ) ⟨dst,.binOp .eql t x y E,ty,pos,af,g⟩).run P w= .ok (.value<|.bool<|decide (a=b)) w:=by
 simp [execOp,A,C,eqGuard,binOp,sL];rw [oM]; simp
theorem Fv {t E:au} {k:bX} {a b:Int} (A:ev N σ x= .int k a) (C:ev N σ y= .int k b):
 (execOp (ev N σ) ⟨dst,.binOp .neq t x y E,ty,pos,af,g⟩).run P w= .ok (.value<|.bool<|decide (a≠b)) w:=by
 simp [execOp,A,C,eqGuard,binOp,sL];rw [oM]; simp
theorem no {t:au} {b:Bool} (A:ev N σ x= .bool b):(execOp (ev N σ) ⟨dst,.unOp .not t x,ty,pos,af,g⟩).run P w= .ok (.value<|.bool<|!b) w:=by
 simp [execOp,A,Op.unary]
theorem CI {t I:au} {k:bX} {a b v:Int} (C:ev N σ x= .int k a) (E:ev N σ y= .int k b) (A:k.wrap (j1 k.bits a ||| j1 k.bits b).toNat=v):
 (execOp (ev N σ) ⟨dst,.binOp .or t x y I,ty,pos,af,g⟩).run P w= .ok (.value<|.int k v) w:=by
 subst A; simp [execOp,C,E,eqGuard,binOp,Op.intBits]
theorem dO {t I:au} {k:bX} {a b v:Int} (C:ev N σ x= .int k a) (E:ev N σ y= .int k b) (A:k.wrap (j1 k.bits a &&& j1 k.bits b).toNat=v):
 (execOp (ev N σ) ⟨dst,.binOp .and t x y I,ty,pos,af,g⟩).run P w= .ok (.value<|.int k v) w:=by
 subst A; simp [execOp,C,E,eqGuard,binOp,Op.intBits]
theorem shr {t I:au} {k J:bX} {a b v:Int} (C:ev N σ x= .int k a) (E:ev N σ y= .int J b) (h0:0≤b) (A:a.fdiv (2 ^ min b.toNat k.bits)=v):
 (execOp (ev N σ) ⟨dst,.binOp .shr t x y I,ty,pos,af,g⟩).run P w= .ok (.value<|.int k v) w:=by
 have :¬b < 0:=ag;simp [execOp,C,E,eqGuard,binOp,Op.shift,this,A]
theorem shl {t I:au} {k J:bX} {a b v:Int} (C:ev N σ x= .int k a) (E:ev N σ y= .int J b) (h0:0≤b) (A:k.wrap (a*2 ^ min b.toNat k.bits)=v):
 (execOp (ev N σ) ⟨dst,.binOp .shl t x y I,ty,pos,af,g⟩).run P w= .ok (.value<|.int k v) w:=by
 have :¬b < 0:=ag;simp [execOp,C,E,eqGuard,binOp,Op.shift,this,A]
theorem QP (m:Nat) (h:m < 256):((gi m).toNat:Int)=(m:Int):=by
 simp [Nat.mod_eq_of_lt h]
theorem cv {t u:au} {k A:bX} {n:Int} (hu:P.underlying u=some (.int A)) (E:(P.underlying t).isSome=true) (I:ev N σ x= .int k n):
 (execOp (ev N σ) ⟨dst,.convert t u x,ty,pos,af,g⟩).run P w= .ok (.value<|.int A<|A.wrap n) w:=by
 obtain ⟨d,C⟩:=oV.1 E;cases d <;> simp [execOp,I,convert,bS hu,bS C,Conv.intToInt]
theorem Ld {t u:au} {k A:bX} {n v:Int} (hu:P.underlying u=some (.int A)) (C:(P.underlying t).isSome=true) (E:ev N σ x= .int k n) (hr:A.wrap n=v):
 (execOp (ev N σ) ⟨dst,.convert t u x,ty,pos,af,g⟩).run P w= .ok (.value<|.int A v) w:=by
 rw [cv hu C E,hr]
theorem jL {t u:au} {k A:bX} {n:Int} (hu:P.underlying u=some (.int A)) (C:(P.underlying t).isSome=true) (E:ev N σ x= .int k n) (hr:A.wrap n=n):
 (execOp (ev N σ) ⟨dst,.convert t u x,ty,pos,af,g⟩).run P w= .ok (.value<|.int A n) w:=by
 rw [cv hu C E,hr]
theorem zu (d:Nat) {t e:au} {a:Option aW} (hu:P.underlying t=some (.pointer e)):(j2 (d+1) t (.pointer a)<|.pointer none).run P w= .ok a.isNone w:=by
 cases a <;> simp [j2,bS hu]
theorem DW {t e:au} {a:Option aW} (hu:P.underlying t=some (.pointer e)):(oO t (.pointer a)<|.pointer none).run P w= .ok a.isNone w:=zu 9999 hu
theorem iM {t E e:au} {a:Option aW} (hu:P.underlying t=some (.pointer e)) (A:ev N σ x= .pointer a) (C:ev N σ y= .pointer none):
 (execOp (ev N σ) ⟨dst,.binOp .eql t x y E,ty,pos,af,g⟩).run P w= .ok (.value<|.bool a.isNone) w:=by
 have h:(binOp .eql t (.pointer a)<|.pointer none).run P w= .ok (.bool a.isNone) w:=by
  simp only [binOp]; simp [DW hu]
 simp [execOp,A,C,eqGuard,h]
theorem pO {t E e:au} {a:Option aW} (hu:P.underlying t=some (.pointer e)) (A:ev N σ x= .pointer a) (C:ev N σ y= .pointer none):
 (execOp (ev N σ) ⟨dst,.binOp .neq t x y E,ty,pos,af,g⟩).run P w= .ok (.value<|.bool a.isSome) w:=by
 have h:(binOp .neq t (.pointer a)<|.pointer none).run P w= .ok (.bool a.isSome) w:=by
  simp only [binOp]; simp [DW hu]
 simp [execOp,A,C,eqGuard,h]
theorem DT (d:Nat) {t:au} {a b:Bool} (hu:P.underlying t=some .bool):(j2 (d+1) t (.bool a)<|.bool b).run P w= .ok (a==b) w:=by
 simp [j2,bS hu]
theorem DU {t:au} {a b:Bool} (hu:P.underlying t=some .bool):(oO t (.bool a)<|.bool b).run P w= .ok (a==b) w:=DT 9999 hu
theorem L5 {t E:au} {a b:Bool} (hu:P.underlying t=some .bool) (A:ev N σ x= .bool a) (C:ev N σ y= .bool b):
 (execOp (ev N σ) ⟨dst,.binOp .eql t x y E,ty,pos,af,g⟩).run P w= .ok (.value<|.bool<|decide (a=b)) w:=by
 have h:(binOp .eql t (.bool a)<|.bool b).run P w= .ok (.bool<|decide (a=b)) w:=by
  simp only [binOp]; simp [DU hu]; cases a <;> cases b <;> rfl
 simp [execOp,A,C,eqGuard,h]
theorem Ax {t E:au} {a b:Bool} (hu:P.underlying t=some .bool) (A:ev N σ x= .bool a) (C:ev N σ y= .bool b):
 (execOp (ev N σ) ⟨dst,.binOp .neq t x y E,ty,pos,af,g⟩).run P w= .ok (.value<|.bool<|decide (a≠b)) w:=by
 have h:(binOp .neq t (.bool a)<|.bool b).run P w= .ok (.bool<|decide (a≠b)) w:=by
  simp only [binOp]; simp [DU hu]; cases a <;> cases b <;> rfl
 simp [execOp,A,C,eqGuard,h]
def str (l:List UInt8):ah:= .string ⟨⟨l⟩⟩
theorem E7 {t:au} {l:List UInt8} {at_:Array au} (A:P.underlying t=some .string) (ha:at_= #[t]) (C:ev N σ x=str l):
 (execOp (ev N σ) ⟨dst,.call ⟨.builtin .len,#[x],at_⟩,ty,pos,af,g⟩).run P w= .ok (.value<|.int .i64 l.length) w:=by
 subst ha;simp [execOp,resolve,invoke,builtin,BM,bS A,C,str,goInt];rfl
theorem Ae {t e:au} {a:Option aW} {n c:Nat} {at_:Array au} (A:P.underlying t=some (.slice e)) (ha:at_= #[t]) (C:ev N σ x= .slice a n c):
 (execOp (ev N σ) ⟨dst,.call ⟨.builtin .len,#[x],at_⟩,ty,pos,af,g⟩).run P w= .ok (.value<|.int .i64 n) w:=by
 subst ha;simp [execOp,resolve,invoke,builtin,BM,bS A,C,goInt]
theorem E6 {t k e r:au} {es:Array MapEntry} {c:Nat} {at_:Array au} (A:P.underlying t=some (.map k e)) (ha:at_= #[t]) (C:ev N σ x= .map (some r)) (hr:w.heap[r]? =some (.map es c)):
 (execOp (ev N σ) ⟨dst,.call ⟨.builtin .len,#[x],at_⟩,ty,pos,af,g⟩).run P w= .ok (.value<|.int .i64 es.size) w:=by
 subst ha;simp [execOp,resolve,invoke,builtin,BM,bS A,C,goInt,getObj,Sem.run,hr]
theorem mn {k:bX} {a b:Int} {at_:Array au} (A:ev N σ x= .int k a) (C:ev N σ y= .int k b):
 (execOp (ev N σ) ⟨dst,.call ⟨.builtin .min,#[x,y],at_⟩,ty,pos,af,g⟩).run P w= .ok (.value<|.int k<|min a b) w:=by
 have :(if b < a then b else a)=min a b:=ag;simp [execOp,resolve,invoke,builtin,Builtin.min_,Builtin.min2,A,C,this]
theorem mx {k:bX} {a b:Int} {at_:Array au} (A:ev N σ x= .int k a) (C:ev N σ y= .int k b):
 (execOp (ev N σ) ⟨dst,.call ⟨.builtin .max,#[x,y],at_⟩,ty,pos,af,g⟩).run P w= .ok (.value<|.int k<|max a b) w:=by
 have :(if b > a then b else a)=max a b:=ag;simp [execOp,resolve,invoke,builtin,Builtin.max_,Builtin.max2,A,C,this]
theorem M6 {t:au} {l:List UInt8} {k:bX} {i:Int} (I:P.underlying t=some .string) (J:ev N σ x=str l) (L:ev N σ y= .int k i) (h0:0≤i∧i < l.length):
 (execOp (ev N σ) ⟨dst,.index t x y,ty,pos,af,g⟩).run P w= .ok (.value<|.int .u8 ((l.getD i.toNat 0).toNat:Int)) w:=by
 have E:(⟨⟨l⟩⟩:ByteArray)[i.toNat]? =some (l.getD i.toNat 0):=by
  have A:i.toNat < l.length:=ag;have C:i.toNat < (⟨⟨l⟩⟩:ByteArray).size:=A;rw [getElem?_pos (⟨⟨l⟩⟩:ByteArray) i.toNat C];simp [cQ,A,ByteArray.getElem_eq_getElem_data]
 simp [execOp,Instr.index,J,L,asIntOf,str,bS I,h0.1,E]
theorem Bb (l:List UInt8) (a b:Nat):Value.string ((⟨⟨l⟩⟩:ByteArray).extract a b)=str ((l.take b).drop a):=by
 unfold str;congr 1;apply ByteArray.ext;simp [ByteArray.data_extract,List.extract_eq_take_drop,List.drop_take]
theorem kP (n:Nat) {t:au} {l:List UInt8} {k:bX} (A:P.underlying t=some .string) (C:ev N σ x=str l) (E:ev N σ y= .int k (n:Int)) (h:n < l.length):
 (execOp (ev N σ) ⟨dst,.index t x y,ty,pos,af,g⟩).run P w= .ok (.value<|.int .u8 ((l.getD n 0).toNat:Int)) w:=M6 A C E ⟨ag,ag⟩
theorem dc {n:Nat} {t:au} {l:List UInt8} {k:bX} (A:P.underlying t=some .string) (C:ev N σ x=str l) (E:ev N σ y= .int k (n:Int)) (h:n < l.length):
 (execOp (ev N σ) ⟨dst,.index t x y,ty,pos,af,g⟩).run P w= .ok (.value<|.int .u8 ((l.getD n 0).toNat:Int)) w:=kP n A C E h
theorem oG {t:au} {l:List UInt8} {k M:bX} {a b:Int} (E:P.underlying t=some .string) (I:ev N σ x=str l) (J:ev N σ y= .int k a) (L:ev N σ z= .int M b) (h0:0≤a∧a≤b∧b≤l.length):
 (execOp (ev N σ) ⟨dst,.slice t x (some y) (some z) none,ty,pos,af,g⟩).run P w= .ok (.value<|str<|(l.take b.toNat).drop a.toNat) w:=by
 have A:b≤((⟨⟨l⟩⟩:ByteArray).size:Nat):=h0.2.2;have C:0≤b:=ag;have O:a≤(b.toNat:Nat):=ag;simp [execOp,qk,uL,mM,qo,I,J,L,asIntOf,str,bS E,h0.1,A,C];rw [if_pos ag];exact congrArg (fun v=>uP (uM v) w)<|Bb l a.toNat b.toNat
theorem se {t:au} {l:List UInt8} {J:bX} {b:Int} (C:P.underlying t=some .string) (E:ev N σ x=str l) (I:ev N σ z= .int J b) (h0:0≤b∧b≤l.length):
 (execOp (ev N σ) ⟨dst,.slice t x none (some z) none,ty,pos,af,g⟩).run P w= .ok (.value<|str<|l.take b.toNat) w:=by
 have A:b≤((⟨⟨l⟩⟩:ByteArray).size:Nat):=h0.2;have :=Bb l 0 b.toNat;simp only [List.drop_zero] at this;simp [execOp,qk,uL,mM,qo,E,I,asIntOf,str,bS C,h0.1,A];exact IQ this
theorem mD {t:au} {l:List UInt8} {k:bX} {a:Int} (C:P.underlying t=some .string) (E:ev N σ x=str l) (I:ev N σ y= .int k a) (h0:0≤a∧a≤l.length):
 (execOp (ev N σ) ⟨dst,.slice t x (some y) none none,ty,pos,af,g⟩).run P w= .ok (.value<|str<|l.drop a.toNat) w:=by
 have A:a≤((⟨⟨l⟩⟩:ByteArray).size:Nat):=h0.2;have :=Bb l a.toNat l.length;simp only [List.take_length] at this;simp [execOp,qk,uL,mM,qo,E,I,asIntOf,str,bS C,h0.1,A];exact IQ this
theorem sj (l:List UInt8):(⟨⟨l⟩⟩:ByteArray).toList=l:=Lib.toList_data ⟨⟨l⟩⟩
theorem cc {t J:au} {l m:List UInt8} (E:ev N σ x=str l) (I:ev N σ y=str m) (h:l.length+m.length≤9223372036854775807):
 (execOp (ev N σ) ⟨dst,.binOp .add t x y J,ty,pos,af,g⟩).run P w= .ok (.value<|str<|l++m) w:=by
 have A:¬(((⟨⟨l⟩⟩:ByteArray).size+(⟨⟨m⟩⟩:ByteArray).size:Nat):Int) > yn.max:=by
  have :yn.max=9223372036854775807:=aJ;rw [this];show ¬((l.length+m.length:Nat):Int) > _;omega
 have C:(⟨⟨l⟩⟩:ByteArray)++(⟨⟨m⟩⟩:ByteArray)=⟨⟨l++m⟩⟩:=by
  apply ByteArray.ext; simp
 simp only [execOp,E,I,str,eqGuard,binOp,qq];rw [if_neg A,C];rfl
theorem DX {t E:au} {l m:List UInt8} (A:ev N σ x=str l) (C:ev N σ y=str m):
 (execOp (ev N σ) ⟨dst,.binOp .eql t x y E,ty,pos,af,g⟩).run P w= .ok (.value<|.bool<|decide (l=m)) w:=by
 simp only [execOp,A,C,str,eqGuard,binOp,qq,sj];show uP (uM<|.bool<|l==m) w=_;rw [show (l==m)=decide (l=m) from by rw [oM]; simp]
theorem Fw {t E:au} {l m:List UInt8} (A:ev N σ x=str l) (C:ev N σ y=str m):
 (execOp (ev N σ) ⟨dst,.binOp .neq t x y E,ty,pos,af,g⟩).run P w= .ok (.value<|.bool<|decide (l≠m)) w:=by
 simp only [execOp,A,C,str,eqGuard,binOp,qq,sj];show uP (uM<|.bool<|!(l==m)) w=_;rw [show (!(l==m))=decide (l≠m) from by rw [oM]; simp]
def cn (a b:List UInt8):Bool:=BP a b
theorem uk (a:List UInt8):cn a a=false :=by
 induction a with
 | nil=>rfl
 | cons x a ih=>
   have A:¬x < x:=UInt8.lt_irrefl x;have :cn (x::a) (x::a)=(decide (x < x) || (x==x && cn a a)):=rfl;rw [this,ih]; simp [A]
theorem xE (x y:UInt8) (a b:List UInt8):cn (x::a) (y::b)=(decide (x < y) || (x==y && cn a b)):=rfl
theorem pW {a b c:List UInt8} (C:cn a b=true) (A:cn b c=true):cn a c=true :=by
 induction a generalizing b c with
 | nil=>
   cases b with
   | nil=>cases C
   | cons y b=>cases c with
     | nil=>cases A
     | cons z c=>rfl
 | cons x a ih=>
   cases b with
   | nil=>cases C
   | cons y b=>cases c with
     | nil=>cases A
     | cons z c=>
       rw [xE] at*;simp only [lO,decide_eq_true_eq,bP,beq_iff_eq] at*;rcases C with C | ⟨rfl,C⟩
       · rcases A with A | ⟨rfl,A⟩
         · exact .inl<|UInt8.lt_trans C A
         · exact .inl C
       · rcases A with A | ⟨rfl,A⟩
         · exact .inl A
         · exact .inr ⟨U,ih C A⟩
theorem GZ (a b:List UInt8):cn a b=true∨a=b∨cn b a=true :=by
 induction a generalizing b with
 | nil=>cases b with
   | nil=>exact .inr<|.inl rfl
   | cons y b=>exact .inl rfl
 | cons x a ih=>cases b with
   | nil=>exact .inr<|.inr rfl
   | cons y b=>
     simp only [xE,lO,decide_eq_true_eq,bP,beq_iff_eq,j4];rcases Nat.lt_trichotomy x.toNat y.toNat with h | h | h
     · exact .inl<|.inl<|yI.2 h
     · have e:x=y:=nO.1 h;subst e;rcases ih b with h | h | h
       · exact .inl<|.inr ⟨U,h⟩
       · exact .inr<|.inl ⟨U,h⟩
       · exact .inr<|.inr<|.inr ⟨U,h⟩
     · exact .inr<|.inr<|.inl<|yI.2 h
theorem PY {a b:List UInt8} (h:cn a b=true):cn b a=false :=by grind [cn,pW,uk]
theorem rO {rs:List (List UInt8)} (C:rs.Pairwise (fun x y=>cn x y=true)) {i j:Nat} (h:i < j) (A:j < rs.length):cn (rs.getD i []) (rs.getD j [])=true :=by
 have :=List.pairwise_iff_getElem.1 C i j ag A h;simpa [cQ,cr A,cr (show i < rs.length by omega)] using this
theorem P0 {rs:List (List UInt8)} {r:List UInt8} (A:rs.Pairwise (fun x y=>cn x y=true)) {i m:Nat} (h:i < m+1) (hm:m < rs.length) (hr:cn (rs.getD m []) r=true):cn (rs.getD i []) r=true :=by
 rcases Jz (Nat.le_of_lt_succ h) with h | rfl
 · exact pW (rO A h hm) hr
 · exact hr
theorem PZ {rs:List (List UInt8)} {r:List UInt8} (A:rs.Pairwise (fun x y=>cn x y=true)) {i m:Nat} (h:m≤i) (hi:i < rs.length) (hr:cn (rs.getD m []) r=false):cn (rs.getD i []) r=false :=by
 rcases Jz h with h | rfl
 · cases hb:cn (rs.getD i []) r
   · rfl
   · have :=pW (rO A h hi) hb; rw [hr] at this; cases this
 · exact hr
theorem Ak {t E:au} {l m:List UInt8} (A:ev N σ x=str l) (C:ev N σ y=str m):
 (execOp (ev N σ) ⟨dst,.binOp .lss t x y E,ty,pos,af,g⟩).run P w= .ok (.value<|.bool<|cn l m) w:=by
 simp only [execOp,A,C,str,eqGuard,binOp,qq,sj];rfl
theorem Nz {t E:au} {l m:List UInt8} (A:ev N σ x=str l) (C:ev N σ y=str m):
 (execOp (ev N σ) ⟨dst,.binOp .leq t x y E,ty,pos,af,g⟩).run P w= .ok (.value<|.bool (cn l m || decide (l=m))) w:=by
 simp only [execOp,A,C,str,eqGuard,binOp,qq,sj];show uP (uM<|.bool (BP l m || l==m)) w=_;rw [show (l==m)=decide (l=m) from by rw [oM]; simp];rfl
theorem MJ {t E:au} {l m:List UInt8} (A:ev N σ x=str l) (C:ev N σ y=str m):
 (execOp (ev N σ) ⟨dst,.binOp .gtr t x y E,ty,pos,af,g⟩).run P w= .ok (.value<|.bool<|!(cn l m || decide (l=m))) w:=by
 simp only [execOp,A,C,str,eqGuard,binOp,qq,sj];show uP (uM<|.bool<|!(BP l m || l==m)) w=_;rw [show (l==m)=decide (l=m) from by rw [oM]; simp];rfl
theorem MD {t E:au} {l m:List UInt8} (A:ev N σ x=str l) (C:ev N σ y=str m):
 (execOp (ev N σ) ⟨dst,.binOp .geq t x y E,ty,pos,af,g⟩).run P w= .ok (.value<|.bool<|!cn l m) w:=by
 simp only [execOp,A,C,str,eqGuard,binOp,qq,sj];rfl
theorem mf {fn:Fn} {first captured:Array bu} :(execOp (ev N σ) ⟨dst,.makeFunc fn first captured,ty,pos,af,g⟩).run P w= .ok (.value<|.func fn (first.map<|ev N σ)<|captured.map<|ev N σ) w:=rfl
theorem rq {fn:Fn} {first captured:Array bu} :(execOp (ev N σ) ⟨dst,.makeFunc fn first captured,ty,pos,af,g⟩).run P w= .ok (.value<|.func fn (first.toList.map<|ev N σ).toArray (captured.toList.map<|ev N σ).toArray) w:=by
 rw [mf,← jx,← jx]
end
end Go.Hb
namespace Go.Hb
def aD (h:Array Obj) (b:Nat) (L:List ah):Prop := ∃ e,h[b]? =some (.cells L.toArray e (0,0))
theorem aD.aH {h:Array Obj} {b:Nat} {L:List ah} (hb:aD h b L) (j:Nat):Hb.aH h b j=L[j]? :=by
 obtain ⟨e,hb⟩:=hb;rw [eB hb]; simp
theorem aD.aG {h:Array Obj} {b:Nat} {L:List ah} (hb:aD h b L) (j:Nat):Hb.aH h b (0 +j)=L[j]? :=by
 rw [du,hb.aH]
theorem Md.B {F:Nat→Prop} {w w':ai} (h:Md F w w') {b:Nat} {L:List ah} (hb:aD w.heap b L) (A:¬F b):aD w'.heap b L:=
 let ⟨e,hb⟩:=hb; ⟨e,h.ax hb A⟩
theorem Wk.B {w w':ai} (h:Wk w w') {b:Nat} {L:List ah} (hb:aD w.heap b L):aD w'.heap b L:=Md.B h hb id
theorem aD.lt {h:Array Obj} {b:Nat} {L:List ah} (hb:aD h b L):b < h.size:=by grind [aD]
def bk (a:Option aW):Nat:=match a with | some ad=>ad.block | none=>0
def fo (a:Option aW):Nat:=match a with | some ad=>ad.off | none=>0
structure aT (h:Array Obj) (a:Option aW) (xs:List ah):Prop where
 ok:xs≠[]→a=some ⟨bk a,fo a,none⟩
 aH:∀ j u,xs[j]? =some u→Hb.aH h (bk a) (fo a+j)=some u
theorem aT.nil (h:Array Obj) (a:Option aW):aT h a []:=⟨fun h=>absurd rfl h,fun _ _ hu=>by simp at hu⟩
theorem aT.md {F:Nat→Prop} {w w':ai} {a:Option aW} {xs:List ah} (A:aT w.heap a xs) (h:Md F w w') (C:xs≠[]→¬F (bk a)):aT w'.heap a xs:=
 ⟨A.ok,fun j u hu=>h.aH (A.aH j u hu)<|C<|by rintro rfl; simp at hu⟩
theorem aT.wk {w w':ai} {a:Option aW} {xs:List ah} (A:aT w.heap a xs) (h:Wk w w'):aT w'.heap a xs:=A.md h fun _ x=>x
theorem aT.take {h:Array Obj} {a:Option aW} {xs:List ah} (A:aT h a xs) (n:Nat):aT h a (xs.take n):=
 ⟨fun C=>A.ok (by rintro rfl; simp at C),fun j u hu=>A.aH j u<|by rw [j6] at hu; split at hu; exact hu; cases hu⟩
theorem aT.dD {h:Array Obj} {b:Nat} {L:List ah} (hb:aD h b L):aT h (some ⟨b,0,none⟩) L:=
 ⟨fun _=>rfl,fun j u hu=>by show Hb.aH h b (0 +j)=_; rw [du,hb.aH]; exact hu⟩
theorem aT.vE {h:Array Obj} {a:Option aW} {xs:List ah} (A:aT h a xs) {i:Nat} {u:ah} (hu:xs[i]? =some u):Hb.aH h (bk a) (fo a+i*1)=some u:=by
 rw [nN]; exact A.aH i u hu
def bN (h:Array Obj) (a:Option aW) (l:List (List UInt8)):Prop :=aT h a<|l.map str
theorem bN.get {h:Array Obj} {a:Option aW} {l:List (List UInt8)} (A:bN h a l) {i:Nat} (hi:i < l.length):Hb.aH h (bk a) (fo a+i*1)=some (str<|l.getD i []):=
 aT.vE A (by simp [cQ,hi])
theorem bN.wk {w w':ai} {a:Option aW} {l:List (List UInt8)} (A:bN w.heap a l) (h:Wk w w'):bN w'.heap a l:=aT.wk A h
theorem ef {α:Type} {f:α→ah} {l:List α} (h:0 < l.length):l.map f≠[]:=by
 cases l with
 | nil=>simp at h
 | cons x l=>simp
def eJ (P:av) (t e size bytes:Nat):Bool:=
 match P.underlying t with
 | some (.slice e')=>e'==e && match P.info? e with
   | some i=>i.size==size && i.bytes==bytes && ba 0 size && match i.zero with
     | some z=>z.cells.size==size
     | none=>false
   | none=>false
 | _=>false
theorem oF {P:av} {t e size bytes:Nat} (h:eJ P t e size bytes=true):
 P.underlying t=some (.slice e)∧∃ i z,P.info? e=some i∧i.zero=some z∧i.size=size∧i.bytes=bytes∧z.cells.size=size∧0 < size:=by
 unfold eJ at h;split at h
 · rename_i e' hu;simp only [bP,beq_iff_eq] at h;obtain ⟨rfl,h⟩:=h;split at h
   · rename_i i hi;simp only [bP,beq_iff_eq] at h;obtain ⟨⟨⟨A,C⟩,h3⟩,h4⟩:=h;split at h4
     · rename_i z E;exact ⟨hu,i,z,hi,E,A,C,by simpa using h4,oT (oU 0)<|cG h3⟩
     · cases h4
   · cases h
 · cases h
def cO (P:av) (t:au):Option Nat:=(P.info? t).map (·.size)
def zeroOf (P:av) (t:au):Option (Option<|List ah):=(P.info? t).map fun i=>i.zero.map fun z=>z.cells.toList
def gD (P:av) (f:e9):Prop := ∀ args w,(callFunc f args).run P w= .ok (.enter f args) w
theorem y8 {P:av} {f:e9} {fn:Func} (E:P.funcs[f]? =some fn) (hn:(fn.name== "runtime.NumGoroutine")=false) (hb:fn.body.isNone=false):gD P f:=by
 intro args w;have A:¬((fn.name== "runtime.NumGoroutine")=true):=by rw [hn]; simp
 have C:¬(fn.body.isNone=true):=by rw [hb]; simp
 simp only [callFunc,iE,run_program,ij,E];rw [if_neg A,if_neg C];rfl
section
variable {P:av} {N:Fm} {σ:Nat→ah} {w:ai} {dst:Option Nat} {ty:au} {pos :String} {af:Array cI} {g:Option (Nat×Bool)} {x y z:bu} {K:(Nat→ah)→ai→Prop}
theorem H6 {o:aO} {f:e9} {L:List ah} {R:ah→ai→Prop} (C:(execOp (ev N σ) o).run P w= .ok (.enter f L.toArray) w) (hr:aZ P f L.toArray w R)
 (k:∀ v w',R v w'→K (dq σ o.dst v) w'):cz P N o σ w K:=by
 unfold cz iD;rw [ek,C];refine jy hr fun e w' ⟨v,he,A⟩=> ?_;subst he;exact ⟨_,gk ..,k v w' A⟩
theorem cl {f:e9} {args:Array bu} {A:Array au} {L:List ah} {R:ah→ai→Prop} (E:gD P f) (hr:aZ P f L.toArray w R) (C:args.toList.map (ev N σ)=L)
 (k:∀ v w',R v w'→K (dq σ dst v) w'):cz P N ⟨dst,.call ⟨.value (.func f),args,A⟩,ty,pos,af,g⟩ σ w K:=by
 refine H6 (f:=f) ?_ hr k;have :args.map (ev N σ)=L.toArray:=by rw [← C,← jx]
 simp [execOp,resolve,ev,mK,invoke,this,E L.toArray w]
theorem zd {f:e9} {fo:bu} {first cap:Array ah} {args:Array bu} {A:Array au} {L:List ah} {R:ah→ai→Prop} (E:gD P f) (I:ev N σ fo= .func (.func f) first cap)
 (hr:aZ P f L.toArray w R) (C:first.toList++args.toList.map (ev N σ)++cap.toList=L)
 (k:∀ v w',R v w'→K (dq σ dst v) w'):cz P N ⟨dst,.call ⟨.value fo,args,A⟩,ty,pos,af,g⟩ σ w K:=by
 refine H6 (f:=f) ?_ hr k;have :first++args.map (ev N σ)++cap=L.toArray:=by rw [← C,← jx,← Ij,← Ij]
 simp [execOp,resolve,I,mK,invoke,this,E L.toArray w]
theorem lN {o:aO} {ob:Obj} {v:Nat→ah} (A:(execOp (ev N σ) o).run P w= .ok (.value<|v w.heap.size) {w with heap:=w.heap.push ob})
 (k:∀ b w',b=w.heap.size→Nw w w'→w'.heap[b]? =some ob→K (dq σ o.dst<|v b) w'):cz P N o σ w K:=by grind [j0,AE]
theorem al {e:au} {C:List ah} (A:zeroOf P e=some (some C)) (k:∀ b w',b=w.heap.size→Nw w w'→aD w'.heap b C→K (dq σ dst<|.pointer<|some ⟨b,0,none⟩) w'):
 cz P N ⟨dst,.alloc e,ty,pos,af,g⟩ σ w K:=by
 refine lN (v:=fun b=> .pointer<|some ⟨b,0,none⟩) (ob:= .cells C.toArray e (0,0)) ?_ fun b w' E I J=>k b w' E I ⟨e,J⟩;unfold zeroOf at A;simp only [il] at A;obtain ⟨i,hi,zv,L,rfl⟩:=A;simp [execOp,ym,zeroValue,eh hi,L,newVar,newRow]
theorem fK {e:au} {C:List ah} (A:zeroOf P e=some (some C)) (k:∀ b w',b=w.heap.size→Nw w w'→w'.heap[b]? =some (.cells C.toArray e (0,0))→K (dq σ dst<|.pointer<|some ⟨b,0,none⟩) w'):
 cz P N ⟨dst,.alloc e,ty,pos,af,g⟩ σ w K:=by
 refine lN (v:=fun b=> .pointer<|some ⟨b,0,none⟩) (ob:= .cells C.toArray e (0,0)) ?_ k;unfold zeroOf at A;simp only [il] at A;obtain ⟨i,hi,zv,E,rfl⟩:=A;simp [execOp,ym,zeroValue,eh hi,E,newVar,newRow]
theorem bx {e:au} {v:ah} {L:List ah} (J:ev N σ x=v) (I:v.cells.toList=L) (k:∀ b w',b=w.heap.size→Nw w w'→aD w'.heap b L→K (dq σ dst<|.pointer<|some ⟨b,0,none⟩) w'):
 cz P N ⟨dst,.box e x,ty,pos,af,g⟩ σ w K:=by
 subst I;refine lN (v:=fun b=> .pointer<|some ⟨b,0,none⟩) (ob:= .cells v.cells e (0,0)) ?_ fun b w' A C E=>k b w' A C ⟨e,E⟩;simp [execOp,Instr.box,J,newVar,newRow]
theorem Ft {t:au} (k:∀ b w',b=w.heap.size→Nw w w'→w'.heap[b]? =some (.map #[] 0)→K (dq σ dst<|.map<|some b) w'):cz P N ⟨dst,.makeMap t none,ty,pos,af,g⟩ σ w K:=by
 refine lN (v:=fun b=> .map<|some b) ?_ k;simp [execOp,Instr.makeMap]
theorem tk {t e:au} {size bytes:Nat} (J:eJ P t e size bytes=true)
 (k:∀ b w',b=w.heap.size→Nw w w'→(∀ B,B≤b→w'.ownsRow B e size (.slice (some ⟨b,0,none⟩) 0 0) 0 [])→K (dq σ dst<|.slice (some ⟨b,0,none⟩) 0 0) w'):cz P N ⟨dst,.buildSlice t 0 #[],ty,pos,af,g⟩ σ w K:=by
 refine lN (v:=fun b=> .slice (some ⟨b,0,none⟩) 0 0) (ob:= .cells #[] e (0,0)) ?_ fun b w' A C E=>k b w' A C fun B I=>⟨by simp,.inr ⟨b,0,#[],U,I,E,bf _,by simp [maxLen],by simp,by simp⟩⟩
 obtain ⟨hu,i,zv,hi,M,A,C,E,L⟩:=oF J;simp [execOp,uJ,bS hu,sizeOf,eh hi,kz,newRow];congr 2;exact Array.eq_empty_of_size_eq_zero<|by simp
theorem CJ {t e:au} {size bytes:Nat} {v:ah} {L:List ah} (V:eJ P t e size bytes=true) (U:bL size 1000=true) (aa:ev N σ x=v) (Z:v.cells.size=size)
 (J:v.cells.toList=L) (k:∀ b w',b=w.heap.size→Nw w w'→w'.heap[b]? =some (.cells L.toArray e (0,0))→K (dq σ dst<|.slice (some ⟨b,0,none⟩) 1 1) w'):cz P N ⟨dst,.buildSlice t 1 #[(0,x)],ty,pos,af,g⟩ σ w K:=by
 subst J;refine lN (v:=fun b=> .slice (some ⟨b,0,none⟩) 1 1) (ob:= .cells v.cells e (0,0)) ?_ fun b w' A C E=>k b w' A C<|by simpa using E
 obtain ⟨hu,i,zv,hi,ab,A,C,E,ac⟩:=oF V;have ad:size≤1000:=by simpa using U
 have M:kz (fun i=>some (i*size,size)) ((nG size).map (zv.cells[· % zv.cells.size]!)) [(0,v)]=some v.cells:=by
  have I:((nG size).map (zv.cells[· % zv.cells.size]!)).size=size:=by simp
  generalize (nG size).map (zv.cells[· % zv.cells.size]!)=cs at I;simp only [kz,Z];rw [if_neg (by rw [I]; simp)];congr 1;have key:∀ (l:List ah) (m:Nat) (cs:Array ah),m+l.length≤cs.size→∀ j,((l.zipIdx m).foldl (fun (cs:Array ah) (c,j)=>cs.setIfInBounds (0 *size+j) c) cs)[j]? =if j < m then cs[j]? else if j < m+l.length then l[j - m]? else cs[j]? :=by
   intro l
   induction l with
   | nil=>intro m cs hm j; simp; intro A C; omega
   | cons c l ih=>
     intro m cs hm j;simp only [Jw,uV,cg] at hm ⊢;rw [ih (m+1) _ (by simp; omega)];simp only [sV,du,uF];by_cases A:j < m
     · rw [if_pos ag,if_pos A,if_neg ag]
     · rw [if_neg A];by_cases C:j=m
       · subst C;rw [if_pos ag,if_pos rfl,if_pos ag,if_pos ag];simp
       · rw [if_neg ag];by_cases E:j < m+1 +l.length
         · rw [if_pos E,if_pos ag];obtain ⟨q,O⟩:∃ q,j - m=q+1:=⟨j - m - 1,ag⟩
           rw [O,jA,show j - (m+1)=q from by omega]
         · rw [if_neg E,if_neg ag,if_neg ag]
  apply ya;intro j;have :=key v.cells.toList 0 cs (by simp; omega) j;rw [show (v.cells.zipIdx.foldl (fun (cs:Array ah) (c,j)=>cs.setIfInBounds (0 *size+j) c) cs)=((v.cells.toList.zipIdx 0).foldl (fun (cs:Array ah) (c,j)=>cs.setIfInBounds (0 *size+j) c) cs) from by
   rw [← Array.foldl_toList]; simp [Array.toList_zipIdx]]
  rw [this];simp only [Nat.not_lt_zero,if_false,du,Nat.sub_zero,Array.length_toList,Array.getElem?_toList];split
  · rfl
  · rw [yc ag,yc ag]
 simp only [execOp,uJ,iE,bS hu,ij,sizeOf,eh hi,kA,A,Nat.one_mul,uQ,zeroValue,ab,List.map_toArray,eS,List.map_nil,aa,M];rw [if_neg (by rw [show (2:Nat) ^ 24=16777216 from rfl]; omega),if_neg ag];simp [newRow]
theorem CK {t e:au} {size bytes:Nat} {v:ah} {L:List ah} (M:eJ P t e size bytes=true) (J:bL size 1000=true) (U:ev N σ x=v) (O:v.cells.size=size)
 (I:v.cells.toList=L) (k:∀ b w',b=w.heap.size→Nw w w'→aD w'.heap b L→K (dq σ dst<|.slice (some ⟨b,0,none⟩) 1 1) w'):cz P N ⟨dst,.buildSlice t 1 #[(0,x)],ty,pos,af,g⟩ σ w K:=
 CJ M J U O I fun b w' A C E=>k b w' A C ⟨_,E⟩
theorem mw {v:ah} (h:v.oneCell'=true):v.cells= #[v]:=by cases v <;> first | rfl | (cases h; done)
theorem D8 {loc:Nat→Option (Nat×Nat)} (C:∀ i,loc i=some (i*1,1)):∀ (rest pre A:List ah),A.length=rest.length→rest.all lh=true→
 kz loc (pre++A).toArray ((rest.zipIdx pre.length).map fun q=>(q.2,q.1))=some (pre++rest).toArray
 | [],pre,A,hl,_=>by
   rw [j5 hl]; rfl
 | v::r,pre,A,hl,h1=>by
   cases A with
   | nil=>simp at hl
   | cons z A=>
     rw [uR,bP] at h1;have E:=mw h1.1;have ih:=D8 C r (pre++ [v]) A (by simpa using hl) h1.2;simp only [Jw,eS,kz,C,E];rw [if_neg (by simp)];simp only [bo,dE,iF,List.singleton_append] at ih;rw [← ih];simp
theorem Ko {t e bytes n:Nat} {ps:Array (Nat×bu)} {L:List ah} (J:eJ P t e 1 bytes=true) (hp:ps.toList.map (fun p=>(p.1,ev N σ p.2))=(L.zipIdx 0).map fun q=>(q.2,q.1)) (C:L.all lh=true) (hn:L.length=n) (A:(bL n 1000 && ba 0 n)=true)
 (k:∀ b w',b=w.heap.size→Nw w w'→w'.heap[b]? =some (.cells L.toArray e (0,0))→K (dq σ dst<|.slice (some ⟨b,0,none⟩) n n) w'):cz P N ⟨dst,.buildSlice t n ps,ty,pos,af,g⟩ σ w K:=by
 subst hn;refine lN (v:=fun b=> .slice (some ⟨b,0,none⟩) L.length L.length) (ob:= .cells L.toArray e (0,0)) ?_ k;obtain ⟨hu,i,zv,hi,M,E,U,V,Z⟩:=oF J;simp only [bP] at A;have aa:L.length≤1000:=by simpa using A.1
 have ab:0 < L.length:=by have :=cG A.2; omega
 have I:kz (fun i=>some (i*1,1)) ((nG<|L.length*1).map (zv.cells[· % zv.cells.size]!)) (ps.toList.map fun p=>(p.1,ev N σ p.2))=some L.toArray:=by
  rw [hp];have O:((nG<|L.length*1).map (zv.cells[· % zv.cells.size]!)).toList.length=L.length:=by simp
  have :=D8 (loc:=fun i=>some (i*1,1)) (fun _=>rfl) L [] ((nG<|L.length*1).map (zv.cells[· % zv.cells.size]!)).toList O C;rw [oQ,oQ,BL] at this;exact this
 simp only [execOp,uJ,iE,bS hu,ij,sizeOf,eh hi,kA,E,uQ,zeroValue,M,jx,I];rw [if_neg (by rw [show (2:Nat) ^ 24=16777216 from rfl]; omega),if_neg ag];simp [newRow]
theorem fh {t e:au} {bytes:Nat} {v:ah} (C:eJ P t e 1 bytes=true) (E:ev N σ x=v) (A:v.oneCell'=true)
 (k:∀ b w',b=w.heap.size→Nw w w'→aD w'.heap b [v]→K (dq σ dst<|.slice (some ⟨b,0,none⟩) 1 1) w'):cz P N ⟨dst,.buildSlice t 1 #[(0,x)],ty,pos,af,g⟩ σ w K:=
 CK C rfl E (by rw [mw A]; rfl) (by rw [mw A]) k
theorem l6 {t e:au} {size bytes:Nat} {L:List ah} (E:eJ P t e size bytes=true) (C:bL size 1000=true) (I:ev N σ x= .agg L.toArray) (A:L.length=size)
 (k:∀ b w',b=w.heap.size→Nw w w'→aD w'.heap b L→K (dq σ dst<|.slice (some ⟨b,0,none⟩) 1 1) w'):cz P N ⟨dst,.buildSlice t 1 #[(0,x)],ty,pos,af,g⟩ σ w K:=
 CK E C I (by simpa [sN] using A) (by simp [sN]) k
theorem CM {e:au} {v:ah} (C:ev N σ x=v) (A:v.oneCell'=true) (k:∀ b w',b=w.heap.size→Nw w w'→aD w'.heap b [v]→K (dq σ dst<|.pointer<|some ⟨b,0,none⟩) w'):
 cz P N ⟨dst,.box e x,ty,pos,af,g⟩ σ w K:=bx C (by rw [mw A]) k
theorem l9 {e:au} {L:List ah} (A:ev N σ x= .agg L.toArray) (k:∀ b w',b=w.heap.size→Nw w w'→aD w'.heap b L→K (dq σ dst<|.pointer<|some ⟨b,0,none⟩) w'):
 cz P N ⟨dst,.box e x,ty,pos,af,g⟩ σ w K:=bx A (by simp [sN]) k
theorem tl {e:au} {L:List ah} (I:ev N σ x= .agg L.toArray) (k:∀ b w',b=w.heap.size→Nw w w'→w'.heap[b]? =some (.cells L.toArray e (0,0))→K (dq σ dst<|.pointer<|some ⟨b,0,none⟩) w'):
 cz P N ⟨dst,.box e x,ty,pos,af,g⟩ σ w K:=by
 refine lN (v:=fun b=> .pointer<|some ⟨b,0,none⟩) (ob:= .cells L.toArray e (0,0)) ?_ fun b w' A C E=>k b w' A C E;simp [execOp,Instr.box,I,newVar,newRow,sN]
theorem Km {t e:au} {bytes:Nat} {v:ah} (J:eJ P t e 1 bytes=true) (M:ev N σ x=v) (A:v.oneCell'=true)
 (k:∀ b w',b=w.heap.size→Nw w w'→(∀ B,B≤b→w'.ownsRow B e 1 (.slice (some ⟨b,0,none⟩) 1 1) 1 [v])→K (dq σ dst<|.slice (some ⟨b,0,none⟩) 1 1) w'):cz P N ⟨dst,.buildSlice t 1 #[(0,x)],ty,pos,af,g⟩ σ w K:=
 CJ (L:= [v]) J rfl M (by rw [mw A]; rfl) (by rw [mw A]) fun b w' hb I C=>k b w' hb I fun B E=>⟨rfl,.inr ⟨b,1,#[v],rfl,E,C,bf _,by simp [maxLen],rfl,rfl⟩⟩
theorem tf {l:List ah} (h:l.all lh=true):∀ u∈l,u.oneCell'=true :=IZ.1 h
theorem fl {t b off :Nat} {e:au} {L:List ah} {v:ah} (A:cO P t=some 1) (ad:ev N σ x= .pointer (some ⟨b,off,none⟩)) (ae:ev N σ y=v) (C:v.oneCell'=true) (hb:w.heap[b]? =some (.cells L.toArray e (0,0))) (Z:off < L.length)
 (k:∀ w',Md (fun k=>k=b) w w'→w'.heap[b]? =some (.cells (L.set off v).toArray e (0,0))→K σ w'):cz P N ⟨none,.store t x y,ty,pos,af,g⟩ σ w K:=by
 have I:v.cells= #[v]:=by cases v <;> first | rfl | (cases C; done)
 have J:w.cell? ⟨b,off,none⟩=some L[off]:=by rw [jK,eB hb]; simp [Z]
 have M:w.frozen? ⟨b,off,none⟩=false :=by simp only [World.frozen?,show w.heap[b]? =_ from hb]; simp
 unfold cO at A;simp only [il] at A;obtain ⟨i,hi,ab⟩:=A;have E:(⟨b,off,none⟩:aW).add 0=⟨b,off,none⟩:=rfl;have aa:(execOp (ev N σ) ⟨none,.store t x y,ty,pos,af,g⟩).run P w= .ok .skip (w.setCell ⟨b,off,none⟩ v):=by
  simp [execOp,BO,ad,ae,oN,storeVar,I,sizeOf,eh hi,ab,storeCells,E,run_store P w _ v _ C,J,M]
 unfold cz iD;rw [ek,aa];refine ⟨σ,U,k _ ⟨U,U,by simp [yp],fun k _ O=> ?_⟩ ?_⟩
 · exact Below.heap_setCell w _ v k O
 · have V:=(cx.1 hb).1;have ac:w.heap[b]= .cells L.toArray e (0,0):=(cx.1 hb).2;simp only [yp];rw [qe (by simpa using V),Array.getElem_modify];simp [ac,List.setIfInBounds_toArray]
theorem st {t b off :Nat} {L:List ah} {v:ah} (M:cO P t=some 1) (I:ev N σ x= .pointer (some ⟨b,off,none⟩)) (J:ev N σ y=v) (A:v.oneCell'=true) (hb:aD w.heap b L) (E:off < L.length)
 (k:∀ w',Md (fun k=>k=b) w w'→aD w'.heap b (L.set off v)→K σ w'):cz P N ⟨none,.store t x y,ty,pos,af,g⟩ σ w K:=
 let ⟨_,hb⟩:=hb
 fl M I J A hb E fun w' A C=>k w' A ⟨_,C⟩
theorem fG {t b off n:Nat} {e:au} {L vs:List ah} (A:cO P t=some n) (M:ev N σ x= .pointer (some ⟨b,off,none⟩)) (O:ev N σ y= .agg vs.toArray) (hn:vs.length=n) (C:vs.all lh=true) (hb:w.heap[b]? =some (.cells L.toArray e (0,0))) (V:off+n≤L.length)
 (k:∀ w',Md (fun k=>k=b) w w'→w'.heap[b]? =some (.cells (L.take off++vs++L.drop (off+n)).toArray e (0,0))→K σ w'):cz P N ⟨none,.store t x y,ty,pos,af,g⟩ σ w K:=by
 unfold cO at A;simp only [il] at A;obtain ⟨i,hi,J⟩:=A;have bK:=run_storeCells_at P b off e vs 0 L.toArray w hb (by simp; omega)<|tf C;have I:(execOp (ev N σ) ⟨none,.store t x y,ty,pos,af,g⟩).run P w= .ok .skip (w.setRow b (L.take off++vs++L.drop (off+n)).toArray):=by
  simp [execOp,BO,M,O,oN,storeVar,sN,sizeOf,eh hi,J,hn,bK]
 unfold cz iD;rw [ek,I];exact ⟨σ,U,k _ ⟨U,U,by simp,fun k _ E=>setRow_other w b k _ E⟩<|setRow_heap w b _ _ e _ hb⟩
theorem sf {t b off n:Nat} {L vs:List ah} (A:cO P t=some n) (M:ev N σ x= .pointer (some ⟨b,off,none⟩)) (O:ev N σ y= .agg vs.toArray) (hn:vs.length=n) (C:vs.all lh=true) (hb:aD w.heap b L) (V:off+n≤L.length)
 (k:∀ w',Md (fun k=>k=b) w w'→aD w'.heap b (L.take off++vs++L.drop (off+n))→K σ w'):cz P N ⟨none,.store t x y,ty,pos,af,g⟩ σ w K:=by
 obtain ⟨e,hb⟩:=hb;unfold cO at A;simp only [il] at A;obtain ⟨i,hi,J⟩:=A;have bK:=run_storeCells_at P b off e vs 0 L.toArray w hb (by simp; omega)<|tf C;have I:(execOp (ev N σ) ⟨none,.store t x y,ty,pos,af,g⟩).run P w= .ok .skip (w.setRow b (L.take off++vs++L.drop (off+n)).toArray):=by
  simp [execOp,BO,M,O,oN,storeVar,sN,sizeOf,eh hi,J,hn,bK]
 unfold cz iD;rw [ek,I];exact ⟨σ,U,k _ ⟨U,U,by simp,fun k _ E=>setRow_other w b k _ E⟩ ⟨e,setRow_heap w b _ _ e _ hb⟩⟩
theorem J3 {t ty e:au} {i:TypeInfo} {zv:ah} {B n m c:Nat} {v Z:ah} {xs news:List ah} {ad:aW} {w':ai} (hu:P.underlying t=some (.slice e)) (hi:P.info? e=some i) (V:i.zero=some zv) (al:zv.cells.size=i.size) (aj:0 < i.size)
 (I:w.ownsRow B e i.size v n xs) (E:news.length=m*i.size) (J:∀ j u,news[j]? =some u→w.cell? (ad.add j)=some u) (L:∀ u∈news,u.oneCell'=true) (M:n+m≤maxLen) (hb:(n+m)*i.bytes≤140737488355328)
 (hr:(lP #[t,t] ty #[v,.slice (some ad) m c]).run P w= .ok Z w'):∀ k,Z.ownBlock=some k→v.ownBlock=some k∨w.heap.size≤k:=by
 intro k A;have am:n+m≤9223372036854775807:=by unfold maxLen at M; omega
 rcases I.2 with ⟨rfl,rfl⟩ | ⟨C,cap,cur,rfl,ao,ae,aq,ap,ab,ar⟩
 · have ak:xs= []:=j5<|by simpa using I.1
   subst ak;obtain ⟨v2,w2,O,aa,_,_⟩:=run_append_own (P:=P) w w.heap.size t ty e i zv i.size i.bytes hu hi V rfl rfl al aj _ 0 [] (eL w w.heap.size e i.size) ad m c news E J L M hb (bf _);rw [hr] at O;cases O;exact .inr (by
    rcases aa.2 with ⟨h,_⟩ | ⟨g2,_,_,h,an,_⟩
    · rw [h] at A; simp [dL] at A
    · rw [h] at A; simp only [dL,bR] at A; omega)
 · by_cases U:n+m≤cap
   · have ac:n*i.size+news.length≤cur.size:=by rw [E,ab,← Nat.add_mul]; exact Nat.mul_le_mul_right _ U
     rw [run_append_room (P:=P) w t ty e i hu hi C n cap cur ae ad m c news E J L U ac] at hr;cases hr;exact .inl A
   · have holds:∀ j u,xs[j]? =some u→w.cell? ((⟨C,0,none⟩:aW).add j)=some u:=I.cells (g:=C) rfl;rw [run_append_grow (P:=P) w t ty e i zv hu hi V ⟨C,0,none⟩ n cap xs I.1 holds ad m c news E J ag ag (growslice_fits ag hb)] at hr;cases hr;simp only [dL,bR] at A;exact .inr ag
theorem ap {t e size bytes B n m c:Nat} {v:ah} {xs news:List ah} {a:Option aW} (ao:eJ P t e size bytes=true) (E:w.ownsRow B e size v n xs) (aa:ev N σ x=v) (ai:B≤w.heap.size)
 (ab:ev N σ y= .slice a m c) (M:aT w.heap a news) (I:news.length=m*size) (J:news.all lh=true) (hb:(n+m)*bytes≤140737488355328) (au:n+m≤9223372036854775807)
 (k:∀ A w',w'.ownsRow B e size A (n+m) (xs++news)→Md (fun k=>v.ownBlock=some k) w w'→(A= .slice none 0 0↔v= .slice none 0 0∧m=0)→(∀ k,A.ownBlock=some k→v.ownBlock=some k∨w.heap.size≤k)→K (dq σ dst A) w'):
 cz P N ⟨dst,.call ⟨.builtin .append,#[x,y],#[t,t]⟩,ty,pos,af,g⟩ σ w K:=by
 obtain ⟨hu,i,zv,hi,ac,Z,L,ad,V⟩:=oF ao;have O:n+m≤maxLen:=by unfold maxLen; omega
 by_cases hm:news= []
 · subst hm;have al:m=0:=by
    rcases Nat.mul_eq_zero.1 (I.symm.trans rfl) with h | h
    · exact h
    · omega
   subst al;have an:(lP #[t,t] ty #[v,.slice a 0 c]).run P w= .ok v w:=by
    rcases E.2 with ⟨rfl,rfl⟩ | ⟨ar,cap,cur,rfl,_,_,hle,_⟩
    · cases a <;> simp [lP,bS hu,sizeOf,eh hi,Ir,yj,loadCells,loadCellsFrom]
    · cases a <;> simp [lP,bS hu,sizeOf,eh hi,Ir,yj,loadCells,loadCellsFrom,hle,storeCells]
   refine j0 (w':=w) (v:=v) ?_<|k v w (by simpa using E) (Md.refl _ _) (by simp) fun _ h=> .inl h;simp [execOp,resolve,invoke,builtin,aa,ab,an]
 · have ha:=M.ok hm;have U:∀ j u,news[j]? =some u→w.cell? ((⟨bk a,fo a,none⟩:aW).add j)=some u:=fun j u hu=>by rw [fw,jK]; exact M.aH j u hu
   obtain ⟨A,w',hr,ae,C,ag⟩:=run_append_own (P:=P) w B t ty e i zv size bytes hu hi ac Z L ad V v n xs E ⟨bk a,fo a,none⟩ m c news I U (tf J) O hb ai;subst Z L;have aj:=J3 hu hi ac ad V E I U (tf J) O hb hr;refine j0 (w':=w') (v:=A) ?_<|k A w' ae ⟨C.os,C.output,C.size,fun k ak am=>C.block k ak fun e=>am e.symm⟩ ag aj;have aq:ev N σ y= .slice (some ⟨bk a,fo a,none⟩) m c:=ab.trans<|congrArg (fun a=>ff a m c) ha;simp [execOp,resolve,invoke,builtin,aa,aq,hr]
theorem bZ {t n len cap:Nat} {k:bX} {i:Int} {a:Option aW} (he:dB P t=some n) (A:ev N σ x= .slice a len cap) (C:ev N σ y= .int k i) (h0:0≤i∧i < len) (ha:a=some ⟨bk a,fo a,none⟩):
 (execOp (ev N σ) ⟨dst,.indexAddr t x y,ty,pos,af,g⟩).run P w= .ok (.value<|.pointer<|some ⟨bk a,fo a+i.toNat*n,none⟩) w:=
 ia he (by rw [A]; congr 1) C h0
end
theorem cC {F:Nat→Prop} {w w':ai} {B e size n:Nat} {v:ah} {xs:List ah} (h:w.ownsRow B e size v n xs) (hm:Md F w w') (A:∀ k,v.ownBlock=some k→¬F k):w'.ownsRow B e size v n xs:=by
 refine ⟨h.1,?_⟩;rcases h.2 with hn | ⟨g,cap,cur,rfl,hb,C,rest⟩
 · exact .inl hn
 · exact .inr ⟨g,cap,cur,U,hb,hm.ax C (A g U),rest⟩
section
variable {P:av} {N:Fm} {σ:Nat→ah} {w:ai} {dst:Option Nat} {ty:au} {pos :String} {af:Array cI} {g:Option (Nat×Bool)} {x y z:bu} {K:(Nat→ah)→ai→Prop}
end
theorem F0 {w:ai} {B e size n:Nat} {v:ah} {xs:List ah} (h:w.ownsRow B e size v n xs):v.oneCell'=true :=by
 rcases h.2 with ⟨rfl,_⟩ | ⟨g,cap,cur,rfl,_⟩ <;> rfl
theorem de {w:ai} {B e size n:Nat} {v:ah} {xs:List ah} (h:w.ownsRow B e size v n xs):∃ a cap,v= .slice a n cap:=by
 rcases h.2 with ⟨rfl,rfl⟩ | ⟨g,cap,cur,rfl,_⟩
 · exact ⟨_,_,U⟩
 · exact ⟨_,_,U⟩
theorem rH {w:ai} {B B' e e' size U n O:Nat} {v I:ah} {xs V:List ah} (h:w.ownsRow B e size v n xs) (J:w.ownsRow B' e' U I O V) (M:e≠e') {k:Nat} (C:v.ownBlock=some k):I.ownBlock≠some k:=by
 intro E;rcases h.2 with ⟨rfl,_⟩ | ⟨g,cap,cur,rfl,_,L,_⟩
 · simp [dL] at C
 · rcases J.2 with ⟨rfl,_⟩ | ⟨g',Z,aa,rfl,_,A,_⟩
   · simp [dL] at E
   · simp only [dL,bR] at C E;subst C E;rw [L] at A;simp only [bR,nH] at A;exact M A.2.1
theorem aR {w w':ai} {B e size n:Nat} {v:ah} {xs:List ah} (h:w.ownsRow B e size v n xs) (hm:Wk w w'):w'.ownsRow B e size v n xs:=cC h hm fun _ _ x=>x
theorem da {w:ai} {B e size n:Nat} {v:ah} {xs:List ah} (h:w.ownsRow B e size v n xs) {k:Nat} (A:v.ownBlock=some k):B≤k∧k < w.heap.size:=h.lt k A
theorem Wk.own {w0 w w':ai} {B e size n:Nat} {v:ah} {xs:List ah} (h:Wk w0 w) (A:w.ownsRow B e size v n xs) (hm:Md (fun k=>v.ownBlock=some k) w w') (E:w0.heap.size≤B):Wk w0 w':=
 Md.trans' h hm (fun k I C=>by have :=(da A C).1; omega)
theorem uc {w:ai} {B e size n:Nat} {v:ah} {xs:List ah} (h:w.ownsRow B e size v n xs):∃ a cap,v= .slice a n cap∧aT w.heap a xs∧n≤cap∧(∀ k,v.ownBlock=some k→a=some ⟨k,0,none⟩∧B≤k∧k < w.heap.size)∧(v.ownBlock=none→xs= []):=by
 rcases h.2 with ⟨rfl,rfl⟩ | ⟨g,cap,cur,rfl,hb,C,hle,_,_,E⟩
 · have :xs= []:=j5<|by simpa using h.1
   subst this;exact ⟨none,0,U,aT.nil _ _,bf _,fun k A=>by simp [dL] at A,fun _=>rfl⟩
 · refine ⟨_,cap,U,⟨fun _=>rfl,fun j u hu=> ?_⟩,hle,fun k A=> ?_,fun A=>by simp [dL] at A⟩
   · show aH w.heap g (0 +j)=_;rw [du,eB C];rw [← E,j6] at hu;split at hu
     · simpa using hu
     · cases hu
   · simp only [dL,bR] at A; subst A;exact ⟨U,hb,(cx.1 C).1⟩
theorem dx {w:ai} {B e size n cap:Nat} {a:Option aW} {xs:List ah} (h:w.ownsRow B e size (.slice a n cap) n xs):n≤cap∧aT w.heap a xs:=by grind [uc]
theorem nr {w:ai} {B B' e size n:Nat} {v:ah} {xs:List ah} (h:w.ownsRow B e size v n xs) (E:B'≤B):w.ownsRow B' e size v n xs:=by
 refine ⟨h.1,?_⟩;rcases h.2 with h | ⟨g,cap,cur,A,C,r⟩
 · exact .inl h
 · exact .inr ⟨g,cap,cur,A,cR E C,r⟩
theorem aT.drop {h:Array Obj} {a:Option aW} {xs:List ah} (C:aT h a xs) {cap k size:Nat} (I:xs.length≤cap*size):aT h (dW a cap k size) (xs.drop<|k*size):=by
 unfold dW;by_cases A:cap=k
 · rw [if_pos A,iY (by rw [← A]; exact I)]; exact aT.nil _ _
 · rw [if_neg A];by_cases E:xs= []
   · subst E; rw [List.drop_nil]; exact aT.nil _ _
   · have ha:=C.ok E;rw [ha];simp only [fg,fw];refine ⟨fun _=>rfl,fun j u hu=> ?_⟩;rw [List.getElem?_drop] at hu;have :=C.aH _ _ hu;show Hb.aH h (bk a) (fo a+k*size+j)=_;rw [iG]; exact this
theorem bN.drop {h:Array Obj} {a:Option aW} {l:List (List UInt8)} (A:bN h a l) {cap k:Nat} (C:l.length≤cap):bN h (dW a cap k 1) (l.drop k):=by
 have :=aT.drop (k:=k) (size:=1) A (cap:=cap)<|by rw [nK]; omega
 rw [nN,← List.map_drop] at this; exact this
theorem bN.take {h:Array Obj} {a:Option aW} {l:List (List UInt8)} (A:bN h a l) (k:Nat):bN h a (l.take k):=by simp_all [aT.take,Jh,bN]
section
variable {P:av} {N:Fm} {σ:Nat→ah} {w:ai} {dst:Option Nat} {ty:au} {pos :String} {af:Array cI} {g:Option (Nat×Bool)} {x y z:bu} {K:(Nat→ah)→ai→Prop}
end
end Go.Hb
namespace Go.Hb
section
variable {P:av} {md:qt} {ops:Array aO} {Q:bM→Act→ai→Prop} {S:ai→Prop} {r:Nat}
def nD (P:av) (md:qt) (ops:Array aO) (Q:bM→Act→ai→Prop) (S:ai→Prop) (r:Nat):Nat→Array Bool→Act→ai→Prop
 | 0,listed,a,w=>fH md ops listed= []∧Q .normal a w
 | fuel+1,listed,a,w=>
   (fH md ops listed= []→Q .normal a w)∧
   ∀ i∈fH md ops listed,wpOp P ops Q i (fun a' w'=>((listed.setIfInBounds i true).getD r false =false→S w')∧nD P md ops Q S r fuel (listed.setIfInBounds i true) a' w') a w
theorem HZ:∀ (fuel:Nat) (listed:Array Bool) (a:Act) (w:ai),nD P md ops Q S r fuel listed a w→wpAny P md ops Q fuel listed a w
 | 0,_,_,_,h=>h
 | fuel+1,_,_,_,h=>⟨h.1,fun i hi=>wpOp_mono (fun a' w' A=>HZ fuel _ a' w' A.2)<|h.2 i hi⟩
theorem Ru {i:Nat} {I:aO} {v:ah} (hi:ops[i]? =some I) (ak:∀ (j:Nat) (o:aO) cs b,ops[j]? =some o→o.op≠.select cs b)
 (an:∀ c a w,Q (.panic c) (a.put I.dst v) w→Q (.panic c) a w) (ay:∀ o,ops[r]? =some o→∃ x∈o.after,eQ md x=true∧x.on=i) (aq:i≠r):
 ∀ (fuel:Nat) (listed:Array Bool) (a:Act) (w:ai),
   (∀ j C,ops[j]? =some C→j≠i→listed.getD j true =false→(∀ x∈C.after,eQ md x=true→x.on≠i)→I.apart ops C=true)→
   i∈fH md ops listed→YieldsIf P ops S I v a→S w→listed.getD r false =false→
   nD P md ops Q S r fuel (listed.setIfInBounds i true) (a.put I.dst v) w→nD P md ops Q S r (fuel+1) listed a w:=by
 intro fuel
 induction fuel with
 | zero=>
   intro listed a w _ hr U J _ H;refine ⟨fun h=>(by rw [h] at hr; cases hr),fun j M=> ?_⟩;by_cases A:j=i
   · subst A; exact U.wpOp hi J ⟨fun _=>J,H⟩
   · have :=ready_mono M A;rw [H.1] at this;cases this
 | succ fuel ih=>
   intro listed a w aa hr U J ae H;refine ⟨fun h=>(by rw [h] at hr; cases hr),fun j M=> ?_⟩;by_cases A:j=i
   · subst A; exact U.wpOp hi J ⟨fun _=>J,H⟩
   · have E:=H.2 j<|ready_mono M A;obtain ⟨ad,C,O,ao⟩:=mem_ready.1 M;have aj:∀ x∈C.after,eQ md x=true→x.on≠i:=fun x Z hb heq=>by
      have E:=ao x Z hb;have h0:=(mem_ready.1 hr).1;rw [heq] at E;rcases dM i listed.size with V | V
      · simp [V] at h0 E; rw [h0] at E; cases E
      · simp [yc V] at E
     have ac:j≠r:=by
      rintro rfl;obtain ⟨x,Z,hb,ax⟩:=ay C O;exact aj x Z hb ax
     have av:(listed.setIfInBounds j true).getD r false =false :=by rw [getD_set_ne false ac]; exact ae
     have ag:((listed.setIfInBounds i true).setIfInBounds j true).getD r false =false :=by rw [getD_set_ne false ac,getD_set_ne false aq]; exact ae
     have am:=wpOp_putIf O (aa j C O A ad aj) (fun cs b=>ak i I cs b hi) (fun cs b=>ak j C cs b O) an U E;have ap:∀ k ok,ops[k]? =some ok→k≠i→(listed.setIfInBounds j true).getD k true =false→
      (∀ x∈ok.after,eQ md x=true→x.on≠i)→I.apart ops ok=true :=fun k ok ar au al aw=>by
      refine aa k ok ar au ?_ aw;by_cases ab:j=k
      · subst ab; exact ad
      · rw [getD_set_ne true ab] at al; exact al
     refine wpOp_mono (fun a' w' L=>⟨fun _=>L.2.1 ag,ih (listed.setIfInBounds j true) a' w' ap (ready_mono hr<|Ne.symm A) L.1 (L.2.1 ag) av ?_⟩) am;rw [BK _ _ A];exact L.2.2
end
section
variable {P:av} {N:Fm} {ops:Array aO} {Q:bM→(Nat→ah)→ai→Prop} {σ:Nat→ah} {w:ai} {S:ai→Prop} {r fuel:Nat} {listed:Array Bool}
 {d':Option Nat} {d:Nat} {op:Op} {ty:au} {pos :String} {af:Array cI} {v:ah}
def db (P:av) (N:Fm) (ops:Array aO) (Q:bM→(Nat→ah)→ai→Prop) (S:ai→Prop) (r fuel:Nat) (listed:Array Bool) (σ:Nat→ah) (w:ai):Prop :=
 nD P .any ops (lift N Q) S r fuel listed (act N σ) w
theorem tR {id:Nat} {l:List aO} (S:ai→Prop) (r:Nat) (hr:mu N.r l=true) (hm:P.follows .mixedOrders=true) (A:S w.drew) (h:db P N l.toArray Q S r l.length (sD l.length false) σ w.drew):bU P N (.region id l.toArray true) Q σ w:=by
 exact Cv hr hm<|HZ _ _ _ _<|by rw [fS]; exact h
def q7 (F:List Nat) (ops:Array aO) (listed:Array Bool) (r i:Nat):Bool:=
 fX F ops listed i && !(listed.getD r false) && i !=r && (match ops[r]? with | some o=>o.after.toList.any (fun x=>eQ .any x && x.on==i) | none=>false)
theorem lq (i:Nat) (hi:ops[i]? =some ⟨some d,op,ty,pos,af,none⟩) (C:q7 N.F ops listed r i=true)
 (U:∀ w,S w→(execOp (ev N σ) ⟨some d,op,ty,pos,af,none⟩).run P w= .ok (.value v) w) (A:S w)
 (k:db P N ops Q S r fuel (listed.setIfInBounds i true) (bI σ d v) w):db P N ops Q S r (fuel+1) listed σ w:=by
 simp only [q7,fX,bP,mI,bne_iff_ne,ne_eq] at C;obtain ⟨⟨⟨⟨⟨⟨J,L⟩,hf3⟩,hfF⟩,hf4⟩,hf5⟩,hf6⟩:=C;rw [hi] at hfF;refine Ru hi (BS J) (fun c a w=>pJ hfF c a w) (fun o M=> ?_) hf5 fuel listed _ w (BR hi L) (by simpa using hf3) (.inl ⟨gW _ rfl _,fun w A=> ?_⟩) A hf4 ?_ (v:=v)
 · rw [M] at hf6;simp only [I0,bP,beq_iff_eq] at hf6;obtain ⟨x,O,E,I⟩:=hf6;exact ⟨x,yf.1 O,E,I⟩
 · rw [ek]; exact U w A
 · rw [gk]; exact k
theorem EV (i:Nat) (hi:ops[i]? =some ⟨d',op,ty,pos,af,none⟩) (hr:kS ops listed i=true)
 (h:cz P N ⟨d',op,ty,pos,af,none⟩ σ w (fun σ w=>((listed.setIfInBounds i true).getD r false =false→S w)∧db P N ops Q S r fuel (listed.setIfInBounds i true) σ w)):db P N ops Q S r (fuel+1) listed σ w:=by
 have C:fH .any ops listed= [i]:=by simpa [kS] using hr
 refine ⟨fun h0=>absurd (C ▸ h0) (by simp),fun k A=> ?_⟩;rw [C] at A;obtain rfl :k=i:=by simpa using A
 unfold wpOp;simp only [hi];rw [if_pos (gW _ rfl _)];exact .inl<|uC h fun _ _ A=>A
theorem rh (i:Nat) (hi:ops[i]? =some ⟨d',op,ty,pos,af,none⟩) (hr:kS ops listed i=true)
 (h:cz P N ⟨d',op,ty,pos,af,none⟩ σ w (fun σ w=>S w∧db P N ops Q S r fuel (listed.setIfInBounds i true) σ w)):db P N ops Q S r (fuel+1) listed σ w:=by grind [EV,H7]
theorem pI (i:Nat) (hi:ops[i]? =some ⟨d',op,ty,pos,af,none⟩) (hr:kS ops listed i=true) (C:(listed.setIfInBounds i true).getD r false =true)
 (h:cz P N ⟨d',op,ty,pos,af,none⟩ σ w (fun σ w=>db P N ops Q S r fuel (listed.setIfInBounds i true) σ w)):db P N ops Q S r (fuel+1) listed σ w:=
 EV i hi hr (H7 h fun _ _ A=>⟨fun h0=>absurd (h0.symm.trans C) dS,A⟩)
theorem pK (hr:(fH .any ops listed).isEmpty=true) (h:Q .normal σ w):db P N ops Q S r fuel listed σ w:=by
 have A:fH .any ops listed= []:=by simpa using hr
 cases fuel with
 | zero=>exact ⟨A,σ,rfl,h⟩
 | succ fuel=>exact ⟨fun _=>⟨σ,rfl,h⟩,by rw [A]; simp⟩
attribute [irreducible] db
end
end Go.Hb
namespace Go.Hb
section
variable {P:av} {md:qt} {ops:Array aO} {Q:bM→Act→ai→Prop} {S:ai→Prop} {r:Nat}
inductive oZ (md:qt) (ops:Array aO) (i:Nat):Nat→Prop
 | one {r o e} :ops[r]? =some o→e∈o.after→eQ md e=true→e.on=i→oZ md ops i r
 | more {r o e} :ops[r]? =some o→e∈o.after→eQ md e=true→oZ md ops i e.on→oZ md ops i r
def oY (md:qt) (ops:Array aO) (listed:Array Bool):Prop := ∀ (j:Nat) (o:aO),ops[j]? =some o→listed.getD j false =true→∀ e∈o.after,eQ md e=true→listed.getD e.on false =true
theorem EA {listed:Array Bool} {j k:Nat} (h:listed.getD k false =true):(listed.setIfInBounds j true).getD k false =true :=by
 by_cases e:j=k
 · subst e;by_cases A:j < listed.size
   · simp [A]
   · simp [A] at h
 · rw [getD_set_ne false e]; exact h
theorem oY.set {listed:Array Bool} {j:Nat} (h:oY md ops listed) (J:j∈fH md ops listed):oY md ops (listed.setIfInBounds j true):=by
 intro k o A E e he hb;obtain ⟨_,M,L,I⟩:=mem_ready.1 J;by_cases C:j=k
 · subst C;rw [L] at A; cases A;exact EA<|I e he hb
 · rw [getD_set_ne false C] at E;exact EA<|h k o A E e he hb
theorem oZ.listed {listed:Array Bool} {i r:Nat} (L:oZ md ops i r) (J:oY md ops listed) (ha:∀ o,ops[r]? =some o→∀ e∈o.after,eQ md e=true→listed.getD e.on false =true):listed.getD i false =true :=by
 induction L with
 | one A C E I=>rw [← I]; exact ha _ A _ C E
 | more A C E _ ih=>exact ih fun o M e he hb=>J _ o M (ha _ A _ C E) e he hb
theorem Rt {i:Nat} {C:aO} {v:ah} (hi:ops[i]? =some C) (am:∀ (j:Nat) (o:aO) cs b,ops[j]? =some o→o.op≠.select cs b)
 (ap:∀ c a w,Q (.panic c) (a.put C.dst v) w→Q (.panic c) a w) (aq:oZ md ops i r) (au:i≠r):
 ∀ (fuel:Nat) (listed:Array Bool) (a:Act) (w:ai),oY md ops listed→
   (∀ j E,ops[j]? =some E→j≠i→listed.getD j true =false→(∀ x∈E.after,eQ md x=true→x.on≠i)→C.apart ops E=true)→
   i∈fH md ops listed→YieldsIf P ops S C v a→S w→listed.getD r false =false→
   nD P md ops Q S r fuel (listed.setIfInBounds i true) (a.put C.dst v) w→nD P md ops Q S r (fuel+1) listed a w:=by
 intro fuel
 induction fuel with
 | zero=>
   intro listed a w _ _ hr U I _ H;refine ⟨fun h=>(by rw [h] at hr; cases hr),fun j J=> ?_⟩;by_cases A:j=i
   · subst A; exact U.wpOp hi I ⟨fun _=>I,H⟩
   · have :=ready_mono J A;rw [H.1] at this;cases this
 | succ fuel ih=>
   intro listed a w aa ab hr U I aj H;refine ⟨fun h=>(by rw [h] at hr; cases hr),fun j J=> ?_⟩;by_cases A:j=i
   · subst A; exact U.wpOp hi I ⟨fun _=>I,H⟩
   · have L:=H.2 j<|ready_mono J A;obtain ⟨ag,E,O,Z⟩:=mem_ready.1 J;have ac:listed.getD i false =false :=by
      have h0:=(mem_ready.1 hr).1;rcases dM i listed.size with V | V
      · simpa [V] using h0
      · simp [V] at h0
     have az:∀ x∈E.after,eQ md x=true→x.on≠i:=fun x aA hb heq=>by
      have L:=Z x aA hb;rw [heq,ac] at L; cases L
     have ae:j≠r:=by
      rintro rfl;have :=aq.listed aa fun o al=>by rw [O] at al; cases al; exact Z
      rw [ac] at this; cases this
     have ax:(listed.setIfInBounds j true).getD r false =false :=by rw [getD_set_ne false ae]; exact aj
     have ak:((listed.setIfInBounds i true).setIfInBounds j true).getD r false =false :=by rw [getD_set_ne false ae,getD_set_ne false au]; exact aj
     have ao:=wpOp_putIf O (ab j E O A ag az) (fun cs b=>am i C cs b hi) (fun cs b=>am j E cs b O) ap U L;have ar:∀ k ok,ops[k]? =some ok→k≠i→(listed.setIfInBounds j true).getD k true =false→
      (∀ x∈ok.after,eQ md x=true→x.on≠i)→C.apart ops ok=true :=fun k ok av aw an ay=>by
      refine ab k ok av aw ?_ ay;by_cases ad:j=k
      · subst ad; exact ag
      · rw [getD_set_ne true ad] at an; exact an
     refine wpOp_mono (fun a' w' M=>⟨fun _=>M.2.1 ak,ih (listed.setIfInBounds j true) a' w' (aa.set J) ar (ready_mono hr<|Ne.symm A) M.1 (M.2.1 ak) ax ?_⟩) ao;rw [BK _ _ A];exact M.2.2
theorem Rv {i:Nat} {C:aO} {v:ah} (hi:ops[i]? =some C) (ag:∀ (j:Nat) (o:aO) cs b,ops[j]? =some o→o.op≠.select cs b)
 (al:∀ c a w,Q (.panic c) (a.put C.dst v) w→Q (.panic c) a w) (V:i≠r):
 ∀ (fuel:Nat) (listed:Array Bool) (a:Act) (w:ai),
   (∀ j E,ops[j]? =some E→j≠i→listed.getD j true =false→(∀ x∈E.after,eQ md x=true→x.on≠i)→C.apart ops E=true)→
   i∈fH md ops listed→YieldsIf P ops (fun _=>True) C v a→(listed.getD r false =false→S w)→
   nD P md ops Q S r fuel (listed.setIfInBounds i true) (a.put C.dst v) w→nD P md ops Q S r (fuel+1) listed a w:=by
 intro fuel
 induction fuel with
 | zero=>
   intro listed a w _ hr M U H;refine ⟨fun h=>(by rw [h] at hr; cases hr),fun j L=> ?_⟩;by_cases A:j=i
   · subst A; exact M.wpOp hi trivial ⟨fun h=>U (by rw [getD_set_ne false V] at h; exact h),H⟩
   · have :=ready_mono L A;rw [H.1] at this;cases this
 | succ fuel ih=>
   intro listed a w ab hr M U H;refine ⟨fun h=>(by rw [h] at hr; cases hr),fun j L=> ?_⟩;by_cases A:j=i
   · subst A; exact M.wpOp hi trivial ⟨fun h=>U (by rw [getD_set_ne false V] at h; exact h),H⟩
   · have I:=H.2 j<|ready_mono L A;obtain ⟨ae,E,Z,am⟩:=mem_ready.1 L;have ao:listed.getD i false =false :=by
      have h0:=(mem_ready.1 hr).1;rcases dM i listed.size with O | O
      · simpa [O] using h0
      · simp [O] at h0
     have au:∀ x∈E.after,eQ md x=true→x.on≠i:=fun x av hb heq=>by
      have I:=am x av hb;rw [heq,ao] at I; cases I
     have ak:=wpOp_putIf Z (ab j E Z A ae au) (fun cs b=>ag i C cs b hi) (fun cs b=>ag j E cs b Z) al M I;have an:∀ k ok,ops[k]? =some ok→k≠i→(listed.setIfInBounds j true).getD k true =false→
      (∀ x∈ok.after,eQ md x=true→x.on≠i)→C.apart ops ok=true :=fun k ok ap aq aj ar=>by
      refine ab k ok ap aq ?_ ar;by_cases ad:j=k
      · subst ad; exact ae
      · rw [getD_set_ne true ad] at aj; exact aj
     have aa:(listed.setIfInBounds i true).setIfInBounds j true =(listed.setIfInBounds j true).setIfInBounds i true :=BK _ _ fun e=>A e.symm;have ac:(listed.setIfInBounds j true).getD r false =false→((listed.setIfInBounds i true).setIfInBounds j true).getD r false =false :=fun h=>by rw [aa,getD_set_ne false V]; exact h
     refine wpOp_mono (fun a' w' J=>⟨fun h=>J.2.1 (ac h),ih (listed.setIfInBounds j true) a' w' an (ready_mono hr<|Ne.symm A) J.1 (fun h=>J.2.1<|ac h) ?_⟩) ak;rw [← aa];exact J.2.2
end
section
variable {P:av} {N:Fm} {ops:Array aO} {Q:bM→(Nat→ah)→ai→Prop} {σ:Nat→ah} {w:ai} {S:ai→Prop} {r fuel:Nat} {listed:Array Bool}
 {d:Nat} {op:Op} {ty:au} {pos :String} {af:Array cI} {v:ah}
def vO (ops:Array aO) (i:Nat):Nat→Nat→Bool
 | 0,_=>false
 | f+1,r=>match ops[r]? with | some o=>o.after.toList.any (fun e=>eQ .any e && (e.on==i || vO ops i f e.on)) | none=>false
theorem LM {i:Nat} :∀ (f r:Nat),vO ops i f r=true→oZ .any ops i r:=by
 intro f
 induction f with
 | zero=>intro r h; cases h
 | succ f ih=>
   intro r h;rw [vO] at h;split at h
   · rename_i o A;simp only [I0,bP,lO,beq_iff_eq] at h;obtain ⟨e,he,hb,h⟩:=h;rcases h with h | h
     · exact .one A (yf.1 he) hb h
     · exact .more A (yf.1 he) hb<|ih _ h
   · cases h
def zc (ops:Array aO) (listed:Array Bool):Bool:=(nL ops.size).all fun j=> !listed.getD j false || match ops[j]? with | some o=>o.after.toList.all (fun e=> !eQ .any e || listed.getD e.on false) | none=>true
theorem KY (h:zc ops listed=true):oY .any ops listed:=by grind [zc,oY]
def zM (F:List Nat) (ops:Array aO) (listed:Array Bool) (r i:Nat):Bool:=fX F ops listed i && !(listed.getD r false) && i !=r && zc ops listed && vO ops i ops.size r
def px (F:List Nat) (ops:Array aO) (listed:Array Bool) (r i:Nat):Bool:=fX F ops listed i && i !=r
theorem Fb (i:Nat) (hi:ops[i]? =some ⟨some d,op,ty,pos,af,none⟩) (C:zM N.F ops listed r i=true)
 (J:∀ w,S w→(execOp (ev N σ) ⟨some d,op,ty,pos,af,none⟩).run P w= .ok (.value v) w) (A:S w)
 (k:db P N ops Q S r fuel (listed.setIfInBounds i true) (bI σ d v) w):db P N ops Q S r (fuel+1) listed σ w:=by
 simp only [zM,fX,bP,mI,bne_iff_ne,ne_eq] at C;obtain ⟨⟨⟨⟨⟨⟨⟨E,I⟩,hf3⟩,hfF⟩,hf4⟩,hf5⟩,hf6⟩,hf7⟩:=C;rw [hi] at hfF;unfold db at*;refine Rt hi (BS E) (fun c a w=>pJ hfF c a w) (LM _ _ hf7) hf5 fuel listed _ w (KY hf6) (BR hi I) (by simpa using hf3) (.inl ⟨gW _ rfl _,fun w A=> ?_⟩) A hf4 ?_ (v:=v)
 · rw [ek]; exact J w A
 · rw [gk]; exact k
theorem tQ (i:Nat) (hi:ops[i]? =some ⟨some d,op,ty,pos,af,none⟩) (A:px N.F ops listed r i=true)
 (J:∀ w,(execOp (ev N σ) ⟨some d,op,ty,pos,af,none⟩).run P w= .ok (.value v) w) (C:listed.getD r false =false→S w)
 (k:db P N ops Q S r fuel (listed.setIfInBounds i true) (bI σ d v) w):db P N ops Q S r (fuel+1) listed σ w:=by
 simp only [px,fX,bP,bne_iff_ne,ne_eq] at A;obtain ⟨⟨⟨⟨E,I⟩,hf3⟩,hfF⟩,hf5⟩:=A;rw [hi] at hfF;unfold db at*;refine Rv hi (BS E) (fun c a w=>pJ hfF c a w) hf5 fuel listed _ w (BR hi I) (by simpa using hf3) (.inl ⟨gW _ rfl _,fun w _=> ?_⟩) C ?_ (v:=v)
 · rw [ek]; exact J w
 · rw [gk]; exact k
end
end Go.Hb
namespace Go.Hb
def HL:Nat→Nat→List UInt8
 | 0,n=> [gi n]
 | f+1,n=>if n < 128 then [gi n] else gi (n % 128 +128)::HL f (n / 128)
def QR (n:Nat):List UInt8:=HL n n
def frame:List (List UInt8)→List UInt8
 | []=> []
 | r::l=>QR r.length++(r++frame l)
theorem ie {α:Type} (l:List α) (i:Nat) (d:α) (h:i < l.length):l.take (i+1)=l.take i++ [l.getD i d]:=by simp_all
end Go.Hb
namespace Go.Hb
def U8 (l:List UInt8):List ah:=l.map fun b=>bh .u8 b.toNat
theorem vy (l:List UInt8):(U8 l).length=l.length:=by simp [U8]
theorem yP (a b:List UInt8):U8 (a++b)=U8 a++U8 b:=by simp [U8]
def nX (P:av) (t e u:au):Bool:=
 eJ P t e 1 1 && (match P.underlying e with | some (.int .u8)=>true | _=>false) && (match P.underlying u with | some .string=>true | _=>false) &&
  (match P.info? e with | some i=>(match i.zero with | some (.int .u8 0)=>true | _=>false) | none=>false)
theorem CN {P:av} {t e u:au} (h:nX P t e u=true):
 eJ P t e 1 1=true∧P.underlying e=some (.int .u8)∧P.underlying u=some .string∧∃ i,P.info? e=some i∧i.zero=some (.int .u8 0):=by grind [nX,eJ]
section
variable {P:av} {N:Fm} {σ:Nat→ah} {w:ai} {dst:Option Nat} {ty:au} {pos :String} {af:Array cI} {g:Option (Nat×Bool)} {x y z:bu} {K:(Nat→ah)→ai→Prop}
theorem foldl_push (l:List UInt8) (r:ByteArray):(l.map fun b=>(b.toNat:Int)).foldl (fun r n=>r.push<|gi n.toNat) r=⟨r.data++l.toArray⟩:=by
 induction l generalizing r with
 | nil=>simp
 | cons b l ih=>
   simp only [eS,uV];rw [ih];apply ByteArray.ext;simp [ByteArray.push]
theorem mc {t e u n c:Nat} {a:Option aW} {l:List UInt8} (h:nX P t e u=true) (V:ev N σ x= .slice a n c) (A:aT w.heap a (U8 l)) (C:l.length=n):
 (execOp (ev N σ) ⟨dst,.convert t u x,ty,pos,af,g⟩).run P w= .ok (.value<|str l) w:=by
 obtain ⟨E,I,J,_⟩:=CN h;obtain ⟨hu,_⟩:=oF E;have L:(Iy<|.slice a n c).run P w= .ok (str l) w:=by
  by_cases he:l= []
  · subst he;cases a with
    | none=>simp [Iy,str]; rfl
    | some a=>
      subst C;have :=run_bytesToString (P:=P) w a 0 c []<|by simp [loadCells,loadCellsFrom]
      exact this.trans U
  · have ha:=A.ok<|by simpa [U8] using he
    have O:(loadCells ⟨bk a,fo a,none⟩ n).run P w= .ok ((l.map fun b=>(b.toNat:Int)).map<|bh .u8).toArray w:=by
     subst C;have :=run_loadCells_list (P:=P) w ⟨bk a,fo a,none⟩ (U8 l) fun j v M=>by
      rw [fw,jK];exact A.aH j v M
     rw [vy] at this;rw [this];simp [U8]
    rw [ha,run_bytesToString w _ n c _ O,foldl_push];simp [str,ByteArray.empty,ByteArray.emptyWithCapacity];rfl
 simp [execOp,V,run_convert_bytes_string w t u e a n c hu I J,L]
theorem J2 {t e u B n:Nat} {v:ah} {xs:List ah} {l:List UInt8} (h:nX P t e u=true) (E:w.ownsRow B e 1 v n xs) (U:ev N σ x=v) (ae:B≤w.heap.size) (am:ev N σ y=str l)
 (hb:n+l.length≤140737488355328)
 (k:∀ C w',w'.ownsRow B e 1 C (n+l.length) (xs++U8 l)→Md (fun k=>v.ownBlock=some k) w w'→(C= .slice none 0 0↔v= .slice none 0 0∧l= [])→(∀ k,C.ownBlock=some k→v.ownBlock=some k∨w.heap.size≤k)→K (dq σ dst C) w'):
 cz P N ⟨dst,.call ⟨.builtin .append,#[x,y],#[t,u]⟩,ty,pos,af,g⟩ σ w K:=by
 obtain ⟨aa,ao,J,i,hi,V⟩:=CN h;obtain ⟨hu,j,zv,aj,_,M,O,_,_⟩:=oF aa;obtain rfl :j=i:=Option.some.inj<|aj.symm.trans hi;obtain ⟨C,w',hr,ac,L,ad⟩:=IL (P:=P) w B t u ty e j hu J hi V M O v n xs E ⟨⟨l⟩⟩ (by show n+l.length≤maxLen; unfold maxLen; omega) hb ae;refine j0 (w':=w') (v:=C) ?_ (k C w' ac ⟨L.os,L.output,L.size,fun k A ak=>L.block k A fun e=>ak e.symm⟩ ?_ ?_)
 · have an:ev N σ y= .string ⟨⟨l⟩⟩:=am;simp [execOp,resolve,invoke,builtin,U,an,hr]
 · rw [ad];show (_∧l.length=0)↔_;simp
 · intro k A;rcases E.2 with ⟨rfl,rfl⟩ | ⟨I,cap,cur,rfl,aq,ai,av,ar,au,aw⟩
   · have U:xs= []:=j5<|by simpa using E.1
     subst U;obtain ⟨v2,w2,Z,ab,_,_⟩:=IL (P:=P) w w.heap.size t u ty e j hu J hi V M O _ 0 [] (eL w w.heap.size e 1) ⟨⟨l⟩⟩ (by show 0 +l.length≤maxLen; unfold maxLen; omega) (by show 0 +l.length≤_; omega)<|bf _;rw [hr] at Z;cases Z;rcases ab.2 with ⟨h,_⟩ | ⟨g2,_,_,h,ap,_⟩
     · rw [h] at A; simp [dL] at A
     · rw [h] at A; simp only [dL,bR] at A; exact .inr ag
   · by_cases al:n+l.length≤cap
     · rw [Lib.run_append_room_string (P:=P) w t u ty e j hu J hi M I n cap cur ai ⟨⟨l⟩⟩ al (by show n+l.length≤_; omega)] at hr;cases hr;exact .inl A
     · have holds:∀ j u,xs[j]? =some u→w.cell? ((⟨I,0,none⟩:aW).add j)=some u:=E.cells (g:=I) rfl;rw [Lib.run_append_grow_string (P:=P) w t u ty e j _ hu J hi V ⟨I,0,none⟩ n cap xs (by rw [M]; exact E.1) holds ⟨⟨l⟩⟩ (by show cap < n+l.length; omega) (by show ((n+l.length:Nat):Int)≤_; omega) (growslice_fits (by show cap < n+l.length; omega)<|by rw [O]; show (n+l.length)*1≤_; omega)] at hr;cases hr;simp only [dL,bR] at A;exact .inr ag
theorem Bv {at_:Array au} {v:ah} {a:Option aW} {n c:Nat} (A:ev N σ x= .slice a n c) (h:a=none∨c≠0):
 (execOp (ev N σ) ⟨dst,.call ⟨.builtin .unsafeSliceData,#[x],at_⟩,ty,pos,af,g⟩).run P w= .ok (.value<|.pointer a) w:=by
 have _:=v;have :(Builtin.unsafeSliceData_ at_ ty #[.slice a n c]).run P w= .ok (.pointer a) w:=by
  cases a with
  | none=>exact Lib.run_unsafeSliceData_nil w at_ ty n c
  | some a=>exact Lib.run_unsafeSliceData_row w at_ ty a n c<|h.resolve_left<|by simp
 simp [execOp,resolve,invoke,builtin,A,this]
def ptrTo (P:av) (A e:au):Bool:=match P.underlying A with | some (.pointer e')=>e'==e && P.cellsOf e==1 | _=>false
theorem Q7 {I it e B n c:Nat} {a:Option aW} {l:List UInt8} {xs:List ah} (hp:ptrTo P I e=true) (L:ev N σ x= .pointer a) (M:ev N σ y= .int .i64 n) (E:w.ownsRow B e 1 (.slice a n c) n xs)
 (aj:xs=U8 l) (al:n≤9223372036854775807)
 (k:∀ w',Md (fun k=>(ff a n c).ownBlock=some k) w w'→w'.heap.size=w.heap.size→K (dq σ dst<|str l) w'):
 cz P N ⟨dst,.call ⟨.builtin .unsafeString,#[x,y],#[I,it]⟩,ty,pos,af,g⟩ σ w K:=by
 subst aj;have A:l.length=n:=by have :=E.1; simpa [U8] using this
 unfold ptrTo at hp;split at hp
 case h_2=>cases hp
 rename_i e' hu;simp only [bP,beq_iff_eq] at hp;obtain ⟨rfl,O⟩:=hp;by_cases he:l= []
 · subst he;obtain rfl :n=0:=A.symm;refine j0 (w':=w) (v:=str []) ?_<|k w (Md.refl _ _) U;simp [execOp,resolve,invoke,builtin,L,M,Lib.run_unsafeString_none];rfl
 · rcases E.2 with ⟨h,h0⟩ | ⟨C,cap,cur,h,_,Z,hle,_,ai,am⟩
   · subst h0; simp only [List.length_eq_zero_iff] at A; exact absurd A he
   · simp only [mO,true_and] at h;obtain ⟨rfl,rfl⟩:=h;have ae:w.shape? C=some (e',cur.size):=by simp [BU,Z]
     have hr:=Lib.run_unsafeString_row (P:=P) w I it ty e' hu O C cur.size ae l he (by rw [A,ai]; omega) ag (fun j u hu=>by
      obtain ⟨ad,ak,J,V,_,aa,_⟩:=uc E;simp only [mO,true_and] at J;obtain ⟨rfl,rfl⟩:=J;rw [fw,jK];exact V.aH j _ (by simp [U8,hu]))
     refine j0 (w':=w.freeze ⟨C,0,none⟩ l.length) (v:=str l) ?_ (k _ ⟨?_,?_,?_,?_⟩ ?_)
     · simp [execOp,resolve,invoke,builtin,L,M,← A,hr,str]
     · unfold nI; split <;> rfl
     · unfold nI; split <;> rfl
     · unfold nI; split <;> simp
     · intro k aa ab;have ac:k≠C:=fun e=>ab<|by simp [dL,e]
       unfold nI;split
       · rfl
       · simp only [Array.getElem?_modify]; rw [if_neg (fun e=>ac e.symm)]
     · unfold nI; split <;> simp
def pZ (P:av) (A up e n:Nat):Bool:=
 (match P.underlying A with | some (.pointer e')=>e'==e | _=>false) && (match P.underlying up with | some .unsafePointer=>true | _=>false) && P.cellsOf e==n && ba 0 n && (match P.info? e with | some i=>i.size==n | _=>false)
theorem HO {P:av} {E up e n:Nat} (h:pZ P E up e n=true):P.underlying E=some (.pointer e)∧P.underlying up=some .unsafePointer∧P.cellsOf e=n∧0 < n∧∃ i,P.info? e=some i∧i.size=n:=by
 simp only [pZ,bP] at h;obtain ⟨⟨⟨⟨A,C⟩,h3⟩,h4⟩,h5⟩:=h;refine ⟨?_,?_,by simpa using h3,oT (oU 0) (cG h4),?_⟩
 · split at A
   · rename_i h; simp only [beq_iff_eq] at A; rw [h,A]
   · cases A
 · split at C
   · rename_i h; exact h
   · cases C
 · split at h5
   · rename_i i hi; exact ⟨i,hi,by simpa using h5⟩
   · cases h5
theorem Hx {A up e n b:Nat} {L:List ah} (h:pZ P A up e n=true) (U:ev N σ x= .pointer (some ⟨b,0,none⟩)) (hb:w.heap[b]? =some (.cells L.toArray e (0,0))) (I:L.length=n):
 (execOp (ev N σ) ⟨dst,.convert A up x,ty,pos,af,g⟩).run P w= .ok (.value<|.pointer<|some ⟨b,0,none⟩) w:=by
 obtain ⟨C,E,V,Z,i,hi,M⟩:=HO h;have O:w.shape? b=some (e,L.length):=by simp [BU,hb]
 have J:¬n=0:=ag;simp [execOp,U,convert,bS C,bS E,IA,Iz,viewAt,O,cellsIn,I,sizeOf,eh hi,M,J]
theorem Ep {E up e n b:Nat} {L:List ah} (h:pZ P E up e n=true) (ab:ev N σ x= .pointer (some ⟨b,0,none⟩)) (hb:w.heap[b]? =some (.cells L.toArray e (0,0))) (U:L.length=n):
 (execOp (ev N σ) ⟨dst,.convert up E x,ty,pos,af,g⟩).run P w= .ok (.value<|.pointer<|some ⟨b,0,none⟩) w:=by
 obtain ⟨I,J,M,O,i,hi,Z⟩:=HO h;have aa:w.shape? b=some (e,L.length):=by simp [BU,hb]
 have C:¬n=0:=ag;have V:liesAt P P.depth e (L.length / P.cellsOf e) 0 e 1=true :=by
  have A:P.depth=(2 *(P.types.size+Made.depth)+1)+1:=rfl;rw [A];simp only [liesAt,lO];left;rw [A];simp [rowAt,M,C,U,sameLayout,Nat.div_self O]
 simp [execOp,ab,convert,bS I,bS J,IA,Iz,viewAt,aa,variablesAt,sizeOf,eh hi,Z,C,V]
theorem N6 {t J e:au} {a:aW} (hu:P.underlying t=some (.pointer e)) (C:(P.info? e).isSome=true) (E:ev N σ x= .pointer (some a)) (I:ev N σ y= .pointer (some a)):
 (execOp (ev N σ) ⟨dst,.binOp .neq t x y J,ty,pos,af,g⟩).run P w= .ok (.value<|.bool false) w:=by
 obtain ⟨i,hi⟩:=oV.1 C;have he:∀ d,(j2 (d+1) t (.pointer<|some a)<|.pointer<|some a).run P w= .ok true w:=by
  intro d;simp [j2,bS hu,sizeOf,eh hi,sameAddr]
 have h:(binOp .neq t (.pointer<|some a)<|.pointer<|some a).run P w= .ok (.bool false) w:=by
  have :=he 9999;simp only [binOp];have A:(oO t (.pointer<|some a)<|.pointer<|some a).run P w= .ok true w:=this;simp [A]
 simp [execOp,E,I,eqGuard,h]
theorem K0 {f:e9} {args:Array bu} {A:Array au} {v:ah} (E:∀ v w,(callFunc f #[v]).run P w= .ok (.value v) w) (C:args.toList.map (ev N σ)= [v]):
 (execOp (ev N σ) ⟨dst,.call ⟨.value (.func f),args,A⟩,ty,pos,af,g⟩).run P w= .ok (.value v) w:=by
 have :args.map (ev N σ)= #[v]:=by rw [← sF,jx,C]
 simp [execOp,resolve,ev,mK,invoke,this,E]
structure Bd (T e:au) (w:ai) (b:Nat) (buf:ah) (l:List UInt8):Prop where
 ax:∃ pa,w.heap[b]? =some (.cells [cZ pa,buf].toArray T (0,0))∧(pa=none∨pa=some ⟨b,0,none⟩)
 own:w.ownsRow (b+1) e 1 buf l.length (U8 l)
 nil:buf= .slice none 0 0↔l= []
def BF (b:Nat) (A:ah) (k:Nat):Prop :=k=b∨A.ownBlock=some k
end
theorem Bd.lt {T e b:Nat} {w:ai} {A:ah} {l:List UInt8} (h:Bd T e w b A l):b < w.heap.size:=let ⟨_,h,_⟩:=h.ax; (cx.1 h).1
theorem Bd.wi {T e b:Nat} {w:ai} {C:ah} {l:List UInt8} (h:Bd T e w b C l) {k:Nat} (A:BF b C k):b≤k∧k < w.heap.size:=by
 rcases A with rfl | A
 · exact ⟨bf _,h.lt⟩
 · have :=h.own.lt k A; omega
theorem Bd.md {T e b:Nat} {F:Nat→Prop} {w w':ai} {A:ah} {l:List UInt8} (h:Bd T e w b A l) (hm:Md F w w') (C:∀ k,BF b A k→¬F k):Bd T e w' b A l:=by
 obtain ⟨⟨L,E,I⟩,h3,h4⟩:=h;exact ⟨⟨L,hm.ax E (C b<|.inl U),I⟩,cC h3 hm (fun k J=>C k<|.inr J),h4⟩
end Go.Hb
namespace Go.Hb
def eG (P:av) (t:au):Option (List (Nat×Nat)×List ah):=
 match P.info? t,P.underlying t with
 | some it,some (.struct fields)=>
   match it.zero,fields.toList.mapM (fun f=>(P.info? f.type).map fun i=>(f.offset,i.size)) with
   | some z,some pl=>some (pl,z.cells.toList)
   | _,_=>none
 | _,_=>none
def ue (pl:List (Nat×Nat)):List ah→List (Nat×ah)→Option (List ah)
 | A,[]=>some A
 | A,(i,v)::r=>match pl[i]? with
   | some (off,s)=>if (s==1 && v.oneCell' && ba off A.length)=true then ue pl (A.set off v) r else none
   | none=>none
theorem OM {pl:List (Nat×Nat)} {A L:List ah} {ps:List (Nat×ah)} (h:ue pl A ps=some L):kz (pl.toArray[·]?) A.toArray ps=some L.toArray:=by
 induction ps generalizing A with
 | nil=>simp only [ue,bR] at h; subst h; rfl
 | cons p ps ih=>
   obtain ⟨i,v⟩:=p;simp only [ue] at h;split at h
   · rename_i off s J;split at h
     · rename_i C;simp only [bP,beq_iff_eq] at C;obtain ⟨⟨rfl,E⟩,ho⟩:=C;have O:off < A.length:=cG ho;have M:v.cells= #[v]:=mw E;have I:pl.toArray[i]? =some (off,1):=by simpa using J
       simp only [kz,I,M];rw [if_neg (by simp; omega),← ih h];simp
     · cases h
   · cases h
theorem Ef {α:Type} {f:α→List ah} {m:Nat} (A:∀ a,(f a).length=m) (l:List α):(l.flatMap f).length=l.length*m:=by
 induction l with
 | nil=>simp
 | cons x l ih=>simp [ih,A,sT,Nat.add_comm]
theorem Mu {α:Type} {f:α→List ah} {m:Nat} (A:∀ a,(f a).length=m) {l:List α} {j c:Nat} {a:α} (h:l[j]? =some a) (C:c < m):(l.flatMap f)[j*m+c]? =(f a)[c]? :=by
 induction l generalizing j with
 | nil=>simp at h
 | cons x l ih=>
   cases j with
   | zero=>
     simp only [jB,bR] at h; subst h;rw [sV,du,I9,eR (by rw [A]; exact C)]
   | succ j=>
     simp only [jA] at h;rw [I9,eC (by rw [A,sT]; omega),A,show (j+1)*m+c - m=j*m+c from by rw [sT]; omega];exact ih h
theorem nf {α:Type} {f:α→List ah} {m:Nat} (C:∀ a,(f a).length=m) {h:Array Obj} {a:Option aW} {l:List α} {i:Nat} {e:α} (J:aT h a (l.flatMap f)) (L:l[i]? =some e):∀ j,j < m→Hb.aH h (bk a) (fo a+i*m+j)=(f e)[j]? :=by
 intro j E;have A:=Mu C L E;have I:j < (f e).length:=by rw [C]; exact E
 rw [cr I] at A ⊢;rw [iG]; exact J.aH _ _ A
theorem pq {α:Type} {f:α→List ah} {m:Nat} (A:∀ a,(f a).length=m) (hm:0 < m) {l:List α} (h:0 < l.length):l.flatMap f≠[]:=by
 intro e;have :=Ef A l;rw [e] at this;have :0 < l.length*m:=Nat.mul_pos h hm;simp at*; omega
section
variable {P:av} {N:Fm} {σ:Nat→ah} {w:ai} {dst:Option Nat} {ty:au} {pos :String} {af:Array cI} {g:Option (Nat×Bool)} {x y z:bu} {K:(Nat→ah)→ai→Prop}
theorem dZ {t:au} {parts:Array (Nat×bu)} {pl:List (Nat×Nat)} {A L:List ah} {ps:List (Nat×ah)} (h:eG P t=some (pl,A)) (hp:parts.toList.map (fun p=>(p.1,ev N σ p.2))=ps) (C:ue pl A ps=some L):
 (execOp (ev N σ) ⟨dst,.build t parts,ty,pos,af,g⟩).run P w= .ok (.value<|.agg L.toArray) w:=by
 unfold eG at h;split at h
 · rename_i it fields hi hu;split at h
   · rename_i z I E hm;simp only [bR,kF] at h;obtain ⟨rfl,rfl⟩:=h;have hb:P.built t (parts.map fun p=>(p.1,ev N σ p.2)).toList=some L.toArray:=by
      have :=OM C;simp only [BL] at this;simp only [IN,hi,hu,E,hm,jx,hp]; exact this
     simp [execOp,run_build w t _ _ hb]
   · cases h
 · cases h
theorem CG {t:au} {parts:Array (Nat×bu)} {pl:List (Nat×Nat)} {A L:List ah} {ps:List (Nat×ah)} (h:eG P t=some (pl,A)) (hp:parts.toList.map (fun p=>(p.1,ev N σ p.2))=ps) (C:kz (pl.toArray[·]?) A.toArray ps=some L.toArray):
 (execOp (ev N σ) ⟨dst,.build t parts,ty,pos,af,g⟩).run P w= .ok (.value<|.agg L.toArray) w:=by
 unfold eG at h;split at h
 · rename_i it fields hi hu;split at h
   · rename_i z I E hm;simp only [bR,kF] at h;obtain ⟨rfl,rfl⟩:=h;have hb:P.built t (parts.map fun p=>(p.1,ev N σ p.2)).toList=some L.toArray:=by
      have :=C;simp only [BL] at this;simp only [IN,hi,hu,E,hm,jx,hp]; exact this
     simp [execOp,run_build w t _ _ hb]
   · cases h
 · cases h
end
end Go.Hb
namespace Go.Hb
section
variable {P:av} {N:Fm} {σ:Nat→ah} {w:ai} {dst:Option Nat} {ty:au} {pos :String} {af:Array cI} {g:Option (Nat×Bool)} {x y z:bu} {K:(Nat→ah)→ai→Prop}
theorem NR {zv:ah} (A:zv.oneCell'=true) (n:Nat):madeCells zv.cells n=(eM n zv).toArray:=by
 rw [mw A];apply Array.ext
 · simp [madeCells]
 · intro i C E;simp [madeCells,Nat.mod_one]
theorem jo {t e bytes n:Nat} {L J:bX} {zv:ah} (ad:eJ P t e 1 bytes=true) (A:zeroOf P e=some (some [zv])) (C:zv.oneCell'=true) (ae:ev N σ x= .int L n) (ai:ev N σ y= .int J n) (hb:bytes*n≤281474976710656) (E:n≤maxLen)
 (k:∀ b w',b=w.heap.size→Nw w w'→(∀ B,B≤b→w'.ownsRow B e 1 (.slice (some ⟨b,0,none⟩) n n) n (eM n zv))→K (dq σ dst<|.slice (some ⟨b,0,none⟩) n n) w'):cz P N ⟨dst,.makeSlice t x y,ty,pos,af,g⟩ σ w K:=by
 obtain ⟨hu,i,M,hi,I,ac,ab,al,ak⟩:=oF ad;have aj:M.cells= #[zv]:=by
  unfold zeroOf at A;simp only [hi,I,fg,bR] at A;exact sF.1<|by simpa using A
 refine lN (v:=fun b=> .slice (some ⟨b,0,none⟩) n n) (ob:= .cells (eM n zv).toArray e (0,0)) ?_ fun b w' O V Z=>k b w' O V fun B aa=>⟨by simp,.inr ⟨b,n,_,U,aa,Z,bf _,E,by simp,by simp⟩⟩
 have hr:=run_make (P:=P) w t e i M hu hi I L J n n ag (Int.le_refl _) (by rw [ab,← Int.natCast_mul]; omega)<|by unfold maxLen at E; omega
 rw [aj,ac,nN,Int.toNat_natCast,show madeCells #[zv] n=(eM n zv).toArray by rw [← NR C,mw C]] at hr;simp [execOp,ae,ai,hr]
end
end Go.Hb
namespace Go.Hb
section
variable {P:av} {N:Fm} {σ:Nat→ah} {w:ai} {dst:Option Nat} {ty:au} {pos :String} {af:Array cI} {g:Option (Nat×Bool)} {x y z:bu}
theorem CX {t n len cap i:Nat} {a:Option aW} {k I:bX} (he:dB P t=some n) (A:ev N σ x= .slice a len cap) (C:ev N σ y= .int k (i:Nat)) (E:ev N σ z= .int I (i:Nat)) (h:i≤cap):
 (execOp (ev N σ) ⟨dst,.slice t x none (some y) (some z),ty,pos,af,g⟩).run P w= .ok (.value<|.slice a i i) w:=by
 have h0:(0:Int)≤(i:Int):=ag;unfold dB at he;cases hd:P.underlying t with
 | none=>rw [hd] at he; cases he
 | some d=>
   rw [hd] at he;cases d <;> first | (cases he; done) | skip
   rename_i e;cases hi':P.info? e with
   | none=>simp [hi'] at he
   | some j=>
     have ha:(if i=0 then a else a.map (·.add 0))=a:=by
      split
      · rfl
      · cases a <;> simp [yh]
     simp only [execOp,qk,uL,A,C,E,fg,Option.map_none,mM,qo,asIntOf];simp [bS hd,eh hi',sizeOf,h0,ha];intro J; omega
end
end Go.Hb
namespace Go.Hb
def lW (h:Array Obj) (b:Nat) (kvs:List (ah×ah)):Prop := ∃ es clock,h[b]? =some (.map es clock)∧es.toList.map (fun e=>(e.key,e.val))=kvs
theorem lW.md {F:Nat→Prop} {w w':ai} {b:Nat} {kvs:List (ah×ah)} (h:lW w.heap b kvs) (hm:Md F w w') (A:¬F b):lW w'.heap b kvs:=
 let ⟨es,c,h1,h2⟩:=h; ⟨es,c,hm.ax h1 A,h2⟩
theorem lW.lt {h:Array Obj} {b:Nat} {kvs:List (ah×ah)} (hm:lW h b kvs):b < h.size:=by grind [lW]
structure qG (P:av) (k:au) (bj:ah→Prop):Prop where
 check:∀ em w v,bj v→(mL em 10000 k v).run P w= .ok () w
 find:∀ w x es,bj x→(∀ e∈es,bj e.key)→
  ((qh k x es).run P w= .ok none w∧∀ e∈es,e.key≠x)∨∃ j e,(qh k x es).run P w= .ok (some (j,e.val)) w∧es[j]? =some e∧e.key=x
theorem KE {P:av} {k:au} {em:Bool} {n:Nat} {a:Bool} (A:P.underlying k=some .bool) (w:ai):(mL em (n+1) k<|.bool a).run P w= .ok () w:=by
 simp only [mL,iE,bS A,ij,kA]
theorem CU {P:av} {k:au} {em:Bool} {n:Nat} {a:List UInt8} (A:P.underlying k=some .string) (w:ai):(mL em (n+1) k<|str a).run P w= .ok () w:=by
 simp only [str,mL,iE,bS A,ij,kA]
def zY (v:ah):Prop := ∃ (f:Bool) (s:List UInt8),v= .agg #[.bool f,str s]
def pb (P:av) (k:au):Bool:=
 match P.underlying k with
 | some (.struct A)=>match A.toList with
   | [f1,f2]=>f1.name != "_" && f2.name != "_" && f1.offset==0 && f2.offset==1 && !P.stoodInHeld k &&
     (match P.underlying f1.type with | some .bool=>true | _=>false) && (match P.underlying f2.type with | some .string=>true | _=>false)
   | _=>false
 | _=>false
theorem xi {P:av} {t:au} {cs:Array ah} {o:Nat} {v:ah} {d:TypeDesc} (C:P.underlying t=some d) (A:(match d with | .bool | .string=>true | _=>false)=true) (E:cs[o]? =some v) (w:ai):(part t cs o).run P w= .ok v w:=by
 cases d <;> first | (cases A; done) | simp [part,isAgg,bS C,E]
theorem yZ {P:av} {k:au} (h:pb P k=true):∃ A f1 f2,P.underlying k=some (.struct A)∧A.toList= [f1,f2]∧f1.name≠ "_" ∧f2.name≠ "_" ∧f1.offset=0∧f2.offset=1∧P.stoodInHeld k=false∧P.underlying f1.type=some .bool∧P.underlying f2.type=some .string:=by grind [pb]
theorem L6 {P:av} {k:au} (h:pb P k=true) {f g:Bool} {s t:List UInt8} (w:ai):(oO k (.agg #[.bool f,str s])<|.agg #[.bool g,str t]).run P w= .ok (decide (f=g∧s=t)) w:=by
 obtain ⟨M,f1,f2,hu,ab,O,U,V,Z,aa,A,C⟩:=yZ h;have E:P.fieldsOf k=M:=by simp [Program.fieldsOf,hu]
 have J:∀ (x:Bool) (y:List UInt8) (w:ai),(part f1.type #[.bool x,str y] f1.offset).run P w= .ok (.bool x) w:=fun x y w=>xi A rfl (by rw [V]; rfl) w;have L:∀ (x:Bool) (y:List UInt8) (w:ai),(part f2.type #[.bool x,str y] f2.offset).run P w= .ok (str y) w:=fun x y w=>xi C rfl (by rw [Z]; rfl) w;unfold oO;show (j2 (9998 +1 +1) k _ _).run P w=_;rw [run_equalIn_struct w (9998 +1) k _ _ (by rw [E]; exact hu) aa,E,ab];simp only [Op.eqFields,iE,uQ,J,L,ij,run_equalIn_bool' w 9998 f1.type f g A,O,U,ne_eq,not_false_eq_true,if_true];by_cases I:f=g
 · subst I;have :(j2 (9998 +1) f2.type (str s)<|str t).run P w= .ok (decide (s=t)) w:=by
    rw [str,str,run_equalIn_string w 9998 f2.type _ _ C,Iu,Iu];congr 1;by_cases bK:s=t
    · subst bK; simp
    · simp [bK]
   simp only [beq_self_eq_true,Bool.not_true,uH,if_false,this,ij,true_and];by_cases bK:s=t <;> simp [bK]
 · simp [I]
theorem KF {P:av} {k:au} {em:Bool} {n:Nat} (h:pb P k=true) {f:Bool} {s:List UInt8} (w:ai):(mL em (n+1 +1) k<|.agg #[.bool f,str s]).run P w= .ok () w:=by
 obtain ⟨V,f1,f2,hu,U,J,L,M,O,Z,A,C⟩:=yZ h;have E:∀ (w:ai),(part f1.type #[.bool f,str s] f1.offset).run P w= .ok (.bool f) w:=fun w=>xi A rfl (by rw [M]; rfl) w;have I:∀ (w:ai),(part f2.type #[.bool f,str s] f2.offset).run P w= .ok (str s) w:=fun w=>xi C rfl (by rw [O]; rfl) w;rw [mL];simp only [iE,bS hu,ij];rw [← Array.forIn_toList,U];simp only [List.forIn_cons,List.forIn_nil,iE,E,I,J,L,ne_eq,not_false_eq_true,if_true,ij,KE A,CU C,kA]
theorem Ec {P:av} {k:au} (h:pb P k=true) {f:Bool} {s:List UInt8} (w:ai):∀ (es:List MapEntry) (i:Nat),(∀ e∈es,zY e.key)→
 ((qg k (.agg #[.bool f,str s]) es i).run P w= .ok none w∧∀ e∈es,e.key≠.agg #[.bool f,str s])∨∃ j e,(qg k (.agg #[.bool f,str s]) es i).run P w= .ok (some (i+j,e.val)) w∧es[j]? =some e∧e.key= .agg #[.bool f,str s]
 | [],i,_=> .inl ⟨by simp [qg],fun _ h=>by simp at h⟩
 | e::es,i,hk=>by
   obtain ⟨g,t,ha⟩:=hk e<|by simp
   have he:=L6 h (f:=f) (g:=g) (s:=s) (t:=t) w;rw [← ha] at he;by_cases A:f=g∧s=t
   · obtain ⟨rfl,rfl⟩:=A;refine .inr ⟨0,e,?_,U,ha⟩;simp [qg,he]
   · have M:e.key≠.agg #[.bool f,str s]:=by
      rw [ha]; intro I; simp [str] at I; exact A ⟨I.1.symm,I.2.symm⟩
     rcases Ec (f:=f) (s:=s) h w es (i+1) (fun e he=>hk e<|by simp [he]) with ⟨C,E⟩ | ⟨j,e',C,E,L⟩
     · refine .inl ⟨by simp [qg,he,A,C],fun e' J=> ?_⟩;rcases ej.1 J with rfl | J
       · exact M
       · exact E e' J
     · refine .inr ⟨j+1,e',?_,E,L⟩;simp only [qg,iE,he,A,ij,decide_false,uQ,uH,if_false,C]; rw [show i+1 +j=i+(j+1) from by omega]
theorem Nf {P:av} {k:au} (h:pb P k=true):qG P k zY where
 check em w v hv:=by obtain ⟨f,s,rfl⟩:=hv; exact KF (n:=9998) h w
 find w x es hx hes:=by
  obtain ⟨f,s,rfl⟩:=hx;obtain ⟨L,f1,f2,hu,_⟩:=yZ h;have J:es≠[]→(qh k (.agg #[.bool f,str s]) es).run P w=(qg k (.agg #[.bool f,str s]) es).run P w:=by
   intro A;cases es with
   | nil=>exact absurd rfl A
   | cons e es=>simp [qh,bS hu,qi,Instr.sameNow]
  by_cases A:es= []
  · subst A; exact .inl ⟨by simp [qh,bS hu,qi],fun _ h=>by simp at h⟩
  · rw [J A];rcases Ec h w es 0 hes with C | ⟨j,e,C,E,I⟩
    · exact .inl C
    · exact .inr ⟨j,e,by rw [C,du],E,I⟩
def zeroV (P:av) (e:au):Option ah:=(P.info? e).bind (·.zero)
theorem BH {P:av} {e:au} {z:ah} (h:zeroV P e=some z) (w:ai):(zeroValue e).run P w= .ok z w:=by
 unfold zeroV at h;simp only [qC] at h;obtain ⟨i,hi,A⟩:=h;simp [zeroValue,eh hi,A]
section
variable {P:av} {N:Fm} {σ:Nat→ah} {w:ai} {dst:Option Nat} {ty:au} {pos :String} {af:Array cI} {g:Option (Nat×Bool)} {x y z:bu} {K:(Nat→ah)→ai→Prop}
variable {t k e:au} {bj:ah→Prop} {b:Nat} {kvs:List (ah×ah)} {kx v:ah}
theorem vX {es:Array MapEntry} (h:es.toList.map (fun e=>(e.key,e.val))=kvs) (A:∀ p∈kvs,bj p.1):∀ e∈es.toList,bj e.key:=by grind [e,he,qA]
theorem run_getObj_map {es:Array MapEntry} {c:Nat} (hr:w.heap[b]? =some (.map es c)):(getObj b).run P w= .ok (.map es c) w:=by
 simp [getObj,Sem.run,hr]
theorem Od {kvs:List (ah×ah)} (hn:(kvs.map dj).Nodup) {kx v E:ah} (C:(kx,v)∈kvs) (A:(kx,E)∈kvs):v=E:=by
 induction kvs with
 | nil=>simp at C
 | cons p kvs ih=>
   simp only [eS,List.nodup_cons] at hn;rcases ej.1 C with C | C
   · rcases ej.1 A with A | A
     · rw [← C] at A; cases A; rfl
     · rw [← C] at hn; exact absurd (qA (f:=dj) A) hn.1
   · rcases ej.1 A with A | A
     · rw [← A] at hn; exact absurd (qA (f:=dj) C) hn.1
     · exact ih hn.2 C A
theorem E3 {ok:Bool} (Z:P.underlying t=some (.map k e)) (E:qG P k bj) (hm:lW w.heap b kvs) (V:∀ p∈kvs,bj p.1) (ab:ev N σ x= .map (some b)) (ac:ev N σ y=kx) (hi:bj kx) (hn:(kvs.map dj).Nodup) (C:(kx,v)∈kvs):
 (execOp (ev N σ) ⟨dst,.lookup t x y ok,ty,pos,af,g⟩).run P w= .ok (.value (if ok then .tuple #[v,.bool true] else v)) w:=by
 obtain ⟨es,c,hr,he⟩:=hm;rcases E.find w kx es.toList hi (vX he V) with ⟨_,A⟩ | ⟨j,e',J,A,L⟩
 · rw [← he] at C;obtain ⟨I,O,M⟩:=List.mem_map.1 C;cases M;exact absurd U<|A I O
 · have aa:(kx,e'.val)∈kvs:=by rw [← he,← L]; exact qA (f:=fun e:MapEntry=>(e.key,e.val))<|lj A
   have :=Od hn C aa;subst this;cases ok <;> simp [execOp,IH,bS Z,ab,ac,run_getObj_map hr,E.check _ w kx hi,J]
theorem E4 {ok:Bool} {zv:ah} (L:P.underlying t=some (.map k e)) (U:zeroV P e=some zv) (A:qG P k bj) (hm:lW w.heap b kvs) (J:∀ p∈kvs,bj p.1) (M:ev N σ x= .map (some b)) (O:ev N σ y=kx) (hi:bj kx) (hn:∀ v,(kx,v)∉kvs):
 (execOp (ev N σ) ⟨dst,.lookup t x y ok,ty,pos,af,g⟩).run P w= .ok (.value (if ok then .tuple #[zv,.bool false] else zv)) w:=by
 obtain ⟨es,c,hr,he⟩:=hm;rcases A.find w kx es.toList hi (vX he J) with ⟨C,_⟩ | ⟨j,e',C,E,I⟩
 · cases ok <;> simp [execOp,IH,bS L,M,O,run_getObj_map hr,A.check _ w kx hi,C,BH U]
 · exact absurd (by rw [← he,← I]; exact qA (f:=fun e:MapEntry=>(e.key,e.val))<|lj E)<|hn e'.val
end
end Go.Hb
namespace Go.Hb
end Go.Hb
namespace Go.Hb
inductive TD | no | int (k:bX) | str | bool | ptr | dX (e n:Nat) | st (offs:List Nat)
def nk {α:Type} :List α→Nat→α→α
 | [],_,d=>d
 | a::_,0,_=>a
 | _::l,n+1,d=>nk l n d
def si (T:List (List TD)) (t:Nat):TD:=nk (nk T (t / 16) []) (t % 16) .no
def eX:bX→Nat
 | .i8=>0 | .i16=>1 | .i32=>2 | .i64=>3 | .u8=>4 | .u16=>5 | .u32=>6 | .u64=>7
theorem pD {a b:bX} (h:bC (eX a) (eX b)=true):a=b:=by
 cases a <;> cases b <;> first | rfl | (cases h)
def xa (P:av) (t:Nat):Nat→List Nat→Bool
 | _,[]=>true
 | f,n::l=>(match qZ P t f with | some m=>bC m n | none=>false) && xa P t (f+1) l
def Bl (P:av) (t:Nat):TD→Bool
 | .no=>true
 | .int k=>match P.underlying t with | some (.int A)=>bC (eX k) (eX A) | _=>false
 | .str=>match P.underlying t with | some .string=>true | _=>false
 | .bool=>match P.underlying t with | some .bool=>true | _=>false
 | .ptr=>match P.underlying t with | some (.pointer _)=>true | _=>false
 | .dX e n=>match P.underlying t,dB P t with | some (.slice e'),some n'=>bC e e' && bC n n' | _,_=>false
 | .st C=>xa P t 0 C
def xp (P:av):Nat→List TD→Bool
 | _,[]=>true
 | t,d::l=>Bl P t d && xp P (t+1) l
def kZ (P:av):Nat→List (List TD)→Bool
 | _,[]=>true
 | t,r::l=>xp P t r && kZ P (t+16) l
theorem Gm {P:av} :∀ {l:List TD} {b j:Nat},xp P b l=true→Bl P (b+j) (nk l j .no)=true
 | [],b,j,_=>rfl
 | d::l,b,0,h=>(sG.1 h).1
 | d::l,b,j+1,h=>by
   have :=Gm (j:=j) (sG.1 h).2;rw [show b+(j+1)=b+1 +j from by omega]; exact this
theorem Hs {P:av} :∀ {T:List (List TD)} {b i:Nat},kZ P b T=true→xp P (b+16 *i) (nk T i [])=true
 | [],b,i,_=>rfl
 | r::T,b,0,h=>(sG.1 h).1
 | r::T,b,i+1,h=>by
   have :=Hs (i:=i) (sG.1 h).2;rw [show b+16 *(i+1)=b+16 +16 *i from by omega]; exact this
theorem Bk {P:av} {T:List (List TD)} (h:kZ P 0 T=true) (t:Nat):Bl P t (si T t)=true :=by
 have :=Gm (j:=t % 16)<|Hs (i:=t / 16) h;rw [show 0 +16 *(t / 16)+t % 16=t from by omega] at this;exact this
theorem FH {P:av} {t:Nat} :∀ {l:List Nat} {b f n:Nat},xa P t b l=true→l[f]? =some n→qZ P t (b+f)=some n
 | [],b,f,n,_,h=>by simp at h
 | m::l,b,0,n,h,hn=>by
   have A:=(sG.1 h).1;obtain rfl :m=n:=by simpa using hn
   split at A
   · rename_i C hm; rw [Nat.add_zero,hm,cP A]
   · cases A
 | m::l,b,f+1,n,h,hn=>by
   have :=FH (f:=f) (sG.1 h).2<|by simpa using hn
   rw [show b+(f+1)=b+1 +f from by omega]; exact this
section
variable {P:av} {T:List (List TD)} (hT:kZ P 0 T=true) {t:Nat}
include hT
theorem Ly (h:si T t= .str):P.underlying t=some .string:=by
 have :=Bk hT t;rw [h] at this;change (match P.underlying t with | some .string=>true | _=>false)=true at this;split at this
 · assumption
 · cases this
theorem Lw {e n:Nat} (h:si T t= .dX e n):P.underlying t=some (.slice e)∧dB P t=some n:=by
 have :=Bk hT t;rw [h] at this;change (match P.underlying t,dB P t with | some (.slice e'),some n'=>bC e e' && bC n n' | _,_=>false)=true at this;split at this
 · rename_i A C;simp only [bP] at this;rw [A,C,cP this.1,cP this.2]; exact ⟨rfl,rfl⟩
 · cases this
theorem Lx {l:List Nat} {f n:Nat} (h:si T t= .st l) (hn:l[f]? =some n):qZ P t f=some n:=by
 have :=Bk hT t;rw [h] at this;have :=FH (show xa P t 0 l=true from this) hn;rwa [du] at this
end
def O4 (k:bX) (n:Int):Prop :=match k with
 | .i64=> -9223372036854775808≤n∧n≤9223372036854775807
 | .u8=>0≤n∧n≤255
 | .i32=> -2147483648≤n∧n≤2147483647
 | .u32=>0≤n∧n≤4294967295
 | .u64=>0≤n∧n≤18446744073709551615
 | _=>False
theorem Gl {k:bX} {n:Int} (h:O4 k n):k.wrap n=n:=by
 cases k <;> first | exact ku h | exact BD h | exact BA h | exact H9 h | exact jw h | exact h.elim
inductive qM | no | v (x:ah) | vc (x:ah) (c:Prop)
def xl (k:bX) (n:Int):qM:=match k with
 | .i64=> .vc (.int .i64 n)<|-9223372036854775808≤n∧n≤9223372036854775807
 | .u8=> .vc (.int .u8 n)<|0≤n∧n≤255
 | .i32=> .vc (.int .i32 n)<|-2147483648≤n∧n≤2147483647
 | .u32=> .vc (.int .u32 n)<|0≤n∧n≤4294967295
 | .u64=> .vc (.int .u64 n)<|0≤n∧n≤18446744073709551615
 | _=> .no
def zU (op:BinOp) (k:bX) (a b:Int):qM:=match op with
 | .lss=> .v<|.bool<|decide (a < b)
 | .leq=> .v<|.bool<|decide (a≤b)
 | .gtr=> .v<|.bool<|decide (b < a)
 | .geq=> .v<|.bool<|decide (b≤a)
 | .eql=> .v<|.bool<|decide (a=b)
 | .neq=> .v<|.bool<|decide (a≠b)
 | .add=>xl k<|a+b
 | .sub=>xl k<|a - b
 | _=> .no
def He (op:BinOp) (l m:List UInt8):qM:=match op with
 | .eql=> .v<|.bool<|decide (l=m)
 | .neq=> .v<|.bool<|decide (l≠m)
 | .add=> .vc (str<|l++m)<|l.length+m.length≤9223372036854775807
 | _=> .no
def mh (v:ah):qM:=match v with
 | .int k n=> .v<|.int k n
 | .bool b=> .v<|.bool b
 | .string ⟨⟨l⟩⟩=> .v<|str l
 | .pointer a=> .v<|.pointer a
 | .slice a n c=> .v<|.slice a n c
 | .map r=> .v<|.map r
 | .func f a b=> .v<|.func f a b
 | .nilFunc=> .v .nilFunc
 | .iface t v=> .v<|.iface t v
 | .nilIface=> .v .nilIface
 | .agg c=> .v<|.agg c
 | .tuple c=> .v<|.tuple c
 | _=> .no
theorem Mx {v x:ah} (h:mh v= .v x):v=x:=by
 unfold mh at h;split at h <;> cases h <;> rfl
theorem My {v x:ah} {c:Prop} (h:mh v= .vc x c):False:=by
 unfold mh at h;split at h <;> cases h
def rD (T:List (List TD)) (N:Fm) (σ:Nat→ah) (o:Op):qM:=match o with
 | .move x=>mh<|ev N σ x
 | .assign x=>mh<|ev N σ x
 | .pick c x y=>match ev N σ c with
   | .bool true =>mh<|ev N σ x
   | .bool false =>mh<|ev N σ y
   | _=> .no
 | .nilCheck x=>match ev N σ x with
   | .pointer (some a)=> .v<|.pointer<|some a
   | _=> .no
 | .extract x i=>match ev N σ x with
   | .tuple ⟨vs⟩=>match vs[i]? with
     | some v=> .v v
     | none=> .no
   | _=> .no
 | .fieldAddr s x f=>match ev N σ x,si T s with
   | .pointer (some ⟨b,off,none⟩),.st l=>match l[f]? with
     | some n=> .v<|.pointer<|some ⟨b,off+n,none⟩
     | none=> .no
   | _,_=> .no
 | .binOp op t x y _=>match ev N σ x,ev N σ y with
   | .int k a,.int k' b=>cond (bC (eX k)<|eX k') (zU op k a b) .no
   | .string ⟨⟨l⟩⟩,.string ⟨⟨m⟩⟩=>He op l m
   | _,_=> .no
 | .unOp .not _ x=>match ev N σ x with
   | .bool b=> .v<|.bool<|!b
   | _=> .no
 | .call ⟨.builtin .len,⟨[x]⟩,⟨[t]⟩⟩=>match ev N σ x,si T t with
   | .string ⟨⟨l⟩⟩,.str=> .v<|.int .i64 l.length
   | .slice a n c,.dX _ _=> .v<|.int .i64 n
   | _,_=> .no
 | _=> .no
def AH (P:av) (N:Fm) (σ:Nat→ah) (o:aO) (w:ai):qM→Prop
 | .no=>True
 | .v x=>(execOp (ev N σ) o).run P w= .ok (.value x) w
 | .vc x c=>c→(execOp (ev N σ) o).run P w= .ok (.value x) w
theorem wj {P:av} {N:Fm} {σ:Nat→ah} {o:aO} {w:ai} {v:ah} (h:(execOp (ev N σ) o).run P w= .ok (.value v) w):AH P N σ o w (mh v):=by
 cases hf:mh v with
 | no=>trivial
 | v x=>rw [← Mx hf]; exact h
 | vc x c=>exact (My hf).elim
theorem xe {P:av} {T:List (List TD)} (hT:kZ P 0 T=true) {N:Fm} {σ:Nat→ah} (d:Option Nat) (o:Op) (ty:au) (pos :String) (af:Array cI) (g:Option (Nat×Bool)) (w:ai):AH P N σ ⟨d,o,ty,pos,af,g⟩ w (rD T N σ o):=by
 unfold rD;split
 · exact wj mv
 · exact wj aU
 · split
   · exact wj<|rL<|by assumption
   · exact wj<|rK<|by assumption
   · trivial
 · split
   · exact nc<|by assumption
   · trivial
 · split
   · split
     · exact xt (by assumption)<|by simpa using by assumption
     · trivial
   · trivial
 · split
   · split
     · exact fa (Lx hT (by assumption)<|by assumption)<|by assumption
     · trivial
   · trivial
 · split
   · rename_i k a E b A C;cases hk:bC (eX k) (eX E)
     · trivial
     · obtain rfl :=pD hk;show AH _ _ _ _ _ (zU _ _ _ _);unfold zU;split
       · exact lt A C
       · exact le A C
       · exact gt A C
       · exact ge A C
       · exact DV A C
       · exact Fv A C
       · unfold xl; split <;> first | trivial | exact fun h=>ad A C<|Gl h
       · unfold xl; split <;> first | trivial | exact fun h=>sb A C<|Gl h
       · trivial
   · rename_i l m A C;unfold He;split
     · exact DX A C
     · exact Fw A C
     · exact fun h=>cc A C h
     · trivial
   · trivial
 · split
   · exact no<|by assumption
   · trivial
 · split
   · exact E7 (Ly hT<|by assumption) U<|by assumption
   · exact Ae (Lw hT<|by assumption).1 U<|by assumption
   · trivial
 · trivial
inductive Pt | c (c:cm) | l (ops:Array aO) (l:List aO) | x (e:bM)
inductive Kn | sq (y:cm) | bk (id:Nat)
def fR (P:av) (N:Fm):List Kn→(bM→(Nat→ah)→ai→Prop)→bM→(Nat→ah)→ai→Prop
 | [],Q=>Q
 | .sq y::st,Q=>iU (fun σ w=>bU P N y (fR P N st Q) σ w)<|fR P N st Q
 | .bk id::st,Q=>nh id<|fR P N st Q
@[reducible] def At (P:av) (N:Fm) (Q:bM→(Nat→ah)→ai→Prop) (w:ai) (p:Pt) (st:List Kn) (σ:Nat→ah):Prop :=match p with
 | .c c=>bU P N c (fR P N st Q) σ w
 | .l ops l=>cH P N ops (fR P N st Q) l σ w
 | .x e=>fR P N st Q e σ w
inductive Out | no | at (p:Pt) (st:List Kn) (σ:Nat→ah) (c:Option Prop)
def andG (c:Prop):Option Prop→Option Prop
 | none=>some c
 | some d=>some<|c∧d
def optG:Option Prop→Prop
 | none=>True
 | some c=>c
theorem vD {c:Prop} {d:Option Prop} (h:optG (andG c d)):c∧optG d:=by
 cases d
 · exact ⟨h,trivial⟩
 · exact h
inductive JP | no | go (p:Pt) (st:List Kn) (σ:Nat→ah) (c:Option Prop)
def stepG (T:List (List TD)) (N:Fm) (p:Pt) (st:List Kn) (σ:Nat→ah) (c:Option Prop):JP:=match p with
 | .x .normal=>match st with
   | .sq y::st=> .go (.c y) st σ c
   | .bk _::st=> .go (.x .normal) st σ c
   | []=> .no
 | .x .ret=>match st with
   | _::st=> .go (.x .ret) st σ c
   | []=> .no
 | .x (.exit i)=>match st with
   | .sq _::st=> .go (.x<|.exit i) st σ c
   | .bk j::st=>cond (bC i j) (.go (.x .normal) st σ c)<|.go (.x<|.exit i) st σ c
   | []=> .no
 | .x _=> .no
 | .c (.seq x y)=> .go (.c x) (.sq y::st) σ c
 | .c (.block id x)=> .go (.c x) (.bk id::st) σ c
 | .c .skip => .go (.x .normal) st σ c
 | .c .ret=> .go (.x .ret) st σ c
 | .c (.exit i)=> .go (.x<|.exit i) st σ c
 | .c (.region id ⟨l⟩ false)=>cond (mu N.r l) (.go (.l ⟨l⟩ l) st σ c) .no
 | .c (.cond x a b)=>match ev N σ x with
   | .bool true => .go (.c a) st σ c
   | .bool false => .go (.c b) st σ c
   | _=> .no
 | .c _=> .no
 | .l ops []=> .go (.x .normal) st σ c
 | .l ops (⟨some d,o,ty,pos,af,none⟩::r)=>match rD T N σ o with
   | .v x=> .go (.l ops r) st (bI σ d x) c
   | .vc x c'=> .go (.l ops r) st (bI σ d x)<|andG c' c
   | .no=> .no
 | .l ops (⟨some d,o,ty,pos,af,some (j,want)⟩::r)=>match fj ops j with
   | some t=>cond (ba t N.n) (match σ t with
     | .bool b=>cond (b==want) (match rD T N σ o with
       | .v x=> .go (.l ops r) st (bI σ d x) c
       | .vc x c'=> .go (.l ops r) st (bI σ d x)<|andG c' c
       | .no=> .no) (.go (.l ops r) st (bI σ d undef) c)
     | .tuple ⟨[]⟩=> .go (.l ops r) st (bI σ d undef) c
     | _=> .no) .no
   | none=> .no
 | .l ops _=> .no
def js (T:List (List TD)) (N:Fm):Nat→Pt→List Kn→(Nat→ah)→Option Prop→Out
 | 0,p,st,σ,c=> .at p st σ c
 | n+1,p,st,σ,c=>match stepG T N p st σ c with
   | .go p st σ c=>js T N n p st σ c
   | .no=> .no
section
variable {P:av} {T:List (List TD)} {N:Fm} {Q:bM→(Nat→ah)→ai→Prop} {w:ai} {σ σ':Nat→ah} {p p':Pt} {st st':List Kn} {c c':Option Prop} {n:Nat}
theorem Qr (hT:kZ P 0 T=true) (h:stepG T N p st σ c= .go p' st' σ' c') (A:optG c') (C:At P N Q w p' st' σ'):optG c∧At P N Q w p st σ:=by
 unfold stepG at h;split at h
 · split at h
   · cases h; exact ⟨A,tn C⟩
   · cases h; exact ⟨A,bn C⟩
   · cases h
 · split at h
   · rename_i k _;cases h; cases k
     · exact ⟨A,tr C⟩
     · exact ⟨A,br C⟩
   · cases h
 · split at h
   · cases h; exact ⟨A,te _ C⟩
   · rename_i i _ j _;cases hij:bC i j
     · rw [hij] at h; cases h;exact ⟨A,Kd (fun e=>by rw [e] at hij; simp at hij) C⟩
     · rw [hij] at h; cases h;obtain rfl :=cP hij;exact ⟨A,be C⟩
   · cases h
 · cases h
 · cases h; exact ⟨A,sq fun K V=>H5 (fun e σ w U=>by cases e <;> first | exact V _ _ U | exact U) C⟩
 · cases h; exact ⟨A,ax C⟩
 · cases h; exact ⟨A,GU C⟩
 · cases h; exact ⟨A,rt C⟩
 · cases h; exact ⟨A,ext C⟩
 · rename_i id l;cases hr:mu N.r l
   · rw [hr] at h; cases h
   · rw [hr] at h; cases h;exact ⟨A,rg hr C⟩
 · split at h
   · cases h; exact ⟨A,ct (by assumption) C⟩
   · cases h; exact ⟨A,cf (by assumption) C⟩
   · cases h
 · cases h
 · cases h; exact ⟨A,nl C⟩
 · rename_i ops d o ty pos af r;have E:=xe (P:=P) hT (N:=N) (σ:=σ) (some d) o ty pos af none w;split at h
   · rename_i x I;rw [I] at E; cases h;exact ⟨A,Hb.p E C⟩
   · rename_i x q I;rw [I] at E; cases h;obtain ⟨M,O⟩:=vD A;exact ⟨O,Hb.p (E M) C⟩
   · cases h
 · rename_i ops d o ty pos af j want r;have E:=xe (P:=P) hT (N:=N) (σ:=σ) (some d) o ty pos af (some (j,want)) w;split at h
   · rename_i t L;cases hb:ba t N.n
     · rw [hb] at h; cases h
     · rw [hb] at h;simp only [cond_true] at h;split at h
       · rename_i b J;cases hw:(b==want)
         · rw [hw] at h; cases h;exact ⟨A,sk L hb J hw C⟩
         · rw [hw] at h;simp only [cond_true] at h;obtain rfl :b=want:=by simpa using hw
           split at h
           · rename_i x I;rw [I] at E; cases h;exact ⟨A,pg L hb J E C⟩
           · rename_i x q I;rw [I] at E; cases h;obtain ⟨M,O⟩:=vD A;exact ⟨O,pg L hb J (E M) C⟩
           · cases h
       · rename_i J;cases h;exact ⟨A,GV L hb J C⟩
       · cases h
   · cases h
 · cases h
theorem kq (hT:kZ P 0 T=true):∀ (n:Nat) (p:Pt) (st:List Kn) (σ:Nat→ah) (c:Option Prop),js T N n p st σ c= .at p' st' σ' c'→optG c'→At P N Q w p' st' σ'→optG c∧At P N Q w p st σ
 | 0,p,st,σ,c,h,hc,hk=>by cases h; exact ⟨hc,hk⟩
 | n+1,p,st,σ,c,h,hc,hk=>by
   simp only [js] at h;split at h
   · rename_i E;obtain ⟨A,C⟩:=kq hT n _ _ _ _ h hc hk;exact Qr hT E A C
   · cases h
end
inductive JK | no | at (fuel:Nat) (listed:Array Bool) (σ:Nat→ah) (c:Option Prop)
inductive JO | no | go (σ:Nat→ah) (c:Option Prop)
def Hl (T:List (List TD)) (N:Fm) (g:Bool) (ops:Array aO) (i:Nat) (σ:Nat→ah) (c:Option Prop):JO:=match ops[i]? with
 | some ⟨some d,o,_,_,_,none⟩=>match rD T N σ o with
   | .v x=> .go (bI σ d x) c
   | .vc x c'=> .go (bI σ d x)<|andG c' c
   | .no=> .no
 | some ⟨some d,o,_,_,_,some (j,want)⟩=>cond g (match fj ops j with
   | some t=>cond (ba t N.n) (match σ t with
     | .bool b=>cond (b==want) (match rD T N σ o with
       | .v x=> .go (bI σ d x) c
       | .vc x c'=> .go (bI σ d x)<|andG c' c
       | .no=> .no) (.go (bI σ d undef) c)
     | .tuple ⟨[]⟩=> .go (bI σ d undef) c
     | _=> .no) .no
   | none=> .no) .no
 | _=> .no
def nA (T:List (List TD)) (N:Fm) (g:Bool) (ops:Array aO):List Nat→Nat→Array Bool→(Nat→ah)→Option Prop→JK
 | [],fuel,listed,σ,c=> .at fuel listed σ c
 | _::_,0,_,_,_=> .no
 | i::is,fuel+1,listed,σ,c=>match Hl T N g ops i σ c with
   | .go σ c=>nA T N g ops is fuel (listed.setIfInBounds i true) σ c
   | .no=> .no
def mZ (fr:Array Bool→Nat→Bool):List Nat→Array Bool→Bool
 | [],_=>true
 | i::is,listed=>fr listed i && mZ fr is (listed.setIfInBounds i true)
section
variable {P:av} {T:List (List TD)} {N:Fm} {g:Bool} {ops:Array aO} {fr:Array Bool→Nat→Bool} {fuel':Nat} {listed':Array Bool} {σ':Nat→ah} {c':Option Prop} {w:ai}
theorem xx (hT:kZ P 0 T=true) (W:Nat→Array Bool→(Nat→ah)→Prop)
 (H1:∀ {i d o ty pos af v fuel listed σ},ops[i]? =some ⟨some d,o,ty,pos,af,none⟩→fr listed i=true→(∀ w,(execOp (ev N σ) ⟨some d,o,ty,pos,af,none⟩).run P w= .ok (.value v) w)→W fuel (listed.setIfInBounds i true) (bI σ d v)→W (fuel+1) listed σ)
 (O:g=true→∀ {i d o ty pos af v fuel listed σ j want t},ops[i]? =some ⟨some d,o,ty,pos,af,some (j,want)⟩→fr listed i=true→fj ops j=some t→ba t N.n=true→σ t= .bool want→(∀ w,(execOp (ev N σ) ⟨some d,o,ty,pos,af,some (j,want)⟩).run P w= .ok (.value v) w)→W fuel (listed.setIfInBounds i true) (bI σ d v)→W (fuel+1) listed σ)
 (Z:g=true→∀ {i d o ty pos af fuel listed σ j want t b},ops[i]? =some ⟨some d,o,ty,pos,af,some (j,want)⟩→fr listed i=true→fj ops j=some t→ba t N.n=true→σ t= .bool b→(b==want)=false→W fuel (listed.setIfInBounds i true) (bI σ d undef)→W (fuel+1) listed σ)
 (aa:g=true→∀ {i d o ty pos af fuel listed σ j want t},ops[i]? =some ⟨some d,o,ty,pos,af,some (j,want)⟩→fr listed i=true→fj ops j=some t→ba t N.n=true→σ t=undef→W fuel (listed.setIfInBounds i true) (bI σ d undef)→W (fuel+1) listed σ):
 ∀ (is:List Nat) (fuel:Nat) (listed:Array Bool) (σ:Nat→ah) (c:Option Prop),nA T N g ops is fuel listed σ c= .at fuel' listed' σ' c'→mZ fr is listed=true→optG c'→W fuel' listed' σ'→optG c∧W fuel listed σ
 | [],fuel,listed,σ,c,h,_,C,E=>by cases h; exact ⟨C,E⟩
 | i::is,0,listed,σ,c,h,_,C,E=>by cases h
 | i::is,fuel+1,listed,σ,c,h,hf,C,E=>by
   simp only [mZ,bP] at hf;simp only [nA] at h;split at h
   · rename_i ab c2 A;obtain ⟨C,E⟩:=xx hT W H1 O Z aa is fuel _ _ _ h hf.2 C E;unfold Hl at A;split at A
     · rename_i d o ty pos af hi;have I:=fun w=>xe hT (N:=N) (σ:=σ) (some d) o ty pos af none w;split at A
       · rename_i x J;rw [J] at I; cases A;exact ⟨C,H1 hi hf.1 I E⟩
       · rename_i x q J;rw [J] at I; cases A;obtain ⟨U,V⟩:=vD C;exact ⟨V,H1 hi hf.1 (fun w=>I w U) E⟩
       · cases A
     · rename_i d o ty pos af j want hi;have I:=fun w=>xe hT (N:=N) (σ:=σ) (some d) o ty pos af (some (j,want)) w;cases hg:g
       · rw [hg] at A; cases A
       · rw [hg] at A;simp only [cond_true] at A;split at A
         · rename_i t M;cases hb:ba t N.n
           · rw [hb] at A; cases A
           · rw [hb] at A;simp only [cond_true] at A;split at A
             · rename_i b L;cases hw:(b==want)
               · rw [hw] at A; cases A;exact ⟨C,Z hg hi hf.1 M hb L hw E⟩
               · rw [hw] at A;simp only [cond_true] at A;obtain rfl :b=want:=by simpa using hw
                 split at A
                 · rename_i x J;rw [J] at I; cases A;exact ⟨C,O hg hi hf.1 M hb L I E⟩
                 · rename_i x q J;rw [J] at I; cases A;obtain ⟨U,V⟩:=vD C;exact ⟨V,O hg hi hf.1 M hb L (fun w=>I w U) E⟩
                 · cases A
             · rename_i L;cases A;exact ⟨C,aa hg hi hf.1 M hb L E⟩
             · cases A
         · cases A
     · cases A
   · cases h
variable {Q:bM→(Nat→ah)→ai→Prop} {S:ai→Prop} {r fuel:Nat} {listed:Array Bool} {σ:Nat→ah}
theorem MF (hT:kZ P 0 T=true) (is:List Nat) (h:nA T N true ops is fuel listed σ none= .at fuel' listed' σ' c') (J:S w) (k:dr P N ops Q S fuel' listed' σ' w) (M:optG c') (A:mZ (fX N.F ops) is listed=true):dr P N ops Q S fuel listed σ w:=
 (xx hT (fun fuel listed σ=>dr P N ops Q S fuel listed σ w) (fun hi A L k=>hp _ hi A (fun w _=>L w) J k) (fun _=>fun hi A C E I L k=>ED _ hi A C E I (fun w _=>L w) J k) (fun _=>fun hi A C E I hb k=>EE _ hi A C E I hb J k) (fun _=>fun hi A C E I k=>MP _ hi A C E I J k) is fuel listed σ none h A M k).2
theorem MI (hT:kZ P 0 T=true) (is:List Nat) (h:nA T N false ops is fuel listed σ none= .at fuel' listed' σ' c') (C:S w) (k:db P N ops Q S r fuel' listed' σ' w) (E:optG c') (A:mZ (fun l i=>q7 N.F ops l r i) is listed=true):db P N ops Q S r fuel listed σ w:=
 (xx (g:=false) hT (fun fuel listed σ=>db P N ops Q S r fuel listed σ w) (fun hi A I k=>lq _ hi A (fun w _=>I w) C k) (fun h=>dS h) (fun h=>dS h) (fun h=>dS h) is fuel listed σ none h A E k).2
theorem MH (hT:kZ P 0 T=true) (is:List Nat) (h:nA T N false ops is fuel listed σ none= .at fuel' listed' σ' c') (C:S w) (k:db P N ops Q S r fuel' listed' σ' w) (E:optG c') (A:mZ (fun l i=>px N.F ops l r i) is listed=true):db P N ops Q S r fuel listed σ w:=
 (xx (g:=false) hT (fun fuel listed σ=>db P N ops Q S r fuel listed σ w) (fun hi A I k=>tQ _ hi A I (fun _=>C) k) (fun h=>dS h) (fun h=>dS h) (fun h=>dS h) is fuel listed σ none h A E k).2
end
def y7 (P:av) (f:e9):Bool:=match P.funcs[f]? with
 | some fn=> !(fn.name== "runtime.NumGoroutine") && !fn.body.isNone
 | none=>false
theorem Kx {P:av} {f:e9} (h:y7 P f=true):gD P f:=by
 unfold y7 at h;split at h
 · simp only [bP,mI] at h;exact y8 (by assumption) h.1 h.2
 · cases h
section
variable {P:av} {N:Fm} {σ:Nat→ah} {w:ai} {dst:Option Nat} {ty:au} {pos :String} {af:Array cI} {g:Option (Nat×Bool)} {x y z:bu} {K:(Nat→ah)→ai→Prop}
theorem aI {f:e9} {args:Array bu} {A:Array au} {L:List ah} {R:ah→ai→Prop} (hr:aZ P f L.toArray w R) (C:args.toList.map (ev N σ)=L)
 (k:∀ v w',R v w'→K (dq σ dst v) w') (E:y7 P f=true :=by kernel_rfl):cz P N ⟨dst,.call ⟨.value (.func f),args,A⟩,ty,pos,af,g⟩ σ w K:=cl (Kx E) hr C k
theorem ay {t b off :Nat} {v:ah} (C:ev N σ x= .pointer (some ⟨b,off,none⟩)) (A:aH w.heap b off =some v) (hu:dA P t=some none:=by kernel_rfl):
 (execOp (ev N σ) ⟨dst,.load t x,ty,pos,af,g⟩).run P w= .ok (.value v) w:=ld hu C A
theorem bW (n:Nat) {t E:au} {a b:Int} (A:ev N σ x= .int .i64 a:=by exact U) (C:ev N σ y= .int .i64 b:=by exact U) (h:a+b=(n:Int)∧n≤9223372036854775807:=by omega):
 (execOp (ev N σ) ⟨dst,.binOp .add t x y E,ty,pos,af,g⟩).run P w= .ok (.value<|.int .i64 (n:Int)) w:=yS (n:Int) A C<|uB h.1 h.2
theorem pS (n:Nat) {t E:au} {a b:Int} (A:ev N σ x= .int .i64 a:=by exact U) (C:ev N σ y= .int .i64 b:=by exact U) (h:a - b=(n:Int)∧n≤9223372036854775807:=by omega):
 (execOp (ev N σ) ⟨dst,.binOp .sub t x y E,ty,pos,af,g⟩).run P w= .ok (.value<|.int .i64 (n:Int)) w:=A1 (n:Int) A C<|uB h.1 h.2
variable {ops:Array aO} {Q:bM→(Nat→ah)→ai→Prop} {S:ai→Prop} {r fuel d t b off :Nat} {listed:Array Bool} {v:ah} {W:ai} {l:List aO} {id:Nat}
theorem c9 (i:Nat) (h:(ops[i]?,ev N σ x)=(some ⟨some d,.load t x,ty,pos,af,none⟩,.pointer (some ⟨b,off,none⟩))) (A:Wk W w) (C:aH W.heap b off =some v) (k:dr P N ops Q (fun w'=>Wk W w') fuel (listed.setIfInBounds i true) (bI σ d v) w)
 (E:fX N.F ops listed i=true :=by kernel_rfl) (hu:dA P t=some none:=by kernel_rfl):dr P N ops Q (fun w'=>Wk W w') (fuel+1) listed σ w:=hp i (congrArg dj h) E (fun _ hw=>ld hu (congrArg Prod.snd h)<|hw.aH C) A k
theorem pQ (i:Nat) (h:(ops[i]?,ev N σ x)=(some ⟨some d,.load t x,ty,pos,af,none⟩,.pointer (some ⟨b,off,none⟩))) (A:Wk W w) (C:aH W.heap b off =some v) (k:db P N ops Q (fun w'=>Wk W w') r fuel (listed.setIfInBounds i true) (bI σ d v) w)
 (E:q7 N.F ops listed r i=true :=by kernel_rfl) (hu:dA P t=some none:=by kernel_rfl):db P N ops Q (fun w'=>Wk W w') r (fuel+1) listed σ w:=lq i (congrArg dj h) E (fun _ hw=>ld hu (congrArg Prod.snd h)<|hw.aH C) A k
theorem fk (h:Wk w w.drew→dr P N l.toArray Q (fun w'=>Wk w w') l.length (sD l.length false) σ w.drew) (hr:mu N.r l=true :=by exact U) (hm:P.follows .mixedOrders=true :=by kernel_rfl):bU P N (.region id l.toArray true) Q σ w:=bK _ hr hm (Md.refl _ _).drew<|h (Md.refl _ _).drew
theorem Aj (r:Nat) (h:Wk w w.drew→db P N l.toArray Q (fun w'=>Wk w w') r l.length (sD l.length false) σ w.drew) (hr:mu N.r l=true :=by exact U) (hm:P.follows .mixedOrders=true :=by kernel_rfl):bU P N (.region id l.toArray true) Q σ w:=tR _ r hr hm (Md.refl _ _).drew<|h (Md.refl _ _).drew
end
end Go.Hb
end
section
namespace Go.Hb
open Go.ChangeShapes Go.WideShapes Go.ChangeAt
theorem Wk.frame {w w':ai} (h:Wk w w') (may:MemPlace→Prop):w.keptBut w' may:=by
 refine ⟨h.os,h.output,fun i hi=> ?_⟩;rw [h.dC i hi id];split <;> simp_all
theorem Wk.same {w w':ai} (h:Wk w w') {p:MemPlace} (hp:p.block < w.heap.size):w.sameAt w' p:=by
 cases p with
 | cell b o=>exact World.cell?_of_block (w:=w)<|h.dC b hp id
 | map b=>exact h.dC b hp id
section
variable {H:Type} {enc:au×ah→H} {P:av} {W W':ai}
theorem Hz (J:laidOutB P=true) (I:Wk W W'):∀ (C:List au) (vs:List ah) (E:List (DataW H)) (ps:List MemPlace),C.all (fun t=>P.readableRec t && decide (t < P.types.size))=true→(∀ x∈ps,x.block < W.heap.size)→
 IB enc P W 0 (fun _=>true) true C vs E ps→IB enc P W' 0 (fun b=>decide (b < W.heap.size)) true C vs E ps
 | [],[],[],_,_,_,h=>h
 | t::C,v::vs,d::E,_,hp,hlt,⟨p,q,h1,h2,he⟩=>by
   subst he;rw [uR,bP,bP] at hp;exact ⟨p,q,WideElems.Trod_stays J hp.1.1 (of_decide_eq_true hp.1.2) h1 (fun x A=>I.same<|hlt x<|Ji _ A) (fun x A=>decide_eq_true<|hlt x<|Ji _ A),
    Hz J I C vs E q hp.2 (fun x A=>hlt x<|List.mem_append_right _ A) h2,rfl⟩
 | [],_::_,_,_,_,_,h=>h.elim
 | [],[],_::_,_,_,_,h=>h.elim
 | _::_,[],_,_,_,_,h=>h.elim
 | _::_,_::_,[],_,_,_,h=>h.elim
theorem OY {f:e9} {fn:Func} {s:ChangeSpec} {args:Array ah} {A gs:List (DataW H)} {before:List MemPlace} {O:au} (I:DataW.Whole enc P fn.params.toList s.vars false W args.toList A gs before) (M:s.vars= [])
 (C:s.fn H (A++gs)= {results:= [.lit (.bool true)],args:=A}) (hr:fn.resultTypes= #[O]) (hb:P.underlying O=some .bool) (V:laidOutB P=true) (hp:fn.params.toList.all (fun t=>P.readableRec t && decide (t < P.types.size))=true)
 (h:aZ P f args W (fun v w'=>v= .bool true∧Wk W w')):Calls P f args W fun e W'=> ∃ v,e= .returned v∧s.post enc P fn false true false false W args v W':=by
 refine jy h fun e W' ⟨v,he,aa,L⟩=>⟨v,he,?_⟩
 subst aa;have J:=I;obtain ⟨p,q,U,E,rfl,_,_⟩:=I;rw [M] at E;obtain ⟨rfl,rfl⟩:=trodVars_none E;have Z:∀ x∈p,x.block < W.heap.size:=fun x ab=>J.lt x<|by simpa using ab
 refine ⟨_,_,_,[],p,[],J,?_,?_,?_,L.frame _,fun h=>by cases h⟩
 · rw [C,hr];exact trodAll_cons_mk (shut_bool hb _) trodAll_mk0
 · rw [C];exact Hz V L _ _ _ _ hp Z U
 · rw [C,M]; rfl
theorem CS {w:ai} {a:aW} {v:ah} (h:w.cell? a=some v):a=⟨a.block,a.off,none⟩∧aH w.heap a.block a.off=some v:=by
 obtain ⟨b,o,C⟩:=a;unfold IS at h;simp only at h;split at h
 · rename_i c t z hb;split at h
   · cases h
   · rename_i A;cases C with
     | none=>exact ⟨rfl,by rw [eB hb]; exact h⟩
     | some x=>simp at A
 · cases h
theorem KC {w:ai} {a:aW} {xs:List ah} (h:∀ j u,xs[j]? =some u→w.cell? (a.add j)=some u):aT w.heap (some a) xs:=by
 cases xs with
 | nil=>exact aT.nil _ _
 | cons x xs=>
   have h0:=(CS<|h 0 x rfl).1;have ha:a=⟨a.block,a.off,none⟩:=h0;refine ⟨fun _=>congrArg some ha,fun j u hu=> ?_⟩;have A:=h j u hu;rw [ha,fw,jK] at A;exact A
end
end Go.Hb
namespace Go.Hb
open Go.Proofs.YtfgapieofinadaaGreatDoor
theorem Kp {H:Type} {l:List (DataW H)} (A:Rows.uptoSmall H l=true):Rows.uptoBulkAll l≤1048576:=of_decide_eq_true A
end Go.Hb
namespace Go.Hb
open Go.Proofs.YtfgapieofinadaaGreatDoor Go.ChangeShapes Go.WideShapes Go.ChangeAt
structure nR (P:av) (t:au) (m:Nat) {X:Type} (R:ai→List ah→X→Prop) (B:X→Nat):Prop where
 cells:P.cellsOf t=m
 op:∀ {H:Type} (enc:au×ah→H) (W:ai) (fuel:Nat) (cs:List ah) (d:DataW H) (p:List MemPlace),uI enc P W 0 (fun _=>true) true fuel t cs=some (d,p)→cs.length=m∧∃ x,R W cs x∧B x≤Rows.uptoBulk d
section
variable {P:av} {t t0 t1 e:au} {m m0 m1:Nat} {X X0 X1:Type} {R:ai→List ah→X→Prop} {B:X→Nat} {R0:ai→List ah→X0→Prop} {B0:X0→Nat} {R1:ai→List ah→X1→Prop} {B1:X1→Nat}
theorem Oz {k:bX} (C:P.underlying t=some (.int k)) (A:P.cellsOf t=1):nR P t 1 (fun _ cs (x:Int)=>cs= [.int k x]∧(Lit.int k x).wf=true) (fun _=>1) where
 cells:=A
 op enc W fuel cs d p h:=by
  obtain ⟨n,rfl,E,hw⟩:=DataW.trod_int C h;cases E;exact ⟨U,n,⟨U,hw⟩,by simp [Rows.uptoBulk]⟩
theorem AI (C:P.underlying t=some .string) (A:P.cellsOf t=1):nR P t 1 (fun _ cs (x:List UInt8)=>cs= [str x]) (fun x=>x.length+1) where
 cells:=A
 op enc W fuel cs d p h:=by
  obtain ⟨s,rfl,E,hw⟩:=DataW.trod_string C h;cases E;exact ⟨U,s.data.toList,U,by simp [Rows.uptoBulk]⟩
def RS (m:Nat) (R:ai→List ah→X→Prop) (W:ai) (cs:List ah) (xs:List X):Prop :=
 ∃ (a:Option aW) (c:Nat) (L:List (List ah)),cs= [.slice a xs.length c]∧L.length=xs.length∧aT W.heap a L.flatten∧xs.length≤c∧∀ (i:Nat) l x,L[i]? =some l→xs[i]? =some x→l.length=m∧R W l x
theorem Eh {L:List (List ah)} {m:Nat} (h:∀ l∈L,l.length=m):L.flatten.length=L.length*m:=by
 induction L with
 | nil=>simp
 | cons a L ih=>
   rw [sO,bo,ih (fun l A=>h l<|by simp [A]),h a (by simp),cg,sT]; omega
theorem Eg {L:List (List ah)} {m:Nat} (h:∀ l∈L,l.length=m) {i c:Nat} {l:List ah} (A:L[i]? =some l) (C:c < m):L.flatten[i*m+c]? =l[c]? :=by
 induction L generalizing i with
 | nil=>simp at A
 | cons a L ih=>
   have ha:=h a<|by simp
   cases i with
   | zero=>
     simp only [jB,bR] at A;subst A;rw [sO,sV,du,eR ag]
   | succ i=>
     simp only [jA] at A;rw [sO,eC (by rw [ha,sT]; omega),ha,show (i+1)*m+c - m=i*m+c from by rw [sT]; omega];exact ih (fun l A=>h l<|by simp [A]) A
theorem Mv {L:List (List ah)} {m:Nat} (hm:0 < m) (h:∀ l∈L,l.length=m) {j:Nat} {u:ah} (hu:L.flatten[j]? =some u):∃ l,L[j / m]? =some l∧l[j % m]? =some u:=by
 have C:=(dt.1 hu).1;rw [Eh h] at C;have A:j / m < L.length:=(Nat.div_lt_iff_lt_mul hm).2 C;refine ⟨L[j / m],cr A,?_⟩;have :=Eg h (cr A)<|Nat.mod_lt j hm;rw [u7,Jx] at this;rw [← this]; exact hu
theorem CL {H:Type} {f:X→Nat} :∀ (xs:List X) (A:List (DataW H)),xs.length=A.length→(∀ (i:Nat) x d,xs[i]? =some x→A[i]? =some d→f x≤Rows.uptoBulk d)→(xs.map f).sum≤Rows.uptoBulkAll A
 | [],_,_,_=>by simp
 | x::xs,[],h,_=>by simp at h
 | x::xs,d::A,h,hf=>by
   have E:=hf 0 x d rfl rfl;have I:=CL xs A (by simpa using h) fun i y e C he=>hf (i+1) y e (by simpa using C)<|by simpa using he
   simp only [eS,List.sum_cons,Rows.uptoBulkAll]; omega
theorem FQ (he:nR P e m R B) (az:P.underlying t=some (.slice e)) (ax:P.cellsOf t=1) (hm:0 < m):nR P t 1 (RS m R) (fun xs=>(xs.map B).sum+1) where
 cells:=ax
 op enc W fuel cs d p h:=by
  rcases DataW.trod_slice az h with ⟨rfl,E⟩ | ⟨a,len,cap,elems,rest,n,_,rfl,E,_,J,_,aB,ak,_,_⟩
  · cases E;exact ⟨U,[],⟨none,0,[],U,U,aT.nil _ _,bf _,fun i l x J=>by simp at J⟩,by simp [Rows.uptoBulk]⟩
  · cases E;rw [he.cells] at ak;have hex:∀ i,i < len→∃ (l:List ah) (x:X) (y:DataW _×List MemPlace),elems[i]? =some y∧W.cells? 0 (a.add<|i*m) m=some l∧l.length=m∧R W l x∧B x≤Rows.uptoBulk y.1:=by
     intro i hi;have I:=ak i hi;rw [cr ag,qC] at I;obtain ⟨l,A,C⟩:=I;obtain ⟨ab,x,aj,ac⟩:=he.op enc W n l elems[i].1 elems[i].2 C;exact ⟨l,x,elems[i],cr ag,A,ab,aj,ac⟩
    let M:Nat→List ah:=fun i=>if hi:i < len then (hex i hi).choose else []
    let Z:(i:Nat)→i < len→X:=fun i hi=>(hex i hi).choose_spec.choose
    have O:∀ i (hi:i < len),∃ (y:DataW _×List MemPlace),elems[i]? =some y∧W.cells? 0 (a.add<|i*m) m=some (M i)∧(M i).length=m∧R W (M i) (Z i hi)∧B (Z i hi)≤Rows.uptoBulk y.1:=fun i hi=>by
     have :=(hex i hi).choose_spec.choose_spec;simp only [M,dif_pos hi];exact this
    let xs:List X:=(nL len).attach.map fun q=>Z q.1<|List.mem_range.1 q.2
    have ae:xs.length=len:=by simp [xs]
    have an:∀ (i:Nat) x,xs[i]? =some x→∃ hi:i < len,x=Z i hi:=fun i x E=>by
     simp only [xs,gy,il] at E;obtain ⟨q,V,rfl⟩:=E;have I:=dt.1 V;obtain ⟨hi,A⟩:=I;simp only [List.length_attach,Je] at hi;have C:q.1=i:=by rw [← A]; simp
     subst C;exact ⟨hi,U⟩
    let L:List (List ah):=(nL len).map M
    have au:L.length=len:=by simp [L]
    have ad:∀ (i:Nat) l,L[i]? =some l→i < len∧l=M i:=fun i l J=>by
     simp only [L,gy,il] at J;obtain ⟨q,V,rfl⟩:=J;have hi:=(dt.1 V).1;rw [Je] at hi;rw [yu hi] at V;cases V;exact ⟨hi,U⟩
    have av:∀ l∈L,l.length=m:=fun l J=>by
     obtain ⟨i,hi⟩:=List.mem_iff_getElem?.1 J;obtain ⟨I,rfl⟩:=ad i l hi;obtain ⟨_,_,_,A,_⟩:=O i I;exact A
    refine ⟨U,xs,⟨some a,cap,L,by rw [ae],by rw [au,ae],KC fun j u hu=> ?_,ag,fun i l x J E=> ?_⟩,?_⟩
    · obtain ⟨l,I,A⟩:=Mv hm av hu;obtain ⟨C,rfl⟩:=ad _ l I;obtain ⟨y,_,ab,aj,_⟩:=O _ C;obtain ⟨_,_,ac⟩:=IT ab;have ap:=ac (j % m)<|Nat.mod_lt j hm;have ha:(a.add<|j / m*m).add (j % m)=a.add j:=by
       have aw:∀ (a:aW) (x y:Nat),a.spot=none→(a.add x).add y=a.add (x+y):=by
        intro a x y am;obtain ⟨b,o,s⟩:=a;simp only at am; subst am;rw [fw,fw,fw,iG]
       have ay:a.spot=none:=by
        have h0:=O 0<|Jy (Nat.zero_le _) C;obtain ⟨_,_,aq,_⟩:=h0;obtain ⟨_,_,ar⟩:=IT aq;have aa:=ar 0 hm;obtain ⟨aC,_,_,aA,_⟩:=O 0<|Jy (Nat.zero_le _) C;rw [cr ag] at aa;simp only [sV] at aa;have ai:=(CS aa).1;have ao:(a.add 0).add 0=a:=rfl;rw [ao] at ai;rw [ai]
       rw [aw a _ _ ay,u7,Jx]
      rw [← ha,ap]; exact A
    · obtain ⟨hi,rfl⟩:=an i x E;obtain ⟨_,rfl⟩:=ad i l J;obtain ⟨_,_,_,A,C,_⟩:=O i hi;exact ⟨A,C⟩
    · have I:(xs.map B).sum≤Rows.uptoBulkAll (elems.map (·.1)):=CL xs _ (by rw [ae,nK]; omega) fun i x d E al=>by
       obtain ⟨hi,rfl⟩:=an i x E;obtain ⟨y,A,_,_,_,C⟩:=O i hi;rw [gy,A] at al;cases al;exact C
      simp only [Rows.uptoBulk]; omega
theorem QK {H:Type} {enc:au×ah→H} {W:ai} {f0 f1 f2:Field} {fuel:Nat} {cs:List ah} {x:DataW H×List MemPlace} (L:P.underlying t=some (.struct #[f0,f1,f2])) (h:uI enc P W 0 (fun _=>true) true fuel t cs=some x):
 ∃ A C E n,x=(.agg [A.1,C.1,E.1],A.2++(C.2++E.2))∧cs.length=P.cellsOf t∧uI enc P W 0 (fun _=>true) true n f0.type ((cs.drop f0.offset).take<|P.cellsOf f0.type)=some A∧uI enc P W 0 (fun _=>true) true n f1.type ((cs.drop f1.offset).take<|P.cellsOf f1.type)=some C∧
   uI enc P W 0 (fun _=>true) true n f2.type ((cs.drop f2.offset).take<|P.cellsOf f2.type)=some E:=by
 obtain ⟨xs,n,_,rfl,J,hlen,I⟩:=DataW.trod_struct L h
 match xs,hlen with
 | [A,C,E],_=>exact ⟨A,C,E,n,by simp,J,by simpa using I 0 f0 rfl,by simpa using I 1 f1 rfl,by simpa using I 2 f2 rfl⟩
theorem OA {t2:au} {I:Type} {L:ai→List ah→I→Prop} {J:I→Nat} (h0:nR P t0 1 R0 B0) (M:nR P t1 1 R1 B1) (O:nR P t2 1 L J) {f0 f1 f2:Field}
 (ad:P.underlying t=some (.struct #[f0,f1,f2])) (aa:f0.type=t0) (ab:f1.type=t1) (ac:f2.type=t2) (al:f0.offset=0) (am:f1.offset=1) (an:f2.offset=2) (V:P.cellsOf t=3):
 nR P t 3 (fun W cs (x:X0×X1×I)=> ∃ A C E,cs= [A,C,E]∧R0 W [A] x.1∧R1 W [C] x.2.1∧L W [E] x.2.2) (fun x=>B0 x.1+B1 x.2.1+J x.2.2+1) where
 cells:=V
 op enc W fuel cs d p h:=by
  obtain ⟨aw,ax,ay,n,ae,Z,g0,g1,g2⟩:=QK ad h;cases ae;rw [V] at Z
  match cs,Z with
  | [A,C,E],_=>
    rw [aa,al,h0.cells] at g0;rw [ab,am,M.cells] at g1;rw [ac,an,O.cells] at g2;obtain ⟨_,ao,ag,aq⟩:=h0.op enc W n _ _ _ g0;obtain ⟨_,ap,aj,ar⟩:=M.op enc W n _ _ _ g1;obtain ⟨_,x2,ak,av⟩:=O.op enc W n _ _ _ g2;refine ⟨U,(ao,ap,x2),⟨A,C,E,U,ag,aj,ak⟩,?_⟩;simp only [Rows.uptoBulk,Rows.uptoBulkAll]; omega
end
theorem Qy {W:ai} {v:ah} {ws:(List<|List UInt8)} (h:RS 1 (fun _ cs (x:List UInt8)=>cs= [str x]) W [v] ws):∃ a c,v= .slice a ws.length c∧bN W.heap a ws∧ws.length≤c:=by
 obtain ⟨a,c,L,I,O,J,M,A⟩:=h;simp only [j4,and_true] at I;refine ⟨a,c,I,?_,M⟩;have e:L.flatten=ws.map str:=by
  have key:∀ (L:List (List ah)) (ws:(List<|List UInt8)),L.length=ws.length→(∀ (i:Nat) l x,L[i]? =some l→ws[i]? =some x→l= [str x])→L.flatten=ws.map str:=by
   intro L
   induction L with
   | nil=>intro ws h _; rw [j5 h.symm]; rfl
   | cons a L ih=>
     intro ws h A;cases ws with
     | nil=>simp at h
     | cons w ws=>
       rw [sO,eS,A 0 a w rfl rfl,ih ws (by simpa using h) (fun i l x C E=>A (i+1) l x (by simpa using C)<|by simpa using E)]; rfl
  exact key L ws O fun i l x C E=>(A i l x C E).2
 unfold bN;rw [← e]; exact J
end Go.Hb
end
section
namespace Go.Hb
open Go.Proofs
def iV:List (List TD):= [
 [.no,.no,.no,.no,.no,.no,.no,.st [0,1,2,3],.st [0,1,2,3],.str,.str,.str,.no,.st [0,1],.st [0,1],.no],
 [.no,.no,.st [0],.st [0],.no,.no,.dX 29 3,.no,.no,.no,.no,.dX 9 1,.st [0,1,2],.st [0,1,2],.no,.no],
 [.no,.no,.st [0,1,2],.st [0,1,2],.no,.no,.no,.no,.no,.no,.no,.no,.no,.no,.no,.no],
 [.no,.no,.no,.no,.no,.no,.st [0,1,2,3,4],.st [0,1,2,3,4],.dX 154 2,.dX 250 2,.no,.st [0,1,2,3],.st [0,1,2,3],.no,.no,.no],
 [.st [0,1],.st [0,1],.dX 65 2,.st [0,2],.st [0,2],.st [0,1,8,9],.st [0,1,8,9],.no,.no,.no,.no,.dX 79 2,.no,.no,.st [0,1],.st [0,1]],
 [.no,.no,.no,.dX 1 1,.st [0,1,2],.st [0,1,2],.no,.no,.dX 181 2,.dX 195 2,.no,.st [0,1,2,3],.st [0,1,2,3],.no,.no,.st [0,7]],
 [.st [0,7],.no,.no,.no,.dX 5 1,.st [0,1],.st [0,1],.no,.no,.no,.no,.no,.no,.no,.no,.no],
 [.no,.no,.no,.no,.st [0,1,2],.no,.no,.st [0],.st [0],.no,.no,.no,.no,.no,.dX 215 1,.dX 213 5],
 [.dX 219 7,.st [0,1,2,3,8,9,10,11,12],.st [0,1,2,3,8,9,10,11,12],.no,.no,.no,.dX 294 2,.st [0,1,2,15],.st [0,1,2,15],.no,.no,.no,.st [0,1,6],.st [0,1,6],.no,.no],
 [.no,.no,.no,.no,.st [0,1,2],.st [0,1,2],.no,.no,.no,.st [0,1],.st [0,1],.no,.no,.no,.no,.no],
 [.no,.no,.no,.no,.no,.no,.no,.no,.no,.dX 174 2,.no,.no,.no,.no,.st [0,1],.no],
 [.no,.st [0,1],.st [0,1],.no,.no,.st [0,1],.no,.no,.no,.no,.no,.no,.no,.no,.no,.no],
 [.no,.dX 244 2,.st [0,1],.st [0,1],.no,.no,.no,.no,.no,.no,.no,.no,.no,.st [0,1,2,3,4],.st [0,1,2,3,4],.no],
 [.st [0,13],.st [0,13],.no,.no,.st [0,1,2,3,4],.st [0,1,2,3,4],.no,.dX 124 1,.no,.no,.st [0,1,2,3,4,5,6],.st [0,1,2,3,4,5,6],.no,.st [0,1,2,3,4,5],.st [0,1,2,3,4,5],.st [0]],
 [.st [0],.no,.dX 3 1,.st [0,1],.st [0,1],.dX 228 2,.no,.no,.no,.no,.no,.no,.no,.no,.no,.no],
 [.no,.no,.no,.st [0,1],.st [0,1],.no,.no,.no,.dX 251 2,.st [0,1],.st [0,1],.st [0,1],.no,.no,.no,.no],
 [.no,.no,.no,.no,.no,.no,.no,.no,.no,.no,.no,.no,.no,.no,.no,.no],
 [.no,.no,.no,.no,.no,.st [0,1,2,3,4,5,6],.st [0,1,2,3,4,5,6],.no,.no,.no,.no,.no,.st [0,1],.st [0,1],.no,.no],
 [.no,.no,.no,.st [0,1],.st [0,1],.st [0,1],.st [0,1],.no,.no,.no,.no,.no,.no,.no,.no,.no],
 [.no,.no,.no,.no,.no,.no,.no,.no,.no,.no,.no,.no,.no,.no,.no,.no],
 [.no,.no,.no,.st [0,1,2],.st [0,1,2],.no,.no,.no,.no,.no,.no,.no,.st [0,1,2],.st [0,1,2],.no,.dX 4 1],
 [.st [0,1,2],.st [0,1,2],.no,.no,.no,.no,.no,.no,.no,.no,.no,.no,.no,.no,.no,.no],
 [.no,.no,.no,.dX 124 1,.no,.no,.no,.st [0,1,2,3,4,5],.st [0,1,2,3,4,5],.no,.no,.no,.st [0,1,2,3,4],.st [0,1,2,3,4],.no,.no],
 [.no,.no,.no,.no,.no,.no,.no,.no,.no,.no,.no,.no,.no,.no,.no,.dX 381 1],
 [.no,.st [0,1,2,3,4,5,6],.st [0,1,2,3,4,5,6],.no,.st [0],.st [0],.no,.no,.no,.no,.no,.no,.dX 42 1,.no,.no,.no],
 [.no,.no,.no,.no,.no,.no,.no,.no,.no,.no,.no,.no,.no,.no,.no,.no],
 [.no,.no,.no,.no,.no,.no,.no,.no,.no,.no,.no,.no,.no,.no,.no,.no],
 [.st [0,1,2,3,4,5,6],.st [0,1,2,3,4,5,6],.no,.dX 439 2,.st [0,1,2],.st [0,1,2],.st [0,1],.st [0,1],.st [0,1],.st [0,1],.no,.no,.no,.no,.no,.no],
 [.no,.no,.no,.no,.no,.no,.dX 479 4,.st [0],.st [0],.no,.no,.no,.no,.no,.no,.no],
 [.no,.no,.st [0,1,2,3,4],.st [0,1,2,3,4],.no,.no,.st [0,1],.st [0,1],.no,.dX 224 1,.no,.no,.no,.no,.no,.no],
 [.no,.no,.no,.no,.no,.no,.no,.no,.no,.no,.no,.no,.no,.no,.st [0],.st [0]],
 [.no,.no,.no,.no,.no,.no,.no,.no,.no,.no,.no,.no,.no,.no,.no,.no],
 [.no,.no,.no,.no,.no,.no,.no,.no,.no,.no,.dX 495 1,.dX 527 2,.st [0,1,2],.st [0,1,2],.st [0,1],.st [0,1]],
 [.no,.no,.no,.no,.no,.no,.no,.no,.no,.no,.no,.no,.no,.st [0,1],.st [0,1],.no],
 [.no,.st [0,1,2,3],.st [0,1,2,3],.no,.no,.no,.no,.no,.no,.no,.no,.st [0,1,2,3,4,5,6,7,8,9,10],.st [0,1,2,3,4,5,6,7,8,9,10],.no,.no,.st [0,1]],
 [.st [0,1],.st [0],.st [0],.no,.no,.st [0,1,2,3,4],.st [0,1,2,3,4],.dX 570 4,.no,.st [0,1,2,3],.st [0,1,2,3],.no,.no]]
theorem jv:kZ aq 0 iV=true :=an
section
variable {N:Fm} {Q:bM→(Nat→ah)→ai→Prop} {w:ai} {σ σ':Nat→ah} {p':Pt} {st st':List Kn} {c':Option Prop}
theorem bV {x:cm} {A:cm} (n:Nat) (h:js iV N n (.c x) [] σ none= .at (.c A) st' σ' c') (k:bU aq N A (fR aq N st' Q) σ' w) (C:optG c':=by first | exact trivial | (simp only [optG,andG]; omega)):bU aq N x Q σ w:=(kq jv n _ _ _ _ h C k).2
theorem aP {x:cm} {C:Array aO} {A:List aO} (n:Nat) (h:js iV N n (.c x) [] σ none= .at (.l C A) st' σ' c') (k:cH aq N C (fR aq N st' Q) A σ' w) (E:optG c':=by first | exact trivial | (simp only [optG,andG]; omega)):bU aq N x Q σ w:=(kq jv n _ _ _ _ h E k).2
theorem kN {x:cm} {e':bM} (n:Nat) (h:js iV N n (.c x) [] σ none= .at (.x e') [] σ' c') (k:Q e' σ' w) (A:optG c':=by first | exact trivial | (simp only [optG,andG]; omega)):bU aq N x Q σ w:=(kq jv n _ _ _ _ h A k).2
theorem bD {x:cm} {A:cm} (n:Nat) (h:js iV N n (.c x) st σ none= .at (.c A) st' σ' c') (k:bU aq N A (fR aq N st' Q) σ' w) (C:optG c':=by first | exact trivial | (simp only [optG,andG]; omega)):bU aq N x (fR aq N st Q) σ w:=(kq jv n _ _ _ _ h C k).2
theorem az {x:cm} {C:Array aO} {A:List aO} (n:Nat) (h:js iV N n (.c x) st σ none= .at (.l C A) st' σ' c') (k:cH aq N C (fR aq N st' Q) A σ' w) (E:optG c':=by first | exact trivial | (simp only [optG,andG]; omega)):bU aq N x (fR aq N st Q) σ w:=(kq jv n _ _ _ _ h E k).2
theorem aB {x:cm} {e':bM} (n:Nat) (h:js iV N n (.c x) st σ none= .at (.x e') [] σ' c') (k:Q e' σ' w) (A:optG c':=by first | exact trivial | (simp only [optG,andG]; omega)):bU aq N x (fR aq N st Q) σ w:=(kq jv n _ _ _ _ h A k).2
theorem aC {ops:Array aO} {l:List aO} {A:cm} (n:Nat) (h:js iV N n (.l ops l) st σ none= .at (.c A) st' σ' c') (k:bU aq N A (fR aq N st' Q) σ' w) (C:optG c':=by first | exact trivial | (simp only [optG,andG]; omega)):cH aq N ops (fR aq N st Q) l σ w:=(kq jv n _ _ _ _ h C k).2
theorem aj {ops:Array aO} {l:List aO} {C:Array aO} {A:List aO} (n:Nat) (h:js iV N n (.l ops l) st σ none= .at (.l C A) st' σ' c') (k:cH aq N C (fR aq N st' Q) A σ' w) (E:optG c':=by first | exact trivial | (simp only [optG,andG]; omega)):cH aq N ops (fR aq N st Q) l σ w:=(kq jv n _ _ _ _ h E k).2
theorem ar {ops:Array aO} {l:List aO} {e':bM} (n:Nat) (h:js iV N n (.l ops l) st σ none= .at (.x e') [] σ' c') (k:Q e' σ' w) (A:optG c':=by first | exact trivial | (simp only [optG,andG]; omega)):cH aq N ops (fR aq N st Q) l σ w:=(kq jv n _ _ _ _ h A k).2
theorem dT {e:bM} {A:cm} (n:Nat) (h:js iV N n (.x e) st σ none= .at (.c A) st' σ' c') (k:bU aq N A (fR aq N st' Q) σ' w) (C:optG c':=by first | exact trivial | (simp only [optG,andG]; omega)):fR aq N st Q e σ w:=(kq jv n _ _ _ _ h C k).2
theorem fY {e:bM} {C:Array aO} {A:List aO} (n:Nat) (h:js iV N n (.x e) st σ none= .at (.l C A) st' σ' c') (k:cH aq N C (fR aq N st' Q) A σ' w) (E:optG c':=by first | exact trivial | (simp only [optG,andG]; omega)):fR aq N st Q e σ w:=(kq jv n _ _ _ _ h E k).2
theorem bg {e:bM} {e':bM} (n:Nat) (h:js iV N n (.x e) st σ none= .at (.x e') [] σ' c') (k:Q e' σ' w) (A:optG c':=by first | exact trivial | (simp only [optG,andG]; omega)):fR aq N st Q e σ w:=(kq jv n _ _ _ _ h A k).2
variable {ops:Array aO} {S:ai→Prop} {r fuel fuel':Nat} {listed listed':Array Bool}
theorem aY (is:List Nat) (h:nA iV N true ops is fuel listed σ none= .at fuel' listed' σ' c') (A:S w) (k:dr aq N ops Q S fuel' listed' σ' w) (C:optG c':=by first | exact trivial | (simp only [optG,andG]; omega)) (E:mZ (fX N.F ops) is listed=true :=by kernel_rfl):dr aq N ops Q S fuel listed σ w:=MF jv is h A k C E
theorem oa (is:List Nat) (h:nA iV N false ops is fuel listed σ none= .at fuel' listed' σ' c') (A:S w) (k:db aq N ops Q S r fuel' listed' σ' w) (C:optG c':=by first | exact trivial | (simp only [optG,andG]; omega)) (E:mZ (fun l i=>q7 N.F ops l r i) is listed=true :=by kernel_rfl):db aq N ops Q S r fuel listed σ w:=MI jv is h A k C E
theorem mi (is:List Nat) (h:nA iV N false ops is fuel listed σ none= .at fuel' listed' σ' c') (A:S w) (k:db aq N ops Q S r fuel' listed' σ' w) (C:optG c':=by first | exact trivial | (simp only [optG,andG]; omega)) (E:mZ (fun l i=>px N.F ops l r i) is listed=true :=by kernel_rfl):db aq N ops Q S r fuel listed σ w:=MH jv is h A k C E
end
end Go.Hb
end
namespace Go.Hb
theorem drop_cons {α:Type} {l:List α} {i:Nat} (d:α) (h:i < l.length):l.drop i=l.getD i d::l.drop (i+1):=by simp_all
theorem Ba {α:Type} {l:List α} {k i:Nat} (d:α) (A:k≤i) (hi:i < l.length):(l.take<|i+1).drop k=(l.take i).drop k++ [l.getD i d]:=by
 rw [ie l i d hi,List.drop_append_of_le_length (by rw [bY]; omega)]
def kM (b:UInt8):Bool:=b==32 || b==9
theorem n8 (b:UInt8):kM b=decide (b.toNat=32∨b.toNat=9):=by
 unfold kM;have h:∀ x:UInt8,(b==x)=decide (b.toNat=x.toNat):=fun x=>by
  by_cases hb:b=x
  · subst hb; simp
  · have :b.toNat≠x.toNat:=fun h=>hb<|nO.1 h;simp [hb,this]
 rw [h,h];simp [Bool.decide_or]
def bO:List UInt8→List UInt8→List (List UInt8)
 | cur,[]=>if cur= [] then [] else [cur]
 | cur,b::r=>if kM b then (if cur= [] then bO [] r else cur::bO [] r) else bO (cur++ [b]) r
theorem zH:bO [] []= []:=by simp [bO]
theorem Ej {cur:List UInt8} (h:cur≠[]):bO cur []= [cur]:=by simp [bO,h]
theorem wh {b:UInt8} {r:List UInt8} (h:kM b=true):bO [] (b::r)=bO [] r:=by simp [bO,h]
theorem Ei {cur:List UInt8} {b:UInt8} {r:List UInt8} (h:kM b=true) (A:cur≠[]):bO cur (b::r)=cur::bO [] r:=by simp [bO,h,A]
theorem zG {cur:List UInt8} {b:UInt8} {r:List UInt8} (h:kM b=false):bO cur (b::r)=bO (cur++ [b]) r:=by simp [bO,h]
theorem zF:∀ (l cur x:List UInt8),x∈bO cur l→x≠[]∧x.length≤cur.length+l.length:=by
 intro l
 induction l with
 | nil=>
   intro cur x h;unfold bO at h;split at h
   · cases h
   · simp only [fv] at h; subst h; exact ⟨by assumption,by simp⟩
 | cons b r ih=>
   intro cur x h;unfold bO at h;split at h
   · split at h
     · have :=ih [] x h; simp only [cg,fu] at*; exact ⟨this.1,ag⟩
     · rcases ej.1 h with rfl | h
       · exact ⟨by assumption,by simp⟩
       · have :=ih [] x h; simp only [cg,fu] at*; exact ⟨this.1,ag⟩
   · have :=ih _ x h; simp only [cg,bo,fu] at*; exact ⟨this.1,ag⟩
theorem tH:∀ (l cur:List UInt8),(bO cur l).length≤l.length+1:=by
 intro l
 induction l with
 | nil=>intro cur; unfold bO; split <;> simp
 | cons b r ih=>
   intro cur;unfold bO;split
   · split
     · have :=ih []; simp only [cg]; omega
     · have :=ih []; simp only [cg]; omega
   · have :=ih (cur++ [b]); simp only [cg]; omega
theorem zE {cur l:List UInt8} {i:Nat} (A:cur≠[]) (h:l.length≤i∨kM (l.getD i 0)=true):bO cur (l.drop i)=cur::bO [] (l.drop i):=by grind [drop_cons,Ei,wh,iY,Ej,zH]
def iq (l:List UInt8) (i:Nat) (fr:Int) (cur:List UInt8):Prop :=(fr= -1∧cur= [])∨(∃ k:Nat,fr=k∧k < i∧i≤l.length∧cur=(l.take i).drop k)
theorem iq.no {l:List UInt8} {i:Nat} :iq l i (-1) []:= .inl ⟨rfl,rfl⟩
theorem iq.neg {l cur:List UInt8} {i:Nat} {fr:Int} (h:iq l i fr cur) (A:fr < 0):fr= -1∧cur= []:=by grind [iq]
theorem iq.pos {l cur:List UInt8} {i:Nat} {fr:Int} (h:iq l i fr cur) (E:¬fr < 0):(0≤fr∧fr < i)∧cur=(l.take i).drop fr.toNat∧cur≠[]:=by
 rcases h with ⟨rfl,_⟩ | ⟨k,rfl,A,C,rfl⟩
 · omega
 · refine ⟨ag,by simp,fun e=> ?_⟩;have :=congrArg jC e;simp only [List.length_drop,bY,fu] at this;omega
theorem iq.begin {l:List UInt8} {i:Nat} (hi:i < l.length):iq l (i+1) i [l.getD i 0]:=by
 refine .inr ⟨i,U,ag,ag,?_⟩;rw [Ba 0 (bf i) hi,iY (by rw [bY]; omega),oQ]
theorem iq.more {l cur:List UInt8} {i:Nat} {fr:Int} (h:iq l i fr cur) (E:¬fr < 0) (hi:i < l.length):iq l (i+1) fr (cur++ [l.getD i 0]):=by
 rcases h with ⟨rfl,_⟩ | ⟨k,rfl,A,C,rfl⟩
 · omega
 · exact .inr ⟨k,U,ag,ag,(Ba 0 ag hi).symm⟩
def gr (l:List UInt8):List UInt8:=if 0 < l.length∧l.getD (l.length - 1) 0=13 then l.take (l.length - 1) else l
theorem DD (l:List UInt8):(gr l).length≤l.length:=by unfold gr; split <;> simp
theorem DE {l:List UInt8} (h:0 < l.length) (A:l.getD (l.length - 1) 0=13):gr l=l.take (l.length - 1):=if_pos ⟨h,A⟩
theorem zo {l:List UInt8} (h:¬(0 < l.length∧l.getD (l.length - 1) 0=13)):gr l=l:=if_neg h
theorem EW {l:List UInt8} (h:0 < l.length):l.drop (l.length - 1)= [l.getD (l.length - 1) 0]:=by grind [drop_cons,iY]
def dV:List UInt8→List UInt8→List (List UInt8)
 | cur,[]=>if cur= [] then [] else [gr cur]
 | cur,b::r=>if b=10 then gr cur::dV [] r else dV (cur++ [b]) r
theorem Ah:dV [] []= []:=by simp [dV]
theorem E8 {cur:List UInt8} (h:cur≠[]):dV cur []= [gr cur]:=by simp [dV,h]
theorem E9 (cur r:List UInt8):dV cur (10::r)=gr cur::dV [] r:=by simp [dV]
theorem Ag {cur:List UInt8} {b:UInt8} {r:List UInt8} (h:b≠10):dV cur (b::r)=dV (cur++ [b]) r:=by simp [dV,h]
theorem Af:∀ (l cur:List UInt8),(dV cur l).length≤l.length+1:=by
 intro l
 induction l with
 | nil=>intro cur; unfold dV; split <;> simp
 | cons b r ih=>
   intro cur;unfold dV;split
   · have :=ih []; simp only [cg]; omega
   · have :=ih (cur++ [b]); simp only [cg]; omega
theorem NH (l:List UInt8):(dV [] l).length≤l.length:=by
 cases l with
 | nil=>simp [dV]
 | cons b r=>
   unfold dV;split
   · have :=Af r [];have A:∀ m:List UInt8,(dV [] m).length≤m.length:=by
      intro m
      induction m with
      | nil=>simp [dV]
      | cons c m ih=>
        unfold dV;split
        · simp only [cg]; omega
        · have :=Af m ([]++ [c]); simp only [cg]; omega
     have :=A r;simp only [cg]; omega
   · have :=Af r ([]++ [b]); simp only [cg]; omega
theorem NI:∀ (l cur x:List UInt8),x∈dV cur l→x.length≤cur.length+l.length:=by
 intro l
 induction l with
 | nil=>
   intro cur x h;unfold dV at h;split at h
   · cases h
   · simp only [fv] at h; subst h; have :=DD cur; simp only [fu]; omega
 | cons b r ih=>
   intro cur x h;unfold dV at h;split at h
   · rcases ej.1 h with rfl | h
     · have :=DD cur; omega
     · have :=ih [] x h; simp only [cg,fu] at*; omega
   · have :=ih _ x h; simp only [cg,bo,fu] at*; omega
def fA (c:UInt8) (l:List UInt8):Int:=if l.idxOf c < l.length then (l.idxOf c:Int) else -1
theorem M3 {c:UInt8} {l:List UInt8} (h:fA c l < 0):¬l.idxOf c < l.length:=by grind [fA]
theorem EI {c:UInt8} {l:List UInt8} (h:¬fA c l < 0):fA c l=l.idxOf c∧l.idxOf c < l.length:=by grind [fA]
def ke (c:UInt8) (l:List UInt8):List UInt8:=if fA c l < 0 then l else l.take (l.idxOf c)
def lz (c:UInt8) (l:List UInt8):List UInt8:=if fA c l < 0 then [] else l.drop (l.idxOf c+1)
theorem K9 (c:UInt8) (l:List UInt8):(ke c l).length≤l.length:=by unfold ke; split <;> simp; omega
theorem Lb {c:UInt8} {l:List UInt8} (h:l≠[]):(lz c l).length < l.length:=by
 have :=List.length_pos_iff.2 h;unfold lz; split <;> simp <;> omega
theorem NG:∀ (l cur:List UInt8),l.idxOf 10 < l.length→dV cur l=gr (cur++l.take (l.idxOf 10))::dV [] (l.drop<|l.idxOf 10 +1):=by
 intro l
 induction l with
 | nil=>intro cur h; simp at h
 | cons b r ih=>
   intro cur h;by_cases hb:b=10
   · subst hb;rw [Jc,E9,uZ,kC,du,List.drop_one,List.tail_cons]
   · have A:(b::r).idxOf 10=r.idxOf 10 +1:=by rw [Jb,beq_eq_false_iff_ne.2 hb]; rfl
     rw [A] at h ⊢;simp only [cg] at h;rw [Ag hb,ih _ ag,B8,List.drop_succ_cons,iF];rfl
theorem NJ:∀ (l cur:List UInt8),¬l.idxOf 10 < l.length→cur++l≠[]→dV cur l= [gr (cur++l)]:=by
 intro l
 induction l with
 | nil=>intro cur _ h; rw [kC] at h ⊢; exact E8 h
 | cons b r ih=>
   intro cur h C;by_cases hb:b=10
   · subst hb; rw [Jc] at h; simp at h
   · have A:(b::r).idxOf 10=r.idxOf 10 +1:=by rw [Jb,beq_eq_false_iff_ne.2 hb]; rfl
     rw [A] at h;simp only [cg] at h;rw [Ag hb,ih _ ag (by simp),iF];rfl
theorem NK {l:List UInt8} (h:l≠[]):dV [] l=gr (ke 10 l)::dV [] (lz 10 l):=by
 by_cases A:fA 10 l < 0
 · rw [NJ l [] (M3 A) (by simpa using h)];unfold ke lz;rw [if_pos A,if_pos A,Ah,oQ]
 · rw [NG l [] (EI A).2];unfold ke lz;rw [if_neg A,if_neg A,oQ]
def sm (s p:List UInt8):List UInt8:=if s.take p.length=p then s.drop p.length else s
def oo:List UInt8:= [239,187,191]
def rn (s:List UInt8):Bool:=decide (s.take 3=oo)
def jZ (s:List UInt8):List UInt8:=sm s oo
theorem xO (s:List UInt8):(jZ s).length≤s.length:=by unfold jZ sm; split <;> simp
theorem Q3 {s:List UInt8} (h:rn s=true):jZ s=s.drop 3:=if_pos<|of_decide_eq_true h
theorem Q2 {s:List UInt8} (h:rn s=false):jZ s=s:=if_neg<|of_decide_eq_false h
theorem NT {s:List UInt8} (h:rn s=true):3≤s.length:=by
 have A:=congrArg jC<|of_decide_eq_true h;rw [bY] at A;have :oo.length=3:=rfl;omega
theorem wT (s:List UInt8):rn s=decide (3≤s.length∧(s.getD 0 0).toNat=239∧(s.getD 1 0).toNat=187∧(s.getD 2 0).toNat=191):=by
 unfold rn;refine decide_eq_decide.2 ?_
 match s with
 | []=>simp [oo]
 | [a]=>simp [oo]
 | [a,b]=>simp [oo]
 | a::b::c::r=>
   have h:∀ (x:UInt8) (n:Nat),n < 256→(x=gi n↔x.toNat=n):=fun x n hn=>by
    constructor
    · rintro rfl; simp; omega
    · intro h; apply nO.1; simp; omega
   have I:=h a 239 aJ;have J:=h b 187 aJ;have L:=h c 191 aJ;simp only [oo,B8,uZ,j4,and_true,cg,oP,List.getD_cons_succ];constructor
   · rintro ⟨A,C,E⟩; exact ⟨ag,I.1 A,J.1 C,L.1 E⟩
   · rintro ⟨_,A,C,E⟩; exact ⟨I.2 A,J.2 C,L.2 E⟩
def cy (t:List UInt8):List (List UInt8):=dV []<|jZ t
theorem ri (t:List UInt8):(cy t).length≤t.length:=cR (NH _)<|xO t
theorem Ad {t x:List UInt8} (h:x∈cy t):x.length≤t.length:=by
 have :=NI _ _ _ h;have :=xO t;simp only [fu] at*; omega
def ug (f:List UInt8):Bool:=decide ((f.getD 0 0).toNat=35)
def lH (f:List (List UInt8)):List (List UInt8):=f.takeWhile fun x=> !ug x
def iO (l:List UInt8) (n:Nat):List (Nat×List (List UInt8)):=if lH (bO [] l)= [] then [] else [(n,lH (bO [] l))]
def iQ (n:Nat):List (List UInt8)→List (Nat×List (List UInt8))
 | []=> []
 | l::r=>iO l n++iQ (n+1) r
def eu (t:List UInt8):List (Nat×List (List UInt8)):=iQ 1<|cy t
theorem kW (l:List UInt8):∀ (ls:List (List UInt8)) (n:Nat),iQ n (ls++ [l])=iQ n ls++iO l (n+ls.length):=by
 intro ls
 induction ls with
 | nil=>intro n; simp [iQ]
 | cons a ls ih=>intro n; rw [List.cons_append,iQ,ih,iQ,cg,iF,show n+1 +ls.length=n+(ls.length+1) from by omega]
theorem AU:∀ (ls:List (List UInt8)) (n:Nat),(iQ n ls).length≤ls.length:=by
 intro ls
 induction ls with
 | nil=>intro n; simp [iQ]
 | cons a ls ih=>
   intro n;have :=ih<|n+1;unfold iQ iO;rw [bo];split <;> simp only [fu,cg] <;> omega
theorem Gp (t:List UInt8):(eu t).length≤t.length:=cR (AU _ _)<|ri t
theorem wx {f:List (List UInt8)} :∀ {j:Nat},j≤f.length→(∀ i,i < j→ug (f.getD i [])=false)→(j=f.length∨ug (f.getD j [])=true)→lH f=f.take j:=by
 induction f with
 | nil=>intro j E _ _; rw [List.take_nil]; rfl
 | cons a f ih=>
   intro j E C A;cases j with
   | zero=>
     rcases A with A | A
     · simp at A
     · simp only [oP] at A;simp [lH,A]
   | succ j=>
     have h0:=C 0 ag;simp only [oP] at h0;have :=ih (j:=j) (by simpa using E) (fun i hi=>by simpa using C (i+1) ag)<|by simpa using A
     unfold lH at*;rw [List.takeWhile_cons,h0];simp only [Bool.not_false,if_true,B8];rw [this]
theorem Nd {f:List (List UInt8)} {x:List UInt8} (h:x∈lH f):x∈f:=(Js _).subset h
theorem Nc (f:List (List UInt8)):(lH f).length≤f.length:=(Js _).length_le
theorem O9:∀ (ls:List (List UInt8)) (n:Nat) (r:Nat×List (List UInt8)),r∈iQ n ls→n≤r.1∧r.1 < n+ls.length∧r.2≠[]∧∃ l∈ls,r.2=lH (bO [] l):=by
 intro ls
 induction ls with
 | nil=>intro n r h; cases h
 | cons a ls ih=>
   intro n r h;rw [iQ] at h;rcases List.mem_append.1 h with h | h
   · unfold iO at h;split at h
     · cases h
     · simp only [fv] at h; subst h;exact ⟨by simp,by simp,by assumption,a,by simp,U⟩
   · obtain ⟨I,J,A,l,E,C⟩:=ih _ _ h;exact ⟨ag,by simp only [cg]; omega,A,l,by simp [E],C⟩
theorem Gq {t:List UInt8} {r:Nat×List (List UInt8)} (h:r∈eu t):1≤r.1∧r.1≤t.length∧r.2≠[]∧r.2.length≤t.length+1∧∀ x∈r.2,x≠[]∧x.length≤t.length:=by
 obtain ⟨E,L,I,l,J,A⟩:=O9 _ _ _ h;have O:=ri t;have M:=Ad J;refine ⟨E,ag,I,?_,fun x C=> ?_⟩
 · rw [A]; have :=Nc (bO [] l); have :=tH l []; omega
 · rw [A] at C;have :=zF _ _ _<|Nd C;simp only [fu] at this;exact ⟨this.1,ag⟩
theorem HI {h:Array Obj} {a:Option aW} {l:List UInt8} {i:Nat} (A:aT h a (U8 l)) (hi:i < l.length):Hb.aH h (bk a) (fo a+i*1)=some (.int .u8 (l.getD i 0).toNat):=by
 refine A.vE ?_;unfold U8;rw [gy,cr hi,cQ,cr hi]; rfl
theorem QQ {h:Array Obj} {a:Option aW} {l:List UInt8} (A:aT h a (U8 l)) (n:Nat):aT h a (U8<|l.take n):=by
 have :=A.take n;unfold U8 at*;rwa [Jh]
theorem HJ {l:List UInt8} (h:0 < l.length):U8 l≠[]:=by
 intro e;have :=congrArg jC e;rw [vy,fu] at this;omega
theorem oA {w:ai} {B e:Nat} {v:ah} {l:List UInt8} {x:UInt8} (h:w.ownsRow B e 1 v (l.length+1) (U8 l++ [.int .u8 x.toNat])):w.ownsRow B e 1 v (l++ [x]).length (U8<|l++ [x]):=by
 rw [bo,yP]; exact h
theorem ns {w:ai} {B e:Nat} {v:ah} {l:List (List UInt8)} {x:List UInt8} (h:w.ownsRow B e 1 v (l.length+1) (l.map str++ [str x])):w.ownsRow B e 1 v (l++ [x]).length ((l++ [x]).map str):=by grind
abbrev Rw:Type :=Nat×List (List UInt8)
def A0 (q:Nat×ah):List ah:= [.int .i64 q.1,q.2]
def mB (l:List (Nat×ah)):List ah:=l.flatMap A0
theorem AZ (a b:List (Nat×ah)):mB (a++b)=mB a++mB b:=by simp [mB]
theorem rU {l:List (Nat×ah)} (h:0 < l.length):mB l≠[]:=pq (f:=A0) (m:=2) (fun _=>rfl) aJ h
def JM (h:Array Obj) (q:Nat×ah) (r:Rw):Prop :=q.1=r.1∧∃ fa A,q.2= .slice fa r.2.length A∧bN h fa r.2
def JL (h:Array Obj) (vs:List (Nat×ah)) (rs:List Rw):Prop :=vs.length=rs.length∧∀ (i:Nat) q r,vs[i]? =some q→rs[i]? =some r→JM h q r
theorem rV {h:Array Obj} {ad:Option aW} {vs:List (Nat×ah)} {i:Nat} {q:Nat×ah} (A:aT h ad (mB vs)) (C:vs[i]? =some q):∀ j,j < 2→Hb.aH h (bk ad) (fo ad+i*2 +j)= [bh .i64 q.1,q.2][j]? :=
 nf (f:=A0) (m:=2) (fun _=>rfl) A C
def Tg (w:ai) (B e n:Nat) (v:ah) (xs:List ah):Prop :=
 ∃ a A,v= .slice a n A∧n≤A∧(xs= []∨∃ b cur z,a=some ⟨b,0,none⟩∧B≤b∧w.heap[b]? =some (.cells cur e z)∧∀ (j:Nat) u,xs[j]? =some u→cur[j]? =some u)
theorem Tg.oz {w:ai} {B e size n:Nat} {v:ah} {xs:List ah} (h:w.ownsRow B e size v n xs):Tg w B e n v xs:=by
 have h0:=h;rcases h.2 with ⟨rfl,rfl⟩ | ⟨g,cap,cur,rfl,hb,A,_,_,_,C⟩
 · exact ⟨none,0,U,bf _,.inl<|j5<|by simpa using h.1⟩
 · refine ⟨_,cap,U,(dx h0).1,.inr ⟨g,cur,_,U,hb,A,fun j u hu=> ?_⟩⟩;rw [← C,j6] at hu;split at hu
   · simpa using hu
   · cases hu
theorem Tg.cells {w:ai} {B e n:Nat} {v:ah} {xs:List ah} (h:Tg w B e n v xs):∃ a A,v= .slice a n A∧aT w.heap a xs:=by
 obtain ⟨a,A,rfl,_,h | ⟨b,cur,z,rfl,_,C,E⟩⟩:=h
 · subst h; exact ⟨a,A,rfl,aT.nil _ _⟩
 · refine ⟨_,A,U,fun _=>rfl,fun j u hu=> ?_⟩;show Hb.aH w.heap b (0 +j)=_;rw [du,eB C]; exact E j u hu
theorem Tg.mY {w:ai} {B e n A:Nat} {a:Option aW} {xs:List ah} (h:Tg w B e n (.slice a n A) xs):n≤A∧aT w.heap a xs:=by
 obtain ⟨a',c',E,C,L⟩:=id h;obtain ⟨a2,c2,I,J⟩:=h.cells;cases E; cases I;exact ⟨C,J⟩
theorem Tg.slice {w:ai} {B e n:Nat} {v:ah} {xs:List ah} (h:Tg w B e n v xs):∃ a A,v= .slice a n A:=let ⟨a,A,hv,_⟩:=h; ⟨a,A,hv⟩
theorem Tg.md {F:Nat→Prop} {w w':ai} {B e n:Nat} {v:ah} {xs:List ah} (h:Tg w B e n v xs) (hm:Md F w w') (I:∀ k,F k→∀ cur z,w.heap[k]?≠some (.cells cur e z)):Tg w' B e n v xs:=by
 obtain ⟨a,C,rfl,E,h | ⟨b,cur,z,rfl,hb,A,L⟩⟩:=h
 · exact ⟨a,C,U,E,.inl h⟩
 · exact ⟨_,C,U,E,.inr ⟨b,cur,z,U,hb,by rw [hm.dC b (cx.1 A).1 (fun J=>I b J cur z A)]; exact A,L⟩⟩
theorem Tg.wk {w w':ai} {B e n:Nat} {v:ah} {xs:List ah} (h:Tg w B e n v xs) (hm:Wk w w'):Tg w' B e n v xs:=h.md hm fun _ A=>A.elim
theorem Tg.clip {w:ai} {B e n k C A:Nat} {a:Option aW} {xs:List ah} (h:Tg w B e n (.slice a n C) xs) (E:k≤A):Tg w B e k (.slice a k A) (xs.take k):=by grind [Tg]
theorem ib {w:ai} {B e e' size n:Nat} {v:ah} {xs:List ah} (h:w.ownsRow B e size v n xs) (I:e≠e'):∀ k,v.ownBlock=some k→∀ cur z,w.heap[k]?≠some (.cells cur e' z):=by
 intro k C cur z A;rcases h.2 with ⟨rfl,_⟩ | ⟨g,cap,J,rfl,_,E,_⟩
 · simp [dL] at C
 · simp only [dL,bR] at C;subst C;rw [E] at A;simp only [bR,nH] at A;exact I A.2.1
theorem KB {w:ai} {b e e':Nat} {cs:Array ah} {y:Nat×Nat} (h:w.heap[b]? =some (.cells cs e y)) (A:e≠e'):∀ k,k=b→∀ cur z,w.heap[k]?≠some (.cells cur e' z):=by grind
def fV (w:ai) (B e:Nat) (vs:List (Nat×ah)) (rs:List Rw):Prop :=vs.length=rs.length∧∀ (i:Nat) q r,vs[i]? =some q→rs[i]? =some r→q.1=r.1∧Tg w B e r.2.length q.2 (r.2.map str)
theorem fV.nil (w:ai) (B e:Nat):fV w B e [] []:=⟨rfl,fun i q r A=>by simp at A⟩
theorem fV.md {F:Nat→Prop} {w w':ai} {B e:Nat} {vs:List (Nat×ah)} {rs:List Rw} (h:fV w B e vs rs) (hm:Md F w w') (E:∀ k,F k→∀ cur z,w.heap[k]?≠some (.cells cur e z)):fV w' B e vs rs:=
 ⟨h.1,fun i q r A C=>⟨(h.2 i q r A C).1,(h.2 i q r A C).2.md hm E⟩⟩
theorem fV.wk {w w':ai} {B e:Nat} {vs:List (Nat×ah)} {rs:List Rw} (h:fV w B e vs rs) (hm:Wk w w'):fV w' B e vs rs:=h.md hm fun _ A=>A.elim
theorem fV.snoc {w:ai} {B e n:Nat} {vs:List (Nat×ah)} {rs:List Rw} {v:ah} {r:List (List UInt8)} (ha:fV w B e vs rs) (I:Tg w B e r.length v (r.map str)):fV w B e (vs++ [(n,v)]) (rs++ [(n,r)]):=by
 refine ⟨by rw [bo,bo,ha.1]; rfl,fun i q' r' A C=> ?_⟩;have E:=ha.1;by_cases hi:i < vs.length
 · rw [eR hi] at A;rw [eR ag] at C;exact ha.2 i q' r' A C
 · rw [eC ag] at A;rw [eC ag,← E] at C;cases hj:i - vs.length with
   | zero=>rw [hj] at A C; cases A; cases C; exact ⟨rfl,I⟩
   | succ j=>rw [hj] at A; simp at A
theorem Tg.mono {w:ai} {B B' e n:Nat} {v:ah} {xs:List ah} (h:Tg w B e n v xs) (A:B'≤B):Tg w B' e n v xs:=by grind [Tg]
theorem fV.mono {w:ai} {B B' e:Nat} {vs:List (Nat×ah)} {rs:List Rw} (h:fV w B e vs rs) (E:B'≤B):fV w B' e vs rs:=⟨h.1,fun i q r A C=>⟨(h.2 i q r A C).1,(h.2 i q r A C).2.mono E⟩⟩
theorem fV.all {w:ai} {B e:Nat} {vs:List (Nat×ah)} {rs:List Rw} (h:fV w B e vs rs):JL w.heap vs rs:=by
 refine ⟨h.1,fun i q r C E=> ?_⟩;obtain ⟨I,J⟩:=h.2 i q r C E;obtain ⟨a,A,M,L⟩:=J.cells;exact ⟨I,a,A,M,L⟩
def gN (b:UInt8):Bool:=decide (33≤b.toNat∧b.toNat≠127)
def gK (w:List UInt8):Bool:=w.all gN
def dK (w:List UInt8):Bool:=decide (1≤w.length∧w.length≤64∧gK w=true)
theorem gO {α:Type} {l:List α} {i:Nat} {d:α} (h:i < l.length):l.getD i d∈l:=by
 rw [cQ,cr h]; exact List.getElem_mem h
theorem N1 {α:Type} {l:List α} {x:α} (d:α) (h:x∈l):∃ i,i < l.length∧l.getD i d=x:=by
 obtain ⟨i,hi,rfl⟩:=List.mem_iff_getElem.1 h;exact ⟨i,hi,by rw [cQ,cr hi]; rfl⟩
theorem Cr {α:Type} {f:α→Bool} {l:List α} {i:Nat} (d:α) (h:i < l.length) (A:f (l.getD i d)=false):l.all f=false :=by
 rw [List.all_eq_false]; exact ⟨_,gO h,by rw [A]; exact dS⟩
theorem Ct {α:Type} {f:α→Bool} {l:List α} (d:α) (h:∀ i,i < l.length→f (l.getD i d)=true):l.all f=true :=by
 rw [IZ]; intro x A; obtain ⟨i,hi,rfl⟩:=N1 d A; exact h i hi
theorem tq {w:List UInt8} {i:Nat} (h:i < w.length) (A:gN (w.getD i 0)=false):gK w=false :=Cr 0 h A
theorem vG {w:List UInt8} (h:∀ i,i < w.length→gN (w.getD i 0)=true):gK w=true :=Ct 0 h
def jS (b:UInt8):Bool:=decide (b.toNat=92∨b.toNat=47∨b.toNat=35)
abbrev vw:Type :=List UInt8×List UInt8×Bool×Nat
def Gf (r:vw):ah:= .tuple #[str r.1,str r.2.1,.bool r.2.2.1,.int .i64 r.2.2.2]
def fq:List UInt8→List UInt8→vw
 | acc,[]=>(acc,[],false,0)
 | acc,[b]=>if b.toNat=47 then (acc,[],true,0) else if b.toNat=92 then ([],[],false,20) else (acc++ [b],[],false,0)
 | acc,b::c::l=>if b.toNat=47 then (acc,c::l,true,0) else if b.toNat=92 then (if jS c=true then fq (acc++ [c]) l else ([],[],false,20)) else fq (acc++ [b]) (c::l)
theorem x7 (acc:List UInt8):fq acc []=(acc,[],false,0):=by simp [fq]
theorem x8 {acc l:List UInt8} {b:UInt8} (h:b.toNat=47):fq acc (b::l)=(acc,l,true,0):=by
 cases l <;> simp [fq,h]
theorem xX {acc:List UInt8} {b:UInt8} (h:b.toNat=92):fq acc [b]=([],[],false,20):=by simp [fq,h]
theorem xY {acc l:List UInt8} {b c:UInt8} (h:b.toNat=92) (A:jS c=false):fq acc (b::c::l)=([],[],false,20):=by simp [fq,h,A]
theorem su {acc l:List UInt8} {b c:UInt8} (h:b.toNat=92) (A:jS c=true):fq acc (b::c::l)=fq (acc++ [c]) l:=by simp [fq,h,A]
theorem xZ {acc l:List UInt8} {b:UInt8} (h:¬b.toNat=47) (A:¬b.toNat=92):fq acc (b::l)=fq (acc++ [b]) l:=by
 cases l <;> simp [fq,h,A]
theorem RA (n:Nat):∀ (l acc:List UInt8),l.length≤n→(fq acc l).1.length≤acc.length+l.length∧(fq acc l).2.1.length≤l.length:=by
 induction n with
 | zero=>intro l acc h; obtain rfl :=j5 (by omega :l.length=0); rw [x7]; exact ⟨by simp,by simp⟩
 | succ n ih=>
   intro l acc h;cases l with
   | nil=>rw [x7]; exact ⟨by simp,by simp⟩
   | cons b l=>
     simp only [cg] at h ⊢;by_cases C:b.toNat=47
     · rw [x8 C]; exact ⟨by simp only; omega,by simp only; omega⟩
     · by_cases A:b.toNat=92
       · cases l with
         | nil=>rw [xX A]; exact ⟨by simp,by simp⟩
         | cons c l=>
           simp only [cg] at h ⊢;cases hc:jS c
           · rw [xY A hc]; exact ⟨by simp,by simp⟩
           · rw [su A hc];have :=ih l (acc++ [c]) ag;rw [bo,dE] at this;omega
       · rw [xZ C A];have :=ih l (acc++ [b]) ag;rw [bo,dE] at this;omega
def iC (f:List UInt8):vw:=fq [] f
theorem H8 (f:List UInt8):(iC f).1.length≤f.length∧(iC f).2.1.length≤f.length:=by
 have :=RA f.length f []<|bf _;simpa [iC] using this
def eH (w:List UInt8):List UInt8:=w.flatMap fun b=>if jS b=true then [92,b] else [b]
theorem sA {w:List UInt8} {i:Nat} (h:i < w.length):eH (w.take<|i+1)=eH (w.take i)++(if jS (w.getD i 0)=true then [92,w.getD i 0] else [w.getD i 0]):=by
 rw [ie w i 0 h]; simp [eH]
theorem sw (w:List UInt8):(eH w).length≤2 *w.length:=by
 induction w with
 | nil=>simp [eH]
 | cons b w ih=>
   have h:eH (b::w)=(if jS b=true then [92,b] else [b])++eH w:=rfl;rw [h,bo,cg];split <;> simp only [cg,fu] <;> omega
def lets (s:List UInt8):List UInt8:=s.foldl (fun a b=>if b∈a then a else a++ [b]) []
def letE (s:List UInt8):List UInt8×Nat:=if s= []∨gK s=false then ([],21) else (lets s,0)
theorem om {s:List UInt8} {i:Nat} (h:i < s.length):lets (s.take<|i+1)=if s.getD i 0∈lets (s.take i) then lets (s.take i) else lets (s.take i)++ [s.getD i 0]:=by
 unfold lets;rw [ie s i 0 h,List.foldl_append]; rfl
theorem Ab (s:List UInt8):(lets s).length≤s.length:=by
 have key:∀ (s a:List UInt8),(s.foldl (fun a b=>if b∈a then a else a++ [b]) a).length≤a.length+s.length:=by
  intro s
  induction s with
  | nil=>intro a; simp
  | cons b s ih=>
    intro a;rw [uV,cg];split
    · have :=ih a; omega
    · have :=ih (a++ [b]); rw [bo,dE] at this; omega
 have :=key s [];simpa [lets] using this
def marksOf (a:List UInt8):List ah:=(nL 256).map fun k=> .bool<|decide (gi k∈a)
theorem Fl (a:List UInt8):(marksOf a).length=256:=by simp [marksOf]
theorem NV (a:List UInt8) (b:UInt8):(marksOf a)[b.toNat]? =some (.bool<|decide (b∈a)):=by
 have :=oW b;unfold marksOf;rw [gy,yu ag];simp
theorem NX (a:List UInt8) (b:UInt8):(marksOf a).set b.toNat (.bool true)=marksOf (a++ [b]):=by
 apply yt;intro k;rw [List.getElem?_set,Fl];unfold marksOf;rw [gy,gy];by_cases C:k < 256
 · rw [yu C];simp only [fg];have he:(gi k=b)↔b.toNat=k:=by
    constructor
    · rintro rfl; simp; omega
    · rintro rfl; simp
   by_cases h:b.toNat=k
   · have A:=he.2 h;simp [h,C,A]
   · have A:¬gi k=b:=fun e=>h<|he.1 e;simp [h,A]
 · have :(nL 256)[k]? =none:=qy<|by simp; omega
   have hb:=oW b;rw [this];simp; omega
theorem NW:marksOf []=eM 256 (.bool false):=by
 unfold marksOf;apply yt;intro k;rw [gy,List.getElem?_replicate];by_cases A:k < 256
 · rw [yu A]; simp [A]
 · rw [qy (by simp; omega)]; simp [A]
theorem Bd.new {T e b:Nat} {w:ai} (h:w.heap[b]? =some (.cells [cZ none,.slice none 0 0].toArray T (0,0))):Bd T e w b (.slice none 0 0) []:=
 ⟨⟨none,h,.inl rfl⟩,eL _ _ _ _,by simp⟩
theorem Bd.step {T e b:Nat} {w0 w w':ai} {A:ah} {l:List UInt8} (h:Bd T e w b A l) (C:Wk w0 w) (E:Md (BF b A) w w') (hb:w0.heap.size≤b):Wk w0 w':=
 Md.trans' C E fun k J I=>by have :=h.wi I; omega
theorem Bd.uv {T e b:Nat} {w0 w w':ai} {A:ah} {l:List UInt8} (h:Bd T e w b A l) (C:Wk w0 w) (E:Md (fun k=>A.ownBlock=some k) w w') (hb:w0.heap.size≤b):Wk w0 w':=
 Md.trans' C E fun k J I=>by have :=h.wi (.inr I); omega
end Go.Hb
