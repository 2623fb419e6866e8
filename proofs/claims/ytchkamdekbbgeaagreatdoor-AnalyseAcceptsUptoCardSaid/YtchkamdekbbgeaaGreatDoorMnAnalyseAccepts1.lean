/-
  Walks and plain laws that the law rests on, laid together. No conditions but those that each theorem names.
-/
import Derived.WalkKit
import Derived.OrdersHeld
import Derived.TacticsIn
import Derived.Lib.Strings
import Derived.Lib.UnsafeStr
import Derived.Laws.MakeOwn
import Derived.Laws.StructEq
import Derived.SliceStrings
import Derived.Carry
import Derived.JoinedCond
import Derived.ProofKit
import Derived.OpenShut
import Derived.Test.YtchkamdekbbgeaaGreatDoorRows
import Derived.Test.YtchkamdekbbgeaaGreatDoorChecked
import Derived.Sort.AssemblyPlain
import Derived.RangeFuncFrom
import Derived.RangeFuncLeaves
import Derived.Recover
import Derived.Laws.OwnMore
import Derived.Lib.Bytealg
import Derived.Lib.SliceRun
import Derived.OrdersIn
import Derived.Maps.RangeRun
import Derived.Shelf.Slices.In.SortAlone
import Derived.Shelf.Slices.In.SortNone
import Derived.Sort.OwnSortedInts
import Derived.Sort.EveryDepth
import Derived.Shelf.SlSortCmp.NoneTotal
import Derived.Sort.OwnSorted
import Derived.Sort.Walk0
set_option linter.unusedVariables false
set_option maxRecDepth 20000
set_option maxHeartbeats 1000000
open Array renaming ext_getElem?→LL,getD_eq_getD_getElem?→DU,getElem?_eq_getElem→xh,getElem?_eq_none→ti,getElem?_eq_some_iff→dD,getElem?_setIfInBounds→DV,getElem?_toList→zL,length_toList→xi,mem_toList_iff→xj,range→q5,replicate→uQ,setIfInBounds_comm→DW,toArray_toList→zM,toList_append→LO,toList_inj→zO,toList_map→nK
open BitVec renaming ofInt→gI
open Bool renaming and_eq_true→il,and_eq_true_iff→uR,eq_iff_iff→sg,noConfusion→dM,not_eq_true'→xk,or_eq_true→DZ
open Go renaming Addr→bF,Code→jq,Edge→fO,Exit→dG,FuncId→iz,IntKind→ew,Oper→cg,Operand→ek,Program→bH,TypeId→bB,Value→ag,World→ak
open Go.Addr renaming add→zQ
open Go.Builtin renaming append_→zR,firstCells→LS,lenOf→LU,len_→LV
open Go.Calls renaming mono→mm
open Go.Conv renaming bytesToString→LY,seenAt→LZ,unsafePointer→L0
open Go.DataW renaming TrodAll→L1
open Go.Deferred renaming ofValue→sh
open Go.Fence renaming wide→q6
open Go.Instr renaming alloc→L7,buildSlice→D1,checkKey→pw,fill→nL,findKey→tq,loadAt→Ma,lookup→Mb,slice→xn,sliceAt→tu,sliceBound→tv,sliceBounds→qc,storeAt→D6,sureAddr→si
open Go.IntKind renaming i64→zS,u64→eU
open Go.Next renaming value→D7
open Go.Obj.cells renaming injEq→D8
open Go.Op renaming equal→D9,equalIn→q7,intArith→xo,intBits→Ea,intCmp→uT,stringOp→Eb
open Go.Oper renaming upon→mo,uponIn→zT,wp→kr
open Go.Proofs.Tryz renaming prog→az
open Go.Region renaming Mode→tw,binds→lA,free_spec→Ed,noSelect_spec→Ee,ready→k5,wanted→sn
open Go.Result renaming andThen_ok→oE,ok→Ef
open Go.Sem renaming run_bind→oF,run_ite→Eh,run_pure→q8
open Go.Value renaming bool→bR,cells→sw,int→gq,oneCell'→fX,ownBlock→jS,slice→bQ
open Go.Value.slice renaming injEq→mq
open Go.Value.string renaming inj→Mq
open Go.World renaming cell?→Ms,freeze→xu,setCell→zW,shape?→En
open List renaming all_cons→uX,all_eq_true→lV,any_eq_true→xv,append_assoc→eX,append_nil→ez,drop_append→MA,drop_eq_nil_of_le→iR,drop_of_length_le→MD,eq_nil_of_length_eq_zero→fY,flatMap_cons→kt,foldl_append→z8,foldl_cons→sy,getD_cons_zero→lW,getD_eq_getElem?_getD→cH,getElem?_append_left→mX,getElem?_append_right→nN,getElem?_cons_succ→MO,getElem?_eq_getElem→bY,getElem?_eq_none→tB,getElem?_eq_some_iff→ff,getElem?_map→fJ,getElem?_take→oG,idxOf_cons→uZ,idxOf_cons_self→MT,length→jr,length_append→bG,length_cons→cC,length_nil→gr,length_take→dJ,mapM_toArray→xx,map_cons→pF,map_take→Af,mem_append_left→Ag,mem_cons→fi,mem_map→je,mem_map_of_mem→tC,mem_of_getElem?→gB,mem_singleton→iS,nil_append→qj,replicate→ku,size_toArray→ql,takeWhile_sublist→M2,take_nil→M4,take_succ_cons→qm,take_zero→pH,zipIdx_cons→Ak
open List.cons renaming inj→My,injEq→Eo
open Nat renaming add_assoc→M6,add_sub_cancel→tE,beq→lX,ble→oH,blt→gu,eq_of_beq_eq_true→vb,le_of_ble_eq_true→sA,le_refl→cE,le_trans→e7,lt_of_lt_of_le→vd,lt_or_ge→fG,lt_succ_self→tF,mul_le_mul_right→qo,succ_mul→ri,zero_add→im,zero_mul→EC
open Option renaming bind_some→rj,isSome_iff_exists→nP,map_eq_some_iff→mZ,map_some→lB
open Option.some renaming injEq→gJ
open Prod renaming fst→gU,snd→my
open UInt8 renaming ofNat→ky,toNat_inj→lC
open Go.Proofs.Tryz
open Go.RowKit

namespace Go.Hb
theorem ab {p:Prop} (h:p:=by omega):p:=h
theorem aj {p:Prop} (h:p:=by kernel_rfl):p:=h
theorem aw {p:Prop} (h:p:=by decide):p:=h
theorem aa {α:Sort _} {a:α} :a=a:=rfl
end Go.Hb
section
namespace Go.Hb
structure Fm where
 n:Nat
 D:List Deferred
 F:List Nat
 r:Option Nat
def cU (σ:Nat→ag) (d:Nat) (v:ag):Nat→ag:=fun i=>cond (lX i d) v<|σ i
def gy (σ:Nat→ag):Option Nat→ag→Nat→ag
 | some d,v=>cU σ d v
 | none,_=>σ
def act (N:Fm) (σ:Nat→ag):Act:=⟨((List.range N.n).map σ).toArray,N.D⟩
def ev (N:Fm) (σ:Nat→ag):ek→ag
 | .tmp t=>cond (gu t N.n) (σ t) undef
 | .const v=>v
 | .global g=> .pointer<|some ⟨g,0,none⟩
 | .func f=> .func (.func f) #[] #[]
theorem qy (N:Fm) (σ:Nat→ag) (t:Nat):(act N σ).tmps[t]? =if t < N.n then some (σ t) else none:=by
 simp only [act,List.getElem?_toArray,fJ];split
 · rename_i h; rw [List.getElem?_range h]; rfl
 · rename_i h; rw [tB (by simpa using h)]; rfl
theorem jv (N:Fm) (σ:Nat→ag):(act N σ).eval=ev N σ:=by
 funext x;cases x with
 | tmp t=>
   simp only [Act.eval,ev,DU,qy];by_cases h:t < N.n
   · rw [if_pos h,show gu t N.n=true from by simpa using h]; rfl
   · rw [if_neg h,show gu t N.n=false from by cases hx:gu t N.n <;> simp_all [gu,Nat.ble_eq] <;> omega]; rfl
 | _=>rfl
theorem xH {a b:Act} (hd:a.defers=b.defers) (A:∀ i:Nat,a.tmps[i]? =b.tmps[i]?):a=b:=by
 cases a; cases b;simp only at hd A;subst hd;congr 1;exact LL A
theorem k9 (N:Fm) (σ:Nat→ag) (dst:Option Nat) (v:ag):(act N σ).put dst v=act N (gy σ dst v):=by
 cases dst with
 | none=>rfl
 | some d=>
   refine xH aa fun i=> ?_;have E:((act N σ).put (some d) v).tmps=(act N σ).tmps.setIfInBounds d v:=rfl;rw [E,DV,qy,qy];have hs:(act N σ).tmps.size=N.n:=by simp [act]
   simp only [gy,cU];by_cases C:i=d
   · subst C;rw [hs];have A:lX i i=true :=by simp
     by_cases h:i < N.n
     · rw [if_pos rfl,if_pos h,if_pos h,A]; rfl
     · rw [if_pos rfl,if_neg h,if_neg h]
   · rw [if_neg (fun e=>C e.symm)];have A:lX i d=false :=by
      cases hx:lX i d
      · rfl
      · exact absurd (vb hx) C
     rw [A]; rfl
theorem p6 {σ:Nat→ag} {i:Nat} {v:ag} (h:σ i=v):cU σ i v=σ:=by
 funext j;unfold cU;cases hx:lX j i
 · rfl
 · have :=vb hx; subst this; exact h.symm
def lift (N:Fm) (Q:dG→(Nat→ag)→ak→Prop):dG→Act→ak→Prop
 | .panic c,a,w=> ∃ σ,a=act N σ∧∀ σ',(∀ i∈N.F,σ' i=σ i)→Q (.panic c) σ' w
 | .outgrown,_,_=>False
 | e,a,w=> ∃ σ,a=act N σ∧Q e σ w
def fe:Option Nat→Fence
 | none=>q6
 | some l=>q6.inRound l
theorem Bl (r:Option Nat):(fe r).round=r:=by cases r <;> rfl
theorem ye (r:Option Nat) (f:iz):(fe r).fn f:=by cases r <;> trivial
theorem vK (r:Option Nat):(fe r).depth=none:=by cases r <;> rfl
theorem GZ {r:Option Nat} {n:Nat} {P:bH} {f:iz} {args:Array ag} {w:ak} {R:Ending→ak→Prop} (h:Calls P f args w R):CallsIn (fe r) n P f args w R:=by
 cases r
 · exact callsIn_wide.2 h
 · exact (callsIn_wide (n:=n)).2 h
theorem G0 {r:Option Nat} {n:Nat} {P:bH} {row:String} {args:Array ag} {w:ak} {R:ag→ak→Prop} (h:Rows P row args w R):RowsIn (fe r) n P row args w R:=fun c cs _=>by
 obtain ⟨v,w',A,hs⟩:=h c cs;refine ⟨v,w',A,?_⟩;cases r
 · exact stepsIn_wide.2 hs
 · exact stepsIn_wide.2 hs
def Jk (ops:List cg):Bool:=ops.all fun o=>match o.op with | .defer _=>false | _=>true
def pX (r:Option Nat) (ops:List cg):Bool:=match r with | none=>true | some _=>Jk ops
theorem Vr {l:List cg} (h:Jk l=true):∀ o∈l,∀ c,o.op≠.defer c:=fun o A c e=>by
 have :=lV.1 h o A;rw [e] at this;cases this
theorem BZ {r:Option Nat} {P:bH} {ops:Array cg} {Q:dG→Act→ak→Prop} (E:¬LetsOut Q) (G:pX r ops.toList=true):∀ (l:List Nat) (a:Act) (w:ak),wpOps P ops Q l a w→wpOpsIn (fe r) 0 P ops Q l a w:=by
 intro l
 induction l with
 | nil=>exact fun _ _ h=>h
 | cons i l C=>
   intro a w h;simp only [wpOps] at h;simp only [wpOpsIn];cases ho:ops[i]? with
   | none=>simp only [ho] at h ⊢; exact C a w h
   | some o=>
     simp only [ho] at h ⊢;by_cases hw:sn o (yielded ops a.tmps)=true
     · rw [if_pos hw] at h ⊢;rcases h with h | h
       · refine ⟨fun f _=>ye r f,?_⟩;rw [Bl];have I:o.semAt r a.eval=execOp a.eval o:=by
          cases r with
          | none=>rfl
          | some k=>exact Oper.semAt_eq _ _ _<|Vr G o<|xj.2<|Array.mem_of_getElem? ho
         rw [I];unfold kr at h;generalize (execOp a.eval o).run P w=x at h;cases x with
         | ok n w'=>
           cases n <;> simp only [mo,zT] at h ⊢ <;>
            first
             | exact C _ _ h
             | (refine ⟨fun A=>(by rw [vK] at A; cases A),CallsIn.mono (GZ h) fun e w'' he=> ?_⟩
                cases e <;> first | exact C _ _ he | exact he)
             | exact ⟨fun A=>(by rw [vK] at A; cases A),RowsIn.mono (G0 h) fun v w'' he=>C _ _ he⟩
         | halt x w'=>cases x <;> simp only [mo,zT] at h ⊢ <;> exact h
       · exact absurd h.2 E
     · rw [if_neg hw] at h ⊢;exact ⟨fun f _=>ye r f,C _ _ h⟩
def dA (P:bH) (N:Fm) (c:jq) (Q:dG→(Nat→ag)→ak→Prop) (σ:Nat→ag) (w:ak):Prop :=
 c.wpIn (fe N.r) 0 P (lift N Q) (act N σ) w
def ej (P:bH) (N:Fm) (ops:Array cg) (Q:dG→(Nat→ag)→ak→Prop) (l:List cg) (σ:Nat→ag) (w:ak):Prop :=
 wpList P ops (lift N Q) l (act N σ) w
def mj (K:(Nat→ag)→ak→Prop) (Q:dG→(Nat→ag)→ak→Prop):dG→(Nat→ag)→ak→Prop
 | .normal,σ,w=>K σ w
 | e,σ,w=>Q e σ w
def qI (id:Nat) (Q:dG→(Nat→ag)→ak→Prop):dG→(Nat→ag)→ak→Prop
 | .exit A,σ,w=>if A=id then Q .normal σ w else Q (.exit A) σ w
 | e,σ,w=>Q e σ w
section
variable {P:bH} {N:Fm} {Q:dG→(Nat→ag)→ak→Prop} {σ:Nat→ag} {w:ak} {K:(Nat→ag)→ak→Prop}
theorem Uv {Q E:dG→(Nat→ag)→ak→Prop} (h:∀ e σ w,Q e σ w→E e σ w) (e:dG) (a:Act) (w:ak):lift N Q e a w→lift N E e a w:=by
 cases e <;> first | exact fun h=>h.elim | exact fun ⟨σ,A,C⟩=>⟨σ,A,h _ _ _ C⟩ | exact fun ⟨σ,A,C⟩=>⟨σ,A,fun σ' G=>h _ _ _<|C σ' G⟩
theorem Lz {A:dG→(Nat→ag)→ak→Prop} {c:jq} (h:∀ e σ w,Q e σ w→A e σ w) (C:dA P N c Q σ w):dA P N c A σ w:=
 wpIn_mono C (Uv h)
theorem tn (h:K σ w):mj K Q .normal σ w:=h
theorem te (id:Nat) (h:Q (.exit id) σ w):mj K Q (.exit id) σ w:=h
theorem tr (h:Q .ret σ w):mj K Q .ret σ w:=h
theorem bn {id:Nat} (h:Q .normal σ w):qI id Q .normal σ w:=h
theorem be {id:Nat} (h:Q .normal σ w):qI id Q (.exit id) σ w:=by simpa only [qI,if_true] using h
theorem Oa {id A:Nat} (C:A≠id) (h:Q (.exit A) σ w):qI id Q (.exit A) σ w:=by simpa only [qI,if_neg C] using h
theorem br {id:Nat} (h:Q .ret σ w):qI id Q .ret σ w:=h
theorem sq {x y:jq} (h:∀ K:(Nat→ag)→ak→Prop,(∀ σ w,dA P N y Q σ w→K σ w)→dA P N x (mj K Q) σ w):dA P N (.seq x y) Q σ w:=by
 refine wpIn_seq<|wpIn_mono (h (fun σ w=>dA P N y Q σ w) fun _ _ h=>h) ?_;intro e a w A;cases e with
 | normal=>obtain ⟨σ,rfl,C⟩:=A; exact C
 | panic c=>exact A
 | outgrown=>exact A
 | _=>obtain ⟨σ,rfl,C⟩:=A; exact ⟨σ,rfl,C⟩
theorem ei {x y:jq} (A:(Nat→ag)→ak→Prop) (h:dA P N x (mj A Q) σ w) (hk:∀ σ w,A σ w→dA P N y Q σ w):dA P N (.seq x y) Q σ w:=
 sq fun _ E=>Lz (fun e _ _ C=>by cases e <;> first | exact E _ _ (hk _ _ C) | exact C) h
theorem ct {c:ek} {x y:jq} (A:ev N σ c= .bool true) (h:dA P N x Q σ w):dA P N (.cond c x y) Q σ w:=
 wpIn_cond_true (by rw [jv]; exact A) h
theorem cf {c:ek} {x y:jq} (A:ev N σ c= .bool false) (h:dA P N y Q σ w):dA P N (.cond c x y) Q σ w:=
 wpIn_cond_false (by rw [jv]; exact A) h
theorem cb {c:ek} {x y:jq} {b:Bool} (A:ev N σ c= .bool b) (E:b=true→dA P N x Q σ w) (C:b=false→dA P N y Q σ w):dA P N (.cond c x y) Q σ w:=by
 cases b
 · exact cf A<|C aa
 · exact ct A<|E aa
theorem cd {c:ek} {x y:jq} {p:Prop} [Decidable p] (A:ev N σ c= .bool (decide p)) (E:p→dA P N x Q σ w) (C:¬p→dA P N y Q σ w):dA P N (.cond c x y) Q σ w:=
 cb A (fun h=>E<|of_decide_eq_true h) (fun h=>C<|of_decide_eq_false h)
theorem bl {id:Nat} {c:jq} (h:dA P N c (qI id Q) σ w):dA P N (.block id c) Q σ w:=by
 refine wpIn_block<|wpIn_mono h ?_;intro e a w C;cases e with
 | panic c=>exact C
 | outgrown=>exact C
 | exit E=>
   obtain ⟨σ,rfl,A⟩:=C;simp only [qI,Exit.inBlock] at A ⊢;split
   · rename_i e; rw [if_pos e] at A; exact ⟨σ,rfl,A⟩
   · rename_i e; rw [if_neg e] at A; exact ⟨σ,rfl,A⟩
 | _=>obtain ⟨σ,rfl,A⟩:=C; exact ⟨σ,rfl,A⟩
theorem ext {id:Nat} (h:Q (.exit id) σ w):dA P N (.exit id) Q σ w:=wpIn_exit ⟨σ,rfl,h⟩
theorem Ku (h:Q .normal σ w):dA P N .skip Q σ w:=wpIn_skip ⟨σ,rfl,h⟩
theorem rt (h:Q .ret σ w):dA P N .ret Q σ w:=wpIn_ret ⟨σ,rfl,h⟩
theorem fx {c:jq} {v:ag} (i:Nat) (h:σ i=v) (A:dA P N c Q (cU σ i v) w):dA P N c Q σ w:=by rw [p6 h] at A; exact A
def Sl (σ:Nat→ag) (L:List (Nat×ag)):Prop :=L.map (fun p=>σ p.1)=L.map (fun p=>p.2)
def zB (σ:Nat→ag):List (Nat×ag)→Nat→ag
 | []=>σ
 | p::L=>cU (zB σ L) p.1 p.2
theorem Lk {σ:Nat→ag} :∀ {L:List (Nat×ag)},Sl σ L→zB σ L=σ
 | [],_=>rfl
 | p::L,h=>by
   have h1:σ p.1=p.2:=(My h).1;have h2:Sl σ L:=(My h).2;rw [zB,Lk h2,p6 h1]
theorem bA {c:jq} {L:List (Nat×ag)} (h:Sl σ L) (A:dA P N c Q (zB σ L) w):dA P N c Q σ w:=by rw [Lk h] at A; exact A
theorem lp {c:jq} (J:Nat→(Nat→ag)→ak→Prop) (n:Nat) (ah:J n σ w)
 (h:∀ n σ w,J n σ w→dA P N c (mj (fun σ' w'=> ∃ m,m < n∧J m σ' w') Q) σ w):dA P N (.loop c) Q σ w:=by
 intro b k cs an V Y;have key:∀ n σ w,J n σ w→
  ∃ e O w',lift N Q e O w'∧ArrivesIn (Machine.fenced P<|fe N.r) P (lone (b.atR (act N σ) (.code c:: .inLoop c::k)) cs w) b k cs e O w':=by
  intro n
  induction n using Nat.strongRecOn with
  | _ n ao=>
    intro σ w ai;obtain ⟨e,Z,I,G,C⟩:=h n σ w ai b (.inLoop c::k) cs an V Y;cases e with
    | normal=>
      obtain ⟨A,rfl,m,hm,aj⟩:=G;obtain ⟨ae,ab,ap,am,al⟩:=ao m hm A I aj;exact ⟨ae,ab,ap,am,.of_steps (StepsIn.trans C<|.one (fenced_calm V Y aa) stepR_inLoop) al⟩
    | exit id=>obtain ⟨A,rfl,E⟩:=G; exact ⟨.exit id,act N A,I,⟨A,rfl,E⟩,.pass (x:= .inLoop c) rfl (fun _ _=> .inl<|by simp) C⟩
    | goto l=>obtain ⟨A,rfl,E⟩:=G; exact ⟨.goto l,act N A,I,⟨A,rfl,E⟩,.pass (x:= .inLoop c) rfl (fun _ _=> .inl<|by simp) C⟩
    | ret=>obtain ⟨A,rfl,E⟩:=G; exact ⟨.ret,act N A,I,⟨A,rfl,E⟩,.pass (x:= .inLoop c) rfl (fun _ _=> .inl<|by simp) C⟩
    | panic ac=>exact ⟨.panic ac,Z,I,G,.pass (x:= .inLoop c) rfl (fun _ _=> .inl<|by simp) C⟩
    | outgrown=>exact G.elim
 obtain ⟨e,O,w',E,C⟩:=key _ σ w ah;exact ⟨e,O,w',E,.of_steps (.one (fenced_calm V Y aa) stepR_loop) C⟩
def dI (P:bH) (N:Fm) (o:cg) (σ:Nat→ag) (w:ak) (K:(Nat→ag)→ak→Prop):Prop :=
 kr P o (act N σ) w (fun a w=> ∃ σ,a=act N σ∧K σ w) (fun _ _ _=>False)
theorem YZ {o:cg} {a:Act} {K C:Act→ak→Prop} {Q:dG→Act→ak→Prop} (h:∀ a w,K a w→C a w)
 (r:Result Next) (A:o.upon P a K (fun _ _ _=>False) r):o.upon P a C Q r:=by
 cases r with
 | ok n w'=>
   cases n <;> simp only [mo] at A ⊢ <;>
    first
     | exact h _ _ A
     | exact mm A (fun e w'' he=>by
      cases e with
      | returned v=>exact h _ _ he
      | panicked c=>exact he.elim
      | outgrown=>obtain ⟨_,_,E⟩:=he; exact E.elim)
     | exact Rows.mono A fun _ _ he=>h _ _ he
 | halt x w'=>cases x <;> simp only [mo] at A ⊢
theorem uK {K:(Nat→ag)→ak→Prop} {A:Act→ak→Prop} {Q:dG→Act→ak→Prop} {o:cg} (h:dI P N o σ w K) (hk:∀ σ w,K σ w→A (act N σ) w):o.wp P (act N σ) w A Q:=by
 unfold dI at h;unfold kr at*;exact YZ (fun a w ⟨σ,E,C⟩=>by subst E; exact hk _ _ C) _ h
theorem LB {K A:(Nat→ag)→ak→Prop} {o:cg} (h:dI P N o σ w K) (hk:∀ σ w,K σ w→A σ w):dI P N o σ w A:=
 uK h (fun σ w C=>⟨σ,rfl,hk σ w C⟩)
variable {ops:Array cg} {rest:List cg} {d:Nat} {op:Op} {ty:bB} {pos :String} {af:Array fO} {d':Option Nat} {v:ag} {o:cg}
theorem zE (A:sn o (yielded ops (act N σ).tmps)=true) (h:dI P N o σ w (fun σ w=>ej P N ops Q rest σ w)):ej P N ops Q (o::rest) σ w:=by
 unfold ej wpList;rw [if_pos A];exact .inl<|uK h fun _ _ hk=>hk
theorem mW {K:(Nat→ag)→ak→Prop} {w':ak} (A:(execOp (ev N σ) o).run P w= .ok (.value v) w') (hk:K (gy σ o.dst v) w'):dI P N o σ w K:=by
 unfold dI kr;rw [jv,A];exact ⟨_,k9 ..,hk⟩
theorem kM (o:cg) (A:o.guard=none) (y:Nat→Option Bool):sn o y=true :=by simp [sn,A]
def j0 (ops:Array cg) (j:Nat):Option Nat:=(ops[j]?).bind (·.dst)
theorem uI {j t:Nat} {want b:Bool} (C:o.guard=some (j,want)) (A:j0 ops j=some t) (E:gu t N.n=true) (G:σ t= .bool b):
 sn o (yielded ops (act N σ).tmps)=(b==want):=by
 have h1:yielded ops (act N σ).tmps j=some b:=by
  unfold yielded;unfold j0 at A;rw [A];simp only [rj,qy];rw [if_pos (vd (tF t)<|sA E),G]
 simp only [sn,C,h1];cases b <;> cases want <;> rfl
theorem Lu {j t:Nat} {want:Bool} (C:o.guard=some (j,want)) (A:j0 ops j=some t) (E:gu t N.n=true) (G:σ t=undef):
 sn o (yielded ops (act N σ).tmps)=false :=by
 have h1:yielded ops (act N σ).tmps j=none:=by
  unfold yielded;unfold j0 at A;rw [A];simp only [rj,qy];rw [if_pos (vd (tF t)<|sA E),G]; rfl
 simp only [sn,C,h1];rfl
theorem p (h:(execOp (ev N σ) ⟨some d,op,ty,pos,af,none⟩).run P w= .ok (.value v) w) (k:ej P N ops Q rest (cU σ d v) w):
 ej P N ops Q (⟨some d,op,ty,pos,af,none⟩::rest) σ w:=
 zE (kM _ rfl _) (mW h k)
theorem pg {j t:Nat} {want:Bool} (A:j0 ops j=some t) (C:gu t N.n=true) (E:σ t= .bool want)
 (h:(execOp (ev N σ) ⟨some d,op,ty,pos,af,some (j,want)⟩).run P w= .ok (.value v) w) (k:ej P N ops Q rest (cU σ d v) w):
 ej P N ops Q (⟨some d,op,ty,pos,af,some (j,want)⟩::rest) σ w:=
 zE (by rw [uI rfl A C E]; cases want <;> rfl) (mW h k)
theorem sk {j t:Nat} {want b:Bool} (C:j0 ops j=some t) (E:gu t N.n=true) (G:σ t= .bool b) (A:(b==want)=false)
 (k:ej P N ops Q rest (cU σ d undef) w):ej P N ops Q (⟨some d,op,ty,pos,af,some (j,want)⟩::rest) σ w:=by
 unfold ej wpList;rw [if_neg (by rw [uI rfl C E G,A]; simp),k9];exact k
theorem Kv {j t:Nat} {want:Bool} (A:j0 ops j=some t) (C:gu t N.n=true) (E:σ t=undef)
 (k:ej P N ops Q rest (cU σ d undef) w):ej P N ops Q (⟨some d,op,ty,pos,af,some (j,want)⟩::rest) σ w:=by
 unfold ej wpList;rw [if_neg (by rw [Lu rfl A C E]; simp),k9];exact k
theorem e (h:dI P N ⟨d',op,ty,pos,af,none⟩ σ w (fun σ w=>ej P N ops Q rest σ w)):ej P N ops Q (⟨d',op,ty,pos,af,none⟩::rest) σ w:=
 zE (kM _ rfl _) h
theorem eg {j t:Nat} {want:Bool} (A:j0 ops j=some t) (C:gu t N.n=true) (E:σ t= .bool want)
 (h:dI P N ⟨d',op,ty,pos,af,some (j,want)⟩ σ w (fun σ w=>ej P N ops Q rest σ w)):ej P N ops Q (⟨d',op,ty,pos,af,some (j,want)⟩::rest) σ w:=
 zE (by rw [uI rfl A C E]; cases want <;> rfl) h
theorem nl (h:Q .normal σ w):ej P N ops Q [] σ w:=⟨σ,rfl,h⟩
theorem Cc:¬LetsOut (lift N Q):=fun ⟨_,_,h⟩=>h
theorem rg {id:Nat} {l:List cg} (A:pX N.r l=true) (h:ej P N l.toArray Q l σ w):dA P N (.region id l.toArray false) Q σ w:=by
 refine wpIn_region<|BZ Cc A _ _ _ ?_;have h1:=wpOps_eq_wpList (P:=P) (ops:=l.toArray) (Q:=lift N Q) l 0 fun j=>by simp
 rw [List.range_eq_range',ql,h1];exact h
theorem gs {l:List cg} {t:Nat} {q:Prop} [Decidable q] (h:σ t= .bool (decide q)) (E:q→ej P N ops Q l (cU σ t<|.bool true) w) (C:¬q→ej P N ops Q l (cU σ t<|.bool false) w):ej P N ops Q l σ w:=by
 by_cases A:q
 · have :=E A; rwa [p6 (by rw [h,decide_eq_true A])] at this
 · have :=C A; rwa [p6 (by rw [h,decide_eq_false A])] at this
theorem gb {l:List cg} {t:Nat} {b:Bool} (h:σ t= .bool b) (C:b=true→ej P N ops Q l (cU σ t<|.bool true) w) (A:b=false→ej P N ops Q l (cU σ t<|.bool false) w):ej P N ops Q l σ w:=by
 cases b
 · have :=A rfl; rwa [p6 h] at this
 · have :=C rfl; rwa [p6 h] at this
def eK (P:bH) (N:Fm) (ops:Array cg) (Q:dG→(Nat→ag)→ak→Prop) (S:ak→Prop) (fuel:Nat) (aW:Array Bool) (σ:Nat→ag) (w:ak):Prop :=
 wpAnyH P .any ops (lift N Q) S fuel aW (act N σ) w
variable {S:ak→Prop} {fuel:Nat} {aW:Array Bool}
theorem E7 {id:Nat} {l:List cg} (A:pX N.r l=true) (hm:P.follows .mixedOrders=true) (h:wpAny P .any l.toArray (lift N Q) l.toArray.size (uQ l.toArray.size false) (act N σ) w.drew):dA P N (.region id l.toArray true) Q σ w:=by
 refine wpIn_region_draw fun t=>BZ Cc A _ _ _ ?_;simp only [Region.schedule,hm,Bool.true_or,if_true];exact wpAny_sound _ t _ _ _ h
theorem dY {id:Nat} {l:List cg} (S:ak→Prop) (A:pX N.r l=true) (hm:P.follows .mixedOrders=true) (C:S w.drew) (h:eK P N l.toArray Q S l.length (uQ l.length false) σ w.drew):dA P N (.region id l.toArray true) Q σ w:=
 E7 A hm (wpAny_of_held _ _ _ _<|by rw [ql]; exact h)
def CF (F:List Nat) (d:Option Nat):Bool:=match d with | some d=> !(F.contains d) | none=>true
def jY (F:List Nat) (ops:Array cg) (aW:Array Bool) (i:Nat):Bool:=
 Region.noSelect ops && Region.free .any ops aW i && (k5 .any ops aW).contains i && CF F ((ops[i]?).bind (·.dst))
theorem sU {d:Option Nat} {v:ag} (hd:CF N.F d=true) (c:List PanicEntry) (a:Act) (w:ak):lift N Q (.panic c) (a.put d v) w→lift N Q (.panic c) a w:=by
 rintro ⟨σ,A,h⟩;cases d with
 | none=>exact ⟨σ,A,h⟩
 | some d=>
   have J:a.tmps.size=N.n:=by
    have :=congrArg (fun x:Act=>x.tmps.size) A;simpa [Act.put,act] using this
   have E:a.defers=N.D:=congrArg (fun x:Act=>x.defers) A;have G:∀ i:Nat,i≠d→a.tmps[i]? =if i < N.n then some (σ i) else none:=fun i hi=>by
    have h1:(a.put (some d) v).tmps[i]? =a.tmps[i]? :=by
     show (a.tmps.setIfInBounds d v)[i]? =_;rw [DV,if_neg (fun e=>hi e.symm)]
    rw [← h1,A,qy]
   refine ⟨fun i=>if i < N.n then a.tmps.getD i undef else σ i,xH E fun i=> ?_,fun σ' C=>h σ' fun i hi=> ?_⟩
   · rw [qy];by_cases h1:i < N.n
     · rw [if_pos h1,if_pos h1,DU,xh ab]; rfl
     · rw [if_neg h1,ti ab]
   · have I:i≠d:=by
      rintro rfl;simp only [CF,xk,List.contains_eq_mem,decide_eq_false_iff_not] at hd;exact hd hi
     rw [C i hi];by_cases h1:i < N.n
     · simp only [if_pos h1];rw [DU,G i I,if_pos h1]; rfl
     · simp only [if_neg h1]
theorem hp (i:Nat) (hi:ops[i]? =some ⟨some d,op,ty,pos,af,none⟩) (A:jY N.F ops aW i=true)
 (E:∀ w,S w→(execOp (ev N σ) ⟨some d,op,ty,pos,af,none⟩).run P w= .ok (.value v) w) (C:S w)
 (k:eK P N ops Q S fuel (aW.setIfInBounds i true) (cU σ d v) w):eK P N ops Q S (fuel+1) aW σ w:=by
 simp only [jY,il] at A;refine wpAnyH_take hi A.1.1.1 A.1.1.2 A.1.2 (fun c a w=>sU (by have :=A.2; rwa [hi] at this) c a w) (.inl ⟨kM _ rfl _,fun w C=> ?_⟩) C ?_ (v:=v)
 · rw [jv]; exact E w C
 · rw [k9]; exact k
theorem sQ (i:Nat) {j t:Nat} {want:Bool} (hi:ops[i]? =some ⟨some d,op,ty,pos,af,some (j,want)⟩) (A:jY N.F ops aW i=true)
 (E:j0 ops j=some t) (G:gu t N.n=true) (I:σ t= .bool want)
 (J:∀ w,S w→(execOp (ev N σ) ⟨some d,op,ty,pos,af,some (j,want)⟩).run P w= .ok (.value v) w) (C:S w)
 (k:eK P N ops Q S fuel (aW.setIfInBounds i true) (cU σ d v) w):eK P N ops Q S (fuel+1) aW σ w:=by
 simp only [jY,il] at A;refine wpAnyH_take hi A.1.1.1 A.1.1.2 A.1.2 (fun c a w=>sU (by have :=A.2; rwa [hi] at this) c a w) (.inl ⟨by rw [uI aa E G I]; cases want <;> rfl,fun w C=> ?_⟩) C ?_ (v:=v)
 · rw [jv]; exact J w C
 · rw [k9]; exact k
theorem Ii (i:Nat) {j t:Nat} {want b:Bool} (hi:ops[i]? =some ⟨some d,op,ty,pos,af,some (j,want)⟩) (A:jY N.F ops aW i=true)
 (G:j0 ops j=some t) (I:gu t N.n=true) (J:σ t= .bool b) (E:(b==want)=false) (C:S w)
 (k:eK P N ops Q S fuel (aW.setIfInBounds i true) (cU σ d undef) w):eK P N ops Q S (fuel+1) aW σ w:=by
 simp only [jY,il] at A;refine wpAnyH_take hi A.1.1.1 A.1.1.2 A.1.2 (fun c a w=>sU (by have :=A.2; rwa [hi] at this) c a w) (.inr ⟨by rw [uI aa G I J,E],aa⟩) C ?_ (v:=undef);rw [k9]; exact k
theorem Tt (i:Nat) {j t:Nat} {want:Bool} (hi:ops[i]? =some ⟨some d,op,ty,pos,af,some (j,want)⟩) (A:jY N.F ops aW i=true)
 (E:j0 ops j=some t) (G:gu t N.n=true) (I:σ t=undef) (C:S w)
 (k:eK P N ops Q S fuel (aW.setIfInBounds i true) (cU σ d undef) w):eK P N ops Q S (fuel+1) aW σ w:=by
 simp only [jY,il] at A;refine wpAnyH_take hi A.1.1.1 A.1.1.2 A.1.2 (fun c a w=>sU (by have :=A.2; rwa [hi] at this) c a w) (.inr ⟨Lu aa E G I,aa⟩) C ?_ (v:=undef);rw [k9]; exact k
def ou (ops:Array cg) (aW:Array Bool) (i:Nat):Bool:=(k5 .any ops aW)== [i]
theorem he (i:Nat) (hi:ops[i]? =some ⟨d',op,ty,pos,af,none⟩) (A:ou ops aW i=true)
 (h:dI P N ⟨d',op,ty,pos,af,none⟩ σ w (fun σ w=>S w∧eK P N ops Q S fuel (aW.setIfInBounds i true) σ w)):eK P N ops Q S (fuel+1) aW σ w:=by
 refine wpAnyH_all (rs:= [i]) (by simpa [ou] using A) (by simp) ?_;intro k hk;obtain rfl :k=i:=by simpa using hk
 unfold wpOp;simp only [hi];rw [if_pos (kM _ rfl _)];exact .inl<|uK h fun _ _ hk=>hk
theorem nq (i:Nat) {j t:Nat} {want:Bool} (hi:ops[i]? =some ⟨d',op,ty,pos,af,some (j,want)⟩) (C:ou ops aW i=true)
 (A:j0 ops j=some t) (E:gu t N.n=true) (G:σ t= .bool want)
 (h:dI P N ⟨d',op,ty,pos,af,some (j,want)⟩ σ w (fun σ w=>S w∧eK P N ops Q S fuel (aW.setIfInBounds i true) σ w)):eK P N ops Q S (fuel+1) aW σ w:=by
 refine wpAnyH_all (rs:= [i]) (by simpa [ou] using C) (by simp) ?_;intro k hk;obtain rfl :k=i:=by simpa using hk
 unfold wpOp;simp only [hi];rw [if_pos (by rw [uI rfl A E G]; cases want <;> rfl)];exact .inl<|uK h fun _ _ hk=>hk
theorem hn (A:(k5 .any ops aW).isEmpty=true) (h:Q .normal σ w):eK P N ops Q S fuel aW σ w:=
 wpAnyH_done (by simpa using A) ⟨σ,rfl,h⟩ fuel
theorem ji {t:Nat} {q:Prop} [Decidable q] (h:σ t= .bool (decide q)) (E:q→eK P N ops Q S fuel aW (cU σ t<|.bool true) w) (C:¬q→eK P N ops Q S fuel aW (cU σ t<|.bool false) w):eK P N ops Q S fuel aW σ w:=by
 by_cases A:q
 · have :=E A; rwa [p6 (by rw [h,decide_eq_true A])] at this
 · have :=C A; rwa [p6 (by rw [h,decide_eq_false A])] at this
theorem yz {t:Nat} {b:Bool} (h:σ t= .bool b) (C:b=true→eK P N ops Q S fuel aW (cU σ t<|.bool true) w) (A:b=false→eK P N ops Q S fuel aW (cU σ t<|.bool false) w):eK P N ops Q S fuel aW σ w:=by
 cases b
 · have :=A rfl; rwa [p6 h] at this
 · have :=C rfl; rwa [p6 h] at this
end
def ba (P:bH) (f:iz) (args:Array ag) (w:ak) (R:ag→ak→Prop):Prop :=
 Calls P f args w fun e w'=> ∃ v,e= .returned v∧R v w'
theorem ba.mono {P:bH} {f:iz} {args:Array ag} {w:ak} {R R':ag→ak→Prop} (h:ba P f args w R) (C:∀ v w',R v w'→R' v w'):ba P f args w R':=
 mm h fun _ _ ⟨v,he,A⟩=>⟨v,he,C _ _ A⟩
def nH (args:List ag):Nat→ag:=fun i=>args.getD i undef
def fin (P:bH) (fn:Func) (N:Fm) (R:ag→ak→Prop):dG→(Nat→ag)→ak→Prop
 | .normal,σ,w=> ∃ v,(results fn (act N σ).tmps).run P w= .ok v w∧R v w
 | .ret,σ,w=> ∃ v,(results fn (act N σ).tmps).run P w= .ok v w∧R v w
 | _,_,_=>False
theorem enter {P:bH} {f:iz} {N:Nat} {fn:Func} {c:jq} {args:List ag} {w:ak} {R:ag→ak→Prop} (V:P.funcs[f]? =some fn) (O:fn.body=some c)
 (I:fn.ntmps=N) (hn:oH args.length N=true) (h:dA P ⟨N,[],[],none⟩ c (fin P fn ⟨N,[],[],none⟩ R) (nH args) w):ba P f args.toArray w R:=by
 subst I;refine calls_of_wp V O ?_;have J:({tmps:=args.toArray++uQ (fn.ntmps - args.toArray.size) undef,defers:= []} :Act)=act ⟨fn.ntmps,[],[],none⟩ (nH args):=by
  have Y:args.length≤fn.ntmps:=by simpa using hn
  refine xH aa fun i=> ?_;rw [qy];simp only [nH,cH,ql];by_cases h1:i < args.length
  · rw [Array.getElem?_append_left (by simpa using h1),if_pos ab];simp [h1]
  · rw [Array.getElem?_append_right (by simpa using h1)];simp only [ql,Array.getElem?_replicate];by_cases h2:i < fn.ntmps
    · rw [if_pos ab,if_pos h2,tB ab]; rfl
    · rw [if_neg ab,if_neg h2]
 rw [J];refine Code.wp_mono ?_<|wpIn_wide.1 h;intro e a w A;cases e with
 | normal=>obtain ⟨σ,rfl,v,G,E⟩:=A; exact ⟨rfl,v,G,v,rfl,E⟩
 | ret=>obtain ⟨σ,rfl,v,G,E⟩:=A; exact ⟨rfl,v,G,v,rfl,E⟩
 | exit id=>obtain ⟨σ,rfl,C⟩:=A; exact C.elim
 | goto l=>obtain ⟨σ,rfl,C⟩:=A; exact C.elim
 | panic c=>obtain ⟨σ,rfl,C⟩:=A; exact (C σ fun _ _=>rfl).elim
 | outgrown=>exact A.elim
section
variable {P:bH} {N:Fm} {σ:Nat→ag} {w:ak} {fn:Func} {R:ag→ak→Prop}
theorem pk (t:Nat):(act N σ).tmps.getD t undef=ev N σ (.tmp t):=by
 rw [← jv]; rfl
theorem f0 (h:fn.results= #[]) (A:R (.tuple #[]) w):fin P fn N R .normal σ w:=⟨_,results_none h _ _ _,A⟩
theorem rG (h:fn.results= #[]) (A:R (.tuple #[]) w):fin P fn N R .ret σ w:=⟨_,results_none h _ _ _,A⟩
theorem f1 {t:Nat} {v:ag} (h:fn.results= #[.tmp t]) (C:ev N σ (.tmp t)=v) (A:R v w):fin P fn N R .ret σ w:=
 ⟨v,by rw [results_tmp h,pk,C],A⟩
theorem f2 {t u:Nat} {v A:ag} (h:fn.results= #[.tmp t,.tmp u]) (E:ev N σ (.tmp t)=v) (hu:ev N σ (.tmp u)=A) (C:R (.tuple #[v,A]) w):fin P fn N R .ret σ w:=
 ⟨_,by rw [results_tmp2 h,pk,pk,E,hu],C⟩
theorem f3 {t u s:Nat} {v A C:ag} (h:fn.results= #[.tmp t,.tmp u,.tmp s]) (G:ev N σ (.tmp t)=v) (hu:ev N σ (.tmp u)=A) (hs:ev N σ (.tmp s)=C) (E:R (.tuple #[v,A,C]) w):fin P fn N R .ret σ w:=by
 refine ⟨_,?_,E⟩;simp only [results,h];subst G hu hs;simp only [← pk];simp [xx]
theorem f4 {t u s r:Nat} {v A C v3:ag} (h:fn.results= #[.tmp t,.tmp u,.tmp s,.tmp r]) (I:ev N σ (.tmp t)=v) (hu:ev N σ (.tmp u)=A) (hs:ev N σ (.tmp s)=C) (G:ev N σ (.tmp r)=v3) (E:R (.tuple #[v,A,C,v3]) w):fin P fn N R .ret σ w:=by
 refine ⟨_,?_,E⟩;simp only [results,h];subst I hu hs G;simp only [← pk];simp [xx]
end
attribute [irreducible] ej dA eK dI
end Go.Hb
namespace Go.Hb
def aV (h:Array Obj) (b off :Nat):Option ag:=
 match h[b]? with
 | some (.cells c _ _)=>c[off]?
 | _=>none
theorem nW (w:ak) (b off :Nat):w.cell? ⟨b,off,none⟩=aV w.heap b off :=by
 unfold Ms aV;simp only;split <;> simp_all
theorem a8 {h:Array Obj} {b off :Nat} {c:Array ag} {t:bB} {f:Nat×Nat} (A:h[b]? =some (.cells c t f)):aV h b off =c[off]? :=by
 simp only [aV,A]
theorem OJ {h:Array Obj} {b off :Nat} {v:ag} (A:aV h b off =some v):b < h.size:=by
 unfold aV at A;rcases fG b h.size with E | C
 · exact E
 · simp [ti C] at A
structure Md (F:Nat→Prop) (w w':ak):Prop where
 os:w'.os=w.os
 output:w'.output=w.output
 size:w.heap.size≤w'.heap.size
 dx:∀ k,k < w.heap.size→¬F k→w'.heap[k]? =w.heap[k]?
abbrev Wk (w w':ak):Prop :=Md (fun _=>False) w w'
theorem Md.refl (F:Nat→Prop) (w:ak):Md F w w:=⟨rfl,rfl,cE _,fun _ _ _=>rfl⟩
theorem Md.drew {F:Nat→Prop} {w w':ak} (h:Md F w w'):Md F w w'.drew:=⟨h.os,h.output,h.size,h.dx⟩
theorem Md.mono {F G:Nat→Prop} {w w':ak} (h:Md F w w') (C:∀ k,k < w.heap.size→F k→G k):Md G w w':=
 ⟨h.os,h.output,h.size,fun k hk E=>h.dx k hk fun A=>E<|C k hk A⟩
theorem Md.trans {F:Nat→Prop} {a b c:ak} (h:Md F a b) (A:Md F b c):Md F a c:=
 ⟨A.os.trans h.os,A.output.trans h.output,e7 h.size A.size,fun k hk C=>(A.dx k (vd hk h.size) C).trans<|h.dx k hk C⟩
theorem Md.trans' {F G:Nat→Prop} {a b c:ak} (h:Md F a b) (A:Md G b c) (E:∀ k,k < a.heap.size→G k→F k):Md F a c:=
 ⟨A.os.trans h.os,A.output.trans h.output,e7 h.size A.size,
  fun k hk C=>(A.dx k (vd hk h.size) fun x=>C<|E k hk x).trans (h.dx k hk C)⟩
theorem Md.bl {F:Nat→Prop} {w w':ak} (h:Md F w w') {k:Nat} {o:Obj} (hk:w.heap[k]? =some o) (A:¬F k):w'.heap[k]? =some o:=
 (h.dx k (dD.1 hk).1 A).trans hk
theorem Md.aV {F:Nat→Prop} {w w':ak} (h:Md F w w') {b off :Nat} {v:ag} (A:Hb.aV w.heap b off =some v) (C:¬F b):Hb.aV w'.heap b off =some v:=by
 have :=h.dx b (OJ A) C;unfold Hb.aV at*;rw [this]; exact A
theorem Wk.aV {w w':ak} (h:Wk w w') {b off :Nat} {v:ag} (A:Hb.aV w.heap b off =some v):Hb.aV w'.heap b off =some v:=Md.aV h A id
theorem Wk.bl {w w':ak} (h:Wk w w') {k:Nat} {o:Obj} (hk:w.heap[k]? =some o):w'.heap[k]? =some o:=Md.bl h hk id
structure Nw (w w':ak):Prop where
 md:Wk w w'
 size:w'.heap.size=w.heap.size+1
 one:∃ o,w'= {w with heap:=w.heap.push o}
theorem Jq (w:ak) (o:Obj):Nw w {w with heap:=w.heap.push o} :=
 ⟨⟨rfl,rfl,by simp,fun k hk _=>by show (w.heap.push o)[k]? =_; rw [Array.getElem?_push,if_neg ab]⟩,by simp,o,rfl⟩
def fK (P:bH) (t:bB):Option (Option Nat):=
 match P.underlying t with
 | some (.struct _) | some (.array _ _)=>((P.info? t).map (·.size)).map some
 | some _=>some none
 | none=>none
def uc (P:bH) (s f:Nat):Option Nat:=
 match P.underlying s with
 | some (.struct fs)=>match fs[f]? with
   | some fd=>match P.info? fd.type with
     | some i=>if i.size=0 then none else some fd.offset
     | none=>none
   | none=>none
 | _=>none
def gw (P:bH) (t:bB):Option Nat:=
 match P.underlying t with
 | some (.slice e)=>(P.info? e).map (·.size)
 | _=>none
section
variable {P:bH} {N:Fm} {σ:Nat→ag} {w:ak} {dst:Option Nat} {ty:bB} {pos :String} {af:Array fO} {g:Option (Nat×Bool)} {x y z:ek}
theorem dV {t:bB} {d:TypeDesc} (h:P.underlying t=some d) (w:ak):(underlying t).run P w= .ok d w:=by
 simp [underlying,h]
theorem jn {t:bB} {i:TypeInfo} (h:P.info? t=some i) (w:ak):(typeInfo t).run P w= .ok i w:=by
 simp [typeInfo,h]
theorem mv:(execOp (ev N σ) ⟨dst,.move x,ty,pos,af,g⟩).run P w= .ok (.value<|ev N σ x) w:=rfl
theorem bm:(execOp (ev N σ) ⟨dst,.assign x,ty,pos,af,g⟩).run P w= .ok (.value<|ev N σ x) w:=rfl
theorem rS (v:ag) (h:ev N σ x=v):(execOp (ev N σ) ⟨dst,.move x,ty,pos,af,g⟩).run P w= .ok (.value v) w:=by rw [← h]; rfl
theorem nT (v:ag) (h:ev N σ x=v):(execOp (ev N σ) ⟨dst,.assign x,ty,pos,af,g⟩).run P w= .ok (.value v) w:=by rw [← h]; rfl
theorem wo {c:ek} (A:ev N σ c= .bool true):(execOp (ev N σ) ⟨dst,.pick c x y,ty,pos,af,g⟩).run P w= .ok (.value<|ev N σ x) w:=by
 simp [execOp,A,asBool]
theorem rX {c:ek} (A:ev N σ c= .bool false):(execOp (ev N σ) ⟨dst,.pick c x y,ty,pos,af,g⟩).run P w= .ok (.value<|ev N σ y) w:=by
 simp [execOp,A,asBool]
theorem nc {a:bF} (A:ev N σ x= .pointer (some a)):(execOp (ev N σ) ⟨dst,.nilCheck x,ty,pos,af,g⟩).run P w= .ok (.value<|.pointer<|some a) w:=by
 simp [execOp,A]
theorem xt {i:Nat} {vs:Array ag} {v:ag} (C:ev N σ x= .tuple vs) (A:vs[i]? =some v):(execOp (ev N σ) ⟨dst,.extract x i,ty,pos,af,g⟩).run P w= .ok (.value v) w:=by
 simp [execOp,C,Instr.extract,A]
theorem fa {s f n b off :Nat} (A:uc P s f=some n) (G:ev N σ x= .pointer (some ⟨b,off,none⟩)):
 (execOp (ev N σ) ⟨dst,.fieldAddr s x f,ty,pos,af,g⟩).run P w= .ok (.value<|.pointer<|some ⟨b,off+n,none⟩) w:=by
 unfold uc at A;split at A
 · rename_i fs hu;split at A
   · rename_i fd E;split at A
     · rename_i i hi;split at A
       · cases A
       · rename_i I;cases A;have C:(⟨b,off,none⟩:bF).add fd.offset=⟨b,off+fd.offset,none⟩:=by unfold zQ; split <;> simp_all
         simp [execOp,Instr.fieldAt,dV hu,E,G,si,fieldPlace,sizeOf,jn hi,I,C]
     · cases A
   · cases A
 · cases A
theorem ld {t b off :Nat} {v:ag} (hu:fK P t=some none) (E:ev N σ x= .pointer (some ⟨b,off,none⟩)) (A:aV w.heap b off =some v):
 (execOp (ev N σ) ⟨dst,.load t x,ty,pos,af,g⟩).run P w= .ok (.value v) w:=by
 have C:w.cell? ⟨b,off,none⟩=some v:=by rw [nW]; exact A
 unfold fK at hu;cases hd:P.underlying t with
 | none=>rw [hd] at hu; cases hu
 | some d=>
   rw [hd] at hu;cases d <;> first
    | (simp only [mZ] at hu; obtain ⟨_,_,h⟩:=hu; cases h; done)
    | simp [execOp,Ma,E,si,loadVar,isAgg,dV hd,run_load,C]
theorem mE (b off j:Nat):(⟨b,off,none⟩:bF).add j=⟨b,off+j,none⟩:=by
 unfold zQ; split <;> simp_all
theorem cQ {t n b off :Nat} {cs:List ag} (hu:fK P t=some (some n)) (I:ev N σ x= .pointer (some ⟨b,off,none⟩)) (G:cs.length=n)
 (C:∀ j,j < n→aV w.heap b (off+j)=cs[j]?):
 (execOp (ev N σ) ⟨dst,.load t x,ty,pos,af,g⟩).run P w= .ok (.value<|.agg cs.toArray) w:=by
 have E:(loadCells ⟨b,off,none⟩ n).run P w= .ok cs.toArray w:=by
  subst G;refine run_loadCells_list (P:=P) w ⟨b,off,none⟩ cs fun j v A=> ?_;rw [mE,nW];exact (C j (ff.1 A).1).trans A
 unfold fK at hu;cases hd:P.underlying t with
 | none=>rw [hd] at hu; cases hu
 | some d=>
   rw [hd] at hu;cases hi:P.info? t with
   | none=>simp [Program.underlying,hi] at hd
   | some i=>
     rw [hi] at hu;cases d <;> first
      | (cases hu; done)
      | (simp only [lB,gJ] at hu; subst hu
         simp [execOp,Ma,I,si,loadVar,isAgg,dV hd,sizeOf,jn hi,E])
theorem ia {t n b off len cap:Nat} {k:ew} {i:Int} (he:gw P t=some n) (C:ev N σ x= .slice (some ⟨b,off,none⟩) len cap) (E:ev N σ y= .int k i) (A:0≤i∧i < len):
 (execOp (ev N σ) ⟨dst,.indexAddr t x y,ty,pos,af,g⟩).run P w= .ok (.value<|.pointer<|some ⟨b,off+i.toNat*n,none⟩) w:=by
 unfold gw at he;cases hd:P.underlying t with
 | none=>rw [hd] at he; cases he
 | some d=>
   rw [hd] at he;cases d <;> first | (cases he; done) | skip
   rename_i e;cases hi:P.info? e with
   | none=>simp [hi] at he
   | some j=>
     simp only [hi,lB,gJ] at he;subst he;simp [execOp,Instr.indexAt,C,E,asIntOf,dV hd,A.1,A.2,sizeOf,jn hi,mE]
def iy (a:Option bF) (cap l n:Nat):Option bF:=if cap=l then a else a.map (·.add (l*n))
theorem Dh {t n len cap:Nat} {a:Option bF} {lo hi:Option ag} {l h:Nat} (he:gw P t=some n) (G:ev N σ x= .slice a len cap)
 (E:(qc true len cap lo hi none).run P w= .ok (l,h,cap) w) (A C:Option ek) (I:A.map (ev N σ)=lo) (J:C.map (ev N σ)=hi):
 (execOp (ev N σ) ⟨dst,.slice t x A C none,ty,pos,af,g⟩).run P w= .ok (.value<|.slice (iy a cap l n) (h - l)<|cap - l) w:=by
 unfold gw at he;cases hd:P.underlying t with
 | none=>rw [hd] at he; cases he
 | some d=>
   rw [hd] at he;cases d <;> first | (cases he; done) | skip
   rename_i e;cases hi':P.info? e with
   | none=>simp [hi'] at he
   | some j=>
     simp only [hi',lB,gJ] at he;subst he;simp [execOp,tu,xn,G,I,J,dV hd,E,sizeOf,jn hi',iy]
theorem uy {t n len cap:Nat} {a:Option bF} {k:ew} {i:Int} (he:gw P t=some n) (C:ev N σ x= .slice a len cap) (E:ev N σ z= .int k i) (A:0≤i∧i≤cap):
 (execOp (ev N σ) ⟨dst,.slice t x none (some z) none,ty,pos,af,g⟩).run P w= .ok (.value<|.slice a i.toNat cap) w:=by
 have :=Dh (dst:=dst) (ty:=ty) (pos :=pos) (af:=af) (g:=g) (w:=w) (lo:=none) (hi:=some<|.int k i) (l:=0) (h:=i.toNat) he C
  (by simp [qc,tv,asIntOf,A.1,A.2]) none (some z) rfl (by simp [E])
 rw [this];have hs:iy a cap 0 n=a:=by
  unfold iy; split
  · rfl
  · cases a <;> simp [zQ]
 rw [hs]; rfl
theorem wT {t n len cap:Nat} {a:Option bF} {k:ew} {i:Int} (he:gw P t=some n) (C:ev N σ x= .slice a len cap) (E:ev N σ y= .int k i) (A:0≤i∧i≤len):
 (execOp (ev N σ) ⟨dst,.slice t x (some y) none none,ty,pos,af,g⟩).run P w= .ok (.value<|.slice (iy a cap i.toNat n) (len - i.toNat)<|cap - i.toNat) w:=
 Dh (lo:=some<|.int k i) (hi:=none) he C
  (by simp [qc,tv,asIntOf,A.1,A.2]) (some y) none (by simp [E]) rfl
theorem XE {t n len cap:Nat} {a:Option bF} {k k':ew} {i j:Int} (he:gw P t=some n) (C:ev N σ x= .slice a len cap) (E:ev N σ y= .int k i) (G:ev N σ z= .int k' j) (A:0≤i∧i≤j∧j≤cap):
 (execOp (ev N σ) ⟨dst,.slice t x (some y) (some z) none,ty,pos,af,g⟩).run P w= .ok (.value<|.slice (iy a cap i.toNat n) (j.toNat - i.toNat)<|cap - i.toNat) w:=by
 have h1:0≤j:=ab;have h2:i≤(j.toNat:Int):=ab;refine Dh (lo:=some<|.int k i) (hi:=some<|.int k' j) he C ?_ (some y) (some z) (by simp [E])<|by simp [G]
 simp only [qc,tv,asIntOf,oF,q8,oE,Eh,A.1,h1,A.2.2,h2,and_self,if_true]
theorem qX {n:Int} (h: -9223372036854775808≤n∧n≤9223372036854775807):zS.wrap n=n:=IntWalk.i64_in n h
theorem Zm {n:Int} (h: -2147483648≤n∧n≤2147483647):IntKind.i32.wrap n=n:=IntWalk.i32_in n h
theorem uM {n:Int} (h:0≤n∧n≤255):IntKind.u8.wrap n=n:=IntWalk.u8_in n h
theorem Zz {n:Int} (h:0≤n∧n≤4294967295):IntKind.u32.wrap n=n:=IntWalk.u32_in n h
theorem qa {n:Int} (h:0≤n∧n≤18446744073709551615):eU.wrap n=n:=IntWalk.u64_in n h
theorem iv {k:ew} {a b:Int} (h:a=b):gq k a=gq k b:=by rw [h]
theorem ad {t G:bB} {k:ew} {a b:Int} (C:ev N σ x= .int k a) (E:ev N σ y= .int k b) (A:k.wrap (a+b)=a+b):
 (execOp (ev N σ) ⟨dst,.binOp .add t x y G,ty,pos,af,g⟩).run P w= .ok (.value<|.int k<|a+b) w:=by
 simp [execOp,C,E,eqGuard,binOp,xo,A]
theorem ER {t G:bB} {k:ew} {a b:Int} (v:Int) (C:ev N σ x= .int k a) (E:ev N σ y= .int k b) (A:k.wrap (a+b)=v):
 (execOp (ev N σ) ⟨dst,.binOp .add t x y G,ty,pos,af,g⟩).run P w= .ok (.value<|.int k v) w:=by
 subst A; simp [execOp,C,E,eqGuard,binOp,xo]
theorem Xj {t G:bB} {k:ew} {a b:Int} (v:Int) (C:ev N σ x= .int k a) (E:ev N σ y= .int k b) (A:k.wrap (a - b)=v):
 (execOp (ev N σ) ⟨dst,.binOp .sub t x y G,ty,pos,af,g⟩).run P w= .ok (.value<|.int k v) w:=by
 subst A; simp [execOp,C,E,eqGuard,binOp,xo]
theorem pV {t G:bB} {k:ew} {a b:Int} (v:Int) (C:ev N σ x= .int k a) (E:ev N σ y= .int k b) (A:k.wrap (a*b)=v):
 (execOp (ev N σ) ⟨dst,.binOp .mul t x y G,ty,pos,af,g⟩).run P w= .ok (.value<|.int k v) w:=by
 subst A; simp [execOp,C,E,eqGuard,binOp,xo]
theorem kq {a:Int} {n:Nat} (h:a=n) (hn:n≤9223372036854775807):zS.wrap a=(n:Int):=by rw [h]; exact qX ab
theorem bv {p q:Prop} [Decidable p] [Decidable q] (h:p↔q):bR (decide p)=bR (decide q):=by rw [decide_eq_decide.2 h]
theorem sb {t G:bB} {k:ew} {a b:Int} (C:ev N σ x= .int k a) (E:ev N σ y= .int k b) (A:k.wrap (a - b)=a - b):
 (execOp (ev N σ) ⟨dst,.binOp .sub t x y G,ty,pos,af,g⟩).run P w= .ok (.value<|.int k<|a - b) w:=by
 simp [execOp,C,E,eqGuard,binOp,xo,A]
theorem rY {t I:bB} {k:ew} {a b:Int} (v:Int) (E:ev N σ x= .int k a) (G:ev N σ y= .int k b) (A:0≤a∧0 < b) (C:k.wrap (a / b)=v):
 (execOp (ev N σ) ⟨dst,.binOp .quo t x y I,ty,pos,af,g⟩).run P w= .ok (.value<|.int k v) w:=by
 have :a.tdiv b=a / b:=Int.tdiv_eq_ediv_of_nonneg A.1;subst C; simp [execOp,E,G,eqGuard,binOp,Op.intDiv,show b≠0 from by omega,this]
theorem lt {t E:bB} {k:ew} {a b:Int} (A:ev N σ x= .int k a) (C:ev N σ y= .int k b):
 (execOp (ev N σ) ⟨dst,.binOp .lss t x y E,ty,pos,af,g⟩).run P w= .ok (.value<|.bool<|decide (a < b)) w:=by
 simp [execOp,A,C,eqGuard,binOp,uT]
theorem le {t E:bB} {k:ew} {a b:Int} (A:ev N σ x= .int k a) (C:ev N σ y= .int k b):
 (execOp (ev N σ) ⟨dst,.binOp .leq t x y E,ty,pos,af,g⟩).run P w= .ok (.value<|.bool<|decide (a≤b)) w:=by
 simp [execOp,A,C,eqGuard,binOp,uT]
theorem gt {t E:bB} {k:ew} {a b:Int} (A:ev N σ x= .int k a) (C:ev N σ y= .int k b):
 (execOp (ev N σ) ⟨dst,.binOp .gtr t x y E,ty,pos,af,g⟩).run P w= .ok (.value<|.bool<|decide (b < a)) w:=by
 simp [execOp,A,C,eqGuard,binOp,uT]
theorem ge {t E:bB} {k:ew} {a b:Int} (A:ev N σ x= .int k a) (C:ev N σ y= .int k b):
 (execOp (ev N σ) ⟨dst,.binOp .geq t x y E,ty,pos,af,g⟩).run P w= .ok (.value<|.bool<|decide (b≤a)) w:=by
 simp [execOp,A,C,eqGuard,binOp,uT]
theorem Rq {t E:bB} {k:ew} {a b:Int} (A:ev N σ x= .int k a) (C:ev N σ y= .int k b):
 (execOp (ev N σ) ⟨dst,.binOp .eql t x y E,ty,pos,af,g⟩).run P w= .ok (.value<|.bool<|decide (a=b)) w:=by
 simp [execOp,A,C,eqGuard,binOp,uT];rw [sg]; simp
theorem Vi {t E:bB} {k:ew} {a b:Int} (A:ev N σ x= .int k a) (C:ev N σ y= .int k b):
 (execOp (ev N σ) ⟨dst,.binOp .neq t x y E,ty,pos,af,g⟩).run P w= .ok (.value<|.bool<|decide (a≠b)) w:=by
 simp [execOp,A,C,eqGuard,binOp,uT];rw [sg]; simp
theorem no {t:bB} {b:Bool} (A:ev N σ x= .bool b):(execOp (ev N σ) ⟨dst,.unOp .not t x,ty,pos,af,g⟩).run P w= .ok (.value<|.bool<|!b) w:=by
 simp [execOp,A,Op.unary]
theorem Ff {t G:bB} {k:ew} {a b v:Int} (C:ev N σ x= .int k a) (E:ev N σ y= .int k b) (A:k.wrap (gI k.bits a ||| gI k.bits b).toNat=v):
 (execOp (ev N σ) ⟨dst,.binOp .or t x y G,ty,pos,af,g⟩).run P w= .ok (.value<|.int k v) w:=by
 subst A; simp [execOp,C,E,eqGuard,binOp,Ea]
theorem fT {t G:bB} {k:ew} {a b v:Int} (C:ev N σ x= .int k a) (E:ev N σ y= .int k b) (A:k.wrap (gI k.bits a &&& gI k.bits b).toNat=v):
 (execOp (ev N σ) ⟨dst,.binOp .and t x y G,ty,pos,af,g⟩).run P w= .ok (.value<|.int k v) w:=by
 subst A; simp [execOp,C,E,eqGuard,binOp,Ea]
theorem shr {t G:bB} {k I:ew} {a b v:Int} (C:ev N σ x= .int k a) (E:ev N σ y= .int I b) (J:0≤b) (A:a.fdiv (2 ^ min b.toNat k.bits)=v):
 (execOp (ev N σ) ⟨dst,.binOp .shr t x y G,ty,pos,af,g⟩).run P w= .ok (.value<|.int k v) w:=by
 have :¬b < 0:=ab;simp [execOp,C,E,eqGuard,binOp,Op.shift,this,A]
theorem shl {t G:bB} {k I:ew} {a b v:Int} (C:ev N σ x= .int k a) (E:ev N σ y= .int I b) (J:0≤b) (A:k.wrap (a*2 ^ min b.toNat k.bits)=v):
 (execOp (ev N σ) ⟨dst,.binOp .shl t x y G,ty,pos,af,g⟩).run P w= .ok (.value<|.int k v) w:=by
 have :¬b < 0:=ab;simp [execOp,C,E,eqGuard,binOp,Op.shift,this,A]
theorem zy (m:Nat) (h:m < 256):((ky m).toNat:Int)=(m:Int):=by
 simp [Nat.mod_eq_of_lt h]
theorem cv {t u:bB} {k k':ew} {n:Int} (hu:P.underlying u=some (.int k')) (A:(P.underlying t).isSome=true) (C:ev N σ x= .int k n):
 (execOp (ev N σ) ⟨dst,.convert t u x,ty,pos,af,g⟩).run P w= .ok (.value<|.int k'<|k'.wrap n) w:=by
 obtain ⟨d,hd⟩:=nP.1 A;cases d <;> simp [execOp,C,convert,dV hu,dV hd,Conv.intToInt]
theorem l6 {t u:bB} {k k':ew} {n v:Int} (hu:P.underlying u=some (.int k')) (C:(P.underlying t).isSome=true) (E:ev N σ x= .int k n) (A:k'.wrap n=v):
 (execOp (ev N σ) ⟨dst,.convert t u x,ty,pos,af,g⟩).run P w= .ok (.value<|.int k' v) w:=by
 rw [cv hu C E,A]
theorem xY {t u:bB} {k k':ew} {n:Int} (hu:P.underlying u=some (.int k')) (C:(P.underlying t).isSome=true) (E:ev N σ x= .int k n) (A:k'.wrap n=n):
 (execOp (ev N σ) ⟨dst,.convert t u x,ty,pos,af,g⟩).run P w= .ok (.value<|.int k' n) w:=by
 rw [cv hu C E,A]
theorem Rr (d:Nat) {t e:bB} {a:Option bF} (hu:P.underlying t=some (.pointer e)):(q7 (d+1) t (.pointer a)<|.pointer none).run P w= .ok a.isNone w:=by
 cases a <;> simp [q7,dV hu]
theorem Rs {t e:bB} {a:Option bF} (hu:P.underlying t=some (.pointer e)):(D9 t (.pointer a)<|.pointer none).run P w= .ok a.isNone w:=Rr 9999 hu
theorem lh {t E e:bB} {a:Option bF} (hu:P.underlying t=some (.pointer e)) (A:ev N σ x= .pointer a) (C:ev N σ y= .pointer none):
 (execOp (ev N σ) ⟨dst,.binOp .eql t x y E,ty,pos,af,g⟩).run P w= .ok (.value<|.bool a.isNone) w:=by
 have h:(binOp .eql t (.pointer a)<|.pointer none).run P w= .ok (.bool a.isNone) w:=by
  simp only [binOp]; simp [Rs hu]
 simp [execOp,A,C,eqGuard,h]
theorem Rp (d:Nat) {t:bB} {a b:Bool} (hu:P.underlying t=some .bool):(q7 (d+1) t (.bool a)<|.bool b).run P w= .ok (a==b) w:=by
 simp [q7,dV hu]
theorem GK {t:bB} {a b:Bool} (hu:P.underlying t=some .bool):(D9 t (.bool a)<|.bool b).run P w= .ok (a==b) w:=Rp 9999 hu
theorem Be {t E:bB} {a b:Bool} (hu:P.underlying t=some .bool) (A:ev N σ x= .bool a) (C:ev N σ y= .bool b):
 (execOp (ev N σ) ⟨dst,.binOp .eql t x y E,ty,pos,af,g⟩).run P w= .ok (.value<|.bool<|decide (a=b)) w:=by
 have h:(binOp .eql t (.bool a)<|.bool b).run P w= .ok (.bool<|decide (a=b)) w:=by
  simp only [binOp]; simp [GK hu]; cases a <;> cases b <;> rfl
 simp [execOp,A,C,eqGuard,h]
theorem wc {t E:bB} {a b:Bool} (hu:P.underlying t=some .bool) (A:ev N σ x= .bool a) (C:ev N σ y= .bool b):
 (execOp (ev N σ) ⟨dst,.binOp .neq t x y E,ty,pos,af,g⟩).run P w= .ok (.value<|.bool<|decide (a≠b)) w:=by
 have h:(binOp .neq t (.bool a)<|.bool b).run P w= .ok (.bool<|decide (a≠b)) w:=by
  simp only [binOp]; simp [GK hu]; cases a <;> cases b <;> rfl
 simp [execOp,A,C,eqGuard,h]
def str (l:List UInt8):ag:= .string ⟨⟨l⟩⟩
theorem UD {t:bB} {l:List UInt8} {at_:Array bB} (C:P.underlying t=some .string) (A:at_= #[t]) (E:ev N σ x=str l):
 (execOp (ev N σ) ⟨dst,.call ⟨.builtin .len,#[x],at_⟩,ty,pos,af,g⟩).run P w= .ok (.value<|.int .i64 l.length) w:=by
 subst A;simp [execOp,resolve,invoke,builtin,LV,dV C,E,str,goInt];rfl
theorem UC {t e:bB} {a:Option bF} {n c:Nat} {at_:Array bB} (C:P.underlying t=some (.slice e)) (A:at_= #[t]) (E:ev N σ x= .slice a n c):
 (execOp (ev N σ) ⟨dst,.call ⟨.builtin .len,#[x],at_⟩,ty,pos,af,g⟩).run P w= .ok (.value<|.int .i64 n) w:=by
 subst A;simp [execOp,resolve,invoke,builtin,LV,dV C,E,goInt]
theorem mn {k:ew} {a b:Int} {at_:Array bB} (A:ev N σ x= .int k a) (C:ev N σ y= .int k b):
 (execOp (ev N σ) ⟨dst,.call ⟨.builtin .min,#[x,y],at_⟩,ty,pos,af,g⟩).run P w= .ok (.value<|.int k<|min a b) w:=by
 have :(if b < a then b else a)=min a b:=ab;simp [execOp,resolve,invoke,builtin,Builtin.min_,Builtin.min2,A,C,this]
theorem mx {k:ew} {a b:Int} {at_:Array bB} (A:ev N σ x= .int k a) (C:ev N σ y= .int k b):
 (execOp (ev N σ) ⟨dst,.call ⟨.builtin .max,#[x,y],at_⟩,ty,pos,af,g⟩).run P w= .ok (.value<|.int k<|max a b) w:=by
 have :(if b > a then b else a)=max a b:=ab;simp [execOp,resolve,invoke,builtin,Builtin.max_,Builtin.max2,A,C,this]
theorem T2 {t:bB} {l:List UInt8} {k:ew} {i:Int} (G:P.underlying t=some .string) (I:ev N σ x=str l) (J:ev N σ y= .int k i) (C:0≤i∧i < l.length):
 (execOp (ev N σ) ⟨dst,.index t x y,ty,pos,af,g⟩).run P w= .ok (.value<|.int .u8 ((l.getD i.toNat 0).toNat:Int)) w:=by
 have hs:(⟨⟨l⟩⟩:ByteArray)[i.toNat]? =some (l.getD i.toNat 0):=by
  have A:i.toNat < l.length:=ab;have E:i.toNat < (⟨⟨l⟩⟩:ByteArray).size:=A;rw [getElem?_pos (⟨⟨l⟩⟩:ByteArray) i.toNat E];simp [cH,A,ByteArray.getElem_eq_getElem_data]
 simp [execOp,Instr.index,I,J,asIntOf,str,dV G,C.1,hs]
theorem Dg (l:List UInt8) (a b:Nat):Value.string ((⟨⟨l⟩⟩:ByteArray).extract a b)=str ((l.take b).drop a):=by
 unfold str;congr 1;apply ByteArray.ext;simp [ByteArray.data_extract,List.extract_eq_take_drop,List.drop_take]
theorem jz (n:Nat) {t:bB} {l:List UInt8} {k:ew} (A:P.underlying t=some .string) (C:ev N σ x=str l) (E:ev N σ y= .int k (n:Int)) (h:n < l.length):
 (execOp (ev N σ) ⟨dst,.index t x y,ty,pos,af,g⟩).run P w= .ok (.value<|.int .u8 ((l.getD n 0).toNat:Int)) w:=T2 A C E ⟨ab,ab⟩
theorem e5 {n:Nat} {t:bB} {l:List UInt8} {k:ew} (A:P.underlying t=some .string) (C:ev N σ x=str l) (E:ev N σ y= .int k (n:Int)) (h:n < l.length):
 (execOp (ev N σ) ⟨dst,.index t x y,ty,pos,af,g⟩).run P w= .ok (.value<|.int .u8 ((l.getD n 0).toNat:Int)) w:=jz n A C E h
theorem mR {t:bB} {l:List UInt8} {k k':ew} {a b:Int} (C:P.underlying t=some .string) (E:ev N σ x=str l) (G:ev N σ y= .int k a) (I:ev N σ z= .int k' b) (A:0≤a∧a≤b∧b≤l.length):
 (execOp (ev N σ) ⟨dst,.slice t x (some y) (some z) none,ty,pos,af,g⟩).run P w= .ok (.value<|str<|(l.take b.toNat).drop a.toNat) w:=by
 have h1:b≤((⟨⟨l⟩⟩:ByteArray).size:Nat):=A.2.2;have h2:0≤b:=ab;have h3:a≤(b.toNat:Nat):=ab;simp [execOp,tu,xn,qc,tv,E,G,I,asIntOf,str,dV C,A.1,h1,h2];rw [if_pos ab];exact congrArg (fun v=>Ef (D7 v) w)<|Dg l a.toNat b.toNat
theorem r6 {t:bB} {l:List UInt8} {k':ew} {b:Int} (C:P.underlying t=some .string) (E:ev N σ x=str l) (G:ev N σ z= .int k' b) (A:0≤b∧b≤l.length):
 (execOp (ev N σ) ⟨dst,.slice t x none (some z) none,ty,pos,af,g⟩).run P w= .ok (.value<|str<|l.take b.toNat) w:=by
 have h1:b≤((⟨⟨l⟩⟩:ByteArray).size:Nat):=A.2;have :=Dg l 0 b.toNat;simp only [List.drop_zero] at this;simp [execOp,tu,xn,qc,tv,E,G,asIntOf,str,dV C,A.1,h1];exact Mq this
theorem mS {t:bB} {l:List UInt8} {k:ew} {a:Int} (C:P.underlying t=some .string) (E:ev N σ x=str l) (G:ev N σ y= .int k a) (A:0≤a∧a≤l.length):
 (execOp (ev N σ) ⟨dst,.slice t x (some y) none none,ty,pos,af,g⟩).run P w= .ok (.value<|str<|l.drop a.toNat) w:=by
 have h1:a≤((⟨⟨l⟩⟩:ByteArray).size:Nat):=A.2;have :=Dg l a.toNat l.length;simp only [List.take_length] at this;simp [execOp,tu,xn,qc,tv,E,G,asIntOf,str,dV C,A.1,h1];exact Mq this
theorem K4 (l:List UInt8):(⟨⟨l⟩⟩:ByteArray).toList=l:=Lib.toList_data ⟨⟨l⟩⟩
theorem cc {t E:bB} {l m:List UInt8} (A:ev N σ x=str l) (C:ev N σ y=str m) (h:l.length+m.length≤9223372036854775807):
 (execOp (ev N σ) ⟨dst,.binOp .add t x y E,ty,pos,af,g⟩).run P w= .ok (.value<|str<|l++m) w:=by
 have h1:¬(((⟨⟨l⟩⟩:ByteArray).size+(⟨⟨m⟩⟩:ByteArray).size:Nat):Int) > zS.max:=by
  have :zS.max=9223372036854775807:=aw;rw [this];show ¬((l.length+m.length:Nat):Int) > _;omega
 have h2:(⟨⟨l⟩⟩:ByteArray)++(⟨⟨m⟩⟩:ByteArray)=⟨⟨l++m⟩⟩:=by
  apply ByteArray.ext; simp
 simp only [execOp,A,C,str,eqGuard,binOp,Eb];rw [if_neg h1,h2];rfl
theorem Rt {t E:bB} {l m:List UInt8} (A:ev N σ x=str l) (C:ev N σ y=str m):
 (execOp (ev N σ) ⟨dst,.binOp .eql t x y E,ty,pos,af,g⟩).run P w= .ok (.value<|.bool<|decide (l=m)) w:=by
 simp only [execOp,A,C,str,eqGuard,binOp,Eb,K4];show Ef (D7<|.bool<|l==m) w=_;rw [show (l==m)=decide (l=m) from by rw [sg]; simp]
theorem Vk {t E:bB} {l m:List UInt8} (A:ev N σ x=str l) (C:ev N σ y=str m):
 (execOp (ev N σ) ⟨dst,.binOp .neq t x y E,ty,pos,af,g⟩).run P w= .ok (.value<|.bool<|decide (l≠m)) w:=by
 simp only [execOp,A,C,str,eqGuard,binOp,Eb,K4];show Ef (D7<|.bool<|!(l==m)) w=_;rw [show (!(l==m))=decide (l≠m) from by rw [sg]; simp]
theorem mf {fn:Fn} {first captured:Array ek} :(execOp (ev N σ) ⟨dst,.makeFunc fn first captured,ty,pos,af,g⟩).run P w= .ok (.value<|.func fn (first.map<|ev N σ)<|captured.map<|ev N σ) w:=rfl
theorem Co {fn:Fn} {first captured:Array ek} :(execOp (ev N σ) ⟨dst,.makeFunc fn first captured,ty,pos,af,g⟩).run P w= .ok (.value<|.func fn (first.toList.map<|ev N σ).toArray (captured.toList.map<|ev N σ).toArray) w:=by
 rw [mf,← nK,← nK]
end
end Go.Hb
namespace Go.Hb
def bO (h:Array Obj) (b:Nat) (L:List ag):Prop := ∃ e,h[b]? =some (.cells L.toArray e (0,0))
theorem bO.aV {h:Array Obj} {b:Nat} {L:List ag} (A:bO h b L) (j:Nat):Hb.aV h b j=L[j]? :=by
 obtain ⟨e,A⟩:=A;rw [a8 A]; simp
theorem bO.bu {h:Array Obj} {b:Nat} {L:List ag} (A:bO h b L) (j:Nat):Hb.aV h b (0 +j)=L[j]? :=by
 rw [im,A.aV]
theorem Md.B {F:Nat→Prop} {w w':ak} (h:Md F w w') {b:Nat} {L:List ag} (A:bO w.heap b L) (C:¬F b):bO w'.heap b L:=
 let ⟨e,A⟩:=A; ⟨e,h.bl A C⟩
theorem Wk.B {w w':ak} (h:Wk w w') {b:Nat} {L:List ag} (A:bO w.heap b L):bO w'.heap b L:=Md.B h A id
theorem bO.lt {h:Array Obj} {b:Nat} {L:List ag} (A:bO h b L):b < h.size:=let ⟨_,A⟩:=A; (dD.1 A).1
def bk (a:Option bF):Nat:=match a with | some ad=>ad.block | none=>0
def fo (a:Option bF):Nat:=match a with | some ad=>ad.off | none=>0
structure aB (h:Array Obj) (a:Option bF) (xs:List ag):Prop where
 ok:xs≠[]→a=some ⟨bk a,fo a,none⟩
 aV:∀ j u,xs[j]? =some u→Hb.aV h (bk a) (fo a+j)=some u
theorem aB.nil (h:Array Obj) (a:Option bF):aB h a []:=⟨fun h=>absurd rfl h,fun _ _ hu=>by simp at hu⟩
theorem aB.md {F:Nat→Prop} {w w':ak} {a:Option bF} {xs:List ag} (A:aB w.heap a xs) (h:Md F w w') (C:xs≠[]→¬F (bk a)):aB w'.heap a xs:=
 ⟨A.ok,fun j u hu=>h.aV (A.aV j u hu)<|C<|by rintro rfl; simp at hu⟩
theorem aB.wk {w w':ak} {a:Option bF} {xs:List ag} (A:aB w.heap a xs) (h:Wk w w'):aB w'.heap a xs:=A.md h fun _ x=>x
theorem aB.take {h:Array Obj} {a:Option bF} {xs:List ag} (A:aB h a xs) (n:Nat):aB h a (xs.take n):=
 ⟨fun C=>A.ok (by rintro rfl; simp at C),fun j u hu=>A.aV j u<|by rw [oG] at hu; split at hu; exact hu; cases hu⟩
theorem aB.dT {h:Array Obj} {b:Nat} {L:List ag} (A:bO h b L):aB h (some ⟨b,0,none⟩) L:=
 ⟨fun _=>rfl,fun j u hu=>by show Hb.aV h b (0 +j)=_; rw [im,A.aV]; exact hu⟩
theorem aB.gV {h:Array Obj} {a:Option bF} {xs:List ag} (A:aB h a xs) {i:Nat} {u:ag} (hu:xs[i]? =some u):Hb.aV h (bk a) (fo a+i*1)=some u:=by
 rw [Nat.mul_one]; exact A.aV i u hu
def bW (h:Array Obj) (a:Option bF) (l:List (List UInt8)):Prop :=aB h a<|l.map str
theorem bW.get {h:Array Obj} {a:Option bF} {l:List (List UInt8)} (hs:bW h a l) {i:Nat} (hi:i < l.length):Hb.aV h (bk a) (fo a+i*1)=some (str<|l.getD i []):=
 aB.gV hs (by simp [cH,hi])
theorem bW.wk {w w':ak} {a:Option bF} {l:List (List UInt8)} (hs:bW w.heap a l) (h:Wk w w'):bW w'.heap a l:=aB.wk hs h
theorem bS {α:Type} {f:α→ag} {l:List α} (h:0 < l.length):l.map f≠[]:=by
 cases l with
 | nil=>simp at h
 | cons x l=>simp
def ZW (k:ew) (h:Array Obj) (a:Option bF) (l:List Int):Prop :=aB h a<|l.map<|gq k
def gj (P:bH) (t e size bytes:Nat):Bool:=
 match P.underlying t with
 | some (.slice A)=>A==e && match P.info? e with
   | some i=>i.size==size && i.bytes==bytes && gu 0 size && match i.zero with
     | some z=>z.cells.size==size
     | none=>false
   | none=>false
 | _=>false
theorem r5 {P:bH} {t e size bytes:Nat} (h:gj P t e size bytes=true):
 P.underlying t=some (.slice e)∧∃ i z,P.info? e=some i∧i.zero=some z∧i.size=size∧i.bytes=bytes∧z.cells.size=size∧0 < size:=by
 unfold gj at h;split at h
 · rename_i C hu;simp only [il,beq_iff_eq] at h;obtain ⟨rfl,h⟩:=h;split at h
   · rename_i i hi;simp only [il,beq_iff_eq] at h;obtain ⟨⟨⟨h1,h2⟩,h3⟩,h4⟩:=h;split at h4
     · rename_i z A;exact ⟨hu,i,z,hi,A,h1,h2,by simpa using h4,vd (tF 0)<|sA h3⟩
     · cases h4
   · cases h
 · cases h
def eA (P:bH) (t:bB):Option Nat:=(P.info? t).map (·.size)
def zeroOf (P:bH) (t:bB):Option (Option<|List ag):=(P.info? t).map fun i=>i.zero.map fun z=>z.cells.toList
def gC (P:bH) (f:iz):Prop := ∀ args w,(callFunc f args).run P w= .ok (.enter f args) w
theorem Fy {P:bH} {f:iz} {fn:Func} (C:P.funcs[f]? =some fn) (hn:(fn.name== "runtime.NumGoroutine")=false) (A:fn.body.isNone=false):gC P f:=by
 intro args w;have h1:¬((fn.name== "runtime.NumGoroutine")=true):=by rw [hn]; simp
 have h2:¬(fn.body.isNone=true):=by rw [A]; simp
 simp only [callFunc,oF,run_program,oE,C];rw [if_neg h1,if_neg h2];rfl
section
variable {P:bH} {N:Fm} {σ:Nat→ag} {w:ak} {dst:Option Nat} {ty:bB} {pos :String} {af:Array fO} {g:Option (Nat×Bool)} {x y z:ek} {K:(Nat→ag)→ak→Prop}
theorem LA {o:cg} {f:iz} {L:List ag} {R:ag→ak→Prop} (E:(execOp (ev N σ) o).run P w= .ok (.enter f L.toArray) w) (C:ba P f L.toArray w R)
 (k:∀ v w',R v w'→K (gy σ o.dst v) w'):dI P N o σ w K:=by
 unfold dI kr;rw [jv,E];refine mm C fun e w' ⟨v,he,A⟩=> ?_;subst he;exact ⟨_,k9 ..,k v w' A⟩
theorem cl {f:iz} {args:Array ek} {A:Array bB} {L:List ag} {R:ag→ak→Prop} (E:gC P f) (G:ba P f L.toArray w R) (C:args.toList.map (ev N σ)=L)
 (k:∀ v w',R v w'→K (gy σ dst v) w'):dI P N ⟨dst,.call ⟨.value (.func f),args,A⟩,ty,pos,af,g⟩ σ w K:=by
 refine LA (f:=f) ?_ G k;have :args.map (ev N σ)=L.toArray:=by rw [← C,← nK]
 simp [execOp,resolve,ev,sh,invoke,this,E L.toArray w]
theorem PE {f:iz} {fo:ek} {first cap:Array ag} {args:Array ek} {A:Array bB} {L:List ag} {R:ag→ak→Prop} (E:gC P f) (I:ev N σ fo= .func (.func f) first cap)
 (G:ba P f L.toArray w R) (C:first.toList++args.toList.map (ev N σ)++cap.toList=L)
 (k:∀ v w',R v w'→K (gy σ dst v) w'):dI P N ⟨dst,.call ⟨.value fo,args,A⟩,ty,pos,af,g⟩ σ w K:=by
 refine LA (f:=f) ?_ G k;have :first++args.map (ev N σ)++cap=L.toArray:=by rw [← C,← nK,← LO,← LO]
 simp [execOp,resolve,I,sh,invoke,this,E L.toArray w]
theorem oC {o:cg} {ob:Obj} {v:Nat→ag} (A:(execOp (ev N σ) o).run P w= .ok (.value<|v w.heap.size) {w with heap:=w.heap.push ob})
 (k:∀ b w',b=w.heap.size→Nw w w'→w'.heap[b]? =some ob→K (gy σ o.dst<|v b) w'):dI P N o σ w K:=
 mW A (k _ _ rfl (Jq w ob) (by simp))
theorem al {e:bB} {C:List ag} (A:zeroOf P e=some (some C)) (k:∀ b w',b=w.heap.size→Nw w w'→bO w'.heap b C→K (gy σ dst<|.pointer<|some ⟨b,0,none⟩) w'):
 dI P N ⟨dst,.alloc e,ty,pos,af,g⟩ σ w K:=by
 refine oC (v:=fun b=> .pointer<|some ⟨b,0,none⟩) (ob:= .cells C.toArray e (0,0)) ?_ fun b w' h1 h2 h3=>k b w' h1 h2 ⟨e,h3⟩;unfold zeroOf at A;simp only [mZ] at A;obtain ⟨i,hi,zv,E,rfl⟩:=A;simp [execOp,L7,zeroValue,jn hi,E,newVar,newRow]
theorem gK {e:bB} {C:List ag} (A:zeroOf P e=some (some C)) (k:∀ b w',b=w.heap.size→Nw w w'→w'.heap[b]? =some (.cells C.toArray e (0,0))→K (gy σ dst<|.pointer<|some ⟨b,0,none⟩) w'):
 dI P N ⟨dst,.alloc e,ty,pos,af,g⟩ σ w K:=by
 refine oC (v:=fun b=> .pointer<|some ⟨b,0,none⟩) (ob:= .cells C.toArray e (0,0)) ?_ k;unfold zeroOf at A;simp only [mZ] at A;obtain ⟨i,hi,zv,E,rfl⟩:=A;simp [execOp,L7,zeroValue,jn hi,E,newVar,newRow]
theorem bx {e:bB} {v:ag} {L:List ag} (C:ev N σ x=v) (A:v.cells.toList=L) (k:∀ b w',b=w.heap.size→Nw w w'→bO w'.heap b L→K (gy σ dst<|.pointer<|some ⟨b,0,none⟩) w'):
 dI P N ⟨dst,.box e x,ty,pos,af,g⟩ σ w K:=by
 subst A;refine oC (v:=fun b=> .pointer<|some ⟨b,0,none⟩) (ob:= .cells v.cells e (0,0)) ?_ fun b w' h1 h2 h3=>k b w' h1 h2 ⟨e,h3⟩;simp [execOp,Instr.box,C,newVar,newRow]
theorem sY {t:bB} (k:∀ b w',b=w.heap.size→Nw w w'→w'.heap[b]? =some (.map #[] 0)→K (gy σ dst<|.map<|some b) w'):dI P N ⟨dst,.makeMap t none,ty,pos,af,g⟩ σ w K:=by
 refine oC (v:=fun b=> .map<|some b) ?_ k;simp [execOp,Instr.makeMap]
theorem mF {t e:bB} {size bytes:Nat} (C:gj P t e size bytes=true)
 (k:∀ b w',b=w.heap.size→Nw w w'→(∀ B,B≤b→w'.ownsRow B e size (.slice (some ⟨b,0,none⟩) 0 0) 0 [])→K (gy σ dst<|.slice (some ⟨b,0,none⟩) 0 0) w'):dI P N ⟨dst,.buildSlice t 0 #[],ty,pos,af,g⟩ σ w K:=by
 refine oC (v:=fun b=> .slice (some ⟨b,0,none⟩) 0 0) (ob:= .cells #[] e (0,0)) ?_ fun b w' h1 h2 h3=>k b w' h1 h2 fun B A=>⟨by simp,.inr ⟨b,0,#[],aa,A,h3,cE _,by simp [maxLen],by simp,by simp⟩⟩
 obtain ⟨hu,i,zv,hi,E,h1,h2,h3,h4⟩:=r5 C;simp [execOp,D1,dV hu,sizeOf,jn hi,nL,newRow];congr 2;exact Array.eq_empty_of_size_eq_zero<|by simp
theorem Ol {t e:bB} {size bytes:Nat} {v:ag} {L:List ag} (I:gj P t e size bytes=true) (hs:oH size 1000=true) (O:ev N σ x=v) (J:v.cells.size=size)
 (C:v.cells.toList=L) (k:∀ b w',b=w.heap.size→Nw w w'→w'.heap[b]? =some (.cells L.toArray e (0,0))→K (gy σ dst<|.slice (some ⟨b,0,none⟩) 1 1) w'):dI P N ⟨dst,.buildSlice t 1 #[(0,x)],ty,pos,af,g⟩ σ w K:=by
 subst C;refine oC (v:=fun b=> .slice (some ⟨b,0,none⟩) 1 1) (ob:= .cells v.cells e (0,0)) ?_ fun b w' h1 h2 h3=>k b w' h1 h2<|by simpa using h3
 obtain ⟨hu,i,zv,hi,V,h1,h2,h3,h4⟩:=r5 I;have Z:size≤1000:=by simpa using hs
 have E:nL (fun i=>some (i*size,size)) ((q5 size).map (zv.cells[· % zv.cells.size]!)) [(0,v)]=some v.cells:=by
  have A:((q5 size).map (zv.cells[· % zv.cells.size]!)).size=size:=by simp
  generalize (q5 size).map (zv.cells[· % zv.cells.size]!)=cs at A;simp only [nL,J];rw [if_neg (by rw [A]; simp)];congr 1;have key:∀ (l:List ag) (m:Nat) (cs:Array ag),m+l.length≤cs.size→∀ j,((l.zipIdx m).foldl (fun (cs:Array ag) (c,j)=>cs.setIfInBounds (0 *size+j) c) cs)[j]? =if j < m then cs[j]? else if j < m+l.length then l[j - m]? else cs[j]? :=by
   intro l
   induction l with
   | nil=>intro m cs hm j; simp; intro h1 h2; omega
   | cons c l Y=>
     intro m cs hm j;simp only [Ak,sy,cC] at hm ⊢;rw [Y (m+1) _ (by simp; omega)];simp only [EC,im,DV];by_cases h1:j < m
     · rw [if_pos ab,if_pos h1,if_neg ab]
     · rw [if_neg h1];by_cases h2:j=m
       · subst h2;rw [if_pos ab,if_pos rfl,if_pos ab,if_pos ab];simp
       · rw [if_neg ab];by_cases h3:j < m+1 +l.length
         · rw [if_pos h3,if_pos ab];obtain ⟨q,G⟩:∃ q,j - m=q+1:=⟨j - m - 1,ab⟩
           rw [G,MO,show j - (m+1)=q from by omega]
         · rw [if_neg h3,if_neg ab,if_neg ab]
  apply LL;intro j;have :=key v.cells.toList 0 cs (by simp; omega) j;rw [show (v.cells.zipIdx.foldl (fun (cs:Array ag) (c,j)=>cs.setIfInBounds (0 *size+j) c) cs)=((v.cells.toList.zipIdx 0).foldl (fun (cs:Array ag) (c,j)=>cs.setIfInBounds (0 *size+j) c) cs) from by
   rw [← Array.foldl_toList]; simp [Array.toList_zipIdx]]
  rw [this];simp only [Nat.not_lt_zero,if_false,im,Nat.sub_zero,xi,zL];split
  · rfl
  · rw [ti ab,ti ab]
 simp only [execOp,D1,oF,dV hu,oE,sizeOf,jn hi,q8,h1,Nat.one_mul,Eh,zeroValue,V,List.map_toArray,pF,List.map_nil,O,E];rw [if_neg (by rw [show (2:Nat) ^ 24=16777216 from rfl]; omega),if_neg ab];simp [newRow]
theorem Fi {t e:bB} {size bytes:Nat} {v:ag} {L:List ag} (C:gj P t e size bytes=true) (hs:oH size 1000=true) (G:ev N σ x=v) (E:v.cells.size=size)
 (A:v.cells.toList=L) (k:∀ b w',b=w.heap.size→Nw w w'→bO w'.heap b L→K (gy σ dst<|.slice (some ⟨b,0,none⟩) 1 1) w'):dI P N ⟨dst,.buildSlice t 1 #[(0,x)],ty,pos,af,g⟩ σ w K:=
 Ol C hs G E A fun b w' h1 h2 h3=>k b w' h1 h2 ⟨_,h3⟩
theorem rV {v:ag} (h:v.oneCell'=true):v.cells= #[v]:=by cases v <;> first | rfl | (cases h; done)
theorem G2 {loc:Nat→Option (Nat×Nat)} (C:∀ i,loc i=some (i*1,1)):∀ (rest pre A:List ag),A.length=rest.length→rest.all fX=true→
 nL loc (pre++A).toArray ((rest.zipIdx pre.length).map fun q=>(q.2,q.1))=some (pre++rest).toArray
 | [],pre,A,hl,_=>by
   rw [fY hl]; rfl
 | v::r,pre,A,hl,h1=>by
   cases A with
   | nil=>simp at hl
   | cons z A=>
     rw [uX,il] at h1;have G:=rV h1.1;have E:=G2 C r (pre++ [v]) A (by simpa using hl) h1.2;simp only [Ak,pF,nL,C,G];rw [if_neg (by simp)];simp only [bG,List.length_singleton,eX,List.singleton_append] at E;rw [← E];simp
theorem sK {t e bytes n:Nat} {ps:Array (Nat×ek)} {L:List ag} (E:gj P t e 1 bytes=true) (hp:ps.toList.map (fun p=>(p.1,ev N σ p.2))=(L.zipIdx 0).map fun q=>(q.2,q.1)) (h1:L.all fX=true) (hn:L.length=n) (hs:(oH n 1000 && gu 0 n)=true)
 (k:∀ b w',b=w.heap.size→Nw w w'→w'.heap[b]? =some (.cells L.toArray e (0,0))→K (gy σ dst<|.slice (some ⟨b,0,none⟩) n n) w'):dI P N ⟨dst,.buildSlice t n ps,ty,pos,af,g⟩ σ w K:=by
 subst hn;refine oC (v:=fun b=> .slice (some ⟨b,0,none⟩) L.length L.length) (ob:= .cells L.toArray e (0,0)) ?_ k;obtain ⟨hu,i,zv,hi,G,A,h2,h3,h4⟩:=r5 E;simp only [il] at hs;have J:L.length≤1000:=by simpa using hs.1
 have O:0 < L.length:=by have :=sA hs.2; omega
 have C:nL (fun i=>some (i*1,1)) ((q5<|L.length*1).map (zv.cells[· % zv.cells.size]!)) (ps.toList.map fun p=>(p.1,ev N σ p.2))=some L.toArray:=by
  rw [hp];have I:((q5<|L.length*1).map (zv.cells[· % zv.cells.size]!)).toList.length=L.length:=by simp
  have :=G2 (loc:=fun i=>some (i*1,1)) (fun _=>rfl) L [] ((q5<|L.length*1).map (zv.cells[· % zv.cells.size]!)).toList I h1;rw [qj,qj,zM] at this;exact this
 simp only [execOp,D1,oF,dV hu,oE,sizeOf,jn hi,q8,A,Eh,zeroValue,G,nK,C];rw [if_neg (by rw [show (2:Nat) ^ 24=16777216 from rfl]; omega),if_neg ab];simp [newRow]
theorem gv {t e:bB} {bytes:Nat} {v:ag} (A:gj P t e 1 bytes=true) (C:ev N σ x=v) (h1:v.oneCell'=true)
 (k:∀ b w',b=w.heap.size→Nw w w'→bO w'.heap b [v]→K (gy σ dst<|.slice (some ⟨b,0,none⟩) 1 1) w'):dI P N ⟨dst,.buildSlice t 1 #[(0,x)],ty,pos,af,g⟩ σ w K:=
 Fi A rfl C (by rw [rV h1]; rfl) (by rw [rV h1]) k
theorem lf {t e:bB} {size bytes:Nat} {L:List ag} (C:gj P t e size bytes=true) (hs:oH size 1000=true) (E:ev N σ x= .agg L.toArray) (A:L.length=size)
 (k:∀ b w',b=w.heap.size→Nw w w'→bO w'.heap b L→K (gy σ dst<|.slice (some ⟨b,0,none⟩) 1 1) w'):dI P N ⟨dst,.buildSlice t 1 #[(0,x)],ty,pos,af,g⟩ σ w K:=
 Fi C hs E (by simpa [sw] using A) (by simp [sw]) k
theorem iL {e:bB} {L:List ag} (A:ev N σ x= .agg L.toArray) (k:∀ b w',b=w.heap.size→Nw w w'→bO w'.heap b L→K (gy σ dst<|.pointer<|some ⟨b,0,none⟩) w'):
 dI P N ⟨dst,.box e x,ty,pos,af,g⟩ σ w K:=bx A (by simp [sw]) k
theorem nU {e:bB} {L:List ag} (A:ev N σ x= .agg L.toArray) (k:∀ b w',b=w.heap.size→Nw w w'→w'.heap[b]? =some (.cells L.toArray e (0,0))→K (gy σ dst<|.pointer<|some ⟨b,0,none⟩) w'):
 dI P N ⟨dst,.box e x,ty,pos,af,g⟩ σ w K:=by
 refine oC (v:=fun b=> .pointer<|some ⟨b,0,none⟩) (ob:= .cells L.toArray e (0,0)) ?_ fun b w' h1 h2 h3=>k b w' h1 h2 h3;simp [execOp,Instr.box,A,newVar,newRow,sw]
theorem vv {l:List ag} (h:l.all fX=true):∀ u∈l,u.oneCell'=true :=lV.1 h
theorem dd {t b off :Nat} {e:bB} {L:List ag} {v:ag} (C:eA P t=some 1) (ab:ev N σ x= .pointer (some ⟨b,off,none⟩)) (ac:ev N σ y=v) (h1:v.oneCell'=true) (A:w.heap[b]? =some (.cells L.toArray e (0,0))) (V:off < L.length)
 (k:∀ w',Md (fun k=>k=b) w w'→w'.heap[b]? =some (.cells (L.set off v).toArray e (0,0))→K σ w'):dI P N ⟨none,.store t x y,ty,pos,af,g⟩ σ w K:=by
 have G:v.cells= #[v]:=by cases v <;> first | rfl | (cases h1; done)
 have I:w.cell? ⟨b,off,none⟩=some L[off]:=by rw [nW,a8 A]; simp [V]
 have J:w.frozen? ⟨b,off,none⟩=false :=by simp only [World.frozen?,show w.heap[b]? =_ from A]; simp
 unfold eA at C;simp only [mZ] at C;obtain ⟨i,hi,hs⟩:=C;have E:(⟨b,off,none⟩:bF).add 0=⟨b,off,none⟩:=rfl;have Y:(execOp (ev N σ) ⟨none,.store t x y,ty,pos,af,g⟩).run P w= .ok .skip (w.setCell ⟨b,off,none⟩ v):=by
  simp [execOp,D6,ab,ac,si,storeVar,G,sizeOf,jn hi,hs,storeCells,E,run_store P w _ v _ h1,I,J]
 unfold dI kr;rw [jv,Y];refine ⟨σ,aa,k _ ⟨aa,aa,by simp [zW],fun k _ hk=> ?_⟩ ?_⟩
 · exact Below.heap_setCell w _ v k hk
 · have O:=(dD.1 A).1;have Z:w.heap[b]= .cells L.toArray e (0,0):=(dD.1 A).2;simp only [zW];rw [xh (by simpa using O),Array.getElem_modify];simp [Z,List.setIfInBounds_toArray]
theorem st {t b off :Nat} {L:List ag} {v:ag} (I:eA P t=some 1) (E:ev N σ x= .pointer (some ⟨b,off,none⟩)) (G:ev N σ y=v) (h1:v.oneCell'=true) (A:bO w.heap b L) (C:off < L.length)
 (k:∀ w',Md (fun k=>k=b) w w'→bO w'.heap b (L.set off v)→K σ w'):dI P N ⟨none,.store t x y,ty,pos,af,g⟩ σ w K:=
 let ⟨_,A⟩:=A
 dd I E G h1 A C fun w' h1 h2=>k w' h1 ⟨_,h2⟩
theorem gA {t b off n:Nat} {e:bB} {L vs:List ag} (A:eA P t=some n) (G:ev N σ x= .pointer (some ⟨b,off,none⟩)) (I:ev N σ y= .agg vs.toArray) (hn:vs.length=n) (h1:vs.all fX=true) (C:w.heap[b]? =some (.cells L.toArray e (0,0))) (J:off+n≤L.length)
 (k:∀ w',Md (fun k=>k=b) w w'→w'.heap[b]? =some (.cells (L.take off++vs++L.drop (off+n)).toArray e (0,0))→K σ w'):dI P N ⟨none,.store t x y,ty,pos,af,g⟩ σ w K:=by
 unfold eA at A;simp only [mZ] at A;obtain ⟨i,hi,hs⟩:=A;have dY:=run_storeCells_at P b off e vs 0 L.toArray w C (by simp; omega)<|vv h1;have E:(execOp (ev N σ) ⟨none,.store t x y,ty,pos,af,g⟩).run P w= .ok .skip (w.setRow b (L.take off++vs++L.drop (off+n)).toArray):=by
  simp [execOp,D6,G,I,si,storeVar,sw,sizeOf,jn hi,hs,hn,dY]
 unfold dI kr;rw [jv,E];exact ⟨σ,aa,k _ ⟨aa,aa,by simp,fun k _ hk=>setRow_other w b k _ hk⟩<|setRow_heap w b _ _ e _ C⟩
theorem c8 {t b off n:Nat} {L vs:List ag} (C:eA P t=some n) (G:ev N σ x= .pointer (some ⟨b,off,none⟩)) (I:ev N σ y= .agg vs.toArray) (hn:vs.length=n) (h1:vs.all fX=true) (A:bO w.heap b L) (J:off+n≤L.length)
 (k:∀ w',Md (fun k=>k=b) w w'→bO w'.heap b (L.take off++vs++L.drop (off+n))→K σ w'):dI P N ⟨none,.store t x y,ty,pos,af,g⟩ σ w K:=by
 obtain ⟨e,A⟩:=A;unfold eA at C;simp only [mZ] at C;obtain ⟨i,hi,hs⟩:=C;have dY:=run_storeCells_at P b off e vs 0 L.toArray w A (by simp; omega)<|vv h1;have E:(execOp (ev N σ) ⟨none,.store t x y,ty,pos,af,g⟩).run P w= .ok .skip (w.setRow b (L.take off++vs++L.drop (off+n)).toArray):=by
  simp [execOp,D6,G,I,si,storeVar,sw,sizeOf,jn hi,hs,hn,dY]
 unfold dI kr;rw [jv,E];exact ⟨σ,aa,k _ ⟨aa,aa,by simp,fun k _ hk=>setRow_other w b k _ hk⟩ ⟨e,setRow_heap w b _ _ e _ A⟩⟩
theorem NZ {t ty e:bB} {i:TypeInfo} {zv:ag} {B n m c:Nat} {v aa:ag} {xs news:List ag} {ad:bF} {w':ak} (hu:P.underlying t=some (.slice e)) (hi:P.info? e=some i) (Z:i.zero=some zv) (al:zv.cells.size=i.size) (ai:0 < i.size)
 (G:w.ownsRow B e i.size v n xs) (E:news.length=m*i.size) (I:∀ j u,news[j]? =some u→w.cell? (ad.add j)=some u) (h1:∀ u∈news,u.oneCell'=true) (O:n+m≤maxLen) (J:(n+m)*i.bytes≤140737488355328)
 (A:(zR #[t,t] ty #[v,.slice (some ad) m c]).run P w= .ok aa w'):∀ k,aa.ownBlock=some k→v.ownBlock=some k∨w.heap.size≤k:=by
 intro k hk;have am:n+m≤9223372036854775807:=by unfold maxLen at O; omega
 rcases G.2 with ⟨rfl,rfl⟩ | ⟨C,cap,cur,rfl,ao,ah,aq,ap,ac,au⟩
 · have aj:xs= []:=fY<|by simpa using G.1
   subst aj;obtain ⟨v2,av,V,h2,_,_⟩:=run_append_own (P:=P) w w.heap.size t ty e i zv i.size i.bytes hu hi Z rfl rfl al ai _ 0 [] (World.ownsRow_nil w w.heap.size e i.size) ad m c news E I h1 O J (cE _);rw [A] at V;cases V;exact .inr (by
    rcases h2.2 with ⟨h,_⟩ | ⟨g2,_,_,h,an,_⟩
    · rw [h] at hk; simp [jS] at hk
    · rw [h] at hk; simp only [jS,gJ] at hk; omega)
 · by_cases Y:n+m≤cap
   · have ae:n*i.size+news.length≤cur.size:=by rw [E,ac,← Nat.add_mul]; exact qo _ Y
     rw [run_append_room (P:=P) w t ty e i hu hi C n cap cur ah ad m c news E I h1 Y ae] at A;cases A;exact .inl hk
   · have holds:∀ j u,xs[j]? =some u→w.cell? ((⟨C,0,none⟩:bF).add j)=some u:=G.cells (g:=C) rfl;rw [run_append_grow (P:=P) w t ty e i zv hu hi Z ⟨C,0,none⟩ n cap xs G.1 holds ad m c news E I ab ab (growslice_fits ab J)] at A;cases A;simp only [jS,gJ] at hk;exact .inr ab
theorem ap {t e size bytes B n m c:Nat} {v:ag} {xs news:List ag} {a:Option bF} (an:gj P t e size bytes=true) (C:w.ownsRow B e size v n xs) (aa:ev N σ x=v) (ah:B≤w.heap.size)
 (ab:ev N σ y= .slice a m c) (J:aB w.heap a news) (E:news.length=m*size) (h1:news.all fX=true) (G:(n+m)*bytes≤140737488355328) (au:n+m≤9223372036854775807)
 (k:∀ A w',w'.ownsRow B e size A (n+m) (xs++news)→Md (fun k=>v.ownBlock=some k) w w'→(A= .slice none 0 0↔v= .slice none 0 0∧m=0)→(∀ k,A.ownBlock=some k→v.ownBlock=some k∨w.heap.size≤k)→K (gy σ dst A) w'):
 dI P N ⟨dst,.call ⟨.builtin .append,#[x,y],#[t,t]⟩,ty,pos,af,g⟩ σ w K:=by
 obtain ⟨hu,i,zv,hi,ac,hs,I,ae,Y⟩:=r5 an;have O:n+m≤maxLen:=by unfold maxLen; omega
 by_cases hm:news= []
 · subst hm;have ak:m=0:=by
    rcases Nat.mul_eq_zero.1 (E.symm.trans rfl) with h | h
    · exact h
    · omega
   subst ak;have am:(zR #[t,t] ty #[v,.slice a 0 c]).run P w= .ok v w:=by
    rcases C.2 with ⟨rfl,rfl⟩ | ⟨aq,cap,cur,rfl,_,_,hle,_⟩
    · cases a <;> simp [zR,dV hu,sizeOf,jn hi,LU,LS,loadCells,loadCellsFrom]
    · cases a <;> simp [zR,dV hu,sizeOf,jn hi,LU,LS,loadCells,loadCellsFrom,hle,storeCells]
   refine mW (w':=w) (v:=v) ?_<|k v w (by simpa using C) (Md.refl _ _) (by simp) fun _ h=> .inl h;simp [execOp,resolve,invoke,builtin,aa,ab,am]
 · have ai:=J.ok hm;have V:∀ j u,news[j]? =some u→w.cell? ((⟨bk a,fo a,none⟩:bF).add j)=some u:=fun j u hu=>by rw [mE,nW]; exact J.aV j u hu
   obtain ⟨A,w',Z,h2,h3,h4⟩:=run_append_own (P:=P) w B t ty e i zv size bytes hu hi ac hs I ae Y v n xs C ⟨bk a,fo a,none⟩ m c news E V (vv h1) O G ah;subst hs I;have aj:=NZ hu hi ac ae Y C E V (vv h1) O G Z;refine mW (w':=w') (v:=A) ?_<|k A w' h2 ⟨h3.os,h3.output,h3.size,fun k hk al=>h3.block k hk fun e=>al e.symm⟩ h4 aj;have ao:ev N σ y= .slice (some ⟨bk a,fo a,none⟩) m c:=ab.trans<|congrArg (fun a=>bQ a m c) ai;simp [execOp,resolve,invoke,builtin,aa,ao,Z]
theorem a6 {t n len cap:Nat} {k:ew} {i:Int} {a:Option bF} (he:gw P t=some n) (C:ev N σ x= .slice a len cap) (E:ev N σ y= .int k i) (A:0≤i∧i < len) (G:a=some ⟨bk a,fo a,none⟩):
 (execOp (ev N σ) ⟨dst,.indexAddr t x y,ty,pos,af,g⟩).run P w= .ok (.value<|.pointer<|some ⟨bk a,fo a+i.toNat*n,none⟩) w:=
 ia he (by rw [C]; congr 1) E A
end
theorem da {F:Nat→Prop} {w w':ak} {B e size n:Nat} {v:ag} {xs:List ag} (h:w.ownsRow B e size v n xs) (hm:Md F w w') (C:∀ k,v.ownBlock=some k→¬F k):w'.ownsRow B e size v n xs:=by
 refine ⟨h.1,?_⟩;rcases h.2 with hn | ⟨g,cap,cur,rfl,A,E,rest⟩
 · exact .inl hn
 · exact .inr ⟨g,cap,cur,aa,A,hm.bl E (C g aa),rest⟩
section
variable {P:bH} {N:Fm} {σ:Nat→ag} {w:ak} {dst:Option Nat} {ty:bB} {pos :String} {af:Array fO} {g:Option (Nat×Bool)} {x y z:ek} {K:(Nat→ag)→ak→Prop}
theorem uB {t B e size n cap off j:Nat} {a:Option bF} {xs:List ag} {u:ag} (ac:w.ownsRow B e size (.slice a n cap) n xs) (aj:eA P t=some 1) (ah:ev N σ x= .pointer (some ⟨bk a,off,none⟩)) (ai:ev N σ y=u) (h1:u.oneCell'=true)
 (Y:off =fo a+j) (ab:j < n*size)
 (k:∀ w',Md (fun k=>(bQ a n cap).ownBlock=some k) w w'→w'.ownsRow B e size (.slice a n cap) n (xs.set j u)→K σ w'):dI P N ⟨none,.store t x y,ty,pos,af,g⟩ σ w K:=by
 obtain ⟨E,h⟩:=ac;rcases h with ⟨h,rfl⟩ | ⟨A,cp,cur,h,G,V,hle,O,C,ae⟩
 · simp at ab
 · simp only [mq,true_and] at h;obtain ⟨rfl,rfl⟩:=h;have Z:off =j:=by rw [Y]; simp [fo]
   subst Z;have hlen:off < cur.toList.length:=by
    have :=qo size hle;rw [xi,C]; omega
   refine dd (L:=cur.toList) aj ah ai h1 (show w.heap[A]? =_ by simpa using V) hlen fun w' J I=>k w' (J.mono fun k _ hk=>by subst hk; rfl) ⟨by simpa using E,.inr ⟨A,cap,_,aa,G,I,hle,O,by simpa using C,?_⟩⟩;rw [← ae];simp only;rw [List.take_set]
end
theorem e9 {w:ak} {B e size n:Nat} {v:ag} {xs:List ag} (h:w.ownsRow B e size v n xs):v.oneCell'=true :=by
 rcases h.2 with ⟨rfl,_⟩ | ⟨g,cap,cur,rfl,_⟩ <;> rfl
theorem cz {w:ak} {B e size n:Nat} {v:ag} {xs:List ag} (h:w.ownsRow B e size v n xs):∃ a cap,v= .slice a n cap:=by
 rcases h.2 with ⟨rfl,rfl⟩ | ⟨g,cap,cur,rfl,_⟩
 · exact ⟨_,_,aa⟩
 · exact ⟨_,_,aa⟩
theorem nA {w:ak} {B B' e E size Y n V:Nat} {v G:ag} {xs Z:List ag} (h:w.ownsRow B e size v n xs) (I:w.ownsRow B' E Y G V Z) (O:e≠E) {k:Nat} (hk:v.ownBlock=some k):G.ownBlock≠some k:=by
 intro C;rcases h.2 with ⟨rfl,_⟩ | ⟨g,cap,cur,rfl,_,J,_⟩
 · simp [jS] at hk
 · rcases I.2 with ⟨rfl,_⟩ | ⟨ac,aa,ab,rfl,_,A,_⟩
   · simp [jS] at C
   · simp only [jS,gJ] at hk C;subst hk C;rw [J] at A;simp only [gJ,D8] at A;exact O A.2.1
theorem aU {w w':ak} {B e size n:Nat} {v:ag} {xs:List ag} (h:w.ownsRow B e size v n xs) (hm:Wk w w'):w'.ownsRow B e size v n xs:=da h hm fun _ _ x=>x
theorem dH {w:ak} {B e size n:Nat} {v:ag} {xs:List ag} (h:w.ownsRow B e size v n xs) {k:Nat} (hk:v.ownBlock=some k):B≤k∧k < w.heap.size:=h.lt k hk
theorem Wk.own {w0 w w':ak} {B e size n:Nat} {v:ag} {xs:List ag} (h:Wk w0 w) (A:w.ownsRow B e size v n xs) (hm:Md (fun k=>v.ownBlock=some k) w w') (E:w0.heap.size≤B):Wk w0 w':=
 Md.trans' h hm (fun k hk C=>by have :=(dH A C).1; omega)
theorem uw {w:ak} {B e size n:Nat} {v:ag} {xs:List ag} (h:w.ownsRow B e size v n xs):∃ a cap,v= .slice a n cap∧aB w.heap a xs∧n≤cap∧(∀ k,v.ownBlock=some k→a=some ⟨k,0,none⟩∧B≤k∧k < w.heap.size)∧(v.ownBlock=none→xs= []):=by
 rcases h.2 with ⟨rfl,rfl⟩ | ⟨g,cap,cur,rfl,C,A,hle,_,_,E⟩
 · have :xs= []:=fY<|by simpa using h.1
   subst this;exact ⟨none,0,aa,aB.nil _ _,cE _,fun k hk=>by simp [jS] at hk,fun _=>rfl⟩
 · refine ⟨_,cap,aa,⟨fun _=>rfl,fun j u hu=> ?_⟩,hle,fun k hk=> ?_,fun hk=>by simp [jS] at hk⟩
   · show aV w.heap g (0 +j)=_;rw [im,a8 A];rw [← E,oG] at hu;split at hu
     · simpa using hu
     · cases hu
   · simp only [jS,gJ] at hk; subst hk;exact ⟨aa,C,(dD.1 A).1⟩
theorem aX {w:ak} {B e size n cap:Nat} {a:Option bF} {xs:List ag} (h:w.ownsRow B e size (.slice a n cap) n xs):n≤cap∧aB w.heap a xs:=by
 obtain ⟨E,c',A,C,hle,_⟩:=uw h;simp only [mq,true_and] at A;obtain ⟨rfl,rfl⟩:=A;exact ⟨hle,C⟩
theorem eR {w:ak} {B B' e size n:Nat} {v:ag} {xs:List ag} (h:w.ownsRow B e size v n xs) (A:B'≤B):w.ownsRow B' e size v n xs:=by
 refine ⟨h.1,?_⟩;rcases h.2 with h | ⟨g,cap,cur,h1,h2,r⟩
 · exact .inl h
 · exact .inr ⟨g,cap,cur,h1,e7 A h2,r⟩
theorem aB.drop {h:Array Obj} {a:Option bF} {xs:List ag} (A:aB h a xs) {cap k size:Nat} (G:xs.length≤cap*size):aB h (iy a cap k size) (xs.drop<|k*size):=by
 unfold iy;by_cases hk:cap=k
 · rw [if_pos hk,iR (by rw [← hk]; exact G)]; exact aB.nil _ _
 · rw [if_neg hk];by_cases C:xs= []
   · subst C; rw [List.drop_nil]; exact aB.nil _ _
   · have E:=A.ok C;rw [E];simp only [lB,mE];refine ⟨fun _=>rfl,fun j u hu=> ?_⟩;rw [List.getElem?_drop] at hu;have :=A.aV _ _ hu;show Hb.aV h (bk a) (fo a+k*size+j)=_;rw [M6]; exact this
theorem VU {w:ak} {B e size n cap:Nat} {a:Option bF} {xs:List ag} (h:w.ownsRow B e size (.slice a n cap) n xs) (C:xs≠[]):B≤bk a∧bk a < w.heap.size:=by
 obtain ⟨E,c',A,_,_,h1,h2⟩:=uw h;simp only [mq,true_and] at A;obtain ⟨rfl,rfl⟩:=A;cases hk:(bQ a n cap).ownBlock with
 | none=>exact absurd (h2 hk) C
 | some k=>
   obtain ⟨rfl,h3,h4⟩:=h1 k hk;exact ⟨h3,h4⟩
section
variable {P:bH} {N:Fm} {σ:Nat→ag} {w:ak} {dst:Option Nat} {ty:bB} {pos :String} {af:Array fO} {g:Option (Nat×Bool)} {x y z:ek} {K:(Nat→ag)→ak→Prop}
end
end Go.Hb
namespace Go.Hb
section
variable {P:bH} {md:tw} {ops:Array cg} {Q:dG→Act→ak→Prop} {S:ak→Prop} {r:Nat}
def qY (P:bH) (md:tw) (ops:Array cg) (Q:dG→Act→ak→Prop) (S:ak→Prop) (r:Nat):Nat→Array Bool→Act→ak→Prop
 | 0,aW,a,w=>k5 md ops aW= []∧Q .normal a w
 | fuel+1,aW,a,w=>
   (k5 md ops aW= []→Q .normal a w)∧
   ∀ i∈k5 md ops aW,wpOp P ops Q i (fun A w'=>((aW.setIfInBounds i true).getD r false =false→S w')∧qY P md ops Q S r fuel (aW.setIfInBounds i true) A w') a w
theorem Lx:∀ (fuel:Nat) (aW:Array Bool) (a:Act) (w:ak),qY P md ops Q S r fuel aW a w→wpAny P md ops Q fuel aW a w
 | 0,_,_,_,h=>h
 | fuel+1,_,_,_,h=>⟨h.1,fun i hi=>wpOp_mono (fun A w' C=>Lx fuel _ A w' C.2)<|h.2 i hi⟩
theorem Zv {i:Nat} {G:cg} {v:ag} (hi:ops[i]? =some G) (an:∀ (j:Nat) (o:cg) cs b,ops[j]? =some o→o.op≠.select cs b)
 (aq:∀ c a w,Q (.panic c) (a.put G.dst v) w→Q (.panic c) a w) (aB:∀ o,ops[r]? =some o→∃ x∈o.after,lA md x=true∧x.on=i) (aw:i≠r):
 ∀ (fuel:Nat) (aW:Array Bool) (a:Act) (w:ak),
   (∀ j C,ops[j]? =some C→j≠i→aW.getD j true =false→(∀ x∈C.after,lA md x=true→x.on≠i)→G.apart ops C=true)→
   i∈k5 md ops aW→YieldsIf P ops S G v a→S w→aW.getD r false =false→
   qY P md ops Q S r fuel (aW.setIfInBounds i true) (a.put G.dst v) w→qY P md ops Q S r (fuel+1) aW a w:=by
 intro fuel
 induction fuel with
 | zero=>
   intro aW a w _ E V I _ H;refine ⟨fun h=>(by rw [h] at E; cases E),fun j J=> ?_⟩;by_cases A:j=i
   · subst A; exact V.wpOp hi I ⟨fun _=>I,H⟩
   · have :=ready_mono J A;rw [H.1] at this;cases this
 | succ fuel aC=>
   intro aW a w ac E V I aj H;refine ⟨fun h=>(by rw [h] at E; cases E),fun j J=> ?_⟩;by_cases A:j=i
   · subst A; exact V.wpOp hi I ⟨fun _=>I,H⟩
   · have h1:=H.2 j<|ready_mono J A;obtain ⟨ai,C,O,au⟩:=mem_ready.1 J;have am:∀ x∈C.after,lA md x=true→x.on≠i:=fun x aa Z heq=>by
      have h1:=au x aa Z;have ab:=(mem_ready.1 E).1;rw [heq] at h1;rcases fG i aW.size with Y | Y
      · simp [Y] at ab h1; rw [ab] at h1; cases h1
      · simp [ti Y] at h1
     have ah:j≠r:=by
      rintro rfl;obtain ⟨x,aa,Z,aA⟩:=aB C O;exact am x aa Z aA
     have ay:(aW.setIfInBounds j true).getD r false =false :=by rw [getD_set_ne false ah]; exact aj
     have al:((aW.setIfInBounds i true).setIfInBounds j true).getD r false =false :=by rw [getD_set_ne false ah,getD_set_ne false aw]; exact aj
     have h2:=wpOp_putIf O (ac j C O A ai am) (fun cs b=>an i G cs b hi) (fun cs b=>an j C cs b O) aq V h1;have av:∀ k ok,ops[k]? =some ok→k≠i→(aW.setIfInBounds j true).getD k true =false→
      (∀ x∈ok.after,lA md x=true→x.on≠i)→G.apart ops ok=true :=fun k ok hk ax ao az=>by
      refine ac k ok hk ax ?_ az;by_cases ae:j=k
      · subst ae; exact ai
      · rw [getD_set_ne true ae] at ao; exact ao
     refine wpOp_mono (fun ap w' h3=>⟨fun _=>h3.2.1 al,aC (aW.setIfInBounds j true) ap w' av (ready_mono E<|Ne.symm A) h3.1 (h3.2.1 al) ay ?_⟩) h2;rw [DW _ _ A];exact h3.2.2
end
section
variable {P:bH} {N:Fm} {ops:Array cg} {Q:dG→(Nat→ag)→ak→Prop} {σ:Nat→ag} {w:ak} {S:ak→Prop} {r fuel:Nat} {aW:Array Bool}
 {d':Option Nat} {d:Nat} {op:Op} {ty:bB} {pos :String} {af:Array fO} {v:ag}
def eT (P:bH) (N:Fm) (ops:Array cg) (Q:dG→(Nat→ag)→ak→Prop) (S:ak→Prop) (r fuel:Nat) (aW:Array Bool) (σ:Nat→ag) (w:ak):Prop :=
 qY P .any ops (lift N Q) S r fuel aW (act N σ) w
theorem gO {id:Nat} {l:List cg} (S:ak→Prop) (r:Nat) (A:pX N.r l=true) (hm:P.follows .mixedOrders=true) (C:S w.drew) (h:eT P N l.toArray Q S r l.length (uQ l.length false) σ w.drew):dA P N (.region id l.toArray true) Q σ w:=by
 exact E7 A hm<|Lx _ _ _ _<|by rw [ql]; exact h
def ue (F:List Nat) (ops:Array cg) (aW:Array Bool) (r i:Nat):Bool:=
 jY F ops aW i && !(aW.getD r false) && i !=r && (match ops[r]? with | some o=>o.after.toList.any (fun x=>lA .any x && x.on==i) | none=>false)
theorem lq (i:Nat) (hi:ops[i]? =some ⟨some d,op,ty,pos,af,none⟩) (C:ue N.F ops aW r i=true)
 (O:∀ w,S w→(execOp (ev N σ) ⟨some d,op,ty,pos,af,none⟩).run P w= .ok (.value v) w) (A:S w)
 (k:eT P N ops Q S r fuel (aW.setIfInBounds i true) (cU σ d v) w):eT P N ops Q S r (fuel+1) aW σ w:=by
 simp only [ue,jY,il,xk,bne_iff_ne,ne_eq] at C;obtain ⟨⟨⟨⟨⟨⟨E,G⟩,hf3⟩,hfF⟩,hf4⟩,hf5⟩,hf6⟩:=C;rw [hi] at hfF;refine Zv hi (Ee E) (fun c a w=>sU hfF c a w) (fun o I=> ?_) hf5 fuel aW _ w (Ed hi G) (by simpa using hf3) (.inl ⟨kM _ rfl _,fun w A=> ?_⟩) A hf4 ?_ (v:=v)
 · rw [I] at hf6;simp only [xv,il,beq_iff_eq] at hf6;obtain ⟨x,J,h1,h2⟩:=hf6;exact ⟨x,xj.1 J,h1,h2⟩
 · rw [jv]; exact O w A
 · rw [k9]; exact k
theorem ID (i:Nat) (hi:ops[i]? =some ⟨d',op,ty,pos,af,none⟩) (E:ou ops aW i=true)
 (h:dI P N ⟨d',op,ty,pos,af,none⟩ σ w (fun σ w=>((aW.setIfInBounds i true).getD r false =false→S w)∧eT P N ops Q S r fuel (aW.setIfInBounds i true) σ w)):eT P N ops Q S r (fuel+1) aW σ w:=by
 have A:k5 .any ops aW= [i]:=by simpa [ou] using E
 refine ⟨fun C=>absurd (A ▸ C) (by simp),fun k hk=> ?_⟩;rw [A] at hk;obtain rfl :k=i:=by simpa using hk
 unfold wpOp;simp only [hi];rw [if_pos (kM _ rfl _)];exact .inl<|uK h fun _ _ hk=>hk
theorem gN (i:Nat) (hi:ops[i]? =some ⟨d',op,ty,pos,af,none⟩) (A:ou ops aW i=true)
 (h:dI P N ⟨d',op,ty,pos,af,none⟩ σ w (fun σ w=>S w∧eT P N ops Q S r fuel (aW.setIfInBounds i true) σ w)):eT P N ops Q S r (fuel+1) aW σ w:=
 ID i hi A (LB h fun _ _ hk=>⟨fun _=>hk.1,hk.2⟩)
theorem dK (i:Nat) (hi:ops[i]? =some ⟨d',op,ty,pos,af,none⟩) (E:ou ops aW i=true) (C:(aW.setIfInBounds i true).getD r false =true)
 (h:dI P N ⟨d',op,ty,pos,af,none⟩ σ w (fun σ w=>eT P N ops Q S r fuel (aW.setIfInBounds i true) σ w)):eT P N ops Q S r (fuel+1) aW σ w:=
 ID i hi E (LB h fun _ _ hk=>⟨fun A=>absurd (A.symm.trans C) dM,hk⟩)
theorem eQ (C:(k5 .any ops aW).isEmpty=true) (h:Q .normal σ w):eT P N ops Q S r fuel aW σ w:=by
 have A:k5 .any ops aW= []:=by simpa using C
 cases fuel with
 | zero=>exact ⟨A,σ,rfl,h⟩
 | succ fuel=>exact ⟨fun _=>⟨σ,rfl,h⟩,by rw [A]; simp⟩
attribute [irreducible] eT
end
end Go.Hb
namespace Go.Hb
section
variable {P:bH} {md:tw} {ops:Array cg} {Q:dG→Act→ak→Prop} {S:ak→Prop} {r:Nat}
inductive sE (md:tw) (ops:Array cg) (i:Nat):Nat→Prop
 | one {r o e} :ops[r]? =some o→e∈o.after→lA md e=true→e.on=i→sE md ops i r
 | more {r o e} :ops[r]? =some o→e∈o.after→lA md e=true→sE md ops i e.on→sE md ops i r
def tG (md:tw) (ops:Array cg) (aW:Array Bool):Prop := ∀ (j:Nat) (o:cg),ops[j]? =some o→aW.getD j false =true→∀ e∈o.after,lA md e=true→aW.getD e.on false =true
theorem HJ {aW:Array Bool} {j k:Nat} (h:aW.getD k false =true):(aW.setIfInBounds j true).getD k false =true :=by
 by_cases e:j=k
 · subst e;by_cases A:j < aW.size
   · simp [A]
   · simp [A] at h
 · rw [getD_set_ne false e]; exact h
theorem tG.set {aW:Array Bool} {j:Nat} (h:tG md ops aW) (I:j∈k5 md ops aW):tG md ops (aW.setIfInBounds j true):=by
 intro k o hk E e he C;obtain ⟨_,O,J,G⟩:=mem_ready.1 I;by_cases A:j=k
 · subst A;rw [J] at hk; cases hk;exact HJ<|G e he C
 · rw [getD_set_ne false A] at E;exact HJ<|h k o hk E e he C
theorem sE.aW {aW:Array Bool} {i r:Nat} (hd:sE md ops i r) (E:tG md ops aW) (A:∀ o,ops[r]? =some o→∀ e∈o.after,lA md e=true→aW.getD e.on false =true):aW.getD i false =true :=by
 induction hd with
 | one h1 h2 h3 h4=>rw [← h4]; exact A _ h1 _ h2 h3
 | more h1 h2 h3 _ I=>exact I fun o G e he C=>E _ o G (A _ h1 _ h2 h3) e he C
theorem Zu {i:Nat} {E:cg} {v:ag} (hi:ops[i]? =some E) (ao:∀ (j:Nat) (o:cg) cs b,ops[j]? =some o→o.op≠.select cs b)
 (au:∀ c a w,Q (.panic c) (a.put E.dst v) w→Q (.panic c) a w) (hd:sE md ops i r) (ax:i≠r):
 ∀ (fuel:Nat) (aW:Array Bool) (a:Act) (w:ak),tG md ops aW→
   (∀ j G,ops[j]? =some G→j≠i→aW.getD j true =false→(∀ x∈G.after,lA md x=true→x.on≠i)→E.apart ops G=true)→
   i∈k5 md ops aW→YieldsIf P ops S E v a→S w→aW.getD r false =false→
   qY P md ops Q S r fuel (aW.setIfInBounds i true) (a.put E.dst v) w→qY P md ops Q S r (fuel+1) aW a w:=by
 intro fuel
 induction fuel with
 | zero=>
   intro aW a w _ _ C V I _ H;refine ⟨fun h=>(by rw [h] at C; cases C),fun j J=> ?_⟩;by_cases A:j=i
   · subst A; exact V.wpOp hi I ⟨fun _=>I,H⟩
   · have :=ready_mono J A;rw [H.1] at this;cases this
 | succ fuel aD=>
   intro aW a w ab ac C V I al H;refine ⟨fun h=>(by rw [h] at C; cases C),fun j J=> ?_⟩;by_cases A:j=i
   · subst A; exact V.wpOp hi I ⟨fun _=>I,H⟩
   · have h1:=H.2 j<|ready_mono J A;obtain ⟨aj,G,O,aa⟩:=mem_ready.1 J;have ae:aW.getD i false =false :=by
      have Z:=(mem_ready.1 C).1;rcases fG i aW.size with Y | Y
      · simpa [Y] using Z
      · simp [Y] at Z
     have aB:∀ x∈G.after,lA md x=true→x.on≠i:=fun x aC av heq=>by
      have h1:=aa x aC av;rw [heq,ae] at h1; cases h1
     have ai:j≠r:=by
      rintro rfl;have :=hd.aW ab fun o an=>by rw [O] at an; cases an; exact aa
      rw [ae] at this; cases this
     have az:(aW.setIfInBounds j true).getD r false =false :=by rw [getD_set_ne false ai]; exact al
     have am:((aW.setIfInBounds i true).setIfInBounds j true).getD r false =false :=by rw [getD_set_ne false ai,getD_set_ne false ax]; exact al
     have h2:=wpOp_putIf O (ac j G O A aj aB) (fun cs b=>ao i E cs b hi) (fun cs b=>ao j G cs b O) au V h1;have aw:∀ k ok,ops[k]? =some ok→k≠i→(aW.setIfInBounds j true).getD k true =false→
      (∀ x∈ok.after,lA md x=true→x.on≠i)→E.apart ops ok=true :=fun k ok hk ay ap aA=>by
      refine ac k ok hk ay ?_ aA;by_cases ah:j=k
      · subst ah; exact aj
      · rw [getD_set_ne true ah] at ap; exact ap
     refine wpOp_mono (fun aq w' h3=>⟨fun _=>h3.2.1 am,aD (aW.setIfInBounds j true) aq w' (ab.set J) aw (ready_mono C<|Ne.symm A) h3.1 (h3.2.1 am) az ?_⟩) h2;rw [DW _ _ A];exact h3.2.2
theorem Zw {i:Nat} {E:cg} {v:ag} (hi:ops[i]? =some E) (aj:∀ (j:Nat) (o:cg) cs b,ops[j]? =some o→o.op≠.select cs b)
 (an:∀ c a w,Q (.panic c) (a.put E.dst v) w→Q (.panic c) a w) (Y:i≠r):
 ∀ (fuel:Nat) (aW:Array Bool) (a:Act) (w:ak),
   (∀ j G,ops[j]? =some G→j≠i→aW.getD j true =false→(∀ x∈G.after,lA md x=true→x.on≠i)→E.apart ops G=true)→
   i∈k5 md ops aW→YieldsIf P ops (fun _=>True) E v a→(aW.getD r false =false→S w)→
   qY P md ops Q S r fuel (aW.setIfInBounds i true) (a.put E.dst v) w→qY P md ops Q S r (fuel+1) aW a w:=by
 intro fuel
 induction fuel with
 | zero=>
   intro aW a w _ C J V H;refine ⟨fun h=>(by rw [h] at C; cases C),fun j I=> ?_⟩;by_cases A:j=i
   · subst A; exact J.wpOp hi trivial ⟨fun h=>V (by rw [getD_set_ne false Y] at h; exact h),H⟩
   · have :=ready_mono I A;rw [H.1] at this;cases this
 | succ fuel az=>
   intro aW a w ac C J V H;refine ⟨fun h=>(by rw [h] at C; cases C),fun j I=> ?_⟩;by_cases A:j=i
   · subst A; exact J.wpOp hi trivial ⟨fun h=>V (by rw [getD_set_ne false Y] at h; exact h),H⟩
   · have h1:=H.2 j<|ready_mono I A;obtain ⟨ai,G,Z,ao⟩:=mem_ready.1 I;have au:aW.getD i false =false :=by
      have aa:=(mem_ready.1 C).1;rcases fG i aW.size with O | O
      · simpa [O] using aa
      · simp [O] at aa
     have ax:∀ x∈G.after,lA md x=true→x.on≠i:=fun x ay ap heq=>by
      have h1:=ao x ay ap;rw [heq,au] at h1; cases h1
     have h2:=wpOp_putIf Z (ac j G Z A ai ax) (fun cs b=>aj i E cs b hi) (fun cs b=>aj j G cs b Z) an J h1;have aq:∀ k ok,ops[k]? =some ok→k≠i→(aW.setIfInBounds j true).getD k true =false→
      (∀ x∈ok.after,lA md x=true→x.on≠i)→E.apart ops ok=true :=fun k ok hk av al aw=>by
      refine ac k ok hk av ?_ aw;by_cases ah:j=k
      · subst ah; exact ai
      · rw [getD_set_ne true ah] at al; exact al
     have ab:(aW.setIfInBounds i true).setIfInBounds j true =(aW.setIfInBounds j true).setIfInBounds i true :=DW _ _ fun e=>A e.symm;have ae:(aW.setIfInBounds j true).getD r false =false→((aW.setIfInBounds i true).setIfInBounds j true).getD r false =false :=fun h=>by rw [ab,getD_set_ne false Y]; exact h
     refine wpOp_mono (fun am w' h3=>⟨fun h=>h3.2.1 (ae h),az (aW.setIfInBounds j true) am w' aq (ready_mono C<|Ne.symm A) h3.1 (fun h=>h3.2.1<|ae h) ?_⟩) h2;rw [← ab];exact h3.2.2
end
section
variable {P:bH} {N:Fm} {ops:Array cg} {Q:dG→(Nat→ag)→ak→Prop} {σ:Nat→ag} {w:ak} {S:ak→Prop} {r fuel:Nat} {aW:Array Bool}
 {d:Nat} {op:Op} {ty:bB} {pos :String} {af:Array fO} {v:ag}
def x4 (ops:Array cg) (i:Nat):Nat→Nat→Bool
 | 0,_=>false
 | f+1,r=>match ops[r]? with | some o=>o.after.toList.any (fun e=>lA .any e && (e.on==i || x4 ops i f e.on)) | none=>false
theorem QK {i:Nat} :∀ (f r:Nat),x4 ops i f r=true→sE .any ops i r:=by
 intro f
 induction f with
 | zero=>intro r h; cases h
 | succ f E=>
   intro r h;rw [x4] at h;split at h
   · rename_i o C;simp only [xv,il,DZ,beq_iff_eq] at h;obtain ⟨e,he,A,h⟩:=h;rcases h with h | h
     · exact .one C (xj.1 he) A h
     · exact .more C (xj.1 he) A<|E _ h
   · cases h
def AV (ops:Array cg) (aW:Array Bool):Bool:=(List.range ops.size).all fun j=> !aW.getD j false || match ops[j]? with | some o=>o.after.toList.all (fun e=> !lA .any e || aW.getD e.on false) | none=>true
theorem Pk (h:AV ops aW=true):tG .any ops aW:=by
 intro j o A E e he C;unfold AV at h;rw [lV] at h;have h1:=h j<|List.mem_range.2 (dD.1 A).1;rw [E,A] at h1;simp only [Bool.not_true,Bool.false_or,lV,DZ,xk] at h1;rcases h1 e (xj.2 he) with h2 | h2
 · rw [C] at h2; cases h2
 · exact h2
def yr (F:List Nat) (ops:Array cg) (aW:Array Bool) (r i:Nat):Bool:=jY F ops aW i && !(aW.getD r false) && i !=r && AV ops aW && x4 ops i ops.size r
def sP (F:List Nat) (ops:Array cg) (aW:Array Bool) (r i:Nat):Bool:=jY F ops aW i && i !=r
theorem kJ (i:Nat) (hi:ops[i]? =some ⟨some d,op,ty,pos,af,none⟩) (C:yr N.F ops aW r i=true)
 (I:∀ w,S w→(execOp (ev N σ) ⟨some d,op,ty,pos,af,none⟩).run P w= .ok (.value v) w) (A:S w)
 (k:eT P N ops Q S r fuel (aW.setIfInBounds i true) (cU σ d v) w):eT P N ops Q S r (fuel+1) aW σ w:=by
 simp only [yr,jY,il,xk,bne_iff_ne,ne_eq] at C;obtain ⟨⟨⟨⟨⟨⟨⟨E,G⟩,hf3⟩,hfF⟩,hf4⟩,hf5⟩,hf6⟩,hf7⟩:=C;rw [hi] at hfF;unfold eT at*;refine Zu hi (Ee E) (fun c a w=>sU hfF c a w) (QK _ _ hf7) hf5 fuel aW _ w (Pk hf6) (Ed hi G) (by simpa using hf3) (.inl ⟨kM _ rfl _,fun w A=> ?_⟩) A hf4 ?_ (v:=v)
 · rw [jv]; exact I w A
 · rw [k9]; exact k
theorem qL (i:Nat) (hi:ops[i]? =some ⟨some d,op,ty,pos,af,none⟩) (A:sP N.F ops aW r i=true)
 (I:∀ w,(execOp (ev N σ) ⟨some d,op,ty,pos,af,none⟩).run P w= .ok (.value v) w) (C:aW.getD r false =false→S w)
 (k:eT P N ops Q S r fuel (aW.setIfInBounds i true) (cU σ d v) w):eT P N ops Q S r (fuel+1) aW σ w:=by
 simp only [sP,jY,il,bne_iff_ne,ne_eq] at A;obtain ⟨⟨⟨⟨E,G⟩,hf3⟩,hfF⟩,hf5⟩:=A;rw [hi] at hfF;unfold eT at*;refine Zw hi (Ee E) (fun c a w=>sU hfF c a w) hf5 fuel aW _ w (Ed hi G) (by simpa using hf3) (.inl ⟨kM _ rfl _,fun w _=> ?_⟩) C ?_ (v:=v)
 · rw [jv]; exact I w
 · rw [k9]; exact k
end
end Go.Hb
namespace Go.Hb
def Lg:Nat→Nat→List UInt8
 | 0,n=> [ky n]
 | f+1,n=>if n < 128 then [ky n] else ky (n % 128 +128)::Lg f (n / 128)
def YT (n:Nat):List UInt8:=Lg n n
def frame:List (List UInt8)→List UInt8
 | []=> []
 | r::l=>YT r.length++(r++frame l)
theorem fN {α:Type} (l:List α) (i:Nat) (d:α) (h:i < l.length):l.take (i+1)=l.take i++ [l.getD i d]:=by
 rw [List.take_succ_eq_append_getElem h]; simp [cH,h]
end Go.Hb
namespace Go.Hb
def U8 (l:List UInt8):List ag:=l.map fun b=>gq .u8 b.toNat
theorem xG (l:List UInt8):(U8 l).length=l.length:=by simp [U8]
theorem xF (a b:List UInt8):U8 (a++b)=U8 a++U8 b:=by simp [U8]
theorem Nz (l:List UInt8):(U8 l).all fX=true :=by
 rw [lV];intro u hu;simp only [U8,je] at hu;obtain ⟨b,_,rfl⟩:=hu;rfl
def xQ (P:bH) (t e u:bB):Bool:=
 gj P t e 1 1 && (match P.underlying e with | some (.int .u8)=>true | _=>false) && (match P.underlying u with | some .string=>true | _=>false) &&
  (match P.info? e with | some i=>(match i.zero with | some (.int .u8 0)=>true | _=>false) | none=>false)
theorem Oq {P:bH} {t e u:bB} (h:xQ P t e u=true):
 gj P t e 1 1=true∧P.underlying e=some (.int .u8)∧P.underlying u=some .string∧∃ i,P.info? e=some i∧i.zero=some (.int .u8 0):=by
 simp only [xQ,il] at h;obtain ⟨⟨⟨h1,h2⟩,h3⟩,h4⟩:=h;refine ⟨h1,?_,?_,?_⟩
 · split at h2
   · rename_i h; exact h
   · cases h2
 · split at h3
   · rename_i h; exact h
   · cases h3
 · split at h4
   · rename_i i hi;split at h4
     · rename_i h; exact ⟨i,hi,h⟩
     · cases h4
   · cases h4
section
variable {P:bH} {N:Fm} {σ:Nat→ag} {w:ak} {dst:Option Nat} {ty:bB} {pos :String} {af:Array fO} {g:Option (Nat×Bool)} {x y z:ek} {K:(Nat→ag)→ak→Prop}
theorem foldl_push (l:List UInt8) (r:ByteArray):(l.map fun b=>(b.toNat:Int)).foldl (fun r n=>r.push<|ky n.toNat) r=⟨r.data++l.toArray⟩:=by
 induction l generalizing r with
 | nil=>simp
 | cons b l A=>
   simp only [pF,sy];rw [A];apply ByteArray.ext;simp [ByteArray.push]
theorem n9 {t e u n c:Nat} {a:Option bF} {l:List UInt8} (h:xQ P t e u=true) (O:ev N σ x= .slice a n c) (A:aB w.heap a (U8 l)) (C:l.length=n):
 (execOp (ev N σ) ⟨dst,.convert t u x,ty,pos,af,g⟩).run P w= .ok (.value<|str l) w:=by
 obtain ⟨h1,h2,h3,_⟩:=Oq h;obtain ⟨hu,_⟩:=r5 h1;have G:(LY<|.slice a n c).run P w= .ok (str l) w:=by
  by_cases he:l= []
  · subst he;cases a with
    | none=>simp [LY,str]; rfl
    | some a=>
      subst C;have :=run_bytesToString (P:=P) w a 0 c []<|by simp [loadCells,loadCellsFrom]
      exact this.trans aa
  · have E:=A.ok<|by simpa [U8] using he
    have J:(loadCells ⟨bk a,fo a,none⟩ n).run P w= .ok ((l.map fun b=>(b.toNat:Int)).map<|gq .u8).toArray w:=by
     subst C;have :=run_loadCells_list (P:=P) w ⟨bk a,fo a,none⟩ (U8 l) fun j v I=>by
      rw [mE,nW];exact A.aV j v I
     rw [xG] at this;rw [this];simp [U8]
    rw [E,run_bytesToString w _ n c _ J,foldl_push];simp [str,ByteArray.empty,ByteArray.emptyWithCapacity];rfl
 simp [execOp,O,run_convert_bytes_string w t u e a n c hu h2 h3,G]
theorem Y3 {at_:Array bB} {v:ag} {a:Option bF} {n c:Nat} (A:ev N σ x= .slice a n c) (h:a=none∨c≠0):
 (execOp (ev N σ) ⟨dst,.call ⟨.builtin .unsafeSliceData,#[x],at_⟩,ty,pos,af,g⟩).run P w= .ok (.value<|.pointer a) w:=by
 have _:=v;have :(Builtin.unsafeSliceData_ at_ ty #[.slice a n c]).run P w= .ok (.pointer a) w:=by
  cases a with
  | none=>exact Lib.run_unsafeSliceData_nil w at_ ty n c
  | some a=>exact Lib.run_unsafeSliceData_row w at_ ty a n c<|h.resolve_left<|by simp
 simp [execOp,resolve,invoke,builtin,A,this]
def ptrTo (P:bH) (C e:bB):Bool:=match P.underlying C with | some (.pointer A)=>A==e && P.cellsOf e==1 | _=>false
theorem Y4 {G it e B n c:Nat} {a:Option bF} {l:List UInt8} {xs:List ag} (hp:ptrTo P G e=true) (O:ev N σ x= .pointer a) (V:ev N σ y= .int .i64 n) (E:w.ownsRow B e 1 (.slice a n c) n xs)
 (am:xs=U8 l) (an:n≤9223372036854775807)
 (k:∀ w',Md (fun k=>(bQ a n c).ownBlock=some k) w w'→w'.heap.size=w.heap.size→K (gy σ dst<|str l) w'):
 dI P N ⟨dst,.call ⟨.builtin .unsafeString,#[x,y],#[G,it]⟩,ty,pos,af,g⟩ σ w K:=by
 subst am;have A:l.length=n:=by have :=E.1; simpa [U8] using this
 unfold ptrTo at hp;split at hp
 case h_2=>cases hp
 rename_i I hu;simp only [il,beq_iff_eq] at hp;obtain ⟨rfl,Z⟩:=hp;by_cases he:l= []
 · subst he;obtain rfl :n=0:=A.symm;refine mW (w':=w) (v:=str []) ?_<|k w (Md.refl _ _) aa;simp [execOp,resolve,invoke,builtin,O,V,Lib.run_unsafeString_none];rfl
 · rcases E.2 with ⟨h,Y⟩ | ⟨C,cap,cur,h,_,ae,hle,_,al,ao⟩
   · subst Y; simp only [List.length_eq_zero_iff] at A; exact absurd A he
   · simp only [mq,true_and] at h;obtain ⟨rfl,rfl⟩:=h;have ak:w.shape? C=some (I,cur.size):=by simp [En,ae]
     have aj:=Lib.run_unsafeString_row (P:=P) w G it ty I hu Z C cur.size ak l he (by rw [A,al]; omega) ab (fun j u hu=>by
      obtain ⟨ad,cp,J,ac,_,hk,_⟩:=uw E;simp only [mq,true_and] at J;obtain ⟨rfl,rfl⟩:=J;rw [mE,nW];exact ac.aV j _ (by simp [U8,hu]))
     refine mW (w':=w.freeze ⟨C,0,none⟩ l.length) (v:=str l) ?_ (k _ ⟨?_,?_,?_,?_⟩ ?_)
     · simp [execOp,resolve,invoke,builtin,O,V,← A,aj,str]
     · unfold xu; split <;> rfl
     · unfold xu; split <;> rfl
     · unfold xu; split <;> simp
     · intro k hk ah;have ai:k≠C:=fun e=>ah<|by simp [jS,e]
       unfold xu;split
       · rfl
       · simp only [Array.getElem?_modify]; rw [if_neg (fun e=>ai e.symm)]
     · unfold xu; split <;> simp
def xe (P:bH) (C up e n:Nat):Bool:=
 (match P.underlying C with | some (.pointer A)=>A==e | _=>false) && (match P.underlying up with | some .unsafePointer=>true | _=>false) && P.cellsOf e==n && gu 0 n && (match P.info? e with | some i=>i.size==n | _=>false)
theorem Lj {P:bH} {A up e n:Nat} (h:xe P A up e n=true):P.underlying A=some (.pointer e)∧P.underlying up=some .unsafePointer∧P.cellsOf e=n∧0 < n∧∃ i,P.info? e=some i∧i.size=n:=by
 simp only [xe,il] at h;obtain ⟨⟨⟨⟨h1,h2⟩,h3⟩,h4⟩,h5⟩:=h;refine ⟨?_,?_,by simpa using h3,vd (tF 0) (sA h4),?_⟩
 · split at h1
   · rename_i h; simp only [beq_iff_eq] at h1; rw [h,h1]
   · cases h1
 · split at h2
   · rename_i h; exact h
   · cases h2
 · split at h5
   · rename_i i hi; exact ⟨i,hi,by simpa using h5⟩
   · cases h5
theorem Yz {A up e n b:Nat} {L:List ag} (h:xe P A up e n=true) (J:ev N σ x= .pointer (some ⟨b,0,none⟩)) (C:w.heap[b]? =some (.cells L.toArray e (0,0))) (E:L.length=n):
 (execOp (ev N σ) ⟨dst,.convert A up x,ty,pos,af,g⟩).run P w= .ok (.value<|.pointer<|some ⟨b,0,none⟩) w:=by
 obtain ⟨h1,h2,h3,h4,i,hi,hs⟩:=Lj h;have I:w.shape? b=some (e,L.length):=by simp [En,C]
 have G:¬n=0:=ab;simp [execOp,J,convert,dV h1,dV h2,L0,LZ,viewAt,I,cellsIn,E,sizeOf,jn hi,hs,G]
theorem R8 {C up e n b:Nat} {L:List ag} (h:xe P C up e n=true) (O:ev N σ x= .pointer (some ⟨b,0,none⟩)) (E:w.heap[b]? =some (.cells L.toArray e (0,0))) (G:L.length=n):
 (execOp (ev N σ) ⟨dst,.convert up C x,ty,pos,af,g⟩).run P w= .ok (.value<|.pointer<|some ⟨b,0,none⟩) w:=by
 obtain ⟨h1,h2,h3,h4,i,hi,hs⟩:=Lj h;have J:w.shape? b=some (e,L.length):=by simp [En,E]
 have A:¬n=0:=ab;have I:liesAt P P.depth e (L.length / P.cellsOf e) 0 e 1=true :=by
  have hd:P.depth=(2 *(P.types.size+Made.depth)+1)+1:=rfl;rw [hd];simp only [liesAt,DZ];left;rw [hd];simp [rowAt,h3,A,G,sameLayout,Nat.div_self h4]
 simp [execOp,O,convert,dV h1,dV h2,L0,LZ,viewAt,J,variablesAt,sizeOf,jn hi,hs,A,I]
theorem Vj {t E e:bB} {a:bF} (hu:P.underlying t=some (.pointer e)) (hs:(P.info? e).isSome=true) (A:ev N σ x= .pointer (some a)) (C:ev N σ y= .pointer (some a)):
 (execOp (ev N σ) ⟨dst,.binOp .neq t x y E,ty,pos,af,g⟩).run P w= .ok (.value<|.bool false) w:=by
 obtain ⟨i,hi⟩:=nP.1 hs;have he:∀ d,(q7 (d+1) t (.pointer<|some a)<|.pointer<|some a).run P w= .ok true w:=by
  intro d;simp [q7,dV hu,sizeOf,jn hi,sameAddr]
 have h:(binOp .neq t (.pointer<|some a)<|.pointer<|some a).run P w= .ok (.bool false) w:=by
  have :=he 9999;simp only [binOp];have h2:(D9 t (.pointer<|some a)<|.pointer<|some a).run P w= .ok true w:=this;simp [h2]
 simp [execOp,A,C,eqGuard,h]
theorem PF {f:iz} {args:Array ek} {A:Array bB} {v:ag} (E:∀ v w,(callFunc f #[v]).run P w= .ok (.value v) w) (C:args.toList.map (ev N σ)= [v]):
 (execOp (ev N σ) ⟨dst,.call ⟨.value (.func f),args,A⟩,ty,pos,af,g⟩).run P w= .ok (.value v) w:=by
 have :args.map (ev N σ)= #[v]:=by rw [← zO,nK,C]
 simp [execOp,resolve,ev,sh,invoke,this,E]
structure Bd (T e:bB) (w:ak) (b:Nat) (buf:ag) (l:List UInt8):Prop where
 bl:∃ pa,w.heap[b]? =some (.cells [Value.pointer pa,buf].toArray T (0,0))∧(pa=none∨pa=some ⟨b,0,none⟩)
 own:w.ownsRow (b+1) e 1 buf l.length (U8 l)
 nil:buf= .slice none 0 0↔l= []
def BF (b:Nat) (A:ag) (k:Nat):Prop :=k=b∨A.ownBlock=some k
end
theorem Bd.lt {T e b:Nat} {w:ak} {A:ag} {l:List UInt8} (h:Bd T e w b A l):b < w.heap.size:=let ⟨_,h,_⟩:=h.bl; (dD.1 h).1
theorem Bd.jM {T e b:Nat} {w:ak} {A:ag} {l:List UInt8} (h:Bd T e w b A l) {k:Nat} (hk:BF b A k):b≤k∧k < w.heap.size:=by
 rcases hk with rfl | hk
 · exact ⟨cE _,h.lt⟩
 · have :=h.own.lt k hk; omega
theorem Bd.md {T e b:Nat} {F:Nat→Prop} {w w':ak} {A:ag} {l:List UInt8} (h:Bd T e w b A l) (hm:Md F w w') (C:∀ k,BF b A k→¬F k):Bd T e w' b A l:=by
 obtain ⟨⟨E,h1,h2⟩,h3,h4⟩:=h;exact ⟨⟨E,hm.bl h1 (C b<|.inl aa),h2⟩,da h3 hm (fun k hk=>C k<|.inr hk),h4⟩
end Go.Hb
namespace Go.Hb
def ik (P:bH) (t:bB):Option (List (Nat×Nat)×List ag):=
 match P.info? t,P.underlying t with
 | some it,some (.struct fields)=>
   match it.zero,fields.toList.mapM (fun f=>(P.info? f.type).map fun i=>(f.offset,i.size)) with
   | some z,some pl=>some (pl,z.cells.toList)
   | _,_=>none
 | _,_=>none
def wq (pl:List (Nat×Nat)):List ag→List (Nat×ag)→Option (List ag)
 | A,[]=>some A
 | A,(i,v)::r=>match pl[i]? with
   | some (off,s)=>if (s==1 && v.oneCell' && gu off A.length)=true then wq pl (A.set off v) r else none
   | none=>none
theorem Wm {pl:List (Nat×Nat)} {A L:List ag} {ps:List (Nat×ag)} (h:wq pl A ps=some L):nL (pl.toArray[·]?) A.toArray ps=some L.toArray:=by
 induction ps generalizing A with
 | nil=>simp only [wq,gJ] at h; subst h; rfl
 | cons p ps I=>
   obtain ⟨i,v⟩:=p;simp only [wq] at h;split at h
   · rename_i off s hs;split at h
     · rename_i C;simp only [il,beq_iff_eq] at C;obtain ⟨⟨rfl,h1⟩,ho⟩:=C;have J:off < A.length:=sA ho;have G:v.cells= #[v]:=rV h1;have E:pl.toArray[i]? =some (off,1):=by simpa using hs
       simp only [nL,E,G];rw [if_neg (by simp; omega),← I h];simp
     · cases h
   · cases h
theorem mJ {α:Type} {f:α→List ag} {m:Nat} (A:∀ a,(f a).length=m) (l:List α):(l.flatMap f).length=l.length*m:=by
 induction l with
 | nil=>simp
 | cons x l C=>simp [C,A,ri,Nat.add_comm]
theorem yl {α:Type} {f:α→List ag} {m:Nat} (A:∀ a,(f a).length=m) {l:List α} {j c:Nat} {a:α} (h:l[j]? =some a) (C:c < m):(l.flatMap f)[j*m+c]? =(f a)[c]? :=by
 induction l generalizing j with
 | nil=>simp at h
 | cons x l E=>
   cases j with
   | zero=>
     simp only [List.getElem?_cons_zero,gJ] at h; subst h;rw [EC,im,kt,mX (by rw [A]; exact C)]
   | succ j=>
     simp only [MO] at h;rw [kt,nN (by rw [A,ri]; omega),A,show (j+1)*m+c - m=j*m+c from by rw [ri]; omega];exact E h
theorem fI {α:Type} {f:α→List ag} {m:Nat} (A:∀ a,(f a).length=m) {h:Array Obj} {a:Option bF} {l:List α} {i:Nat} {e:α} (E:aB h a (l.flatMap f)) (G:l[i]? =some e):∀ j,j < m→Hb.aV h (bk a) (fo a+i*m+j)=(f e)[j]? :=by
 intro j C;have h1:=yl A G C;have h2:j < (f e).length:=by rw [A]; exact C
 rw [bY h2] at h1 ⊢;rw [M6]; exact E.aV _ _ h1
theorem Bv {α:Type} {f:α→List ag} {m:Nat} (A:∀ a,(f a).length=m) (hm:0 < m) {l:List α} (h:0 < l.length):l.flatMap f≠[]:=by
 intro e;have :=mJ A l;rw [e] at this;have :0 < l.length*m:=Nat.mul_pos h hm;simp at*; omega
theorem Ht {α:Type} {f:α→List ag} {m:Nat} (A:∀ a,(f a).length=m) {l:List α} {j:Nat} (x:α) (h:j < l.length):(l.set j x).flatMap f=(l.flatMap f).take (j*m)++f x++(l.flatMap f).drop (j*m+m):=by
 induction l generalizing j with
 | nil=>simp at h
 | cons y l C=>
   cases j with
   | zero=>
     simp only [List.set_cons_zero,kt,EC,pH,qj,im];rw [MA,MD (by rw [A]; exact cE _),A]; simp
   | succ j=>
     simp only [cC] at h;rw [List.set_cons_succ,kt,C ab,kt,List.take_append,MA,A,List.take_of_length_le (l:=f y) (by rw [A,ri]; omega),MD (l:=f y) (by rw [A,ri]; omega),
      show (j+1)*m - m=j*m from by rw [ri]; omega,show (j+1)*m+m - m=j*m+m from by rw [ri]; omega]
     simp
theorem Bw {α:Type} {f:α→List ag} (A:∀ a,(f a).all fX=true) (l:List α):(l.flatMap f).all fX=true :=by
 simp only [List.all_flatMap,lV]; intro x _; exact lV.1<|A x
section
variable {P:bH} {N:Fm} {σ:Nat→ag} {w:ak} {dst:Option Nat} {ty:bB} {pos :String} {af:Array fO} {g:Option (Nat×Bool)} {x y z:ek} {K:(Nat→ag)→ak→Prop}
theorem cV {t:bB} {parts:Array (Nat×ek)} {pl:List (Nat×Nat)} {A L:List ag} {ps:List (Nat×ag)} (h:ik P t=some (pl,A)) (hp:parts.toList.map (fun p=>(p.1,ev N σ p.2))=ps) (C:wq pl A ps=some L):
 (execOp (ev N σ) ⟨dst,.build t parts,ty,pos,af,g⟩).run P w= .ok (.value<|.agg L.toArray) w:=by
 unfold ik at h;split at h
 · rename_i it fields hi hu;split at h
   · rename_i z I G hm;simp only [gJ,Prod.mk.injEq] at h;obtain ⟨rfl,rfl⟩:=h;have E:P.built t (parts.map fun p=>(p.1,ev N σ p.2)).toList=some L.toArray:=by
      have :=Wm C;simp only [zM] at this;simp only [Program.built,hi,hu,G,hm,nK,hp]; exact this
     simp [execOp,run_build w t _ _ E]
   · cases h
 · cases h
end
end Go.Hb
namespace Go.Hb
section
variable {P:bH} {N:Fm} {σ:Nat→ag} {w:ak} {dst:Option Nat} {ty:bB} {pos :String} {af:Array fO} {g:Option (Nat×Bool)} {x y z:ek} {K:(Nat→ag)→ak→Prop}
theorem UL {zv:ag} (h1:zv.oneCell'=true) (n:Nat):madeCells zv.cells n=(ku n zv).toArray:=by
 rw [rV h1];apply Array.ext
 · simp [madeCells]
 · intro i h2 h3;simp [madeCells,Nat.mod_one]
theorem Va {t e bytes n:Nat} {J I:ew} {zv:ag} (Z:gj P t e 1 bytes=true) (A:zeroOf P e=some (some [zv])) (h1:zv.oneCell'=true) (ac:ev N σ x= .int J n) (ae:ev N σ y= .int I n) (ai:bytes*n≤281474976710656) (C:n≤maxLen)
 (k:∀ b w',b=w.heap.size→Nw w w'→(∀ B,B≤b→w'.ownsRow B e 1 (.slice (some ⟨b,0,none⟩) n n) n (ku n zv))→K (gy σ dst<|.slice (some ⟨b,0,none⟩) n n) w'):dI P N ⟨dst,.makeSlice t x y,ty,pos,af,g⟩ σ w K:=by
 obtain ⟨hu,i,O,hi,G,hs,Y,ak,aj⟩:=r5 Z;have ah:O.cells= #[zv]:=by
  unfold zeroOf at A;simp only [hi,G,lB,gJ] at A;exact zO.1<|by simpa using A
 refine oC (v:=fun b=> .slice (some ⟨b,0,none⟩) n n) (ob:= .cells (ku n zv).toArray e (0,0)) ?_ fun b w' h2 h3 h4=>k b w' h2 h3 fun B V=>⟨by simp,.inr ⟨b,n,_,aa,V,h4,cE _,C,by simp,by simp⟩⟩
 have E:=run_make (P:=P) w t e i O hu hi G J I n n ab (Int.le_refl _) (by rw [Y,← Int.natCast_mul]; omega)<|by unfold maxLen at C; omega
 rw [ah,hs,Nat.mul_one,Int.toNat_natCast,show madeCells #[zv] n=(ku n zv).toArray by rw [← UL h1,rV h1]] at E;simp [execOp,ac,ae,E]
end
end Go.Hb
namespace Go.Hb
section
variable {P:bH} {N:Fm} {σ:Nat→ag} {w:ak} {dst:Option Nat} {ty:bB} {pos :String} {af:Array fO} {g:Option (Nat×Bool)} {x y z:ek}
theorem O5 {t n len cap i:Nat} {a:Option bF} {k k':ew} (he:gw P t=some n) (E:ev N σ x= .slice a len cap) (G:ev N σ y= .int k (i:Nat)) (I:ev N σ z= .int k' (i:Nat)) (h:i≤cap):
 (execOp (ev N σ) ⟨dst,.slice t x none (some y) (some z),ty,pos,af,g⟩).run P w= .ok (.value<|.slice a i i) w:=by
 have A:(0:Int)≤(i:Int):=ab;unfold gw at he;cases hd:P.underlying t with
 | none=>rw [hd] at he; cases he
 | some d=>
   rw [hd] at he;cases d <;> first | (cases he; done) | skip
   rename_i e;cases hi':P.info? e with
   | none=>simp [hi'] at he
   | some j=>
     have C:(if i=0 then a else a.map (·.add 0))=a:=by
      split
      · rfl
      · cases a <;> simp [zQ]
     simp only [execOp,tu,xn,E,G,I,lB,Option.map_none,qc,tv,asIntOf];simp [dV hd,jn hi',sizeOf,A,C];intro J; omega
end
end Go.Hb
namespace Go.Hb
def sF (h:Array Obj) (b:Nat) (kvs:List (ag×ag)):Prop := ∃ es clock,h[b]? =some (.map es clock)∧es.toList.map (fun e=>(e.key,e.val))=kvs
theorem sF.md {F:Nat→Prop} {w w':ak} {b:Nat} {kvs:List (ag×ag)} (h:sF w.heap b kvs) (hm:Md F w w') (A:¬F b):sF w'.heap b kvs:=
 let ⟨es,c,h1,h2⟩:=h; ⟨es,c,hm.bl h1 A,h2⟩
structure vo (P:bH) (k:bB) (isK:ag→Prop):Prop where
 check:∀ em w v,isK v→(pw em 10000 k v).run P w= .ok () w
 find:∀ w x es,isK x→(∀ e∈es,isK e.key)→
  ((tq k x es).run P w= .ok none w∧∀ e∈es,e.key≠x)∨∃ j e,(tq k x es).run P w= .ok (some (j,e.val)) w∧es[j]? =some e∧e.key=x
theorem OT {P:bH} {k:bB} {q:ew} {em:Bool} {n:Nat} {a:Int} (hk:P.underlying k=some (.int q)) (w:ak):(pw em (n+1) k<|.int .i64 a).run P w= .ok () w:=by
 simp only [pw,oF,dV hk,oE,q8]
theorem FD {P:bH} {k:bB} {em:Bool} {n:Nat} {a:List UInt8} (hk:P.underlying k=some .string) (w:ak):(pw em (n+1) k<|str a).run P w= .ok () w:=by
 simp only [str,pw,oF,dV hk,oE,q8]
theorem VZ {P:bH} {t:bB} {cs:Array ag} {o:Nat} {v:ag} {d:TypeDesc} (A:P.underlying t=some d) (hd:(match d with | .bool | .string=>true | _=>false)=true) (C:cs[o]? =some v) (w:ak):(part t cs o).run P w= .ok v w:=by
 cases d <;> first | (cases hd; done) | simp [part,isAgg,dV A,C]
def zeroV (P:bH) (e:bB):Option ag:=(P.info? e).bind (·.zero)
theorem xg {P:bH} {e:bB} {z:ag} (h:zeroV P e=some z) (w:ak):(zeroValue e).run P w= .ok z w:=by
 unfold zeroV at h;simp only [Option.bind_eq_some_iff] at h;obtain ⟨i,hi,A⟩:=h;simp [zeroValue,jn hi,A]
section
variable {P:bH} {N:Fm} {σ:Nat→ag} {w:ak} {dst:Option Nat} {ty:bB} {pos :String} {af:Array fO} {g:Option (Nat×Bool)} {x y z:ek} {K:(Nat→ag)→ak→Prop}
variable {t k e:bB} {isK:ag→Prop} {b:Nat} {kvs:List (ag×ag)} {kx v:ag}
theorem Bi {es:Array MapEntry} (h:es.toList.map (fun e=>(e.key,e.val))=kvs) (hk:∀ p∈kvs,isK p.1):∀ e∈es.toList,isK e.key:=fun e he=>hk (e.key,e.val)<|by rw [← h]; exact tC he
theorem run_getObj_map {es:Array MapEntry} {c:Nat} (A:w.heap[b]? =some (.map es c)):(getObj b).run P w= .ok (.map es c) w:=by
 simp [getObj,Sem.run,A]
theorem Vt {kvs:List (ag×ag)} (hn:(kvs.map gU).Nodup) {kx v A:ag} (h1:(kx,v)∈kvs) (h2:(kx,A)∈kvs):v=A:=by
 induction kvs with
 | nil=>simp at h1
 | cons p kvs C=>
   simp only [pF,List.nodup_cons] at hn;rcases fi.1 h1 with h1 | h1
   · rcases fi.1 h2 with h2 | h2
     · rw [← h1] at h2; cases h2; rfl
     · rw [← h1] at hn; exact absurd (tC (f:=gU) h2) hn.1
   · rcases fi.1 h2 with h2 | h2
     · rw [← h2] at hn; exact absurd (tC (f:=gU) h1) hn.1
     · exact C hn.2 h1 h2
theorem Uz {ok:Bool} (O:P.underlying t=some (.map k e)) (C:vo P k isK) (hm:sF w.heap b kvs) (hk:∀ p∈kvs,isK p.1) (Y:ev N σ x= .map (some b)) (Z:ev N σ y=kx) (hi:isK kx) (hn:(kvs.map gU).Nodup) (A:(kx,v)∈kvs):
 (execOp (ev N σ) ⟨dst,.lookup t x y ok,ty,pos,af,g⟩).run P w= .ok (.value (if ok then .tuple #[v,.bool true] else v)) w:=by
 obtain ⟨es,c,J,he⟩:=hm;rcases C.find w kx es.toList hi (Bi he hk) with ⟨_,h2⟩ | ⟨j,E,h1,h2,h3⟩
 · rw [← he] at A;obtain ⟨G,I,h4⟩:=je.1 A;cases h4;exact absurd aa<|h2 G I
 · have V:(kx,E.val)∈kvs:=by rw [← he,← h3]; exact tC (f:=fun e:MapEntry=>(e.key,e.val))<|gB h2
   have :=Vt hn A V;subst this;cases ok <;> simp [execOp,Mb,dV O,Y,Z,run_getObj_map J,C.check _ w kx hi,h1]
theorem UA {ok:Bool} {zv:ag} (G:P.underlying t=some (.map k e)) (O:zeroV P e=some zv) (A:vo P k isK) (hm:sF w.heap b kvs) (hk:∀ p∈kvs,isK p.1) (I:ev N σ x= .map (some b)) (J:ev N σ y=kx) (hi:isK kx) (hn:∀ v,(kx,v)∉kvs):
 (execOp (ev N σ) ⟨dst,.lookup t x y ok,ty,pos,af,g⟩).run P w= .ok (.value (if ok then .tuple #[zv,.bool false] else zv)) w:=by
 obtain ⟨es,c,E,he⟩:=hm;rcases A.find w kx es.toList hi (Bi he hk) with ⟨h1,_⟩ | ⟨j,C,h1,h2,h3⟩
 · cases ok <;> simp [execOp,Mb,dV G,I,J,run_getObj_map E,A.check _ w kx hi,h1,xg O]
 · exact absurd (by rw [← he,← h3]; exact tC (f:=fun e:MapEntry=>(e.key,e.val))<|gB h2)<|hn C.val
end
end Go.Hb
namespace Go.Hb
def tag (w:ak) (k:Nat):Nat:=match w.heap[k]? with | some (.cells _ t _)=>t+2 | some (.map _ _)=>1 | _=>0
theorem dC {w:ak} {k t:Nat} {cs:Array ag} {z:Nat×Nat} (h:w.heap[k]? =some (.cells cs t z)):tag w k=t+2:=by unfold tag; rw [h]
theorem zr {w:ak} {k:Nat} {kvs:List (ag×ag)} (h:sF w.heap k kvs):tag w k=1:=by
 obtain ⟨es,c,h,_⟩:=h;unfold tag; rw [h]
theorem Dx {w:ak} {B e size n k:Nat} {v:ag} {xs:List ag} (h:w.ownsRow B e size v n xs) (hk:v.ownBlock=some k):tag w k=e+2:=by
 rcases h.2 with ⟨rfl,_⟩ | ⟨g,cap,cur,rfl,_,A,_⟩
 · simp [jS] at hk
 · simp only [jS,gJ] at hk; subst hk;exact dC A
def TF (w:ak) (L:List Nat) (F:Nat→Prop):Prop := ∀ k,F k→L.contains (tag w k)=true
theorem TF.no {w:ak} {L:List Nat} {F:Nat→Prop} (h:TF w L F) {k t:Nat} (C:tag w k=t) (A:L.contains t=false):¬F k:=fun hk=>by
 have :=h k hk;rw [C,A] at this; cases this
theorem TF.or {w:ak} {L:List Nat} {F G:Nat→Prop} (h:TF w L F) (A:TF w L G):TF w L (fun k=>F k∨G k):=fun k hk=>by
 rcases hk with hk | hk
 · exact h k hk
 · exact A k hk
theorem TF.eq {w:ak} {L:List Nat} {b t:Nat} (C:tag w b=t) (A:L.contains t=true):TF w L (fun k=>k=b):=fun k hk=>by
 subst hk; rw [C]; exact A
theorem TF.own {w:ak} {L:List Nat} {B e size n:Nat} {v:ag} {xs:List ag} (h:w.ownsRow B e size v n xs) (A:L.contains (e+2)=true):TF w L (fun k=>v.ownBlock=some k):=fun k hk=>by
 rw [Dx h hk]; exact A
theorem Md.iK {F:Nat→Prop} {w w':ak} {L:List Nat} {k t:Nat} {cs:Array ag} {z:Nat×Nat} (hm:Md F w w') (hT:TF w L F) (h:w.heap[k]? =some (.cells cs t z)) (A:L.contains (t+2)=false):w'.heap[k]? =some (.cells cs t z):=hm.bl h<|hT.no (dC h) A
theorem cj {F:Nat→Prop} {w w':ak} {L:List Nat} {B e size n:Nat} {v:ag} {xs:List ag} (h:w.ownsRow B e size v n xs) (hm:Md F w w') (hT:TF w L F) (A:L.contains (e+2)=false):w'.ownsRow B e size v n xs:=da h hm fun _ hk=>hT.no (Dx h hk) A
theorem Md.tag {F:Nat→Prop} {w w':ak} (hm:Md F w w') {k:Nat} (hk:k < w.heap.size) (A:¬F k):Hb.tag w' k=Hb.tag w k:=by
 unfold Hb.tag; rw [hm.dx k hk A]
end Go.Hb
namespace Go.Hb
inductive TD | no | int (k:ew) | str | bool | ptr | jo (e n:Nat) | st (offs:List Nat)
def wg {α:Type} :List α→Nat→α→α
 | [],_,d=>d
 | a::_,0,_=>a
 | _::l,n+1,d=>wg l n d
def uE (T:List (List TD)) (t:Nat):TD:=wg (wg T (t / 16) []) (t % 16) .no
def rO:ew→Nat
 | .i8=>0 | .i16=>1 | .i32=>2 | .i64=>3 | .u8=>4 | .u16=>5 | .u32=>6 | .u64=>7
theorem Ty {a b:ew} (h:lX (rO a) (rO b)=true):a=b:=by
 cases a <;> cases b <;> first | rfl | (cases h)
def yS (P:bH) (t:Nat):Nat→List Nat→Bool
 | _,[]=>true
 | f,n::l=>(match uc P t f with | some m=>lX m n | none=>false) && yS P t (f+1) l
def DA (P:bH) (t:Nat):TD→Bool
 | .no=>true
 | .int k=>match P.underlying t with | some (.int k')=>lX (rO k) (rO k') | _=>false
 | .str=>match P.underlying t with | some .string=>true | _=>false
 | .bool=>match P.underlying t with | some .bool=>true | _=>false
 | .ptr=>match P.underlying t with | some (.pointer _)=>true | _=>false
 | .jo e n=>match P.underlying t,gw P t with | some (.slice A),some n'=>lX e A && lX n n' | _,_=>false
 | .st C=>yS P t 0 C
def y4 (P:bH):Nat→List TD→Bool
 | _,[]=>true
 | t,d::l=>DA P t d && y4 P (t+1) l
def oB (P:bH):Nat→List (List TD)→Bool
 | _,[]=>true
 | t,r::l=>y4 P t r && oB P (t+16) l
theorem J5 {P:bH} :∀ {l:List TD} {b j:Nat},y4 P b l=true→DA P (b+j) (wg l j .no)=true
 | [],b,j,_=>rfl
 | d::l,b,0,h=>(uR.1 h).1
 | d::l,b,j+1,h=>by
   have :=J5 (j:=j) (uR.1 h).2;rw [show b+(j+1)=b+1 +j from by omega]; exact this
theorem KW {P:bH} :∀ {T:List (List TD)} {b i:Nat},oB P b T=true→y4 P (b+16 *i) (wg T i [])=true
 | [],b,i,_=>rfl
 | r::T,b,0,h=>(uR.1 h).1
 | r::T,b,i+1,h=>by
   have :=KW (i:=i) (uR.1 h).2;rw [show b+16 *(i+1)=b+16 +16 *i from by omega]; exact this
theorem Dz {P:bH} {T:List (List TD)} (h:oB P 0 T=true) (t:Nat):DA P t (uE T t)=true :=by
 have :=J5 (j:=t % 16)<|KW (i:=t / 16) h;rw [show 0 +16 *(t / 16)+t % 16=t from by omega] at this;exact this
theorem Jt {P:bH} {t:Nat} :∀ {l:List Nat} {b f n:Nat},yS P t b l=true→l[f]? =some n→uc P t (b+f)=some n
 | [],b,f,n,_,h=>by simp at h
 | m::l,b,0,n,h,hn=>by
   have h1:=(uR.1 h).1;obtain rfl :m=n:=by simpa using hn
   split at h1
   · rename_i A hm; rw [Nat.add_zero,hm,vb h1]
   · cases h1
 | m::l,b,f+1,n,h,hn=>by
   have :=Jt (f:=f) (uR.1 h).2<|by simpa using hn
   rw [show b+(f+1)=b+1 +f from by omega]; exact this
section
variable {P:bH} {T:List (List TD)} (hT:oB P 0 T=true) {t:Nat}
include hT
theorem Qx (h:uE T t= .str):P.underlying t=some .string:=by
 have :=Dz hT t;rw [h] at this;change (match P.underlying t with | some .string=>true | _=>false)=true at this;split at this
 · assumption
 · cases this
theorem Qv {e n:Nat} (h:uE T t= .jo e n):P.underlying t=some (.slice e)∧gw P t=some n:=by
 have :=Dz hT t;rw [h] at this;change (match P.underlying t,gw P t with | some (.slice A),some n'=>lX e A && lX n n' | _,_=>false)=true at this;split at this
 · rename_i h1 h2;simp only [il] at this;rw [h1,h2,vb this.1,vb this.2]; exact ⟨rfl,rfl⟩
 · cases this
theorem Qw {l:List Nat} {f n:Nat} (h:uE T t= .st l) (hn:l[f]? =some n):uc P t f=some n:=by
 have :=Dz hT t;rw [h] at this;have :=Jt (show yS P t 0 l=true from this) hn;rwa [im] at this
end
def WW (k:ew) (n:Int):Prop :=match k with
 | .i64=> -9223372036854775808≤n∧n≤9223372036854775807
 | .u8=>0≤n∧n≤255
 | .i32=> -2147483648≤n∧n≤2147483647
 | .u32=>0≤n∧n≤4294967295
 | .u64=>0≤n∧n≤18446744073709551615
 | _=>False
theorem J3 {k:ew} {n:Int} (h:WW k n):k.wrap n=n:=by
 cases k <;> first | exact qX h | exact uM h | exact Zm h | exact Zz h | exact qa h | exact h.elim
inductive tL | no | v (x:ag) | vc (x:ag) (c:Prop)
def y0 (k:ew) (n:Int):tL:=match k with
 | .i64=> .vc (.int .i64 n)<|-9223372036854775808≤n∧n≤9223372036854775807
 | .u8=> .vc (.int .u8 n)<|0≤n∧n≤255
 | .i32=> .vc (.int .i32 n)<|-2147483648≤n∧n≤2147483647
 | .u32=> .vc (.int .u32 n)<|0≤n∧n≤4294967295
 | .u64=> .vc (.int .u64 n)<|0≤n∧n≤18446744073709551615
 | _=> .no
def BY (op:BinOp) (k:ew) (a b:Int):tL:=match op with
 | .lss=> .v<|.bool<|decide (a < b)
 | .leq=> .v<|.bool<|decide (a≤b)
 | .gtr=> .v<|.bool<|decide (b < a)
 | .geq=> .v<|.bool<|decide (b≤a)
 | .eql=> .v<|.bool<|decide (a=b)
 | .neq=> .v<|.bool<|decide (a≠b)
 | .add=>y0 k<|a+b
 | .sub=>y0 k<|a - b
 | _=> .no
def KM (op:BinOp) (l m:List UInt8):tL:=match op with
 | .eql=> .v<|.bool<|decide (l=m)
 | .neq=> .v<|.bool<|decide (l≠m)
 | .add=> .vc (str<|l++m)<|l.length+m.length≤9223372036854775807
 | _=> .no
def pT (v:ag):tL:=match v with
 | .int k n=> .v<|.int k n
 | .bool b=> .v<|.bool b
 | .string ⟨⟨l⟩⟩=> .v<|str l
 | .pointer a=> .v<|.pointer a
 | .slice a n c=> .v<|.slice a n c
 | .map r=> .v<|.map r
 | .func f a b=> .v<|.func f a b
 | .nilFunc=> .v .nilFunc
 | .iface t v=> .v<|.iface t v
 | .nilIface=> .v .nilIface
 | .agg c=> .v<|.agg c
 | .tuple c=> .v<|.tuple c
 | _=> .no
theorem R5 {v x:ag} (h:pT v= .v x):v=x:=by
 unfold pT at h;split at h <;> cases h <;> rfl
theorem R6 {v x:ag} {c:Prop} (h:pT v= .vc x c):False:=by
 unfold pT at h;split at h <;> cases h
def uv (T:List (List TD)) (N:Fm) (σ:Nat→ag) (o:Op):tL:=match o with
 | .move x=>pT<|ev N σ x
 | .assign x=>pT<|ev N σ x
 | .pick c x y=>match ev N σ c with
   | .bool true =>pT<|ev N σ x
   | .bool false =>pT<|ev N σ y
   | _=> .no
 | .nilCheck x=>match ev N σ x with
   | .pointer (some a)=> .v<|.pointer<|some a
   | _=> .no
 | .extract x i=>match ev N σ x with
   | .tuple ⟨vs⟩=>match vs[i]? with
     | some v=> .v v
     | none=> .no
   | _=> .no
 | .fieldAddr s x f=>match ev N σ x,uE T s with
   | .pointer (some ⟨b,off,none⟩),.st l=>match l[f]? with
     | some n=> .v<|.pointer<|some ⟨b,off+n,none⟩
     | none=> .no
   | _,_=> .no
 | .binOp op t x y _=>match ev N σ x,ev N σ y with
   | .int k a,.int k' b=>cond (lX (rO k)<|rO k') (BY op k a b) .no
   | .string ⟨⟨l⟩⟩,.string ⟨⟨m⟩⟩=>KM op l m
   | _,_=> .no
 | .unOp .not _ x=>match ev N σ x with
   | .bool b=> .v<|.bool<|!b
   | _=> .no
 | .call ⟨.builtin .len,⟨[x]⟩,⟨[t]⟩⟩=>match ev N σ x,uE T t with
   | .string ⟨⟨l⟩⟩,.str=> .v<|.int .i64 l.length
   | .slice a n c,.jo _ _=> .v<|.int .i64 n
   | _,_=> .no
 | _=> .no
def CG (P:bH) (N:Fm) (σ:Nat→ag) (o:cg) (w:ak):tL→Prop
 | .no=>True
 | .v x=>(execOp (ev N σ) o).run P w= .ok (.value x) w
 | .vc x c=>c→(execOp (ev N σ) o).run P w= .ok (.value x) w
theorem yo {P:bH} {N:Fm} {σ:Nat→ag} {o:cg} {w:ak} {v:ag} (h:(execOp (ev N σ) o).run P w= .ok (.value v) w):CG P N σ o w (pT v):=by
 cases hf:pT v with
 | no=>trivial
 | v x=>rw [← R5 hf]; exact h
 | vc x c=>exact (R6 hf).elim
theorem yV {P:bH} {T:List (List TD)} (hT:oB P 0 T=true) {N:Fm} {σ:Nat→ag} (d:Option Nat) (o:Op) (ty:bB) (pos :String) (af:Array fO) (g:Option (Nat×Bool)) (w:ak):CG P N σ ⟨d,o,ty,pos,af,g⟩ w (uv T N σ o):=by
 unfold uv;split
 · exact yo mv
 · exact yo bm
 · split
   · exact yo<|wo<|by assumption
   · exact yo<|rX<|by assumption
   · trivial
 · split
   · exact nc<|by assumption
   · trivial
 · split
   · split
     · exact xt (by assumption)<|by simpa using by assumption
     · trivial
   · trivial
 · split
   · split
     · exact fa (Qw hT (by assumption)<|by assumption)<|by assumption
     · trivial
   · trivial
 · split
   · rename_i k a k' b A C;cases hk:lX (rO k) (rO k')
     · trivial
     · obtain rfl :=Ty hk;show CG _ _ _ _ _ (BY _ _ _ _);unfold BY;split
       · exact lt A C
       · exact le A C
       · exact gt A C
       · exact ge A C
       · exact Rq A C
       · exact Vi A C
       · unfold y0; split <;> first | trivial | exact fun h=>ad A C<|J3 h
       · unfold y0; split <;> first | trivial | exact fun h=>sb A C<|J3 h
       · trivial
   · rename_i l m A C;unfold KM;split
     · exact Rt A C
     · exact Vk A C
     · exact fun h=>cc A C h
     · trivial
   · trivial
 · split
   · exact no<|by assumption
   · trivial
 · split
   · exact UD (Qx hT<|by assumption) aa<|by assumption
   · exact UC (Qv hT<|by assumption).1 aa<|by assumption
   · trivial
 · trivial
inductive Pt | c (c:jq) | l (ops:Array cg) (l:List cg) | x (e:dG)
inductive Kn | sq (y:jq) | bk (id:Nat)
def jQ (P:bH) (N:Fm):List Kn→(dG→(Nat→ag)→ak→Prop)→dG→(Nat→ag)→ak→Prop
 | [],Q=>Q
 | .sq y::st,Q=>mj (fun σ w=>dA P N y (jQ P N st Q) σ w)<|jQ P N st Q
 | .bk id::st,Q=>qI id<|jQ P N st Q
@[reducible] def At (P:bH) (N:Fm) (Q:dG→(Nat→ag)→ak→Prop) (w:ak) (p:Pt) (st:List Kn) (σ:Nat→ag):Prop :=match p with
 | .c c=>dA P N c (jQ P N st Q) σ w
 | .l ops l=>ej P N ops (jQ P N st Q) l σ w
 | .x e=>jQ P N st Q e σ w
inductive Out | no | at (p:Pt) (st:List Kn) (σ:Nat→ag) (c:Option Prop)
def andG (c:Prop):Option Prop→Option Prop
 | none=>some c
 | some d=>some<|c∧d
def optG:Option Prop→Prop
 | none=>True
 | some c=>c
theorem xN {c:Prop} {d:Option Prop} (h:optG (andG c d)):c∧optG d:=by
 cases d
 · exact ⟨h,trivial⟩
 · exact h
inductive Nu | no | go (p:Pt) (st:List Kn) (σ:Nat→ag) (c:Option Prop)
def stepG (T:List (List TD)) (N:Fm) (p:Pt) (st:List Kn) (σ:Nat→ag) (c:Option Prop):Nu:=match p with
 | .x .normal=>match st with
   | .sq y::st=> .go (.c y) st σ c
   | .bk _::st=> .go (.x .normal) st σ c
   | []=> .no
 | .x .ret=>match st with
   | _::st=> .go (.x .ret) st σ c
   | []=> .no
 | .x (.exit i)=>match st with
   | .sq _::st=> .go (.x<|.exit i) st σ c
   | .bk j::st=>cond (lX i j) (.go (.x .normal) st σ c)<|.go (.x<|.exit i) st σ c
   | []=> .no
 | .x _=> .no
 | .c (.seq x y)=> .go (.c x) (.sq y::st) σ c
 | .c (.block id x)=> .go (.c x) (.bk id::st) σ c
 | .c .skip => .go (.x .normal) st σ c
 | .c .ret=> .go (.x .ret) st σ c
 | .c (.exit i)=> .go (.x<|.exit i) st σ c
 | .c (.region id ⟨l⟩ false)=>cond (pX N.r l) (.go (.l ⟨l⟩ l) st σ c) .no
 | .c (.cond x a b)=>match ev N σ x with
   | .bool true => .go (.c a) st σ c
   | .bool false => .go (.c b) st σ c
   | _=> .no
 | .c _=> .no
 | .l ops []=> .go (.x .normal) st σ c
 | .l ops (⟨some d,o,ty,pos,af,none⟩::r)=>match uv T N σ o with
   | .v x=> .go (.l ops r) st (cU σ d x) c
   | .vc x c'=> .go (.l ops r) st (cU σ d x)<|andG c' c
   | .no=> .no
 | .l ops (⟨some d,o,ty,pos,af,some (j,want)⟩::r)=>match j0 ops j with
   | some t=>cond (gu t N.n) (match σ t with
     | .bool b=>cond (b==want) (match uv T N σ o with
       | .v x=> .go (.l ops r) st (cU σ d x) c
       | .vc x c'=> .go (.l ops r) st (cU σ d x)<|andG c' c
       | .no=> .no) (.go (.l ops r) st (cU σ d undef) c)
     | .tuple ⟨[]⟩=> .go (.l ops r) st (cU σ d undef) c
     | _=> .no) .no
   | none=> .no
 | .l ops _=> .no
def mg (T:List (List TD)) (N:Fm):Nat→Pt→List Kn→(Nat→ag)→Option Prop→Out
 | 0,p,st,σ,c=> .at p st σ c
 | n+1,p,st,σ,c=>match stepG T N p st σ c with
   | .go p st σ c=>mg T N n p st σ c
   | .no=> .no
section
variable {P:bH} {T:List (List TD)} {N:Fm} {Q:dG→(Nat→ag)→ak→Prop} {w:ak} {σ σ':Nat→ag} {p p':Pt} {st st':List Kn} {c c':Option Prop} {n:Nat}
theorem X6 (hT:oB P 0 T=true) (h:stepG T N p st σ c= .go p' st' σ' c') (A:optG c') (hk:At P N Q w p' st' σ'):optG c∧At P N Q w p st σ:=by
 unfold stepG at h;split at h
 · split at h
   · cases h; exact ⟨A,tn hk⟩
   · cases h; exact ⟨A,bn hk⟩
   · cases h
 · split at h
   · rename_i k _;cases h; cases k
     · exact ⟨A,tr hk⟩
     · exact ⟨A,br hk⟩
   · cases h
 · split at h
   · cases h; exact ⟨A,te _ hk⟩
   · rename_i i _ j _;cases hij:lX i j
     · rw [hij] at h; cases h;exact ⟨A,Oa (fun e=>by rw [e] at hij; simp at hij) hk⟩
     · rw [hij] at h; cases h;obtain rfl :=vb hij;exact ⟨A,be hk⟩
   · cases h
 · cases h
 · cases h; exact ⟨A,sq fun K O=>Lz (fun e σ w J=>by cases e <;> first | exact O _ _ J | exact J) hk⟩
 · cases h; exact ⟨A,bl hk⟩
 · cases h; exact ⟨A,Ku hk⟩
 · cases h; exact ⟨A,rt hk⟩
 · cases h; exact ⟨A,ext hk⟩
 · rename_i id l;cases hr:pX N.r l
   · rw [hr] at h; cases h
   · rw [hr] at h; cases h;exact ⟨A,rg hr hk⟩
 · split at h
   · cases h; exact ⟨A,ct (by assumption) hk⟩
   · cases h; exact ⟨A,cf (by assumption) hk⟩
   · cases h
 · cases h
 · cases h; exact ⟨A,nl hk⟩
 · rename_i ops d o ty pos af r;have C:=yV (P:=P) hT (N:=N) (σ:=σ) (some d) o ty pos af none w;split at h
   · rename_i x E;rw [E] at C; cases h;exact ⟨A,Hb.p C hk⟩
   · rename_i x q E;rw [E] at C; cases h;obtain ⟨h3,h4⟩:=xN A;exact ⟨h4,Hb.p (C h3) hk⟩
   · cases h
 · rename_i ops d o ty pos af j want r;have C:=yV (P:=P) hT (N:=N) (σ:=σ) (some d) o ty pos af (some (j,want)) w;split at h
   · rename_i t I;cases hb:gu t N.n
     · rw [hb] at h; cases h
     · rw [hb] at h;simp only [cond_true] at h;split at h
       · rename_i b G;cases hw:(b==want)
         · rw [hw] at h; cases h;exact ⟨A,sk I hb G hw hk⟩
         · rw [hw] at h;simp only [cond_true] at h;obtain rfl :b=want:=by simpa using hw
           split at h
           · rename_i x E;rw [E] at C; cases h;exact ⟨A,pg I hb G C hk⟩
           · rename_i x q E;rw [E] at C; cases h;obtain ⟨h3,h4⟩:=xN A;exact ⟨h4,pg I hb G (C h3) hk⟩
           · cases h
       · rename_i G;cases h;exact ⟨A,Kv I hb G hk⟩
       · cases h
   · cases h
 · cases h
theorem nG (hT:oB P 0 T=true):∀ (n:Nat) (p:Pt) (st:List Kn) (σ:Nat→ag) (c:Option Prop),mg T N n p st σ c= .at p' st' σ' c'→optG c'→At P N Q w p' st' σ'→optG c∧At P N Q w p st σ
 | 0,p,st,σ,c,h,hc,hk=>by cases h; exact ⟨hc,hk⟩
 | n+1,p,st,σ,c,h,hc,hk=>by
   simp only [mg] at h;split at h
   · rename_i hs;obtain ⟨h1,h2⟩:=nG hT n _ _ _ _ h hc hk;exact X6 hT hs h1 h2
   · cases h
end
inductive Ns | no | at (fuel:Nat) (aW:Array Bool) (σ:Nat→ag) (c:Option Prop)
inductive Nt | no | go (σ:Nat→ag) (c:Option Prop)
def KS (T:List (List TD)) (N:Fm) (g:Bool) (ops:Array cg) (i:Nat) (σ:Nat→ag) (c:Option Prop):Nt:=match ops[i]? with
 | some ⟨some d,o,_,_,_,none⟩=>match uv T N σ o with
   | .v x=> .go (cU σ d x) c
   | .vc x c'=> .go (cU σ d x)<|andG c' c
   | .no=> .no
 | some ⟨some d,o,_,_,_,some (j,want)⟩=>cond g (match j0 ops j with
   | some t=>cond (gu t N.n) (match σ t with
     | .bool b=>cond (b==want) (match uv T N σ o with
       | .v x=> .go (cU σ d x) c
       | .vc x c'=> .go (cU σ d x)<|andG c' c
       | .no=> .no) (.go (cU σ d undef) c)
     | .tuple ⟨[]⟩=> .go (cU σ d undef) c
     | _=> .no) .no
   | none=> .no) .no
 | _=> .no
def qP (T:List (List TD)) (N:Fm) (g:Bool) (ops:Array cg):List Nat→Nat→Array Bool→(Nat→ag)→Option Prop→Ns
 | [],fuel,aW,σ,c=> .at fuel aW σ c
 | _::_,0,_,_,_=> .no
 | i::is,fuel+1,aW,σ,c=>match KS T N g ops i σ c with
   | .go σ c=>qP T N g ops is fuel (aW.setIfInBounds i true) σ c
   | .no=> .no
def qz (fr:Array Bool→Nat→Bool):List Nat→Array Bool→Bool
 | [],_=>true
 | i::is,aW=>fr aW i && qz fr is (aW.setIfInBounds i true)
section
variable {P:bH} {T:List (List TD)} {N:Fm} {g:Bool} {ops:Array cg} {fr:Array Bool→Nat→Bool} {fuel':Nat} {listed':Array Bool} {σ':Nat→ag} {c':Option Prop} {w:ak}
theorem y9 (hT:oB P 0 T=true) (W:Nat→Array Bool→(Nat→ag)→Prop)
 (H1:∀ {i d o ty pos af v fuel aW σ},ops[i]? =some ⟨some d,o,ty,pos,af,none⟩→fr aW i=true→(∀ w,(execOp (ev N σ) ⟨some d,o,ty,pos,af,none⟩).run P w= .ok (.value v) w)→W fuel (aW.setIfInBounds i true) (cU σ d v)→W (fuel+1) aW σ)
 (J:g=true→∀ {i d o ty pos af v fuel aW σ j want t},ops[i]? =some ⟨some d,o,ty,pos,af,some (j,want)⟩→fr aW i=true→j0 ops j=some t→gu t N.n=true→σ t= .bool want→(∀ w,(execOp (ev N σ) ⟨some d,o,ty,pos,af,some (j,want)⟩).run P w= .ok (.value v) w)→W fuel (aW.setIfInBounds i true) (cU σ d v)→W (fuel+1) aW σ)
 (O:g=true→∀ {i d o ty pos af fuel aW σ j want t b},ops[i]? =some ⟨some d,o,ty,pos,af,some (j,want)⟩→fr aW i=true→j0 ops j=some t→gu t N.n=true→σ t= .bool b→(b==want)=false→W fuel (aW.setIfInBounds i true) (cU σ d undef)→W (fuel+1) aW σ)
 (V:g=true→∀ {i d o ty pos af fuel aW σ j want t},ops[i]? =some ⟨some d,o,ty,pos,af,some (j,want)⟩→fr aW i=true→j0 ops j=some t→gu t N.n=true→σ t=undef→W fuel (aW.setIfInBounds i true) (cU σ d undef)→W (fuel+1) aW σ):
 ∀ (is:List Nat) (fuel:Nat) (aW:Array Bool) (σ:Nat→ag) (c:Option Prop),qP T N g ops is fuel aW σ c= .at fuel' listed' σ' c'→qz fr is aW=true→optG c'→W fuel' listed' σ'→optG c∧W fuel aW σ
 | [],fuel,aW,σ,c,h,_,A,hk=>by cases h; exact ⟨A,hk⟩
 | i::is,0,aW,σ,c,h,_,A,hk=>by cases h
 | i::is,fuel+1,aW,σ,c,h,hf,A,hk=>by
   simp only [qz,il] at hf;simp only [qP] at h;split at h
   · rename_i Y c2 hs;obtain ⟨A,hk⟩:=y9 hT W H1 J O V is fuel _ _ _ h hf.2 A hk;unfold KS at hs;split at hs
     · rename_i d o ty pos af hi;have C:=fun w=>yV hT (N:=N) (σ:=σ) (some d) o ty pos af none w;split at hs
       · rename_i x E;rw [E] at C; cases hs;exact ⟨A,H1 hi hf.1 C hk⟩
       · rename_i x q E;rw [E] at C; cases hs;obtain ⟨h3,h4⟩:=xN A;exact ⟨h4,H1 hi hf.1 (fun w=>C w h3) hk⟩
       · cases hs
     · rename_i d o ty pos af j want hi;have C:=fun w=>yV hT (N:=N) (σ:=σ) (some d) o ty pos af (some (j,want)) w;cases hg:g
       · rw [hg] at hs; cases hs
       · rw [hg] at hs;simp only [cond_true] at hs;split at hs
         · rename_i t I;cases hb:gu t N.n
           · rw [hb] at hs; cases hs
           · rw [hb] at hs;simp only [cond_true] at hs;split at hs
             · rename_i b G;cases hw:(b==want)
               · rw [hw] at hs; cases hs;exact ⟨A,O hg hi hf.1 I hb G hw hk⟩
               · rw [hw] at hs;simp only [cond_true] at hs;obtain rfl :b=want:=by simpa using hw
                 split at hs
                 · rename_i x E;rw [E] at C; cases hs;exact ⟨A,J hg hi hf.1 I hb G C hk⟩
                 · rename_i x q E;rw [E] at C; cases hs;obtain ⟨h3,h4⟩:=xN A;exact ⟨h4,J hg hi hf.1 I hb G (fun w=>C w h3) hk⟩
                 · cases hs
             · rename_i G;cases hs;exact ⟨A,V hg hi hf.1 I hb G hk⟩
             · cases hs
         · cases hs
     · cases hs
   · cases h
variable {Q:dG→(Nat→ag)→ak→Prop} {S:ak→Prop} {r fuel:Nat} {aW:Array Bool} {σ:Nat→ag}
theorem SI (hT:oB P 0 T=true) (is:List Nat) (h:qP T N true ops is fuel aW σ none= .at fuel' listed' σ' c') (I:S w) (k:eK P N ops Q S fuel' listed' σ' w) (V:optG c') (A:qz (jY N.F ops) is aW=true):eK P N ops Q S fuel aW σ w:=
 (y9 hT (fun fuel aW σ=>eK P N ops Q S fuel aW σ w) (fun hi A J k=>hp _ hi A (fun w _=>J w) I k) (fun _=>fun hi A C E G J k=>sQ _ hi A C E G (fun w _=>J w) I k) (fun _=>fun hi A C E G O k=>Ii _ hi A C E G O I k) (fun _=>fun hi A C E G k=>Tt _ hi A C E G I k) is fuel aW σ none h A V k).2
theorem SK (hT:oB P 0 T=true) (is:List Nat) (h:qP T N false ops is fuel aW σ none= .at fuel' listed' σ' c') (C:S w) (k:eT P N ops Q S r fuel' listed' σ' w) (E:optG c') (A:qz (fun l i=>ue N.F ops l r i) is aW=true):eT P N ops Q S r fuel aW σ w:=
 (y9 (g:=false) hT (fun fuel aW σ=>eT P N ops Q S r fuel aW σ w) (fun hi A G k=>lq _ hi A (fun w _=>G w) C k) (fun h=>dM h) (fun h=>dM h) (fun h=>dM h) is fuel aW σ none h A E k).2
theorem SJ (hT:oB P 0 T=true) (is:List Nat) (h:qP T N false ops is fuel aW σ none= .at fuel' listed' σ' c') (C:S w) (k:eT P N ops Q S r fuel' listed' σ' w) (E:optG c') (A:qz (fun l i=>sP N.F ops l r i) is aW=true):eT P N ops Q S r fuel aW σ w:=
 (y9 (g:=false) hT (fun fuel aW σ=>eT P N ops Q S r fuel aW σ w) (fun hi A G k=>qL _ hi A G (fun _=>C) k) (fun h=>dM h) (fun h=>dM h) (fun h=>dM h) is fuel aW σ none h A E k).2
end
def AN (P:bH) (f:iz):Bool:=match P.funcs[f]? with
 | some fn=> !(fn.name== "runtime.NumGoroutine") && !fn.body.isNone
 | none=>false
theorem OI {P:bH} {f:iz} (h:AN P f=true):gC P f:=by
 unfold AN at h;split at h
 · simp only [il,xk] at h;exact Fy (by assumption) h.1 h.2
 · cases h
section
variable {P:bH} {N:Fm} {σ:Nat→ag} {w:ak} {dst:Option Nat} {ty:bB} {pos :String} {af:Array fO} {g:Option (Nat×Bool)} {x y z:ek} {K:(Nat→ag)→ak→Prop}
theorem aM {f:iz} {args:Array ek} {A:Array bB} {L:List ag} {R:ag→ak→Prop} (G:ba P f L.toArray w R) (C:args.toList.map (ev N σ)=L)
 (k:∀ v w',R v w'→K (gy σ dst v) w') (E:AN P f=true :=by kernel_rfl):dI P N ⟨dst,.call ⟨.value (.func f),args,A⟩,ty,pos,af,g⟩ σ w K:=cl (OI E) G C k
theorem ld1 {t b off :Nat} {v:ag} (C:ev N σ x= .pointer (some ⟨b,off,none⟩)) (A:aV w.heap b off =some v) (hu:fK P t=some none:=by kernel_rfl):
 (execOp (ev N σ) ⟨dst,.load t x,ty,pos,af,g⟩).run P w= .ok (.value v) w:=ld hu C A
theorem bC (n:Nat) {t E:bB} {a b:Int} (A:ev N σ x= .int .i64 a:=by exact aa) (C:ev N σ y= .int .i64 b:=by exact aa) (h:a+b=(n:Int)∧n≤9223372036854775807:=by omega):
 (execOp (ev N σ) ⟨dst,.binOp .add t x y E,ty,pos,af,g⟩).run P w= .ok (.value<|.int .i64 (n:Int)) w:=ER (n:Int) A C<|kq h.1 h.2
theorem dQ (n:Nat) {t E:bB} {a b:Int} (A:ev N σ x= .int .i64 a:=by exact aa) (C:ev N σ y= .int .i64 b:=by exact aa) (h:a - b=(n:Int)∧n≤9223372036854775807:=by omega):
 (execOp (ev N σ) ⟨dst,.binOp .sub t x y E,ty,pos,af,g⟩).run P w= .ok (.value<|.int .i64 (n:Int)) w:=Xj (n:Int) A C<|kq h.1 h.2
variable {ops:Array cg} {Q:dG→(Nat→ag)→ak→Prop} {S:ak→Prop} {r fuel d t b off :Nat} {aW:Array Bool} {v:ag} {W:ak} {l:List cg} {id:Nat}
theorem cw (i:Nat) (h:(ops[i]?,ev N σ x)=(some ⟨some d,.load t x,ty,pos,af,none⟩,.pointer (some ⟨b,off,none⟩))) (A:Wk W w) (C:aV W.heap b off =some v) (k:eK P N ops Q (fun w'=>Wk W w') fuel (aW.setIfInBounds i true) (cU σ d v) w)
 (E:jY N.F ops aW i=true :=by kernel_rfl) (hu:fK P t=some none:=by kernel_rfl):eK P N ops Q (fun w'=>Wk W w') (fuel+1) aW σ w:=hp i (congrArg gU h) E (fun _ hw=>ld hu (congrArg my h)<|hw.aV C) A k
theorem kZ (i:Nat) (h:(ops[i]?,ev N σ x)=(some ⟨some d,.load t x,ty,pos,af,none⟩,.pointer (some ⟨b,off,none⟩))) (A:Wk W w) (C:aV W.heap b off =some v) (k:eT P N ops Q (fun w'=>Wk W w') r fuel (aW.setIfInBounds i true) (cU σ d v) w)
 (E:ue N.F ops aW r i=true :=by kernel_rfl) (hu:fK P t=some none:=by kernel_rfl):eT P N ops Q (fun w'=>Wk W w') r (fuel+1) aW σ w:=lq i (congrArg gU h) E (fun _ hw=>ld hu (congrArg my h)<|hw.aV C) A k
theorem ma (i:Nat) (h:(ops[i]?,ev N σ x)=(some ⟨some d,.load t x,ty,pos,af,none⟩,.pointer (some ⟨b,off,none⟩))) (A:Wk W w) (C:aV W.heap b off =some v) (k:eT P N ops Q (fun w'=>Wk W w') r fuel (aW.setIfInBounds i true) (cU σ d v) w)
 (E:yr N.F ops aW r i=true :=by kernel_rfl) (hu:fK P t=some none:=by kernel_rfl):eT P N ops Q (fun w'=>Wk W w') r (fuel+1) aW σ w:=kJ i (congrArg gU h) E (fun _ hw=>ld hu (congrArg my h)<|hw.aV C) A k
theorem dZ (h:Wk w w.drew→eK P N l.toArray Q (fun w'=>Wk w w') l.length (uQ l.length false) σ w.drew) (A:pX N.r l=true :=by exact aa) (hm:P.follows .mixedOrders=true :=by kernel_rfl):dA P N (.region id l.toArray true) Q σ w:=dY _ A hm (Md.refl _ _).drew<|h (Md.refl _ _).drew
theorem l9 (r:Nat) (h:Wk w w.drew→eT P N l.toArray Q (fun w'=>Wk w w') r l.length (uQ l.length false) σ w.drew) (A:pX N.r l=true :=by exact aa) (hm:P.follows .mixedOrders=true :=by kernel_rfl):dA P N (.region id l.toArray true) Q σ w:=gO _ r A hm (Md.refl _ _).drew<|h (Md.refl _ _).drew
end
end Go.Hb
end
namespace Go.Hb
def qW (A:List (List UInt8)):Nat:=(A.map jr).sum
end Go.Hb
section
namespace Go.Hb
open Go.ChangeShapes Go.WideShapes Go.ChangeAt
theorem Wk.frame {w w':ak} (h:Wk w w') (may:MemPlace→Prop):w.keptBut w' may:=by
 refine ⟨h.os,h.output,fun i hi=> ?_⟩;rw [h.dx i hi id];split <;> simp_all
theorem Wk.same {w w':ak} (h:Wk w w') {p:MemPlace} (hp:p.block < w.heap.size):w.sameAt w' p:=by
 cases p with
 | cell b o=>exact World.cell?_of_block (w:=w)<|h.dx b hp id
 | map b=>exact h.dx b hp id
section
variable {H:Type} {enc:bB×ag→H} {P:bH} {W W':ak}
theorem K7 (G:laidOutB P=true) (hk:Wk W W'):∀ (C:List bB) (vs:List ag) (E:List (DataW H)) (ps:List MemPlace),C.all (fun t=>P.readableRec t && decide (t < P.types.size))=true→(∀ x∈ps,x.block < W.heap.size)→
 L1 enc P W 0 (fun _=>true) true C vs E ps→L1 enc P W' 0 (fun b=>decide (b < W.heap.size)) true C vs E ps
 | [],[],[],_,_,_,h=>h
 | t::C,v::vs,d::E,_,hp,hlt,⟨p,q,h1,h2,he⟩=>by
   subst he;rw [uX,il,il] at hp;exact ⟨p,q,WideElems.Trod_stays G hp.1.1 (of_decide_eq_true hp.1.2) h1 (fun x A=>hk.same<|hlt x<|Ag _ A) (fun x A=>decide_eq_true<|hlt x<|Ag _ A),
    K7 G hk C vs E q hp.2 (fun x A=>hlt x<|List.mem_append_right _ A) h2,rfl⟩
 | [],_::_,_,_,_,_,h=>h.elim
 | [],[],_::_,_,_,_,h=>h.elim
 | _::_,[],_,_,_,_,h=>h.elim
 | _::_,_::_,[],_,_,_,h=>h.elim
theorem WH {f:iz} {fn:Func} {s:ChangeSpec} {args:Array ag} {A gs:List (DataW H)} {before:List MemPlace} {tb:bB} (E:DataW.Whole enc P fn.params.toList s.vars false W args.toList A gs before) (I:s.vars= [])
 (hs:s.fn H (A++gs)= {results:= [.lit (.bool true)],args:=A}) (Z:fn.resultTypes= #[tb]) (O:P.underlying tb=some .bool) (V:laidOutB P=true) (hp:fn.params.toList.all (fun t=>P.readableRec t && decide (t < P.types.size))=true)
 (h:ba P f args W (fun v w'=>v= .bool true∧Wk W w')):Calls P f args W fun e W'=> ∃ v,e= .returned v∧s.post enc P fn false true false false W args v W':=by
 refine mm h fun e W' ⟨v,he,aa,hk⟩=>⟨v,he,?_⟩
 subst aa;have G:=E;obtain ⟨p,q,J,C,rfl,_,_⟩:=E;rw [I] at C;obtain ⟨rfl,rfl⟩:=trodVars_none C;have Y:∀ x∈p,x.block < W.heap.size:=fun x ab=>G.lt x<|by simpa using ab
 refine ⟨_,_,_,[],p,[],G,?_,?_,?_,hk.frame _,fun h=>by cases h⟩
 · rw [hs,Z];exact trodAll_cons_mk (shut_bool O _) trodAll_mk0
 · rw [hs];exact K7 V hk _ _ _ _ hp Y J
 · rw [hs,I]; rfl
theorem OK {w:ak} {a:bF} {v:ag} (h:w.cell? a=some v):a=⟨a.block,a.off,none⟩∧aV w.heap a.block a.off=some v:=by
 obtain ⟨b,o,sp⟩:=a;unfold Ms at h;simp only at h;split at h
 · rename_i c t z A;split at h
   · cases h
   · rename_i hs;cases sp with
     | none=>exact ⟨rfl,by rw [a8 A]; exact h⟩
     | some x=>simp at hs
 · cases h
theorem OL {w:ak} {a:bF} {xs:List ag} (h:∀ j u,xs[j]? =some u→w.cell? (a.add j)=some u):aB w.heap (some a) xs:=by
 cases xs with
 | nil=>exact aB.nil _ _
 | cons x xs=>
   have C:=(OK<|h 0 x rfl).1;have A:a=⟨a.block,a.off,none⟩:=C;refine ⟨fun _=>congrArg some A,fun j u hu=> ?_⟩;have h1:=h j u hu;rw [A,mE,nW] at h1;exact h1
theorem VI {t e:bB} {base:Nat} {v:ag} {d:DataW H} {p:List MemPlace} (E:P.underlying t=some (.slice e)) (he:P.underlying e=some .string) (J:P.cellsOf e=1) (ab:Value.okWide P W .any base t v)
 (h:DataW.Trod enc P W 0 (fun _=>true) true t v d p):∃ (ws:(List<|List UInt8)) (a:Option bF) (c:Nat),v= .slice a ws.length c∧bW W.heap a ws∧(d= .nil∧ws= []∨∃ sp,d= .slice (ws.map fun s=> .lit<|.string s) sp):=by
 obtain ⟨a0,len,cap,rfl⟩:=okWide_slice E ab;obtain ⟨fuel,V⟩:=h;rcases open_strings E he J V with ⟨A,C⟩ | ⟨a,ah,ac,I,A,_,Z,hm,G,C,O,ae⟩
 · simp only [sw,Eo,mq,and_true] at A;obtain ⟨rfl,rfl,rfl⟩:=A;cases C;exact ⟨[],none,0,aa,aB.nil _ _,.inl ⟨aa,aa⟩⟩
 · simp only [sw,Eo,mq,and_true] at A;obtain ⟨rfl,rfl,rfl⟩:=A;simp only [if_true] at G;cases C;refine ⟨(I.take len).map (fun s=>s.data.toList),some a,cap,?_,OL fun j u hu=> ?_,.inr ⟨strs (I.drop len),?_⟩⟩
   · rw [List.length_map,dJ,G,Nat.min_eq_left Z]
   · rw [fJ,fJ,Option.map_map,mZ] at hu;obtain ⟨s,hs,rfl⟩:=hu;rw [oG] at hs;split at hs
     · have Y:=ff.1 hs;have :=O j Y.1;rw [this,cH,hs]; rfl
     · cases hs
   · simp only [strs,Af,List.map_map]; rfl
end
end Go.Hb
namespace Go.Hb
open Go.Proofs.YtchkamdekbbgeaaGreatDoor
theorem On {H:Type} {l:List (DataW H)} (hk:Rows.uptoSmall H l=true):Rows.uptoBulkAll l≤1048576:=of_decide_eq_true hk
theorem Oo {H:Type} {ws:(List<|List UInt8)} {d:DataW H} (h:d= .nil∧ws= []∨∃ sp,d= .slice (ws.map fun s=> .lit<|.string s) sp):ws.length+qW ws≤Rows.uptoBulk d:=by
 rcases h with ⟨rfl,rfl⟩ | ⟨sp,rfl⟩
 · simp [qW]
 · have key:∀ ws:(List<|List UInt8),Rows.uptoBulkAll (ws.map fun s=>(DataW.lit (.string s):DataW H))=ws.length+qW ws:=by
    intro ws
    induction ws with
    | nil=>simp [Rows.uptoBulkAll,qW]
    | cons a l A=>simp only [pF,Rows.uptoBulkAll,Rows.uptoBulk,A,qW,cC,List.sum_cons]; omega
   simp only [Rows.uptoBulk,key]; omega
end Go.Hb
namespace Go.Hb
open Go.Proofs.YtchkamdekbbgeaaGreatDoor Go.ChangeShapes Go.WideShapes Go.ChangeAt
structure Nr (P:bH) (t:bB) (m:Nat) {X:Type} (R:ak→List ag→X→Prop) (B:X→Nat):Prop where
 cells:P.cellsOf t=m
 op:∀ {H:Type} (enc:bB×ag→H) (W:ak) (fuel:Nat) (cs:List ag) (d:DataW H) (p:List MemPlace),DataW.trod enc P W 0 (fun _=>true) true fuel t cs=some (d,p)→cs.length=m∧∃ x,R W cs x∧B x≤Rows.uptoBulk d
section
variable {P:bH} {t t0 t1 e:bB} {m m0 m1:Nat} {X X0 X1:Type} {R:ak→List ag→X→Prop} {B:X→Nat} {R0:ak→List ag→X0→Prop} {B0:X0→Nat} {R1:ak→List ag→X1→Prop} {B1:X1→Nat}
theorem Jy (C:P.underlying t=some .string) (A:P.cellsOf t=1):Nr P t 1 (fun _ cs (x:List UInt8)=>cs= [str x]) (fun x=>x.length+1) where
 cells:=A
 op enc W fuel cs d p h:=by
  obtain ⟨s,rfl,E,hw⟩:=DataW.trod_string C h;cases E;exact ⟨aa,s.data.toList,aa,by simp [Rows.uptoBulk]⟩
end
end Go.Hb
end
section
namespace Go.Hb
open Go.Proofs
def lU:List (List TD):= [
 [.no,.no,.no,.no,.no,.no,.no,.st [0,1,2,3],.st [0,1,2,3],.str,.str,.str,.no,.st [0,1],.st [0,1],.no],
 [.no,.no,.st [0],.st [0],.no,.no,.st [0,1,2,3],.st [0,1,2,3],.no,.no,.no,.no,.no,.jo 49 5,.no,.no],
 [.jo 74 5,.no,.no,.jo 9 1,.no,.no,.no,.no,.no,.no,.no,.no,.st [0,1,2],.st [0,1,2],.no,.no],
 [.st [0,1,2,3,4],.st [0,1,2,3,4],.no,.jo 95 1,.st [0,1],.st [0,1],.no,.no,.st [0,1,2,3],.st [0,1,2,3],.no,.no,.no,.no,.no,.no],
 [.no,.no,.no,.no,.st [0,1,2],.st [0,1,2],.no,.no,.no,.no,.st [0,1,2,3,4],.no,.jo 87 2,.st [0,1],.st [0,1],.no],
 [.no,.no,.no,.no,.no,.jo 3 1,.st [0,1],.st [0,1],.no,.no,.no,.no,.no,.no,.no,.no],
 [.no,.jo 189 2,.jo 51 1,.jo 192 5,.jo 134 7,.st [0,1,2,3,8,9,10,11,12],.st [0,1,2,3,8,9,10,11,12],.jo 53 2,.st [0,1,2,15],.st [0,1,2,15],.no,.no,.jo 95 1,.no,.no,.no],
 [.st [0,1],.jo 112 2,.no,.no,.no,.no,.no,.no,.no,.no,.no,.no,.no,.no,.no,.no],
 [.no,.no,.no,.st [0,1,2,3],.st [0,1,2,3],.st [0,1,2,3,4,5,6],.st [0,1,2,3,4,5,6],.no,.no,.no,.no,.st [0,1,2,3,4,5,6,7],.st [0,1,2,3,4,5,6,7],.no,.no,.no],
 [.no,.no,.no,.no,.no,.jo 351 2,.jo 85 1,.jo 216 5,.jo 214 8,.st [0,1,2,3,8,9,10,11,12],.st [0,1,2,3,8,9,10,11,12],.no,.jo 181 2,.no,.no,.no],
 [.no,.no,.no,.st [0,13],.st [0,13],.no,.st [0,1,2,3,4,5,6],.st [0,1,2,3,4,5,6],.no,.no,.no,.no,.no,.st [0,1],.st [0,1],.no],
 [.no,.no,.no,.no,.st [0,1],.st [0,1],.no,.st [0,1],.st [0,1],.no,.no,.no,.st [0,1],.st [0,1],.no,.st [0,1,2,3,4]],
 [.st [0,1,2,3,4],.no,.no,.no,.no,.no,.no,.no,.st [0,1,2,3,4,5],.st [0,1,2,3,4,5],.jo 209 2,.no,.no,.no,.no,.st [0,1,2,3,4,5]],
 [.st [0,1,2,3,4,5],.st [0,1],.no,.no,.no,.st [0,1,2,3,4,5,6,7],.st [0,1,2,3,4,5,6,7],.st [0,1,2,3,4],.st [0,1,2,3,4],.no,.no,.no,.no,.no,.no,.no],
 [.no,.no,.no,.no,.no,.no,.no,.no,.no,.no,.no,.no,.no,.no,.no,.no],
 [.no,.no,.no,.no,.no,.no,.no,.no,.no,.no,.no,.no,.no,.no,.no,.no],
 [.no,.no,.no,.no,.no,.jo 5 1,.no,.no,.no,.no,.no,.no,.no,.no,.no,.no],
 [.no,.jo 321 4,.st [0],.st [0],.no,.no,.no,.no,.no,.no,.no,.no,.no,.no,.no,.no],
 [.no,.no,.no,.no,.no,.no,.no,.no,.no,.no,.no,.no,.no,.no,.no,.no],
 [.no,.no,.no,.no,.st [0,1],.st [0,1],.no,.no,.no,.no,.no,.no,.no,.no,.no,.no],
 [.no,.no,.no,.no,.no,.no,.no,.no,.no,.no,.no,.jo 359 1,.no,.no,.no,.no],
 [.no,.no,.no,.no,.no,.no,.no,.no,.no,.no,.no,.no,.no,.no,.no,.st [0,1]],
 [.no,.no,.no,.no,.no,.no,.st [0],.st [0],.no,.no,.no,.no,.no,.no,.no,.no],
 [.no,.no,.no,.no,.no,.no,.no,.no,.no,.no,.no,.no,.no,.no,.no,.no],
 [.no,.no,.no,.no,.no,.no,.no,.no,.no,.no,.st [0,1],.st [0,1],.no,.st [0,1,2,3],.st [0,1,2,3],.no],
 [.no,.no,.no,.no,.no,.no,.no,.st [0,1,2,3,4,5,6,7,8,9,10],.st [0,1,2,3,4,5,6,7,8,9,10]]]
theorem ml:oB az 0 lU=true :=aj
section
variable {N:Fm} {Q:dG→(Nat→ag)→ak→Prop} {w:ak} {σ σ':Nat→ag} {p':Pt} {st st':List Kn} {c':Option Prop}
theorem bq {x:jq} {A:jq} (n:Nat) (h:mg lU N n (.c x) [] σ none= .at (.c A) st' σ' c') (k:dA az N A (jQ az N st' Q) σ' w) (C:optG c':=by first | exact trivial | (simp only [optG,andG]; omega)):dA az N x Q σ w:=(nG ml n _ _ _ _ h C k).2
theorem bg {x:jq} {C:Array cg} {A:List cg} (n:Nat) (h:mg lU N n (.c x) [] σ none= .at (.l C A) st' σ' c') (k:ej az N C (jQ az N st' Q) A σ' w) (E:optG c':=by first | exact trivial | (simp only [optG,andG]; omega)):dA az N x Q σ w:=(nG ml n _ _ _ _ h E k).2
theorem nm {x:jq} {A:dG} (n:Nat) (h:mg lU N n (.c x) [] σ none= .at (.x A) [] σ' c') (k:Q A σ' w) (C:optG c':=by first | exact trivial | (simp only [optG,andG]; omega)):dA az N x Q σ w:=(nG ml n _ _ _ _ h C k).2
theorem bz {x:jq} {A:jq} (n:Nat) (h:mg lU N n (.c x) st σ none= .at (.c A) st' σ' c') (k:dA az N A (jQ az N st' Q) σ' w) (C:optG c':=by first | exact trivial | (simp only [optG,andG]; omega)):dA az N x (jQ az N st Q) σ w:=(nG ml n _ _ _ _ h C k).2
theorem aH {x:jq} {C:Array cg} {A:List cg} (n:Nat) (h:mg lU N n (.c x) st σ none= .at (.l C A) st' σ' c') (k:ej az N C (jQ az N st' Q) A σ' w) (E:optG c':=by first | exact trivial | (simp only [optG,andG]; omega)):dA az N x (jQ az N st Q) σ w:=(nG ml n _ _ _ _ h E k).2
theorem aJ {x:jq} {A:dG} (n:Nat) (h:mg lU N n (.c x) st σ none= .at (.x A) [] σ' c') (k:Q A σ' w) (C:optG c':=by first | exact trivial | (simp only [optG,andG]; omega)):dA az N x (jQ az N st Q) σ w:=(nG ml n _ _ _ _ h C k).2
theorem aQ {ops:Array cg} {l:List cg} {A:jq} (n:Nat) (h:mg lU N n (.l ops l) st σ none= .at (.c A) st' σ' c') (k:dA az N A (jQ az N st' Q) σ' w) (C:optG c':=by first | exact trivial | (simp only [optG,andG]; omega)):ej az N ops (jQ az N st Q) l σ w:=(nG ml n _ _ _ _ h C k).2
theorem au {ops:Array cg} {l:List cg} {C:Array cg} {A:List cg} (n:Nat) (h:mg lU N n (.l ops l) st σ none= .at (.l C A) st' σ' c') (k:ej az N C (jQ az N st' Q) A σ' w) (E:optG c':=by first | exact trivial | (simp only [optG,andG]; omega)):ej az N ops (jQ az N st Q) l σ w:=(nG ml n _ _ _ _ h E k).2
theorem aC {ops:Array cg} {l:List cg} {A:dG} (n:Nat) (h:mg lU N n (.l ops l) st σ none= .at (.x A) [] σ' c') (k:Q A σ' w) (C:optG c':=by first | exact trivial | (simp only [optG,andG]; omega)):ej az N ops (jQ az N st Q) l σ w:=(nG ml n _ _ _ _ h C k).2
theorem dz {e:dG} {A:jq} (n:Nat) (h:mg lU N n (.x e) st σ none= .at (.c A) st' σ' c') (k:dA az N A (jQ az N st' Q) σ' w) (C:optG c':=by first | exact trivial | (simp only [optG,andG]; omega)):jQ az N st Q e σ w:=(nG ml n _ _ _ _ h C k).2
theorem dq {e:dG} {C:Array cg} {A:List cg} (n:Nat) (h:mg lU N n (.x e) st σ none= .at (.l C A) st' σ' c') (k:ej az N C (jQ az N st' Q) A σ' w) (E:optG c':=by first | exact trivial | (simp only [optG,andG]; omega)):jQ az N st Q e σ w:=(nG ml n _ _ _ _ h E k).2
theorem bc {e:dG} {A:dG} (n:Nat) (h:mg lU N n (.x e) st σ none= .at (.x A) [] σ' c') (k:Q A σ' w) (C:optG c':=by first | exact trivial | (simp only [optG,andG]; omega)):jQ az N st Q e σ w:=(nG ml n _ _ _ _ h C k).2
variable {ops:Array cg} {S:ak→Prop} {r fuel fuel':Nat} {aW listed':Array Bool}
theorem aT (is:List Nat) (h:qP lU N true ops is fuel aW σ none= .at fuel' listed' σ' c') (A:S w) (k:eK az N ops Q S fuel' listed' σ' w) (C:optG c':=by first | exact trivial | (simp only [optG,andG]; omega)) (E:qz (jY N.F ops) is aW=true :=by kernel_rfl):eK az N ops Q S fuel aW σ w:=SI ml is h A k C E
theorem gH (is:List Nat) (h:qP lU N false ops is fuel aW σ none= .at fuel' listed' σ' c') (A:S w) (k:eT az N ops Q S r fuel' listed' σ' w) (C:optG c':=by first | exact trivial | (simp only [optG,andG]; omega)) (E:qz (fun l i=>ue N.F ops l r i) is aW=true :=by kernel_rfl):eT az N ops Q S r fuel aW σ w:=SK ml is h A k C E
theorem bU (is:List Nat) (h:qP lU N false ops is fuel aW σ none= .at fuel' listed' σ' c') (A:S w) (k:eT az N ops Q S r fuel' listed' σ' w) (C:optG c':=by first | exact trivial | (simp only [optG,andG]; omega)) (E:qz (fun l i=>sP N.F ops l r i) is aW=true :=by kernel_rfl):eT az N ops Q S r fuel aW σ w:=SJ ml is h A k C E
end
end Go.Hb
end
namespace Go.Hb
theorem drop_cons {α:Type} {l:List α} {i:Nat} (d:α) (h:i < l.length):l.drop i=l.getD i d::l.drop (i+1):=by
 rw [List.drop_eq_getElem_cons h]; simp [cH,h]
theorem wS {α:Type} {l:List α} {k i:Nat} (d:α) (hk:k≤i) (hi:i < l.length):(l.take<|i+1).drop k=(l.take i).drop k++ [l.getD i d]:=by
 rw [fN l i d hi,List.drop_append_of_le_length (by rw [dJ]; omega)]
def od (b:UInt8):Bool:=b==32 || b==9
theorem rJ (b:UInt8):od b=decide (b.toNat=32∨b.toNat=9):=by
 unfold od;have h:∀ x:UInt8,(b==x)=decide (b.toNat=x.toNat):=fun x=>by
  by_cases A:b=x
  · subst A; simp
  · have :b.toNat≠x.toNat:=fun h=>A<|lC.1 h;simp [A,this]
 rw [h,h];simp [Bool.decide_or]
def c7:List UInt8→List UInt8→List (List UInt8)
 | cur,[]=>if cur= [] then [] else [cur]
 | cur,b::r=>if od b then (if cur= [] then c7 [] r else cur::c7 [] r) else c7 (cur++ [b]) r
theorem BA:c7 [] []= []:=by simp [c7]
theorem Hw {cur:List UInt8} (h:cur≠[]):c7 cur []= [cur]:=by simp [c7,h]
theorem yn {b:UInt8} {r:List UInt8} (h:od b=true):c7 [] (b::r)=c7 [] r:=by simp [c7,h]
theorem Hv {cur:List UInt8} {b:UInt8} {r:List UInt8} (h:od b=true) (A:cur≠[]):c7 cur (b::r)=cur::c7 [] r:=by simp [c7,h,A]
theorem Bz {cur:List UInt8} {b:UInt8} {r:List UInt8} (h:od b=false):c7 cur (b::r)=c7 (cur++ [b]) r:=by simp [c7,h]
theorem By:∀ (l cur x:List UInt8),x∈c7 cur l→x≠[]∧x.length≤cur.length+l.length:=by
 intro l
 induction l with
 | nil=>
   intro cur x h;unfold c7 at h;split at h
   · cases h
   · simp only [iS] at h; subst h; exact ⟨by assumption,by simp⟩
 | cons b r A=>
   intro cur x h;unfold c7 at h;split at h
   · split at h
     · have :=A [] x h; simp only [cC,gr] at*; exact ⟨this.1,ab⟩
     · rcases fi.1 h with rfl | h
       · exact ⟨by assumption,by simp⟩
       · have :=A [] x h; simp only [cC,gr] at*; exact ⟨this.1,ab⟩
   · have :=A _ x h; simp only [cC,bG,gr] at*; exact ⟨this.1,ab⟩
theorem vM:∀ (l cur:List UInt8),(c7 cur l).length≤l.length+1:=by
 intro l
 induction l with
 | nil=>intro cur; unfold c7; split <;> simp
 | cons b r A=>
   intro cur;unfold c7;split
   · split
     · have :=A []; simp only [cC]; omega
     · have :=A []; simp only [cC]; omega
   · have :=A (cur++ [b]); simp only [cC]; omega
theorem Bx {cur l:List UInt8} {i:Nat} (A:cur≠[]) (h:l.length≤i∨od (l.getD i 0)=true):c7 cur (l.drop i)=cur::c7 [] (l.drop i):=by
 by_cases hi:i < l.length
 · have C:=h.resolve_left ab;rw [drop_cons 0 hi,Hv C A,yn C]
 · rw [iR ab,Hw A,BA]
def lD (l:List UInt8) (i:Nat) (fr:Int) (cur:List UInt8):Prop :=(fr= -1∧cur= [])∨(∃ k:Nat,fr=k∧k < i∧i≤l.length∧cur=(l.take i).drop k)
theorem lD.no {l:List UInt8} {i:Nat} :lD l i (-1) []:= .inl ⟨rfl,rfl⟩
theorem lD.neg {l cur:List UInt8} {i:Nat} {fr:Int} (h:lD l i fr cur) (A:fr < 0):fr= -1∧cur= []:=by
 rcases h with h | ⟨k,rfl,_⟩
 · exact h
 · omega
theorem lD.pos {l cur:List UInt8} {i:Nat} {fr:Int} (h:lD l i fr cur) (A:¬fr < 0):(0≤fr∧fr < i)∧cur=(l.take i).drop fr.toNat∧cur≠[]:=by
 rcases h with ⟨rfl,_⟩ | ⟨k,rfl,h1,h2,rfl⟩
 · omega
 · refine ⟨ab,by simp,fun e=> ?_⟩;have :=congrArg jr e;simp only [List.length_drop,dJ,gr] at this;omega
theorem lD.begin {l:List UInt8} {i:Nat} (hi:i < l.length):lD l (i+1) i [l.getD i 0]:=by
 refine .inr ⟨i,aa,ab,ab,?_⟩;rw [wS 0 (cE i) hi,iR (by rw [dJ]; omega),qj]
theorem lD.more {l cur:List UInt8} {i:Nat} {fr:Int} (h:lD l i fr cur) (A:¬fr < 0) (hi:i < l.length):lD l (i+1) fr (cur++ [l.getD i 0]):=by
 rcases h with ⟨rfl,_⟩ | ⟨k,rfl,h1,h2,rfl⟩
 · omega
 · exact .inr ⟨k,aa,ab,ab,(wS 0 ab hi).symm⟩
def ka (l:List UInt8):List UInt8:=if 0 < l.length∧l.getD (l.length - 1) 0=13 then l.take (l.length - 1) else l
theorem Gx (l:List UInt8):(ka l).length≤l.length:=by unfold ka; split <;> simp
theorem Gy {l:List UInt8} (h:0 < l.length) (h1:l.getD (l.length - 1) 0=13):ka l=l.take (l.length - 1):=if_pos ⟨h,h1⟩
theorem Ba {l:List UInt8} (h:¬(0 < l.length∧l.getD (l.length - 1) 0=13)):ka l=l:=if_neg h
theorem IE {l:List UInt8} (h:0 < l.length):l.drop (l.length - 1)= [l.getD (l.length - 1) 0]:=by
 rw [drop_cons 0 ab,iR ab]
def gz:List UInt8→List UInt8→List (List UInt8)
 | cur,[]=>if cur= [] then [] else [ka cur]
 | cur,b::r=>if b=10 then ka cur::gz [] r else gz (cur++ [b]) r
theorem Cg:gz [] []= []:=by simp [gz]
theorem IQ {cur:List UInt8} (h:cur≠[]):gz cur []= [ka cur]:=by simp [gz,h]
theorem IS (cur r:List UInt8):gz cur (10::r)=ka cur::gz [] r:=by simp [gz]
theorem Cf {cur:List UInt8} {b:UInt8} {r:List UInt8} (h:b≠10):gz cur (b::r)=gz (cur++ [b]) r:=by simp [gz,h]
theorem Ce:∀ (l cur:List UInt8),(gz cur l).length≤l.length+1:=by
 intro l
 induction l with
 | nil=>intro cur; unfold gz; split <;> simp
 | cons b r A=>
   intro cur;unfold gz;split
   · have :=A []; simp only [cC]; omega
   · have :=A (cur++ [b]); simp only [cC]; omega
theorem UF (l:List UInt8):(gz [] l).length≤l.length:=by
 cases l with
 | nil=>simp [gz]
 | cons b r=>
   unfold gz;split
   · have :=Ce r [];have h2:∀ m:List UInt8,(gz [] m).length≤m.length:=by
      intro m
      induction m with
      | nil=>simp [gz]
      | cons c m A=>
        unfold gz;split
        · simp only [cC]; omega
        · have :=Ce m ([]++ [c]); simp only [cC]; omega
     have :=h2 r;simp only [cC]; omega
   · have :=Ce r ([]++ [b]); simp only [cC]; omega
theorem UG:∀ (l cur x:List UInt8),x∈gz cur l→x.length≤cur.length+l.length:=by
 intro l
 induction l with
 | nil=>
   intro cur x h;unfold gz at h;split at h
   · cases h
   · simp only [iS] at h; subst h; have :=Gx cur; simp only [gr]; omega
 | cons b r A=>
   intro cur x h;unfold gz at h;split at h
   · rcases fi.1 h with rfl | h
     · have :=Gx cur; omega
     · have :=A [] x h; simp only [cC,gr] at*; omega
   · have :=A _ x h; simp only [cC,bG,gr] at*; omega
def fF (c:UInt8) (l:List UInt8):Int:=if l.idxOf c < l.length then (l.idxOf c:Int) else -1
theorem Is {c:UInt8} {l:List UInt8} (h:fF c l < 0):¬l.idxOf c < l.length:=fun h1=>by unfold fF at h; rw [if_pos h1] at h; omega
theorem sR {c:UInt8} {l:List UInt8} (h:¬fF c l < 0):fF c l=l.idxOf c∧l.idxOf c < l.length:=by
 unfold fF at*;by_cases h1:l.idxOf c < l.length
 · exact ⟨if_pos h1,h1⟩
 · rw [if_neg h1] at h; omega
def nj (c:UInt8) (l:List UInt8):List UInt8:=if fF c l < 0 then l else l.take (l.idxOf c)
def oV (c:UInt8) (l:List UInt8):List UInt8:=if fF c l < 0 then [] else l.drop (l.idxOf c+1)
theorem Qc (c:UInt8) (l:List UInt8):(nj c l).length≤l.length:=by unfold nj; split <;> simp; omega
theorem Qf {c:UInt8} {l:List UInt8} (h:l≠[]):(oV c l).length < l.length:=by
 have :=List.length_pos_iff.2 h;unfold oV; split <;> simp <;> omega
theorem UE:∀ (l cur:List UInt8),l.idxOf 10 < l.length→gz cur l=ka (cur++l.take (l.idxOf 10))::gz [] (l.drop<|l.idxOf 10 +1):=by
 intro l
 induction l with
 | nil=>intro cur h; simp at h
 | cons b r E=>
   intro cur h;by_cases A:b=10
   · subst A;rw [MT,IS,pH,ez,im,List.drop_one,List.tail_cons]
   · have C:(b::r).idxOf 10=r.idxOf 10 +1:=by rw [uZ,beq_eq_false_iff_ne.2 A]; rfl
     rw [C] at h ⊢;simp only [cC] at h;rw [Cf A,E _ ab,qm,List.drop_succ_cons,eX];rfl
theorem UH:∀ (l cur:List UInt8),¬l.idxOf 10 < l.length→cur++l≠[]→gz cur l= [ka (cur++l)]:=by
 intro l
 induction l with
 | nil=>intro cur _ h; rw [ez] at h ⊢; exact IQ h
 | cons b r E=>
   intro cur h h1;by_cases A:b=10
   · subst A; rw [MT] at h; simp at h
   · have C:(b::r).idxOf 10=r.idxOf 10 +1:=by rw [uZ,beq_eq_false_iff_ne.2 A]; rfl
     rw [C] at h;simp only [cC] at h;rw [Cf A,E _ ab (by simp),eX];rfl
theorem UI {l:List UInt8} (h:l≠[]):gz [] l=ka (nj 10 l)::gz [] (oV 10 l):=by
 by_cases h1:fF 10 l < 0
 · rw [UH l [] (Is h1) (by simpa using h)];unfold nj oV;rw [if_pos h1,if_pos h1,Cg,qj]
 · rw [UE l [] (sR h1).2];unfold nj oV;rw [if_neg h1,if_neg h1,qj]
def gn (s p:List UInt8):List UInt8:=if s.take p.length=p then s.drop p.length else s
def rQ:List UInt8:= [239,187,191]
def uj (s:List UInt8):Bool:=decide (s.take 3=rQ)
def mV (s:List UInt8):List UInt8:=gn s rQ
theorem zA (s:List UInt8):(mV s).length≤s.length:=by unfold mV gn; split <;> simp
theorem YY {s:List UInt8} (h:uj s=true):mV s=s.drop 3:=if_pos<|of_decide_eq_true h
theorem YX {s:List UInt8} (h:uj s=false):mV s=s:=if_neg<|of_decide_eq_false h
theorem UO {s:List UInt8} (h:uj s=true):3≤s.length:=by
 have h1:=congrArg jr<|of_decide_eq_true h;rw [dJ] at h1;have :rQ.length=3:=rfl;omega
theorem yH (s:List UInt8):uj s=decide (3≤s.length∧(s.getD 0 0).toNat=239∧(s.getD 1 0).toNat=187∧(s.getD 2 0).toNat=191):=by
 unfold uj;refine decide_eq_decide.2 ?_
 match s with
 | []=>simp [rQ]
 | [a]=>simp [rQ]
 | [a,b]=>simp [rQ]
 | a::b::c::r=>
   have h:∀ (x:UInt8) (n:Nat),n < 256→(x=ky n↔x.toNat=n):=fun x n hn=>by
    constructor
    · rintro rfl; simp; omega
    · intro h; apply lC.1; simp; omega
   have h1:=h a 239 aw;have h2:=h b 187 aw;have h3:=h c 191 aw;simp only [rQ,qm,pH,Eo,and_true,cC,lW,List.getD_cons_succ];constructor
   · rintro ⟨A,C,E⟩; exact ⟨ab,h1.1 A,h2.1 C,h3.1 E⟩
   · rintro ⟨_,A,C,E⟩; exact ⟨h1.2 A,h2.2 C,h3.2 E⟩
def bL (t:List UInt8):List (List UInt8):=gz []<|mV t
theorem o6 (t:List UInt8):(bL t).length≤t.length:=e7 (UF _)<|zA t
theorem Cd {t x:List UInt8} (h:x∈bL t):x.length≤t.length:=by
 have :=UG _ _ _ h;have :=zA t;simp only [gr] at*; omega
def wz (f:List UInt8):Bool:=decide ((f.getD 0 0).toNat=35)
def o5 (f:List (List UInt8)):List (List UInt8):=f.takeWhile fun x=> !wz x
def lR (l:List UInt8) (n:Nat):List (Nat×List (List UInt8)):=if o5 (c7 [] l)= [] then [] else [(n,o5 (c7 [] l))]
def lT (n:Nat):List (List UInt8)→List (Nat×List (List UInt8))
 | []=> []
 | l::r=>lR l n++lT (n+1) r
def bT (t:List UInt8):List (Nat×List (List UInt8)):=lT 1<|bL t
theorem oy (l:List UInt8):∀ (A:List (List UInt8)) (n:Nat),lT n (A++ [l])=lT n A++lR l (n+A.length):=by
 intro A
 induction A with
 | nil=>intro n; simp [lT]
 | cons a A C=>intro n; rw [List.cons_append,lT,C,lT,cC,eX,show n+1 +A.length=n+(A.length+1) from by omega]
theorem C4:∀ (A:List (List UInt8)) (n:Nat),(lT n A).length≤A.length:=by
 intro A
 induction A with
 | nil=>intro n; simp [lT]
 | cons a A C=>
   intro n;have :=C<|n+1;unfold lT lR;rw [bG];split <;> simp only [gr,cC] <;> omega
theorem y5 (t:List UInt8):(bT t).length≤t.length:=e7 (C4 _ _)<|o6 t
theorem yD {f:List (List UInt8)} :∀ {j:Nat},j≤f.length→(∀ i,i < j→wz (f.getD i [])=false)→(j=f.length∨wz (f.getD j [])=true)→o5 f=f.take j:=by
 induction f with
 | nil=>intro j C _ _; rw [M4]; rfl
 | cons a f E=>
   intro j C h1 h2;cases j with
   | zero=>
     rcases h2 with h2 | h2
     · simp at h2
     · simp only [lW] at h2;simp [o5,h2]
   | succ j=>
     have A:=h1 0 ab;simp only [lW] at A;have :=E (j:=j) (by simpa using C) (fun i hi=>by simpa using h1 (i+1) ab)<|by simpa using h2
     unfold o5 at*;rw [List.takeWhile_cons,A];simp only [Bool.not_false,if_true,qm];rw [this]
theorem Ud {f:List (List UInt8)} {x:List UInt8} (h:x∈o5 f):x∈f:=(M2 _).subset h
theorem Uc (f:List (List UInt8)):(o5 f).length≤f.length:=(M2 _).length_le
theorem WZ:∀ (A:List (List UInt8)) (n:Nat) (r:Nat×List (List UInt8)),r∈lT n A→n≤r.1∧r.1 < n+A.length∧r.2≠[]∧∃ l∈A,r.2=o5 (c7 [] l):=by
 intro A
 induction A with
 | nil=>intro n r h; cases h
 | cons a A E=>
   intro n r h;rw [lT] at h;rcases List.mem_append.1 h with h | h
   · unfold lR at h;split at h
     · cases h
     · simp only [iS] at h; subst h;exact ⟨by simp,by simp,by assumption,a,by simp,aa⟩
   · obtain ⟨h1,h2,h3,l,C,h4⟩:=E _ _ h;exact ⟨ab,by simp only [cC]; omega,h3,l,by simp [C],h4⟩
theorem y6 {t:List UInt8} {r:Nat×List (List UInt8)} (h:r∈bT t):1≤r.1∧r.1≤t.length∧r.2≠[]∧r.2.length≤t.length+1∧∀ x∈r.2,x≠[]∧x.length≤t.length:=by
 obtain ⟨h1,h2,h3,l,C,h4⟩:=WZ _ _ _ h;have G:=o6 t;have E:=Cd C;refine ⟨h1,ab,h3,?_,fun x A=> ?_⟩
 · rw [h4]; have :=Uc (c7 [] l); have :=vM l []; omega
 · rw [h4] at A;have :=By _ _ _<|Ud A;simp only [gr] at this;exact ⟨this.1,ab⟩
def rD (b:UInt8):Bool:=decide (48≤b.toNat∧b.toNat≤57)
def gG (s:List UInt8):Nat:=s.foldl (fun n b=>n*10 +(b.toNat - 48)) 0
theorem oa {s:List UInt8} {i:Nat} (h:i < s.length):gG (s.take<|i+1)=gG (s.take i)*10 +((s.getD i 0).toNat - 48):=by
 rw [fN s i 0 h]; unfold gG; rw [z8]; rfl
theorem RY:∀ (s:List UInt8) (n:Nat),n≤s.foldl (fun n b=>n*10 +(b.toNat - 48)) n:=by
 intro s
 induction s with
 | nil=>intro n; exact cE _
 | cons b s A=>intro n; refine e7 ?_ (A _); show n≤n*10 +(b.toNat - 48); omega
theorem QB (s:List UInt8) (i:Nat):gG (s.take i)≤gG s:=by
 have :gG s=(s.drop i).foldl (fun n b=>n*10 +(b.toNat - 48)) (gG<|s.take i):=by
  unfold gG; rw [← z8,List.take_append_drop]
 rw [this]; exact RY _ _
def rM (s:List UInt8):Prop :=s= []∨(1 < s.length∧(s.getD 0 0).toNat=48)
def A5 (s:List UInt8):Prop := ∀ i,i < s.length→rD (s.getD i 0)=true
open Classical in
noncomputable def ee (s:List UInt8) (most:Int):Nat×Int:=if rM s∨¬A5 s∨most < gG s then (0,13) else (gG s,0)
theorem yP {s:List UInt8} {most:Int} (h:rM s):ee s most=(0,13):=if_pos<|.inl h
theorem yO {s:List UInt8} {most:Int} {i:Nat} (h:i < s.length) (h1:rD (s.getD i 0)=false):ee s most=(0,13):=if_pos<|.inr<|.inl fun hd=>by rw [hd i h] at h1; cases h1
theorem Vu {s:List UInt8} {most:Int} (h:most < gG s):ee s most=(0,13):=if_pos<|.inr<|.inr h
theorem wh {s:List UInt8} {most:Int} (i:Nat) (h:most < gG (s.take i)):ee s most=(0,13):=Vu<|by have :=QB s i; omega
theorem Cw {s:List UInt8} {most:Int} (h:¬rM s) (h1:A5 s) (h2:¬most < gG s):ee s most=(gG s,0):=if_neg<|by rintro (A | A | A) <;> first | exact h A | exact A h1 | exact h2 A
theorem Jn (s:List UInt8) (most:Int):(ee s most=(0,13))∨(ee s most=(gG s,0)∧(gG s:Int)≤most):=by
 unfold ee;split
 · exact .inl aa
 · rename_i h; exact .inr ⟨rfl,by have :¬most < gG s:=fun A=>h (.inr<|.inr A); omega⟩
theorem rT (s:List UInt8) (most:Int):(ee s most).2=0→((ee s most).1:Int)≤most:=by
 rcases Jn s most with h | ⟨h,h1⟩ <;> rw [h]
 · intro h; cases h
 · intro _; exact h1
theorem A4 {b:UInt8} (h:rD b=true):48≤b.toNat∧b.toNat≤57:=of_decide_eq_true h
theorem x5 {b:UInt8} (h:¬(48≤b.toNat∧b.toNat≤57)):rD b=false :=decide_eq_false h
theorem It {x:UInt8} :∀ {l:List UInt8} {i:Nat},i < l.length→(∀ j,j < i→l.getD j 0≠x)→l.getD i 0=x→fF x l=(i:Nat):=by
 have key:∀ (l:List UInt8) (i:Nat),i < l.length→(∀ j,j < i→l.getD j 0≠x)→l.getD i 0=x→l.idxOf x=i:=by
  intro l
  induction l with
  | nil=>intro i h; simp at h
  | cons b l C=>
    intro i h h1 h2;cases i with
    | zero=>have A:b=x:=h2
            subst A; simp
    | succ i=>
      have A:b≠x:=h1 0<|Nat.succ_pos _;rw [uZ,show (b==x)=false from by simpa using A];have :=C i (by simpa using h) (fun j E=>h1 (j+1) ab) h2;rw [this]; rfl
 intro l i h h1 h2;unfold fF;rw [key l i h h1 h2,if_pos h]
theorem Iu {x:UInt8} {l:List UInt8} (h:∀ j,j < l.length→l.getD j 0≠x):fF x l= -1:=by
 unfold fF;rw [if_neg];intro h1;have hm:=List.idxOf_lt_length_iff.1 h1;obtain ⟨j,A,e⟩:=List.mem_iff_getElem.1 hm;exact h j A<|by rw [cH,bY A]; exact e
end Go.Hb
section
namespace Go.Hb
theorem qS {h:Array Obj} {a:Option bF} {l:List UInt8} {i:Nat} (A:aB h a (U8 l)) (hi:i < l.length):Hb.aV h (bk a) (fo a+i*1)=some (.int .u8 (l.getD i 0).toNat):=by
 refine A.gV ?_;unfold U8;rw [fJ,bY hi,cH,bY hi]; rfl
theorem YO {h:Array Obj} {a:Option bF} {l:List UInt8} (A:aB h a (U8 l)) (n:Nat):aB h a (U8<|l.take n):=by
 have :=A.take n;unfold U8 at*;rwa [Af]
theorem qT {l:List UInt8} (h:0 < l.length):U8 l≠[]:=by
 intro e;have :=congrArg jr e;rw [xG,gr] at this;omega
theorem rW {w:ak} {B e:Nat} {v:ag} {l:List UInt8} {x:UInt8} (h:w.ownsRow B e 1 v (l.length+1) (U8 l++ [.int .u8 x.toNat])):w.ownsRow B e 1 v (l++ [x]).length (U8<|l++ [x]):=by
 rw [bG,xF]; exact h
theorem nB {w:ak} {B e:Nat} {v:ag} {l:List (List UInt8)} {x:List UInt8} (h:w.ownsRow B e 1 v (l.length+1) (l.map str++ [str x])):w.ownsRow B e 1 v (l++ [x]).length ((l++ [x]).map str):=by
 rw [bG,List.map_append]; exact h
abbrev Rw:Type :=Nat×List (List UInt8)
def zb (q:Nat×ag):List ag:= [.int .i64 q.1,q.2]
def k3 (l:List (Nat×ag)):List ag:=l.flatMap zb
theorem Dc (a b:List (Nat×ag)):k3 (a++b)=k3 a++k3 b:=by simp [k3]
theorem Kd (l:List (Nat×ag)):(k3 l).length=l.length*2:=mJ (f:=zb) (m:=2) (fun _=>rfl) l
theorem mh {l:List (Nat×ag)} (h:0 < l.length):k3 l≠[]:=Bv (f:=zb) (m:=2) (fun _=>rfl) aw h
theorem mi {h:Array Obj} {ad:Option bF} {vs:List (Nat×ag)} {i:Nat} {q:Nat×ag} (A:aB h ad (k3 vs)) (C:vs[i]? =some q):∀ j,j < 2→Hb.aV h (bk ad) (fo ad+i*2 +j)= [gq .i64 q.1,q.2][j]? :=
 fI (f:=zb) (m:=2) (fun _=>rfl) A C
def Tg (w:ak) (B e n:Nat) (v:ag) (xs:List ag):Prop :=
 ∃ a cp,v= .slice a n cp∧n≤cp∧(xs= []∨∃ b cur z,a=some ⟨b,0,none⟩∧B≤b∧w.heap[b]? =some (.cells cur e z)∧∀ (j:Nat) u,xs[j]? =some u→cur[j]? =some u)
theorem Tg.j5 {w:ak} {B e size n:Nat} {v:ag} {xs:List ag} (h:w.ownsRow B e size v n xs):Tg w B e n v xs:=by
 have A:=h;rcases h.2 with ⟨rfl,rfl⟩ | ⟨g,cap,cur,rfl,C,E,_,_,_,G⟩
 · exact ⟨none,0,aa,cE _,.inl<|fY<|by simpa using h.1⟩
 · refine ⟨_,cap,aa,(aX A).1,.inr ⟨g,cur,_,aa,C,E,fun j u hu=> ?_⟩⟩;rw [← G,oG] at hu;split at hu
   · simpa using hu
   · cases hu
theorem Tg.cells {w:ak} {B e n:Nat} {v:ag} {xs:List ag} (h:Tg w B e n v xs):∃ a cp,v= .slice a n cp∧aB w.heap a xs:=by
 obtain ⟨a,cp,rfl,_,h | ⟨b,cur,z,rfl,_,A,C⟩⟩:=h
 · subst h; exact ⟨a,cp,rfl,aB.nil _ _⟩
 · refine ⟨_,cp,aa,fun _=>rfl,fun j u hu=> ?_⟩;show Hb.aV w.heap b (0 +j)=_;rw [im,a8 A]; exact C j u hu
theorem Tg.cW {w:ak} {B e n cp:Nat} {a:Option bF} {xs:List ag} (h:Tg w B e n (.slice a n cp) xs):n≤cp∧aB w.heap a xs:=by
 obtain ⟨I,c',C,A,J⟩:=id h;obtain ⟨a2,c2,E,G⟩:=h.cells;cases C; cases E;exact ⟨A,G⟩
theorem Tg.slice {w:ak} {B e n:Nat} {v:ag} {xs:List ag} (h:Tg w B e n v xs):∃ a cp,v= .slice a n cp:=let ⟨a,cp,hv,_⟩:=h; ⟨a,cp,hv⟩
theorem Tg.md {F:Nat→Prop} {w w':ak} {B e n:Nat} {v:ag} {xs:List ag} (h:Tg w B e n v xs) (hm:Md F w w') (E:∀ k,F k→∀ cur z,w.heap[k]?≠some (.cells cur e z)):Tg w' B e n v xs:=by
 obtain ⟨a,cp,rfl,C,h | ⟨b,cur,z,rfl,G,A,I⟩⟩:=h
 · exact ⟨a,cp,aa,C,.inl h⟩
 · exact ⟨_,cp,aa,C,.inr ⟨b,cur,z,aa,G,by rw [hm.dx b (dD.1 A).1 (fun hk=>E b hk cur z A)]; exact A,I⟩⟩
theorem Tg.wk {w w':ak} {B e n:Nat} {v:ag} {xs:List ag} (h:Tg w B e n v xs) (hm:Wk w w'):Tg w' B e n v xs:=h.md hm fun _ hk=>hk.elim
theorem Tg.clip {w:ak} {B e n k cp A:Nat} {a:Option bF} {xs:List ag} (h:Tg w B e n (.slice a n cp) xs) (hk:k≤A):Tg w B e k (.slice a k A) (xs.take k):=by
 obtain ⟨O,c',E,_,C⟩:=h;simp only [mq,true_and] at E;obtain ⟨rfl,rfl⟩:=E;refine ⟨a,A,aa,hk,?_⟩;rcases C with rfl | ⟨b,cur,z,G,I,J,C⟩
 · exact .inl M4
 · exact .inr ⟨b,cur,z,G,I,J,fun j u hu=>C j u<|by rw [oG] at hu; split at hu; exact hu; cases hu⟩
theorem iO {w:ak} {B e C size n:Nat} {v:ag} {xs:List ag} (h:w.ownsRow B e size v n xs) (G:e≠C):∀ k,v.ownBlock=some k→∀ cur z,w.heap[k]?≠some (.cells cur C z):=by
 intro k hk cur z A;rcases h.2 with ⟨rfl,_⟩ | ⟨g,cap,I,rfl,_,E,_⟩
 · simp [jS] at hk
 · simp only [jS,gJ] at hk;subst hk;rw [E] at A;simp only [gJ,D8] at A;exact G A.2.1
theorem fL {w:ak} {b e C:Nat} {cs:Array ag} {y:Nat×Nat} (h:w.heap[b]? =some (.cells cs e y)) (E:e≠C):∀ k,k=b→∀ cur z,w.heap[k]?≠some (.cells cur C z):=by
 rintro k rfl cur z A;rw [h] at A;simp only [gJ,D8] at A;exact E A.2.1
def iH (w:ak) (B e:Nat) (vs:List (Nat×ag)) (rs:List Rw):Prop :=vs.length=rs.length∧∀ (i:Nat) q r,vs[i]? =some q→rs[i]? =some r→q.1=r.1∧Tg w B e r.2.length q.2 (r.2.map str)
theorem iH.nil (w:ak) (B e:Nat):iH w B e [] []:=⟨rfl,fun i q r A=>by simp at A⟩
theorem iH.md {F:Nat→Prop} {w w':ak} {B e:Nat} {vs:List (Nat×ag)} {rs:List Rw} (h:iH w B e vs rs) (hm:Md F w w') (A:∀ k,F k→∀ cur z,w.heap[k]?≠some (.cells cur e z)):iH w' B e vs rs:=
 ⟨h.1,fun i q r h1 h2=>⟨(h.2 i q r h1 h2).1,(h.2 i q r h1 h2).2.md hm A⟩⟩
theorem iH.wk {w w':ak} {B e:Nat} {vs:List (Nat×ag)} {rs:List Rw} (h:iH w B e vs rs) (hm:Wk w w'):iH w' B e vs rs:=h.md hm fun _ hk=>hk.elim
theorem iH.snoc {w:ak} {B e n:Nat} {vs:List (Nat×ag)} {rs:List Rw} {v:ag} {r:List (List UInt8)} (A:iH w B e vs rs) (E:Tg w B e r.length v (r.map str)):iH w B e (vs++ [(n,v)]) (rs++ [(n,r)]):=by
 refine ⟨by rw [bG,bG,A.1]; rfl,fun i G I h1 h2=> ?_⟩;have C:=A.1;by_cases hi:i < vs.length
 · rw [mX hi] at h1;rw [mX ab] at h2;exact A.2 i G I h1 h2
 · rw [nN ab] at h1;rw [nN ab,← C] at h2;cases hj:i - vs.length with
   | zero=>rw [hj] at h1 h2; cases h1; cases h2; exact ⟨rfl,E⟩
   | succ j=>rw [hj] at h1; simp at h1
theorem Tg.mono {w:ak} {B B' e n:Nat} {v:ag} {xs:List ag} (h:Tg w B e n v xs) (A:B'≤B):Tg w B' e n v xs:=by
 obtain ⟨a,cp,E,C,G⟩:=h;exact ⟨a,cp,E,C,G.imp id fun ⟨b,cur,z,h1,h2,h3⟩=>⟨b,cur,z,h1,e7 A h2,h3⟩⟩
theorem iH.mono {w:ak} {B B' e:Nat} {vs:List (Nat×ag)} {rs:List Rw} (h:iH w B e vs rs) (A:B'≤B):iH w B' e vs rs:=⟨h.1,fun i q r h1 h2=>⟨(h.2 i q r h1 h2).1,(h.2 i q r h1 h2).2.mono A⟩⟩
end Go.Hb
end
section
set_option linter.unusedSectionVars false
namespace Go.Hb
open Go.Sort (swp insInner insOuter insertionSort siftDown heapBuild heapPop heapSort scanUp scanDown partLoop partEqLoop partition partitionEqual scanSorted shiftDown shiftUp partialIns partialInsertionSort reverseLoop reverseRange choosePivot breakPatterns breakStep pdq Hint)
def LE {α:Type} (f:α→ag) (d:Array α):List ag:=d.toList.map f
section
variable {α:Type} [Inhabited α] {f:α→ag}
theorem vT (d:Array α):(LE f d).length=d.size:=by simp [LE]
theorem cy {d:Array α} (h:0 < d.size):LE f d≠[]:=by
 intro e; have :=congrArg jr e; rw [vT,gr] at this; omega
theorem IH {d:Array α} {i:Nat} (h:i < d.size):(LE f d)[i]? =some (f d[i]!):=by
 unfold LE;rw [fJ,zL,xh h,getElem!_pos d i h]; rfl
theorem dN {h:Array Obj} {a:Option bF} {d:Array α} {i:Nat} (A:aB h a (LE f d)) (hi:i < d.size):Hb.aV h (bk a) (fo a+i*1)=some (f d[i]!):=A.gV<|IH hi
theorem Ul (d:Array α) (i:Nat) (v:α):(LE f d).set i (f v)=LE f (d.setIfInBounds i v):=by
 unfold LE; rw [Array.toList_setIfInBounds,List.map_set]
theorem gi {w:ak} {B e n:Nat} {v:ag} {d:Array α} (h:w.ownsRow B e 1 v n (LE f d)):d.size=n:=by
 have :=h.1; rw [vT] at this; omega
end
section
variable {P:bH} {N:Fm} {σ:Nat→ag} {w:ak} {ty:bB} {pos :String} {af:Array fO} {g:Option (Nat×Bool)} {x y:ek} {K:(Nat→ag)→ak→Prop}
theorem gP {α:Type} [Inhabited α] {f:α→ag} {t B e n cap:Nat} {a:Option bF} {d:Array α} {u:α} (i:Nat) (A:w.ownsRow B e 1 (.slice a n cap) n (LE f d)) (G:eA P t=some 1) (C:ev N σ x= .pointer (some ⟨bk a,fo a+i*1,none⟩)) (E:ev N σ y=f u) (h1:(f u).oneCell'=true)
 (I:i < n) (k:∀ w',Md (fun k=>(bQ a n cap).ownBlock=some k) w w'→w'.ownsRow B e 1 (.slice a n cap) n (LE f<|d.setIfInBounds i u)→K σ w'):dI P N ⟨none,.store t x y,ty,pos,af,g⟩ σ w K:=
 uB A G C E h1 (j:=i) ab ab fun w' h1 h2=>k w' h1<|by rw [← Ul]; exact h2
end
section
variable {α:Type} [Inhabited α] {lt:α→α→Bool} {d:Array α}
theorem TQ {a j:Nat} (h:a < j) (h1:lt d[j]! d[j - 1]! =true):insInner lt a j d=insInner lt a (j - 1) (swp d j<|j - 1):=by
 cases j with
 | zero=>omega
 | succ j=>simp only [tE] at*; rw [insInner,if_pos (by simp [h1]; omega)]
theorem TS {a j:Nat} (h:¬a < j):insInner lt a j d=d:=by
 cases j with
 | zero=>rfl
 | succ j=>rw [insInner,if_neg (by simp; omega)]
theorem TR {a j:Nat} (h1:lt d[j]! d[j - 1]! =false):insInner lt a j d=d:=by
 cases j with
 | zero=>rfl
 | succ j=>simp only [tE] at*; rw [insInner,if_neg (by simp [h1])]
theorem Io {a b i:Nat} (h:i < b):insOuter lt a b i d=insOuter lt a b (i+1) (insInner lt a i d):=by rw [insOuter,if_pos h]
theorem TP {a b i:Nat} (h:¬i < b):insOuter lt a b i d=d:=by rw [insOuter,if_neg h]
theorem XA {hi first r:Nat} (h:¬2 *r+1 < hi):siftDown lt hi first r d=d:=by rw [siftDown,dif_pos ab]
theorem XB {hi first r:Nat} (h:2 *r+1 +1 < hi) (h1:lt d[first+(2 *r+1)]! d[first+(2 *r+1)+1]! =true):
 siftDown lt hi first r d=if (!lt d[first+r]! d[first+(2 *r+2)]!)=true then d else siftDown lt hi first (2 *r+2) (swp d (first+r)<|first+(2 *r+2)):=by
 rw [siftDown,dif_neg ab,if_pos (by simp [h1]; omega),dif_pos ab]
theorem Kr {hi first r:Nat} (A:2 *r+1 < hi) (h:¬2 *r+1 +1 < hi∨lt d[first+(2 *r+1)]! d[first+(2 *r+1)+1]! =false):
 siftDown lt hi first r d=if (!lt d[first+r]! d[first+(2 *r+1)]!)=true then d else siftDown lt hi first (2 *r+1) (swp d (first+r)<|first+(2 *r+1)):=by
 rw [siftDown,dif_neg ab,if_neg (by rcases h with h | h <;> simp [h] <;> omega)]
theorem SX {hi first k:Nat} (h:0 < k):heapBuild lt hi first k d=heapBuild lt hi first (k - 1) (siftDown lt hi first (k - 1) d):=by
 cases k with
 | zero=>omega
 | succ k=>rfl
theorem SY {hi first :Nat} :heapBuild lt hi first 0 d=d:=rfl
theorem Ts {first k:Nat} (h:0 < k):heapPop lt first k d=heapPop lt first (k - 1) (siftDown lt (k - 1) first 0 (swp d first (first+(k - 1)))):=by
 cases k with
 | zero=>omega
 | succ k=>rfl
theorem DJ {p:α→Bool} {i j:Nat} (h:i≤j) (h1:p d[i]! =true):scanUp p d j i=scanUp p d j (i+1):=by
 rw [scanUp]; simp [h,h1]
theorem uG {p:α→Bool} {i j:Nat} (h:¬i≤j∨p d[i]! =false):scanUp p d j i=i:=by
 rw [scanUp]; rcases h with h | h <;> simp [h]
theorem A6 {p:α→Bool} {i j:Nat} (A:0 < j) (h:i≤j) (h1:p d[j]! =true):scanDown p d i j=scanDown p d i (j - 1):=by
 cases j with
 | zero=>omega
 | succ j=>rw [scanDown]; simp [h,h1]
theorem ua {p:α→Bool} {i j:Nat} (h:¬i≤j∨p d[j]! =false):scanDown p d i j=j:=by
 cases j with
 | zero=>rfl
 | succ j=>rw [scanDown]; rcases h with h | h <;> simp [h]
theorem XQ {b i:Nat} (h:i < b) (h1:lt d[i]! d[i - 1]! =false):scanSorted lt d b i=scanSorted lt d b (i+1):=by
 rw [scanSorted]; simp [h,h1]
theorem KI {b i:Nat} (h:¬i < b∨lt d[i]! d[i - 1]! =true):scanSorted lt d b i=i:=by
 rw [scanSorted]; rcases h with h | h <;> simp [h]
theorem Xk {j:Nat} (h:0 < j) (h1:lt d[j]! d[j - 1]! =true):shiftDown lt j d=shiftDown lt (j - 1) (swp d j<|j - 1):=by
 cases j with
 | zero=>omega
 | succ j=>simp only [tE] at*; rw [shiftDown]; simp [h1]
theorem Ke {j:Nat} (h:¬0 < j∨lt d[j]! d[j - 1]! =false):shiftDown lt j d=d:=by
 cases j with
 | zero=>rfl
 | succ j=>simp only [tE] at*; rw [shiftDown]; rcases h with h | h <;> first | omega | simp [h]
theorem Ye {b j:Nat} (h:j < b) (h1:lt d[j]! d[j - 1]! =true):shiftUp lt b j d=shiftUp lt b (j+1) (swp d j<|j - 1):=by
 rw [shiftUp]; simp [h,h1]
theorem KU {b j:Nat} (h:¬j < b∨lt d[j]! d[j - 1]! =false):shiftUp lt b j d=d:=by
 rw [shiftUp]; rcases h with h | h <;> simp [h]
theorem WI {i j:Nat} (h:i < j):reverseLoop i j d=reverseLoop (i+1) (j - 1) (swp d i j):=by rw [reverseLoop,if_pos h]
theorem WJ {i j:Nat} (h:¬i < j):reverseLoop i j d=d:=by rw [reverseLoop,if_neg h]
theorem JI {a i j i2 A:Nat} (h1:scanUp (fun x=>lt x d[a]!) d j i=i2) (h2:scanDown (fun x=> !lt x d[a]!) d i2 j=A) (hi:i≤i2) (C:A≤j):
 partLoop lt a i j d=if i2 > A then (A,d) else if (A - 1)+1 - (i2+1) < j+1 - i then partLoop lt a (i2+1) (A - 1) (swp d i2 A) else (A,d):=by
 rw [partLoop]; simp only [h1,h2]; split <;> first | rfl | (split <;> rfl)
theorem JB {a i j i2 A:Nat} (h1:scanUp (fun x=> !lt d[a]! x) d j i=i2) (h2:scanDown (fun x=>lt d[a]! x) d i2 j=A):
 partEqLoop lt a i j d=if i2 > A then (i2,d) else if (A - 1)+1 - (i2+1) < j+1 - i then partEqLoop lt a (i2+1) (A - 1) (swp d i2 A) else (i2,d):=by
 rw [partEqLoop]; simp only [h1,h2]; split <;> first | rfl | (split <;> rfl)
end
def bZ (x y:Nat):Bool:=decide (x < y)
theorem vU:Go.Sort.SWO bZ:=⟨fun x=>by simp [bZ],fun x y z=>by simp only [bZ,decide_eq_true_eq]; omega,fun x y z=>by simp only [bZ,decide_eq_false_iff_not]; omega⟩
def bf (n:Nat):ag:= .int .u16 n
section
variable {P:bH} {N:Fm} {σ:Nat→ag} {w:ak} {dst:Option Nat} {ty:bB} {pos :String} {af:Array fO} {g:Option (Nat×Bool)} {x y:ek}
theorem AI {t G:bB} {k:ew} {a b v:Int} (C:ev N σ x= .int k a) (E:ev N σ y= .int k b) (A:k.wrap (gI k.bits a ^^^ gI k.bits b).toNat=v):
 (execOp (ev N σ) ⟨dst,.binOp .xor t x y G,ty,pos,af,g⟩).run P w= .ok (.value<|.int k v) w:=by
 subst A; simp [execOp,C,E,eqGuard,binOp,Ea]
end
theorem Lf (x:Int):0≤eU.wrap x∧eU.wrap x < 18446744073709551616:=by
 have h:eU.wrap x=x % 18446744073709551616:=by
  simp [IntKind.wrap,IntKind.bits,IntKind.signed]
 rw [h]; omega
theorem NY (r:Int) (m:Nat) (hm:0 < m∧m≤1099511627776):∃ o:Nat,o≤m - 1∧eU.wrap (gI eU.bits r &&& gI eU.bits ((m:Int) - 1)).toNat=(o:Int):=by
 refine ⟨(gI eU.bits r &&& gI eU.bits ((m:Int) - 1)).toNat,?_,?_⟩
 · rw [BitVec.toNat_and];refine e7 Nat.and_le_right ?_;have h1:(m:Int) - 1=((m - 1:Nat):Int):=ab;rw [h1,BitVec.toNat_ofInt];have h2:(eU.bits:Nat)=64:=rfl;rw [h2];omega
 · exact qa (by have :=(gI eU.bits r &&& gI eU.bits ((m:Int) - 1)).isLt; have h2:(eU.bits:Nat)=64:=aa; rw [h2] at this ⊢; omega)
def lQ (n:Nat):Nat:=if n=0 then 0 else Nat.log2 n+1
theorem IJ:∀ n:Fin 256,n.val≠0→n.val < 2 ^ lQ n.val∧2 ^ lQ n.val≤2 *n.val∧lQ n.val≤8:=by decide+kernel
theorem yF {n:Nat} (h:n < 256):lQ n≤8:=by
 rcases Nat.eq_zero_or_pos n with rfl | A
 · decide
 · exact (IJ ⟨n,h⟩<|by simp; omega).2.2
theorem Us {n:Nat} (h:n < 256) (A:0 < n):n < 2 ^ lQ n∧2 ^ lQ n≤2 *n:=by
 have :=IJ ⟨n,h⟩<|by simp; omega
 exact ⟨this.1,this.2.1⟩
end Go.Hb
end
