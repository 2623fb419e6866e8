/-
  Walks and plain laws that the law rests on, laid together. No conditions but those that each theorem names.
-/
import Derived.WalkKit
import Derived.OrdersHeld
import Derived.TacticsIn
import Derived.Lib.Strings
import Derived.Lib.UnsafeStr
import Derived.Laws.MakeOwn
import Derived.Laws.StructEq
import Derived.SliceStrings
import Derived.Carry
import Derived.JoinedCond
import Derived.ProofKit
import Derived.OpenShut
import Derived.Test.YtchkamdekbbgeaaGreatDoorRows
import Derived.Sort.AssemblyPlain
import Derived.RangeFuncFrom
import Derived.RangeFuncLeaves
import Derived.Recover
import Derived.Laws.OwnMore
import Derived.Lib.Bytealg
import Derived.Lib.SliceRun
import Derived.OrdersIn
import Derived.Maps.RangeRun
import Derived.Test.YtchkamdekbbgeaaGreatDoorChecked
import Derived.Shelf.Slices.In.SortAlone
import Derived.Shelf.Slices.In.SortNone
import Derived.Sort.OwnSortedInts
import Derived.Sort.EveryDepth
import Derived.Shelf.SlSortCmp.NoneTotal
import Derived.Sort.OwnSorted
import Derived.Sort.Walk0
set_option linter.unusedVariables false
open Array renaming ext_getElem?→Pa,getD_eq_getD_getElem?→Gb,getElem?_eq_getElem→Bk,getElem?_eq_none→sH,getElem?_eq_some_iff→dO,getElem?_setIfInBounds→Gc,getElem?_toList→yd,length_toList→ye,mem_toList_iff→yf,range→rr,replicate→Bl,setIfInBounds_comm→Gd,toArray_toList→Bn,toList_append→Pd,toList_inj→Bp,toList_map→nR,toList_setIfInBounds→Gf
open BitVec renaming ofInt→gO,toNat_and→Pe,toNat_ofInt→rv,toNat_or→Pf
open Bool renaming and_eq_true→jl,eq_iff_iff→sI,noConfusion→ep,not_eq_true'→Bs,or_eq_true→Gh,or_false→Pg,true_and→yh
open Go.Addr renaming add→Bt
open Go.Builtin renaming append_→Bu,firstCells→Ph,lenOf→Pj,len_→Pk
open Go.Calls renaming mono→mu
open Go.Conv renaming bytesToString→Po,seenAt→Pp,unsafePointer→Pq
open Go.DataW renaming TrodAll→Pr,trod→vH
open Go.Deferred renaming ofValue→sJ
open Go.Fence renaming wide→ry
open Go.Instr renaming alloc→Pu,buildSlice→Gj,checkKey→pQ,fill→nS,findKey→tQ,loadAt→Px,lookup→Py,slice→yj,sliceAt→tS,sliceBound→tT,sliceBounds→qu,storeAt→Gp,sureAddr→sK
open Go.IntKind renaming i64→Bv,u16→qv,u64→e8,u8→rA
open Go.Next renaming value→Gq
open Go.Obj.cells renaming injEq→yl
open Go.Op renaming equal→Gr,equalIn→rB,intArith→ym,intBits→yn,intCmp→vI,stringOp→Gs,unary→Gt
open Go.Oper renaming upon→my,uponIn→Bw,wp→kt
open Go.Region renaming Mode→tU,binds→lJ,free_spec→Gv,noSelect_spec→Gw,ready→kP,wanted→sL
open Go.Result renaming andThen_ok→oQ,ok→Gx
open Go.Sem renaming run_bind→oR,run_ite→Gz,run_pure→rC
open Go.Sort renaming SortedIn→vJ
open Go.Value renaming bool→ca,cells→vM,int→gP,oneCell'→gw,ownBlock→jN,pointer→By,slice→bW
open Go.Value.slice renaming injEq→nT
open Go.Value.string renaming inj→PM
open Go.World renaming freeze→yr,ownsRow_nil→dK,setCell→BA,shape?→GG
open Int renaming toNat_natCast→kQ
open List.Pairwise renaming imp_of_mem→ad8
open List renaming all_cons→vN,all_eq_true→mz,any_eq_true→BB,append_assoc→eS,append_nil→eB,cons_append→GH,drop_append→PT,drop_eq_nil_of_le→iJ,drop_of_length_le→PW,drop_succ_cons→yt,drop_take→tY,drop_zero→yu,eq_nil_of_length_eq_zero→fR,ext_getElem?→qw,filter_eq_self→BE,flatMap_cons→ku,foldl_append→GK,foldl_cons→sQ,getD_cons_zero→l6,getD_eq_getElem?_getD→cX,getElem?_append_left→ng,getElem?_append_right→nV,getElem?_cons_succ→P3,getElem?_drop→sR,getElem?_eq_getElem→cx,getElem?_eq_none→vQ,getElem?_map→gx,getElem?_range→BG,getElem?_set→lK,getElem?_take→qz,getElem_mem→P7,idxOf_cons→yw,idxOf_cons_self→GM,length→j7,length_append→bL,length_cons→cV,length_drop→fS,length_filter_le→sS,length_nil→gB,length_pos_iff→l7,length_singleton→fu,length_take→dP,mapM_toArray→yA,map_append→gW,map_cons→sT,mem_append→jm,mem_append_left→BI,mem_cons→fG,mem_cons_of_mem→nW,mem_iff_getElem→BJ,mem_map→jn,mem_map_of_mem→ub,mem_of_getElem?→gC,mem_range→pW,mem_singleton→iK,nil_append→qA,nodup_cons→BK,nodup_iff_pairwise_ne→Qc,pairwise_cons→rE,range→gX,replicate→kR,size_toArray→qB,takeWhile_sublist→Qi,take_append→yD,take_nil→Ql,take_of_length_le→e9,take_succ_cons→rF,take_zero→mA,zipIdx_cons→BM
open List.cons renaming inj→PS
open Nat renaming add_assoc→Qn,add_sub_cancel→ud,add_sub_cancel_left→Qq,beq→yE,ble→oT,blt→iL,eq_of_beq_eq_true→Qr,le_of_ble_eq_true→sU,le_refl→cU,le_trans→fz,lt_of_lt_of_le→ue,lt_or_ge→fM,lt_succ_self→vT,min_eq_left→qC,mul_le_mul_right→qD,or_lt_two_pow→GQ,pow_lt_pow_right→BO,succ_mul→rG,testBit_or→Qt,testBit_two_pow→Qu,zero_add→iM,zero_mul→GR
open Option renaming bind_some→rH,getD_some→BQ,isSome_iff_exists→nX,map_eq_some_iff→nY,map_some→lL
open Option.some renaming injEq→gD
open Prod renaming fst→iN
open Prod.mk renaming injEq→ug
open UInt8 renaming ofNat→ky,toNat_inj→lM,toNat_lt→jy,toNat_ofNat'→GU
open Go.Proofs.Tryz
open Go.RowKit

namespace Go.Hb
theorem ab {p:Prop} (h:p:=by omega):p:=h
theorem aj {p:Prop} (h:p:=by kernel_rfl):p:=h
theorem aB {p:Prop} (h:p:=by decide):p:=h
theorem aa {α:Sort _} {a:α} :a=a:=rfl
end Go.Hb
section
namespace Go.Hb
structure Fm where
 n:Nat
 D:List Deferred
 F:List Nat
 r:Option Nat
def dT (σ:Nat→Value) (d:Nat) (v:Value):Nat→Value:=fun i=>cond (yE i d) v<|σ i
def gH (σ:Nat→Value):Option Nat→Value→Nat→Value
 | some d,v=>dT σ d v
 | none,_=>σ
def act (N:Fm) (σ:Nat→Value):Act:=⟨((gX N.n).map σ).toArray,N.D⟩
def ev (N:Fm) (σ:Nat→Value):Operand→Value
 | .tmp t=>cond (iL t N.n) (σ t) undef
 | .const v=>v
 | .global g=> .pointer<|some ⟨g,0,none⟩
 | .func f=> .func (.func f) #[] #[]
theorem qM (N:Fm) (σ:Nat→Value) (t:Nat):(act N σ).tmps[t]? =if t < N.n then some (σ t) else none:=by
 simp only [act,List.getElem?_toArray,gx];split
 · rename_i h; rw [BG h]; rfl
 · rename_i h; rw [vQ (by simpa using h)]; rfl
theorem jD (N:Fm) (σ:Nat→Value):(act N σ).eval=ev N σ:=by
 funext x;cases x with
 | tmp t=>
   simp only [Act.eval,ev,Gb,qM];by_cases h:t < N.n
   · rw [if_pos h,show iL t N.n=true from by simpa using h]; rfl
   · rw [if_neg h,show iL t N.n=false from by cases hx:iL t N.n <;> simp_all [iL,Nat.ble_eq] <;> omega]; rfl
 | _=>rfl
theorem yM {a b:Act} (hd:a.defers=b.defers) (A:∀ i:Nat,a.tmps[i]? =b.tmps[i]?):a=b:=by
 cases a; cases b;simp only at hd A;subst hd;congr 1;exact Pa A
theorem ll (N:Fm) (σ:Nat→Value) (dst:Option Nat) (v:Value):(act N σ).put dst v=act N (gH σ dst v):=by
 cases dst with
 | none=>rfl
 | some d=>
   refine yM aa fun i=> ?_;have E:((act N σ).put (some d) v).tmps=(act N σ).tmps.setIfInBounds d v:=rfl;rw [E,Gc,qM,qM];have hs:(act N σ).tmps.size=N.n:=by simp [act]
   simp only [gH,dT];by_cases C:i=d
   · subst C;rw [hs];have A:yE i i=true :=by simp
     by_cases h:i < N.n
     · rw [if_pos rfl,if_pos h,if_pos h,A]; rfl
     · rw [if_pos rfl,if_neg h,if_neg h]
   · rw [if_neg (fun e=>C e.symm)];have A:yE i d=false :=by
      cases hx:yE i d
      · rfl
      · exact absurd (Qr hx) C
     rw [A]; rfl
theorem qo {σ:Nat→Value} {i:Nat} {v:Value} (h:σ i=v):dT σ i v=σ:=by
 funext j;unfold dT;cases hx:yE j i
 · rfl
 · have :=Qr hx; subst this; exact h.symm
def lift (N:Fm) (Q:Exit→(Nat→Value)→World→Prop):Exit→Act→World→Prop
 | .panic c,a,w=> ∃ σ,a=act N σ∧∀ A,(∀ i∈N.F,A i=σ i)→Q (.panic c) A w
 | .outgrown,_,_=>False
 | e,a,w=> ∃ σ,a=act N σ∧Q e σ w
def fe:Option Nat→Fence
 | none=>ry
 | some l=>ry.inRound l
theorem Dk (r:Option Nat):(fe r).round=r:=by cases r <;> rfl
theorem zy (r:Option Nat) (f:FuncId):(fe r).fn f:=by cases r <;> trivial
theorem wW (r:Option Nat):(fe r).depth=none:=by cases r <;> rfl
theorem JX {r:Option Nat} {n:Nat} {P:Program} {f:FuncId} {args:Array Value} {w:World} {R:Ending→World→Prop} (h:Calls P f args w R):CallsIn (fe r) n P f args w R:=by
 cases r
 · exact callsIn_wide.2 h
 · exact (callsIn_wide (n:=n)).2 h
theorem JY {r:Option Nat} {n:Nat} {P:Program} {row:String} {args:Array Value} {w:World} {R:Value→World→Prop} (h:Rows P row args w R):RowsIn (fe r) n P row args w R:=fun c cs _=>by
 obtain ⟨v,w',A,hs⟩:=h c cs;refine ⟨v,w',A,?_⟩;cases r
 · exact stepsIn_wide.2 hs
 · exact stepsIn_wide.2 hs
def MP (ops:List Oper):Bool:=ops.all fun o=>match o.op with | .defer _=>false | _=>true
def vj (r:Option Nat) (ops:List Oper):Bool:=match r with | none=>true | some _=>MP ops
theorem aab {l:List Oper} (h:MP l=true):∀ o∈l,∀ c,o.op≠.defer c:=fun o A c e=>by
 have :=mz.1 h o A;rw [e] at this;cases this
theorem Eb {r:Option Nat} {P:Program} {ops:Array Oper} {Q:Exit→Act→World→Prop} (E:¬LetsOut Q) (G:vj r ops.toList=true):∀ (l:List Nat) (a:Act) (w:World),wpOps P ops Q l a w→wpOpsIn (fe r) 0 P ops Q l a w:=by
 intro l
 induction l with
 | nil=>exact fun _ _ h=>h
 | cons i l C=>
   intro a w h;simp only [wpOps] at h;simp only [wpOpsIn];cases ho:ops[i]? with
   | none=>simp only [ho] at h ⊢; exact C a w h
   | some o=>
     simp only [ho] at h ⊢;by_cases hw:sL o (yielded ops a.tmps)=true
     · rw [if_pos hw] at h ⊢;rcases h with h | h
       · refine ⟨fun f _=>zy r f,?_⟩;rw [Dk];have I:o.semAt r a.eval=execOp a.eval o:=by
          cases r with
          | none=>rfl
          | some k=>exact Oper.semAt_eq _ _ _<|aab G o<|yf.2<|Array.mem_of_getElem? ho
         rw [I];unfold kt at h;generalize (execOp a.eval o).run P w=x at h;cases x with
         | ok n w'=>
           cases n <;> simp only [my,Bw] at h ⊢ <;>
            first
             | exact C _ _ h
             | (refine ⟨fun A=>(by rw [wW] at A; cases A),CallsIn.mono (JX h) fun e w'' he=> ?_⟩
                cases e <;> first | exact C _ _ he | exact he)
             | exact ⟨fun A=>(by rw [wW] at A; cases A),RowsIn.mono (JY h) fun v w'' he=>C _ _ he⟩
         | halt x w'=>cases x <;> simp only [my,Bw] at h ⊢ <;> exact h
       · exact absurd h.2 E
     · rw [if_neg hw] at h ⊢;exact ⟨fun f _=>zy r f,C _ _ h⟩
def eA (P:Program) (N:Fm) (c:Code) (Q:Exit→(Nat→Value)→World→Prop) (σ:Nat→Value) (w:World):Prop :=
 c.wpIn (fe N.r) 0 P (lift N Q) (act N σ) w
def fg (P:Program) (N:Fm) (ops:Array Oper) (Q:Exit→(Nat→Value)→World→Prop) (l:List Oper) (σ:Nat→Value) (w:World):Prop :=
 wpList P ops (lift N Q) l (act N σ) w
def mY (K:(Nat→Value)→World→Prop) (Q:Exit→(Nat→Value)→World→Prop):Exit→(Nat→Value)→World→Prop
 | .normal,σ,w=>K σ w
 | e,σ,w=>Q e σ w
def sd (id:Nat) (Q:Exit→(Nat→Value)→World→Prop):Exit→(Nat→Value)→World→Prop
 | .exit A,σ,w=>if A=id then Q .normal σ w else Q (.exit A) σ w
 | e,σ,w=>Q e σ w
section
variable {P:Program} {N:Fm} {Q:Exit→(Nat→Value)→World→Prop} {σ:Nat→Value} {w:World} {K:(Nat→Value)→World→Prop}
theorem Zn {Q E:Exit→(Nat→Value)→World→Prop} (h:∀ e σ w,Q e σ w→E e σ w) (e:Exit) (a:Act) (w:World):lift N Q e a w→lift N E e a w:=by
 cases e <;> first | exact fun h=>h.elim | exact fun ⟨σ,A,C⟩=>⟨σ,A,h _ _ _ C⟩ | exact fun ⟨σ,A,C⟩=>⟨σ,A,fun I G=>h _ _ _<|C I G⟩
theorem adP {A:Exit→(Nat→Value)→World→Prop} {c:Code} (h:∀ e σ w,Q e σ w→A e σ w) (C:eA P N c Q σ w):eA P N c A σ w:=
 wpIn_mono C (Zn h)
theorem tn (h:K σ w):mY K Q .normal σ w:=h
theorem te (id:Nat) (h:Q (.exit id) σ w):mY K Q (.exit id) σ w:=h
theorem tr (h:Q .ret σ w):mY K Q .ret σ w:=h
theorem bn {id:Nat} (h:Q .normal σ w):sd id Q .normal σ w:=h
theorem be {id:Nat} (h:Q .normal σ w):sd id Q (.exit id) σ w:=by simpa only [sd,if_true] using h
theorem p6 {id A:Nat} (C:A≠id) (h:Q (.exit A) σ w):sd id Q (.exit A) σ w:=by simpa only [sd,if_neg C] using h
theorem br {id:Nat} (h:Q .ret σ w):sd id Q .ret σ w:=h
theorem sq {x y:Code} (h:∀ K:(Nat→Value)→World→Prop,(∀ σ w,eA P N y Q σ w→K σ w)→eA P N x (mY K Q) σ w):eA P N (.seq x y) Q σ w:=by
 refine wpIn_seq<|wpIn_mono (h (fun σ w=>eA P N y Q σ w) fun _ _ h=>h) ?_;intro e a w A;cases e with
 | normal=>obtain ⟨σ,rfl,C⟩:=A; exact C
 | panic c=>exact A
 | outgrown=>exact A
 | _=>obtain ⟨σ,rfl,C⟩:=A; exact ⟨σ,rfl,C⟩
theorem eo {x y:Code} (A:(Nat→Value)→World→Prop) (h:eA P N x (mY A Q) σ w) (hk:∀ σ w,A σ w→eA P N y Q σ w):eA P N (.seq x y) Q σ w:=
 sq fun _ E=>adP (fun e _ _ C=>by cases e <;> first | exact E _ _ (hk _ _ C) | exact C) h
theorem ct {c:Operand} {x y:Code} (A:ev N σ c= .bool true) (h:eA P N x Q σ w):eA P N (.cond c x y) Q σ w:=
 wpIn_cond_true (by rw [jD]; exact A) h
theorem cf {c:Operand} {x y:Code} (A:ev N σ c= .bool false) (h:eA P N y Q σ w):eA P N (.cond c x y) Q σ w:=
 wpIn_cond_false (by rw [jD]; exact A) h
theorem cb {c:Operand} {x y:Code} {b:Bool} (A:ev N σ c= .bool b) (E:b=true→eA P N x Q σ w) (C:b=false→eA P N y Q σ w):eA P N (.cond c x y) Q σ w:=by
 cases b
 · exact cf A<|C aa
 · exact ct A<|E aa
theorem cd {c:Operand} {x y:Code} {p:Prop} [Decidable p] (A:ev N σ c= .bool (decide p)) (E:p→eA P N x Q σ w) (C:¬p→eA P N y Q σ w):eA P N (.cond c x y) Q σ w:=
 cb A (fun h=>E<|of_decide_eq_true h) (fun h=>C<|of_decide_eq_false h)
theorem aT {id:Nat} {c:Code} (h:eA P N c (sd id Q) σ w):eA P N (.block id c) Q σ w:=by
 refine wpIn_block<|wpIn_mono h ?_;intro e a w C;cases e with
 | panic c=>exact C
 | outgrown=>exact C
 | exit E=>
   obtain ⟨σ,rfl,A⟩:=C;simp only [sd,Exit.inBlock] at A ⊢;split
   · rename_i e; rw [if_pos e] at A; exact ⟨σ,rfl,A⟩
   · rename_i e; rw [if_neg e] at A; exact ⟨σ,rfl,A⟩
 | _=>obtain ⟨σ,rfl,A⟩:=C; exact ⟨σ,rfl,A⟩
theorem ext {id:Nat} (h:Q (.exit id) σ w):eA P N (.exit id) Q σ w:=wpIn_exit ⟨σ,rfl,h⟩
theorem aQ (h:Q .normal σ w):eA P N .skip Q σ w:=wpIn_skip ⟨σ,rfl,h⟩
theorem rt (h:Q .ret σ w):eA P N .ret Q σ w:=wpIn_ret ⟨σ,rfl,h⟩
theorem fx {c:Code} {v:Value} (i:Nat) (h:σ i=v) (A:eA P N c Q (dT σ i v) w):eA P N c Q σ w:=by rw [qo h] at A; exact A
def Sl (σ:Nat→Value) (L:List (Nat×Value)):Prop :=L.map (fun p=>σ p.1)=L.map (fun p=>p.2)
def A9 (σ:Nat→Value):List (Nat×Value)→Nat→Value
 | []=>σ
 | p::L=>dT (A9 σ L) p.1 p.2
theorem OL {σ:Nat→Value} :∀ {L:List (Nat×Value)},Sl σ L→A9 σ L=σ
 | [],_=>rfl
 | p::L,h=>by
   have h1:σ p.1=p.2:=(PS h).1;have h2:Sl σ L:=(PS h).2;rw [A9,OL h2,qo h1]
theorem bG {c:Code} {L:List (Nat×Value)} (h:Sl σ L) (A:eA P N c Q (A9 σ L) w):eA P N c Q σ w:=by rw [OL h] at A; exact A
theorem lp {c:Code} (J:Nat→(Nat→Value)→World→Prop) (n:Nat) (ag:J n σ w)
 (h:∀ n σ w,J n σ w→eA P N c (mY (fun ao w'=> ∃ m,m < n∧J m ao w') Q) σ w):eA P N (.loop c) Q σ w:=by
 intro b k cs al V Y;have key:∀ n σ w,J n σ w→
  ∃ e O w',lift N Q e O w'∧ArrivesIn (Machine.fenced P<|fe N.r) P (lone (b.atR (act N σ) (.code c:: .inLoop c::k)) cs w) b k cs e O w':=by
  intro n
  induction n using Nat.strongRecOn with
  | _ n am=>
    intro σ w ah;obtain ⟨e,Z,I,G,C⟩:=h n σ w ah b (.inLoop c::k) cs al V Y;cases e with
    | normal=>
      obtain ⟨A,rfl,m,hm,ai⟩:=G;obtain ⟨ae,ab,an,ak,aj⟩:=am m hm A I ai;exact ⟨ae,ab,an,ak,.of_steps (StepsIn.trans C<|.one (fenced_calm V Y aa) stepR_inLoop) aj⟩
    | exit id=>obtain ⟨A,rfl,E⟩:=G; exact ⟨.exit id,act N A,I,⟨A,rfl,E⟩,.pass (x:= .inLoop c) rfl (fun _ _=> .inl<|by simp) C⟩
    | goto l=>obtain ⟨A,rfl,E⟩:=G; exact ⟨.goto l,act N A,I,⟨A,rfl,E⟩,.pass (x:= .inLoop c) rfl (fun _ _=> .inl<|by simp) C⟩
    | ret=>obtain ⟨A,rfl,E⟩:=G; exact ⟨.ret,act N A,I,⟨A,rfl,E⟩,.pass (x:= .inLoop c) rfl (fun _ _=> .inl<|by simp) C⟩
    | panic ac=>exact ⟨.panic ac,Z,I,G,.pass (x:= .inLoop c) rfl (fun _ _=> .inl<|by simp) C⟩
    | outgrown=>exact G.elim
 obtain ⟨e,O,w',E,C⟩:=key _ σ w ag;exact ⟨e,O,w',E,.of_steps (.one (fenced_calm V Y aa) stepR_loop) C⟩
def dS (P:Program) (N:Fm) (o:Oper) (σ:Nat→Value) (w:World) (K:(Nat→Value)→World→Prop):Prop :=
 kt P o (act N σ) w (fun a w=> ∃ σ,a=act N σ∧K σ w) (fun _ _ _=>False)
theorem adg {o:Oper} {a:Act} {K C:Act→World→Prop} {Q:Exit→Act→World→Prop} (h:∀ a w,K a w→C a w)
 (r:Result Next) (A:o.upon P a K (fun _ _ _=>False) r):o.upon P a C Q r:=by
 cases r with
 | ok n w'=>
   cases n <;> simp only [my] at A ⊢ <;>
    first
     | exact h _ _ A
     | exact mu A (fun e w'' he=>by
      cases e with
      | returned v=>exact h _ _ he
      | panicked c=>exact he.elim
      | outgrown=>obtain ⟨_,_,E⟩:=he; exact E.elim)
     | exact Rows.mono A fun _ _ he=>h _ _ he
 | halt x w'=>cases x <;> simp only [my] at A ⊢
theorem sF {K:(Nat→Value)→World→Prop} {A:Act→World→Prop} {Q:Exit→Act→World→Prop} {o:Oper} (h:dS P N o σ w K) (hk:∀ σ w,K σ w→A (act N σ) w):o.wp P (act N σ) w A Q:=by
 unfold dS at h;unfold kt at*;exact adg (fun a w ⟨σ,E,C⟩=>by subst E; exact hk _ _ C) _ h
theorem O1 {K A:(Nat→Value)→World→Prop} {o:Oper} (h:dS P N o σ w K) (hk:∀ σ w,K σ w→A σ w):dS P N o σ w A:=
 sF h (fun σ w C=>⟨σ,rfl,hk σ w C⟩)
variable {ops:Array Oper} {rest:List Oper} {d:Nat} {op:Op} {ty:TypeId} {pos :String} {af:Array Edge} {d':Option Nat} {v:Value} {o:Oper}
theorem Bc (A:sL o (yielded ops (act N σ).tmps)=true) (h:dS P N o σ w (fun σ w=>fg P N ops Q rest σ w)):fg P N ops Q (o::rest) σ w:=by
 unfold fg wpList;rw [if_pos A];exact .inl<|sF h fun _ _ hk=>hk
theorem nf {K:(Nat→Value)→World→Prop} {w':World} (A:(execOp (ev N σ) o).run P w= .ok (.value v) w') (hk:K (gH σ o.dst v) w'):dS P N o σ w K:=by
 unfold dS kt;rw [jD,A];exact ⟨_,ll ..,hk⟩
theorem kh (o:Oper) (A:o.guard=none) (y:Nat→Option Bool):sL o y=true :=by simp [sL,A]
def lA (ops:Array Oper) (j:Nat):Option Nat:=(ops[j]?).bind (·.dst)
theorem vA {j t:Nat} {want b:Bool} (C:o.guard=some (j,want)) (A:lA ops j=some t) (E:iL t N.n=true) (G:σ t= .bool b):
 sL o (yielded ops (act N σ).tmps)=(b==want):=by
 have h1:yielded ops (act N σ).tmps j=some b:=by
  unfold yielded;unfold lA at A;rw [A];simp only [rH,qM];rw [if_pos (ue (vT t)<|sU E),G]
 simp only [sL,C,h1];cases b <;> cases want <;> rfl
theorem OU {j t:Nat} {want:Bool} (C:o.guard=some (j,want)) (A:lA ops j=some t) (E:iL t N.n=true) (G:σ t=undef):
 sL o (yielded ops (act N σ).tmps)=false :=by
 have h1:yielded ops (act N σ).tmps j=none:=by
  unfold yielded;unfold lA at A;rw [A];simp only [rH,qM];rw [if_pos (ue (vT t)<|sU E),G]; rfl
 simp only [sL,C,h1];rfl
theorem p (h:(execOp (ev N σ) ⟨some d,op,ty,pos,af,none⟩).run P w= .ok (.value v) w) (k:fg P N ops Q rest (dT σ d v) w):
 fg P N ops Q (⟨some d,op,ty,pos,af,none⟩::rest) σ w:=
 Bc (kh _ rfl _) (nf h k)
theorem pg {j t:Nat} {want:Bool} (A:lA ops j=some t) (C:iL t N.n=true) (E:σ t= .bool want)
 (h:(execOp (ev N σ) ⟨some d,op,ty,pos,af,some (j,want)⟩).run P w= .ok (.value v) w) (k:fg P N ops Q rest (dT σ d v) w):
 fg P N ops Q (⟨some d,op,ty,pos,af,some (j,want)⟩::rest) σ w:=
 Bc (by rw [vA rfl A C E]; cases want <;> rfl) (nf h k)
theorem sk {j t:Nat} {want b:Bool} (C:lA ops j=some t) (E:iL t N.n=true) (G:σ t= .bool b) (A:(b==want)=false)
 (k:fg P N ops Q rest (dT σ d undef) w):fg P N ops Q (⟨some d,op,ty,pos,af,some (j,want)⟩::rest) σ w:=by
 unfold fg wpList;rw [if_neg (by rw [vA rfl C E G,A]; simp),ll];exact k
theorem AI {j t:Nat} {want:Bool} (A:lA ops j=some t) (C:iL t N.n=true) (E:σ t=undef)
 (k:fg P N ops Q rest (dT σ d undef) w):fg P N ops Q (⟨some d,op,ty,pos,af,some (j,want)⟩::rest) σ w:=by
 unfold fg wpList;rw [if_neg (by rw [OU rfl A C E]; simp),ll];exact k
theorem e (h:dS P N ⟨d',op,ty,pos,af,none⟩ σ w (fun σ w=>fg P N ops Q rest σ w)):fg P N ops Q (⟨d',op,ty,pos,af,none⟩::rest) σ w:=
 Bc (kh _ rfl _) h
theorem eg {j t:Nat} {want:Bool} (A:lA ops j=some t) (C:iL t N.n=true) (E:σ t= .bool want)
 (h:dS P N ⟨d',op,ty,pos,af,some (j,want)⟩ σ w (fun σ w=>fg P N ops Q rest σ w)):fg P N ops Q (⟨d',op,ty,pos,af,some (j,want)⟩::rest) σ w:=
 Bc (by rw [vA rfl A C E]; cases want <;> rfl) h
theorem nl (h:Q .normal σ w):fg P N ops Q [] σ w:=⟨σ,rfl,h⟩
theorem El:¬LetsOut (lift N Q):=fun ⟨_,_,h⟩=>h
theorem rg {id:Nat} {l:List Oper} (A:vj N.r l=true) (h:fg P N l.toArray Q l σ w):eA P N (.region id l.toArray false) Q σ w:=by
 refine wpIn_region<|Eb El A _ _ _ ?_;have h1:=wpOps_eq_wpList (P:=P) (ops:=l.toArray) (Q:=lift N Q) l 0 fun j=>by simp
 rw [List.range_eq_range',qB,h1];exact h
theorem gs {l:List Oper} {t:Nat} {q:Prop} [Decidable q] (h:σ t= .bool (decide q)) (E:q→fg P N ops Q l (dT σ t<|.bool true) w) (C:¬q→fg P N ops Q l (dT σ t<|.bool false) w):fg P N ops Q l σ w:=by
 by_cases A:q
 · have :=E A; rwa [qo (by rw [h,decide_eq_true A])] at this
 · have :=C A; rwa [qo (by rw [h,decide_eq_false A])] at this
theorem gb {l:List Oper} {t:Nat} {b:Bool} (h:σ t= .bool b) (C:b=true→fg P N ops Q l (dT σ t<|.bool true) w) (A:b=false→fg P N ops Q l (dT σ t<|.bool false) w):fg P N ops Q l σ w:=by
 cases b
 · have :=A rfl; rwa [qo h] at this
 · have :=C rfl; rwa [qo h] at this
def fF (P:Program) (N:Fm) (ops:Array Oper) (Q:Exit→(Nat→Value)→World→Prop) (S:World→Prop) (fuel:Nat) (bw:Array Bool) (σ:Nat→Value) (w:World):Prop :=
 wpAnyH P .any ops (lift N Q) S fuel bw (act N σ) w
variable {S:World→Prop} {fuel:Nat} {bw:Array Bool}
theorem Hq {id:Nat} {l:List Oper} (A:vj N.r l=true) (hm:P.follows .mixedOrders=true) (h:wpAny P .any l.toArray (lift N Q) l.toArray.size (Bl l.toArray.size false) (act N σ) w.drew):eA P N (.region id l.toArray true) Q σ w:=by
 refine wpIn_region_draw fun t=>Eb El A _ _ _ ?_;simp only [Region.schedule,hm,Bool.true_or,if_true];exact wpAny_sound _ t _ _ _ h
theorem bY {id:Nat} {l:List Oper} (S:World→Prop) (A:vj N.r l=true) (hm:P.follows .mixedOrders=true) (C:S w.drew) (h:fF P N l.toArray Q S l.length (Bl l.length false) σ w.drew):eA P N (.region id l.toArray true) Q σ w:=
 Hq A hm (wpAny_of_held _ _ _ _<|by rw [qB]; exact h)
def EO (F:List Nat) (d:Option Nat):Bool:=match d with | some d=> !(F.contains d) | none=>true
def kI (F:List Nat) (ops:Array Oper) (bw:Array Bool) (i:Nat):Bool:=
 Region.noSelect ops && Region.free .any ops bw i && (kP .any ops bw).contains i && EO F ((ops[i]?).bind (·.dst))
theorem tv {d:Option Nat} {v:Value} (hd:EO N.F d=true) (c:List PanicEntry) (a:Act) (w:World):lift N Q (.panic c) (a.put d v) w→lift N Q (.panic c) a w:=by
 rintro ⟨σ,A,h⟩;cases d with
 | none=>exact ⟨σ,A,h⟩
 | some d=>
   have O:a.tmps.size=N.n:=by
    have :=congrArg (fun x:Act=>x.tmps.size) A;simpa [Act.put,act] using this
   have E:a.defers=N.D:=congrArg (fun x:Act=>x.defers) A;have G:∀ i:Nat,i≠d→a.tmps[i]? =if i < N.n then some (σ i) else none:=fun i hi=>by
    have h1:(a.put (some d) v).tmps[i]? =a.tmps[i]? :=by
     show (a.tmps.setIfInBounds d v)[i]? =_;rw [Gc,if_neg (fun e=>hi e.symm)]
    rw [← h1,A,qM]
   refine ⟨fun i=>if i < N.n then a.tmps.getD i undef else σ i,yM E fun i=> ?_,fun J C=>h J fun i hi=> ?_⟩
   · rw [qM];by_cases h1:i < N.n
     · rw [if_pos h1,if_pos h1,Gb,Bk ab]; rfl
     · rw [if_neg h1,sH ab]
   · have I:i≠d:=by
      rintro rfl;simp only [EO,Bs,List.contains_eq_mem,decide_eq_false_iff_not] at hd;exact hd hi
     rw [C i hi];by_cases h1:i < N.n
     · simp only [if_pos h1];rw [Gb,G i I,if_pos h1]; rfl
     · simp only [if_neg h1]
theorem hp (i:Nat) (hi:ops[i]? =some ⟨some d,op,ty,pos,af,none⟩) (A:kI N.F ops bw i=true)
 (E:∀ w,S w→(execOp (ev N σ) ⟨some d,op,ty,pos,af,none⟩).run P w= .ok (.value v) w) (C:S w)
 (k:fF P N ops Q S fuel (bw.setIfInBounds i true) (dT σ d v) w):fF P N ops Q S (fuel+1) bw σ w:=by
 simp only [kI,jl] at A;refine wpAnyH_take hi A.1.1.1 A.1.1.2 A.1.2 (fun c a w=>tv (by have :=A.2; rwa [hi] at this) c a w) (.inl ⟨kh _ rfl _,fun w C=> ?_⟩) C ?_ (v:=v)
 · rw [jD]; exact E w C
 · rw [ll]; exact k
theorem qf (i:Nat) {j t:Nat} {want:Bool} (hi:ops[i]? =some ⟨some d,op,ty,pos,af,some (j,want)⟩) (A:kI N.F ops bw i=true)
 (E:lA ops j=some t) (G:iL t N.n=true) (I:σ t= .bool want)
 (J:∀ w,S w→(execOp (ev N σ) ⟨some d,op,ty,pos,af,some (j,want)⟩).run P w= .ok (.value v) w) (C:S w)
 (k:fF P N ops Q S fuel (bw.setIfInBounds i true) (dT σ d v) w):fF P N ops Q S (fuel+1) bw σ w:=by
 simp only [kI,jl] at A;refine wpAnyH_take hi A.1.1.1 A.1.1.2 A.1.2 (fun c a w=>tv (by have :=A.2; rwa [hi] at this) c a w) (.inl ⟨by rw [vA aa E G I]; cases want <;> rfl,fun w C=> ?_⟩) C ?_ (v:=v)
 · rw [jD]; exact J w C
 · rw [ll]; exact k
theorem qg (i:Nat) {j t:Nat} {want b:Bool} (hi:ops[i]? =some ⟨some d,op,ty,pos,af,some (j,want)⟩) (A:kI N.F ops bw i=true)
 (G:lA ops j=some t) (I:iL t N.n=true) (J:σ t= .bool b) (E:(b==want)=false) (C:S w)
 (k:fF P N ops Q S fuel (bw.setIfInBounds i true) (dT σ d undef) w):fF P N ops Q S (fuel+1) bw σ w:=by
 simp only [kI,jl] at A;refine wpAnyH_take hi A.1.1.1 A.1.1.2 A.1.2 (fun c a w=>tv (by have :=A.2; rwa [hi] at this) c a w) (.inr ⟨by rw [vA aa G I J,E],aa⟩) C ?_ (v:=undef);rw [ll]; exact k
theorem mO (i:Nat) {j t:Nat} {want:Bool} (hi:ops[i]? =some ⟨some d,op,ty,pos,af,some (j,want)⟩) (A:kI N.F ops bw i=true)
 (E:lA ops j=some t) (G:iL t N.n=true) (I:σ t=undef) (C:S w)
 (k:fF P N ops Q S fuel (bw.setIfInBounds i true) (dT σ d undef) w):fF P N ops Q S (fuel+1) bw σ w:=by
 simp only [kI,jl] at A;refine wpAnyH_take hi A.1.1.1 A.1.1.2 A.1.2 (fun c a w=>tv (by have :=A.2; rwa [hi] at this) c a w) (.inr ⟨OU aa E G I,aa⟩) C ?_ (v:=undef);rw [ll]; exact k
def oH (ops:Array Oper) (bw:Array Bool) (i:Nat):Bool:=(kP .any ops bw)== [i]
theorem he (i:Nat) (hi:ops[i]? =some ⟨d',op,ty,pos,af,none⟩) (A:oH ops bw i=true)
 (h:dS P N ⟨d',op,ty,pos,af,none⟩ σ w (fun σ w=>S w∧fF P N ops Q S fuel (bw.setIfInBounds i true) σ w)):fF P N ops Q S (fuel+1) bw σ w:=by
 refine wpAnyH_all (rs:= [i]) (by simpa [oH] using A) (by simp) ?_;intro k hk;obtain rfl :k=i:=by simpa using hk
 unfold wpOp;simp only [hi];rw [if_pos (kh _ rfl _)];exact .inl<|sF h fun _ _ hk=>hk
theorem nB (i:Nat) {j t:Nat} {want:Bool} (hi:ops[i]? =some ⟨d',op,ty,pos,af,some (j,want)⟩) (C:oH ops bw i=true)
 (A:lA ops j=some t) (E:iL t N.n=true) (G:σ t= .bool want)
 (h:dS P N ⟨d',op,ty,pos,af,some (j,want)⟩ σ w (fun σ w=>S w∧fF P N ops Q S fuel (bw.setIfInBounds i true) σ w)):fF P N ops Q S (fuel+1) bw σ w:=by
 refine wpAnyH_all (rs:= [i]) (by simpa [oH] using C) (by simp) ?_;intro k hk;obtain rfl :k=i:=by simpa using hk
 unfold wpOp;simp only [hi];rw [if_pos (by rw [vA rfl A E G]; cases want <;> rfl)];exact .inl<|sF h fun _ _ hk=>hk
theorem xw (i j:Nat) {d1:Option Nat} {C:Op} {G:TypeId} {E:String} {A:Array Edge} (hi:ops[i]? =some ⟨d',op,ty,pos,af,none⟩) (I:ops[j]? =some ⟨d1,C,G,E,A,none⟩) (J:((kP .any ops bw)== [i,j])=true)
 (h:dS P N ⟨d',op,ty,pos,af,none⟩ σ w (fun σ w=>S w∧fF P N ops Q S fuel (bw.setIfInBounds i true) σ w))
 (h1:dS P N ⟨d1,C,G,E,A,none⟩ σ w (fun σ w=>S w∧fF P N ops Q S fuel (bw.setIfInBounds j true) σ w)):fF P N ops Q S (fuel+1) bw σ w:=by
 refine wpAnyH_all (rs:= [i,j]) (by simpa using J) (by simp) ?_;intro k hk;simp only [fG,List.not_mem_nil,or_false] at hk;rcases hk with rfl | rfl
 · unfold wpOp;simp only [hi];rw [if_pos (kh _ rfl _)];exact .inl<|sF h fun _ _ hk=>hk
 · unfold wpOp;simp only [I];rw [if_pos (kh _ rfl _)];exact .inl<|sF h1 fun _ _ hk=>hk
theorem hn (A:(kP .any ops bw).isEmpty=true) (h:Q .normal σ w):fF P N ops Q S fuel bw σ w:=
 wpAnyH_done (by simpa using A) ⟨σ,rfl,h⟩ fuel
theorem js {t:Nat} {q:Prop} [Decidable q] (h:σ t= .bool (decide q)) (E:q→fF P N ops Q S fuel bw (dT σ t<|.bool true) w) (C:¬q→fF P N ops Q S fuel bw (dT σ t<|.bool false) w):fF P N ops Q S fuel bw σ w:=by
 by_cases A:q
 · have :=E A; rwa [qo (by rw [h,decide_eq_true A])] at this
 · have :=C A; rwa [qo (by rw [h,decide_eq_false A])] at this
theorem Aa {t:Nat} {b:Bool} (h:σ t= .bool b) (C:b=true→fF P N ops Q S fuel bw (dT σ t<|.bool true) w) (A:b=false→fF P N ops Q S fuel bw (dT σ t<|.bool false) w):fF P N ops Q S fuel bw σ w:=by
 cases b
 · have :=A rfl; rwa [qo h] at this
 · have :=C rfl; rwa [qo h] at this
end
def bm (P:Program) (f:FuncId) (args:Array Value) (w:World) (R:Value→World→Prop):Prop :=
 Calls P f args w fun e w'=> ∃ v,e= .returned v∧R v w'
theorem bm.mono {P:Program} {f:FuncId} {args:Array Value} {w:World} {R R':Value→World→Prop} (h:bm P f args w R) (C:∀ v w',R v w'→R' v w'):bm P f args w R':=
 mu h fun _ _ ⟨v,he,A⟩=>⟨v,he,C _ _ A⟩
def nN (args:List Value):Nat→Value:=fun i=>args.getD i undef
def fin (P:Program) (fn:Func) (N:Fm) (R:Value→World→Prop):Exit→(Nat→Value)→World→Prop
 | .normal,σ,w=> ∃ v,(results fn (act N σ).tmps).run P w= .ok v w∧R v w
 | .ret,σ,w=> ∃ v,(results fn (act N σ).tmps).run P w= .ok v w∧R v w
 | _,_,_=>False
theorem enter {P:Program} {f:FuncId} {N:Nat} {fn:Func} {c:Code} {args:List Value} {w:World} {R:Value→World→Prop} (V:P.funcs[f]? =some fn) (O:fn.body=some c)
 (I:fn.ntmps=N) (hn:oT args.length N=true) (h:eA P ⟨N,[],[],none⟩ c (fin P fn ⟨N,[],[],none⟩ R) (nN args) w):bm P f args.toArray w R:=by
 subst I;refine calls_of_wp V O ?_;have J:({tmps:=args.toArray++Bl (fn.ntmps - args.toArray.size) undef,defers:= []} :Act)=act ⟨fn.ntmps,[],[],none⟩ (nN args):=by
  have Y:args.length≤fn.ntmps:=by simpa using hn
  refine yM aa fun i=> ?_;rw [qM];simp only [nN,cX,qB];by_cases h1:i < args.length
  · rw [Array.getElem?_append_left (by simpa using h1),if_pos ab];simp [h1]
  · rw [Array.getElem?_append_right (by simpa using h1)];simp only [qB,Array.getElem?_replicate];by_cases h2:i < fn.ntmps
    · rw [if_pos ab,if_pos h2,vQ ab]; rfl
    · rw [if_neg ab,if_neg h2]
 rw [J];refine Code.wp_mono ?_<|wpIn_wide.1 h;intro e a w A;cases e with
 | normal=>obtain ⟨σ,rfl,v,G,E⟩:=A; exact ⟨rfl,v,G,v,rfl,E⟩
 | ret=>obtain ⟨σ,rfl,v,G,E⟩:=A; exact ⟨rfl,v,G,v,rfl,E⟩
 | exit id=>obtain ⟨σ,rfl,C⟩:=A; exact C.elim
 | goto l=>obtain ⟨σ,rfl,C⟩:=A; exact C.elim
 | panic c=>obtain ⟨σ,rfl,C⟩:=A; exact (C σ fun _ _=>rfl).elim
 | outgrown=>exact A.elim
section
variable {P:Program} {N:Fm} {σ:Nat→Value} {w:World} {fn:Func} {R:Value→World→Prop}
theorem pP (t:Nat):(act N σ).tmps.getD t undef=ev N σ (.tmp t):=by
 rw [← jD]; rfl
theorem f0 (h:fn.results= #[]) (A:R (.tuple #[]) w):fin P fn N R .normal σ w:=⟨_,results_none h _ _ _,A⟩
theorem rX (h:fn.results= #[]) (A:R (.tuple #[]) w):fin P fn N R .ret σ w:=⟨_,results_none h _ _ _,A⟩
theorem f1 {t:Nat} {v:Value} (h:fn.results= #[.tmp t]) (C:ev N σ (.tmp t)=v) (A:R v w):fin P fn N R .ret σ w:=
 ⟨v,by rw [results_tmp h,pP,C],A⟩
theorem f2 {t u:Nat} {v A:Value} (h:fn.results= #[.tmp t,.tmp u]) (E:ev N σ (.tmp t)=v) (hu:ev N σ (.tmp u)=A) (C:R (.tuple #[v,A]) w):fin P fn N R .ret σ w:=
 ⟨_,by rw [results_tmp2 h,pP,pP,E,hu],C⟩
theorem f3 {t u s:Nat} {v A C:Value} (h:fn.results= #[.tmp t,.tmp u,.tmp s]) (G:ev N σ (.tmp t)=v) (hu:ev N σ (.tmp u)=A) (hs:ev N σ (.tmp s)=C) (E:R (.tuple #[v,A,C]) w):fin P fn N R .ret σ w:=by
 refine ⟨_,?_,E⟩;simp only [results,h];subst G hu hs;simp only [← pP];simp [yA]
theorem f4 {t u s r:Nat} {v A C v3:Value} (h:fn.results= #[.tmp t,.tmp u,.tmp s,.tmp r]) (I:ev N σ (.tmp t)=v) (hu:ev N σ (.tmp u)=A) (hs:ev N σ (.tmp s)=C) (G:ev N σ (.tmp r)=v3) (E:R (.tuple #[v,A,C,v3]) w):fin P fn N R .ret σ w:=by
 refine ⟨_,?_,E⟩;simp only [results,h];subst I hu hs G;simp only [← pP];simp [yA]
end
attribute [irreducible] fg eA fF dS
end Go.Hb
namespace Go.Hb
def aW (h:Array Obj) (b off :Nat):Option Value:=
 match h[b]? with
 | some (.cells c _ _)=>c[off]?
 | _=>none
theorem o7 (w:World) (b off :Nat):w.cell? ⟨b,off,none⟩=aW w.heap b off :=by
 unfold World.cell? aW;simp only;split <;> simp_all
theorem bg {h:Array Obj} {b off :Nat} {c:Array Value} {t:TypeId} {f:Nat×Nat} (A:h[b]? =some (.cells c t f)):aW h b off =c[off]? :=by
 simp only [aW,A]
theorem TO {h:Array Obj} {b off :Nat} {v:Value} (A:aW h b off =some v):b < h.size:=by
 unfold aW at A;rcases fM b h.size with E | C
 · exact E
 · simp [sH C] at A
structure Md (F:Nat→Prop) (w w':World):Prop where
 os:w'.os=w.os
 output:w'.output=w.output
 size:w.heap.size≤w'.heap.size
 dE:∀ k,k < w.heap.size→¬F k→w'.heap[k]? =w.heap[k]?
abbrev Wk (w w':World):Prop :=Md (fun _=>False) w w'
theorem Md.refl (F:Nat→Prop) (w:World):Md F w w:=⟨rfl,rfl,cU _,fun _ _ _=>rfl⟩
theorem Md.drew {F:Nat→Prop} {w w':World} (h:Md F w w'):Md F w w'.drew:=⟨h.os,h.output,h.size,h.dE⟩
theorem Md.mono {F G:Nat→Prop} {w w':World} (h:Md F w w') (C:∀ k,k < w.heap.size→F k→G k):Md G w w':=
 ⟨h.os,h.output,h.size,fun k hk E=>h.dE k hk fun A=>E<|C k hk A⟩
theorem Md.trans {F:Nat→Prop} {a b c:World} (h:Md F a b) (A:Md F b c):Md F a c:=
 ⟨A.os.trans h.os,A.output.trans h.output,fz h.size A.size,fun k hk C=>(A.dE k (ue hk h.size) C).trans<|h.dE k hk C⟩
theorem Md.trans' {F G:Nat→Prop} {a b c:World} (h:Md F a b) (A:Md G b c) (E:∀ k,k < a.heap.size→G k→F k):Md F a c:=
 ⟨A.os.trans h.os,A.output.trans h.output,fz h.size A.size,
  fun k hk C=>(A.dE k (ue hk h.size) fun x=>C<|E k hk x).trans (h.dE k hk C)⟩
theorem Md.aT {F:Nat→Prop} {w w':World} (h:Md F w w') {k:Nat} {o:Obj} (hk:w.heap[k]? =some o) (A:¬F k):w'.heap[k]? =some o:=
 (h.dE k (dO.1 hk).1 A).trans hk
theorem Md.aW {F:Nat→Prop} {w w':World} (h:Md F w w') {b off :Nat} {v:Value} (A:Hb.aW w.heap b off =some v) (C:¬F b):Hb.aW w'.heap b off =some v:=by
 have :=h.dE b (TO A) C;unfold Hb.aW at*;rw [this]; exact A
theorem Wk.aW {w w':World} (h:Wk w w') {b off :Nat} {v:Value} (A:Hb.aW w.heap b off =some v):Hb.aW w'.heap b off =some v:=Md.aW h A id
theorem Wk.aT {w w':World} (h:Wk w w') {k:Nat} {o:Obj} (hk:w.heap[k]? =some o):w'.heap[k]? =some o:=Md.aT h hk id
structure Nw (w w':World):Prop where
 md:Wk w w'
 size:w'.heap.size=w.heap.size+1
 one:∃ o,w'= {w with heap:=w.heap.push o}
theorem MV (w:World) (o:Obj):Nw w {w with heap:=w.heap.push o} :=
 ⟨⟨rfl,rfl,by simp,fun k hk _=>by show (w.heap.push o)[k]? =_; rw [Array.getElem?_push,if_neg ab]⟩,by simp,o,rfl⟩
def dG (P:Program) (t:TypeId):Option (Option Nat):=
 match P.underlying t with
 | some (.struct _) | some (.array _ _)=>((P.info? t).map (·.size)).map some
 | some _=>some none
 | none=>none
def cj (P:Program) (s f:Nat):Option Nat:=
 match P.underlying s with
 | some (.struct fs)=>match fs[f]? with
   | some fd=>match P.info? fd.type with
     | some i=>if i.size=0 then none else some fd.offset
     | none=>none
   | none=>none
 | _=>none
def gL (P:Program) (t:TypeId):Option Nat:=
 match P.underlying t with
 | some (.slice e)=>(P.info? e).map (·.size)
 | _=>none
section
variable {P:Program} {N:Fm} {σ:Nat→Value} {w:World} {dst:Option Nat} {ty:TypeId} {pos :String} {af:Array Edge} {g:Option (Nat×Bool)} {x y z:Operand}
theorem ee {t:TypeId} {d:TypeDesc} (h:P.underlying t=some d) (w:World):(underlying t).run P w= .ok d w:=by
 simp [underlying,h]
theorem jx {t:TypeId} {i:TypeInfo} (h:P.info? t=some i) (w:World):(typeInfo t).run P w= .ok i w:=by
 simp [typeInfo,h]
theorem mv:(execOp (ev N σ) ⟨dst,.move x,ty,pos,af,g⟩).run P w= .ok (.value<|ev N σ x) w:=rfl
theorem aE:(execOp (ev N σ) ⟨dst,.assign x,ty,pos,af,g⟩).run P w= .ok (.value<|ev N σ x) w:=rfl
theorem aX (v:Value) (h:ev N σ x=v):(execOp (ev N σ) ⟨dst,.move x,ty,pos,af,g⟩).run P w= .ok (.value v) w:=by rw [← h]; rfl
theorem cE (v:Value) (h:ev N σ x=v):(execOp (ev N σ) ⟨dst,.assign x,ty,pos,af,g⟩).run P w= .ok (.value v) w:=by rw [← h]; rfl
theorem bH {c:Operand} (A:ev N σ c= .bool true):(execOp (ev N σ) ⟨dst,.pick c x y,ty,pos,af,g⟩).run P w= .ok (.value<|ev N σ x) w:=by
 simp [execOp,A,asBool]
theorem bA {c:Operand} (A:ev N σ c= .bool false):(execOp (ev N σ) ⟨dst,.pick c x y,ty,pos,af,g⟩).run P w= .ok (.value<|ev N σ y) w:=by
 simp [execOp,A,asBool]
theorem nc {a:Addr} (A:ev N σ x= .pointer (some a)):(execOp (ev N σ) ⟨dst,.nilCheck x,ty,pos,af,g⟩).run P w= .ok (.value<|.pointer<|some a) w:=by
 simp [execOp,A]
theorem xt {i:Nat} {vs:Array Value} {v:Value} (C:ev N σ x= .tuple vs) (A:vs[i]? =some v):(execOp (ev N σ) ⟨dst,.extract x i,ty,pos,af,g⟩).run P w= .ok (.value v) w:=by
 simp [execOp,C,Instr.extract,A]
theorem fa {s f n b off :Nat} (A:cj P s f=some n) (G:ev N σ x= .pointer (some ⟨b,off,none⟩)):
 (execOp (ev N σ) ⟨dst,.fieldAddr s x f,ty,pos,af,g⟩).run P w= .ok (.value<|.pointer<|some ⟨b,off+n,none⟩) w:=by
 unfold cj at A;split at A
 · rename_i fs hu;split at A
   · rename_i fd E;split at A
     · rename_i i hi;split at A
       · cases A
       · rename_i I;cases A;have C:(⟨b,off,none⟩:Addr).add fd.offset=⟨b,off+fd.offset,none⟩:=by unfold Bt; split <;> simp_all
         simp [execOp,Instr.fieldAt,ee hu,E,G,sK,fieldPlace,sizeOf,jx hi,I,C]
     · cases A
   · cases A
 · cases A
theorem ld {t b off :Nat} {v:Value} (hu:dG P t=some none) (E:ev N σ x= .pointer (some ⟨b,off,none⟩)) (A:aW w.heap b off =some v):
 (execOp (ev N σ) ⟨dst,.load t x,ty,pos,af,g⟩).run P w= .ok (.value v) w:=by
 have C:w.cell? ⟨b,off,none⟩=some v:=by rw [o7]; exact A
 unfold dG at hu;cases hd:P.underlying t with
 | none=>rw [hd] at hu; cases hu
 | some d=>
   rw [hd] at hu;cases d <;> first
    | (simp only [nY] at hu; obtain ⟨_,_,h⟩:=hu; cases h; done)
    | simp [execOp,Px,E,sK,loadVar,isAgg,ee hd,run_load,C]
theorem nm (b off j:Nat):(⟨b,off,none⟩:Addr).add j=⟨b,off+j,none⟩:=by
 unfold Bt; split <;> simp_all
theorem cW {t n b off :Nat} {cs:List Value} (hu:dG P t=some (some n)) (I:ev N σ x= .pointer (some ⟨b,off,none⟩)) (G:cs.length=n)
 (C:∀ j,j < n→aW w.heap b (off+j)=cs[j]?):
 (execOp (ev N σ) ⟨dst,.load t x,ty,pos,af,g⟩).run P w= .ok (.value<|.agg cs.toArray) w:=by
 have E:(loadCells ⟨b,off,none⟩ n).run P w= .ok cs.toArray w:=by
  subst G;refine run_loadCells_list (P:=P) w ⟨b,off,none⟩ cs fun j v A=> ?_;rw [nm,o7];exact (C j (List.getElem?_eq_some_iff.1 A).1).trans A
 unfold dG at hu;cases hd:P.underlying t with
 | none=>rw [hd] at hu; cases hu
 | some d=>
   rw [hd] at hu;cases hi:P.info? t with
   | none=>simp [Program.underlying,hi] at hd
   | some i=>
     rw [hi] at hu;cases d <;> first
      | (cases hu; done)
      | (simp only [lL,gD] at hu; subst hu
         simp [execOp,Px,I,sK,loadVar,isAgg,ee hd,sizeOf,jx hi,E])
theorem ia {t n b off len cap:Nat} {k:IntKind} {i:Int} (he:gL P t=some n) (C:ev N σ x= .slice (some ⟨b,off,none⟩) len cap) (E:ev N σ y= .int k i) (A:0≤i∧i < len):
 (execOp (ev N σ) ⟨dst,.indexAddr t x y,ty,pos,af,g⟩).run P w= .ok (.value<|.pointer<|some ⟨b,off+i.toNat*n,none⟩) w:=by
 unfold gL at he;cases hd:P.underlying t with
 | none=>rw [hd] at he; cases he
 | some d=>
   rw [hd] at he;cases d <;> first | (cases he; done) | skip
   rename_i e;cases hi:P.info? e with
   | none=>simp [hi] at he
   | some j=>
     simp only [hi,lL,gD] at he;subst he;simp [execOp,Instr.indexAt,C,E,asIntOf,ee hd,A.1,A.2,sizeOf,jx hi,nm]
def gN (a:Option Addr) (cap l n:Nat):Option Addr:=if cap=l then a else a.map (·.add (l*n))
theorem Fw {t n len cap:Nat} {a:Option Addr} {lo hi:Option Value} {l h:Nat} (he:gL P t=some n) (G:ev N σ x= .slice a len cap)
 (E:(qu true len cap lo hi none).run P w= .ok (l,h,cap) w) (A C:Option Operand) (I:A.map (ev N σ)=lo) (J:C.map (ev N σ)=hi):
 (execOp (ev N σ) ⟨dst,.slice t x A C none,ty,pos,af,g⟩).run P w= .ok (.value<|.slice (gN a cap l n) (h - l)<|cap - l) w:=by
 unfold gL at he;cases hd:P.underlying t with
 | none=>rw [hd] at he; cases he
 | some d=>
   rw [hd] at he;cases d <;> first | (cases he; done) | skip
   rename_i e;cases hi':P.info? e with
   | none=>simp [hi'] at he
   | some j=>
     simp only [hi',lL,gD] at he;subst he;simp [execOp,tS,yj,G,I,J,ee hd,E,sizeOf,jx hi',gN]
theorem tF {t n len cap:Nat} {a:Option Addr} {k:IntKind} {i:Int} (he:gL P t=some n) (C:ev N σ x= .slice a len cap) (E:ev N σ z= .int k i) (A:0≤i∧i≤cap):
 (execOp (ev N σ) ⟨dst,.slice t x none (some z) none,ty,pos,af,g⟩).run P w= .ok (.value<|.slice a i.toNat cap) w:=by
 have :=Fw (dst:=dst) (ty:=ty) (pos :=pos) (af:=af) (g:=g) (w:=w) (lo:=none) (hi:=some<|.int k i) (l:=0) (h:=i.toNat) he C
  (by simp [qu,tT,asIntOf,A.1,A.2]) none (some z) rfl (by simp [E])
 rw [this];have hs:gN a cap 0 n=a:=by
  unfold gN; split
  · rfl
  · cases a <;> simp [Bt]
 rw [hs]; rfl
theorem xX {t n len cap:Nat} {a:Option Addr} {k:IntKind} {i:Int} (he:gL P t=some n) (C:ev N σ x= .slice a len cap) (E:ev N σ y= .int k i) (A:0≤i∧i≤len):
 (execOp (ev N σ) ⟨dst,.slice t x (some y) none none,ty,pos,af,g⟩).run P w= .ok (.value<|.slice (gN a cap i.toNat n) (len - i.toNat)<|cap - i.toNat) w:=
 Fw (lo:=some<|.int k i) (hi:=none) he C
  (by simp [qu,tT,asIntOf,A.1,A.2]) (some y) none (by simp [E]) rfl
theorem sll {t n len cap:Nat} {a:Option Addr} {k k':IntKind} {i j:Int} (he:gL P t=some n) (C:ev N σ x= .slice a len cap) (E:ev N σ y= .int k i) (G:ev N σ z= .int k' j) (A:0≤i∧i≤j∧j≤cap):
 (execOp (ev N σ) ⟨dst,.slice t x (some y) (some z) none,ty,pos,af,g⟩).run P w= .ok (.value<|.slice (gN a cap i.toNat n) (j.toNat - i.toNat)<|cap - i.toNat) w:=by
 have h1:0≤j:=ab;have h2:i≤(j.toNat:Int):=ab;refine Fw (lo:=some<|.int k i) (hi:=some<|.int k' j) he C ?_ (some y) (some z) (by simp [E])<|by simp [G]
 simp only [qu,tT,asIntOf,oR,rC,oQ,Gz,A.1,h1,A.2.2,h2,and_self,if_true]
theorem cB {n:Int} (h: -9223372036854775808≤n∧n≤9223372036854775807):Bv.wrap n=n:=IntWalk.i64_in n h
theorem vD {n:Int} (h:0≤n∧n≤255):rA.wrap n=n:=IntWalk.u8_in n h
theorem qt {n:Int} (h:0≤n∧n≤18446744073709551615):e8.wrap n=n:=IntWalk.u64_in n h
theorem iv {k:IntKind} {a b:Int} (h:a=b):gP k a=gP k b:=by rw [h]
theorem ad {t G:TypeId} {k:IntKind} {a b:Int} (C:ev N σ x= .int k a) (E:ev N σ y= .int k b) (A:k.wrap (a+b)=a+b):
 (execOp (ev N σ) ⟨dst,.binOp .add t x y G,ty,pos,af,g⟩).run P w= .ok (.value<|.int k<|a+b) w:=by
 simp [execOp,C,E,eqGuard,binOp,ym,A]
theorem bJ {t G:TypeId} {k:IntKind} {a b:Int} (v:Int) (C:ev N σ x= .int k a) (E:ev N σ y= .int k b) (A:k.wrap (a+b)=v):
 (execOp (ev N σ) ⟨dst,.binOp .add t x y G,ty,pos,af,g⟩).run P w= .ok (.value<|.int k v) w:=by
 subst A; simp [execOp,C,E,eqGuard,binOp,ym]
theorem dY {t G:TypeId} {k:IntKind} {a b:Int} (v:Int) (C:ev N σ x= .int k a) (E:ev N σ y= .int k b) (A:k.wrap (a - b)=v):
 (execOp (ev N σ) ⟨dst,.binOp .sub t x y G,ty,pos,af,g⟩).run P w= .ok (.value<|.int k v) w:=by
 subst A; simp [execOp,C,E,eqGuard,binOp,ym]
theorem qi {t G:TypeId} {k:IntKind} {a b:Int} (v:Int) (C:ev N σ x= .int k a) (E:ev N σ y= .int k b) (A:k.wrap (a*b)=v):
 (execOp (ev N σ) ⟨dst,.binOp .mul t x y G,ty,pos,af,g⟩).run P w= .ok (.value<|.int k v) w:=by
 subst A; simp [execOp,C,E,eqGuard,binOp,ym]
theorem bp {a:Int} {n:Nat} (h:a=n) (hn:n≤9223372036854775807):Bv.wrap a=(n:Int):=by rw [h]; exact cB ab
theorem bv {p q:Prop} [Decidable p] [Decidable q] (h:p↔q):ca (decide p)=ca (decide q):=by rw [decide_eq_decide.2 h]
theorem sb {t G:TypeId} {k:IntKind} {a b:Int} (C:ev N σ x= .int k a) (E:ev N σ y= .int k b) (A:k.wrap (a - b)=a - b):
 (execOp (ev N σ) ⟨dst,.binOp .sub t x y G,ty,pos,af,g⟩).run P w= .ok (.value<|.int k<|a - b) w:=by
 simp [execOp,C,E,eqGuard,binOp,ym,A]
theorem ss {t I:TypeId} {k:IntKind} {a b:Int} (v:Int) (E:ev N σ x= .int k a) (G:ev N σ y= .int k b) (A:0≤a∧0 < b) (C:k.wrap (a / b)=v):
 (execOp (ev N σ) ⟨dst,.binOp .quo t x y I,ty,pos,af,g⟩).run P w= .ok (.value<|.int k v) w:=by
 have :a.tdiv b=a / b:=Int.tdiv_eq_ediv_of_nonneg A.1;subst C; simp [execOp,E,G,eqGuard,binOp,Op.intDiv,show b≠0 from by omega,this]
theorem lt {t E:TypeId} {k:IntKind} {a b:Int} (A:ev N σ x= .int k a) (C:ev N σ y= .int k b):
 (execOp (ev N σ) ⟨dst,.binOp .lss t x y E,ty,pos,af,g⟩).run P w= .ok (.value<|.bool<|decide (a < b)) w:=by
 simp [execOp,A,C,eqGuard,binOp,vI]
theorem le {t E:TypeId} {k:IntKind} {a b:Int} (A:ev N σ x= .int k a) (C:ev N σ y= .int k b):
 (execOp (ev N σ) ⟨dst,.binOp .leq t x y E,ty,pos,af,g⟩).run P w= .ok (.value<|.bool<|decide (a≤b)) w:=by
 simp [execOp,A,C,eqGuard,binOp,vI]
theorem gt {t E:TypeId} {k:IntKind} {a b:Int} (A:ev N σ x= .int k a) (C:ev N σ y= .int k b):
 (execOp (ev N σ) ⟨dst,.binOp .gtr t x y E,ty,pos,af,g⟩).run P w= .ok (.value<|.bool<|decide (b < a)) w:=by
 simp [execOp,A,C,eqGuard,binOp,vI]
theorem ge {t E:TypeId} {k:IntKind} {a b:Int} (A:ev N σ x= .int k a) (C:ev N σ y= .int k b):
 (execOp (ev N σ) ⟨dst,.binOp .geq t x y E,ty,pos,af,g⟩).run P w= .ok (.value<|.bool<|decide (b≤a)) w:=by
 simp [execOp,A,C,eqGuard,binOp,vI]
theorem bQ {t E:TypeId} {k:IntKind} {a b:Int} (A:ev N σ x= .int k a) (C:ev N σ y= .int k b):
 (execOp (ev N σ) ⟨dst,.binOp .eql t x y E,ty,pos,af,g⟩).run P w= .ok (.value<|.bool<|decide (a=b)) w:=by
 simp [execOp,A,C,eqGuard,binOp,vI];rw [sI]; simp
theorem dd {t E:TypeId} {k:IntKind} {a b:Int} (A:ev N σ x= .int k a) (C:ev N σ y= .int k b):
 (execOp (ev N σ) ⟨dst,.binOp .neq t x y E,ty,pos,af,g⟩).run P w= .ok (.value<|.bool<|decide (a≠b)) w:=by
 simp [execOp,A,C,eqGuard,binOp,vI];rw [sI]; simp
theorem no {t:TypeId} {b:Bool} (A:ev N σ x= .bool b):(execOp (ev N σ) ⟨dst,.unOp .not t x,ty,pos,af,g⟩).run P w= .ok (.value<|.bool<|!b) w:=by
 simp [execOp,A,Gt]
theorem Hx {t G:TypeId} {k:IntKind} {a b v:Int} (C:ev N σ x= .int k a) (E:ev N σ y= .int k b) (A:k.wrap (gO k.bits a ||| gO k.bits b).toNat=v):
 (execOp (ev N σ) ⟨dst,.binOp .or t x y G,ty,pos,af,g⟩).run P w= .ok (.value<|.int k v) w:=by
 subst A; simp [execOp,C,E,eqGuard,binOp,yn]
theorem fZ {t G:TypeId} {k:IntKind} {a b v:Int} (C:ev N σ x= .int k a) (E:ev N σ y= .int k b) (A:k.wrap (gO k.bits a &&& gO k.bits b).toNat=v):
 (execOp (ev N σ) ⟨dst,.binOp .and t x y G,ty,pos,af,g⟩).run P w= .ok (.value<|.int k v) w:=by
 subst A; simp [execOp,C,E,eqGuard,binOp,yn]
theorem shr {t G:TypeId} {k I:IntKind} {a b v:Int} (C:ev N σ x= .int k a) (E:ev N σ y= .int I b) (J:0≤b) (A:a.fdiv (2 ^ min b.toNat k.bits)=v):
 (execOp (ev N σ) ⟨dst,.binOp .shr t x y G,ty,pos,af,g⟩).run P w= .ok (.value<|.int k v) w:=by
 have :¬b < 0:=ab;simp [execOp,C,E,eqGuard,binOp,Op.shift,this,A]
theorem shl {t G:TypeId} {k I:IntKind} {a b v:Int} (C:ev N σ x= .int k a) (E:ev N σ y= .int I b) (J:0≤b) (A:k.wrap (a*2 ^ min b.toNat k.bits)=v):
 (execOp (ev N σ) ⟨dst,.binOp .shl t x y G,ty,pos,af,g⟩).run P w= .ok (.value<|.int k v) w:=by
 have :¬b < 0:=ab;simp [execOp,C,E,eqGuard,binOp,Op.shift,this,A]
theorem A5 (m:Nat) (h:m < 256):((ky m).toNat:Int)=(m:Int):=by
 simp [Nat.mod_eq_of_lt h]
theorem cv {t u:TypeId} {k k':IntKind} {n:Int} (hu:P.underlying u=some (.int k')) (A:(P.underlying t).isSome=true) (C:ev N σ x= .int k n):
 (execOp (ev N σ) ⟨dst,.convert t u x,ty,pos,af,g⟩).run P w= .ok (.value<|.int k'<|k'.wrap n) w:=by
 obtain ⟨d,hd⟩:=nX.1 A;cases d <;> simp [execOp,C,convert,ee hu,ee hd,Conv.intToInt]
theorem mh {t u:TypeId} {k k':IntKind} {n v:Int} (hu:P.underlying u=some (.int k')) (C:(P.underlying t).isSome=true) (E:ev N σ x= .int k n) (A:k'.wrap n=v):
 (execOp (ev N σ) ⟨dst,.convert t u x,ty,pos,af,g⟩).run P w= .ok (.value<|.int k' v) w:=by
 rw [cv hu C E,A]
theorem zi {t u:TypeId} {k k':IntKind} {n:Int} (hu:P.underlying u=some (.int k')) (C:(P.underlying t).isSome=true) (E:ev N σ x= .int k n) (A:k'.wrap n=n):
 (execOp (ev N σ) ⟨dst,.convert t u x,ty,pos,af,g⟩).run P w= .ok (.value<|.int k' n) w:=by
 rw [cv hu C E,A]
theorem Wj (d:Nat) {t e:TypeId} {a:Option Addr} (hu:P.underlying t=some (.pointer e)):(rB (d+1) t (.pointer a)<|.pointer none).run P w= .ok a.isNone w:=by
 cases a <;> simp [rB,ee hu]
theorem Wl {t e:TypeId} {a:Option Addr} (hu:P.underlying t=some (.pointer e)):(Gr t (.pointer a)<|.pointer none).run P w= .ok a.isNone w:=Wj 9999 hu
theorem ly {t E e:TypeId} {a:Option Addr} (hu:P.underlying t=some (.pointer e)) (A:ev N σ x= .pointer a) (C:ev N σ y= .pointer none):
 (execOp (ev N σ) ⟨dst,.binOp .eql t x y E,ty,pos,af,g⟩).run P w= .ok (.value<|.bool a.isNone) w:=by
 have h:(binOp .eql t (.pointer a)<|.pointer none).run P w= .ok (.bool a.isNone) w:=by
  simp only [binOp]; simp [Wl hu]
 simp [execOp,A,C,eqGuard,h]
theorem Wh (d:Nat) {t:TypeId} {a b:Bool} (hu:P.underlying t=some .bool):(rB (d+1) t (.bool a)<|.bool b).run P w= .ok (a==b) w:=by
 simp [rB,ee hu]
theorem Wi {t:TypeId} {a b:Bool} (hu:P.underlying t=some .bool):(Gr t (.bool a)<|.bool b).run P w= .ok (a==b) w:=Wh 9999 hu
theorem De {t E:TypeId} {a b:Bool} (hu:P.underlying t=some .bool) (A:ev N σ x= .bool a) (C:ev N σ y= .bool b):
 (execOp (ev N σ) ⟨dst,.binOp .eql t x y E,ty,pos,af,g⟩).run P w= .ok (.value<|.bool<|decide (a=b)) w:=by
 have h:(binOp .eql t (.bool a)<|.bool b).run P w= .ok (.bool<|decide (a=b)) w:=by
  simp only [binOp]; simp [Wi hu]; cases a <;> cases b <;> rfl
 simp [execOp,A,C,eqGuard,h]
def str (l:List UInt8):Value:= .string ⟨⟨l⟩⟩
theorem cR {t:TypeId} {l:List UInt8} {at_:Array TypeId} (C:P.underlying t=some .string) (A:at_= #[t]) (E:ev N σ x=str l):
 (execOp (ev N σ) ⟨dst,.call ⟨.builtin .len,#[x],at_⟩,ty,pos,af,g⟩).run P w= .ok (.value<|.int .i64 l.length) w:=by
 subst A;simp [execOp,resolve,invoke,builtin,Pk,ee C,E,str,goInt];rfl
theorem bM {t e:TypeId} {a:Option Addr} {n c:Nat} {at_:Array TypeId} (C:P.underlying t=some (.slice e)) (A:at_= #[t]) (E:ev N σ x= .slice a n c):
 (execOp (ev N σ) ⟨dst,.call ⟨.builtin .len,#[x],at_⟩,ty,pos,af,g⟩).run P w= .ok (.value<|.int .i64 n) w:=by
 subst A;simp [execOp,resolve,invoke,builtin,Pk,ee C,E,goInt]
theorem mn {k:IntKind} {a b:Int} {at_:Array TypeId} (A:ev N σ x= .int k a) (C:ev N σ y= .int k b):
 (execOp (ev N σ) ⟨dst,.call ⟨.builtin .min,#[x,y],at_⟩,ty,pos,af,g⟩).run P w= .ok (.value<|.int k<|min a b) w:=by
 have :(if b < a then b else a)=min a b:=ab;simp [execOp,resolve,invoke,builtin,Builtin.min_,Builtin.min2,A,C,this]
theorem mx {k:IntKind} {a b:Int} {at_:Array TypeId} (A:ev N σ x= .int k a) (C:ev N σ y= .int k b):
 (execOp (ev N σ) ⟨dst,.call ⟨.builtin .max,#[x,y],at_⟩,ty,pos,af,g⟩).run P w= .ok (.value<|.int k<|max a b) w:=by
 have :(if b > a then b else a)=max a b:=ab;simp [execOp,resolve,invoke,builtin,Builtin.max_,Builtin.max2,A,C,this]
theorem YU {t:TypeId} {l:List UInt8} {k:IntKind} {i:Int} (G:P.underlying t=some .string) (I:ev N σ x=str l) (J:ev N σ y= .int k i) (C:0≤i∧i < l.length):
 (execOp (ev N σ) ⟨dst,.index t x y,ty,pos,af,g⟩).run P w= .ok (.value<|.int .u8 ((l.getD i.toNat 0).toNat:Int)) w:=by
 have hs:(⟨⟨l⟩⟩:ByteArray)[i.toNat]? =some (l.getD i.toNat 0):=by
  have A:i.toNat < l.length:=ab;have E:i.toNat < (⟨⟨l⟩⟩:ByteArray).size:=A;rw [getElem?_pos (⟨⟨l⟩⟩:ByteArray) i.toNat E];simp [cX,A,ByteArray.getElem_eq_getElem_data]
 simp [execOp,Instr.index,I,J,asIntOf,str,ee G,C.1,hs]
theorem Fv (l:List UInt8) (a b:Nat):Value.string ((⟨⟨l⟩⟩:ByteArray).extract a b)=str ((l.take b).drop a):=by
 unfold str;congr 1;apply ByteArray.ext;simp [ByteArray.data_extract,List.extract_eq_take_drop,tY]
theorem jJ (n:Nat) {t:TypeId} {l:List UInt8} {k:IntKind} (A:P.underlying t=some .string) (C:ev N σ x=str l) (E:ev N σ y= .int k (n:Int)) (h:n < l.length):
 (execOp (ev N σ) ⟨dst,.index t x y,ty,pos,af,g⟩).run P w= .ok (.value<|.int .u8 ((l.getD n 0).toNat:Int)) w:=YU A C E ⟨ab,ab⟩
theorem fj {n:Nat} {t:TypeId} {l:List UInt8} {k:IntKind} (A:P.underlying t=some .string) (C:ev N σ x=str l) (E:ev N σ y= .int k (n:Int)) (h:n < l.length):
 (execOp (ev N σ) ⟨dst,.index t x y,ty,pos,af,g⟩).run P w= .ok (.value<|.int .u8 ((l.getD n 0).toNat:Int)) w:=jJ n A C E h
theorem mW {t:TypeId} {l:List UInt8} {k k':IntKind} {a b:Int} (C:P.underlying t=some .string) (E:ev N σ x=str l) (G:ev N σ y= .int k a) (I:ev N σ z= .int k' b) (A:0≤a∧a≤b∧b≤l.length):
 (execOp (ev N σ) ⟨dst,.slice t x (some y) (some z) none,ty,pos,af,g⟩).run P w= .ok (.value<|str<|(l.take b.toNat).drop a.toNat) w:=by
 have h1:b≤((⟨⟨l⟩⟩:ByteArray).size:Nat):=A.2.2;have h2:0≤b:=ab;have h3:a≤(b.toNat:Nat):=ab;simp [execOp,tS,yj,qu,tT,E,G,I,asIntOf,str,ee C,A.1,h1,h2];rw [if_pos ab];exact congrArg (fun v=>Gx (Gq v) w)<|Fv l a.toNat b.toNat
theorem sx {t:TypeId} {l:List UInt8} {k':IntKind} {b:Int} (C:P.underlying t=some .string) (E:ev N σ x=str l) (G:ev N σ z= .int k' b) (A:0≤b∧b≤l.length):
 (execOp (ev N σ) ⟨dst,.slice t x none (some z) none,ty,pos,af,g⟩).run P w= .ok (.value<|str<|l.take b.toNat) w:=by
 have h1:b≤((⟨⟨l⟩⟩:ByteArray).size:Nat):=A.2;have :=Fv l 0 b.toNat;simp only [yu] at this;simp [execOp,tS,yj,qu,tT,E,G,asIntOf,str,ee C,A.1,h1];exact PM this
theorem mX {t:TypeId} {l:List UInt8} {k:IntKind} {a:Int} (C:P.underlying t=some .string) (E:ev N σ x=str l) (G:ev N σ y= .int k a) (A:0≤a∧a≤l.length):
 (execOp (ev N σ) ⟨dst,.slice t x (some y) none none,ty,pos,af,g⟩).run P w= .ok (.value<|str<|l.drop a.toNat) w:=by
 have h1:a≤((⟨⟨l⟩⟩:ByteArray).size:Nat):=A.2;have :=Fv l a.toNat l.length;simp only [List.take_length] at this;simp [execOp,tS,yj,qu,tT,E,G,asIntOf,str,ee C,A.1,h1];exact PM this
theorem Ot (l:List UInt8):(⟨⟨l⟩⟩:ByteArray).toList=l:=Lib.toList_data ⟨⟨l⟩⟩
theorem cc {t E:TypeId} {l m:List UInt8} (A:ev N σ x=str l) (C:ev N σ y=str m) (h:l.length+m.length≤9223372036854775807):
 (execOp (ev N σ) ⟨dst,.binOp .add t x y E,ty,pos,af,g⟩).run P w= .ok (.value<|str<|l++m) w:=by
 have h1:¬(((⟨⟨l⟩⟩:ByteArray).size+(⟨⟨m⟩⟩:ByteArray).size:Nat):Int) > Bv.max:=by
  have :Bv.max=9223372036854775807:=aB;rw [this];show ¬((l.length+m.length:Nat):Int) > _;omega
 have h2:(⟨⟨l⟩⟩:ByteArray)++(⟨⟨m⟩⟩:ByteArray)=⟨⟨l++m⟩⟩:=by
  apply ByteArray.ext; simp
 simp only [execOp,A,C,str,eqGuard,binOp,Gs];rw [if_neg h1,h2];rfl
theorem et {t E:TypeId} {l m:List UInt8} (A:ev N σ x=str l) (C:ev N σ y=str m):
 (execOp (ev N σ) ⟨dst,.binOp .eql t x y E,ty,pos,af,g⟩).run P w= .ok (.value<|.bool<|decide (l=m)) w:=by
 simp only [execOp,A,C,str,eqGuard,binOp,Gs,Ot];show Gx (Gq<|.bool<|l==m) w=_;rw [show (l==m)=decide (l=m) from by rw [sI]; simp]
theorem oF {t E:TypeId} {l m:List UInt8} (A:ev N σ x=str l) (C:ev N σ y=str m):
 (execOp (ev N σ) ⟨dst,.binOp .neq t x y E,ty,pos,af,g⟩).run P w= .ok (.value<|.bool<|decide (l≠m)) w:=by
 simp only [execOp,A,C,str,eqGuard,binOp,Gs,Ot];show Gx (Gq<|.bool<|!(l==m)) w=_;rw [show (!(l==m))=decide (l≠m) from by rw [sI]; simp]
theorem mf {fn:Fn} {first captured:Array Operand} :(execOp (ev N σ) ⟨dst,.makeFunc fn first captured,ty,pos,af,g⟩).run P w= .ok (.value<|.func fn (first.map<|ev N σ)<|captured.map<|ev N σ) w:=rfl
theorem My {fn:Fn} {first captured:Array Operand} :(execOp (ev N σ) ⟨dst,.makeFunc fn first captured,ty,pos,af,g⟩).run P w= .ok (.value<|.func fn (first.toList.map<|ev N σ).toArray (captured.toList.map<|ev N σ).toArray) w:=by
 rw [mf,← nR,← nR]
end
end Go.Hb
namespace Go.Hb
def bS (h:Array Obj) (b:Nat) (L:List Value):Prop := ∃ e,h[b]? =some (.cells L.toArray e (0,0))
theorem bS.aW {h:Array Obj} {b:Nat} {L:List Value} (A:bS h b L) (j:Nat):Hb.aW h b j=L[j]? :=by
 obtain ⟨e,A⟩:=A;rw [bg A]; simp
theorem bS.bB {h:Array Obj} {b:Nat} {L:List Value} (A:bS h b L) (j:Nat):Hb.aW h b (0 +j)=L[j]? :=by
 rw [iM,A.aW]
theorem Md.B {F:Nat→Prop} {w w':World} (h:Md F w w') {b:Nat} {L:List Value} (A:bS w.heap b L) (C:¬F b):bS w'.heap b L:=
 let ⟨e,A⟩:=A; ⟨e,h.aT A C⟩
theorem Wk.B {w w':World} (h:Wk w w') {b:Nat} {L:List Value} (A:bS w.heap b L):bS w'.heap b L:=Md.B h A id
theorem bS.lt {h:Array Obj} {b:Nat} {L:List Value} (A:bS h b L):b < h.size:=let ⟨_,A⟩:=A; (dO.1 A).1
def bk (a:Option Addr):Nat:=match a with | some ad=>ad.block | none=>0
def fo (a:Option Addr):Nat:=match a with | some ad=>ad.off | none=>0
structure aM (h:Array Obj) (a:Option Addr) (xs:List Value):Prop where
 ok:xs≠[]→a=some ⟨bk a,fo a,none⟩
 aW:∀ j u,xs[j]? =some u→Hb.aW h (bk a) (fo a+j)=some u
theorem aM.nil (h:Array Obj) (a:Option Addr):aM h a []:=⟨fun h=>absurd rfl h,fun _ _ hu=>by simp at hu⟩
theorem aM.md {F:Nat→Prop} {w w':World} {a:Option Addr} {xs:List Value} (A:aM w.heap a xs) (h:Md F w w') (C:xs≠[]→¬F (bk a)):aM w'.heap a xs:=
 ⟨A.ok,fun j u hu=>h.aW (A.aW j u hu)<|C<|by rintro rfl; simp at hu⟩
theorem aM.wk {w w':World} {a:Option Addr} {xs:List Value} (A:aM w.heap a xs) (h:Wk w w'):aM w'.heap a xs:=A.md h fun _ x=>x
theorem aM.take {h:Array Obj} {a:Option Addr} {xs:List Value} (A:aM h a xs) (n:Nat):aM h a (xs.take n):=
 ⟨fun C=>A.ok (by rintro rfl; simp at C),fun j u hu=>A.aW j u<|by rw [qz] at hu; split at hu; exact hu; cases hu⟩
theorem aM.ec {h:Array Obj} {b:Nat} {L:List Value} (A:bS h b L):aM h (some ⟨b,0,none⟩) L:=
 ⟨fun _=>rfl,fun j u hu=>by show Hb.aW h b (0 +j)=_; rw [iM,A.aW]; exact hu⟩
theorem aM.gY {h:Array Obj} {a:Option Addr} {xs:List Value} (A:aM h a xs) {i:Nat} {u:Value} (hu:xs[i]? =some u):Hb.aW h (bk a) (fo a+i*1)=some u:=by
 rw [Nat.mul_one]; exact A.aW i u hu
def cM (h:Array Obj) (a:Option Addr) (l:List (List UInt8)):Prop :=aM h a<|l.map str
theorem cM.get {h:Array Obj} {a:Option Addr} {l:List (List UInt8)} (hs:cM h a l) {i:Nat} (hi:i < l.length):Hb.aW h (bk a) (fo a+i*1)=some (str<|l.getD i []):=
 aM.gY hs (by simp [cX,hi])
theorem cM.wk {w w':World} {a:Option Addr} {l:List (List UInt8)} (hs:cM w.heap a l) (h:Wk w w'):cM w'.heap a l:=aM.wk hs h
theorem cg {α:Type} {f:α→Value} {l:List α} (h:0 < l.length):l.map f≠[]:=by
 cases l with
 | nil=>simp at h
 | cons x l=>simp
def ad9 (k:IntKind) (h:Array Obj) (a:Option Addr) (l:List Int):Prop :=aM h a<|l.map<|gP k
def gp (P:Program) (t e size bytes:Nat):Bool:=
 match P.underlying t with
 | some (.slice A)=>A==e && match P.info? e with
   | some i=>i.size==size && i.bytes==bytes && iL 0 size && match i.zero with
     | some z=>z.cells.size==size
     | none=>false
   | none=>false
 | _=>false
theorem sw {P:Program} {t e size bytes:Nat} (h:gp P t e size bytes=true):
 P.underlying t=some (.slice e)∧∃ i z,P.info? e=some i∧i.zero=some z∧i.size=size∧i.bytes=bytes∧z.cells.size=size∧0 < size:=by
 unfold gp at h;split at h
 · rename_i C hu;simp only [jl,beq_iff_eq] at h;obtain ⟨rfl,h⟩:=h;split at h
   · rename_i i hi;simp only [jl,beq_iff_eq] at h;obtain ⟨⟨⟨h1,h2⟩,h3⟩,h4⟩:=h;split at h4
     · rename_i z A;exact ⟨hu,i,z,hi,A,h1,h2,by simpa using h4,ue (vT 0)<|sU h3⟩
     · cases h4
   · cases h
 · cases h
def eE (P:Program) (t:TypeId):Option Nat:=(P.info? t).map (·.size)
def zeroOf (P:Program) (t:TypeId):Option (Option<|List Value):=(P.info? t).map fun i=>i.zero.map fun z=>z.cells.toList
def bl (P:Program) (f:FuncId):Prop := ∀ args w,(callFunc f args).run P w= .ok (.enter f args) w
theorem TN {P:Program} {f:FuncId} {fn:Func} (C:P.funcs[f]? =some fn) (hn:(fn.name== "runtime.NumGoroutine")=false) (A:fn.body.isNone=false):bl P f:=by
 intro args w;have h1:¬((fn.name== "runtime.NumGoroutine")=true):=by rw [hn]; simp
 have h2:¬(fn.body.isNone=true):=by rw [A]; simp
 simp only [callFunc,oR,run_program,oQ,C];rw [if_neg h1,if_neg h2];rfl
section
variable {P:Program} {N:Fm} {σ:Nat→Value} {w:World} {dst:Option Nat} {ty:TypeId} {pos :String} {af:Array Edge} {g:Option (Nat×Bool)} {x y z:Operand} {K:(Nat→Value)→World→Prop}
theorem O0 {o:Oper} {f:FuncId} {L:List Value} {R:Value→World→Prop} (E:(execOp (ev N σ) o).run P w= .ok (.enter f L.toArray) w) (C:bm P f L.toArray w R)
 (k:∀ v w',R v w'→K (gH σ o.dst v) w'):dS P N o σ w K:=by
 unfold dS kt;rw [jD,E];refine mu C fun e w' ⟨v,he,A⟩=> ?_;subst he;exact ⟨_,ll ..,k v w' A⟩
theorem cl {f:FuncId} {args:Array Operand} {A:Array TypeId} {L:List Value} {R:Value→World→Prop} (E:bl P f) (G:bm P f L.toArray w R) (C:args.toList.map (ev N σ)=L)
 (k:∀ v w',R v w'→K (gH σ dst v) w'):dS P N ⟨dst,.call ⟨.value (.func f),args,A⟩,ty,pos,af,g⟩ σ w K:=by
 refine O0 (f:=f) ?_ G k;have :args.map (ev N σ)=L.toArray:=by rw [← C,← nR]
 simp [execOp,resolve,ev,sJ,invoke,this,E L.toArray w]
theorem UC {f:FuncId} {fo:Operand} {first cap:Array Value} {args:Array Operand} {A:Array TypeId} {L:List Value} {R:Value→World→Prop} (E:bl P f) (I:ev N σ fo= .func (.func f) first cap)
 (G:bm P f L.toArray w R) (C:first.toList++args.toList.map (ev N σ)++cap.toList=L)
 (k:∀ v w',R v w'→K (gH σ dst v) w'):dS P N ⟨dst,.call ⟨.value fo,args,A⟩,ty,pos,af,g⟩ σ w K:=by
 refine O0 (f:=f) ?_ G k;have :first++args.map (ev N σ)++cap=L.toArray:=by rw [← C,← nR,← Pd,← Pd]
 simp [execOp,resolve,I,sJ,invoke,this,E L.toArray w]
theorem oN {o:Oper} {ob:Obj} {v:Nat→Value} (A:(execOp (ev N σ) o).run P w= .ok (.value<|v w.heap.size) {w with heap:=w.heap.push ob})
 (k:∀ b w',b=w.heap.size→Nw w w'→w'.heap[b]? =some ob→K (gH σ o.dst<|v b) w'):dS P N o σ w K:=
 nf A (k _ _ rfl (MV w ob) (by simp))
theorem al {e:TypeId} {C:List Value} (A:zeroOf P e=some (some C)) (k:∀ b w',b=w.heap.size→Nw w w'→bS w'.heap b C→K (gH σ dst<|.pointer<|some ⟨b,0,none⟩) w'):
 dS P N ⟨dst,.alloc e,ty,pos,af,g⟩ σ w K:=by
 refine oN (v:=fun b=> .pointer<|some ⟨b,0,none⟩) (ob:= .cells C.toArray e (0,0)) ?_ fun b w' h1 h2 h3=>k b w' h1 h2 ⟨e,h3⟩;unfold zeroOf at A;simp only [nY] at A;obtain ⟨i,hi,zv,E,rfl⟩:=A;simp [execOp,Pu,zeroValue,jx hi,E,newVar,newRow]
theorem gk {e:TypeId} {C:List Value} (A:zeroOf P e=some (some C)) (k:∀ b w',b=w.heap.size→Nw w w'→w'.heap[b]? =some (.cells C.toArray e (0,0))→K (gH σ dst<|.pointer<|some ⟨b,0,none⟩) w'):
 dS P N ⟨dst,.alloc e,ty,pos,af,g⟩ σ w K:=by
 refine oN (v:=fun b=> .pointer<|some ⟨b,0,none⟩) (ob:= .cells C.toArray e (0,0)) ?_ k;unfold zeroOf at A;simp only [nY] at A;obtain ⟨i,hi,zv,E,rfl⟩:=A;simp [execOp,Pu,zeroValue,jx hi,E,newVar,newRow]
theorem bx {e:TypeId} {v:Value} {L:List Value} (C:ev N σ x=v) (A:v.cells.toList=L) (k:∀ b w',b=w.heap.size→Nw w w'→bS w'.heap b L→K (gH σ dst<|.pointer<|some ⟨b,0,none⟩) w'):
 dS P N ⟨dst,.box e x,ty,pos,af,g⟩ σ w K:=by
 subst A;refine oN (v:=fun b=> .pointer<|some ⟨b,0,none⟩) (ob:= .cells v.cells e (0,0)) ?_ fun b w' h1 h2 h3=>k b w' h1 h2 ⟨e,h3⟩;simp [execOp,Instr.box,C,newVar,newRow]
theorem tA {t:TypeId} (k:∀ b w',b=w.heap.size→Nw w w'→w'.heap[b]? =some (.map #[] 0)→K (gH σ dst<|.map<|some b) w'):dS P N ⟨dst,.makeMap t none,ty,pos,af,g⟩ σ w K:=by
 refine oN (v:=fun b=> .map<|some b) ?_ k;simp [execOp,Instr.makeMap]
theorem mG {t e:TypeId} {size bytes:Nat} (C:gp P t e size bytes=true)
 (k:∀ b w',b=w.heap.size→Nw w w'→(∀ B,B≤b→w'.ownsRow B e size (.slice (some ⟨b,0,none⟩) 0 0) 0 [])→K (gH σ dst<|.slice (some ⟨b,0,none⟩) 0 0) w'):dS P N ⟨dst,.buildSlice t 0 #[],ty,pos,af,g⟩ σ w K:=by
 refine oN (v:=fun b=> .slice (some ⟨b,0,none⟩) 0 0) (ob:= .cells #[] e (0,0)) ?_ fun b w' h1 h2 h3=>k b w' h1 h2 fun B A=>⟨by simp,.inr ⟨b,0,#[],aa,A,h3,cU _,by simp [maxLen],by simp,by simp⟩⟩
 obtain ⟨hu,i,zv,hi,E,h1,h2,h3,h4⟩:=sw C;simp [execOp,Gj,ee hu,sizeOf,jx hi,nS,newRow];congr 2;exact Array.eq_empty_of_size_eq_zero<|by simp
theorem Rv {t e:TypeId} {size bytes:Nat} {v:Value} {L:List Value} (I:gp P t e size bytes=true) (hs:oT size 1000=true) (O:ev N σ x=v) (J:v.cells.size=size)
 (C:v.cells.toList=L) (k:∀ b w',b=w.heap.size→Nw w w'→w'.heap[b]? =some (.cells L.toArray e (0,0))→K (gH σ dst<|.slice (some ⟨b,0,none⟩) 1 1) w'):dS P N ⟨dst,.buildSlice t 1 #[(0,x)],ty,pos,af,g⟩ σ w K:=by
 subst C;refine oN (v:=fun b=> .slice (some ⟨b,0,none⟩) 1 1) (ob:= .cells v.cells e (0,0)) ?_ fun b w' h1 h2 h3=>k b w' h1 h2<|by simpa using h3
 obtain ⟨hu,i,zv,hi,V,h1,h2,h3,h4⟩:=sw I;have Z:size≤1000:=by simpa using hs
 have E:nS (fun i=>some (i*size,size)) ((rr size).map (zv.cells[· % zv.cells.size]!)) [(0,v)]=some v.cells:=by
  have A:((rr size).map (zv.cells[· % zv.cells.size]!)).size=size:=by simp
  generalize (rr size).map (zv.cells[· % zv.cells.size]!)=cs at A;simp only [nS,J];rw [if_neg (by rw [A]; simp)];congr 1;have key:∀ (l:List Value) (m:Nat) (cs:Array Value),m+l.length≤cs.size→∀ j,((l.zipIdx m).foldl (fun (cs:Array Value) (c,j)=>cs.setIfInBounds (0 *size+j) c) cs)[j]? =if j < m then cs[j]? else if j < m+l.length then l[j - m]? else cs[j]? :=by
   intro l
   induction l with
   | nil=>intro m cs hm j; simp; intro h1 h2; omega
   | cons c l Y=>
     intro m cs hm j;simp only [BM,sQ,cV] at hm ⊢;rw [Y (m+1) _ (by simp; omega)];simp only [GR,iM,Gc];by_cases h1:j < m
     · rw [if_pos ab,if_pos h1,if_neg ab]
     · rw [if_neg h1];by_cases h2:j=m
       · subst h2;rw [if_pos ab,if_pos rfl,if_pos ab,if_pos ab];simp
       · rw [if_neg ab];by_cases h3:j < m+1 +l.length
         · rw [if_pos h3,if_pos ab];obtain ⟨q,G⟩:∃ q,j - m=q+1:=⟨j - m - 1,ab⟩
           rw [G,P3,show j - (m+1)=q from by omega]
         · rw [if_neg h3,if_neg ab,if_neg ab]
  apply Pa;intro j;have :=key v.cells.toList 0 cs (by simp; omega) j;rw [show (v.cells.zipIdx.foldl (fun (cs:Array Value) (c,j)=>cs.setIfInBounds (0 *size+j) c) cs)=((v.cells.toList.zipIdx 0).foldl (fun (cs:Array Value) (c,j)=>cs.setIfInBounds (0 *size+j) c) cs) from by
   rw [← Array.foldl_toList]; simp [Array.toList_zipIdx]]
  rw [this];simp only [Nat.not_lt_zero,if_false,iM,Nat.sub_zero,ye,yd];split
  · rfl
  · rw [sH ab,sH ab]
 simp only [execOp,Gj,oR,ee hu,oQ,sizeOf,jx hi,rC,h1,Nat.one_mul,Gz,zeroValue,V,List.map_toArray,sT,List.map_nil,O,E];rw [if_neg (by rw [show (2:Nat) ^ 24=16777216 from rfl]; omega),if_neg ab];simp [newRow]
theorem HA {t e:TypeId} {size bytes:Nat} {v:Value} {L:List Value} (C:gp P t e size bytes=true) (hs:oT size 1000=true) (G:ev N σ x=v) (E:v.cells.size=size)
 (A:v.cells.toList=L) (k:∀ b w',b=w.heap.size→Nw w w'→bS w'.heap b L→K (gH σ dst<|.slice (some ⟨b,0,none⟩) 1 1) w'):dS P N ⟨dst,.buildSlice t 1 #[(0,x)],ty,pos,af,g⟩ σ w K:=
 Rv C hs G E A fun b w' h1 h2 h3=>k b w' h1 h2 ⟨_,h3⟩
theorem sn {v:Value} (h:v.oneCell'=true):v.cells= #[v]:=by cases v <;> first | rfl | (cases h; done)
theorem J0 {loc:Nat→Option (Nat×Nat)} (C:∀ i,loc i=some (i*1,1)):∀ (rest pre A:List Value),A.length=rest.length→rest.all gw=true→
 nS loc (pre++A).toArray ((rest.zipIdx pre.length).map fun q=>(q.2,q.1))=some (pre++rest).toArray
 | [],pre,A,hl,_=>by
   rw [fR hl]; rfl
 | v::r,pre,A,hl,h1=>by
   cases A with
   | nil=>simp at hl
   | cons z A=>
     rw [vN,jl] at h1;have G:=sn h1.1;have E:=J0 C r (pre++ [v]) A (by simpa using hl) h1.2;simp only [BM,sT,nS,C,G];rw [if_neg (by simp)];simp only [bL,fu,eS,List.singleton_append] at E;rw [← E];simp
theorem tc {t e bytes n:Nat} {ps:Array (Nat×Operand)} {L:List Value} (E:gp P t e 1 bytes=true) (hp:ps.toList.map (fun p=>(p.1,ev N σ p.2))=(L.zipIdx 0).map fun q=>(q.2,q.1)) (h1:L.all gw=true) (hn:L.length=n) (hs:(oT n 1000 && iL 0 n)=true)
 (k:∀ b w',b=w.heap.size→Nw w w'→w'.heap[b]? =some (.cells L.toArray e (0,0))→K (gH σ dst<|.slice (some ⟨b,0,none⟩) n n) w'):dS P N ⟨dst,.buildSlice t n ps,ty,pos,af,g⟩ σ w K:=by
 subst hn;refine oN (v:=fun b=> .slice (some ⟨b,0,none⟩) L.length L.length) (ob:= .cells L.toArray e (0,0)) ?_ k;obtain ⟨hu,i,zv,hi,G,A,h2,h3,h4⟩:=sw E;simp only [jl] at hs;have J:L.length≤1000:=by simpa using hs.1
 have O:0 < L.length:=by have :=sU hs.2; omega
 have C:nS (fun i=>some (i*1,1)) ((rr<|L.length*1).map (zv.cells[· % zv.cells.size]!)) (ps.toList.map fun p=>(p.1,ev N σ p.2))=some L.toArray:=by
  rw [hp];have I:((rr<|L.length*1).map (zv.cells[· % zv.cells.size]!)).toList.length=L.length:=by simp
  have :=J0 (loc:=fun i=>some (i*1,1)) (fun _=>rfl) L [] ((rr<|L.length*1).map (zv.cells[· % zv.cells.size]!)).toList I h1;rw [qA,qA,Bn] at this;exact this
 simp only [execOp,Gj,oR,ee hu,oQ,sizeOf,jx hi,rC,A,Gz,zeroValue,G,nR,C];rw [if_neg (by rw [show (2:Nat) ^ 24=16777216 from rfl]; omega),if_neg ab];simp [newRow]
theorem gz {t e:TypeId} {bytes:Nat} {v:Value} (A:gp P t e 1 bytes=true) (C:ev N σ x=v) (h1:v.oneCell'=true)
 (k:∀ b w',b=w.heap.size→Nw w w'→bS w'.heap b [v]→K (gH σ dst<|.slice (some ⟨b,0,none⟩) 1 1) w'):dS P N ⟨dst,.buildSlice t 1 #[(0,x)],ty,pos,af,g⟩ σ w K:=
 HA A rfl C (by rw [sn h1]; rfl) (by rw [sn h1]) k
theorem kY {t e:TypeId} {size bytes:Nat} {L:List Value} (C:gp P t e size bytes=true) (hs:oT size 1000=true) (E:ev N σ x= .agg L.toArray) (A:L.length=size)
 (k:∀ b w',b=w.heap.size→Nw w w'→bS w'.heap b L→K (gH σ dst<|.slice (some ⟨b,0,none⟩) 1 1) w'):dS P N ⟨dst,.buildSlice t 1 #[(0,x)],ty,pos,af,g⟩ σ w K:=
 HA C hs E (by simpa [vM] using A) (by simp [vM]) k
theorem ib {e:TypeId} {L:List Value} (A:ev N σ x= .agg L.toArray) (k:∀ b w',b=w.heap.size→Nw w w'→bS w'.heap b L→K (gH σ dst<|.pointer<|some ⟨b,0,none⟩) w'):
 dS P N ⟨dst,.box e x,ty,pos,af,g⟩ σ w K:=bx A (by simp [vM]) k
theorem og {e:TypeId} {L:List Value} (A:ev N σ x= .agg L.toArray) (k:∀ b w',b=w.heap.size→Nw w w'→w'.heap[b]? =some (.cells L.toArray e (0,0))→K (gH σ dst<|.pointer<|some ⟨b,0,none⟩) w'):
 dS P N ⟨dst,.box e x,ty,pos,af,g⟩ σ w K:=by
 refine oN (v:=fun b=> .pointer<|some ⟨b,0,none⟩) (ob:= .cells L.toArray e (0,0)) ?_ fun b w' h1 h2 h3=>k b w' h1 h2 h3;simp [execOp,Instr.box,A,newVar,newRow,vM]
theorem wj {l:List Value} (h:l.all gw=true):∀ u∈l,u.oneCell'=true :=mz.1 h
theorem dx {t b off :Nat} {e:TypeId} {L:List Value} {v:Value} (C:eE P t=some 1) (ab:ev N σ x= .pointer (some ⟨b,off,none⟩)) (ac:ev N σ y=v) (h1:v.oneCell'=true) (A:w.heap[b]? =some (.cells L.toArray e (0,0))) (V:off < L.length)
 (k:∀ w',Md (fun k=>k=b) w w'→w'.heap[b]? =some (.cells (L.set off v).toArray e (0,0))→K σ w'):dS P N ⟨none,.store t x y,ty,pos,af,g⟩ σ w K:=by
 have G:v.cells= #[v]:=by cases v <;> first | rfl | (cases h1; done)
 have I:w.cell? ⟨b,off,none⟩=some L[off]:=by rw [o7,bg A]; simp [V]
 have J:w.frozen? ⟨b,off,none⟩=false :=by simp only [World.frozen?,show w.heap[b]? =_ from A]; simp
 unfold eE at C;simp only [nY] at C;obtain ⟨i,hi,hs⟩:=C;have E:(⟨b,off,none⟩:Addr).add 0=⟨b,off,none⟩:=rfl;have Y:(execOp (ev N σ) ⟨none,.store t x y,ty,pos,af,g⟩).run P w= .ok .skip (w.setCell ⟨b,off,none⟩ v):=by
  simp [execOp,Gp,ab,ac,sK,storeVar,G,sizeOf,jx hi,hs,storeCells,E,run_store P w _ v _ h1,I,J]
 unfold dS kt;rw [jD,Y];refine ⟨σ,aa,k _ ⟨aa,aa,by simp [BA],fun k _ hk=> ?_⟩ ?_⟩
 · exact Below.heap_setCell w _ v k hk
 · have O:=(dO.1 A).1;have Z:w.heap[b]= .cells L.toArray e (0,0):=(dO.1 A).2;simp only [BA];rw [Bk (by simpa using O),Array.getElem_modify];simp [Z,List.setIfInBounds_toArray]
theorem st {t b off :Nat} {L:List Value} {v:Value} (I:eE P t=some 1) (E:ev N σ x= .pointer (some ⟨b,off,none⟩)) (G:ev N σ y=v) (h1:v.oneCell'=true) (A:bS w.heap b L) (C:off < L.length)
 (k:∀ w',Md (fun k=>k=b) w w'→bS w'.heap b (L.set off v)→K σ w'):dS P N ⟨none,.store t x y,ty,pos,af,g⟩ σ w K:=
 let ⟨_,A⟩:=A
 dx I E G h1 A C fun w' h1 h2=>k w' h1 ⟨_,h2⟩
theorem fU {t b off n:Nat} {e:TypeId} {L vs:List Value} (A:eE P t=some n) (G:ev N σ x= .pointer (some ⟨b,off,none⟩)) (I:ev N σ y= .agg vs.toArray) (hn:vs.length=n) (h1:vs.all gw=true) (C:w.heap[b]? =some (.cells L.toArray e (0,0))) (J:off+n≤L.length)
 (k:∀ w',Md (fun k=>k=b) w w'→w'.heap[b]? =some (.cells (L.take off++vs++L.drop (off+n)).toArray e (0,0))→K σ w'):dS P N ⟨none,.store t x y,ty,pos,af,g⟩ σ w K:=by
 unfold eE at A;simp only [nY] at A;obtain ⟨i,hi,hs⟩:=A;have bY:=run_storeCells_at P b off e vs 0 L.toArray w C (by simp; omega)<|wj h1;have E:(execOp (ev N σ) ⟨none,.store t x y,ty,pos,af,g⟩).run P w= .ok .skip (w.setRow b (L.take off++vs++L.drop (off+n)).toArray):=by
  simp [execOp,Gp,G,I,sK,storeVar,vM,sizeOf,jx hi,hs,hn,bY]
 unfold dS kt;rw [jD,E];exact ⟨σ,aa,k _ ⟨aa,aa,by simp,fun k _ hk=>setRow_other w b k _ hk⟩<|setRow_heap w b _ _ e _ C⟩
theorem dt {t b off n:Nat} {L vs:List Value} (C:eE P t=some n) (G:ev N σ x= .pointer (some ⟨b,off,none⟩)) (I:ev N σ y= .agg vs.toArray) (hn:vs.length=n) (h1:vs.all gw=true) (A:bS w.heap b L) (J:off+n≤L.length)
 (k:∀ w',Md (fun k=>k=b) w w'→bS w'.heap b (L.take off++vs++L.drop (off+n))→K σ w'):dS P N ⟨none,.store t x y,ty,pos,af,g⟩ σ w K:=by
 obtain ⟨e,A⟩:=A;unfold eE at C;simp only [nY] at C;obtain ⟨i,hi,hs⟩:=C;have bY:=run_storeCells_at P b off e vs 0 L.toArray w A (by simp; omega)<|wj h1;have E:(execOp (ev N σ) ⟨none,.store t x y,ty,pos,af,g⟩).run P w= .ok .skip (w.setRow b (L.take off++vs++L.drop (off+n)).toArray):=by
  simp [execOp,Gp,G,I,sK,storeVar,vM,sizeOf,jx hi,hs,hn,bY]
 unfold dS kt;rw [jD,E];exact ⟨σ,aa,k _ ⟨aa,aa,by simp,fun k _ hk=>setRow_other w b k _ hk⟩ ⟨e,setRow_heap w b _ _ e _ A⟩⟩
theorem Q9 {t ty e:TypeId} {i:TypeInfo} {zv:Value} {B n m c:Nat} {v aa:Value} {xs news:List Value} {ad:Addr} {w':World} (hu:P.underlying t=some (.slice e)) (hi:P.info? e=some i) (Z:i.zero=some zv) (aj:zv.cells.size=i.size) (ah:0 < i.size)
 (G:w.ownsRow B e i.size v n xs) (E:news.length=m*i.size) (I:∀ j u,news[j]? =some u→w.cell? (ad.add j)=some u) (h1:∀ u∈news,u.oneCell'=true) (O:n+m≤maxLen) (J:(n+m)*i.bytes≤140737488355328)
 (A:(Bu #[t,t] ty #[v,.slice (some ad) m c]).run P w= .ok aa w'):∀ k,aa.ownBlock=some k→v.ownBlock=some k∨w.heap.size≤k:=by
 intro k hk;have ak:n+m≤9223372036854775807:=by unfold maxLen at O; omega
 rcases G.2 with ⟨rfl,rfl⟩ | ⟨C,cap,cur,rfl,am,ag,ao,an,ac,ap⟩
 · have ai:xs= []:=fR<|by simpa using G.1
   subst ai;obtain ⟨v2,aq,V,h2,_,_⟩:=run_append_own (P:=P) w w.heap.size t ty e i zv i.size i.bytes hu hi Z rfl rfl aj ah _ 0 [] (dK w w.heap.size e i.size) ad m c news E I h1 O J (cU _);rw [A] at V;cases V;exact .inr (by
    rcases h2.2 with ⟨h,_⟩ | ⟨g2,_,_,h,al,_⟩
    · rw [h] at hk; simp [jN] at hk
    · rw [h] at hk; simp only [jN,gD] at hk; omega)
 · by_cases Y:n+m≤cap
   · have ae:n*i.size+news.length≤cur.size:=by rw [E,ac,← Nat.add_mul]; exact qD _ Y
     rw [run_append_room (P:=P) w t ty e i hu hi C n cap cur ag ad m c news E I h1 Y ae] at A;cases A;exact .inl hk
   · have holds:∀ j u,xs[j]? =some u→w.cell? ((⟨C,0,none⟩:Addr).add j)=some u:=G.cells (g:=C) rfl;rw [run_append_grow (P:=P) w t ty e i zv hu hi Z ⟨C,0,none⟩ n cap xs G.1 holds ad m c news E I ab ab (growslice_fits ab J)] at A;cases A;simp only [jN,gD] at hk;exact .inr ab
theorem ap {t e size bytes B n m c:Nat} {v:Value} {xs news:List Value} {a:Option Addr} (am:gp P t e size bytes=true) (C:w.ownsRow B e size v n xs) (aa:ev N σ x=v) (ag:B≤w.heap.size)
 (ab:ev N σ y= .slice a m c) (J:aM w.heap a news) (E:news.length=m*size) (h1:news.all gw=true) (G:(n+m)*bytes≤140737488355328) (aq:n+m≤9223372036854775807)
 (k:∀ A w',w'.ownsRow B e size A (n+m) (xs++news)→Md (fun k=>v.ownBlock=some k) w w'→(A= .slice none 0 0↔v= .slice none 0 0∧m=0)→(∀ k,A.ownBlock=some k→v.ownBlock=some k∨w.heap.size≤k)→K (gH σ dst A) w'):
 dS P N ⟨dst,.call ⟨.builtin .append,#[x,y],#[t,t]⟩,ty,pos,af,g⟩ σ w K:=by
 obtain ⟨hu,i,zv,hi,ac,hs,I,ae,Y⟩:=sw am;have O:n+m≤maxLen:=by unfold maxLen; omega
 by_cases hm:news= []
 · subst hm;have aj:m=0:=by
    rcases Nat.mul_eq_zero.1 (E.symm.trans rfl) with h | h
    · exact h
    · omega
   subst aj;have al:(Bu #[t,t] ty #[v,.slice a 0 c]).run P w= .ok v w:=by
    rcases C.2 with ⟨rfl,rfl⟩ | ⟨ao,cap,cur,rfl,_,_,hle,_⟩
    · cases a <;> simp [Bu,ee hu,sizeOf,jx hi,Pj,Ph,loadCells,loadCellsFrom]
    · cases a <;> simp [Bu,ee hu,sizeOf,jx hi,Pj,Ph,loadCells,loadCellsFrom,hle,storeCells]
   refine nf (w':=w) (v:=v) ?_<|k v w (by simpa using C) (Md.refl _ _) (by simp) fun _ h=> .inl h;simp [execOp,resolve,invoke,builtin,aa,ab,al]
 · have ah:=J.ok hm;have V:∀ j u,news[j]? =some u→w.cell? ((⟨bk a,fo a,none⟩:Addr).add j)=some u:=fun j u hu=>by rw [nm,o7]; exact J.aW j u hu
   obtain ⟨A,w',Z,h2,h3,h4⟩:=run_append_own (P:=P) w B t ty e i zv size bytes hu hi ac hs I ae Y v n xs C ⟨bk a,fo a,none⟩ m c news E V (wj h1) O G ag;subst hs I;have ai:=Q9 hu hi ac ae Y C E V (wj h1) O G Z;refine nf (w':=w') (v:=A) ?_<|k A w' h2 ⟨h3.os,h3.output,h3.size,fun k hk ak=>h3.block k hk fun e=>ak e.symm⟩ h4 ai;have an:ev N σ y= .slice (some ⟨bk a,fo a,none⟩) m c:=ab.trans<|congrArg (fun a=>bW a m c) ah;simp [execOp,resolve,invoke,builtin,aa,an,Z]
theorem bc {t n len cap:Nat} {k:IntKind} {i:Int} {a:Option Addr} (he:gL P t=some n) (C:ev N σ x= .slice a len cap) (E:ev N σ y= .int k i) (A:0≤i∧i < len) (G:a=some ⟨bk a,fo a,none⟩):
 (execOp (ev N σ) ⟨dst,.indexAddr t x y,ty,pos,af,g⟩).run P w= .ok (.value<|.pointer<|some ⟨bk a,fo a+i.toNat*n,none⟩) w:=
 ia he (by rw [C]; congr 1) E A
end
theorem dw {F:Nat→Prop} {w w':World} {B e size n:Nat} {v:Value} {xs:List Value} (h:w.ownsRow B e size v n xs) (hm:Md F w w') (C:∀ k,v.ownBlock=some k→¬F k):w'.ownsRow B e size v n xs:=by
 refine ⟨h.1,?_⟩;rcases h.2 with hn | ⟨g,cap,cur,rfl,A,E,rest⟩
 · exact .inl hn
 · exact .inr ⟨g,cap,cur,aa,A,hm.aT E (C g aa),rest⟩
section
variable {P:Program} {N:Fm} {σ:Nat→Value} {w:World} {dst:Option Nat} {ty:TypeId} {pos :String} {af:Array Edge} {g:Option (Nat×Bool)} {x y z:Operand} {K:(Nat→Value)→World→Prop}
theorem vq {t B e size n cap off j:Nat} {a:Option Addr} {xs:List Value} {u:Value} (ac:w.ownsRow B e size (.slice a n cap) n xs) (ai:eE P t=some 1) (ag:ev N σ x= .pointer (some ⟨bk a,off,none⟩)) (ah:ev N σ y=u) (h1:u.oneCell'=true)
 (Y:off =fo a+j) (ab:j < n*size)
 (k:∀ w',Md (fun k=>(bW a n cap).ownBlock=some k) w w'→w'.ownsRow B e size (.slice a n cap) n (xs.set j u)→K σ w'):dS P N ⟨none,.store t x y,ty,pos,af,g⟩ σ w K:=by
 obtain ⟨E,h⟩:=ac;rcases h with ⟨h,rfl⟩ | ⟨A,cp,cur,h,G,V,hle,O,C,ae⟩
 · simp at ab
 · simp only [nT,true_and] at h;obtain ⟨rfl,rfl⟩:=h;have Z:off =j:=by rw [Y]; simp [fo]
   subst Z;have hlen:off < cur.toList.length:=by
    have :=qD size hle;rw [ye,C]; omega
   refine dx (L:=cur.toList) ai ag ah h1 (show w.heap[A]? =_ by simpa using V) hlen fun w' J I=>k w' (J.mono fun k _ hk=>by subst hk; rfl) ⟨by simpa using E,.inr ⟨A,cap,_,aa,G,I,hle,O,by simpa using C,?_⟩⟩;rw [← ae];simp only;rw [List.take_set]
end
theorem fy {w:World} {B e size n:Nat} {v:Value} {xs:List Value} (h:w.ownsRow B e size v n xs):v.oneCell'=true :=by
 rcases h.2 with ⟨rfl,_⟩ | ⟨g,cap,cur,rfl,_⟩ <;> rfl
theorem cJ {w:World} {B e size n:Nat} {v:Value} {xs:List Value} (h:w.ownsRow B e size v n xs):∃ a cap,v= .slice a n cap:=by
 rcases h.2 with ⟨rfl,rfl⟩ | ⟨g,cap,cur,rfl,_⟩
 · exact ⟨_,_,aa⟩
 · exact ⟨_,_,aa⟩
theorem nI {w:World} {B B' e E size Y n V:Nat} {v G:Value} {xs Z:List Value} (h:w.ownsRow B e size v n xs) (I:w.ownsRow B' E Y G V Z) (O:e≠E) {k:Nat} (hk:v.ownBlock=some k):G.ownBlock≠some k:=by
 intro C;rcases h.2 with ⟨rfl,_⟩ | ⟨g,cap,cur,rfl,_,J,_⟩
 · simp [jN] at hk
 · rcases I.2 with ⟨rfl,_⟩ | ⟨ac,aa,ab,rfl,_,A,_⟩
   · simp [jN] at C
   · simp only [jN,gD] at hk C;subst hk C;rw [J] at A;simp only [gD,yl] at A;exact O A.2.1
theorem a7 {w w':World} {B e size n:Nat} {v:Value} {xs:List Value} (h:w.ownsRow B e size v n xs) (hm:Wk w w'):w'.ownsRow B e size v n xs:=dw h hm fun _ _ x=>x
theorem dQ {w:World} {B e size n:Nat} {v:Value} {xs:List Value} (h:w.ownsRow B e size v n xs) {k:Nat} (hk:v.ownBlock=some k):B≤k∧k < w.heap.size:=h.lt k hk
theorem Wk.own {w0 w w':World} {B e size n:Nat} {v:Value} {xs:List Value} (h:Wk w0 w) (A:w.ownsRow B e size v n xs) (hm:Md (fun k=>v.ownBlock=some k) w w') (E:w0.heap.size≤B):Wk w0 w':=
 Md.trans' h hm (fun k hk C=>by have :=(dQ A C).1; omega)
theorem vk {w:World} {B e size n:Nat} {v:Value} {xs:List Value} (h:w.ownsRow B e size v n xs):∃ a cap,v= .slice a n cap∧aM w.heap a xs∧n≤cap∧(∀ k,v.ownBlock=some k→a=some ⟨k,0,none⟩∧B≤k∧k < w.heap.size)∧(v.ownBlock=none→xs= []):=by
 rcases h.2 with ⟨rfl,rfl⟩ | ⟨g,cap,cur,rfl,C,A,hle,_,_,E⟩
 · have :xs= []:=fR<|by simpa using h.1
   subst this;exact ⟨none,0,aa,aM.nil _ _,cU _,fun k hk=>by simp [jN] at hk,fun _=>rfl⟩
 · refine ⟨_,cap,aa,⟨fun _=>rfl,fun j u hu=> ?_⟩,hle,fun k hk=> ?_,fun hk=>by simp [jN] at hk⟩
   · show aW w.heap g (0 +j)=_;rw [iM,bg A];rw [← E,qz] at hu;split at hu
     · simpa using hu
     · cases hu
   · simp only [jN,gD] at hk; subst hk;exact ⟨aa,C,(dO.1 A).1⟩
theorem ba {w:World} {B e size n cap:Nat} {a:Option Addr} {xs:List Value} (h:w.ownsRow B e size (.slice a n cap) n xs):n≤cap∧aM w.heap a xs:=by
 obtain ⟨E,G,A,C,hle,_⟩:=vk h;simp only [nT,true_and] at A;obtain ⟨rfl,rfl⟩:=A;exact ⟨hle,C⟩
theorem eQ {w:World} {B B' e size n:Nat} {v:Value} {xs:List Value} (h:w.ownsRow B e size v n xs) (A:B'≤B):w.ownsRow B' e size v n xs:=by
 refine ⟨h.1,?_⟩;rcases h.2 with h | ⟨g,cap,cur,h1,h2,r⟩
 · exact .inl h
 · exact .inr ⟨g,cap,cur,h1,fz A h2,r⟩
theorem aM.drop {h:Array Obj} {a:Option Addr} {xs:List Value} (A:aM h a xs) {cap k size:Nat} (G:xs.length≤cap*size):aM h (gN a cap k size) (xs.drop<|k*size):=by
 unfold gN;by_cases hk:cap=k
 · rw [if_pos hk,iJ (by rw [← hk]; exact G)]; exact aM.nil _ _
 · rw [if_neg hk];by_cases C:xs= []
   · subst C; rw [List.drop_nil]; exact aM.nil _ _
   · have E:=A.ok C;rw [E];simp only [lL,nm];refine ⟨fun _=>rfl,fun j u hu=> ?_⟩;rw [sR] at hu;have :=A.aW _ _ hu;show Hb.aW h (bk a) (fo a+k*size+j)=_;rw [Qn]; exact this
theorem aaD {w:World} {B e size n cap:Nat} {a:Option Addr} {xs:List Value} (h:w.ownsRow B e size (.slice a n cap) n xs) (C:xs≠[]):B≤bk a∧bk a < w.heap.size:=by
 obtain ⟨E,G,A,_,_,h1,h2⟩:=vk h;simp only [nT,true_and] at A;obtain ⟨rfl,rfl⟩:=A;cases hk:(bW a n cap).ownBlock with
 | none=>exact absurd (h2 hk) C
 | some k=>
   obtain ⟨rfl,h3,h4⟩:=h1 k hk;exact ⟨h3,h4⟩
section
variable {P:Program} {N:Fm} {σ:Nat→Value} {w:World} {dst:Option Nat} {ty:TypeId} {pos :String} {af:Array Edge} {g:Option (Nat×Bool)} {x y z:Operand} {K:(Nat→Value)→World→Prop}
end
end Go.Hb
namespace Go.Hb
section
variable {P:Program} {md:tU} {ops:Array Oper} {Q:Exit→Act→World→Prop} {S:World→Prop} {r:Nat}
def rl (P:Program) (md:tU) (ops:Array Oper) (Q:Exit→Act→World→Prop) (S:World→Prop) (r:Nat):Nat→Array Bool→Act→World→Prop
 | 0,bw,a,w=>kP md ops bw= []∧Q .normal a w
 | fuel+1,bw,a,w=>
   (kP md ops bw= []→Q .normal a w)∧
   ∀ i∈kP md ops bw,wpOp P ops Q i (fun A w'=>((bw.setIfInBounds i true).getD r false =false→S w')∧rl P md ops Q S r fuel (bw.setIfInBounds i true) A w') a w
theorem OY:∀ (fuel:Nat) (bw:Array Bool) (a:Act) (w:World),rl P md ops Q S r fuel bw a w→wpAny P md ops Q fuel bw a w
 | 0,_,_,_,h=>h
 | fuel+1,_,_,_,h=>⟨h.1,fun i hi=>wpOp_mono (fun A w' C=>OY fuel _ A w' C.2)<|h.2 i hi⟩
theorem adN {i:Nat} {G:Oper} {v:Value} (hi:ops[i]? =some G) (al:∀ (j:Nat) (o:Oper) cs b,ops[j]? =some o→o.op≠.select cs b)
 (ao:∀ c a w,Q (.panic c) (a.put G.dst v) w→Q (.panic c) a w) (az:∀ o,ops[r]? =some o→∃ x∈o.after,lJ md x=true∧x.on=i) (au:i≠r):
 ∀ (fuel:Nat) (bw:Array Bool) (a:Act) (w:World),
   (∀ j C,ops[j]? =some C→j≠i→bw.getD j true =false→(∀ x∈C.after,lJ md x=true→x.on≠i)→G.apart ops C=true)→
   i∈kP md ops bw→YieldsIf P ops S G v a→S w→bw.getD r false =false→
   rl P md ops Q S r fuel (bw.setIfInBounds i true) (a.put G.dst v) w→rl P md ops Q S r (fuel+1) bw a w:=by
 intro fuel
 induction fuel with
 | zero=>
   intro bw a w _ E V I _ H;refine ⟨fun h=>(by rw [h] at E; cases E),fun j J=> ?_⟩;by_cases A:j=i
   · subst A; exact V.wpOp hi I ⟨fun _=>I,H⟩
   · have :=ready_mono J A;rw [H.1] at this;cases this
 | succ fuel aA=>
   intro bw a w ac E V I ai H;refine ⟨fun h=>(by rw [h] at E; cases E),fun j J=> ?_⟩;by_cases A:j=i
   · subst A; exact V.wpOp hi I ⟨fun _=>I,H⟩
   · have h1:=H.2 j<|ready_mono J A;obtain ⟨ah,C,O,ap⟩:=mem_ready.1 J;have ak:∀ x∈C.after,lJ md x=true→x.on≠i:=fun x aa Z heq=>by
      have h1:=ap x aa Z;have ab:=(mem_ready.1 E).1;rw [heq] at h1;rcases fM i bw.size with Y | Y
      · simp [Y] at ab h1; rw [ab] at h1; cases h1
      · simp [sH Y] at h1
     have ag:j≠r:=by
      rintro rfl;obtain ⟨x,aa,Z,ay⟩:=az C O;exact ak x aa Z ay
     have aw:(bw.setIfInBounds j true).getD r false =false :=by rw [getD_set_ne false ag]; exact ai
     have aj:((bw.setIfInBounds i true).setIfInBounds j true).getD r false =false :=by rw [getD_set_ne false ag,getD_set_ne false au]; exact ai
     have h2:=wpOp_putIf O (ac j C O A ah ak) (fun cs b=>al i G cs b hi) (fun cs b=>al j C cs b O) ao V h1;have aq:∀ k ok,ops[k]? =some ok→k≠i→(bw.setIfInBounds j true).getD k true =false→
      (∀ x∈ok.after,lJ md x=true→x.on≠i)→G.apart ops ok=true :=fun k ok hk av am ax=>by
      refine ac k ok hk av ?_ ax;by_cases ae:j=k
      · subst ae; exact ah
      · rw [getD_set_ne true ae] at am; exact am
     refine wpOp_mono (fun an w' h3=>⟨fun _=>h3.2.1 aj,aA (bw.setIfInBounds j true) an w' aq (ready_mono E<|Ne.symm A) h3.1 (h3.2.1 aj) aw ?_⟩) h2;rw [Gd _ _ A];exact h3.2.2
end
section
variable {P:Program} {N:Fm} {ops:Array Oper} {Q:Exit→(Nat→Value)→World→Prop} {σ:Nat→Value} {w:World} {S:World→Prop} {r fuel:Nat} {bw:Array Bool}
 {d':Option Nat} {d:Nat} {op:Op} {ty:TypeId} {pos :String} {af:Array Edge} {v:Value}
def hY (P:Program) (N:Fm) (ops:Array Oper) (Q:Exit→(Nat→Value)→World→Prop) (S:World→Prop) (r fuel:Nat) (bw:Array Bool) (σ:Nat→Value) (w:World):Prop :=
 rl P .any ops (lift N Q) S r fuel bw (act N σ) w
theorem e5 {id:Nat} {l:List Oper} (S:World→Prop) (r:Nat) (A:vj N.r l=true) (hm:P.follows .mixedOrders=true) (C:S w.drew) (h:hY P N l.toArray Q S r l.length (Bl l.length false) σ w.drew):eA P N (.region id l.toArray true) Q σ w:=by
 exact Hq A hm<|OY _ _ _ _<|by rw [qB]; exact h
def DQ (F:List Nat) (ops:Array Oper) (bw:Array Bool) (r i:Nat):Bool:=
 kI F ops bw i && !(bw.getD r false) && i !=r && (match ops[r]? with | some o=>o.after.toList.any (fun x=>lJ .any x && x.on==i) | none=>false)
theorem lq (i:Nat) (hi:ops[i]? =some ⟨some d,op,ty,pos,af,none⟩) (C:DQ N.F ops bw r i=true)
 (O:∀ w,S w→(execOp (ev N σ) ⟨some d,op,ty,pos,af,none⟩).run P w= .ok (.value v) w) (A:S w)
 (k:hY P N ops Q S r fuel (bw.setIfInBounds i true) (dT σ d v) w):hY P N ops Q S r (fuel+1) bw σ w:=by
 simp only [DQ,kI,jl,Bs,bne_iff_ne,ne_eq] at C;obtain ⟨⟨⟨⟨⟨⟨E,G⟩,hf3⟩,hfF⟩,hf4⟩,hf5⟩,hf6⟩:=C;rw [hi] at hfF;refine adN hi (Gw E) (fun c a w=>tv hfF c a w) (fun o I=> ?_) hf5 fuel bw _ w (Gv hi G) (by simpa using hf3) (.inl ⟨kh _ rfl _,fun w A=> ?_⟩) A hf4 ?_ (v:=v)
 · rw [I] at hf6;simp only [BB,jl,beq_iff_eq] at hf6;obtain ⟨x,J,h1,h2⟩:=hf6;exact ⟨x,yf.1 J,h1,h2⟩
 · rw [jD]; exact O w A
 · rw [ll]; exact k
theorem L5 (i:Nat) (hi:ops[i]? =some ⟨d',op,ty,pos,af,none⟩) (E:oH ops bw i=true)
 (h:dS P N ⟨d',op,ty,pos,af,none⟩ σ w (fun σ w=>((bw.setIfInBounds i true).getD r false =false→S w)∧hY P N ops Q S r fuel (bw.setIfInBounds i true) σ w)):hY P N ops Q S r (fuel+1) bw σ w:=by
 have A:kP .any ops bw= [i]:=by simpa [oH] using E
 refine ⟨fun C=>absurd (A ▸ C) (by simp),fun k hk=> ?_⟩;rw [A] at hk;obtain rfl :k=i:=by simpa using hk
 unfold wpOp;simp only [hi];rw [if_pos (kh _ rfl _)];exact .inl<|sF h fun _ _ hk=>hk
theorem gS (i:Nat) (hi:ops[i]? =some ⟨d',op,ty,pos,af,none⟩) (A:oH ops bw i=true)
 (h:dS P N ⟨d',op,ty,pos,af,none⟩ σ w (fun σ w=>S w∧hY P N ops Q S r fuel (bw.setIfInBounds i true) σ w)):hY P N ops Q S r (fuel+1) bw σ w:=
 L5 i hi A (O1 h fun _ _ hk=>⟨fun _=>hk.1,hk.2⟩)
theorem dU (i:Nat) (hi:ops[i]? =some ⟨d',op,ty,pos,af,none⟩) (E:oH ops bw i=true) (C:(bw.setIfInBounds i true).getD r false =true)
 (h:dS P N ⟨d',op,ty,pos,af,none⟩ σ w (fun σ w=>hY P N ops Q S r fuel (bw.setIfInBounds i true) σ w)):hY P N ops Q S r (fuel+1) bw σ w:=
 L5 i hi E (O1 h fun _ _ hk=>⟨fun A=>absurd (A.symm.trans C) ep,hk⟩)
theorem eZ (C:(kP .any ops bw).isEmpty=true) (h:Q .normal σ w):hY P N ops Q S r fuel bw σ w:=by
 have A:kP .any ops bw= []:=by simpa using C
 cases fuel with
 | zero=>exact ⟨A,σ,rfl,h⟩
 | succ fuel=>exact ⟨fun _=>⟨σ,rfl,h⟩,by rw [A]; simp⟩
attribute [irreducible] hY
end
end Go.Hb
namespace Go.Hb
section
variable {P:Program} {md:tU} {ops:Array Oper} {Q:Exit→Act→World→Prop} {S:World→Prop} {r:Nat}
inductive sX (md:tU) (ops:Array Oper) (i:Nat):Nat→Prop
 | one {r o e} :ops[r]? =some o→e∈o.after→lJ md e=true→e.on=i→sX md ops i r
 | more {r o e} :ops[r]? =some o→e∈o.after→lJ md e=true→sX md ops i e.on→sX md ops i r
def uh (md:tU) (ops:Array Oper) (bw:Array Bool):Prop := ∀ (j:Nat) (o:Oper),ops[j]? =some o→bw.getD j false =true→∀ e∈o.after,lJ md e=true→bw.getD e.on false =true
theorem Ld {bw:Array Bool} {j k:Nat} (h:bw.getD k false =true):(bw.setIfInBounds j true).getD k false =true :=by
 by_cases e:j=k
 · subst e;by_cases A:j < bw.size
   · simp [A]
   · simp [A] at h
 · rw [getD_set_ne false e]; exact h
theorem uh.set {bw:Array Bool} {j:Nat} (h:uh md ops bw) (I:j∈kP md ops bw):uh md ops (bw.setIfInBounds j true):=by
 intro k o hk E e he C;obtain ⟨_,O,J,G⟩:=mem_ready.1 I;by_cases A:j=k
 · subst A;rw [J] at hk; cases hk;exact Ld<|G e he C
 · rw [getD_set_ne false A] at E;exact Ld<|h k o hk E e he C
theorem sX.bw {bw:Array Bool} {i r:Nat} (hd:sX md ops i r) (E:uh md ops bw) (A:∀ o,ops[r]? =some o→∀ e∈o.after,lJ md e=true→bw.getD e.on false =true):bw.getD i false =true :=by
 induction hd with
 | one h1 h2 h3 h4=>rw [← h4]; exact A _ h1 _ h2 h3
 | more h1 h2 h3 _ I=>exact I fun o G e he C=>E _ o G (A _ h1 _ h2 h3) e he C
theorem adM {i:Nat} {E:Oper} {v:Value} (hi:ops[i]? =some E) (am:∀ (j:Nat) (o:Oper) cs b,ops[j]? =some o→o.op≠.select cs b)
 (ap:∀ c a w,Q (.panic c) (a.put E.dst v) w→Q (.panic c) a w) (hd:sX md ops i r) (av:i≠r):
 ∀ (fuel:Nat) (bw:Array Bool) (a:Act) (w:World),uh md ops bw→
   (∀ j G,ops[j]? =some G→j≠i→bw.getD j true =false→(∀ x∈G.after,lJ md x=true→x.on≠i)→E.apart ops G=true)→
   i∈kP md ops bw→YieldsIf P ops S E v a→S w→bw.getD r false =false→
   rl P md ops Q S r fuel (bw.setIfInBounds i true) (a.put E.dst v) w→rl P md ops Q S r (fuel+1) bw a w:=by
 intro fuel
 induction fuel with
 | zero=>
   intro bw a w _ _ C V I _ H;refine ⟨fun h=>(by rw [h] at C; cases C),fun j J=> ?_⟩;by_cases A:j=i
   · subst A; exact V.wpOp hi I ⟨fun _=>I,H⟩
   · have :=ready_mono J A;rw [H.1] at this;cases this
 | succ fuel aB=>
   intro bw a w ab ac C V I aj H;refine ⟨fun h=>(by rw [h] at C; cases C),fun j J=> ?_⟩;by_cases A:j=i
   · subst A; exact V.wpOp hi I ⟨fun _=>I,H⟩
   · have h1:=H.2 j<|ready_mono J A;obtain ⟨ai,G,O,aa⟩:=mem_ready.1 J;have ae:bw.getD i false =false :=by
      have Z:=(mem_ready.1 C).1;rcases fM i bw.size with Y | Y
      · simpa [Y] using Z
      · simp [Y] at Z
     have az:∀ x∈G.after,lJ md x=true→x.on≠i:=fun x aA aq heq=>by
      have h1:=aa x aA aq;rw [heq,ae] at h1; cases h1
     have ah:j≠r:=by
      rintro rfl;have :=hd.bw ab fun o al=>by rw [O] at al; cases al; exact aa
      rw [ae] at this; cases this
     have ax:(bw.setIfInBounds j true).getD r false =false :=by rw [getD_set_ne false ah]; exact aj
     have ak:((bw.setIfInBounds i true).setIfInBounds j true).getD r false =false :=by rw [getD_set_ne false ah,getD_set_ne false av]; exact aj
     have h2:=wpOp_putIf O (ac j G O A ai az) (fun cs b=>am i E cs b hi) (fun cs b=>am j G cs b O) ap V h1;have au:∀ k ok,ops[k]? =some ok→k≠i→(bw.setIfInBounds j true).getD k true =false→
      (∀ x∈ok.after,lJ md x=true→x.on≠i)→E.apart ops ok=true :=fun k ok hk aw an ay=>by
      refine ac k ok hk aw ?_ ay;by_cases ag:j=k
      · subst ag; exact ai
      · rw [getD_set_ne true ag] at an; exact an
     refine wpOp_mono (fun ao w' h3=>⟨fun _=>h3.2.1 ak,aB (bw.setIfInBounds j true) ao w' (ab.set J) au (ready_mono C<|Ne.symm A) h3.1 (h3.2.1 ak) ax ?_⟩) h2;rw [Gd _ _ A];exact h3.2.2
theorem adO {i:Nat} {E:Oper} {v:Value} (hi:ops[i]? =some E) (ai:∀ (j:Nat) (o:Oper) cs b,ops[j]? =some o→o.op≠.select cs b)
 (al:∀ c a w,Q (.panic c) (a.put E.dst v) w→Q (.panic c) a w) (Y:i≠r):
 ∀ (fuel:Nat) (bw:Array Bool) (a:Act) (w:World),
   (∀ j G,ops[j]? =some G→j≠i→bw.getD j true =false→(∀ x∈G.after,lJ md x=true→x.on≠i)→E.apart ops G=true)→
   i∈kP md ops bw→YieldsIf P ops (fun _=>True) E v a→(bw.getD r false =false→S w)→
   rl P md ops Q S r fuel (bw.setIfInBounds i true) (a.put E.dst v) w→rl P md ops Q S r (fuel+1) bw a w:=by
 intro fuel
 induction fuel with
 | zero=>
   intro bw a w _ C J V H;refine ⟨fun h=>(by rw [h] at C; cases C),fun j I=> ?_⟩;by_cases A:j=i
   · subst A; exact J.wpOp hi trivial ⟨fun h=>V (by rw [getD_set_ne false Y] at h; exact h),H⟩
   · have :=ready_mono I A;rw [H.1] at this;cases this
 | succ fuel ax=>
   intro bw a w ac C J V H;refine ⟨fun h=>(by rw [h] at C; cases C),fun j I=> ?_⟩;by_cases A:j=i
   · subst A; exact J.wpOp hi trivial ⟨fun h=>V (by rw [getD_set_ne false Y] at h; exact h),H⟩
   · have h1:=H.2 j<|ready_mono I A;obtain ⟨ah,G,Z,am⟩:=mem_ready.1 I;have ap:bw.getD i false =false :=by
      have aa:=(mem_ready.1 C).1;rcases fM i bw.size with O | O
      · simpa [O] using aa
      · simp [O] at aa
     have av:∀ x∈G.after,lJ md x=true→x.on≠i:=fun x aw an heq=>by
      have h1:=am x aw an;rw [heq,ap] at h1; cases h1
     have h2:=wpOp_putIf Z (ac j G Z A ah av) (fun cs b=>ai i E cs b hi) (fun cs b=>ai j G cs b Z) al J h1;have ao:∀ k ok,ops[k]? =some ok→k≠i→(bw.setIfInBounds j true).getD k true =false→
      (∀ x∈ok.after,lJ md x=true→x.on≠i)→E.apart ops ok=true :=fun k ok hk aq aj au=>by
      refine ac k ok hk aq ?_ au;by_cases ag:j=k
      · subst ag; exact ah
      · rw [getD_set_ne true ag] at aj; exact aj
     have ab:(bw.setIfInBounds i true).setIfInBounds j true =(bw.setIfInBounds j true).setIfInBounds i true :=Gd _ _ fun e=>A e.symm;have ae:(bw.setIfInBounds j true).getD r false =false→((bw.setIfInBounds i true).setIfInBounds j true).getD r false =false :=fun h=>by rw [ab,getD_set_ne false Y]; exact h
     refine wpOp_mono (fun ak w' h3=>⟨fun h=>h3.2.1 (ae h),ax (bw.setIfInBounds j true) ak w' ao (ready_mono C<|Ne.symm A) h3.1 (fun h=>h3.2.1<|ae h) ?_⟩) h2;rw [← ab];exact h3.2.2
end
section
variable {P:Program} {N:Fm} {ops:Array Oper} {Q:Exit→(Nat→Value)→World→Prop} {σ:Nat→Value} {w:World} {S:World→Prop} {r fuel:Nat} {bw:Array Bool}
 {d:Nat} {op:Op} {ty:TypeId} {pos :String} {af:Array Edge} {v:Value}
def zn (ops:Array Oper) (i:Nat):Nat→Nat→Bool
 | 0,_=>false
 | f+1,r=>match ops[r]? with | some o=>o.after.toList.any (fun e=>lJ .any e && (e.on==i || zn ops i f e.on)) | none=>false
theorem VA {i:Nat} :∀ (f r:Nat),zn ops i f r=true→sX .any ops i r:=by
 intro f
 induction f with
 | zero=>intro r h; cases h
 | succ f E=>
   intro r h;rw [zn] at h;split at h
   · rename_i o C;simp only [BB,jl,Gh,beq_iff_eq] at h;obtain ⟨e,he,A,h⟩:=h;rcases h with h | h
     · exact .one C (yf.1 he) A h
     · exact .more C (yf.1 he) A<|E _ h
   · cases h
def CY (ops:Array Oper) (bw:Array Bool):Bool:=(gX ops.size).all fun j=> !bw.getD j false || match ops[j]? with | some o=>o.after.toList.all (fun e=> !lJ .any e || bw.getD e.on false) | none=>true
theorem Ul (h:CY ops bw=true):uh .any ops bw:=by
 intro j o A E e he C;unfold CY at h;rw [mz] at h;have h1:=h j<|pW.2 (dO.1 A).1;rw [E,A] at h1;simp only [Bool.not_true,Bool.false_or,mz,Gh,Bs] at h1;rcases h1 e (yf.2 he) with h2 | h2
 · rw [C] at h2; cases h2
 · exact h2
def DP (F:List Nat) (ops:Array Oper) (bw:Array Bool) (r i:Nat):Bool:=kI F ops bw i && !(bw.getD r false) && i !=r && CY ops bw && zn ops i ops.size r
def xq (F:List Nat) (ops:Array Oper) (bw:Array Bool) (r i:Nat):Bool:=kI F ops bw i && i !=r
theorem k8 (i:Nat) (hi:ops[i]? =some ⟨some d,op,ty,pos,af,none⟩) (C:DP N.F ops bw r i=true)
 (I:∀ w,S w→(execOp (ev N σ) ⟨some d,op,ty,pos,af,none⟩).run P w= .ok (.value v) w) (A:S w)
 (k:hY P N ops Q S r fuel (bw.setIfInBounds i true) (dT σ d v) w):hY P N ops Q S r (fuel+1) bw σ w:=by
 simp only [DP,kI,jl,Bs,bne_iff_ne,ne_eq] at C;obtain ⟨⟨⟨⟨⟨⟨⟨E,G⟩,hf3⟩,hfF⟩,hf4⟩,hf5⟩,hf6⟩,hf7⟩:=C;rw [hi] at hfF;unfold hY at*;refine adM hi (Gw E) (fun c a w=>tv hfF c a w) (VA _ _ hf7) hf5 fuel bw _ w (Ul hf6) (Gv hi G) (by simpa using hf3) (.inl ⟨kh _ rfl _,fun w A=> ?_⟩) A hf4 ?_ (v:=v)
 · rw [jD]; exact I w A
 · rw [ll]; exact k
theorem dH (i:Nat) (hi:ops[i]? =some ⟨some d,op,ty,pos,af,none⟩) (A:xq N.F ops bw r i=true)
 (I:∀ w,(execOp (ev N σ) ⟨some d,op,ty,pos,af,none⟩).run P w= .ok (.value v) w) (C:bw.getD r false =false→S w)
 (k:hY P N ops Q S r fuel (bw.setIfInBounds i true) (dT σ d v) w):hY P N ops Q S r (fuel+1) bw σ w:=by
 simp only [xq,kI,jl,bne_iff_ne,ne_eq] at A;obtain ⟨⟨⟨⟨E,G⟩,hf3⟩,hfF⟩,hf5⟩:=A;rw [hi] at hfF;unfold hY at*;refine adO hi (Gw E) (fun c a w=>tv hfF c a w) hf5 fuel bw _ w (Gv hi G) (by simpa using hf3) (.inl ⟨kh _ rfl _,fun w _=> ?_⟩) C ?_ (v:=v)
 · rw [jD]; exact I w
 · rw [ll]; exact k
end
end Go.Hb
namespace Go.Hb
def OH:Nat→Nat→List UInt8
 | 0,n=> [ky n]
 | f+1,n=>if n < 128 then [ky n] else ky (n % 128 +128)::OH f (n / 128)
def ac8 (n:Nat):List UInt8:=OH n n
def frame:List (List UInt8)→List UInt8
 | []=> []
 | r::l=>ac8 r.length++(r++frame l)
theorem fV {α:Type} (l:List α) (i:Nat) (d:α) (h:i < l.length):l.take (i+1)=l.take i++ [l.getD i d]:=by
 rw [List.take_succ_eq_append_getElem h]; simp [cX,h]
end Go.Hb
namespace Go.Hb
def U8 (l:List UInt8):List Value:=l.map fun b=>gP .u8 b.toNat
theorem yL (l:List UInt8):(U8 l).length=l.length:=by simp [U8]
theorem yK (a b:List UInt8):U8 (a++b)=U8 a++U8 b:=by simp [U8]
theorem QL (l:List UInt8):(U8 l).all gw=true :=by
 rw [mz];intro u hu;simp only [U8,jn] at hu;obtain ⟨b,_,rfl⟩:=hu;rfl
def yX (P:Program) (t e u:TypeId):Bool:=
 gp P t e 1 1 && (match P.underlying e with | some (.int .u8)=>true | _=>false) && (match P.underlying u with | some .string=>true | _=>false) &&
  (match P.info? e with | some i=>(match i.zero with | some (.int .u8 0)=>true | _=>false) | none=>false)
theorem Rz {P:Program} {t e u:TypeId} (h:yX P t e u=true):
 gp P t e 1 1=true∧P.underlying e=some (.int .u8)∧P.underlying u=some .string∧∃ i,P.info? e=some i∧i.zero=some (.int .u8 0):=by
 simp only [yX,jl] at h;obtain ⟨⟨⟨h1,h2⟩,h3⟩,h4⟩:=h;refine ⟨h1,?_,?_,?_⟩
 · split at h2
   · rename_i h; exact h
   · cases h2
 · split at h3
   · rename_i h; exact h
   · cases h3
 · split at h4
   · rename_i i hi;split at h4
     · rename_i h; exact ⟨i,hi,h⟩
     · cases h4
   · cases h4
section
variable {P:Program} {N:Fm} {σ:Nat→Value} {w:World} {dst:Option Nat} {ty:TypeId} {pos :String} {af:Array Edge} {g:Option (Nat×Bool)} {x y z:Operand} {K:(Nat→Value)→World→Prop}
theorem foldl_push (l:List UInt8) (r:ByteArray):(l.map fun b=>(b.toNat:Int)).foldl (fun r n=>r.push<|ky n.toNat) r=⟨r.data++l.toArray⟩:=by
 induction l generalizing r with
 | nil=>simp
 | cons b l A=>
   simp only [sT,sQ];rw [A];apply ByteArray.ext;simp [ByteArray.push]
theorem ot {t e u n c:Nat} {a:Option Addr} {l:List UInt8} (h:yX P t e u=true) (O:ev N σ x= .slice a n c) (A:aM w.heap a (U8 l)) (C:l.length=n):
 (execOp (ev N σ) ⟨dst,.convert t u x,ty,pos,af,g⟩).run P w= .ok (.value<|str l) w:=by
 obtain ⟨h1,h2,h3,_⟩:=Rz h;obtain ⟨hu,_⟩:=sw h1;have G:(Po<|.slice a n c).run P w= .ok (str l) w:=by
  by_cases he:l= []
  · subst he;cases a with
    | none=>simp [Po,str]; rfl
    | some a=>
      subst C;have :=run_bytesToString (P:=P) w a 0 c []<|by simp [loadCells,loadCellsFrom]
      exact this.trans aa
  · have E:=A.ok<|by simpa [U8] using he
    have J:(loadCells ⟨bk a,fo a,none⟩ n).run P w= .ok ((l.map fun b=>(b.toNat:Int)).map<|gP .u8).toArray w:=by
     subst C;have :=run_loadCells_list (P:=P) w ⟨bk a,fo a,none⟩ (U8 l) fun j v I=>by
      rw [nm,o7];exact A.aW j v I
     rw [yL] at this;rw [this];simp [U8]
    rw [E,run_bytesToString w _ n c _ J,foldl_push];simp [str,ByteArray.empty,ByteArray.emptyWithCapacity];rfl
 simp [execOp,O,run_convert_bytes_string w t u e a n c hu h2 h3,G]
theorem usd {at_:Array TypeId} {v:Value} {a:Option Addr} {n c:Nat} (A:ev N σ x= .slice a n c) (h:a=none∨c≠0):
 (execOp (ev N σ) ⟨dst,.call ⟨.builtin .unsafeSliceData,#[x],at_⟩,ty,pos,af,g⟩).run P w= .ok (.value<|.pointer a) w:=by
 have _:=v;have :(Builtin.unsafeSliceData_ at_ ty #[.slice a n c]).run P w= .ok (.pointer a) w:=by
  cases a with
  | none=>exact Lib.run_unsafeSliceData_nil w at_ ty n c
  | some a=>exact Lib.run_unsafeSliceData_row w at_ ty a n c<|h.resolve_left<|by simp
 simp [execOp,resolve,invoke,builtin,A,this]
def ptrTo (P:Program) (C e:TypeId):Bool:=match P.underlying C with | some (.pointer A)=>A==e && P.cellsOf e==1 | _=>false
theorem usg {G it e B n c:Nat} {a:Option Addr} {l:List UInt8} {xs:List Value} (hp:ptrTo P G e=true) (O:ev N σ x= .pointer a) (V:ev N σ y= .int .i64 n) (E:w.ownsRow B e 1 (.slice a n c) n xs)
 (al:xs=U8 l) (am:n≤9223372036854775807)
 (k:∀ w',Md (fun k=>(bW a n c).ownBlock=some k) w w'→w'.heap.size=w.heap.size→K (gH σ dst<|str l) w'):
 dS P N ⟨dst,.call ⟨.builtin .unsafeString,#[x,y],#[G,it]⟩,ty,pos,af,g⟩ σ w K:=by
 subst al;have A:l.length=n:=by have :=E.1; simpa [U8] using this
 unfold ptrTo at hp;split at hp
 case h_2=>cases hp
 rename_i I hu;simp only [jl,beq_iff_eq] at hp;obtain ⟨rfl,Z⟩:=hp;by_cases he:l= []
 · subst he;obtain rfl :n=0:=A.symm;refine nf (w':=w) (v:=str []) ?_<|k w (Md.refl _ _) aa;simp [execOp,resolve,invoke,builtin,O,V,Lib.run_unsafeString_none];rfl
 · rcases E.2 with ⟨h,Y⟩ | ⟨C,cap,cur,h,_,ae,hle,_,ak,an⟩
   · subst Y; simp only [List.length_eq_zero_iff] at A; exact absurd A he
   · simp only [nT,true_and] at h;obtain ⟨rfl,rfl⟩:=h;have aj:w.shape? C=some (I,cur.size):=by simp [GG,ae]
     have ai:=Lib.run_unsafeString_row (P:=P) w G it ty I hu Z C cur.size aj l he (by rw [A,ak]; omega) ab (fun j u hu=>by
      obtain ⟨ad,cp,J,ac,_,hk,_⟩:=vk E;simp only [nT,true_and] at J;obtain ⟨rfl,rfl⟩:=J;rw [nm,o7];exact ac.aW j _ (by simp [U8,hu]))
     refine nf (w':=w.freeze ⟨C,0,none⟩ l.length) (v:=str l) ?_ (k _ ⟨?_,?_,?_,?_⟩ ?_)
     · simp [execOp,resolve,invoke,builtin,O,V,← A,ai,str]
     · unfold yr; split <;> rfl
     · unfold yr; split <;> rfl
     · unfold yr; split <;> simp
     · intro k hk ag;have ah:k≠C:=fun e=>ag<|by simp [jN,e]
       unfold yr;split
       · rfl
       · simp only [Array.getElem?_modify]; rw [if_neg (fun e=>ah e.symm)]
     · unfold yr; split <;> simp
def ya (P:Program) (C up e n:Nat):Bool:=
 (match P.underlying C with | some (.pointer A)=>A==e | _=>false) && (match P.underlying up with | some .unsafePointer=>true | _=>false) && P.cellsOf e==n && iL 0 n && (match P.info? e with | some i=>i.size==n | _=>false)
theorem OK {P:Program} {A up e n:Nat} (h:ya P A up e n=true):P.underlying A=some (.pointer e)∧P.underlying up=some .unsafePointer∧P.cellsOf e=n∧0 < n∧∃ i,P.info? e=some i∧i.size=n:=by
 simp only [ya,jl] at h;obtain ⟨⟨⟨⟨h1,h2⟩,h3⟩,h4⟩,h5⟩:=h;refine ⟨?_,?_,by simpa using h3,ue (vT 0) (sU h4),?_⟩
 · split at h1
   · rename_i h; simp only [beq_iff_eq] at h1; rw [h,h1]
   · cases h1
 · split at h2
   · rename_i h; exact h
   · cases h2
 · split at h5
   · rename_i i hi; exact ⟨i,hi,by simpa using h5⟩
   · cases h5
theorem toU {A up e n b:Nat} {L:List Value} (h:ya P A up e n=true) (J:ev N σ x= .pointer (some ⟨b,0,none⟩)) (C:w.heap[b]? =some (.cells L.toArray e (0,0))) (E:L.length=n):
 (execOp (ev N σ) ⟨dst,.convert A up x,ty,pos,af,g⟩).run P w= .ok (.value<|.pointer<|some ⟨b,0,none⟩) w:=by
 obtain ⟨h1,h2,h3,h4,i,hi,hs⟩:=OK h;have I:w.shape? b=some (e,L.length):=by simp [GG,C]
 have G:¬n=0:=ab;simp [execOp,J,convert,ee h1,ee h2,Pq,Pp,viewAt,I,cellsIn,E,sizeOf,jx hi,hs,G]
theorem Xf {C up e n b:Nat} {L:List Value} (h:ya P C up e n=true) (O:ev N σ x= .pointer (some ⟨b,0,none⟩)) (E:w.heap[b]? =some (.cells L.toArray e (0,0))) (G:L.length=n):
 (execOp (ev N σ) ⟨dst,.convert up C x,ty,pos,af,g⟩).run P w= .ok (.value<|.pointer<|some ⟨b,0,none⟩) w:=by
 obtain ⟨h1,h2,h3,h4,i,hi,hs⟩:=OK h;have J:w.shape? b=some (e,L.length):=by simp [GG,E]
 have A:¬n=0:=ab;have I:liesAt P P.depth e (L.length / P.cellsOf e) 0 e 1=true :=by
  have hd:P.depth=(2 *(P.types.size+Made.depth)+1)+1:=rfl;rw [hd];simp only [liesAt,Gh];left;rw [hd];simp [rowAt,h3,A,G,sameLayout,Nat.div_self h4]
 simp [execOp,O,convert,ee h1,ee h2,Pq,Pp,viewAt,J,variablesAt,sizeOf,jx hi,hs,A,I]
theorem Z5 {t E e:TypeId} {a:Addr} (hu:P.underlying t=some (.pointer e)) (hs:(P.info? e).isSome=true) (A:ev N σ x= .pointer (some a)) (C:ev N σ y= .pointer (some a)):
 (execOp (ev N σ) ⟨dst,.binOp .neq t x y E,ty,pos,af,g⟩).run P w= .ok (.value<|.bool false) w:=by
 obtain ⟨i,hi⟩:=nX.1 hs;have he:∀ d,(rB (d+1) t (.pointer<|some a)<|.pointer<|some a).run P w= .ok true w:=by
  intro d;simp [rB,ee hu,sizeOf,jx hi,sameAddr]
 have h:(binOp .neq t (.pointer<|some a)<|.pointer<|some a).run P w= .ok (.bool false) w:=by
  have :=he 9999;simp only [binOp];have h2:(Gr t (.pointer<|some a)<|.pointer<|some a).run P w= .ok true w:=this;simp [h2]
 simp [execOp,A,C,eqGuard,h]
theorem UD {f:FuncId} {args:Array Operand} {A:Array TypeId} {v:Value} (E:∀ v w,(callFunc f #[v]).run P w= .ok (.value v) w) (C:args.toList.map (ev N σ)= [v]):
 (execOp (ev N σ) ⟨dst,.call ⟨.value (.func f),args,A⟩,ty,pos,af,g⟩).run P w= .ok (.value v) w:=by
 have :args.map (ev N σ)= #[v]:=by rw [← Bp,nR,C]
 simp [execOp,resolve,ev,sJ,invoke,this,E]
structure Bd (T e:TypeId) (w:World) (b:Nat) (buf:Value) (l:List UInt8):Prop where
 aT:∃ pa,w.heap[b]? =some (.cells [By pa,buf].toArray T (0,0))∧(pa=none∨pa=some ⟨b,0,none⟩)
 own:w.ownsRow (b+1) e 1 buf l.length (U8 l)
 nil:buf= .slice none 0 0↔l= []
def BF (b:Nat) (A:Value) (k:Nat):Prop :=k=b∨A.ownBlock=some k
end
theorem Bd.lt {T e b:Nat} {w:World} {A:Value} {l:List UInt8} (h:Bd T e w b A l):b < w.heap.size:=let ⟨_,h,_⟩:=h.aT; (dO.1 h).1
theorem Bd.jS {T e b:Nat} {w:World} {A:Value} {l:List UInt8} (h:Bd T e w b A l) {k:Nat} (hk:BF b A k):b≤k∧k < w.heap.size:=by
 rcases hk with rfl | hk
 · exact ⟨cU _,h.lt⟩
 · have :=h.own.lt k hk; omega
theorem Bd.md {T e b:Nat} {F:Nat→Prop} {w w':World} {A:Value} {l:List UInt8} (h:Bd T e w b A l) (hm:Md F w w') (C:∀ k,BF b A k→¬F k):Bd T e w' b A l:=by
 obtain ⟨⟨E,h1,h2⟩,h3,h4⟩:=h;exact ⟨⟨E,hm.aT h1 (C b<|.inl aa),h2⟩,dw h3 hm (fun k hk=>C k<|.inr hk),h4⟩
end Go.Hb
namespace Go.Hb
def iu (P:Program) (t:TypeId):Option (List (Nat×Nat)×List Value):=
 match P.info? t,P.underlying t with
 | some it,some (.struct fields)=>
   match it.zero,fields.toList.mapM (fun f=>(P.info? f.type).map fun i=>(f.offset,i.size)) with
   | some z,some pl=>some (pl,z.cells.toList)
   | _,_=>none
 | _,_=>none
def xN (pl:List (Nat×Nat)):List Value→List (Nat×Value)→Option (List Value)
 | A,[]=>some A
 | A,(i,v)::r=>match pl[i]? with
   | some (off,s)=>if (s==1 && v.oneCell' && iL off A.length)=true then xN pl (A.set off v) r else none
   | none=>none
theorem aa0 {pl:List (Nat×Nat)} {A L:List Value} {ps:List (Nat×Value)} (h:xN pl A ps=some L):nS (pl.toArray[·]?) A.toArray ps=some L.toArray:=by
 induction ps generalizing A with
 | nil=>simp only [xN,gD] at h; subst h; rfl
 | cons p ps I=>
   obtain ⟨i,v⟩:=p;simp only [xN] at h;split at h
   · rename_i off s hs;split at h
     · rename_i C;simp only [jl,beq_iff_eq] at C;obtain ⟨⟨rfl,h1⟩,ho⟩:=C;have J:off < A.length:=sU ho;have G:v.cells= #[v]:=sn h1;have E:pl.toArray[i]? =some (off,1):=by simpa using hs
       simp only [nS,E,G];rw [if_neg (by simp; omega),← I h];simp
     · cases h
   · cases h
theorem mL {α:Type} {f:α→List Value} {m:Nat} (A:∀ a,(f a).length=m) (l:List α):(l.flatMap f).length=l.length*m:=by
 induction l with
 | nil=>simp
 | cons x l C=>simp [C,A,rG,Nat.add_comm]
theorem zE {α:Type} {f:α→List Value} {m:Nat} (A:∀ a,(f a).length=m) {l:List α} {j c:Nat} {a:α} (h:l[j]? =some a) (C:c < m):(l.flatMap f)[j*m+c]? =(f a)[c]? :=by
 induction l generalizing j with
 | nil=>simp at h
 | cons x l E=>
   cases j with
   | zero=>
     simp only [List.getElem?_cons_zero,gD] at h; subst h;rw [GR,iM,ku,ng (by rw [A]; exact C)]
   | succ j=>
     simp only [P3] at h;rw [ku,nV (by rw [A,rG]; omega),A,show (j+1)*m+c - m=j*m+c from by rw [rG]; omega];exact E h
theorem fC {α:Type} {f:α→List Value} {m:Nat} (A:∀ a,(f a).length=m) {h:Array Obj} {a:Option Addr} {l:List α} {i:Nat} {e:α} (E:aM h a (l.flatMap f)) (G:l[i]? =some e):∀ j,j < m→Hb.aW h (bk a) (fo a+i*m+j)=(f e)[j]? :=by
 intro j C;have h1:=zE A G C;have h2:j < (f e).length:=by rw [A]; exact C
 rw [cx h2] at h1 ⊢;rw [Qn]; exact E.aW _ _ h1
theorem Dt {α:Type} {f:α→List Value} {m:Nat} (A:∀ a,(f a).length=m) (hm:0 < m) {l:List α} (h:0 < l.length):l.flatMap f≠[]:=by
 intro e;have :=mL A l;rw [e] at this;have :0 < l.length*m:=Nat.mul_pos h hm;simp at*; omega
theorem Kz {α:Type} {f:α→List Value} {m:Nat} (A:∀ a,(f a).length=m) {l:List α} {j:Nat} (x:α) (h:j < l.length):(l.set j x).flatMap f=(l.flatMap f).take (j*m)++f x++(l.flatMap f).drop (j*m+m):=by
 induction l generalizing j with
 | nil=>simp at h
 | cons y l C=>
   cases j with
   | zero=>
     simp only [List.set_cons_zero,ku,GR,mA,qA,iM];rw [PT,PW (by rw [A]; exact cU _),A]; simp
   | succ j=>
     simp only [cV] at h;rw [List.set_cons_succ,ku,C ab,ku,yD,PT,A,e9 (l:=f y) (by rw [A,rG]; omega),PW (l:=f y) (by rw [A,rG]; omega),
      show (j+1)*m - m=j*m from by rw [rG]; omega,show (j+1)*m+m - m=j*m+m from by rw [rG]; omega]
     simp
theorem Du {α:Type} {f:α→List Value} (A:∀ a,(f a).all gw=true) (l:List α):(l.flatMap f).all gw=true :=by
 simp only [List.all_flatMap,mz]; intro x _; exact mz.1<|A x
section
variable {P:Program} {N:Fm} {σ:Nat→Value} {w:World} {dst:Option Nat} {ty:TypeId} {pos :String} {af:Array Edge} {g:Option (Nat×Bool)} {x y z:Operand} {K:(Nat→Value)→World→Prop}
theorem dj {t:TypeId} {parts:Array (Nat×Operand)} {pl:List (Nat×Nat)} {A L:List Value} {ps:List (Nat×Value)} (h:iu P t=some (pl,A)) (hp:parts.toList.map (fun p=>(p.1,ev N σ p.2))=ps) (C:xN pl A ps=some L):
 (execOp (ev N σ) ⟨dst,.build t parts,ty,pos,af,g⟩).run P w= .ok (.value<|.agg L.toArray) w:=by
 unfold iu at h;split at h
 · rename_i it fields hi hu;split at h
   · rename_i z I G hm;simp only [gD,ug] at h;obtain ⟨rfl,rfl⟩:=h;have E:P.built t (parts.map fun p=>(p.1,ev N σ p.2)).toList=some L.toArray:=by
      have :=aa0 C;simp only [Bn] at this;simp only [Program.built,hi,hu,G,hm,nR,hp]; exact this
     simp [execOp,run_build w t _ _ E]
   · cases h
 · cases h
end
end Go.Hb
namespace Go.Hb
section
variable {P:Program} {N:Fm} {σ:Nat→Value} {w:World} {dst:Option Nat} {ty:TypeId} {pos :String} {af:Array Edge} {g:Option (Nat×Bool)} {x y z:Operand} {K:(Nat→Value)→World→Prop}
theorem ZB {zv:Value} (h1:zv.oneCell'=true) (n:Nat):madeCells zv.cells n=(kR n zv).toArray:=by
 rw [sn h1];apply Array.ext
 · simp [madeCells]
 · intro i h2 h3;simp [madeCells,Nat.mod_one]
theorem ZY {t e bytes n:Nat} {J I:IntKind} {zv:Value} (Z:gp P t e 1 bytes=true) (A:zeroOf P e=some (some [zv])) (h1:zv.oneCell'=true) (ac:ev N σ x= .int J n) (ae:ev N σ y= .int I n) (ah:bytes*n≤281474976710656) (C:n≤maxLen)
 (k:∀ b w',b=w.heap.size→Nw w w'→(∀ B,B≤b→w'.ownsRow B e 1 (.slice (some ⟨b,0,none⟩) n n) n (kR n zv))→K (gH σ dst<|.slice (some ⟨b,0,none⟩) n n) w'):dS P N ⟨dst,.makeSlice t x y,ty,pos,af,g⟩ σ w K:=by
 obtain ⟨hu,i,O,hi,G,hs,Y,aj,ai⟩:=sw Z;have ag:O.cells= #[zv]:=by
  unfold zeroOf at A;simp only [hi,G,lL,gD] at A;exact Bp.1<|by simpa using A
 refine oN (v:=fun b=> .slice (some ⟨b,0,none⟩) n n) (ob:= .cells (kR n zv).toArray e (0,0)) ?_ fun b w' h2 h3 h4=>k b w' h2 h3 fun B V=>⟨by simp,.inr ⟨b,n,_,aa,V,h4,cU _,C,by simp,by simp⟩⟩
 have E:=run_make (P:=P) w t e i O hu hi G J I n n ab (Int.le_refl _) (by rw [Y,← Int.natCast_mul]; omega)<|by unfold maxLen at C; omega
 rw [ag,hs,Nat.mul_one,kQ,show madeCells #[zv] n=(kR n zv).toArray by rw [← ZB h1,sn h1]] at E;simp [execOp,ac,ae,E]
end
end Go.Hb
namespace Go.Hb
section
variable {P:Program} {N:Fm} {σ:Nat→Value} {w:World} {dst:Option Nat} {ty:TypeId} {pos :String} {af:Array Edge} {g:Option (Nat×Bool)} {x y z:Operand}
theorem T8 {t n len cap i:Nat} {a:Option Addr} {k k':IntKind} (he:gL P t=some n) (E:ev N σ x= .slice a len cap) (G:ev N σ y= .int k (i:Nat)) (I:ev N σ z= .int k' (i:Nat)) (h:i≤cap):
 (execOp (ev N σ) ⟨dst,.slice t x none (some y) (some z),ty,pos,af,g⟩).run P w= .ok (.value<|.slice a i i) w:=by
 have A:(0:Int)≤(i:Int):=ab;unfold gL at he;cases hd:P.underlying t with
 | none=>rw [hd] at he; cases he
 | some d=>
   rw [hd] at he;cases d <;> first | (cases he; done) | skip
   rename_i e;cases hi':P.info? e with
   | none=>simp [hi'] at he
   | some j=>
     have C:(if i=0 then a else a.map (·.add 0))=a:=by
      split
      · rfl
      · cases a <;> simp [Bt]
     simp only [execOp,tS,yj,E,G,I,lL,Option.map_none,qu,tT,asIntOf];simp [ee hd,jx hi',sizeOf,A,C];intro J; omega
end
end Go.Hb
namespace Go.Hb
def sY (h:Array Obj) (b:Nat) (kvs:List (Value×Value)):Prop := ∃ es clock,h[b]? =some (.map es clock)∧es.toList.map (fun e=>(e.key,e.val))=kvs
theorem sY.md {F:Nat→Prop} {w w':World} {b:Nat} {kvs:List (Value×Value)} (h:sY w.heap b kvs) (hm:Md F w w') (A:¬F b):sY w'.heap b kvs:=
 let ⟨es,c,h1,h2⟩:=h; ⟨es,c,hm.aT h1 A,h2⟩
structure vY (P:Program) (k:TypeId) (isK:Value→Prop):Prop where
 check:∀ em w v,isK v→(pQ em 10000 k v).run P w= .ok () w
 find:∀ w x es,isK x→(∀ e∈es,isK e.key)→
  ((tQ k x es).run P w= .ok none w∧∀ e∈es,e.key≠x)∨∃ j e,(tQ k x es).run P w= .ok (some (j,e.val)) w∧es[j]? =some e∧e.key=x
theorem TW {P:Program} {k:TypeId} {q:IntKind} {em:Bool} {n:Nat} {a:Int} (hk:P.underlying k=some (.int q)) (w:World):(pQ em (n+1) k<|.int .i64 a).run P w= .ok () w:=by
 simp only [pQ,oR,ee hk,oQ,rC]
theorem IH {P:Program} {k:TypeId} {em:Bool} {n:Nat} {a:List UInt8} (hk:P.underlying k=some .string) (w:World):(pQ em (n+1) k<|str a).run P w= .ok () w:=by
 simp only [str,pQ,oR,ee hk,oQ,rC]
theorem aaI {P:Program} {t:TypeId} {cs:Array Value} {o:Nat} {v:Value} {d:TypeDesc} (A:P.underlying t=some d) (hd:(match d with | .bool | .string=>true | _=>false)=true) (C:cs[o]? =some v) (w:World):(part t cs o).run P w= .ok v w:=by
 cases d <;> first | (cases hd; done) | simp [part,isAgg,ee A,C]
def zeroV (P:Program) (e:TypeId):Option Value:=(P.info? e).bind (·.zero)
theorem yc {P:Program} {e:TypeId} {z:Value} (h:zeroV P e=some z) (w:World):(zeroValue e).run P w= .ok z w:=by
 unfold zeroV at h;simp only [Option.bind_eq_some_iff] at h;obtain ⟨i,hi,A⟩:=h;simp [zeroValue,jx hi,A]
section
variable {P:Program} {N:Fm} {σ:Nat→Value} {w:World} {dst:Option Nat} {ty:TypeId} {pos :String} {af:Array Edge} {g:Option (Nat×Bool)} {x y z:Operand} {K:(Nat→Value)→World→Prop}
variable {t k e:TypeId} {isK:Value→Prop} {b:Nat} {kvs:List (Value×Value)} {kx v:Value}
theorem Dh {es:Array MapEntry} (h:es.toList.map (fun e=>(e.key,e.val))=kvs) (hk:∀ p∈kvs,isK p.1):∀ e∈es.toList,isK e.key:=fun e he=>hk (e.key,e.val)<|by rw [← h]; exact ub he
theorem run_getObj_map {es:Array MapEntry} {c:Nat} (A:w.heap[b]? =some (.map es c)):(getObj b).run P w= .ok (.map es c) w:=by
 simp [getObj,Sem.run,A]
theorem aad {kvs:List (Value×Value)} (hn:(kvs.map iN).Nodup) {kx v A:Value} (h1:(kx,v)∈kvs) (h2:(kx,A)∈kvs):v=A:=by
 induction kvs with
 | nil=>simp at h1
 | cons p kvs C=>
   simp only [sT,BK] at hn;rcases fG.1 h1 with h1 | h1
   · rcases fG.1 h2 with h2 | h2
     · rw [← h1] at h2; cases h2; rfl
     · rw [← h1] at hn; exact absurd (ub (f:=iN) h2) hn.1
   · rcases fG.1 h2 with h2 | h2
     · rw [← h2] at hn; exact absurd (ub (f:=iN) h1) hn.1
     · exact C hn.2 h1 h2
theorem Zr {ok:Bool} (O:P.underlying t=some (.map k e)) (C:vY P k isK) (hm:sY w.heap b kvs) (hk:∀ p∈kvs,isK p.1) (Y:ev N σ x= .map (some b)) (Z:ev N σ y=kx) (hi:isK kx) (hn:(kvs.map iN).Nodup) (A:(kx,v)∈kvs):
 (execOp (ev N σ) ⟨dst,.lookup t x y ok,ty,pos,af,g⟩).run P w= .ok (.value (if ok then .tuple #[v,.bool true] else v)) w:=by
 obtain ⟨es,c,J,he⟩:=hm;rcases C.find w kx es.toList hi (Dh he hk) with ⟨_,h2⟩ | ⟨j,E,h1,h2,h3⟩
 · rw [← he] at A;obtain ⟨G,I,h4⟩:=jn.1 A;cases h4;exact absurd aa<|h2 G I
 · have V:(kx,E.val)∈kvs:=by rw [← he,← h3]; exact ub (f:=fun e:MapEntry=>(e.key,e.val))<|gC h2
   have :=aad hn A V;subst this;cases ok <;> simp [execOp,Py,ee O,Y,Z,run_getObj_map J,C.check _ w kx hi,h1]
theorem Zs {ok:Bool} {zv:Value} (G:P.underlying t=some (.map k e)) (O:zeroV P e=some zv) (A:vY P k isK) (hm:sY w.heap b kvs) (hk:∀ p∈kvs,isK p.1) (I:ev N σ x= .map (some b)) (J:ev N σ y=kx) (hi:isK kx) (hn:∀ v,(kx,v)∉kvs):
 (execOp (ev N σ) ⟨dst,.lookup t x y ok,ty,pos,af,g⟩).run P w= .ok (.value (if ok then .tuple #[zv,.bool false] else zv)) w:=by
 obtain ⟨es,c,E,he⟩:=hm;rcases A.find w kx es.toList hi (Dh he hk) with ⟨h1,_⟩ | ⟨j,C,h1,h2,h3⟩
 · cases ok <;> simp [execOp,Py,ee G,I,J,run_getObj_map E,A.check _ w kx hi,h1,yc O]
 · exact absurd (by rw [← he,← h3]; exact ub (f:=fun e:MapEntry=>(e.key,e.val))<|gC h2)<|hn C.val
end
end Go.Hb
namespace Go.Hb
def tag (w:World) (k:Nat):Nat:=match w.heap[k]? with | some (.cells _ t _)=>t+2 | some (.map _ _)=>1 | _=>0
theorem dN {w:World} {k t:Nat} {cs:Array Value} {z:Nat×Nat} (h:w.heap[k]? =some (.cells cs t z)):tag w k=t+2:=by unfold tag; rw [h]
theorem AW {w:World} {k:Nat} {kvs:List (Value×Value)} (h:sY w.heap k kvs):tag w k=1:=by
 obtain ⟨es,c,h,_⟩:=h;unfold tag; rw [h]
theorem FM {w:World} {B e size n k:Nat} {v:Value} {xs:List Value} (h:w.ownsRow B e size v n xs) (hk:v.ownBlock=some k):tag w k=e+2:=by
 rcases h.2 with ⟨rfl,_⟩ | ⟨g,cap,cur,rfl,_,A,_⟩
 · simp [jN] at hk
 · simp only [jN,gD] at hk; subst hk;exact dN A
def TF (w:World) (L:List Nat) (F:Nat→Prop):Prop := ∀ k,F k→L.contains (tag w k)=true
theorem TF.no {w:World} {L:List Nat} {F:Nat→Prop} (h:TF w L F) {k t:Nat} (C:tag w k=t) (A:L.contains t=false):¬F k:=fun hk=>by
 have :=h k hk;rw [C,A] at this; cases this
theorem TF.or {w:World} {L:List Nat} {F G:Nat→Prop} (h:TF w L F) (A:TF w L G):TF w L (fun k=>F k∨G k):=fun k hk=>by
 rcases hk with hk | hk
 · exact h k hk
 · exact A k hk
theorem TF.eq {w:World} {L:List Nat} {b t:Nat} (C:tag w b=t) (A:L.contains t=true):TF w L (fun k=>k=b):=fun k hk=>by
 subst hk; rw [C]; exact A
theorem TF.own {w:World} {L:List Nat} {B e size n:Nat} {v:Value} {xs:List Value} (h:w.ownsRow B e size v n xs) (A:L.contains (e+2)=true):TF w L (fun k=>v.ownBlock=some k):=fun k hk=>by
 rw [FM h hk]; exact A
theorem Md.iT {F:Nat→Prop} {w w':World} {L:List Nat} {k t:Nat} {cs:Array Value} {z:Nat×Nat} (hm:Md F w w') (A:TF w L F) (h:w.heap[k]? =some (.cells cs t z)) (C:L.contains (t+2)=false):w'.heap[k]? =some (.cells cs t z):=hm.aT h<|A.no (dN h) C
theorem cQ {F:Nat→Prop} {w w':World} {L:List Nat} {B e size n:Nat} {v:Value} {xs:List Value} (h:w.ownsRow B e size v n xs) (hm:Md F w w') (A:TF w L F) (C:L.contains (e+2)=false):w'.ownsRow B e size v n xs:=dw h hm fun _ hk=>A.no (FM h hk) C
theorem Md.tag {F:Nat→Prop} {w w':World} (hm:Md F w w') {k:Nat} (hk:k < w.heap.size) (A:¬F k):Hb.tag w' k=Hb.tag w k:=by
 unfold Hb.tag; rw [hm.dE k hk A]
end Go.Hb
end
section
namespace Go.Hb
open Go.ChangeShapes Go.WideShapes Go.ChangeAt
theorem Wk.frame {w w':World} (h:Wk w w') (may:MemPlace→Prop):w.keptBut w' may:=by
 refine ⟨h.os,h.output,fun i hi=> ?_⟩;rw [h.dE i hi id];split <;> simp_all
theorem Wk.same {w w':World} (h:Wk w w') {p:MemPlace} (hp:p.block < w.heap.size):w.sameAt w' p:=by
 cases p with
 | cell b o=>exact World.cell?_of_block (w:=w)<|h.dE b hp id
 | map b=>exact h.dE b hp id
section
variable {H:Type} {enc:TypeId×Value→H} {P:Program} {W W':World}
theorem Ow (G:laidOutB P=true) (hk:Wk W W'):∀ (C:List TypeId) (vs:List Value) (E:List (DataW H)) (ps:List MemPlace),C.all (fun t=>P.readableRec t && decide (t < P.types.size))=true→(∀ x∈ps,x.block < W.heap.size)→
 Pr enc P W 0 (fun _=>true) true C vs E ps→Pr enc P W' 0 (fun b=>decide (b < W.heap.size)) true C vs E ps
 | [],[],[],_,_,_,h=>h
 | t::C,v::vs,d::E,_,hp,hlt,⟨p,q,h1,h2,he⟩=>by
   subst he;rw [vN,jl,jl] at hp;exact ⟨p,q,WideElems.Trod_stays G hp.1.1 (of_decide_eq_true hp.1.2) h1 (fun x A=>hk.same<|hlt x<|BI _ A) (fun x A=>decide_eq_true<|hlt x<|BI _ A),
    Ow G hk C vs E q hp.2 (fun x A=>hlt x<|List.mem_append_right _ A) h2,rfl⟩
 | [],_::_,_,_,_,_,h=>h.elim
 | [],[],_::_,_,_,_,h=>h.elim
 | _::_,[],_,_,_,_,h=>h.elim
 | _::_,_::_,[],_,_,_,h=>h.elim
theorem abi {f:FuncId} {fn:Func} {s:ChangeSpec} {args:Array Value} {A gs:List (DataW H)} {before:List MemPlace} {tb:TypeId} (E:DataW.Whole enc P fn.params.toList s.vars false W args.toList A gs before) (I:s.vars= [])
 (hs:s.fn H (A++gs)= {results:= [.lit (.bool true)],args:=A}) (Z:fn.resultTypes= #[tb]) (O:P.underlying tb=some .bool) (V:laidOutB P=true) (hp:fn.params.toList.all (fun t=>P.readableRec t && decide (t < P.types.size))=true)
 (h:bm P f args W (fun v w'=>v= .bool true∧Wk W w')):Calls P f args W fun e W'=> ∃ v,e= .returned v∧s.post enc P fn false true false false W args v W':=by
 refine mu h fun e W' ⟨v,he,aa,hk⟩=>⟨v,he,?_⟩
 subst aa;have G:=E;obtain ⟨p,q,J,C,rfl,_,_⟩:=E;rw [I] at C;obtain ⟨rfl,rfl⟩:=trodVars_none C;have Y:∀ x∈p,x.block < W.heap.size:=fun x ab=>G.lt x<|by simpa using ab
 refine ⟨_,_,_,[],p,[],G,?_,?_,?_,hk.frame _,fun h=>by cases h⟩
 · rw [hs,Z];exact trodAll_cons_mk (shut_bool O _) trodAll_mk0
 · rw [hs];exact Ow V hk _ _ _ _ hp Y J
 · rw [hs,I]; rfl
end
end Go.Hb
namespace Go.Hb
open Go.Proofs.YtchkamdekbbgeaaGreatDoor
theorem Ry {H:Type} {l:List (DataW H)} (hk:Rows.uptoSmall H l=true):Rows.uptoBulkAll l≤1048576:=of_decide_eq_true hk
end Go.Hb
namespace Go.Hb
open Go.Proofs.YtchkamdekbbgeaaGreatDoor Go.ChangeShapes Go.WideShapes Go.ChangeAt
structure sZ (P:Program) (t:TypeId) (m:Nat) {X:Type} (R:World→List Value→X→Prop) (B:X→Nat):Prop where
 cells:P.cellsOf t=m
 op:∀ {H:Type} (enc:TypeId×Value→H) (W:World) (fuel:Nat) (cs:List Value) (d:DataW H) (p:List MemPlace),vH enc P W 0 (fun _=>true) true fuel t cs=some (d,p)→cs.length=m∧∃ x,R W cs x∧B x≤Rows.uptoBulk d
section
variable {P:Program} {t t0 t1 e:TypeId} {m m0 m1:Nat} {X X0 X1:Type} {R:World→List Value→X→Prop} {B:X→Nat} {R0:World→List Value→X0→Prop} {B0:X0→Nat} {R1:World→List Value→X1→Prop} {B1:X1→Nat}
theorem aap {k:IntKind} (C:P.underlying t=some (.int k)) (A:P.cellsOf t=1):sZ P t 1 (fun _ cs (x:Int)=>cs= [.int k x]∧(Lit.int k x).wf=true) (fun _=>1) where
 cells:=A
 op enc W fuel cs d p h:=by
  obtain ⟨n,rfl,E,hw⟩:=DataW.trod_int C h;cases E;exact ⟨aa,n,⟨aa,hw⟩,by simp [Rows.uptoBulk]⟩
theorem EP (C:P.underlying t=some .string) (A:P.cellsOf t=1):sZ P t 1 (fun _ cs (x:List UInt8)=>cs= [str x]) (fun x=>x.length+1) where
 cells:=A
 op enc W fuel cs d p h:=by
  obtain ⟨s,rfl,E,hw⟩:=DataW.trod_string C h;cases E;exact ⟨aa,s.data.toList,aa,by simp [Rows.uptoBulk]⟩
theorem ac1 {H:Type} {enc:TypeId×Value→H} {W:World} {f0 f1 f2 f3:Field} {fuel:Nat} {cs:List Value} {x:DataW H×List MemPlace} (O:P.underlying t=some (.struct #[f0,f1,f2,f3])) (h:vH enc P W 0 (fun _=>true) true fuel t cs=some x):
 ∃ A C E G n,x=(.agg [A.1,C.1,E.1,G.1],A.2++(C.2++(E.2++G.2)))∧cs.length=P.cellsOf t∧vH enc P W 0 (fun _=>true) true n f0.type ((cs.drop f0.offset).take<|P.cellsOf f0.type)=some A∧vH enc P W 0 (fun _=>true) true n f1.type ((cs.drop f1.offset).take<|P.cellsOf f1.type)=some C∧
   vH enc P W 0 (fun _=>true) true n f2.type ((cs.drop f2.offset).take<|P.cellsOf f2.type)=some E∧vH enc P W 0 (fun _=>true) true n f3.type ((cs.drop f3.offset).take<|P.cellsOf f3.type)=some G:=by
 obtain ⟨xs,n,_,rfl,J,hlen,I⟩:=DataW.trod_struct O h
 match xs,hlen with
 | [A,C,E,G],_=>exact ⟨A,C,E,G,n,by simp,J,by simpa using I 0 f0 rfl,by simpa using I 1 f1 rfl,by simpa using I 2 f2 rfl,by simpa using I 3 f3 rfl⟩
theorem aaq {t2 t3:TypeId} {G I:Type} {V:World→List Value→G→Prop} {J:G→Nat} {Y:World→List Value→I→Prop} {O:I→Nat} (Z:sZ P t0 1 R0 B0) (h1:sZ P t1 1 R1 B1) (h2:sZ P t2 1 V J) (h3:sZ P t3 1 Y O) {f0 f1 f2 f3:Field}
 (aj:P.underlying t=some (.struct #[f0,f1,f2,f3])) (ae:f0.type=t0) (ag:f1.type=t1) (ah:f2.type=t2) (ai:f3.type=t3) (ap:f0.offset=0) (aq:f1.offset=1) (au:f2.offset=2) (av:f3.offset=3) (ab:P.cellsOf t=4):
 sZ P t 4 (fun W cs (x:X0×X1×G×I)=> ∃ A C E u3,cs= [A,C,E,u3]∧R0 W [A] x.1∧R1 W [C] x.2.1∧V W [E] x.2.2.1∧Y W [u3] x.2.2.2) (fun x=>B0 x.1+B1 x.2.1+J x.2.2.1+O x.2.2.2+1) where
 cells:=ab
 op enc W fuel cs d p h:=by
  obtain ⟨aE,aF,aG,aH,n,ak,ac,g0,g1,g2,g3⟩:=ac1 aj h;cases ak;rw [ab] at ac
  match cs,ac with
  | [A,C,E,u3],_=>
    rw [ae,ap,Z.cells] at g0;rw [ag,aq,h1.cells] at g1;rw [ah,au,h2.cells] at g2;rw [ai,av,h3.cells] at g3;obtain ⟨_,aw,al,aA⟩:=Z.op enc W n _ _ _ g0;obtain ⟨_,ax,am,aB⟩:=h1.op enc W n _ _ _ g1;obtain ⟨_,ay,an,aC⟩:=h2.op enc W n _ _ _ g2;obtain ⟨_,az,ao,aD⟩:=h3.op enc W n _ _ _ g3;refine ⟨aa,(aw,ax,ay,az),⟨A,C,E,u3,aa,al,am,an,ao⟩,?_⟩;simp only [Rows.uptoBulk,Rows.uptoBulkAll]; omega
end
end Go.Hb
end
namespace Go.Hb
theorem drop_cons {α:Type} {l:List α} {i:Nat} (d:α) (h:i < l.length):l.drop i=l.getD i d::l.drop (i+1):=by
 rw [List.drop_eq_getElem_cons h]; simp [cX,h]
theorem xW {α:Type} {l:List α} {k i:Nat} (d:α) (hk:k≤i) (hi:i < l.length):(l.take<|i+1).drop k=(l.take i).drop k++ [l.getD i d]:=by
 rw [fV l i d hi,List.drop_append_of_le_length (by rw [dP]; omega)]
def oz (b:UInt8):Bool:=b==32 || b==9
theorem r6 (b:UInt8):oz b=decide (b.toNat=32∨b.toNat=9):=by
 unfold oz;have h:∀ x:UInt8,(b==x)=decide (b.toNat=x.toNat):=fun x=>by
  by_cases A:b=x
  · subst A; simp
  · have :b.toNat≠x.toNat:=fun h=>A<|lM.1 h;simp [A,this]
 rw [h,h];simp [Bool.decide_or]
def da:List UInt8→List UInt8→List (List UInt8)
 | cur,[]=>if cur= [] then [] else [cur]
 | cur,b::r=>if oz b then (if cur= [] then da [] r else cur::da [] r) else da (cur++ [b]) r
theorem Dy:da [] []= []:=by simp [da]
theorem KC {cur:List UInt8} (h:cur≠[]):da cur []= [cur]:=by simp [da,h]
theorem zI {b:UInt8} {r:List UInt8} (h:oz b=true):da [] (b::r)=da [] r:=by simp [da,h]
theorem KB {cur:List UInt8} {b:UInt8} {r:List UInt8} (h:oz b=true) (A:cur≠[]):da cur (b::r)=cur::da [] r:=by simp [da,h,A]
theorem Dx {cur:List UInt8} {b:UInt8} {r:List UInt8} (h:oz b=false):da cur (b::r)=da (cur++ [b]) r:=by simp [da,h]
theorem Dw:∀ (l cur x:List UInt8),x∈da cur l→x≠[]∧x.length≤cur.length+l.length:=by
 intro l
 induction l with
 | nil=>
   intro cur x h;unfold da at h;split at h
   · cases h
   · simp only [iK] at h; subst h; exact ⟨by assumption,by simp⟩
 | cons b r A=>
   intro cur x h;unfold da at h;split at h
   · split at h
     · have :=A [] x h; simp only [cV,gB] at*; exact ⟨this.1,ab⟩
     · rcases fG.1 h with rfl | h
       · exact ⟨by assumption,by simp⟩
       · have :=A [] x h; simp only [cV,gB] at*; exact ⟨this.1,ab⟩
   · have :=A _ x h; simp only [cV,bL,gB] at*; exact ⟨this.1,ab⟩
theorem wY:∀ (l cur:List UInt8),(da cur l).length≤l.length+1:=by
 intro l
 induction l with
 | nil=>intro cur; unfold da; split <;> simp
 | cons b r A=>
   intro cur;unfold da;split
   · split
     · have :=A []; simp only [cV]; omega
     · have :=A []; simp only [cV]; omega
   · have :=A (cur++ [b]); simp only [cV]; omega
theorem Dv {cur l:List UInt8} {i:Nat} (A:cur≠[]) (h:l.length≤i∨oz (l.getD i 0)=true):da cur (l.drop i)=cur::da [] (l.drop i):=by
 by_cases hi:i < l.length
 · have C:=h.resolve_left ab;rw [drop_cons 0 hi,KB C A,zI C]
 · rw [iJ ab,KC A,Dy]
def lN (l:List UInt8) (i:Nat) (A:Int) (cur:List UInt8):Prop :=(A= -1∧cur= [])∨(∃ k:Nat,A=k∧k < i∧i≤l.length∧cur=(l.take i).drop k)
theorem lN.no {l:List UInt8} {i:Nat} :lN l i (-1) []:= .inl ⟨rfl,rfl⟩
theorem lN.neg {l cur:List UInt8} {i:Nat} {A:Int} (h:lN l i A cur) (C:A < 0):A= -1∧cur= []:=by
 rcases h with h | ⟨k,rfl,_⟩
 · exact h
 · omega
theorem lN.pos {l cur:List UInt8} {i:Nat} {A:Int} (h:lN l i A cur) (C:¬A < 0):(0≤A∧A < i)∧cur=(l.take i).drop A.toNat∧cur≠[]:=by
 rcases h with ⟨rfl,_⟩ | ⟨k,rfl,h1,h2,rfl⟩
 · omega
 · refine ⟨ab,by simp,fun e=> ?_⟩;have :=congrArg j7 e;simp only [fS,dP,gB] at this;omega
theorem lN.begin {l:List UInt8} {i:Nat} (hi:i < l.length):lN l (i+1) i [l.getD i 0]:=by
 refine .inr ⟨i,aa,ab,ab,?_⟩;rw [xW 0 (cU i) hi,iJ (by rw [dP]; omega),qA]
theorem lN.more {l cur:List UInt8} {i:Nat} {A:Int} (h:lN l i A cur) (C:¬A < 0) (hi:i < l.length):lN l (i+1) A (cur++ [l.getD i 0]):=by
 rcases h with ⟨rfl,_⟩ | ⟨k,rfl,h1,h2,rfl⟩
 · omega
 · exact .inr ⟨k,aa,ab,ab,(xW 0 ab hi).symm⟩
def ka (l:List UInt8):List UInt8:=if 0 < l.length∧l.getD (l.length - 1) 0=13 then l.take (l.length - 1) else l
theorem Jz (l:List UInt8):(ka l).length≤l.length:=by unfold ka; split <;> simp
theorem JA {l:List UInt8} (h:0 < l.length) (h1:l.getD (l.length - 1) 0=13):ka l=l.take (l.length - 1):=if_pos ⟨h,h1⟩
theorem Db {l:List UInt8} (h:¬(0 < l.length∧l.getD (l.length - 1) 0=13)):ka l=l:=if_neg h
theorem L7 {l:List UInt8} (h:0 < l.length):l.drop (l.length - 1)= [l.getD (l.length - 1) 0]:=by
 rw [drop_cons 0 ab,iJ ab]
def gG:List UInt8→List UInt8→List (List UInt8)
 | cur,[]=>if cur= [] then [] else [ka cur]
 | cur,b::r=>if b=10 then ka cur::gG [] r else gG (cur++ [b]) r
theorem Ep:gG [] []= []:=by simp [gG]
theorem Mj {cur:List UInt8} (h:cur≠[]):gG cur []= [ka cur]:=by simp [gG,h]
theorem Mk (cur r:List UInt8):gG cur (10::r)=ka cur::gG [] r:=by simp [gG]
theorem Eo {cur:List UInt8} {b:UInt8} {r:List UInt8} (h:b≠10):gG cur (b::r)=gG (cur++ [b]) r:=by simp [gG,h]
theorem En:∀ (l cur:List UInt8),(gG cur l).length≤l.length+1:=by
 intro l
 induction l with
 | nil=>intro cur; unfold gG; split <;> simp
 | cons b r A=>
   intro cur;unfold gG;split
   · have :=A []; simp only [cV]; omega
   · have :=A (cur++ [b]); simp only [cV]; omega
theorem Zv (l:List UInt8):(gG [] l).length≤l.length:=by
 cases l with
 | nil=>simp [gG]
 | cons b r=>
   unfold gG;split
   · have :=En r [];have h2:∀ m:List UInt8,(gG [] m).length≤m.length:=by
      intro m
      induction m with
      | nil=>simp [gG]
      | cons c m A=>
        unfold gG;split
        · simp only [cV]; omega
        · have :=En m ([]++ [c]); simp only [cV]; omega
     have :=h2 r;simp only [cV]; omega
   · have :=En r ([]++ [b]); simp only [cV]; omega
theorem Zw:∀ (l cur x:List UInt8),x∈gG cur l→x.length≤cur.length+l.length:=by
 intro l
 induction l with
 | nil=>
   intro cur x h;unfold gG at h;split at h
   · cases h
   · simp only [iK] at h; subst h; have :=Jz cur; simp only [gB]; omega
 | cons b r A=>
   intro cur x h;unfold gG at h;split at h
   · rcases fG.1 h with rfl | h
     · have :=Jz cur; omega
     · have :=A [] x h; simp only [cV,gB] at*; omega
   · have :=A _ x h; simp only [cV,bL,gB] at*; omega
def fJ (c:UInt8) (l:List UInt8):Int:=if l.idxOf c < l.length then (l.idxOf c:Int) else -1
theorem LR {c:UInt8} {l:List UInt8} (h:fJ c l < 0):¬l.idxOf c < l.length:=fun h1=>by unfold fJ at h; rw [if_pos h1] at h; omega
theorem tq {c:UInt8} {l:List UInt8} (h:¬fJ c l < 0):fJ c l=l.idxOf c∧l.idxOf c < l.length:=by
 unfold fJ at*;by_cases h1:l.idxOf c < l.length
 · exact ⟨if_pos h1,h1⟩
 · rw [if_neg h1] at h; omega
def nv (c:UInt8) (l:List UInt8):List UInt8:=if fJ c l < 0 then l else l.take (l.idxOf c)
def pk (c:UInt8) (l:List UInt8):List UInt8:=if fJ c l < 0 then [] else l.drop (l.idxOf c+1)
theorem U5 (c:UInt8) (l:List UInt8):(nv c l).length≤l.length:=by unfold nv; split <;> simp; omega
theorem U9 {c:UInt8} {l:List UInt8} (h:l≠[]):(pk c l).length < l.length:=by
 have :=l7.2 h;unfold pk; split <;> simp <;> omega
theorem Zu:∀ (l cur:List UInt8),l.idxOf 10 < l.length→gG cur l=ka (cur++l.take (l.idxOf 10))::gG [] (l.drop<|l.idxOf 10 +1):=by
 intro l
 induction l with
 | nil=>intro cur h; simp at h
 | cons b r E=>
   intro cur h;by_cases A:b=10
   · subst A;rw [GM,Mk,mA,eB,iM,List.drop_one,List.tail_cons]
   · have C:(b::r).idxOf 10=r.idxOf 10 +1:=by rw [yw,beq_eq_false_iff_ne.2 A]; rfl
     rw [C] at h ⊢;simp only [cV] at h;rw [Eo A,E _ ab,rF,yt,eS];rfl
theorem Zx:∀ (l cur:List UInt8),¬l.idxOf 10 < l.length→cur++l≠[]→gG cur l= [ka (cur++l)]:=by
 intro l
 induction l with
 | nil=>intro cur _ h; rw [eB] at h ⊢; exact Mj h
 | cons b r E=>
   intro cur h h1;by_cases A:b=10
   · subst A; rw [GM] at h; simp at h
   · have C:(b::r).idxOf 10=r.idxOf 10 +1:=by rw [yw,beq_eq_false_iff_ne.2 A]; rfl
     rw [C] at h;simp only [cV] at h;rw [Eo A,E _ ab (by simp),eS];rfl
theorem Zy {l:List UInt8} (h:l≠[]):gG [] l=ka (nv 10 l)::gG [] (pk 10 l):=by
 by_cases h1:fJ 10 l < 0
 · rw [Zx l [] (LR h1) (by simpa using h)];unfold nv pk;rw [if_pos h1,if_pos h1,Ep,qA]
 · rw [Zu l [] (tq h1).2];unfold nv pk;rw [if_neg h1,if_neg h1,qA]
def gi (s p:List UInt8):List UInt8:=if s.take p.length=p then s.drop p.length else s
def sg:List UInt8:= [239,187,191]
def u7 (s:List UInt8):Bool:=decide (s.take 3=sg)
def lI (s:List UInt8):List UInt8:=gi s sg
theorem A8 (s:List UInt8):(lI s).length≤s.length:=by unfold lI gi; split <;> simp
theorem adf {s:List UInt8} (h:u7 s=true):lI s=s.drop 3:=if_pos<|of_decide_eq_true h
theorem ade {s:List UInt8} (h:u7 s=false):lI s=s:=if_neg<|of_decide_eq_false h
theorem ZE {s:List UInt8} (h:u7 s=true):3≤s.length:=by
 have h1:=congrArg j7<|of_decide_eq_true h;rw [dP] at h1;have :sg.length=3:=rfl;omega
theorem Ai (s:List UInt8):u7 s=decide (3≤s.length∧(s.getD 0 0).toNat=239∧(s.getD 1 0).toNat=187∧(s.getD 2 0).toNat=191):=by
 unfold u7;refine decide_eq_decide.2 ?_
 match s with
 | []=>simp [sg]
 | [a]=>simp [sg]
 | [a,b]=>simp [sg]
 | a::b::c::r=>
   have h:∀ (x:UInt8) (n:Nat),n < 256→(x=ky n↔x.toNat=n):=fun x n hn=>by
    constructor
    · rintro rfl; simp; omega
    · intro h; apply lM.1; simp; omega
   have h1:=h a 239 aB;have h2:=h b 187 aB;have h3:=h c 191 aB;simp only [sg,rF,mA,List.cons.injEq,and_true,cV,l6,List.getD_cons_succ];constructor
   · rintro ⟨A,C,E⟩; exact ⟨ab,h1.1 A,h2.1 C,h3.1 E⟩
   · rintro ⟨_,A,C,E⟩; exact ⟨h1.2 A,h2.2 C,h3.2 E⟩
def bP (t:List UInt8):List (List UInt8):=gG []<|lI t
theorem pH (t:List UInt8):(bP t).length≤t.length:=fz (Zv _)<|A8 t
theorem Em {t x:List UInt8} (h:x∈bP t):x.length≤t.length:=by
 have :=Zw _ _ _ h;have :=A8 t;simp only [gB] at*; omega
def xS (f:List UInt8):Bool:=decide ((f.getD 0 0).toNat=35)
def pG (f:List (List UInt8)):List (List UInt8):=f.takeWhile fun x=> !xS x
def l0 (l:List UInt8) (n:Nat):List (Nat×List (List UInt8)):=if pG (da [] l)= [] then [] else [(n,pG (da [] l))]
def l5 (n:Nat):List (List UInt8)→List (Nat×List (List UInt8))
 | []=> []
 | l::r=>l0 l n++l5 (n+1) r
def bZ (t:List UInt8):List (Nat×List (List UInt8)):=l5 1<|bP t
theorem oK (l:List UInt8):∀ (A:List (List UInt8)) (n:Nat),l5 n (A++ [l])=l5 n A++l0 l (n+A.length):=by
 intro A
 induction A with
 | nil=>intro n; simp [l5]
 | cons a A C=>intro n; rw [GH,l5,C,l5,cV,eS,show n+1 +A.length=n+(A.length+1) from by omega]
theorem Fg:∀ (A:List (List UInt8)) (n:Nat),(l5 n A).length≤A.length:=by
 intro A
 induction A with
 | nil=>intro n; simp [l5]
 | cons a A C=>
   intro n;have :=C<|n+1;unfold l5 l0;rw [bL];split <;> simp only [gB,cV] <;> omega
theorem AA (t:List UInt8):(bZ t).length≤t.length:=fz (Fg _ _)<|pH t
theorem Ae {f:List (List UInt8)} :∀ {j:Nat},j≤f.length→(∀ i,i < j→xS (f.getD i [])=false)→(j=f.length∨xS (f.getD j [])=true)→pG f=f.take j:=by
 induction f with
 | nil=>intro j C _ _; rw [Ql]; rfl
 | cons a f E=>
   intro j C h1 h2;cases j with
   | zero=>
     rcases h2 with h2 | h2
     · simp at h2
     · simp only [l6] at h2;simp [pG,h2]
   | succ j=>
     have A:=h1 0 ab;simp only [l6] at A;have :=E (j:=j) (by simpa using C) (fun i hi=>by simpa using h1 (i+1) ab)<|by simpa using h2
     unfold pG at*;rw [List.takeWhile_cons,A];simp only [Bool.not_false,if_true,rF];rw [this]
theorem Y5 {f:List (List UInt8)} {x:List UInt8} (h:x∈pG f):x∈f:=(Qi _).subset h
theorem Y4 (f:List (List UInt8)):(pG f).length≤f.length:=(Qi _).length_le
theorem abw:∀ (A:List (List UInt8)) (n:Nat) (r:Nat×List (List UInt8)),r∈l5 n A→n≤r.1∧r.1 < n+A.length∧r.2≠[]∧∃ l∈A,r.2=pG (da [] l):=by
 intro A
 induction A with
 | nil=>intro n r h; cases h
 | cons a A E=>
   intro n r h;rw [l5] at h;rcases jm.1 h with h | h
   · unfold l0 at h;split at h
     · cases h
     · simp only [iK] at h; subst h;exact ⟨by simp,by simp,by assumption,a,by simp,aa⟩
   · obtain ⟨h1,h2,h3,l,C,h4⟩:=E _ _ h;exact ⟨ab,by simp only [cV]; omega,h3,l,by simp [C],h4⟩
theorem AB {t:List UInt8} {r:Nat×List (List UInt8)} (h:r∈bZ t):1≤r.1∧r.1≤t.length∧r.2≠[]∧r.2.length≤t.length+1∧∀ x∈r.2,x≠[]∧x.length≤t.length:=by
 obtain ⟨h1,h2,h3,l,C,h4⟩:=abw _ _ _ h;have G:=pH t;have E:=Em C;refine ⟨h1,ab,h3,?_,fun x A=> ?_⟩
 · rw [h4]; have :=Y4 (da [] l); have :=wY l []; omega
 · rw [h4] at A;have :=Dw _ _ _<|Y5 A;simp only [gB] at this;exact ⟨this.1,ab⟩
def rU (b:UInt8):Bool:=decide (48≤b.toNat∧b.toNat≤57)
def fi (s:List UInt8):Nat:=s.foldl (fun n b=>n*10 +(b.toNat - 48)) 0
theorem ou {s:List UInt8} {i:Nat} (h:i < s.length):fi (s.take<|i+1)=fi (s.take i)*10 +((s.getD i 0).toNat - 48):=by
 rw [fV s i 0 h]; unfold fi; rw [GK]; rfl
theorem Xc:∀ (s:List UInt8) (n:Nat),n≤s.foldl (fun n b=>n*10 +(b.toNat - 48)) n:=by
 intro s
 induction s with
 | nil=>intro n; exact cU _
 | cons b s A=>intro n; refine fz ?_ (A _); show n≤n*10 +(b.toNat - 48); omega
theorem Vr (s:List UInt8) (i:Nat):fi (s.take i)≤fi s:=by
 have :fi s=(s.drop i).foldl (fun n b=>n*10 +(b.toNat - 48)) (fi<|s.take i):=by
  unfold fi; rw [← GK,List.take_append_drop]
 rw [this]; exact Xc _ _
def r9 (s:List UInt8):Prop :=s= []∨(1 < s.length∧(s.getD 0 0).toNat=48)
def C7 (s:List UInt8):Prop := ∀ i,i < s.length→rU (s.getD i 0)=true
open Classical in
noncomputable def ew (s:List UInt8) (most:Int):Nat×Int:=if r9 s∨¬C7 s∨most < fi s then (0,13) else (fi s,0)
theorem Aq {s:List UInt8} {most:Int} (h:r9 s):ew s most=(0,13):=if_pos<|.inl h
theorem Ap {s:List UInt8} {most:Int} {i:Nat} (h:i < s.length) (h1:rU (s.getD i 0)=false):ew s most=(0,13):=if_pos<|.inr<|.inl fun hd=>by rw [hd i h] at h1; cases h1
theorem aae {s:List UInt8} {most:Int} (h:most < fi s):ew s most=(0,13):=if_pos<|.inr<|.inr h
theorem xJ {s:List UInt8} {most:Int} (i:Nat) (h:most < fi (s.take i)):ew s most=(0,13):=aae<|by have :=Vr s i; omega
theorem EF {s:List UInt8} {most:Int} (h:¬r9 s) (h1:C7 s) (h2:¬most < fi s):ew s most=(fi s,0):=if_neg<|by rintro (A | A | A) <;> first | exact h A | exact A h1 | exact h2 A
theorem MS (s:List UInt8) (most:Int):(ew s most=(0,13))∨(ew s most=(fi s,0)∧(fi s:Int)≤most):=by
 unfold ew;split
 · exact .inl aa
 · rename_i h; exact .inr ⟨rfl,by have :¬most < fi s:=fun A=>h (.inr<|.inr A); omega⟩
theorem si (s:List UInt8) (most:Int):(ew s most).2=0→((ew s most).1:Int)≤most:=by
 rcases MS s most with h | ⟨h,h1⟩ <;> rw [h]
 · intro h; cases h
 · intro _; exact h1
theorem C6 {b:UInt8} (h:rU b=true):48≤b.toNat∧b.toNat≤57:=of_decide_eq_true h
theorem zo {b:UInt8} (h:¬(48≤b.toNat∧b.toNat≤57)):rU b=false :=decide_eq_false h
theorem LS {x:UInt8} :∀ {l:List UInt8} {i:Nat},i < l.length→(∀ j,j < i→l.getD j 0≠x)→l.getD i 0=x→fJ x l=(i:Nat):=by
 have key:∀ (l:List UInt8) (i:Nat),i < l.length→(∀ j,j < i→l.getD j 0≠x)→l.getD i 0=x→l.idxOf x=i:=by
  intro l
  induction l with
  | nil=>intro i h; simp at h
  | cons b l C=>
    intro i h h1 h2;cases i with
    | zero=>have A:b=x:=h2
            subst A; simp
    | succ i=>
      have A:b≠x:=h1 0<|Nat.succ_pos _;rw [yw,show (b==x)=false from by simpa using A];have :=C i (by simpa using h) (fun j E=>h1 (j+1) ab) h2;rw [this]; rfl
 intro l i h h1 h2;unfold fJ;rw [key l i h h1 h2,if_pos h]
theorem LU {x:UInt8} {l:List UInt8} (h:∀ j,j < l.length→l.getD j 0≠x):fJ x l= -1:=by
 unfold fJ;rw [if_neg];intro h1;have hm:=List.idxOf_lt_length_iff.1 h1;obtain ⟨j,A,e⟩:=BJ.1 hm;exact h j A<|by rw [cX,cx A]; exact e
end Go.Hb
section
namespace Go.Hb
theorem rh {h:Array Obj} {a:Option Addr} {l:List UInt8} {i:Nat} (A:aM h a (U8 l)) (hi:i < l.length):Hb.aW h (bk a) (fo a+i*1)=some (.int .u8 (l.getD i 0).toNat):=by
 refine A.gY ?_;unfold U8;rw [gx,cx hi,cX,cx hi]; rfl
theorem ac6 {h:Array Obj} {a:Option Addr} {l:List UInt8} (A:aM h a (U8 l)) (n:Nat):aM h a (U8<|l.take n):=by
 have :=A.take n;unfold U8 at*;rwa [List.map_take]
theorem ri {l:List UInt8} (h:0 < l.length):U8 l≠[]:=by
 intro e;have :=congrArg j7 e;rw [yL,gB] at this;omega
theorem sr {w:World} {B e:Nat} {v:Value} {l:List UInt8} {x:UInt8} (h:w.ownsRow B e 1 v (l.length+1) (U8 l++ [.int .u8 x.toNat])):w.ownsRow B e 1 v (l++ [x]).length (U8<|l++ [x]):=by
 rw [bL,yK]; exact h
theorem nJ {w:World} {B e:Nat} {v:Value} {l:List (List UInt8)} {x:List UInt8} (h:w.ownsRow B e 1 v (l.length+1) (l.map str++ [str x])):w.ownsRow B e 1 v (l++ [x]).length ((l++ [x]).map str):=by
 rw [bL,gW]; exact h
abbrev Rw:Type :=Nat×List (List UInt8)
def AF (q:Nat×Value):List Value:= [.int .i64 q.1,q.2]
def lg (l:List (Nat×Value)):List Value:=l.flatMap AF
theorem Fq (a b:List (Nat×Value)):lg (a++b)=lg a++lg b:=by simp [lg]
theorem NI (l:List (Nat×Value)):(lg l).length=l.length*2:=mL (f:=AF) (m:=2) (fun _=>rfl) l
theorem mo {l:List (Nat×Value)} (h:0 < l.length):lg l≠[]:=Dt (f:=AF) (m:=2) (fun _=>rfl) aB h
theorem mq {h:Array Obj} {ad:Option Addr} {vs:List (Nat×Value)} {i:Nat} {q:Nat×Value} (A:aM h ad (lg vs)) (C:vs[i]? =some q):∀ j,j < 2→Hb.aW h (bk ad) (fo ad+i*2 +j)= [gP .i64 q.1,q.2][j]? :=
 fC (f:=AF) (m:=2) (fun _=>rfl) A C
def Tg (w:World) (B e n:Nat) (v:Value) (xs:List Value):Prop :=
 ∃ a cp,v= .slice a n cp∧n≤cp∧(xs= []∨∃ b cur z,a=some ⟨b,0,none⟩∧B≤b∧w.heap[b]? =some (.cells cur e z)∧∀ (j:Nat) u,xs[j]? =some u→cur[j]? =some u)
theorem Tg.j6 {w:World} {B e size n:Nat} {v:Value} {xs:List Value} (h:w.ownsRow B e size v n xs):Tg w B e n v xs:=by
 have A:=h;rcases h.2 with ⟨rfl,rfl⟩ | ⟨g,cap,cur,rfl,C,E,_,_,_,G⟩
 · exact ⟨none,0,aa,cU _,.inl<|fR<|by simpa using h.1⟩
 · refine ⟨_,cap,aa,(ba A).1,.inr ⟨g,cur,_,aa,C,E,fun j u hu=> ?_⟩⟩;rw [← G,qz] at hu;split at hu
   · simpa using hu
   · cases hu
theorem Tg.cells {w:World} {B e n:Nat} {v:Value} {xs:List Value} (h:Tg w B e n v xs):∃ a cp,v= .slice a n cp∧aM w.heap a xs:=by
 obtain ⟨a,cp,rfl,_,h | ⟨b,cur,z,rfl,_,A,C⟩⟩:=h
 · subst h; exact ⟨a,cp,rfl,aM.nil _ _⟩
 · refine ⟨_,cp,aa,fun _=>rfl,fun j u hu=> ?_⟩;show Hb.aW w.heap b (0 +j)=_;rw [iM,bg A]; exact C j u hu
theorem Tg.dp {w:World} {B e n cp:Nat} {a:Option Addr} {xs:List Value} (h:Tg w B e n (.slice a n cp) xs):n≤cp∧aM w.heap a xs:=by
 obtain ⟨I,J,C,A,O⟩:=id h;obtain ⟨a2,c2,E,G⟩:=h.cells;cases C; cases E;exact ⟨A,G⟩
theorem Tg.slice {w:World} {B e n:Nat} {v:Value} {xs:List Value} (h:Tg w B e n v xs):∃ a cp,v= .slice a n cp:=let ⟨a,cp,hv,_⟩:=h; ⟨a,cp,hv⟩
theorem Tg.md {F:Nat→Prop} {w w':World} {B e n:Nat} {v:Value} {xs:List Value} (h:Tg w B e n v xs) (hm:Md F w w') (E:∀ k,F k→∀ cur z,w.heap[k]?≠some (.cells cur e z)):Tg w' B e n v xs:=by
 obtain ⟨a,cp,rfl,C,h | ⟨b,cur,z,rfl,G,A,I⟩⟩:=h
 · exact ⟨a,cp,aa,C,.inl h⟩
 · exact ⟨_,cp,aa,C,.inr ⟨b,cur,z,aa,G,by rw [hm.dE b (dO.1 A).1 (fun hk=>E b hk cur z A)]; exact A,I⟩⟩
theorem Tg.wk {w w':World} {B e n:Nat} {v:Value} {xs:List Value} (h:Tg w B e n v xs) (hm:Wk w w'):Tg w' B e n v xs:=h.md hm fun _ hk=>hk.elim
theorem Tg.clip {w:World} {B e n k cp A:Nat} {a:Option Addr} {xs:List Value} (h:Tg w B e n (.slice a n cp) xs) (hk:k≤A):Tg w B e k (.slice a k A) (xs.take k):=by
 obtain ⟨O,V,E,_,C⟩:=h;simp only [nT,true_and] at E;obtain ⟨rfl,rfl⟩:=E;refine ⟨a,A,aa,hk,?_⟩;rcases C with rfl | ⟨b,cur,z,G,I,J,C⟩
 · exact .inl Ql
 · exact .inr ⟨b,cur,z,G,I,J,fun j u hu=>C j u<|by rw [qz] at hu; split at hu; exact hu; cases hu⟩
theorem iW {w:World} {B e C size n:Nat} {v:Value} {xs:List Value} (h:w.ownsRow B e size v n xs) (G:e≠C):∀ k,v.ownBlock=some k→∀ cur z,w.heap[k]?≠some (.cells cur C z):=by
 intro k hk cur z A;rcases h.2 with ⟨rfl,_⟩ | ⟨g,cap,I,rfl,_,E,_⟩
 · simp [jN] at hk
 · simp only [jN,gD] at hk;subst hk;rw [E] at A;simp only [gD,yl] at A;exact G A.2.1
theorem fT {w:World} {b e C:Nat} {cs:Array Value} {y:Nat×Nat} (h:w.heap[b]? =some (.cells cs e y)) (E:e≠C):∀ k,k=b→∀ cur z,w.heap[k]?≠some (.cells cur C z):=by
 rintro k rfl cur z A;rw [h] at A;simp only [gD,yl] at A;exact E A.2.1
def iQ (w:World) (B e:Nat) (vs:List (Nat×Value)) (rs:List Rw):Prop :=vs.length=rs.length∧∀ (i:Nat) q r,vs[i]? =some q→rs[i]? =some r→q.1=r.1∧Tg w B e r.2.length q.2 (r.2.map str)
theorem iQ.nil (w:World) (B e:Nat):iQ w B e [] []:=⟨rfl,fun i q r A=>by simp at A⟩
theorem iQ.md {F:Nat→Prop} {w w':World} {B e:Nat} {vs:List (Nat×Value)} {rs:List Rw} (h:iQ w B e vs rs) (hm:Md F w w') (A:∀ k,F k→∀ cur z,w.heap[k]?≠some (.cells cur e z)):iQ w' B e vs rs:=
 ⟨h.1,fun i q r h1 h2=>⟨(h.2 i q r h1 h2).1,(h.2 i q r h1 h2).2.md hm A⟩⟩
theorem iQ.wk {w w':World} {B e:Nat} {vs:List (Nat×Value)} {rs:List Rw} (h:iQ w B e vs rs) (hm:Wk w w'):iQ w' B e vs rs:=h.md hm fun _ hk=>hk.elim
theorem iQ.snoc {w:World} {B e n:Nat} {vs:List (Nat×Value)} {rs:List Rw} {v:Value} {r:List (List UInt8)} (A:iQ w B e vs rs) (E:Tg w B e r.length v (r.map str)):iQ w B e (vs++ [(n,v)]) (rs++ [(n,r)]):=by
 refine ⟨by rw [bL,bL,A.1]; rfl,fun i G I h1 h2=> ?_⟩;have C:=A.1;by_cases hi:i < vs.length
 · rw [ng hi] at h1;rw [ng ab] at h2;exact A.2 i G I h1 h2
 · rw [nV ab] at h1;rw [nV ab,← C] at h2;cases hj:i - vs.length with
   | zero=>rw [hj] at h1 h2; cases h1; cases h2; exact ⟨rfl,E⟩
   | succ j=>rw [hj] at h1; simp at h1
theorem Tg.mono {w:World} {B B' e n:Nat} {v:Value} {xs:List Value} (h:Tg w B e n v xs) (A:B'≤B):Tg w B' e n v xs:=by
 obtain ⟨a,cp,E,C,G⟩:=h;exact ⟨a,cp,E,C,G.imp id fun ⟨b,cur,z,h1,h2,h3⟩=>⟨b,cur,z,h1,fz A h2,h3⟩⟩
theorem iQ.mono {w:World} {B B' e:Nat} {vs:List (Nat×Value)} {rs:List Rw} (h:iQ w B e vs rs) (A:B'≤B):iQ w B' e vs rs:=⟨h.1,fun i q r h1 h2=>⟨(h.2 i q r h1 h2).1,(h.2 i q r h1 h2).2.mono A⟩⟩
end Go.Hb
end
section
set_option linter.unusedSectionVars false
namespace Go.Hb
open Go.Sort (swp insInner insOuter insertionSort siftDown heapBuild heapPop heapSort scanUp scanDown partLoop partEqLoop partition partitionEqual scanSorted shiftDown shiftUp partialIns partialInsertionSort reverseLoop reverseRange choosePivot breakPatterns breakStep pdq Hint)
def LE {α:Type} (f:α→Value) (d:Array α):List Value:=d.toList.map f
section
variable {α:Type} [Inhabited α] {f:α→Value}
theorem xA (d:Array α):(LE f d).length=d.size:=by simp [LE]
theorem cT {d:Array α} (h:0 < d.size):LE f d≠[]:=by
 intro e; have :=congrArg j7 e; rw [xA,gB] at this; omega
theorem Ma {d:Array α} {i:Nat} (h:i < d.size):(LE f d)[i]? =some (f d[i]!):=by
 unfold LE;rw [gx,yd,Bk h,getElem!_pos d i h]; rfl
theorem dW {h:Array Obj} {a:Option Addr} {d:Array α} {i:Nat} (A:aM h a (LE f d)) (hi:i < d.size):Hb.aW h (bk a) (fo a+i*1)=some (f d[i]!):=A.gY<|Ma hi
theorem Zd (d:Array α) (i:Nat) (v:α):(LE f d).set i (f v)=LE f (d.setIfInBounds i v):=by
 unfold LE; rw [Gf,List.map_set]
theorem gn {w:World} {B e n:Nat} {v:Value} {d:Array α} (h:w.ownsRow B e 1 v n (LE f d)):d.size=n:=by
 have :=h.1; rw [xA] at this; omega
end
section
variable {P:Program} {N:Fm} {σ:Nat→Value} {w:World} {ty:TypeId} {pos :String} {af:Array Edge} {g:Option (Nat×Bool)} {x y:Operand} {K:(Nat→Value)→World→Prop}
theorem gT {α:Type} [Inhabited α] {f:α→Value} {t B e n cap:Nat} {a:Option Addr} {d:Array α} {u:α} (i:Nat) (A:w.ownsRow B e 1 (.slice a n cap) n (LE f d)) (G:eE P t=some 1) (C:ev N σ x= .pointer (some ⟨bk a,fo a+i*1,none⟩)) (E:ev N σ y=f u) (h1:(f u).oneCell'=true)
 (I:i < n) (k:∀ w',Md (fun k=>(bW a n cap).ownBlock=some k) w w'→w'.ownsRow B e 1 (.slice a n cap) n (LE f<|d.setIfInBounds i u)→K σ w'):dS P N ⟨none,.store t x y,ty,pos,af,g⟩ σ w K:=
 vq A G C E h1 (j:=i) ab ab fun w' h1 h2=>k w' h1<|by rw [← Zd]; exact h2
end
section
variable {α:Type} [Inhabited α] {lt:α→α→Bool} {d:Array α}
theorem YI {a j:Nat} (h:a < j) (h1:lt d[j]! d[j - 1]! =true):insInner lt a j d=insInner lt a (j - 1) (swp d j<|j - 1):=by
 cases j with
 | zero=>omega
 | succ j=>simp only [ud] at*; rw [insInner,if_pos (by simp [h1]; omega)]
theorem YK {a j:Nat} (h:¬a < j):insInner lt a j d=d:=by
 cases j with
 | zero=>rfl
 | succ j=>rw [insInner,if_neg (by simp; omega)]
theorem YJ {a j:Nat} (h1:lt d[j]! d[j - 1]! =false):insInner lt a j d=d:=by
 cases j with
 | zero=>rfl
 | succ j=>simp only [ud] at*; rw [insInner,if_neg (by simp [h1])]
theorem LN {a b i:Nat} (h:i < b):insOuter lt a b i d=insOuter lt a b (i+1) (insInner lt a i d):=by rw [insOuter,if_pos h]
theorem YH {a b i:Nat} (h:¬i < b):insOuter lt a b i d=d:=by rw [insOuter,if_neg h]
theorem ab4 {hi first r:Nat} (h:¬2 *r+1 < hi):siftDown lt hi first r d=d:=by rw [siftDown,dif_pos ab]
theorem ab5 {hi first r:Nat} (h:2 *r+1 +1 < hi) (h1:lt d[first+(2 *r+1)]! d[first+(2 *r+1)+1]! =true):
 siftDown lt hi first r d=if (!lt d[first+r]! d[first+(2 *r+2)]!)=true then d else siftDown lt hi first (2 *r+2) (swp d (first+r)<|first+(2 *r+2)):=by
 rw [siftDown,dif_neg ab,if_pos (by simp [h1]; omega),dif_pos ab]
theorem NV {hi first r:Nat} (A:2 *r+1 < hi) (h:¬2 *r+1 +1 < hi∨lt d[first+(2 *r+1)]! d[first+(2 *r+1)+1]! =false):
 siftDown lt hi first r d=if (!lt d[first+r]! d[first+(2 *r+1)]!)=true then d else siftDown lt hi first (2 *r+1) (swp d (first+r)<|first+(2 *r+1)):=by
 rw [siftDown,dif_neg ab,if_neg (by rcases h with h | h <;> simp [h] <;> omega)]
theorem XV {hi first k:Nat} (h:0 < k):heapBuild lt hi first k d=heapBuild lt hi first (k - 1) (siftDown lt hi first (k - 1) d):=by
 cases k with
 | zero=>omega
 | succ k=>rfl
theorem XW {hi first :Nat} :heapBuild lt hi first 0 d=d:=rfl
theorem Yr {first k:Nat} (h:0 < k):heapPop lt first k d=heapPop lt first (k - 1) (siftDown lt (k - 1) first 0 (swp d first (first+(k - 1)))):=by
 cases k with
 | zero=>omega
 | succ k=>rfl
theorem FY {p:α→Bool} {i j:Nat} (h:i≤j) (h1:p d[i]! =true):scanUp p d j i=scanUp p d j (i+1):=by
 rw [scanUp]; simp [h,h1]
theorem vy {p:α→Bool} {i j:Nat} (h:¬i≤j∨p d[i]! =false):scanUp p d j i=i:=by
 rw [scanUp]; rcases h with h | h <;> simp [h]
theorem C8 {p:α→Bool} {i j:Nat} (A:0 < j) (h:i≤j) (h1:p d[j]! =true):scanDown p d i j=scanDown p d i (j - 1):=by
 cases j with
 | zero=>omega
 | succ j=>rw [scanDown]; simp [h,h1]
theorem uL {p:α→Bool} {i j:Nat} (h:¬i≤j∨p d[j]! =false):scanDown p d i j=j:=by
 cases j with
 | zero=>rfl
 | succ j=>rw [scanDown]; rcases h with h | h <;> simp [h]
theorem acj {b i:Nat} (h:i < b) (h1:lt d[i]! d[i - 1]! =false):scanSorted lt d b i=scanSorted lt d b (i+1):=by
 rw [scanSorted]; simp [h,h1]
theorem N9 {b i:Nat} (h:¬i < b∨lt d[i]! d[i - 1]! =true):scanSorted lt d b i=i:=by
 rw [scanSorted]; rcases h with h | h <;> simp [h]
theorem abO {j:Nat} (h:0 < j) (h1:lt d[j]! d[j - 1]! =true):shiftDown lt j d=shiftDown lt (j - 1) (swp d j<|j - 1):=by
 cases j with
 | zero=>omega
 | succ j=>simp only [ud] at*; rw [shiftDown]; simp [h1]
theorem NJ {j:Nat} (h:¬0 < j∨lt d[j]! d[j - 1]! =false):shiftDown lt j d=d:=by
 cases j with
 | zero=>rfl
 | succ j=>simp only [ud] at*; rw [shiftDown]; rcases h with h | h <;> first | omega | simp [h]
theorem acF {b j:Nat} (h:j < b) (h1:lt d[j]! d[j - 1]! =true):shiftUp lt b j d=shiftUp lt b (j+1) (swp d j<|j - 1):=by
 rw [shiftUp]; simp [h,h1]
theorem Oi {b j:Nat} (h:¬j < b∨lt d[j]! d[j - 1]! =false):shiftUp lt b j d=d:=by
 rw [shiftUp]; rcases h with h | h <;> simp [h]
theorem abj {i j:Nat} (h:i < j):reverseLoop i j d=reverseLoop (i+1) (j - 1) (swp d i j):=by rw [reverseLoop,if_pos h]
theorem abk {i j:Nat} (h:¬i < j):reverseLoop i j d=d:=by rw [reverseLoop,if_neg h]
theorem Nb {a i j i2 A:Nat} (h1:scanUp (fun x=>lt x d[a]!) d j i=i2) (h2:scanDown (fun x=> !lt x d[a]!) d i2 j=A) (hi:i≤i2) (C:A≤j):
 partLoop lt a i j d=if i2 > A then (A,d) else if (A - 1)+1 - (i2+1) < j+1 - i then partLoop lt a (i2+1) (A - 1) (swp d i2 A) else (A,d):=by
 rw [partLoop]; simp only [h1,h2]; split <;> first | rfl | (split <;> rfl)
theorem M4 {a i j i2 A:Nat} (h1:scanUp (fun x=> !lt d[a]! x) d j i=i2) (h2:scanDown (fun x=>lt d[a]! x) d i2 j=A):
 partEqLoop lt a i j d=if i2 > A then (i2,d) else if (A - 1)+1 - (i2+1) < j+1 - i then partEqLoop lt a (i2+1) (A - 1) (swp d i2 A) else (i2,d):=by
 rw [partEqLoop]; simp only [h1,h2]; split <;> first | rfl | (split <;> rfl)
end
def cz (x y:Nat):Bool:=decide (x < y)
theorem xB:Go.Sort.SWO cz:=⟨fun x=>by simp [cz],fun x y z=>by simp only [cz,decide_eq_true_eq]; omega,fun x y z=>by simp only [cz,decide_eq_false_iff_not]; omega⟩
def bo (n:Nat):Value:= .int .u16 n
section
variable {P:Program} {N:Fm} {σ:Nat→Value} {w:World} {dst:Option Nat} {ty:TypeId} {pos :String} {af:Array Edge} {g:Option (Nat×Bool)} {x y:Operand}
theorem Ch {t G:TypeId} {k:IntKind} {a b v:Int} (C:ev N σ x= .int k a) (E:ev N σ y= .int k b) (A:k.wrap (gO k.bits a ^^^ gO k.bits b).toNat=v):
 (execOp (ev N σ) ⟨dst,.binOp .xor t x y G,ty,pos,af,g⟩).run P w= .ok (.value<|.int k v) w:=by
 subst A; simp [execOp,C,E,eqGuard,binOp,yn]
end
theorem OF (x:Int):0≤e8.wrap x∧e8.wrap x < 18446744073709551616:=by
 have h:e8.wrap x=x % 18446744073709551616:=by
  simp [IntKind.wrap,IntKind.bits,IntKind.signed]
 rw [h]; omega
theorem Q8 (r:Int) (m:Nat) (hm:0 < m∧m≤1099511627776):∃ o:Nat,o≤m - 1∧e8.wrap (gO e8.bits r &&& gO e8.bits ((m:Int) - 1)).toNat=(o:Int):=by
 refine ⟨(gO e8.bits r &&& gO e8.bits ((m:Int) - 1)).toNat,?_,?_⟩
 · rw [Pe];refine fz Nat.and_le_right ?_;have h1:(m:Int) - 1=((m - 1:Nat):Int):=ab;rw [h1,rv];have h2:(e8.bits:Nat)=64:=rfl;rw [h2];omega
 · exact qt (by have :=(gO e8.bits r &&& gO e8.bits ((m:Int) - 1)).isLt; have h2:(e8.bits:Nat)=64:=aa; rw [h2] at this ⊢; omega)
def lC (n:Nat):Nat:=if n=0 then 0 else Nat.log2 n+1
theorem Mc:∀ n:Fin 256,n.val≠0→n.val < 2 ^ lC n.val∧2 ^ lC n.val≤2 *n.val∧lC n.val≤8:=by decide+kernel
theorem Ag {n:Nat} (h:n < 256):lC n≤8:=by
 rcases Nat.eq_zero_or_pos n with rfl | A
 · decide
 · exact (Mc ⟨n,h⟩<|by simp; omega).2.2
theorem Zk {n:Nat} (h:n < 256) (A:0 < n):n < 2 ^ lC n∧2 ^ lC n≤2 *n:=by
 have :=Mc ⟨n,h⟩<|by simp; omega
 exact ⟨this.1,this.2.1⟩
end Go.Hb
end
namespace Go.Hb
def je:List Nat→List Nat
 | []=> []
 | [x]=> [x]
 | x::y::l=>if x=y then je (y::l) else x::je (y::l)
theorem Vq (x y:Nat):∀ l:List Nat,je (l++ [x,y])=if x=y then je (l++ [x]) else je (l++ [x])++ [y]:=by
 intro l
 induction l with
 | nil=>by_cases h:x=y <;> simp [je,h]
 | cons a l A=>
   cases l with
   | nil=>by_cases h:a=x <;> by_cases h2:x=y <;> simp_all [je]
   | cons b l=>
     simp only [GH] at A ⊢;rw [je,A,je];by_cases h:a=b <;> by_cases h2:x=y <;> simp [h,h2]
theorem Jj (x:Nat):∀ l:List Nat,x∈je l↔x∈l:=by
 intro l
 induction l with
 | nil=>simp [je]
 | cons a l A=>
   cases l with
   | nil=>simp [je]
   | cons b l=>
     rw [je];by_cases h:a=b
     · subst h; rw [if_pos rfl,A]; simp
     · rw [if_neg h,fG,A,fG (a:=x) (b:=a)]
theorem Vp:∀ l:List Nat,l.Pairwise (·≤·)→(je l).Pairwise (· < ·):=by
 intro l
 induction l with
 | nil=>intro _; exact List.Pairwise.nil
 | cons a l C=>
   intro h;cases l with
   | nil=>simp [je]
   | cons b l=>
     rw [rE] at h;rw [je];by_cases h1:a=b
     · rw [if_pos h1]; exact C h.2
     · rw [if_neg h1,rE];refine ⟨fun y A=> ?_,C h.2⟩;have A:=(Jj y _).1 A;have h2:=h.1 b<|by simp
       rcases fG.1 A with rfl | A
       · omega
       · have :=(rE.1 h.2).1 y A; omega
theorem abp:∀ l m:List Nat,l.Pairwise (· < ·)→m.Pairwise (· < ·)→(∀ x,x∈l↔x∈m)→l=m:=by
 intro l
 induction l with
 | nil=>
   intro m _ _ h;cases m with
   | nil=>rfl
   | cons y m=>have :=(h y).2 (by simp); cases this
 | cons a l E=>
   intro m C hm h;cases m with
   | nil=>have :=(h a).1 (by simp); cases this
   | cons y m=>
     rw [rE] at C hm;have e:a=y:=by
      have h1:=(h a).1<|by simp
      have h2:=(h y).2<|by simp
      rcases fG.1 h1 with h1 | h1
      · exact h1
      · rcases fG.1 h2 with h2 | h2
        · exact h2.symm
        · have :=C.1 y h2; have :=hm.1 a h1; omega
     subst e;congr 1;refine E m C.2 hm.2 fun x=> ?_;constructor
     · intro A;have :=C.1 x A;rcases fG.1 ((h x).1<|nW _ A) with h1 | h1
       · omega
       · exact h1
     · intro A;have :=hm.1 x A;rcases fG.1 ((h x).2<|nW _ A) with h1 | h1
       · omega
       · exact h1
def nC (x:Nat):List Nat→List Nat
 | []=> [x]
 | y::l=>if x < y then x::y::l else if x=y then y::l else y::nC x l
def kO (l:List Nat):List Nat:=l.foldr nC []
theorem LM (x y:Nat):∀ l:List Nat,y∈nC x l↔y=x∨y∈l:=by
 intro l
 induction l with
 | nil=>simp [nC]
 | cons a l A=>
   rw [nC];split
   · simp
   · split
     · rename_i h; subst h; simp
     · rw [fG,A,fG];constructor <;> (rintro (h | h | h) <;> simp [h])
theorem YG (x:Nat):∀ l:List Nat,l.Pairwise (· < ·)→(nC x l).Pairwise (· < ·):=by
 intro l
 induction l with
 | nil=>intro _; simp [nC]
 | cons a l E=>
   intro h;rw [nC];rw [rE] at h;split
   · rename_i C;rw [rE,rE];exact ⟨fun y A=>by rcases fG.1 A with rfl | A; exact C; have :=h.1 y A; omega,h⟩
   · split
     · rw [rE]; exact h
     · rw [rE];exact ⟨fun y A=>by rcases (LM x y l).1 A with rfl | A; omega; exact h.1 y A,E h.2⟩
theorem EK (x:Nat):∀ l:List Nat,x∈kO l↔x∈l:=by
 intro l
 induction l with
 | nil=>simp [kO]
 | cons a l A=>show x∈nC a (kO l)↔_; rw [LM,A,fG]
theorem EL:∀ l:List Nat,(kO l).Pairwise (· < ·):=by
 intro l
 induction l with
 | nil=>exact List.Pairwise.nil
 | cons a l A=>exact YG a _ A
theorem EM {l m:List Nat} (hm:m.Pairwise (· < ·)) (h:∀ x,x∈m↔x∈l):m=kO l:=abp _ _ hm (EL l) fun x=>by rw [h,EK]
theorem aal {l:List Nat} (h:l.Pairwise (· < ·)):kO l=l:=(EM h fun _=>Iff.rfl).symm
theorem YF (x:Nat):∀ l:List Nat,(nC x l).length≤l.length+1:=by
 intro l
 induction l with
 | nil=>simp [nC]
 | cons a l A=>rw [nC]; split <;> (try split) <;> simp only [cV] <;> omega
theorem aak:∀ l:List Nat,(kO l).length≤l.length:=by
 intro l
 induction l with
 | nil=>simp [kO]
 | cons a l A=>have :=YF a (kO l); show (nC a<|kO l).length≤_; simp only [cV]; omega
theorem vv (d:Array Nat):d.toList.length=d.size:=by simp
theorem x7 (d:Array Nat) (i:Nat):d.toList.getD i 0=d[i]! :=by
 rw [cX,yd];by_cases h:i < d.size
 · rw [Bk h,getElem!_pos d i h]; rfl
 · rw [sH ab,getElem!_neg d i h]; rfl
theorem AZ {d:Array Nat} {i:Nat} (h:i < d.size):d.toList.take (i+1)=d.toList.take i++ [d[i]!]:=by
 rw [fV d.toList i 0 (by simpa using h),x7]
theorem zm {d:Array Nat} {q:Nat} (h1:1≤q) (h:q < d.size):je (d.toList.take<|q+1)=if d[q - 1]! =d[q]! then je (d.toList.take q) else je (d.toList.take q)++ [d[q]!]:=by
 obtain ⟨q,rfl⟩:∃ k,q=k+1:=⟨q - 1,ab⟩
 rw [AZ h,AZ ab,eS,ud];exact Vq _ _ _
theorem Fy {d:Array Nat} (h:vJ cz 0 d.size d):d.toList.Pairwise (·≤·):=by
 rw [List.pairwise_iff_getElem];intro i j hi A C;have :=h i j (Nat.zero_le _) C<|by simpa using A
 rw [← x7,← x7,cX,cX,cx hi,cx A] at this;simp only [cz,decide_eq_false_iff_not,BQ] at this;omega
theorem acb {l:List Nat} {d:Array Nat} (hp:Go.Sort.PermIn 0 l.length l.toArray d) (hs:vJ cz 0 l.length d):je d.toList=kO l:=by
 have A:d.size=l.length:=by rw [hp.1]; simp
 have C:d.toList.Perm l:=by
  have :=hp.2.2;rw [show (d.extract 0 l.length).toList=d.toList from by rw [Array.toList_extract]; simp [e9 (show d.toList.length≤l.length by simp [A])]] at this;simpa using this
 exact EM (Vp _<|Fy<|by rw [A]; exact hs) fun x=>by rw [Jj]; exact C.mem_iff
theorem zp {d d2:Array Nat} {k j:Nat} (h:d.toList.drop k=d2.toList.drop k) (hk:k≤j):d[j]! =d2[j]! :=by
 have :=congrArg (fun l=>l.getD (j - k) 0) h;simp only [cX,sR,show k+(j - k)=j from by omega] at this;rw [← x7,← x7]; simpa [cX] using this
theorem set_drop {d:Array Nat} {k m v:Nat} (h:k < m):(d.setIfInBounds k v).toList.drop m=d.toList.drop m:=by
 rw [Gf,List.drop_set,if_pos h]
theorem Fs {d:Array Nat} {k v:Nat} (h:k < d.size):(d.setIfInBounds k v).toList.take (k+1)=d.toList.take k++ [v]:=by
 rw [Gf,List.set_eq_take_append_cons_drop,if_pos (by simpa using h),yD,dP,ye,qC ab,Qq,e9 (by rw [dP]; omega)];rfl
theorem Ei {h:Array Obj} {a:Option Addr} {d:Array Nat} {i j:Nat} {f:Nat→Value} (A:aM h a ((LE f d).drop i)) (hi:i+j < d.size):Hb.aW h (bk a) (fo a+j*1)=some (f d[i+j]!):=by
 refine A.gY ?_;rw [sR]; exact Ma hi
theorem Ej {d:Array Nat} {i:Nat} {f:Nat→Value} (h:i < d.size):(LE f d).drop i≠[]:=by
 intro e; have :=congrArg j7 e; rw [fS,xA,gB] at this; omega
def jK (b:UInt8):Bool:=decide (33≤b.toNat∧b.toNat≤126∧b.toNat≠47∧b.toNat≠44∧b.toNat≠35)
noncomputable def eW (kind:Nat) (s:List UInt8):Nat:=
 if kind=1 then (if s.length=1∧jK (s.getD 0 0)=true then (s.getD 0 0).toNat else 0)
 else if kind=2 then (if s.length=2∧jK (s.getD 0 0)=true∧jK (s.getD 1 0)=true then 256 *(s.getD 0 0).toNat+(s.getD 1 0).toNat else 0)
 else (ew s 65535).1
def gh (c:UInt8):List UInt8→List UInt8→List (List UInt8)
 | acc,[]=> [acc]
 | acc,b::l=>if b=c then acc::gh c [] l else gh c (acc++ [b]) l
theorem acg (c:UInt8):∀ (l acc:List UInt8),(gh c acc l).length≤l.length+1:=by
 intro l
 induction l with
 | nil=>intro acc; simp [gh]
 | cons b l A=>
   intro acc; rw [gh]; split
   · have :=A []; simp only [cV]; omega
   · have :=A (acc++ [b]); simp only [cV]; omega
theorem ach (c:UInt8):∀ (l acc x:List UInt8),x∈gh c acc l→x.length≤acc.length+l.length:=by
 intro l
 induction l with
 | nil=>intro acc x h; simp only [gh,iK] at h; subst h; simp
 | cons b l A=>
   intro acc x h;rw [gh] at h;split at h
   · rcases fG.1 h with rfl | h
     · simp
     · have :=A [] x h; simp only [gB,cV] at*; omega
   · have :=A _ x h; rw [bL,fu] at this; simp only [cV]; omega
def qP (k:Nat):Nat→List UInt8→List (List UInt8)
 | 0,_=> []
 | f+1,s=>if s= [] then [] else s.take k::qP k f (s.drop k)
def chunks (k:Nat) (s:List UInt8):List (List UInt8):=qP k s.length s
theorem TZ {k:Nat} (hk:0 < k):∀ (f g:Nat) (s:List UInt8),s.length≤f→s.length≤g→qP k f s=qP k g s:=by
 intro f
 induction f with
 | zero=>intro g s h _; obtain rfl :=fR (by omega :s.length=0); cases g <;> simp [qP]
 | succ f A=>
   intro g s h1 h2;cases g with
   | zero=>obtain rfl :=fR (by omega :s.length=0); simp [qP]
   | succ g=>
     rw [qP,qP];by_cases hs:s= []
     · simp [hs]
     · have C:=l7.2 hs;rw [if_neg hs,if_neg hs,A g (s.drop k) (by rw [fS]; omega) (by rw [fS]; omega)]
theorem zd (k:Nat):chunks k []= []:=rfl
theorem zb {k:Nat} {s:List UInt8} (hk:0 < k) (hs:s≠[]):chunks k s=s.take k::chunks k (s.drop k):=by
 have A:=l7.2 hs;unfold chunks;obtain ⟨m,hm⟩:∃ m,s.length=m+1:=⟨s.length - 1,ab⟩
 rw [hm,qP,if_neg hs,TZ hk m (s.drop k).length (s.drop k) (by rw [fS]; omega) (cU _)]
theorem T2 {k:Nat} (hk:0 < k):∀ (n:Nat) (s:List UInt8),s.length≤n→(chunks k s).length≤s.length:=by
 intro n
 induction n with
 | zero=>intro s h; obtain rfl :=fR (by omega :s.length=0); simp [zd]
 | succ n A=>
   intro s h;by_cases hs:s= []
   · subst hs; simp [zd]
   · have C:=l7.2 hs;rw [zb hk hs,cV];have :=A (s.drop k)<|by rw [fS]; omega
     rw [fS] at this; omega
theorem T3 {k:Nat} (hk:0 < k):∀ (n:Nat) (s x:List UInt8),s.length≤n→x∈chunks k s→x.length≤s.length:=by
 intro n
 induction n with
 | zero=>intro s x h A; obtain rfl :=fR (by omega :s.length=0); cases A
 | succ n C=>
   intro s x h A;by_cases hs:s= []
   · subst hs; cases A
   · have E:=l7.2 hs;rw [zb hk hs] at A;rcases fG.1 A with rfl | A
     · rw [dP]; omega
     · have :=C (s.drop k) x (by rw [fS]; omega) A;rw [fS] at this; omega
def dV (kind:Nat) (s:List UInt8):List (List UInt8):=if kind=3 then gh 44 [] s else chunks kind s
theorem M9 {kind:Nat} {s:List UInt8} (hk:0 < kind):(dV kind s).length≤s.length+1:=by
 unfold dV; split
 · exact acg _ _ _
 · have :=T2 hk s.length s (cU _); omega
theorem Na {kind:Nat} {s x:List UInt8} (hk:0 < kind) (h:x∈dV kind s):x.length≤s.length:=by
 unfold dV at h; split at h
 · have :=ach _ _ _ _ h; simpa using this
 · exact T3 hk _ _ _ (cU _) h
noncomputable def eu (kind:Nat) (s:List UInt8):List Nat×Nat:=
 if s= [] then ([],31) else if ∃ x∈dV kind s,eW kind x=0 then ([],31) else if 64 < (dV kind s).length then ([],32) else (kO ((dV kind s).map<|eW kind),0)
noncomputable def iD (kind:Nat) (s:List UInt8):Nat×Nat:=if eW kind s=0 then (0,31) else (eW kind s,0)
theorem Ko (kind:Nat) (s:List UInt8):eW kind s < 65536:=by
 unfold eW;have A:=jy<|s.getD 0 0;have h1:=jy<|s.getD 1 0;split
 · split <;> omega
 · split
   · split <;> omega
   · unfold ew; split
     · exact Nat.zero_lt_succ _
     · rename_i h; simp only; omega
theorem vC {n:Int} (h:0≤n∧n≤65535):qv.wrap n=n:=IntWalk.u16_in n h
theorem abW {x:Nat} (h:x < 256):qv.wrap ((x:Int)*2 ^ min (8:Int).toNat qv.bits)=((256 *x:Nat):Int):=by
 have h2:((x:Int)*2 ^ min (8:Int).toNat qv.bits)=((256 *x:Nat):Int):=by
  show (x:Int)*256=_;omega
 rw [h2]; exact vC ab
theorem or8 {x y:Nat} (h:x < 256) (G:y < 256):qv.wrap (gO qv.bits ((256 *x:Nat):Int) ||| gO qv.bits ((y:Nat):Int)).toNat=((256 *x+y:Nat):Int):=by
 have h1:(gO qv.bits ((256 *x:Nat):Int) ||| gO qv.bits ((y:Nat):Int)).toNat=256 *x+y:=by
  have E:(qv.bits:Nat)=16:=rfl;rw [Pf,rv,rv,E];have A:(((256 *x:Nat):Int) % ((2 ^ 16:Nat):Int)).toNat=2 ^ 8 *x:=ab;have C:(((y:Nat):Int) % ((2 ^ 16:Nat):Int)).toNat=y:=ab;rw [A,C,← Nat.two_pow_add_eq_or_of_lt (show y < 2 ^ 8 by omega)]
 rw [h1]; exact vC ab
theorem MR (s:List UInt8):(ew s 65535).1≤65535:=by
 unfold ew; split
 · exact Nat.zero_le _
 · simp only; omega
theorem T1 (s:List UInt8) (i k:Nat):(s.take (min ((i+k:Nat):Int) (s.length:Int)).toNat).drop (i:Int).toNat=(s.drop i).take k:=by
 rw [kQ,show (min ((i+k:Nat):Int) (s.length:Int)).toNat=min (i+k) s.length from by omega,tY];by_cases h:i+k≤s.length
 · rw [qC h,Qq]
 · rw [Nat.min_eq_right ab,e9 (by rw [fS]; omega),e9 (by rw [fS]; omega)]
theorem N7 (c:UInt8):∀ (l acc:List UInt8),l.idxOf c < l.length→gh c acc l=(acc++l.take (l.idxOf c))::gh c [] (l.drop<|l.idxOf c+1):=by
 intro l
 induction l with
 | nil=>intro acc h; simp at h
 | cons b l C=>
   intro acc h;rw [gh];by_cases A:b=c
   · subst A; rw [if_pos rfl]; simp
   · rw [if_neg A];have hi:(b::l).idxOf c=l.idxOf c+1:=by rw [yw,show (b==c)=false from by simpa using A]; rfl
     rw [hi] at h ⊢;simp only [cV] at h;rw [C _ ab];simp [eS]
theorem aci (c:UInt8):∀ (l acc:List UInt8),¬c∈l→gh c acc l= [acc++l]:=by
 intro l
 induction l with
 | nil=>intro acc _; simp [gh]
 | cons b l A=>
   intro acc h;rw [fG,not_or] at h;rw [gh,if_neg (fun e=>h.1 e.symm),A _ h.2]; simp
theorem FB (c:UInt8):∀ (l acc:List UInt8),(gh c acc l).length=l.count c+1:=by
 intro l
 induction l with
 | nil=>intro acc; simp [gh]
 | cons b l C=>
   intro acc;rw [gh];by_cases A:b=c
   · subst A; rw [if_pos rfl,cV,C]; simp
   · rw [if_neg A,C,List.count_cons_of_ne A]
theorem Vd {c:UInt8} {l:List UInt8} (h:l.idxOf c < l.length):(l.drop<|l.idxOf c+1).count c+1=l.count c:=by
 have h1:=FB c l [];rw [N7 c l [] h,cV,FB] at h1;omega
def bT (n:Nat):Value:= .int .i64 n
theorem Ah {α:Type} {f:α→Value} {h:Array Obj} {a:Option Addr} {l:List α} {i:Nat} (d:α) (A:aM h a (l.map f)) (hi:i < l.length):Hb.aW h (bk a) (fo a+i*1)=some (f<|l.getD i d):=by
 refine A.gY ?_;rw [gx,cx hi,cX,cx hi]; rfl
def rJ (l out:List Nat) (last:Int):Prop :=out.Pairwise (· < ·)∧∀ x,x∈out↔x∈l∧(x:Int)≤last
def lR (l:List Nat) (last:Int) (i:Nat) (nx:Int):Prop :=(nx= -1∧∀ j,j < i→((l.getD j 0:Nat):Int)≤last)∨(∃ m∈l,nx=(m:Nat)∧last < nx∧∀ j,j < i→last < ((l.getD j 0:Nat):Int)→nx≤((l.getD j 0:Nat):Int))
theorem rJ.nil (l:List Nat):rJ l [] (-1):=⟨List.Pairwise.nil,fun x=>by simp; omega⟩
theorem lR.nil (l:List Nat) (last:Int):lR l last 0 (-1):= .inl ⟨rfl,fun j A=>by omega⟩
theorem As {i:Nat} {q:Nat→Prop} (h:∀ j,j < i→q j) (h1:q i):∀ j,j < i+1→q j:=fun j A=>by
 rcases fM j i with h2 | h2
 · exact h j h2
 · rw [show j=i by omega]; exact h1
theorem lR.skip {l:List Nat} {last nx:Int} {i:Nat} (h:lR l last i nx) (h1:((l.getD i 0:Nat):Int)≤last∨(¬nx < 0∧nx≤((l.getD i 0:Nat):Int))):lR l last (i+1) nx:=by
 rcases h with ⟨h2,h3⟩ | ⟨m,hm,h2,h3,h4⟩
 · exact .inl ⟨h2,As h3 ab⟩
 · exact .inr ⟨m,hm,h2,h3,As h4 ab⟩
theorem lR.take {l:List Nat} {last nx:Int} {i:Nat} (h:lR l last i nx) (hi:i < l.length) (h1:last < ((l.getD i 0:Nat):Int)) (h2:nx < 0∨((l.getD i 0:Nat):Int) < nx):lR l last (i+1) ((l.getD i 0:Nat):Int):=by
 refine .inr ⟨l.getD i 0,?_,aa,h1,?_⟩
 · rw [cX,cx hi]; exact P7 hi
 · rcases h with ⟨_,h4⟩ | ⟨m,_,h3,_,h5⟩
   · exact As (fun j A C=>by have :=h4 j A; omega) ab
   · exact As (fun j A C=>by have :=h5 j A C; omega) ab
theorem lR.done {l out:List Nat} {last nx:Int} (h:lR l last l.length nx) (hu:rJ l out last) (hn:nx < 0):out=kO l:=by
 refine EM hu.1 fun x=> ?_;rw [hu.2];refine ⟨fun h1=>h1.1,fun h1=>⟨h1,?_⟩⟩;rcases h with ⟨_,h3⟩ | ⟨m,_,h3,_,_⟩
 · obtain ⟨j,A,rfl⟩:=BJ.1 h1;have :=h3 j A;rwa [cX,cx A] at this
 · omega
theorem lR.more {l out:List Nat} {last nx:Int} (h:lR l last l.length nx) (hu:rJ l out last) (hn:¬nx < 0):∃ m,m∈l∧nx=((m:Nat):Int)∧last < nx∧rJ l (out++ [m]) nx:=by
 rcases h with ⟨h2,_⟩ | ⟨m,hm,h2,h3,h4⟩
 · omega
 · refine ⟨m,hm,h2,h3,?_,fun x=> ?_⟩
   · rw [List.pairwise_append];exact ⟨hu.1,List.pairwise_singleton _ _,fun a I b A=>by rw [iK] at A; subst A; have :=((hu.2 a).1 I).2; omega⟩
   · rw [jm,hu.2,iK];constructor
     · rintro (⟨h5,E⟩ | rfl)
       · exact ⟨h5,ab⟩
       · exact ⟨hm,ab⟩
     · rintro ⟨h5,E⟩;by_cases G:(x:Int)≤last
       · exact .inl ⟨h5,G⟩
       · right;obtain ⟨j,C,rfl⟩:=BJ.1 h5;have :=h4 j C;rw [cX,cx C] at this;simp only [BQ] at this;omega
end Go.Hb
section
namespace Go.Hb
def jr (b:UInt8):Bool:=decide (33≤b.toNat∧b.toNat≠127)
def gQ (w:List UInt8):Bool:=w.all jr
def rk (w:List UInt8):Bool:=decide (1≤w.length∧w.length≤64∧gQ w=true)
theorem eb {α:Type} {l:List α} {i:Nat} {d:α} (h:i < l.length):l.getD i d∈l:=by
 rw [cX,cx h]; exact P7 h
theorem mR {α:Type} {l:List α} {x:α} (d:α) (h:x∈l):∃ i,i < l.length∧l.getD i d=x:=by
 obtain ⟨i,hi,rfl⟩:=BJ.1 h;exact ⟨i,hi,by rw [cX,cx hi]; rfl⟩
theorem Hl {α:Type} {f:α→Bool} {l:List α} {i:Nat} (d:α) (h:i < l.length) (h1:f (l.getD i d)=false):l.all f=false :=by
 rw [List.all_eq_false]; exact ⟨_,eb h,by rw [h1]; exact ep⟩
theorem Hm {α:Type} {f:α→Bool} {l:List α} (d:α) (h:∀ i,i < l.length→f (l.getD i d)=true):l.all f=true :=by
 rw [mz]; intro x A; obtain ⟨i,hi,rfl⟩:=mR d A; exact h i hi
theorem uD {w:List UInt8} {i:Nat} (h:i < w.length) (h1:jr (w.getD i 0)=false):gQ w=false :=Hl 0 h h1
theorem wq {w:List UInt8} (h:∀ i,i < w.length→jr (w.getD i 0)=true):gQ w=true :=Hm 0 h
theorem RD (b:UInt8):gQ [b]=jr b:=by unfold gQ; simp
def tj (b:UInt8):Bool:=decide (b.toNat=92∨b.toNat=47∨b.toNat=35)
abbrev l9:Type :=List UInt8×List UInt8×Bool×Nat
def Nj (r:l9):Value:= .tuple #[str r.1,str r.2.1,.bool r.2.2.1,.int .i64 r.2.2.2]
def jV:List UInt8→List UInt8→l9
 | acc,[]=>(acc,[],false,0)
 | acc,[b]=>if b.toNat=47 then (acc,[],true,0) else if b.toNat=92 then ([],[],false,20) else (acc++ [b],[],false,0)
 | acc,b::c::l=>if b.toNat=47 then (acc,c::l,true,0) else if b.toNat=92 then (if tj c=true then jV (acc++ [c]) l else ([],[],false,20)) else jV (acc++ [b]) (c::l)
theorem Bf (acc:List UInt8):jV acc []=(acc,[],false,0):=by simp [jV]
theorem F8 {acc l:List UInt8} {b:UInt8} (h:b.toNat=47):jV acc (b::l)=(acc,l,true,0):=by
 cases l <;> simp [jV,h]
theorem F5 {acc:List UInt8} {b:UInt8} (h:b.toNat=92):jV acc [b]=([],[],false,20):=by simp [jV,h]
theorem F6 {acc l:List UInt8} {b c:UInt8} (h:b.toNat=92) (A:tj c=false):jV acc (b::c::l)=([],[],false,20):=by simp [jV,h,A]
theorem yb {acc l:List UInt8} {b c:UInt8} (h:b.toNat=92) (A:tj c=true):jV acc (b::c::l)=jV (acc++ [c]) l:=by simp [jV,h,A]
theorem F7 {acc l:List UInt8} {b:UInt8} (h:¬b.toNat=47) (h1:¬b.toNat=92):jV acc (b::l)=jV (acc++ [b]) l:=by
 cases l <;> simp [jV,h,h1]
theorem adQ (n:Nat):∀ (l acc:List UInt8),l.length≤n→(jV acc l).1.length≤acc.length+l.length∧(jV acc l).2.1.length≤l.length:=by
 induction n with
 | zero=>intro l acc h; obtain rfl :=fR (by omega :l.length=0); rw [Bf]; exact ⟨by simp,by simp⟩
 | succ n A=>
   intro l acc h;cases l with
   | nil=>rw [Bf]; exact ⟨by simp,by simp⟩
   | cons b l=>
     simp only [cV] at h ⊢;by_cases h1:b.toNat=47
     · rw [F8 h1]; exact ⟨by simp only; omega,by simp only; omega⟩
     · by_cases h2:b.toNat=92
       · cases l with
         | nil=>rw [F5 h2]; exact ⟨by simp,by simp⟩
         | cons c l=>
           simp only [cV] at h ⊢;cases hc:tj c
           · rw [F6 h2 hc]; exact ⟨by simp,by simp⟩
           · rw [yb h2 hc];have :=A l (acc++ [c]) ab;rw [bL,fu] at this;omega
       · rw [F7 h1 h2];have :=A l (acc++ [b]) ab;rw [bL,fu] at this;omega
def bF (f:List UInt8):l9:=jV [] f
theorem tL (f:List UInt8):(bF f).1.length≤f.length∧(bF f).2.1.length≤f.length:=by
 have :=adQ f.length f []<|cU _;simpa [bF] using this
def lets (s:List UInt8):List UInt8:=s.foldl (fun a b=>if b∈a then a else a++ [b]) []
def letE (s:List UInt8):List UInt8×Nat:=if s= []∨gQ s=false then ([],21) else (lets s,0)
theorem se {s:List UInt8} {i:Nat} (h:i < s.length):lets (s.take<|i+1)=if s.getD i 0∈lets (s.take i) then lets (s.take i) else lets (s.take i)++ [s.getD i 0]:=by
 unfold lets;rw [fV s i 0 h,GK]; rfl
theorem Ek (s:List UInt8):(lets s).length≤s.length:=by
 have key:∀ (s a:List UInt8),(s.foldl (fun a b=>if b∈a then a else a++ [b]) a).length≤a.length+s.length:=by
  intro s
  induction s with
  | nil=>intro a; simp
  | cons b s A=>
    intro a;rw [sQ,cV];split
    · have :=A a; omega
    · have :=A (a++ [b]); rw [bL,fu] at this; omega
 have :=key s [];simpa [lets] using this
def marksOf (a:List UInt8):List Value:=(gX 256).map fun k=> .bool<|decide (ky k∈a)
theorem Mp (a:List UInt8):(marksOf a).length=256:=by simp [marksOf]
theorem ZG (a:List UInt8) (b:UInt8):(marksOf a)[b.toNat]? =some (.bool<|decide (b∈a)):=by
 have :=jy b;unfold marksOf;rw [gx,BG ab];simp
theorem ZI (a:List UInt8) (b:UInt8):(marksOf a).set b.toNat (.bool true)=marksOf (a++ [b]):=by
 apply qw;intro k;rw [lK,Mp];unfold marksOf;rw [gx,gx];by_cases hk:k < 256
 · rw [BG hk];simp only [lL];have he:(ky k=b)↔b.toNat=k:=by
    constructor
    · rintro rfl; simp; omega
    · rintro rfl; simp
   by_cases h:b.toNat=k
   · have h2:=he.2 h;simp [h,hk,h2]
   · have h2:¬ky k=b:=fun e=>h<|he.1 e;simp [h,h2]
 · have :(gX 256)[k]? =none:=vQ<|by simp; omega
   have A:=jy b;rw [this];simp; omega
theorem ZH:marksOf []=kR 256 (.bool false):=by
 unfold marksOf;apply qw;intro k;rw [gx,List.getElem?_replicate];by_cases hk:k < 256
 · rw [BG hk]; simp [hk]
 · rw [vQ (by simp; omega)]; simp [hk]
theorem Bd.new {T e b:Nat} {w:World} (h:w.heap[b]? =some (.cells [By none,.slice none 0 0].toArray T (0,0))):Bd T e w b (.slice none 0 0) []:=
 ⟨⟨none,h,.inl rfl⟩,dK _ _ _ _,by simp⟩
theorem Bd.step {T e b:Nat} {w0 w w':World} {A:Value} {l:List UInt8} (h:Bd T e w b A l) (C:Wk w0 w) (E:Md (BF b A) w w') (I:w0.heap.size≤b):Wk w0 w':=
 Md.trans' C E fun k hk G=>by have :=h.jS G; omega
theorem Bd.FI {T e b:Nat} {w0 w w':World} {A:Value} {l:List UInt8} (h:Bd T e w b A l) (C:Wk w0 w) (E:Md (fun k=>A.ownBlock=some k) w w') (I:w0.heap.size≤b):Wk w0 w':=
 Md.trans' C E fun k hk G=>by have :=h.jS (.inr G); omega
end Go.Hb
end
section
set_option linter.unusedSimpArgs false
namespace Go.Hb
def rO (g:Nat→Bool):Nat→Nat
 | 0=>0
 | n+1=>rO g n ||| (if g n=true then 2 ^ n else 0)
theorem Rm (g:Nat→Bool):∀ n,rO g n < 2 ^ n:=by
 intro n
 induction n with
 | zero=>exact Nat.zero_lt_one
 | succ n A=>
   rw [rO];refine GQ (Nat.lt_trans A<|BO aB<|vT n) ?_;split
   · exact BO aB<|vT n
   · exact Nat.two_pow_pos _
theorem wo (g:Nat→Bool) (j:Nat):∀ n,(rO g n).testBit j=(decide (j < n) && g j):=by
 intro n
 induction n with
 | zero=>simp [rO]
 | succ n E=>
   rw [rO,Qt,E];by_cases C:j=n
   · subst C;cases h:g j <;> simp [Nat.testBit_two_pow_self]
   · have A:(if g n=true then 2 ^ n else 0).testBit j=false :=by
      split
      · rw [Qu]; simp; omega
      · simp
     rw [A,Pg];congr 1;exact decide_eq_decide.2 ab
theorem yW {g:Nat→Bool} {x:Nat} (C:x < 2 ^ 64) (h:∀ j,j < 64→x.testBit j=g j):x=rO g 64:=by
 refine Nat.eq_of_testBit_eq fun j=> ?_;rw [wo];by_cases A:j < 64
 · rw [h j A,decide_eq_true A,yh]
 · rw [decide_eq_false A,Bool.false_and];exact Nat.testBit_lt_two_pow<|ue C<|Nat.pow_le_pow_right aB ab
def fE (f:UInt8→Bool) (k:Nat):Nat:=rO (fun j=>f<|ky<|64 *k+j) 64
def ff (f:UInt8→Bool):List Value:= [.int .u64 (fE f 0),.int .u64 (fE f 1),.int .u64 (fE f 2),.int .u64 (fE f 3)]
theorem vB (f:UInt8→Bool) (k:Nat):fE f k < 18446744073709551616:=Rm _ 64
theorem zf (f:UInt8→Bool):(ff f).length=4:=rfl
theorem IS (f:UInt8→Bool):(ff f).all gw=true :=rfl
theorem CZ (f:UInt8→Bool) {k:Nat} (h:k < 4):(ff f)[k]? =some (.int .u64<|fE f k):=by
 match k,h with
 | 0,_=>rfl
 | 1,_=>rfl
 | 2,_=>rfl
 | 3,_=>rfl
theorem C0:ff (fun _=>false)= [.int .u64 0,.int .u64 0,.int .u64 0,.int .u64 0]:=by
 have :∀ k,fE (fun _=>false) k=0:=fun k=>(yW (x:=0) aB fun j _=>by simp).symm;unfold ff; simp only [this]; rfl
theorem Ci (b:UInt8) {k j:Nat} (hk:k < 4) (C:j < 64):ky (64 *k+j)=b↔k=b.toNat / 64∧j=b.toNat % 64:=by
 have A:=jy b;constructor
 · rintro rfl;simp only [GU];omega
 · rintro ⟨h1,h2⟩;refine lM.1 ?_;simp only [GU];omega
theorem adH (f:UInt8→Bool) (b:UInt8) {k:Nat} (hk:k < 4):fE (fun x=>f x || decide (x=b)) k=if k=b.toNat / 64 then fE f k ||| 2 ^ (b.toNat % 64) else fE f k:=by
 split
 · rename_i h;refine (yW (GQ (vB f k)<|BO aB ab) fun j A=> ?_).symm;rw [Qt,Qu];have h1:(fE f k).testBit j=f (ky<|64 *k+j):=by unfold fE; rw [wo,decide_eq_true A,yh]
   rw [h1];congr 1;exact decide_eq_decide.2<|by rw [Ci b hk A]; omega
 · rename_i h;refine (yW (vB f k) fun j A=> ?_).symm;have h1:(fE f k).testBit j=f (ky<|64 *k+j):=by unfold fE; rw [wo,decide_eq_true A,yh]
   show _=(f (ky<|64 *k+j) || decide (ky (64 *k+j)=b))
   rw [h1,decide_eq_false (by rw [Ci b hk A]; omega),Pg]
theorem Uu (f:UInt8→Bool) (b:UInt8):(ff f).set (b.toNat / 64) (.int .u64 ((fE f (b.toNat / 64) ||| 2 ^ (b.toNat % 64):Nat):Int))=ff (fun x=>f x || decide (x=b)):=by
 have A:=jy b;apply qw;intro k;rw [lK,zf];by_cases hk:k < 4
 · rw [CZ _ hk,CZ _ hk,adH f b hk];by_cases h:b.toNat / 64=k
   · subst h; simp [show b.toNat / 64 < 4 by omega]
   · rw [if_neg h,if_neg (fun e=>h e.symm)]
 · rw [vQ (by rw [zf]; omega),vQ (by rw [zf]; omega)];simp; omega
theorem adG (f:UInt8→Bool) (b:UInt8):decide ((((fE f (b.toNat / 64) / 2 ^ (b.toNat % 64)) % 2:Nat):Int)=1)=f b:=by
 have A:=jy b;have h1:(fE f<|b.toNat / 64).testBit (b.toNat % 64)=f b:=by
  unfold fE;rw [wo,decide_eq_true (Nat.mod_lt _ aB),yh,(Ci b (k:=b.toNat / 64) (j:=b.toNat % 64) ab<|Nat.mod_lt _ aB).2 ⟨rfl,rfl⟩]
 rw [← h1,Nat.testBit_eq_decide_div_mod_eq];exact decide_eq_decide.2 ab
theorem Hp (b:UInt8):rA.wrap (gO rA.bits (b.toNat:Int) &&& gO rA.bits 63).toNat=((b.toNat % 64:Nat):Int):=by
 have h:∀ r:Fin 256,rA.wrap (gO rA.bits ((r.val:Nat):Int) &&& gO rA.bits 63).toNat=((r.val % 64:Nat):Int):=by decide+kernel
 exact h ⟨b.toNat,jy b⟩
theorem NU (b:UInt8):(b.toNat:Int).fdiv (2 ^ min (6:Int).toNat rA.bits)=((b.toNat / 64:Nat):Int):=by
 have h:∀ r:Fin 256,((r.val:Nat):Int).fdiv (2 ^ min (6:Int).toNat rA.bits)=((r.val / 64:Nat):Int):=by decide+kernel
 exact h ⟨b.toNat,jy b⟩
theorem abV {m:Nat} (h:m < 64):e8.wrap ((1:Int)*2 ^ min ((m:Nat):Int).toNat e8.bits)=((2 ^ m:Nat):Int):=by
 have h2:(e8.bits:Nat)=64:=rfl;rw [kQ,h2,qC ab,Int.one_mul];have h3:(2:Nat) ^ m < 2 ^ 64:=BO aB h;have h4:((2:Int) ^ m)=((2 ^ m:Nat):Int):=by simp
 rw [h4];obtain ⟨x,A⟩:∃ x:Nat,2 ^ m=x:=⟨_,rfl⟩
 rw [A] at h3 ⊢; exact qt ab
theorem aas {x y:Nat} (C:x < 2 ^ 64) (E:y < 2 ^ 64):e8.wrap (gO e8.bits (x:Int) ||| gO e8.bits (y:Int)).toNat=((x ||| y:Nat):Int):=by
 have A:(e8.bits:Nat)=64:=rfl;have h1:(gO e8.bits (x:Int) ||| gO e8.bits (y:Int)).toNat=x ||| y:=by
  rw [Pf,rv,rv,A];congr 1 <;> omega
 rw [h1];have :=GQ C E;obtain ⟨z,G⟩:∃ z:Nat,x ||| y=z:=⟨_,rfl⟩
 rw [G] at this ⊢; exact qt ab
theorem ab3 (x:Nat) {m:Nat} (h:m < 64):(x:Int).fdiv (2 ^ min ((m:Nat):Int).toNat e8.bits)=((x / 2 ^ m:Nat):Int):=by
 have h2:(e8.bits:Nat)=64:=rfl;rw [kQ,h2,qC ab];rw [show ((2:Int) ^ m)=((2 ^ m:Nat):Int) by simp,Int.fdiv_eq_ediv_of_nonneg _ (Int.natCast_nonneg _)]; rfl
theorem Q7 {x:Nat} (C:x < 2 ^ 64):e8.wrap (gO e8.bits (x:Int) &&& gO e8.bits 1).toNat=((x % 2:Nat):Int):=by
 have A:(e8.bits:Nat)=64:=rfl;have h1:(gO e8.bits (x:Int) &&& gO e8.bits 1).toNat=x % 2:=by
  rw [Pe,rv,rv,A,show ((x:Int) % ((2 ^ 64:Nat):Int)).toNat=x by omega];exact Nat.and_one_is_mod x
 rw [h1]; exact qt ab
section
variable {P:Program} {N:Fm} {σ:Nat→Value} {w:World} {dst:Option Nat} {ty:TypeId} {pos :String} {af:Array Edge} {g:Option (Nat×Bool)} {x:Operand}
theorem zh {t:TypeId} {k:Nat} {f:UInt8→Bool} (G:ev N σ x= .int .u64 (fE f k)):(execOp (ev N σ) ⟨dst,.unOp .xor t x,ty,pos,af,g⟩).run P w= .ok (.value<|.int .u64<|fE (fun y=> !f y) k) w:=by
 have E:=vB f k;have h1:e8.wrap (gO e8.bits e8.max ^^^ gO e8.bits (fE f k:Int)).toNat=(fE (fun y=> !f y) k:Int):=by
  have C:(e8.bits:Nat)=64:=rfl;have h2:(gO e8.bits e8.max ^^^ gO e8.bits (fE f k:Int)).toNat=fE (fun y=> !f y) k:=by
   rw [BitVec.toNat_xor,rv,rv,C,show (e8.max % ((2 ^ 64:Nat):Int)).toNat=2 ^ 64 - 1 from by decide,show ((fE f k:Int) % ((2 ^ 64:Nat):Int)).toNat=fE f k by omega];refine yW (Nat.xor_lt_two_pow aB E) fun j A=> ?_;rw [Nat.testBit_xor,Nat.testBit_two_pow_sub_one,decide_eq_true A,Bool.true_xor];congr 1;unfold fE; rw [wo,decide_eq_true A,yh]
  rw [h2]; have :=vB (fun y=> !f y) k; exact qt ab
 have h3:(yn .xor e8 e8.max (fE f k:Int)).run P w= .ok (.int .u64<|fE (fun y=> !f y) k) w:=by
  simp only [yn];rw [← h1]; rfl
 have h4:(Gt .xor<|.int e8 (fE f k:Int)).run P w= .ok (.int .u64<|fE (fun y=> !f y) k) w:=by
  simp only [Gt];exact h3
 simp [execOp,G,h4]
end
def c8 (t:List UInt8) (b:UInt8):Bool:=
 if t.length=1 then decide (t.getD 0 0=46∨t.getD 0 0=b)
 else if t.getD 1 0=94 then !decide (b∈(t.take<|t.length - 1).drop 2)
 else decide (b∈(t.take<|t.length - 1).drop 1)
def jd:List UInt8→Option (List UInt8×List UInt8)
 | []=>none
 | b::l=>if b=91 then (if l.idxOf 93 < l.length∧l.idxOf 93≠0∧¬(l.idxOf 93=1∧l.getD 0 0=94) then some (b::l.take (l.idxOf 93 +1),l.drop (l.idxOf 93 +1)) else none) else some ([b],l)
theorem CT {s t r:List UInt8} (h:jd s=some (t,r)):r.length < s.length:=by
 cases s with
 | nil=>cases h
 | cons b l=>
   simp only [jd] at h;split at h
   · split at h
     · simp only [gD,ug] at h;obtain ⟨_,rfl⟩:=h;rw [fS,cV]; omega
     · cases h
   · simp only [gD,ug] at h;obtain ⟨_,rfl⟩:=h;simp
def mJ:Nat→List UInt8→Option (List<|List UInt8)
 | 0,s=>if s= [] then some [] else none
 | f+1,s=>if s= [] then some [] else match jd s with
   | none=>none
   | some (t,r)=>(mJ f r).map (t:: ·)
theorem U1:∀ (f g:Nat) (s:List UInt8),s.length≤f→s.length≤g→mJ f s=mJ g s:=by
 intro f
 induction f with
 | zero=>intro g s h _; obtain rfl :=fR (by omega :s.length=0); cases g <;> simp [mJ]
 | succ f A=>
   intro g s h1 h2;cases g with
   | zero=>obtain rfl :=fR (by omega :s.length=0); simp [mJ]
   | succ g=>
     rw [mJ,mJ];split
     · rfl
     · cases hc:jd s with
       | none=>rfl
       | some q=>
         obtain ⟨t,r⟩:=q;have :=CT hc;simp only;rw [A g r ab ab]
def nr (s:List UInt8):Option (List<|List UInt8):=mJ s.length s
theorem UX:nr []=some []:=rfl
theorem UZ {s t r:List UInt8} (h:jd s=some (t,r)):nr s=(nr r).map (t:: ·):=by
 have A:=CT h;unfold nr;obtain ⟨m,hm⟩:∃ m,s.length=m+1:=⟨s.length - 1,ab⟩
 have hs:s≠[]:=fun e=>by rw [e] at hm; simp at hm
 rw [hm,mJ,if_neg hs,h];simp only;rw [U1 m r.length r ab (cU _)]
theorem UY {s:List UInt8} (hs:s≠[]) (h:jd s=none):nr s=none:=by
 unfold nr;have A:=l7.2 hs;obtain ⟨m,hm⟩:∃ m,s.length=m+1:=⟨s.length - 1,ab⟩
 rw [hm,mJ,if_neg hs,h]
def dz (s:List UInt8):List (List UInt8)×Nat:=
 if s= []∨512 < s.length then ([],40) else if s= [46] then ([],0) else match nr s with
  | none=>([],41)
  | some xs=>if 16 < xs.length then ([],42) else (xs,0)
def kS (s:List UInt8) (i:Nat) (A:List (List UInt8)):Prop :=nr s=(nr<|s.drop i).map (A++ ·)
theorem kS.start (s:List UInt8):kS s 0 []:=by
 unfold kS; rw [yu]; cases nr s <;> simp
theorem kS.step {s t r:List UInt8} {i j:Nat} {A:List (List UInt8)} (h:kS s i A) (C:jd (s.drop i)=some (t,r)) (E:r=s.drop j):kS s j (A++ [t]):=by
 subst E;unfold kS at*;rw [h,UZ C];cases nr (s.drop j) <;> simp
theorem kS.bad {s:List UInt8} {i:Nat} {A:List (List UInt8)} (h:kS s i A) (hi:i < s.length) (C:jd (s.drop i)=none):nr s=none:=by
 unfold kS at h;rw [h,UY (fun e=>by have :=congrArg j7 e; rw [fS,gB] at this; omega) C]; rfl
theorem kS.done {s:List UInt8} {i:Nat} {A:List (List UInt8)} (h:kS s i A) (hi:s.length≤i):nr s=some A:=by
 unfold kS at h;rw [h,iJ hi,UX]; simp
theorem II {b:UInt8} {l:List UInt8} (h:b≠91):jd (b::l)=some ([b],l):=by simp [jd,h]
theorem CU {b:UInt8} {l:List UInt8} (A:b=91) (h:l.idxOf 93 < l.length) (h1:l.idxOf 93≠0) (h2:¬(l.idxOf 93=1∧l.getD 0 0=94)):jd (b::l)=some (b::l.take (l.idxOf 93 +1),l.drop (l.idxOf 93 +1)):=by
 simp only [jd]; rw [if_pos A,if_pos ⟨h,h1,h2⟩]
theorem ze {b:UInt8} {l:List UInt8} (A:b=91) (h:¬(l.idxOf 93 < l.length∧l.idxOf 93≠0∧¬(l.idxOf 93=1∧l.getD 0 0=94))):jd (b::l)=none:=by
 simp only [jd]; rw [if_pos A,if_neg h]
def mH (f:UInt8→Bool) (i:Nat):List UInt8:=((gX i).map ky).filter f
def bytesOf (f:UInt8→Bool):List UInt8:=mH f 256
theorem uC (f:UInt8→Bool) (i:Nat):mH f (i+1)=mH f i++(if f (ky i)=true then [ky i] else []):=by
 unfold mH;rw [List.range_succ,gW,List.filter_append];congr 1;cases h:f (ky i) <;> simp [h]
theorem rQ (f:UInt8→Bool) (i:Nat):(mH f i).length≤i:=by
 unfold mH;refine fz (sS _ _) ?_;simp
theorem HF (f:UInt8→Bool) (b:UInt8):b∈bytesOf f↔f b=true :=by
 unfold bytesOf mH;rw [List.mem_filter];refine ⟨fun h=>h.2,fun h=>⟨?_,h⟩⟩;rw [jn];exact ⟨b.toNat,pW.2 (jy b),by simp⟩
theorem RA (f:UInt8→Bool):(bytesOf f).Nodup:=by
 unfold bytesOf mH;refine List.Nodup.sublist List.filter_sublist ?_;rw [Qc,List.pairwise_map];refine ad8 ?_<|Qc.1 List.nodup_range;intro a b A C E e;have h1:=pW.1 A;have h2:=pW.1 C;have :=congrArg UInt8.toNat e;simp only [GU] at this;omega
theorem RC (f:UInt8→Bool):∀ i,(mH f i).length+(mH (fun b=> !f b) i).length=i:=by
 intro i
 induction i with
 | zero=>rfl
 | succ i A=>
   rw [uC,uC,bL,bL];cases h:f (ky i) <;> simp [h] <;> omega
theorem HE {f g:UInt8→Bool} (h:∀ b,f b=g b):bytesOf f=bytesOf g:=by rw [show f=g from funext h]
def iH (f:UInt8→Bool):List UInt8:=
 if (bytesOf f).length=256 then [46]
 else if (bytesOf f).length=1∧(bytesOf f).getD 0 0≠46∧(bytesOf f).getD 0 0≠91 then bytesOf f
 else if f 93=true then [91,94]++bytesOf (fun b=> !f b)++ [93]
 else [91]++((bytesOf f).filter (fun b=>decide (b≠94))++(if 94∈bytesOf f then [94] else []))++ [93]
def mV (ps:List (List UInt8)):List UInt8:=if ps= [] then [46] else ps.flatMap fun t=>iH<|c8 t
theorem Ft (f:UInt8→Bool):(iH f).length≤300:=by
 have h1:=rQ f 256;have h2:=rQ (fun b=> !f b) 256;unfold iH;split
 · simp
 · split
   · unfold bytesOf; omega
   · split
     · simp only [bL,cV,gB]; unfold bytesOf; omega
     · have h3:=sS (fun b=>decide (b≠94))<|bytesOf f;have h4:(if 94∈bytesOf f then [(94:UInt8)] else []).length≤1:=by split <;> simp
       simp only [bL,cV,gB];have h5:(bytesOf f).length≤256:=h1;omega
theorem Yt {l:List UInt8} (hn:l.Nodup) {c:UInt8} (h:l.idxOf c < l.length):l.take (l.idxOf c)++l.drop (l.idxOf c+1)=l.filter (fun b=>decide (b≠c)):=by
 induction l with
 | nil=>simp at h
 | cons b l E=>
   rw [BK] at hn;by_cases A:b=c
   · subst A;simp only [GM,mA,qA,iM,yt,yu];rw [List.filter_cons_of_neg (by simp)];exact (BE.2 fun x C=>by simp; rintro rfl; exact hn.1 C).symm
   · have e:(b::l).idxOf c=l.idxOf c+1:=by rw [yw,show (b==c)=false from by simpa using A]; rfl
     rw [e] at h ⊢;simp only [cV] at h;rw [rF,yt,GH,E hn.2 ab,List.filter_cons_of_pos (by simpa using A)]
theorem MQ {l:List UInt8} {c:UInt8} (h:¬c∈l):l.filter (fun b=>decide (b≠c))=l:=
 BE.2 fun x A=>by simp; rintro rfl; exact h A
def lV (ps:List (List UInt8)):List Value:=ps.flatMap fun t=>ff<|c8 t
theorem Ut (a b:List (List UInt8)):lV (a++b)=lV a++lV b:=by simp [lV]
end Go.Hb
end
