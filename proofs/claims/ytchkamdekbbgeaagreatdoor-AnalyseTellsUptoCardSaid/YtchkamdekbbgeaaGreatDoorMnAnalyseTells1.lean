/-
  Walks and plain laws that the law rests on, laid together. No conditions but those that each theorem names.
-/
import Derived.WalkKit
import Derived.OrdersHeld
import Derived.TacticsIn
import Derived.Lib.Strings
import Derived.Lib.UnsafeStr
import Derived.Laws.MakeOwn
import Derived.Laws.StructEq
import Derived.SliceStrings
import Derived.Carry
import Derived.JoinedCond
import Derived.ProofKit
import Derived.OpenShut
import Derived.Test.YtchkamdekbbgeaaGreatDoorRows
import Derived.Sort.AssemblyPlain
import Derived.RangeFuncFrom
import Derived.RangeFuncLeaves
import Derived.Recover
import Derived.Laws.OwnMore
import Derived.Lib.Bytealg
import Derived.Lib.SliceRun
import Derived.OrdersIn
import Derived.Maps.RangeRun
import Derived.Test.YtchkamdekbbgeaaGreatDoorChecked
import Derived.Shelf.Slices.In.SortAlone
import Derived.Shelf.Slices.In.SortNone
import Derived.Sort.OwnSortedInts
import Derived.Sort.EveryDepth
import Derived.Shelf.SlSortCmp.NoneTotal
import Derived.Sort.OwnSorted
import Derived.Sort.Walk0
set_option linter.unusedVariables false
open Array renaming ext_getElem?→HE,getD_eq_getD_getElem?→A4,getElem?_eq_getElem→xd,getElem?_eq_none→o8,getElem?_eq_some_iff→cY,getElem?_setIfInBounds→A5,getElem?_toList→tC,length_toList→tD,mem_toList_iff→tE,range→ov,replicate→xe,setIfInBounds_comm→A6,toArray_toList→xf,toList_append→HH,toList_inj→xh,toList_map→lH,toList_setIfInBounds→tF
open BitVec renaming ofInt→e9,toNat_and→HI,toNat_ofInt→ow,toNat_or→HJ
open Bool renaming and_eq_true→gd,eq_iff_iff→pc,noConfusion→dA,not_eq_true'→xk,or_eq_true→tG,or_false→HL,true_and→tH
open Except.ok renaming injEq→qp
open Go.Addr renaming add→xm
open Go.Builtin renaming append_→xn,firstCells→HM,lenOf→HN,len_→HO
open Go.Calls renaming mono→ju
open Go.Conv renaming bytesToString→HR,seenAt→HS,unsafePointer→HT
open Go.DataW renaming TrodAll→HU
open Go.Deferred renaming ofValue→pf
open Go.Fence renaming wide→ox
open Go.Instr renaming alloc→HX,buildSlice→A8,checkKey→mN,fill→lI,findKey→qs,loadAt→H0,lookup→H2,slice→tJ,sliceAt→qu,sliceBound→qv,sliceBounds→nI,storeAt→Be,sureAddr→ph
open Go.IntKind renaming i64→xo,u16→nJ,u64→dH,u8→oy
open Go.Next renaming value→Bf
open Go.Obj.cells renaming injEq→tK
open Go.Op renaming equal→Bg,equalIn→oz,intArith→tL,intBits→tM,intCmp→rV,stringOp→xp,unary→Bi
open Go.Oper renaming upon→kz,uponIn→xq,wp→iW
open Go.Region renaming Mode→qw,binds→jS,free_spec→Bk,noSelect_spec→Bl,ready→jv,wanted→pj
open Go.Result renaming andThen_ok→l7,ok→Bn
open Go.Sem renaming run_bind→l8,run_ite→Bp,run_pure→oA
open Go.Sort renaming SortedIn→rW
open Go.Value renaming bool→bO,cells→rZ,int→ff,oneCell'→et,ownBlock→iz,pointer→xu,slice→bD
open Go.Value.slice renaming injEq→l9
open Go.Value.string renaming inj→Ig
open Go.World renaming freeze→tQ,ownsRow_nil→dM,setCell→xw,shape?→Bw
open Int renaming toNat_natCast→jx
open List.Pairwise renaming imp_of_mem→Wu
open List renaming all_cons→xx,all_eq_true→jT,any_eq_true→xy,append_assoc→ib,append_nil→eM,cons_append→Bx,drop_append→Im,drop_eq_nil_of_le→kX,drop_of_length_le→Ip,drop_succ_cons→tS,drop_take→Iq,drop_zero→tT,eq_nil_of_length_eq_zero→fR,ext_getElem?→nK,filter_eq_self→xB,flatMap_cons→jg,foldl_append→BA,foldl_cons→r5,getD_cons_zero→ma,getD_eq_getElem?_getD→cM,getElem?_append_left→me,getElem?_append_right→mR,getElem?_cons_succ→Iw,getElem?_drop→qA,getElem?_eq_getElem→bZ,getElem?_eq_none→r6,getElem?_map→eR,getElem?_range→xD,getElem?_set→ki,getElem?_take→mS,idxOf_cons→tX,idxOf_cons_self→BC,length→mg,length_append→bK,length_cons→bU,length_drop→gy,length_filter_le→mT,length_nil→gz,length_pos_iff→nL,length_singleton→ic,length_take→dB,mapM_toArray→tZ,map_append→gA,map_cons→nM,mem_append_left→xG,mem_cons→dR,mem_cons_of_mem→nN,mem_iff_getElem→IF,mem_map→gK,mem_map_of_mem→qB,mem_of_getElem?→gB,mem_range→mW,mem_singleton→iX,nil_append→nO,nodup_cons→xH,nodup_iff_pairwise_ne→IG,pairwise_cons→kZ,range→fD,replicate→iY,size_toArray→nP,takeWhile_sublist→IJ,take_append→qD,take_nil→IN,take_of_length_le→eN,take_succ_cons→r8,take_zero→oC,zipIdx_cons→xL
open Nat renaming add_assoc→IQ,add_sub_cancel→r9,add_sub_cancel_left→IU,beq→ue,ble→mh,blt→gh,eq_of_beq_eq_true→IV,le_of_ble_eq_true→pC,le_refl→cw,le_trans→dZ,lt_of_lt_of_le→qE,lt_or_ge→ig,lt_succ_self→sc,min_eq_left→nR,mul_le_mul_right→oD,or_lt_two_pow→BH,pow_lt_pow_right→xM,succ_mul→oF,testBit_or→IY,testBit_two_pow→IZ,zero_add→fK,zero_mul→BI
open Option renaming bind_some→oG,isSome_iff_exists→nS,map_eq_some_iff→mj,map_some→jU
open Option.some renaming injEq→fE
open Prod renaming fst→fS
open Prod.mk renaming injEq→uh
open UInt8 renaming lt_iff_toNat_lt→I2,ofNat→jy,toNat_inj→pE,toNat_lt→ji,toNat_ofNat'→BJ
open Go.Proofs.Tryz
open Go.RowKit

namespace Go.Hb
theorem ab {p:Prop} (h:p:=by omega):p:=h
theorem ag {p:Prop} (h:p:=by kernel_rfl):p:=h
theorem ay {p:Prop} (h:p:=by decide):p:=h
theorem aa {α:Sort _} {a:α} :a=a:=rfl
end Go.Hb
section
namespace Go.Hb
structure Fm where
 n:Nat
 D:List Deferred
 F:List Nat
 r:Option Nat
def dq (σ:Nat→Value) (d:Nat) (v:Value):Nat→Value:=fun i=>cond (ue i d) v<|σ i
def eW (σ:Nat→Value):Option Nat→Value→Nat→Value
 | some d,v=>dq σ d v
 | none,_=>σ
def act (N:Fm) (σ:Nat→Value):Act:=⟨((fD N.n).map σ).toArray,N.D⟩
def ev (N:Fm) (σ:Nat→Value):Operand→Value
 | .tmp t=>cond (gh t N.n) (σ t) undef
 | .const v=>v
 | .global g=> .pointer<|some ⟨g,0,none⟩
 | .func f=> .func (.func f) #[] #[]
theorem n2 (N:Fm) (σ:Nat→Value) (t:Nat):(act N σ).tmps[t]? =if t < N.n then some (σ t) else none:=by
 simp only [act,List.getElem?_toArray,eR]
 split
 · rename_i h; rw [xD h]; rfl
 · rename_i h; rw [r6 (by simpa using h)]; rfl
theorem gN (N:Fm) (σ:Nat→Value):(act N σ).eval=ev N σ:=by
 funext x
 cases x with
 | tmp t=>
   simp only [Act.eval,ev,A4,n2]
   by_cases h:t < N.n
   · rw [if_pos h,show gh t N.n=true from by simpa using h]; rfl
   · rw [if_neg h,show gh t N.n=false from by cases hx:gh t N.n <;> simp_all [gh,Nat.ble_eq] <;> omega]; rfl
 | _=>rfl
theorem ur {a b:Act} (hd:a.defers=b.defers) (c:∀ i:Nat,a.tmps[i]? =b.tmps[i]?):a=b:=by
 cases a; cases b
 simp only at hd c
 subst hd
 congr 1
 exact HE c
theorem jZ (N:Fm) (σ:Nat→Value) (dst:Option Nat) (v:Value):(act N σ).put dst v=act N (eW σ dst v):=by
 cases dst with
 | none=>rfl
 | some d=>
   refine ur aa fun i=> ?_
   have C:((act N σ).put (some d) v).tmps=(act N σ).tmps.setIfInBounds d v:=rfl
   rw [C,A5,n2,n2]
   have hs:(act N σ).tmps.size=N.n:=by simp [act]
   simp only [eW,dq]
   by_cases A:i=d
   · subst A
     rw [hs]
     have c:ue i i=true :=by simp
     by_cases h:i < N.n
     · rw [if_pos rfl,if_pos h,if_pos h,c]; rfl
     · rw [if_pos rfl,if_neg h,if_neg h]
   · rw [if_neg (fun e=>A e.symm)]
     have c:ue i d=false :=by
      cases hx:ue i d
      · rfl
      · exact absurd (IV hx) A
     rw [c]; rfl
theorem qm {σ:Nat→Value} {i:Nat} {v:Value} (h:σ i=v):dq σ i v=σ:=by
 funext j
 unfold dq
 cases hx:ue j i
 · rfl
 · have :=IV hx; subst this; exact h.symm
def lift (N:Fm) (Q:Exit→(Nat→Value)→World→Prop):Exit→Act→World→Prop
 | .panic c,a,w=> ∃ σ,a=act N σ∧∀ A,(∀ i∈N.F,A i=σ i)→Q (.panic c) A w
 | .outgrown,_,_=>False
 | e,a,w=> ∃ σ,a=act N σ∧Q e σ w
def fe:Option Nat→Fence
 | none=>ox
 | some l=>ox.inRound l
theorem yR (r:Option Nat):(fe r).round=r:=by cases r <;> rfl
theorem vc (r:Option Nat) (f:FuncId):(fe r).fn f:=by cases r <;> trivial
theorem sM (r:Option Nat):(fe r).depth=none:=by cases r <;> rfl
theorem DS {r:Option Nat} {n:Nat} {P:Program} {f:FuncId} {args:Array Value} {w:World} {R:Ending→World→Prop} (h:Calls P f args w R):CallsIn (fe r) n P f args w R:=by
 cases r
 · exact callsIn_wide.2 h
 · exact (callsIn_wide (n:=n)).2 h
theorem DT {r:Option Nat} {n:Nat} {P:Program} {row:String} {args:Array Value} {w:World} {R:Value→World→Prop} (h:Rows P row args w R):RowsIn (fe r) n P row args w R:=fun c cs _=>by
 obtain ⟨v,w',A,hs⟩:=h c cs
 refine ⟨v,w',A,?_⟩
 cases r
 · exact stepsIn_wide.2 hs
 · exact stepsIn_wide.2 hs
def FM (ops:List Oper):Bool:=ops.all fun o=>match o.op with | .defer _=>false | _=>true
def rz (r:Option Nat) (ops:List Oper):Bool:=match r with | none=>true | some _=>FM ops
theorem Sb {l:List Oper} (h:FM l=true):∀ o∈l,∀ c,o.op≠.defer c:=fun o A c e=>by
 have :=jT.1 h o A
 rw [e] at this
 cases this
theorem zk {r:Option Nat} {P:Program} {ops:Array Oper} {Q:Exit→Act→World→Prop} (C:¬LetsOut Q) (E:rz r ops.toList=true):∀ (l:List Nat) (a:Act) (w:World),wpOps P ops Q l a w→wpOpsIn (fe r) 0 P ops Q l a w:=by
 intro l
 induction l with
 | nil=>exact fun _ _ h=>h
 | cons i l A=>
   intro a w h
   simp only [wpOps] at h
   simp only [wpOpsIn]
   cases ho:ops[i]? with
   | none=>simp only [ho] at h ⊢; exact A a w h
   | some o=>
     simp only [ho] at h ⊢
     by_cases hw:pj o (yielded ops a.tmps)=true
     · rw [if_pos hw] at h ⊢
       rcases h with h | h
       · refine ⟨fun f _=>vc r f,?_⟩
         rw [yR]
         have G:o.semAt r a.eval=execOp a.eval o:=by
          cases r with
          | none=>rfl
          | some k=>exact Oper.semAt_eq _ _ _<|Sb E o<|tE.2<|Array.mem_of_getElem? ho
         rw [G]
         unfold iW at h
         generalize (execOp a.eval o).run P w=x at h
         cases x with
         | ok n w'=>
           cases n <;> simp only [kz,xq] at h ⊢ <;>
            first
             | exact A _ _ h
             | (refine ⟨fun c=>(by rw [sM] at c; cases c),CallsIn.mono (DS h) fun e w'' he=> ?_⟩
                cases e <;> first | exact A _ _ he | exact he)
             | exact ⟨fun c=>(by rw [sM] at c; cases c),RowsIn.mono (DT h) fun v w'' he=>A _ _ he⟩
         | halt x w'=>cases x <;> simp only [kz,xq] at h ⊢ <;> exact h
       · exact absurd h.2 C
     · rw [if_neg hw] at h ⊢
       exact ⟨fun f _=>vc r f,A _ _ h⟩
def di (P:Program) (N:Fm) (c:Code) (Q:Exit→(Nat→Value)→World→Prop) (σ:Nat→Value) (w:World):Prop :=
 c.wpIn (fe N.r) 0 P (lift N Q) (act N σ) w
def dK (P:Program) (N:Fm) (ops:Array Oper) (Q:Exit→(Nat→Value)→World→Prop) (l:List Oper) (σ:Nat→Value) (w:World):Prop :=
 wpList P ops (lift N Q) l (act N σ) w
def kU (K:(Nat→Value)→World→Prop) (Q:Exit→(Nat→Value)→World→Prop):Exit→(Nat→Value)→World→Prop
 | .normal,σ,w=>K σ w
 | e,σ,w=>Q e σ w
def oU (id:Nat) (Q:Exit→(Nat→Value)→World→Prop):Exit→(Nat→Value)→World→Prop
 | .exit c,σ,w=>if c=id then Q .normal σ w else Q (.exit c) σ w
 | e,σ,w=>Q e σ w
section
variable {P:Program} {N:Fm} {Q:Exit→(Nat→Value)→World→Prop} {σ:Nat→Value} {w:World} {K:(Nat→Value)→World→Prop}
theorem Rg {Q C:Exit→(Nat→Value)→World→Prop} (h:∀ e σ w,Q e σ w→C e σ w) (e:Exit) (a:Act) (w:World):lift N Q e a w→lift N C e a w:=by
 cases e <;> first | exact fun h=>h.elim | exact fun ⟨σ,c,A⟩=>⟨σ,c,h _ _ _ A⟩ | exact fun ⟨σ,c,A⟩=>⟨σ,c,fun G E=>h _ _ _<|A G E⟩
theorem V0 {A:Exit→(Nat→Value)→World→Prop} {c:Code} (h:∀ e σ w,Q e σ w→A e σ w) (C:di P N c Q σ w):di P N c A σ w:=
 wpIn_mono C (Rg h)
theorem tn (h:K σ w):kU K Q .normal σ w:=h
theorem te (id:Nat) (h:Q (.exit id) σ w):kU K Q (.exit id) σ w:=h
theorem tr (h:Q .ret σ w):kU K Q .ret σ w:=h
theorem bn {id:Nat} (h:Q .normal σ w):oU id Q .normal σ w:=h
theorem be {id:Nat} (h:Q .normal σ w):oU id Q (.exit id) σ w:=by simpa only [oU,if_true] using h
theorem na {id c:Nat} (A:c≠id) (h:Q (.exit c) σ w):oU id Q (.exit c) σ w:=by simpa only [oU,if_neg A] using h
theorem br {id:Nat} (h:Q .ret σ w):oU id Q .ret σ w:=h
theorem sq {x y:Code} (h:∀ K:(Nat→Value)→World→Prop,(∀ σ w,di P N y Q σ w→K σ w)→di P N x (kU K Q) σ w):di P N (.seq x y) Q σ w:=by
 refine wpIn_seq<|wpIn_mono (h (fun σ w=>di P N y Q σ w) fun _ _ h=>h) ?_
 intro e a w A
 cases e with
 | normal=>obtain ⟨σ,rfl,C⟩:=A; exact C
 | panic c=>exact A
 | outgrown=>exact A
 | _=>obtain ⟨σ,rfl,C⟩:=A; exact ⟨σ,rfl,C⟩
theorem eV {x y:Code} (c:(Nat→Value)→World→Prop) (h:di P N x (kU c Q) σ w) (hk:∀ σ w,c σ w→di P N y Q σ w):di P N (.seq x y) Q σ w:=
 sq fun _ C=>V0 (fun e _ _ A=>by cases e <;> first | exact C _ _ (hk _ _ A) | exact A) h
theorem ct {c:Operand} {x y:Code} (A:ev N σ c= .bool true) (h:di P N x Q σ w):di P N (.cond c x y) Q σ w:=
 wpIn_cond_true (by rw [gN]; exact A) h
theorem cf {c:Operand} {x y:Code} (A:ev N σ c= .bool false) (h:di P N y Q σ w):di P N (.cond c x y) Q σ w:=
 wpIn_cond_false (by rw [gN]; exact A) h
theorem cb {c:Operand} {x y:Code} {b:Bool} (A:ev N σ c= .bool b) (E:b=true→di P N x Q σ w) (C:b=false→di P N y Q σ w):di P N (.cond c x y) Q σ w:=by
 cases b
 · exact cf A<|C aa
 · exact ct A<|E aa
theorem cd {c:Operand} {x y:Code} {p:Prop} [Decidable p] (A:ev N σ c= .bool (decide p)) (E:p→di P N x Q σ w) (C:¬p→di P N y Q σ w):di P N (.cond c x y) Q σ w:=
 cb A (fun h=>E<|of_decide_eq_true h) (fun h=>C<|of_decide_eq_false h)
theorem aE {id:Nat} {c:Code} (h:di P N c (oU id Q) σ w):di P N (.block id c) Q σ w:=by
 refine wpIn_block<|wpIn_mono h ?_
 intro e a w C
 cases e with
 | panic c=>exact C
 | outgrown=>exact C
 | exit E=>
   obtain ⟨σ,rfl,A⟩:=C
   simp only [oU,Exit.inBlock] at A ⊢
   split
   · rename_i e; rw [if_pos e] at A; exact ⟨σ,rfl,A⟩
   · rename_i e; rw [if_neg e] at A; exact ⟨σ,rfl,A⟩
 | _=>obtain ⟨σ,rfl,A⟩:=C; exact ⟨σ,rfl,A⟩
theorem ext {id:Nat} (h:Q (.exit id) σ w):di P N (.exit id) Q σ w:=wpIn_exit ⟨σ,rfl,h⟩
theorem aQ (h:Q .normal σ w):di P N .skip Q σ w:=wpIn_skip ⟨σ,rfl,h⟩
theorem rt (h:Q .ret σ w):di P N .ret Q σ w:=wpIn_ret ⟨σ,rfl,h⟩
theorem fx {c:Code} {v:Value} (i:Nat) (h:σ i=v) (A:di P N c Q (dq σ i v) w):di P N c Q σ w:=by rw [qm h] at A; exact A
theorem lp {c:Code} (J:Nat→(Nat→Value)→World→Prop) (n:Nat) (ae:J n σ w)
 (h:∀ n σ w,J n σ w→di P N c (kU (fun an w'=> ∃ m,m < n∧J m an w') Q) σ w):di P N (.loop c) Q σ w:=by
 intro b k cs ak V Y
 have key:∀ n σ w,J n σ w→
  ∃ e O w',lift N Q e O w'∧ArrivesIn (Machine.fenced P<|fe N.r) P (lone (b.atR (act N σ) (.code c:: .inLoop c::k)) cs w) b k cs e O w':=by
  intro n
  induction n using Nat.strongRecOn with
  | _ n al=>
    intro σ w ag
    obtain ⟨e,Z,I,G,C⟩:=h n σ w ag b (.inLoop c::k) cs ak V Y
    cases e with
    | normal=>
      obtain ⟨A,rfl,m,hm,ah⟩:=G
      obtain ⟨ad,ab,am,aj,ai⟩:=al m hm A I ah
      exact ⟨ad,ab,am,aj,.of_steps (StepsIn.trans C<|.one (fenced_calm V Y aa) stepR_inLoop) ai⟩
    | exit id=>obtain ⟨A,rfl,E⟩:=G; exact ⟨.exit id,act N A,I,⟨A,rfl,E⟩,.pass (x:= .inLoop c) rfl (fun _ _=> .inl<|by simp) C⟩
    | goto l=>obtain ⟨A,rfl,E⟩:=G; exact ⟨.goto l,act N A,I,⟨A,rfl,E⟩,.pass (x:= .inLoop c) rfl (fun _ _=> .inl<|by simp) C⟩
    | ret=>obtain ⟨A,rfl,E⟩:=G; exact ⟨.ret,act N A,I,⟨A,rfl,E⟩,.pass (x:= .inLoop c) rfl (fun _ _=> .inl<|by simp) C⟩
    | panic ac=>exact ⟨.panic ac,Z,I,G,.pass (x:= .inLoop c) rfl (fun _ _=> .inl<|by simp) C⟩
    | outgrown=>exact G.elim
 obtain ⟨e,O,w',E,C⟩:=key _ σ w ae
 exact ⟨e,O,w',E,.of_steps (.one (fenced_calm V Y aa) stepR_loop) C⟩
def cJ (P:Program) (N:Fm) (o:Oper) (σ:Nat→Value) (w:World) (K:(Nat→Value)→World→Prop):Prop :=
 iW P o (act N σ) w (fun a w=> ∃ σ,a=act N σ∧K σ w) (fun _ _ _=>False)
theorem Vv {o:Oper} {a:Act} {K C:Act→World→Prop} {Q:Exit→Act→World→Prop} (h:∀ a w,K a w→C a w)
 (r:Result Next) (A:o.upon P a K (fun _ _ _=>False) r):o.upon P a C Q r:=by
 cases r with
 | ok n w'=>
   cases n <;> simp only [kz] at A ⊢ <;>
    first
     | exact h _ _ A
     | exact ju A (fun e w'' he=>by
      cases e with
      | returned v=>exact h _ _ he
      | panicked c=>exact he.elim
      | outgrown=>obtain ⟨_,_,E⟩:=he; exact E.elim)
     | exact Rows.mono A fun _ _ he=>h _ _ he
 | halt x w'=>cases x <;> simp only [kz] at A ⊢
theorem rQ {K:(Nat→Value)→World→Prop} {c:Act→World→Prop} {Q:Exit→Act→World→Prop} {o:Oper} (h:cJ P N o σ w K) (hk:∀ σ w,K σ w→c (act N σ) w):o.wp P (act N σ) w c Q:=by
 unfold cJ at h
 unfold iW at*
 exact Vv (fun a w ⟨σ,C,A⟩=>by subst C; exact hk _ _ A) _ h
theorem Ht {K c:(Nat→Value)→World→Prop} {o:Oper} (h:cJ P N o σ w K) (hk:∀ σ w,K σ w→c σ w):cJ P N o σ w c:=
 rQ h (fun σ w A=>⟨σ,rfl,hk σ w A⟩)
variable {ops:Array Oper} {rest:List Oper} {d:Nat} {op:Op} {ty:TypeId} {pos :String} {af:Array Edge} {d':Option Nat} {v:Value} {o:Oper}
theorem wV (c:pj o (yielded ops (act N σ).tmps)=true) (h:cJ P N o σ w (fun σ w=>dK P N ops Q rest σ w)):dK P N ops Q (o::rest) σ w:=by
 unfold dK wpList
 rw [if_pos c]
 exact .inl<|rQ h fun _ _ hk=>hk
theorem kW {K:(Nat→Value)→World→Prop} {w':World} (c:(execOp (ev N σ) o).run P w= .ok (.value v) w') (hk:K (eW σ o.dst v) w'):cJ P N o σ w K:=by
 unfold cJ iW
 rw [gN,c]
 exact ⟨_,jZ ..,hk⟩
theorem je (o:Oper) (c:o.guard=none) (y:Nat→Option Bool):pj o y=true :=by simp [pj,c]
def j8 (ops:Array Oper) (j:Nat):Option Nat:=(ops[j]?).bind (·.dst)
theorem rO {j t:Nat} {want b:Bool} (A:o.guard=some (j,want)) (c:j8 ops j=some t) (C:gh t N.n=true) (E:σ t= .bool b):
 pj o (yielded ops (act N σ).tmps)=(b==want):=by
 have h1:yielded ops (act N σ).tmps j=some b:=by
  unfold yielded
  unfold j8 at c
  rw [c]
  simp only [oG,n2]
  rw [if_pos (qE (sc t)<|pC C),E]
 simp only [pj,A,h1]
 cases b <;> cases want <;> rfl
theorem VN {j t:Nat} {want:Bool} (A:o.guard=some (j,want)) (c:j8 ops j=some t) (C:gh t N.n=true) (E:σ t=undef):
 pj o (yielded ops (act N σ).tmps)=false :=by
 have h1:yielded ops (act N σ).tmps j=none:=by
  unfold yielded
  unfold j8 at c
  rw [c]
  simp only [oG,n2]
  rw [if_pos (qE (sc t)<|pC C),E]; rfl
 simp only [pj,A,h1]
 rfl
theorem p (h:(execOp (ev N σ) ⟨some d,op,ty,pos,af,none⟩).run P w= .ok (.value v) w) (k:dK P N ops Q rest (dq σ d v) w):
 dK P N ops Q (⟨some d,op,ty,pos,af,none⟩::rest) σ w:=
 wV (je _ rfl _) (kW h k)
theorem pg {j t:Nat} {want:Bool} (c:j8 ops j=some t) (A:gh t N.n=true) (C:σ t= .bool want)
 (h:(execOp (ev N σ) ⟨some d,op,ty,pos,af,some (j,want)⟩).run P w= .ok (.value v) w) (k:dK P N ops Q rest (dq σ d v) w):
 dK P N ops Q (⟨some d,op,ty,pos,af,some (j,want)⟩::rest) σ w:=
 wV (by rw [rO rfl c A C]; cases want <;> rfl) (kW h k)
theorem sk {j t:Nat} {want b:Bool} (A:j8 ops j=some t) (C:gh t N.n=true) (E:σ t= .bool b) (c:(b==want)=false)
 (k:dK P N ops Q rest (dq σ d undef) w):dK P N ops Q (⟨some d,op,ty,pos,af,some (j,want)⟩::rest) σ w:=by
 unfold dK wpList
 rw [if_neg (by rw [rO rfl A C E,c]; simp),jZ]
 exact k
theorem vU {j t:Nat} {want:Bool} (c:j8 ops j=some t) (A:gh t N.n=true) (C:σ t=undef)
 (k:dK P N ops Q rest (dq σ d undef) w):dK P N ops Q (⟨some d,op,ty,pos,af,some (j,want)⟩::rest) σ w:=by
 unfold dK wpList
 rw [if_neg (by rw [VN rfl c A C]; simp),jZ]
 exact k
theorem e (h:cJ P N ⟨d',op,ty,pos,af,none⟩ σ w (fun σ w=>dK P N ops Q rest σ w)):dK P N ops Q (⟨d',op,ty,pos,af,none⟩::rest) σ w:=
 wV (je _ rfl _) h
theorem eg {j t:Nat} {want:Bool} (c:j8 ops j=some t) (A:gh t N.n=true) (C:σ t= .bool want)
 (h:cJ P N ⟨d',op,ty,pos,af,some (j,want)⟩ σ w (fun σ w=>dK P N ops Q rest σ w)):dK P N ops Q (⟨d',op,ty,pos,af,some (j,want)⟩::rest) σ w:=
 wV (by rw [rO rfl c A C]; cases want <;> rfl) h
theorem nl (h:Q .normal σ w):dK P N ops Q [] σ w:=⟨σ,rfl,h⟩
theorem zA:¬LetsOut (lift N Q):=fun ⟨_,_,h⟩=>h
theorem rg {id:Nat} {l:List Oper} (c:rz N.r l=true) (h:dK P N l.toArray Q l σ w):di P N (.region id l.toArray false) Q σ w:=by
 refine wpIn_region<|zk zA c _ _ _ ?_
 have h1:=wpOps_eq_wpList (P:=P) (ops:=l.toArray) (Q:=lift N Q) l 0 fun j=>by simp
 rw [List.range_eq_range',nP,h1]
 exact h
theorem gs {l:List Oper} {t:Nat} {q:Prop} [Decidable q] (h:σ t= .bool (decide q)) (C:q→dK P N ops Q l (dq σ t<|.bool true) w) (A:¬q→dK P N ops Q l (dq σ t<|.bool false) w):dK P N ops Q l σ w:=by
 by_cases c:q
 · have :=C c; rwa [qm (by rw [h,decide_eq_true c])] at this
 · have :=A c; rwa [qm (by rw [h,decide_eq_false c])] at this
theorem gb {l:List Oper} {t:Nat} {b:Bool} (h:σ t= .bool b) (A:b=true→dK P N ops Q l (dq σ t<|.bool true) w) (c:b=false→dK P N ops Q l (dq σ t<|.bool false) w):dK P N ops Q l σ w:=by
 cases b
 · have :=c rfl; rwa [qm h] at this
 · have :=A rfl; rwa [qm h] at this
def fu (P:Program) (N:Fm) (ops:Array Oper) (Q:Exit→(Nat→Value)→World→Prop) (S:World→Prop) (fuel:Nat) (aY:Array Bool) (σ:Nat→Value) (w:World):Prop :=
 wpAnyH P .any ops (lift N Q) S fuel aY (act N σ) w
variable {S:World→Prop} {fuel:Nat} {aY:Array Bool}
theorem B4 {id:Nat} {l:List Oper} (c:rz N.r l=true) (hm:P.follows .mixedOrders=true) (h:wpAny P .any l.toArray (lift N Q) l.toArray.size (xe l.toArray.size false) (act N σ) w.drew):di P N (.region id l.toArray true) Q σ w:=by
 refine wpIn_region_draw fun t=>zk zA c _ _ _ ?_
 simp only [Region.schedule,hm,Bool.true_or,if_true]
 exact wpAny_sound _ t _ _ _ h
theorem cD {id:Nat} {l:List Oper} (S:World→Prop) (c:rz N.r l=true) (hm:P.follows .mixedOrders=true) (A:S w.drew) (h:fu P N l.toArray Q S l.length (xe l.length false) σ w.drew):di P N (.region id l.toArray true) Q σ w:=
 B4 c hm (wpAny_of_held _ _ _ _<|by rw [nP]; exact h)
def z6 (F:List Nat) (d:Option Nat):Bool:=match d with | some d=> !(F.contains d) | none=>true
def j7 (F:List Nat) (ops:Array Oper) (aY:Array Bool) (i:Nat):Bool:=
 Region.noSelect ops && Region.free .any ops aY i && (jv .any ops aY).contains i && z6 F ((ops[i]?).bind (·.dst))
theorem rk {d:Option Nat} {v:Value} (hd:z6 N.F d=true) (c:List PanicEntry) (a:Act) (w:World):lift N Q (.panic c) (a.put d v) w→lift N Q (.panic c) a w:=by
 rintro ⟨σ,A,h⟩
 cases d with
 | none=>exact ⟨σ,A,h⟩
 | some d=>
   have O:a.tmps.size=N.n:=by
    have :=congrArg (fun x:Act=>x.tmps.size) A
    simpa [Act.put,act] using this
   have E:a.defers=N.D:=congrArg (fun x:Act=>x.defers) A
   have G:∀ i:Nat,i≠d→a.tmps[i]? =if i < N.n then some (σ i) else none:=fun i hi=>by
    have h1:(a.put (some d) v).tmps[i]? =a.tmps[i]? :=by
     show (a.tmps.setIfInBounds d v)[i]? =_
     rw [A5,if_neg (fun e=>hi e.symm)]
    rw [← h1,A,n2]
   refine ⟨fun i=>if i < N.n then a.tmps.getD i undef else σ i,ur E fun i=> ?_,fun J C=>h J fun i hi=> ?_⟩
   · rw [n2]
     by_cases h1:i < N.n
     · rw [if_pos h1,if_pos h1,A4,xd ab]; rfl
     · rw [if_neg h1,o8 ab]
   · have I:i≠d:=by
      rintro rfl
      simp only [z6,xk,List.contains_eq_mem,decide_eq_false_iff_not] at hd
      exact hd hi
     rw [C i hi]
     by_cases h1:i < N.n
     · simp only [if_pos h1]
       rw [A4,G i I,if_pos h1]; rfl
     · simp only [if_neg h1]
theorem hp (i:Nat) (hi:ops[i]? =some ⟨some d,op,ty,pos,af,none⟩) (A:j7 N.F ops aY i=true)
 (E:∀ w,S w→(execOp (ev N σ) ⟨some d,op,ty,pos,af,none⟩).run P w= .ok (.value v) w) (C:S w)
 (k:fu P N ops Q S fuel (aY.setIfInBounds i true) (dq σ d v) w):fu P N ops Q S (fuel+1) aY σ w:=by
 simp only [j7,gd] at A
 refine wpAnyH_take hi A.1.1.1 A.1.1.2 A.1.2 (fun c a w=>rk (by have :=A.2; rwa [hi] at this) c a w) (.inl ⟨je _ rfl _,fun w C=> ?_⟩) C ?_ (v:=v)
 · rw [gN]; exact E w C
 · rw [jZ]; exact k
theorem nm (i:Nat) {j t:Nat} {want:Bool} (hi:ops[i]? =some ⟨some d,op,ty,pos,af,some (j,want)⟩) (A:j7 N.F ops aY i=true)
 (E:j8 ops j=some t) (G:gh t N.n=true) (I:σ t= .bool want)
 (J:∀ w,S w→(execOp (ev N σ) ⟨some d,op,ty,pos,af,some (j,want)⟩).run P w= .ok (.value v) w) (C:S w)
 (k:fu P N ops Q S fuel (aY.setIfInBounds i true) (dq σ d v) w):fu P N ops Q S (fuel+1) aY σ w:=by
 simp only [j7,gd] at A
 refine wpAnyH_take hi A.1.1.1 A.1.1.2 A.1.2 (fun c a w=>rk (by have :=A.2; rwa [hi] at this) c a w) (.inl ⟨by rw [rO aa E G I]; cases want <;> rfl,fun w C=> ?_⟩) C ?_ (v:=v)
 · rw [gN]; exact J w C
 · rw [jZ]; exact k
theorem nn (i:Nat) {j t:Nat} {want b:Bool} (hi:ops[i]? =some ⟨some d,op,ty,pos,af,some (j,want)⟩) (A:j7 N.F ops aY i=true)
 (G:j8 ops j=some t) (I:gh t N.n=true) (J:σ t= .bool b) (E:(b==want)=false) (C:S w)
 (k:fu P N ops Q S fuel (aY.setIfInBounds i true) (dq σ d undef) w):fu P N ops Q S (fuel+1) aY σ w:=by
 simp only [j7,gd] at A
 refine wpAnyH_take hi A.1.1.1 A.1.1.2 A.1.2 (fun c a w=>rk (by have :=A.2; rwa [hi] at this) c a w) (.inr ⟨by rw [rO aa G I J,E],aa⟩) C ?_ (v:=undef)
 rw [jZ]; exact k
def lU (ops:Array Oper) (aY:Array Bool) (i:Nat):Bool:=(jv .any ops aY)== [i]
theorem he (i:Nat) (hi:ops[i]? =some ⟨d',op,ty,pos,af,none⟩) (c:lU ops aY i=true)
 (h:cJ P N ⟨d',op,ty,pos,af,none⟩ σ w (fun σ w=>S w∧fu P N ops Q S fuel (aY.setIfInBounds i true) σ w)):fu P N ops Q S (fuel+1) aY σ w:=by
 refine wpAnyH_all (rs:= [i]) (by simpa [lU] using c) (by simp) ?_
 intro k hk
 obtain rfl :k=i:=by simpa using hk
 unfold wpOp
 simp only [hi]
 rw [if_pos (je _ rfl _)]
 exact .inl<|rQ h fun _ _ hk=>hk
theorem lr (i:Nat) {j t:Nat} {want:Bool} (hi:ops[i]? =some ⟨d',op,ty,pos,af,some (j,want)⟩) (A:lU ops aY i=true)
 (c:j8 ops j=some t) (C:gh t N.n=true) (E:σ t= .bool want)
 (h:cJ P N ⟨d',op,ty,pos,af,some (j,want)⟩ σ w (fun σ w=>S w∧fu P N ops Q S fuel (aY.setIfInBounds i true) σ w)):fu P N ops Q S (fuel+1) aY σ w:=by
 refine wpAnyH_all (rs:= [i]) (by simpa [lU] using A) (by simp) ?_
 intro k hk
 obtain rfl :k=i:=by simpa using hk
 unfold wpOp
 simp only [hi]
 rw [if_pos (by rw [rO rfl c C E]; cases want <;> rfl)]
 exact .inl<|rQ h fun _ _ hk=>hk
theorem hn (c:(jv .any ops aY).isEmpty=true) (h:Q .normal σ w):fu P N ops Q S fuel aY σ w:=
 wpAnyH_done (by simpa using c) ⟨σ,rfl,h⟩ fuel
theorem j9 {t:Nat} {q:Prop} [Decidable q] (h:σ t= .bool (decide q)) (C:q→fu P N ops Q S fuel aY (dq σ t<|.bool true) w) (A:¬q→fu P N ops Q S fuel aY (dq σ t<|.bool false) w):fu P N ops Q S fuel aY σ w:=by
 by_cases c:q
 · have :=C c; rwa [qm (by rw [h,decide_eq_true c])] at this
 · have :=A c; rwa [qm (by rw [h,decide_eq_false c])] at this
end
def ba (P:Program) (f:FuncId) (args:Array Value) (w:World) (R:Value→World→Prop):Prop :=
 Calls P f args w fun e w'=> ∃ v,e= .returned v∧R v w'
theorem ba.mono {P:Program} {f:FuncId} {args:Array Value} {w:World} {R R':Value→World→Prop} (h:ba P f args w R) (A:∀ v w',R v w'→R' v w'):ba P f args w R':=
 ju h fun _ _ ⟨v,he,c⟩=>⟨v,he,A _ _ c⟩
def lF (args:List Value):Nat→Value:=fun i=>args.getD i undef
def fin (P:Program) (fn:Func) (N:Fm) (R:Value→World→Prop):Exit→(Nat→Value)→World→Prop
 | .normal,σ,w=> ∃ v,(results fn (act N σ).tmps).run P w= .ok v w∧R v w
 | .ret,σ,w=> ∃ v,(results fn (act N σ).tmps).run P w= .ok v w∧R v w
 | _,_,_=>False
theorem enter {P:Program} {f:FuncId} {N:Nat} {fn:Func} {c:Code} {args:List Value} {w:World} {R:Value→World→Prop} (V:P.funcs[f]? =some fn) (O:fn.body=some c)
 (I:fn.ntmps=N) (hn:mh args.length N=true) (h:di P ⟨N,[],[],none⟩ c (fin P fn ⟨N,[],[],none⟩ R) (lF args) w):ba P f args.toArray w R:=by
 subst I
 refine calls_of_wp V O ?_
 have J:({tmps:=args.toArray++xe (fn.ntmps - args.toArray.size) undef,defers:= []} :Act)=act ⟨fn.ntmps,[],[],none⟩ (lF args):=by
  have Y:args.length≤fn.ntmps:=by simpa using hn
  refine ur aa fun i=> ?_
  rw [n2]
  simp only [lF,cM,nP]
  by_cases h1:i < args.length
  · rw [Array.getElem?_append_left (by simpa using h1),if_pos ab]
    simp [h1]
  · rw [Array.getElem?_append_right (by simpa using h1)]
    simp only [nP,Array.getElem?_replicate]
    by_cases h2:i < fn.ntmps
    · rw [if_pos ab,if_pos h2,r6 ab]; rfl
    · rw [if_neg ab,if_neg h2]
 rw [J]
 refine Code.wp_mono ?_<|wpIn_wide.1 h
 intro e a w A
 cases e with
 | normal=>obtain ⟨σ,rfl,v,G,E⟩:=A; exact ⟨rfl,v,G,v,rfl,E⟩
 | ret=>obtain ⟨σ,rfl,v,G,E⟩:=A; exact ⟨rfl,v,G,v,rfl,E⟩
 | exit id=>obtain ⟨σ,rfl,C⟩:=A; exact C.elim
 | goto l=>obtain ⟨σ,rfl,C⟩:=A; exact C.elim
 | panic c=>obtain ⟨σ,rfl,C⟩:=A; exact (C σ fun _ _=>rfl).elim
 | outgrown=>exact A.elim
section
variable {P:Program} {N:Fm} {σ:Nat→Value} {w:World} {fn:Func} {R:Value→World→Prop}
theorem mM (t:Nat):(act N σ).tmps.getD t undef=ev N σ (.tmp t):=by
 rw [← gN]; rfl
theorem f0 (h:fn.results= #[]) (c:R (.tuple #[]) w):fin P fn N R .normal σ w:=⟨_,results_none h _ _ _,c⟩
theorem u7 (h:fn.results= #[]) (c:R (.tuple #[]) w):fin P fn N R .ret σ w:=⟨_,results_none h _ _ _,c⟩
theorem f1 {t:Nat} {v:Value} (h:fn.results= #[.tmp t]) (A:ev N σ (.tmp t)=v) (c:R v w):fin P fn N R .ret σ w:=
 ⟨v,by rw [results_tmp h,mM,A],c⟩
theorem f2 {t u:Nat} {v c:Value} (h:fn.results= #[.tmp t,.tmp u]) (C:ev N σ (.tmp t)=v) (hu:ev N σ (.tmp u)=c) (A:R (.tuple #[v,c]) w):fin P fn N R .ret σ w:=
 ⟨_,by rw [results_tmp2 h,mM,mM,C,hu],A⟩
theorem f3 {t u s:Nat} {v c A:Value} (h:fn.results= #[.tmp t,.tmp u,.tmp s]) (E:ev N σ (.tmp t)=v) (hu:ev N σ (.tmp u)=c) (hs:ev N σ (.tmp s)=A) (C:R (.tuple #[v,c,A]) w):fin P fn N R .ret σ w:=by
 refine ⟨_,?_,C⟩
 simp only [results,h]
 subst E hu hs
 simp only [← mM]
 simp [tZ]
theorem f4 {t u s r:Nat} {v c A v3:Value} (h:fn.results= #[.tmp t,.tmp u,.tmp s,.tmp r]) (G:ev N σ (.tmp t)=v) (hu:ev N σ (.tmp u)=c) (hs:ev N σ (.tmp s)=A) (E:ev N σ (.tmp r)=v3) (C:R (.tuple #[v,c,A,v3]) w):fin P fn N R .ret σ w:=by
 refine ⟨_,?_,C⟩
 simp only [results,h]
 subst G hu hs E
 simp only [← mM]
 simp [tZ]
end
attribute [irreducible] dK di fu cJ
end Go.Hb
namespace Go.Hb
def aM (h:Array Obj) (b off :Nat):Option Value:=
 match h[b]? with
 | some (.cells c _ _)=>c[off]?
 | _=>none
theorem mo (w:World) (b off :Nat):w.cell? ⟨b,off,none⟩=aM w.heap b off :=by
 unfold World.cell? aM
 simp only
 split <;> simp_all
theorem bj {h:Array Obj} {b off :Nat} {c:Array Value} {t:TypeId} {f:Nat×Nat} (A:h[b]? =some (.cells c t f)):aM h b off =c[off]? :=by
 simp only [aM,A]
theorem LU {h:Array Obj} {b off :Nat} {v:Value} (c:aM h b off =some v):b < h.size:=by
 unfold aM at c
 rcases ig b h.size with C | A
 · exact C
 · simp [o8 A] at c
structure Md (F:Nat→Prop) (w w':World):Prop where
 os:w'.os=w.os
 output:w'.output=w.output
 size:w.heap.size≤w'.heap.size
 gp:∀ k,k < w.heap.size→¬F k→w'.heap[k]? =w.heap[k]?
abbrev Wk (w w':World):Prop :=Md (fun _=>False) w w'
theorem Md.refl (F:Nat→Prop) (w:World):Md F w w:=⟨rfl,rfl,cw _,fun _ _ _=>rfl⟩
theorem Md.drew {F:Nat→Prop} {w w':World} (h:Md F w w'):Md F w w'.drew:=⟨h.os,h.output,h.size,h.gp⟩
theorem Md.mono {F G:Nat→Prop} {w w':World} (h:Md F w w') (A:∀ k,k < w.heap.size→F k→G k):Md G w w':=
 ⟨h.os,h.output,h.size,fun k hk C=>h.gp k hk fun c=>C<|A k hk c⟩
theorem Md.trans {F:Nat→Prop} {a b c:World} (h:Md F a b) (A:Md F b c):Md F a c:=
 ⟨A.os.trans h.os,A.output.trans h.output,dZ h.size A.size,fun k hk C=>(A.gp k (qE hk h.size) C).trans<|h.gp k hk C⟩
theorem Md.trans' {F G:Nat→Prop} {a b c:World} (h:Md F a b) (A:Md G b c) (E:∀ k,k < a.heap.size→G k→F k):Md F a c:=
 ⟨A.os.trans h.os,A.output.trans h.output,dZ h.size A.size,
  fun k hk C=>(A.gp k (qE hk h.size) fun x=>C<|E k hk x).trans (h.gp k hk C)⟩
theorem Md.aE {F:Nat→Prop} {w w':World} (h:Md F w w') {k:Nat} {o:Obj} (hk:w.heap[k]? =some o) (c:¬F k):w'.heap[k]? =some o:=
 (h.gp k (cY.1 hk).1 c).trans hk
theorem Md.aM {F:Nat→Prop} {w w':World} (h:Md F w w') {b off :Nat} {v:Value} (c:Hb.aM w.heap b off =some v) (A:¬F b):Hb.aM w'.heap b off =some v:=by
 have :=h.gp b (LU c) A
 unfold Hb.aM at*
 rw [this]; exact c
theorem Wk.aM {w w':World} (h:Wk w w') {b off :Nat} {v:Value} (c:Hb.aM w.heap b off =some v):Hb.aM w'.heap b off =some v:=Md.aM h c id
theorem Wk.aE {w w':World} (h:Wk w w') {k:Nat} {o:Obj} (hk:w.heap[k]? =some o):w'.heap[k]? =some o:=Md.aE h hk id
structure Nw (w w':World):Prop where
 md:Wk w w'
 size:w'.heap.size=w.heap.size+1
 one:∃ o,w'= {w with heap:=w.heap.push o}
theorem FW (w:World) (o:Obj):Nw w {w with heap:=w.heap.push o} :=
 ⟨⟨rfl,rfl,by simp,fun k hk _=>by show (w.heap.push o)[k]? =_; rw [Array.getElem?_push,if_neg ab]⟩,by simp,o,rfl⟩
def c4 (P:Program) (t:TypeId):Option (Option Nat):=
 match P.underlying t with
 | some (.struct _) | some (.array _ _)=>((P.info? t).map (·.size)).map some
 | some _=>some none
 | none=>none
def cR (P:Program) (s f:Nat):Option Nat:=
 match P.underlying s with
 | some (.struct fs)=>match fs[f]? with
   | some fd=>match P.info? fd.type with
     | some i=>if i.size=0 then none else some fd.offset
     | none=>none
   | none=>none
 | _=>none
def gC (P:Program) (t:TypeId):Option Nat:=
 match P.underlying t with
 | some (.slice e)=>(P.info? e).map (·.size)
 | _=>none
section
variable {P:Program} {N:Fm} {σ:Nat→Value} {w:World} {dst:Option Nat} {ty:TypeId} {pos :String} {af:Array Edge} {g:Option (Nat×Bool)} {x y z:Operand}
theorem cT {t:TypeId} {d:TypeDesc} (h:P.underlying t=some d) (w:World):(underlying t).run P w= .ok d w:=by
 simp [underlying,h]
theorem gI {t:TypeId} {i:TypeInfo} (h:P.info? t=some i) (w:World):(typeInfo t).run P w= .ok i w:=by
 simp [typeInfo,h]
theorem mv:(execOp (ev N σ) ⟨dst,.move x,ty,pos,af,g⟩).run P w= .ok (.value<|ev N σ x) w:=rfl
theorem aC:(execOp (ev N σ) ⟨dst,.assign x,ty,pos,af,g⟩).run P w= .ok (.value<|ev N σ x) w:=rfl
theorem aH (v:Value) (h:ev N σ x=v):(execOp (ev N σ) ⟨dst,.move x,ty,pos,af,g⟩).run P w= .ok (.value v) w:=by rw [← h]; rfl
theorem bV (v:Value) (h:ev N σ x=v):(execOp (ev N σ) ⟨dst,.assign x,ty,pos,af,g⟩).run P w= .ok (.value v) w:=by rw [← h]; rfl
theorem bN {c:Operand} (A:ev N σ c= .bool true):(execOp (ev N σ) ⟨dst,.pick c x y,ty,pos,af,g⟩).run P w= .ok (.value<|ev N σ x) w:=by
 simp [execOp,A,asBool]
theorem bH {c:Operand} (A:ev N σ c= .bool false):(execOp (ev N σ) ⟨dst,.pick c x y,ty,pos,af,g⟩).run P w= .ok (.value<|ev N σ y) w:=by
 simp [execOp,A,asBool]
theorem nc {a:Addr} (c:ev N σ x= .pointer (some a)):(execOp (ev N σ) ⟨dst,.nilCheck x,ty,pos,af,g⟩).run P w= .ok (.value<|.pointer<|some a) w:=by
 simp [execOp,c]
theorem xt {i:Nat} {vs:Array Value} {v:Value} (A:ev N σ x= .tuple vs) (c:vs[i]? =some v):(execOp (ev N σ) ⟨dst,.extract x i,ty,pos,af,g⟩).run P w= .ok (.value v) w:=by
 simp [execOp,A,Instr.extract,c]
theorem fa {s f n b off :Nat} (c:cR P s f=some n) (E:ev N σ x= .pointer (some ⟨b,off,none⟩)):
 (execOp (ev N σ) ⟨dst,.fieldAddr s x f,ty,pos,af,g⟩).run P w= .ok (.value<|.pointer<|some ⟨b,off+n,none⟩) w:=by
 unfold cR at c
 split at c
 · rename_i fs hu
   split at c
   · rename_i fd C
     split at c
     · rename_i i hi
       split at c
       · cases c
       · rename_i G
         cases c
         have A:(⟨b,off,none⟩:Addr).add fd.offset=⟨b,off+fd.offset,none⟩:=by unfold xm; split <;> simp_all
         simp [execOp,Instr.fieldAt,cT hu,C,E,ph,fieldPlace,sizeOf,gI hi,G,A]
     · cases c
   · cases c
 · cases c
theorem ld {t b off :Nat} {v:Value} (hu:c4 P t=some none) (C:ev N σ x= .pointer (some ⟨b,off,none⟩)) (c:aM w.heap b off =some v):
 (execOp (ev N σ) ⟨dst,.load t x,ty,pos,af,g⟩).run P w= .ok (.value v) w:=by
 have A:w.cell? ⟨b,off,none⟩=some v:=by rw [mo]; exact c
 unfold c4 at hu
 cases hd:P.underlying t with
 | none=>rw [hd] at hu; cases hu
 | some d=>
   rw [hd] at hu
   cases d <;> first
    | (simp only [mj] at hu; obtain ⟨_,_,h⟩:=hu; cases h; done)
    | simp [execOp,H0,C,ph,loadVar,isAgg,cT hd,run_load,A]
theorem k4 (b off j:Nat):(⟨b,off,none⟩:Addr).add j=⟨b,off+j,none⟩:=by
 unfold xm; split <;> simp_all
theorem cK {t n b off :Nat} {cs:List Value} (hu:c4 P t=some (some n)) (G:ev N σ x= .pointer (some ⟨b,off,none⟩)) (E:cs.length=n)
 (A:∀ j,j < n→aM w.heap b (off+j)=cs[j]?):
 (execOp (ev N σ) ⟨dst,.load t x,ty,pos,af,g⟩).run P w= .ok (.value<|.agg cs.toArray) w:=by
 have C:(loadCells ⟨b,off,none⟩ n).run P w= .ok cs.toArray w:=by
  subst E
  refine run_loadCells_list (P:=P) w ⟨b,off,none⟩ cs fun j v c=> ?_
  rw [k4,mo]
  exact (A j (List.getElem?_eq_some_iff.1 c).1).trans c
 unfold c4 at hu
 cases hd:P.underlying t with
 | none=>rw [hd] at hu; cases hu
 | some d=>
   rw [hd] at hu
   cases hi:P.info? t with
   | none=>simp [Program.underlying,hi] at hd
   | some i=>
     rw [hi] at hu
     cases d <;> first
      | (cases hu; done)
      | (simp only [jU,fE] at hu; subst hu
         simp [execOp,H0,G,ph,loadVar,isAgg,cT hd,sizeOf,gI hi,C])
theorem ia {t n b off len cap:Nat} {k:IntKind} {i:Int} (he:gC P t=some n) (A:ev N σ x= .slice (some ⟨b,off,none⟩) len cap) (C:ev N σ y= .int k i) (c:0≤i∧i < len):
 (execOp (ev N σ) ⟨dst,.indexAddr t x y,ty,pos,af,g⟩).run P w= .ok (.value<|.pointer<|some ⟨b,off+i.toNat*n,none⟩) w:=by
 unfold gC at he
 cases hd:P.underlying t with
 | none=>rw [hd] at he; cases he
 | some d=>
   rw [hd] at he
   cases d <;> first | (cases he; done) | skip
   rename_i e
   cases hi:P.info? e with
   | none=>simp [hi] at he
   | some j=>
     simp only [hi,jU,fE] at he
     subst he
     simp [execOp,Instr.indexAt,A,C,asIntOf,cT hd,c.1,c.2,sizeOf,gI hi,k4]
def eh (a:Option Addr) (cap l n:Nat):Option Addr:=if cap=l then a else a.map (·.add (l*n))
theorem Az {t n len cap:Nat} {a:Option Addr} {lo hi:Option Value} {l h:Nat} (he:gC P t=some n) (E:ev N σ x= .slice a len cap)
 (C:(nI true len cap lo hi none).run P w= .ok (l,h,cap) w) (c A:Option Operand) (G:c.map (ev N σ)=lo) (I:A.map (ev N σ)=hi):
 (execOp (ev N σ) ⟨dst,.slice t x c A none,ty,pos,af,g⟩).run P w= .ok (.value<|.slice (eh a cap l n) (h - l)<|cap - l) w:=by
 unfold gC at he
 cases hd:P.underlying t with
 | none=>rw [hd] at he; cases he
 | some d=>
   rw [hd] at he
   cases d <;> first | (cases he; done) | skip
   rename_i e
   cases hi':P.info? e with
   | none=>simp [hi'] at he
   | some j=>
     simp only [hi',jU,fE] at he
     subst he
     simp [execOp,qu,tJ,E,G,I,cT hd,C,sizeOf,gI hi',eh]
theorem qh {t n len cap:Nat} {a:Option Addr} {k:IntKind} {i:Int} (he:gC P t=some n) (A:ev N σ x= .slice a len cap) (C:ev N σ z= .int k i) (c:0≤i∧i≤cap):
 (execOp (ev N σ) ⟨dst,.slice t x none (some z) none,ty,pos,af,g⟩).run P w= .ok (.value<|.slice a i.toNat cap) w:=by
 have :=Az (dst:=dst) (ty:=ty) (pos :=pos) (af:=af) (g:=g) (w:=w) (lo:=none) (hi:=some<|.int k i) (l:=0) (h:=i.toNat) he A
  (by simp [nI,qv,asIntOf,c.1,c.2]) none (some z) rfl (by simp [C])
 rw [this]
 have hs:eh a cap 0 n=a:=by
  unfold eh; split
  · rfl
  · cases a <;> simp [xm]
 rw [hs]; rfl
theorem qi {t n len cap:Nat} {a:Option Addr} {k:IntKind} {i:Int} (he:gC P t=some n) (A:ev N σ x= .slice a len cap) (C:ev N σ y= .int k i) (c:0≤i∧i≤len):
 (execOp (ev N σ) ⟨dst,.slice t x (some y) none none,ty,pos,af,g⟩).run P w= .ok (.value<|.slice (eh a cap i.toNat n) (len - i.toNat)<|cap - i.toNat) w:=
 Az (lo:=some<|.int k i) (hi:=none) he A
  (by simp [nI,qv,asIntOf,c.1,c.2]) (some y) none (by simp [C]) rfl
theorem Ue {t n len cap:Nat} {a:Option Addr} {k A:IntKind} {i j:Int} (he:gC P t=some n) (C:ev N σ x= .slice a len cap) (E:ev N σ y= .int k i) (G:ev N σ z= .int A j) (c:0≤i∧i≤j∧j≤cap):
 (execOp (ev N σ) ⟨dst,.slice t x (some y) (some z) none,ty,pos,af,g⟩).run P w= .ok (.value<|.slice (eh a cap i.toNat n) (j.toNat - i.toNat)<|cap - i.toNat) w:=by
 have h1:0≤j:=ab
 have h2:i≤(j.toNat:Int):=ab
 refine Az (lo:=some<|.int k i) (hi:=some<|.int A j) he C ?_ (some y) (some z) (by simp [E])<|by simp [G]
 simp only [nI,qv,asIntOf,l8,oA,l7,Bp,c.1,h1,c.2.2,h2,and_self,if_true]
theorem cH {n:Int} (h: -9223372036854775808≤n∧n≤9223372036854775807):xo.wrap n=n:=IntWalk.i64_in n h
theorem A3 {n:Int} (h:0≤n∧n≤255):oy.wrap n=n:=IntWalk.u8_in n h
theorem nE {n:Int} (h:0≤n∧n≤18446744073709551615):dH.wrap n=n:=IntWalk.u64_in n h
theorem iv {k:IntKind} {a b:Int} (h:a=b):ff k a=ff k b:=by rw [h]
theorem ad {t E:TypeId} {k:IntKind} {a b:Int} (A:ev N σ x= .int k a) (C:ev N σ y= .int k b) (c:k.wrap (a+b)=a+b):
 (execOp (ev N σ) ⟨dst,.binOp .add t x y E,ty,pos,af,g⟩).run P w= .ok (.value<|.int k<|a+b) w:=by
 simp [execOp,A,C,eqGuard,binOp,tL,c]
theorem bG {t E:TypeId} {k:IntKind} {a b:Int} (v:Int) (A:ev N σ x= .int k a) (C:ev N σ y= .int k b) (c:k.wrap (a+b)=v):
 (execOp (ev N σ) ⟨dst,.binOp .add t x y E,ty,pos,af,g⟩).run P w= .ok (.value<|.int k v) w:=by
 subst c; simp [execOp,A,C,eqGuard,binOp,tL]
theorem c6 {t E:TypeId} {k:IntKind} {a b:Int} (v:Int) (A:ev N σ x= .int k a) (C:ev N σ y= .int k b) (c:k.wrap (a - b)=v):
 (execOp (ev N σ) ⟨dst,.binOp .sub t x y E,ty,pos,af,g⟩).run P w= .ok (.value<|.int k v) w:=by
 subst c; simp [execOp,A,C,eqGuard,binOp,tL]
theorem qe {t E:TypeId} {k:IntKind} {a b:Int} (v:Int) (A:ev N σ x= .int k a) (C:ev N σ y= .int k b) (c:k.wrap (a*b)=v):
 (execOp (ev N σ) ⟨dst,.binOp .mul t x y E,ty,pos,af,g⟩).run P w= .ok (.value<|.int k v) w:=by
 subst c; simp [execOp,A,C,eqGuard,binOp,tL]
theorem bf {a:Int} {n:Nat} (h:a=n) (hn:n≤9223372036854775807):xo.wrap a=(n:Int):=by rw [h]; exact cH ab
theorem bv {p q:Prop} [Decidable p] [Decidable q] (h:p↔q):bO (decide p)=bO (decide q):=by rw [decide_eq_decide.2 h]
theorem sb {t E:TypeId} {k:IntKind} {a b:Int} (A:ev N σ x= .int k a) (C:ev N σ y= .int k b) (c:k.wrap (a - b)=a - b):
 (execOp (ev N σ) ⟨dst,.binOp .sub t x y E,ty,pos,af,g⟩).run P w= .ok (.value<|.int k<|a - b) w:=by
 simp [execOp,A,C,eqGuard,binOp,tL,c]
theorem oY {t G:TypeId} {k:IntKind} {a b:Int} (v:Int) (C:ev N σ x= .int k a) (E:ev N σ y= .int k b) (c:0≤a∧0 < b) (A:k.wrap (a / b)=v):
 (execOp (ev N σ) ⟨dst,.binOp .quo t x y G,ty,pos,af,g⟩).run P w= .ok (.value<|.int k v) w:=by
 have :a.tdiv b=a / b:=Int.tdiv_eq_ediv_of_nonneg c.1
 subst A; simp [execOp,C,E,eqGuard,binOp,Op.intDiv,show b≠0 from by omega,this]
theorem lt {t C:TypeId} {k:IntKind} {a b:Int} (c:ev N σ x= .int k a) (A:ev N σ y= .int k b):
 (execOp (ev N σ) ⟨dst,.binOp .lss t x y C,ty,pos,af,g⟩).run P w= .ok (.value<|.bool<|decide (a < b)) w:=by
 simp [execOp,c,A,eqGuard,binOp,rV]
theorem le {t C:TypeId} {k:IntKind} {a b:Int} (c:ev N σ x= .int k a) (A:ev N σ y= .int k b):
 (execOp (ev N σ) ⟨dst,.binOp .leq t x y C,ty,pos,af,g⟩).run P w= .ok (.value<|.bool<|decide (a≤b)) w:=by
 simp [execOp,c,A,eqGuard,binOp,rV]
theorem gt {t C:TypeId} {k:IntKind} {a b:Int} (c:ev N σ x= .int k a) (A:ev N σ y= .int k b):
 (execOp (ev N σ) ⟨dst,.binOp .gtr t x y C,ty,pos,af,g⟩).run P w= .ok (.value<|.bool<|decide (b < a)) w:=by
 simp [execOp,c,A,eqGuard,binOp,rV]
theorem ge {t C:TypeId} {k:IntKind} {a b:Int} (c:ev N σ x= .int k a) (A:ev N σ y= .int k b):
 (execOp (ev N σ) ⟨dst,.binOp .geq t x y C,ty,pos,af,g⟩).run P w= .ok (.value<|.bool<|decide (b≤a)) w:=by
 simp [execOp,c,A,eqGuard,binOp,rV]
theorem cg {t C:TypeId} {k:IntKind} {a b:Int} (c:ev N σ x= .int k a) (A:ev N σ y= .int k b):
 (execOp (ev N σ) ⟨dst,.binOp .eql t x y C,ty,pos,af,g⟩).run P w= .ok (.value<|.bool<|decide (a=b)) w:=by
 simp [execOp,c,A,eqGuard,binOp,rV]
 rw [pc]; simp
theorem gu {t C:TypeId} {k:IntKind} {a b:Int} (c:ev N σ x= .int k a) (A:ev N σ y= .int k b):
 (execOp (ev N σ) ⟨dst,.binOp .neq t x y C,ty,pos,af,g⟩).run P w= .ok (.value<|.bool<|decide (a≠b)) w:=by
 simp [execOp,c,A,eqGuard,binOp,rV]
 rw [pc]; simp
theorem no {t:TypeId} {b:Bool} (c:ev N σ x= .bool b):(execOp (ev N σ) ⟨dst,.unOp .not t x,ty,pos,af,g⟩).run P w= .ok (.value<|.bool<|!b) w:=by
 simp [execOp,c,Bi]
theorem B9 {t E:TypeId} {k:IntKind} {a b v:Int} (A:ev N σ x= .int k a) (C:ev N σ y= .int k b) (c:k.wrap (e9 k.bits a ||| e9 k.bits b).toNat=v):
 (execOp (ev N σ) ⟨dst,.binOp .or t x y E,ty,pos,af,g⟩).run P w= .ok (.value<|.int k v) w:=by
 subst c; simp [execOp,A,C,eqGuard,binOp,tM]
theorem eB {t E:TypeId} {k:IntKind} {a b v:Int} (A:ev N σ x= .int k a) (C:ev N σ y= .int k b) (c:k.wrap (e9 k.bits a &&& e9 k.bits b).toNat=v):
 (execOp (ev N σ) ⟨dst,.binOp .and t x y E,ty,pos,af,g⟩).run P w= .ok (.value<|.int k v) w:=by
 subst c; simp [execOp,A,C,eqGuard,binOp,tM]
theorem shr {t E:TypeId} {k G:IntKind} {a b v:Int} (A:ev N σ x= .int k a) (C:ev N σ y= .int G b) (I:0≤b) (c:a.fdiv (2 ^ min b.toNat k.bits)=v):
 (execOp (ev N σ) ⟨dst,.binOp .shr t x y E,ty,pos,af,g⟩).run P w= .ok (.value<|.int k v) w:=by
 have :¬b < 0:=ab
 simp [execOp,A,C,eqGuard,binOp,Op.shift,this,c]
theorem shl {t E:TypeId} {k G:IntKind} {a b v:Int} (A:ev N σ x= .int k a) (C:ev N σ y= .int G b) (I:0≤b) (c:k.wrap (a*2 ^ min b.toNat k.bits)=v):
 (execOp (ev N σ) ⟨dst,.binOp .shl t x y E,ty,pos,af,g⟩).run P w= .ok (.value<|.int k v) w:=by
 have :¬b < 0:=ab
 simp [execOp,A,C,eqGuard,binOp,Op.shift,this,c]
theorem Hc (m:Nat) (h:m < 256):((jy m).toNat:Int)=(m:Int):=by
 simp [Nat.mod_eq_of_lt h]
theorem cv {t u:TypeId} {k c:IntKind} {n:Int} (hu:P.underlying u=some (.int c)) (A:(P.underlying t).isSome=true) (C:ev N σ x= .int k n):
 (execOp (ev N σ) ⟨dst,.convert t u x,ty,pos,af,g⟩).run P w= .ok (.value<|.int c<|c.wrap n) w:=by
 obtain ⟨d,hd⟩:=nS.1 A
 cases d <;> simp [execOp,C,convert,cT hu,cT hd,Conv.intToInt]
theorem nj {t u:TypeId} {k c:IntKind} {n v:Int} (hu:P.underlying u=some (.int c)) (C:(P.underlying t).isSome=true) (E:ev N σ x= .int k n) (A:c.wrap n=v):
 (execOp (ev N σ) ⟨dst,.convert t u x,ty,pos,af,g⟩).run P w= .ok (.value<|.int c v) w:=by
 rw [cv hu C E,A]
theorem yB {t u:TypeId} {k c:IntKind} {n:Int} (hu:P.underlying u=some (.int c)) (C:(P.underlying t).isSome=true) (E:ev N σ x= .int k n) (A:c.wrap n=n):
 (execOp (ev N σ) ⟨dst,.convert t u x,ty,pos,af,g⟩).run P w= .ok (.value<|.int c n) w:=by
 rw [cv hu C E,A]
theorem OD (d:Nat) {t e:TypeId} {a:Option Addr} (hu:P.underlying t=some (.pointer e)):(oz (d+1) t (.pointer a)<|.pointer none).run P w= .ok a.isNone w:=by
 cases a <;> simp [oz,cT hu]
theorem OE {t e:TypeId} {a:Option Addr} (hu:P.underlying t=some (.pointer e)):(Bg t (.pointer a)<|.pointer none).run P w= .ok a.isNone w:=OD 9999 hu
theorem lf {t C e:TypeId} {a:Option Addr} (hu:P.underlying t=some (.pointer e)) (c:ev N σ x= .pointer a) (A:ev N σ y= .pointer none):
 (execOp (ev N σ) ⟨dst,.binOp .eql t x y C,ty,pos,af,g⟩).run P w= .ok (.value<|.bool a.isNone) w:=by
 have h:(binOp .eql t (.pointer a)<|.pointer none).run P w= .ok (.bool a.isNone) w:=by
  simp only [binOp]; simp [OE hu]
 simp [execOp,c,A,eqGuard,h]
theorem OB (d:Nat) {t:TypeId} {a b:Bool} (hu:P.underlying t=some .bool):(oz (d+1) t (.bool a)<|.bool b).run P w= .ok (a==b) w:=by
 simp [oz,cT hu]
theorem OC {t:TypeId} {a b:Bool} (hu:P.underlying t=some .bool):(Bg t (.bool a)<|.bool b).run P w= .ok (a==b) w:=OB 9999 hu
theorem mB {t C:TypeId} {a b:Bool} (hu:P.underlying t=some .bool) (c:ev N σ x= .bool a) (A:ev N σ y= .bool b):
 (execOp (ev N σ) ⟨dst,.binOp .eql t x y C,ty,pos,af,g⟩).run P w= .ok (.value<|.bool<|decide (a=b)) w:=by
 have h:(binOp .eql t (.bool a)<|.bool b).run P w= .ok (.bool<|decide (a=b)) w:=by
  simp only [binOp]; simp [OC hu]; cases a <;> cases b <;> rfl
 simp [execOp,c,A,eqGuard,h]
def str (l:List UInt8):Value:= .string ⟨⟨l⟩⟩
theorem dv {t:TypeId} {l:List UInt8} {at_:Array TypeId} (A:P.underlying t=some .string) (c:at_= #[t]) (C:ev N σ x=str l):
 (execOp (ev N σ) ⟨dst,.call ⟨.builtin .len,#[x],at_⟩,ty,pos,af,g⟩).run P w= .ok (.value<|.int .i64 l.length) w:=by
 subst c
 simp [execOp,resolve,invoke,builtin,HO,cT A,C,str,goInt]
 rfl
theorem bM {t e:TypeId} {a:Option Addr} {n c:Nat} {at_:Array TypeId} (C:P.underlying t=some (.slice e)) (A:at_= #[t]) (E:ev N σ x= .slice a n c):
 (execOp (ev N σ) ⟨dst,.call ⟨.builtin .len,#[x],at_⟩,ty,pos,af,g⟩).run P w= .ok (.value<|.int .i64 n) w:=by
 subst A
 simp [execOp,resolve,invoke,builtin,HO,cT C,E,goInt]
theorem mn {k:IntKind} {a b:Int} {at_:Array TypeId} (c:ev N σ x= .int k a) (A:ev N σ y= .int k b):
 (execOp (ev N σ) ⟨dst,.call ⟨.builtin .min,#[x,y],at_⟩,ty,pos,af,g⟩).run P w= .ok (.value<|.int k<|min a b) w:=by
 have :(if b < a then b else a)=min a b:=ab
 simp [execOp,resolve,invoke,builtin,Builtin.min_,Builtin.min2,c,A,this]
theorem mx {k:IntKind} {a b:Int} {at_:Array TypeId} (c:ev N σ x= .int k a) (A:ev N σ y= .int k b):
 (execOp (ev N σ) ⟨dst,.call ⟨.builtin .max,#[x,y],at_⟩,ty,pos,af,g⟩).run P w= .ok (.value<|.int k<|max a b) w:=by
 have :(if b > a then b else a)=max a b:=ab
 simp [execOp,resolve,invoke,builtin,Builtin.max_,Builtin.max2,c,A,this]
theorem QN {t:TypeId} {l:List UInt8} {k:IntKind} {i:Int} (E:P.underlying t=some .string) (G:ev N σ x=str l) (I:ev N σ y= .int k i) (A:0≤i∧i < l.length):
 (execOp (ev N σ) ⟨dst,.index t x y,ty,pos,af,g⟩).run P w= .ok (.value<|.int .u8 ((l.getD i.toNat 0).toNat:Int)) w:=by
 have hs:(⟨⟨l⟩⟩:ByteArray)[i.toNat]? =some (l.getD i.toNat 0):=by
  have c:i.toNat < l.length:=ab
  have C:i.toNat < (⟨⟨l⟩⟩:ByteArray).size:=c
  rw [getElem?_pos (⟨⟨l⟩⟩:ByteArray) i.toNat C]
  simp [cM,c,ByteArray.getElem_eq_getElem_data]
 simp [execOp,Instr.index,G,I,asIntOf,str,cT E,A.1,hs]
theorem Ay (l:List UInt8) (a b:Nat):Value.string ((⟨⟨l⟩⟩:ByteArray).extract a b)=str ((l.take b).drop a):=by
 unfold str
 congr 1
 apply ByteArray.ext
 simp [ByteArray.data_extract,List.extract_eq_take_drop,Iq]
theorem mE (n:Nat) {t:TypeId} {l:List UInt8} {k:IntKind} (c:P.underlying t=some .string) (A:ev N σ x=str l) (C:ev N σ y= .int k (n:Int)) (h:n < l.length):
 (execOp (ev N σ) ⟨dst,.index t x y,ty,pos,af,g⟩).run P w= .ok (.value<|.int .u8 ((l.getD n 0).toNat:Int)) w:=QN c A C ⟨ab,ab⟩
theorem jL {n:Nat} {t:TypeId} {l:List UInt8} {k:IntKind} (c:P.underlying t=some .string) (A:ev N σ x=str l) (C:ev N σ y= .int k (n:Int)) (h:n < l.length):
 (execOp (ev N σ) ⟨dst,.index t x y,ty,pos,af,g⟩).run P w= .ok (.value<|.int .u8 ((l.getD n 0).toNat:Int)) w:=mE n c A C h
theorem tq {t:TypeId} {l:List UInt8} {k I:IntKind} {a b:Int} (A:P.underlying t=some .string) (C:ev N σ x=str l) (E:ev N σ y= .int k a) (G:ev N σ z= .int I b) (c:0≤a∧a≤b∧b≤l.length):
 (execOp (ev N σ) ⟨dst,.slice t x (some y) (some z) none,ty,pos,af,g⟩).run P w= .ok (.value<|str<|(l.take b.toNat).drop a.toNat) w:=by
 have h1:b≤((⟨⟨l⟩⟩:ByteArray).size:Nat):=c.2.2
 have h2:0≤b:=ab
 have h3:a≤(b.toNat:Nat):=ab
 simp [execOp,qu,tJ,nI,qv,C,E,G,asIntOf,str,cT A,c.1,h1,h2]
 rw [if_pos ab]
 exact congrArg (fun v=>Bn (Bf v) w)<|Ay l a.toNat b.toNat
theorem rC {t:TypeId} {l:List UInt8} {G:IntKind} {b:Int} (A:P.underlying t=some .string) (C:ev N σ x=str l) (E:ev N σ z= .int G b) (c:0≤b∧b≤l.length):
 (execOp (ev N σ) ⟨dst,.slice t x none (some z) none,ty,pos,af,g⟩).run P w= .ok (.value<|str<|l.take b.toNat) w:=by
 have h1:b≤((⟨⟨l⟩⟩:ByteArray).size:Nat):=c.2
 have :=Ay l 0 b.toNat
 simp only [tT] at this
 simp [execOp,qu,tJ,nI,qv,C,E,asIntOf,str,cT A,c.1,h1]
 exact Ig this
theorem oo {t:TypeId} {l:List UInt8} {k:IntKind} {a:Int} (A:P.underlying t=some .string) (C:ev N σ x=str l) (E:ev N σ y= .int k a) (c:0≤a∧a≤l.length):
 (execOp (ev N σ) ⟨dst,.slice t x (some y) none none,ty,pos,af,g⟩).run P w= .ok (.value<|str<|l.drop a.toNat) w:=by
 have h1:a≤((⟨⟨l⟩⟩:ByteArray).size:Nat):=c.2
 have :=Ay l a.toNat l.length
 simp only [List.take_length] at this
 simp [execOp,qu,tJ,nI,qv,C,E,asIntOf,str,cT A,c.1,h1]
 exact Ig this
theorem AN (l:List UInt8):(⟨⟨l⟩⟩:ByteArray).toList=l:=Lib.toList_data ⟨⟨l⟩⟩
theorem cc {t C:TypeId} {l m:List UInt8} (c:ev N σ x=str l) (A:ev N σ y=str m) (h:l.length+m.length≤9223372036854775807):
 (execOp (ev N σ) ⟨dst,.binOp .add t x y C,ty,pos,af,g⟩).run P w= .ok (.value<|str<|l++m) w:=by
 have h1:¬(((⟨⟨l⟩⟩:ByteArray).size+(⟨⟨m⟩⟩:ByteArray).size:Nat):Int) > xo.max:=by
  have :xo.max=9223372036854775807:=ay
  rw [this]
  show ¬((l.length+m.length:Nat):Int) > _
  omega
 have h2:(⟨⟨l⟩⟩:ByteArray)++(⟨⟨m⟩⟩:ByteArray)=⟨⟨l++m⟩⟩:=by
  apply ByteArray.ext; simp
 simp only [execOp,c,A,str,eqGuard,binOp,xp]
 rw [if_neg h1,h2]
 rfl
theorem iS {t C:TypeId} {l m:List UInt8} (c:ev N σ x=str l) (A:ev N σ y=str m):
 (execOp (ev N σ) ⟨dst,.binOp .eql t x y C,ty,pos,af,g⟩).run P w= .ok (.value<|.bool<|decide (l=m)) w:=by
 simp only [execOp,c,A,str,eqGuard,binOp,xp,AN]
 show Bn (Bf<|.bool<|l==m) w=_
 rw [show (l==m)=decide (l=m) from by rw [pc]; simp]
theorem rv {t C:TypeId} {l m:List UInt8} (c:ev N σ x=str l) (A:ev N σ y=str m):
 (execOp (ev N σ) ⟨dst,.binOp .neq t x y C,ty,pos,af,g⟩).run P w= .ok (.value<|.bool<|decide (l≠m)) w:=by
 simp only [execOp,c,A,str,eqGuard,binOp,xp,AN]
 show Bn (Bf<|.bool<|!(l==m)) w=_
 rw [show (!(l==m))=decide (l≠m) from by rw [pc]; simp]
def iM (a b:List UInt8):Bool:=Op.bytesLess a b
theorem GI (a:List UInt8):iM a a=false :=by
 induction a with
 | nil=>rfl
 | cons x a A=>
   have c:¬x < x:=UInt8.lt_irrefl x
   have :iM (x::a) (x::a)=(decide (x < x) || (x==x && iM a a)):=rfl
   rw [this,A]; simp [c]
theorem GH (x y:UInt8) (a b:List UInt8):iM (x::a) (y::b)=(decide (x < y) || (x==y && iM a b)):=rfl
theorem Aw {a b c:List UInt8} (h1:iM a b=true) (h2:iM b c=true):iM a c=true :=by
 induction a generalizing b c with
 | nil=>
   cases b with
   | nil=>cases h1
   | cons y b=>cases c with
     | nil=>cases h2
     | cons z c=>rfl
 | cons x a A=>
   cases b with
   | nil=>cases h1
   | cons y b=>cases c with
     | nil=>cases h2
     | cons z c=>
       rw [GH] at*
       simp only [tG,decide_eq_true_eq,gd,beq_iff_eq] at*
       rcases h1 with h1 | ⟨rfl,h1⟩
       · rcases h2 with h2 | ⟨rfl,h2⟩
         · exact .inl<|UInt8.lt_trans h1 h2
         · exact .inl h1
       · rcases h2 with h2 | ⟨rfl,h2⟩
         · exact .inl h2
         · exact .inr ⟨aa,A h1 h2⟩
theorem tp (a b:List UInt8):iM a b=true∨a=b∨iM b a=true :=by
 induction a generalizing b with
 | nil=>cases b with
   | nil=>exact .inr<|.inl rfl
   | cons y b=>exact .inl rfl
 | cons x a c=>cases b with
   | nil=>exact .inr<|.inr rfl
   | cons y b=>
     simp only [GH,tG,decide_eq_true_eq,gd,beq_iff_eq,List.cons.injEq]
     rcases Nat.lt_trichotomy x.toNat y.toNat with h | h | h
     · exact .inl<|.inl<|I2.2 h
     · have e:x=y:=pE.1 h
       subst e
       rcases c b with h | h | h
       · exact .inl<|.inr ⟨aa,h⟩
       · exact .inr<|.inl ⟨aa,h⟩
       · exact .inr<|.inr<|.inr ⟨aa,h⟩
     · exact .inr<|.inr<|.inl<|I2.2 h
theorem Av {a b:List UInt8} (h:iM a b=true):iM b a=false :=by
 cases hb:iM b a
 · rfl
 · have :=Aw h hb; rw [GI] at this; cases this
theorem PI {t C:TypeId} {l m:List UInt8} (c:ev N σ x=str l) (A:ev N σ y=str m):
 (execOp (ev N σ) ⟨dst,.binOp .geq t x y C,ty,pos,af,g⟩).run P w= .ok (.value<|.bool<|!iM l m) w:=by
 simp only [execOp,c,A,str,eqGuard,binOp,xp,AN]
 rfl
theorem mf {fn:Fn} {first captured:Array Operand} :(execOp (ev N σ) ⟨dst,.makeFunc fn first captured,ty,pos,af,g⟩).run P w= .ok (.value<|.func fn (first.map<|ev N σ)<|captured.map<|ev N σ) w:=rfl
theorem zL {fn:Fn} {first captured:Array Operand} :(execOp (ev N σ) ⟨dst,.makeFunc fn first captured,ty,pos,af,g⟩).run P w= .ok (.value<|.func fn (first.toList.map<|ev N σ).toArray (captured.toList.map<|ev N σ).toArray) w:=by
 rw [mf,← lH,← lH]
end
end Go.Hb
namespace Go.Hb
def bE (h:Array Obj) (b:Nat) (L:List Value):Prop := ∃ e,h[b]? =some (.cells L.toArray e (0,0))
theorem bE.aM {h:Array Obj} {b:Nat} {L:List Value} (c:bE h b L) (j:Nat):Hb.aM h b j=L[j]? :=by
 obtain ⟨e,c⟩:=c
 rw [bj c]; simp
theorem bE.bp {h:Array Obj} {b:Nat} {L:List Value} (c:bE h b L) (j:Nat):Hb.aM h b (0 +j)=L[j]? :=by
 rw [fK,c.aM]
theorem Md.B {F:Nat→Prop} {w w':World} (h:Md F w w') {b:Nat} {L:List Value} (c:bE w.heap b L) (A:¬F b):bE w'.heap b L:=
 let ⟨e,c⟩:=c; ⟨e,h.aE c A⟩
theorem Wk.B {w w':World} (h:Wk w w') {b:Nat} {L:List Value} (c:bE w.heap b L):bE w'.heap b L:=Md.B h c id
theorem bE.lt {h:Array Obj} {b:Nat} {L:List Value} (c:bE h b L):b < h.size:=let ⟨_,c⟩:=c; (cY.1 c).1
def bk (a:Option Addr):Nat:=match a with | some ad=>ad.block | none=>0
def fo (a:Option Addr):Nat:=match a with | some ad=>ad.off | none=>0
structure aG (h:Array Obj) (a:Option Addr) (xs:List Value):Prop where
 ok:xs≠[]→a=some ⟨bk a,fo a,none⟩
 aM:∀ j u,xs[j]? =some u→Hb.aM h (bk a) (fo a+j)=some u
theorem aG.nil (h:Array Obj) (a:Option Addr):aG h a []:=⟨fun h=>absurd rfl h,fun _ _ hu=>by simp at hu⟩
theorem aG.md {F:Nat→Prop} {w w':World} {a:Option Addr} {xs:List Value} (c:aG w.heap a xs) (h:Md F w w') (A:xs≠[]→¬F (bk a)):aG w'.heap a xs:=
 ⟨c.ok,fun j u hu=>h.aM (c.aM j u hu)<|A<|by rintro rfl; simp at hu⟩
theorem aG.wk {w w':World} {a:Option Addr} {xs:List Value} (c:aG w.heap a xs) (h:Wk w w'):aG w'.heap a xs:=c.md h fun _ x=>x
theorem aG.take {h:Array Obj} {a:Option Addr} {xs:List Value} (c:aG h a xs) (n:Nat):aG h a (xs.take n):=
 ⟨fun A=>c.ok (by rintro rfl; simp at A),fun j u hu=>c.aM j u<|by rw [mS] at hu; split at hu; exact hu; cases hu⟩
theorem aG.fO {h:Array Obj} {b:Nat} {L:List Value} (c:bE h b L):aG h (some ⟨b,0,none⟩) L:=
 ⟨fun _=>rfl,fun j u hu=>by show Hb.aM h b (0 +j)=_; rw [fK,c.aM]; exact hu⟩
theorem aG.iD {h:Array Obj} {a:Option Addr} {xs:List Value} (c:aG h a xs) {i:Nat} {u:Value} (hu:xs[i]? =some u):Hb.aM h (bk a) (fo a+i*1)=some u:=by
 rw [Nat.mul_one]; exact c.aM i u hu
def dt (h:Array Obj) (a:Option Addr) (l:List (List UInt8)):Prop :=aG h a<|l.map str
theorem dt.get {h:Array Obj} {a:Option Addr} {l:List (List UInt8)} (hs:dt h a l) {i:Nat} (hi:i < l.length):Hb.aM h (bk a) (fo a+i*1)=some (str<|l.getD i []):=
 aG.iD hs (by simp [cM,hi])
theorem dt.wk {w w':World} {a:Option Addr} {l:List (List UInt8)} (hs:dt w.heap a l) (h:Wk w w'):dt w'.heap a l:=aG.wk hs h
theorem cX {α:Type} {f:α→Value} {l:List α} (h:0 < l.length):l.map f≠[]:=by
 cases l with
 | nil=>simp at h
 | cons x l=>simp
def Wv (k:IntKind) (h:Array Obj) (a:Option Addr) (l:List Int):Prop :=aG h a<|l.map<|ff k
def fZ (P:Program) (t e size bytes:Nat):Bool:=
 match P.underlying t with
 | some (.slice c)=>c==e && match P.info? e with
   | some i=>i.size==size && i.bytes==bytes && gh 0 size && match i.zero with
     | some z=>z.cells.size==size
     | none=>false
   | none=>false
 | _=>false
theorem o3 {P:Program} {t e size bytes:Nat} (h:fZ P t e size bytes=true):
 P.underlying t=some (.slice e)∧∃ i z,P.info? e=some i∧i.zero=some z∧i.size=size∧i.bytes=bytes∧z.cells.size=size∧0 < size:=by
 unfold fZ at h
 split at h
 · rename_i A hu
   simp only [gd,beq_iff_eq] at h
   obtain ⟨rfl,h⟩:=h
   split at h
   · rename_i i hi
     simp only [gd,beq_iff_eq] at h
     obtain ⟨⟨⟨h1,h2⟩,h3⟩,h4⟩:=h
     split at h4
     · rename_i z c
       exact ⟨hu,i,z,hi,c,h1,h2,by simpa using h4,qE (sc 0)<|pC h3⟩
     · cases h4
   · cases h
 · cases h
def dW (P:Program) (t:TypeId):Option Nat:=(P.info? t).map (·.size)
def zeroOf (P:Program) (t:TypeId):Option (Option<|List Value):=(P.info? t).map fun i=>i.zero.map fun z=>z.cells.toList
def bd (P:Program) (f:FuncId):Prop := ∀ args w,(callFunc f args).run P w= .ok (.enter f args) w
theorem LS {P:Program} {f:FuncId} {fn:Func} (A:P.funcs[f]? =some fn) (hn:(fn.name== "runtime.NumGoroutine")=false) (c:fn.body.isNone=false):bd P f:=by
 intro args w
 have h1:¬((fn.name== "runtime.NumGoroutine")=true):=by rw [hn]; simp
 have h2:¬(fn.body.isNone=true):=by rw [c]; simp
 simp only [callFunc,l8,run_program,l7,A]
 rw [if_neg h1,if_neg h2]
 rfl
section
variable {P:Program} {N:Fm} {σ:Nat→Value} {w:World} {dst:Option Nat} {ty:TypeId} {pos :String} {af:Array Edge} {g:Option (Nat×Bool)} {x y z:Operand} {K:(Nat→Value)→World→Prop}
theorem Hs {o:Oper} {f:FuncId} {L:List Value} {R:Value→World→Prop} (C:(execOp (ev N σ) o).run P w= .ok (.enter f L.toArray) w) (A:ba P f L.toArray w R)
 (k:∀ v w',R v w'→K (eW σ o.dst v) w'):cJ P N o σ w K:=by
 unfold cJ iW
 rw [gN,C]
 refine ju A fun e w' ⟨v,he,c⟩=> ?_
 subst he
 exact ⟨_,jZ ..,k v w' c⟩
theorem cl {f:FuncId} {args:Array Operand} {c:Array TypeId} {L:List Value} {R:Value→World→Prop} (C:bd P f) (E:ba P f L.toArray w R) (A:args.toList.map (ev N σ)=L)
 (k:∀ v w',R v w'→K (eW σ dst v) w'):cJ P N ⟨dst,.call ⟨.value (.func f),args,c⟩,ty,pos,af,g⟩ σ w K:=by
 refine Hs (f:=f) ?_ E k
 have :args.map (ev N σ)=L.toArray:=by rw [← A,← lH]
 simp [execOp,resolve,ev,pf,invoke,this,C L.toArray w]
theorem ML {f:FuncId} {fo:Operand} {first cap:Array Value} {args:Array Operand} {c:Array TypeId} {L:List Value} {R:Value→World→Prop} (C:bd P f) (G:ev N σ fo= .func (.func f) first cap)
 (E:ba P f L.toArray w R) (A:first.toList++args.toList.map (ev N σ)++cap.toList=L)
 (k:∀ v w',R v w'→K (eW σ dst v) w'):cJ P N ⟨dst,.call ⟨.value fo,args,c⟩,ty,pos,af,g⟩ σ w K:=by
 refine Hs (f:=f) ?_ E k
 have :first++args.map (ev N σ)++cap=L.toArray:=by rw [← A,← lH,← HH,← HH]
 simp [execOp,resolve,G,pf,invoke,this,C L.toArray w]
theorem l3 {o:Oper} {ob:Obj} {v:Nat→Value} (c:(execOp (ev N σ) o).run P w= .ok (.value<|v w.heap.size) {w with heap:=w.heap.push ob})
 (k:∀ b w',b=w.heap.size→Nw w w'→w'.heap[b]? =some ob→K (eW σ o.dst<|v b) w'):cJ P N o σ w K:=
 kW c (k _ _ rfl (FW w ob) (by simp))
theorem al {e:TypeId} {A:List Value} (c:zeroOf P e=some (some A)) (k:∀ b w',b=w.heap.size→Nw w w'→bE w'.heap b A→K (eW σ dst<|.pointer<|some ⟨b,0,none⟩) w'):
 cJ P N ⟨dst,.alloc e,ty,pos,af,g⟩ σ w K:=by
 refine l3 (v:=fun b=> .pointer<|some ⟨b,0,none⟩) (ob:= .cells A.toArray e (0,0)) ?_ fun b w' h1 h2 h3=>k b w' h1 h2 ⟨e,h3⟩
 unfold zeroOf at c
 simp only [mj] at c
 obtain ⟨i,hi,zv,C,rfl⟩:=c
 simp [execOp,HX,zeroValue,gI hi,C,newVar,newRow]
theorem iq {e:TypeId} {A:List Value} (c:zeroOf P e=some (some A)) (k:∀ b w',b=w.heap.size→Nw w w'→w'.heap[b]? =some (.cells A.toArray e (0,0))→K (eW σ dst<|.pointer<|some ⟨b,0,none⟩) w'):
 cJ P N ⟨dst,.alloc e,ty,pos,af,g⟩ σ w K:=by
 refine l3 (v:=fun b=> .pointer<|some ⟨b,0,none⟩) (ob:= .cells A.toArray e (0,0)) ?_ k
 unfold zeroOf at c
 simp only [mj] at c
 obtain ⟨i,hi,zv,C,rfl⟩:=c
 simp [execOp,HX,zeroValue,gI hi,C,newVar,newRow]
theorem bx {e:TypeId} {v:Value} {L:List Value} (A:ev N σ x=v) (c:v.cells.toList=L) (k:∀ b w',b=w.heap.size→Nw w w'→bE w'.heap b L→K (eW σ dst<|.pointer<|some ⟨b,0,none⟩) w'):
 cJ P N ⟨dst,.box e x,ty,pos,af,g⟩ σ w K:=by
 subst c
 refine l3 (v:=fun b=> .pointer<|some ⟨b,0,none⟩) (ob:= .cells v.cells e (0,0)) ?_ fun b w' h1 h2 h3=>k b w' h1 h2 ⟨e,h3⟩
 simp [execOp,Instr.box,A,newVar,newRow]
theorem qd {t:TypeId} (k:∀ b w',b=w.heap.size→Nw w w'→w'.heap[b]? =some (.map #[] 0)→K (eW σ dst<|.map<|some b) w'):cJ P N ⟨dst,.makeMap t none,ty,pos,af,g⟩ σ w K:=by
 refine l3 (v:=fun b=> .map<|some b) ?_ k
 simp [execOp,Instr.makeMap]
theorem oM {t e:TypeId} {size bytes:Nat} (A:fZ P t e size bytes=true)
 (k:∀ b w',b=w.heap.size→Nw w w'→(∀ B,B≤b→w'.ownsRow B e size (.slice (some ⟨b,0,none⟩) 0 0) 0 [])→K (eW σ dst<|.slice (some ⟨b,0,none⟩) 0 0) w'):cJ P N ⟨dst,.buildSlice t 0 #[],ty,pos,af,g⟩ σ w K:=by
 refine l3 (v:=fun b=> .slice (some ⟨b,0,none⟩) 0 0) (ob:= .cells #[] e (0,0)) ?_ fun b w' h1 h2 h3=>k b w' h1 h2 fun B c=>⟨by simp,.inr ⟨b,0,#[],aa,c,h3,cw _,by simp [maxLen],by simp,by simp⟩⟩
 obtain ⟨hu,i,zv,hi,C,h1,h2,h3,h4⟩:=o3 A
 simp [execOp,A8,cT hu,sizeOf,gI hi,lI,newRow]
 congr 2
 exact Array.eq_empty_of_size_eq_zero<|by simp
theorem Kg {t e:TypeId} {size bytes:Nat} {v:Value} {L:List Value} (I:fZ P t e size bytes=true) (hs:mh size 1000=true) (O:ev N σ x=v) (J:v.cells.size=size)
 (C:v.cells.toList=L) (k:∀ b w',b=w.heap.size→Nw w w'→w'.heap[b]? =some (.cells L.toArray e (0,0))→K (eW σ dst<|.slice (some ⟨b,0,none⟩) 1 1) w'):cJ P N ⟨dst,.buildSlice t 1 #[(0,x)],ty,pos,af,g⟩ σ w K:=by
 subst C
 refine l3 (v:=fun b=> .slice (some ⟨b,0,none⟩) 1 1) (ob:= .cells v.cells e (0,0)) ?_ fun b w' h1 h2 h3=>k b w' h1 h2<|by simpa using h3
 obtain ⟨hu,i,zv,hi,V,h1,h2,h3,h4⟩:=o3 I
 have Z:size≤1000:=by simpa using hs
 have E:lI (fun i=>some (i*size,size)) ((ov size).map (zv.cells[· % zv.cells.size]!)) [(0,v)]=some v.cells:=by
  have A:((ov size).map (zv.cells[· % zv.cells.size]!)).size=size:=by simp
  generalize (ov size).map (zv.cells[· % zv.cells.size]!)=cs at A
  simp only [lI,J]
  rw [if_neg (by rw [A]; simp)]
  congr 1
  have key:∀ (l:List Value) (m:Nat) (cs:Array Value),m+l.length≤cs.size→∀ j,((l.zipIdx m).foldl (fun (cs:Array Value) (c,j)=>cs.setIfInBounds (0 *size+j) c) cs)[j]? =if j < m then cs[j]? else if j < m+l.length then l[j - m]? else cs[j]? :=by
   intro l
   induction l with
   | nil=>intro m cs hm j; simp; intro h1 h2; omega
   | cons c l Y=>
     intro m cs hm j
     simp only [xL,r5,bU] at hm ⊢
     rw [Y (m+1) _ (by simp; omega)]
     simp only [BI,fK,A5]
     by_cases h1:j < m
     · rw [if_pos ab,if_pos h1,if_neg ab]
     · rw [if_neg h1]
       by_cases h2:j=m
       · subst h2
         rw [if_pos ab,if_pos rfl,if_pos ab,if_pos ab]
         simp
       · rw [if_neg ab]
         by_cases h3:j < m+1 +l.length
         · rw [if_pos h3,if_pos ab]
           obtain ⟨q,G⟩:∃ q,j - m=q+1:=⟨j - m - 1,ab⟩
           rw [G,Iw,show j - (m+1)=q from by omega]
         · rw [if_neg h3,if_neg ab,if_neg ab]
  apply HE
  intro j
  have :=key v.cells.toList 0 cs (by simp; omega) j
  rw [show (v.cells.zipIdx.foldl (fun (cs:Array Value) (c,j)=>cs.setIfInBounds (0 *size+j) c) cs)=((v.cells.toList.zipIdx 0).foldl (fun (cs:Array Value) (c,j)=>cs.setIfInBounds (0 *size+j) c) cs) from by
   rw [← Array.foldl_toList]; simp [Array.toList_zipIdx]]
  rw [this]
  simp only [Nat.not_lt_zero,if_false,fK,Nat.sub_zero,tD,tC]
  split
  · rfl
  · rw [o8 ab,o8 ab]
 simp only [execOp,A8,l8,cT hu,l7,sizeOf,gI hi,oA,h1,Nat.one_mul,Bp,zeroValue,V,List.map_toArray,nM,List.map_nil,O,E]
 rw [if_neg (by rw [show (2:Nat) ^ 24=16777216 from rfl]; omega),if_neg ab]
 simp [newRow]
theorem Cb {t e:TypeId} {size bytes:Nat} {v:Value} {L:List Value} (A:fZ P t e size bytes=true) (hs:mh size 1000=true) (E:ev N σ x=v) (C:v.cells.size=size)
 (c:v.cells.toList=L) (k:∀ b w',b=w.heap.size→Nw w w'→bE w'.heap b L→K (eW σ dst<|.slice (some ⟨b,0,none⟩) 1 1) w'):cJ P N ⟨dst,.buildSlice t 1 #[(0,x)],ty,pos,af,g⟩ σ w K:=
 Kg A hs E C c fun b w' h1 h2 h3=>k b w' h1 h2 ⟨_,h3⟩
theorem oX {v:Value} (h:v.oneCell'=true):v.cells= #[v]:=by cases v <;> first | rfl | (cases h; done)
theorem DV {loc:Nat→Option (Nat×Nat)} (A:∀ i,loc i=some (i*1,1)):∀ (rest pre c:List Value),c.length=rest.length→rest.all et=true→
 lI loc (pre++c).toArray ((rest.zipIdx pre.length).map fun q=>(q.2,q.1))=some (pre++rest).toArray
 | [],pre,c,hl,_=>by
   rw [fR hl]; rfl
 | v::r,pre,c,hl,h1=>by
   cases c with
   | nil=>simp at hl
   | cons z c=>
     rw [xx,gd] at h1
     have E:=oX h1.1
     have C:=DV A r (pre++ [v]) c (by simpa using hl) h1.2
     simp only [xL,nM,lI,A,E]
     rw [if_neg (by simp)]
     simp only [bK,ic,ib,List.singleton_append] at C
     rw [← C]
     simp
theorem pQ {t e bytes n:Nat} {ps:Array (Nat×Operand)} {L:List Value} (C:fZ P t e 1 bytes=true) (hp:ps.toList.map (fun p=>(p.1,ev N σ p.2))=(L.zipIdx 0).map fun q=>(q.2,q.1)) (h1:L.all et=true) (hn:L.length=n) (hs:(mh n 1000 && gh 0 n)=true)
 (k:∀ b w',b=w.heap.size→Nw w w'→w'.heap[b]? =some (.cells L.toArray e (0,0))→K (eW σ dst<|.slice (some ⟨b,0,none⟩) n n) w'):cJ P N ⟨dst,.buildSlice t n ps,ty,pos,af,g⟩ σ w K:=by
 subst hn
 refine l3 (v:=fun b=> .slice (some ⟨b,0,none⟩) L.length L.length) (ob:= .cells L.toArray e (0,0)) ?_ k
 obtain ⟨hu,i,zv,hi,E,c,h2,h3,h4⟩:=o3 C
 simp only [gd] at hs
 have I:L.length≤1000:=by simpa using hs.1
 have J:0 < L.length:=by have :=pC hs.2; omega
 have A:lI (fun i=>some (i*1,1)) ((ov<|L.length*1).map (zv.cells[· % zv.cells.size]!)) (ps.toList.map fun p=>(p.1,ev N σ p.2))=some L.toArray:=by
  rw [hp]
  have G:((ov<|L.length*1).map (zv.cells[· % zv.cells.size]!)).toList.length=L.length:=by simp
  have :=DV (loc:=fun i=>some (i*1,1)) (fun _=>rfl) L [] ((ov<|L.length*1).map (zv.cells[· % zv.cells.size]!)).toList G h1
  rw [nO,nO,xf] at this
  exact this
 simp only [execOp,A8,l8,cT hu,l7,sizeOf,gI hi,oA,c,Bp,zeroValue,E,lH,A]
 rw [if_neg (by rw [show (2:Nat) ^ 24=16777216 from rfl]; omega),if_neg ab]
 simp [newRow]
theorem kG {t e:TypeId} {bytes:Nat} {v:Value} (c:fZ P t e 1 bytes=true) (A:ev N σ x=v) (h1:v.oneCell'=true)
 (k:∀ b w',b=w.heap.size→Nw w w'→bE w'.heap b [v]→K (eW σ dst<|.slice (some ⟨b,0,none⟩) 1 1) w'):cJ P N ⟨dst,.buildSlice t 1 #[(0,x)],ty,pos,af,g⟩ σ w K:=
 Cb c rfl A (by rw [oX h1]; rfl) (by rw [oX h1]) k
theorem oN {t e:TypeId} {size bytes:Nat} {L:List Value} (A:fZ P t e size bytes=true) (hs:mh size 1000=true) (C:ev N σ x= .agg L.toArray) (c:L.length=size)
 (k:∀ b w',b=w.heap.size→Nw w w'→bE w'.heap b L→K (eW σ dst<|.slice (some ⟨b,0,none⟩) 1 1) w'):cJ P N ⟨dst,.buildSlice t 1 #[(0,x)],ty,pos,af,g⟩ σ w K:=
 Cb A hs C (by simpa [rZ] using c) (by simp [rZ]) k
theorem iQ {e:TypeId} {L:List Value} (c:ev N σ x= .agg L.toArray) (k:∀ b w',b=w.heap.size→Nw w w'→bE w'.heap b L→K (eW σ dst<|.pointer<|some ⟨b,0,none⟩) w'):
 cJ P N ⟨dst,.box e x,ty,pos,af,g⟩ σ w K:=bx c (by simp [rZ]) k
theorem pR {e:TypeId} {L:List Value} (c:ev N σ x= .agg L.toArray) (k:∀ b w',b=w.heap.size→Nw w w'→w'.heap[b]? =some (.cells L.toArray e (0,0))→K (eW σ dst<|.pointer<|some ⟨b,0,none⟩) w'):
 cJ P N ⟨dst,.box e x,ty,pos,af,g⟩ σ w K:=by
 refine l3 (v:=fun b=> .pointer<|some ⟨b,0,none⟩) (ob:= .cells L.toArray e (0,0)) ?_ fun b w' h1 h2 h3=>k b w' h1 h2 h3
 simp [execOp,Instr.box,c,newVar,newRow,rZ]
theorem ss {l:List Value} (h:l.all et=true):∀ u∈l,u.oneCell'=true :=jT.1 h
theorem dQ {t b off :Nat} {e:TypeId} {L:List Value} {v:Value} (A:dW P t=some 1) (Z:ev N σ x= .pointer (some ⟨b,off,none⟩)) (ab:ev N σ y=v) (h1:v.oneCell'=true) (c:w.heap[b]? =some (.cells L.toArray e (0,0))) (O:off < L.length)
 (k:∀ w',Md (fun k=>k=b) w w'→w'.heap[b]? =some (.cells (L.set off v).toArray e (0,0))→K σ w'):cJ P N ⟨none,.store t x y,ty,pos,af,g⟩ σ w K:=by
 have E:v.cells= #[v]:=by cases v <;> first | rfl | (cases h1; done)
 have G:w.cell? ⟨b,off,none⟩=some L[off]:=by rw [mo,bj c]; simp [O]
 have I:w.frozen? ⟨b,off,none⟩=false :=by simp only [World.frozen?,show w.heap[b]? =_ from c]; simp
 unfold dW at A
 simp only [mj] at A
 obtain ⟨i,hi,hs⟩:=A
 have C:(⟨b,off,none⟩:Addr).add 0=⟨b,off,none⟩:=rfl
 have V:(execOp (ev N σ) ⟨none,.store t x y,ty,pos,af,g⟩).run P w= .ok .skip (w.setCell ⟨b,off,none⟩ v):=by
  simp [execOp,Be,Z,ab,ph,storeVar,E,sizeOf,gI hi,hs,storeCells,C,run_store P w _ v _ h1,G,I]
 unfold cJ iW
 rw [gN,V]
 refine ⟨σ,aa,k _ ⟨aa,aa,by simp [xw],fun k _ hk=> ?_⟩ ?_⟩
 · exact Below.heap_setCell w _ v k hk
 · have J:=(cY.1 c).1
   have Y:w.heap[b]= .cells L.toArray e (0,0):=(cY.1 c).2
   simp only [xw]
   rw [xd (by simpa using J),Array.getElem_modify]
   simp [Y,List.setIfInBounds_toArray]
theorem st {t b off :Nat} {L:List Value} {v:Value} (G:dW P t=some 1) (C:ev N σ x= .pointer (some ⟨b,off,none⟩)) (E:ev N σ y=v) (h1:v.oneCell'=true) (c:bE w.heap b L) (A:off < L.length)
 (k:∀ w',Md (fun k=>k=b) w w'→bE w'.heap b (L.set off v)→K σ w'):cJ P N ⟨none,.store t x y,ty,pos,af,g⟩ σ w K:=
 let ⟨_,c⟩:=c
 dQ G C E h1 c A fun w' h1 h2=>k w' h1 ⟨_,h2⟩
theorem gw {t b off n:Nat} {e:TypeId} {L vs:List Value} (c:dW P t=some n) (E:ev N σ x= .pointer (some ⟨b,off,none⟩)) (G:ev N σ y= .agg vs.toArray) (hn:vs.length=n) (h1:vs.all et=true) (A:w.heap[b]? =some (.cells L.toArray e (0,0))) (I:off+n≤L.length)
 (k:∀ w',Md (fun k=>k=b) w w'→w'.heap[b]? =some (.cells (L.take off++vs++L.drop (off+n)).toArray e (0,0))→K σ w'):cJ P N ⟨none,.store t x y,ty,pos,af,g⟩ σ w K:=by
 unfold dW at c
 simp only [mj] at c
 obtain ⟨i,hi,hs⟩:=c
 have cD:=run_storeCells_at P b off e vs 0 L.toArray w A (by simp; omega)<|ss h1
 have C:(execOp (ev N σ) ⟨none,.store t x y,ty,pos,af,g⟩).run P w= .ok .skip (w.setRow b (L.take off++vs++L.drop (off+n)).toArray):=by
  simp [execOp,Be,E,G,ph,storeVar,rZ,sizeOf,gI hi,hs,hn,cD]
 unfold cJ iW
 rw [gN,C]
 exact ⟨σ,aa,k _ ⟨aa,aa,by simp,fun k _ hk=>setRow_other w b k _ hk⟩<|setRow_heap w b _ _ e _ A⟩
theorem cG {t b off n:Nat} {L vs:List Value} (A:dW P t=some n) (E:ev N σ x= .pointer (some ⟨b,off,none⟩)) (G:ev N σ y= .agg vs.toArray) (hn:vs.length=n) (h1:vs.all et=true) (c:bE w.heap b L) (I:off+n≤L.length)
 (k:∀ w',Md (fun k=>k=b) w w'→bE w'.heap b (L.take off++vs++L.drop (off+n))→K σ w'):cJ P N ⟨none,.store t x y,ty,pos,af,g⟩ σ w K:=by
 obtain ⟨e,c⟩:=c
 unfold dW at A
 simp only [mj] at A
 obtain ⟨i,hi,hs⟩:=A
 have cD:=run_storeCells_at P b off e vs 0 L.toArray w c (by simp; omega)<|ss h1
 have C:(execOp (ev N σ) ⟨none,.store t x y,ty,pos,af,g⟩).run P w= .ok .skip (w.setRow b (L.take off++vs++L.drop (off+n)).toArray):=by
  simp [execOp,Be,E,G,ph,storeVar,rZ,sizeOf,gI hi,hs,hn,cD]
 unfold cJ iW
 rw [gN,C]
 exact ⟨σ,aa,k _ ⟨aa,aa,by simp,fun k _ hk=>setRow_other w b k _ hk⟩ ⟨e,setRow_heap w b _ _ e _ c⟩⟩
theorem JF {t ty e:TypeId} {i:TypeInfo} {zv:Value} {B n m c:Nat} {v aa:Value} {xs news:List Value} {ad:Addr} {w':World} (hu:P.underlying t=some (.slice e)) (hi:P.info? e=some i) (Z:i.zero=some zv) (aj:zv.cells.size=i.size) (ah:0 < i.size)
 (G:w.ownsRow B e i.size v n xs) (E:news.length=m*i.size) (I:∀ j u,news[j]? =some u→w.cell? (ad.add j)=some u) (h1:∀ u∈news,u.oneCell'=true) (O:n+m≤maxLen) (J:(n+m)*i.bytes≤140737488355328)
 (A:(xn #[t,t] ty #[v,.slice (some ad) m c]).run P w= .ok aa w'):∀ k,aa.ownBlock=some k→v.ownBlock=some k∨w.heap.size≤k:=by
 intro k hk
 have ak:n+m≤9223372036854775807:=by unfold maxLen at O; omega
 rcases G.2 with ⟨rfl,rfl⟩ | ⟨C,cap,cur,rfl,am,ag,ao,an,ac,ap⟩
 · have ai:xs= []:=fR<|by simpa using G.1
   subst ai
   obtain ⟨v2,aq,V,h2,_,_⟩:=run_append_own (P:=P) w w.heap.size t ty e i zv i.size i.bytes hu hi Z rfl rfl aj ah _ 0 [] (dM w w.heap.size e i.size) ad m c news E I h1 O J (cw _)
   rw [A] at V
   cases V
   exact .inr (by
    rcases h2.2 with ⟨h,_⟩ | ⟨g2,_,_,h,al,_⟩
    · rw [h] at hk; simp [iz] at hk
    · rw [h] at hk; simp only [iz,fE] at hk; omega)
 · by_cases Y:n+m≤cap
   · have ae:n*i.size+news.length≤cur.size:=by rw [E,ac,← Nat.add_mul]; exact oD _ Y
     rw [run_append_room (P:=P) w t ty e i hu hi C n cap cur ag ad m c news E I h1 Y ae] at A
     cases A
     exact .inl hk
   · have holds:∀ j u,xs[j]? =some u→w.cell? ((⟨C,0,none⟩:Addr).add j)=some u:=G.cells (g:=C) rfl
     rw [run_append_grow (P:=P) w t ty e i zv hu hi Z ⟨C,0,none⟩ n cap xs G.1 holds ad m c news E I ab ab (growslice_fits ab J)] at A
     cases A
     simp only [iz,fE] at hk
     exact .inr ab
theorem ap {t e size bytes B n m c:Nat} {v:Value} {xs news:List Value} {a:Option Addr} (al:fZ P t e size bytes=true) (C:w.ownsRow B e size v n xs) (aa:ev N σ x=v) (ae:B≤w.heap.size)
 (ab:ev N σ y= .slice a m c) (J:aG w.heap a news) (E:news.length=m*size) (h1:news.all et=true) (G:(n+m)*bytes≤140737488355328) (ao:n+m≤9223372036854775807)
 (k:∀ A w',w'.ownsRow B e size A (n+m) (xs++news)→Md (fun k=>v.ownBlock=some k) w w'→(A= .slice none 0 0↔v= .slice none 0 0∧m=0)→(∀ k,A.ownBlock=some k→v.ownBlock=some k∨w.heap.size≤k)→K (eW σ dst A) w'):
 cJ P N ⟨dst,.call ⟨.builtin .append,#[x,y],#[t,t]⟩,ty,pos,af,g⟩ σ w K:=by
 obtain ⟨hu,i,zv,hi,ac,hs,I,ad,Y⟩:=o3 al
 have O:n+m≤maxLen:=by unfold maxLen; omega
 by_cases hm:news= []
 · subst hm
   have ai:m=0:=by
    rcases Nat.mul_eq_zero.1 (E.symm.trans rfl) with h | h
    · exact h
    · omega
   subst ai
   have ak:(xn #[t,t] ty #[v,.slice a 0 c]).run P w= .ok v w:=by
    rcases C.2 with ⟨rfl,rfl⟩ | ⟨an,cap,cur,rfl,_,_,hle,_⟩
    · cases a <;> simp [xn,cT hu,sizeOf,gI hi,HN,HM,loadCells,loadCellsFrom]
    · cases a <;> simp [xn,cT hu,sizeOf,gI hi,HN,HM,loadCells,loadCellsFrom,hle,storeCells]
   refine kW (w':=w) (v:=v) ?_<|k v w (by simpa using C) (Md.refl _ _) (by simp) fun _ h=> .inl h
   simp [execOp,resolve,invoke,builtin,aa,ab,ak]
 · have ag:=J.ok hm
   have V:∀ j u,news[j]? =some u→w.cell? ((⟨bk a,fo a,none⟩:Addr).add j)=some u:=fun j u hu=>by rw [k4,mo]; exact J.aM j u hu
   obtain ⟨A,w',Z,h2,h3,h4⟩:=run_append_own (P:=P) w B t ty e i zv size bytes hu hi ac hs I ad Y v n xs C ⟨bk a,fo a,none⟩ m c news E V (ss h1) O G ae
   subst hs I
   have ah:=JF hu hi ac ad Y C E V (ss h1) O G Z
   refine kW (w':=w') (v:=A) ?_<|k A w' h2 ⟨h3.os,h3.output,h3.size,fun k hk aj=>h3.block k hk fun e=>aj e.symm⟩ h4 ah
   have am:ev N σ y= .slice (some ⟨bk a,fo a,none⟩) m c:=ab.trans<|congrArg (fun a=>bD a m c) ag
   simp [execOp,resolve,invoke,builtin,aa,am,Z]
theorem a7 {t n len cap:Nat} {k:IntKind} {i:Int} {a:Option Addr} (he:gC P t=some n) (A:ev N σ x= .slice a len cap) (C:ev N σ y= .int k i) (c:0≤i∧i < len) (E:a=some ⟨bk a,fo a,none⟩):
 (execOp (ev N σ) ⟨dst,.indexAddr t x y,ty,pos,af,g⟩).run P w= .ok (.value<|.pointer<|some ⟨bk a,fo a+i.toNat*n,none⟩) w:=
 ia he (by rw [A]; congr 1) C c
end
theorem cz {F:Nat→Prop} {w w':World} {B e size n:Nat} {v:Value} {xs:List Value} (h:w.ownsRow B e size v n xs) (hm:Md F w w') (A:∀ k,v.ownBlock=some k→¬F k):w'.ownsRow B e size v n xs:=by
 refine ⟨h.1,?_⟩
 rcases h.2 with hn | ⟨g,cap,cur,rfl,c,C,rest⟩
 · exact .inl hn
 · exact .inr ⟨g,cap,cur,aa,c,hm.aE C (A g aa),rest⟩
section
variable {P:Program} {N:Fm} {σ:Nat→Value} {w:World} {dst:Option Nat} {ty:TypeId} {pos :String} {af:Array Edge} {g:Option (Nat×Bool)} {x y z:Operand} {K:(Nat→Value)→World→Prop}
theorem rE {t B e size n cap off j:Nat} {a:Option Addr} {xs:List Value} {u:Value} (ab:w.ownsRow B e size (.slice a n cap) n xs) (ag:dW P t=some 1) (ad:ev N σ x= .pointer (some ⟨bk a,off,none⟩)) (ae:ev N σ y=u) (h1:u.oneCell'=true)
 (V:off =fo a+j) (Z:j < n*size)
 (k:∀ w',Md (fun k=>(bD a n cap).ownBlock=some k) w w'→w'.ownsRow B e size (.slice a n cap) n (xs.set j u)→K σ w'):cJ P N ⟨none,.store t x y,ty,pos,af,g⟩ σ w K:=by
 obtain ⟨C,h⟩:=ab
 rcases h with ⟨h,rfl⟩ | ⟨c,cp,cur,h,E,O,hle,J,A,ac⟩
 · simp at Z
 · simp only [l9,true_and] at h
   obtain ⟨rfl,rfl⟩:=h
   have Y:off =j:=by rw [V]; simp [fo]
   subst Y
   have hlen:off < cur.toList.length:=by
    have :=oD size hle
    rw [tD,A]; omega
   refine dQ (L:=cur.toList) ag ad ae h1 (show w.heap[c]? =_ by simpa using O) hlen fun w' I G=>k w' (I.mono fun k _ hk=>by subst hk; rfl) ⟨by simpa using C,.inr ⟨c,cap,_,aa,E,G,hle,J,by simpa using A,?_⟩⟩
   rw [← ac]
   simp only
   rw [List.take_set]
end
theorem eQ {w:World} {B e size n:Nat} {v:Value} {xs:List Value} (h:w.ownsRow B e size v n xs):v.oneCell'=true :=by
 rcases h.2 with ⟨rfl,_⟩ | ⟨g,cap,cur,rfl,_⟩ <;> rfl
theorem cQ {w:World} {B e size n:Nat} {v:Value} {xs:List Value} (h:w.ownsRow B e size v n xs):∃ a cap,v= .slice a n cap:=by
 rcases h.2 with ⟨rfl,rfl⟩ | ⟨g,cap,cur,rfl,_⟩
 · exact ⟨_,_,aa⟩
 · exact ⟨_,_,aa⟩
theorem nv {w:World} {B B' e C size V n O:Nat} {v E:Value} {xs Y:List Value} (h:w.ownsRow B e size v n xs) (G:w.ownsRow B' C V E O Y) (J:e≠C) {k:Nat} (hk:v.ownBlock=some k):E.ownBlock≠some k:=by
 intro A
 rcases h.2 with ⟨rfl,_⟩ | ⟨g,cap,cur,rfl,_,I,_⟩
 · simp [iz] at hk
 · rcases G.2 with ⟨rfl,_⟩ | ⟨ab,Z,aa,rfl,_,c,_⟩
   · simp [iz] at A
   · simp only [iz,fE] at hk A
     subst hk A
     rw [I] at c
     simp only [fE,tK] at c
     exact J c.2.1
theorem a8 {w w':World} {B e size n:Nat} {v:Value} {xs:List Value} (h:w.ownsRow B e size v n xs) (hm:Wk w w'):w'.ownsRow B e size v n xs:=cz h hm fun _ _ x=>x
theorem dd {w:World} {B e size n:Nat} {v:Value} {xs:List Value} (h:w.ownsRow B e size v n xs) {k:Nat} (hk:v.ownBlock=some k):B≤k∧k < w.heap.size:=h.lt k hk
theorem Wk.own {w0 w w':World} {B e size n:Nat} {v:Value} {xs:List Value} (h:Wk w0 w) (c:w.ownsRow B e size v n xs) (hm:Md (fun k=>v.ownBlock=some k) w w') (C:w0.heap.size≤B):Wk w0 w':=
 Md.trans' h hm (fun k hk A=>by have :=(dd c A).1; omega)
theorem rA {w:World} {B e size n:Nat} {v:Value} {xs:List Value} (h:w.ownsRow B e size v n xs):∃ a cap,v= .slice a n cap∧aG w.heap a xs∧n≤cap∧(∀ k,v.ownBlock=some k→a=some ⟨k,0,none⟩∧B≤k∧k < w.heap.size)∧(v.ownBlock=none→xs= []):=by
 rcases h.2 with ⟨rfl,rfl⟩ | ⟨g,cap,cur,rfl,A,c,hle,_,_,C⟩
 · have :xs= []:=fR<|by simpa using h.1
   subst this
   exact ⟨none,0,aa,aG.nil _ _,cw _,fun k hk=>by simp [iz] at hk,fun _=>rfl⟩
 · refine ⟨_,cap,aa,⟨fun _=>rfl,fun j u hu=> ?_⟩,hle,fun k hk=> ?_,fun hk=>by simp [iz] at hk⟩
   · show aM w.heap g (0 +j)=_
     rw [fK,bj c]
     rw [← C,mS] at hu
     split at hu
     · simpa using hu
     · cases hu
   · simp only [iz,fE] at hk; subst hk
     exact ⟨aa,A,(cY.1 c).1⟩
theorem aU {w:World} {B e size n cap:Nat} {a:Option Addr} {xs:List Value} (h:w.ownsRow B e size (.slice a n cap) n xs):n≤cap∧aG w.heap a xs:=by
 obtain ⟨C,E,c,A,hle,_⟩:=rA h
 simp only [l9,true_and] at c
 obtain ⟨rfl,rfl⟩:=c
 exact ⟨hle,A⟩
theorem fk {w:World} {B B' e size n:Nat} {v:Value} {xs:List Value} (h:w.ownsRow B e size v n xs) (c:B'≤B):w.ownsRow B' e size v n xs:=by
 refine ⟨h.1,?_⟩
 rcases h.2 with h | ⟨g,cap,cur,h1,h2,r⟩
 · exact .inl h
 · exact .inr ⟨g,cap,cur,h1,dZ c h2,r⟩
theorem aG.drop {h:Array Obj} {a:Option Addr} {xs:List Value} (c:aG h a xs) {cap k size:Nat} (E:xs.length≤cap*size):aG h (eh a cap k size) (xs.drop<|k*size):=by
 unfold eh
 by_cases hk:cap=k
 · rw [if_pos hk,kX (by rw [← hk]; exact E)]; exact aG.nil _ _
 · rw [if_neg hk]
   by_cases A:xs= []
   · subst A; rw [List.drop_nil]; exact aG.nil _ _
   · have C:=c.ok A
     rw [C]
     simp only [jU,k4]
     refine ⟨fun _=>rfl,fun j u hu=> ?_⟩
     rw [qA] at hu
     have :=c.aM _ _ hu
     show Hb.aM h (bk a) (fo a+k*size+j)=_
     rw [IQ]; exact this
theorem SD {w:World} {B e size n cap:Nat} {a:Option Addr} {xs:List Value} (h:w.ownsRow B e size (.slice a n cap) n xs) (A:xs≠[]):B≤bk a∧bk a < w.heap.size:=by
 obtain ⟨C,E,c,_,_,h1,h2⟩:=rA h
 simp only [l9,true_and] at c
 obtain ⟨rfl,rfl⟩:=c
 cases hk:(bD a n cap).ownBlock with
 | none=>exact absurd (h2 hk) A
 | some k=>
   obtain ⟨rfl,h3,h4⟩:=h1 k hk
   exact ⟨h3,h4⟩
section
variable {P:Program} {N:Fm} {σ:Nat→Value} {w:World} {dst:Option Nat} {ty:TypeId} {pos :String} {af:Array Edge} {g:Option (Nat×Bool)} {x y z:Operand} {K:(Nat→Value)→World→Prop}
end
end Go.Hb
namespace Go.Hb
section
variable {P:Program} {md:qw} {ops:Array Oper} {Q:Exit→Act→World→Prop} {S:World→Prop} {r:Nat}
def ot (P:Program) (md:qw) (ops:Array Oper) (Q:Exit→Act→World→Prop) (S:World→Prop) (r:Nat):Nat→Array Bool→Act→World→Prop
 | 0,aY,a,w=>jv md ops aY= []∧Q .normal a w
 | fuel+1,aY,a,w=>
   (jv md ops aY= []→Q .normal a w)∧
   ∀ i∈jv md ops aY,wpOp P ops Q i (fun c w'=>((aY.setIfInBounds i true).getD r false =false→S w')∧ot P md ops Q S r fuel (aY.setIfInBounds i true) c w') a w
theorem Hq:∀ (fuel:Nat) (aY:Array Bool) (a:Act) (w:World),ot P md ops Q S r fuel aY a w→wpAny P md ops Q fuel aY a w
 | 0,_,_,_,h=>h
 | fuel+1,_,_,_,h=>⟨h.1,fun i hi=>wpOp_mono (fun c w' A=>Hq fuel _ c w' A.2)<|h.2 i hi⟩
theorem VY {i:Nat} {G:Oper} {v:Value} (hi:ops[i]? =some G) (ak:∀ (j:Nat) (o:Oper) cs b,ops[j]? =some o→o.op≠.select cs b)
 (an:∀ c a w,Q (.panic c) (a.put G.dst v) w→Q (.panic c) a w) (ay:∀ o,ops[r]? =some o→∃ x∈o.after,jS md x=true∧x.on=i) (aq:i≠r):
 ∀ (fuel:Nat) (aY:Array Bool) (a:Act) (w:World),
   (∀ j C,ops[j]? =some C→j≠i→aY.getD j true =false→(∀ x∈C.after,jS md x=true→x.on≠i)→G.apart ops C=true)→
   i∈jv md ops aY→YieldsIf P ops S G v a→S w→aY.getD r false =false→
   ot P md ops Q S r fuel (aY.setIfInBounds i true) (a.put G.dst v) w→ot P md ops Q S r (fuel+1) aY a w:=by
 intro fuel
 induction fuel with
 | zero=>
   intro aY a w _ E V I _ H
   refine ⟨fun h=>(by rw [h] at E; cases E),fun j J=> ?_⟩
   by_cases A:j=i
   · subst A; exact V.wpOp hi I ⟨fun _=>I,H⟩
   · have :=ready_mono J A
     rw [H.1] at this
     cases this
 | succ fuel az=>
   intro aY a w ac E V I ah H
   refine ⟨fun h=>(by rw [h] at E; cases E),fun j J=> ?_⟩
   by_cases A:j=i
   · subst A; exact V.wpOp hi I ⟨fun _=>I,H⟩
   · have h1:=H.2 j<|ready_mono J A
     obtain ⟨ag,C,O,ao⟩:=mem_ready.1 J
     have aj:∀ x∈C.after,jS md x=true→x.on≠i:=fun x aa Z heq=>by
      have h1:=ao x aa Z
      have ab:=(mem_ready.1 E).1
      rw [heq] at h1
      rcases ig i aY.size with Y | Y
      · simp [Y] at ab h1; rw [ab] at h1; cases h1
      · simp [o8 Y] at h1
     have ae:j≠r:=by
      rintro rfl
      obtain ⟨x,aa,Z,ax⟩:=ay C O
      exact aj x aa Z ax
     have av:(aY.setIfInBounds j true).getD r false =false :=by rw [getD_set_ne false ae]; exact ah
     have ai:((aY.setIfInBounds i true).setIfInBounds j true).getD r false =false :=by rw [getD_set_ne false ae,getD_set_ne false aq]; exact ah
     have h2:=wpOp_putIf O (ac j C O A ag aj) (fun cs b=>ak i G cs b hi) (fun cs b=>ak j C cs b O) an V h1
     have ap:∀ k ok,ops[k]? =some ok→k≠i→(aY.setIfInBounds j true).getD k true =false→
      (∀ x∈ok.after,jS md x=true→x.on≠i)→G.apart ops ok=true :=fun k ok hk au al aw=>by
      refine ac k ok hk au ?_ aw
      by_cases ad:j=k
      · subst ad; exact ag
      · rw [getD_set_ne true ad] at al; exact al
     refine wpOp_mono (fun am w' h3=>⟨fun _=>h3.2.1 ai,az (aY.setIfInBounds j true) am w' ap (ready_mono E<|Ne.symm A) h3.1 (h3.2.1 ai) av ?_⟩) h2
     rw [A6 _ _ A]
     exact h3.2.2
end
section
variable {P:Program} {N:Fm} {ops:Array Oper} {Q:Exit→(Nat→Value)→World→Prop} {σ:Nat→Value} {w:World} {S:World→Prop} {r fuel:Nat} {aY:Array Bool}
 {d':Option Nat} {d:Nat} {op:Op} {ty:TypeId} {pos :String} {af:Array Edge} {v:Value}
def gx (P:Program) (N:Fm) (ops:Array Oper) (Q:Exit→(Nat→Value)→World→Prop) (S:World→Prop) (r fuel:Nat) (aY:Array Bool) (σ:Nat→Value) (w:World):Prop :=
 ot P .any ops (lift N Q) S r fuel aY (act N σ) w
theorem eF {id:Nat} {l:List Oper} (S:World→Prop) (r:Nat) (c:rz N.r l=true) (hm:P.follows .mixedOrders=true) (A:S w.drew) (h:gx P N l.toArray Q S r l.length (xe l.length false) σ w.drew):di P N (.region id l.toArray true) Q σ w:=by
 exact B4 c hm<|Hq _ _ _ _<|by rw [nP]; exact h
def Ey (F:List Nat) (ops:Array Oper) (aY:Array Bool) (r i:Nat):Bool:=
 j7 F ops aY i && !(aY.getD r false) && i !=r && (match ops[r]? with | some o=>o.after.toList.any (fun x=>jS .any x && x.on==i) | none=>false)
theorem lq (i:Nat) (hi:ops[i]? =some ⟨some d,op,ty,pos,af,none⟩) (C:Ey N.F ops aY r i=true)
 (O:∀ w,S w→(execOp (ev N σ) ⟨some d,op,ty,pos,af,none⟩).run P w= .ok (.value v) w) (A:S w)
 (k:gx P N ops Q S r fuel (aY.setIfInBounds i true) (dq σ d v) w):gx P N ops Q S r (fuel+1) aY σ w:=by
 simp only [Ey,j7,gd,xk,bne_iff_ne,ne_eq] at C
 obtain ⟨⟨⟨⟨⟨⟨E,G⟩,hf3⟩,hfF⟩,hf4⟩,hf5⟩,hf6⟩:=C
 rw [hi] at hfF
 refine VY hi (Bl E) (fun c a w=>rk hfF c a w) (fun o I=> ?_) hf5 fuel aY _ w (Bk hi G) (by simpa using hf3) (.inl ⟨je _ rfl _,fun w A=> ?_⟩) A hf4 ?_ (v:=v)
 · rw [I] at hf6
   simp only [xy,gd,beq_iff_eq] at hf6
   obtain ⟨x,J,h1,h2⟩:=hf6
   exact ⟨x,tE.1 J,h1,h2⟩
 · rw [gN]; exact O w A
 · rw [jZ]; exact k
theorem Fb (i:Nat) (hi:ops[i]? =some ⟨d',op,ty,pos,af,none⟩) (C:lU ops aY i=true)
 (h:cJ P N ⟨d',op,ty,pos,af,none⟩ σ w (fun σ w=>((aY.setIfInBounds i true).getD r false =false→S w)∧gx P N ops Q S r fuel (aY.setIfInBounds i true) σ w)):gx P N ops Q S r (fuel+1) aY σ w:=by
 have c:jv .any ops aY= [i]:=by simpa [lU] using C
 refine ⟨fun A=>absurd (c ▸ A) (by simp),fun k hk=> ?_⟩
 rw [c] at hk
 obtain rfl :k=i:=by simpa using hk
 unfold wpOp
 simp only [hi]
 rw [if_pos (je _ rfl _)]
 exact .inl<|rQ h fun _ _ hk=>hk
theorem iL (i:Nat) (hi:ops[i]? =some ⟨d',op,ty,pos,af,none⟩) (c:lU ops aY i=true)
 (h:cJ P N ⟨d',op,ty,pos,af,none⟩ σ w (fun σ w=>S w∧gx P N ops Q S r fuel (aY.setIfInBounds i true) σ w)):gx P N ops Q S r (fuel+1) aY σ w:=
 Fb i hi c (Ht h fun _ _ hk=>⟨fun _=>hk.1,hk.2⟩)
theorem db (i:Nat) (hi:ops[i]? =some ⟨d',op,ty,pos,af,none⟩) (C:lU ops aY i=true) (A:(aY.setIfInBounds i true).getD r false =true)
 (h:cJ P N ⟨d',op,ty,pos,af,none⟩ σ w (fun σ w=>gx P N ops Q S r fuel (aY.setIfInBounds i true) σ w)):gx P N ops Q S r (fuel+1) aY σ w:=
 Fb i hi C (Ht h fun _ _ hk=>⟨fun c=>absurd (c.symm.trans A) dA,hk⟩)
theorem eE (A:(jv .any ops aY).isEmpty=true) (h:Q .normal σ w):gx P N ops Q S r fuel aY σ w:=by
 have c:jv .any ops aY= []:=by simpa using A
 cases fuel with
 | zero=>exact ⟨c,σ,rfl,h⟩
 | succ fuel=>exact ⟨fun _=>⟨σ,rfl,h⟩,by rw [c]; simp⟩
attribute [irreducible] gx
end
end Go.Hb
namespace Go.Hb
section
variable {P:Program} {md:qw} {ops:Array Oper} {Q:Exit→Act→World→Prop} {S:World→Prop} {r:Nat}
inductive pI (md:qw) (ops:Array Oper) (i:Nat):Nat→Prop
 | one {r o e} :ops[r]? =some o→e∈o.after→jS md e=true→e.on=i→pI md ops i r
 | more {r o e} :ops[r]? =some o→e∈o.after→jS md e=true→pI md ops i e.on→pI md ops i r
def qF (md:qw) (ops:Array Oper) (aY:Array Bool):Prop := ∀ (j:Nat) (o:Oper),ops[j]? =some o→aY.getD j false =true→∀ e∈o.after,jS md e=true→aY.getD e.on false =true
theorem EF {aY:Array Bool} {j k:Nat} (h:aY.getD k false =true):(aY.setIfInBounds j true).getD k false =true :=by
 by_cases e:j=k
 · subst e
   by_cases c:j < aY.size
   · simp [c]
   · simp [c] at h
 · rw [getD_set_ne false e]; exact h
theorem qF.set {aY:Array Bool} {j:Nat} (h:qF md ops aY) (G:j∈jv md ops aY):qF md ops (aY.setIfInBounds j true):=by
 intro k o hk C e he A
 obtain ⟨_,J,I,E⟩:=mem_ready.1 G
 by_cases c:j=k
 · subst c
   rw [I] at hk; cases hk
   exact EF<|E e he A
 · rw [getD_set_ne false c] at C
   exact EF<|h k o hk C e he A
theorem pI.aY {aY:Array Bool} {i r:Nat} (hd:pI md ops i r) (C:qF md ops aY) (c:∀ o,ops[r]? =some o→∀ e∈o.after,jS md e=true→aY.getD e.on false =true):aY.getD i false =true :=by
 induction hd with
 | one h1 h2 h3 h4=>rw [← h4]; exact c _ h1 _ h2 h3
 | more h1 h2 h3 _ G=>exact G fun o E e he A=>C _ o E (c _ h1 _ h2 h3) e he A
theorem VX {i:Nat} {E:Oper} {v:Value} (hi:ops[i]? =some E) (al:∀ (j:Nat) (o:Oper) cs b,ops[j]? =some o→o.op≠.select cs b)
 (ao:∀ c a w,Q (.panic c) (a.put E.dst v) w→Q (.panic c) a w) (hd:pI md ops i r) (au:i≠r):
 ∀ (fuel:Nat) (aY:Array Bool) (a:Act) (w:World),qF md ops aY→
   (∀ j G,ops[j]? =some G→j≠i→aY.getD j true =false→(∀ x∈G.after,jS md x=true→x.on≠i)→E.apart ops G=true)→
   i∈jv md ops aY→YieldsIf P ops S E v a→S w→aY.getD r false =false→
   ot P md ops Q S r fuel (aY.setIfInBounds i true) (a.put E.dst v) w→ot P md ops Q S r (fuel+1) aY a w:=by
 intro fuel
 induction fuel with
 | zero=>
   intro aY a w _ _ C V I _ H
   refine ⟨fun h=>(by rw [h] at C; cases C),fun j J=> ?_⟩
   by_cases A:j=i
   · subst A; exact V.wpOp hi I ⟨fun _=>I,H⟩
   · have :=ready_mono J A
     rw [H.1] at this
     cases this
 | succ fuel aA=>
   intro aY a w ab ac C V I ai H
   refine ⟨fun h=>(by rw [h] at C; cases C),fun j J=> ?_⟩
   by_cases A:j=i
   · subst A; exact V.wpOp hi I ⟨fun _=>I,H⟩
   · have h1:=H.2 j<|ready_mono J A
     obtain ⟨ah,G,O,aa⟩:=mem_ready.1 J
     have ad:aY.getD i false =false :=by
      have Z:=(mem_ready.1 C).1
      rcases ig i aY.size with Y | Y
      · simpa [Y] using Z
      · simp [Y] at Z
     have ay:∀ x∈G.after,jS md x=true→x.on≠i:=fun x az ap heq=>by
      have h1:=aa x az ap
      rw [heq,ad] at h1; cases h1
     have ag:j≠r:=by
      rintro rfl
      have :=hd.aY ab fun o ak=>by rw [O] at ak; cases ak; exact aa
      rw [ad] at this; cases this
     have aw:(aY.setIfInBounds j true).getD r false =false :=by rw [getD_set_ne false ag]; exact ai
     have aj:((aY.setIfInBounds i true).setIfInBounds j true).getD r false =false :=by rw [getD_set_ne false ag,getD_set_ne false au]; exact ai
     have h2:=wpOp_putIf O (ac j G O A ah ay) (fun cs b=>al i E cs b hi) (fun cs b=>al j G cs b O) ao V h1
     have aq:∀ k ok,ops[k]? =some ok→k≠i→(aY.setIfInBounds j true).getD k true =false→
      (∀ x∈ok.after,jS md x=true→x.on≠i)→E.apart ops ok=true :=fun k ok hk av am ax=>by
      refine ac k ok hk av ?_ ax
      by_cases ae:j=k
      · subst ae; exact ah
      · rw [getD_set_ne true ae] at am; exact am
     refine wpOp_mono (fun an w' h3=>⟨fun _=>h3.2.1 aj,aA (aY.setIfInBounds j true) an w' (ab.set J) aq (ready_mono C<|Ne.symm A) h3.1 (h3.2.1 aj) aw ?_⟩) h2
     rw [A6 _ _ A]
     exact h3.2.2
theorem VZ {i:Nat} {E:Oper} {v:Value} (hi:ops[i]? =some E) (ah:∀ (j:Nat) (o:Oper) cs b,ops[j]? =some o→o.op≠.select cs b)
 (ak:∀ c a w,Q (.panic c) (a.put E.dst v) w→Q (.panic c) a w) (Y:i≠r):
 ∀ (fuel:Nat) (aY:Array Bool) (a:Act) (w:World),
   (∀ j G,ops[j]? =some G→j≠i→aY.getD j true =false→(∀ x∈G.after,jS md x=true→x.on≠i)→E.apart ops G=true)→
   i∈jv md ops aY→YieldsIf P ops (fun _=>True) E v a→(aY.getD r false =false→S w)→
   ot P md ops Q S r fuel (aY.setIfInBounds i true) (a.put E.dst v) w→ot P md ops Q S r (fuel+1) aY a w:=by
 intro fuel
 induction fuel with
 | zero=>
   intro aY a w _ C J V H
   refine ⟨fun h=>(by rw [h] at C; cases C),fun j I=> ?_⟩
   by_cases A:j=i
   · subst A; exact J.wpOp hi trivial ⟨fun h=>V (by rw [getD_set_ne false Y] at h; exact h),H⟩
   · have :=ready_mono I A
     rw [H.1] at this
     cases this
 | succ fuel aw=>
   intro aY a w ac C J V H
   refine ⟨fun h=>(by rw [h] at C; cases C),fun j I=> ?_⟩
   by_cases A:j=i
   · subst A; exact J.wpOp hi trivial ⟨fun h=>V (by rw [getD_set_ne false Y] at h; exact h),H⟩
   · have h1:=H.2 j<|ready_mono I A
     obtain ⟨ag,G,Z,al⟩:=mem_ready.1 I
     have ao:aY.getD i false =false :=by
      have aa:=(mem_ready.1 C).1
      rcases ig i aY.size with O | O
      · simpa [O] using aa
      · simp [O] at aa
     have au:∀ x∈G.after,jS md x=true→x.on≠i:=fun x av am heq=>by
      have h1:=al x av am
      rw [heq,ao] at h1; cases h1
     have h2:=wpOp_putIf Z (ac j G Z A ag au) (fun cs b=>ah i E cs b hi) (fun cs b=>ah j G cs b Z) ak J h1
     have an:∀ k ok,ops[k]? =some ok→k≠i→(aY.setIfInBounds j true).getD k true =false→
      (∀ x∈ok.after,jS md x=true→x.on≠i)→E.apart ops ok=true :=fun k ok hk ap ai aq=>by
      refine ac k ok hk ap ?_ aq
      by_cases ae:j=k
      · subst ae; exact ag
      · rw [getD_set_ne true ae] at ai; exact ai
     have ab:(aY.setIfInBounds i true).setIfInBounds j true =(aY.setIfInBounds j true).setIfInBounds i true :=A6 _ _ fun e=>A e.symm
     have ad:(aY.setIfInBounds j true).getD r false =false→((aY.setIfInBounds i true).setIfInBounds j true).getD r false =false :=fun h=>by rw [ab,getD_set_ne false Y]; exact h
     refine wpOp_mono (fun aj w' h3=>⟨fun h=>h3.2.1 (ad h),aw (aY.setIfInBounds j true) aj w' an (ready_mono C<|Ne.symm A) h3.1 (fun h=>h3.2.1<|ad h) ?_⟩) h2
     rw [← ab]
     exact h3.2.2
end
section
variable {P:Program} {N:Fm} {ops:Array Oper} {Q:Exit→(Nat→Value)→World→Prop} {σ:Nat→Value} {w:World} {S:World→Prop} {r fuel:Nat} {aY:Array Bool}
 {d:Nat} {op:Op} {ty:TypeId} {pos :String} {af:Array Edge} {v:Value}
def uW (ops:Array Oper) (i:Nat):Nat→Nat→Bool
 | 0,_=>false
 | f+1,r=>match ops[r]? with | some o=>o.after.toList.any (fun e=>jS .any e && (e.on==i || uW ops i f e.on)) | none=>false
theorem NP {i:Nat} :∀ (f r:Nat),uW ops i f r=true→pI .any ops i r:=by
 intro f
 induction f with
 | zero=>intro r h; cases h
 | succ f C=>
   intro r h
   rw [uW] at h
   split at h
   · rename_i o A
     simp only [xy,gd,tG,beq_iff_eq] at h
     obtain ⟨e,he,c,h⟩:=h
     rcases h with h | h
     · exact .one A (tE.1 he) c h
     · exact .more A (tE.1 he) c<|C _ h
   · cases h
def yx (ops:Array Oper) (aY:Array Bool):Bool:=(fD ops.size).all fun j=> !aY.getD j false || match ops[j]? with | some o=>o.after.toList.all (fun e=> !jS .any e || aY.getD e.on false) | none=>true
theorem Mz (h:yx ops aY=true):qF .any ops aY:=by
 intro j o c C e he A
 unfold yx at h
 rw [jT] at h
 have h1:=h j<|mW.2 (cY.1 c).1
 rw [C,c] at h1
 simp only [Bool.not_true,Bool.false_or,jT,tG,xk] at h1
 rcases h1 e (tE.2 he) with h2 | h2
 · rw [A] at h2; cases h2
 · exact h2
def za (F:List Nat) (ops:Array Oper) (aY:Array Bool) (r i:Nat):Bool:=j7 F ops aY i && !(aY.getD r false) && i !=r && yx ops aY && uW ops i ops.size r
def vu (F:List Nat) (ops:Array Oper) (aY:Array Bool) (r i:Nat):Bool:=j7 F ops aY i && i !=r
theorem jq (i:Nat) (hi:ops[i]? =some ⟨some d,op,ty,pos,af,none⟩) (C:za N.F ops aY r i=true)
 (I:∀ w,S w→(execOp (ev N σ) ⟨some d,op,ty,pos,af,none⟩).run P w= .ok (.value v) w) (A:S w)
 (k:gx P N ops Q S r fuel (aY.setIfInBounds i true) (dq σ d v) w):gx P N ops Q S r (fuel+1) aY σ w:=by
 simp only [za,j7,gd,xk,bne_iff_ne,ne_eq] at C
 obtain ⟨⟨⟨⟨⟨⟨⟨E,G⟩,hf3⟩,hfF⟩,hf4⟩,hf5⟩,hf6⟩,hf7⟩:=C
 rw [hi] at hfF
 unfold gx at*
 refine VX hi (Bl E) (fun c a w=>rk hfF c a w) (NP _ _ hf7) hf5 fuel aY _ w (Mz hf6) (Bk hi G) (by simpa using hf3) (.inl ⟨je _ rfl _,fun w A=> ?_⟩) A hf4 ?_ (v:=v)
 · rw [gN]; exact I w A
 · rw [jZ]; exact k
theorem cy (i:Nat) (hi:ops[i]? =some ⟨some d,op,ty,pos,af,none⟩) (A:vu N.F ops aY r i=true)
 (I:∀ w,(execOp (ev N σ) ⟨some d,op,ty,pos,af,none⟩).run P w= .ok (.value v) w) (C:aY.getD r false =false→S w)
 (k:gx P N ops Q S r fuel (aY.setIfInBounds i true) (dq σ d v) w):gx P N ops Q S r (fuel+1) aY σ w:=by
 simp only [vu,j7,gd,bne_iff_ne,ne_eq] at A
 obtain ⟨⟨⟨⟨E,G⟩,hf3⟩,hfF⟩,hf5⟩:=A
 rw [hi] at hfF
 unfold gx at*
 refine VZ hi (Bl E) (fun c a w=>rk hfF c a w) hf5 fuel aY _ w (Bk hi G) (by simpa using hf3) (.inl ⟨je _ rfl _,fun w _=> ?_⟩) C ?_ (v:=v)
 · rw [gN]; exact I w
 · rw [jZ]; exact k
end
end Go.Hb
namespace Go.Hb
def He:Nat→Nat→List UInt8
 | 0,n=> [jy n]
 | f+1,n=>if n < 128 then [jy n] else jy (n % 128 +128)::He f (n / 128)
def Vr (n:Nat):List UInt8:=He n n
def frame:List (List UInt8)→List UInt8
 | []=> []
 | r::l=>Vr r.length++(r++frame l)
theorem kT {α:Type} (l:List α) (i:Nat) (d:α) (h:i < l.length):l.take (i+1)=l.take i++ [l.getD i d]:=by
 rw [List.take_succ_eq_append_getElem h]; simp [cM,h]
end Go.Hb
namespace Go.Hb
def U8 (l:List UInt8):List Value:=l.map fun b=>ff .u8 b.toNat
theorem uq (l:List UInt8):(U8 l).length=l.length:=by simp [U8]
theorem uo (a b:List UInt8):U8 (a++b)=U8 a++U8 b:=by simp [U8]
theorem Je (l:List UInt8):(U8 l).all et=true :=by
 rw [jT]
 intro u hu
 simp only [U8,gK] at hu
 obtain ⟨b,_,rfl⟩:=hu
 rfl
def uC (P:Program) (t e u:TypeId):Bool:=
 fZ P t e 1 1 && (match P.underlying e with | some (.int .u8)=>true | _=>false) && (match P.underlying u with | some .string=>true | _=>false) &&
  (match P.info? e with | some i=>(match i.zero with | some (.int .u8 0)=>true | _=>false) | none=>false)
theorem Kj {P:Program} {t e u:TypeId} (h:uC P t e u=true):
 fZ P t e 1 1=true∧P.underlying e=some (.int .u8)∧P.underlying u=some .string∧∃ i,P.info? e=some i∧i.zero=some (.int .u8 0):=by
 simp only [uC,gd] at h
 obtain ⟨⟨⟨h1,h2⟩,h3⟩,h4⟩:=h
 refine ⟨h1,?_,?_,?_⟩
 · split at h2
   · rename_i h; exact h
   · cases h2
 · split at h3
   · rename_i h; exact h
   · cases h3
 · split at h4
   · rename_i i hi
     split at h4
     · rename_i h; exact ⟨i,hi,h⟩
     · cases h4
   · cases h4
section
variable {P:Program} {N:Fm} {σ:Nat→Value} {w:World} {dst:Option Nat} {ty:TypeId} {pos :String} {af:Array Edge} {g:Option (Nat×Bool)} {x y z:Operand} {K:(Nat→Value)→World→Prop}
theorem foldl_push (l:List UInt8) (r:ByteArray):(l.map fun b=>(b.toNat:Int)).foldl (fun r n=>r.push<|jy n.toNat) r=⟨r.data++l.toArray⟩:=by
 induction l generalizing r with
 | nil=>simp
 | cons b l c=>
   simp only [nM,r5]
   rw [c]
   apply ByteArray.ext
   simp [ByteArray.push]
theorem yA {t e u n c:Nat} {a:Option Addr} {l:List UInt8} (h:uC P t e u=true) (O:ev N σ x= .slice a n c) (A:aG w.heap a (U8 l)) (C:l.length=n):
 (execOp (ev N σ) ⟨dst,.convert t u x,ty,pos,af,g⟩).run P w= .ok (.value<|str l) w:=by
 obtain ⟨h1,h2,h3,_⟩:=Kj h
 obtain ⟨hu,_⟩:=o3 h1
 have G:(HR<|.slice a n c).run P w= .ok (str l) w:=by
  by_cases he:l= []
  · subst he
    cases a with
    | none=>simp [HR,str]; rfl
    | some a=>
      subst C
      have :=run_bytesToString (P:=P) w a 0 c []<|by simp [loadCells,loadCellsFrom]
      exact this.trans aa
  · have E:=A.ok<|by simpa [U8] using he
    have J:(loadCells ⟨bk a,fo a,none⟩ n).run P w= .ok ((l.map fun b=>(b.toNat:Int)).map<|ff .u8).toArray w:=by
     subst C
     have :=run_loadCells_list (P:=P) w ⟨bk a,fo a,none⟩ (U8 l) fun j v I=>by
      rw [k4,mo]
      exact A.aM j v I
     rw [uq] at this
     rw [this]
     simp [U8]
    rw [E,run_bytesToString w _ n c _ J,foldl_push]
    simp [str,ByteArray.empty,ByteArray.emptyWithCapacity]
    rfl
 simp [execOp,O,run_convert_bytes_string w t u e a n c hu h2 h3,G]
theorem Vy {at_:Array TypeId} {v:Value} {a:Option Addr} {n c:Nat} (A:ev N σ x= .slice a n c) (h:a=none∨c≠0):
 (execOp (ev N σ) ⟨dst,.call ⟨.builtin .unsafeSliceData,#[x],at_⟩,ty,pos,af,g⟩).run P w= .ok (.value<|.pointer a) w:=by
 have _:=v
 have :(Builtin.unsafeSliceData_ at_ ty #[.slice a n c]).run P w= .ok (.pointer a) w:=by
  cases a with
  | none=>exact Lib.run_unsafeSliceData_nil w at_ ty n c
  | some a=>exact Lib.run_unsafeSliceData_row w at_ ty a n c<|h.resolve_left<|by simp
 simp [execOp,resolve,invoke,builtin,A,this]
def ptrTo (P:Program) (A e:TypeId):Bool:=match P.underlying A with | some (.pointer c)=>c==e && P.cellsOf e==1 | _=>false
theorem Vz {G it e B n c:Nat} {a:Option Addr} {l:List UInt8} {xs:List Value} (hp:ptrTo P G e=true) (O:ev N σ x= .pointer a) (V:ev N σ y= .int .i64 n) (E:w.ownsRow B e 1 (.slice a n c) n xs)
 (al:xs=U8 l) (am:n≤9223372036854775807)
 (k:∀ w',Md (fun k=>(bD a n c).ownBlock=some k) w w'→w'.heap.size=w.heap.size→K (eW σ dst<|str l) w'):
 cJ P N ⟨dst,.call ⟨.builtin .unsafeString,#[x,y],#[G,it]⟩,ty,pos,af,g⟩ σ w K:=by
 subst al
 have A:l.length=n:=by have :=E.1; simpa [U8] using this
 unfold ptrTo at hp
 split at hp
 case h_2=>cases hp
 rename_i I hu
 simp only [gd,beq_iff_eq] at hp
 obtain ⟨rfl,Z⟩:=hp
 by_cases he:l= []
 · subst he
   obtain rfl :n=0:=A.symm
   refine kW (w':=w) (v:=str []) ?_<|k w (Md.refl _ _) aa
   simp [execOp,resolve,invoke,builtin,O,V,Lib.run_unsafeString_none]
   rfl
 · rcases E.2 with ⟨h,Y⟩ | ⟨C,cap,cur,h,_,ae,hle,_,ak,an⟩
   · subst Y; simp only [List.length_eq_zero_iff] at A; exact absurd A he
   · simp only [l9,true_and] at h
     obtain ⟨rfl,rfl⟩:=h
     have aj:w.shape? C=some (I,cur.size):=by simp [Bw,ae]
     have ai:=Lib.run_unsafeString_row (P:=P) w G it ty I hu Z C cur.size aj l he (by rw [A,ak]; omega) ab (fun j u hu=>by
      obtain ⟨ad,cp,J,ac,_,hk,_⟩:=rA E
      simp only [l9,true_and] at J
      obtain ⟨rfl,rfl⟩:=J
      rw [k4,mo]
      exact ac.aM j _ (by simp [U8,hu]))
     refine kW (w':=w.freeze ⟨C,0,none⟩ l.length) (v:=str l) ?_ (k _ ⟨?_,?_,?_,?_⟩ ?_)
     · simp [execOp,resolve,invoke,builtin,O,V,← A,ai,str]
     · unfold tQ; split <;> rfl
     · unfold tQ; split <;> rfl
     · unfold tQ; split <;> simp
     · intro k hk ag
       have ah:k≠C:=fun e=>ag<|by simp [iz,e]
       unfold tQ
       split
       · rfl
       · simp only [Array.getElem?_modify]; rw [if_neg (fun e=>ah e.symm)]
     · unfold tQ; split <;> simp
def tz (P:Program) (A up e n:Nat):Bool:=
 (match P.underlying A with | some (.pointer c)=>c==e | _=>false) && (match P.underlying up with | some .unsafePointer=>true | _=>false) && P.cellsOf e==n && gh 0 n && (match P.info? e with | some i=>i.size==n | _=>false)
theorem Hh {P:Program} {c up e n:Nat} (h:tz P c up e n=true):P.underlying c=some (.pointer e)∧P.underlying up=some .unsafePointer∧P.cellsOf e=n∧0 < n∧∃ i,P.info? e=some i∧i.size=n:=by
 simp only [tz,gd] at h
 obtain ⟨⟨⟨⟨h1,h2⟩,h3⟩,h4⟩,h5⟩:=h
 refine ⟨?_,?_,by simpa using h3,qE (sc 0) (pC h4),?_⟩
 · split at h1
   · rename_i h; simp only [beq_iff_eq] at h1; rw [h,h1]
   · cases h1
 · split at h2
   · rename_i h; exact h
   · cases h2
 · split at h5
   · rename_i i hi; exact ⟨i,hi,by simpa using h5⟩
   · cases h5
theorem Vc {c up e n b:Nat} {L:List Value} (h:tz P c up e n=true) (I:ev N σ x= .pointer (some ⟨b,0,none⟩)) (A:w.heap[b]? =some (.cells L.toArray e (0,0))) (C:L.length=n):
 (execOp (ev N σ) ⟨dst,.convert c up x,ty,pos,af,g⟩).run P w= .ok (.value<|.pointer<|some ⟨b,0,none⟩) w:=by
 obtain ⟨h1,h2,h3,h4,i,hi,hs⟩:=Hh h
 have G:w.shape? b=some (e,L.length):=by simp [Bw,A]
 have E:¬n=0:=ab
 simp [execOp,I,convert,cT h1,cT h2,HT,HS,viewAt,G,cellsIn,C,sizeOf,gI hi,hs,E]
theorem PC {A up e n b:Nat} {L:List Value} (h:tz P A up e n=true) (J:ev N σ x= .pointer (some ⟨b,0,none⟩)) (C:w.heap[b]? =some (.cells L.toArray e (0,0))) (E:L.length=n):
 (execOp (ev N σ) ⟨dst,.convert up A x,ty,pos,af,g⟩).run P w= .ok (.value<|.pointer<|some ⟨b,0,none⟩) w:=by
 obtain ⟨h1,h2,h3,h4,i,hi,hs⟩:=Hh h
 have I:w.shape? b=some (e,L.length):=by simp [Bw,C]
 have c:¬n=0:=ab
 have G:liesAt P P.depth e (L.length / P.cellsOf e) 0 e 1=true :=by
  have hd:P.depth=(2 *(P.types.size+Made.depth)+1)+1:=rfl
  rw [hd]
  simp only [liesAt,tG]
  left
  rw [hd]
  simp [rowAt,h3,c,E,sameLayout,Nat.div_self h4]
 simp [execOp,J,convert,cT h1,cT h2,HT,HS,viewAt,I,variablesAt,sizeOf,gI hi,hs,c,G]
theorem RZ {t C e:TypeId} {a:Addr} (hu:P.underlying t=some (.pointer e)) (hs:(P.info? e).isSome=true) (c:ev N σ x= .pointer (some a)) (A:ev N σ y= .pointer (some a)):
 (execOp (ev N σ) ⟨dst,.binOp .neq t x y C,ty,pos,af,g⟩).run P w= .ok (.value<|.bool false) w:=by
 obtain ⟨i,hi⟩:=nS.1 hs
 have he:∀ d,(oz (d+1) t (.pointer<|some a)<|.pointer<|some a).run P w= .ok true w:=by
  intro d
  simp [oz,cT hu,sizeOf,gI hi,sameAddr]
 have h:(binOp .neq t (.pointer<|some a)<|.pointer<|some a).run P w= .ok (.bool false) w:=by
  have :=he 9999
  simp only [binOp]
  have h2:(Bg t (.pointer<|some a)<|.pointer<|some a).run P w= .ok true w:=this
  simp [h2]
 simp [execOp,c,A,eqGuard,h]
theorem MM {f:FuncId} {args:Array Operand} {c:Array TypeId} {v:Value} (C:∀ v w,(callFunc f #[v]).run P w= .ok (.value v) w) (A:args.toList.map (ev N σ)= [v]):
 (execOp (ev N σ) ⟨dst,.call ⟨.value (.func f),args,c⟩,ty,pos,af,g⟩).run P w= .ok (.value v) w:=by
 have :args.map (ev N σ)= #[v]:=by rw [← xh,lH,A]
 simp [execOp,resolve,ev,pf,invoke,this,C]
structure Bd (T e:TypeId) (w:World) (b:Nat) (buf:Value) (l:List UInt8):Prop where
 aE:∃ pa,w.heap[b]? =some (.cells [xu pa,buf].toArray T (0,0))∧(pa=none∨pa=some ⟨b,0,none⟩)
 own:w.ownsRow (b+1) e 1 buf l.length (U8 l)
 nil:buf= .slice none 0 0↔l= []
def BF (b:Nat) (c:Value) (k:Nat):Prop :=k=b∨c.ownBlock=some k
end
theorem Bd.lt {T e b:Nat} {w:World} {c:Value} {l:List UInt8} (h:Bd T e w b c l):b < w.heap.size:=let ⟨_,h,_⟩:=h.aE; (cY.1 h).1
theorem Bd.gZ {T e b:Nat} {w:World} {c:Value} {l:List UInt8} (h:Bd T e w b c l) {k:Nat} (hk:BF b c k):b≤k∧k < w.heap.size:=by
 rcases hk with rfl | hk
 · exact ⟨cw _,h.lt⟩
 · have :=h.own.lt k hk; omega
theorem Bd.md {T e b:Nat} {F:Nat→Prop} {w w':World} {c:Value} {l:List UInt8} (h:Bd T e w b c l) (hm:Md F w w') (A:∀ k,BF b c k→¬F k):Bd T e w' b c l:=by
 obtain ⟨⟨C,h1,h2⟩,h3,h4⟩:=h
 exact ⟨⟨C,hm.aE h1 (A b<|.inl aa),h2⟩,cz h3 hm (fun k hk=>A k<|.inr hk),h4⟩
end Go.Hb
namespace Go.Hb
def jQ (P:Program) (t:TypeId):Option (List (Nat×Nat)×List Value):=
 match P.info? t,P.underlying t with
 | some it,some (.struct fields)=>
   match it.zero,fields.toList.mapM (fun f=>(P.info? f.type).map fun i=>(f.offset,i.size)) with
   | some z,some pl=>some (pl,z.cells.toList)
   | _,_=>none
 | _,_=>none
def tg (pl:List (Nat×Nat)):List Value→List (Nat×Value)→Option (List Value)
 | c,[]=>some c
 | c,(i,v)::r=>match pl[i]? with
   | some (off,s)=>if (s==1 && v.oneCell' && gh off c.length)=true then tg pl (c.set off v) r else none
   | none=>none
theorem Ta {pl:List (Nat×Nat)} {c L:List Value} {ps:List (Nat×Value)} (h:tg pl c ps=some L):lI (pl.toArray[·]?) c.toArray ps=some L.toArray:=by
 induction ps generalizing c with
 | nil=>simp only [tg,fE] at h; subst h; rfl
 | cons p ps G=>
   obtain ⟨i,v⟩:=p
   simp only [tg] at h
   split at h
   · rename_i off s hs
     split at h
     · rename_i A
       simp only [gd,beq_iff_eq] at A
       obtain ⟨⟨rfl,h1⟩,ho⟩:=A
       have I:off < c.length:=pC ho
       have E:v.cells= #[v]:=oX h1
       have C:pl.toArray[i]? =some (off,1):=by simpa using hs
       simp only [lI,C,E]
       rw [if_neg (by simp; omega),← G h]
       simp
     · cases h
   · cases h
theorem lR {α:Type} {f:α→List Value} {m:Nat} (c:∀ a,(f a).length=m) (l:List α):(l.flatMap f).length=l.length*m:=by
 induction l with
 | nil=>simp
 | cons x l A=>simp [A,c,oF,Nat.add_comm]
theorem vf {α:Type} {f:α→List Value} {m:Nat} (A:∀ a,(f a).length=m) {l:List α} {j c:Nat} {a:α} (h:l[j]? =some a) (C:c < m):(l.flatMap f)[j*m+c]? =(f a)[c]? :=by
 induction l generalizing j with
 | nil=>simp at h
 | cons x l E=>
   cases j with
   | zero=>
     simp only [List.getElem?_cons_zero,fE] at h; subst h
     rw [BI,fK,jg,me (by rw [A]; exact C)]
   | succ j=>
     simp only [Iw] at h
     rw [jg,mR (by rw [A,oF]; omega),A,show (j+1)*m+c - m=j*m+c from by rw [oF]; omega]
     exact E h
theorem gY {α:Type} {f:α→List Value} {m:Nat} (c:∀ a,(f a).length=m) {h:Array Obj} {a:Option Addr} {l:List α} {i:Nat} {e:α} (C:aG h a (l.flatMap f)) (E:l[i]? =some e):∀ j,j < m→Hb.aM h (bk a) (fo a+i*m+j)=(f e)[j]? :=by
 intro j A
 have h1:=vf c E A
 have h2:j < (f e).length:=by rw [c]; exact A
 rw [bZ h2] at h1 ⊢
 rw [IQ]; exact C.aM _ _ h1
theorem yX {α:Type} {f:α→List Value} {m:Nat} (c:∀ a,(f a).length=m) (hm:0 < m) {l:List α} (h:0 < l.length):l.flatMap f≠[]:=by
 intro e
 have :=lR c l
 rw [e] at this
 have :0 < l.length*m:=Nat.mul_pos h hm
 simp at*; omega
theorem Ed {α:Type} {f:α→List Value} {m:Nat} (c:∀ a,(f a).length=m) {l:List α} {j:Nat} (x:α) (h:j < l.length):(l.set j x).flatMap f=(l.flatMap f).take (j*m)++f x++(l.flatMap f).drop (j*m+m):=by
 induction l generalizing j with
 | nil=>simp at h
 | cons y l A=>
   cases j with
   | zero=>
     simp only [List.set_cons_zero,jg,BI,oC,nO,fK]
     rw [Im,Ip (by rw [c]; exact cw _),c]; simp
   | succ j=>
     simp only [bU] at h
     rw [List.set_cons_succ,jg,A ab,jg,qD,Im,c,eN (l:=f y) (by rw [c,oF]; omega),Ip (l:=f y) (by rw [c,oF]; omega),
      show (j+1)*m - m=j*m from by rw [oF]; omega,show (j+1)*m+m - m=j*m+m from by rw [oF]; omega]
     simp
theorem yY {α:Type} {f:α→List Value} (c:∀ a,(f a).all et=true) (l:List α):(l.flatMap f).all et=true :=by
 simp only [List.all_flatMap,jT]; intro x _; exact jT.1<|c x
section
variable {P:Program} {N:Fm} {σ:Nat→Value} {w:World} {dst:Option Nat} {ty:TypeId} {pos :String} {af:Array Edge} {g:Option (Nat×Bool)} {x y z:Operand} {K:(Nat→Value)→World→Prop}
theorem c7 {t:TypeId} {parts:Array (Nat×Operand)} {pl:List (Nat×Nat)} {c L:List Value} {ps:List (Nat×Value)} (h:jQ P t=some (pl,c)) (hp:parts.toList.map (fun p=>(p.1,ev N σ p.2))=ps) (A:tg pl c ps=some L):
 (execOp (ev N σ) ⟨dst,.build t parts,ty,pos,af,g⟩).run P w= .ok (.value<|.agg L.toArray) w:=by
 unfold jQ at h
 split at h
 · rename_i it fields hi hu
   split at h
   · rename_i z G E hm
     simp only [fE,uh] at h
     obtain ⟨rfl,rfl⟩:=h
     have C:P.built t (parts.map fun p=>(p.1,ev N σ p.2)).toList=some L.toArray:=by
      have :=Ta A
      simp only [xf] at this
      simp only [Program.built,hi,hu,E,hm,lH,hp]; exact this
     simp [execOp,run_build w t _ _ C]
   · cases h
 · cases h
end
end Go.Hb
namespace Go.Hb
section
variable {P:Program} {N:Fm} {σ:Nat→Value} {w:World} {dst:Option Nat} {ty:TypeId} {pos :String} {af:Array Edge} {g:Option (Nat×Bool)} {x y z:Operand} {K:(Nat→Value)→World→Prop}
theorem Ry {zv:Value} (h1:zv.oneCell'=true) (n:Nat):madeCells zv.cells n=(iY n zv).toArray:=by
 rw [oX h1]
 apply Array.ext
 · simp [madeCells]
 · intro i h2 h3
   simp [madeCells,Nat.mod_one]
theorem RU {t e bytes n:Nat} {I G:IntKind} {zv:Value} (Y:fZ P t e 1 bytes=true) (c:zeroOf P e=some (some [zv])) (h1:zv.oneCell'=true) (Z:ev N σ x= .int I n) (ac:ev N σ y= .int G n) (ae:bytes*n≤281474976710656) (A:n≤maxLen)
 (k:∀ b w',b=w.heap.size→Nw w w'→(∀ B,B≤b→w'.ownsRow B e 1 (.slice (some ⟨b,0,none⟩) n n) n (iY n zv))→K (eW σ dst<|.slice (some ⟨b,0,none⟩) n n) w'):cJ P N ⟨dst,.makeSlice t x y,ty,pos,af,g⟩ σ w K:=by
 obtain ⟨hu,i,J,hi,E,hs,V,ah,ag⟩:=o3 Y
 have ad:J.cells= #[zv]:=by
  unfold zeroOf at c
  simp only [hi,E,jU,fE] at c
  exact xh.1<|by simpa using c
 refine l3 (v:=fun b=> .slice (some ⟨b,0,none⟩) n n) (ob:= .cells (iY n zv).toArray e (0,0)) ?_ fun b w' h2 h3 h4=>k b w' h2 h3 fun B O=>⟨by simp,.inr ⟨b,n,_,aa,O,h4,cw _,A,by simp,by simp⟩⟩
 have C:=run_make (P:=P) w t e i J hu hi E I G n n ab (Int.le_refl _) (by rw [V,← Int.natCast_mul]; omega)<|by unfold maxLen at A; omega
 rw [ad,hs,Nat.mul_one,jx,show madeCells #[zv] n=(iY n zv).toArray by rw [← Ry h1,oX h1]] at C
 simp [execOp,Z,ac,C]
end
end Go.Hb
namespace Go.Hb
section
variable {P:Program} {N:Fm} {σ:Nat→Value} {w:World} {dst:Option Nat} {ty:TypeId} {pos :String} {af:Array Edge} {g:Option (Nat×Bool)} {x y z:Operand}
theorem Ml {t n len cap i:Nat} {a:Option Addr} {k I:IntKind} (he:gC P t=some n) (C:ev N σ x= .slice a len cap) (E:ev N σ y= .int k (i:Nat)) (G:ev N σ z= .int I (i:Nat)) (h:i≤cap):
 (execOp (ev N σ) ⟨dst,.slice t x none (some y) (some z),ty,pos,af,g⟩).run P w= .ok (.value<|.slice a i i) w:=by
 have c:(0:Int)≤(i:Int):=ab
 unfold gC at he
 cases hd:P.underlying t with
 | none=>rw [hd] at he; cases he
 | some d=>
   rw [hd] at he
   cases d <;> first | (cases he; done) | skip
   rename_i e
   cases hi':P.info? e with
   | none=>simp [hi'] at he
   | some j=>
     have A:(if i=0 then a else a.map (·.add 0))=a:=by
      split
      · rfl
      · cases a <;> simp [xm]
     simp only [execOp,qu,tJ,C,E,G,jU,Option.map_none,nI,qv,asIntOf]
     simp [cT hd,gI hi',sizeOf,c,A]
     intro J; omega
end
end Go.Hb
namespace Go.Hb
def pJ (h:Array Obj) (b:Nat) (kvs:List (Value×Value)):Prop := ∃ es clock,h[b]? =some (.map es clock)∧es.toList.map (fun e=>(e.key,e.val))=kvs
theorem pJ.md {F:Nat→Prop} {w w':World} {b:Nat} {kvs:List (Value×Value)} (h:pJ w.heap b kvs) (hm:Md F w w') (A:¬F b):pJ w'.heap b kvs:=
 let ⟨es,c,h1,h2⟩:=h; ⟨es,c,hm.aE h1 A,h2⟩
structure se (P:Program) (k:TypeId) (isK:Value→Prop):Prop where
 check:∀ em w v,isK v→(mN em 10000 k v).run P w= .ok () w
 find:∀ w x es,isK x→(∀ e∈es,isK e.key)→
  ((qs k x es).run P w= .ok none w∧∀ e∈es,e.key≠x)∨∃ j e,(qs k x es).run P w= .ok (some (j,e.val)) w∧es[j]? =some e∧e.key=x
theorem L4 {P:Program} {k:TypeId} {q:IntKind} {em:Bool} {n:Nat} {a:Int} (hk:P.underlying k=some (.int q)) (w:World):(mN em (n+1) k<|.int .i64 a).run P w= .ok () w:=by
 simp only [mN,l8,cT hk,l7,oA]
theorem C0 {P:Program} {k:TypeId} {em:Bool} {n:Nat} {a:List UInt8} (hk:P.underlying k=some .string) (w:World):(mN em (n+1) k<|str a).run P w= .ok () w:=by
 simp only [str,mN,l8,cT hk,l7,oA]
theorem SI {P:Program} {t:TypeId} {cs:Array Value} {o:Nat} {v:Value} {d:TypeDesc} (c:P.underlying t=some d) (hd:(match d with | .bool | .string=>true | _=>false)=true) (A:cs[o]? =some v) (w:World):(part t cs o).run P w= .ok v w:=by
 cases d <;> first | (cases hd; done) | simp [part,isAgg,cT c,A]
def zeroV (P:Program) (e:TypeId):Option Value:=(P.info? e).bind (·.zero)
theorem tB {P:Program} {e:TypeId} {z:Value} (h:zeroV P e=some z) (w:World):(zeroValue e).run P w= .ok z w:=by
 unfold zeroV at h
 simp only [Option.bind_eq_some_iff] at h
 obtain ⟨i,hi,c⟩:=h
 simp [zeroValue,gI hi,c]
section
variable {P:Program} {N:Fm} {σ:Nat→Value} {w:World} {dst:Option Nat} {ty:TypeId} {pos :String} {af:Array Edge} {g:Option (Nat×Bool)} {x y z:Operand} {K:(Nat→Value)→World→Prop}
variable {t k e:TypeId} {isK:Value→Prop} {b:Nat} {kvs:List (Value×Value)} {kx v:Value}
theorem yP {es:Array MapEntry} (h:es.toList.map (fun e=>(e.key,e.val))=kvs) (hk:∀ p∈kvs,isK p.1):∀ e∈es.toList,isK e.key:=fun e he=>hk (e.key,e.val)<|by rw [← h]; exact qB he
theorem run_getObj_map {es:Array MapEntry} {c:Nat} (A:w.heap[b]? =some (.map es c)):(getObj b).run P w= .ok (.map es c) w:=by
 simp [getObj,Sem.run,A]
theorem Sd {kvs:List (Value×Value)} (hn:(kvs.map fS).Nodup) {kx v c:Value} (h1:(kx,v)∈kvs) (h2:(kx,c)∈kvs):v=c:=by
 induction kvs with
 | nil=>simp at h1
 | cons p kvs A=>
   simp only [nM,xH] at hn
   rcases dR.1 h1 with h1 | h1
   · rcases dR.1 h2 with h2 | h2
     · rw [← h1] at h2; cases h2; rfl
     · rw [← h1] at hn; exact absurd (qB (f:=fS) h2) hn.1
   · rcases dR.1 h2 with h2 | h2
     · rw [← h2] at hn; exact absurd (qB (f:=fS) h1) hn.1
     · exact A hn.2 h1 h2
theorem Rk {ok:Bool} (O:P.underlying t=some (.map k e)) (C:se P k isK) (hm:pJ w.heap b kvs) (hk:∀ p∈kvs,isK p.1) (Y:ev N σ x= .map (some b)) (Z:ev N σ y=kx) (hi:isK kx) (hn:(kvs.map fS).Nodup) (A:(kx,v)∈kvs):
 (execOp (ev N σ) ⟨dst,.lookup t x y ok,ty,pos,af,g⟩).run P w= .ok (.value (if ok then .tuple #[v,.bool true] else v)) w:=by
 obtain ⟨es,c,J,he⟩:=hm
 rcases C.find w kx es.toList hi (yP he hk) with ⟨_,h2⟩ | ⟨j,E,h1,h2,h3⟩
 · rw [← he] at A
   obtain ⟨G,I,h4⟩:=gK.1 A
   cases h4
   exact absurd aa<|h2 G I
 · have V:(kx,E.val)∈kvs:=by rw [← he,← h3]; exact qB (f:=fun e:MapEntry=>(e.key,e.val))<|gB h2
   have :=Sd hn A V
   subst this
   cases ok <;> simp [execOp,H2,cT O,Y,Z,run_getObj_map J,C.check _ w kx hi,h1]
theorem Rl {ok:Bool} {zv:Value} (G:P.underlying t=some (.map k e)) (O:zeroV P e=some zv) (A:se P k isK) (hm:pJ w.heap b kvs) (hk:∀ p∈kvs,isK p.1) (I:ev N σ x= .map (some b)) (J:ev N σ y=kx) (hi:isK kx) (hn:∀ v,(kx,v)∉kvs):
 (execOp (ev N σ) ⟨dst,.lookup t x y ok,ty,pos,af,g⟩).run P w= .ok (.value (if ok then .tuple #[zv,.bool false] else zv)) w:=by
 obtain ⟨es,c,E,he⟩:=hm
 rcases A.find w kx es.toList hi (yP he hk) with ⟨h1,_⟩ | ⟨j,C,h1,h2,h3⟩
 · cases ok <;> simp [execOp,H2,cT G,I,J,run_getObj_map E,A.check _ w kx hi,h1,tB O]
 · exact absurd (by rw [← he,← h3]; exact qB (f:=fun e:MapEntry=>(e.key,e.val))<|gB h2)<|hn C.val
end
end Go.Hb
namespace Go.Hb
def tag (w:World) (k:Nat):Nat:=match w.heap[k]? with | some (.cells _ t _)=>t+2 | some (.map _ _)=>1 | _=>0
theorem dO {w:World} {k t:Nat} {cs:Array Value} {z:Nat×Nat} (h:w.heap[k]? =some (.cells cs t z)):tag w k=t+2:=by unfold tag; rw [h]
theorem wq {w:World} {k:Nat} {kvs:List (Value×Value)} (h:pJ w.heap k kvs):tag w k=1:=by
 obtain ⟨es,c,h,_⟩:=h
 unfold tag; rw [h]
theorem GY {w:World} {B e size n k:Nat} {v:Value} {xs:List Value} (h:w.ownsRow B e size v n xs) (hk:v.ownBlock=some k):tag w k=e+2:=by
 rcases h.2 with ⟨rfl,_⟩ | ⟨g,cap,cur,rfl,_,c,_⟩
 · simp [iz] at hk
 · simp only [iz,fE] at hk; subst hk
   exact dO c
def TF (w:World) (L:List Nat) (F:Nat→Prop):Prop := ∀ k,F k→L.contains (tag w k)=true
theorem TF.no {w:World} {L:List Nat} {F:Nat→Prop} (h:TF w L F) {k t:Nat} (A:tag w k=t) (c:L.contains t=false):¬F k:=fun hk=>by
 have :=h k hk
 rw [A,c] at this; cases this
theorem TF.or {w:World} {L:List Nat} {F G:Nat→Prop} (h:TF w L F) (c:TF w L G):TF w L (fun k=>F k∨G k):=fun k hk=>by
 rcases hk with hk | hk
 · exact h k hk
 · exact c k hk
theorem TF.eq {w:World} {L:List Nat} {b t:Nat} (A:tag w b=t) (c:L.contains t=true):TF w L (fun k=>k=b):=fun k hk=>by
 subst hk; rw [A]; exact c
theorem TF.own {w:World} {L:List Nat} {B e size n:Nat} {v:Value} {xs:List Value} (h:w.ownsRow B e size v n xs) (c:L.contains (e+2)=true):TF w L (fun k=>v.ownBlock=some k):=fun k hk=>by
 rw [GY h hk]; exact c
theorem Md.jH {F:Nat→Prop} {w w':World} {L:List Nat} {k t:Nat} {cs:Array Value} {z:Nat×Nat} (hm:Md F w w') (c:TF w L F) (h:w.heap[k]? =some (.cells cs t z)) (A:L.contains (t+2)=false):w'.heap[k]? =some (.cells cs t z):=hm.aE h<|c.no (dO h) A
theorem c5 {F:Nat→Prop} {w w':World} {L:List Nat} {B e size n:Nat} {v:Value} {xs:List Value} (h:w.ownsRow B e size v n xs) (hm:Md F w w') (c:TF w L F) (A:L.contains (e+2)=false):w'.ownsRow B e size v n xs:=cz h hm fun _ hk=>c.no (GY h hk) A
theorem Md.tag {F:Nat→Prop} {w w':World} (hm:Md F w w') {k:Nat} (hk:k < w.heap.size) (c:¬F k):Hb.tag w' k=Hb.tag w k:=by
 unfold Hb.tag; rw [hm.gp k hk c]
end Go.Hb
end
section
namespace Go.Hb
open Go.ChangeShapes Go.WideShapes Go.ChangeAt
theorem Wk.frame {w w':World} (h:Wk w w') (may:MemPlace→Prop):w.keptBut w' may:=by
 refine ⟨h.os,h.output,fun i hi=> ?_⟩
 rw [h.gp i hi id]
 split <;> simp_all
theorem Wk.same {w w':World} (h:Wk w w') {p:MemPlace} (hp:p.block < w.heap.size):w.sameAt w' p:=by
 cases p with
 | cell b o=>exact World.cell?_of_block (w:=w)<|h.gp b hp id
 | map b=>exact h.gp b hp id
section
variable {H:Type} {enc:TypeId×Value→H} {P:Program} {W W':World}
theorem G3 (E:laidOutB P=true) (hk:Wk W W'):∀ (A:List TypeId) (vs:List Value) (C:List (DataW H)) (ps:List MemPlace),A.all (fun t=>P.readableRec t && decide (t < P.types.size))=true→(∀ x∈ps,x.block < W.heap.size)→
 HU enc P W 0 (fun _=>true) true A vs C ps→HU enc P W' 0 (fun b=>decide (b < W.heap.size)) true A vs C ps
 | [],[],[],_,_,_,h=>h
 | t::A,v::vs,d::C,_,hp,hlt,⟨p,q,h1,h2,he⟩=>by
   subst he
   rw [xx,gd,gd] at hp
   exact ⟨p,q,WideElems.Trod_stays E hp.1.1 (of_decide_eq_true hp.1.2) h1 (fun x c=>hk.same<|hlt x<|xG _ c) (fun x c=>decide_eq_true<|hlt x<|xG _ c),
    G3 E hk A vs C q hp.2 (fun x c=>hlt x<|List.mem_append_right _ c) h2,rfl⟩
 | [],_::_,_,_,_,_,h=>h.elim
 | [],[],_::_,_,_,_,h=>h.elim
 | _::_,[],_,_,_,_,h=>h.elim
 | _::_,_::_,[],_,_,_,h=>h.elim
theorem Tz {f:FuncId} {fn:Func} {s:ChangeSpec} {args:Array Value} {c gs:List (DataW H)} {before:List MemPlace} {tb:TypeId} (C:DataW.Whole enc P fn.params.toList s.vars false W args.toList c gs before) (G:s.vars= [])
 (hs:s.fn H (c++gs)= {results:= [.lit (.bool true)],args:=c}) (Y:fn.resultTypes= #[tb]) (J:P.underlying tb=some .bool) (O:laidOutB P=true) (hp:fn.params.toList.all (fun t=>P.readableRec t && decide (t < P.types.size))=true)
 (h:ba P f args W (fun v w'=>v= .bool true∧Wk W w')):Calls P f args W fun e W'=> ∃ v,e= .returned v∧s.post enc P fn false true false false W args v W':=by
 refine ju h fun e W' ⟨v,he,Z,hk⟩=>⟨v,he,?_⟩
 subst Z
 have E:=C
 obtain ⟨p,q,I,A,rfl,_,_⟩:=C
 rw [G] at A
 obtain ⟨rfl,rfl⟩:=trodVars_none A
 have V:∀ x∈p,x.block < W.heap.size:=fun x aa=>E.lt x<|by simpa using aa
 refine ⟨_,_,_,[],p,[],E,?_,?_,?_,hk.frame _,fun h=>by cases h⟩
 · rw [hs,Y]
   exact trodAll_cons_mk (shut_bool J _) trodAll_mk0
 · rw [hs]
   exact G3 O hk _ _ _ _ hp V I
 · rw [hs,G]; rfl
end
end Go.Hb
namespace Go.Hb
open Go.Proofs.YtchkamdekbbgeaaGreatDoor
theorem Ki {H:Type} {l:List (DataW H)} (hk:Rows.uptoSmall H l=true):Rows.uptoBulkAll l≤1048576:=of_decide_eq_true hk
end Go.Hb
namespace Go.Hb
open Go.Proofs.YtchkamdekbbgeaaGreatDoor Go.ChangeShapes Go.WideShapes Go.ChangeAt
structure Jc (P:Program) (t:TypeId) (m:Nat) {X:Type} (R:World→List Value→X→Prop) (B:X→Nat):Prop where
 cells:P.cellsOf t=m
 op:∀ {H:Type} (enc:TypeId×Value→H) (W:World) (fuel:Nat) (cs:List Value) (d:DataW H) (p:List MemPlace),DataW.trod enc P W 0 (fun _=>true) true fuel t cs=some (d,p)→cs.length=m∧∃ x,R W cs x∧B x≤Rows.uptoBulk d
section
variable {P:Program} {t t0 t1 e:TypeId} {m m0 m1:Nat} {X X0 X1:Type} {R:World→List Value→X→Prop} {B:X→Nat} {R0:World→List Value→X0→Prop} {B0:X0→Nat} {R1:World→List Value→X1→Prop} {B1:X1→Nat}
theorem Aa (A:P.underlying t=some .string) (c:P.cellsOf t=1):Jc P t 1 (fun _ cs (x:List UInt8)=>cs= [str x]) (fun x=>x.length+1) where
 cells:=c
 op enc W fuel cs d p h:=by
  obtain ⟨s,rfl,C,hw⟩:=DataW.trod_string A h
  cases C
  exact ⟨aa,s.data.toList,aa,by simp [Rows.uptoBulk]⟩
end
end Go.Hb
end
namespace Go.Hb
theorem drop_cons {α:Type} {l:List α} {i:Nat} (d:α) (h:i < l.length):l.drop i=l.getD i d::l.drop (i+1):=by
 rw [List.drop_eq_getElem_cons h]; simp [cM,h]
theorem Ax {α:Type} {l:List α} {k i:Nat} (d:α) (hk:k≤i) (hi:i < l.length):(l.take<|i+1).drop k=(l.take i).drop k++ [l.getD i d]:=by
 rw [kT l i d hi,List.drop_append_of_le_length (by rw [dB]; omega)]
def p7 (b:UInt8):Bool:=b==32 || b==9
theorem Ez (b:UInt8):p7 b=decide (b.toNat=32∨b.toNat=9):=by
 unfold p7
 have h:∀ x:UInt8,(b==x)=decide (b.toNat=x.toNat):=fun x=>by
  by_cases c:b=x
  · subst c; simp
  · have :b.toNat≠x.toNat:=fun h=>c<|pE.1 h
    simp [c,this]
 rw [h,h]
 simp [Bool.decide_or]
def dC:List UInt8→List UInt8→List (List UInt8)
 | cur,[]=>if cur= [] then [] else [cur]
 | cur,b::r=>if p7 b then (if cur= [] then dC [] r else cur::dC [] r) else dC (cur++ [b]) r
theorem Pm:dC [] []= []:=by simp [dC]
theorem Pl {cur:List UInt8} (h:cur≠[]):dC cur []= [cur]:=by simp [dC,h]
theorem Pj {b:UInt8} {r:List UInt8} (h:p7 b=true):dC [] (b::r)=dC [] r:=by simp [dC,h]
theorem Pk {cur:List UInt8} {b:UInt8} {r:List UInt8} (h:p7 b=true) (c:cur≠[]):dC cur (b::r)=cur::dC [] r:=by simp [dC,h,c]
theorem Ef {cur:List UInt8} {b:UInt8} {r:List UInt8} (h:p7 b=false):dC cur (b::r)=dC (cur++ [b]) r:=by simp [dC,h]
theorem Ee:∀ (l cur x:List UInt8),x∈dC cur l→x≠[]∧x.length≤cur.length+l.length:=by
 intro l
 induction l with
 | nil=>
   intro cur x h
   unfold dC at h
   split at h
   · cases h
   · simp only [iX] at h; subst h; exact ⟨by assumption,by simp⟩
 | cons b r c=>
   intro cur x h
   unfold dC at h
   split at h
   · split at h
     · have :=c [] x h; simp only [bU,gz] at*; exact ⟨this.1,ab⟩
     · rcases dR.1 h with rfl | h
       · exact ⟨by assumption,by simp⟩
       · have :=c [] x h; simp only [bU,gz] at*; exact ⟨this.1,ab⟩
   · have :=c _ x h; simp only [bU,bK,gz] at*; exact ⟨this.1,ab⟩
theorem yZ:∀ (l cur:List UInt8),(dC cur l).length≤l.length+1:=by
 intro l
 induction l with
 | nil=>intro cur; unfold dC; split <;> simp
 | cons b r c=>
   intro cur
   unfold dC
   split
   · split
     · have :=c []; simp only [bU]; omega
     · have :=c []; simp only [bU]; omega
   · have :=c (cur++ [b]); simp only [bU]; omega
def jV (l:List UInt8) (i:Nat) (c:Int) (cur:List UInt8):Prop :=(c= -1∧cur= [])∨(∃ k:Nat,c=k∧k < i∧i≤l.length∧cur=(l.take i).drop k)
theorem jV.no {l:List UInt8} {i:Nat} :jV l i (-1) []:= .inl ⟨rfl,rfl⟩
theorem jV.neg {l cur:List UInt8} {i:Nat} {c:Int} (h:jV l i c cur) (A:c < 0):c= -1∧cur= []:=by
 rcases h with h | ⟨k,rfl,_⟩
 · exact h
 · omega
theorem jV.pos {l cur:List UInt8} {i:Nat} {c:Int} (h:jV l i c cur) (A:¬c < 0):(0≤c∧c < i)∧cur=(l.take i).drop c.toNat∧cur≠[]:=by
 rcases h with ⟨rfl,_⟩ | ⟨k,rfl,h1,h2,rfl⟩
 · omega
 · refine ⟨ab,by simp,fun e=> ?_⟩
   have :=congrArg mg e
   simp only [gy,dB,gz] at this
   omega
theorem jV.begin {l:List UInt8} {i:Nat} (hi:i < l.length):jV l (i+1) i [l.getD i 0]:=by
 refine .inr ⟨i,aa,ab,ab,?_⟩
 rw [Ax 0 (cw i) hi,kX (by rw [dB]; omega),nO]
theorem jV.more {l cur:List UInt8} {i:Nat} {c:Int} (h:jV l i c cur) (A:¬c < 0) (hi:i < l.length):jV l (i+1) c (cur++ [l.getD i 0]):=by
 rcases h with ⟨rfl,_⟩ | ⟨k,rfl,h1,h2,rfl⟩
 · omega
 · exact .inr ⟨k,aa,ab,ab,(Ax 0 ab hi).symm⟩
def jm (l:List UInt8):List UInt8:=if 0 < l.length∧l.getD (l.length - 1) 0=13 then l.take (l.length - 1) else l
theorem DD (l:List UInt8):(jm l).length≤l.length:=by unfold jm; split <;> simp
theorem Oe {l:List UInt8} (h:0 < l.length) (h1:l.getD (l.length - 1) 0=13):jm l=l.take (l.length - 1):=if_pos ⟨h,h1⟩
theorem Od {l:List UInt8} (h:¬(0 < l.length∧l.getD (l.length - 1) 0=13)):jm l=l:=if_neg h
theorem Fc {l:List UInt8} (h:0 < l.length):l.drop (l.length - 1)= [l.getD (l.length - 1) 0]:=by
 rw [drop_cons 0 ab,kX ab]
def e6:List UInt8→List UInt8→List (List UInt8)
 | cur,[]=>if cur= [] then [] else [jm cur]
 | cur,b::r=>if b=10 then jm cur::e6 [] r else e6 (cur++ [b]) r
theorem Ft:e6 [] []= []:=by simp [e6]
theorem Rp {cur:List UInt8} (h:cur≠[]):e6 cur []= [jm cur]:=by simp [e6,h]
theorem Rs (cur r:List UInt8):e6 cur (10::r)=jm cur::e6 [] r:=by simp [e6]
theorem Fs {cur:List UInt8} {b:UInt8} {r:List UInt8} (h:b≠10):e6 cur (b::r)=e6 (cur++ [b]) r:=by simp [e6,h]
theorem zB:∀ (l cur:List UInt8),(e6 cur l).length≤l.length+1:=by
 intro l
 induction l with
 | nil=>intro cur; unfold e6; split <;> simp
 | cons b r c=>
   intro cur
   unfold e6
   split
   · have :=c []; simp only [bU]; omega
   · have :=c (cur++ [b]); simp only [bU]; omega
theorem Rq (l:List UInt8):(e6 [] l).length≤l.length:=by
 cases l with
 | nil=>simp [e6]
 | cons b r=>
   unfold e6
   split
   · have :=zB r []
     have h2:∀ m:List UInt8,(e6 [] m).length≤m.length:=by
      intro m
      induction m with
      | nil=>simp [e6]
      | cons c m A=>
        unfold e6
        split
        · simp only [bU]; omega
        · have :=zB m ([]++ [c]); simp only [bU]; omega
     have :=h2 r
     simp only [bU]; omega
   · have :=zB r ([]++ [b]); simp only [bU]; omega
theorem Rr:∀ (l cur x:List UInt8),x∈e6 cur l→x.length≤cur.length+l.length:=by
 intro l
 induction l with
 | nil=>
   intro cur x h
   unfold e6 at h
   split at h
   · cases h
   · simp only [iX] at h; subst h; have :=DD cur; simp only [gz]; omega
 | cons b r c=>
   intro cur x h
   unfold e6 at h
   split at h
   · rcases dR.1 h with rfl | h
     · have :=DD cur; omega
     · have :=c [] x h; simp only [bU,gz] at*; omega
   · have :=c _ x h; simp only [bU,bK,gz] at*; omega
def eb (c:UInt8) (l:List UInt8):Int:=if l.idxOf c < l.length then (l.idxOf c:Int) else -1
theorem E5 {c:UInt8} {l:List UInt8} (h:eb c l < 0):¬l.idxOf c < l.length:=fun h1=>by unfold eb at h; rw [if_pos h1] at h; omega
theorem rj {c:UInt8} {l:List UInt8} (h:¬eb c l < 0):eb c l=l.idxOf c∧l.idxOf c < l.length:=by
 unfold eb at*
 by_cases h1:l.idxOf c < l.length
 · exact ⟨if_pos h1,h1⟩
 · rw [if_neg h1] at h; omega
def la (c:UInt8) (l:List UInt8):List UInt8:=if eb c l < 0 then l else l.take (l.idxOf c)
def mz (c:UInt8) (l:List UInt8):List UInt8:=if eb c l < 0 then [] else l.drop (l.idxOf c+1)
theorem Nf (c:UInt8) (l:List UInt8):(la c l).length≤l.length:=by unfold la; split <;> simp; omega
theorem Ni {c:UInt8} {l:List UInt8} (h:l≠[]):(mz c l).length < l.length:=by
 have :=nL.2 h
 unfold mz; split <;> simp <;> omega
theorem Ro:∀ (l cur:List UInt8),l.idxOf 10 < l.length→e6 cur l=jm (cur++l.take (l.idxOf 10))::e6 [] (l.drop<|l.idxOf 10 +1):=by
 intro l
 induction l with
 | nil=>intro cur h; simp at h
 | cons b r C=>
   intro cur h
   by_cases c:b=10
   · subst c
     rw [BC,Rs,oC,eM,fK,List.drop_one,List.tail_cons]
   · have A:(b::r).idxOf 10=r.idxOf 10 +1:=by rw [tX,beq_eq_false_iff_ne.2 c]; rfl
     rw [A] at h ⊢
     simp only [bU] at h
     rw [Fs c,C _ ab,r8,tS,ib]
     rfl
theorem Rt:∀ (l cur:List UInt8),¬l.idxOf 10 < l.length→cur++l≠[]→e6 cur l= [jm (cur++l)]:=by
 intro l
 induction l with
 | nil=>intro cur _ h; rw [eM] at h ⊢; exact Rp h
 | cons b r C=>
   intro cur h h1
   by_cases c:b=10
   · subst c; rw [BC] at h; simp at h
   · have A:(b::r).idxOf 10=r.idxOf 10 +1:=by rw [tX,beq_eq_false_iff_ne.2 c]; rfl
     rw [A] at h
     simp only [bU] at h
     rw [Fs c,C _ ab (by simp),ib]
     rfl
theorem Ru {l:List UInt8} (h:l≠[]):e6 [] l=jm (la 10 l)::e6 [] (mz 10 l):=by
 by_cases h1:eb 10 l < 0
 · rw [Rt l [] (E5 h1) (by simpa using h)]
   unfold la mz
   rw [if_pos h1,if_pos h1,Ft,nO]
 · rw [Ro l [] (rj h1).2]
   unfold la mz
   rw [if_neg h1,if_neg h1,nO]
def eG (s p:List UInt8):List UInt8:=if s.take p.length=p then s.drop p.length else s
def Fw:List UInt8:= [239,187,191]
def wS (s:List UInt8):List UInt8:=eG s Fw
theorem AY (s:List UInt8):(wS s).length≤s.length:=by unfold wS eG; split <;> simp
def da (t:List UInt8):List (List UInt8):=e6 []<|wS t
theorem qa (t:List UInt8):(da t).length≤t.length:=dZ (Rq _)<|AY t
theorem Fl {t x:List UInt8} (h:x∈da t):x.length≤t.length:=by
 have :=Rr _ _ _ h
 have :=AY t
 simp only [gz] at*; omega
def vM (f:List UInt8):Bool:=decide ((f.getD 0 0).toNat=35)
def od (f:List (List UInt8)):List (List UInt8):=f.takeWhile fun x=> !vM x
def oW (l:List UInt8) (n:Nat):List (Nat×List (List UInt8)):=if od (dC [] l)= [] then [] else [(n,od (dC [] l))]
def kQ (n:Nat):List (List UInt8)→List (Nat×List (List UInt8))
 | []=> []
 | l::r=>oW l n++kQ (n+1) r
def eK (t:List UInt8):List (Nat×List (List UInt8)):=kQ 1<|da t
theorem vN (l:List UInt8):∀ (c:List (List UInt8)) (n:Nat),kQ n (c++ [l])=kQ n c++oW l (n+c.length):=by
 intro c
 induction c with
 | nil=>intro n; simp [kQ]
 | cons a c A=>intro n; rw [Bx,kQ,A,kQ,bU,ib,show n+1 +c.length=n+(c.length+1) from by omega]
theorem Gk:∀ (c:List (List UInt8)) (n:Nat),(kQ n c).length≤c.length:=by
 intro c
 induction c with
 | nil=>intro n; simp [kQ]
 | cons a c A=>
   intro n
   have :=A<|n+1
   unfold kQ oW
   rw [bK]
   split <;> simp only [gz,bU] <;> omega
theorem Gl (t:List UInt8):(eK t).length≤t.length:=dZ (Gk _ _)<|qa t
theorem E6 {f:List (List UInt8)} :∀ {j:Nat},j≤f.length→(∀ i,i < j→vM (f.getD i [])=false)→(j=f.length∨vM (f.getD j [])=true)→od f=f.take j:=by
 induction f with
 | nil=>intro j A _ _; rw [IN]; rfl
 | cons a f C=>
   intro j A h1 h2
   cases j with
   | zero=>
     rcases h2 with h2 | h2
     · simp at h2
     · simp only [ma] at h2
       simp [od,h2]
   | succ j=>
     have c:=h1 0 ab
     simp only [ma] at c
     have :=C (j:=j) (by simpa using A) (fun i hi=>by simpa using h1 (i+1) ab)<|by simpa using h2
     unfold od at*
     rw [List.takeWhile_cons,c]
     simp only [Bool.not_false,if_true,r8]
     rw [this]
theorem QU {f:List (List UInt8)} {x:List UInt8} (h:x∈od f):x∈f:=(IJ _).subset h
theorem QT (f:List (List UInt8)):(od f).length≤f.length:=(IJ _).length_le
theorem TJ:∀ (c:List (List UInt8)) (n:Nat) (r:Nat×List (List UInt8)),r∈kQ n c→n≤r.1∧r.1 < n+c.length∧r.2≠[]∧∃ l∈c,r.2=od (dC [] l):=by
 intro c
 induction c with
 | nil=>intro n r h; cases h
 | cons a c C=>
   intro n r h
   rw [kQ] at h
   rcases List.mem_append.1 h with h | h
   · unfold oW at h
     split at h
     · cases h
     · simp only [iX] at h; subst h
       exact ⟨by simp,by simp,by assumption,a,by simp,aa⟩
   · obtain ⟨h1,h2,h3,l,A,h4⟩:=C _ _ h
     exact ⟨ab,by simp only [bU]; omega,h3,l,by simp [A],h4⟩
theorem Gm {t:List UInt8} {r:Nat×List (List UInt8)} (h:r∈eK t):1≤r.1∧r.1≤t.length∧r.2≠[]∧r.2.length≤t.length+1∧∀ x∈r.2,x≠[]∧x.length≤t.length:=by
 obtain ⟨h1,h2,h3,l,A,h4⟩:=TJ _ _ _ h
 have E:=qa t
 have C:=Fl A
 refine ⟨h1,ab,h3,?_,fun x c=> ?_⟩
 · rw [h4]; have :=QT (dC [] l); have :=yZ l []; omega
 · rw [h4] at c
   have :=Ee _ _ _<|QU c
   simp only [gz] at this
   exact ⟨this.1,ab⟩
def sF (b:UInt8):Bool:=decide (48≤b.toNat∧b.toNat≤57)
def fH (s:List UInt8):Nat:=s.foldl (fun n b=>n*10 +(b.toNat - 48)) 0
theorem sE {s:List UInt8} {i:Nat} (h:i < s.length):fH (s.take<|i+1)=fH (s.take i)*10 +((s.getD i 0).toNat - 48):=by
 rw [kT s i 0 h]; unfold fH; rw [BA]; rfl
theorem Pu:∀ (s:List UInt8) (n:Nat),n≤s.foldl (fun n b=>n*10 +(b.toNat - 48)) n:=by
 intro s
 induction s with
 | nil=>intro n; exact cw _
 | cons b s c=>intro n; refine dZ ?_ (c _); show n≤n*10 +(b.toNat - 48); omega
theorem NG (s:List UInt8) (i:Nat):fH (s.take i)≤fH s:=by
 have :fH s=(s.drop i).foldl (fun n b=>n*10 +(b.toNat - 48)) (fH<|s.take i):=by
  unfold fH; rw [← BA,List.take_append_drop]
 rw [this]; exact Pu _ _
def p8 (s:List UInt8):Prop :=s= []∨(1 < s.length∧(s.getD 0 0).toNat=48)
def yF (s:List UInt8):Prop := ∀ i,i < s.length→sF (s.getD i 0)=true
open Classical in
noncomputable def fj (s:List UInt8) (most:Int):Nat×Int:=if p8 s∨¬yF s∨most < fH s then (0,13) else (fH s,0)
theorem FR {s:List UInt8} {most:Int} (h:p8 s):fj s most=(0,13):=if_pos<|.inl h
theorem FQ {s:List UInt8} {most:Int} {i:Nat} (h:i < s.length) (h1:sF (s.getD i 0)=false):fj s most=(0,13):=if_pos<|.inr<|.inl fun hd=>by rw [hd i h] at h1; cases h1
theorem Sf {s:List UInt8} {most:Int} (h:most < fH s):fj s most=(0,13):=if_pos<|.inr<|.inr h
theorem FO {s:List UInt8} {most:Int} (i:Nat) (h:most < fH (s.take i)):fj s most=(0,13):=Sf<|by have :=NG s i; omega
theorem FT {s:List UInt8} {most:Int} (h:¬p8 s) (h1:yF s) (h2:¬most < fH s):fj s most=(fH s,0):=if_neg<|by rintro (c | c | c) <;> first | exact h c | exact c h1 | exact h2 c
theorem FP (s:List UInt8) (most:Int):(fj s most=(0,13))∨(fj s most=(fH s,0)∧(fH s:Int)≤most):=by
 unfold fj
 split
 · exact .inl aa
 · rename_i h; exact .inr ⟨rfl,by have :¬most < fH s:=fun c=>h (.inr<|.inr c); omega⟩
theorem vF (s:List UInt8) (most:Int):(fj s most).2=0→((fj s most).1:Int)≤most:=by
 rcases FP s most with h | ⟨h,h1⟩ <;> rw [h]
 · intro h; cases h
 · intro _; exact h1
theorem Dz {b:UInt8} (h:¬(48≤b.toNat∧b.toNat≤57)):sF b=false :=decide_eq_false h
theorem QK {x:UInt8} :∀ {l:List UInt8} {i:Nat},i < l.length→(∀ j,j < i→l.getD j 0≠x)→l.getD i 0=x→eb x l=(i:Nat):=by
 have key:∀ (l:List UInt8) (i:Nat),i < l.length→(∀ j,j < i→l.getD j 0≠x)→l.getD i 0=x→l.idxOf x=i:=by
  intro l
  induction l with
  | nil=>intro i h; simp at h
  | cons b l A=>
    intro i h h1 h2
    cases i with
    | zero=>have c:b=x:=h2
            subst c; simp
    | succ i=>
      have c:b≠x:=h1 0<|Nat.succ_pos _
      rw [tX,show (b==x)=false from by simpa using c]
      have :=A i (by simpa using h) (fun j C=>h1 (j+1) ab) h2
      rw [this]; rfl
 intro l i h h1 h2
 unfold eb
 rw [key l i h h1 h2,if_pos h]
theorem QL {x:UInt8} {l:List UInt8} (h:∀ j,j < l.length→l.getD j 0≠x):eb x l= -1:=by
 unfold eb
 rw [if_neg]
 intro h1
 have hm:=List.idxOf_lt_length_iff.1 h1
 obtain ⟨j,c,e⟩:=IF.1 hm
 exact h j c<|by rw [cM,bZ c]; exact e
end Go.Hb
section
namespace Go.Hb
theorem AS {h:Array Obj} {a:Option Addr} {l:List UInt8} {i:Nat} (c:aG h a (U8 l)) (hi:i < l.length):Hb.aM h (bk a) (fo a+i*1)=some (.int .u8 (l.getD i 0).toNat):=by
 refine c.iD ?_
 unfold U8
 rw [eR,bZ hi,cM,bZ hi]; rfl
theorem AU {l:List UInt8} (h:0 < l.length):U8 l≠[]:=by
 intro e
 have :=congrArg mg e
 rw [uq,gz] at this
 omega
theorem SE {w:World} {B e:Nat} {v:Value} {l:List UInt8} {x:UInt8} (h:w.ownsRow B e 1 v (l.length+1) (U8 l++ [.int .u8 x.toNat])):w.ownsRow B e 1 v (l++ [x]).length (U8<|l++ [x]):=by
 rw [bK,uo]; exact h
theorem Af {w:World} {B e:Nat} {v:Value} {l:List (List UInt8)} {x:List UInt8} (h:w.ownsRow B e 1 v (l.length+1) (l.map str++ [str x])):w.ownsRow B e 1 v (l++ [x]).length ((l++ [x]).map str):=by
 rw [bK,gA]; exact h
abbrev Rw:Type :=Nat×List (List UInt8)
def vS (q:Nat×Value):List Value:= [.int .i64 q.1,q.2]
def lE (l:List (Nat×Value)):List Value:=l.flatMap vS
theorem TS (a b:List (Nat×Value)):lE (a++b)=lE a++lE b:=by simp [lE]
theorem Gs (l:List (Nat×Value)):(lE l).length=l.length*2:=lR (f:=vS) (m:=2) (fun _=>rfl) l
theorem vQ {l:List (Nat×Value)} (h:0 < l.length):lE l≠[]:=yX (f:=vS) (m:=2) (fun _=>rfl) ay h
theorem vR {h:Array Obj} {ad:Option Addr} {vs:List (Nat×Value)} {i:Nat} {q:Nat×Value} (c:aG h ad (lE vs)) (A:vs[i]? =some q):∀ j,j < 2→Hb.aM h (bk ad) (fo ad+i*2 +j)= [ff .i64 q.1,q.2][j]? :=
 gY (f:=vS) (m:=2) (fun _=>rfl) c A
def Tg (w:World) (B e n:Nat) (v:Value) (xs:List Value):Prop :=
 ∃ a cp,v= .slice a n cp∧n≤cp∧(xs= []∨∃ b cur z,a=some ⟨b,0,none⟩∧B≤b∧w.heap[b]? =some (.cells cur e z)∧∀ (j:Nat) u,xs[j]? =some u→cur[j]? =some u)
theorem Tg.kg {w:World} {B e size n:Nat} {v:Value} {xs:List Value} (h:w.ownsRow B e size v n xs):Tg w B e n v xs:=by
 have c:=h
 rcases h.2 with ⟨rfl,rfl⟩ | ⟨g,cap,cur,rfl,A,C,_,_,_,E⟩
 · exact ⟨none,0,aa,cw _,.inl<|fR<|by simpa using h.1⟩
 · refine ⟨_,cap,aa,(aU c).1,.inr ⟨g,cur,_,aa,A,C,fun j u hu=> ?_⟩⟩
   rw [← E,mS] at hu
   split at hu
   · simpa using hu
   · cases hu
theorem Tg.cells {w:World} {B e n:Nat} {v:Value} {xs:List Value} (h:Tg w B e n v xs):∃ a cp,v= .slice a n cp∧aG w.heap a xs:=by
 obtain ⟨a,cp,rfl,_,h | ⟨b,cur,z,rfl,_,c,A⟩⟩:=h
 · subst h; exact ⟨a,cp,rfl,aG.nil _ _⟩
 · refine ⟨_,cp,aa,fun _=>rfl,fun j u hu=> ?_⟩
   show Hb.aM w.heap b (0 +j)=_
   rw [fK,bj c]; exact A j u hu
theorem Tg.dy {w:World} {B e n cp:Nat} {a:Option Addr} {xs:List Value} (h:Tg w B e n (.slice a n cp) xs):n≤cp∧aG w.heap a xs:=by
 obtain ⟨G,I,A,c,J⟩:=id h
 obtain ⟨a2,c2,C,E⟩:=h.cells
 cases A; cases C
 exact ⟨c,E⟩
theorem Tg.slice {w:World} {B e n:Nat} {v:Value} {xs:List Value} (h:Tg w B e n v xs):∃ a cp,v= .slice a n cp:=let ⟨a,cp,hv,_⟩:=h; ⟨a,cp,hv⟩
theorem Tg.md {F:Nat→Prop} {w w':World} {B e n:Nat} {v:Value} {xs:List Value} (h:Tg w B e n v xs) (hm:Md F w w') (C:∀ k,F k→∀ cur z,w.heap[k]?≠some (.cells cur e z)):Tg w' B e n v xs:=by
 obtain ⟨a,cp,rfl,A,h | ⟨b,cur,z,rfl,E,c,G⟩⟩:=h
 · exact ⟨a,cp,aa,A,.inl h⟩
 · exact ⟨_,cp,aa,A,.inr ⟨b,cur,z,aa,E,by rw [hm.gp b (cY.1 c).1 (fun hk=>C b hk cur z c)]; exact c,G⟩⟩
theorem Tg.wk {w w':World} {B e n:Nat} {v:Value} {xs:List Value} (h:Tg w B e n v xs) (hm:Wk w w'):Tg w' B e n v xs:=h.md hm fun _ hk=>hk.elim
theorem Tg.clip {w:World} {B e n k cp c:Nat} {a:Option Addr} {xs:List Value} (h:Tg w B e n (.slice a n cp) xs) (hk:k≤c):Tg w B e k (.slice a k c) (xs.take k):=by
 obtain ⟨J,O,C,_,A⟩:=h
 simp only [l9,true_and] at C
 obtain ⟨rfl,rfl⟩:=C
 refine ⟨a,c,aa,hk,?_⟩
 rcases A with rfl | ⟨b,cur,z,E,G,I,A⟩
 · exact .inl IN
 · exact .inr ⟨b,cur,z,E,G,I,fun j u hu=>A j u<|by rw [mS] at hu; split at hu; exact hu; cases hu⟩
theorem jd {w:World} {B e A size n:Nat} {v:Value} {xs:List Value} (h:w.ownsRow B e size v n xs) (E:e≠A):∀ k,v.ownBlock=some k→∀ cur z,w.heap[k]?≠some (.cells cur A z):=by
 intro k hk cur z c
 rcases h.2 with ⟨rfl,_⟩ | ⟨g,cap,G,rfl,_,C,_⟩
 · simp [iz] at hk
 · simp only [iz,fE] at hk
   subst hk
   rw [C] at c
   simp only [fE,tK] at c
   exact E c.2.1
theorem gW {w:World} {b e A:Nat} {cs:Array Value} {y:Nat×Nat} (h:w.heap[b]? =some (.cells cs e y)) (C:e≠A):∀ k,k=b→∀ cur z,w.heap[k]?≠some (.cells cur A z):=by
 rintro k rfl cur z c
 rw [h] at c
 simp only [fE,tK] at c
 exact C c.2.1
def gU (w:World) (B e:Nat) (vs:List (Nat×Value)) (rs:List Rw):Prop :=vs.length=rs.length∧∀ (i:Nat) q r,vs[i]? =some q→rs[i]? =some r→q.1=r.1∧Tg w B e r.2.length q.2 (r.2.map str)
theorem gU.nil (w:World) (B e:Nat):gU w B e [] []:=⟨rfl,fun i q r c=>by simp at c⟩
theorem gU.md {F:Nat→Prop} {w w':World} {B e:Nat} {vs:List (Nat×Value)} {rs:List Rw} (h:gU w B e vs rs) (hm:Md F w w') (c:∀ k,F k→∀ cur z,w.heap[k]?≠some (.cells cur e z)):gU w' B e vs rs:=
 ⟨h.1,fun i q r h1 h2=>⟨(h.2 i q r h1 h2).1,(h.2 i q r h1 h2).2.md hm c⟩⟩
theorem gU.wk {w w':World} {B e:Nat} {vs:List (Nat×Value)} {rs:List Rw} (h:gU w B e vs rs) (hm:Wk w w'):gU w' B e vs rs:=h.md hm fun _ hk=>hk.elim
theorem gU.snoc {w:World} {B e n:Nat} {vs:List (Nat×Value)} {rs:List Rw} {v:Value} {r:List (List UInt8)} (c:gU w B e vs rs) (C:Tg w B e r.length v (r.map str)):gU w B e (vs++ [(n,v)]) (rs++ [(n,r)]):=by
 refine ⟨by rw [bK,bK,c.1]; rfl,fun i E G h1 h2=> ?_⟩
 have A:=c.1
 by_cases hi:i < vs.length
 · rw [me hi] at h1
   rw [me ab] at h2
   exact c.2 i E G h1 h2
 · rw [mR ab] at h1
   rw [mR ab,← A] at h2
   cases hj:i - vs.length with
   | zero=>rw [hj] at h1 h2; cases h1; cases h2; exact ⟨rfl,C⟩
   | succ j=>rw [hj] at h1; simp at h1
theorem Tg.mono {w:World} {B B' e n:Nat} {v:Value} {xs:List Value} (h:Tg w B e n v xs) (c:B'≤B):Tg w B' e n v xs:=by
 obtain ⟨a,cp,C,A,E⟩:=h
 exact ⟨a,cp,C,A,E.imp id fun ⟨b,cur,z,h1,h2,h3⟩=>⟨b,cur,z,h1,dZ c h2,h3⟩⟩
theorem gU.mono {w:World} {B B' e:Nat} {vs:List (Nat×Value)} {rs:List Rw} (h:gU w B e vs rs) (c:B'≤B):gU w B' e vs rs:=⟨h.1,fun i q r h1 h2=>⟨(h.2 i q r h1 h2).1,(h.2 i q r h1 h2).2.mono c⟩⟩
end Go.Hb
end
section
set_option linter.unusedSectionVars false
namespace Go.Hb
open Go.Sort (swp insInner insOuter insertionSort siftDown heapBuild heapPop heapSort scanUp scanDown partLoop partEqLoop partition partitionEqual scanSorted shiftDown shiftUp partialIns partialInsertionSort reverseLoop reverseRange choosePivot breakPatterns breakStep pdq Hint)
def LE {α:Type} (f:α→Value) (d:Array α):List Value:=d.toList.map f
section
variable {α:Type} [Inhabited α] {f:α→Value}
theorem oV (d:Array α):(LE f d).length=d.size:=by simp [LE]
theorem bL {d:Array α} (h:0 < d.size):LE f d≠[]:=by
 intro e; have :=congrArg mg e; rw [oV,gz] at this; omega
theorem zy {d:Array α} {i:Nat} (h:i < d.size):(LE f d)[i]? =some (f d[i]!):=by
 unfold LE
 rw [eR,tC,xd h,getElem!_pos d i h]; rfl
theorem cE {h:Array Obj} {a:Option Addr} {d:Array α} {i:Nat} (c:aG h a (LE f d)) (hi:i < d.size):Hb.aM h (bk a) (fo a+i*1)=some (f d[i]!):=c.iD<|zy hi
theorem Q5 (d:Array α) (i:Nat) (v:α):(LE f d).set i (f v)=LE f (d.setIfInBounds i v):=by
 unfold LE; rw [tF,List.map_set]
theorem ec {w:World} {B e n:Nat} {v:Value} {d:Array α} (h:w.ownsRow B e 1 v n (LE f d)):d.size=n:=by
 have :=h.1; rw [oV] at this; omega
end
section
variable {P:Program} {N:Fm} {σ:Nat→Value} {w:World} {ty:TypeId} {pos :String} {af:Array Edge} {g:Option (Nat×Bool)} {x y:Operand} {K:(Nat→Value)→World→Prop}
theorem e7 {α:Type} [Inhabited α] {f:α→Value} {t B e n cap:Nat} {a:Option Addr} {d:Array α} {u:α} (i:Nat) (c:w.ownsRow B e 1 (.slice a n cap) n (LE f d)) (E:dW P t=some 1) (A:ev N σ x= .pointer (some ⟨bk a,fo a+i*1,none⟩)) (C:ev N σ y=f u) (h1:(f u).oneCell'=true)
 (G:i < n) (k:∀ w',Md (fun k=>(bD a n cap).ownBlock=some k) w w'→w'.ownsRow B e 1 (.slice a n cap) n (LE f<|d.setIfInBounds i u)→K σ w'):cJ P N ⟨none,.store t x y,ty,pos,af,g⟩ σ w K:=
 rE c E A C h1 (j:=i) ab ab fun w' h1 h2=>k w' h1<|by rw [← Q5]; exact h2
end
section
variable {α:Type} [Inhabited α] {lt:α→α→Bool} {d:Array α}
theorem QC {a j:Nat} (h:a < j) (h1:lt d[j]! d[j - 1]! =true):insInner lt a j d=insInner lt a (j - 1) (swp d j<|j - 1):=by
 cases j with
 | zero=>omega
 | succ j=>simp only [r9] at*; rw [insInner,if_pos (by simp [h1]; omega)]
theorem QE {a j:Nat} (h:¬a < j):insInner lt a j d=d:=by
 cases j with
 | zero=>rfl
 | succ j=>rw [insInner,if_neg (by simp; omega)]
theorem QD {a j:Nat} (h1:lt d[j]! d[j - 1]! =false):insInner lt a j d=d:=by
 cases j with
 | zero=>rfl
 | succ j=>simp only [r9] at*; rw [insInner,if_neg (by simp [h1])]
theorem E0 {a b i:Nat} (h:i < b):insOuter lt a b i d=insOuter lt a b (i+1) (insInner lt a i d):=by rw [insOuter,if_pos h]
theorem QB {a b i:Nat} (h:¬i < b):insOuter lt a b i d=d:=by rw [insOuter,if_neg h]
theorem Ua {hi first r:Nat} (h:¬2 *r+1 < hi):siftDown lt hi first r d=d:=by rw [siftDown,dif_pos ab]
theorem Ub {hi first r:Nat} (h:2 *r+1 +1 < hi) (h1:lt d[first+(2 *r+1)]! d[first+(2 *r+1)+1]! =true):
 siftDown lt hi first r d=if (!lt d[first+r]! d[first+(2 *r+2)]!)=true then d else siftDown lt hi first (2 *r+2) (swp d (first+r)<|first+(2 *r+2)):=by
 rw [siftDown,dif_neg ab,if_pos (by simp [h1]; omega),dif_pos ab]
theorem GD {hi first r:Nat} (c:2 *r+1 < hi) (h:¬2 *r+1 +1 < hi∨lt d[first+(2 *r+1)]! d[first+(2 *r+1)+1]! =false):
 siftDown lt hi first r d=if (!lt d[first+r]! d[first+(2 *r+1)]!)=true then d else siftDown lt hi first (2 *r+1) (swp d (first+r)<|first+(2 *r+1)):=by
 rw [siftDown,dif_neg ab,if_neg (by rcases h with h | h <;> simp [h] <;> omega)]
theorem PU {hi first k:Nat} (h:0 < k):heapBuild lt hi first k d=heapBuild lt hi first (k - 1) (siftDown lt hi first (k - 1) d):=by
 cases k with
 | zero=>omega
 | succ k=>rfl
theorem PV {hi first :Nat} :heapBuild lt hi first 0 d=d:=rfl
theorem Qj {first k:Nat} (h:0 < k):heapPop lt first k d=heapPop lt first (k - 1) (siftDown lt (k - 1) first 0 (swp d first (first+(k - 1)))):=by
 cases k with
 | zero=>omega
 | succ k=>rfl
theorem AZ {p:α→Bool} {i j:Nat} (h:i≤j) (h1:p d[i]! =true):scanUp p d j i=scanUp p d j (i+1):=by
 rw [scanUp]; simp [h,h1]
theorem rL {p:α→Bool} {i j:Nat} (h:¬i≤j∨p d[i]! =false):scanUp p d j i=i:=by
 rw [scanUp]; rcases h with h | h <;> simp [h]
theorem yG {p:α→Bool} {i j:Nat} (c:0 < j) (h:i≤j) (h1:p d[j]! =true):scanDown p d i j=scanDown p d i (j - 1):=by
 cases j with
 | zero=>omega
 | succ j=>rw [scanDown]; simp [h,h1]
theorem qY {p:α→Bool} {i j:Nat} (h:¬i≤j∨p d[j]! =false):scanDown p d i j=j:=by
 cases j with
 | zero=>rfl
 | succ j=>rw [scanDown]; rcases h with h | h <;> simp [h]
theorem Us {b i:Nat} (h:i < b) (h1:lt d[i]! d[i - 1]! =false):scanSorted lt d b i=scanSorted lt d b (i+1):=by
 rw [scanSorted]; simp [h,h1]
theorem GP {b i:Nat} (h:¬i < b∨lt d[i]! d[i - 1]! =true):scanSorted lt d b i=i:=by
 rw [scanSorted]; rcases h with h | h <;> simp [h]
theorem TU {j:Nat} (h:0 < j) (h1:lt d[j]! d[j - 1]! =true):shiftDown lt j d=shiftDown lt (j - 1) (swp d j<|j - 1):=by
 cases j with
 | zero=>omega
 | succ j=>simp only [r9] at*; rw [shiftDown]; simp [h1]
theorem Gt {j:Nat} (h:¬0 < j∨lt d[j]! d[j - 1]! =false):shiftDown lt j d=d:=by
 cases j with
 | zero=>rfl
 | succ j=>simp only [r9] at*; rw [shiftDown]; rcases h with h | h <;> first | omega | simp [h]
theorem UN {b j:Nat} (h:j < b) (h1:lt d[j]! d[j - 1]! =true):shiftUp lt b j d=shiftUp lt b (j+1) (swp d j<|j - 1):=by
 rw [shiftUp]; simp [h,h1]
theorem GV {b j:Nat} (h:¬j < b∨lt d[j]! d[j - 1]! =false):shiftUp lt b j d=d:=by
 rw [shiftUp]; rcases h with h | h <;> simp [h]
theorem TA {i j:Nat} (h:i < j):reverseLoop i j d=reverseLoop (i+1) (j - 1) (swp d i j):=by rw [reverseLoop,if_pos h]
theorem TB {i j:Nat} (h:¬i < j):reverseLoop i j d=d:=by rw [reverseLoop,if_neg h]
theorem F9 {a i j i2 c:Nat} (h1:scanUp (fun x=>lt x d[a]!) d j i=i2) (h2:scanDown (fun x=> !lt x d[a]!) d i2 j=c) (hi:i≤i2) (A:c≤j):
 partLoop lt a i j d=if i2 > c then (c,d) else if (c - 1)+1 - (i2+1) < j+1 - i then partLoop lt a (i2+1) (c - 1) (swp d i2 c) else (c,d):=by
 rw [partLoop]; simp only [h1,h2]; split <;> first | rfl | (split <;> rfl)
theorem F5 {a i j i2 c:Nat} (h1:scanUp (fun x=> !lt d[a]! x) d j i=i2) (h2:scanDown (fun x=>lt d[a]! x) d i2 j=c):
 partEqLoop lt a i j d=if i2 > c then (i2,d) else if (c - 1)+1 - (i2+1) < j+1 - i then partEqLoop lt a (i2+1) (c - 1) (swp d i2 c) else (i2,d):=by
 rw [partEqLoop]; simp only [h1,h2]; split <;> first | rfl | (split <;> rfl)
end
def bJ (x y:Nat):Bool:=decide (x < y)
theorem s5:Go.Sort.SWO bJ:=⟨fun x=>by simp [bJ],fun x y z=>by simp only [bJ,decide_eq_true_eq]; omega,fun x y z=>by simp only [bJ,decide_eq_false_iff_not]; omega⟩
def aT (n:Nat):Value:= .int .u16 n
section
variable {P:Program} {N:Fm} {σ:Nat→Value} {w:World} {dst:Option Nat} {ty:TypeId} {pos :String} {af:Array Edge} {g:Option (Nat×Bool)} {x y:Operand}
theorem x7 {t E:TypeId} {k:IntKind} {a b v:Int} (A:ev N σ x= .int k a) (C:ev N σ y= .int k b) (c:k.wrap (e9 k.bits a ^^^ e9 k.bits b).toNat=v):
 (execOp (ev N σ) ⟨dst,.binOp .xor t x y E,ty,pos,af,g⟩).run P w= .ok (.value<|.int k v) w:=by
 subst c; simp [execOp,A,C,eqGuard,binOp,tM]
end
theorem Ha (x:Int):0≤dH.wrap x∧dH.wrap x < 18446744073709551616:=by
 have h:dH.wrap x=x % 18446744073709551616:=by
  simp [IntKind.wrap,IntKind.bits,IntKind.signed]
 rw [h]; omega
theorem JE (r:Int) (m:Nat) (hm:0 < m∧m≤1099511627776):∃ o:Nat,o≤m - 1∧dH.wrap (e9 dH.bits r &&& e9 dH.bits ((m:Int) - 1)).toNat=(o:Int):=by
 refine ⟨(e9 dH.bits r &&& e9 dH.bits ((m:Int) - 1)).toNat,?_,?_⟩
 · rw [HI]
   refine dZ Nat.and_le_right ?_
   have h1:(m:Int) - 1=((m - 1:Nat):Int):=ab
   rw [h1,ow]
   have h2:(dH.bits:Nat)=64:=rfl
   rw [h2]
   omega
 · exact nE (by have :=(e9 dH.bits r &&& e9 dH.bits ((m:Int) - 1)).isLt; have h2:(dH.bits:Nat)=64:=aa; rw [h2] at this ⊢; omega)
def jN (n:Nat):Nat:=if n=0 then 0 else Nat.log2 n+1
theorem Fi:∀ n:Fin 256,n.val≠0→n.val < 2 ^ jN n.val∧2 ^ jN n.val≤2 *n.val∧jN n.val≤8:=by decide+kernel
theorem vy {n:Nat} (h:n < 256):jN n≤8:=by
 rcases Nat.eq_zero_or_pos n with rfl | c
 · decide
 · exact (Fi ⟨n,h⟩<|by simp; omega).2.2
theorem Rc {n:Nat} (h:n < 256) (c:0 < n):n < 2 ^ jN n∧2 ^ jN n≤2 *n:=by
 have :=Fi ⟨n,h⟩<|by simp; omega
 exact ⟨this.1,this.2.1⟩
end Go.Hb
end
namespace Go.Hb
def gk:List Nat→List Nat
 | []=> []
 | [x]=> [x]
 | x::y::l=>if x=y then gk (y::l) else x::gk (y::l)
theorem NF (x y:Nat):∀ l:List Nat,gk (l++ [x,y])=if x=y then gk (l++ [x]) else gk (l++ [x])++ [y]:=by
 intro l
 induction l with
 | nil=>by_cases h:x=y <;> simp [gk,h]
 | cons a l c=>
   cases l with
   | nil=>by_cases h:a=x <;> by_cases h2:x=y <;> simp_all [gk]
   | cons b l=>
     simp only [Bx] at c ⊢
     rw [gk,c,gk]
     by_cases h:a=b <;> by_cases h2:x=y <;> simp [h,h2]
theorem Du (x:Nat):∀ l:List Nat,x∈gk l↔x∈l:=by
 intro l
 induction l with
 | nil=>simp [gk]
 | cons a l c=>
   cases l with
   | nil=>simp [gk]
   | cons b l=>
     rw [gk]
     by_cases h:a=b
     · subst h; rw [if_pos rfl,c]; simp
     · rw [if_neg h,dR,c,dR (a:=x) (b:=a)]
theorem ND:∀ l:List Nat,l.Pairwise (·≤·)→(gk l).Pairwise (· < ·):=by
 intro l
 induction l with
 | nil=>intro _; exact List.Pairwise.nil
 | cons a l A=>
   intro h
   cases l with
   | nil=>simp [gk]
   | cons b l=>
     rw [kZ] at h
     rw [gk]
     by_cases h1:a=b
     · rw [if_pos h1]; exact A h.2
     · rw [if_neg h1,kZ]
       refine ⟨fun y c=> ?_,A h.2⟩
       have c:=(Du y _).1 c
       have h2:=h.1 b<|by simp
       rcases dR.1 c with rfl | c
       · omega
       · have :=(kZ.1 h.2).1 y c; omega
theorem TG:∀ l m:List Nat,l.Pairwise (· < ·)→m.Pairwise (· < ·)→(∀ x,x∈l↔x∈m)→l=m:=by
 intro l
 induction l with
 | nil=>
   intro m _ _ h
   cases m with
   | nil=>rfl
   | cons y m=>have :=(h y).2 (by simp); cases this
 | cons a l C=>
   intro m A hm h
   cases m with
   | nil=>have :=(h a).1 (by simp); cases this
   | cons y m=>
     rw [kZ] at A hm
     have e:a=y:=by
      have h1:=(h a).1<|by simp
      have h2:=(h y).2<|by simp
      rcases dR.1 h1 with h1 | h1
      · exact h1
      · rcases dR.1 h2 with h2 | h2
        · exact h2.symm
        · have :=A.1 y h2; have :=hm.1 a h1; omega
     subst e
     congr 1
     refine C m A.2 hm.2 fun x=> ?_
     constructor
     · intro c
       have :=A.1 x c
       rcases dR.1 ((h x).1<|nN _ c) with h1 | h1
       · omega
       · exact h1
     · intro c
       have :=hm.1 x c
       rcases dR.1 ((h x).2<|nN _ c) with h1 | h1
       · omega
       · exact h1
def lx (x:Nat):List Nat→List Nat
 | []=> [x]
 | y::l=>if x < y then x::y::l else if x=y then y::l else y::lx x l
def ku (l:List Nat):List Nat:=l.foldr lx []
theorem EZ (x y:Nat):∀ l:List Nat,y∈lx x l↔y=x∨y∈l:=by
 intro l
 induction l with
 | nil=>simp [lx]
 | cons a l c=>
   rw [lx]
   split
   · simp
   · split
     · rename_i h; subst h; simp
     · rw [dR,c,dR]
       constructor <;> (rintro (h | h | h) <;> simp [h])
theorem QA (x:Nat):∀ l:List Nat,l.Pairwise (· < ·)→(lx x l).Pairwise (· < ·):=by
 intro l
 induction l with
 | nil=>intro _; simp [lx]
 | cons a l C=>
   intro h
   rw [lx]
   rw [kZ] at h
   split
   · rename_i A
     rw [kZ,kZ]
     exact ⟨fun y c=>by rcases dR.1 c with rfl | c; exact A; have :=h.1 y c; omega,h⟩
   · split
     · rw [kZ]; exact h
     · rw [kZ]
       exact ⟨fun y c=>by rcases (EZ x y l).1 c with rfl | c; omega; exact h.1 y c,C h.2⟩
theorem zY (x:Nat):∀ l:List Nat,x∈ku l↔x∈l:=by
 intro l
 induction l with
 | nil=>simp [ku]
 | cons a l c=>show x∈lx a (ku l)↔_; rw [EZ,c,dR]
theorem zZ:∀ l:List Nat,(ku l).Pairwise (· < ·):=by
 intro l
 induction l with
 | nil=>exact List.Pairwise.nil
 | cons a l c=>exact QA a _ c
theorem FZ {l m:List Nat} (hm:m.Pairwise (· < ·)) (h:∀ x,x∈m↔x∈l):m=ku l:=TG _ _ hm (zZ l) fun x=>by rw [h,zY]
theorem Sm {l:List Nat} (h:l.Pairwise (· < ·)):ku l=l:=(FZ h fun _=>Iff.rfl).symm
theorem Qy (x:Nat):∀ l:List Nat,(lx x l).length≤l.length+1:=by
 intro l
 induction l with
 | nil=>simp [lx]
 | cons a l c=>rw [lx]; split <;> (try split) <;> simp only [bU] <;> omega
theorem Sl:∀ l:List Nat,(ku l).length≤l.length:=by
 intro l
 induction l with
 | nil=>simp [ku]
 | cons a l c=>have :=Qy a (ku l); show (lx a<|ku l).length≤_; simp only [bU]; omega
theorem rJ (d:Array Nat):d.toList.length=d.size:=by simp
theorem tw (d:Array Nat) (i:Nat):d.toList.getD i 0=d[i]! :=by
 rw [cM,tC]
 by_cases h:i < d.size
 · rw [xd h,getElem!_pos d i h]; rfl
 · rw [o8 ab,getElem!_neg d i h]; rfl
theorem wx {d:Array Nat} {i:Nat} (h:i < d.size):d.toList.take (i+1)=d.toList.take i++ [d[i]!]:=by
 rw [kT d.toList i 0 (by simpa using h),tw]
theorem uV {d:Array Nat} {q:Nat} (h1:1≤q) (h:q < d.size):gk (d.toList.take<|q+1)=if d[q - 1]! =d[q]! then gk (d.toList.take q) else gk (d.toList.take q)++ [d[q]!]:=by
 obtain ⟨q,rfl⟩:∃ k,q=k+1:=⟨q - 1,ab⟩
 rw [wx h,wx ab,ib,r9]
 exact NF _ _ _
theorem AA {d:Array Nat} (h:rW bJ 0 d.size d):d.toList.Pairwise (·≤·):=by
 rw [List.pairwise_iff_getElem]
 intro i j hi c A
 have :=h i j (Nat.zero_le _) A<|by simpa using c
 rw [← tw,← tw,cM,cM,bZ hi,bZ c] at this
 simp only [bJ,decide_eq_false_iff_not,Option.getD_some] at this
 omega
theorem Uj {l:List Nat} {d:Array Nat} (hp:Go.Sort.PermIn 0 l.length l.toArray d) (hs:rW bJ 0 l.length d):gk d.toList=ku l:=by
 have c:d.size=l.length:=by rw [hp.1]; simp
 have A:d.toList.Perm l:=by
  have :=hp.2.2
  rw [show (d.extract 0 l.length).toList=d.toList from by rw [Array.toList_extract]; simp [eN (show d.toList.length≤l.length by simp [c])]] at this
  simpa using this
 exact FZ (ND _<|AA<|by rw [c]; exact hs) fun x=>by rw [Du]; exact A.mem_iff
theorem uY {d d2:Array Nat} {k j:Nat} (h:d.toList.drop k=d2.toList.drop k) (hk:k≤j):d[j]! =d2[j]! :=by
 have :=congrArg (fun l=>l.getD (j - k) 0) h
 simp only [cM,qA,show k+(j - k)=j from by omega] at this
 rw [← tw,← tw]; simpa [cM] using this
theorem set_drop {d:Array Nat} {k m v:Nat} (h:k < m):(d.setIfInBounds k v).toList.drop m=d.toList.drop m:=by
 rw [tF,List.drop_set,if_pos h]
theorem As {d:Array Nat} {k v:Nat} (h:k < d.size):(d.setIfInBounds k v).toList.take (k+1)=d.toList.take k++ [v]:=by
 rw [tF,List.set_eq_take_append_cons_drop,if_pos (by simpa using h),qD,dB,tD,nR ab,IU,eN (by rw [dB]; omega)]
 rfl
theorem zw {h:Array Obj} {a:Option Addr} {d:Array Nat} {i j:Nat} {f:Nat→Value} (c:aG h a ((LE f d).drop i)) (hi:i+j < d.size):Hb.aM h (bk a) (fo a+j*1)=some (f d[i+j]!):=by
 refine c.iD ?_
 rw [qA]; exact zy hi
theorem zx {d:Array Nat} {i:Nat} {f:Nat→Value} (h:i < d.size):(LE f d).drop i≠[]:=by
 intro e; have :=congrArg mg e; rw [gy,oV,gz] at this; omega
def hZ (b:UInt8):Bool:=decide (33≤b.toNat∧b.toNat≤126∧b.toNat≠47∧b.toNat≠44∧b.toNat≠35)
noncomputable def eD (kind:Nat) (s:List UInt8):Nat:=
 if kind=1 then (if s.length=1∧hZ (s.getD 0 0)=true then (s.getD 0 0).toNat else 0)
 else if kind=2 then (if s.length=2∧hZ (s.getD 0 0)=true∧hZ (s.getD 1 0)=true then 256 *(s.getD 0 0).toNat+(s.getD 1 0).toNat else 0)
 else (fj s 65535).1
def gJ (c:UInt8):List UInt8→List UInt8→List (List UInt8)
 | acc,[]=> [acc]
 | acc,b::l=>if b=c then acc::gJ c [] l else gJ c (acc++ [b]) l
theorem Uo (c:UInt8):∀ (l acc:List UInt8),(gJ c acc l).length≤l.length+1:=by
 intro l
 induction l with
 | nil=>intro acc; simp [gJ]
 | cons b l A=>
   intro acc; rw [gJ]; split
   · have :=A []; simp only [bU]; omega
   · have :=A (acc++ [b]); simp only [bU]; omega
theorem Up (c:UInt8):∀ (l acc x:List UInt8),x∈gJ c acc l→x.length≤acc.length+l.length:=by
 intro l
 induction l with
 | nil=>intro acc x h; simp only [gJ,iX] at h; subst h; simp
 | cons b l A=>
   intro acc x h
   rw [gJ] at h
   split at h
   · rcases dR.1 h with rfl | h
     · simp
     · have :=A [] x h; simp only [gz,bU] at*; omega
   · have :=A _ x h; rw [bK,ic] at this; simp only [bU]; omega
def n4 (k:Nat):Nat→List UInt8→List (List UInt8)
 | 0,_=> []
 | f+1,s=>if s= [] then [] else s.take k::n4 k f (s.drop k)
def chunks (k:Nat) (s:List UInt8):List (List UInt8):=n4 k s.length s
theorem L8 {k:Nat} (hk:0 < k):∀ (f g:Nat) (s:List UInt8),s.length≤f→s.length≤g→n4 k f s=n4 k g s:=by
 intro f
 induction f with
 | zero=>intro g s h _; obtain rfl :=fR (by omega :s.length=0); cases g <;> simp [n4]
 | succ f c=>
   intro g s h1 h2
   cases g with
   | zero=>obtain rfl :=fR (by omega :s.length=0); simp [n4]
   | succ g=>
     rw [n4,n4]
     by_cases hs:s= []
     · simp [hs]
     · have A:=nL.2 hs
       rw [if_neg hs,if_neg hs,c g (s.drop k) (by rw [gy]; omega) (by rw [gy]; omega)]
theorem yv (k:Nat):chunks k []= []:=rfl
theorem yu {k:Nat} {s:List UInt8} (hk:0 < k) (hs:s≠[]):chunks k s=s.take k::chunks k (s.drop k):=by
 have c:=nL.2 hs
 unfold chunks
 obtain ⟨m,hm⟩:∃ m,s.length=m+1:=⟨s.length - 1,ab⟩
 rw [hm,n4,if_neg hs,L8 hk m (s.drop k).length (s.drop k) (by rw [gy]; omega) (cw _)]
theorem Mb {k:Nat} (hk:0 < k):∀ (n:Nat) (s:List UInt8),s.length≤n→(chunks k s).length≤s.length:=by
 intro n
 induction n with
 | zero=>intro s h; obtain rfl :=fR (by omega :s.length=0); simp [yv]
 | succ n c=>
   intro s h
   by_cases hs:s= []
   · subst hs; simp [yv]
   · have A:=nL.2 hs
     rw [yu hk hs,bU]
     have :=c (s.drop k)<|by rw [gy]; omega
     rw [gy] at this; omega
theorem Mc {k:Nat} (hk:0 < k):∀ (n:Nat) (s x:List UInt8),s.length≤n→x∈chunks k s→x.length≤s.length:=by
 intro n
 induction n with
 | zero=>intro s x h c; obtain rfl :=fR (by omega :s.length=0); cases c
 | succ n A=>
   intro s x h c
   by_cases hs:s= []
   · subst hs; cases c
   · have C:=nL.2 hs
     rw [yu hk hs] at c
     rcases dR.1 c with rfl | c
     · rw [dB]; omega
     · have :=A (s.drop k) x (by rw [gy]; omega) c
       rw [gy] at this; omega
def ee (kind:Nat) (s:List UInt8):List (List UInt8):=if kind=3 then gJ 44 [] s else chunks kind s
theorem SZ {kind:Nat} {s:List UInt8} (hk:0 < kind):(ee kind s).length≤s.length+1:=by
 unfold ee; split
 · exact Uo _ _ _
 · have :=Mb hk s.length s (cw _); omega
theorem S1 {kind:Nat} {s x:List UInt8} (hk:0 < kind) (h:x∈ee kind s):x.length≤s.length:=by
 unfold ee at h; split at h
 · have :=Up _ _ _ _ h; simpa using this
 · exact Mc hk _ _ _ (cw _) h
noncomputable def eO (kind:Nat) (s:List UInt8):List Nat×Nat:=
 if s= [] then ([],31) else if ∃ x∈ee kind s,eD kind x=0 then ([],31) else if 64 < (ee kind s).length then ([],32) else (ku ((ee kind s).map<|eD kind),0)
noncomputable def iu (kind:Nat) (s:List UInt8):Nat×Nat:=if eD kind s=0 then (0,31) else (eD kind s,0)
theorem O7 (kind:Nat) (s:List UInt8):eD kind s < 65536:=by
 unfold eD
 have c:=ji<|s.getD 0 0
 have h1:=ji<|s.getD 1 0
 split
 · split <;> omega
 · split
   · split <;> omega
   · unfold fj; split
     · exact Nat.zero_lt_succ _
     · rename_i h; simp only; omega
theorem rR {n:Int} (h:0≤n∧n≤65535):nJ.wrap n=n:=IntWalk.u16_in n h
theorem T5 {x:Nat} (h:x < 256):nJ.wrap ((x:Int)*2 ^ min (8:Int).toNat nJ.bits)=((256 *x:Nat):Int):=by
 have h2:((x:Int)*2 ^ min (8:Int).toNat nJ.bits)=((256 *x:Nat):Int):=by
  show (x:Int)*256=_
  omega
 rw [h2]; exact rR ab
theorem Sv {x y:Nat} (h:x < 256) (E:y < 256):nJ.wrap (e9 nJ.bits ((256 *x:Nat):Int) ||| e9 nJ.bits ((y:Nat):Int)).toNat=((256 *x+y:Nat):Int):=by
 have h1:(e9 nJ.bits ((256 *x:Nat):Int) ||| e9 nJ.bits ((y:Nat):Int)).toNat=256 *x+y:=by
  have C:(nJ.bits:Nat)=16:=rfl
  rw [HJ,ow,ow,C]
  have c:(((256 *x:Nat):Int) % ((2 ^ 16:Nat):Int)).toNat=2 ^ 8 *x:=ab
  have A:(((y:Nat):Int) % ((2 ^ 16:Nat):Int)).toNat=y:=ab
  rw [c,A,← Nat.two_pow_add_eq_or_of_lt (show y < 2 ^ 8 by omega)]
 rw [h1]; exact rR ab
theorem Se (s:List UInt8):(fj s 65535).1≤65535:=by
 unfold fj; split
 · exact Nat.zero_le _
 · simp only; omega
theorem Ma (s:List UInt8) (i k:Nat):(s.take (min ((i+k:Nat):Int) (s.length:Int)).toNat).drop (i:Int).toNat=(s.drop i).take k:=by
 rw [jx,show (min ((i+k:Nat):Int) (s.length:Int)).toNat=min (i+k) s.length from by omega,Iq]
 by_cases h:i+k≤s.length
 · rw [nR h,IU]
 · rw [Nat.min_eq_right ab,eN (by rw [gy]; omega),eN (by rw [gy]; omega)]
theorem GM (c:UInt8):∀ (l acc:List UInt8),l.idxOf c < l.length→gJ c acc l=(acc++l.take (l.idxOf c))::gJ c [] (l.drop<|l.idxOf c+1):=by
 intro l
 induction l with
 | nil=>intro acc h; simp at h
 | cons b l C=>
   intro acc h
   rw [gJ]
   by_cases A:b=c
   · subst A; rw [if_pos rfl]; simp
   · rw [if_neg A]
     have hi:(b::l).idxOf c=l.idxOf c+1:=by rw [tX,show (b==c)=false from by simpa using A]; rfl
     rw [hi] at h ⊢
     simp only [bU] at h
     rw [C _ ab]
     simp [ib]
theorem Uq (c:UInt8):∀ (l acc:List UInt8),¬c∈l→gJ c acc l= [acc++l]:=by
 intro l
 induction l with
 | nil=>intro acc _; simp [gJ]
 | cons b l A=>
   intro acc h
   rw [dR,not_or] at h
   rw [gJ,if_neg (fun e=>h.1 e.symm),A _ h.2]; simp
theorem AB (c:UInt8):∀ (l acc:List UInt8),(gJ c acc l).length=l.count c+1:=by
 intro l
 induction l with
 | nil=>intro acc; simp [gJ]
 | cons b l C=>
   intro acc
   rw [gJ]
   by_cases A:b=c
   · subst A; rw [if_pos rfl,bU,C]; simp
   · rw [if_neg A,C,List.count_cons_of_ne A]
theorem Nn {c:UInt8} {l:List UInt8} (h:l.idxOf c < l.length):(l.drop<|l.idxOf c+1).count c+1=l.count c:=by
 have h1:=AB c l []
 rw [GM c l [] h,bU,AB] at h1
 omega
def fV (n:Nat):Value:= .int .i64 n
end Go.Hb
section
namespace Go.Hb
def ir (b:UInt8):Bool:=decide (33≤b.toNat∧b.toNat≠127)
def gO (w:List UInt8):Bool:=w.all ir
def oq (w:List UInt8):Bool:=decide (1≤w.length∧w.length≤64∧gO w=true)
theorem fg {α:Type} {l:List α} {i:Nat} {d:α} (h:i < l.length):l.getD i d∈l:=by
 rw [cM,bZ h]; exact List.getElem_mem h
theorem og {α:Type} {l:List α} {x:α} (d:α) (h:x∈l):∃ i,i < l.length∧l.getD i d=x:=by
 obtain ⟨i,hi,rfl⟩:=IF.1 h
 exact ⟨i,hi,by rw [cM,bZ hi]; rfl⟩
theorem BV {α:Type} {f:α→Bool} {l:List α} {i:Nat} (d:α) (h:i < l.length) (h1:f (l.getD i d)=false):l.all f=false :=by
 rw [List.all_eq_false]; exact ⟨_,fg h,by rw [h1]; exact dA⟩
theorem BW {α:Type} {f:α→Bool} {l:List α} (d:α) (h:∀ i,i < l.length→f (l.getD i d)=true):l.all f=true :=by
 rw [jT]; intro x c; obtain ⟨i,hi,rfl⟩:=og d c; exact h i hi
theorem uD {w:List UInt8} {i:Nat} (h:i < w.length) (h1:ir (w.getD i 0)=false):gO w=false :=BV 0 h h1
theorem uE {w:List UInt8} (h:∀ i,i < w.length→ir (w.getD i 0)=true):gO w=true :=BW 0 h
theorem Kl (b:UInt8):gO [b]=ir b:=by unfold gO; simp
def p5 (b:UInt8):Bool:=decide (b.toNat=92∨b.toNat=47∨b.toNat=35)
abbrev k0:Type :=List UInt8×List UInt8×Bool×Nat
def Td (r:k0):Value:= .tuple #[str r.1,str r.2.1,.bool r.2.2.1,.int .i64 r.2.2.2]
def iO:List UInt8→List UInt8→k0
 | acc,[]=>(acc,[],false,0)
 | acc,[b]=>if b.toNat=47 then (acc,[],true,0) else if b.toNat=92 then ([],[],false,20) else (acc++ [b],[],false,0)
 | acc,b::c::l=>if b.toNat=47 then (acc,c::l,true,0) else if b.toNat=92 then (if p5 c=true then iO (acc++ [c]) l else ([],[],false,20)) else iO (acc++ [b]) (c::l)
theorem A1 (acc:List UInt8):iO acc []=(acc,[],false,0):=by simp [iO]
theorem Hz {acc l:List UInt8} {b:UInt8} (h:b.toNat=47):iO acc (b::l)=(acc,l,true,0):=by
 cases l <;> simp [iO,h]
theorem Hw {acc:List UInt8} {b:UInt8} (h:b.toNat=92):iO acc [b]=([],[],false,20):=by simp [iO,h]
theorem Hx {acc l:List UInt8} {b c:UInt8} (h:b.toNat=92) (A:p5 c=false):iO acc (b::c::l)=([],[],false,20):=by simp [iO,h,A]
theorem Hv {acc l:List UInt8} {b c:UInt8} (h:b.toNat=92) (A:p5 c=true):iO acc (b::c::l)=iO (acc++ [c]) l:=by simp [iO,h,A]
theorem Hy {acc l:List UInt8} {b:UInt8} (h:¬b.toNat=47) (h1:¬b.toNat=92):iO acc (b::l)=iO (acc++ [b]) l:=by
 cases l <;> simp [iO,h,h1]
theorem V5 (n:Nat):∀ (l acc:List UInt8),l.length≤n→(iO acc l).1.length≤acc.length+l.length∧(iO acc l).2.1.length≤l.length:=by
 induction n with
 | zero=>intro l acc h; obtain rfl :=fR (by omega :l.length=0); rw [A1]; exact ⟨by simp,by simp⟩
 | succ n A=>
   intro l acc h
   cases l with
   | nil=>rw [A1]; exact ⟨by simp,by simp⟩
   | cons b l=>
     simp only [bU] at h ⊢
     by_cases h1:b.toNat=47
     · rw [Hz h1]; exact ⟨by simp only; omega,by simp only; omega⟩
     · by_cases h2:b.toNat=92
       · cases l with
         | nil=>rw [Hw h2]; exact ⟨by simp,by simp⟩
         | cons c l=>
           simp only [bU] at h ⊢
           cases hc:p5 c
           · rw [Hx h2 hc]; exact ⟨by simp,by simp⟩
           · rw [Hv h2 hc]
             have :=A l (acc++ [c]) ab
             rw [bK,ic] at this
             omega
       · rw [Hy h1 h2]
         have :=A l (acc++ [b]) ab
         rw [bK,ic] at this
         omega
def bA (f:List UInt8):k0:=iO [] f
theorem wX (f:List UInt8):(bA f).1.length≤f.length∧(bA f).2.1.length≤f.length:=by
 have :=V5 f.length f []<|cw _
 simpa [bA] using this
def lets (s:List UInt8):List UInt8:=s.foldl (fun a b=>if b∈a then a else a++ [b]) []
def letE (s:List UInt8):List UInt8×Nat:=if s= []∨gO s=false then ([],21) else (lets s,0)
theorem vz {s:List UInt8} {i:Nat} (h:i < s.length):lets (s.take<|i+1)=if s.getD i 0∈lets (s.take i) then lets (s.take i) else lets (s.take i)++ [s.getD i 0]:=by
 unfold lets
 rw [kT s i 0 h,BA]; rfl
theorem Fk (s:List UInt8):(lets s).length≤s.length:=by
 have key:∀ (s a:List UInt8),(s.foldl (fun a b=>if b∈a then a else a++ [b]) a).length≤a.length+s.length:=by
  intro s
  induction s with
  | nil=>intro a; simp
  | cons b s c=>
    intro a
    rw [r5,bU]
    split
    · have :=c a; omega
    · have :=c (a++ [b]); rw [bK,ic] at this; omega
 have :=key s []
 simpa [lets] using this
def marksOf (a:List UInt8):List Value:=(fD 256).map fun k=> .bool<|decide (jy k∈a)
theorem Fy (a:List UInt8):(marksOf a).length=256:=by simp [marksOf]
theorem RD (a:List UInt8) (b:UInt8):(marksOf a)[b.toNat]? =some (.bool<|decide (b∈a)):=by
 have :=ji b
 unfold marksOf
 rw [eR,xD ab]
 simp
theorem RF (a:List UInt8) (b:UInt8):(marksOf a).set b.toNat (.bool true)=marksOf (a++ [b]):=by
 apply nK
 intro k
 rw [ki,Fy]
 unfold marksOf
 rw [eR,eR]
 by_cases hk:k < 256
 · rw [xD hk]
   simp only [jU]
   have he:(jy k=b)↔b.toNat=k:=by
    constructor
    · rintro rfl; simp; omega
    · rintro rfl; simp
   by_cases h:b.toNat=k
   · have h2:=he.2 h
     simp [h,hk,h2]
   · have h2:¬jy k=b:=fun e=>h<|he.1 e
     simp [h,h2]
 · have :(fD 256)[k]? =none:=r6<|by simp; omega
   have c:=ji b
   rw [this]
   simp; omega
theorem RE:marksOf []=iY 256 (.bool false):=by
 unfold marksOf
 apply nK
 intro k
 rw [eR,List.getElem?_replicate]
 by_cases hk:k < 256
 · rw [xD hk]; simp [hk]
 · rw [r6 (by simp; omega)]; simp [hk]
theorem Bd.new {T e b:Nat} {w:World} (h:w.heap[b]? =some (.cells [xu none,.slice none 0 0].toArray T (0,0))):Bd T e w b (.slice none 0 0) []:=
 ⟨⟨none,h,.inl rfl⟩,dM _ _ _ _,by simp⟩
theorem Bd.step {T e b:Nat} {w0 w w':World} {c:Value} {l:List UInt8} (h:Bd T e w b c l) (A:Wk w0 w) (C:Md (BF b c) w w') (G:w0.heap.size≤b):Wk w0 w':=
 Md.trans' A C fun k hk E=>by have :=h.gZ E; omega
theorem Bd.AI {T e b:Nat} {w0 w w':World} {c:Value} {l:List UInt8} (h:Bd T e w b c l) (A:Wk w0 w) (C:Md (fun k=>c.ownBlock=some k) w w') (G:w0.heap.size≤b):Wk w0 w':=
 Md.trans' A C fun k hk E=>by have :=h.gZ (.inr E); omega
end Go.Hb
end
section
set_option linter.unusedSimpArgs false
namespace Go.Hb
def oK (g:Nat→Bool):Nat→Nat
 | 0=>0
 | n+1=>oK g n ||| (if g n=true then 2 ^ n else 0)
theorem JZ (g:Nat→Bool):∀ n,oK g n < 2 ^ n:=by
 intro n
 induction n with
 | zero=>exact Nat.zero_lt_one
 | succ n c=>
   rw [oK]
   refine BH (Nat.lt_trans c<|xM ay<|sc n) ?_
   split
   · exact xM ay<|sc n
   · exact Nat.two_pow_pos _
theorem sv (g:Nat→Bool) (j:Nat):∀ n,(oK g n).testBit j=(decide (j < n) && g j):=by
 intro n
 induction n with
 | zero=>simp [oK]
 | succ n C=>
   rw [oK,IY,C]
   by_cases A:j=n
   · subst A
     cases h:g j <;> simp [Nat.testBit_two_pow_self]
   · have c:(if g n=true then 2 ^ n else 0).testBit j=false :=by
      split
      · rw [IZ]; simp; omega
      · simp
     rw [c,HL]
     congr 1
     exact decide_eq_decide.2 ab
theorem uB {g:Nat→Bool} {x:Nat} (A:x < 2 ^ 64) (h:∀ j,j < 64→x.testBit j=g j):x=oK g 64:=by
 refine Nat.eq_of_testBit_eq fun j=> ?_
 rw [sv]
 by_cases c:j < 64
 · rw [h j c,decide_eq_true c,tH]
 · rw [decide_eq_false c,Bool.false_and]
   exact Nat.testBit_lt_two_pow<|qE A<|Nat.pow_le_pow_right ay ab
def dT (f:UInt8→Bool) (k:Nat):Nat:=oK (fun j=>f<|jy<|64 *k+j) 64
def dJ (f:UInt8→Bool):List Value:= [.int .u64 (dT f 0),.int .u64 (dT f 1),.int .u64 (dT f 2),.int .u64 (dT f 3)]
theorem rP (f:UInt8→Bool) (k:Nat):dT f k < 18446744073709551616:=JZ _ 64
theorem uO (f:UInt8→Bool):(dJ f).length=4:=rfl
theorem Da (f:UInt8→Bool):(dJ f).all et=true :=rfl
theorem yy (f:UInt8→Bool) {k:Nat} (h:k < 4):(dJ f)[k]? =some (.int .u64<|dT f k):=by
 match k,h with
 | 0,_=>rfl
 | 1,_=>rfl
 | 2,_=>rfl
 | 3,_=>rfl
theorem yz:dJ (fun _=>false)= [.int .u64 0,.int .u64 0,.int .u64 0,.int .u64 0]:=by
 have :∀ k,dT (fun _=>false) k=0:=fun k=>(uB (x:=0) ay fun j _=>by simp).symm
 unfold dJ; simp only [this]; rfl
theorem x9 (b:UInt8) {k j:Nat} (hk:k < 4) (A:j < 64):jy (64 *k+j)=b↔k=b.toNat / 64∧j=b.toNat % 64:=by
 have c:=ji b
 constructor
 · rintro rfl
   simp only [BJ]
   omega
 · rintro ⟨h1,h2⟩
   refine pE.1 ?_
   simp only [BJ]
   omega
theorem VV (f:UInt8→Bool) (b:UInt8) {k:Nat} (hk:k < 4):dT (fun x=>f x || decide (x=b)) k=if k=b.toNat / 64 then dT f k ||| 2 ^ (b.toNat % 64) else dT f k:=by
 split
 · rename_i h
   refine (uB (BH (rP f k)<|xM ay ab) fun j c=> ?_).symm
   rw [IY,IZ]
   have h1:(dT f k).testBit j=f (jy<|64 *k+j):=by unfold dT; rw [sv,decide_eq_true c,tH]
   rw [h1]
   congr 1
   exact decide_eq_decide.2<|by rw [x9 b hk c]; omega
 · rename_i h
   refine (uB (rP f k) fun j c=> ?_).symm
   have h1:(dT f k).testBit j=f (jy<|64 *k+j):=by unfold dT; rw [sv,decide_eq_true c,tH]
   show _=(f (jy<|64 *k+j) || decide (jy (64 *k+j)=b))
   rw [h1,decide_eq_false (by rw [x9 b hk c]; omega),HL]
theorem MD (f:UInt8→Bool) (b:UInt8):(dJ f).set (b.toNat / 64) (.int .u64 ((dT f (b.toNat / 64) ||| 2 ^ (b.toNat % 64):Nat):Int))=dJ (fun x=>f x || decide (x=b)):=by
 have c:=ji b
 apply nK
 intro k
 rw [ki,uO]
 by_cases hk:k < 4
 · rw [yy _ hk,yy _ hk,VV f b hk]
   by_cases h:b.toNat / 64=k
   · subst h; simp [show b.toNat / 64 < 4 by omega]
   · rw [if_neg h,if_neg (fun e=>h e.symm)]
 · rw [r6 (by rw [uO]; omega),r6 (by rw [uO]; omega)]
   simp; omega
theorem VU (f:UInt8→Bool) (b:UInt8):decide ((((dT f (b.toNat / 64) / 2 ^ (b.toNat % 64)) % 2:Nat):Int)=1)=f b:=by
 have c:=ji b
 have h1:(dT f<|b.toNat / 64).testBit (b.toNat % 64)=f b:=by
  unfold dT
  rw [sv,decide_eq_true (Nat.mod_lt _ ay),tH,(x9 b (k:=b.toNat / 64) (j:=b.toNat % 64) ab<|Nat.mod_lt _ ay).2 ⟨rfl,rfl⟩]
 rw [← h1,Nat.testBit_eq_decide_div_mod_eq]
 exact decide_eq_decide.2 ab
theorem B3 (b:UInt8):oy.wrap (e9 oy.bits (b.toNat:Int) &&& e9 oy.bits 63).toNat=((b.toNat % 64:Nat):Int):=by
 have h:∀ r:Fin 256,oy.wrap (e9 oy.bits ((r.val:Nat):Int) &&& e9 oy.bits 63).toNat=((r.val % 64:Nat):Int):=by decide+kernel
 exact h ⟨b.toNat,ji b⟩
theorem GC (b:UInt8):(b.toNat:Int).fdiv (2 ^ min (6:Int).toNat oy.bits)=((b.toNat / 64:Nat):Int):=by
 have h:∀ r:Fin 256,((r.val:Nat):Int).fdiv (2 ^ min (6:Int).toNat oy.bits)=((r.val / 64:Nat):Int):=by decide+kernel
 exact h ⟨b.toNat,ji b⟩
theorem T4 {m:Nat} (h:m < 64):dH.wrap ((1:Int)*2 ^ min ((m:Nat):Int).toNat dH.bits)=((2 ^ m:Nat):Int):=by
 have h2:(dH.bits:Nat)=64:=rfl
 rw [jx,h2,nR ab,Int.one_mul]
 have h3:(2:Nat) ^ m < 2 ^ 64:=xM ay h
 have h4:((2:Int) ^ m)=((2 ^ m:Nat):Int):=by simp
 rw [h4]
 obtain ⟨x,c⟩:∃ x:Nat,2 ^ m=x:=⟨_,rfl⟩
 rw [c] at h3 ⊢; exact nE ab
theorem Su {x y:Nat} (A:x < 2 ^ 64) (C:y < 2 ^ 64):dH.wrap (e9 dH.bits (x:Int) ||| e9 dH.bits (y:Int)).toNat=((x ||| y:Nat):Int):=by
 have c:(dH.bits:Nat)=64:=rfl
 have h1:(e9 dH.bits (x:Int) ||| e9 dH.bits (y:Int)).toNat=x ||| y:=by
  rw [HJ,ow,ow,c]
  congr 1 <;> omega
 rw [h1]
 have :=BH A C
 obtain ⟨z,E⟩:∃ z:Nat,x ||| y=z:=⟨_,rfl⟩
 rw [E] at this ⊢; exact nE ab
theorem T9 (x:Nat) {m:Nat} (h:m < 64):(x:Int).fdiv (2 ^ min ((m:Nat):Int).toNat dH.bits)=((x / 2 ^ m:Nat):Int):=by
 have h2:(dH.bits:Nat)=64:=rfl
 rw [jx,h2,nR ab]
 rw [show ((2:Int) ^ m)=((2 ^ m:Nat):Int) by simp,Int.fdiv_eq_ediv_of_nonneg _ (Int.natCast_nonneg _)]; rfl
theorem JD {x:Nat} (A:x < 2 ^ 64):dH.wrap (e9 dH.bits (x:Int) &&& e9 dH.bits 1).toNat=((x % 2:Nat):Int):=by
 have c:(dH.bits:Nat)=64:=rfl
 have h1:(e9 dH.bits (x:Int) &&& e9 dH.bits 1).toNat=x % 2:=by
  rw [HI,ow,ow,c,show ((x:Int) % ((2 ^ 64:Nat):Int)).toNat=x by omega]
  exact Nat.and_one_is_mod x
 rw [h1]; exact nE ab
section
variable {P:Program} {N:Fm} {σ:Nat→Value} {w:World} {dst:Option Nat} {ty:TypeId} {pos :String} {af:Array Edge} {g:Option (Nat×Bool)} {x:Operand}
theorem uQ {t:TypeId} {k:Nat} {f:UInt8→Bool} (E:ev N σ x= .int .u64 (dT f k)):(execOp (ev N σ) ⟨dst,.unOp .xor t x,ty,pos,af,g⟩).run P w= .ok (.value<|.int .u64<|dT (fun y=> !f y) k) w:=by
 have C:=rP f k
 have h1:dH.wrap (e9 dH.bits dH.max ^^^ e9 dH.bits (dT f k:Int)).toNat=(dT (fun y=> !f y) k:Int):=by
  have A:(dH.bits:Nat)=64:=rfl
  have h2:(e9 dH.bits dH.max ^^^ e9 dH.bits (dT f k:Int)).toNat=dT (fun y=> !f y) k:=by
   rw [BitVec.toNat_xor,ow,ow,A,show (dH.max % ((2 ^ 64:Nat):Int)).toNat=2 ^ 64 - 1 from by decide,show ((dT f k:Int) % ((2 ^ 64:Nat):Int)).toNat=dT f k by omega]
   refine uB (Nat.xor_lt_two_pow ay C) fun j c=> ?_
   rw [Nat.testBit_xor,Nat.testBit_two_pow_sub_one,decide_eq_true c,Bool.true_xor]
   congr 1
   unfold dT; rw [sv,decide_eq_true c,tH]
  rw [h2]; have :=rP (fun y=> !f y) k; exact nE ab
 have h3:(tM .xor dH dH.max (dT f k:Int)).run P w= .ok (.int .u64<|dT (fun y=> !f y) k) w:=by
  simp only [tM]
  rw [← h1]; rfl
 have h4:(Bi .xor<|.int dH (dT f k:Int)).run P w= .ok (.int .u64<|dT (fun y=> !f y) k) w:=by
  simp only [Bi]
  exact h3
 simp [execOp,E,h4]
end
def eY (t:List UInt8) (b:UInt8):Bool:=
 if t.length=1 then decide (t.getD 0 0=46∨t.getD 0 0=b)
 else if t.getD 1 0=94 then !decide (b∈(t.take<|t.length - 1).drop 2)
 else decide (b∈(t.take<|t.length - 1).drop 1)
def jJ:List UInt8→Option (List UInt8×List UInt8)
 | []=>none
 | b::l=>if b=91 then (if l.idxOf 93 < l.length∧l.idxOf 93≠0∧¬(l.idxOf 93=1∧l.getD 0 0=94) then some (b::l.take (l.idxOf 93 +1),l.drop (l.idxOf 93 +1)) else none) else some ([b],l)
theorem C1 {s t r:List UInt8} (h:jJ s=some (t,r)):r.length < s.length:=by
 cases s with
 | nil=>cases h
 | cons b l=>
   simp only [jJ] at h
   split at h
   · split at h
     · simp only [fE,uh] at h
       obtain ⟨_,rfl⟩:=h
       rw [gy,bU]; omega
     · cases h
   · simp only [fE,uh] at h
     obtain ⟨_,rfl⟩:=h
     simp
def ni:Nat→List UInt8→Option (List<|List UInt8)
 | 0,s=>if s= [] then some [] else none
 | f+1,s=>if s= [] then some [] else match jJ s with
   | none=>none
   | some (t,r)=>(ni f r).map (t:: ·)
theorem Nd:∀ (f g:Nat) (s:List UInt8),s.length≤f→s.length≤g→ni f s=ni g s:=by
 intro f
 induction f with
 | zero=>intro g s h _; obtain rfl :=fR (by omega :s.length=0); cases g <;> simp [ni]
 | succ f c=>
   intro g s h1 h2
   cases g with
   | zero=>obtain rfl :=fR (by omega :s.length=0); simp [ni]
   | succ g=>
     rw [ni,ni]
     split
     · rfl
     · cases hc:jJ s with
       | none=>rfl
       | some q=>
         obtain ⟨t,r⟩:=q
         have :=C1 hc
         simp only
         rw [c g r ab ab]
def k9 (s:List UInt8):Option (List<|List UInt8):=ni s.length s
theorem Na:k9 []=some []:=rfl
theorem Nc {s t r:List UInt8} (h:jJ s=some (t,r)):k9 s=(k9 r).map (t:: ·):=by
 have c:=C1 h
 unfold k9
 obtain ⟨m,hm⟩:∃ m,s.length=m+1:=⟨s.length - 1,ab⟩
 have hs:s≠[]:=fun e=>by rw [e] at hm; simp at hm
 rw [hm,ni,if_neg hs,h]
 simp only
 rw [Nd m r.length r ab (cw _)]
theorem Nb {s:List UInt8} (hs:s≠[]) (h:jJ s=none):k9 s=none:=by
 unfold k9
 have c:=nL.2 hs
 obtain ⟨m,hm⟩:∃ m,s.length=m+1:=⟨s.length - 1,ab⟩
 rw [hm,ni,if_neg hs,h]
def dP (s:List UInt8):List (List UInt8)×Nat:=
 if s= []∨512 < s.length then ([],40) else if s= [46] then ([],0) else match k9 s with
  | none=>([],41)
  | some xs=>if 16 < xs.length then ([],42) else (xs,0)
def kj (s:List UInt8) (i:Nat) (c:List (List UInt8)):Prop :=k9 s=(k9<|s.drop i).map (c++ ·)
theorem kj.start (s:List UInt8):kj s 0 []:=by
 unfold kj; rw [tT]; cases k9 s <;> simp
theorem kj.step {s t r:List UInt8} {i j:Nat} {c:List (List UInt8)} (h:kj s i c) (A:jJ (s.drop i)=some (t,r)) (C:r=s.drop j):kj s j (c++ [t]):=by
 subst C
 unfold kj at*
 rw [h,Nc A]
 cases k9 (s.drop j) <;> simp
theorem kj.bad {s:List UInt8} {i:Nat} {c:List (List UInt8)} (h:kj s i c) (hi:i < s.length) (A:jJ (s.drop i)=none):k9 s=none:=by
 unfold kj at h
 rw [h,Nb (fun e=>by have :=congrArg mg e; rw [gy,gz] at this; omega) A]; rfl
theorem kj.done {s:List UInt8} {i:Nat} {c:List (List UInt8)} (h:kj s i c) (hi:s.length≤i):k9 s=some c:=by
 unfold kj at h
 rw [h,kX hi,Na]; simp
theorem Mf {b:UInt8} {l:List UInt8} (h:b≠91):jJ (b::l)=some ([b],l):=by simp [jJ,h]
theorem Mg {b:UInt8} {l:List UInt8} (c:b=91) (h:l.idxOf 93 < l.length) (h1:l.idxOf 93≠0) (h2:¬(l.idxOf 93=1∧l.getD 0 0=94)):jJ (b::l)=some (b::l.take (l.idxOf 93 +1),l.drop (l.idxOf 93 +1)):=by
 simp only [jJ]; rw [if_pos c,if_pos ⟨h,h1,h2⟩]
theorem Me {b:UInt8} {l:List UInt8} (c:b=91) (h:¬(l.idxOf 93 < l.length∧l.idxOf 93≠0∧¬(l.idxOf 93=1∧l.getD 0 0=94))):jJ (b::l)=none:=by
 simp only [jJ]; rw [if_pos c,if_neg h]
def n3 (f:UInt8→Bool) (i:Nat):List UInt8:=((fD i).map jy).filter f
def bytesOf (f:UInt8→Bool):List UInt8:=n3 f 256
theorem Cd (f:UInt8→Bool) (i:Nat):n3 f (i+1)=n3 f i++(if f (jy i)=true then [jy i] else []):=by
 unfold n3
 rw [List.range_succ,gA,List.filter_append]
 congr 1
 cases h:f (jy i) <;> simp [h]
theorem sx (f:UInt8→Bool) (i:Nat):(n3 f i).length≤i:=by
 unfold n3
 refine dZ (mT _ _) ?_
 simp
theorem Kk (f:UInt8→Bool):(bytesOf f).Nodup:=by
 unfold bytesOf n3
 refine List.Nodup.sublist List.filter_sublist ?_
 rw [IG,List.pairwise_map]
 refine Wu ?_<|IG.1 List.nodup_range
 intro a b c A C e
 have h1:=mW.1 c
 have h2:=mW.1 A
 have :=congrArg UInt8.toNat e
 simp only [BJ] at this
 omega
def kR (f:UInt8→Bool):List UInt8:=
 if (bytesOf f).length=256 then [46]
 else if (bytesOf f).length=1∧(bytesOf f).getD 0 0≠46∧(bytesOf f).getD 0 0≠91 then bytesOf f
 else if f 93=true then [91,94]++bytesOf (fun b=> !f b)++ [93]
 else [91]++((bytesOf f).filter (fun b=>decide (b≠94))++(if 94∈bytesOf f then [94] else []))++ [93]
def o0 (ps:List (List UInt8)):List UInt8:=if ps= [] then [46] else ps.flatMap fun t=>kR<|eY t
theorem GB (f:UInt8→Bool):(kR f).length≤300:=by
 have h1:=sx f 256
 have h2:=sx (fun b=> !f b) 256
 unfold kR
 split
 · simp
 · split
   · unfold bytesOf; omega
   · split
     · simp only [bK,bU,gz]; unfold bytesOf; omega
     · have h3:=mT (fun b=>decide (b≠94))<|bytesOf f
       have h4:(if 94∈bytesOf f then [(94:UInt8)] else []).length≤1:=by split <;> simp
       simp only [bK,bU,gz]
       have h5:(bytesOf f).length≤256:=h1
       omega
theorem Ql {l:List UInt8} (hn:l.Nodup) {c:UInt8} (h:l.idxOf c < l.length):l.take (l.idxOf c)++l.drop (l.idxOf c+1)=l.filter (fun b=>decide (b≠c)):=by
 induction l with
 | nil=>simp at h
 | cons b l E=>
   rw [xH] at hn
   by_cases A:b=c
   · subst A
     simp only [BC,oC,nO,fK,tS,tT]
     rw [List.filter_cons_of_neg (by simp)]
     exact (xB.2 fun x C=>by simp; rintro rfl; exact hn.1 C).symm
   · have e:(b::l).idxOf c=l.idxOf c+1:=by rw [tX,show (b==c)=false from by simpa using A]; rfl
     rw [e] at h ⊢
     simp only [bU] at h
     rw [r8,tS,Bx,E hn.2 ab,List.filter_cons_of_pos (by simpa using A)]
theorem FN {l:List UInt8} {c:UInt8} (h:¬c∈l):l.filter (fun b=>decide (b≠c))=l:=
 xB.2 fun x A=>by simp; rintro rfl; exact h A
def j5 (ps:List (List UInt8)):List Value:=ps.flatMap fun t=>dJ<|eY t
theorem MC (a b:List (List UInt8)):j5 (a++b)=j5 a++j5 b:=by simp [j5]
end Go.Hb
end
section
namespace Go.Hb
abbrev Tx:Type :=List UInt8
structure dI where
 flag:Nat
 kind:Nat
 fX:Bool
 first :Nat
 count:Nat
structure cC where
 kind:Nat
 flag:Nat
 fX:Bool
 strip:Tx
 add:Tx
 cond:Tx
 next :List Nat
 line:Nat
structure aB where
 kind:Nat
 sA:Tx
 tr:Tx
 sp:List Nat
 least:Nat
 dj:List (Tx×Tx)
 aliases:List (List Nat)
 bz:List dI
 rules:List cC
def iJ:Tx:= [70,76,65,71]
def iT:Tx:= [83,69,84]
def jc:Tx:= [84,82,89]
def jo:Tx:= [78,69,69,68,65,70,70,73,88]
def jM:Tx:= [70,79,82,66,73,68,68,69,78,87,79,82,68]
def ka:Tx:= [75,69,69,80,67,65,83,69]
def kr:Tx:= [67,79,77,80,79,85,78,68,70,76,65,71]
def kL:Tx:= [78,79,83,85,71,71,69,83,84]
def lz:Tx:= [67,79,77,80,79,85,78,68,77,73,78]
def jb:Tx:= [82,69,80]
def iH:Tx:= [65,70]
def iK:Tx:= [80,70,88]
def du:Tx:= [83,70,88]
def zq:Tx:= [115,104,111,114,116]
def zn:Tx:= [108,111,110,103]
def zo:Tx:= [110,117,109]
def fQ:List Tx:= [jo,jM,ka,kr,kL]
def width (k:Tx):Nat:=if k∈fQ∨k=iJ∨k=iT∨k=jc∨k=lz∨k=jb∨k=iH then 2 else if k=iK∨k=du then 4 else 0
def gR (w:Tx):Nat:=if w= []∨gO w=false then 21 else if 32 < w.length then 22 else 0
def fJ (none:Bool) (fd:Tx):Except Nat Tx:=
 if none=true∧fd= [48] then .ok []
 else if (bA fd).2.2.2≠0 then .error (bA fd).2.2.2
 else if (bA fd).2.2.1=true then .error 114
 else if gR (bA fd).1≠0 then .error (gR (bA fd).1)
 else .ok (bA fd).1
def dE (cs:List dI) (x:Nat):Option dI:=cs.find? fun c=>decide (c.flag=x)
def ea (f:aB) (x:Nat):Bool:=decide (x∈f.sp) || (dE f.bz x).isSome
noncomputable def iw (f:aB) (s:Tx):Except Nat Nat:=
 if (iu f.kind s).2≠0 then .error (iu f.kind s).2 else if ea f (iu f.kind s).1=true then .error 115 else .ok (iu f.kind s).1
noncomputable def kq (kind:Nat) (s:Tx):Except Nat (List Nat):=if (eO kind s).2≠0 then .error (eO kind s).2 else .ok (eO kind s).1
noncomputable def ei (s:Tx) (most:Int):Except Nat Nat:=if (fj s most).2≠0 then .error 13 else .ok (fj s most).1
noncomputable def fM (kind:Nat) (al:List (List Nat)) (s:Tx):Except Nat (List Nat):=
 if al= [] then kq kind s
 else match ei s al.length with
  | .error _=> .error 13
  | .ok n=>if n=0 then .error 13 else .ok (al.getD (n - 1) [])
noncomputable def mG (kind:Nat) (al:List (List Nat)) (c:Nat) (r:k0):Except Nat (List Nat):=
 if r.2.2.1=true then (if c=1 then .error 118 else fM kind al r.2.1) else .ok []
def lP (row:List Tx):Except Nat Tx:=
 if row.length=5 then (if gO (row.getD 4 [])=false then .error 21 else if (dP<|row.getD 4 []).2≠0 then .error (dP<|row.getD 4 []).2 else .ok (o0 (dP<|row.getD 4 []).1)) else .ok [46]
def kF (r:k0):Except Nat Tx:=if r.2.2.2≠0 then .error r.2.2.2 else if r.1= [48] then .ok [] else if gR r.1≠0 then .error (gR r.1) else .ok r.1
noncomputable def iV (kind:Nat) (al:List (List Nat)) (c:dI) (ln:Nat) (row:List Tx):Except Nat cC:=
 if row.length≠4∧row.length≠5 then .error 111
 else match fJ true (row.getD 2 []) with
  | .error e=> .error e
  | .ok st=>match kF (bA<|row.getD 3 []) with
    | .error e=> .error e
    | .ok ad=>match mG kind al c.kind (bA<|row.getD 3 []) with
      | .error e=> .error e
      | .ok nx=>match lP row with
        | .error e=> .error e
        | .ok cd=> .ok ⟨c.kind,c.flag,c.fX,st,ad,cd,nx,ln⟩
def lW (ln:Nat) (row:List Tx):Except Nat (Tx×Tx):=
 if row.length≠3 then .error 111
 else match fJ false (row.getD 1 []) with
  | .error e=> .error e
  | .ok a=>match fJ true (row.getD 2 []) with
    | .error e=> .error e
    | .ok b=> .ok (a,b)
noncomputable def lM (kind:Nat) (ln:Nat) (row:List Tx):Except Nat (List Nat):=if row.length≠2 then .error 111 else kq kind (row.getD 1 [])
def group {α:Type} (hd:List Tx) (rd:Nat→List Tx→Except Nat α) (eof:Nat):Nat→List Rw→Except (Nat×Nat) (List α×List Rw)
 | 0,rows=> .ok ([],rows)
 | _+1,[]=> .error (eof,116)
 | n+1,(ln,row)::rows=>if row.take hd.length≠hd then .error (ln,116) else match rd ln row with
   | .error e=> .error (ln,e)
   | .ok x=>match group hd rd eof n rows with
     | .error e=> .error e
     | .ok r=> .ok (x::r.1,r.2)
def kt (s:Tx):Nat:=if s=zq then 1 else if s=zn then 2 else if s=zo then 3 else 0
def ordered (hs:List Tx):Bool:= !hs.any fun h=>decide (h∈fQ∨h=iH∨h=iK∨h=du)
noncomputable def gP (eof:Nat) (f:aB) (rows:List Rw) (ln:Nat) (row:List Tx):Except (Nat×Nat) (aB×List Rw):=
 match iw f (row.getD 1 []) with
 | .error e=> .error (ln,e)
 | .ok x=>if row.getD 2 []≠[89]∧row.getD 2 []≠[78] then .error (ln,114)
   else match ei (row.getD 3 []) 1024 with
    | .error e=> .error (ln,e)
    | .ok n=>if 1024 < f.rules.length+n then .error (ln,117)
      else match group [row.getD 0 [],row.getD 1 []] (iV f.kind f.aliases ⟨x,if row.getD 0 []=du then 2 else 1,decide (row.getD 2 []= [89]),f.rules.length,n⟩) eof n rows with
       | .error e=> .error e
       | .ok r=> .ok ({f with bz:=f.bz++ [⟨x,if row.getD 0 []=du then 2 else 1,decide (row.getD 2 []= [89]),f.rules.length,n⟩],rules:=f.rules++r.1},r.2)
noncomputable def jt (f:aB) (rows:List Rw) (ln:Nat) (row:List Tx):Except (Nat×Nat) (aB×List Rw):=
 match iw f (row.getD 1 []) with
 | .error e=> .error (ln,e)
 | .ok x=> .ok ({f with sp:=f.sp.set (fQ.idxOf<|row.getD 0 []) x},rows)
def ke (f:aB) (hs:List Tx) (rows:List Rw) (ln:Nat) (row:List Tx):Except (Nat×Nat) (aB×List Rw):=
 if ordered hs=false then .error (ln,113) else if kt (row.getD 1 [])=0 then .error (ln,114) else .ok ({f with kind:=kt<|row.getD 1 []},rows)
def l0 (f:aB) (rows:List Rw) (ln:Nat) (row:List Tx):Except (Nat×Nat) (aB×List Rw):=
 if gO (row.getD 1 [])=false then .error (ln,21) else .ok ({f with sA:=row.getD 1 []},rows)
def l1 (f:aB) (rows:List Rw) (ln:Nat) (row:List Tx):Except (Nat×Nat) (aB×List Rw):=
 if (letE<|row.getD 1 []).2≠0 then .error (ln,(letE<|row.getD 1 []).2) else .ok ({f with tr:=(letE<|row.getD 1 []).1},rows)
noncomputable def kf (f:aB) (rows:List Rw) (ln:Nat) (row:List Tx):Except (Nat×Nat) (aB×List Rw):=
 match ei (row.getD 1 []) 64 with
 | .error e=> .error (ln,e)
 | .ok n=>if n=0 then .error (ln,13) else .ok ({f with least:=n},rows)
noncomputable def kh (eof:Nat) (f:aB) (rows:List Rw) (ln:Nat) (row:List Tx):Except (Nat×Nat) (aB×List Rw):=
 match ei (row.getD 1 []) 256 with
 | .error e=> .error (ln,e)
 | .ok n=>match group [jb] lW eof n rows with
   | .error e=> .error e
   | .ok r=> .ok ({f with dj:=f.dj++r.1},r.2)
noncomputable def jG (eof:Nat) (f:aB) (hs:List Tx) (rows:List Rw) (ln:Nat) (row:List Tx):Except (Nat×Nat) (aB×List Rw):=
 if iK∈hs∨du∈hs then .error (ln,113)
 else match ei (row.getD 1 []) 1024 with
  | .error e=> .error (ln,e)
  | .ok n=>match group [iH] (lM f.kind) eof n rows with
    | .error e=> .error e
    | .ok r=> .ok ({f with aliases:=f.aliases++r.1},r.2)
noncomputable def bX (eof:Nat) (f:aB) (hs:List Tx) (rows:List Rw) (ln:Nat) (row:List Tx):Except (Nat×Nat) (aB×List Rw):=
 if row.getD 0 []∈fQ then jt f rows ln row
 else if row.getD 0 []=iJ then ke f hs rows ln row
 else if row.getD 0 []=iT then l0 f rows ln row
 else if row.getD 0 []=jc then l1 f rows ln row
 else if row.getD 0 []=lz then kf f rows ln row
 else if row.getD 0 []=jb then kh eof f rows ln row
 else if row.getD 0 []=iH then jG eof f hs rows ln row
 else gP eof f rows ln row
noncomputable def gH (eof:Nat):Nat→aB→List Tx→List Rw→Except (Nat×Nat) aB
 | 0,f,_,rows=>if rows= [] then .ok f else .error (0,0)
 | _+1,f,_,[]=> .ok f
 | k+1,f,hs,(ln,row)::rows=>
   if width (row.getD 0 [])=0 then .error (ln,110)
   else if row.length≠width (row.getD 0 []) then .error (ln,111)
   else if width (row.getD 0 [])=2∧row.getD 0 []∈hs then .error (ln,112)
   else match bX eof f hs rows ln row with
    | .error e=> .error e
    | .ok r=>gH eof k r.1 (hs++ [row.getD 0 []]) r.2
def lT (f:aB) (x:Nat):Bool:=decide (x=f.sp.getD 0 0) || (match dE f.bz x with | some c=>decide (c.kind=2) | none=>false)
def mZ (f:aB) (r:cC):Bool:=r.next.any fun x=> !lT f x
def im:aB:=⟨1,[],[],[0,0,0,0,0],3,[],[],[],[]⟩
noncomputable def fF (t:Tx):Except (Nat×Nat) aB:=
 if 65536 < t.length then .error (0,10)
 else match gH ((da t).length+1) (eK t).length im [] (eK t) with
  | .error e=> .error e
  | .ok f=>match f.rules.find? (mZ f) with
    | some r=> .error (r.line,118)
    | none=> .ok f
theorem sY {α:Type} {hd:List Tx} {rd:Nat→List Tx→Except Nat α} {eof:Nat} :∀ (n:Nat) (rows:List Rw) (r:List α×List Rw),group hd rd eof n rows= .ok r→r.2.length≤rows.length∧r.1.length=n∧∀ q∈r.2,q∈rows:=by
 intro n
 induction n with
 | zero=>intro rows r h; simp only [group,qp] at h; subst h; exact ⟨cw _,rfl,fun q c=>c⟩
 | succ n A=>
   intro rows r h
   cases rows with
   | nil=>simp [group] at h
   | cons q rows=>
     obtain ⟨ln,row⟩:=q
     simp only [group] at h
     split at h
     · cases h
     · cases hr:rd ln row with
       | error e=>rw [hr] at h; cases h
       | ok x=>
         rw [hr] at h
         simp only at h
         cases hg:group hd rd eof n rows with
         | error e=>rw [hg] at h; cases h
         | ok C=>
           rw [hg] at h
           simp only [qp] at h
           subst h
           have :=A rows C hg
           refine ⟨by simp only [bU]; omega,by simp only [bU]; omega,fun q c=>nN _<|this.2.2 q c⟩
def gM {α:Type} (hd:List Tx) (rd:Nat→List Tx→Except Nat α) (eof:Nat) (T:Except (Nat×Nat) (List α×List Rw)) (xs:List α) (n:Nat) (rows:List Rw):Prop :=
 T=match group hd rd eof n rows with
  | .error e=> .error e
  | .ok r=> .ok (xs++r.1,r.2)
theorem gM.start {α:Type} {hd:List Tx} {rd:Nat→List Tx→Except Nat α} {eof n:Nat} {rows:List Rw} :gM hd rd eof (group hd rd eof n rows) [] n rows:=by
 unfold gM; cases group hd rd eof n rows <;> rfl
section
variable {α:Type} {hd:List Tx} {rd:Nat→List Tx→Except Nat α} {eof n:Nat} {T:Except (Nat×Nat) (List α×List Rw)} {xs:List α} {rows:List Rw} {ln:Nat} {row:List Tx}
theorem gM.ends (h:gM hd rd eof T xs n []) (hn:0 < n):T= .error (eof,116):=by
 obtain ⟨m,rfl⟩:∃ m,n=m+1:=⟨n - 1,ab⟩
 exact h
theorem gM.other (h:gM hd rd eof T xs n ((ln,row)::rows)) (hn:0 < n) (c:row.take hd.length≠hd):T= .error (ln,116):=by
 obtain ⟨m,rfl⟩:∃ m,n=m+1:=⟨n - 1,ab⟩
 unfold gM at h; simp only [group] at h; rw [if_pos c] at h; exact h
theorem gM.bad {e:Nat} (h:gM hd rd eof T xs n ((ln,row)::rows)) (hn:0 < n) (c:row.take hd.length=hd) (he:rd ln row= .error e):T= .error (ln,e):=by
 obtain ⟨m,rfl⟩:∃ m,n=m+1:=⟨n - 1,ab⟩
 unfold gM at h; simp only [group] at h; rw [if_neg (fun h2=>h2 c),he] at h; exact h
theorem gM.step {x:α} (h:gM hd rd eof T xs n ((ln,row)::rows)) (hn:0 < n) (c:row.take hd.length=hd) (he:rd ln row= .ok x):gM hd rd eof T (xs++ [x]) (n - 1) rows:=by
 obtain ⟨m,rfl⟩:∃ m,n=m+1:=⟨n - 1,ab⟩
 unfold gM at h ⊢; simp only [group] at h; rw [if_neg (fun h2=>h2 c),he] at h
 simp only [r9] at h ⊢
 rw [h]
 cases group hd rd eof m rows with
 | error e=>rfl
 | ok r=>simp only [ib]; rfl
theorem gM.done (h:gM hd rd eof T xs 0 rows):T= .ok (xs,rows):=by
 unfold gM at h; simpa [group] using h
end
end Go.Hb
end
