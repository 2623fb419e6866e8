/-
  Walks and plain laws that the law rests on, laid together. No conditions but those that each theorem names.
-/
import Derived.WalkKit
import Derived.OrdersHeld
import Derived.TacticsIn
import Derived.Lib.Strings
import Derived.Lib.UnsafeStr
import Derived.Laws.MakeOwn
import Derived.Laws.StructEq
import Derived.SliceStrings
import Derived.Carry
import Derived.JoinedCond
import Derived.ProofKit
import Derived.OpenShut
import Derived.Test.YtchkamdekbbgeaaGreatDoorRows
import Derived.Sort.AssemblyPlain
import Derived.RangeFuncFrom
import Derived.RangeFuncLeaves
import Derived.Recover
import Derived.Laws.OwnMore
import Derived.Lib.Bytealg
import Derived.Lib.SliceRun
import Derived.OrdersIn
import Derived.Maps.RangeRun
import Derived.Test.YtchkamdekbbgeaaGreatDoorChecked
import Derived.Shelf.Slices.In.SortAlone
import Derived.Shelf.Slices.In.SortNone
import Derived.Sort.OwnSortedInts
import Derived.Sort.EveryDepth
import Derived.Shelf.SlSortCmp.NoneTotal
set_option linter.unusedVariables false
open Array renaming ext_getElem?→IS,getD_eq_getD_getElem?→BT,getElem?_eq_getElem→xT,getElem?_eq_none→p7,getElem?_eq_some_iff→bY,getElem?_setIfInBounds→BU,getElem?_toList→uE,length_toList→uF,mem_toList_iff→uG,range→oY,replicate→sM,setIfInBounds_comm→BV,toArray_toList→xU,toList_append→IU,toList_inj→xW,toList_map→lB,toList_setIfInBounds→BX
open BitVec renaming ofInt→fy,toNat_and→IW,toNat_ofInt→oZ,toNat_or→IX
open Bool renaming and_eq_true→gj,eq_iff_iff→p8,noConfusion→dv,not_eq_true'→xZ,or_eq_true→sN,or_false→IZ,true_and→uH
open Except.ok renaming injEq→qX
open Go.Addr renaming add→x4
open Go.Builtin renaming append_→x5,firstCells→I0,lenOf→I1,len_→I2
open Go.Calls renaming mono→jX
open Go.Conv renaming bytesToString→I5,seenAt→I6,unsafePointer→I7
open Go.DataW renaming TrodAll→I8,trod→sO
open Go.Deferred renaming ofValue→o5
open Go.Fence renaming wide→gZ
open Go.Instr renaming alloc→Jb,buildSlice→BZ,checkKey→nv,fill→l7,findKey→q4,loadAt→Jf,lookup→Jg,slice→uJ,sliceAt→q6,sliceBound→q7,sliceBounds→od,storeAt→B8,sureAddr→p9
open Go.IntKind renaming i64→x6,u16→og,u64→dO,u8→o6
open Go.Next renaming value→B9
open Go.Obj.cells renaming injEq→uK
open Go.Op renaming equal→Ca,equalIn→o7,intArith→uL,intBits→uM,intCmp→sP,stringOp→Cb,unary→Cc
open Go.Oper renaming upon→kg,uponIn→qa,wp→je
open Go.Region renaming Mode→q8,binds→jo,free_spec→Cd,noSelect_spec→Ce,ready→iu,wanted→qc
open Go.Result renaming andThen_ok→ny,ok→Cf
open Go.Sem renaming run_bind→nz,run_ite→Cj,run_pure→ra
open Go.Sort renaming SortedIn→sQ
open Go.Value renaming bool→bU,cells→sT,int→fG,oneCell'→eO,ownBlock→gG,pointer→x8,slice→bE
open Go.Value.slice renaming injEq→l8
open Go.Value.string renaming inj→Jt
open Go.World renaming freeze→uR,ownsRow_nil→dS,setCell→yb,shape?→Cp
open Int renaming toNat_natCast→jq
open List.Pairwise renaming imp_of_mem→Xz
open List renaming all_cons→yc,all_eq_true→kK,any_eq_true→yd,append_assoc→dZ,append_nil→ep,cons_append→Cq,drop_append→Jy,drop_eq_nil_of_le→lC,drop_of_length_le→JA,drop_succ_cons→uS,drop_take→yh,drop_zero→uT,eq_nil_of_length_eq_zero→gx,ext_getElem?→om,filter_eq_self→yj,flatMap_cons→jr,foldl_append→Cu,foldl_cons→sV,getD_cons_zero→mJ,getD_eq_getElem?_getD→cR,getElem?_append_left→mK,getElem?_append_right→nD,getElem?_cons_succ→JF,getElem?_drop→Cv,getElem?_eq_getElem→bW,getElem?_eq_none→sW,getElem?_map→fH,getElem?_range→yo,getElem?_set→kh,getElem?_take→oo,idxOf_cons→uU,idxOf_cons_self→Cx,length→mL,length_append→bK,length_cons→bX,length_drop→gH,length_filter_le→o8,length_nil→fZ,length_pos_iff→mM,length_singleton→iR,length_take→ee,mapM_toArray→uX,map_append→iw,map_cons→qj,mem_append_left→yr,mem_cons→eB,mem_cons_of_mem→oq,mem_iff_getElem→JM,mem_map→gQ,mem_map_of_mem→rk,mem_of_getElem?→fz,mem_range→nG,mem_singleton→iS,nil_append→mN,nodup_cons→ys,nodup_iff_pairwise_ne→JO,pairwise_cons→nH,range→fI,replicate→jG,size_toArray→nI,takeWhile_sublist→JQ,take_append→u7,take_nil→JT,take_of_length_le→e9,take_succ_cons→sZ,take_zero→ph,zipIdx_cons→yw
open Nat renaming add_assoc→JV,add_sub_cancel→s5,add_sub_cancel_left→JZ,beq→vc,ble→mO,blt→fP,eq_of_beq_eq_true→J0,le_of_ble_eq_true→qk,le_refl→cz,le_trans→ea,lt_of_lt_of_le→rp,lt_or_ge→jh,lt_succ_self→s6,min_eq_left→ot,mul_le_mul_right→ou,or_lt_two_pow→CC,pow_lt_pow_right→yx,succ_mul→pk,testBit_or→Kb,testBit_two_pow→Kc,zero_add→fQ,zero_mul→CD
open Option renaming bind_some→pn,isSome_iff_exists→l9,map_eq_some_iff→ma,map_some→kj
open Option.some renaming injEq→fJ
open Prod renaming fst→gk
open Prod.mk renaming injEq→vf
open UInt8 renaming ofNat→jZ,toNat_inj→rr,toNat_lt→jH,toNat_ofNat'→CE
open Go.Proofs.Tryz
open Go.RowKit

namespace Go.Hb
theorem ab {p:Prop} (h:p:=by omega):p:=h
theorem ag {p:Prop} (h:p:=by kernel_rfl):p:=h
theorem aw {p:Prop} (h:p:=by decide):p:=h
theorem aa {α:Sort _} {a:α} :a=a:=rfl
end Go.Hb
section
namespace Go.Hb
structure Fm where
 n:Nat
 D:List Deferred
 F:List Nat
 r:Option Nat
def cY (σ:Nat→Value) (d:Nat) (v:Value):Nat→Value:=fun i=>cond (vc i d) v<|σ i
def fi (σ:Nat→Value):Option Nat→Value→Nat→Value
 | some d,v=>cY σ d v
 | none,_=>σ
def act (N:Fm) (σ:Nat→Value):Act:=⟨((fI N.n).map σ).toArray,N.D⟩
def ev (N:Fm) (σ:Nat→Value):Operand→Value
 | .tmp t=>cond (fP t N.n) (σ t) undef
 | .const v=>v
 | .global g=> .pointer<|some ⟨g,0,none⟩
 | .func f=> .func (.func f) #[] #[]
theorem oC (N:Fm) (σ:Nat→Value) (t:Nat):(act N σ).tmps[t]? =if t < N.n then some (σ t) else none:=by
 simp only [act,List.getElem?_toArray,fH]
 split
 · rename_i h; rw [yo h]; rfl
 · rename_i h; rw [sW (by simpa using h)]; rfl
theorem ga (N:Fm) (σ:Nat→Value):(act N σ).eval=ev N σ:=by
 funext x
 cases x with
 | tmp t=>
   simp only [Act.eval,ev,BT,oC]
   by_cases h:t < N.n
   · rw [if_pos h,show fP t N.n=true from by simpa using h]; rfl
   · rw [if_neg h,show fP t N.n=false from by cases hx:fP t N.n <;> simp_all [fP,Nat.ble_eq] <;> omega]; rfl
 | _=>rfl
theorem vp {a b:Act} (hd:a.defers=b.defers) (c:∀ i:Nat,a.tmps[i]? =b.tmps[i]?):a=b:=by
 cases a; cases b
 simp only at hd c
 subst hd
 congr 1
 exact IS c
theorem jj (N:Fm) (σ:Nat→Value) (dst:Option Nat) (v:Value):(act N σ).put dst v=act N (fi σ dst v):=by
 cases dst with
 | none=>rfl
 | some d=>
   refine vp aa fun i=> ?_
   have q:((act N σ).put (some d) v).tmps=(act N σ).tmps.setIfInBounds d v:=rfl
   rw [q,BU,oC,oC]
   have hs:(act N σ).tmps.size=N.n:=by simp [act]
   simp only [fi,cY]
   by_cases c:i=d
   · subst c
     rw [hs]
     have a:vc i i=true :=by simp
     by_cases h:i < N.n
     · rw [if_pos rfl,if_pos h,if_pos h,a]; rfl
     · rw [if_pos rfl,if_neg h,if_neg h]
   · rw [if_neg (fun e=>c e.symm)]
     have a:vc i d=false :=by
      cases hx:vc i d
      · rfl
      · exact absurd (J0 hx) c
     rw [a]; rfl
theorem oR {σ:Nat→Value} {i:Nat} {v:Value} (h:σ i=v):cY σ i v=σ:=by
 funext j
 unfold cY
 cases hx:vc j i
 · rfl
 · have :=J0 hx; subst this; exact h.symm
def lift (N:Fm) (Q:Exit→(Nat→Value)→World→Prop):Exit→Act→World→Prop
 | .panic c,a,w=> ∃ σ,a=act N σ∧∀ q,(∀ i∈N.F,q i=σ i)→Q (.panic c) q w
 | .outgrown,_,_=>False
 | e,a,w=> ∃ σ,a=act N σ∧Q e σ w
def fe:Option Nat→Fence
 | none=>gZ
 | some l=>gZ.inRound l
theorem zK (r:Option Nat):(fe r).round=r:=by cases r <;> rfl
theorem vZ (r:Option Nat) (f:FuncId):(fe r).fn f:=by cases r <;> trivial
theorem tL (r:Option Nat):(fe r).depth=none:=by cases r <;> rfl
theorem ER {r:Option Nat} {n:Nat} {P:Program} {f:FuncId} {args:Array Value} {w:World} {R:Ending→World→Prop} (h:Calls P f args w R):CallsIn (fe r) n P f args w R:=by
 cases r
 · exact callsIn_wide.2 h
 · exact (callsIn_wide (n:=n)).2 h
theorem zL {r:Option Nat} {n:Nat} {P:Program} {row:String} {args:Array Value} {w:World} {R:Value→World→Prop} (h:Rows P row args w R):RowsIn (fe r) n P row args w R:=fun c cs _=>by
 obtain ⟨v,w',a,hs⟩:=h c cs
 refine ⟨v,w',a,?_⟩
 cases r
 · exact stepsIn_wide.2 hs
 · exact stepsIn_wide.2 hs
def GR (ops:List Oper):Bool:=ops.all fun o=>match o.op with | .defer _=>false | _=>true
def sn (r:Option Nat) (ops:List Oper):Bool:=match r with | none=>true | some _=>GR ops
theorem Tm {l:List Oper} (h:GR l=true):∀ o∈l,∀ c,o.op≠.defer c:=fun o a c e=>by
 have :=kK.1 h o a
 rw [e] at this
 cases this
theorem Al {r:Option Nat} {P:Program} {ops:Array Oper} {Q:Exit→Act→World→Prop} (A:¬LetsOut Q) (C:sn r ops.toList=true):∀ (l:List Nat) (a:Act) (w:World),wpOps P ops Q l a w→wpOpsIn (fe r) 0 P ops Q l a w:=by
 intro l
 induction l with
 | nil=>exact fun _ _ h=>h
 | cons i l q=>
   intro a w h
   simp only [wpOps] at h
   simp only [wpOpsIn]
   cases ho:ops[i]? with
   | none=>simp only [ho] at h ⊢; exact q a w h
   | some o=>
     simp only [ho] at h ⊢
     by_cases hw:qc o (yielded ops a.tmps)=true
     · rw [if_pos hw] at h ⊢
       rcases h with h | h
       · refine ⟨fun f _=>vZ r f,?_⟩
         rw [zK]
         have E:o.semAt r a.eval=execOp a.eval o:=by
          cases r with
          | none=>rfl
          | some k=>exact Oper.semAt_eq _ _ _<|Tm C o<|uG.2<|Array.mem_of_getElem? ho
         rw [E]
         unfold je at h
         generalize (execOp a.eval o).run P w=x at h
         cases x with
         | ok n w'=>
           cases n <;> simp only [kg,qa] at h ⊢ <;>
            first
             | exact q _ _ h
             | (refine ⟨fun c=>(by rw [tL] at c; cases c),CallsIn.mono (ER h) fun e w'' he=> ?_⟩
                cases e <;> first | exact q _ _ he | exact he)
             | exact ⟨fun c=>(by rw [tL] at c; cases c),RowsIn.mono (zL h) fun v w'' he=>q _ _ he⟩
         | halt x w'=>cases x <;> simp only [kg,qa] at h ⊢ <;> exact h
       · exact absurd h.2 A
     · rw [if_neg hw] at h ⊢
       exact ⟨fun f _=>vZ r f,q _ _ h⟩
def c6 (P:Program) (N:Fm) (c:Code) (Q:Exit→(Nat→Value)→World→Prop) (σ:Nat→Value) (w:World):Prop :=
 c.wpIn (fe N.r) 0 P (lift N Q) (act N σ) w
def dR (P:Program) (N:Fm) (ops:Array Oper) (Q:Exit→(Nat→Value)→World→Prop) (l:List Oper) (σ:Nat→Value) (w:World):Prop :=
 wpList P ops (lift N Q) l (act N σ) w
def kY (K:(Nat→Value)→World→Prop) (Q:Exit→(Nat→Value)→World→Prop):Exit→(Nat→Value)→World→Prop
 | .normal,σ,w=>K σ w
 | e,σ,w=>Q e σ w
def pP (id:Nat) (Q:Exit→(Nat→Value)→World→Prop):Exit→(Nat→Value)→World→Prop
 | .exit a,σ,w=>if a=id then Q .normal σ w else Q (.exit a) σ w
 | e,σ,w=>Q e σ w
section
variable {P:Program} {N:Fm} {Q:Exit→(Nat→Value)→World→Prop} {σ:Nat→Value} {w:World} {K:(Nat→Value)→World→Prop}
theorem Sn {Q A:Exit→(Nat→Value)→World→Prop} (h:∀ e σ w,Q e σ w→A e σ w) (e:Exit) (a:Act) (w:World):lift N Q e a w→lift N A e a w:=by
 cases e <;> first | exact fun h=>h.elim | exact fun ⟨σ,c,q⟩=>⟨σ,c,h _ _ _ q⟩ | exact fun ⟨σ,c,q⟩=>⟨σ,c,fun E C=>h _ _ _<|q E C⟩
theorem Xa {a:Exit→(Nat→Value)→World→Prop} {c:Code} (h:∀ e σ w,Q e σ w→a e σ w) (q:c6 P N c Q σ w):c6 P N c a σ w:=
 wpIn_mono q (Sn h)
theorem tn (h:K σ w):kY K Q .normal σ w:=h
theorem te (id:Nat) (h:Q (.exit id) σ w):kY K Q (.exit id) σ w:=h
theorem tr (h:Q .ret σ w):kY K Q .ret σ w:=h
theorem bn {id:Nat} (h:Q .normal σ w):pP id Q .normal σ w:=h
theorem be {id:Nat} (h:Q .normal σ w):pP id Q (.exit id) σ w:=by simpa only [pP,if_true] using h
theorem mj {id a:Nat} (c:a≠id) (h:Q (.exit a) σ w):pP id Q (.exit a) σ w:=by simpa only [pP,if_neg c] using h
theorem br {id:Nat} (h:Q .ret σ w):pP id Q .ret σ w:=h
theorem sq {x y:Code} (h:∀ K:(Nat→Value)→World→Prop,(∀ σ w,c6 P N y Q σ w→K σ w)→c6 P N x (kY K Q) σ w):c6 P N (.seq x y) Q σ w:=by
 refine wpIn_seq<|wpIn_mono (h (fun σ w=>c6 P N y Q σ w) fun _ _ h=>h) ?_
 intro e a w q
 cases e with
 | normal=>obtain ⟨σ,rfl,A⟩:=q; exact A
 | panic c=>exact q
 | outgrown=>exact q
 | _=>obtain ⟨σ,rfl,A⟩:=q; exact ⟨σ,rfl,A⟩
theorem e6 {x y:Code} (a:(Nat→Value)→World→Prop) (h:c6 P N x (kY a Q) σ w) (hk:∀ σ w,a σ w→c6 P N y Q σ w):c6 P N (.seq x y) Q σ w:=
 sq fun _ q=>Xa (fun e _ _ c=>by cases e <;> first | exact q _ _ (hk _ _ c) | exact c) h
theorem ct {c:Operand} {x y:Code} (a:ev N σ c= .bool true) (h:c6 P N x Q σ w):c6 P N (.cond c x y) Q σ w:=
 wpIn_cond_true (by rw [ga]; exact a) h
theorem cf {c:Operand} {x y:Code} (a:ev N σ c= .bool false) (h:c6 P N y Q σ w):c6 P N (.cond c x y) Q σ w:=
 wpIn_cond_false (by rw [ga]; exact a) h
theorem cb {c:Operand} {x y:Code} {b:Bool} (a:ev N σ c= .bool b) (A:b=true→c6 P N x Q σ w) (q:b=false→c6 P N y Q σ w):c6 P N (.cond c x y) Q σ w:=by
 cases b
 · exact cf a<|q aa
 · exact ct a<|A aa
theorem cd {c:Operand} {x y:Code} {p:Prop} [Decidable p] (a:ev N σ c= .bool (decide p)) (A:p→c6 P N x Q σ w) (q:¬p→c6 P N y Q σ w):c6 P N (.cond c x y) Q σ w:=
 cb a (fun h=>A<|of_decide_eq_true h) (fun h=>q<|of_decide_eq_false h)
theorem aB {id:Nat} {c:Code} (h:c6 P N c (pP id Q) σ w):c6 P N (.block id c) Q σ w:=by
 refine wpIn_block<|wpIn_mono h ?_
 intro e a w A
 cases e with
 | panic c=>exact A
 | outgrown=>exact A
 | exit C=>
   obtain ⟨σ,rfl,q⟩:=A
   simp only [pP,Exit.inBlock] at q ⊢
   split
   · rename_i e; rw [if_pos e] at q; exact ⟨σ,rfl,q⟩
   · rename_i e; rw [if_neg e] at q; exact ⟨σ,rfl,q⟩
 | _=>obtain ⟨σ,rfl,q⟩:=A; exact ⟨σ,rfl,q⟩
theorem ext {id:Nat} (h:Q (.exit id) σ w):c6 P N (.exit id) Q σ w:=wpIn_exit ⟨σ,rfl,h⟩
theorem aR (h:Q .normal σ w):c6 P N .skip Q σ w:=wpIn_skip ⟨σ,rfl,h⟩
theorem rt (h:Q .ret σ w):c6 P N .ret Q σ w:=wpIn_ret ⟨σ,rfl,h⟩
theorem fx {c:Code} {v:Value} (i:Nat) (h:σ i=v) (a:c6 P N c Q (cY σ i v) w):c6 P N c Q σ w:=by rw [oR h] at a; exact a
theorem lp {c:Code} (G:Nat→(Nat→Value)→World→Prop) (n:Nat) (ab:G n σ w)
 (h:∀ n σ w,G n σ w→c6 P N c (kY (fun ak w'=> ∃ m,m < n∧G m ak w') Q) σ w):c6 P N (.loop c) Q σ w:=by
 intro b k cs ah J M
 have key:∀ n σ w,G n σ w→
  ∃ e I w',lift N Q e I w'∧ArrivesIn (Machine.fenced P<|fe N.r) P (lone (b.atR (act N σ) (.code c:: .inLoop c::k)) cs w) b k cs e I w':=by
  intro n
  induction n using Nat.strongRecOn with
  | _ n ai=>
    intro σ w ac
    obtain ⟨e,O,E,C,q⟩:=h n σ w ac b (.inLoop c::k) cs ah J M
    cases e with
    | normal=>
      obtain ⟨a,rfl,m,hm,ad⟩:=C
      obtain ⟨Z,V,aj,ag,ae⟩:=ai m hm a E ad
      exact ⟨Z,V,aj,ag,.of_steps (StepsIn.trans q<|.one (fenced_calm J M aa) stepR_inLoop) ae⟩
    | exit id=>obtain ⟨a,rfl,A⟩:=C; exact ⟨.exit id,act N a,E,⟨a,rfl,A⟩,.pass (x:= .inLoop c) rfl (fun _ _=> .inl<|by simp) q⟩
    | goto l=>obtain ⟨a,rfl,A⟩:=C; exact ⟨.goto l,act N a,E,⟨a,rfl,A⟩,.pass (x:= .inLoop c) rfl (fun _ _=> .inl<|by simp) q⟩
    | ret=>obtain ⟨a,rfl,A⟩:=C; exact ⟨.ret,act N a,E,⟨a,rfl,A⟩,.pass (x:= .inLoop c) rfl (fun _ _=> .inl<|by simp) q⟩
    | panic Y=>exact ⟨.panic Y,O,E,C,.pass (x:= .inLoop c) rfl (fun _ _=> .inl<|by simp) q⟩
    | outgrown=>exact C.elim
 obtain ⟨e,I,w',A,q⟩:=key _ σ w ab
 exact ⟨e,I,w',A,.of_steps (.one (fenced_calm J M aa) stepR_loop) q⟩
def cJ (P:Program) (N:Fm) (o:Oper) (σ:Nat→Value) (w:World) (K:(Nat→Value)→World→Prop):Prop :=
 je P o (act N σ) w (fun a w=> ∃ σ,a=act N σ∧K σ w) (fun _ _ _=>False)
theorem Wz {o:Oper} {a:Act} {K A:Act→World→Prop} {Q:Exit→Act→World→Prop} (h:∀ a w,K a w→A a w)
 (r:Result Next) (q:o.upon P a K (fun _ _ _=>False) r):o.upon P a A Q r:=by
 cases r with
 | ok n w'=>
   cases n <;> simp only [kg] at q ⊢ <;>
    first
     | exact h _ _ q
     | exact jX q (fun e w'' he=>by
      cases e with
      | returned v=>exact h _ _ he
      | panicked c=>exact he.elim
      | outgrown=>obtain ⟨_,_,C⟩:=he; exact C.elim)
     | exact Rows.mono q fun _ _ he=>h _ _ he
 | halt x w'=>cases x <;> simp only [kg] at q ⊢
theorem sH {K:(Nat→Value)→World→Prop} {c:Act→World→Prop} {Q:Exit→Act→World→Prop} {o:Oper} (h:cJ P N o σ w K) (hk:∀ σ w,K σ w→c (act N σ) w):o.wp P (act N σ) w c Q:=by
 unfold cJ at h
 unfold je at*
 exact Wz (fun a w ⟨σ,A,q⟩=>by subst A; exact hk _ _ q) _ h
theorem IA {K a:(Nat→Value)→World→Prop} {o:Oper} (h:cJ P N o σ w K) (hk:∀ σ w,K σ w→a σ w):cJ P N o σ w a:=
 sH h (fun σ w c=>⟨σ,rfl,hk σ w c⟩)
variable {ops:Array Oper} {rest:List Oper} {d:Nat} {op:Op} {ty:TypeId} {pos :String} {af:Array Edge} {d':Option Nat} {v:Value} {o:Oper}
theorem xO (a:qc o (yielded ops (act N σ).tmps)=true) (h:cJ P N o σ w (fun σ w=>dR P N ops Q rest σ w)):dR P N ops Q (o::rest) σ w:=by
 unfold dR wpList
 rw [if_pos a]
 exact .inl<|sH h fun _ _ hk=>hk
theorem lz {K:(Nat→Value)→World→Prop} {w':World} (a:(execOp (ev N σ) o).run P w= .ok (.value v) w') (hk:K (fi σ o.dst v) w'):cJ P N o σ w K:=by
 unfold cJ je
 rw [ga,a]
 exact ⟨_,jj ..,hk⟩
theorem jc (o:Oper) (a:o.guard=none) (y:Nat→Option Bool):qc o y=true :=by simp [qc,a]
def jx (ops:Array Oper) (j:Nat):Option Nat:=(ops[j]?).bind (·.dst)
theorem oT {j t:Nat} {want b:Bool} (c:o.guard=some (j,want)) (a:jx ops j=some t) (q:fP t N.n=true) (A:σ t= .bool b):
 qc o (yielded ops (act N σ).tmps)=(b==want):=by
 have h1:yielded ops (act N σ).tmps j=some b:=by
  unfold yielded
  unfold jx at a
  rw [a]
  simp only [pn,oC]
  rw [if_pos (rp (s6 t)<|qk q),A]
 simp only [qc,c,h1]
 cases b <;> cases want <;> rfl
theorem WT {j t:Nat} {want:Bool} (c:o.guard=some (j,want)) (a:jx ops j=some t) (q:fP t N.n=true) (A:σ t=undef):
 qc o (yielded ops (act N σ).tmps)=false :=by
 have h1:yielded ops (act N σ).tmps j=none:=by
  unfold yielded
  unfold jx at a
  rw [a]
  simp only [pn,oC]
  rw [if_pos (rp (s6 t)<|qk q),A]; rfl
 simp only [qc,c,h1]
 rfl
theorem p (h:(execOp (ev N σ) ⟨some d,op,ty,pos,af,none⟩).run P w= .ok (.value v) w) (k:dR P N ops Q rest (cY σ d v) w):
 dR P N ops Q (⟨some d,op,ty,pos,af,none⟩::rest) σ w:=
 xO (jc _ rfl _) (lz h k)
theorem pg {j t:Nat} {want:Bool} (a:jx ops j=some t) (c:fP t N.n=true) (q:σ t= .bool want)
 (h:(execOp (ev N σ) ⟨some d,op,ty,pos,af,some (j,want)⟩).run P w= .ok (.value v) w) (k:dR P N ops Q rest (cY σ d v) w):
 dR P N ops Q (⟨some d,op,ty,pos,af,some (j,want)⟩::rest) σ w:=
 xO (by rw [oT rfl a c q]; cases want <;> rfl) (lz h k)
theorem sk {j t:Nat} {want b:Bool} (c:jx ops j=some t) (q:fP t N.n=true) (A:σ t= .bool b) (a:(b==want)=false)
 (k:dR P N ops Q rest (cY σ d undef) w):dR P N ops Q (⟨some d,op,ty,pos,af,some (j,want)⟩::rest) σ w:=by
 unfold dR wpList
 rw [if_neg (by rw [oT rfl c q A,a]; simp),jj]
 exact k
theorem xp {j t:Nat} {want:Bool} (a:jx ops j=some t) (c:fP t N.n=true) (q:σ t=undef)
 (k:dR P N ops Q rest (cY σ d undef) w):dR P N ops Q (⟨some d,op,ty,pos,af,some (j,want)⟩::rest) σ w:=by
 unfold dR wpList
 rw [if_neg (by rw [WT rfl a c q]; simp),jj]
 exact k
theorem e (h:cJ P N ⟨d',op,ty,pos,af,none⟩ σ w (fun σ w=>dR P N ops Q rest σ w)):dR P N ops Q (⟨d',op,ty,pos,af,none⟩::rest) σ w:=
 xO (jc _ rfl _) h
theorem eg {j t:Nat} {want:Bool} (a:jx ops j=some t) (c:fP t N.n=true) (q:σ t= .bool want)
 (h:cJ P N ⟨d',op,ty,pos,af,some (j,want)⟩ σ w (fun σ w=>dR P N ops Q rest σ w)):dR P N ops Q (⟨d',op,ty,pos,af,some (j,want)⟩::rest) σ w:=
 xO (by rw [oT rfl a c q]; cases want <;> rfl) h
theorem nl (h:Q .normal σ w):dR P N ops Q [] σ w:=⟨σ,rfl,h⟩
theorem Ax:¬LetsOut (lift N Q):=fun ⟨_,_,h⟩=>h
theorem rg {id:Nat} {l:List Oper} (a:sn N.r l=true) (h:dR P N l.toArray Q l σ w):c6 P N (.region id l.toArray false) Q σ w:=by
 refine wpIn_region<|Al Ax a _ _ _ ?_
 have h1:=wpOps_eq_wpList (P:=P) (ops:=l.toArray) (Q:=lift N Q) l 0 fun j=>by simp
 rw [List.range_eq_range',nI,h1]
 exact h
theorem gs {l:List Oper} {t:Nat} {q:Prop} [Decidable q] (h:σ t= .bool (decide q)) (A:q→dR P N ops Q l (cY σ t<|.bool true) w) (c:¬q→dR P N ops Q l (cY σ t<|.bool false) w):dR P N ops Q l σ w:=by
 by_cases a:q
 · have :=A a; rwa [oR (by rw [h,decide_eq_true a])] at this
 · have :=c a; rwa [oR (by rw [h,decide_eq_false a])] at this
theorem gb {l:List Oper} {t:Nat} {b:Bool} (h:σ t= .bool b) (c:b=true→dR P N ops Q l (cY σ t<|.bool true) w) (a:b=false→dR P N ops Q l (cY σ t<|.bool false) w):dR P N ops Q l σ w:=by
 cases b
 · have :=a rfl; rwa [oR h] at this
 · have :=c rfl; rwa [oR h] at this
def fF (P:Program) (N:Fm) (ops:Array Oper) (Q:Exit→(Nat→Value)→World→Prop) (S:World→Prop) (fuel:Nat) (aV:Array Bool) (σ:Nat→Value) (w:World):Prop :=
 wpAnyH P .any ops (lift N Q) S fuel aV (act N σ) w
variable {S:World→Prop} {fuel:Nat} {aV:Array Bool}
theorem CY {id:Nat} {l:List Oper} (a:sn N.r l=true) (hm:P.follows .mixedOrders=true) (h:wpAny P .any l.toArray (lift N Q) l.toArray.size (sM l.toArray.size false) (act N σ) w.drew):c6 P N (.region id l.toArray true) Q σ w:=by
 refine wpIn_region_draw fun t=>Al Ax a _ _ _ ?_
 simp only [Region.schedule,hm,Bool.true_or,if_true]
 exact wpAny_sound _ t _ _ _ h
theorem bT {id:Nat} {l:List Oper} (S:World→Prop) (a:sn N.r l=true) (hm:P.follows .mixedOrders=true) (c:S w.drew) (h:fF P N l.toArray Q S l.length (sM l.length false) σ w.drew):c6 P N (.region id l.toArray true) Q σ w:=
 CY a hm (wpAny_of_held _ _ _ _<|by rw [nI]; exact h)
def AW (F:List Nat) (d:Option Nat):Bool:=match d with | some d=> !(F.contains d) | none=>true
def iO (F:List Nat) (ops:Array Oper) (aV:Array Bool) (i:Nat):Bool:=
 Region.noSelect ops && Region.free .any ops aV i && (iu .any ops aV).contains i && AW F ((ops[i]?).bind (·.dst))
theorem oM {d:Option Nat} {v:Value} (hd:AW N.F d=true) (c:List PanicEntry) (a:Act) (w:World):lift N Q (.panic c) (a.put d v) w→lift N Q (.panic c) a w:=by
 rintro ⟨σ,q,h⟩
 cases d with
 | none=>exact ⟨σ,q,h⟩
 | some d=>
   have J:a.tmps.size=N.n:=by
    have :=congrArg (fun x:Act=>x.tmps.size) q
    simpa [Act.put,act] using this
   have C:a.defers=N.D:=congrArg (fun x:Act=>x.defers) q
   have E:∀ i:Nat,i≠d→a.tmps[i]? =if i < N.n then some (σ i) else none:=fun i hi=>by
    have h1:(a.put (some d) v).tmps[i]? =a.tmps[i]? :=by
     show (a.tmps.setIfInBounds d v)[i]? =_
     rw [BU,if_neg (fun e=>hi e.symm)]
    rw [← h1,q,oC]
   refine ⟨fun i=>if i < N.n then a.tmps.getD i undef else σ i,vp C fun i=> ?_,fun I A=>h I fun i hi=> ?_⟩
   · rw [oC]
     by_cases h1:i < N.n
     · rw [if_pos h1,if_pos h1,BT,xT ab]; rfl
     · rw [if_neg h1,p7 ab]
   · have G:i≠d:=by
      rintro rfl
      simp only [AW,xZ,List.contains_eq_mem,decide_eq_false_iff_not] at hd
      exact hd hi
     rw [A i hi]
     by_cases h1:i < N.n
     · simp only [if_pos h1]
       rw [BT,E i G,if_pos h1]; rfl
     · simp only [if_neg h1]
theorem hp (i:Nat) (hi:ops[i]? =some ⟨some d,op,ty,pos,af,none⟩) (q:iO N.F ops aV i=true)
 (C:∀ w,S w→(execOp (ev N σ) ⟨some d,op,ty,pos,af,none⟩).run P w= .ok (.value v) w) (A:S w)
 (k:fF P N ops Q S fuel (aV.setIfInBounds i true) (cY σ d v) w):fF P N ops Q S (fuel+1) aV σ w:=by
 simp only [iO,gj] at q
 refine wpAnyH_take hi q.1.1.1 q.1.1.2 q.1.2 (fun c a w=>oM (by have :=q.2; rwa [hi] at this) c a w) (.inl ⟨jc _ rfl _,fun w A=> ?_⟩) A ?_ (v:=v)
 · rw [ga]; exact C w A
 · rw [jj]; exact k
theorem nT (i:Nat) {j t:Nat} {want:Bool} (hi:ops[i]? =some ⟨some d,op,ty,pos,af,some (j,want)⟩) (q:iO N.F ops aV i=true)
 (C:jx ops j=some t) (E:fP t N.n=true) (G:σ t= .bool want)
 (I:∀ w,S w→(execOp (ev N σ) ⟨some d,op,ty,pos,af,some (j,want)⟩).run P w= .ok (.value v) w) (A:S w)
 (k:fF P N ops Q S fuel (aV.setIfInBounds i true) (cY σ d v) w):fF P N ops Q S (fuel+1) aV σ w:=by
 simp only [iO,gj] at q
 refine wpAnyH_take hi q.1.1.1 q.1.1.2 q.1.2 (fun c a w=>oM (by have :=q.2; rwa [hi] at this) c a w) (.inl ⟨by rw [oT aa C E G]; cases want <;> rfl,fun w A=> ?_⟩) A ?_ (v:=v)
 · rw [ga]; exact I w A
 · rw [jj]; exact k
theorem nU (i:Nat) {j t:Nat} {want b:Bool} (hi:ops[i]? =some ⟨some d,op,ty,pos,af,some (j,want)⟩) (q:iO N.F ops aV i=true)
 (E:jx ops j=some t) (G:fP t N.n=true) (I:σ t= .bool b) (C:(b==want)=false) (A:S w)
 (k:fF P N ops Q S fuel (aV.setIfInBounds i true) (cY σ d undef) w):fF P N ops Q S (fuel+1) aV σ w:=by
 simp only [iO,gj] at q
 refine wpAnyH_take hi q.1.1.1 q.1.1.2 q.1.2 (fun c a w=>oM (by have :=q.2; rwa [hi] at this) c a w) (.inr ⟨by rw [oT aa E G I,C],aa⟩) A ?_ (v:=undef)
 rw [jj]; exact k
def kG (ops:Array Oper) (aV:Array Bool) (i:Nat):Bool:=(iu .any ops aV)== [i]
theorem he (i:Nat) (hi:ops[i]? =some ⟨d',op,ty,pos,af,none⟩) (a:kG ops aV i=true)
 (h:cJ P N ⟨d',op,ty,pos,af,none⟩ σ w (fun σ w=>S w∧fF P N ops Q S fuel (aV.setIfInBounds i true) σ w)):fF P N ops Q S (fuel+1) aV σ w:=by
 refine wpAnyH_all (rs:= [i]) (by simpa [kG] using a) (by simp) ?_
 intro k hk
 obtain rfl :k=i:=by simpa using hk
 unfold wpOp
 simp only [hi]
 rw [if_pos (jc _ rfl _)]
 exact .inl<|sH h fun _ _ hk=>hk
theorem lR (i:Nat) {j t:Nat} {want:Bool} (hi:ops[i]? =some ⟨d',op,ty,pos,af,some (j,want)⟩) (c:kG ops aV i=true)
 (a:jx ops j=some t) (q:fP t N.n=true) (A:σ t= .bool want)
 (h:cJ P N ⟨d',op,ty,pos,af,some (j,want)⟩ σ w (fun σ w=>S w∧fF P N ops Q S fuel (aV.setIfInBounds i true) σ w)):fF P N ops Q S (fuel+1) aV σ w:=by
 refine wpAnyH_all (rs:= [i]) (by simpa [kG] using c) (by simp) ?_
 intro k hk
 obtain rfl :k=i:=by simpa using hk
 unfold wpOp
 simp only [hi]
 rw [if_pos (by rw [oT rfl a q A]; cases want <;> rfl)]
 exact .inl<|sH h fun _ _ hk=>hk
theorem hn (a:(iu .any ops aV).isEmpty=true) (h:Q .normal σ w):fF P N ops Q S fuel aV σ w:=
 wpAnyH_done (by simpa using a) ⟨σ,rfl,h⟩ fuel
theorem kz {t:Nat} {q:Prop} [Decidable q] (h:σ t= .bool (decide q)) (A:q→fF P N ops Q S fuel aV (cY σ t<|.bool true) w) (c:¬q→fF P N ops Q S fuel aV (cY σ t<|.bool false) w):fF P N ops Q S fuel aV σ w:=by
 by_cases a:q
 · have :=A a; rwa [oR (by rw [h,decide_eq_true a])] at this
 · have :=c a; rwa [oR (by rw [h,decide_eq_false a])] at this
end
def bf (P:Program) (f:FuncId) (args:Array Value) (w:World) (R:Value→World→Prop):Prop :=
 Calls P f args w fun e w'=> ∃ v,e= .returned v∧R v w'
theorem bf.mono {P:Program} {f:FuncId} {args:Array Value} {w:World} {R R':Value→World→Prop} (h:bf P f args w R) (c:∀ v w',R v w'→R' v w'):bf P f args w R':=
 jX h fun _ _ ⟨v,he,a⟩=>⟨v,he,c _ _ a⟩
def l2 (args:List Value):Nat→Value:=fun i=>args.getD i undef
def fin (P:Program) (fn:Func) (N:Fm) (R:Value→World→Prop):Exit→(Nat→Value)→World→Prop
 | .normal,σ,w=> ∃ v,(results fn (act N σ).tmps).run P w= .ok v w∧R v w
 | .ret,σ,w=> ∃ v,(results fn (act N σ).tmps).run P w= .ok v w∧R v w
 | _,_,_=>False
theorem enter {P:Program} {f:FuncId} {N:Nat} {fn:Func} {c:Code} {args:List Value} {w:World} {R:Value→World→Prop} (M:P.funcs[f]? =some fn) (J:fn.body=some c)
 (G:fn.ntmps=N) (hn:mO args.length N=true) (h:c6 P ⟨N,[],[],none⟩ c (fin P fn ⟨N,[],[],none⟩ R) (l2 args) w):bf P f args.toArray w R:=by
 subst G
 refine calls_of_wp M J ?_
 have I:({tmps:=args.toArray++sM (fn.ntmps - args.toArray.size) undef,defers:= []} :Act)=act ⟨fn.ntmps,[],[],none⟩ (l2 args):=by
  have O:args.length≤fn.ntmps:=by simpa using hn
  refine vp aa fun i=> ?_
  rw [oC]
  simp only [l2,cR,nI]
  by_cases h1:i < args.length
  · rw [Array.getElem?_append_left (by simpa using h1),if_pos ab]
    simp [h1]
  · rw [Array.getElem?_append_right (by simpa using h1)]
    simp only [nI,Array.getElem?_replicate]
    by_cases h2:i < fn.ntmps
    · rw [if_pos ab,if_pos h2,sW ab]; rfl
    · rw [if_neg ab,if_neg h2]
 rw [I]
 refine Code.wp_mono ?_<|wpIn_wide.1 h
 intro e a w q
 cases e with
 | normal=>obtain ⟨σ,rfl,v,E,C⟩:=q; exact ⟨rfl,v,E,v,rfl,C⟩
 | ret=>obtain ⟨σ,rfl,v,E,C⟩:=q; exact ⟨rfl,v,E,v,rfl,C⟩
 | exit id=>obtain ⟨σ,rfl,A⟩:=q; exact A.elim
 | goto l=>obtain ⟨σ,rfl,A⟩:=q; exact A.elim
 | panic c=>obtain ⟨σ,rfl,A⟩:=q; exact (A σ fun _ _=>rfl).elim
 | outgrown=>exact q.elim
section
variable {P:Program} {N:Fm} {σ:Nat→Value} {w:World} {fn:Func} {R:Value→World→Prop}
theorem l5 (t:Nat):(act N σ).tmps.getD t undef=ev N σ (.tmp t):=by
 rw [← ga]; rfl
theorem f0 (h:fn.results= #[]) (a:R (.tuple #[]) w):fin P fn N R .normal σ w:=⟨_,results_none h _ _ _,a⟩
theorem vW (h:fn.results= #[]) (a:R (.tuple #[]) w):fin P fn N R .ret σ w:=⟨_,results_none h _ _ _,a⟩
theorem f1 {t:Nat} {v:Value} (h:fn.results= #[.tmp t]) (c:ev N σ (.tmp t)=v) (a:R v w):fin P fn N R .ret σ w:=
 ⟨v,by rw [results_tmp h,l5,c],a⟩
theorem f2 {t u:Nat} {v a:Value} (h:fn.results= #[.tmp t,.tmp u]) (q:ev N σ (.tmp t)=v) (hu:ev N σ (.tmp u)=a) (c:R (.tuple #[v,a]) w):fin P fn N R .ret σ w:=
 ⟨_,by rw [results_tmp2 h,l5,l5,q,hu],c⟩
theorem f3 {t u s:Nat} {v a c:Value} (h:fn.results= #[.tmp t,.tmp u,.tmp s]) (A:ev N σ (.tmp t)=v) (hu:ev N σ (.tmp u)=a) (hs:ev N σ (.tmp s)=c) (q:R (.tuple #[v,a,c]) w):fin P fn N R .ret σ w:=by
 refine ⟨_,?_,q⟩
 simp only [results,h]
 subst A hu hs
 simp only [← l5]
 simp [uX]
theorem f4 {t u s r:Nat} {v a c v3:Value} (h:fn.results= #[.tmp t,.tmp u,.tmp s,.tmp r]) (C:ev N σ (.tmp t)=v) (hu:ev N σ (.tmp u)=a) (hs:ev N σ (.tmp s)=c) (A:ev N σ (.tmp r)=v3) (q:R (.tuple #[v,a,c,v3]) w):fin P fn N R .ret σ w:=by
 refine ⟨_,?_,q⟩
 simp only [results,h]
 subst C hu hs A
 simp only [← l5]
 simp [uX]
end
attribute [irreducible] dR c6 fF cJ
end Go.Hb
namespace Go.Hb
def aM (h:Array Obj) (b off :Nat):Option Value:=
 match h[b]? with
 | some (.cells c _ _)=>c[off]?
 | _=>none
theorem mS (w:World) (b off :Nat):w.cell? ⟨b,off,none⟩=aM w.heap b off :=by
 unfold World.cell? aM
 simp only
 split <;> simp_all
theorem a7 {h:Array Obj} {b off :Nat} {c:Array Value} {t:TypeId} {f:Nat×Nat} (a:h[b]? =some (.cells c t f)):aM h b off =c[off]? :=by
 simp only [aM,a]
theorem MZ {h:Array Obj} {b off :Nat} {v:Value} (a:aM h b off =some v):b < h.size:=by
 unfold aM at a
 rcases jh b h.size with q | c
 · exact q
 · simp [p7 c] at a
structure Md (F:Nat→Prop) (w w':World):Prop where
 os:w'.os=w.os
 output:w'.output=w.output
 size:w.heap.size≤w'.heap.size
 dH:∀ k,k < w.heap.size→¬F k→w'.heap[k]? =w.heap[k]?
abbrev Wk (w w':World):Prop :=Md (fun _=>False) w w'
theorem Md.refl (F:Nat→Prop) (w:World):Md F w w:=⟨rfl,rfl,cz _,fun _ _ _=>rfl⟩
theorem Md.drew {F:Nat→Prop} {w w':World} (h:Md F w w'):Md F w w'.drew:=⟨h.os,h.output,h.size,h.dH⟩
theorem Md.mono {F G:Nat→Prop} {w w':World} (h:Md F w w') (c:∀ k,k < w.heap.size→F k→G k):Md G w w':=
 ⟨h.os,h.output,h.size,fun k hk q=>h.dH k hk fun a=>q<|c k hk a⟩
theorem Md.trans {F:Nat→Prop} {a b c:World} (h:Md F a b) (q:Md F b c):Md F a c:=
 ⟨q.os.trans h.os,q.output.trans h.output,ea h.size q.size,fun k hk A=>(q.dH k (rp hk h.size) A).trans<|h.dH k hk A⟩
theorem Md.trans' {F G:Nat→Prop} {a b c:World} (h:Md F a b) (q:Md G b c) (C:∀ k,k < a.heap.size→G k→F k):Md F a c:=
 ⟨q.os.trans h.os,q.output.trans h.output,ea h.size q.size,
  fun k hk A=>(q.dH k (rp hk h.size) fun x=>A<|C k hk x).trans (h.dH k hk A)⟩
theorem Md.aB {F:Nat→Prop} {w w':World} (h:Md F w w') {k:Nat} {o:Obj} (hk:w.heap[k]? =some o) (a:¬F k):w'.heap[k]? =some o:=
 (h.dH k (bY.1 hk).1 a).trans hk
theorem Md.aM {F:Nat→Prop} {w w':World} (h:Md F w w') {b off :Nat} {v:Value} (a:Hb.aM w.heap b off =some v) (c:¬F b):Hb.aM w'.heap b off =some v:=by
 have :=h.dH b (MZ a) c
 unfold Hb.aM at*
 rw [this]; exact a
theorem Wk.aM {w w':World} (h:Wk w w') {b off :Nat} {v:Value} (a:Hb.aM w.heap b off =some v):Hb.aM w'.heap b off =some v:=Md.aM h a id
theorem Wk.aB {w w':World} (h:Wk w w') {k:Nat} {o:Obj} (hk:w.heap[k]? =some o):w'.heap[k]? =some o:=Md.aB h hk id
structure Nw (w w':World):Prop where
 md:Wk w w'
 size:w'.heap.size=w.heap.size+1
 one:∃ o,w'= {w with heap:=w.heap.push o}
theorem AR (w:World) (o:Obj):Nw w {w with heap:=w.heap.push o} :=
 ⟨⟨rfl,rfl,by simp,fun k hk _=>by show (w.heap.push o)[k]? =_; rw [Array.getElem?_push,if_neg ab]⟩,by simp,o,rfl⟩
def da (P:Program) (t:TypeId):Option (Option Nat):=
 match P.underlying t with
 | some (.struct _) | some (.array _ _)=>((P.info? t).map (·.size)).map some
 | some _=>some none
 | none=>none
def cE (P:Program) (s f:Nat):Option Nat:=
 match P.underlying s with
 | some (.struct fs)=>match fs[f]? with
   | some fd=>match P.info? fd.type with
     | some i=>if i.size=0 then none else some fd.offset
     | none=>none
   | none=>none
 | _=>none
def gK (P:Program) (t:TypeId):Option Nat:=
 match P.underlying t with
 | some (.slice e)=>(P.info? e).map (·.size)
 | _=>none
section
variable {P:Program} {N:Fm} {σ:Nat→Value} {w:World} {dst:Option Nat} {ty:TypeId} {pos :String} {af:Array Edge} {g:Option (Nat×Bool)} {x y z:Operand}
theorem c4 {t:TypeId} {d:TypeDesc} (h:P.underlying t=some d) (w:World):(underlying t).run P w= .ok d w:=by
 simp [underlying,h]
theorem gO {t:TypeId} {i:TypeInfo} (h:P.info? t=some i) (w:World):(typeInfo t).run P w= .ok i w:=by
 simp [typeInfo,h]
theorem mv:(execOp (ev N σ) ⟨dst,.move x,ty,pos,af,g⟩).run P w= .ok (.value<|ev N σ x) w:=rfl
theorem aE:(execOp (ev N σ) ⟨dst,.assign x,ty,pos,af,g⟩).run P w= .ok (.value<|ev N σ x) w:=rfl
theorem aJ (v:Value) (h:ev N σ x=v):(execOp (ev N σ) ⟨dst,.move x,ty,pos,af,g⟩).run P w= .ok (.value v) w:=by rw [← h]; rfl
theorem cj (v:Value) (h:ev N σ x=v):(execOp (ev N σ) ⟨dst,.assign x,ty,pos,af,g⟩).run P w= .ok (.value v) w:=by rw [← h]; rfl
theorem bR {c:Operand} (a:ev N σ c= .bool true):(execOp (ev N σ) ⟨dst,.pick c x y,ty,pos,af,g⟩).run P w= .ok (.value<|ev N σ x) w:=by
 simp [execOp,a,asBool]
theorem bI {c:Operand} (a:ev N σ c= .bool false):(execOp (ev N σ) ⟨dst,.pick c x y,ty,pos,af,g⟩).run P w= .ok (.value<|ev N σ y) w:=by
 simp [execOp,a,asBool]
theorem nc {a:Addr} (c:ev N σ x= .pointer (some a)):(execOp (ev N σ) ⟨dst,.nilCheck x,ty,pos,af,g⟩).run P w= .ok (.value<|.pointer<|some a) w:=by
 simp [execOp,c]
theorem xt {i:Nat} {vs:Array Value} {v:Value} (c:ev N σ x= .tuple vs) (a:vs[i]? =some v):(execOp (ev N σ) ⟨dst,.extract x i,ty,pos,af,g⟩).run P w= .ok (.value v) w:=by
 simp [execOp,c,Instr.extract,a]
theorem fa {s f n b off :Nat} (a:cE P s f=some n) (A:ev N σ x= .pointer (some ⟨b,off,none⟩)):
 (execOp (ev N σ) ⟨dst,.fieldAddr s x f,ty,pos,af,g⟩).run P w= .ok (.value<|.pointer<|some ⟨b,off+n,none⟩) w:=by
 unfold cE at a
 split at a
 · rename_i fs hu
   split at a
   · rename_i fd q
     split at a
     · rename_i i hi
       split at a
       · cases a
       · rename_i C
         cases a
         have c:(⟨b,off,none⟩:Addr).add fd.offset=⟨b,off+fd.offset,none⟩:=by unfold x4; split <;> simp_all
         simp [execOp,Instr.fieldAt,c4 hu,q,A,p9,fieldPlace,sizeOf,gO hi,C,c]
     · cases a
   · cases a
 · cases a
theorem ld {t b off :Nat} {v:Value} (hu:da P t=some none) (q:ev N σ x= .pointer (some ⟨b,off,none⟩)) (a:aM w.heap b off =some v):
 (execOp (ev N σ) ⟨dst,.load t x,ty,pos,af,g⟩).run P w= .ok (.value v) w:=by
 have c:w.cell? ⟨b,off,none⟩=some v:=by rw [mS]; exact a
 unfold da at hu
 cases hd:P.underlying t with
 | none=>rw [hd] at hu; cases hu
 | some d=>
   rw [hd] at hu
   cases d <;> first
    | (simp only [ma] at hu; obtain ⟨_,_,h⟩:=hu; cases h; done)
    | simp [execOp,Jf,q,p9,loadVar,isAgg,c4 hd,run_load,c]
theorem lG (b off j:Nat):(⟨b,off,none⟩:Addr).add j=⟨b,off+j,none⟩:=by
 unfold x4; split <;> simp_all
theorem cg {t n b off :Nat} {cs:List Value} (hu:da P t=some (some n)) (C:ev N σ x= .pointer (some ⟨b,off,none⟩)) (A:cs.length=n)
 (c:∀ j,j < n→aM w.heap b (off+j)=cs[j]?):
 (execOp (ev N σ) ⟨dst,.load t x,ty,pos,af,g⟩).run P w= .ok (.value<|.agg cs.toArray) w:=by
 have q:(loadCells ⟨b,off,none⟩ n).run P w= .ok cs.toArray w:=by
  subst A
  refine run_loadCells_list (P:=P) w ⟨b,off,none⟩ cs fun j v a=> ?_
  rw [lG,mS]
  exact (c j (List.getElem?_eq_some_iff.1 a).1).trans a
 unfold da at hu
 cases hd:P.underlying t with
 | none=>rw [hd] at hu; cases hu
 | some d=>
   rw [hd] at hu
   cases hi:P.info? t with
   | none=>simp [Program.underlying,hi] at hd
   | some i=>
     rw [hi] at hu
     cases d <;> first
      | (cases hu; done)
      | (simp only [kj,fJ] at hu; subst hu
         simp [execOp,Jf,C,p9,loadVar,isAgg,c4 hd,sizeOf,gO hi,q])
theorem ia {t n b off len cap:Nat} {k:IntKind} {i:Int} (he:gK P t=some n) (c:ev N σ x= .slice (some ⟨b,off,none⟩) len cap) (q:ev N σ y= .int k i) (a:0≤i∧i < len):
 (execOp (ev N σ) ⟨dst,.indexAddr t x y,ty,pos,af,g⟩).run P w= .ok (.value<|.pointer<|some ⟨b,off+i.toNat*n,none⟩) w:=by
 unfold gK at he
 cases hd:P.underlying t with
 | none=>rw [hd] at he; cases he
 | some d=>
   rw [hd] at he
   cases d <;> first | (cases he; done) | skip
   rename_i e
   cases hi:P.info? e with
   | none=>simp [hi] at he
   | some j=>
     simp only [hi,kj,fJ] at he
     subst he
     simp [execOp,Instr.indexAt,c,q,asIntOf,c4 hd,a.1,a.2,sizeOf,gO hi,lG]
def fw (a:Option Addr) (cap l n:Nat):Option Addr:=if cap=l then a else a.map (·.add (l*n))
theorem Bn {t n len cap:Nat} {a:Option Addr} {lo hi:Option Value} {l h:Nat} (he:gK P t=some n) (C:ev N σ x= .slice a len cap)
 (A:(od true len cap lo hi none).run P w= .ok (l,h,cap) w) (c q:Option Operand) (E:c.map (ev N σ)=lo) (G:q.map (ev N σ)=hi):
 (execOp (ev N σ) ⟨dst,.slice t x c q none,ty,pos,af,g⟩).run P w= .ok (.value<|.slice (fw a cap l n) (h - l)<|cap - l) w:=by
 unfold gK at he
 cases hd:P.underlying t with
 | none=>rw [hd] at he; cases he
 | some d=>
   rw [hd] at he
   cases d <;> first | (cases he; done) | skip
   rename_i e
   cases hi':P.info? e with
   | none=>simp [hi'] at he
   | some j=>
     simp only [hi',kj,fJ] at he
     subst he
     simp [execOp,q6,uJ,C,E,G,c4 hd,A,sizeOf,gO hi',fw]
theorem ss {t n len cap:Nat} {a:Option Addr} {k:IntKind} {i:Int} (he:gK P t=some n) (q:ev N σ x= .slice a len cap) (A:ev N σ z= .int k i) (c:0≤i∧i≤cap):
 (execOp (ev N σ) ⟨dst,.slice t x none (some z) none,ty,pos,af,g⟩).run P w= .ok (.value<|.slice a i.toNat cap) w:=by
 have :=Bn (dst:=dst) (ty:=ty) (pos :=pos) (af:=af) (g:=g) (w:=w) (lo:=none) (hi:=some<|.int k i) (l:=0) (h:=i.toNat) he q
  (by simp [od,q7,asIntOf,c.1,c.2]) none (some z) rfl (by simp [A])
 rw [this]
 have hs:fw a cap 0 n=a:=by
  unfold fw; split
  · rfl
  · cases a <;> simp [x4]
 rw [hs]; rfl
theorem uu {t n len cap:Nat} {a:Option Addr} {k:IntKind} {i:Int} (he:gK P t=some n) (q:ev N σ x= .slice a len cap) (A:ev N σ y= .int k i) (c:0≤i∧i≤len):
 (execOp (ev N σ) ⟨dst,.slice t x (some y) none none,ty,pos,af,g⟩).run P w= .ok (.value<|.slice (fw a cap i.toNat n) (len - i.toNat)<|cap - i.toNat) w:=
 Bn (lo:=some<|.int k i) (hi:=none) he q
  (by simp [od,q7,asIntOf,c.1,c.2]) (some y) none (by simp [A]) rfl
theorem Vl {t n len cap:Nat} {a:Option Addr} {k q:IntKind} {i j:Int} (he:gK P t=some n) (A:ev N σ x= .slice a len cap) (C:ev N σ y= .int k i) (E:ev N σ z= .int q j) (c:0≤i∧i≤j∧j≤cap):
 (execOp (ev N σ) ⟨dst,.slice t x (some y) (some z) none,ty,pos,af,g⟩).run P w= .ok (.value<|.slice (fw a cap i.toNat n) (j.toNat - i.toNat)<|cap - i.toNat) w:=by
 have h1:0≤j:=ab
 have h2:i≤(j.toNat:Int):=ab
 refine Bn (lo:=some<|.int k i) (hi:=some<|.int q j) he A ?_ (some y) (some z) (by simp [C])<|by simp [E]
 simp only [od,q7,asIntOf,nz,ra,ny,Cj,c.1,h1,c.2.2,h2,and_self,if_true]
theorem cC {n:Int} (h: -9223372036854775808≤n∧n≤9223372036854775807):x6.wrap n=n:=IntWalk.i64_in n h
theorem BR {n:Int} (h:0≤n∧n≤255):o6.wrap n=n:=IntWalk.u8_in n h
theorem oa {n:Int} (h:0≤n∧n≤18446744073709551615):dO.wrap n=n:=IntWalk.u64_in n h
theorem iv {k:IntKind} {a b:Int} (h:a=b):fG k a=fG k b:=by rw [h]
theorem ad {t C:TypeId} {k:IntKind} {a b:Int} (q:ev N σ x= .int k a) (A:ev N σ y= .int k b) (c:k.wrap (a+b)=a+b):
 (execOp (ev N σ) ⟨dst,.binOp .add t x y C,ty,pos,af,g⟩).run P w= .ok (.value<|.int k<|a+b) w:=by
 simp [execOp,q,A,eqGuard,binOp,uL,c]
theorem bL {t C:TypeId} {k:IntKind} {a b:Int} (v:Int) (q:ev N σ x= .int k a) (A:ev N σ y= .int k b) (c:k.wrap (a+b)=v):
 (execOp (ev N σ) ⟨dst,.binOp .add t x y C,ty,pos,af,g⟩).run P w= .ok (.value<|.int k v) w:=by
 subst c; simp [execOp,q,A,eqGuard,binOp,uL]
theorem dt {t C:TypeId} {k:IntKind} {a b:Int} (v:Int) (q:ev N σ x= .int k a) (A:ev N σ y= .int k b) (c:k.wrap (a - b)=v):
 (execOp (ev N σ) ⟨dst,.binOp .sub t x y C,ty,pos,af,g⟩).run P w= .ok (.value<|.int k v) w:=by
 subst c; simp [execOp,q,A,eqGuard,binOp,uL]
theorem qN {t C:TypeId} {k:IntKind} {a b:Int} (v:Int) (q:ev N σ x= .int k a) (A:ev N σ y= .int k b) (c:k.wrap (a*b)=v):
 (execOp (ev N σ) ⟨dst,.binOp .mul t x y C,ty,pos,af,g⟩).run P w= .ok (.value<|.int k v) w:=by
 subst c; simp [execOp,q,A,eqGuard,binOp,uL]
theorem bm {a:Int} {n:Nat} (h:a=n) (hn:n≤9223372036854775807):x6.wrap a=(n:Int):=by rw [h]; exact cC ab
theorem bv {p q:Prop} [Decidable p] [Decidable q] (h:p↔q):bU (decide p)=bU (decide q):=by rw [decide_eq_decide.2 h]
theorem sb {t C:TypeId} {k:IntKind} {a b:Int} (q:ev N σ x= .int k a) (A:ev N σ y= .int k b) (c:k.wrap (a - b)=a - b):
 (execOp (ev N σ) ⟨dst,.binOp .sub t x y C,ty,pos,af,g⟩).run P w= .ok (.value<|.int k<|a - b) w:=by
 simp [execOp,q,A,eqGuard,binOp,uL,c]
theorem pS {t E:TypeId} {k:IntKind} {a b:Int} (v:Int) (A:ev N σ x= .int k a) (C:ev N σ y= .int k b) (c:0≤a∧0 < b) (q:k.wrap (a / b)=v):
 (execOp (ev N σ) ⟨dst,.binOp .quo t x y E,ty,pos,af,g⟩).run P w= .ok (.value<|.int k v) w:=by
 have :a.tdiv b=a / b:=Int.tdiv_eq_ediv_of_nonneg c.1
 subst q; simp [execOp,A,C,eqGuard,binOp,Op.intDiv,show b≠0 from by omega,this]
theorem lt {t A:TypeId} {k:IntKind} {a b:Int} (c:ev N σ x= .int k a) (q:ev N σ y= .int k b):
 (execOp (ev N σ) ⟨dst,.binOp .lss t x y A,ty,pos,af,g⟩).run P w= .ok (.value<|.bool<|decide (a < b)) w:=by
 simp [execOp,c,q,eqGuard,binOp,sP]
theorem le {t A:TypeId} {k:IntKind} {a b:Int} (c:ev N σ x= .int k a) (q:ev N σ y= .int k b):
 (execOp (ev N σ) ⟨dst,.binOp .leq t x y A,ty,pos,af,g⟩).run P w= .ok (.value<|.bool<|decide (a≤b)) w:=by
 simp [execOp,c,q,eqGuard,binOp,sP]
theorem gt {t A:TypeId} {k:IntKind} {a b:Int} (c:ev N σ x= .int k a) (q:ev N σ y= .int k b):
 (execOp (ev N σ) ⟨dst,.binOp .gtr t x y A,ty,pos,af,g⟩).run P w= .ok (.value<|.bool<|decide (b < a)) w:=by
 simp [execOp,c,q,eqGuard,binOp,sP]
theorem ge {t A:TypeId} {k:IntKind} {a b:Int} (c:ev N σ x= .int k a) (q:ev N σ y= .int k b):
 (execOp (ev N σ) ⟨dst,.binOp .geq t x y A,ty,pos,af,g⟩).run P w= .ok (.value<|.bool<|decide (b≤a)) w:=by
 simp [execOp,c,q,eqGuard,binOp,sP]
theorem cw {t A:TypeId} {k:IntKind} {a b:Int} (c:ev N σ x= .int k a) (q:ev N σ y= .int k b):
 (execOp (ev N σ) ⟨dst,.binOp .eql t x y A,ty,pos,af,g⟩).run P w= .ok (.value<|.bool<|decide (a=b)) w:=by
 simp [execOp,c,q,eqGuard,binOp,sP]
 rw [p8]; simp
theorem gE {t A:TypeId} {k:IntKind} {a b:Int} (c:ev N σ x= .int k a) (q:ev N σ y= .int k b):
 (execOp (ev N σ) ⟨dst,.binOp .neq t x y A,ty,pos,af,g⟩).run P w= .ok (.value<|.bool<|decide (a≠b)) w:=by
 simp [execOp,c,q,eqGuard,binOp,sP]
 rw [p8]; simp
theorem no {t:TypeId} {b:Bool} (a:ev N σ x= .bool b):(execOp (ev N σ) ⟨dst,.unOp .not t x,ty,pos,af,g⟩).run P w= .ok (.value<|.bool<|!b) w:=by
 simp [execOp,a,Cc]
theorem C4 {t C:TypeId} {k:IntKind} {a b v:Int} (q:ev N σ x= .int k a) (A:ev N σ y= .int k b) (c:k.wrap (fy k.bits a ||| fy k.bits b).toNat=v):
 (execOp (ev N σ) ⟨dst,.binOp .or t x y C,ty,pos,af,g⟩).run P w= .ok (.value<|.int k v) w:=by
 subst c; simp [execOp,q,A,eqGuard,binOp,uM]
theorem eH {t C:TypeId} {k:IntKind} {a b v:Int} (q:ev N σ x= .int k a) (A:ev N σ y= .int k b) (c:k.wrap (fy k.bits a &&& fy k.bits b).toNat=v):
 (execOp (ev N σ) ⟨dst,.binOp .and t x y C,ty,pos,af,g⟩).run P w= .ok (.value<|.int k v) w:=by
 subst c; simp [execOp,q,A,eqGuard,binOp,uM]
theorem shr {t C:TypeId} {k E:IntKind} {a b v:Int} (q:ev N σ x= .int k a) (A:ev N σ y= .int E b) (G:0≤b) (c:a.fdiv (2 ^ min b.toNat k.bits)=v):
 (execOp (ev N σ) ⟨dst,.binOp .shr t x y C,ty,pos,af,g⟩).run P w= .ok (.value<|.int k v) w:=by
 have :¬b < 0:=ab
 simp [execOp,q,A,eqGuard,binOp,Op.shift,this,c]
theorem shl {t C:TypeId} {k E:IntKind} {a b v:Int} (q:ev N σ x= .int k a) (A:ev N σ y= .int E b) (G:0≤b) (c:k.wrap (a*2 ^ min b.toNat k.bits)=v):
 (execOp (ev N σ) ⟨dst,.binOp .shl t x y C,ty,pos,af,g⟩).run P w= .ok (.value<|.int k v) w:=by
 have :¬b < 0:=ab
 simp [execOp,q,A,eqGuard,binOp,Op.shift,this,c]
theorem Ih (m:Nat) (h:m < 256):((jZ m).toNat:Int)=(m:Int):=by
 simp [Nat.mod_eq_of_lt h]
theorem cv {t u:TypeId} {k a:IntKind} {n:Int} (hu:P.underlying u=some (.int a)) (c:(P.underlying t).isSome=true) (q:ev N σ x= .int k n):
 (execOp (ev N σ) ⟨dst,.convert t u x,ty,pos,af,g⟩).run P w= .ok (.value<|.int a<|a.wrap n) w:=by
 obtain ⟨d,hd⟩:=l9.1 c
 cases d <;> simp [execOp,q,convert,c4 hu,c4 hd,Conv.intToInt]
theorem nQ {t u:TypeId} {k a:IntKind} {n v:Int} (hu:P.underlying u=some (.int a)) (q:(P.underlying t).isSome=true) (A:ev N σ x= .int k n) (c:a.wrap n=v):
 (execOp (ev N σ) ⟨dst,.convert t u x,ty,pos,af,g⟩).run P w= .ok (.value<|.int a v) w:=by
 rw [cv hu q A,c]
theorem zp {t u:TypeId} {k a:IntKind} {n:Int} (hu:P.underlying u=some (.int a)) (q:(P.underlying t).isSome=true) (A:ev N σ x= .int k n) (c:a.wrap n=n):
 (execOp (ev N σ) ⟨dst,.convert t u x,ty,pos,af,g⟩).run P w= .ok (.value<|.int a n) w:=by
 rw [cv hu q A,c]
theorem PL (d:Nat) {t e:TypeId} {a:Option Addr} (hu:P.underlying t=some (.pointer e)):(o7 (d+1) t (.pointer a)<|.pointer none).run P w= .ok a.isNone w:=by
 cases a <;> simp [o7,c4 hu]
theorem EH {t e:TypeId} {a:Option Addr} (hu:P.underlying t=some (.pointer e)):(Ca t (.pointer a)<|.pointer none).run P w= .ok a.isNone w:=PL 9999 hu
theorem lN {t A e:TypeId} {a:Option Addr} (hu:P.underlying t=some (.pointer e)) (c:ev N σ x= .pointer a) (q:ev N σ y= .pointer none):
 (execOp (ev N σ) ⟨dst,.binOp .eql t x y A,ty,pos,af,g⟩).run P w= .ok (.value<|.bool a.isNone) w:=by
 have h:(binOp .eql t (.pointer a)<|.pointer none).run P w= .ok (.bool a.isNone) w:=by
  simp only [binOp]; simp [EH hu]
 simp [execOp,c,q,eqGuard,h]
theorem GP {t A e:TypeId} {a:Option Addr} (hu:P.underlying t=some (.pointer e)) (c:ev N σ x= .pointer a) (q:ev N σ y= .pointer none):
 (execOp (ev N σ) ⟨dst,.binOp .neq t x y A,ty,pos,af,g⟩).run P w= .ok (.value<|.bool a.isSome) w:=by
 have h:(binOp .neq t (.pointer a)<|.pointer none).run P w= .ok (.bool a.isSome) w:=by
  simp only [binOp]; simp [EH hu]
 simp [execOp,c,q,eqGuard,h]
theorem PI (d:Nat) {t:TypeId} {a b:Bool} (hu:P.underlying t=some .bool):(o7 (d+1) t (.bool a)<|.bool b).run P w= .ok (a==b) w:=by
 simp [o7,c4 hu]
theorem PJ {t:TypeId} {a b:Bool} (hu:P.underlying t=some .bool):(Ca t (.bool a)<|.bool b).run P w= .ok (a==b) w:=PI 9999 hu
theorem PK {t A:TypeId} {a b:Bool} (hu:P.underlying t=some .bool) (c:ev N σ x= .bool a) (q:ev N σ y= .bool b):
 (execOp (ev N σ) ⟨dst,.binOp .eql t x y A,ty,pos,af,g⟩).run P w= .ok (.value<|.bool<|decide (a=b)) w:=by
 have h:(binOp .eql t (.bool a)<|.bool b).run P w= .ok (.bool<|decide (a=b)) w:=by
  simp only [binOp]; simp [PJ hu]; cases a <;> cases b <;> rfl
 simp [execOp,c,q,eqGuard,h]
def str (l:List UInt8):Value:= .string ⟨⟨l⟩⟩
theorem dB {t:TypeId} {l:List UInt8} {at_:Array TypeId} (c:P.underlying t=some .string) (a:at_= #[t]) (q:ev N σ x=str l):
 (execOp (ev N σ) ⟨dst,.call ⟨.builtin .len,#[x],at_⟩,ty,pos,af,g⟩).run P w= .ok (.value<|.int .i64 l.length) w:=by
 subst a
 simp [execOp,resolve,invoke,builtin,I2,c4 c,q,str,goInt]
 rfl
theorem bP {t e:TypeId} {a:Option Addr} {n c:Nat} {at_:Array TypeId} (A:P.underlying t=some (.slice e)) (q:at_= #[t]) (C:ev N σ x= .slice a n c):
 (execOp (ev N σ) ⟨dst,.call ⟨.builtin .len,#[x],at_⟩,ty,pos,af,g⟩).run P w= .ok (.value<|.int .i64 n) w:=by
 subst q
 simp [execOp,resolve,invoke,builtin,I2,c4 A,C,goInt]
theorem mn {k:IntKind} {a b:Int} {at_:Array TypeId} (c:ev N σ x= .int k a) (q:ev N σ y= .int k b):
 (execOp (ev N σ) ⟨dst,.call ⟨.builtin .min,#[x,y],at_⟩,ty,pos,af,g⟩).run P w= .ok (.value<|.int k<|min a b) w:=by
 have :(if b < a then b else a)=min a b:=ab
 simp [execOp,resolve,invoke,builtin,Builtin.min_,Builtin.min2,c,q,this]
theorem mx {k:IntKind} {a b:Int} {at_:Array TypeId} (c:ev N σ x= .int k a) (q:ev N σ y= .int k b):
 (execOp (ev N σ) ⟨dst,.call ⟨.builtin .max,#[x,y],at_⟩,ty,pos,af,g⟩).run P w= .ok (.value<|.int k<|max a b) w:=by
 have :(if b > a then b else a)=max a b:=ab
 simp [execOp,resolve,invoke,builtin,Builtin.max_,Builtin.max2,c,q,this]
theorem RT {t:TypeId} {l:List UInt8} {k:IntKind} {i:Int} (A:P.underlying t=some .string) (C:ev N σ x=str l) (E:ev N σ y= .int k i) (c:0≤i∧i < l.length):
 (execOp (ev N σ) ⟨dst,.index t x y,ty,pos,af,g⟩).run P w= .ok (.value<|.int .u8 ((l.getD i.toNat 0).toNat:Int)) w:=by
 have hs:(⟨⟨l⟩⟩:ByteArray)[i.toNat]? =some (l.getD i.toNat 0):=by
  have a:i.toNat < l.length:=ab
  have q:i.toNat < (⟨⟨l⟩⟩:ByteArray).size:=a
  rw [getElem?_pos (⟨⟨l⟩⟩:ByteArray) i.toNat q]
  simp [cR,a,ByteArray.getElem_eq_getElem_data]
 simp [execOp,Instr.index,C,E,asIntOf,str,c4 A,c.1,hs]
theorem Bl (l:List UInt8) (a b:Nat):Value.string ((⟨⟨l⟩⟩:ByteArray).extract a b)=str ((l.take b).drop a):=by
 unfold str
 congr 1
 apply ByteArray.ext
 simp [ByteArray.data_extract,List.extract_eq_take_drop,yh]
theorem ng (n:Nat) {t:TypeId} {l:List UInt8} {k:IntKind} (a:P.underlying t=some .string) (c:ev N σ x=str l) (q:ev N σ y= .int k (n:Int)) (h:n < l.length):
 (execOp (ev N σ) ⟨dst,.index t x y,ty,pos,af,g⟩).run P w= .ok (.value<|.int .u8 ((l.getD n 0).toNat:Int)) w:=RT a c q ⟨ab,ab⟩
theorem j8 {n:Nat} {t:TypeId} {l:List UInt8} {k:IntKind} (a:P.underlying t=some .string) (c:ev N σ x=str l) (q:ev N σ y= .int k (n:Int)) (h:n < l.length):
 (execOp (ev N σ) ⟨dst,.index t x y,ty,pos,af,g⟩).run P w= .ok (.value<|.int .u8 ((l.getD n 0).toNat:Int)) w:=ng n a c q h
theorem uv {t:TypeId} {l:List UInt8} {k G:IntKind} {a b:Int} (q:P.underlying t=some .string) (A:ev N σ x=str l) (C:ev N σ y= .int k a) (E:ev N σ z= .int G b) (c:0≤a∧a≤b∧b≤l.length):
 (execOp (ev N σ) ⟨dst,.slice t x (some y) (some z) none,ty,pos,af,g⟩).run P w= .ok (.value<|str<|(l.take b.toNat).drop a.toNat) w:=by
 have h1:b≤((⟨⟨l⟩⟩:ByteArray).size:Nat):=c.2.2
 have h2:0≤b:=ab
 have h3:a≤(b.toNat:Nat):=ab
 simp [execOp,q6,uJ,od,q7,A,C,E,asIntOf,str,c4 q,c.1,h1,h2]
 rw [if_pos ab]
 exact congrArg (fun v=>Cf (B9 v) w)<|Bl l a.toNat b.toNat
theorem su {t:TypeId} {l:List UInt8} {C:IntKind} {b:Int} (c:P.underlying t=some .string) (q:ev N σ x=str l) (A:ev N σ z= .int C b) (a:0≤b∧b≤l.length):
 (execOp (ev N σ) ⟨dst,.slice t x none (some z) none,ty,pos,af,g⟩).run P w= .ok (.value<|str<|l.take b.toNat) w:=by
 have h1:b≤((⟨⟨l⟩⟩:ByteArray).size:Nat):=a.2
 have :=Bl l 0 b.toNat
 simp only [uT] at this
 simp [execOp,q6,uJ,od,q7,q,A,asIntOf,str,c4 c,a.1,h1]
 exact Jt this
theorem oP {t:TypeId} {l:List UInt8} {k:IntKind} {a:Int} (q:P.underlying t=some .string) (A:ev N σ x=str l) (C:ev N σ y= .int k a) (c:0≤a∧a≤l.length):
 (execOp (ev N σ) ⟨dst,.slice t x (some y) none none,ty,pos,af,g⟩).run P w= .ok (.value<|str<|l.drop a.toNat) w:=by
 have h1:a≤((⟨⟨l⟩⟩:ByteArray).size:Nat):=c.2
 have :=Bl l a.toNat l.length
 simp only [List.take_length] at this
 simp [execOp,q6,uJ,od,q7,A,C,asIntOf,str,c4 q,c.1,h1]
 exact Jt this
theorem H6 (l:List UInt8):(⟨⟨l⟩⟩:ByteArray).toList=l:=Lib.toList_data ⟨⟨l⟩⟩
theorem cc {t q:TypeId} {l m:List UInt8} (a:ev N σ x=str l) (c:ev N σ y=str m) (h:l.length+m.length≤9223372036854775807):
 (execOp (ev N σ) ⟨dst,.binOp .add t x y q,ty,pos,af,g⟩).run P w= .ok (.value<|str<|l++m) w:=by
 have h1:¬(((⟨⟨l⟩⟩:ByteArray).size+(⟨⟨m⟩⟩:ByteArray).size:Nat):Int) > x6.max:=by
  have :x6.max=9223372036854775807:=aw
  rw [this]
  show ¬((l.length+m.length:Nat):Int) > _
  omega
 have h2:(⟨⟨l⟩⟩:ByteArray)++(⟨⟨m⟩⟩:ByteArray)=⟨⟨l++m⟩⟩:=by
  apply ByteArray.ext; simp
 simp only [execOp,a,c,str,eqGuard,binOp,Cb]
 rw [if_neg h1,h2]
 rfl
theorem jP {t q:TypeId} {l m:List UInt8} (a:ev N σ x=str l) (c:ev N σ y=str m):
 (execOp (ev N σ) ⟨dst,.binOp .eql t x y q,ty,pos,af,g⟩).run P w= .ok (.value<|.bool<|decide (l=m)) w:=by
 simp only [execOp,a,c,str,eqGuard,binOp,Cb,H6]
 show Cf (B9<|.bool<|l==m) w=_
 rw [show (l==m)=decide (l=m) from by rw [p8]; simp]
theorem qO {t q:TypeId} {l m:List UInt8} (a:ev N σ x=str l) (c:ev N σ y=str m):
 (execOp (ev N σ) ⟨dst,.binOp .neq t x y q,ty,pos,af,g⟩).run P w= .ok (.value<|.bool<|decide (l≠m)) w:=by
 simp only [execOp,a,c,str,eqGuard,binOp,Cb,H6]
 show Cf (B9<|.bool<|!(l==m)) w=_
 rw [show (!(l==m))=decide (l≠m) from by rw [p8]; simp]
theorem mf {fn:Fn} {first captured:Array Operand} :(execOp (ev N σ) ⟨dst,.makeFunc fn first captured,ty,pos,af,g⟩).run P w= .ok (.value<|.func fn (first.map<|ev N σ)<|captured.map<|ev N σ) w:=rfl
theorem AG {fn:Fn} {first captured:Array Operand} :(execOp (ev N σ) ⟨dst,.makeFunc fn first captured,ty,pos,af,g⟩).run P w= .ok (.value<|.func fn (first.toList.map<|ev N σ).toArray (captured.toList.map<|ev N σ).toArray) w:=by
 rw [mf,← lB,← lB]
end
end Go.Hb
namespace Go.Hb
def bD (h:Array Obj) (b:Nat) (L:List Value):Prop := ∃ e,h[b]? =some (.cells L.toArray e (0,0))
theorem bD.aM {h:Array Obj} {b:Nat} {L:List Value} (a:bD h b L) (j:Nat):Hb.aM h b j=L[j]? :=by
 obtain ⟨e,a⟩:=a
 rw [a7 a]; simp
theorem bD.bp {h:Array Obj} {b:Nat} {L:List Value} (a:bD h b L) (j:Nat):Hb.aM h b (0 +j)=L[j]? :=by
 rw [fQ,a.aM]
theorem Md.B {F:Nat→Prop} {w w':World} (h:Md F w w') {b:Nat} {L:List Value} (a:bD w.heap b L) (c:¬F b):bD w'.heap b L:=
 let ⟨e,a⟩:=a; ⟨e,h.aB a c⟩
theorem Wk.B {w w':World} (h:Wk w w') {b:Nat} {L:List Value} (a:bD w.heap b L):bD w'.heap b L:=Md.B h a id
theorem bD.lt {h:Array Obj} {b:Nat} {L:List Value} (a:bD h b L):b < h.size:=let ⟨_,a⟩:=a; (bY.1 a).1
def bk (a:Option Addr):Nat:=match a with | some ad=>ad.block | none=>0
def fo (a:Option Addr):Nat:=match a with | some ad=>ad.off | none=>0
structure aG (h:Array Obj) (a:Option Addr) (xs:List Value):Prop where
 ok:xs≠[]→a=some ⟨bk a,fo a,none⟩
 aM:∀ j u,xs[j]? =some u→Hb.aM h (bk a) (fo a+j)=some u
theorem aG.nil (h:Array Obj) (a:Option Addr):aG h a []:=⟨fun h=>absurd rfl h,fun _ _ hu=>by simp at hu⟩
theorem aG.md {F:Nat→Prop} {w w':World} {a:Option Addr} {xs:List Value} (c:aG w.heap a xs) (h:Md F w w') (q:xs≠[]→¬F (bk a)):aG w'.heap a xs:=
 ⟨c.ok,fun j u hu=>h.aM (c.aM j u hu)<|q<|by rintro rfl; simp at hu⟩
theorem aG.wk {w w':World} {a:Option Addr} {xs:List Value} (c:aG w.heap a xs) (h:Wk w w'):aG w'.heap a xs:=c.md h fun _ x=>x
theorem aG.take {h:Array Obj} {a:Option Addr} {xs:List Value} (c:aG h a xs) (n:Nat):aG h a (xs.take n):=
 ⟨fun q=>c.ok (by rintro rfl; simp at q),fun j u hu=>c.aM j u<|by rw [oo] at hu; split at hu; exact hu; cases hu⟩
theorem aG.fV {h:Array Obj} {b:Nat} {L:List Value} (a:bD h b L):aG h (some ⟨b,0,none⟩) L:=
 ⟨fun _=>rfl,fun j u hu=>by show Hb.aM h b (0 +j)=_; rw [fQ,a.aM]; exact hu⟩
theorem aG.jk {h:Array Obj} {a:Option Addr} {xs:List Value} (c:aG h a xs) {i:Nat} {u:Value} (hu:xs[i]? =some u):Hb.aM h (bk a) (fo a+i*1)=some u:=by
 rw [Nat.mul_one]; exact c.aM i u hu
def dz (h:Array Obj) (a:Option Addr) (l:List (List UInt8)):Prop :=aG h a<|l.map str
theorem dz.get {h:Array Obj} {a:Option Addr} {l:List (List UInt8)} (hs:dz h a l) {i:Nat} (hi:i < l.length):Hb.aM h (bk a) (fo a+i*1)=some (str<|l.getD i []):=
 aG.jk hs (by simp [cR,hi])
theorem dz.wk {w w':World} {a:Option Addr} {l:List (List UInt8)} (hs:dz w.heap a l) (h:Wk w w'):dz w'.heap a l:=aG.wk hs h
theorem db {α:Type} {f:α→Value} {l:List α} (h:0 < l.length):l.map f≠[]:=by
 cases l with
 | nil=>simp at h
 | cons x l=>simp
def XA (k:IntKind) (h:Array Obj) (a:Option Addr) (l:List Int):Prop :=aG h a<|l.map<|fG k
def gv (P:Program) (t e size bytes:Nat):Bool:=
 match P.underlying t with
 | some (.slice a)=>a==e && match P.info? e with
   | some i=>i.size==size && i.bytes==bytes && fP 0 size && match i.zero with
     | some z=>z.cells.size==size
     | none=>false
   | none=>false
 | _=>false
theorem pV {P:Program} {t e size bytes:Nat} (h:gv P t e size bytes=true):
 P.underlying t=some (.slice e)∧∃ i z,P.info? e=some i∧i.zero=some z∧i.size=size∧i.bytes=bytes∧z.cells.size=size∧0 < size:=by
 unfold gv at h
 split at h
 · rename_i c hu
   simp only [gj,beq_iff_eq] at h
   obtain ⟨rfl,h⟩:=h
   split at h
   · rename_i i hi
     simp only [gj,beq_iff_eq] at h
     obtain ⟨⟨⟨h1,h2⟩,h3⟩,h4⟩:=h
     split at h4
     · rename_i z a
       exact ⟨hu,i,z,hi,a,h1,h2,by simpa using h4,rp (s6 0)<|qk h3⟩
     · cases h4
   · cases h
 · cases h
def eb (P:Program) (t:TypeId):Option Nat:=(P.info? t).map (·.size)
def zeroOf (P:Program) (t:TypeId):Option (Option<|List Value):=(P.info? t).map fun i=>i.zero.map fun z=>z.cells.toList
def bg (P:Program) (f:FuncId):Prop := ∀ args w,(callFunc f args).run P w= .ok (.enter f args) w
theorem MY {P:Program} {f:FuncId} {fn:Func} (c:P.funcs[f]? =some fn) (hn:(fn.name== "runtime.NumGoroutine")=false) (a:fn.body.isNone=false):bg P f:=by
 intro args w
 have h1:¬((fn.name== "runtime.NumGoroutine")=true):=by rw [hn]; simp
 have h2:¬(fn.body.isNone=true):=by rw [a]; simp
 simp only [callFunc,nz,run_program,ny,c]
 rw [if_neg h1,if_neg h2]
 rfl
section
variable {P:Program} {N:Fm} {σ:Nat→Value} {w:World} {dst:Option Nat} {ty:TypeId} {pos :String} {af:Array Edge} {g:Option (Nat×Bool)} {x y z:Operand} {K:(Nat→Value)→World→Prop}
theorem Iz {o:Oper} {f:FuncId} {L:List Value} {R:Value→World→Prop} (q:(execOp (ev N σ) o).run P w= .ok (.enter f L.toArray) w) (c:bf P f L.toArray w R)
 (k:∀ v w',R v w'→K (fi σ o.dst v) w'):cJ P N o σ w K:=by
 unfold cJ je
 rw [ga,q]
 refine jX c fun e w' ⟨v,he,a⟩=> ?_
 subst he
 exact ⟨_,jj ..,k v w' a⟩
theorem cl {f:FuncId} {args:Array Operand} {a:Array TypeId} {L:List Value} {R:Value→World→Prop} (q:bg P f) (A:bf P f L.toArray w R) (c:args.toList.map (ev N σ)=L)
 (k:∀ v w',R v w'→K (fi σ dst v) w'):cJ P N ⟨dst,.call ⟨.value (.func f),args,a⟩,ty,pos,af,g⟩ σ w K:=by
 refine Iz (f:=f) ?_ A k
 have :args.map (ev N σ)=L.toArray:=by rw [← c,← lB]
 simp [execOp,resolve,ev,o5,invoke,this,q L.toArray w]
theorem NU {f:FuncId} {fo:Operand} {first cap:Array Value} {args:Array Operand} {a:Array TypeId} {L:List Value} {R:Value→World→Prop} (q:bg P f) (C:ev N σ fo= .func (.func f) first cap)
 (A:bf P f L.toArray w R) (c:first.toList++args.toList.map (ev N σ)++cap.toList=L)
 (k:∀ v w',R v w'→K (fi σ dst v) w'):cJ P N ⟨dst,.call ⟨.value fo,args,a⟩,ty,pos,af,g⟩ σ w K:=by
 refine Iz (f:=f) ?_ A k
 have :first++args.map (ev N σ)++cap=L.toArray:=by rw [← c,← lB,← IU,← IU]
 simp [execOp,resolve,C,o5,invoke,this,q L.toArray w]
theorem mF {o:Oper} {ob:Obj} {v:Nat→Value} (a:(execOp (ev N σ) o).run P w= .ok (.value<|v w.heap.size) {w with heap:=w.heap.push ob})
 (k:∀ b w',b=w.heap.size→Nw w w'→w'.heap[b]? =some ob→K (fi σ o.dst<|v b) w'):cJ P N o σ w K:=
 lz a (k _ _ rfl (AR w ob) (by simp))
theorem al {e:TypeId} {c:List Value} (a:zeroOf P e=some (some c)) (k:∀ b w',b=w.heap.size→Nw w w'→bD w'.heap b c→K (fi σ dst<|.pointer<|some ⟨b,0,none⟩) w'):
 cJ P N ⟨dst,.alloc e,ty,pos,af,g⟩ σ w K:=by
 refine mF (v:=fun b=> .pointer<|some ⟨b,0,none⟩) (ob:= .cells c.toArray e (0,0)) ?_ fun b w' h1 h2 h3=>k b w' h1 h2 ⟨e,h3⟩
 unfold zeroOf at a
 simp only [ma] at a
 obtain ⟨i,hi,zv,q,rfl⟩:=a
 simp [execOp,Jb,zeroValue,gO hi,q,newVar,newRow]
theorem gn {e:TypeId} {c:List Value} (a:zeroOf P e=some (some c)) (k:∀ b w',b=w.heap.size→Nw w w'→w'.heap[b]? =some (.cells c.toArray e (0,0))→K (fi σ dst<|.pointer<|some ⟨b,0,none⟩) w'):
 cJ P N ⟨dst,.alloc e,ty,pos,af,g⟩ σ w K:=by
 refine mF (v:=fun b=> .pointer<|some ⟨b,0,none⟩) (ob:= .cells c.toArray e (0,0)) ?_ k
 unfold zeroOf at a
 simp only [ma] at a
 obtain ⟨i,hi,zv,q,rfl⟩:=a
 simp [execOp,Jb,zeroValue,gO hi,q,newVar,newRow]
theorem bx {e:TypeId} {v:Value} {L:List Value} (c:ev N σ x=v) (a:v.cells.toList=L) (k:∀ b w',b=w.heap.size→Nw w w'→bD w'.heap b L→K (fi σ dst<|.pointer<|some ⟨b,0,none⟩) w'):
 cJ P N ⟨dst,.box e x,ty,pos,af,g⟩ σ w K:=by
 subst a
 refine mF (v:=fun b=> .pointer<|some ⟨b,0,none⟩) (ob:= .cells v.cells e (0,0)) ?_ fun b w' h1 h2 h3=>k b w' h1 h2 ⟨e,h3⟩
 simp [execOp,Instr.box,c,newVar,newRow]
theorem qM {t:TypeId} (k:∀ b w',b=w.heap.size→Nw w w'→w'.heap[b]? =some (.map #[] 0)→K (fi σ dst<|.map<|some b) w'):cJ P N ⟨dst,.makeMap t none,ty,pos,af,g⟩ σ w K:=by
 refine mF (v:=fun b=> .map<|some b) ?_ k
 simp [execOp,Instr.makeMap]
theorem pF {t e:TypeId} {size bytes:Nat} (c:gv P t e size bytes=true)
 (k:∀ b w',b=w.heap.size→Nw w w'→(∀ B,B≤b→w'.ownsRow B e size (.slice (some ⟨b,0,none⟩) 0 0) 0 [])→K (fi σ dst<|.slice (some ⟨b,0,none⟩) 0 0) w'):cJ P N ⟨dst,.buildSlice t 0 #[],ty,pos,af,g⟩ σ w K:=by
 refine mF (v:=fun b=> .slice (some ⟨b,0,none⟩) 0 0) (ob:= .cells #[] e (0,0)) ?_ fun b w' h1 h2 h3=>k b w' h1 h2 fun B a=>⟨by simp,.inr ⟨b,0,#[],aa,a,h3,cz _,by simp [maxLen],by simp,by simp⟩⟩
 obtain ⟨hu,i,zv,hi,q,h1,h2,h3,h4⟩:=pV c
 simp [execOp,BZ,c4 hu,sizeOf,gO hi,l7,newRow]
 congr 2
 exact Array.eq_empty_of_size_eq_zero<|by simp
theorem Lq {t e:TypeId} {size bytes:Nat} {v:Value} {L:List Value} (G:gv P t e size bytes=true) (hs:mO size 1000=true) (J:ev N σ x=v) (I:v.cells.size=size)
 (A:v.cells.toList=L) (k:∀ b w',b=w.heap.size→Nw w w'→w'.heap[b]? =some (.cells L.toArray e (0,0))→K (fi σ dst<|.slice (some ⟨b,0,none⟩) 1 1) w'):cJ P N ⟨dst,.buildSlice t 1 #[(0,x)],ty,pos,af,g⟩ σ w K:=by
 subst A
 refine mF (v:=fun b=> .slice (some ⟨b,0,none⟩) 1 1) (ob:= .cells v.cells e (0,0)) ?_ fun b w' h1 h2 h3=>k b w' h1 h2<|by simpa using h3
 obtain ⟨hu,i,zv,hi,M,h1,h2,h3,h4⟩:=pV G
 have V:size≤1000:=by simpa using hs
 have C:l7 (fun i=>some (i*size,size)) ((oY size).map (zv.cells[· % zv.cells.size]!)) [(0,v)]=some v.cells:=by
  have a:((oY size).map (zv.cells[· % zv.cells.size]!)).size=size:=by simp
  generalize (oY size).map (zv.cells[· % zv.cells.size]!)=cs at a
  simp only [l7,I]
  rw [if_neg (by rw [a]; simp)]
  congr 1
  have key:∀ (l:List Value) (m:Nat) (cs:Array Value),m+l.length≤cs.size→∀ j,((l.zipIdx m).foldl (fun (cs:Array Value) (c,j)=>cs.setIfInBounds (0 *size+j) c) cs)[j]? =if j < m then cs[j]? else if j < m+l.length then l[j - m]? else cs[j]? :=by
   intro l
   induction l with
   | nil=>intro m cs hm j; simp; intro h1 h2; omega
   | cons c l O=>
     intro m cs hm j
     simp only [yw,sV,bX] at hm ⊢
     rw [O (m+1) _ (by simp; omega)]
     simp only [CD,fQ,BU]
     by_cases h1:j < m
     · rw [if_pos ab,if_pos h1,if_neg ab]
     · rw [if_neg h1]
       by_cases h2:j=m
       · subst h2
         rw [if_pos ab,if_pos rfl,if_pos ab,if_pos ab]
         simp
       · rw [if_neg ab]
         by_cases h3:j < m+1 +l.length
         · rw [if_pos h3,if_pos ab]
           obtain ⟨q,E⟩:∃ q,j - m=q+1:=⟨j - m - 1,ab⟩
           rw [E,JF,show j - (m+1)=q from by omega]
         · rw [if_neg h3,if_neg ab,if_neg ab]
  apply IS
  intro j
  have :=key v.cells.toList 0 cs (by simp; omega) j
  rw [show (v.cells.zipIdx.foldl (fun (cs:Array Value) (c,j)=>cs.setIfInBounds (0 *size+j) c) cs)=((v.cells.toList.zipIdx 0).foldl (fun (cs:Array Value) (c,j)=>cs.setIfInBounds (0 *size+j) c) cs) from by
   rw [← Array.foldl_toList]; simp [Array.toList_zipIdx]]
  rw [this]
  simp only [Nat.not_lt_zero,if_false,fQ,Nat.sub_zero,uF,uE]
  split
  · rfl
  · rw [p7 ab,p7 ab]
 simp only [execOp,BZ,nz,c4 hu,ny,sizeOf,gO hi,ra,h1,Nat.one_mul,Cj,zeroValue,M,List.map_toArray,qj,List.map_nil,J,C]
 rw [if_neg (by rw [show (2:Nat) ^ 24=16777216 from rfl]; omega),if_neg ab]
 simp [newRow]
theorem C6 {t e:TypeId} {size bytes:Nat} {v:Value} {L:List Value} (c:gv P t e size bytes=true) (hs:mO size 1000=true) (A:ev N σ x=v) (q:v.cells.size=size)
 (a:v.cells.toList=L) (k:∀ b w',b=w.heap.size→Nw w w'→bD w'.heap b L→K (fi σ dst<|.slice (some ⟨b,0,none⟩) 1 1) w'):cJ P N ⟨dst,.buildSlice t 1 #[(0,x)],ty,pos,af,g⟩ σ w K:=
 Lq c hs A q a fun b w' h1 h2 h3=>k b w' h1 h2 ⟨_,h3⟩
theorem pR {v:Value} (h:v.oneCell'=true):v.cells= #[v]:=by cases v <;> first | rfl | (cases h; done)
theorem ET {loc:Nat→Option (Nat×Nat)} (c:∀ i,loc i=some (i*1,1)):∀ (rest pre a:List Value),a.length=rest.length→rest.all eO=true→
 l7 loc (pre++a).toArray ((rest.zipIdx pre.length).map fun q=>(q.2,q.1))=some (pre++rest).toArray
 | [],pre,a,hl,_=>by
   rw [gx hl]; rfl
 | v::r,pre,a,hl,h1=>by
   cases a with
   | nil=>simp at hl
   | cons z a=>
     rw [yc,gj] at h1
     have C:=pR h1.1
     have A:=ET c r (pre++ [v]) a (by simpa using hl) h1.2
     simp only [yw,qj,l7,c,C]
     rw [if_neg (by simp)]
     simp only [bK,iR,dZ,List.singleton_append] at A
     rw [← A]
     simp
theorem qy {t e bytes n:Nat} {ps:Array (Nat×Operand)} {L:List Value} (A:gv P t e 1 bytes=true) (hp:ps.toList.map (fun p=>(p.1,ev N σ p.2))=(L.zipIdx 0).map fun q=>(q.2,q.1)) (h1:L.all eO=true) (hn:L.length=n) (hs:(mO n 1000 && fP 0 n)=true)
 (k:∀ b w',b=w.heap.size→Nw w w'→w'.heap[b]? =some (.cells L.toArray e (0,0))→K (fi σ dst<|.slice (some ⟨b,0,none⟩) n n) w'):cJ P N ⟨dst,.buildSlice t n ps,ty,pos,af,g⟩ σ w K:=by
 subst hn
 refine mF (v:=fun b=> .slice (some ⟨b,0,none⟩) L.length L.length) (ob:= .cells L.toArray e (0,0)) ?_ k
 obtain ⟨hu,i,zv,hi,C,a,h2,h3,h4⟩:=pV A
 simp only [gj] at hs
 have G:L.length≤1000:=by simpa using hs.1
 have I:0 < L.length:=by have :=qk hs.2; omega
 have c:l7 (fun i=>some (i*1,1)) ((oY<|L.length*1).map (zv.cells[· % zv.cells.size]!)) (ps.toList.map fun p=>(p.1,ev N σ p.2))=some L.toArray:=by
  rw [hp]
  have E:((oY<|L.length*1).map (zv.cells[· % zv.cells.size]!)).toList.length=L.length:=by simp
  have :=ET (loc:=fun i=>some (i*1,1)) (fun _=>rfl) L [] ((oY<|L.length*1).map (zv.cells[· % zv.cells.size]!)).toList E h1
  rw [mN,mN,xU] at this
  exact this
 simp only [execOp,BZ,nz,c4 hu,ny,sizeOf,gO hi,ra,a,Cj,zeroValue,C,lB,c]
 rw [if_neg (by rw [show (2:Nat) ^ 24=16777216 from rfl]; omega),if_neg ab]
 simp [newRow]
theorem lK {t e:TypeId} {bytes:Nat} {v:Value} (a:gv P t e 1 bytes=true) (c:ev N σ x=v) (h1:v.oneCell'=true)
 (k:∀ b w',b=w.heap.size→Nw w w'→bD w'.heap b [v]→K (fi σ dst<|.slice (some ⟨b,0,none⟩) 1 1) w'):cJ P N ⟨dst,.buildSlice t 1 #[(0,x)],ty,pos,af,g⟩ σ w K:=
 C6 a rfl c (by rw [pR h1]; rfl) (by rw [pR h1]) k
theorem nM {t e:TypeId} {size bytes:Nat} {L:List Value} (c:gv P t e size bytes=true) (hs:mO size 1000=true) (q:ev N σ x= .agg L.toArray) (a:L.length=size)
 (k:∀ b w',b=w.heap.size→Nw w w'→bD w'.heap b L→K (fi σ dst<|.slice (some ⟨b,0,none⟩) 1 1) w'):cJ P N ⟨dst,.buildSlice t 1 #[(0,x)],ty,pos,af,g⟩ σ w K:=
 C6 c hs q (by simpa [sT] using a) (by simp [sT]) k
theorem iJ {e:TypeId} {L:List Value} (a:ev N σ x= .agg L.toArray) (k:∀ b w',b=w.heap.size→Nw w w'→bD w'.heap b L→K (fi σ dst<|.pointer<|some ⟨b,0,none⟩) w'):
 cJ P N ⟨dst,.box e x,ty,pos,af,g⟩ σ w K:=bx a (by simp [sT]) k
theorem pG {e:TypeId} {L:List Value} (a:ev N σ x= .agg L.toArray) (k:∀ b w',b=w.heap.size→Nw w w'→w'.heap[b]? =some (.cells L.toArray e (0,0))→K (fi σ dst<|.pointer<|some ⟨b,0,none⟩) w'):
 cJ P N ⟨dst,.box e x,ty,pos,af,g⟩ σ w K:=by
 refine mF (v:=fun b=> .pointer<|some ⟨b,0,none⟩) (ob:= .cells L.toArray e (0,0)) ?_ fun b w' h1 h2 h3=>k b w' h1 h2 h3
 simp [execOp,Instr.box,a,newVar,newRow,sT]
theorem tk {l:List Value} (h:l.all eO=true):∀ u∈l,u.oneCell'=true :=kK.1 h
theorem dy {t b off :Nat} {e:TypeId} {L:List Value} {v:Value} (c:eb P t=some 1) (O:ev N σ x= .pointer (some ⟨b,off,none⟩)) (V:ev N σ y=v) (h1:v.oneCell'=true) (a:w.heap[b]? =some (.cells L.toArray e (0,0))) (I:off < L.length)
 (k:∀ w',Md (fun k=>k=b) w w'→w'.heap[b]? =some (.cells (L.set off v).toArray e (0,0))→K σ w'):cJ P N ⟨none,.store t x y,ty,pos,af,g⟩ σ w K:=by
 have A:v.cells= #[v]:=by cases v <;> first | rfl | (cases h1; done)
 have C:w.cell? ⟨b,off,none⟩=some L[off]:=by rw [mS,a7 a]; simp [I]
 have E:w.frozen? ⟨b,off,none⟩=false :=by simp only [World.frozen?,show w.heap[b]? =_ from a]; simp
 unfold eb at c
 simp only [ma] at c
 obtain ⟨i,hi,hs⟩:=c
 have q:(⟨b,off,none⟩:Addr).add 0=⟨b,off,none⟩:=rfl
 have J:(execOp (ev N σ) ⟨none,.store t x y,ty,pos,af,g⟩).run P w= .ok .skip (w.setCell ⟨b,off,none⟩ v):=by
  simp [execOp,B8,O,V,p9,storeVar,A,sizeOf,gO hi,hs,storeCells,q,run_store P w _ v _ h1,C,E]
 unfold cJ je
 rw [ga,J]
 refine ⟨σ,aa,k _ ⟨aa,aa,by simp [yb],fun k _ hk=> ?_⟩ ?_⟩
 · exact Below.heap_setCell w _ v k hk
 · have G:=(bY.1 a).1
   have M:w.heap[b]= .cells L.toArray e (0,0):=(bY.1 a).2
   simp only [yb]
   rw [xT (by simpa using G),Array.getElem_modify]
   simp [M,List.setIfInBounds_toArray]
theorem st {t b off :Nat} {L:List Value} {v:Value} (C:eb P t=some 1) (q:ev N σ x= .pointer (some ⟨b,off,none⟩)) (A:ev N σ y=v) (h1:v.oneCell'=true) (a:bD w.heap b L) (c:off < L.length)
 (k:∀ w',Md (fun k=>k=b) w w'→bD w'.heap b (L.set off v)→K σ w'):cJ P N ⟨none,.store t x y,ty,pos,af,g⟩ σ w K:=
 let ⟨_,a⟩:=a
 dy C q A h1 a c fun w' h1 h2=>k w' h1 ⟨_,h2⟩
theorem fY {t b off n:Nat} {e:TypeId} {L vs:List Value} (a:eb P t=some n) (A:ev N σ x= .pointer (some ⟨b,off,none⟩)) (C:ev N σ y= .agg vs.toArray) (hn:vs.length=n) (h1:vs.all eO=true) (c:w.heap[b]? =some (.cells L.toArray e (0,0))) (E:off+n≤L.length)
 (k:∀ w',Md (fun k=>k=b) w w'→w'.heap[b]? =some (.cells (L.take off++vs++L.drop (off+n)).toArray e (0,0))→K σ w'):cJ P N ⟨none,.store t x y,ty,pos,af,g⟩ σ w K:=by
 unfold eb at a
 simp only [ma] at a
 obtain ⟨i,hi,hs⟩:=a
 have bT:=run_storeCells_at P b off e vs 0 L.toArray w c (by simp; omega)<|tk h1
 have q:(execOp (ev N σ) ⟨none,.store t x y,ty,pos,af,g⟩).run P w= .ok .skip (w.setRow b (L.take off++vs++L.drop (off+n)).toArray):=by
  simp [execOp,B8,A,C,p9,storeVar,sT,sizeOf,gO hi,hs,hn,bT]
 unfold cJ je
 rw [ga,q]
 exact ⟨σ,aa,k _ ⟨aa,aa,by simp,fun k _ hk=>setRow_other w b k _ hk⟩<|setRow_heap w b _ _ e _ c⟩
theorem cM {t b off n:Nat} {L vs:List Value} (c:eb P t=some n) (A:ev N σ x= .pointer (some ⟨b,off,none⟩)) (C:ev N σ y= .agg vs.toArray) (hn:vs.length=n) (h1:vs.all eO=true) (a:bD w.heap b L) (E:off+n≤L.length)
 (k:∀ w',Md (fun k=>k=b) w w'→bD w'.heap b (L.take off++vs++L.drop (off+n))→K σ w'):cJ P N ⟨none,.store t x y,ty,pos,af,g⟩ σ w K:=by
 obtain ⟨e,a⟩:=a
 unfold eb at c
 simp only [ma] at c
 obtain ⟨i,hi,hs⟩:=c
 have bT:=run_storeCells_at P b off e vs 0 L.toArray w a (by simp; omega)<|tk h1
 have q:(execOp (ev N σ) ⟨none,.store t x y,ty,pos,af,g⟩).run P w= .ok .skip (w.setRow b (L.take off++vs++L.drop (off+n)).toArray):=by
  simp [execOp,B8,A,C,p9,storeVar,sT,sizeOf,gO hi,hs,hn,bT]
 unfold cJ je
 rw [ga,q]
 exact ⟨σ,aa,k _ ⟨aa,aa,by simp,fun k _ hk=>setRow_other w b k _ hk⟩ ⟨e,setRow_heap w b _ _ e _ a⟩⟩
theorem KP {t ty e:TypeId} {i:TypeInfo} {zv:Value} {B n m c:Nat} {v V:Value} {xs news:List Value} {ad:Addr} {w':World} (hu:P.underlying t=some (.slice e)) (hi:P.info? e=some i) (O:i.zero=some zv) (ag:zv.cells.size=i.size) (ac:0 < i.size)
 (C:w.ownsRow B e i.size v n xs) (A:news.length=m*i.size) (E:∀ j u,news[j]? =some u→w.cell? (ad.add j)=some u) (h1:∀ u∈news,u.oneCell'=true) (I:n+m≤maxLen) (G:(n+m)*i.bytes≤140737488355328)
 (a:(x5 #[t,t] ty #[v,.slice (some ad) m c]).run P w= .ok V w'):∀ k,V.ownBlock=some k→v.ownBlock=some k∨w.heap.size≤k:=by
 intro k hk
 have ah:n+m≤9223372036854775807:=by unfold maxLen at I; omega
 rcases C.2 with ⟨rfl,rfl⟩ | ⟨q,cap,cur,rfl,aj,aa,al,ak,Y,am⟩
 · have ae:xs= []:=gx<|by simpa using C.1
   subst ae
   obtain ⟨v2,an,J,h2,_,_⟩:=run_append_own (P:=P) w w.heap.size t ty e i zv i.size i.bytes hu hi O rfl rfl ag ac _ 0 [] (dS w w.heap.size e i.size) ad m c news A E h1 I G (cz _)
   rw [a] at J
   cases J
   exact .inr (by
    rcases h2.2 with ⟨h,_⟩ | ⟨g2,_,_,h,ai,_⟩
    · rw [h] at hk; simp [gG] at hk
    · rw [h] at hk; simp only [gG,fJ] at hk; omega)
 · by_cases M:n+m≤cap
   · have Z:n*i.size+news.length≤cur.size:=by rw [A,Y,← Nat.add_mul]; exact ou _ M
     rw [run_append_room (P:=P) w t ty e i hu hi q n cap cur aa ad m c news A E h1 M Z] at a
     cases a
     exact .inl hk
   · have holds:∀ j u,xs[j]? =some u→w.cell? ((⟨q,0,none⟩:Addr).add j)=some u:=C.cells (g:=q) rfl
     rw [run_append_grow (P:=P) w t ty e i zv hu hi O ⟨q,0,none⟩ n cap xs C.1 holds ad m c news A E ab ab (growslice_fits ab G)] at a
     cases a
     simp only [gG,fJ] at hk
     exact .inr ab
theorem ap {t e size bytes B n m c:Nat} {v:Value} {xs news:List Value} {a:Option Addr} (aj:gv P t e size bytes=true) (A:w.ownsRow B e size v n xs) (Y:ev N σ x=v) (ac:B≤w.heap.size)
 (Z:ev N σ y= .slice a m c) (I:aG w.heap a news) (C:news.length=m*size) (h1:news.all eO=true) (E:(n+m)*bytes≤140737488355328) (am:n+m≤9223372036854775807)
 (k:∀ q w',w'.ownsRow B e size q (n+m) (xs++news)→Md (fun k=>v.ownBlock=some k) w w'→(q= .slice none 0 0↔v= .slice none 0 0∧m=0)→(∀ k,q.ownBlock=some k→v.ownBlock=some k∨w.heap.size≤k)→K (fi σ dst q) w'):
 cJ P N ⟨dst,.call ⟨.builtin .append,#[x,y],#[t,t]⟩,ty,pos,af,g⟩ σ w K:=by
 obtain ⟨hu,i,zv,hi,aa,hs,G,ab,O⟩:=pV aj
 have J:n+m≤maxLen:=by unfold maxLen; omega
 by_cases hm:news= []
 · subst hm
   have ag:m=0:=by
    rcases Nat.mul_eq_zero.1 (C.symm.trans rfl) with h | h
    · exact h
    · omega
   subst ag
   have ai:(x5 #[t,t] ty #[v,.slice a 0 c]).run P w= .ok v w:=by
    rcases A.2 with ⟨rfl,rfl⟩ | ⟨al,cap,cur,rfl,_,_,hle,_⟩
    · cases a <;> simp [x5,c4 hu,sizeOf,gO hi,I1,I0,loadCells,loadCellsFrom]
    · cases a <;> simp [x5,c4 hu,sizeOf,gO hi,I1,I0,loadCells,loadCellsFrom,hle,storeCells]
   refine lz (w':=w) (v:=v) ?_<|k v w (by simpa using A) (Md.refl _ _) (by simp) fun _ h=> .inl h
   simp [execOp,resolve,invoke,builtin,Y,Z,ai]
 · have ad:=I.ok hm
   have M:∀ j u,news[j]? =some u→w.cell? ((⟨bk a,fo a,none⟩:Addr).add j)=some u:=fun j u hu=>by rw [lG,mS]; exact I.aM j u hu
   obtain ⟨q,w',V,h2,h3,h4⟩:=run_append_own (P:=P) w B t ty e i zv size bytes hu hi aa hs G ab O v n xs A ⟨bk a,fo a,none⟩ m c news C M (tk h1) J E ac
   subst hs G
   have ae:=KP hu hi aa ab O A C M (tk h1) J E V
   refine lz (w':=w') (v:=q) ?_<|k q w' h2 ⟨h3.os,h3.output,h3.size,fun k hk ah=>h3.block k hk fun e=>ah e.symm⟩ h4 ae
   have ak:ev N σ y= .slice (some ⟨bk a,fo a,none⟩) m c:=Z.trans<|congrArg (fun a=>bE a m c) ad
   simp [execOp,resolve,invoke,builtin,Y,ak,V]
theorem bd {t n len cap:Nat} {k:IntKind} {i:Int} {a:Option Addr} (he:gK P t=some n) (q:ev N σ x= .slice a len cap) (A:ev N σ y= .int k i) (c:0≤i∧i < len) (C:a=some ⟨bk a,fo a,none⟩):
 (execOp (ev N σ) ⟨dst,.indexAddr t x y,ty,pos,af,g⟩).run P w= .ok (.value<|.pointer<|some ⟨bk a,fo a+i.toNat*n,none⟩) w:=
 ia he (by rw [q]; congr 1) A c
end
theorem cx {F:Nat→Prop} {w w':World} {B e size n:Nat} {v:Value} {xs:List Value} (h:w.ownsRow B e size v n xs) (hm:Md F w w') (c:∀ k,v.ownBlock=some k→¬F k):w'.ownsRow B e size v n xs:=by
 refine ⟨h.1,?_⟩
 rcases h.2 with hn | ⟨g,cap,cur,rfl,a,q,rest⟩
 · exact .inl hn
 · exact .inr ⟨g,cap,cur,aa,a,hm.aB q (c g aa),rest⟩
section
variable {P:Program} {N:Fm} {σ:Nat→Value} {w:World} {dst:Option Nat} {ty:TypeId} {pos :String} {af:Array Edge} {g:Option (Nat×Bool)} {x y z:Operand} {K:(Nat→Value)→World→Prop}
theorem sw {t B e size n cap off j:Nat} {a:Option Addr} {xs:List Value} {u:Value} (Y:w.ownsRow B e size (.slice a n cap) n xs) (ad:eb P t=some 1) (ab:ev N σ x= .pointer (some ⟨bk a,off,none⟩)) (ac:ev N σ y=u) (h1:u.oneCell'=true)
 (M:off =fo a+j) (V:j < n*size)
 (k:∀ w',Md (fun k=>(bE a n cap).ownBlock=some k) w w'→w'.ownsRow B e size (.slice a n cap) n (xs.set j u)→K σ w'):cJ P N ⟨none,.store t x y,ty,pos,af,g⟩ σ w K:=by
 obtain ⟨A,h⟩:=Y
 rcases h with ⟨h,rfl⟩ | ⟨c,cp,cur,h,C,J,hle,I,q,Z⟩
 · simp at V
 · simp only [l8,true_and] at h
   obtain ⟨rfl,rfl⟩:=h
   have O:off =j:=by rw [M]; simp [fo]
   subst O
   have hlen:off < cur.toList.length:=by
    have :=ou size hle
    rw [uF,q]; omega
   refine dy (L:=cur.toList) ad ab ac h1 (show w.heap[c]? =_ by simpa using J) hlen fun w' G E=>k w' (G.mono fun k _ hk=>by subst hk; rfl) ⟨by simpa using A,.inr ⟨c,cap,_,aa,C,E,hle,I,by simpa using q,?_⟩⟩
   rw [← Z]
   simp only
   rw [List.take_set]
end
theorem eM {w:World} {B e size n:Nat} {v:Value} {xs:List Value} (h:w.ownsRow B e size v n xs):v.oneCell'=true :=by
 rcases h.2 with ⟨rfl,_⟩ | ⟨g,cap,cur,rfl,_⟩ <;> rfl
theorem cT {w:World} {B e size n:Nat} {v:Value} {xs:List Value} (h:w.ownsRow B e size v n xs):∃ a cap,v= .slice a n cap:=by
 rcases h.2 with ⟨rfl,rfl⟩ | ⟨g,cap,cur,rfl,_⟩
 · exact ⟨_,_,aa⟩
 · exact ⟨_,_,aa⟩
theorem n0 {w:World} {B B' e q size J n I:Nat} {v A:Value} {xs M:List Value} (h:w.ownsRow B e size v n xs) (C:w.ownsRow B' q J A I M) (G:e≠q) {k:Nat} (hk:v.ownBlock=some k):A.ownBlock≠some k:=by
 intro c
 rcases h.2 with ⟨rfl,_⟩ | ⟨g,cap,cur,rfl,_,E,_⟩
 · simp [gG] at hk
 · rcases C.2 with ⟨rfl,_⟩ | ⟨Y,O,V,rfl,_,a,_⟩
   · simp [gG] at c
   · simp only [gG,fJ] at hk c
     subst hk c
     rw [E] at a
     simp only [fJ,uK] at a
     exact G a.2.1
theorem a8 {w w':World} {B e size n:Nat} {v:Value} {xs:List Value} (h:w.ownsRow B e size v n xs) (hm:Wk w w'):w'.ownsRow B e size v n xs:=cx h hm fun _ _ x=>x
theorem cV {w:World} {B e size n:Nat} {v:Value} {xs:List Value} (h:w.ownsRow B e size v n xs) {k:Nat} (hk:v.ownBlock=some k):B≤k∧k < w.heap.size:=h.lt k hk
theorem Wk.own {w0 w w':World} {B e size n:Nat} {v:Value} {xs:List Value} (h:Wk w0 w) (a:w.ownsRow B e size v n xs) (hm:Md (fun k=>v.ownBlock=some k) w w') (q:w0.heap.size≤B):Wk w0 w':=
 Md.trans' h hm (fun k hk c=>by have :=(cV a c).1; omega)
theorem sr {w:World} {B e size n:Nat} {v:Value} {xs:List Value} (h:w.ownsRow B e size v n xs):∃ a cap,v= .slice a n cap∧aG w.heap a xs∧n≤cap∧(∀ k,v.ownBlock=some k→a=some ⟨k,0,none⟩∧B≤k∧k < w.heap.size)∧(v.ownBlock=none→xs= []):=by
 rcases h.2 with ⟨rfl,rfl⟩ | ⟨g,cap,cur,rfl,q,c,hle,_,_,A⟩
 · have :xs= []:=gx<|by simpa using h.1
   subst this
   exact ⟨none,0,aa,aG.nil _ _,cz _,fun k hk=>by simp [gG] at hk,fun _=>rfl⟩
 · refine ⟨_,cap,aa,⟨fun _=>rfl,fun j u hu=> ?_⟩,hle,fun k hk=> ?_,fun hk=>by simp [gG] at hk⟩
   · show aM w.heap g (0 +j)=_
     rw [fQ,a7 c]
     rw [← A,oo] at hu
     split at hu
     · simpa using hu
     · cases hu
   · simp only [gG,fJ] at hk; subst hk
     exact ⟨aa,q,(bY.1 c).1⟩
theorem a6 {w:World} {B e size n cap:Nat} {a:Option Addr} {xs:List Value} (h:w.ownsRow B e size (.slice a n cap) n xs):n≤cap∧aG w.heap a xs:=by
 obtain ⟨A,C,c,q,hle,_⟩:=sr h
 simp only [l8,true_and] at c
 obtain ⟨rfl,rfl⟩:=c
 exact ⟨hle,q⟩
theorem e5 {w:World} {B B' e size n:Nat} {v:Value} {xs:List Value} (h:w.ownsRow B e size v n xs) (a:B'≤B):w.ownsRow B' e size v n xs:=by
 refine ⟨h.1,?_⟩
 rcases h.2 with h | ⟨g,cap,cur,h1,h2,r⟩
 · exact .inl h
 · exact .inr ⟨g,cap,cur,h1,ea a h2,r⟩
theorem aG.drop {h:Array Obj} {a:Option Addr} {xs:List Value} (c:aG h a xs) {cap k size:Nat} (C:xs.length≤cap*size):aG h (fw a cap k size) (xs.drop<|k*size):=by
 unfold fw
 by_cases hk:cap=k
 · rw [if_pos hk,lC (by rw [← hk]; exact C)]; exact aG.nil _ _
 · rw [if_neg hk]
   by_cases q:xs= []
   · subst q; rw [List.drop_nil]; exact aG.nil _ _
   · have A:=c.ok q
     rw [A]
     simp only [kj,lG]
     refine ⟨fun _=>rfl,fun j u hu=> ?_⟩
     rw [Cv] at hu
     have :=c.aM _ _ hu
     show Hb.aM h (bk a) (fo a+k*size+j)=_
     rw [JV]; exact this
theorem TP {w:World} {B e size n cap:Nat} {a:Option Addr} {xs:List Value} (h:w.ownsRow B e size (.slice a n cap) n xs) (q:xs≠[]):B≤bk a∧bk a < w.heap.size:=by
 obtain ⟨A,C,c,_,_,h1,h2⟩:=sr h
 simp only [l8,true_and] at c
 obtain ⟨rfl,rfl⟩:=c
 cases hk:(bE a n cap).ownBlock with
 | none=>exact absurd (h2 hk) q
 | some k=>
   obtain ⟨rfl,h3,h4⟩:=h1 k hk
   exact ⟨h3,h4⟩
section
variable {P:Program} {N:Fm} {σ:Nat→Value} {w:World} {dst:Option Nat} {ty:TypeId} {pos :String} {af:Array Edge} {g:Option (Nat×Bool)} {x y z:Operand} {K:(Nat→Value)→World→Prop}
end
end Go.Hb
namespace Go.Hb
section
variable {P:Program} {md:q8} {ops:Array Oper} {Q:Exit→Act→World→Prop} {S:World→Prop} {r:Nat}
def oU (P:Program) (md:q8) (ops:Array Oper) (Q:Exit→Act→World→Prop) (S:World→Prop) (r:Nat):Nat→Array Bool→Act→World→Prop
 | 0,aV,a,w=>iu md ops aV= []∧Q .normal a w
 | fuel+1,aV,a,w=>
   (iu md ops aV= []→Q .normal a w)∧
   ∀ i∈iu md ops aV,wpOp P ops Q i (fun c w'=>((aV.setIfInBounds i true).getD r false =false→S w')∧oU P md ops Q S r fuel (aV.setIfInBounds i true) c w') a w
theorem Iw:∀ (fuel:Nat) (aV:Array Bool) (a:Act) (w:World),oU P md ops Q S r fuel aV a w→wpAny P md ops Q fuel aV a w
 | 0,_,_,_,h=>h
 | fuel+1,_,_,_,h=>⟨h.1,fun i hi=>wpOp_mono (fun c w' q=>Iw fuel _ c w' q.2)<|h.2 i hi⟩
theorem W7 {i:Nat} {E:Oper} {v:Value} (hi:ops[i]? =some E) (ai:∀ (j:Nat) (o:Oper) cs b,ops[j]? =some o→o.op≠.select cs b)
 (al:∀ c a w,Q (.panic c) (a.put E.dst v) w→Q (.panic c) a w) (aw:∀ o,ops[r]? =some o→∃ x∈o.after,jo md x=true∧x.on=i) (ao:i≠r):
 ∀ (fuel:Nat) (aV:Array Bool) (a:Act) (w:World),
   (∀ j A,ops[j]? =some A→j≠i→aV.getD j true =false→(∀ x∈A.after,jo md x=true→x.on≠i)→E.apart ops A=true)→
   i∈iu md ops aV→YieldsIf P ops S E v a→S w→aV.getD r false =false→
   oU P md ops Q S r fuel (aV.setIfInBounds i true) (a.put E.dst v) w→oU P md ops Q S r (fuel+1) aV a w:=by
 intro fuel
 induction fuel with
 | zero=>
   intro aV a w _ C M G _ H
   refine ⟨fun h=>(by rw [h] at C; cases C),fun j I=> ?_⟩
   by_cases q:j=i
   · subst q; exact M.wpOp hi G ⟨fun _=>G,H⟩
   · have :=ready_mono I q
     rw [H.1] at this
     cases this
 | succ fuel ax=>
   intro aV a w aa C M G ae H
   refine ⟨fun h=>(by rw [h] at C; cases C),fun j I=> ?_⟩
   by_cases q:j=i
   · subst q; exact M.wpOp hi G ⟨fun _=>G,H⟩
   · have h1:=H.2 j<|ready_mono I q
     obtain ⟨ad,A,J,am⟩:=mem_ready.1 I
     have ah:∀ x∈A.after,jo md x=true→x.on≠i:=fun x Y V heq=>by
      have h1:=am x Y V
      have Z:=(mem_ready.1 C).1
      rw [heq] at h1
      rcases jh i aV.size with O | O
      · simp [O] at Z h1; rw [Z] at h1; cases h1
      · simp [p7 O] at h1
     have ac:j≠r:=by
      rintro rfl
      obtain ⟨x,Y,V,av⟩:=aw A J
      exact ah x Y V av
     have aq:(aV.setIfInBounds j true).getD r false =false :=by rw [getD_set_ne false ac]; exact ae
     have ag:((aV.setIfInBounds i true).setIfInBounds j true).getD r false =false :=by rw [getD_set_ne false ac,getD_set_ne false ao]; exact ae
     have h2:=wpOp_putIf J (aa j A J q ad ah) (fun cs b=>ai i E cs b hi) (fun cs b=>ai j A cs b J) al M h1
     have an:∀ k ok,ops[k]? =some ok→k≠i→(aV.setIfInBounds j true).getD k true =false→
      (∀ x∈ok.after,jo md x=true→x.on≠i)→E.apart ops ok=true :=fun k ok hk ap aj au=>by
      refine aa k ok hk ap ?_ au
      by_cases ab:j=k
      · subst ab; exact ad
      · rw [getD_set_ne true ab] at aj; exact aj
     refine wpOp_mono (fun ak w' h3=>⟨fun _=>h3.2.1 ag,ax (aV.setIfInBounds j true) ak w' an (ready_mono C<|Ne.symm q) h3.1 (h3.2.1 ag) aq ?_⟩) h2
     rw [BV _ _ q]
     exact h3.2.2
end
section
variable {P:Program} {N:Fm} {ops:Array Oper} {Q:Exit→(Nat→Value)→World→Prop} {σ:Nat→Value} {w:World} {S:World→Prop} {r fuel:Nat} {aV:Array Bool}
 {d':Option Nat} {d:Nat} {op:Op} {ty:TypeId} {pos :String} {af:Array Edge} {v:Value}
def gF (P:Program) (N:Fm) (ops:Array Oper) (Q:Exit→(Nat→Value)→World→Prop) (S:World→Prop) (r fuel:Nat) (aV:Array Bool) (σ:Nat→Value) (w:World):Prop :=
 oU P .any ops (lift N Q) S r fuel aV (act N σ) w
theorem eL {id:Nat} {l:List Oper} (S:World→Prop) (r:Nat) (a:sn N.r l=true) (hm:P.follows .mixedOrders=true) (c:S w.drew) (h:gF P N l.toArray Q S r l.length (sM l.length false) σ w.drew):c6 P N (.region id l.toArray true) Q σ w:=by
 exact CY a hm<|Iw _ _ _ _<|by rw [nI]; exact h
def FG (F:List Nat) (ops:Array Oper) (aV:Array Bool) (r i:Nat):Bool:=
 iO F ops aV i && !(aV.getD r false) && i !=r && (match ops[r]? with | some o=>o.after.toList.any (fun x=>jo .any x && x.on==i) | none=>false)
theorem lq (i:Nat) (hi:ops[i]? =some ⟨some d,op,ty,pos,af,none⟩) (A:FG N.F ops aV r i=true)
 (J:∀ w,S w→(execOp (ev N σ) ⟨some d,op,ty,pos,af,none⟩).run P w= .ok (.value v) w) (q:S w)
 (k:gF P N ops Q S r fuel (aV.setIfInBounds i true) (cY σ d v) w):gF P N ops Q S r (fuel+1) aV σ w:=by
 simp only [FG,iO,gj,xZ,bne_iff_ne,ne_eq] at A
 obtain ⟨⟨⟨⟨⟨⟨C,E⟩,hf3⟩,hfF⟩,hf4⟩,hf5⟩,hf6⟩:=A
 rw [hi] at hfF
 refine W7 hi (Ce C) (fun c a w=>oM hfF c a w) (fun o G=> ?_) hf5 fuel aV _ w (Cd hi E) (by simpa using hf3) (.inl ⟨jc _ rfl _,fun w q=> ?_⟩) q hf4 ?_ (v:=v)
 · rw [G] at hf6
   simp only [yd,gj,beq_iff_eq] at hf6
   obtain ⟨x,I,h1,h2⟩:=hf6
   exact ⟨x,uG.1 I,h1,h2⟩
 · rw [ga]; exact J w q
 · rw [jj]; exact k
theorem Gf (i:Nat) (hi:ops[i]? =some ⟨d',op,ty,pos,af,none⟩) (q:kG ops aV i=true)
 (h:cJ P N ⟨d',op,ty,pos,af,none⟩ σ w (fun σ w=>((aV.setIfInBounds i true).getD r false =false→S w)∧gF P N ops Q S r fuel (aV.setIfInBounds i true) σ w)):gF P N ops Q S r (fuel+1) aV σ w:=by
 have a:iu .any ops aV= [i]:=by simpa [kG] using q
 refine ⟨fun c=>absurd (a ▸ c) (by simp),fun k hk=> ?_⟩
 rw [a] at hk
 obtain rfl :k=i:=by simpa using hk
 unfold wpOp
 simp only [hi]
 rw [if_pos (jc _ rfl _)]
 exact .inl<|sH h fun _ _ hk=>hk
theorem ja (i:Nat) (hi:ops[i]? =some ⟨d',op,ty,pos,af,none⟩) (a:kG ops aV i=true)
 (h:cJ P N ⟨d',op,ty,pos,af,none⟩ σ w (fun σ w=>S w∧gF P N ops Q S r fuel (aV.setIfInBounds i true) σ w)):gF P N ops Q S r (fuel+1) aV σ w:=
 Gf i hi a (IA h fun _ _ hk=>⟨fun _=>hk.1,hk.2⟩)
theorem dq (i:Nat) (hi:ops[i]? =some ⟨d',op,ty,pos,af,none⟩) (q:kG ops aV i=true) (c:(aV.setIfInBounds i true).getD r false =true)
 (h:cJ P N ⟨d',op,ty,pos,af,none⟩ σ w (fun σ w=>gF P N ops Q S r fuel (aV.setIfInBounds i true) σ w)):gF P N ops Q S r (fuel+1) aV σ w:=
 Gf i hi q (IA h fun _ _ hk=>⟨fun a=>absurd (a.symm.trans c) dv,hk⟩)
theorem eK (c:(iu .any ops aV).isEmpty=true) (h:Q .normal σ w):gF P N ops Q S r fuel aV σ w:=by
 have a:iu .any ops aV= []:=by simpa using c
 cases fuel with
 | zero=>exact ⟨a,σ,rfl,h⟩
 | succ fuel=>exact ⟨fun _=>⟨σ,rfl,h⟩,by rw [a]; simp⟩
attribute [irreducible] gF
end
end Go.Hb
namespace Go.Hb
section
variable {P:Program} {md:q8} {ops:Array Oper} {Q:Exit→Act→World→Prop} {S:World→Prop} {r:Nat}
inductive qo (md:q8) (ops:Array Oper) (i:Nat):Nat→Prop
 | one {r o e} :ops[r]? =some o→e∈o.after→jo md e=true→e.on=i→qo md ops i r
 | more {r o e} :ops[r]? =some o→e∈o.after→jo md e=true→qo md ops i e.on→qo md ops i r
def rv (md:q8) (ops:Array Oper) (aV:Array Bool):Prop := ∀ (j:Nat) (o:Oper),ops[j]? =some o→aV.getD j false =true→∀ e∈o.after,jo md e=true→aV.getD e.on false =true
theorem FI {aV:Array Bool} {j k:Nat} (h:aV.getD k false =true):(aV.setIfInBounds j true).getD k false =true :=by
 by_cases e:j=k
 · subst e
   by_cases a:j < aV.size
   · simp [a]
   · simp [a] at h
 · rw [getD_set_ne false e]; exact h
theorem rv.set {aV:Array Bool} {j:Nat} (h:rv md ops aV) (C:j∈iu md ops aV):rv md ops (aV.setIfInBounds j true):=by
 intro k o hk q e he c
 obtain ⟨_,G,E,A⟩:=mem_ready.1 C
 by_cases a:j=k
 · subst a
   rw [E] at hk; cases hk
   exact FI<|A e he c
 · rw [getD_set_ne false a] at q
   exact FI<|h k o hk q e he c
theorem qo.aV {aV:Array Bool} {i r:Nat} (hd:qo md ops i r) (q:rv md ops aV) (a:∀ o,ops[r]? =some o→∀ e∈o.after,jo md e=true→aV.getD e.on false =true):aV.getD i false =true :=by
 induction hd with
 | one h1 h2 h3 h4=>rw [← h4]; exact a _ h1 _ h2 h3
 | more h1 h2 h3 _ C=>exact C fun o A e he c=>q _ o A (a _ h1 _ h2 h3) e he c
theorem W6 {i:Nat} {C:Oper} {v:Value} (hi:ops[i]? =some C) (aj:∀ (j:Nat) (o:Oper) cs b,ops[j]? =some o→o.op≠.select cs b)
 (am:∀ c a w,Q (.panic c) (a.put C.dst v) w→Q (.panic c) a w) (hd:qo md ops i r) (ap:i≠r):
 ∀ (fuel:Nat) (aV:Array Bool) (a:Act) (w:World),rv md ops aV→
   (∀ j E,ops[j]? =some E→j≠i→aV.getD j true =false→(∀ x∈E.after,jo md x=true→x.on≠i)→C.apart ops E=true)→
   i∈iu md ops aV→YieldsIf P ops S C v a→S w→aV.getD r false =false→
   oU P md ops Q S r fuel (aV.setIfInBounds i true) (a.put C.dst v) w→oU P md ops Q S r (fuel+1) aV a w:=by
 intro fuel
 induction fuel with
 | zero=>
   intro aV a w _ _ A M G _ H
   refine ⟨fun h=>(by rw [h] at A; cases A),fun j I=> ?_⟩
   by_cases q:j=i
   · subst q; exact M.wpOp hi G ⟨fun _=>G,H⟩
   · have :=ready_mono I q
     rw [H.1] at this
     cases this
 | succ fuel ay=>
   intro aV a w Z aa A M G ag H
   refine ⟨fun h=>(by rw [h] at A; cases A),fun j I=> ?_⟩
   by_cases q:j=i
   · subst q; exact M.wpOp hi G ⟨fun _=>G,H⟩
   · have h1:=H.2 j<|ready_mono I q
     obtain ⟨ae,E,J,Y⟩:=mem_ready.1 I
     have ab:aV.getD i false =false :=by
      have V:=(mem_ready.1 A).1
      rcases jh i aV.size with O | O
      · simpa [O] using V
      · simp [O] at V
     have aw:∀ x∈E.after,jo md x=true→x.on≠i:=fun x ax an heq=>by
      have h1:=Y x ax an
      rw [heq,ab] at h1; cases h1
     have ad:j≠r:=by
      rintro rfl
      have :=hd.aV Z fun o ai=>by rw [J] at ai; cases ai; exact Y
      rw [ab] at this; cases this
     have au:(aV.setIfInBounds j true).getD r false =false :=by rw [getD_set_ne false ad]; exact ag
     have ah:((aV.setIfInBounds i true).setIfInBounds j true).getD r false =false :=by rw [getD_set_ne false ad,getD_set_ne false ap]; exact ag
     have h2:=wpOp_putIf J (aa j E J q ae aw) (fun cs b=>aj i C cs b hi) (fun cs b=>aj j E cs b J) am M h1
     have ao:∀ k ok,ops[k]? =some ok→k≠i→(aV.setIfInBounds j true).getD k true =false→
      (∀ x∈ok.after,jo md x=true→x.on≠i)→C.apart ops ok=true :=fun k ok hk aq ak av=>by
      refine aa k ok hk aq ?_ av
      by_cases ac:j=k
      · subst ac; exact ae
      · rw [getD_set_ne true ac] at ak; exact ak
     refine wpOp_mono (fun al w' h3=>⟨fun _=>h3.2.1 ah,ay (aV.setIfInBounds j true) al w' (Z.set I) ao (ready_mono A<|Ne.symm q) h3.1 (h3.2.1 ah) au ?_⟩) h2
     rw [BV _ _ q]
     exact h3.2.2
theorem W8 {i:Nat} {C:Oper} {v:Value} (hi:ops[i]? =some C) (ae:∀ (j:Nat) (o:Oper) cs b,ops[j]? =some o→o.op≠.select cs b)
 (ai:∀ c a w,Q (.panic c) (a.put C.dst v) w→Q (.panic c) a w) (O:i≠r):
 ∀ (fuel:Nat) (aV:Array Bool) (a:Act) (w:World),
   (∀ j E,ops[j]? =some E→j≠i→aV.getD j true =false→(∀ x∈E.after,jo md x=true→x.on≠i)→C.apart ops E=true)→
   i∈iu md ops aV→YieldsIf P ops (fun _=>True) C v a→(aV.getD r false =false→S w)→
   oU P md ops Q S r fuel (aV.setIfInBounds i true) (a.put C.dst v) w→oU P md ops Q S r (fuel+1) aV a w:=by
 intro fuel
 induction fuel with
 | zero=>
   intro aV a w _ A I M H
   refine ⟨fun h=>(by rw [h] at A; cases A),fun j G=> ?_⟩
   by_cases q:j=i
   · subst q; exact I.wpOp hi trivial ⟨fun h=>M (by rw [getD_set_ne false O] at h; exact h),H⟩
   · have :=ready_mono G q
     rw [H.1] at this
     cases this
 | succ fuel au=>
   intro aV a w aa A I M H
   refine ⟨fun h=>(by rw [h] at A; cases A),fun j G=> ?_⟩
   by_cases q:j=i
   · subst q; exact I.wpOp hi trivial ⟨fun h=>M (by rw [getD_set_ne false O] at h; exact h),H⟩
   · have h1:=H.2 j<|ready_mono G q
     obtain ⟨ad,E,V,aj⟩:=mem_ready.1 G
     have am:aV.getD i false =false :=by
      have Y:=(mem_ready.1 A).1
      rcases jh i aV.size with J | J
      · simpa [J] using Y
      · simp [J] at Y
     have ap:∀ x∈E.after,jo md x=true→x.on≠i:=fun x aq ak heq=>by
      have h1:=aj x aq ak
      rw [heq,am] at h1; cases h1
     have h2:=wpOp_putIf V (aa j E V q ad ap) (fun cs b=>ae i C cs b hi) (fun cs b=>ae j E cs b V) ai I h1
     have al:∀ k ok,ops[k]? =some ok→k≠i→(aV.setIfInBounds j true).getD k true =false→
      (∀ x∈ok.after,jo md x=true→x.on≠i)→C.apart ops ok=true :=fun k ok hk an ag ao=>by
      refine aa k ok hk an ?_ ao
      by_cases ac:j=k
      · subst ac; exact ad
      · rw [getD_set_ne true ac] at ag; exact ag
     have Z:(aV.setIfInBounds i true).setIfInBounds j true =(aV.setIfInBounds j true).setIfInBounds i true :=BV _ _ fun e=>q e.symm
     have ab:(aV.setIfInBounds j true).getD r false =false→((aV.setIfInBounds i true).setIfInBounds j true).getD r false =false :=fun h=>by rw [Z,getD_set_ne false O]; exact h
     refine wpOp_mono (fun ah w' h3=>⟨fun h=>h3.2.1 (ab h),au (aV.setIfInBounds j true) ah w' al (ready_mono A<|Ne.symm q) h3.1 (fun h=>h3.2.1<|ab h) ?_⟩) h2
     rw [← Z]
     exact h3.2.2
end
section
variable {P:Program} {N:Fm} {ops:Array Oper} {Q:Exit→(Nat→Value)→World→Prop} {σ:Nat→Value} {w:World} {S:World→Prop} {r fuel:Nat} {aV:Array Bool}
 {d:Nat} {op:Op} {ty:TypeId} {pos :String} {af:Array Edge} {v:Value}
def vO (ops:Array Oper) (i:Nat):Nat→Nat→Bool
 | 0,_=>false
 | f+1,r=>match ops[r]? with | some o=>o.after.toList.any (fun e=>jo .any e && (e.on==i || vO ops i f e.on)) | none=>false
theorem OU {i:Nat} :∀ (f r:Nat),vO ops i f r=true→qo .any ops i r:=by
 intro f
 induction f with
 | zero=>intro r h; cases h
 | succ f q=>
   intro r h
   rw [vO] at h
   split at h
   · rename_i o c
     simp only [yd,gj,sN,beq_iff_eq] at h
     obtain ⟨e,he,a,h⟩:=h
     rcases h with h | h
     · exact .one c (uG.1 he) a h
     · exact .more c (uG.1 he) a<|q _ h
   · cases h
def zl (ops:Array Oper) (aV:Array Bool):Bool:=(fI ops.size).all fun j=> !aV.getD j false || match ops[j]? with | some o=>o.after.toList.all (fun e=> !jo .any e || aV.getD e.on false) | none=>true
theorem NH (h:zl ops aV=true):rv .any ops aV:=by
 intro j o a q e he c
 unfold zl at h
 rw [kK] at h
 have h1:=h j<|nG.2 (bY.1 a).1
 rw [q,a] at h1
 simp only [Bool.not_true,Bool.false_or,kK,sN,xZ] at h1
 rcases h1 e (uG.2 he) with h2 | h2
 · rw [c] at h2; cases h2
 · exact h2
def Ab (F:List Nat) (ops:Array Oper) (aV:Array Bool) (r i:Nat):Bool:=iO F ops aV i && !(aV.getD r false) && i !=r && zl ops aV && vO ops i ops.size r
def wy (F:List Nat) (ops:Array Oper) (aV:Array Bool) (r i:Nat):Bool:=iO F ops aV i && i !=r
theorem jS (i:Nat) (hi:ops[i]? =some ⟨some d,op,ty,pos,af,none⟩) (A:Ab N.F ops aV r i=true)
 (G:∀ w,S w→(execOp (ev N σ) ⟨some d,op,ty,pos,af,none⟩).run P w= .ok (.value v) w) (q:S w)
 (k:gF P N ops Q S r fuel (aV.setIfInBounds i true) (cY σ d v) w):gF P N ops Q S r (fuel+1) aV σ w:=by
 simp only [Ab,iO,gj,xZ,bne_iff_ne,ne_eq] at A
 obtain ⟨⟨⟨⟨⟨⟨⟨C,E⟩,hf3⟩,hfF⟩,hf4⟩,hf5⟩,hf6⟩,hf7⟩:=A
 rw [hi] at hfF
 unfold gF at*
 refine W6 hi (Ce C) (fun c a w=>oM hfF c a w) (OU _ _ hf7) hf5 fuel aV _ w (NH hf6) (Cd hi E) (by simpa using hf3) (.inl ⟨jc _ rfl _,fun w q=> ?_⟩) q hf4 ?_ (v:=v)
 · rw [ga]; exact G w q
 · rw [jj]; exact k
theorem cG (i:Nat) (hi:ops[i]? =some ⟨some d,op,ty,pos,af,none⟩) (q:wy N.F ops aV r i=true)
 (G:∀ w,(execOp (ev N σ) ⟨some d,op,ty,pos,af,none⟩).run P w= .ok (.value v) w) (A:aV.getD r false =false→S w)
 (k:gF P N ops Q S r fuel (aV.setIfInBounds i true) (cY σ d v) w):gF P N ops Q S r (fuel+1) aV σ w:=by
 simp only [wy,iO,gj,bne_iff_ne,ne_eq] at q
 obtain ⟨⟨⟨⟨C,E⟩,hf3⟩,hfF⟩,hf5⟩:=q
 rw [hi] at hfF
 unfold gF at*
 refine W8 hi (Ce C) (fun c a w=>oM hfF c a w) hf5 fuel aV _ w (Cd hi E) (by simpa using hf3) (.inl ⟨jc _ rfl _,fun w _=> ?_⟩) A ?_ (v:=v)
 · rw [ga]; exact G w
 · rw [jj]; exact k
end
end Go.Hb
namespace Go.Hb
def Ij:Nat→Nat→List UInt8
 | 0,n=> [jZ n]
 | f+1,n=>if n < 128 then [jZ n] else jZ (n % 128 +128)::Ij f (n / 128)
def Wv (n:Nat):List UInt8:=Ij n n
def frame:List (List UInt8)→List UInt8
 | []=> []
 | r::l=>Wv r.length++(r++frame l)
theorem kX {α:Type} (l:List α) (i:Nat) (d:α) (h:i < l.length):l.take (i+1)=l.take i++ [l.getD i d]:=by
 rw [List.take_succ_eq_append_getElem h]; simp [cR,h]
end Go.Hb
namespace Go.Hb
def U8 (l:List UInt8):List Value:=l.map fun b=>fG .u8 b.toNat
theorem vo (l:List UInt8):(U8 l).length=l.length:=by simp [U8]
theorem vm (a b:List UInt8):U8 (a++b)=U8 a++U8 b:=by simp [U8]
theorem Kp (l:List UInt8):(U8 l).all eO=true :=by
 rw [kK]
 intro u hu
 simp only [U8,gQ] at hu
 obtain ⟨b,_,rfl⟩:=hu
 rfl
def vB (P:Program) (t e u:TypeId):Bool:=
 gv P t e 1 1 && (match P.underlying e with | some (.int .u8)=>true | _=>false) && (match P.underlying u with | some .string=>true | _=>false) &&
  (match P.info? e with | some i=>(match i.zero with | some (.int .u8 0)=>true | _=>false) | none=>false)
theorem Lt {P:Program} {t e u:TypeId} (h:vB P t e u=true):
 gv P t e 1 1=true∧P.underlying e=some (.int .u8)∧P.underlying u=some .string∧∃ i,P.info? e=some i∧i.zero=some (.int .u8 0):=by
 simp only [vB,gj] at h
 obtain ⟨⟨⟨h1,h2⟩,h3⟩,h4⟩:=h
 refine ⟨h1,?_,?_,?_⟩
 · split at h2
   · rename_i h; exact h
   · cases h2
 · split at h3
   · rename_i h; exact h
   · cases h3
 · split at h4
   · rename_i i hi
     split at h4
     · rename_i h; exact ⟨i,hi,h⟩
     · cases h4
   · cases h4
section
variable {P:Program} {N:Fm} {σ:Nat→Value} {w:World} {dst:Option Nat} {ty:TypeId} {pos :String} {af:Array Edge} {g:Option (Nat×Bool)} {x y z:Operand} {K:(Nat→Value)→World→Prop}
theorem foldl_push (l:List UInt8) (r:ByteArray):(l.map fun b=>(b.toNat:Int)).foldl (fun r n=>r.push<|jZ n.toNat) r=⟨r.data++l.toArray⟩:=by
 induction l generalizing r with
 | nil=>simp
 | cons b l a=>
   simp only [qj,sV]
   rw [a]
   apply ByteArray.ext
   simp [ByteArray.push]
theorem zo {t e u n c:Nat} {a:Option Addr} {l:List UInt8} (h:vB P t e u=true) (J:ev N σ x= .slice a n c) (q:aG w.heap a (U8 l)) (A:l.length=n):
 (execOp (ev N σ) ⟨dst,.convert t u x,ty,pos,af,g⟩).run P w= .ok (.value<|str l) w:=by
 obtain ⟨h1,h2,h3,_⟩:=Lt h
 obtain ⟨hu,_⟩:=pV h1
 have E:(I5<|.slice a n c).run P w= .ok (str l) w:=by
  by_cases he:l= []
  · subst he
    cases a with
    | none=>simp [I5,str]; rfl
    | some a=>
      subst A
      have :=run_bytesToString (P:=P) w a 0 c []<|by simp [loadCells,loadCellsFrom]
      exact this.trans aa
  · have C:=q.ok<|by simpa [U8] using he
    have I:(loadCells ⟨bk a,fo a,none⟩ n).run P w= .ok ((l.map fun b=>(b.toNat:Int)).map<|fG .u8).toArray w:=by
     subst A
     have :=run_loadCells_list (P:=P) w ⟨bk a,fo a,none⟩ (U8 l) fun j v G=>by
      rw [lG,mS]
      exact q.aM j v G
     rw [vo] at this
     rw [this]
     simp [U8]
    rw [C,run_bytesToString w _ n c _ I,foldl_push]
    simp [str,ByteArray.empty,ByteArray.emptyWithCapacity]
    rfl
 simp [execOp,J,run_convert_bytes_string w t u e a n c hu h2 h3,E]
theorem WC {at_:Array TypeId} {v:Value} {a:Option Addr} {n c:Nat} (q:ev N σ x= .slice a n c) (h:a=none∨c≠0):
 (execOp (ev N σ) ⟨dst,.call ⟨.builtin .unsafeSliceData,#[x],at_⟩,ty,pos,af,g⟩).run P w= .ok (.value<|.pointer a) w:=by
 have _:=v
 have :(Builtin.unsafeSliceData_ at_ ty #[.slice a n c]).run P w= .ok (.pointer a) w:=by
  cases a with
  | none=>exact Lib.run_unsafeSliceData_nil w at_ ty n c
  | some a=>exact Lib.run_unsafeSliceData_row w at_ ty a n c<|h.resolve_left<|by simp
 simp [execOp,resolve,invoke,builtin,q,this]
def ptrTo (P:Program) (c e:TypeId):Bool:=match P.underlying c with | some (.pointer a)=>a==e && P.cellsOf e==1 | _=>false
theorem WD {E it e B n c:Nat} {a:Option Addr} {l:List UInt8} {xs:List Value} (hp:ptrTo P E e=true) (J:ev N σ x= .pointer a) (M:ev N σ y= .int .i64 n) (C:w.ownsRow B e 1 (.slice a n c) n xs)
 (aj:xs=U8 l) (ak:n≤9223372036854775807)
 (k:∀ w',Md (fun k=>(bE a n c).ownBlock=some k) w w'→w'.heap.size=w.heap.size→K (fi σ dst<|str l) w'):
 cJ P N ⟨dst,.call ⟨.builtin .unsafeString,#[x,y],#[E,it]⟩,ty,pos,af,g⟩ σ w K:=by
 subst aj
 have q:l.length=n:=by have :=C.1; simpa [U8] using this
 unfold ptrTo at hp
 split at hp
 case h_2=>cases hp
 rename_i G hu
 simp only [gj,beq_iff_eq] at hp
 obtain ⟨rfl,V⟩:=hp
 by_cases he:l= []
 · subst he
   obtain rfl :n=0:=q.symm
   refine lz (w':=w) (v:=str []) ?_<|k w (Md.refl _ _) aa
   simp [execOp,resolve,invoke,builtin,J,M,Lib.run_unsafeString_none]
   rfl
 · rcases C.2 with ⟨h,O⟩ | ⟨A,cap,cur,h,_,Z,hle,_,ai,al⟩
   · subst O; simp only [List.length_eq_zero_iff] at q; exact absurd q he
   · simp only [l8,true_and] at h
     obtain ⟨rfl,rfl⟩:=h
     have ah:w.shape? A=some (G,cur.size):=by simp [Cp,Z]
     have ag:=Lib.run_unsafeString_row (P:=P) w E it ty G hu V A cur.size ah l he (by rw [q,ai]; omega) ab (fun j u hu=>by
      obtain ⟨ad,cp,I,Y,_,hk,_⟩:=sr C
      simp only [l8,true_and] at I
      obtain ⟨rfl,rfl⟩:=I
      rw [lG,mS]
      exact Y.aM j _ (by simp [U8,hu]))
     refine lz (w':=w.freeze ⟨A,0,none⟩ l.length) (v:=str l) ?_ (k _ ⟨?_,?_,?_,?_⟩ ?_)
     · simp [execOp,resolve,invoke,builtin,J,M,← q,ag,str]
     · unfold uR; split <;> rfl
     · unfold uR; split <;> rfl
     · unfold uR; split <;> simp
     · intro k hk ac
       have ae:k≠A:=fun e=>ac<|by simp [gG,e]
       unfold uR
       split
       · rfl
       · simp only [Array.getElem?_modify]; rw [if_neg (fun e=>ae e.symm)]
     · unfold uR; split <;> simp
def uB (P:Program) (c up e n:Nat):Bool:=
 (match P.underlying c with | some (.pointer a)=>a==e | _=>false) && (match P.underlying up with | some .unsafePointer=>true | _=>false) && P.cellsOf e==n && fP 0 n && (match P.info? e with | some i=>i.size==n | _=>false)
theorem Im {P:Program} {a up e n:Nat} (h:uB P a up e n=true):P.underlying a=some (.pointer e)∧P.underlying up=some .unsafePointer∧P.cellsOf e=n∧0 < n∧∃ i,P.info? e=some i∧i.size=n:=by
 simp only [uB,gj] at h
 obtain ⟨⟨⟨⟨h1,h2⟩,h3⟩,h4⟩,h5⟩:=h
 refine ⟨?_,?_,by simpa using h3,rp (s6 0) (qk h4),?_⟩
 · split at h1
   · rename_i h; simp only [beq_iff_eq] at h1; rw [h,h1]
   · cases h1
 · split at h2
   · rename_i h; exact h
   · cases h2
 · split at h5
   · rename_i i hi; exact ⟨i,hi,by simpa using h5⟩
   · cases h5
theorem Wd {a up e n b:Nat} {L:List Value} (h:uB P a up e n=true) (E:ev N σ x= .pointer (some ⟨b,0,none⟩)) (c:w.heap[b]? =some (.cells L.toArray e (0,0))) (q:L.length=n):
 (execOp (ev N σ) ⟨dst,.convert a up x,ty,pos,af,g⟩).run P w= .ok (.value<|.pointer<|some ⟨b,0,none⟩) w:=by
 obtain ⟨h1,h2,h3,h4,i,hi,hs⟩:=Im h
 have C:w.shape? b=some (e,L.length):=by simp [Cp,c]
 have A:¬n=0:=ab
 simp [execOp,E,convert,c4 h1,c4 h2,I7,I6,viewAt,C,cellsIn,q,sizeOf,gO hi,hs,A]
theorem QM {c up e n b:Nat} {L:List Value} (h:uB P c up e n=true) (G:ev N σ x= .pointer (some ⟨b,0,none⟩)) (q:w.heap[b]? =some (.cells L.toArray e (0,0))) (A:L.length=n):
 (execOp (ev N σ) ⟨dst,.convert up c x,ty,pos,af,g⟩).run P w= .ok (.value<|.pointer<|some ⟨b,0,none⟩) w:=by
 obtain ⟨h1,h2,h3,h4,i,hi,hs⟩:=Im h
 have E:w.shape? b=some (e,L.length):=by simp [Cp,q]
 have a:¬n=0:=ab
 have C:liesAt P P.depth e (L.length / P.cellsOf e) 0 e 1=true :=by
  have hd:P.depth=(2 *(P.types.size+Made.depth)+1)+1:=rfl
  rw [hd]
  simp only [liesAt,sN]
  left
  rw [hd]
  simp [rowAt,h3,a,A,sameLayout,Nat.div_self h4]
 simp [execOp,G,convert,c4 h1,c4 h2,I7,I6,viewAt,E,variablesAt,sizeOf,gO hi,hs,a,C]
theorem Te {t A e:TypeId} {a:Addr} (hu:P.underlying t=some (.pointer e)) (hs:(P.info? e).isSome=true) (c:ev N σ x= .pointer (some a)) (q:ev N σ y= .pointer (some a)):
 (execOp (ev N σ) ⟨dst,.binOp .neq t x y A,ty,pos,af,g⟩).run P w= .ok (.value<|.bool false) w:=by
 obtain ⟨i,hi⟩:=l9.1 hs
 have he:∀ d,(o7 (d+1) t (.pointer<|some a)<|.pointer<|some a).run P w= .ok true w:=by
  intro d
  simp [o7,c4 hu,sizeOf,gO hi,sameAddr]
 have h:(binOp .neq t (.pointer<|some a)<|.pointer<|some a).run P w= .ok (.bool false) w:=by
  have :=he 9999
  simp only [binOp]
  have h2:(Ca t (.pointer<|some a)<|.pointer<|some a).run P w= .ok true w:=this
  simp [h2]
 simp [execOp,c,q,eqGuard,h]
theorem NV {f:FuncId} {args:Array Operand} {a:Array TypeId} {v:Value} (q:∀ v w,(callFunc f #[v]).run P w= .ok (.value v) w) (c:args.toList.map (ev N σ)= [v]):
 (execOp (ev N σ) ⟨dst,.call ⟨.value (.func f),args,a⟩,ty,pos,af,g⟩).run P w= .ok (.value v) w:=by
 have :args.map (ev N σ)= #[v]:=by rw [← xW,lB,c]
 simp [execOp,resolve,ev,o5,invoke,this,q]
structure Bd (T e:TypeId) (w:World) (b:Nat) (buf:Value) (l:List UInt8):Prop where
 aB:∃ pa,w.heap[b]? =some (.cells [x8 pa,buf].toArray T (0,0))∧(pa=none∨pa=some ⟨b,0,none⟩)
 own:w.ownsRow (b+1) e 1 buf l.length (U8 l)
 nil:buf= .slice none 0 0↔l= []
def BF (b:Nat) (a:Value) (k:Nat):Prop :=k=b∨a.ownBlock=some k
end
theorem Bd.lt {T e b:Nat} {w:World} {a:Value} {l:List UInt8} (h:Bd T e w b a l):b < w.heap.size:=let ⟨_,h,_⟩:=h.aB; (bY.1 h).1
theorem Bd.ij {T e b:Nat} {w:World} {a:Value} {l:List UInt8} (h:Bd T e w b a l) {k:Nat} (hk:BF b a k):b≤k∧k < w.heap.size:=by
 rcases hk with rfl | hk
 · exact ⟨cz _,h.lt⟩
 · have :=h.own.lt k hk; omega
theorem Bd.md {T e b:Nat} {F:Nat→Prop} {w w':World} {a:Value} {l:List UInt8} (h:Bd T e w b a l) (hm:Md F w w') (c:∀ k,BF b a k→¬F k):Bd T e w' b a l:=by
 obtain ⟨⟨q,h1,h2⟩,h3,h4⟩:=h
 exact ⟨⟨q,hm.aB h1 (c b<|.inl aa),h2⟩,cx h3 hm (fun k hk=>c k<|.inr hk),h4⟩
end Go.Hb
namespace Go.Hb
def jW (P:Program) (t:TypeId):Option (List (Nat×Nat)×List Value):=
 match P.info? t,P.underlying t with
 | some it,some (.struct fields)=>
   match it.zero,fields.toList.mapM (fun f=>(P.info? f.type).map fun i=>(f.offset,i.size)) with
   | some z,some pl=>some (pl,z.cells.toList)
   | _,_=>none
 | _,_=>none
def uj (pl:List (Nat×Nat)):List Value→List (Nat×Value)→Option (List Value)
 | a,[]=>some a
 | a,(i,v)::r=>match pl[i]? with
   | some (off,s)=>if (s==1 && v.oneCell' && fP off a.length)=true then uj pl (a.set off v) r else none
   | none=>none
theorem Ui {pl:List (Nat×Nat)} {a L:List Value} {ps:List (Nat×Value)} (h:uj pl a ps=some L):l7 (pl.toArray[·]?) a.toArray ps=some L.toArray:=by
 induction ps generalizing a with
 | nil=>simp only [uj,fJ] at h; subst h; rfl
 | cons p ps C=>
   obtain ⟨i,v⟩:=p
   simp only [uj] at h
   split at h
   · rename_i off s hs
     split at h
     · rename_i c
       simp only [gj,beq_iff_eq] at c
       obtain ⟨⟨rfl,h1⟩,ho⟩:=c
       have E:off < a.length:=qk ho
       have A:v.cells= #[v]:=pR h1
       have q:pl.toArray[i]? =some (off,1):=by simpa using hs
       simp only [l7,q,A]
       rw [if_neg (by simp; omega),← C h]
       simp
     · cases h
   · cases h
theorem mr {α:Type} {f:α→List Value} {m:Nat} (c:∀ a,(f a).length=m) (l:List α):(l.flatMap f).length=l.length*m:=by
 induction l with
 | nil=>simp
 | cons x l q=>simp [q,c,pk,Nat.add_comm]
theorem wc {α:Type} {f:α→List Value} {m:Nat} (q:∀ a,(f a).length=m) {l:List α} {j c:Nat} {a:α} (h:l[j]? =some a) (A:c < m):(l.flatMap f)[j*m+c]? =(f a)[c]? :=by
 induction l generalizing j with
 | nil=>simp at h
 | cons x l C=>
   cases j with
   | zero=>
     simp only [List.getElem?_cons_zero,fJ] at h; subst h
     rw [CD,fQ,jr,mK (by rw [q]; exact A)]
   | succ j=>
     simp only [JF] at h
     rw [jr,nD (by rw [q,pk]; omega),q,show (j+1)*m+c - m=j*m+c from by rw [pk]; omega]
     exact C h
theorem gr {α:Type} {f:α→List Value} {m:Nat} (c:∀ a,(f a).length=m) {h:Array Obj} {a:Option Addr} {l:List α} {i:Nat} {e:α} (A:aG h a (l.flatMap f)) (C:l[i]? =some e):∀ j,j < m→Hb.aM h (bk a) (fo a+i*m+j)=(f e)[j]? :=by
 intro j q
 have h1:=wc c C q
 have h2:j < (f e).length:=by rw [c]; exact q
 rw [bW h2] at h1 ⊢
 rw [JV]; exact A.aM _ _ h1
theorem zR {α:Type} {f:α→List Value} {m:Nat} (c:∀ a,(f a).length=m) (hm:0 < m) {l:List α} (h:0 < l.length):l.flatMap f≠[]:=by
 intro e
 have :=mr c l
 rw [e] at this
 have :0 < l.length*m:=Nat.mul_pos h hm
 simp at*; omega
theorem Fc {α:Type} {f:α→List Value} {m:Nat} (c:∀ a,(f a).length=m) {l:List α} {j:Nat} (x:α) (h:j < l.length):(l.set j x).flatMap f=(l.flatMap f).take (j*m)++f x++(l.flatMap f).drop (j*m+m):=by
 induction l generalizing j with
 | nil=>simp at h
 | cons y l q=>
   cases j with
   | zero=>
     simp only [List.set_cons_zero,jr,CD,ph,mN,fQ]
     rw [Jy,JA (by rw [c]; exact cz _),c]; simp
   | succ j=>
     simp only [bX] at h
     rw [List.set_cons_succ,jr,q ab,jr,u7,Jy,c,e9 (l:=f y) (by rw [c,pk]; omega),JA (l:=f y) (by rw [c,pk]; omega),
      show (j+1)*m - m=j*m from by rw [pk]; omega,show (j+1)*m+m - m=j*m+m from by rw [pk]; omega]
     simp
theorem zS {α:Type} {f:α→List Value} (c:∀ a,(f a).all eO=true) (l:List α):(l.flatMap f).all eO=true :=by
 simp only [List.all_flatMap,kK]; intro x _; exact kK.1<|c x
section
variable {P:Program} {N:Fm} {σ:Nat→Value} {w:World} {dst:Option Nat} {ty:TypeId} {pos :String} {af:Array Edge} {g:Option (Nat×Bool)} {x y z:Operand} {K:(Nat→Value)→World→Prop}
theorem di {t:TypeId} {parts:Array (Nat×Operand)} {pl:List (Nat×Nat)} {a L:List Value} {ps:List (Nat×Value)} (h:jW P t=some (pl,a)) (hp:parts.toList.map (fun p=>(p.1,ev N σ p.2))=ps) (c:uj pl a ps=some L):
 (execOp (ev N σ) ⟨dst,.build t parts,ty,pos,af,g⟩).run P w= .ok (.value<|.agg L.toArray) w:=by
 unfold jW at h
 split at h
 · rename_i it fields hi hu
   split at h
   · rename_i z C A hm
     simp only [fJ,vf] at h
     obtain ⟨rfl,rfl⟩:=h
     have q:P.built t (parts.map fun p=>(p.1,ev N σ p.2)).toList=some L.toArray:=by
      have :=Ui c
      simp only [xU] at this
      simp only [Program.built,hi,hu,A,hm,lB,hp]; exact this
     simp [execOp,run_build w t _ _ q]
   · cases h
 · cases h
end
end Go.Hb
namespace Go.Hb
section
variable {P:Program} {N:Fm} {σ:Nat→Value} {w:World} {dst:Option Nat} {ty:TypeId} {pos :String} {af:Array Edge} {g:Option (Nat×Bool)} {x y z:Operand} {K:(Nat→Value)→World→Prop}
theorem SH {zv:Value} (h1:zv.oneCell'=true) (n:Nat):madeCells zv.cells n=(jG n zv).toArray:=by
 rw [pR h1]
 apply Array.ext
 · simp [madeCells]
 · intro i h2 h3
   simp [madeCells,Nat.mod_one]
theorem S9 {t e bytes n:Nat} {E C:IntKind} {zv:Value} (M:gv P t e 1 bytes=true) (a:zeroOf P e=some (some [zv])) (h1:zv.oneCell'=true) (O:ev N σ x= .int E n) (V:ev N σ y= .int C n) (Z:bytes*n≤281474976710656) (c:n≤maxLen)
 (k:∀ b w',b=w.heap.size→Nw w w'→(∀ B,B≤b→w'.ownsRow B e 1 (.slice (some ⟨b,0,none⟩) n n) n (jG n zv))→K (fi σ dst<|.slice (some ⟨b,0,none⟩) n n) w'):cJ P N ⟨dst,.makeSlice t x y,ty,pos,af,g⟩ σ w K:=by
 obtain ⟨hu,i,G,hi,A,hs,J,ad,ac⟩:=pV M
 have Y:G.cells= #[zv]:=by
  unfold zeroOf at a
  simp only [hi,A,kj,fJ] at a
  exact xW.1<|by simpa using a
 refine mF (v:=fun b=> .slice (some ⟨b,0,none⟩) n n) (ob:= .cells (jG n zv).toArray e (0,0)) ?_ fun b w' h2 h3 h4=>k b w' h2 h3 fun B I=>⟨by simp,.inr ⟨b,n,_,aa,I,h4,cz _,c,by simp,by simp⟩⟩
 have q:=run_make (P:=P) w t e i G hu hi A E C n n ab (Int.le_refl _) (by rw [J,← Int.natCast_mul]; omega)<|by unfold maxLen at c; omega
 rw [Y,hs,Nat.mul_one,jq,show madeCells #[zv] n=(jG n zv).toArray by rw [← SH h1,pR h1]] at q
 simp [execOp,O,V,q]
end
end Go.Hb
namespace Go.Hb
section
variable {P:Program} {N:Fm} {σ:Nat→Value} {w:World} {dst:Option Nat} {ty:TypeId} {pos :String} {af:Array Edge} {g:Option (Nat×Bool)} {x y z:Operand}
theorem Nq {t n len cap i:Nat} {a:Option Addr} {k G:IntKind} (he:gK P t=some n) (A:ev N σ x= .slice a len cap) (C:ev N σ y= .int k (i:Nat)) (E:ev N σ z= .int G (i:Nat)) (h:i≤cap):
 (execOp (ev N σ) ⟨dst,.slice t x none (some y) (some z),ty,pos,af,g⟩).run P w= .ok (.value<|.slice a i i) w:=by
 have c:(0:Int)≤(i:Int):=ab
 unfold gK at he
 cases hd:P.underlying t with
 | none=>rw [hd] at he; cases he
 | some d=>
   rw [hd] at he
   cases d <;> first | (cases he; done) | skip
   rename_i e
   cases hi':P.info? e with
   | none=>simp [hi'] at he
   | some j=>
     have q:(if i=0 then a else a.map (·.add 0))=a:=by
      split
      · rfl
      · cases a <;> simp [x4]
     simp only [execOp,q6,uJ,A,C,E,kj,Option.map_none,od,q7,asIntOf]
     simp [c4 hd,gO hi',sizeOf,c,q]
     intro I; omega
end
end Go.Hb
namespace Go.Hb
def qp (h:Array Obj) (b:Nat) (kvs:List (Value×Value)):Prop := ∃ es clock,h[b]? =some (.map es clock)∧es.toList.map (fun e=>(e.key,e.val))=kvs
theorem qp.md {F:Nat→Prop} {w w':World} {b:Nat} {kvs:List (Value×Value)} (h:qp w.heap b kvs) (hm:Md F w w') (a:¬F b):qp w'.heap b kvs:=
 let ⟨es,c,h1,h2⟩:=h; ⟨es,c,hm.aB h1 a,h2⟩
structure s9 (P:Program) (k:TypeId) (isK:Value→Prop):Prop where
 check:∀ em w v,isK v→(nv em 10000 k v).run P w= .ok () w
 find:∀ w x es,isK x→(∀ e∈es,isK e.key)→
  ((q4 k x es).run P w= .ok none w∧∀ e∈es,e.key≠x)∨∃ j e,(q4 k x es).run P w= .ok (some (j,e.val)) w∧es[j]? =some e∧e.key=x
theorem M9 {P:Program} {k:TypeId} {q:IntKind} {em:Bool} {n:Nat} {a:Int} (hk:P.underlying k=some (.int q)) (w:World):(nv em (n+1) k<|.int .i64 a).run P w= .ok () w:=by
 simp only [nv,nz,c4 hk,ny,ra]
theorem D1 {P:Program} {k:TypeId} {em:Bool} {n:Nat} {a:List UInt8} (hk:P.underlying k=some .string) (w:World):(nv em (n+1) k<|str a).run P w= .ok () w:=by
 simp only [str,nv,nz,c4 hk,ny,ra]
theorem TU {P:Program} {t:TypeId} {cs:Array Value} {o:Nat} {v:Value} {d:TypeDesc} (a:P.underlying t=some d) (hd:(match d with | .bool | .string=>true | _=>false)=true) (c:cs[o]? =some v) (w:World):(part t cs o).run P w= .ok v w:=by
 cases d <;> first | (cases hd; done) | simp [part,isAgg,c4 a,c]
def zeroV (P:Program) (e:TypeId):Option Value:=(P.info? e).bind (·.zero)
theorem uD {P:Program} {e:TypeId} {z:Value} (h:zeroV P e=some z) (w:World):(zeroValue e).run P w= .ok z w:=by
 unfold zeroV at h
 simp only [Option.bind_eq_some_iff] at h
 obtain ⟨i,hi,a⟩:=h
 simp [zeroValue,gO hi,a]
section
variable {P:Program} {N:Fm} {σ:Nat→Value} {w:World} {dst:Option Nat} {ty:TypeId} {pos :String} {af:Array Edge} {g:Option (Nat×Bool)} {x y z:Operand} {K:(Nat→Value)→World→Prop}
variable {t k e:TypeId} {isK:Value→Prop} {b:Nat} {kvs:List (Value×Value)} {kx v:Value}
theorem zE {es:Array MapEntry} (h:es.toList.map (fun e=>(e.key,e.val))=kvs) (hk:∀ p∈kvs,isK p.1):∀ e∈es.toList,isK e.key:=fun e he=>hk (e.key,e.val)<|by rw [← h]; exact rk he
theorem run_getObj_map {es:Array MapEntry} {c:Nat} (a:w.heap[b]? =some (.map es c)):(getObj b).run P w= .ok (.map es c) w:=by
 simp [getObj,Sem.run,a]
theorem To {kvs:List (Value×Value)} (hn:(kvs.map gk).Nodup) {kx v a:Value} (h1:(kx,v)∈kvs) (h2:(kx,a)∈kvs):v=a:=by
 induction kvs with
 | nil=>simp at h1
 | cons p kvs c=>
   simp only [qj,ys] at hn
   rcases eB.1 h1 with h1 | h1
   · rcases eB.1 h2 with h2 | h2
     · rw [← h1] at h2; cases h2; rfl
     · rw [← h1] at hn; exact absurd (rk (f:=gk) h2) hn.1
   · rcases eB.1 h2 with h2 | h2
     · rw [← h2] at hn; exact absurd (rk (f:=gk) h1) hn.1
     · exact c hn.2 h1 h2
theorem Sv {ok:Bool} (I:P.underlying t=some (.map k e)) (q:s9 P k isK) (hm:qp w.heap b kvs) (hk:∀ p∈kvs,isK p.1) (M:ev N σ x= .map (some b)) (O:ev N σ y=kx) (hi:isK kx) (hn:(kvs.map gk).Nodup) (a:(kx,v)∈kvs):
 (execOp (ev N σ) ⟨dst,.lookup t x y ok,ty,pos,af,g⟩).run P w= .ok (.value (if ok then .tuple #[v,.bool true] else v)) w:=by
 obtain ⟨es,c,G,he⟩:=hm
 rcases q.find w kx es.toList hi (zE he hk) with ⟨_,h2⟩ | ⟨j,A,h1,h2,h3⟩
 · rw [← he] at a
   obtain ⟨C,E,h4⟩:=gQ.1 a
   cases h4
   exact absurd aa<|h2 C E
 · have J:(kx,A.val)∈kvs:=by rw [← he,← h3]; exact rk (f:=fun e:MapEntry=>(e.key,e.val))<|fz h2
   have :=To hn a J
   subst this
   cases ok <;> simp [execOp,Jg,c4 I,M,O,run_getObj_map G,q.check _ w kx hi,h1]
theorem Sw {ok:Bool} {zv:Value} (C:P.underlying t=some (.map k e)) (I:zeroV P e=some zv) (a:s9 P k isK) (hm:qp w.heap b kvs) (hk:∀ p∈kvs,isK p.1) (E:ev N σ x= .map (some b)) (G:ev N σ y=kx) (hi:isK kx) (hn:∀ v,(kx,v)∉kvs):
 (execOp (ev N σ) ⟨dst,.lookup t x y ok,ty,pos,af,g⟩).run P w= .ok (.value (if ok then .tuple #[zv,.bool false] else zv)) w:=by
 obtain ⟨es,c,A,he⟩:=hm
 rcases a.find w kx es.toList hi (zE he hk) with ⟨h1,_⟩ | ⟨j,q,h1,h2,h3⟩
 · cases ok <;> simp [execOp,Jg,c4 C,E,G,run_getObj_map A,a.check _ w kx hi,h1,uD I]
 · exact absurd (by rw [← he,← h3]; exact rk (f:=fun e:MapEntry=>(e.key,e.val))<|fz h2)<|hn q.val
end
end Go.Hb
namespace Go.Hb
def tag (w:World) (k:Nat):Nat:=match w.heap[k]? with | some (.cells _ t _)=>t+2 | some (.map _ _)=>1 | _=>0
theorem dD {w:World} {k t:Nat} {cs:Array Value} {z:Nat×Nat} (h:w.heap[k]? =some (.cells cs t z)):tag w k=t+2:=by unfold tag; rw [h]
theorem xE {w:World} {k:Nat} {kvs:List (Value×Value)} (h:qp w.heap k kvs):tag w k=1:=by
 obtain ⟨es,c,h,_⟩:=h
 unfold tag; rw [h]
theorem HX {w:World} {B e size n k:Nat} {v:Value} {xs:List Value} (h:w.ownsRow B e size v n xs) (hk:v.ownBlock=some k):tag w k=e+2:=by
 rcases h.2 with ⟨rfl,_⟩ | ⟨g,cap,cur,rfl,_,a,_⟩
 · simp [gG] at hk
 · simp only [gG,fJ] at hk; subst hk
   exact dD a
def TF (w:World) (L:List Nat) (F:Nat→Prop):Prop := ∀ k,F k→L.contains (tag w k)=true
theorem TF.no {w:World} {L:List Nat} {F:Nat→Prop} (h:TF w L F) {k t:Nat} (c:tag w k=t) (a:L.contains t=false):¬F k:=fun hk=>by
 have :=h k hk
 rw [c,a] at this; cases this
theorem TF.or {w:World} {L:List Nat} {F G:Nat→Prop} (h:TF w L F) (a:TF w L G):TF w L (fun k=>F k∨G k):=fun k hk=>by
 rcases hk with hk | hk
 · exact h k hk
 · exact a k hk
theorem TF.eq {w:World} {L:List Nat} {b t:Nat} (c:tag w b=t) (a:L.contains t=true):TF w L (fun k=>k=b):=fun k hk=>by
 subst hk; rw [c]; exact a
theorem TF.own {w:World} {L:List Nat} {B e size n:Nat} {v:Value} {xs:List Value} (h:w.ownsRow B e size v n xs) (a:L.contains (e+2)=true):TF w L (fun k=>v.ownBlock=some k):=fun k hk=>by
 rw [HX h hk]; exact a
theorem Md.gT {F:Nat→Prop} {w w':World} {L:List Nat} {k t:Nat} {cs:Array Value} {z:Nat×Nat} (hm:Md F w w') (a:TF w L F) (h:w.heap[k]? =some (.cells cs t z)) (c:L.contains (t+2)=false):w'.heap[k]? =some (.cells cs t z):=hm.aB h<|a.no (dD h) c
theorem cX {F:Nat→Prop} {w w':World} {L:List Nat} {B e size n:Nat} {v:Value} {xs:List Value} (h:w.ownsRow B e size v n xs) (hm:Md F w w') (a:TF w L F) (c:L.contains (e+2)=false):w'.ownsRow B e size v n xs:=cx h hm fun _ hk=>a.no (HX h hk) c
theorem Md.tag {F:Nat→Prop} {w w':World} (hm:Md F w w') {k:Nat} (hk:k < w.heap.size) (a:¬F k):Hb.tag w' k=Hb.tag w k:=by
 unfold Hb.tag; rw [hm.dH k hk a]
end Go.Hb
end
section
namespace Go.Hb
open Go.ChangeShapes Go.WideShapes Go.ChangeAt
theorem Wk.frame {w w':World} (h:Wk w w') (may:MemPlace→Prop):w.keptBut w' may:=by
 refine ⟨h.os,h.output,fun i hi=> ?_⟩
 rw [h.dH i hi id]
 split <;> simp_all
theorem Wk.same {w w':World} (h:Wk w w') {p:MemPlace} (hp:p.block < w.heap.size):w.sameAt w' p:=by
 cases p with
 | cell b o=>exact World.cell?_of_block (w:=w)<|h.dH b hp id
 | map b=>exact h.dH b hp id
section
variable {H:Type} {enc:TypeId×Value→H} {P:Program} {W W':World}
theorem H8 (C:laidOutB P=true) (hk:Wk W W'):∀ (c:List TypeId) (vs:List Value) (A:List (DataW H)) (ps:List MemPlace),c.all (fun t=>P.readableRec t && decide (t < P.types.size))=true→(∀ x∈ps,x.block < W.heap.size)→
 I8 enc P W 0 (fun _=>true) true c vs A ps→I8 enc P W' 0 (fun b=>decide (b < W.heap.size)) true c vs A ps
 | [],[],[],_,_,_,h=>h
 | t::c,v::vs,d::A,_,hp,hlt,⟨p,q,h1,h2,he⟩=>by
   subst he
   rw [yc,gj,gj] at hp
   exact ⟨p,q,WideElems.Trod_stays C hp.1.1 (of_decide_eq_true hp.1.2) h1 (fun x a=>hk.same<|hlt x<|yr _ a) (fun x a=>decide_eq_true<|hlt x<|yr _ a),
    H8 C hk c vs A q hp.2 (fun x a=>hlt x<|List.mem_append_right _ a) h2,rfl⟩
 | [],_::_,_,_,_,_,h=>h.elim
 | [],[],_::_,_,_,_,h=>h.elim
 | _::_,[],_,_,_,_,h=>h.elim
 | _::_,_::_,[],_,_,_,h=>h.elim
theorem UE {f:FuncId} {fn:Func} {s:ChangeSpec} {args:Array Value} {a gs:List (DataW H)} {before:List MemPlace} {tb:TypeId} (A:DataW.Whole enc P fn.params.toList s.vars false W args.toList a gs before) (E:s.vars= [])
 (hs:s.fn H (a++gs)= {results:= [.lit (.bool true)],args:=a}) (O:fn.resultTypes= #[tb]) (I:P.underlying tb=some .bool) (J:laidOutB P=true) (hp:fn.params.toList.all (fun t=>P.readableRec t && decide (t < P.types.size))=true)
 (h:bf P f args W (fun v w'=>v= .bool true∧Wk W w')):Calls P f args W fun e W'=> ∃ v,e= .returned v∧s.post enc P fn false true false false W args v W':=by
 refine jX h fun e W' ⟨v,he,V,hk⟩=>⟨v,he,?_⟩
 subst V
 have C:=A
 obtain ⟨p,q,G,c,rfl,_,_⟩:=A
 rw [E] at c
 obtain ⟨rfl,rfl⟩:=trodVars_none c
 have M:∀ x∈p,x.block < W.heap.size:=fun x Y=>C.lt x<|by simpa using Y
 refine ⟨_,_,_,[],p,[],C,?_,?_,?_,hk.frame _,fun h=>by cases h⟩
 · rw [hs,O]
   exact trodAll_cons_mk (shut_bool I _) trodAll_mk0
 · rw [hs]
   exact H8 J hk _ _ _ _ hp M G
 · rw [hs,E]; rfl
end
end Go.Hb
namespace Go.Hb
open Go.Proofs.YtchkamdekbbgeaaGreatDoor
theorem Ls {H:Type} {l:List (DataW H)} (hk:Rows.uptoSmall H l=true):Rows.uptoBulkAll l≤1048576:=of_decide_eq_true hk
end Go.Hb
namespace Go.Hb
open Go.Proofs.YtchkamdekbbgeaaGreatDoor Go.ChangeShapes Go.WideShapes Go.ChangeAt
structure qq (P:Program) (t:TypeId) (m:Nat) {X:Type} (R:World→List Value→X→Prop) (B:X→Nat):Prop where
 cells:P.cellsOf t=m
 op:∀ {H:Type} (enc:TypeId×Value→H) (W:World) (fuel:Nat) (cs:List Value) (d:DataW H) (p:List MemPlace),sO enc P W 0 (fun _=>true) true fuel t cs=some (d,p)→cs.length=m∧∃ x,R W cs x∧B x≤Rows.uptoBulk d
section
variable {P:Program} {t t0 t1 e:TypeId} {m m0 m1:Nat} {X X0 X1:Type} {R:World→List Value→X→Prop} {B:X→Nat} {R0:World→List Value→X0→Prop} {B0:X0→Nat} {R1:World→List Value→X1→Prop} {B1:X1→Nat}
theorem TD {k:IntKind} (c:P.underlying t=some (.int k)) (a:P.cellsOf t=1):qq P t 1 (fun _ cs (x:Int)=>cs= [.int k x]∧(Lit.int k x).wf=true) (fun _=>1) where
 cells:=a
 op enc W fuel cs d p h:=by
  obtain ⟨n,rfl,q,hw⟩:=DataW.trod_int c h
  cases q
  exact ⟨aa,n,⟨aa,hw⟩,by simp [Rows.uptoBulk]⟩
theorem AZ (c:P.underlying t=some .string) (a:P.cellsOf t=1):qq P t 1 (fun _ cs (x:List UInt8)=>cs= [str x]) (fun x=>x.length+1) where
 cells:=a
 op enc W fuel cs d p h:=by
  obtain ⟨s,rfl,q,hw⟩:=DataW.trod_string c h
  cases q
  exact ⟨aa,s.data.toList,aa,by simp [Rows.uptoBulk]⟩
theorem Wl {H:Type} {enc:TypeId×Value→H} {W:World} {f0 f1 f2 f3:Field} {fuel:Nat} {cs:List Value} {x:DataW H×List MemPlace} (G:P.underlying t=some (.struct #[f0,f1,f2,f3])) (h:sO enc P W 0 (fun _=>true) true fuel t cs=some x):
 ∃ a c q A n,x=(.agg [a.1,c.1,q.1,A.1],a.2++(c.2++(q.2++A.2)))∧cs.length=P.cellsOf t∧sO enc P W 0 (fun _=>true) true n f0.type ((cs.drop f0.offset).take<|P.cellsOf f0.type)=some a∧sO enc P W 0 (fun _=>true) true n f1.type ((cs.drop f1.offset).take<|P.cellsOf f1.type)=some c∧
   sO enc P W 0 (fun _=>true) true n f2.type ((cs.drop f2.offset).take<|P.cellsOf f2.type)=some q∧sO enc P W 0 (fun _=>true) true n f3.type ((cs.drop f3.offset).take<|P.cellsOf f3.type)=some A:=by
 obtain ⟨xs,n,_,rfl,E,hlen,C⟩:=DataW.trod_struct G h
 match xs,hlen with
 | [a,c,q,A],_=>exact ⟨a,c,q,A,n,by simp,E,by simpa using C 0 f0 rfl,by simpa using C 1 f1 rfl,by simpa using C 2 f2 rfl,by simpa using C 3 f3 rfl⟩
theorem TE {t2 t3:TypeId} {A C:Type} {I:World→List Value→A→Prop} {E:A→Nat} {J:World→List Value→C→Prop} {G:C→Nat} (M:qq P t0 1 R0 B0) (h1:qq P t1 1 R1 B1) (h2:qq P t2 1 I E) (h3:qq P t3 1 J G) {f0 f1 f2 f3:Field}
 (ad:P.underlying t=some (.struct #[f0,f1,f2,f3])) (Y:f0.type=t0) (Z:f1.type=t1) (ab:f2.type=t2) (ac:f3.type=t3) (ak:f0.offset=0) (al:f1.offset=1) (am:f2.offset=2) (an:f3.offset=3) (O:P.cellsOf t=4):
 qq P t 4 (fun W cs (x:X0×X1×A×C)=> ∃ a c q u3,cs= [a,c,q,u3]∧R0 W [a] x.1∧R1 W [c] x.2.1∧I W [q] x.2.2.1∧J W [u3] x.2.2.2) (fun x=>B0 x.1+B1 x.2.1+E x.2.2.1+G x.2.2.2+1) where
 cells:=O
 op enc W fuel cs d p h:=by
  obtain ⟨az,aA,aB,aC,n,ae,V,g0,g1,g2,g3⟩:=Wl ad h
  cases ae
  rw [O] at V
  match cs,V with
  | [a,c,q,u3],_=>
    rw [Y,ak,M.cells] at g0
    rw [Z,al,h1.cells] at g1
    rw [ab,am,h2.cells] at g2
    rw [ac,an,h3.cells] at g3
    obtain ⟨_,ao,ag,av⟩:=M.op enc W n _ _ _ g0
    obtain ⟨_,ap,ah,aw⟩:=h1.op enc W n _ _ _ g1
    obtain ⟨_,aq,ai,ax⟩:=h2.op enc W n _ _ _ g2
    obtain ⟨_,au,aj,ay⟩:=h3.op enc W n _ _ _ g3
    refine ⟨aa,(ao,ap,aq,au),⟨a,c,q,u3,aa,ag,ah,ai,aj⟩,?_⟩
    simp only [Rows.uptoBulk,Rows.uptoBulkAll]; omega
end
end Go.Hb
end
namespace Go.Hb
theorem drop_cons {α:Type} {l:List α} {i:Nat} (d:α) (h:i < l.length):l.drop i=l.getD i d::l.drop (i+1):=by
 rw [List.drop_eq_getElem_cons h]; simp [cR,h]
theorem Bk {α:Type} {l:List α} {k i:Nat} (d:α) (hk:k≤i) (hi:i < l.length):(l.take<|i+1).drop k=(l.take i).drop k++ [l.getD i d]:=by
 rw [kX l i d hi,List.drop_append_of_le_length (by rw [ee]; omega)]
def qH (b:UInt8):Bool:=b==32 || b==9
theorem FH (b:UInt8):qH b=decide (b.toNat=32∨b.toNat=9):=by
 unfold qH
 have h:∀ x:UInt8,(b==x)=decide (b.toNat=x.toNat):=fun x=>by
  by_cases a:b=x
  · subst a; simp
  · have :b.toNat≠x.toNat:=fun h=>a<|rr.1 h
    simp [a,this]
 rw [h,h]
 simp [Bool.decide_or]
def dJ:List UInt8→List UInt8→List (List UInt8)
 | cur,[]=>if cur= [] then [] else [cur]
 | cur,b::r=>if qH b then (if cur= [] then dJ [] r else cur::dJ [] r) else dJ (cur++ [b]) r
theorem Qt:dJ [] []= []:=by simp [dJ]
theorem Qs {cur:List UInt8} (h:cur≠[]):dJ cur []= [cur]:=by simp [dJ,h]
theorem Qq {b:UInt8} {r:List UInt8} (h:qH b=true):dJ [] (b::r)=dJ [] r:=by simp [dJ,h]
theorem Qr {cur:List UInt8} {b:UInt8} {r:List UInt8} (h:qH b=true) (a:cur≠[]):dJ cur (b::r)=cur::dJ [] r:=by simp [dJ,h,a]
theorem Ff {cur:List UInt8} {b:UInt8} {r:List UInt8} (h:qH b=false):dJ cur (b::r)=dJ (cur++ [b]) r:=by simp [dJ,h]
theorem Fe:∀ (l cur x:List UInt8),x∈dJ cur l→x≠[]∧x.length≤cur.length+l.length:=by
 intro l
 induction l with
 | nil=>
   intro cur x h
   unfold dJ at h
   split at h
   · cases h
   · simp only [iS] at h; subst h; exact ⟨by assumption,by simp⟩
 | cons b r a=>
   intro cur x h
   unfold dJ at h
   split at h
   · split at h
     · have :=a [] x h; simp only [bX,fZ] at*; exact ⟨this.1,ab⟩
     · rcases eB.1 h with rfl | h
       · exact ⟨by assumption,by simp⟩
       · have :=a [] x h; simp only [bX,fZ] at*; exact ⟨this.1,ab⟩
   · have :=a _ x h; simp only [bX,bK,fZ] at*; exact ⟨this.1,ab⟩
theorem zU:∀ (l cur:List UInt8),(dJ cur l).length≤l.length+1:=by
 intro l
 induction l with
 | nil=>intro cur; unfold dJ; split <;> simp
 | cons b r a=>
   intro cur
   unfold dJ
   split
   · split
     · have :=a []; simp only [bX]; omega
     · have :=a []; simp only [bX]; omega
   · have :=a (cur++ [b]); simp only [bX]; omega
def km (l:List UInt8) (i:Nat) (a:Int) (cur:List UInt8):Prop :=(a= -1∧cur= [])∨(∃ k:Nat,a=k∧k < i∧i≤l.length∧cur=(l.take i).drop k)
theorem km.no {l:List UInt8} {i:Nat} :km l i (-1) []:= .inl ⟨rfl,rfl⟩
theorem km.neg {l cur:List UInt8} {i:Nat} {a:Int} (h:km l i a cur) (c:a < 0):a= -1∧cur= []:=by
 rcases h with h | ⟨k,rfl,_⟩
 · exact h
 · omega
theorem km.pos {l cur:List UInt8} {i:Nat} {a:Int} (h:km l i a cur) (c:¬a < 0):(0≤a∧a < i)∧cur=(l.take i).drop a.toNat∧cur≠[]:=by
 rcases h with ⟨rfl,_⟩ | ⟨k,rfl,h1,h2,rfl⟩
 · omega
 · refine ⟨ab,by simp,fun e=> ?_⟩
   have :=congrArg mL e
   simp only [gH,ee,fZ] at this
   omega
theorem km.begin {l:List UInt8} {i:Nat} (hi:i < l.length):km l (i+1) i [l.getD i 0]:=by
 refine .inr ⟨i,aa,ab,ab,?_⟩
 rw [Bk 0 (cz i) hi,lC (by rw [ee]; omega),mN]
theorem km.more {l cur:List UInt8} {i:Nat} {a:Int} (h:km l i a cur) (c:¬a < 0) (hi:i < l.length):km l (i+1) a (cur++ [l.getD i 0]):=by
 rcases h with ⟨rfl,_⟩ | ⟨k,rfl,h1,h2,rfl⟩
 · omega
 · exact .inr ⟨k,aa,ab,ab,(Bk 0 ab hi).symm⟩
def jO (l:List UInt8):List UInt8:=if 0 < l.length∧l.getD (l.length - 1) 0=13 then l.take (l.length - 1) else l
theorem EB (l:List UInt8):(jO l).length≤l.length:=by unfold jO; split <;> simp
theorem Pp {l:List UInt8} (h:0 < l.length) (h1:l.getD (l.length - 1) 0=13):jO l=l.take (l.length - 1):=if_pos ⟨h,h1⟩
theorem Po {l:List UInt8} (h:¬(0 < l.length∧l.getD (l.length - 1) 0=13)):jO l=l:=if_neg h
theorem Gg {l:List UInt8} (h:0 < l.length):l.drop (l.length - 1)= [l.getD (l.length - 1) 0]:=by
 rw [drop_cons 0 ab,lC ab]
def fu:List UInt8→List UInt8→List (List UInt8)
 | cur,[]=>if cur= [] then [] else [jO cur]
 | cur,b::r=>if b=10 then jO cur::fu [] r else fu (cur++ [b]) r
theorem Gx:fu [] []= []:=by simp [fu]
theorem Sz {cur:List UInt8} (h:cur≠[]):fu cur []= [jO cur]:=by simp [fu,h]
theorem SC (cur r:List UInt8):fu cur (10::r)=jO cur::fu [] r:=by simp [fu]
theorem Gv {cur:List UInt8} {b:UInt8} {r:List UInt8} (h:b≠10):fu cur (b::r)=fu (cur++ [b]) r:=by simp [fu,h]
theorem Ay:∀ (l cur:List UInt8),(fu cur l).length≤l.length+1:=by
 intro l
 induction l with
 | nil=>intro cur; unfold fu; split <;> simp
 | cons b r a=>
   intro cur
   unfold fu
   split
   · have :=a []; simp only [bX]; omega
   · have :=a (cur++ [b]); simp only [bX]; omega
theorem SA (l:List UInt8):(fu [] l).length≤l.length:=by
 cases l with
 | nil=>simp [fu]
 | cons b r=>
   unfold fu
   split
   · have :=Ay r []
     have h2:∀ m:List UInt8,(fu [] m).length≤m.length:=by
      intro m
      induction m with
      | nil=>simp [fu]
      | cons c m a=>
        unfold fu
        split
        · simp only [bX]; omega
        · have :=Ay m ([]++ [c]); simp only [bX]; omega
     have :=h2 r
     simp only [bX]; omega
   · have :=Ay r ([]++ [b]); simp only [bX]; omega
theorem SB:∀ (l cur x:List UInt8),x∈fu cur l→x.length≤cur.length+l.length:=by
 intro l
 induction l with
 | nil=>
   intro cur x h
   unfold fu at h
   split at h
   · cases h
   · simp only [iS] at h; subst h; have :=EB cur; simp only [fZ]; omega
 | cons b r a=>
   intro cur x h
   unfold fu at h
   split at h
   · rcases eB.1 h with rfl | h
     · have :=EB cur; omega
     · have :=a [] x h; simp only [bX,fZ] at*; omega
   · have :=a _ x h; simp only [bX,bK,fZ] at*; omega
def ew (c:UInt8) (l:List UInt8):Int:=if l.idxOf c < l.length then (l.idxOf c:Int) else -1
theorem F9 {c:UInt8} {l:List UInt8} (h:ew c l < 0):¬l.idxOf c < l.length:=fun h1=>by unfold ew at h; rw [if_pos h1] at h; omega
theorem r9 {c:UInt8} {l:List UInt8} (h:¬ew c l < 0):ew c l=l.idxOf c∧l.idxOf c < l.length:=by
 unfold ew at*
 by_cases h1:l.idxOf c < l.length
 · exact ⟨if_pos h1,h1⟩
 · rw [if_neg h1] at h; omega
def lM (c:UInt8) (l:List UInt8):List UInt8:=if ew c l < 0 then l else l.take (l.idxOf c)
def mY (c:UInt8) (l:List UInt8):List UInt8:=if ew c l < 0 then [] else l.drop (l.idxOf c+1)
theorem Ot (c:UInt8) (l:List UInt8):(lM c l).length≤l.length:=by unfold lM; split <;> simp; omega
theorem Ow {c:UInt8} {l:List UInt8} (h:l≠[]):(mY c l).length < l.length:=by
 have :=mM.2 h
 unfold mY; split <;> simp <;> omega
theorem Sy:∀ (l cur:List UInt8),l.idxOf 10 < l.length→fu cur l=jO (cur++l.take (l.idxOf 10))::fu [] (l.drop<|l.idxOf 10 +1):=by
 intro l
 induction l with
 | nil=>intro cur h; simp at h
 | cons b r q=>
   intro cur h
   by_cases a:b=10
   · subst a
     rw [Cx,SC,ph,ep,fQ,List.drop_one,List.tail_cons]
   · have c:(b::r).idxOf 10=r.idxOf 10 +1:=by rw [uU,beq_eq_false_iff_ne.2 a]; rfl
     rw [c] at h ⊢
     simp only [bX] at h
     rw [Gv a,q _ ab,sZ,uS,dZ]
     rfl
theorem SD:∀ (l cur:List UInt8),¬l.idxOf 10 < l.length→cur++l≠[]→fu cur l= [jO (cur++l)]:=by
 intro l
 induction l with
 | nil=>intro cur _ h; rw [ep] at h ⊢; exact Sz h
 | cons b r q=>
   intro cur h h1
   by_cases a:b=10
   · subst a; rw [Cx] at h; simp at h
   · have c:(b::r).idxOf 10=r.idxOf 10 +1:=by rw [uU,beq_eq_false_iff_ne.2 a]; rfl
     rw [c] at h
     simp only [bX] at h
     rw [Gv a,q _ ab (by simp),dZ]
     rfl
theorem SE {l:List UInt8} (h:l≠[]):fu [] l=jO (lM 10 l)::fu [] (mY 10 l):=by
 by_cases h1:ew 10 l < 0
 · rw [SD l [] (F9 h1) (by simpa using h)]
   unfold lM mY
   rw [if_pos h1,if_pos h1,Gx,mN]
 · rw [Sy l [] (r9 h1).2]
   unfold lM mY
   rw [if_neg h1,if_neg h1,mN]
def eN (s p:List UInt8):List UInt8:=if s.take p.length=p then s.drop p.length else s
def GB:List UInt8:= [239,187,191]
def xL (s:List UInt8):List UInt8:=eN s GB
theorem BJ (s:List UInt8):(xL s).length≤s.length:=by unfold xL eN; split <;> simp
def dj (t:List UInt8):List (List UInt8):=fu []<|xL t
theorem qK (t:List UInt8):(dj t).length≤t.length:=ea (SA _)<|BJ t
theorem Gr {t x:List UInt8} (h:x∈dj t):x.length≤t.length:=by
 have :=SB _ _ _ h
 have :=BJ t
 simp only [fZ] at*; omega
def xg (f:List UInt8):Bool:=decide ((f.getD 0 0).toNat=35)
def oL (f:List (List UInt8)):List (List UInt8):=f.takeWhile fun x=> !xg x
def pQ (l:List UInt8) (n:Nat):List (Nat×List (List UInt8)):=if oL (dJ [] l)= [] then [] else [(n,oL (dJ [] l))]
def ll (n:Nat):List (List UInt8)→List (Nat×List (List UInt8))
 | []=> []
 | l::r=>pQ l n++ll (n+1) r
def eU (t:List UInt8):List (Nat×List (List UInt8)):=ll 1<|dj t
theorem xh (l:List UInt8):∀ (c:List (List UInt8)) (n:Nat),ll n (c++ [l])=ll n c++pQ l (n+c.length):=by
 intro c
 induction c with
 | nil=>intro n; simp [ll]
 | cons a c q=>intro n; rw [Cq,ll,q,ll,bX,dZ,show n+1 +c.length=n+(c.length+1) from by omega]
theorem Hr:∀ (c:List (List UInt8)) (n:Nat),(ll n c).length≤c.length:=by
 intro c
 induction c with
 | nil=>intro n; simp [ll]
 | cons a c q=>
   intro n
   have :=q<|n+1
   unfold ll pQ
   rw [bK]
   split <;> simp only [fZ,bX] <;> omega
theorem Hs (t:List UInt8):(eU t).length≤t.length:=ea (Hr _ _)<|qK t
theorem Ga {f:List (List UInt8)} :∀ {j:Nat},j≤f.length→(∀ i,i < j→xg (f.getD i [])=false)→(j=f.length∨xg (f.getD j [])=true)→oL f=f.take j:=by
 induction f with
 | nil=>intro j q _ _; rw [JT]; rfl
 | cons a f A=>
   intro j q h1 h2
   cases j with
   | zero=>
     rcases h2 with h2 | h2
     · simp at h2
     · simp only [mJ] at h2
       simp [oL,h2]
   | succ j=>
     have c:=h1 0 ab
     simp only [mJ] at c
     have :=A (j:=j) (by simpa using q) (fun i hi=>by simpa using h1 (i+1) ab)<|by simpa using h2
     unfold oL at*
     rw [List.takeWhile_cons,c]
     simp only [Bool.not_false,if_true,sZ]
     rw [this]
theorem R5 {f:List (List UInt8)} {x:List UInt8} (h:x∈oL f):x∈f:=(JQ _).subset h
theorem RZ (f:List (List UInt8)):(oL f).length≤f.length:=(JQ _).length_le
theorem UO:∀ (c:List (List UInt8)) (n:Nat) (r:Nat×List (List UInt8)),r∈ll n c→n≤r.1∧r.1 < n+c.length∧r.2≠[]∧∃ l∈c,r.2=oL (dJ [] l):=by
 intro c
 induction c with
 | nil=>intro n r h; cases h
 | cons a c A=>
   intro n r h
   rw [ll] at h
   rcases List.mem_append.1 h with h | h
   · unfold pQ at h
     split at h
     · cases h
     · simp only [iS] at h; subst h
       exact ⟨by simp,by simp,by assumption,a,by simp,aa⟩
   · obtain ⟨h1,h2,h3,l,q,h4⟩:=A _ _ h
     exact ⟨ab,by simp only [bX]; omega,h3,l,by simp [q],h4⟩
theorem Ht {t:List UInt8} {r:Nat×List (List UInt8)} (h:r∈eU t):1≤r.1∧r.1≤t.length∧r.2≠[]∧r.2.length≤t.length+1∧∀ x∈r.2,x≠[]∧x.length≤t.length:=by
 obtain ⟨h1,h2,h3,l,c,h4⟩:=UO _ _ _ h
 have A:=qK t
 have q:=Gr c
 refine ⟨h1,ab,h3,?_,fun x a=> ?_⟩
 · rw [h4]; have :=RZ (dJ [] l); have :=zU l []; omega
 · rw [h4] at a
   have :=Fe _ _ _<|R5 a
   simp only [fZ] at this
   exact ⟨this.1,ab⟩
def tC (b:UInt8):Bool:=decide (48≤b.toNat∧b.toNat≤57)
def fT (s:List UInt8):Nat:=s.foldl (fun n b=>n*10 +(b.toNat - 48)) 0
theorem tB {s:List UInt8} {i:Nat} (h:i < s.length):fT (s.take<|i+1)=fT (s.take i)*10 +((s.getD i 0).toNat - 48):=by
 rw [kX s i 0 h]; unfold fT; rw [Cu]; rfl
theorem QF:∀ (s:List UInt8) (n:Nat),n≤s.foldl (fun n b=>n*10 +(b.toNat - 48)) n:=by
 intro s
 induction s with
 | nil=>intro n; exact cz _
 | cons b s a=>intro n; refine ea ?_ (a _); show n≤n*10 +(b.toNat - 48); omega
theorem OL (s:List UInt8) (i:Nat):fT (s.take i)≤fT s:=by
 have :fT s=(s.drop i).foldl (fun n b=>n*10 +(b.toNat - 48)) (fT<|s.take i):=by
  unfold fT; rw [← Cu,List.take_append_drop]
 rw [this]; exact QF _ _
def qI (s:List UInt8):Prop :=s= []∨(1 < s.length∧(s.getD 0 0).toNat=48)
def zu (s:List UInt8):Prop := ∀ i,i < s.length→tC (s.getD i 0)=true
open Classical in
noncomputable def fC (s:List UInt8) (most:Int):Nat×Int:=if qI s∨¬zu s∨most < fT s then (0,13) else (fT s,0)
theorem GX {s:List UInt8} {most:Int} (h:qI s):fC s most=(0,13):=if_pos<|.inl h
theorem GW {s:List UInt8} {most:Int} {i:Nat} (h:i < s.length) (h1:tC (s.getD i 0)=false):fC s most=(0,13):=if_pos<|.inr<|.inl fun hd=>by rw [hd i h] at h1; cases h1
theorem Tq {s:List UInt8} {most:Int} (h:most < fT s):fC s most=(0,13):=if_pos<|.inr<|.inr h
theorem GU {s:List UInt8} {most:Int} (i:Nat) (h:most < fT (s.take i)):fC s most=(0,13):=Tq<|by have :=OL s i; omega
theorem GY {s:List UInt8} {most:Int} (h:¬qI s) (h1:zu s) (h2:¬most < fT s):fC s most=(fT s,0):=if_neg<|by rintro (a | a | a) <;> first | exact h a | exact a h1 | exact h2 a
theorem GV (s:List UInt8) (most:Int):(fC s most=(0,13))∨(fC s most=(fT s,0)∧(fT s:Int)≤most):=by
 unfold fC
 split
 · exact .inl aa
 · rename_i h; exact .inr ⟨rfl,by have :¬most < fT s:=fun a=>h (.inr<|.inr a); omega⟩
theorem wW (s:List UInt8) (most:Int):(fC s most).2=0→((fC s most).1:Int)≤most:=by
 rcases GV s most with h | ⟨h,h1⟩ <;> rw [h]
 · intro h; cases h
 · intro _; exact h1
theorem Ez {b:UInt8} (h:¬(48≤b.toNat∧b.toNat≤57)):tC b=false :=decide_eq_false h
theorem RQ {x:UInt8} :∀ {l:List UInt8} {i:Nat},i < l.length→(∀ j,j < i→l.getD j 0≠x)→l.getD i 0=x→ew x l=(i:Nat):=by
 have key:∀ (l:List UInt8) (i:Nat),i < l.length→(∀ j,j < i→l.getD j 0≠x)→l.getD i 0=x→l.idxOf x=i:=by
  intro l
  induction l with
  | nil=>intro i h; simp at h
  | cons b l c=>
    intro i h h1 h2
    cases i with
    | zero=>have a:b=x:=h2
            subst a; simp
    | succ i=>
      have a:b≠x:=h1 0<|Nat.succ_pos _
      rw [uU,show (b==x)=false from by simpa using a]
      have :=c i (by simpa using h) (fun j q=>h1 (j+1) ab) h2
      rw [this]; rfl
 intro l i h h1 h2
 unfold ew
 rw [key l i h h1 h2,if_pos h]
theorem RR {x:UInt8} {l:List UInt8} (h:∀ j,j < l.length→l.getD j 0≠x):ew x l= -1:=by
 unfold ew
 rw [if_neg]
 intro h1
 have hm:=List.idxOf_lt_length_iff.1 h1
 obtain ⟨j,a,e⟩:=JM.1 hm
 exact h j a<|by rw [cR,bW a]; exact e
end Go.Hb
section
namespace Go.Hb
theorem BC {h:Array Obj} {a:Option Addr} {l:List UInt8} {i:Nat} (c:aG h a (U8 l)) (hi:i < l.length):Hb.aM h (bk a) (fo a+i*1)=some (.int .u8 (l.getD i 0).toNat):=by
 refine c.jk ?_
 unfold U8
 rw [fH,bW hi,cR,bW hi]; rfl
theorem BE {l:List UInt8} (h:0 < l.length):U8 l≠[]:=by
 intro e
 have :=congrArg mL e
 rw [vo,fZ] at this
 omega
theorem TQ {w:World} {B e:Nat} {v:Value} {l:List UInt8} {x:UInt8} (h:w.ownsRow B e 1 v (l.length+1) (U8 l++ [.int .u8 x.toNat])):w.ownsRow B e 1 v (l++ [x]).length (U8<|l++ [x]):=by
 rw [bK,vm]; exact h
theorem A4 {w:World} {B e:Nat} {v:Value} {l:List (List UInt8)} {x:List UInt8} (h:w.ownsRow B e 1 v (l.length+1) (l.map str++ [str x])):w.ownsRow B e 1 v (l++ [x]).length ((l++ [x]).map str):=by
 rw [bK,iw]; exact h
abbrev Rw:Type :=Nat×List (List UInt8)
def xn (q:Nat×Value):List Value:= [.int .i64 q.1,q.2]
def l1 (l:List (Nat×Value)):List Value:=l.flatMap xn
theorem UZ (a b:List (Nat×Value)):l1 (a++b)=l1 a++l1 b:=by simp [l1]
theorem Hy (l:List (Nat×Value)):(l1 l).length=l.length*2:=mr (f:=xn) (m:=2) (fun _=>rfl) l
theorem xk {l:List (Nat×Value)} (h:0 < l.length):l1 l≠[]:=zR (f:=xn) (m:=2) (fun _=>rfl) aw h
theorem xm {h:Array Obj} {ad:Option Addr} {vs:List (Nat×Value)} {i:Nat} {q:Nat×Value} (a:aG h ad (l1 vs)) (c:vs[i]? =some q):∀ j,j < 2→Hb.aM h (bk ad) (fo ad+i*2 +j)= [fG .i64 q.1,q.2][j]? :=
 gr (f:=xn) (m:=2) (fun _=>rfl) a c
def Tg (w:World) (B e n:Nat) (v:Value) (xs:List Value):Prop :=
 ∃ a cp,v= .slice a n cp∧n≤cp∧(xs= []∨∃ b cur z,a=some ⟨b,0,none⟩∧B≤b∧w.heap[b]? =some (.cells cur e z)∧∀ (j:Nat) u,xs[j]? =some u→cur[j]? =some u)
theorem Tg.kF {w:World} {B e size n:Nat} {v:Value} {xs:List Value} (h:w.ownsRow B e size v n xs):Tg w B e n v xs:=by
 have a:=h
 rcases h.2 with ⟨rfl,rfl⟩ | ⟨g,cap,cur,rfl,c,q,_,_,_,A⟩
 · exact ⟨none,0,aa,cz _,.inl<|gx<|by simpa using h.1⟩
 · refine ⟨_,cap,aa,(a6 a).1,.inr ⟨g,cur,_,aa,c,q,fun j u hu=> ?_⟩⟩
   rw [← A,oo] at hu
   split at hu
   · simpa using hu
   · cases hu
theorem Tg.cells {w:World} {B e n:Nat} {v:Value} {xs:List Value} (h:Tg w B e n v xs):∃ a cp,v= .slice a n cp∧aG w.heap a xs:=by
 obtain ⟨a,cp,rfl,_,h | ⟨b,cur,z,rfl,_,c,q⟩⟩:=h
 · subst h; exact ⟨a,cp,rfl,aG.nil _ _⟩
 · refine ⟨_,cp,aa,fun _=>rfl,fun j u hu=> ?_⟩
   show Hb.aM w.heap b (0 +j)=_
   rw [fQ,a7 c]; exact q j u hu
theorem Tg.dG {w:World} {B e n cp:Nat} {a:Option Addr} {xs:List Value} (h:Tg w B e n (.slice a n cp) xs):n≤cp∧aG w.heap a xs:=by
 obtain ⟨E,G,q,c,I⟩:=id h
 obtain ⟨a2,c2,A,C⟩:=h.cells
 cases q; cases A
 exact ⟨c,C⟩
theorem Tg.slice {w:World} {B e n:Nat} {v:Value} {xs:List Value} (h:Tg w B e n v xs):∃ a cp,v= .slice a n cp:=let ⟨a,cp,hv,_⟩:=h; ⟨a,cp,hv⟩
theorem Tg.md {F:Nat→Prop} {w w':World} {B e n:Nat} {v:Value} {xs:List Value} (h:Tg w B e n v xs) (hm:Md F w w') (A:∀ k,F k→∀ cur z,w.heap[k]?≠some (.cells cur e z)):Tg w' B e n v xs:=by
 obtain ⟨a,cp,rfl,q,h | ⟨b,cur,z,rfl,C,c,E⟩⟩:=h
 · exact ⟨a,cp,aa,q,.inl h⟩
 · exact ⟨_,cp,aa,q,.inr ⟨b,cur,z,aa,C,by rw [hm.dH b (bY.1 c).1 (fun hk=>A b hk cur z c)]; exact c,E⟩⟩
theorem Tg.wk {w w':World} {B e n:Nat} {v:Value} {xs:List Value} (h:Tg w B e n v xs) (hm:Wk w w'):Tg w' B e n v xs:=h.md hm fun _ hk=>hk.elim
theorem Tg.clip {w:World} {B e n k cp c:Nat} {a:Option Addr} {xs:List Value} (h:Tg w B e n (.slice a n cp) xs) (hk:k≤c):Tg w B e k (.slice a k c) (xs.take k):=by
 obtain ⟨I,J,A,_,q⟩:=h
 simp only [l8,true_and] at A
 obtain ⟨rfl,rfl⟩:=A
 refine ⟨a,c,aa,hk,?_⟩
 rcases q with rfl | ⟨b,cur,z,C,E,G,q⟩
 · exact .inl JT
 · exact .inr ⟨b,cur,z,C,E,G,fun j u hu=>q j u<|by rw [oo] at hu; split at hu; exact hu; cases hu⟩
theorem jD {w:World} {B e c size n:Nat} {v:Value} {xs:List Value} (h:w.ownsRow B e size v n xs) (A:e≠c):∀ k,v.ownBlock=some k→∀ cur z,w.heap[k]?≠some (.cells cur c z):=by
 intro k hk cur z a
 rcases h.2 with ⟨rfl,_⟩ | ⟨g,cap,C,rfl,_,q,_⟩
 · simp [gG] at hk
 · simp only [gG,fJ] at hk
   subst hk
   rw [q] at a
   simp only [fJ,uK] at a
   exact A a.2.1
theorem ic {w:World} {b e c:Nat} {cs:Array Value} {y:Nat×Nat} (h:w.heap[b]? =some (.cells cs e y)) (q:e≠c):∀ k,k=b→∀ cur z,w.heap[k]?≠some (.cells cur c z):=by
 rintro k rfl cur z a
 rw [h] at a
 simp only [fJ,uK] at a
 exact q a.2.1
def hU (w:World) (B e:Nat) (vs:List (Nat×Value)) (rs:List Rw):Prop :=vs.length=rs.length∧∀ (i:Nat) q r,vs[i]? =some q→rs[i]? =some r→q.1=r.1∧Tg w B e r.2.length q.2 (r.2.map str)
theorem hU.nil (w:World) (B e:Nat):hU w B e [] []:=⟨rfl,fun i q r a=>by simp at a⟩
theorem hU.md {F:Nat→Prop} {w w':World} {B e:Nat} {vs:List (Nat×Value)} {rs:List Rw} (h:hU w B e vs rs) (hm:Md F w w') (a:∀ k,F k→∀ cur z,w.heap[k]?≠some (.cells cur e z)):hU w' B e vs rs:=
 ⟨h.1,fun i q r h1 h2=>⟨(h.2 i q r h1 h2).1,(h.2 i q r h1 h2).2.md hm a⟩⟩
theorem hU.wk {w w':World} {B e:Nat} {vs:List (Nat×Value)} {rs:List Rw} (h:hU w B e vs rs) (hm:Wk w w'):hU w' B e vs rs:=h.md hm fun _ hk=>hk.elim
theorem hU.snoc {w:World} {B e n:Nat} {vs:List (Nat×Value)} {rs:List Rw} {v:Value} {r:List (List UInt8)} (a:hU w B e vs rs) (q:Tg w B e r.length v (r.map str)):hU w B e (vs++ [(n,v)]) (rs++ [(n,r)]):=by
 refine ⟨by rw [bK,bK,a.1]; rfl,fun i A C h1 h2=> ?_⟩
 have c:=a.1
 by_cases hi:i < vs.length
 · rw [mK hi] at h1
   rw [mK ab] at h2
   exact a.2 i A C h1 h2
 · rw [nD ab] at h1
   rw [nD ab,← c] at h2
   cases hj:i - vs.length with
   | zero=>rw [hj] at h1 h2; cases h1; cases h2; exact ⟨rfl,q⟩
   | succ j=>rw [hj] at h1; simp at h1
theorem Tg.mono {w:World} {B B' e n:Nat} {v:Value} {xs:List Value} (h:Tg w B e n v xs) (c:B'≤B):Tg w B' e n v xs:=by
 obtain ⟨a,cp,A,q,C⟩:=h
 exact ⟨a,cp,A,q,C.imp id fun ⟨b,cur,z,h1,h2,h3⟩=>⟨b,cur,z,h1,ea c h2,h3⟩⟩
theorem hU.mono {w:World} {B B' e:Nat} {vs:List (Nat×Value)} {rs:List Rw} (h:hU w B e vs rs) (a:B'≤B):hU w B' e vs rs:=⟨h.1,fun i q r h1 h2=>⟨(h.2 i q r h1 h2).1,(h.2 i q r h1 h2).2.mono a⟩⟩
end Go.Hb
end
section
set_option linter.unusedSectionVars false
namespace Go.Hb
open Go.Sort (swp insInner insOuter insertionSort siftDown heapBuild heapPop heapSort scanUp scanDown partLoop partEqLoop partition partitionEqual scanSorted shiftDown shiftUp partialIns partialInsertionSort reverseLoop reverseRange choosePivot breakPatterns breakStep pdq Hint)
def LE {α:Type} (f:α→Value) (d:Array α):List Value:=d.toList.map f
section
variable {α:Type} [Inhabited α] {f:α→Value}
theorem tZ (d:Array α):(LE f d).length=d.size:=by simp [LE]
theorem bN {d:Array α} (h:0 < d.size):LE f d≠[]:=by
 intro e; have :=congrArg mL e; rw [tZ,fZ] at this; omega
theorem Gj {d:Array α} {i:Nat} (h:i < d.size):(LE f d)[i]? =some (f d[i]!):=by
 unfold LE
 rw [fH,uE,xT h,getElem!_pos d i h]; rfl
theorem cU {h:Array Obj} {a:Option Addr} {d:Array α} {i:Nat} (c:aG h a (LE f d)) (hi:i < d.size):Hb.aM h (bk a) (fo a+i*1)=some (f d[i]!):=c.jk<|Gj hi
theorem Sf (d:Array α) (i:Nat) (v:α):(LE f d).set i (f v)=LE f (d.setIfInBounds i v):=by
 unfold LE; rw [BX,List.map_set]
theorem eT {w:World} {B e n:Nat} {v:Value} {d:Array α} (h:w.ownsRow B e 1 v n (LE f d)):d.size=n:=by
 have :=h.1; rw [tZ] at this; omega
end
section
variable {P:Program} {N:Fm} {σ:Nat→Value} {w:World} {ty:TypeId} {pos :String} {af:Array Edge} {g:Option (Nat×Bool)} {x y:Operand} {K:(Nat→Value)→World→Prop}
theorem fD {α:Type} [Inhabited α] {f:α→Value} {t B e n cap:Nat} {a:Option Addr} {d:Array α} {u:α} (i:Nat) (c:w.ownsRow B e 1 (.slice a n cap) n (LE f d)) (C:eb P t=some 1) (q:ev N σ x= .pointer (some ⟨bk a,fo a+i*1,none⟩)) (A:ev N σ y=f u) (h1:(f u).oneCell'=true)
 (E:i < n) (k:∀ w',Md (fun k=>(bE a n cap).ownBlock=some k) w w'→w'.ownsRow B e 1 (.slice a n cap) n (LE f<|d.setIfInBounds i u)→K σ w'):cJ P N ⟨none,.store t x y,ty,pos,af,g⟩ σ w K:=
 sw c C q A h1 (j:=i) ab ab fun w' h1 h2=>k w' h1<|by rw [← Sf]; exact h2
end
section
variable {α:Type} [Inhabited α] {lt:α→α→Bool} {d:Array α}
theorem RI {a j:Nat} (h:a < j) (h1:lt d[j]! d[j - 1]! =true):insInner lt a j d=insInner lt a (j - 1) (swp d j<|j - 1):=by
 cases j with
 | zero=>omega
 | succ j=>simp only [s5] at*; rw [insInner,if_pos (by simp [h1]; omega)]
theorem RK {a j:Nat} (h:¬a < j):insInner lt a j d=d:=by
 cases j with
 | zero=>rfl
 | succ j=>rw [insInner,if_neg (by simp; omega)]
theorem RJ {a j:Nat} (h1:lt d[j]! d[j - 1]! =false):insInner lt a j d=d:=by
 cases j with
 | zero=>rfl
 | succ j=>simp only [s5] at*; rw [insInner,if_neg (by simp [h1])]
theorem F4 {a b i:Nat} (h:i < b):insOuter lt a b i d=insOuter lt a b (i+1) (insInner lt a i d):=by rw [insOuter,if_pos h]
theorem RH {a b i:Nat} (h:¬i < b):insOuter lt a b i d=d:=by rw [insOuter,if_neg h]
theorem Vh {hi first r:Nat} (h:¬2 *r+1 < hi):siftDown lt hi first r d=d:=by rw [siftDown,dif_pos ab]
theorem Vi {hi first r:Nat} (h:2 *r+1 +1 < hi) (h1:lt d[first+(2 *r+1)]! d[first+(2 *r+1)+1]! =true):
 siftDown lt hi first r d=if (!lt d[first+r]! d[first+(2 *r+2)]!)=true then d else siftDown lt hi first (2 *r+2) (swp d (first+r)<|first+(2 *r+2)):=by
 rw [siftDown,dif_neg ab,if_pos (by simp [h1]; omega),dif_pos ab]
theorem HJ {hi first r:Nat} (a:2 *r+1 < hi) (h:¬2 *r+1 +1 < hi∨lt d[first+(2 *r+1)]! d[first+(2 *r+1)+1]! =false):
 siftDown lt hi first r d=if (!lt d[first+r]! d[first+(2 *r+1)]!)=true then d else siftDown lt hi first (2 *r+1) (swp d (first+r)<|first+(2 *r+1)):=by
 rw [siftDown,dif_neg ab,if_neg (by rcases h with h | h <;> simp [h] <;> omega)]
theorem Q1 {hi first k:Nat} (h:0 < k):heapBuild lt hi first k d=heapBuild lt hi first (k - 1) (siftDown lt hi first (k - 1) d):=by
 cases k with
 | zero=>omega
 | succ k=>rfl
theorem Q2 {hi first :Nat} :heapBuild lt hi first 0 d=d:=rfl
theorem Rs {first k:Nat} (h:0 < k):heapPop lt first k d=heapPop lt first (k - 1) (siftDown lt (k - 1) first 0 (swp d first (first+(k - 1)))):=by
 cases k with
 | zero=>omega
 | succ k=>rfl
theorem BK {p:α→Bool} {i j:Nat} (h:i≤j) (h1:p d[i]! =true):scanUp p d j i=scanUp p d j (i+1):=by
 rw [scanUp]; simp [h,h1]
theorem sD {p:α→Bool} {i j:Nat} (h:¬i≤j∨p d[i]! =false):scanUp p d j i=i:=by
 rw [scanUp]; rcases h with h | h <;> simp [h]
theorem zw {p:α→Bool} {i j:Nat} (a:0 < j) (h:i≤j) (h1:p d[j]! =true):scanDown p d i j=scanDown p d i (j - 1):=by
 cases j with
 | zero=>omega
 | succ j=>rw [scanDown]; simp [h,h1]
theorem rT {p:α→Bool} {i j:Nat} (h:¬i≤j∨p d[j]! =false):scanDown p d i j=j:=by
 cases j with
 | zero=>rfl
 | succ j=>rw [scanDown]; rcases h with h | h <;> simp [h]
theorem Vy {b i:Nat} (h:i < b) (h1:lt d[i]! d[i - 1]! =false):scanSorted lt d b i=scanSorted lt d b (i+1):=by
 rw [scanSorted]; simp [h,h1]
theorem HQ {b i:Nat} (h:¬i < b∨lt d[i]! d[i - 1]! =true):scanSorted lt d b i=i:=by
 rw [scanSorted]; rcases h with h | h <;> simp [h]
theorem U1 {j:Nat} (h:0 < j) (h1:lt d[j]! d[j - 1]! =true):shiftDown lt j d=shiftDown lt (j - 1) (swp d j<|j - 1):=by
 cases j with
 | zero=>omega
 | succ j=>simp only [s5] at*; rw [shiftDown]; simp [h1]
theorem Hz {j:Nat} (h:¬0 < j∨lt d[j]! d[j - 1]! =false):shiftDown lt j d=d:=by
 cases j with
 | zero=>rfl
 | succ j=>simp only [s5] at*; rw [shiftDown]; rcases h with h | h <;> first | omega | simp [h]
theorem VQ {b j:Nat} (h:j < b) (h1:lt d[j]! d[j - 1]! =true):shiftUp lt b j d=shiftUp lt b (j+1) (swp d j<|j - 1):=by
 rw [shiftUp]; simp [h,h1]
theorem HT {b j:Nat} (h:¬j < b∨lt d[j]! d[j - 1]! =false):shiftUp lt b j d=d:=by
 rw [shiftUp]; rcases h with h | h <;> simp [h]
theorem UF {i j:Nat} (h:i < j):reverseLoop i j d=reverseLoop (i+1) (j - 1) (swp d i j):=by rw [reverseLoop,if_pos h]
theorem UG {i j:Nat} (h:¬i < j):reverseLoop i j d=d:=by rw [reverseLoop,if_neg h]
theorem Hd {a i j i2 c:Nat} (h1:scanUp (fun x=>lt x d[a]!) d j i=i2) (h2:scanDown (fun x=> !lt x d[a]!) d i2 j=c) (hi:i≤i2) (q:c≤j):
 partLoop lt a i j d=if i2 > c then (c,d) else if (c - 1)+1 - (i2+1) < j+1 - i then partLoop lt a (i2+1) (c - 1) (swp d i2 c) else (c,d):=by
 rw [partLoop]; simp only [h1,h2]; split <;> first | rfl | (split <;> rfl)
theorem G8 {a i j i2 c:Nat} (h1:scanUp (fun x=> !lt d[a]! x) d j i=i2) (h2:scanDown (fun x=>lt d[a]! x) d i2 j=c):
 partEqLoop lt a i j d=if i2 > c then (i2,d) else if (c - 1)+1 - (i2+1) < j+1 - i then partEqLoop lt a (i2+1) (c - 1) (swp d i2 c) else (i2,d):=by
 rw [partEqLoop]; simp only [h1,h2]; split <;> first | rfl | (split <;> rfl)
end
def bM (x y:Nat):Bool:=decide (x < y)
theorem ua:Go.Sort.SWO bM:=⟨fun x=>by simp [bM],fun x y z=>by simp only [bM,decide_eq_true_eq]; omega,fun x y z=>by simp only [bM,decide_eq_false_iff_not]; omega⟩
def aX (n:Nat):Value:= .int .u16 n
section
variable {P:Program} {N:Fm} {σ:Nat→Value} {w:World} {dst:Option Nat} {ty:TypeId} {pos :String} {af:Array Edge} {g:Option (Nat×Bool)} {x y:Operand}
theorem yN {t C:TypeId} {k:IntKind} {a b v:Int} (q:ev N σ x= .int k a) (A:ev N σ y= .int k b) (c:k.wrap (fy k.bits a ^^^ fy k.bits b).toNat=v):
 (execOp (ev N σ) ⟨dst,.binOp .xor t x y C,ty,pos,af,g⟩).run P w= .ok (.value<|.int k v) w:=by
 subst c; simp [execOp,q,A,eqGuard,binOp,uM]
end
theorem Ig (x:Int):0≤dO.wrap x∧dO.wrap x < 18446744073709551616:=by
 have h:dO.wrap x=x % 18446744073709551616:=by
  simp [IntKind.wrap,IntKind.bits,IntKind.signed]
 rw [h]; omega
theorem KO (r:Int) (m:Nat) (hm:0 < m∧m≤1099511627776):∃ o:Nat,o≤m - 1∧dO.wrap (fy dO.bits r &&& fy dO.bits ((m:Int) - 1)).toNat=(o:Int):=by
 refine ⟨(fy dO.bits r &&& fy dO.bits ((m:Int) - 1)).toNat,?_,?_⟩
 · rw [IW]
   refine ea Nat.and_le_right ?_
   have h1:(m:Int) - 1=((m - 1:Nat):Int):=ab
   rw [h1,oZ]
   have h2:(dO.bits:Nat)=64:=rfl
   rw [h2]
   omega
 · exact oa (by have :=(fy dO.bits r &&& fy dO.bits ((m:Int) - 1)).isLt; have h2:(dO.bits:Nat)=64:=aa; rw [h2] at this ⊢; omega)
def ka (n:Nat):Nat:=if n=0 then 0 else Nat.log2 n+1
theorem Gn:∀ n:Fin 256,n.val≠0→n.val < 2 ^ ka n.val∧2 ^ ka n.val≤2 *n.val∧ka n.val≤8:=by decide+kernel
theorem wO {n:Nat} (h:n < 256):ka n≤8:=by
 rcases Nat.eq_zero_or_pos n with rfl | a
 · decide
 · exact (Gn ⟨n,h⟩<|by simp; omega).2.2
theorem Sk {n:Nat} (h:n < 256) (a:0 < n):n < 2 ^ ka n∧2 ^ ka n≤2 *n:=by
 have :=Gn ⟨n,h⟩<|by simp; omega
 exact ⟨this.1,this.2.1⟩
end Go.Hb
end
namespace Go.Hb
def gz:List Nat→List Nat
 | []=> []
 | [x]=> [x]
 | x::y::l=>if x=y then gz (y::l) else x::gz (y::l)
theorem OK (x y:Nat):∀ l:List Nat,gz (l++ [x,y])=if x=y then gz (l++ [x]) else gz (l++ [x])++ [y]:=by
 intro l
 induction l with
 | nil=>by_cases h:x=y <;> simp [gz,h]
 | cons a l c=>
   cases l with
   | nil=>by_cases h:a=x <;> by_cases h2:x=y <;> simp_all [gz]
   | cons b l=>
     simp only [Cq] at c ⊢
     rw [gz,c,gz]
     by_cases h:a=b <;> by_cases h2:x=y <;> simp [h,h2]
theorem Et (x:Nat):∀ l:List Nat,x∈gz l↔x∈l:=by
 intro l
 induction l with
 | nil=>simp [gz]
 | cons a l c=>
   cases l with
   | nil=>simp [gz]
   | cons b l=>
     rw [gz]
     by_cases h:a=b
     · subst h; rw [if_pos rfl,c]; simp
     · rw [if_neg h,eB,c,eB (a:=x) (b:=a)]
theorem OJ:∀ l:List Nat,l.Pairwise (·≤·)→(gz l).Pairwise (· < ·):=by
 intro l
 induction l with
 | nil=>intro _; exact List.Pairwise.nil
 | cons a l q=>
   intro h
   cases l with
   | nil=>simp [gz]
   | cons b l=>
     rw [nH] at h
     rw [gz]
     by_cases h1:a=b
     · rw [if_pos h1]; exact q h.2
     · rw [if_neg h1,nH]
       refine ⟨fun y c=> ?_,q h.2⟩
       have c:=(Et y _).1 c
       have h2:=h.1 b<|by simp
       rcases eB.1 c with rfl | c
       · omega
       · have :=(nH.1 h.2).1 y c; omega
theorem UK:∀ l m:List Nat,l.Pairwise (· < ·)→m.Pairwise (· < ·)→(∀ x,x∈l↔x∈m)→l=m:=by
 intro l
 induction l with
 | nil=>
   intro m _ _ h
   cases m with
   | nil=>rfl
   | cons y m=>have :=(h y).2 (by simp); cases this
 | cons a l A=>
   intro m q hm h
   cases m with
   | nil=>have :=(h a).1 (by simp); cases this
   | cons y m=>
     rw [nH] at q hm
     have e:a=y:=by
      have h1:=(h a).1<|by simp
      have h2:=(h y).2<|by simp
      rcases eB.1 h1 with h1 | h1
      · exact h1
      · rcases eB.1 h2 with h2 | h2
        · exact h2.symm
        · have :=q.1 y h2; have :=hm.1 a h1; omega
     subst e
     congr 1
     refine A m q.2 hm.2 fun x=> ?_
     constructor
     · intro c
       have :=q.1 x c
       rcases eB.1 ((h x).1<|oq _ c) with h1 | h1
       · omega
       · exact h1
     · intro c
       have :=hm.1 x c
       rcases eB.1 ((h x).2<|oq _ c) with h1 | h1
       · omega
       · exact h1
def lT (x:Nat):List Nat→List Nat
 | []=> [x]
 | y::l=>if x < y then x::y::l else if x=y then y::l else y::lT x l
def kT (l:List Nat):List Nat:=l.foldr lT []
theorem F3 (x y:Nat):∀ l:List Nat,y∈lT x l↔y=x∨y∈l:=by
 intro l
 induction l with
 | nil=>simp [lT]
 | cons a l c=>
   rw [lT]
   split
   · simp
   · split
     · rename_i h; subst h; simp
     · rw [eB,c,eB]
       constructor <;> (rintro (h | h | h) <;> simp [h])
theorem RG (x:Nat):∀ l:List Nat,l.Pairwise (· < ·)→(lT x l).Pairwise (· < ·):=by
 intro l
 induction l with
 | nil=>intro _; simp [lT]
 | cons a l A=>
   intro h
   rw [lT]
   rw [nH] at h
   split
   · rename_i q
     rw [nH,nH]
     exact ⟨fun y c=>by rcases eB.1 c with rfl | c; exact q; have :=h.1 y c; omega,h⟩
   · split
     · rw [nH]; exact h
     · rw [nH]
       exact ⟨fun y c=>by rcases (F3 x y l).1 c with rfl | c; omega; exact h.1 y c,A h.2⟩
theorem AT (x:Nat):∀ l:List Nat,x∈kT l↔x∈l:=by
 intro l
 induction l with
 | nil=>simp [kT]
 | cons a l c=>show x∈lT a (kT l)↔_; rw [F3,c,eB]
theorem AU:∀ l:List Nat,(kT l).Pairwise (· < ·):=by
 intro l
 induction l with
 | nil=>exact List.Pairwise.nil
 | cons a l c=>exact RG a _ c
theorem G3 {l m:List Nat} (hm:m.Pairwise (· < ·)) (h:∀ x,x∈m↔x∈l):m=kT l:=UK _ _ hm (AU l) fun x=>by rw [h,AT]
theorem Ty {l:List Nat} (h:l.Pairwise (· < ·)):kT l=l:=(G3 h fun _=>Iff.rfl).symm
theorem RF (x:Nat):∀ l:List Nat,(lT x l).length≤l.length+1:=by
 intro l
 induction l with
 | nil=>simp [lT]
 | cons a l c=>rw [lT]; split <;> (try split) <;> simp only [bX] <;> omega
theorem Tw:∀ l:List Nat,(kT l).length≤l.length:=by
 intro l
 induction l with
 | nil=>simp [kT]
 | cons a l c=>have :=RF a (kT l); show (lT a<|kT l).length≤_; simp only [bX]; omega
theorem sA (d:Array Nat):d.toList.length=d.size:=by simp
theorem uz (d:Array Nat) (i:Nat):d.toList.getD i 0=d[i]! :=by
 rw [cR,uE]
 by_cases h:i < d.size
 · rw [xT h,getElem!_pos d i h]; rfl
 · rw [p7 ab,getElem!_neg d i h]; rfl
theorem xG {d:Array Nat} {i:Nat} (h:i < d.size):d.toList.take (i+1)=d.toList.take i++ [d[i]!]:=by
 rw [kX d.toList i 0 (by simpa using h),uz]
theorem vN {d:Array Nat} {q:Nat} (h1:1≤q) (h:q < d.size):gz (d.toList.take<|q+1)=if d[q - 1]! =d[q]! then gz (d.toList.take q) else gz (d.toList.take q)++ [d[q]!]:=by
 obtain ⟨q,rfl⟩:∃ k,q=k+1:=⟨q - 1,ab⟩
 rw [xG h,xG ab,dZ,s5]
 exact OK _ _ _
theorem Bo {d:Array Nat} (h:sQ bM 0 d.size d):d.toList.Pairwise (·≤·):=by
 rw [List.pairwise_iff_getElem]
 intro i j hi a c
 have :=h i j (Nat.zero_le _) c<|by simpa using a
 rw [← uz,← uz,cR,cR,bW hi,bW a] at this
 simp only [bM,decide_eq_false_iff_not,Option.getD_some] at this
 omega
theorem Vq {l:List Nat} {d:Array Nat} (hp:Go.Sort.PermIn 0 l.length l.toArray d) (hs:sQ bM 0 l.length d):gz d.toList=kT l:=by
 have a:d.size=l.length:=by rw [hp.1]; simp
 have c:d.toList.Perm l:=by
  have :=hp.2.2
  rw [show (d.extract 0 l.length).toList=d.toList from by rw [Array.toList_extract]; simp [e9 (show d.toList.length≤l.length by simp [a])]] at this
  simpa using this
 exact G3 (OJ _<|Bo<|by rw [a]; exact hs) fun x=>by rw [Et]; exact c.mem_iff
theorem vQ {d d2:Array Nat} {k j:Nat} (h:d.toList.drop k=d2.toList.drop k) (hk:k≤j):d[j]! =d2[j]! :=by
 have :=congrArg (fun l=>l.getD (j - k) 0) h
 simp only [cR,Cv,show k+(j - k)=j from by omega] at this
 rw [← uz,← uz]; simpa [cR] using this
theorem set_drop {d:Array Nat} {k m v:Nat} (h:k < m):(d.setIfInBounds k v).toList.drop m=d.toList.drop m:=by
 rw [BX,List.drop_set,if_pos h]
theorem Bi {d:Array Nat} {k v:Nat} (h:k < d.size):(d.setIfInBounds k v).toList.take (k+1)=d.toList.take k++ [v]:=by
 rw [BX,List.set_eq_take_append_cons_drop,if_pos (by simpa using h),u7,ee,uF,ot ab,JZ,e9 (by rw [ee]; omega)]
 rfl
theorem Av {h:Array Obj} {a:Option Addr} {d:Array Nat} {i j:Nat} {f:Nat→Value} (c:aG h a ((LE f d).drop i)) (hi:i+j < d.size):Hb.aM h (bk a) (fo a+j*1)=some (f d[i+j]!):=by
 refine c.jk ?_
 rw [Cv]; exact Gj hi
theorem Aw {d:Array Nat} {i:Nat} {f:Nat→Value} (h:i < d.size):(LE f d).drop i≠[]:=by
 intro e; have :=congrArg mL e; rw [gH,tZ,fZ] at this; omega
def iq (b:UInt8):Bool:=decide (33≤b.toNat∧b.toNat≤126∧b.toNat≠47∧b.toNat≠44∧b.toNat≠35)
noncomputable def eJ (kind:Nat) (s:List UInt8):Nat:=
 if kind=1 then (if s.length=1∧iq (s.getD 0 0)=true then (s.getD 0 0).toNat else 0)
 else if kind=2 then (if s.length=2∧iq (s.getD 0 0)=true∧iq (s.getD 1 0)=true then 256 *(s.getD 0 0).toNat+(s.getD 1 0).toNat else 0)
 else (fC s 65535).1
def gP (c:UInt8):List UInt8→List UInt8→List (List UInt8)
 | acc,[]=> [acc]
 | acc,b::l=>if b=c then acc::gP c [] l else gP c (acc++ [b]) l
theorem Vv (c:UInt8):∀ (l acc:List UInt8),(gP c acc l).length≤l.length+1:=by
 intro l
 induction l with
 | nil=>intro acc; simp [gP]
 | cons b l a=>
   intro acc; rw [gP]; split
   · have :=a []; simp only [bX]; omega
   · have :=a (acc++ [b]); simp only [bX]; omega
theorem Vw (c:UInt8):∀ (l acc x:List UInt8),x∈gP c acc l→x.length≤acc.length+l.length:=by
 intro l
 induction l with
 | nil=>intro acc x h; simp only [gP,iS] at h; subst h; simp
 | cons b l a=>
   intro acc x h
   rw [gP] at h
   split at h
   · rcases eB.1 h with rfl | h
     · simp
     · have :=a [] x h; simp only [fZ,bX] at*; omega
   · have :=a _ x h; rw [bK,iR] at this; simp only [bX]; omega
def oE (k:Nat):Nat→List UInt8→List (List UInt8)
 | 0,_=> []
 | f+1,s=>if s= [] then [] else s.take k::oE k f (s.drop k)
def chunks (k:Nat) (s:List UInt8):List (List UInt8):=oE k s.length s
theorem Nc {k:Nat} (hk:0 < k):∀ (f g:Nat) (s:List UInt8),s.length≤f→s.length≤g→oE k f s=oE k g s:=by
 intro f
 induction f with
 | zero=>intro g s h _; obtain rfl :=gx (by omega :s.length=0); cases g <;> simp [oE]
 | succ f a=>
   intro g s h1 h2
   cases g with
   | zero=>obtain rfl :=gx (by omega :s.length=0); simp [oE]
   | succ g=>
     rw [oE,oE]
     by_cases hs:s= []
     · simp [hs]
     · have c:=mM.2 hs
       rw [if_neg hs,if_neg hs,a g (s.drop k) (by rw [gH]; omega) (by rw [gH]; omega)]
theorem zj (k:Nat):chunks k []= []:=rfl
theorem zi {k:Nat} {s:List UInt8} (hk:0 < k) (hs:s≠[]):chunks k s=s.take k::chunks k (s.drop k):=by
 have a:=mM.2 hs
 unfold chunks
 obtain ⟨m,hm⟩:∃ m,s.length=m+1:=⟨s.length - 1,ab⟩
 rw [hm,oE,if_neg hs,Nc hk m (s.drop k).length (s.drop k) (by rw [gH]; omega) (cz _)]
theorem Ng {k:Nat} (hk:0 < k):∀ (n:Nat) (s:List UInt8),s.length≤n→(chunks k s).length≤s.length:=by
 intro n
 induction n with
 | zero=>intro s h; obtain rfl :=gx (by omega :s.length=0); simp [zj]
 | succ n a=>
   intro s h
   by_cases hs:s= []
   · subst hs; simp [zj]
   · have c:=mM.2 hs
     rw [zi hk hs,bX]
     have :=a (s.drop k)<|by rw [gH]; omega
     rw [gH] at this; omega
theorem Nh {k:Nat} (hk:0 < k):∀ (n:Nat) (s x:List UInt8),s.length≤n→x∈chunks k s→x.length≤s.length:=by
 intro n
 induction n with
 | zero=>intro s x h a; obtain rfl :=gx (by omega :s.length=0); cases a
 | succ n c=>
   intro s x h a
   by_cases hs:s= []
   · subst hs; cases a
   · have q:=mM.2 hs
     rw [zi hk hs] at a
     rcases eB.1 a with rfl | a
     · rw [ee]; omega
     · have :=c (s.drop k) x (by rw [gH]; omega) a
       rw [gH] at this; omega
def eA (kind:Nat) (s:List UInt8):List (List UInt8):=if kind=3 then gP 44 [] s else chunks kind s
theorem T9 {kind:Nat} {s:List UInt8} (hk:0 < kind):(eA kind s).length≤s.length+1:=by
 unfold eA; split
 · exact Vv _ _ _
 · have :=Ng hk s.length s (cz _); omega
theorem Ua {kind:Nat} {s x:List UInt8} (hk:0 < kind) (h:x∈eA kind s):x.length≤s.length:=by
 unfold eA at h; split at h
 · have :=Vw _ _ _ _ h; simpa using this
 · exact Nh hk _ _ _ (cz _) h
noncomputable def eY (kind:Nat) (s:List UInt8):List Nat×Nat:=
 if s= [] then ([],31) else if ∃ x∈eA kind s,eJ kind x=0 then ([],31) else if 64 < (eA kind s).length then ([],32) else (kT ((eA kind s).map<|eJ kind),0)
noncomputable def iN (kind:Nat) (s:List UInt8):Nat×Nat:=if eJ kind s=0 then (0,31) else (eJ kind s,0)
theorem Qf (kind:Nat) (s:List UInt8):eJ kind s < 65536:=by
 unfold eJ
 have a:=jH<|s.getD 0 0
 have h1:=jH<|s.getD 1 0
 split
 · split <;> omega
 · split
   · split <;> omega
   · unfold fC; split
     · exact Nat.zero_lt_succ _
     · rename_i h; simp only; omega
theorem sI {n:Int} (h:0≤n∧n≤65535):og.wrap n=n:=IntWalk.u16_in n h
theorem Vc {x:Nat} (h:x < 256):og.wrap ((x:Int)*2 ^ min (8:Int).toNat og.bits)=((256 *x:Nat):Int):=by
 have h2:((x:Int)*2 ^ min (8:Int).toNat og.bits)=((256 *x:Nat):Int):=by
  show (x:Int)*256=_
  omega
 rw [h2]; exact sI ab
theorem TI {x y:Nat} (h:x < 256) (A:y < 256):og.wrap (fy og.bits ((256 *x:Nat):Int) ||| fy og.bits ((y:Nat):Int)).toNat=((256 *x+y:Nat):Int):=by
 have h1:(fy og.bits ((256 *x:Nat):Int) ||| fy og.bits ((y:Nat):Int)).toNat=256 *x+y:=by
  have q:(og.bits:Nat)=16:=rfl
  rw [IX,oZ,oZ,q]
  have a:(((256 *x:Nat):Int) % ((2 ^ 16:Nat):Int)).toNat=2 ^ 8 *x:=ab
  have c:(((y:Nat):Int) % ((2 ^ 16:Nat):Int)).toNat=y:=ab
  rw [a,c,← Nat.two_pow_add_eq_or_of_lt (show y < 2 ^ 8 by omega)]
 rw [h1]; exact sI ab
theorem Tp (s:List UInt8):(fC s 65535).1≤65535:=by
 unfold fC; split
 · exact Nat.zero_le _
 · simp only; omega
theorem Nf (s:List UInt8) (i k:Nat):(s.take (min ((i+k:Nat):Int) (s.length:Int)).toNat).drop (i:Int).toNat=(s.drop i).take k:=by
 rw [jq,show (min ((i+k:Nat):Int) (s.length:Int)).toNat=min (i+k) s.length from by omega,yh]
 by_cases h:i+k≤s.length
 · rw [ot h,JZ]
 · rw [Nat.min_eq_right ab,e9 (by rw [gH]; omega),e9 (by rw [gH]; omega)]
theorem HO (c:UInt8):∀ (l acc:List UInt8),l.idxOf c < l.length→gP c acc l=(acc++l.take (l.idxOf c))::gP c [] (l.drop<|l.idxOf c+1):=by
 intro l
 induction l with
 | nil=>intro acc h; simp at h
 | cons b l q=>
   intro acc h
   rw [gP]
   by_cases a:b=c
   · subst a; rw [if_pos rfl]; simp
   · rw [if_neg a]
     have hi:(b::l).idxOf c=l.idxOf c+1:=by rw [uU,show (b==c)=false from by simpa using a]; rfl
     rw [hi] at h ⊢
     simp only [bX] at h
     rw [q _ ab]
     simp [dZ]
theorem Vx (c:UInt8):∀ (l acc:List UInt8),¬c∈l→gP c acc l= [acc++l]:=by
 intro l
 induction l with
 | nil=>intro acc _; simp [gP]
 | cons b l a=>
   intro acc h
   rw [eB,not_or] at h
   rw [gP,if_neg (fun e=>h.1 e.symm),a _ h.2]; simp
theorem Bp (c:UInt8):∀ (l acc:List UInt8),(gP c acc l).length=l.count c+1:=by
 intro l
 induction l with
 | nil=>intro acc; simp [gP]
 | cons b l q=>
   intro acc
   rw [gP]
   by_cases a:b=c
   · subst a; rw [if_pos rfl,bX,q]; simp
   · rw [if_neg a,q,List.count_cons_of_ne a]
theorem OA {c:UInt8} {l:List UInt8} (h:l.idxOf c < l.length):(l.drop<|l.idxOf c+1).count c+1=l.count c:=by
 have h1:=Bp c l []
 rw [HO c l [] h,bX,Bp] at h1
 omega
def fA (n:Nat):Value:= .int .i64 n
end Go.Hb
section
namespace Go.Hb
def iM (b:UInt8):Bool:=decide (33≤b.toNat∧b.toNat≠127)
def gU (w:List UInt8):Bool:=w.all iM
def oS (w:List UInt8):Bool:=decide (1≤w.length∧w.length≤64∧gU w=true)
theorem eZ {α:Type} {l:List α} {i:Nat} {d:α} (h:i < l.length):l.getD i d∈l:=by
 rw [cR,bW h]; exact List.getElem_mem h
theorem oN {α:Type} {l:List α} {x:α} (d:α) (h:x∈l):∃ i,i < l.length∧l.getD i d=x:=by
 obtain ⟨i,hi,rfl⟩:=JM.1 h
 exact ⟨i,hi,by rw [cR,bW hi]; rfl⟩
theorem CT {α:Type} {f:α→Bool} {l:List α} {i:Nat} (d:α) (h:i < l.length) (h1:f (l.getD i d)=false):l.all f=false :=by
 rw [List.all_eq_false]; exact ⟨_,eZ h,by rw [h1]; exact dv⟩
theorem CU {α:Type} {f:α→Bool} {l:List α} (d:α) (h:∀ i,i < l.length→f (l.getD i d)=true):l.all f=true :=by
 rw [kK]; intro x a; obtain ⟨i,hi,rfl⟩:=oN d a; exact h i hi
theorem vC {w:List UInt8} {i:Nat} (h:i < w.length) (h1:iM (w.getD i 0)=false):gU w=false :=CT 0 h h1
theorem vD {w:List UInt8} (h:∀ i,i < w.length→iM (w.getD i 0)=true):gU w=true :=CU 0 h
theorem Lv (b:UInt8):gU [b]=iM b:=by unfold gU; simp
def qF (b:UInt8):Bool:=decide (b.toNat=92∨b.toNat=47∨b.toNat=35)
abbrev lE:Type :=List UInt8×List UInt8×Bool×Nat
def Ul (r:lE):Value:= .tuple #[str r.1,str r.2.1,.bool r.2.2.1,.int .i64 r.2.2.2]
def jd:List UInt8→List UInt8→lE
 | acc,[]=>(acc,[],false,0)
 | acc,[b]=>if b.toNat=47 then (acc,[],true,0) else if b.toNat=92 then ([],[],false,20) else (acc++ [b],[],false,0)
 | acc,b::c::l=>if b.toNat=47 then (acc,c::l,true,0) else if b.toNat=92 then (if qF c=true then jd (acc++ [c]) l else ([],[],false,20)) else jd (acc++ [b]) (c::l)
theorem BO (acc:List UInt8):jd acc []=(acc,[],false,0):=by simp [jd]
theorem IG {acc l:List UInt8} {b:UInt8} (h:b.toNat=47):jd acc (b::l)=(acc,l,true,0):=by
 cases l <;> simp [jd,h]
theorem ID {acc:List UInt8} {b:UInt8} (h:b.toNat=92):jd acc [b]=([],[],false,20):=by simp [jd,h]
theorem IE {acc l:List UInt8} {b c:UInt8} (h:b.toNat=92) (a:qF c=false):jd acc (b::c::l)=([],[],false,20):=by simp [jd,h,a]
theorem IC {acc l:List UInt8} {b c:UInt8} (h:b.toNat=92) (a:qF c=true):jd acc (b::c::l)=jd (acc++ [c]) l:=by simp [jd,h,a]
theorem IF {acc l:List UInt8} {b:UInt8} (h:¬b.toNat=47) (h1:¬b.toNat=92):jd acc (b::l)=jd (acc++ [b]) l:=by
 cases l <;> simp [jd,h,h1]
theorem Xc (n:Nat):∀ (l acc:List UInt8),l.length≤n→(jd acc l).1.length≤acc.length+l.length∧(jd acc l).2.1.length≤l.length:=by
 induction n with
 | zero=>intro l acc h; obtain rfl :=gx (by omega :l.length=0); rw [BO]; exact ⟨by simp,by simp⟩
 | succ n a=>
   intro l acc h
   cases l with
   | nil=>rw [BO]; exact ⟨by simp,by simp⟩
   | cons b l=>
     simp only [bX] at h ⊢
     by_cases h1:b.toNat=47
     · rw [IG h1]; exact ⟨by simp only; omega,by simp only; omega⟩
     · by_cases h2:b.toNat=92
       · cases l with
         | nil=>rw [ID h2]; exact ⟨by simp,by simp⟩
         | cons c l=>
           simp only [bX] at h ⊢
           cases hc:qF c
           · rw [IE h2 hc]; exact ⟨by simp,by simp⟩
           · rw [IC h2 hc]
             have :=a l (acc++ [c]) ab
             rw [bK,iR] at this
             omega
       · rw [IF h1 h2]
         have :=a l (acc++ [b]) ab
         rw [bK,iR] at this
         omega
def bF (f:List UInt8):lE:=jd [] f
theorem xQ (f:List UInt8):(bF f).1.length≤f.length∧(bF f).2.1.length≤f.length:=by
 have :=Xc f.length f []<|cz _
 simpa [bF] using this
def lets (s:List UInt8):List UInt8:=s.foldl (fun a b=>if b∈a then a else a++ [b]) []
def letE (s:List UInt8):List UInt8×Nat:=if s= []∨gU s=false then ([],21) else (lets s,0)
theorem wP {s:List UInt8} {i:Nat} (h:i < s.length):lets (s.take<|i+1)=if s.getD i 0∈lets (s.take i) then lets (s.take i) else lets (s.take i)++ [s.getD i 0]:=by
 unfold lets
 rw [kX s i 0 h,Cu]; rfl
theorem Gq (s:List UInt8):(lets s).length≤s.length:=by
 have key:∀ (s a:List UInt8),(s.foldl (fun a b=>if b∈a then a else a++ [b]) a).length≤a.length+s.length:=by
  intro s
  induction s with
  | nil=>intro a; simp
  | cons b s c=>
    intro a
    rw [sV,bX]
    split
    · have :=c a; omega
    · have :=c (a++ [b]); rw [bK,iR] at this; omega
 have :=key s []
 simpa [lets] using this
def marksOf (a:List UInt8):List Value:=(fI 256).map fun k=> .bool<|decide (jZ k∈a)
theorem GD (a:List UInt8):(marksOf a).length=256:=by simp [marksOf]
theorem SO (a:List UInt8) (b:UInt8):(marksOf a)[b.toNat]? =some (.bool<|decide (b∈a)):=by
 have :=jH b
 unfold marksOf
 rw [fH,yo ab]
 simp
theorem SQ (a:List UInt8) (b:UInt8):(marksOf a).set b.toNat (.bool true)=marksOf (a++ [b]):=by
 apply om
 intro k
 rw [kh,GD]
 unfold marksOf
 rw [fH,fH]
 by_cases hk:k < 256
 · rw [yo hk]
   simp only [kj]
   have he:(jZ k=b)↔b.toNat=k:=by
    constructor
    · rintro rfl; simp; omega
    · rintro rfl; simp
   by_cases h:b.toNat=k
   · have h2:=he.2 h
     simp [h,hk,h2]
   · have h2:¬jZ k=b:=fun e=>h<|he.1 e
     simp [h,h2]
 · have :(fI 256)[k]? =none:=sW<|by simp; omega
   have c:=jH b
   rw [this]
   simp; omega
theorem SP:marksOf []=jG 256 (.bool false):=by
 unfold marksOf
 apply om
 intro k
 rw [fH,List.getElem?_replicate]
 by_cases hk:k < 256
 · rw [yo hk]; simp [hk]
 · rw [sW (by simp; omega)]; simp [hk]
theorem Bd.new {T e b:Nat} {w:World} (h:w.heap[b]? =some (.cells [x8 none,.slice none 0 0].toArray T (0,0))):Bd T e w b (.slice none 0 0) []:=
 ⟨⟨none,h,.inl rfl⟩,dS _ _ _ _,by simp⟩
theorem Bd.step {T e b:Nat} {w0 w w':World} {a:Value} {l:List UInt8} (h:Bd T e w b a l) (c:Wk w0 w) (q:Md (BF b a) w w') (C:w0.heap.size≤b):Wk w0 w':=
 Md.trans' c q fun k hk A=>by have :=h.ij A; omega
theorem Bd.Bu {T e b:Nat} {w0 w w':World} {a:Value} {l:List UInt8} (h:Bd T e w b a l) (c:Wk w0 w) (q:Md (fun k=>a.ownBlock=some k) w w') (C:w0.heap.size≤b):Wk w0 w':=
 Md.trans' c q fun k hk A=>by have :=h.ij (.inr A); omega
end Go.Hb
end
section
set_option linter.unusedSimpArgs false
namespace Go.Hb
def pD (g:Nat→Bool):Nat→Nat
 | 0=>0
 | n+1=>pD g n ||| (if g n=true then 2 ^ n else 0)
theorem Li (g:Nat→Bool):∀ n,pD g n < 2 ^ n:=by
 intro n
 induction n with
 | zero=>exact Nat.zero_lt_one
 | succ n a=>
   rw [pD]
   refine CC (Nat.lt_trans a<|yx aw<|s6 n) ?_
   split
   · exact yx aw<|s6 n
   · exact Nat.two_pow_pos _
theorem tq (g:Nat→Bool) (j:Nat):∀ n,(pD g n).testBit j=(decide (j < n) && g j):=by
 intro n
 induction n with
 | zero=>simp [pD]
 | succ n q=>
   rw [pD,Kb,q]
   by_cases c:j=n
   · subst c
     cases h:g j <;> simp [Nat.testBit_two_pow_self]
   · have a:(if g n=true then 2 ^ n else 0).testBit j=false :=by
      split
      · rw [Kc]; simp; omega
      · simp
     rw [a,IZ]
     congr 1
     exact decide_eq_decide.2 ab
theorem vA {g:Nat→Bool} {x:Nat} (c:x < 2 ^ 64) (h:∀ j,j < 64→x.testBit j=g j):x=pD g 64:=by
 refine Nat.eq_of_testBit_eq fun j=> ?_
 rw [tq]
 by_cases a:j < 64
 · rw [h j a,decide_eq_true a,uH]
 · rw [decide_eq_false a,Bool.false_and]
   exact Nat.testBit_lt_two_pow<|rp c<|Nat.pow_le_pow_right aw ab
def ed (f:UInt8→Bool) (k:Nat):Nat:=pD (fun j=>f<|jZ<|64 *k+j) 64
def dQ (f:UInt8→Bool):List Value:= [.int .u64 (ed f 0),.int .u64 (ed f 1),.int .u64 (ed f 2),.int .u64 (ed f 3)]
theorem sG (f:UInt8→Bool) (k:Nat):ed f k < 18446744073709551616:=Li _ 64
theorem vJ (f:UInt8→Bool):(dQ f).length=4:=rfl
theorem Ea (f:UInt8→Bool):(dQ f).all eO=true :=rfl
theorem zm (f:UInt8→Bool) {k:Nat} (h:k < 4):(dQ f)[k]? =some (.int .u64<|ed f k):=by
 match k,h with
 | 0,_=>rfl
 | 1,_=>rfl
 | 2,_=>rfl
 | 3,_=>rfl
theorem zn:dQ (fun _=>false)= [.int .u64 0,.int .u64 0,.int .u64 0,.int .u64 0]:=by
 have :∀ k,ed (fun _=>false) k=0:=fun k=>(vA (x:=0) aw fun j _=>by simp).symm
 unfold dQ; simp only [this]; rfl
theorem yP (b:UInt8) {k j:Nat} (hk:k < 4) (c:j < 64):jZ (64 *k+j)=b↔k=b.toNat / 64∧j=b.toNat % 64:=by
 have a:=jH b
 constructor
 · rintro rfl
   simp only [CE]
   omega
 · rintro ⟨h1,h2⟩
   refine rr.1 ?_
   simp only [CE]
   omega
theorem W4 (f:UInt8→Bool) (b:UInt8) {k:Nat} (hk:k < 4):ed (fun x=>f x || decide (x=b)) k=if k=b.toNat / 64 then ed f k ||| 2 ^ (b.toNat % 64) else ed f k:=by
 split
 · rename_i h
   refine (vA (CC (sG f k)<|yx aw ab) fun j a=> ?_).symm
   rw [Kb,Kc]
   have h1:(ed f k).testBit j=f (jZ<|64 *k+j):=by unfold ed; rw [tq,decide_eq_true a,uH]
   rw [h1]
   congr 1
   exact decide_eq_decide.2<|by rw [yP b hk a]; omega
 · rename_i h
   refine (vA (sG f k) fun j a=> ?_).symm
   have h1:(ed f k).testBit j=f (jZ<|64 *k+j):=by unfold ed; rw [tq,decide_eq_true a,uH]
   show _=(f (jZ<|64 *k+j) || decide (jZ (64 *k+j)=b))
   rw [h1,decide_eq_false (by rw [yP b hk a]; omega),IZ]
theorem NM (f:UInt8→Bool) (b:UInt8):(dQ f).set (b.toNat / 64) (.int .u64 ((ed f (b.toNat / 64) ||| 2 ^ (b.toNat % 64):Nat):Int))=dQ (fun x=>f x || decide (x=b)):=by
 have a:=jH b
 apply om
 intro k
 rw [kh,vJ]
 by_cases hk:k < 4
 · rw [zm _ hk,zm _ hk,W4 f b hk]
   by_cases h:b.toNat / 64=k
   · subst h; simp [show b.toNat / 64 < 4 by omega]
   · rw [if_neg h,if_neg (fun e=>h e.symm)]
 · rw [sW (by rw [vJ]; omega),sW (by rw [vJ]; omega)]
   simp; omega
theorem W0 (f:UInt8→Bool) (b:UInt8):decide ((((ed f (b.toNat / 64) / 2 ^ (b.toNat % 64)) % 2:Nat):Int)=1)=f b:=by
 have a:=jH b
 have h1:(ed f<|b.toNat / 64).testBit (b.toNat % 64)=f b:=by
  unfold ed
  rw [tq,decide_eq_true (Nat.mod_lt _ aw),uH,(yP b (k:=b.toNat / 64) (j:=b.toNat % 64) ab<|Nat.mod_lt _ aw).2 ⟨rfl,rfl⟩]
 rw [← h1,Nat.testBit_eq_decide_div_mod_eq]
 exact decide_eq_decide.2 ab
theorem CX (b:UInt8):o6.wrap (fy o6.bits (b.toNat:Int) &&& fy o6.bits 63).toNat=((b.toNat % 64:Nat):Int):=by
 have h:∀ r:Fin 256,o6.wrap (fy o6.bits ((r.val:Nat):Int) &&& fy o6.bits 63).toNat=((r.val % 64:Nat):Int):=by decide+kernel
 exact h ⟨b.toNat,jH b⟩
theorem HI (b:UInt8):(b.toNat:Int).fdiv (2 ^ min (6:Int).toNat o6.bits)=((b.toNat / 64:Nat):Int):=by
 have h:∀ r:Fin 256,((r.val:Nat):Int).fdiv (2 ^ min (6:Int).toNat o6.bits)=((r.val / 64:Nat):Int):=by decide+kernel
 exact h ⟨b.toNat,jH b⟩
theorem Vb {m:Nat} (h:m < 64):dO.wrap ((1:Int)*2 ^ min ((m:Nat):Int).toNat dO.bits)=((2 ^ m:Nat):Int):=by
 have h2:(dO.bits:Nat)=64:=rfl
 rw [jq,h2,ot ab,Int.one_mul]
 have h3:(2:Nat) ^ m < 2 ^ 64:=yx aw h
 have h4:((2:Int) ^ m)=((2 ^ m:Nat):Int):=by simp
 rw [h4]
 obtain ⟨x,a⟩:∃ x:Nat,2 ^ m=x:=⟨_,rfl⟩
 rw [a] at h3 ⊢; exact oa ab
theorem TH {x y:Nat} (c:x < 2 ^ 64) (q:y < 2 ^ 64):dO.wrap (fy dO.bits (x:Int) ||| fy dO.bits (y:Int)).toNat=((x ||| y:Nat):Int):=by
 have a:(dO.bits:Nat)=64:=rfl
 have h1:(fy dO.bits (x:Int) ||| fy dO.bits (y:Int)).toNat=x ||| y:=by
  rw [IX,oZ,oZ,a]
  congr 1 <;> omega
 rw [h1]
 have :=CC c q
 obtain ⟨z,A⟩:∃ z:Nat,x ||| y=z:=⟨_,rfl⟩
 rw [A] at this ⊢; exact oa ab
theorem Vg (x:Nat) {m:Nat} (h:m < 64):(x:Int).fdiv (2 ^ min ((m:Nat):Int).toNat dO.bits)=((x / 2 ^ m:Nat):Int):=by
 have h2:(dO.bits:Nat)=64:=rfl
 rw [jq,h2,ot ab]
 rw [show ((2:Int) ^ m)=((2 ^ m:Nat):Int) by simp,Int.fdiv_eq_ediv_of_nonneg _ (Int.natCast_nonneg _)]; rfl
theorem KN {x:Nat} (c:x < 2 ^ 64):dO.wrap (fy dO.bits (x:Int) &&& fy dO.bits 1).toNat=((x % 2:Nat):Int):=by
 have a:(dO.bits:Nat)=64:=rfl
 have h1:(fy dO.bits (x:Int) &&& fy dO.bits 1).toNat=x % 2:=by
  rw [IW,oZ,oZ,a,show ((x:Int) % ((2 ^ 64:Nat):Int)).toNat=x by omega]
  exact Nat.and_one_is_mod x
 rw [h1]; exact oa ab
section
variable {P:Program} {N:Fm} {σ:Nat→Value} {w:World} {dst:Option Nat} {ty:TypeId} {pos :String} {af:Array Edge} {g:Option (Nat×Bool)} {x:Operand}
theorem vL {t:TypeId} {k:Nat} {f:UInt8→Bool} (A:ev N σ x= .int .u64 (ed f k)):(execOp (ev N σ) ⟨dst,.unOp .xor t x,ty,pos,af,g⟩).run P w= .ok (.value<|.int .u64<|ed (fun y=> !f y) k) w:=by
 have q:=sG f k
 have h1:dO.wrap (fy dO.bits dO.max ^^^ fy dO.bits (ed f k:Int)).toNat=(ed (fun y=> !f y) k:Int):=by
  have c:(dO.bits:Nat)=64:=rfl
  have h2:(fy dO.bits dO.max ^^^ fy dO.bits (ed f k:Int)).toNat=ed (fun y=> !f y) k:=by
   rw [BitVec.toNat_xor,oZ,oZ,c,show (dO.max % ((2 ^ 64:Nat):Int)).toNat=2 ^ 64 - 1 from by decide,show ((ed f k:Int) % ((2 ^ 64:Nat):Int)).toNat=ed f k by omega]
   refine vA (Nat.xor_lt_two_pow aw q) fun j a=> ?_
   rw [Nat.testBit_xor,Nat.testBit_two_pow_sub_one,decide_eq_true a,Bool.true_xor]
   congr 1
   unfold ed; rw [tq,decide_eq_true a,uH]
  rw [h2]; have :=sG (fun y=> !f y) k; exact oa ab
 have h3:(uM .xor dO dO.max (ed f k:Int)).run P w= .ok (.int .u64<|ed (fun y=> !f y) k) w:=by
  simp only [uM]
  rw [← h1]; rfl
 have h4:(Cc .xor<|.int dO (ed f k:Int)).run P w= .ok (.int .u64<|ed (fun y=> !f y) k) w:=by
  simp only [Cc]
  exact h3
 simp [execOp,A,h4]
end
def fk (t:List UInt8) (b:UInt8):Bool:=
 if t.length=1 then decide (t.getD 0 0=46∨t.getD 0 0=b)
 else if t.getD 1 0=94 then !decide (b∈(t.take<|t.length - 1).drop 2)
 else decide (b∈(t.take<|t.length - 1).drop 1)
def j7:List UInt8→Option (List UInt8×List UInt8)
 | []=>none
 | b::l=>if b=91 then (if l.idxOf 93 < l.length∧l.idxOf 93≠0∧¬(l.idxOf 93=1∧l.getD 0 0=94) then some (b::l.take (l.idxOf 93 +1),l.drop (l.idxOf 93 +1)) else none) else some ([b],l)
theorem D2 {s t r:List UInt8} (h:j7 s=some (t,r)):r.length < s.length:=by
 cases s with
 | nil=>cases h
 | cons b l=>
   simp only [j7] at h
   split at h
   · split at h
     · simp only [fJ,vf] at h
       obtain ⟨_,rfl⟩:=h
       rw [gH,bX]; omega
     · cases h
   · simp only [fJ,vf] at h
     obtain ⟨_,rfl⟩:=h
     simp
def nP:Nat→List UInt8→Option (List<|List UInt8)
 | 0,s=>if s= [] then some [] else none
 | f+1,s=>if s= [] then some [] else match j7 s with
   | none=>none
   | some (t,r)=>(nP f r).map (t:: ·)
theorem Om:∀ (f g:Nat) (s:List UInt8),s.length≤f→s.length≤g→nP f s=nP g s:=by
 intro f
 induction f with
 | zero=>intro g s h _; obtain rfl :=gx (by omega :s.length=0); cases g <;> simp [nP]
 | succ f a=>
   intro g s h1 h2
   cases g with
   | zero=>obtain rfl :=gx (by omega :s.length=0); simp [nP]
   | succ g=>
     rw [nP,nP]
     split
     · rfl
     · cases hc:j7 s with
       | none=>rfl
       | some q=>
         obtain ⟨t,r⟩:=q
         have :=D2 hc
         simp only
         rw [a g r ab ab]
def lL (s:List UInt8):Option (List<|List UInt8):=nP s.length s
theorem Oi:lL []=some []:=rfl
theorem Ol {s t r:List UInt8} (h:j7 s=some (t,r)):lL s=(lL r).map (t:: ·):=by
 have a:=D2 h
 unfold lL
 obtain ⟨m,hm⟩:∃ m,s.length=m+1:=⟨s.length - 1,ab⟩
 have hs:s≠[]:=fun e=>by rw [e] at hm; simp at hm
 rw [hm,nP,if_neg hs,h]
 simp only
 rw [Om m r.length r ab (cz _)]
theorem Oj {s:List UInt8} (hs:s≠[]) (h:j7 s=none):lL s=none:=by
 unfold lL
 have a:=mM.2 hs
 obtain ⟨m,hm⟩:∃ m,s.length=m+1:=⟨s.length - 1,ab⟩
 rw [hm,nP,if_neg hs,h]
def dX (s:List UInt8):List (List UInt8)×Nat:=
 if s= []∨512 < s.length then ([],40) else if s= [46] then ([],0) else match lL s with
  | none=>([],41)
  | some xs=>if 16 < xs.length then ([],42) else (xs,0)
def kL (s:List UInt8) (i:Nat) (a:List (List UInt8)):Prop :=lL s=(lL<|s.drop i).map (a++ ·)
theorem kL.start (s:List UInt8):kL s 0 []:=by
 unfold kL; rw [uT]; cases lL s <;> simp
theorem kL.step {s t r:List UInt8} {i j:Nat} {a:List (List UInt8)} (h:kL s i a) (c:j7 (s.drop i)=some (t,r)) (q:r=s.drop j):kL s j (a++ [t]):=by
 subst q
 unfold kL at*
 rw [h,Ol c]
 cases lL (s.drop j) <;> simp
theorem kL.bad {s:List UInt8} {i:Nat} {a:List (List UInt8)} (h:kL s i a) (hi:i < s.length) (c:j7 (s.drop i)=none):lL s=none:=by
 unfold kL at h
 rw [h,Oj (fun e=>by have :=congrArg mL e; rw [gH,fZ] at this; omega) c]; rfl
theorem kL.done {s:List UInt8} {i:Nat} {a:List (List UInt8)} (h:kL s i a) (hi:s.length≤i):lL s=some a:=by
 unfold kL at h
 rw [h,lC hi,Oi]; simp
theorem Nj {b:UInt8} {l:List UInt8} (h:b≠91):j7 (b::l)=some ([b],l):=by simp [j7,h]
theorem Nk {b:UInt8} {l:List UInt8} (a:b=91) (h:l.idxOf 93 < l.length) (h1:l.idxOf 93≠0) (h2:¬(l.idxOf 93=1∧l.getD 0 0=94)):j7 (b::l)=some (b::l.take (l.idxOf 93 +1),l.drop (l.idxOf 93 +1)):=by
 simp only [j7]; rw [if_pos a,if_pos ⟨h,h1,h2⟩]
theorem Ni {b:UInt8} {l:List UInt8} (a:b=91) (h:¬(l.idxOf 93 < l.length∧l.idxOf 93≠0∧¬(l.idxOf 93=1∧l.getD 0 0=94))):j7 (b::l)=none:=by
 simp only [j7]; rw [if_pos a,if_neg h]
def oD (f:UInt8→Bool) (i:Nat):List UInt8:=((fI i).map jZ).filter f
def bytesOf (f:UInt8→Bool):List UInt8:=oD f 256
theorem C8 (f:UInt8→Bool) (i:Nat):oD f (i+1)=oD f i++(if f (jZ i)=true then [jZ i] else []):=by
 unfold oD
 rw [List.range_succ,iw,List.filter_append]
 congr 1
 cases h:f (jZ i) <;> simp [h]
theorem tt (f:UInt8→Bool) (i:Nat):(oD f i).length≤i:=by
 unfold oD
 refine ea (o8 _ _) ?_
 simp
theorem Lu (f:UInt8→Bool):(bytesOf f).Nodup:=by
 unfold bytesOf oD
 refine List.Nodup.sublist List.filter_sublist ?_
 rw [JO,List.pairwise_map]
 refine Xz ?_<|JO.1 List.nodup_range
 intro a b c q A e
 have h1:=nG.1 c
 have h2:=nG.1 q
 have :=congrArg UInt8.toNat e
 simp only [CE] at this
 omega
def lr (f:UInt8→Bool):List UInt8:=
 if (bytesOf f).length=256 then [46]
 else if (bytesOf f).length=1∧(bytesOf f).getD 0 0≠46∧(bytesOf f).getD 0 0≠91 then bytesOf f
 else if f 93=true then [91,94]++bytesOf (fun b=> !f b)++ [93]
 else [91]++((bytesOf f).filter (fun b=>decide (b≠94))++(if 94∈bytesOf f then [94] else []))++ [93]
def pU (ps:List (List UInt8)):List UInt8:=if ps= [] then [46] else ps.flatMap fun t=>lr<|fk t
theorem HH (f:UInt8→Bool):(lr f).length≤300:=by
 have h1:=tt f 256
 have h2:=tt (fun b=> !f b) 256
 unfold lr
 split
 · simp
 · split
   · unfold bytesOf; omega
   · split
     · simp only [bK,bX,fZ]; unfold bytesOf; omega
     · have h3:=o8 (fun b=>decide (b≠94))<|bytesOf f
       have h4:(if 94∈bytesOf f then [(94:UInt8)] else []).length≤1:=by split <;> simp
       simp only [bK,bX,fZ]
       have h5:(bytesOf f).length≤256:=h1
       omega
theorem Ru {l:List UInt8} (hn:l.Nodup) {c:UInt8} (h:l.idxOf c < l.length):l.take (l.idxOf c)++l.drop (l.idxOf c+1)=l.filter (fun b=>decide (b≠c)):=by
 induction l with
 | nil=>simp at h
 | cons b l A=>
   rw [ys] at hn
   by_cases a:b=c
   · subst a
     simp only [Cx,ph,mN,fQ,uS,uT]
     rw [List.filter_cons_of_neg (by simp)]
     exact (yj.2 fun x q=>by simp; rintro rfl; exact hn.1 q).symm
   · have e:(b::l).idxOf c=l.idxOf c+1:=by rw [uU,show (b==c)=false from by simpa using a]; rfl
     rw [e] at h ⊢
     simp only [bX] at h
     rw [sZ,uS,Cq,A hn.2 ab,List.filter_cons_of_pos (by simpa using a)]
theorem GS {l:List UInt8} {c:UInt8} (h:¬c∈l):l.filter (fun b=>decide (b≠c))=l:=
 yj.2 fun x a=>by simp; rintro rfl; exact h a
def ku (ps:List (List UInt8)):List Value:=ps.flatMap fun t=>dQ<|fk t
theorem NL (a b:List (List UInt8)):ku (a++b)=ku a++ku b:=by simp [ku]
end Go.Hb
end
section
namespace Go.Hb
abbrev Tx:Type :=List UInt8
structure dP where
 flag:Nat
 kind:Nat
 gp:Bool
 first :Nat
 count:Nat
structure cK where
 kind:Nat
 flag:Nat
 gp:Bool
 strip:Tx
 add:Tx
 cond:Tx
 next :List Nat
 line:Nat
structure aC where
 kind:Nat
 tx:Tx
 tr:Tx
 sp:List Nat
 least:Nat
 du:List (Tx×Tx)
 aliases:List (List Nat)
 bC:List dP
 rules:List cK
def iY:Tx:= [70,76,65,71]
def jl:Tx:= [83,69,84]
def jz:Tx:= [84,82,89]
def jR:Tx:= [78,69,69,68,65,70,70,73,88]
def j9:Tx:= [70,79,82,66,73,68,68,69,78,87,79,82,68]
def kA:Tx:= [75,69,69,80,67,65,83,69]
def kR:Tx:= [67,79,77,80,79,85,78,68,70,76,65,71]
def lf:Tx:= [78,79,83,85,71,71,69,83,84]
def lV:Tx:= [67,79,77,80,79,85,78,68,77,73,78]
def jy:Tx:= [82,69,80]
def iX:Tx:= [65,70]
def iZ:Tx:= [80,70,88]
def dA:Tx:= [83,70,88]
def As:Tx:= [115,104,111,114,116]
def Ap:Tx:= [108,111,110,103]
def Aq:Tx:= [110,117,109]
def gi:List Tx:= [jR,j9,kA,kR,lf]
def width (k:Tx):Nat:=if k∈gi∨k=iY∨k=jl∨k=jz∨k=lV∨k=jy∨k=iX then 2 else if k=iZ∨k=dA then 4 else 0
def gX (w:Tx):Nat:=if w= []∨gU w=false then 21 else if 32 < w.length then 22 else 0
def fW (none:Bool) (fd:Tx):Except Nat Tx:=
 if none=true∧fd= [48] then .ok []
 else if (bF fd).2.2.2≠0 then .error (bF fd).2.2.2
 else if (bF fd).2.2.1=true then .error 114
 else if gX (bF fd).1≠0 then .error (gX (bF fd).1)
 else .ok (bF fd).1
def dM (cs:List dP) (x:Nat):Option dP:=cs.find? fun c=>decide (c.flag=x)
def eu (f:aC) (x:Nat):Bool:=decide (x∈f.sp) || (dM f.bC x).isSome
noncomputable def iP (f:aC) (s:Tx):Except Nat Nat:=
 if (iN f.kind s).2≠0 then .error (iN f.kind s).2 else if eu f (iN f.kind s).1=true then .error 115 else .ok (iN f.kind s).1
noncomputable def kQ (kind:Nat) (s:Tx):Except Nat (List Nat):=if (eY kind s).2≠0 then .error (eY kind s).2 else .ok (eY kind s).1
noncomputable def eD (s:Tx) (most:Int):Except Nat Nat:=if (fC s most).2≠0 then .error 13 else .ok (fC s most).1
noncomputable def gd (kind:Nat) (al:List (List Nat)) (s:Tx):Except Nat (List Nat):=
 if al= [] then kQ kind s
 else match eD s al.length with
  | .error _=> .error 13
  | .ok n=>if n=0 then .error 13 else .ok (al.getD (n - 1) [])
noncomputable def nk (kind:Nat) (al:List (List Nat)) (a:Nat) (r:lE):Except Nat (List Nat):=
 if r.2.2.1=true then (if a=1 then .error 118 else gd kind al r.2.1) else .ok []
def mo (row:List Tx):Except Nat Tx:=
 if row.length=5 then (if gU (row.getD 4 [])=false then .error 21 else if (dX<|row.getD 4 []).2≠0 then .error (dX<|row.getD 4 []).2 else .ok (pU (dX<|row.getD 4 []).1)) else .ok [46]
def k6 (r:lE):Except Nat Tx:=if r.2.2.2≠0 then .error r.2.2.2 else if r.1= [48] then .ok [] else if gX r.1≠0 then .error (gX r.1) else .ok r.1
noncomputable def jn (kind:Nat) (al:List (List Nat)) (c:dP) (ln:Nat) (row:List Tx):Except Nat cK:=
 if row.length≠4∧row.length≠5 then .error 111
 else match fW true (row.getD 2 []) with
  | .error e=> .error e
  | .ok st=>match k6 (bF<|row.getD 3 []) with
    | .error e=> .error e
    | .ok ad=>match nk kind al c.kind (bF<|row.getD 3 []) with
      | .error e=> .error e
      | .ok nx=>match mo row with
        | .error e=> .error e
        | .ok cd=> .ok ⟨c.kind,c.flag,c.gp,st,ad,cd,nx,ln⟩
def mB (ln:Nat) (row:List Tx):Except Nat (Tx×Tx):=
 if row.length≠3 then .error 111
 else match fW false (row.getD 1 []) with
  | .error e=> .error e
  | .ok a=>match fW true (row.getD 2 []) with
    | .error e=> .error e
    | .ok b=> .ok (a,b)
noncomputable def mi (kind:Nat) (ln:Nat) (row:List Tx):Except Nat (List Nat):=if row.length≠2 then .error 111 else kQ kind (row.getD 1 [])
def group {α:Type} (hd:List Tx) (rd:Nat→List Tx→Except Nat α) (eof:Nat):Nat→List Rw→Except (Nat×Nat) (List α×List Rw)
 | 0,rows=> .ok ([],rows)
 | _+1,[]=> .error (eof,116)
 | n+1,(ln,row)::rows=>if row.take hd.length≠hd then .error (ln,116) else match rd ln row with
   | .error e=> .error (ln,e)
   | .ok x=>match group hd rd eof n rows with
     | .error e=> .error e
     | .ok r=> .ok (x::r.1,r.2)
def kS (s:Tx):Nat:=if s=As then 1 else if s=Ap then 2 else if s=Aq then 3 else 0
def ordered (hs:List Tx):Bool:= !hs.any fun h=>decide (h∈gi∨h=iX∨h=iZ∨h=dA)
noncomputable def gV (eof:Nat) (f:aC) (rows:List Rw) (ln:Nat) (row:List Tx):Except (Nat×Nat) (aC×List Rw):=
 match iP f (row.getD 1 []) with
 | .error e=> .error (ln,e)
 | .ok x=>if row.getD 2 []≠[89]∧row.getD 2 []≠[78] then .error (ln,114)
   else match eD (row.getD 3 []) 1024 with
    | .error e=> .error (ln,e)
    | .ok n=>if 1024 < f.rules.length+n then .error (ln,117)
      else match group [row.getD 0 [],row.getD 1 []] (jn f.kind f.aliases ⟨x,if row.getD 0 []=dA then 2 else 1,decide (row.getD 2 []= [89]),f.rules.length,n⟩) eof n rows with
       | .error e=> .error e
       | .ok r=> .ok ({f with bC:=f.bC++ [⟨x,if row.getD 0 []=dA then 2 else 1,decide (row.getD 2 []= [89]),f.rules.length,n⟩],rules:=f.rules++r.1},r.2)
noncomputable def jV (f:aC) (rows:List Rw) (ln:Nat) (row:List Tx):Except (Nat×Nat) (aC×List Rw):=
 match iP f (row.getD 1 []) with
 | .error e=> .error (ln,e)
 | .ok x=> .ok ({f with sp:=f.sp.set (gi.idxOf<|row.getD 0 []) x},rows)
def kB (f:aC) (hs:List Tx) (rows:List Rw) (ln:Nat) (row:List Tx):Except (Nat×Nat) (aC×List Rw):=
 if ordered hs=false then .error (ln,113) else if kS (row.getD 1 [])=0 then .error (ln,114) else .ok ({f with kind:=kS<|row.getD 1 []},rows)
def mD (f:aC) (rows:List Rw) (ln:Nat) (row:List Tx):Except (Nat×Nat) (aC×List Rw):=
 if gU (row.getD 1 [])=false then .error (ln,21) else .ok ({f with tx:=row.getD 1 []},rows)
def mE (f:aC) (rows:List Rw) (ln:Nat) (row:List Tx):Except (Nat×Nat) (aC×List Rw):=
 if (letE<|row.getD 1 []).2≠0 then .error (ln,(letE<|row.getD 1 []).2) else .ok ({f with tr:=(letE<|row.getD 1 []).1},rows)
noncomputable def kE (f:aC) (rows:List Rw) (ln:Nat) (row:List Tx):Except (Nat×Nat) (aC×List Rw):=
 match eD (row.getD 1 []) 64 with
 | .error e=> .error (ln,e)
 | .ok n=>if n=0 then .error (ln,13) else .ok ({f with least:=n},rows)
noncomputable def kH (eof:Nat) (f:aC) (rows:List Rw) (ln:Nat) (row:List Tx):Except (Nat×Nat) (aC×List Rw):=
 match eD (row.getD 1 []) 256 with
 | .error e=> .error (ln,e)
 | .ok n=>match group [jy] mB eof n rows with
   | .error e=> .error e
   | .ok r=> .ok ({f with du:=f.du++r.1},r.2)
noncomputable def j6 (eof:Nat) (f:aC) (hs:List Tx) (rows:List Rw) (ln:Nat) (row:List Tx):Except (Nat×Nat) (aC×List Rw):=
 if iZ∈hs∨dA∈hs then .error (ln,113)
 else match eD (row.getD 1 []) 1024 with
  | .error e=> .error (ln,e)
  | .ok n=>match group [iX] (mi f.kind) eof n rows with
    | .error e=> .error e
    | .ok r=> .ok ({f with aliases:=f.aliases++r.1},r.2)
noncomputable def ca (eof:Nat) (f:aC) (hs:List Tx) (rows:List Rw) (ln:Nat) (row:List Tx):Except (Nat×Nat) (aC×List Rw):=
 if row.getD 0 []∈gi then jV f rows ln row
 else if row.getD 0 []=iY then kB f hs rows ln row
 else if row.getD 0 []=jl then mD f rows ln row
 else if row.getD 0 []=jz then mE f rows ln row
 else if row.getD 0 []=lV then kE f rows ln row
 else if row.getD 0 []=jy then kH eof f rows ln row
 else if row.getD 0 []=iX then j6 eof f hs rows ln row
 else gV eof f rows ln row
noncomputable def gN (eof:Nat):Nat→aC→List Tx→List Rw→Except (Nat×Nat) aC
 | 0,f,_,rows=>if rows= [] then .ok f else .error (0,0)
 | _+1,f,_,[]=> .ok f
 | k+1,f,hs,(ln,row)::rows=>
   if width (row.getD 0 [])=0 then .error (ln,110)
   else if row.length≠width (row.getD 0 []) then .error (ln,111)
   else if width (row.getD 0 [])=2∧row.getD 0 []∈hs then .error (ln,112)
   else match ca eof f hs rows ln row with
    | .error e=> .error e
    | .ok r=>gN eof k r.1 (hs++ [row.getD 0 []]) r.2
def mz (f:aC) (x:Nat):Bool:=decide (x=f.sp.getD 0 0) || (match dM f.bC x with | some c=>decide (c.kind=2) | none=>false)
def nL (f:aC) (r:cK):Bool:=r.next.any fun x=> !mz f x
def iH:aC:=⟨1,[],[],[0,0,0,0,0],3,[],[],[],[]⟩
noncomputable def fR (t:Tx):Except (Nat×Nat) aC:=
 if 65536 < t.length then .error (0,10)
 else match gN ((dj t).length+1) (eU t).length iH [] (eU t) with
  | .error e=> .error e
  | .ok f=>match f.rules.find? (nL f) with
    | some r=> .error (r.line,118)
    | none=> .ok f
theorem tX {α:Type} {hd:List Tx} {rd:Nat→List Tx→Except Nat α} {eof:Nat} :∀ (n:Nat) (rows:List Rw) (r:List α×List Rw),group hd rd eof n rows= .ok r→r.2.length≤rows.length∧r.1.length=n∧∀ q∈r.2,q∈rows:=by
 intro n
 induction n with
 | zero=>intro rows r h; simp only [group,qX] at h; subst h; exact ⟨cz _,rfl,fun q a=>a⟩
 | succ n c=>
   intro rows r h
   cases rows with
   | nil=>simp [group] at h
   | cons q rows=>
     obtain ⟨ln,row⟩:=q
     simp only [group] at h
     split at h
     · cases h
     · cases hr:rd ln row with
       | error e=>rw [hr] at h; cases h
       | ok x=>
         rw [hr] at h
         simp only at h
         cases hg:group hd rd eof n rows with
         | error e=>rw [hg] at h; cases h
         | ok A=>
           rw [hg] at h
           simp only [qX] at h
           subst h
           have :=c rows A hg
           refine ⟨by simp only [bX]; omega,by simp only [bX]; omega,fun q a=>oq _<|this.2.2 q a⟩
def gS {α:Type} (hd:List Tx) (rd:Nat→List Tx→Except Nat α) (eof:Nat) (T:Except (Nat×Nat) (List α×List Rw)) (xs:List α) (n:Nat) (rows:List Rw):Prop :=
 T=match group hd rd eof n rows with
  | .error e=> .error e
  | .ok r=> .ok (xs++r.1,r.2)
theorem gS.start {α:Type} {hd:List Tx} {rd:Nat→List Tx→Except Nat α} {eof n:Nat} {rows:List Rw} :gS hd rd eof (group hd rd eof n rows) [] n rows:=by
 unfold gS; cases group hd rd eof n rows <;> rfl
section
variable {α:Type} {hd:List Tx} {rd:Nat→List Tx→Except Nat α} {eof n:Nat} {T:Except (Nat×Nat) (List α×List Rw)} {xs:List α} {rows:List Rw} {ln:Nat} {row:List Tx}
theorem gS.ends (h:gS hd rd eof T xs n []) (hn:0 < n):T= .error (eof,116):=by
 obtain ⟨m,rfl⟩:∃ m,n=m+1:=⟨n - 1,ab⟩
 exact h
theorem gS.other (h:gS hd rd eof T xs n ((ln,row)::rows)) (hn:0 < n) (a:row.take hd.length≠hd):T= .error (ln,116):=by
 obtain ⟨m,rfl⟩:∃ m,n=m+1:=⟨n - 1,ab⟩
 unfold gS at h; simp only [group] at h; rw [if_pos a] at h; exact h
theorem gS.bad {e:Nat} (h:gS hd rd eof T xs n ((ln,row)::rows)) (hn:0 < n) (a:row.take hd.length=hd) (he:rd ln row= .error e):T= .error (ln,e):=by
 obtain ⟨m,rfl⟩:∃ m,n=m+1:=⟨n - 1,ab⟩
 unfold gS at h; simp only [group] at h; rw [if_neg (fun h2=>h2 a),he] at h; exact h
theorem gS.step {x:α} (h:gS hd rd eof T xs n ((ln,row)::rows)) (hn:0 < n) (a:row.take hd.length=hd) (he:rd ln row= .ok x):gS hd rd eof T (xs++ [x]) (n - 1) rows:=by
 obtain ⟨m,rfl⟩:∃ m,n=m+1:=⟨n - 1,ab⟩
 unfold gS at h ⊢; simp only [group] at h; rw [if_neg (fun h2=>h2 a),he] at h
 simp only [s5] at h ⊢
 rw [h]
 cases group hd rd eof m rows with
 | error e=>rfl
 | ok r=>simp only [dZ]; rfl
theorem gS.done (h:gS hd rd eof T xs 0 rows):T= .ok (xs,rows):=by
 unfold gS at h; simpa [group] using h
end
end Go.Hb
end
