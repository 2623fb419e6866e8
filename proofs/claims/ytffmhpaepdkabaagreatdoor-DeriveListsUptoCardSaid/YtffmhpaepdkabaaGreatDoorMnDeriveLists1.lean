/-
  Walks and plain laws that the law rests on, laid together. No conditions but those that each theorem names.
-/
import Derived.WalkKit
import Derived.OrdersHeld
import Derived.TacticsIn
import Derived.Lib.Strings
import Derived.Lib.UnsafeStr
import Derived.Laws.MakeOwn
import Derived.Laws.StructEq
import Derived.SliceStrings
import Derived.Carry
import Derived.JoinedCond
import Derived.ProofKit
import Derived.OpenShut
import Derived.Test.YtffmhpaepdkabaaGreatDoorRows
import Derived.Sort.AssemblyPlain
import Derived.RangeFuncFrom
import Derived.RangeFuncLeaves
import Derived.Recover
import Derived.Laws.OwnMore
import Derived.Lib.Bytealg
import Derived.Lib.SliceRun
import Derived.OrdersIn
import Derived.Test.YtffmhpaepdkabaaGreatDoorChecked
import Derived.Shelf.Slices.In.SortAlone
import Derived.Shelf.Slices.In.SortNone
import Derived.Sort.OwnSortedInts
import Derived.Sort.EveryDepth
set_option linter.unusedVariables false
open Array renaming ext_getElem?→MG,getD_eq_getD_getElem?→D4,getElem?_eq_getElem→zE,getElem?_eq_none→tW,getElem?_eq_some_iff→dm,getElem?_setIfInBounds→D5,getElem?_toList→D6,length_toList→wg,mem_toList_iff→wh,range→tX,replicate→tY,setIfInBounds_comm→D7,toArray_toList→MK,toList_inj→zH,toList_map→nv,toList_setIfInBounds→D8
open BitVec renaming ofInt→gk,toNat_and→MM,toNat_ofInt→p6,toNat_or→MN
open Bool renaming and_eq_true→gO,eq_iff_iff→tZ,noConfusion→eb,not_eq_true'→zI,or_eq_true→Ea,or_false→MO,true_and→wj
open Go.Addr renaming add→zJ
open Go.Builtin renaming append_→zK,firstCells→MQ,lenOf→MR,len_→MS
open Go.Calls renaming mono→lO
open Go.Conv renaming bytesToString→MV,seenAt→MW,unsafePointer→MX
open Go.DataW renaming TrodAll→MY
open Go.Deferred renaming ofValue→qY
open Go.Fence renaming wide→jg
open Go.Instr renaming alloc→M1,buildSlice→Ed,checkKey→ua,fill→oW,findKey→zL,loadAt→M4,lookup→M5,slice→wo,sliceAt→si,sliceBound→sj,sliceBounds→oX,storeAt→Eh,sureAddr→qZ
open Go.IntKind renaming i64→zM,u16→oY,u64→eF,u8→p7
open Go.Next renaming value→Ei
open Go.Obj.cells renaming injEq→wq
open Go.Op renaming equal→Ej,equalIn→ub,intArith→wu,intBits→wv,intCmp→uc,stringOp→Ek,unary→El
open Go.Oper renaming upon→kW,uponIn→q4,wp→jW
open Go.Region renaming Mode→sn,binds→jX,free_spec→Em,noSelect_spec→En,ready→jo,wanted→q5
open Go.Result renaming andThen_ok→wy,ok→Eo
open Go.Sem renaming run_bind→wz,run_ite→Et,run_pure→zO
open Go.Sort renaming SortedIn→ud
open Go.Value renaming bool→bQ,cells→ug,int→jh,oneCell'→gz,ownBlock→iH,pointer→zQ,slice→bO
open Go.Value.slice renaming injEq→mR
open Go.Value.string renaming inj→Ni
open Go.World renaming freeze→wO,ownsRow_nil→du,setCell→zT,shape?→Ez
open Int renaming toNat_natCast→mS
open List.Pairwise renaming imp_of_mem→Z1
open List renaming all_cons→uh,all_eq_true→me,any_eq_true→Nn,append_assoc→dC,append_nil→ed,cons_append→EA,drop_append→No,drop_eq_nil_of_le→gP,drop_of_length_le→Nq,drop_succ_cons→wP,drop_take→su,drop_zero→wS,eq_nil_of_length_eq_zero→fO,ext_getElem?→p8,filter_eq_self→Ns,flatMap_cons→rh,foldl_append→EC,foldl_cons→sv,getD_cons_zero→lP,getD_eq_getElem?_getD→cQ,getElem?_append_left→mg,getElem?_append_right→mT,getElem?_cons_succ→NB,getElem?_drop→ri,getElem?_eq_getElem→cz,getElem?_eq_none→uk,getElem?_map→ic,getElem?_range→zW,getElem?_set→kX,getElem?_take→o3,getElem_mem→ND,idxOf_cons→wU,idxOf_cons_self→ED,length→jy,length_append→bI,length_cons→cM,length_drop→fK,length_filter_le→zX,length_nil→fP,length_pos_iff→lx,length_singleton→eW,length_take→dO,mapM_toArray→wY,map_append→ig,map_cons→um,mem_append→jz,mem_append_left→NG,mem_cons→gl,mem_cons_of_mem→uo,mem_iff_getElem→z1,mem_map→o4,mem_map_of_mem→xa,mem_of_getElem?→iJ,mem_range→uq,mem_singleton→jY,nil_append→p9,nodup_cons→NK,nodup_iff_pairwise_ne→NL,pairwise_cons→qa,range→jZ,replicate→kj,size_toArray→oo,takeWhile_sublist→NP,take_append→xd,take_nil→NQ,take_of_length_le→eI,take_succ_cons→qc,take_zero→oq,zipIdx_cons→NS
open Nat renaming add_assoc→NT,add_sub_cancel→sx,add_sub_cancel_left→NV,beq→xf,ble→o5,blt→iR,eq_of_beq_eq_true→NW,le_of_ble_eq_true→uu,le_refl→cj,le_trans→fW,lt_of_lt_of_le→sy,lt_or_ge→e8,lt_succ_self→uv,min_eq_left→o6,mul_le_mul_right→sA,or_lt_two_pow→EJ,pow_lt_pow_right→z7,succ_mul→sB,testBit_or→NZ,testBit_two_pow→N0,zero_add→gQ,zero_mul→EK
open Option renaming bind_some→N1,getD_some→z8,isSome_iff_exists→o8,map_eq_some_iff→pc,map_some→mh
open Option.some renaming injEq→fL
open Prod renaming fst→sD
open Prod.mk renaming injEq→sE
open UInt8 renaming ofNat→j0,toNat_inj→kY,toNat_lt→iS,toNat_ofNat'→EL
open Go.Proofs.Tryz
section
namespace Go.Hb
theorem ab {p:Prop} (h:p:=by omega):p:=h
theorem ag {p:Prop} (h:p:=by kernel_rfl):p:=h
theorem az {p:Prop} (h:p:=by decide):p:=h
theorem aa {α:Sort _} {a:α} :a=a:=rfl
end Go.Hb
end
section
namespace Go.Hb
open Go.RowKit
structure Fm where
 n:Nat
 D:List Deferred
 F:List Nat
 r:Option Nat
def dD (σ:Nat→Value) (d:Nat) (v:Value):Nat→Value:=fun i=>cond (xf i d) v<|σ i
def iF (σ:Nat→Value):Option Nat→Value→Nat→Value
 | some d,v=>dD σ d v
 | none,_=>σ
def act (N:Fm) (σ:Nat→Value):Act:=⟨((jZ N.n).map σ).toArray,N.D⟩
def ev (N:Fm) (σ:Nat→Value):Operand→Value
 | .tmp t=>cond (iR t N.n) (σ t) undef
 | .const v=>v
 | .global g=> .pointer<|some ⟨g,0,none⟩
 | .func f=> .func (.func f) #[] #[]
theorem pz (N:Fm) (σ:Nat→Value) (t:Nat):(act N σ).tmps[t]? =if t < N.n then some (σ t) else none:=by
 simp only [act,List.getElem?_toArray,ic]
 split
 · rename_i h; rw [zW h]; rfl
 · rename_i h; rw [uk (by simpa using h)]; rfl
theorem gU (N:Fm) (σ:Nat→Value):(act N σ).eval=ev N σ:=by
 funext x
 cases x with
 | tmp t=>
   simp only [Act.eval,ev,D4,pz]
   by_cases h:t < N.n
   · rw [if_pos h,show iR t N.n=true from by simpa using h]; rfl
   · rw [if_neg h,show iR t N.n=false from by cases hx:iR t N.n <;> simp_all [iR,Nat.ble_eq] <;> omega]; rfl
 | _=>rfl
theorem xq {a b:Act} (hd:a.defers=b.defers) (j:∀ i:Nat,a.tmps[i]? =b.tmps[i]?):a=b:=by
 cases a; cases b
 simp only at hd j
 subst hd
 congr 1
 exact MG j
theorem jH (N:Fm) (σ:Nat→Value) (dst:Option Nat) (v:Value):(act N σ).put dst v=act N (iF σ dst v):=by
 cases dst with
 | none=>rfl
 | some d=>
   refine xq aa fun i=> ?_
   have q:((act N σ).put (some d) v).tmps=(act N σ).tmps.setIfInBounds d v:=rfl
   rw [q,D5,pz,pz]
   have hs:(act N σ).tmps.size=N.n:=by simp [act]
   simp only [iF,dD]
   by_cases j:i=d
   · subst j
     rw [hs]
     have a:xf i i=true :=by simp
     by_cases h:i < N.n
     · rw [if_pos rfl,if_pos h,if_pos h,a]; rfl
     · rw [if_pos rfl,if_neg h,if_neg h]
   · rw [if_neg (fun e=>j e.symm)]
     have a:xf i d=false :=by
      cases hx:xf i d
      · rfl
      · exact absurd (NW hx) j
     rw [a]; rfl
theorem n9 {σ:Nat→Value} {i:Nat} {v:Value} (h:σ i=v):dD σ i v=σ:=by
 funext j
 unfold dD
 cases hx:xf j i
 · rfl
 · have :=NW hx; subst this; exact h.symm
def lift (N:Fm) (Q:Exit→(Nat→Value)→World→Prop):Exit→Act→World→Prop
 | .panic c,a,w=> ∃ σ,a=act N σ∧∀ j,(∀ i∈N.F,j i=σ i)→Q (.panic c) j w
 | .outgrown,_,_=>False
 | e,a,w=> ∃ σ,a=act N σ∧Q e σ w
def fe:Option Nat→Fence
 | none=>jg
 | some l=>jg.inRound l
theorem BG (r:Option Nat):(fe r).round=r:=by cases r <;> rfl
theorem x4 (r:Option Nat) (f:FuncId):(fe r).fn f:=by cases r <;> trivial
theorem uW (r:Option Nat):(fe r).depth=none:=by cases r <;> rfl
theorem HK {r:Option Nat} {n:Nat} {P:Program} {f:FuncId} {args:Array Value} {w:World} {R:Ending→World→Prop} (h:Calls P f args w R):CallsIn (fe r) n P f args w R:=by
 cases r
 · exact callsIn_wide.2 h
 · exact (callsIn_wide (n:=n)).2 h
theorem BH {r:Option Nat} {n:Nat} {P:Program} {row:String} {args:Array Value} {w:World} {R:Value→World→Prop} (h:Rows P row args w R):RowsIn (fe r) n P row args w R:=fun c cs _=>by
 obtain ⟨v,w',a,hs⟩:=h c cs
 refine ⟨v,w',a,?_⟩
 cases r
 · exact stepsIn_wide.2 hs
 · exact stepsIn_wide.2 hs
def Kg (ops:List Oper):Bool:=ops.all fun o=>match o.op with | .defer _=>false | _=>true
def tC (r:Option Nat) (ops:List Oper):Bool:=match r with | none=>true | some _=>Kg ops
theorem Wh {l:List Oper} (h:Kg l=true):∀ o∈l,∀ c,o.op≠.defer c:=fun o a c e=>by
 have :=me.1 h o a
 rw [e] at this
 cases this
theorem Cy {r:Option Nat} {P:Program} {ops:Array Oper} {Q:Exit→Act→World→Prop} (A:¬LetsOut Q) (C:tC r ops.toList=true):∀ (l:List Nat) (a:Act) (w:World),wpOps P ops Q l a w→wpOpsIn (fe r) 0 P ops Q l a w:=by
 intro l
 induction l with
 | nil=>exact fun _ _ h=>h
 | cons i l q=>
   intro a w h
   simp only [wpOps] at h
   simp only [wpOpsIn]
   cases ho:ops[i]? with
   | none=>simp only [ho] at h ⊢; exact q a w h
   | some o=>
     simp only [ho] at h ⊢
     by_cases hw:q5 o (yielded ops a.tmps)=true
     · rw [if_pos hw] at h ⊢
       rcases h with h | h
       · refine ⟨fun f _=>x4 r f,?_⟩
         rw [BG]
         have E:o.semAt r a.eval=execOp a.eval o:=by
          cases r with
          | none=>rfl
          | some k=>exact Oper.semAt_eq _ _ _<|Wh C o<|wh.2<|Array.mem_of_getElem? ho
         rw [E]
         unfold jW at h
         generalize (execOp a.eval o).run P w=x at h
         cases x with
         | ok n w'=>
           cases n <;> simp only [kW,q4] at h ⊢ <;>
            first
             | exact q _ _ h
             | (refine ⟨fun j=>(by rw [uW] at j; cases j),CallsIn.mono (HK h) fun e w'' he=> ?_⟩
                cases e <;> first | exact q _ _ he | exact he)
             | exact ⟨fun j=>(by rw [uW] at j; cases j),RowsIn.mono (BH h) fun v w'' he=>q _ _ he⟩
         | halt x w'=>cases x <;> simp only [kW,q4] at h ⊢ <;> exact h
       · exact absurd h.2 A
     · rw [if_neg hw] at h ⊢
       exact ⟨fun f _=>x4 r f,q _ _ h⟩
def dW (P:Program) (N:Fm) (c:Code) (Q:Exit→(Nat→Value)→World→Prop) (σ:Nat→Value) (w:World):Prop :=
 c.wpIn (fe N.r) 0 P (lift N Q) (act N σ) w
def e7 (P:Program) (N:Fm) (ops:Array Oper) (Q:Exit→(Nat→Value)→World→Prop) (l:List Oper) (σ:Nat→Value) (w:World):Prop :=
 wpList P ops (lift N Q) l (act N σ) w
def mN (K:(Nat→Value)→World→Prop) (Q:Exit→(Nat→Value)→World→Prop):Exit→(Nat→Value)→World→Prop
 | .normal,σ,w=>K σ w
 | e,σ,w=>Q e σ w
def qJ (id:Nat) (Q:Exit→(Nat→Value)→World→Prop):Exit→(Nat→Value)→World→Prop
 | .exit a,σ,w=>if a=id then Q .normal σ w else Q (.exit a) σ w
 | e,σ,w=>Q e σ w
section
variable {P:Program} {N:Fm} {Q:Exit→(Nat→Value)→World→Prop} {σ:Nat→Value} {w:World} {K:(Nat→Value)→World→Prop}
theorem VB {Q q:Exit→(Nat→Value)→World→Prop} (h:∀ e σ w,Q e σ w→q e σ w) (e:Exit) (a:Act) (w:World):lift N Q e a w→lift N q e a w:=by
 cases e <;> first | exact fun h=>h.elim | exact fun ⟨σ,i,j⟩=>⟨σ,i,h _ _ _ j⟩ | exact fun ⟨σ,i,j⟩=>⟨σ,i,fun C A=>h _ _ _<|j C A⟩
theorem ZC {a:Exit→(Nat→Value)→World→Prop} {c:Code} (h:∀ e σ w,Q e σ w→a e σ w) (i:dW P N c Q σ w):dW P N c a σ w:=
 wpIn_mono i (VB h)
theorem tn (h:K σ w):mN K Q .normal σ w:=h
theorem te (id:Nat) (h:Q (.exit id) σ w):mN K Q (.exit id) σ w:=h
theorem tr (h:Q .ret σ w):mN K Q .ret σ w:=h
theorem bn {id:Nat} (h:Q .normal σ w):qJ id Q .normal σ w:=h
theorem be {id:Nat} (h:Q .normal σ w):qJ id Q (.exit id) σ w:=by simpa only [qJ,if_true] using h
theorem m4 {id a:Nat} (i:a≠id) (h:Q (.exit a) σ w):qJ id Q (.exit a) σ w:=by simpa only [qJ,if_neg i] using h
theorem br {id:Nat} (h:Q .ret σ w):qJ id Q .ret σ w:=h
theorem sq {x y:Code} (h:∀ K:(Nat→Value)→World→Prop,(∀ σ w,dW P N y Q σ w→K σ w)→dW P N x (mN K Q) σ w):dW P N (.seq x y) Q σ w:=by
 refine wpIn_seq<|wpIn_mono (h (fun σ w=>dW P N y Q σ w) fun _ _ h=>h) ?_
 intro e a w i
 cases e with
 | normal=>obtain ⟨σ,rfl,j⟩:=i; exact j
 | panic c=>exact i
 | outgrown=>exact i
 | _=>obtain ⟨σ,rfl,j⟩:=i; exact ⟨σ,rfl,j⟩
theorem ec {x y:Code} (a:(Nat→Value)→World→Prop) (h:dW P N x (mN a Q) σ w) (hk:∀ σ w,a σ w→dW P N y Q σ w):dW P N (.seq x y) Q σ w:=
 sq fun _ j=>ZC (fun e _ _ i=>by cases e <;> first | exact j _ _ (hk _ _ i) | exact i) h
theorem ct {c:Operand} {x y:Code} (a:ev N σ c= .bool true) (h:dW P N x Q σ w):dW P N (.cond c x y) Q σ w:=
 wpIn_cond_true (by rw [gU]; exact a) h
theorem cf {c:Operand} {x y:Code} (a:ev N σ c= .bool false) (h:dW P N y Q σ w):dW P N (.cond c x y) Q σ w:=
 wpIn_cond_false (by rw [gU]; exact a) h
theorem cb {c:Operand} {x y:Code} {b:Bool} (a:ev N σ c= .bool b) (j:b=true→dW P N x Q σ w) (i:b=false→dW P N y Q σ w):dW P N (.cond c x y) Q σ w:=by
 cases b
 · exact cf a<|i aa
 · exact ct a<|j aa
theorem cd {c:Operand} {x y:Code} {p:Prop} [Decidable p] (a:ev N σ c= .bool (decide p)) (j:p→dW P N x Q σ w) (i:¬p→dW P N y Q σ w):dW P N (.cond c x y) Q σ w:=
 cb a (fun h=>j<|of_decide_eq_true h) (fun h=>i<|of_decide_eq_false h)
theorem aJ {id:Nat} {c:Code} (h:dW P N c (qJ id Q) σ w):dW P N (.block id c) Q σ w:=by
 refine wpIn_block<|wpIn_mono h ?_
 intro e a w j
 cases e with
 | panic c=>exact j
 | outgrown=>exact j
 | exit q=>
   obtain ⟨σ,rfl,i⟩:=j
   simp only [qJ,Exit.inBlock] at i ⊢
   split
   · rename_i e; rw [if_pos e] at i; exact ⟨σ,rfl,i⟩
   · rename_i e; rw [if_neg e] at i; exact ⟨σ,rfl,i⟩
 | _=>obtain ⟨σ,rfl,i⟩:=j; exact ⟨σ,rfl,i⟩
theorem ext {id:Nat} (h:Q (.exit id) σ w):dW P N (.exit id) Q σ w:=wpIn_exit ⟨σ,rfl,h⟩
theorem aM (h:Q .normal σ w):dW P N .skip Q σ w:=wpIn_skip ⟨σ,rfl,h⟩
theorem rt (h:Q .ret σ w):dW P N .ret Q σ w:=wpIn_ret ⟨σ,rfl,h⟩
theorem fx {c:Code} {v:Value} (i:Nat) (h:σ i=v) (a:dW P N c Q (dD σ i v) w):dW P N c Q σ w:=by rw [n9 h] at a; exact a
theorem lp {c:Code} (C:Nat→(Nat→Value)→World→Prop) (n:Nat) (V:C n σ w)
 (h:∀ n σ w,C n σ w→dW P N c (mN (fun ai w'=> ∃ m,m < n∧C m ai w') Q) σ w):dW P N (.loop c) Q σ w:=by
 intro b k cs ae G I
 have key:∀ n σ w,C n σ w→
  ∃ e E w',lift N Q e E w'∧ArrivesIn (Machine.fenced P<|fe N.r) P (lone (b.atR (act N σ) (.code c:: .inLoop c::k)) cs w) b k cs e E w':=by
  intro n
  induction n using Nat.strongRecOn with
  | _ n ag=>
    intro σ w Y
    obtain ⟨e,J,A,q,i⟩:=h n σ w Y b (.inLoop c::k) cs ae G I
    cases e with
    | normal=>
      obtain ⟨a,rfl,m,hm,Z⟩:=q
      obtain ⟨U,M,ah,ac,ab⟩:=ag m hm a A Z
      exact ⟨U,M,ah,ac,.of_steps (StepsIn.trans i<|.one (fenced_calm G I aa) stepR_inLoop) ab⟩
    | exit id=>obtain ⟨a,rfl,j⟩:=q; exact ⟨.exit id,act N a,A,⟨a,rfl,j⟩,.pass (x:= .inLoop c) rfl (fun _ _=> .inl<|by simp) i⟩
    | goto l=>obtain ⟨a,rfl,j⟩:=q; exact ⟨.goto l,act N a,A,⟨a,rfl,j⟩,.pass (x:= .inLoop c) rfl (fun _ _=> .inl<|by simp) i⟩
    | ret=>obtain ⟨a,rfl,j⟩:=q; exact ⟨.ret,act N a,A,⟨a,rfl,j⟩,.pass (x:= .inLoop c) rfl (fun _ _=> .inl<|by simp) i⟩
    | panic O=>exact ⟨.panic O,J,A,q,.pass (x:= .inLoop c) rfl (fun _ _=> .inl<|by simp) i⟩
    | outgrown=>exact q.elim
 obtain ⟨e,E,w',j,i⟩:=key _ σ w V
 exact ⟨e,E,w',j,.of_steps (.one (fenced_calm G I aa) stepR_loop) i⟩
def dM (P:Program) (N:Fm) (o:Oper) (σ:Nat→Value) (w:World) (K:(Nat→Value)→World→Prop):Prop :=
 jW P o (act N σ) w (fun a w=> ∃ σ,a=act N σ∧K σ w) (fun _ _ _=>False)
theorem Zc {o:Oper} {a:Act} {K j:Act→World→Prop} {Q:Exit→Act→World→Prop} (h:∀ a w,K a w→j a w)
 (r:Result Next) (i:o.upon P a K (fun _ _ _=>False) r):o.upon P a j Q r:=by
 cases r with
 | ok n w'=>
   cases n <;> simp only [kW] at i ⊢ <;>
    first
     | exact h _ _ i
     | exact lO i (fun e w'' he=>by
      cases e with
      | returned v=>exact h _ _ he
      | panicked c=>exact he.elim
      | outgrown=>obtain ⟨_,_,q⟩:=he; exact q.elim)
     | exact Rows.mono i fun _ _ he=>h _ _ he
 | halt x w'=>cases x <;> simp only [kW] at i ⊢
theorem tS {K:(Nat→Value)→World→Prop} {i:Act→World→Prop} {Q:Exit→Act→World→Prop} {o:Oper} (h:dM P N o σ w K) (hk:∀ σ w,K σ w→i (act N σ) w):o.wp P (act N σ) w i Q:=by
 unfold dM at h
 unfold jW at*
 exact Zc (fun a w ⟨σ,q,j⟩=>by subst q; exact hk _ _ j) _ h
theorem Ms {K a:(Nat→Value)→World→Prop} {o:Oper} (h:dM P N o σ w K) (hk:∀ σ w,K σ w→a σ w):dM P N o σ w a:=
 tS h (fun σ w i=>⟨σ,rfl,hk σ w i⟩)
variable {ops:Array Oper} {rest:List Oper} {d:Nat} {op:Op} {ty:TypeId} {pos :String} {af:Array Edge} {d':Option Nat} {v:Value} {o:Oper}
theorem zz (a:q5 o (yielded ops (act N σ).tmps)=true) (h:dM P N o σ w (fun σ w=>e7 P N ops Q rest σ w)):e7 P N ops Q (o::rest) σ w:=by
 unfold e7 wpList
 rw [if_pos a]
 exact .inl<|tS h fun _ _ hk=>hk
theorem oc {K:(Nat→Value)→World→Prop} {w':World} (a:(execOp (ev N σ) o).run P w= .ok (.value v) w') (hk:K (iF σ o.dst v) w'):dM P N o σ w K:=by
 unfold dM jW
 rw [gU,a]
 exact ⟨_,jH ..,hk⟩
theorem jO (o:Oper) (a:o.guard=none) (y:Nat→Option Bool):q5 o y=true :=by simp [q5,a]
def lK (ops:Array Oper) (j:Nat):Option Nat:=(ops[j]?).bind (·.dst)
theorem pY {j t:Nat} {want b:Bool} (i:o.guard=some (j,want)) (a:lK ops j=some t) (q:iR t N.n=true) (A:σ t= .bool b):
 q5 o (yielded ops (act N σ).tmps)=(b==want):=by
 have h1:yielded ops (act N σ).tmps j=some b:=by
  unfold yielded
  unfold lK at a
  rw [a]
  simp only [N1,pz]
  rw [if_pos (sy (uv t)<|uu q),A]
 simp only [q5,i,h1]
 cases b <;> cases want <;> rfl
theorem Mm {j t:Nat} {want:Bool} (i:o.guard=some (j,want)) (a:lK ops j=some t) (q:iR t N.n=true) (A:σ t=undef):
 q5 o (yielded ops (act N σ).tmps)=false :=by
 have h1:yielded ops (act N σ).tmps j=none:=by
  unfold yielded
  unfold lK at a
  rw [a]
  simp only [N1,pz]
  rw [if_pos (sy (uv t)<|uu q),A]; rfl
 simp only [q5,i,h1]
 rfl
theorem p (h:(execOp (ev N σ) ⟨some d,op,ty,pos,af,none⟩).run P w= .ok (.value v) w) (k:e7 P N ops Q rest (dD σ d v) w):
 e7 P N ops Q (⟨some d,op,ty,pos,af,none⟩::rest) σ w:=
 zz (jO _ rfl _) (oc h k)
theorem pg {j t:Nat} {want:Bool} (a:lK ops j=some t) (i:iR t N.n=true) (q:σ t= .bool want)
 (h:(execOp (ev N σ) ⟨some d,op,ty,pos,af,some (j,want)⟩).run P w= .ok (.value v) w) (k:e7 P N ops Q rest (dD σ d v) w):
 e7 P N ops Q (⟨some d,op,ty,pos,af,some (j,want)⟩::rest) σ w:=
 zz (by rw [pY rfl a i q]; cases want <;> rfl) (oc h k)
theorem sk {j t:Nat} {want b:Bool} (i:lK ops j=some t) (q:iR t N.n=true) (A:σ t= .bool b) (a:(b==want)=false)
 (k:e7 P N ops Q rest (dD σ d undef) w):e7 P N ops Q (⟨some d,op,ty,pos,af,some (j,want)⟩::rest) σ w:=by
 unfold e7 wpList
 rw [if_neg (by rw [pY rfl i q A,a]; simp),jH]
 exact k
theorem dV {j t:Nat} {want:Bool} (a:lK ops j=some t) (i:iR t N.n=true) (q:σ t=undef)
 (k:e7 P N ops Q rest (dD σ d undef) w):e7 P N ops Q (⟨some d,op,ty,pos,af,some (j,want)⟩::rest) σ w:=by
 unfold e7 wpList
 rw [if_neg (by rw [Mm rfl a i q]; simp),jH]
 exact k
theorem e (h:dM P N ⟨d',op,ty,pos,af,none⟩ σ w (fun σ w=>e7 P N ops Q rest σ w)):e7 P N ops Q (⟨d',op,ty,pos,af,none⟩::rest) σ w:=
 zz (jO _ rfl _) h
theorem eg {j t:Nat} {want:Bool} (a:lK ops j=some t) (i:iR t N.n=true) (q:σ t= .bool want)
 (h:dM P N ⟨d',op,ty,pos,af,some (j,want)⟩ σ w (fun σ w=>e7 P N ops Q rest σ w)):e7 P N ops Q (⟨d',op,ty,pos,af,some (j,want)⟩::rest) σ w:=
 zz (by rw [pY rfl a i q]; cases want <;> rfl) h
theorem nl (h:Q .normal σ w):e7 P N ops Q [] σ w:=⟨σ,rfl,h⟩
theorem CI:¬LetsOut (lift N Q):=fun ⟨_,_,h⟩=>h
theorem rg {id:Nat} {l:List Oper} (a:tC N.r l=true) (h:e7 P N l.toArray Q l σ w):dW P N (.region id l.toArray false) Q σ w:=by
 refine wpIn_region<|Cy CI a _ _ _ ?_
 have h1:=wpOps_eq_wpList (P:=P) (ops:=l.toArray) (Q:=lift N Q) l 0 fun j=>by simp
 rw [List.range_eq_range',oo,h1]
 exact h
theorem gs {l:List Oper} {t:Nat} {q:Prop} [Decidable q] (h:σ t= .bool (decide q)) (j:q→e7 P N ops Q l (dD σ t<|.bool true) w) (i:¬q→e7 P N ops Q l (dD σ t<|.bool false) w):e7 P N ops Q l σ w:=by
 by_cases a:q
 · have :=j a; rwa [n9 (by rw [h,decide_eq_true a])] at this
 · have :=i a; rwa [n9 (by rw [h,decide_eq_false a])] at this
theorem gb {l:List Oper} {t:Nat} {b:Bool} (h:σ t= .bool b) (i:b=true→e7 P N ops Q l (dD σ t<|.bool true) w) (a:b=false→e7 P N ops Q l (dD σ t<|.bool false) w):e7 P N ops Q l σ w:=by
 cases b
 · have :=a rfl; rwa [n9 h] at this
 · have :=i rfl; rwa [n9 h] at this
def gj (P:Program) (N:Fm) (ops:Array Oper) (Q:Exit→(Nat→Value)→World→Prop) (S:World→Prop) (fuel:Nat) (a8:Array Bool) (σ:Nat→Value) (w:World):Prop :=
 wpAnyH P .any ops (lift N Q) S fuel a8 (act N σ) w
variable {S:World→Prop} {fuel:Nat} {a8:Array Bool}
theorem Fq {id:Nat} {l:List Oper} (a:tC N.r l=true) (hm:P.follows .mixedOrders=true) (h:wpAny P .any l.toArray (lift N Q) l.toArray.size (tY l.toArray.size false) (act N σ) w.drew):dW P N (.region id l.toArray true) Q σ w:=by
 refine wpIn_region_draw fun t=>Cy CI a _ _ _ ?_
 simp only [Region.schedule,hm,Bool.true_or,if_true]
 exact wpAny_sound _ t _ _ _ h
theorem bJ {id:Nat} {l:List Oper} (S:World→Prop) (a:tC N.r l=true) (hm:P.follows .mixedOrders=true) (i:S w.drew) (h:gj P N l.toArray Q S l.length (tY l.length false) σ w.drew):dW P N (.region id l.toArray true) Q σ w:=
 Fq a hm (wpAny_of_held _ _ _ _<|by rw [oo]; exact h)
def C2 (F:List Nat) (d:Option Nat):Bool:=match d with | some d=> !(F.contains d) | none=>true
def ju (F:List Nat) (ops:Array Oper) (a8:Array Bool) (i:Nat):Bool:=
 Region.noSelect ops && Region.free .any ops a8 i && (jo .any ops a8).contains i && C2 F ((ops[i]?).bind (·.dst))
theorem oJ {d:Option Nat} {v:Value} (hd:C2 N.F d=true) (c:List PanicEntry) (a:Act) (w:World):lift N Q (.panic c) (a.put d v) w→lift N Q (.panic c) a w:=by
 rintro ⟨σ,j,h⟩
 cases d with
 | none=>exact ⟨σ,j,h⟩
 | some d=>
   have I:a.tmps.size=N.n:=by
    have :=congrArg (fun x:Act=>x.tmps.size) j
    simpa [Act.put,act] using this
   have A:a.defers=N.D:=congrArg (fun x:Act=>x.defers) j
   have C:∀ i:Nat,i≠d→a.tmps[i]? =if i < N.n then some (σ i) else none:=fun i hi=>by
    have h1:(a.put (some d) v).tmps[i]? =a.tmps[i]? :=by
     show (a.tmps.setIfInBounds d v)[i]? =_
     rw [D5,if_neg (fun e=>hi e.symm)]
    rw [← h1,j,pz]
   refine ⟨fun i=>if i < N.n then a.tmps.getD i undef else σ i,xq A fun i=> ?_,fun G q=>h G fun i hi=> ?_⟩
   · rw [pz]
     by_cases h1:i < N.n
     · rw [if_pos h1,if_pos h1,D4,zE ab]; rfl
     · rw [if_neg h1,tW ab]
   · have E:i≠d:=by
      rintro rfl
      simp only [C2,zI,List.contains_eq_mem,decide_eq_false_iff_not] at hd
      exact hd hi
     rw [q i hi]
     by_cases h1:i < N.n
     · simp only [if_pos h1]
       rw [D4,C i E,if_pos h1]; rfl
     · simp only [if_neg h1]
theorem hp (i:Nat) (hi:ops[i]? =some ⟨some d,op,ty,pos,af,none⟩) (j:ju N.F ops a8 i=true)
 (A:∀ w,S w→(execOp (ev N σ) ⟨some d,op,ty,pos,af,none⟩).run P w= .ok (.value v) w) (q:S w)
 (k:gj P N ops Q S fuel (a8.setIfInBounds i true) (dD σ d v) w):gj P N ops Q S (fuel+1) a8 σ w:=by
 simp only [ju,gO] at j
 refine wpAnyH_take hi j.1.1.1 j.1.1.2 j.1.2 (fun c a w=>oJ (by have :=j.2; rwa [hi] at this) c a w) (.inl ⟨jO _ rfl _,fun w q=> ?_⟩) q ?_ (v:=v)
 · rw [gU]; exact A w q
 · rw [jH]; exact k
theorem bf (i:Nat) {j t:Nat} {want:Bool} (hi:ops[i]? =some ⟨some d,op,ty,pos,af,some (j,want)⟩) (q:ju N.F ops a8 i=true)
 (C:lK ops j=some t) (E:iR t N.n=true) (G:σ t= .bool want)
 (I:∀ w,S w→(execOp (ev N σ) ⟨some d,op,ty,pos,af,some (j,want)⟩).run P w= .ok (.value v) w) (A:S w)
 (k:gj P N ops Q S fuel (a8.setIfInBounds i true) (dD σ d v) w):gj P N ops Q S (fuel+1) a8 σ w:=by
 simp only [ju,gO] at q
 refine wpAnyH_take hi q.1.1.1 q.1.1.2 q.1.2 (fun c a w=>oJ (by have :=q.2; rwa [hi] at this) c a w) (.inl ⟨by rw [pY aa C E G]; cases want <;> rfl,fun w A=> ?_⟩) A ?_ (v:=v)
 · rw [gU]; exact I w A
 · rw [jH]; exact k
theorem aW (i:Nat) {j t:Nat} {want b:Bool} (hi:ops[i]? =some ⟨some d,op,ty,pos,af,some (j,want)⟩) (q:ju N.F ops a8 i=true)
 (E:lK ops j=some t) (G:iR t N.n=true) (I:σ t= .bool b) (C:(b==want)=false) (A:S w)
 (k:gj P N ops Q S fuel (a8.setIfInBounds i true) (dD σ d undef) w):gj P N ops Q S (fuel+1) a8 σ w:=by
 simp only [ju,gO] at q
 refine wpAnyH_take hi q.1.1.1 q.1.1.2 q.1.2 (fun c a w=>oJ (by have :=q.2; rwa [hi] at this) c a w) (.inr ⟨by rw [pY aa E G I,C],aa⟩) A ?_ (v:=undef)
 rw [jH]; exact k
theorem l0 (i:Nat) {j t:Nat} {want:Bool} (hi:ops[i]? =some ⟨some d,op,ty,pos,af,some (j,want)⟩) (q:ju N.F ops a8 i=true)
 (C:lK ops j=some t) (E:iR t N.n=true) (G:σ t=undef) (A:S w)
 (k:gj P N ops Q S fuel (a8.setIfInBounds i true) (dD σ d undef) w):gj P N ops Q S (fuel+1) a8 σ w:=by
 simp only [ju,gO] at q
 refine wpAnyH_take hi q.1.1.1 q.1.1.2 q.1.2 (fun c a w=>oJ (by have :=q.2; rwa [hi] at this) c a w) (.inr ⟨Mm aa C E G,aa⟩) A ?_ (v:=undef)
 rw [jH]; exact k
def lh (ops:Array Oper) (a8:Array Bool) (i:Nat):Bool:=(jo .any ops a8)== [i]
theorem he (i:Nat) (hi:ops[i]? =some ⟨d',op,ty,pos,af,none⟩) (a:lh ops a8 i=true)
 (h:dM P N ⟨d',op,ty,pos,af,none⟩ σ w (fun σ w=>S w∧gj P N ops Q S fuel (a8.setIfInBounds i true) σ w)):gj P N ops Q S (fuel+1) a8 σ w:=by
 refine wpAnyH_all (rs:= [i]) (by simpa [lh] using a) (by simp) ?_
 intro k hk
 obtain rfl :k=i:=by simpa using hk
 unfold wpOp
 simp only [hi]
 rw [if_pos (jO _ rfl _)]
 exact .inl<|tS h fun _ _ hk=>hk
theorem mA (i:Nat) {j t:Nat} {want:Bool} (hi:ops[i]? =some ⟨d',op,ty,pos,af,some (j,want)⟩) (q:lh ops a8 i=true)
 (a:lK ops j=some t) (A:iR t N.n=true) (C:σ t= .bool want)
 (h:dM P N ⟨d',op,ty,pos,af,some (j,want)⟩ σ w (fun σ w=>S w∧gj P N ops Q S fuel (a8.setIfInBounds i true) σ w)):gj P N ops Q S (fuel+1) a8 σ w:=by
 refine wpAnyH_all (rs:= [i]) (by simpa [lh] using q) (by simp) ?_
 intro k hk
 obtain rfl :k=i:=by simpa using hk
 unfold wpOp
 simp only [hi]
 rw [if_pos (by rw [pY rfl a A C]; cases want <;> rfl)]
 exact .inl<|tS h fun _ _ hk=>hk
theorem hn (a:(jo .any ops a8).isEmpty=true) (h:Q .normal σ w):gj P N ops Q S fuel a8 σ w:=
 wpAnyH_done (by simpa using a) ⟨σ,rfl,h⟩ fuel
theorem iO {t:Nat} {q:Prop} [Decidable q] (h:σ t= .bool (decide q)) (j:q→gj P N ops Q S fuel a8 (dD σ t<|.bool true) w) (i:¬q→gj P N ops Q S fuel a8 (dD σ t<|.bool false) w):gj P N ops Q S fuel a8 σ w:=by
 by_cases a:q
 · have :=j a; rwa [n9 (by rw [h,decide_eq_true a])] at this
 · have :=i a; rwa [n9 (by rw [h,decide_eq_false a])] at this
theorem yE {t:Nat} {b:Bool} (h:σ t= .bool b) (i:b=true→gj P N ops Q S fuel a8 (dD σ t<|.bool true) w) (a:b=false→gj P N ops Q S fuel a8 (dD σ t<|.bool false) w):gj P N ops Q S fuel a8 σ w:=by
 cases b
 · have :=a rfl; rwa [n9 h] at this
 · have :=i rfl; rwa [n9 h] at this
end
def bh (P:Program) (f:FuncId) (args:Array Value) (w:World) (R:Value→World→Prop):Prop :=
 Calls P f args w fun e w'=> ∃ v,e= .returned v∧R v w'
theorem bh.mono {P:Program} {f:FuncId} {args:Array Value} {w:World} {R R':Value→World→Prop} (h:bh P f args w R) (i:∀ v w',R v w'→R' v w'):bh P f args w R':=
 lO h fun _ _ ⟨v,he,a⟩=>⟨v,he,i _ _ a⟩
def mL (args:List Value):Nat→Value:=fun i=>args.getD i undef
def fin (P:Program) (fn:Func) (N:Fm) (R:Value→World→Prop):Exit→(Nat→Value)→World→Prop
 | .normal,σ,w=> ∃ v,(results fn (act N σ).tmps).run P w= .ok v w∧R v w
 | .ret,σ,w=> ∃ v,(results fn (act N σ).tmps).run P w= .ok v w∧R v w
 | _,_,_=>False
theorem enter {P:Program} {f:FuncId} {N:Nat} {fn:Func} {c:Code} {args:List Value} {w:World} {R:Value→World→Prop} (J:P.funcs[f]? =some fn) (I:fn.body=some c)
 (E:fn.ntmps=N) (hn:o5 args.length N=true) (h:dW P ⟨N,[],[],none⟩ c (fin P fn ⟨N,[],[],none⟩ R) (mL args) w):bh P f args.toArray w R:=by
 subst E
 refine calls_of_wp J I ?_
 have G:({tmps:=args.toArray++tY (fn.ntmps - args.toArray.size) undef,defers:= []} :Act)=act ⟨fn.ntmps,[],[],none⟩ (mL args):=by
  have M:args.length≤fn.ntmps:=by simpa using hn
  refine xq aa fun i=> ?_
  rw [pz]
  simp only [mL,cQ,oo]
  by_cases h1:i < args.length
  · rw [Array.getElem?_append_left (by simpa using h1),if_pos ab]
    simp [h1]
  · rw [Array.getElem?_append_right (by simpa using h1)]
    simp only [oo,Array.getElem?_replicate]
    by_cases h2:i < fn.ntmps
    · rw [if_pos ab,if_pos h2,uk ab]; rfl
    · rw [if_neg ab,if_neg h2]
 rw [G]
 refine Code.wp_mono ?_<|wpIn_wide.1 h
 intro e a w j
 cases e with
 | normal=>obtain ⟨σ,rfl,v,C,A⟩:=j; exact ⟨rfl,v,C,v,rfl,A⟩
 | ret=>obtain ⟨σ,rfl,v,C,A⟩:=j; exact ⟨rfl,v,C,v,rfl,A⟩
 | exit id=>obtain ⟨σ,rfl,q⟩:=j; exact q.elim
 | goto l=>obtain ⟨σ,rfl,q⟩:=j; exact q.elim
 | panic c=>obtain ⟨σ,rfl,q⟩:=j; exact (q σ fun _ _=>rfl).elim
 | outgrown=>exact j.elim
section
variable {P:Program} {N:Fm} {σ:Nat→Value} {w:World} {fn:Func} {R:Value→World→Prop}
theorem mO (t:Nat):(act N σ).tmps.getD t undef=ev N σ (.tmp t):=by
 rw [← gU]; rfl
theorem f0 (h:fn.results= #[]) (a:R (.tuple #[]) w):fin P fn N R .normal σ w:=⟨_,results_none h _ _ _,a⟩
theorem rH (h:fn.results= #[]) (a:R (.tuple #[]) w):fin P fn N R .ret σ w:=⟨_,results_none h _ _ _,a⟩
theorem f1 {t:Nat} {v:Value} (h:fn.results= #[.tmp t]) (i:ev N σ (.tmp t)=v) (a:R v w):fin P fn N R .ret σ w:=
 ⟨v,by rw [results_tmp h,mO,i],a⟩
theorem f2 {t u:Nat} {v a:Value} (h:fn.results= #[.tmp t,.tmp u]) (j:ev N σ (.tmp t)=v) (hu:ev N σ (.tmp u)=a) (i:R (.tuple #[v,a]) w):fin P fn N R .ret σ w:=
 ⟨_,by rw [results_tmp2 h,mO,mO,j,hu],i⟩
theorem f3 {t u s:Nat} {v a i:Value} (h:fn.results= #[.tmp t,.tmp u,.tmp s]) (q:ev N σ (.tmp t)=v) (hu:ev N σ (.tmp u)=a) (hs:ev N σ (.tmp s)=i) (j:R (.tuple #[v,a,i]) w):fin P fn N R .ret σ w:=by
 refine ⟨_,?_,j⟩
 simp only [results,h]
 subst q hu hs
 simp only [← mO]
 simp [wY]
theorem f4 {t u s r:Nat} {v a i v3:Value} (h:fn.results= #[.tmp t,.tmp u,.tmp s,.tmp r]) (A:ev N σ (.tmp t)=v) (hu:ev N σ (.tmp u)=a) (hs:ev N σ (.tmp s)=i) (q:ev N σ (.tmp r)=v3) (j:R (.tuple #[v,a,i,v3]) w):fin P fn N R .ret σ w:=by
 refine ⟨_,?_,j⟩
 simp only [results,h]
 subst A hu hs q
 simp only [← mO]
 simp [wY]
end
attribute [irreducible] e7 dW gj dM
end Go.Hb
namespace Go.Hb
open Go.RowKit
def aO (h:Array Obj) (b off :Nat):Option Value:=
 match h[b]? with
 | some (.cells c _ _)=>c[off]?
 | _=>none
theorem nI (w:World) (b off :Nat):w.cell? ⟨b,off,none⟩=aO w.heap b off :=by
 unfold World.cell? aO
 simp only
 split <;> simp_all
theorem a6 {h:Array Obj} {b off :Nat} {c:Array Value} {t:TypeId} {f:Nat×Nat} (a:h[b]? =some (.cells c t f)):aO h b off =c[off]? :=by
 simp only [aO,a]
theorem QP {h:Array Obj} {b off :Nat} {v:Value} (a:aO h b off =some v):b < h.size:=by
 unfold aO at a
 rcases e8 b h.size with j | i
 · exact j
 · simp [tW i] at a
structure Md (F:Nat→Prop) (w w':World):Prop where
 os:w'.os=w.os
 output:w'.output=w.output
 size:w.heap.size≤w'.heap.size
 cy:∀ k,k < w.heap.size→¬F k→w'.heap[k]? =w.heap[k]?
abbrev Wk (w w':World):Prop :=Md (fun _=>False) w w'
theorem Md.refl (F:Nat→Prop) (w:World):Md F w w:=⟨rfl,rfl,cj _,fun _ _ _=>rfl⟩
theorem Md.drew {F:Nat→Prop} {w w':World} (h:Md F w w'):Md F w w'.drew:=⟨h.os,h.output,h.size,h.cy⟩
theorem Md.mono {F G:Nat→Prop} {w w':World} (h:Md F w w') (i:∀ k,k < w.heap.size→F k→G k):Md G w w':=
 ⟨h.os,h.output,h.size,fun k hk j=>h.cy k hk fun a=>j<|i k hk a⟩
theorem Md.trans {F:Nat→Prop} {a b c:World} (h:Md F a b) (i:Md F b c):Md F a c:=
 ⟨i.os.trans h.os,i.output.trans h.output,fW h.size i.size,fun k hk j=>(i.cy k (sy hk h.size) j).trans<|h.cy k hk j⟩
theorem Md.trans' {F G:Nat→Prop} {a b c:World} (h:Md F a b) (i:Md G b c) (q:∀ k,k < a.heap.size→G k→F k):Md F a c:=
 ⟨i.os.trans h.os,i.output.trans h.output,fW h.size i.size,
  fun k hk j=>(i.cy k (sy hk h.size) fun x=>j<|q k hk x).trans (h.cy k hk j)⟩
theorem Md.aJ {F:Nat→Prop} {w w':World} (h:Md F w w') {k:Nat} {o:Obj} (hk:w.heap[k]? =some o) (a:¬F k):w'.heap[k]? =some o:=
 (h.cy k (dm.1 hk).1 a).trans hk
theorem Md.aO {F:Nat→Prop} {w w':World} (h:Md F w w') {b off :Nat} {v:Value} (a:Hb.aO w.heap b off =some v) (i:¬F b):Hb.aO w'.heap b off =some v:=by
 have :=h.cy b (QP a) i
 unfold Hb.aO at*
 rw [this]; exact a
theorem Wk.aO {w w':World} (h:Wk w w') {b off :Nat} {v:Value} (a:Hb.aO w.heap b off =some v):Hb.aO w'.heap b off =some v:=Md.aO h a id
theorem Wk.aJ {w w':World} (h:Wk w w') {k:Nat} {o:Obj} (hk:w.heap[k]? =some o):w'.heap[k]? =some o:=Md.aJ h hk id
structure Nw (w w':World):Prop where
 md:Wk w w'
 size:w'.heap.size=w.heap.size+1
theorem CW (w:World) (o:Obj):Nw w {w with heap:=w.heap.push o} :=
 ⟨⟨rfl,rfl,by simp,fun k hk _=>by show (w.heap.push o)[k]? =_; rw [Array.getElem?_push,if_neg ab]⟩,by simp⟩
def dy (P:Program) (t:TypeId):Option (Option Nat):=
 match P.underlying t with
 | some (.struct _) | some (.array _ _)=>((P.info? t).map (·.size)).map some
 | some _=>some none
 | none=>none
def bU (P:Program) (s f:Nat):Option Nat:=
 match P.underlying s with
 | some (.struct fs)=>match fs[f]? with
   | some fd=>match P.info? fd.type with
     | some i=>if i.size=0 then none else some fd.offset
     | none=>none
   | none=>none
 | _=>none
def gr (P:Program) (t:TypeId):Option Nat:=
 match P.underlying t with
 | some (.slice e)=>(P.info? e).map (·.size)
 | _=>none
section
variable {P:Program} {N:Fm} {σ:Nat→Value} {w:World} {dst:Option Nat} {ty:TypeId} {pos :String} {af:Array Edge} {g:Option (Nat×Bool)} {x y z:Operand}
theorem eu {t:TypeId} {d:TypeDesc} (h:P.underlying t=some d) (w:World):(underlying t).run P w= .ok d w:=by
 simp [underlying,h]
theorem jc {t:TypeId} {i:TypeInfo} (h:P.info? t=some i) (w:World):(typeInfo t).run P w= .ok i w:=by
 simp [typeInfo,h]
theorem mv:(execOp (ev N σ) ⟨dst,.move x,ty,pos,af,g⟩).run P w= .ok (.value<|ev N σ x) w:=rfl
theorem aB:(execOp (ev N σ) ⟨dst,.assign x,ty,pos,af,g⟩).run P w= .ok (.value<|ev N σ x) w:=rfl
theorem aT (v:Value) (h:ev N σ x=v):(execOp (ev N σ) ⟨dst,.move x,ty,pos,af,g⟩).run P w= .ok (.value v) w:=by rw [← h]; rfl
theorem cH (v:Value) (h:ev N σ x=v):(execOp (ev N σ) ⟨dst,.assign x,ty,pos,af,g⟩).run P w= .ok (.value v) w:=by rw [← h]; rfl
theorem bw {c:Operand} (a:ev N σ c= .bool true):(execOp (ev N σ) ⟨dst,.pick c x y,ty,pos,af,g⟩).run P w= .ok (.value<|ev N σ x) w:=by
 simp [execOp,a,asBool]
theorem bm {c:Operand} (a:ev N σ c= .bool false):(execOp (ev N σ) ⟨dst,.pick c x y,ty,pos,af,g⟩).run P w= .ok (.value<|ev N σ y) w:=by
 simp [execOp,a,asBool]
theorem nc {a:Addr} (i:ev N σ x= .pointer (some a)):(execOp (ev N σ) ⟨dst,.nilCheck x,ty,pos,af,g⟩).run P w= .ok (.value<|.pointer<|some a) w:=by
 simp [execOp,i]
theorem xt {i:Nat} {vs:Array Value} {v:Value} (j:ev N σ x= .tuple vs) (a:vs[i]? =some v):(execOp (ev N σ) ⟨dst,.extract x i,ty,pos,af,g⟩).run P w= .ok (.value v) w:=by
 simp [execOp,j,Instr.extract,a]
theorem fa {s f n b off :Nat} (a:bU P s f=some n) (A:ev N σ x= .pointer (some ⟨b,off,none⟩)):
 (execOp (ev N σ) ⟨dst,.fieldAddr s x f,ty,pos,af,g⟩).run P w= .ok (.value<|.pointer<|some ⟨b,off+n,none⟩) w:=by
 unfold bU at a
 split at a
 · rename_i fs hu
   split at a
   · rename_i fd q
     split at a
     · rename_i i hi
       split at a
       · cases a
       · rename_i C
         cases a
         have j:(⟨b,off,none⟩:Addr).add fd.offset=⟨b,off+fd.offset,none⟩:=by unfold zJ; split <;> simp_all
         simp [execOp,Instr.fieldAt,eu hu,q,A,qZ,fieldPlace,sizeOf,jc hi,C,j]
     · cases a
   · cases a
 · cases a
theorem ld {t b off :Nat} {v:Value} (hu:dy P t=some none) (j:ev N σ x= .pointer (some ⟨b,off,none⟩)) (a:aO w.heap b off =some v):
 (execOp (ev N σ) ⟨dst,.load t x,ty,pos,af,g⟩).run P w= .ok (.value v) w:=by
 have i:w.cell? ⟨b,off,none⟩=some v:=by rw [nI]; exact a
 unfold dy at hu
 cases hd:P.underlying t with
 | none=>rw [hd] at hu; cases hu
 | some d=>
   rw [hd] at hu
   cases d <;> first
    | (simp only [pc] at hu; obtain ⟨_,_,h⟩:=hu; cases h; done)
    | simp [execOp,M4,j,qZ,loadVar,isAgg,eu hd,run_load,i]
theorem mr (b off j:Nat):(⟨b,off,none⟩:Addr).add j=⟨b,off+j,none⟩:=by
 unfold zJ; split <;> simp_all
theorem cT {t n b off :Nat} {cs:List Value} (hu:dy P t=some (some n)) (E:ev N σ x= .pointer (some ⟨b,off,none⟩)) (C:cs.length=n)
 (q:∀ j,j < n→aO w.heap b (off+j)=cs[j]?):
 (execOp (ev N σ) ⟨dst,.load t x,ty,pos,af,g⟩).run P w= .ok (.value<|.agg cs.toArray) w:=by
 have A:(loadCells ⟨b,off,none⟩ n).run P w= .ok cs.toArray w:=by
  subst C
  refine run_loadCells_list (P:=P) w ⟨b,off,none⟩ cs fun j v a=> ?_
  rw [mr,nI]
  exact (q j (List.getElem?_eq_some_iff.1 a).1).trans a
 unfold dy at hu
 cases hd:P.underlying t with
 | none=>rw [hd] at hu; cases hu
 | some d=>
   rw [hd] at hu
   cases hi:P.info? t with
   | none=>simp [Program.underlying,hi] at hd
   | some i=>
     rw [hi] at hu
     cases d <;> first
      | (cases hu; done)
      | (simp only [mh,fL] at hu; subst hu
         simp [execOp,M4,E,qZ,loadVar,isAgg,eu hd,sizeOf,jc hi,A])
theorem ia {t n b off len cap:Nat} {k:IntKind} {i:Int} (he:gr P t=some n) (q:ev N σ x= .slice (some ⟨b,off,none⟩) len cap) (A:ev N σ y= .int k i) (a:0≤i∧i < len):
 (execOp (ev N σ) ⟨dst,.indexAddr t x y,ty,pos,af,g⟩).run P w= .ok (.value<|.pointer<|some ⟨b,off+i.toNat*n,none⟩) w:=by
 unfold gr at he
 cases hd:P.underlying t with
 | none=>rw [hd] at he; cases he
 | some d=>
   rw [hd] at he
   cases d <;> first | (cases he; done) | skip
   rename_i e
   cases hi:P.info? e with
   | none=>simp [hi] at he
   | some j=>
     simp only [hi,mh,fL] at he
     subst he
     simp [execOp,Instr.indexAt,q,A,asIntOf,eu hd,a.1,a.2,sizeOf,jc hi,mr]
def gh (a:Option Addr) (cap l n:Nat):Option Addr:=if cap=l then a else a.map (·.add (l*n))
theorem Dz {t n len cap:Nat} {a:Option Addr} {lo hi:Option Value} {l h:Nat} (he:gr P t=some n) (C:ev N σ x= .slice a len cap)
 (A:(oX true len cap lo hi none).run P w= .ok (l,h,cap) w) (i q:Option Operand) (E:i.map (ev N σ)=lo) (G:q.map (ev N σ)=hi):
 (execOp (ev N σ) ⟨dst,.slice t x i q none,ty,pos,af,g⟩).run P w= .ok (.value<|.slice (gh a cap l n) (h - l)<|cap - l) w:=by
 unfold gr at he
 cases hd:P.underlying t with
 | none=>rw [hd] at he; cases he
 | some d=>
   rw [hd] at he
   cases d <;> first | (cases he; done) | skip
   rename_i e
   cases hi':P.info? e with
   | none=>simp [hi'] at he
   | some j=>
     simp only [hi',mh,fL] at he
     subst he
     simp [execOp,si,wo,C,E,G,eu hd,A,sizeOf,jc hi',gh]
theorem vP {t n len cap:Nat} {a:Option Addr} {k:IntKind} {i:Int} (he:gr P t=some n) (q:ev N σ x= .slice a len cap) (A:ev N σ z= .int k i) (j:0≤i∧i≤cap):
 (execOp (ev N σ) ⟨dst,.slice t x none (some z) none,ty,pos,af,g⟩).run P w= .ok (.value<|.slice a i.toNat cap) w:=by
 have :=Dz (dst:=dst) (ty:=ty) (pos :=pos) (af:=af) (g:=g) (w:=w) (lo:=none) (hi:=some<|.int k i) (l:=0) (h:=i.toNat) he q
  (by simp [oX,sj,asIntOf,j.1,j.2]) none (some z) rfl (by simp [A])
 rw [this]
 have hs:gh a cap 0 n=a:=by
  unfold gh; split
  · rfl
  · cases a <;> simp [zJ]
 rw [hs]; rfl
theorem vQ {t n len cap:Nat} {a:Option Addr} {k:IntKind} {i:Int} (he:gr P t=some n) (q:ev N σ x= .slice a len cap) (A:ev N σ y= .int k i) (j:0≤i∧i≤len):
 (execOp (ev N σ) ⟨dst,.slice t x (some y) none none,ty,pos,af,g⟩).run P w= .ok (.value<|.slice (gh a cap i.toNat n) (len - i.toNat)<|cap - i.toNat) w:=
 Dz (lo:=some<|.int k i) (hi:=none) he q
  (by simp [oX,sj,asIntOf,j.1,j.2]) (some y) none (by simp [A]) rfl
theorem Yd {t n len cap:Nat} {a:Option Addr} {k k':IntKind} {i j:Int} (he:gr P t=some n) (A:ev N σ x= .slice a len cap) (C:ev N σ y= .int k i) (E:ev N σ z= .int k' j) (q:0≤i∧i≤j∧j≤cap):
 (execOp (ev N σ) ⟨dst,.slice t x (some y) (some z) none,ty,pos,af,g⟩).run P w= .ok (.value<|.slice (gh a cap i.toNat n) (j.toNat - i.toNat)<|cap - i.toNat) w:=by
 have h1:0≤j:=ab
 have h2:i≤(j.toNat:Int):=ab
 refine Dz (lo:=some<|.int k i) (hi:=some<|.int k' j) he A ?_ (some y) (some z) (by simp [C])<|by simp [E]
 simp only [oX,sj,asIntOf,wz,zO,wy,Et,q.1,h1,q.2.2,h2,and_self,if_true]
theorem bT {n:Int} (h: -9223372036854775808≤n∧n≤9223372036854775807):zM.wrap n=n:=IntWalk.i64_in n h
theorem tU {n:Int} (h:0≤n∧n≤255):p7.wrap n=n:=IntWalk.u8_in n h
theorem oU {n:Int} (h:0≤n∧n≤18446744073709551615):eF.wrap n=n:=IntWalk.u64_in n h
theorem iv {k:IntKind} {a b:Int} (h:a=b):jh k a=jh k b:=by rw [h]
theorem ad {t A:TypeId} {k:IntKind} {a b:Int} (j:ev N σ x= .int k a) (q:ev N σ y= .int k b) (i:k.wrap (a+b)=a+b):
 (execOp (ev N σ) ⟨dst,.binOp .add t x y A,ty,pos,af,g⟩).run P w= .ok (.value<|.int k<|a+b) w:=by
 simp [execOp,j,q,eqGuard,binOp,wu,i]
theorem bE {t A:TypeId} {k:IntKind} {a b:Int} (v:Int) (j:ev N σ x= .int k a) (q:ev N σ y= .int k b) (i:k.wrap (a+b)=v):
 (execOp (ev N σ) ⟨dst,.binOp .add t x y A,ty,pos,af,g⟩).run P w= .ok (.value<|.int k v) w:=by
 subst i; simp [execOp,j,q,eqGuard,binOp,wu]
theorem dJ {t A:TypeId} {k:IntKind} {a b:Int} (v:Int) (j:ev N σ x= .int k a) (q:ev N σ y= .int k b) (i:k.wrap (a - b)=v):
 (execOp (ev N σ) ⟨dst,.binOp .sub t x y A,ty,pos,af,g⟩).run P w= .ok (.value<|.int k v) w:=by
 subst i; simp [execOp,j,q,eqGuard,binOp,wu]
theorem oL {t A:TypeId} {k:IntKind} {a b:Int} (v:Int) (j:ev N σ x= .int k a) (q:ev N σ y= .int k b) (i:k.wrap (a*b)=v):
 (execOp (ev N σ) ⟨dst,.binOp .mul t x y A,ty,pos,af,g⟩).run P w= .ok (.value<|.int k v) w:=by
 subst i; simp [execOp,j,q,eqGuard,binOp,wu]
theorem bj {a:Int} {n:Nat} (h:a=n) (hn:n≤9223372036854775807):zM.wrap a=(n:Int):=by rw [h]; exact bT ab
theorem bv {p q:Prop} [Decidable p] [Decidable q] (h:p↔q):bQ (decide p)=bQ (decide q):=by rw [decide_eq_decide.2 h]
theorem sb {t A:TypeId} {k:IntKind} {a b:Int} (j:ev N σ x= .int k a) (q:ev N σ y= .int k b) (i:k.wrap (a - b)=a - b):
 (execOp (ev N σ) ⟨dst,.binOp .sub t x y A,ty,pos,af,g⟩).run P w= .ok (.value<|.int k<|a - b) w:=by
 simp [execOp,j,q,eqGuard,binOp,wu,i]
theorem qQ {t C:TypeId} {k:IntKind} {a b:Int} (v:Int) (q:ev N σ x= .int k a) (A:ev N σ y= .int k b) (i:0≤a∧0 < b) (j:k.wrap (a / b)=v):
 (execOp (ev N σ) ⟨dst,.binOp .quo t x y C,ty,pos,af,g⟩).run P w= .ok (.value<|.int k v) w:=by
 have :a.tdiv b=a / b:=Int.tdiv_eq_ediv_of_nonneg i.1
 subst j; simp [execOp,q,A,eqGuard,binOp,Op.intDiv,show b≠0 from by omega,this]
theorem lt {t q:TypeId} {k:IntKind} {a b:Int} (i:ev N σ x= .int k a) (j:ev N σ y= .int k b):
 (execOp (ev N σ) ⟨dst,.binOp .lss t x y q,ty,pos,af,g⟩).run P w= .ok (.value<|.bool<|decide (a < b)) w:=by
 simp [execOp,i,j,eqGuard,binOp,uc]
theorem le {t q:TypeId} {k:IntKind} {a b:Int} (i:ev N σ x= .int k a) (j:ev N σ y= .int k b):
 (execOp (ev N σ) ⟨dst,.binOp .leq t x y q,ty,pos,af,g⟩).run P w= .ok (.value<|.bool<|decide (a≤b)) w:=by
 simp [execOp,i,j,eqGuard,binOp,uc]
theorem gt {t q:TypeId} {k:IntKind} {a b:Int} (i:ev N σ x= .int k a) (j:ev N σ y= .int k b):
 (execOp (ev N σ) ⟨dst,.binOp .gtr t x y q,ty,pos,af,g⟩).run P w= .ok (.value<|.bool<|decide (b < a)) w:=by
 simp [execOp,i,j,eqGuard,binOp,uc]
theorem ge {t q:TypeId} {k:IntKind} {a b:Int} (i:ev N σ x= .int k a) (j:ev N σ y= .int k b):
 (execOp (ev N σ) ⟨dst,.binOp .geq t x y q,ty,pos,af,g⟩).run P w= .ok (.value<|.bool<|decide (b≤a)) w:=by
 simp [execOp,i,j,eqGuard,binOp,uc]
theorem bH {t q:TypeId} {k:IntKind} {a b:Int} (i:ev N σ x= .int k a) (j:ev N σ y= .int k b):
 (execOp (ev N σ) ⟨dst,.binOp .eql t x y q,ty,pos,af,g⟩).run P w= .ok (.value<|.bool<|decide (a=b)) w:=by
 simp [execOp,i,j,eqGuard,binOp,uc]
 rw [tZ]; simp
theorem cX {t q:TypeId} {k:IntKind} {a b:Int} (i:ev N σ x= .int k a) (j:ev N σ y= .int k b):
 (execOp (ev N σ) ⟨dst,.binOp .neq t x y q,ty,pos,af,g⟩).run P w= .ok (.value<|.bool<|decide (a≠b)) w:=by
 simp [execOp,i,j,eqGuard,binOp,uc]
 rw [tZ]; simp
theorem no {t:TypeId} {b:Bool} (a:ev N σ x= .bool b):(execOp (ev N σ) ⟨dst,.unOp .not t x,ty,pos,af,g⟩).run P w= .ok (.value<|.bool<|!b) w:=by
 simp [execOp,a,El]
theorem FA {t A:TypeId} {k:IntKind} {a b v:Int} (j:ev N σ x= .int k a) (q:ev N σ y= .int k b) (i:k.wrap (gk k.bits a ||| gk k.bits b).toNat=v):
 (execOp (ev N σ) ⟨dst,.binOp .or t x y A,ty,pos,af,g⟩).run P w= .ok (.value<|.int k v) w:=by
 subst i; simp [execOp,j,q,eqGuard,binOp,wv]
theorem fy {t A:TypeId} {k:IntKind} {a b v:Int} (j:ev N σ x= .int k a) (q:ev N σ y= .int k b) (i:k.wrap (gk k.bits a &&& gk k.bits b).toNat=v):
 (execOp (ev N σ) ⟨dst,.binOp .and t x y A,ty,pos,af,g⟩).run P w= .ok (.value<|.int k v) w:=by
 subst i; simp [execOp,j,q,eqGuard,binOp,wv]
theorem shr {t A:TypeId} {k C:IntKind} {a b v:Int} (j:ev N σ x= .int k a) (q:ev N σ y= .int C b) (E:0≤b) (i:a.fdiv (2 ^ min b.toNat k.bits)=v):
 (execOp (ev N σ) ⟨dst,.binOp .shr t x y A,ty,pos,af,g⟩).run P w= .ok (.value<|.int k v) w:=by
 have :¬b < 0:=ab
 simp [execOp,j,q,eqGuard,binOp,Op.shift,this,i]
theorem shl {t A:TypeId} {k C:IntKind} {a b v:Int} (j:ev N σ x= .int k a) (q:ev N σ y= .int C b) (E:0≤b) (i:k.wrap (a*2 ^ min b.toNat k.bits)=v):
 (execOp (ev N σ) ⟨dst,.binOp .shl t x y A,ty,pos,af,g⟩).run P w= .ok (.value<|.int k v) w:=by
 have :¬b < 0:=ab
 simp [execOp,j,q,eqGuard,binOp,Op.shift,this,i]
theorem zw (m:Nat) (h:m < 256):((j0 m).toNat:Int)=(m:Int):=by
 simp [Nat.mod_eq_of_lt h]
theorem cv {t u:TypeId} {k k':IntKind} {n:Int} (hu:P.underlying u=some (.int k')) (a:(P.underlying t).isSome=true) (i:ev N σ x= .int k n):
 (execOp (ev N σ) ⟨dst,.convert t u x,ty,pos,af,g⟩).run P w= .ok (.value<|.int k'<|k'.wrap n) w:=by
 obtain ⟨d,hd⟩:=o8.1 a
 cases d <;> simp [execOp,i,convert,eu hu,eu hd,Conv.intToInt]
theorem lH {t u:TypeId} {k k':IntKind} {n v:Int} (hu:P.underlying u=some (.int k')) (i:(P.underlying t).isSome=true) (j:ev N σ x= .int k n) (a:k'.wrap n=v):
 (execOp (ev N σ) ⟨dst,.convert t u x,ty,pos,af,g⟩).run P w= .ok (.value<|.int k' v) w:=by
 rw [cv hu i j,a]
theorem xK {t u:TypeId} {k k':IntKind} {n:Int} (hu:P.underlying u=some (.int k')) (i:(P.underlying t).isSome=true) (j:ev N σ x= .int k n) (a:k'.wrap n=n):
 (execOp (ev N σ) ⟨dst,.convert t u x,ty,pos,af,g⟩).run P w= .ok (.value<|.int k' n) w:=by
 rw [cv hu i j,a]
theorem SZ (d:Nat) {t e:TypeId} {a:Option Addr} (hu:P.underlying t=some (.pointer e)):(ub (d+1) t (.pointer a)<|.pointer none).run P w= .ok a.isNone w:=by
 cases a <;> simp [ub,eu hu]
theorem HB {t e:TypeId} {a:Option Addr} (hu:P.underlying t=some (.pointer e)):(Ej t (.pointer a)<|.pointer none).run P w= .ok a.isNone w:=SZ 9999 hu
theorem lY {t q e:TypeId} {a:Option Addr} (hu:P.underlying t=some (.pointer e)) (i:ev N σ x= .pointer a) (j:ev N σ y= .pointer none):
 (execOp (ev N σ) ⟨dst,.binOp .eql t x y q,ty,pos,af,g⟩).run P w= .ok (.value<|.bool a.isNone) w:=by
 have h:(binOp .eql t (.pointer a)<|.pointer none).run P w= .ok (.bool a.isNone) w:=by
  simp only [binOp]; simp [HB hu]
 simp [execOp,i,j,eqGuard,h]
theorem J0 {t q e:TypeId} {a:Option Addr} (hu:P.underlying t=some (.pointer e)) (i:ev N σ x= .pointer a) (j:ev N σ y= .pointer none):
 (execOp (ev N σ) ⟨dst,.binOp .neq t x y q,ty,pos,af,g⟩).run P w= .ok (.value<|.bool a.isSome) w:=by
 have h:(binOp .neq t (.pointer a)<|.pointer none).run P w= .ok (.bool a.isSome) w:=by
  simp only [binOp]; simp [HB hu]
 simp [execOp,i,j,eqGuard,h]
theorem SX (d:Nat) {t:TypeId} {a b:Bool} (hu:P.underlying t=some .bool):(ub (d+1) t (.bool a)<|.bool b).run P w= .ok (a==b) w:=by
 simp [ub,eu hu]
theorem SY {t:TypeId} {a b:Bool} (hu:P.underlying t=some .bool):(Ej t (.bool a)<|.bool b).run P w= .ok (a==b) w:=SX 9999 hu
theorem HA {t q:TypeId} {a b:Bool} (hu:P.underlying t=some .bool) (i:ev N σ x= .bool a) (j:ev N σ y= .bool b):
 (execOp (ev N σ) ⟨dst,.binOp .eql t x y q,ty,pos,af,g⟩).run P w= .ok (.value<|.bool<|decide (a=b)) w:=by
 have h:(binOp .eql t (.bool a)<|.bool b).run P w= .ok (.bool<|decide (a=b)) w:=by
  simp only [binOp]; simp [SY hu]; cases a <;> cases b <;> rfl
 simp [execOp,i,j,eqGuard,h]
def str (l:List UInt8):Value:= .string ⟨⟨l⟩⟩
theorem cg {t:TypeId} {l:List UInt8} {at_:Array TypeId} (i:P.underlying t=some .string) (a:at_= #[t]) (j:ev N σ x=str l):
 (execOp (ev N σ) ⟨dst,.call ⟨.builtin .len,#[x],at_⟩,ty,pos,af,g⟩).run P w= .ok (.value<|.int .i64 l.length) w:=by
 subst a
 simp [execOp,resolve,invoke,builtin,MS,eu i,j,str,goInt]
 rfl
theorem bF {t e:TypeId} {a:Option Addr} {n c:Nat} {at_:Array TypeId} (j:P.underlying t=some (.slice e)) (i:at_= #[t]) (q:ev N σ x= .slice a n c):
 (execOp (ev N σ) ⟨dst,.call ⟨.builtin .len,#[x],at_⟩,ty,pos,af,g⟩).run P w= .ok (.value<|.int .i64 n) w:=by
 subst i
 simp [execOp,resolve,invoke,builtin,MS,eu j,q,goInt]
theorem mn {k:IntKind} {a b:Int} {at_:Array TypeId} (i:ev N σ x= .int k a) (j:ev N σ y= .int k b):
 (execOp (ev N σ) ⟨dst,.call ⟨.builtin .min,#[x,y],at_⟩,ty,pos,af,g⟩).run P w= .ok (.value<|.int k<|min a b) w:=by
 have :(if b < a then b else a)=min a b:=ab
 simp [execOp,resolve,invoke,builtin,Builtin.min_,Builtin.min2,i,j,this]
theorem Ve {t:TypeId} {l:List UInt8} {k:IntKind} {i:Int} (A:P.underlying t=some .string) (C:ev N σ x=str l) (E:ev N σ y= .int k i) (j:0≤i∧i < l.length):
 (execOp (ev N σ) ⟨dst,.index t x y,ty,pos,af,g⟩).run P w= .ok (.value<|.int .u8 ((l.getD i.toNat 0).toNat:Int)) w:=by
 have hs:(⟨⟨l⟩⟩:ByteArray)[i.toNat]? =some (l.getD i.toNat 0):=by
  have a:i.toNat < l.length:=ab
  have q:i.toNat < (⟨⟨l⟩⟩:ByteArray).size:=a
  rw [getElem?_pos (⟨⟨l⟩⟩:ByteArray) i.toNat q]
  simp [cQ,a,ByteArray.getElem_eq_getElem_data]
 simp [execOp,Instr.index,C,E,asIntOf,str,eu A,j.1,hs]
theorem Dy (l:List UInt8) (a b:Nat):Value.string ((⟨⟨l⟩⟩:ByteArray).extract a b)=str ((l.take b).drop a):=by
 unfold str
 congr 1
 apply ByteArray.ext
 simp [ByteArray.data_extract,List.extract_eq_take_drop,su]
theorem ja (n:Nat) {t:TypeId} {l:List UInt8} {k:IntKind} (a:P.underlying t=some .string) (i:ev N σ x=str l) (j:ev N σ y= .int k (n:Int)) (h:n < l.length):
 (execOp (ev N σ) ⟨dst,.index t x y,ty,pos,af,g⟩).run P w= .ok (.value<|.int .u8 ((l.getD n 0).toNat:Int)) w:=Ve a i j ⟨ab,ab⟩
theorem eK {n:Nat} {t:TypeId} {l:List UInt8} {k:IntKind} (a:P.underlying t=some .string) (i:ev N σ x=str l) (j:ev N σ y= .int k (n:Int)) (h:n < l.length):
 (execOp (ev N σ) ⟨dst,.index t x y,ty,pos,af,g⟩).run P w= .ok (.value<|.int .u8 ((l.getD n 0).toNat:Int)) w:=ja n a i j h
theorem l7 {t:TypeId} {l:List UInt8} {k k':IntKind} {a b:Int} (j:P.underlying t=some .string) (q:ev N σ x=str l) (A:ev N σ y= .int k a) (C:ev N σ z= .int k' b) (i:0≤a∧a≤b∧b≤l.length):
 (execOp (ev N σ) ⟨dst,.slice t x (some y) (some z) none,ty,pos,af,g⟩).run P w= .ok (.value<|str<|(l.take b.toNat).drop a.toNat) w:=by
 have h1:b≤((⟨⟨l⟩⟩:ByteArray).size:Nat):=i.2.2
 have h2:0≤b:=ab
 have h3:a≤(b.toNat:Nat):=ab
 simp [execOp,si,wo,oX,sj,q,A,C,asIntOf,str,eu j,i.1,h1,h2]
 rw [if_pos ab]
 exact congrArg (fun v=>Eo (Ei v) w)<|Dy l a.toNat b.toNat
theorem r5 {t:TypeId} {l:List UInt8} {k':IntKind} {b:Int} (i:P.underlying t=some .string) (j:ev N σ x=str l) (q:ev N σ z= .int k' b) (a:0≤b∧b≤l.length):
 (execOp (ev N σ) ⟨dst,.slice t x none (some z) none,ty,pos,af,g⟩).run P w= .ok (.value<|str<|l.take b.toNat) w:=by
 have h1:b≤((⟨⟨l⟩⟩:ByteArray).size:Nat):=a.2
 have :=Dy l 0 b.toNat
 simp only [wS] at this
 simp [execOp,si,wo,oX,sj,j,q,asIntOf,str,eu i,a.1,h1]
 exact Ni this
theorem l8 {t:TypeId} {l:List UInt8} {k:IntKind} {a:Int} (j:P.underlying t=some .string) (q:ev N σ x=str l) (A:ev N σ y= .int k a) (i:0≤a∧a≤l.length):
 (execOp (ev N σ) ⟨dst,.slice t x (some y) none none,ty,pos,af,g⟩).run P w= .ok (.value<|str<|l.drop a.toNat) w:=by
 have h1:a≤((⟨⟨l⟩⟩:ByteArray).size:Nat):=i.2
 have :=Dy l a.toNat l.length
 simp only [List.take_length] at this
 simp [execOp,si,wo,oX,sj,q,A,asIntOf,str,eu j,i.1,h1]
 exact Ni this
theorem LS (l:List UInt8):(⟨⟨l⟩⟩:ByteArray).toList=l:=Lib.toList_data ⟨⟨l⟩⟩
theorem cc {t j:TypeId} {l m:List UInt8} (a:ev N σ x=str l) (i:ev N σ y=str m) (h:l.length+m.length≤9223372036854775807):
 (execOp (ev N σ) ⟨dst,.binOp .add t x y j,ty,pos,af,g⟩).run P w= .ok (.value<|str<|l++m) w:=by
 have h1:¬(((⟨⟨l⟩⟩:ByteArray).size+(⟨⟨m⟩⟩:ByteArray).size:Nat):Int) > zM.max:=by
  have :zM.max=9223372036854775807:=az
  rw [this]
  show ¬((l.length+m.length:Nat):Int) > _
  omega
 have h2:(⟨⟨l⟩⟩:ByteArray)++(⟨⟨m⟩⟩:ByteArray)=⟨⟨l++m⟩⟩:=by
  apply ByteArray.ext; simp
 simp only [execOp,a,i,str,eqGuard,binOp,Ek]
 rw [if_neg h1,h2]
 rfl
theorem dR {t j:TypeId} {l m:List UInt8} (a:ev N σ x=str l) (i:ev N σ y=str m):
 (execOp (ev N σ) ⟨dst,.binOp .eql t x y j,ty,pos,af,g⟩).run P w= .ok (.value<|.bool<|decide (l=m)) w:=by
 simp only [execOp,a,i,str,eqGuard,binOp,Ek,LS]
 show Eo (Ei<|.bool<|l==m) w=_
 rw [show (l==m)=decide (l=m) from by rw [tZ]; simp]
theorem oN {t j:TypeId} {l m:List UInt8} (a:ev N σ x=str l) (i:ev N σ y=str m):
 (execOp (ev N σ) ⟨dst,.binOp .neq t x y j,ty,pos,af,g⟩).run P w= .ok (.value<|.bool<|decide (l≠m)) w:=by
 simp only [execOp,a,i,str,eqGuard,binOp,Ek,LS]
 show Eo (Ei<|.bool<|!(l==m)) w=_
 rw [show (!(l==m))=decide (l≠m) from by rw [tZ]; simp]
theorem mf {fn:Fn} {first captured:Array Operand} :(execOp (ev N σ) ⟨dst,.makeFunc fn first captured,ty,pos,af,g⟩).run P w= .ok (.value<|.func fn (first.map<|ev N σ)<|captured.map<|ev N σ) w:=rfl
theorem JS {fn:Fn} {first captured:Array Operand} :(execOp (ev N σ) ⟨dst,.makeFunc fn first captured,ty,pos,af,g⟩).run P w= .ok (.value<|.func fn (first.toList.map<|ev N σ).toArray (captured.toList.map<|ev N σ).toArray) w:=by
 rw [mf,← nv,← nv]
end
end Go.Hb
namespace Go.Hb
open Go.RowKit
def bL (h:Array Obj) (b:Nat) (L:List Value):Prop := ∃ e,h[b]? =some (.cells L.toArray e (0,0))
theorem bL.aO {h:Array Obj} {b:Nat} {L:List Value} (a:bL h b L) (j:Nat):Hb.aO h b j=L[j]? :=by
 obtain ⟨e,a⟩:=a
 rw [a6 a]; simp
theorem bL.bB {h:Array Obj} {b:Nat} {L:List Value} (a:bL h b L) (j:Nat):Hb.aO h b (0 +j)=L[j]? :=by
 rw [gQ,a.aO]
theorem Md.B {F:Nat→Prop} {w w':World} (h:Md F w w') {b:Nat} {L:List Value} (a:bL w.heap b L) (i:¬F b):bL w'.heap b L:=
 let ⟨e,a⟩:=a; ⟨e,h.aJ a i⟩
theorem Wk.B {w w':World} (h:Wk w w') {b:Nat} {L:List Value} (a:bL w.heap b L):bL w'.heap b L:=Md.B h a id
theorem bL.lt {h:Array Obj} {b:Nat} {L:List Value} (a:bL h b L):b < h.size:=let ⟨_,a⟩:=a; (dm.1 a).1
def bk (a:Option Addr):Nat:=match a with | some ad=>ad.block | none=>0
def fo (a:Option Addr):Nat:=match a with | some ad=>ad.off | none=>0
structure aI (h:Array Obj) (a:Option Addr) (xs:List Value):Prop where
 ok:xs≠[]→a=some ⟨bk a,fo a,none⟩
 aO:∀ j u,xs[j]? =some u→Hb.aO h (bk a) (fo a+j)=some u
theorem aI.nil (h:Array Obj) (a:Option Addr):aI h a []:=⟨fun h=>absurd rfl h,fun _ _ hu=>by simp at hu⟩
theorem aI.md {F:Nat→Prop} {w w':World} {a:Option Addr} {xs:List Value} (i:aI w.heap a xs) (h:Md F w w') (q:xs≠[]→¬F (bk a)):aI w'.heap a xs:=
 ⟨i.ok,fun j u hu=>h.aO (i.aO j u hu)<|q<|by rintro rfl; simp at hu⟩
theorem aI.wk {w w':World} {a:Option Addr} {xs:List Value} (i:aI w.heap a xs) (h:Wk w w'):aI w'.heap a xs:=i.md h fun _ x=>x
theorem aI.take {h:Array Obj} {a:Option Addr} {xs:List Value} (i:aI h a xs) (n:Nat):aI h a (xs.take n):=
 ⟨fun q=>i.ok (by rintro rfl; simp at q),fun j u hu=>i.aO j u<|by rw [o3] at hu; split at hu; exact hu; cases hu⟩
theorem aI.dS {h:Array Obj} {b:Nat} {L:List Value} (a:bL h b L):aI h (some ⟨b,0,none⟩) L:=
 ⟨fun _=>rfl,fun j u hu=>by show Hb.aO h b (0 +j)=_; rw [gQ,a.aO]; exact hu⟩
theorem aI.gG {h:Array Obj} {a:Option Addr} {xs:List Value} (j:aI h a xs) {i:Nat} {u:Value} (hu:xs[i]? =some u):Hb.aO h (bk a) (fo a+i*1)=some u:=by
 rw [Nat.mul_one]; exact j.aO i u hu
def bX (h:Array Obj) (a:Option Addr) (l:List (List UInt8)):Prop :=aI h a<|l.map str
theorem bX.get {h:Array Obj} {a:Option Addr} {l:List (List UInt8)} (hs:bX h a l) {i:Nat} (hi:i < l.length):Hb.aO h (bk a) (fo a+i*1)=some (str<|l.getD i []):=
 aI.gG hs (by simp [cQ,hi])
theorem bX.wk {w w':World} {a:Option Addr} {l:List (List UInt8)} (hs:bX w.heap a l) (h:Wk w w'):bX w'.heap a l:=aI.wk hs h
theorem bP {α:Type} {f:α→Value} {l:List α} (h:0 < l.length):l.map f≠[]:=by
 cases l with
 | nil=>simp at h
 | cons x l=>simp
def kn (k:IntKind) (h:Array Obj) (a:Option Addr) (l:List Int):Prop :=aI h a<|l.map<|jh k
def fV (P:Program) (t e size bytes:Nat):Bool:=
 match P.underlying t with
 | some (.slice a)=>a==e && match P.info? e with
   | some i=>i.size==size && i.bytes==bytes && iR 0 size && match i.zero with
     | some z=>z.cells.size==size
     | none=>false
   | none=>false
 | _=>false
theorem r4 {P:Program} {t e size bytes:Nat} (h:fV P t e size bytes=true):
 P.underlying t=some (.slice e)∧∃ i z,P.info? e=some i∧i.zero=some z∧i.size=size∧i.bytes=bytes∧z.cells.size=size∧0 < size:=by
 unfold fV at h
 split at h
 · rename_i j hu
   simp only [gO,beq_iff_eq] at h
   obtain ⟨rfl,h⟩:=h
   split at h
   · rename_i i hi
     simp only [gO,beq_iff_eq] at h
     obtain ⟨⟨⟨h1,h2⟩,h3⟩,h4⟩:=h
     split at h4
     · rename_i z a
       exact ⟨hu,i,z,hi,a,h1,h2,by simpa using h4,sy (uv 0)<|uu h3⟩
     · cases h4
   · cases h
 · cases h
def ee (P:Program) (t:TypeId):Option Nat:=(P.info? t).map (·.size)
def zeroOf (P:Program) (t:TypeId):Option (Option<|List Value):=(P.info? t).map fun i=>i.zero.map fun z=>z.cells.toList
def bg (P:Program) (f:FuncId):Prop := ∀ args w,(callFunc f args).run P w= .ok (.enter f args) w
theorem QO {P:Program} {f:FuncId} {fn:Func} (i:P.funcs[f]? =some fn) (hn:(fn.name== "runtime.NumGoroutine")=false) (a:fn.body.isNone=false):bg P f:=by
 intro args w
 have h1:¬((fn.name== "runtime.NumGoroutine")=true):=by rw [hn]; simp
 have h2:¬(fn.body.isNone=true):=by rw [a]; simp
 simp only [callFunc,wz,run_program,wy,i]
 rw [if_neg h1,if_neg h2]
 rfl
section
variable {P:Program} {N:Fm} {σ:Nat→Value} {w:World} {dst:Option Nat} {ty:TypeId} {pos :String} {af:Array Edge} {g:Option (Nat×Bool)} {x y z:Operand} {K:(Nat→Value)→World→Prop}
theorem ZD {o:Oper} {f:FuncId} {L:List Value} {R:Value→World→Prop} (j:(execOp (ev N σ) o).run P w= .ok (.enter f L.toArray) w) (i:bh P f L.toArray w R)
 (k:∀ v w',R v w'→K (iF σ o.dst v) w'):dM P N o σ w K:=by
 unfold dM jW
 rw [gU,j]
 refine lO i fun e w' ⟨v,he,a⟩=> ?_
 subst he
 exact ⟨_,jH ..,k v w' a⟩
theorem cl {f:FuncId} {args:Array Operand} {a:Array TypeId} {L:List Value} {R:Value→World→Prop} (j:bg P f) (q:bh P f L.toArray w R) (i:args.toList.map (ev N σ)=L)
 (k:∀ v w',R v w'→K (iF σ dst v) w'):dM P N ⟨dst,.call ⟨.value (.func f),args,a⟩,ty,pos,af,g⟩ σ w K:=by
 refine ZD (f:=f) ?_ q k
 have :args.map (ev N σ)=L.toArray:=by rw [← i,← nv]
 simp [execOp,resolve,ev,qY,invoke,this,j L.toArray w]
theorem oS {o:Oper} {ob:Obj} {v:Nat→Value} (a:(execOp (ev N σ) o).run P w= .ok (.value<|v w.heap.size) {w with heap:=w.heap.push ob})
 (k:∀ b w',b=w.heap.size→Nw w w'→w'.heap[b]? =some ob→K (iF σ o.dst<|v b) w'):dM P N o σ w K:=
 oc a (k _ _ rfl (CW w ob) (by simp))
theorem al {e:TypeId} {j:List Value} (a:zeroOf P e=some (some j)) (k:∀ b w',b=w.heap.size→Nw w w'→bL w'.heap b j→K (iF σ dst<|.pointer<|some ⟨b,0,none⟩) w'):
 dM P N ⟨dst,.alloc e,ty,pos,af,g⟩ σ w K:=by
 refine oS (v:=fun b=> .pointer<|some ⟨b,0,none⟩) (ob:= .cells j.toArray e (0,0)) ?_ fun b w' h1 h2 h3=>k b w' h1 h2 ⟨e,h3⟩
 unfold zeroOf at a
 simp only [pc] at a
 obtain ⟨i,hi,zv,q,rfl⟩:=a
 simp [execOp,M1,zeroValue,jc hi,q,newVar,newRow]
theorem ga {e:TypeId} {j:List Value} (a:zeroOf P e=some (some j)) (k:∀ b w',b=w.heap.size→Nw w w'→w'.heap[b]? =some (.cells j.toArray e (0,0))→K (iF σ dst<|.pointer<|some ⟨b,0,none⟩) w'):
 dM P N ⟨dst,.alloc e,ty,pos,af,g⟩ σ w K:=by
 refine oS (v:=fun b=> .pointer<|some ⟨b,0,none⟩) (ob:= .cells j.toArray e (0,0)) ?_ k
 unfold zeroOf at a
 simp only [pc] at a
 obtain ⟨i,hi,zv,q,rfl⟩:=a
 simp [execOp,M1,zeroValue,jc hi,q,newVar,newRow]
theorem bx {e:TypeId} {v:Value} {L:List Value} (i:ev N σ x=v) (a:v.cells.toList=L) (k:∀ b w',b=w.heap.size→Nw w w'→bL w'.heap b L→K (iF σ dst<|.pointer<|some ⟨b,0,none⟩) w'):
 dM P N ⟨dst,.box e x,ty,pos,af,g⟩ σ w K:=by
 subst a
 refine oS (v:=fun b=> .pointer<|some ⟨b,0,none⟩) (ob:= .cells v.cells e (0,0)) ?_ fun b w' h1 h2 h3=>k b w' h1 h2 ⟨e,h3⟩
 simp [execOp,Instr.box,i,newVar,newRow]
theorem vy {t:TypeId} (k:∀ b w',b=w.heap.size→Nw w w'→w'.heap[b]? =some (.map #[] 0)→K (iF σ dst<|.map<|some b) w'):dM P N ⟨dst,.makeMap t none,ty,pos,af,g⟩ σ w K:=by
 refine oS (v:=fun b=> .map<|some b) ?_ k
 simp [execOp,Instr.makeMap]
theorem m5 {t e:TypeId} {size bytes:Nat} (j:fV P t e size bytes=true)
 (k:∀ b w',b=w.heap.size→Nw w w'→(∀ B,B≤b→w'.ownsRow B e size (.slice (some ⟨b,0,none⟩) 0 0) 0 [])→K (iF σ dst<|.slice (some ⟨b,0,none⟩) 0 0) w'):dM P N ⟨dst,.buildSlice t 0 #[],ty,pos,af,g⟩ σ w K:=by
 refine oS (v:=fun b=> .slice (some ⟨b,0,none⟩) 0 0) (ob:= .cells #[] e (0,0)) ?_ fun b w' h1 h2 h3=>k b w' h1 h2 fun B a=>⟨by simp,.inr ⟨b,0,#[],aa,a,h3,cj _,by simp [maxLen],by simp,by simp⟩⟩
 obtain ⟨hu,i,zv,hi,q,h1,h2,h3,h4⟩:=r4 j
 simp [execOp,Ed,eu hu,sizeOf,jc hi,oW,newRow]
 congr 2
 exact Array.eq_empty_of_size_eq_zero<|by simp
theorem OW {t e:TypeId} {size bytes:Nat} {v:Value} {L:List Value} (G:fV P t e size bytes=true) (hs:o5 size 1000=true) (J:ev N σ x=v) (I:v.cells.size=size)
 (A:v.cells.toList=L) (k:∀ b w',b=w.heap.size→Nw w w'→w'.heap[b]? =some (.cells L.toArray e (0,0))→K (iF σ dst<|.slice (some ⟨b,0,none⟩) 1 1) w'):dM P N ⟨dst,.buildSlice t 1 #[(0,x)],ty,pos,af,g⟩ σ w K:=by
 subst A
 refine oS (v:=fun b=> .slice (some ⟨b,0,none⟩) 1 1) (ob:= .cells v.cells e (0,0)) ?_ fun b w' h1 h2 h3=>k b w' h1 h2<|by simpa using h3
 obtain ⟨hu,i,zv,hi,M,h1,h2,h3,h4⟩:=r4 G
 have U:size≤1000:=by simpa using hs
 have C:oW (fun i=>some (i*size,size)) ((tX size).map (zv.cells[· % zv.cells.size]!)) [(0,v)]=some v.cells:=by
  have a:((tX size).map (zv.cells[· % zv.cells.size]!)).size=size:=by simp
  generalize (tX size).map (zv.cells[· % zv.cells.size]!)=cs at a
  simp only [oW,I]
  rw [if_neg (by rw [a]; simp)]
  congr 1
  have key:∀ (l:List Value) (m:Nat) (cs:Array Value),m+l.length≤cs.size→∀ j,((l.zipIdx m).foldl (fun (cs:Array Value) (c,j)=>cs.setIfInBounds (0 *size+j) c) cs)[j]? =if j < m then cs[j]? else if j < m+l.length then l[j - m]? else cs[j]? :=by
   intro l
   induction l with
   | nil=>intro m cs hm j; simp; intro h1 h2; omega
   | cons c l O=>
     intro m cs hm j
     simp only [NS,sv,cM] at hm ⊢
     rw [O (m+1) _ (by simp; omega)]
     simp only [EK,gQ,D5]
     by_cases h1:j < m
     · rw [if_pos ab,if_pos h1,if_neg ab]
     · rw [if_neg h1]
       by_cases h2:j=m
       · subst h2
         rw [if_pos ab,if_pos rfl,if_pos ab,if_pos ab]
         simp
       · rw [if_neg ab]
         by_cases h3:j < m+1 +l.length
         · rw [if_pos h3,if_pos ab]
           obtain ⟨q,E⟩:∃ q,j - m=q+1:=⟨j - m - 1,ab⟩
           rw [E,NB,show j - (m+1)=q from by omega]
         · rw [if_neg h3,if_neg ab,if_neg ab]
  apply MG
  intro j
  have :=key v.cells.toList 0 cs (by simp; omega) j
  rw [show (v.cells.zipIdx.foldl (fun (cs:Array Value) (c,j)=>cs.setIfInBounds (0 *size+j) c) cs)=((v.cells.toList.zipIdx 0).foldl (fun (cs:Array Value) (c,j)=>cs.setIfInBounds (0 *size+j) c) cs) from by
   rw [← Array.foldl_toList]; simp [Array.toList_zipIdx]]
  rw [this]
  simp only [Nat.not_lt_zero,if_false,gQ,Nat.sub_zero,wg,D6]
  split
  · rfl
  · rw [tW ab,tW ab]
 simp only [execOp,Ed,wz,eu hu,wy,sizeOf,jc hi,zO,h1,Nat.one_mul,Et,zeroValue,M,List.map_toArray,um,List.map_nil,J,C]
 rw [if_neg (by rw [show (2:Nat) ^ 24=16777216 from rfl]; omega),if_neg ab]
 simp [newRow]
theorem FD {t e:TypeId} {size bytes:Nat} {v:Value} {L:List Value} (i:fV P t e size bytes=true) (hs:o5 size 1000=true) (q:ev N σ x=v) (j:v.cells.size=size)
 (a:v.cells.toList=L) (k:∀ b w',b=w.heap.size→Nw w w'→bL w'.heap b L→K (iF σ dst<|.slice (some ⟨b,0,none⟩) 1 1) w'):dM P N ⟨dst,.buildSlice t 1 #[(0,x)],ty,pos,af,g⟩ σ w K:=
 OW i hs q j a fun b w' h1 h2 h3=>k b w' h1 h2 ⟨_,h3⟩
theorem qN {v:Value} (h:v.oneCell'=true):v.cells= #[v]:=by cases v <;> first | rfl | (cases h; done)
theorem HM {loc:Nat→Option (Nat×Nat)} (j:∀ i,loc i=some (i*1,1)):∀ (rest pre a:List Value),a.length=rest.length→rest.all gz=true→
 oW loc (pre++a).toArray ((rest.zipIdx pre.length).map fun q=>(q.2,q.1))=some (pre++rest).toArray
 | [],pre,a,hl,_=>by
   rw [fO hl]; rfl
 | v::r,pre,a,hl,h1=>by
   cases a with
   | nil=>simp at hl
   | cons z a=>
     rw [uh,gO] at h1
     have C:=qN h1.1
     have A:=HM j r (pre++ [v]) a (by simpa using hl) h1.2
     simp only [NS,um,oW,j,C]
     rw [if_neg (by simp)]
     simp only [bI,eW,dC,List.singleton_append] at A
     rw [← A]
     simp
theorem sU {t e bytes n:Nat} {ps:Array (Nat×Operand)} {L:List Value} (A:fV P t e 1 bytes=true) (hp:ps.toList.map (fun p=>(p.1,ev N σ p.2))=(L.zipIdx 0).map fun q=>(q.2,q.1)) (h1:L.all gz=true) (hn:L.length=n) (hs:(o5 n 1000 && iR 0 n)=true)
 (k:∀ b w',b=w.heap.size→Nw w w'→w'.heap[b]? =some (.cells L.toArray e (0,0))→K (iF σ dst<|.slice (some ⟨b,0,none⟩) n n) w'):dM P N ⟨dst,.buildSlice t n ps,ty,pos,af,g⟩ σ w K:=by
 subst hn
 refine oS (v:=fun b=> .slice (some ⟨b,0,none⟩) L.length L.length) (ob:= .cells L.toArray e (0,0)) ?_ k
 obtain ⟨hu,i,zv,hi,C,a,h2,h3,h4⟩:=r4 A
 simp only [gO] at hs
 have G:L.length≤1000:=by simpa using hs.1
 have I:0 < L.length:=by have :=uu hs.2; omega
 have j:oW (fun i=>some (i*1,1)) ((tX<|L.length*1).map (zv.cells[· % zv.cells.size]!)) (ps.toList.map fun p=>(p.1,ev N σ p.2))=some L.toArray:=by
  rw [hp]
  have E:((tX<|L.length*1).map (zv.cells[· % zv.cells.size]!)).toList.length=L.length:=by simp
  have :=HM (loc:=fun i=>some (i*1,1)) (fun _=>rfl) L [] ((tX<|L.length*1).map (zv.cells[· % zv.cells.size]!)).toList E h1
  rw [p9,p9,MK] at this
  exact this
 simp only [execOp,Ed,wz,eu hu,wy,sizeOf,jc hi,zO,a,Et,zeroValue,C,nv,j]
 rw [if_neg (by rw [show (2:Nat) ^ 24=16777216 from rfl]; omega),if_neg ab]
 simp [newRow]
theorem fR {t e:TypeId} {bytes:Nat} {v:Value} (a:fV P t e 1 bytes=true) (i:ev N σ x=v) (h1:v.oneCell'=true)
 (k:∀ b w',b=w.heap.size→Nw w w'→bL w'.heap b [v]→K (iF σ dst<|.slice (some ⟨b,0,none⟩) 1 1) w'):dM P N ⟨dst,.buildSlice t 1 #[(0,x)],ty,pos,af,g⟩ σ w K:=
 FD a rfl i (by rw [qN h1]; rfl) (by rw [qN h1]) k
theorem kq {t e:TypeId} {size bytes:Nat} {L:List Value} (i:fV P t e size bytes=true) (hs:o5 size 1000=true) (j:ev N σ x= .agg L.toArray) (a:L.length=size)
 (k:∀ b w',b=w.heap.size→Nw w w'→bL w'.heap b L→K (iF σ dst<|.slice (some ⟨b,0,none⟩) 1 1) w'):dM P N ⟨dst,.buildSlice t 1 #[(0,x)],ty,pos,af,g⟩ σ w K:=
 FD i hs j (by simpa [ug] using a) (by simp [ug]) k
theorem iV {e:TypeId} {L:List Value} (a:ev N σ x= .agg L.toArray) (k:∀ b w',b=w.heap.size→Nw w w'→bL w'.heap b L→K (iF σ dst<|.pointer<|some ⟨b,0,none⟩) w'):
 dM P N ⟨dst,.box e x,ty,pos,af,g⟩ σ w K:=bx a (by simp [ug]) k
theorem oC {e:TypeId} {L:List Value} (a:ev N σ x= .agg L.toArray) (k:∀ b w',b=w.heap.size→Nw w w'→w'.heap[b]? =some (.cells L.toArray e (0,0))→K (iF σ dst<|.pointer<|some ⟨b,0,none⟩) w'):
 dM P N ⟨dst,.box e x,ty,pos,af,g⟩ σ w K:=by
 refine oS (v:=fun b=> .pointer<|some ⟨b,0,none⟩) (ob:= .cells L.toArray e (0,0)) ?_ fun b w' h1 h2 h3=>k b w' h1 h2 h3
 simp [execOp,Instr.box,a,newVar,newRow,ug]
theorem uF {l:List Value} (h:l.all gz=true):∀ u∈l,u.oneCell'=true :=me.1 h
theorem cV {t b off :Nat} {e:TypeId} {L:List Value} {v:Value} (j:ee P t=some 1) (O:ev N σ x= .pointer (some ⟨b,off,none⟩)) (U:ev N σ y=v) (h1:v.oneCell'=true) (a:w.heap[b]? =some (.cells L.toArray e (0,0))) (I:off < L.length)
 (k:∀ w',Md (fun k=>k=b) w w'→w'.heap[b]? =some (.cells (L.set off v).toArray e (0,0))→K σ w'):dM P N ⟨none,.store t x y,ty,pos,af,g⟩ σ w K:=by
 have A:v.cells= #[v]:=by cases v <;> first | rfl | (cases h1; done)
 have C:w.cell? ⟨b,off,none⟩=some L[off]:=by rw [nI,a6 a]; simp [I]
 have E:w.frozen? ⟨b,off,none⟩=false :=by simp only [World.frozen?,show w.heap[b]? =_ from a]; simp
 unfold ee at j
 simp only [pc] at j
 obtain ⟨i,hi,hs⟩:=j
 have q:(⟨b,off,none⟩:Addr).add 0=⟨b,off,none⟩:=rfl
 have J:(execOp (ev N σ) ⟨none,.store t x y,ty,pos,af,g⟩).run P w= .ok .skip (w.setCell ⟨b,off,none⟩ v):=by
  simp [execOp,Eh,O,U,qZ,storeVar,A,sizeOf,jc hi,hs,storeCells,q,run_store P w _ v _ h1,C,E]
 unfold dM jW
 rw [gU,J]
 refine ⟨σ,aa,k _ ⟨aa,aa,by simp [zT],fun k _ hk=> ?_⟩ ?_⟩
 · exact Below.heap_setCell w _ v k hk
 · have G:=(dm.1 a).1
   have M:w.heap[b]= .cells L.toArray e (0,0):=(dm.1 a).2
   simp only [zT]
   rw [zE (by simpa using G),Array.getElem_modify]
   simp [M,List.setIfInBounds_toArray]
theorem st {t b off :Nat} {L:List Value} {v:Value} (A:ee P t=some 1) (j:ev N σ x= .pointer (some ⟨b,off,none⟩)) (q:ev N σ y=v) (h1:v.oneCell'=true) (a:bL w.heap b L) (i:off < L.length)
 (k:∀ w',Md (fun k=>k=b) w w'→bL w'.heap b (L.set off v)→K σ w'):dM P N ⟨none,.store t x y,ty,pos,af,g⟩ σ w K:=
 let ⟨_,a⟩:=a
 cV A j q h1 a i fun w' h1 h2=>k w' h1 ⟨_,h2⟩
theorem gi {t b off n:Nat} {e:TypeId} {L vs:List Value} (a:ee P t=some n) (A:ev N σ x= .pointer (some ⟨b,off,none⟩)) (C:ev N σ y= .agg vs.toArray) (hn:vs.length=n) (h1:vs.all gz=true) (j:w.heap[b]? =some (.cells L.toArray e (0,0))) (E:off+n≤L.length)
 (k:∀ w',Md (fun k=>k=b) w w'→w'.heap[b]? =some (.cells (L.take off++vs++L.drop (off+n)).toArray e (0,0))→K σ w'):dM P N ⟨none,.store t x y,ty,pos,af,g⟩ σ w K:=by
 unfold ee at a
 simp only [pc] at a
 obtain ⟨i,hi,hs⟩:=a
 have bJ:=run_storeCells_at P b off e vs 0 L.toArray w j (by simp; omega)<|uF h1
 have q:(execOp (ev N σ) ⟨none,.store t x y,ty,pos,af,g⟩).run P w= .ok .skip (w.setRow b (L.take off++vs++L.drop (off+n)).toArray):=by
  simp [execOp,Eh,A,C,qZ,storeVar,ug,sizeOf,jc hi,hs,hn,bJ]
 unfold dM jW
 rw [gU,q]
 exact ⟨σ,aa,k _ ⟨aa,aa,by simp,fun k _ hk=>setRow_other w b k _ hk⟩<|setRow_heap w b _ _ e _ j⟩
theorem cW {t b off n:Nat} {L vs:List Value} (j:ee P t=some n) (A:ev N σ x= .pointer (some ⟨b,off,none⟩)) (C:ev N σ y= .agg vs.toArray) (hn:vs.length=n) (h1:vs.all gz=true) (a:bL w.heap b L) (E:off+n≤L.length)
 (k:∀ w',Md (fun k=>k=b) w w'→bL w'.heap b (L.take off++vs++L.drop (off+n))→K σ w'):dM P N ⟨none,.store t x y,ty,pos,af,g⟩ σ w K:=by
 obtain ⟨e,a⟩:=a
 unfold ee at j
 simp only [pc] at j
 obtain ⟨i,hi,hs⟩:=j
 have bJ:=run_storeCells_at P b off e vs 0 L.toArray w a (by simp; omega)<|uF h1
 have q:(execOp (ev N σ) ⟨none,.store t x y,ty,pos,af,g⟩).run P w= .ok .skip (w.setRow b (L.take off++vs++L.drop (off+n)).toArray):=by
  simp [execOp,Eh,A,C,qZ,storeVar,ug,sizeOf,jc hi,hs,hn,bJ]
 unfold dM jW
 rw [gU,q]
 exact ⟨σ,aa,k _ ⟨aa,aa,by simp,fun k _ hk=>setRow_other w b k _ hk⟩ ⟨e,setRow_heap w b _ _ e _ a⟩⟩
theorem OB {t ty e:TypeId} {i:TypeInfo} {zv:Value} {B n m c:Nat} {v U:Value} {xs news:List Value} {ad:Addr} {w':World} (hu:P.underlying t=some (.slice e)) (hi:P.info? e=some i) (O:i.zero=some zv) (ae:zv.cells.size=i.size) (aa:0 < i.size)
 (C:w.ownsRow B e i.size v n xs) (A:news.length=m*i.size) (E:∀ j u,news[j]? =some u→w.cell? (ad.add j)=some u) (h1:∀ u∈news,u.oneCell'=true) (I:n+m≤maxLen) (G:(n+m)*i.bytes≤140737488355328)
 (a:(zK #[t,t] ty #[v,.slice (some ad) m c]).run P w= .ok U w'):∀ k,U.ownBlock=some k→v.ownBlock=some k∨w.heap.size≤k:=by
 intro k hk
 have ag:n+m≤9223372036854775807:=by unfold maxLen at I; omega
 rcases C.2 with ⟨rfl,rfl⟩ | ⟨q,cap,cur,rfl,ai,Z,ak,aj,V,al⟩
 · have ac:xs= []:=fO<|by simpa using C.1
   subst ac
   obtain ⟨v2,am,J,h2,_,_⟩:=run_append_own (P:=P) w w.heap.size t ty e i zv i.size i.bytes hu hi O rfl rfl ae aa _ 0 [] (du w w.heap.size e i.size) ad m c news A E h1 I G (cj _)
   rw [a] at J
   cases J
   exact .inr (by
    rcases h2.2 with ⟨h,_⟩ | ⟨g2,_,_,h,ah,_⟩
    · rw [h] at hk; simp [iH] at hk
    · rw [h] at hk; simp only [iH,fL] at hk; omega)
 · by_cases M:n+m≤cap
   · have Y:n*i.size+news.length≤cur.size:=by rw [A,V,← Nat.add_mul]; exact sA _ M
     rw [run_append_room (P:=P) w t ty e i hu hi q n cap cur Z ad m c news A E h1 M Y] at a
     cases a
     exact .inl hk
   · have holds:∀ j u,xs[j]? =some u→w.cell? ((⟨q,0,none⟩:Addr).add j)=some u:=C.cells (g:=q) rfl
     rw [run_append_grow (P:=P) w t ty e i zv hu hi O ⟨q,0,none⟩ n cap xs C.1 holds ad m c news A E ab ab (growslice_fits ab G)] at a
     cases a
     simp only [iH,fL] at hk
     exact .inr ab
theorem ap {t e size bytes B n m c:Nat} {v:Value} {xs news:List Value} {a:Option Addr} (aj:fV P t e size bytes=true) (A:w.ownsRow B e size v n xs) (V:ev N σ x=v) (ab:B≤w.heap.size)
 (Y:ev N σ y= .slice a m c) (I:aI w.heap a news) (C:news.length=m*size) (h1:news.all gz=true) (E:(n+m)*bytes≤140737488355328) (am:n+m≤9223372036854775807)
 (k:∀ q w',w'.ownsRow B e size q (n+m) (xs++news)→Md (fun k=>v.ownBlock=some k) w w'→(q= .slice none 0 0↔v= .slice none 0 0∧m=0)→(∀ k,q.ownBlock=some k→v.ownBlock=some k∨w.heap.size≤k)→K (iF σ dst q) w'):
 dM P N ⟨dst,.call ⟨.builtin .append,#[x,y],#[t,t]⟩,ty,pos,af,g⟩ σ w K:=by
 obtain ⟨hu,i,zv,hi,Z,hs,G,aa,O⟩:=r4 aj
 have J:n+m≤maxLen:=by unfold maxLen; omega
 by_cases hm:news= []
 · subst hm
   have ag:m=0:=by
    rcases Nat.mul_eq_zero.1 (C.symm.trans rfl) with h | h
    · exact h
    · omega
   subst ag
   have ai:(zK #[t,t] ty #[v,.slice a 0 c]).run P w= .ok v w:=by
    rcases A.2 with ⟨rfl,rfl⟩ | ⟨al,cap,cur,rfl,_,_,hle,_⟩
    · cases a <;> simp [zK,eu hu,sizeOf,jc hi,MR,MQ,loadCells,loadCellsFrom]
    · cases a <;> simp [zK,eu hu,sizeOf,jc hi,MR,MQ,loadCells,loadCellsFrom,hle,storeCells]
   refine oc (w':=w) (v:=v) ?_<|k v w (by simpa using A) (Md.refl _ _) (by simp) fun _ h=> .inl h
   simp [execOp,resolve,invoke,builtin,V,Y,ai]
 · have ac:=I.ok hm
   have M:∀ j u,news[j]? =some u→w.cell? ((⟨bk a,fo a,none⟩:Addr).add j)=some u:=fun j u hu=>by rw [mr,nI]; exact I.aO j u hu
   obtain ⟨q,w',U,h2,h3,h4⟩:=run_append_own (P:=P) w B t ty e i zv size bytes hu hi Z hs G aa O v n xs A ⟨bk a,fo a,none⟩ m c news C M (uF h1) J E ab
   subst hs G
   have ae:=OB hu hi Z aa O A C M (uF h1) J E U
   refine oc (w':=w') (v:=q) ?_<|k q w' h2 ⟨h3.os,h3.output,h3.size,fun k hk ah=>h3.block k hk fun e=>ah e.symm⟩ h4 ae
   have ak:ev N σ y= .slice (some ⟨bk a,fo a,none⟩) m c:=Y.trans<|congrArg (fun a=>bO a m c) ac
   simp [execOp,resolve,invoke,builtin,V,ak,U]
theorem a7 {t n len cap:Nat} {k:IntKind} {i:Int} {a:Option Addr} (he:gr P t=some n) (q:ev N σ x= .slice a len cap) (A:ev N σ y= .int k i) (j:0≤i∧i < len) (C:a=some ⟨bk a,fo a,none⟩):
 (execOp (ev N σ) ⟨dst,.indexAddr t x y,ty,pos,af,g⟩).run P w= .ok (.value<|.pointer<|some ⟨bk a,fo a+i.toNat*n,none⟩) w:=
 ia he (by rw [q]; congr 1) A j
end
theorem db {F:Nat→Prop} {w w':World} {B e size n:Nat} {v:Value} {xs:List Value} (h:w.ownsRow B e size v n xs) (hm:Md F w w') (i:∀ k,v.ownBlock=some k→¬F k):w'.ownsRow B e size v n xs:=by
 refine ⟨h.1,?_⟩
 rcases h.2 with hn | ⟨g,cap,cur,rfl,a,j,rest⟩
 · exact .inl hn
 · exact .inr ⟨g,cap,cur,aa,a,hm.aJ j (i g aa),rest⟩
section
variable {P:Program} {N:Fm} {σ:Nat→Value} {w:World} {dst:Option Nat} {ty:TypeId} {pos :String} {af:Array Edge} {g:Option (Nat×Bool)} {x y z:Operand} {K:(Nat→Value)→World→Prop}
theorem tI {t B e size n cap off j:Nat} {a:Option Addr} {xs:List Value} {u:Value} (V:w.ownsRow B e size (.slice a n cap) n xs) (ac:ee P t=some 1) (Z:ev N σ x= .pointer (some ⟨bk a,off,none⟩)) (ab:ev N σ y=u) (h1:u.oneCell'=true)
 (M:off =fo a+j) (U:j < n*size)
 (k:∀ w',Md (fun k=>(bO a n cap).ownBlock=some k) w w'→w'.ownsRow B e size (.slice a n cap) n (xs.set j u)→K σ w'):dM P N ⟨none,.store t x y,ty,pos,af,g⟩ σ w K:=by
 obtain ⟨A,h⟩:=V
 rcases h with ⟨h,rfl⟩ | ⟨i,cp,cur,h,C,J,hle,I,q,Y⟩
 · simp at U
 · simp only [mR,true_and] at h
   obtain ⟨rfl,rfl⟩:=h
   have O:off =j:=by rw [M]; simp [fo]
   subst O
   have hlen:off < cur.toList.length:=by
    have :=sA size hle
    rw [wg,q]; omega
   refine cV (L:=cur.toList) ac Z ab h1 (show w.heap[i]? =_ by simpa using J) hlen fun w' G E=>k w' (G.mono fun k _ hk=>by subst hk; rfl) ⟨by simpa using A,.inr ⟨i,cap,_,aa,C,E,hle,I,by simpa using q,?_⟩⟩
   rw [← Y]
   simp only
   rw [List.take_set]
end
theorem eH {w:World} {B e size n:Nat} {v:Value} {xs:List Value} (h:w.ownsRow B e size v n xs):v.oneCell'=true :=by
 rcases h.2 with ⟨rfl,_⟩ | ⟨g,cap,cur,rfl,_⟩ <;> rfl
theorem cw {w:World} {B e size n:Nat} {v:Value} {xs:List Value} (h:w.ownsRow B e size v n xs):∃ a cap,v= .slice a n cap:=by
 rcases h.2 with ⟨rfl,rfl⟩ | ⟨g,cap,cur,rfl,_⟩
 · exact ⟨_,_,aa⟩
 · exact ⟨_,_,aa⟩
theorem mG {w:World} {B B' e j size I n G:Nat} {v q:Value} {xs J:List Value} (h:w.ownsRow B e size v n xs) (A:w.ownsRow B' j I q G J) (E:e≠j) {k:Nat} (hk:v.ownBlock=some k):q.ownBlock≠some k:=by
 intro i
 rcases h.2 with ⟨rfl,_⟩ | ⟨g,cap,cur,rfl,_,C,_⟩
 · simp [iH] at hk
 · rcases A.2 with ⟨rfl,_⟩ | ⟨U,M,O,rfl,_,a,_⟩
   · simp [iH] at i
   · simp only [iH,fL] at hk i
     subst hk i
     rw [C] at a
     simp only [fL,wq] at a
     exact E a.2.1
theorem aU {w w':World} {B e size n:Nat} {v:Value} {xs:List Value} (h:w.ownsRow B e size v n xs) (hm:Wk w w'):w'.ownsRow B e size v n xs:=db h hm fun _ _ x=>x
theorem dI {w:World} {B e size n:Nat} {v:Value} {xs:List Value} (h:w.ownsRow B e size v n xs) {k:Nat} (hk:v.ownBlock=some k):B≤k∧k < w.heap.size:=h.lt k hk
theorem Wk.own {a w w':World} {B e size n:Nat} {v:Value} {xs:List Value} (h:Wk a w) (i:w.ownsRow B e size v n xs) (hm:Md (fun k=>v.ownBlock=some k) w w') (q:a.heap.size≤B):Wk a w':=
 Md.trans' h hm (fun k hk j=>by have :=(dI i j).1; omega)
theorem tD {w:World} {B e size n:Nat} {v:Value} {xs:List Value} (h:w.ownsRow B e size v n xs):∃ a cap,v= .slice a n cap∧aI w.heap a xs∧n≤cap∧(∀ k,v.ownBlock=some k→a=some ⟨k,0,none⟩∧B≤k∧k < w.heap.size)∧(v.ownBlock=none→xs= []):=by
 rcases h.2 with ⟨rfl,rfl⟩ | ⟨g,cap,cur,rfl,q,i,hle,_,_,A⟩
 · have :xs= []:=fO<|by simpa using h.1
   subst this
   exact ⟨none,0,aa,aI.nil _ _,cj _,fun k hk=>by simp [iH] at hk,fun _=>rfl⟩
 · refine ⟨_,cap,aa,⟨fun _=>rfl,fun j u hu=> ?_⟩,hle,fun k hk=> ?_,fun hk=>by simp [iH] at hk⟩
   · show aO w.heap g (0 +j)=_
     rw [gQ,a6 i]
     rw [← A,o3] at hu
     split at hu
     · simpa using hu
     · cases hu
   · simp only [iH,fL] at hk; subst hk
     exact ⟨aa,q,(dm.1 i).1⟩
theorem aX {w:World} {B e size n cap:Nat} {a:Option Addr} {xs:List Value} (h:w.ownsRow B e size (.slice a n cap) n xs):n≤cap∧aI w.heap a xs:=by
 obtain ⟨q,A,i,j,hle,_⟩:=tD h
 simp only [mR,true_and] at i
 obtain ⟨rfl,rfl⟩:=i
 exact ⟨hle,j⟩
theorem ep {w:World} {B B' e size n:Nat} {v:Value} {xs:List Value} (h:w.ownsRow B e size v n xs) (a:B'≤B):w.ownsRow B' e size v n xs:=by
 refine ⟨h.1,?_⟩
 rcases h.2 with h | ⟨g,cap,cur,h1,h2,r⟩
 · exact .inl h
 · exact .inr ⟨g,cap,cur,h1,fW a h2,r⟩
theorem aI.drop {h:Array Obj} {a:Option Addr} {xs:List Value} (i:aI h a xs) {cap k size:Nat} (C:xs.length≤cap*size):aI h (gh a cap k size) (xs.drop<|k*size):=by
 unfold gh
 by_cases hk:cap=k
 · rw [if_pos hk,gP (by rw [← hk]; exact C)]; exact aI.nil _ _
 · rw [if_neg hk]
   by_cases q:xs= []
   · subst q; rw [List.drop_nil]; exact aI.nil _ _
   · have A:=i.ok q
     rw [A]
     simp only [mh,mr]
     refine ⟨fun _=>rfl,fun j u hu=> ?_⟩
     rw [ri] at hu
     have :=i.aO _ _ hu
     show Hb.aO h (bk a) (fo a+k*size+j)=_
     rw [NT]; exact this
theorem WC {w:World} {B e size n cap:Nat} {a:Option Addr} {xs:List Value} (h:w.ownsRow B e size (.slice a n cap) n xs) (j:xs≠[]):B≤bk a∧bk a < w.heap.size:=by
 obtain ⟨q,A,i,_,_,h1,h2⟩:=tD h
 simp only [mR,true_and] at i
 obtain ⟨rfl,rfl⟩:=i
 cases hk:(bO a n cap).ownBlock with
 | none=>exact absurd (h2 hk) j
 | some k=>
   obtain ⟨rfl,h3,h4⟩:=h1 k hk
   exact ⟨h3,h4⟩
section
variable {P:Program} {N:Fm} {σ:Nat→Value} {w:World} {dst:Option Nat} {ty:TypeId} {pos :String} {af:Array Edge} {g:Option (Nat×Bool)} {x y z:Operand} {K:(Nat→Value)→World→Prop}
end
end Go.Hb
namespace Go.Hb
open Go.RowKit
section
variable {P:Program} {md:sn} {ops:Array Oper} {Q:Exit→Act→World→Prop} {S:World→Prop} {r:Nat}
def pZ (P:Program) (md:sn) (ops:Array Oper) (Q:Exit→Act→World→Prop) (S:World→Prop) (r:Nat):Nat→Array Bool→Act→World→Prop
 | 0,a8,a,w=>jo md ops a8= []∧Q .normal a w
 | fuel+1,a8,a,w=>
   (jo md ops a8= []→Q .normal a w)∧
   ∀ i∈jo md ops a8,wpOp P ops Q i (fun j w'=>((a8.setIfInBounds i true).getD r false =false→S w')∧pZ P md ops Q S r fuel (a8.setIfInBounds i true) j w') a w
theorem Mp:∀ (fuel:Nat) (a8:Array Bool) (a:Act) (w:World),pZ P md ops Q S r fuel a8 a w→wpAny P md ops Q fuel a8 a w
 | 0,_,_,_,h=>h
 | fuel+1,_,_,_,h=>⟨h.1,fun i hi=>wpOp_mono (fun j w' q=>Mp fuel _ j w' q.2)<|h.2 i hi⟩
theorem Zz {i:Nat} {E:Oper} {v:Value} (hi:ops[i]? =some E) (ai:∀ (j:Nat) (o:Oper) cs b,ops[j]? =some o→o.op≠.select cs b)
 (al:∀ c a w,Q (.panic c) (a.put E.dst v) w→Q (.panic c) a w) (av:∀ o,ops[r]? =some o→∃ x∈o.after,jX md x=true∧x.on=i) (ao:i≠r):
 ∀ (fuel:Nat) (a8:Array Bool) (a:Act) (w:World),
   (∀ j A,ops[j]? =some A→j≠i→a8.getD j true =false→(∀ x∈A.after,jX md x=true→x.on≠i)→E.apart ops A=true)→
   i∈jo md ops a8→YieldsIf P ops S E v a→S w→a8.getD r false =false→
   pZ P md ops Q S r fuel (a8.setIfInBounds i true) (a.put E.dst v) w→pZ P md ops Q S r (fuel+1) a8 a w:=by
 intro fuel
 induction fuel with
 | zero=>
   intro a8 a w _ C M G _ H
   refine ⟨fun h=>(by rw [h] at C; cases C),fun j I=> ?_⟩
   by_cases q:j=i
   · subst q; exact M.wpOp hi G ⟨fun _=>G,H⟩
   · have :=ready_mono I q
     rw [H.1] at this
     cases this
 | succ fuel aw=>
   intro a8 a w Z C M G ae H
   refine ⟨fun h=>(by rw [h] at C; cases C),fun j I=> ?_⟩
   by_cases q:j=i
   · subst q; exact M.wpOp hi G ⟨fun _=>G,H⟩
   · have h1:=H.2 j<|ready_mono I q
     obtain ⟨ac,A,J,am⟩:=mem_ready.1 I
     have ah:∀ x∈A.after,jX md x=true→x.on≠i:=fun x V U heq=>by
      have h1:=am x V U
      have Y:=(mem_ready.1 C).1
      rw [heq] at h1
      rcases e8 i a8.size with O | O
      · simp [O] at Y h1; rw [Y] at h1; cases h1
      · simp [tW O] at h1
     have ab:j≠r:=by
      rintro rfl
      obtain ⟨x,V,U,au⟩:=av A J
      exact ah x V U au
     have aq:(a8.setIfInBounds j true).getD r false =false :=by rw [getD_set_ne false ab]; exact ae
     have ag:((a8.setIfInBounds i true).setIfInBounds j true).getD r false =false :=by rw [getD_set_ne false ab,getD_set_ne false ao]; exact ae
     have h2:=wpOp_putIf J (Z j A J q ac ah) (fun cs b=>ai i E cs b hi) (fun cs b=>ai j A cs b J) al M h1
     have an:∀ k ok,ops[k]? =some ok→k≠i→(a8.setIfInBounds j true).getD k true =false→
      (∀ x∈ok.after,jX md x=true→x.on≠i)→E.apart ops ok=true :=fun k ok hk ap aj ar=>by
      refine Z k ok hk ap ?_ ar
      by_cases aa:j=k
      · subst aa; exact ac
      · rw [getD_set_ne true aa] at aj; exact aj
     refine wpOp_mono (fun ak w' h3=>⟨fun _=>h3.2.1 ag,aw (a8.setIfInBounds j true) ak w' an (ready_mono C<|Ne.symm q) h3.1 (h3.2.1 ag) aq ?_⟩) h2
     rw [D7 _ _ q]
     exact h3.2.2
end
section
variable {P:Program} {N:Fm} {ops:Array Oper} {Q:Exit→(Nat→Value)→World→Prop} {σ:Nat→Value} {w:World} {S:World→Prop} {r fuel:Nat} {a8:Array Bool}
 {d':Option Nat} {d:Nat} {op:Op} {ty:TypeId} {pos :String} {af:Array Edge} {v:Value}
def iG (P:Program) (N:Fm) (ops:Array Oper) (Q:Exit→(Nat→Value)→World→Prop) (S:World→Prop) (r fuel:Nat) (a8:Array Bool) (σ:Nat→Value) (w:World):Prop :=
 pZ P .any ops (lift N Q) S r fuel a8 (act N σ) w
theorem eM {id:Nat} {l:List Oper} (S:World→Prop) (r:Nat) (a:tC N.r l=true) (hm:P.follows .mixedOrders=true) (i:S w.drew) (h:iG P N l.toArray Q S r l.length (tY l.length false) σ w.drew):dW P N (.region id l.toArray true) Q σ w:=by
 exact Fq a hm<|Mp _ _ _ _<|by rw [oo]; exact h
def IB (F:List Nat) (ops:Array Oper) (a8:Array Bool) (r i:Nat):Bool:=
 ju F ops a8 i && !(a8.getD r false) && i !=r && (match ops[r]? with | some o=>o.after.toList.any (fun x=>jX .any x && x.on==i) | none=>false)
theorem lq (i:Nat) (hi:ops[i]? =some ⟨some d,op,ty,pos,af,none⟩) (q:IB N.F ops a8 r i=true)
 (I:∀ w,S w→(execOp (ev N σ) ⟨some d,op,ty,pos,af,none⟩).run P w= .ok (.value v) w) (j:S w)
 (k:iG P N ops Q S r fuel (a8.setIfInBounds i true) (dD σ d v) w):iG P N ops Q S r (fuel+1) a8 σ w:=by
 simp only [IB,ju,gO,zI,bne_iff_ne,ne_eq] at q
 obtain ⟨⟨⟨⟨⟨⟨A,C⟩,hf3⟩,hfF⟩,hf4⟩,hf5⟩,hf6⟩:=q
 rw [hi] at hfF
 refine Zz hi (En A) (fun c a w=>oJ hfF c a w) (fun o E=> ?_) hf5 fuel a8 _ w (Em hi C) (by simpa using hf3) (.inl ⟨jO _ rfl _,fun w j=> ?_⟩) j hf4 ?_ (v:=v)
 · rw [E] at hf6
   simp only [Nn,gO,beq_iff_eq] at hf6
   obtain ⟨x,G,h1,h2⟩:=hf6
   exact ⟨x,wh.1 G,h1,h2⟩
 · rw [gU]; exact I w j
 · rw [jH]; exact k
theorem Jr (i:Nat) (hi:ops[i]? =some ⟨d',op,ty,pos,af,none⟩) (q:lh ops a8 i=true)
 (h:dM P N ⟨d',op,ty,pos,af,none⟩ σ w (fun σ w=>((a8.setIfInBounds i true).getD r false =false→S w)∧iG P N ops Q S r fuel (a8.setIfInBounds i true) σ w)):iG P N ops Q S r (fuel+1) a8 σ w:=by
 have a:jo .any ops a8= [i]:=by simpa [lh] using q
 refine ⟨fun j=>absurd (a ▸ j) (by simp),fun k hk=> ?_⟩
 rw [a] at hk
 obtain rfl :k=i:=by simpa using hk
 unfold wpOp
 simp only [hi]
 rw [if_pos (jO _ rfl _)]
 exact .inl<|tS h fun _ _ hk=>hk
theorem gL (i:Nat) (hi:ops[i]? =some ⟨d',op,ty,pos,af,none⟩) (a:lh ops a8 i=true)
 (h:dM P N ⟨d',op,ty,pos,af,none⟩ σ w (fun σ w=>S w∧iG P N ops Q S r fuel (a8.setIfInBounds i true) σ w)):iG P N ops Q S r (fuel+1) a8 σ w:=
 Jr i hi a (Ms h fun _ _ hk=>⟨fun _=>hk.1,hk.2⟩)
theorem dG (i:Nat) (hi:ops[i]? =some ⟨d',op,ty,pos,af,none⟩) (q:lh ops a8 i=true) (j:(a8.setIfInBounds i true).getD r false =true)
 (h:dM P N ⟨d',op,ty,pos,af,none⟩ σ w (fun σ w=>iG P N ops Q S r fuel (a8.setIfInBounds i true) σ w)):iG P N ops Q S r (fuel+1) a8 σ w:=
 Jr i hi q (Ms h fun _ _ hk=>⟨fun a=>absurd (a.symm.trans j) eb,hk⟩)
theorem eL (i:(jo .any ops a8).isEmpty=true) (h:Q .normal σ w):iG P N ops Q S r fuel a8 σ w:=by
 have a:jo .any ops a8= []:=by simpa using i
 cases fuel with
 | zero=>exact ⟨a,σ,rfl,h⟩
 | succ fuel=>exact ⟨fun _=>⟨σ,rfl,h⟩,by rw [a]; simp⟩
attribute [irreducible] iG
end
end Go.Hb
namespace Go.Hb
open Go.RowKit
section
variable {P:Program} {md:sn} {ops:Array Oper} {Q:Exit→Act→World→Prop} {S:World→Prop} {r:Nat}
inductive rl (md:sn) (ops:Array Oper) (i:Nat):Nat→Prop
 | one {r o e} :ops[r]? =some o→e∈o.after→jX md e=true→e.on=i→rl md ops i r
 | more {r o e} :ops[r]? =some o→e∈o.after→jX md e=true→rl md ops i e.on→rl md ops i r
def sF (md:sn) (ops:Array Oper) (a8:Array Bool):Prop := ∀ (j:Nat) (o:Oper),ops[j]? =some o→a8.getD j false =true→∀ e∈o.after,jX md e=true→a8.getD e.on false =true
theorem IF {a8:Array Bool} {j k:Nat} (h:a8.getD k false =true):(a8.setIfInBounds j true).getD k false =true :=by
 by_cases e:j=k
 · subst e
   by_cases a:j < a8.size
   · simp [a]
   · simp [a] at h
 · rw [getD_set_ne false e]; exact h
theorem sF.set {a8:Array Bool} {j:Nat} (h:sF md ops a8) (C:j∈jo md ops a8):sF md ops (a8.setIfInBounds j true):=by
 intro k o hk q e he i
 obtain ⟨_,G,E,A⟩:=mem_ready.1 C
 by_cases a:j=k
 · subst a
   rw [E] at hk; cases hk
   exact IF<|A e he i
 · rw [getD_set_ne false a] at q
   exact IF<|h k o hk q e he i
theorem rl.a8 {a8:Array Bool} {i r:Nat} (hd:rl md ops i r) (q:sF md ops a8) (a:∀ o,ops[r]? =some o→∀ e∈o.after,jX md e=true→a8.getD e.on false =true):a8.getD i false =true :=by
 induction hd with
 | one h1 h2 h3 h4=>rw [← h4]; exact a _ h1 _ h2 h3
 | more h1 h2 h3 _ C=>exact C fun o A e he j=>q _ o A (a _ h1 _ h2 h3) e he j
theorem Zy {i:Nat} {C:Oper} {v:Value} (hi:ops[i]? =some C) (aj:∀ (j:Nat) (o:Oper) cs b,ops[j]? =some o→o.op≠.select cs b)
 (am:∀ c a w,Q (.panic c) (a.put C.dst v) w→Q (.panic c) a w) (hd:rl md ops i r) (ap:i≠r):
 ∀ (fuel:Nat) (a8:Array Bool) (a:Act) (w:World),sF md ops a8→
   (∀ j E,ops[j]? =some E→j≠i→a8.getD j true =false→(∀ x∈E.after,jX md x=true→x.on≠i)→C.apart ops E=true)→
   i∈jo md ops a8→YieldsIf P ops S C v a→S w→a8.getD r false =false→
   pZ P md ops Q S r fuel (a8.setIfInBounds i true) (a.put C.dst v) w→pZ P md ops Q S r (fuel+1) a8 a w:=by
 intro fuel
 induction fuel with
 | zero=>
   intro a8 a w _ _ A M G _ H
   refine ⟨fun h=>(by rw [h] at A; cases A),fun j I=> ?_⟩
   by_cases q:j=i
   · subst q; exact M.wpOp hi G ⟨fun _=>G,H⟩
   · have :=ready_mono I q
     rw [H.1] at this
     cases this
 | succ fuel ax=>
   intro a8 a w Y Z A M G ag H
   refine ⟨fun h=>(by rw [h] at A; cases A),fun j I=> ?_⟩
   by_cases q:j=i
   · subst q; exact M.wpOp hi G ⟨fun _=>G,H⟩
   · have h1:=H.2 j<|ready_mono I q
     obtain ⟨ae,E,J,V⟩:=mem_ready.1 I
     have aa:a8.getD i false =false :=by
      have U:=(mem_ready.1 A).1
      rcases e8 i a8.size with O | O
      · simpa [O] using U
      · simp [O] at U
     have av:∀ x∈E.after,jX md x=true→x.on≠i:=fun x aw an heq=>by
      have h1:=V x aw an
      rw [heq,aa] at h1; cases h1
     have ac:j≠r:=by
      rintro rfl
      have :=hd.a8 Y fun o ai=>by rw [J] at ai; cases ai; exact V
      rw [aa] at this; cases this
     have ar:(a8.setIfInBounds j true).getD r false =false :=by rw [getD_set_ne false ac]; exact ag
     have ah:((a8.setIfInBounds i true).setIfInBounds j true).getD r false =false :=by rw [getD_set_ne false ac,getD_set_ne false ap]; exact ag
     have h2:=wpOp_putIf J (Z j E J q ae av) (fun cs b=>aj i C cs b hi) (fun cs b=>aj j E cs b J) am M h1
     have ao:∀ k ok,ops[k]? =some ok→k≠i→(a8.setIfInBounds j true).getD k true =false→
      (∀ x∈ok.after,jX md x=true→x.on≠i)→C.apart ops ok=true :=fun k ok hk aq ak au=>by
      refine Z k ok hk aq ?_ au
      by_cases ab:j=k
      · subst ab; exact ae
      · rw [getD_set_ne true ab] at ak; exact ak
     refine wpOp_mono (fun al w' h3=>⟨fun _=>h3.2.1 ah,ax (a8.setIfInBounds j true) al w' (Y.set I) ao (ready_mono A<|Ne.symm q) h3.1 (h3.2.1 ah) ar ?_⟩) h2
     rw [D7 _ _ q]
     exact h3.2.2
theorem ZA {i:Nat} {C:Oper} {v:Value} (hi:ops[i]? =some C) (ae:∀ (j:Nat) (o:Oper) cs b,ops[j]? =some o→o.op≠.select cs b)
 (ai:∀ c a w,Q (.panic c) (a.put C.dst v) w→Q (.panic c) a w) (O:i≠r):
 ∀ (fuel:Nat) (a8:Array Bool) (a:Act) (w:World),
   (∀ j E,ops[j]? =some E→j≠i→a8.getD j true =false→(∀ x∈E.after,jX md x=true→x.on≠i)→C.apart ops E=true)→
   i∈jo md ops a8→YieldsIf P ops (fun _=>True) C v a→(a8.getD r false =false→S w)→
   pZ P md ops Q S r fuel (a8.setIfInBounds i true) (a.put C.dst v) w→pZ P md ops Q S r (fuel+1) a8 a w:=by
 intro fuel
 induction fuel with
 | zero=>
   intro a8 a w _ A I M H
   refine ⟨fun h=>(by rw [h] at A; cases A),fun j G=> ?_⟩
   by_cases q:j=i
   · subst q; exact I.wpOp hi trivial ⟨fun h=>M (by rw [getD_set_ne false O] at h; exact h),H⟩
   · have :=ready_mono G q
     rw [H.1] at this
     cases this
 | succ fuel ar=>
   intro a8 a w Z A I M H
   refine ⟨fun h=>(by rw [h] at A; cases A),fun j G=> ?_⟩
   by_cases q:j=i
   · subst q; exact I.wpOp hi trivial ⟨fun h=>M (by rw [getD_set_ne false O] at h; exact h),H⟩
   · have h1:=H.2 j<|ready_mono G q
     obtain ⟨ac,E,U,aj⟩:=mem_ready.1 G
     have am:a8.getD i false =false :=by
      have V:=(mem_ready.1 A).1
      rcases e8 i a8.size with J | J
      · simpa [J] using V
      · simp [J] at V
     have ap:∀ x∈E.after,jX md x=true→x.on≠i:=fun x aq ak heq=>by
      have h1:=aj x aq ak
      rw [heq,am] at h1; cases h1
     have h2:=wpOp_putIf U (Z j E U q ac ap) (fun cs b=>ae i C cs b hi) (fun cs b=>ae j E cs b U) ai I h1
     have al:∀ k ok,ops[k]? =some ok→k≠i→(a8.setIfInBounds j true).getD k true =false→
      (∀ x∈ok.after,jX md x=true→x.on≠i)→C.apart ops ok=true :=fun k ok hk an ag ao=>by
      refine Z k ok hk an ?_ ao
      by_cases ab:j=k
      · subst ab; exact ac
      · rw [getD_set_ne true ab] at ag; exact ag
     have Y:(a8.setIfInBounds i true).setIfInBounds j true =(a8.setIfInBounds j true).setIfInBounds i true :=D7 _ _ fun e=>q e.symm
     have aa:(a8.setIfInBounds j true).getD r false =false→((a8.setIfInBounds i true).setIfInBounds j true).getD r false =false :=fun h=>by rw [Y,getD_set_ne false O]; exact h
     refine wpOp_mono (fun ah w' h3=>⟨fun h=>h3.2.1 (aa h),ar (a8.setIfInBounds j true) ah w' al (ready_mono A<|Ne.symm q) h3.1 (fun h=>h3.2.1<|aa h) ?_⟩) h2
     rw [← Y]
     exact h3.2.2
end
section
variable {P:Program} {N:Fm} {ops:Array Oper} {Q:Exit→(Nat→Value)→World→Prop} {σ:Nat→Value} {w:World} {S:World→Prop} {r fuel:Nat} {a8:Array Bool}
 {d:Nat} {op:Op} {ty:TypeId} {pos :String} {af:Array Edge} {v:Value}
def xO (ops:Array Oper) (i:Nat):Nat→Nat→Bool
 | 0,_=>false
 | f+1,r=>match ops[r]? with | some o=>o.after.toList.any (fun e=>jX .any e && (e.on==i || xO ops i f e.on)) | none=>false
theorem Sq {i:Nat} :∀ (f r:Nat),xO ops i f r=true→rl .any ops i r:=by
 intro f
 induction f with
 | zero=>intro r h; cases h
 | succ f q=>
   intro r h
   rw [xO] at h
   split at h
   · rename_i o j
     simp only [Nn,gO,Ea,beq_iff_eq] at h
     obtain ⟨e,he,a,h⟩:=h
     rcases h with h | h
     · exact .one j (wh.1 he) a h
     · exact .more j (wh.1 he) a<|q _ h
   · cases h
def Bg (ops:Array Oper) (a8:Array Bool):Bool:=(jZ ops.size).all fun j=> !a8.getD j false || match ops[j]? with | some o=>o.after.toList.all (fun e=> !jX .any e || a8.getD e.on false) | none=>true
theorem Rg (h:Bg ops a8=true):sF .any ops a8:=by
 intro j o a q e he i
 unfold Bg at h
 rw [me] at h
 have h1:=h j<|uq.2 (dm.1 a).1
 rw [q,a] at h1
 simp only [Bool.not_true,Bool.false_or,me,Ea,zI] at h1
 rcases h1 e (wh.2 he) with h2 | h2
 · rw [i] at h2; cases h2
 · exact h2
def Ce (F:List Nat) (ops:Array Oper) (a8:Array Bool) (r i:Nat):Bool:=ju F ops a8 i && !(a8.getD r false) && i !=r && Bg ops a8 && xO ops i ops.size r
def yx (F:List Nat) (ops:Array Oper) (a8:Array Bool) (r i:Nat):Bool:=ju F ops a8 i && i !=r
theorem kD (i:Nat) (hi:ops[i]? =some ⟨some d,op,ty,pos,af,none⟩) (q:Ce N.F ops a8 r i=true)
 (E:∀ w,S w→(execOp (ev N σ) ⟨some d,op,ty,pos,af,none⟩).run P w= .ok (.value v) w) (j:S w)
 (k:iG P N ops Q S r fuel (a8.setIfInBounds i true) (dD σ d v) w):iG P N ops Q S r (fuel+1) a8 σ w:=by
 simp only [Ce,ju,gO,zI,bne_iff_ne,ne_eq] at q
 obtain ⟨⟨⟨⟨⟨⟨⟨A,C⟩,hf3⟩,hfF⟩,hf4⟩,hf5⟩,hf6⟩,hf7⟩:=q
 rw [hi] at hfF
 unfold iG at*
 refine Zy hi (En A) (fun c a w=>oJ hfF c a w) (Sq _ _ hf7) hf5 fuel a8 _ w (Rg hf6) (Em hi C) (by simpa using hf3) (.inl ⟨jO _ rfl _,fun w j=> ?_⟩) j hf4 ?_ (v:=v)
 · rw [gU]; exact E w j
 · rw [jH]; exact k
theorem dz (i:Nat) (hi:ops[i]? =some ⟨some d,op,ty,pos,af,none⟩) (j:yx N.F ops a8 r i=true)
 (E:∀ w,(execOp (ev N σ) ⟨some d,op,ty,pos,af,none⟩).run P w= .ok (.value v) w) (q:a8.getD r false =false→S w)
 (k:iG P N ops Q S r fuel (a8.setIfInBounds i true) (dD σ d v) w):iG P N ops Q S r (fuel+1) a8 σ w:=by
 simp only [yx,ju,gO,bne_iff_ne,ne_eq] at j
 obtain ⟨⟨⟨⟨A,C⟩,hf3⟩,hfF⟩,hf5⟩:=j
 rw [hi] at hfF
 unfold iG at*
 refine ZA hi (En A) (fun c a w=>oJ hfF c a w) hf5 fuel a8 _ w (Em hi C) (by simpa using hf3) (.inl ⟨jO _ rfl _,fun w _=> ?_⟩) q ?_ (v:=v)
 · rw [gU]; exact E w
 · rw [jH]; exact k
end
end Go.Hb
namespace Go.Hb
def Ma:Nat→Nat→List UInt8
 | 0,n=> [j0 n]
 | f+1,n=>if n < 128 then [j0 n] else j0 (n % 128 +128)::Ma f (n / 128)
def Y9 (n:Nat):List UInt8:=Ma n n
def frame:List (List UInt8)→List UInt8
 | []=> []
 | r::l=>Y9 r.length++(r++frame l)
theorem fD {α:Type} (l:List α) (i:Nat) (d:α) (h:i < l.length):l.take (i+1)=l.take i++ [l.getD i d]:=by
 rw [List.take_succ_eq_append_getElem h]; simp [cQ,h]
end Go.Hb
namespace Go.Hb
open Go.RowKit
def U8 (l:List UInt8):List Value:=l.map fun b=>jh .u8 b.toNat
theorem xp (l:List UInt8):(U8 l).length=l.length:=by simp [U8]
theorem xo (a b:List UInt8):U8 (a++b)=U8 a++U8 b:=by simp [U8]
theorem Of (l:List UInt8):(U8 l).all gz=true :=by
 rw [me]
 intro u hu
 simp only [U8,o4] at hu
 obtain ⟨b,_,rfl⟩:=hu
 rfl
def xA (P:Program) (t e u:TypeId):Bool:=
 fV P t e 1 1 && (match P.underlying e with | some (.int .u8)=>true | _=>false) && (match P.underlying u with | some .string=>true | _=>false) &&
  (match P.info? e with | some i=>(match i.zero with | some (.int .u8 0)=>true | _=>false) | none=>false)
theorem OY {P:Program} {t e u:TypeId} (h:xA P t e u=true):
 fV P t e 1 1=true∧P.underlying e=some (.int .u8)∧P.underlying u=some .string∧∃ i,P.info? e=some i∧i.zero=some (.int .u8 0):=by
 simp only [xA,gO] at h
 obtain ⟨⟨⟨h1,h2⟩,h3⟩,h4⟩:=h
 refine ⟨h1,?_,?_,?_⟩
 · split at h2
   · rename_i h; exact h
   · cases h2
 · split at h3
   · rename_i h; exact h
   · cases h3
 · split at h4
   · rename_i i hi
     split at h4
     · rename_i h; exact ⟨i,hi,h⟩
     · cases h4
   · cases h4
section
variable {P:Program} {N:Fm} {σ:Nat→Value} {w:World} {dst:Option Nat} {ty:TypeId} {pos :String} {af:Array Edge} {g:Option (Nat×Bool)} {x y z:Operand} {K:(Nat→Value)→World→Prop}
theorem foldl_push (l:List UInt8) (r:ByteArray):(l.map fun b=>(b.toNat:Int)).foldl (fun r n=>r.push<|j0 n.toNat) r=⟨r.data++l.toArray⟩:=by
 induction l generalizing r with
 | nil=>simp
 | cons b l a=>
   simp only [um,sv]
   rw [a]
   apply ByteArray.ext
   simp [ByteArray.push]
theorem m8 {t e u n c:Nat} {a:Option Addr} {l:List UInt8} (h:xA P t e u=true) (I:ev N σ x= .slice a n c) (i:aI w.heap a (U8 l)) (q:l.length=n):
 (execOp (ev N σ) ⟨dst,.convert t u x,ty,pos,af,g⟩).run P w= .ok (.value<|str l) w:=by
 obtain ⟨h1,h2,h3,_⟩:=OY h
 obtain ⟨hu,_⟩:=r4 h1
 have C:(MV<|.slice a n c).run P w= .ok (str l) w:=by
  by_cases he:l= []
  · subst he
    cases a with
    | none=>simp [MV,str]; rfl
    | some a=>
      subst q
      have :=run_bytesToString (P:=P) w a 0 c []<|by simp [loadCells,loadCellsFrom]
      exact this.trans aa
  · have A:=i.ok<|by simpa [U8] using he
    have G:(loadCells ⟨bk a,fo a,none⟩ n).run P w= .ok ((l.map fun b=>(b.toNat:Int)).map<|jh .u8).toArray w:=by
     subst q
     have :=run_loadCells_list (P:=P) w ⟨bk a,fo a,none⟩ (U8 l) fun j v E=>by
      rw [mr,nI]
      exact i.aO j v E
     rw [xp] at this
     rw [this]
     simp [U8]
    rw [A,run_bytesToString w _ n c _ G,foldl_push]
    simp [str,ByteArray.empty,ByteArray.emptyWithCapacity]
    rfl
 simp [execOp,I,run_convert_bytes_string w t u e a n c hu h2 h3,C]
theorem Zg {at_:Array TypeId} {v:Value} {a:Option Addr} {n c:Nat} (i:ev N σ x= .slice a n c) (h:a=none∨c≠0):
 (execOp (ev N σ) ⟨dst,.call ⟨.builtin .unsafeSliceData,#[x],at_⟩,ty,pos,af,g⟩).run P w= .ok (.value<|.pointer a) w:=by
 have _:=v
 have :(Builtin.unsafeSliceData_ at_ ty #[.slice a n c]).run P w= .ok (.pointer a) w:=by
  cases a with
  | none=>exact Lib.run_unsafeSliceData_nil w at_ ty n c
  | some a=>exact Lib.run_unsafeSliceData_row w at_ ty a n c<|h.resolve_left<|by simp
 simp [execOp,resolve,invoke,builtin,i,this]
def ptrTo (P:Program) (i e:TypeId):Bool:=match P.underlying i with | some (.pointer a)=>a==e && P.cellsOf e==1 | _=>false
theorem Zh {C it e B n c:Nat} {a:Option Addr} {l:List UInt8} {xs:List Value} (hp:ptrTo P C e=true) (I:ev N σ x= .pointer a) (J:ev N σ y= .int .i64 n) (A:w.ownsRow B e 1 (.slice a n c) n xs)
 (ah:xs=U8 l) (ai:n≤9223372036854775807)
 (k:∀ w',Md (fun k=>(bO a n c).ownBlock=some k) w w'→w'.heap.size=w.heap.size→K (iF σ dst<|str l) w'):
 dM P N ⟨dst,.call ⟨.builtin .unsafeString,#[x,y],#[C,it]⟩,ty,pos,af,g⟩ σ w K:=by
 subst ah
 have i:l.length=n:=by have :=A.1; simpa [U8] using this
 unfold ptrTo at hp
 split at hp
 case h_2=>cases hp
 rename_i E hu
 simp only [gO,beq_iff_eq] at hp
 obtain ⟨rfl,O⟩:=hp
 by_cases he:l= []
 · subst he
   obtain rfl :n=0:=i.symm
   refine oc (w':=w) (v:=str []) ?_<|k w (Md.refl _ _) aa
   simp [execOp,resolve,invoke,builtin,I,J,Lib.run_unsafeString_none]
   rfl
 · rcases A.2 with ⟨h,M⟩ | ⟨q,cap,cur,h,_,V,hle,_,ag,aj⟩
   · subst M; simp only [List.length_eq_zero_iff] at i; exact absurd i he
   · simp only [mR,true_and] at h
     obtain ⟨rfl,rfl⟩:=h
     have ae:w.shape? q=some (E,cur.size):=by simp [Ez,V]
     have ac:=Lib.run_unsafeString_row (P:=P) w C it ty E hu O q cur.size ae l he (by rw [i,ag]; omega) ab (fun j u hu=>by
      obtain ⟨ad,cp,G,U,_,hk,_⟩:=tD A
      simp only [mR,true_and] at G
      obtain ⟨rfl,rfl⟩:=G
      rw [mr,nI]
      exact U.aO j _ (by simp [U8,hu]))
     refine oc (w':=w.freeze ⟨q,0,none⟩ l.length) (v:=str l) ?_ (k _ ⟨?_,?_,?_,?_⟩ ?_)
     · simp [execOp,resolve,invoke,builtin,I,J,← i,ac,str]
     · unfold wO; split <;> rfl
     · unfold wO; split <;> rfl
     · unfold wO; split <;> simp
     · intro k hk Y
       have Z:k≠q:=fun e=>Y<|by simp [iH,e]
       unfold wO
       split
       · rfl
       · simp only [Array.getElem?_modify]; rw [if_neg (fun e=>Z e.symm)]
     · unfold wO; split <;> simp
def vZ (P:Program) (j up e n:Nat):Bool:=
 (match P.underlying j with | some (.pointer a)=>a==e | _=>false) && (match P.underlying up with | some .unsafePointer=>true | _=>false) && P.cellsOf e==n && iR 0 n && (match P.info? e with | some i=>i.size==n | _=>false)
theorem Mc {P:Program} {a up e n:Nat} (h:vZ P a up e n=true):P.underlying a=some (.pointer e)∧P.underlying up=some .unsafePointer∧P.cellsOf e=n∧0 < n∧∃ i,P.info? e=some i∧i.size=n:=by
 simp only [vZ,gO] at h
 obtain ⟨⟨⟨⟨h1,h2⟩,h3⟩,h4⟩,h5⟩:=h
 refine ⟨?_,?_,by simpa using h3,sy (uv 0) (uu h4),?_⟩
 · split at h1
   · rename_i h; simp only [beq_iff_eq] at h1; rw [h,h1]
   · cases h1
 · split at h2
   · rename_i h; exact h
   · cases h2
 · split at h5
   · rename_i i hi; exact ⟨i,hi,by simpa using h5⟩
   · cases h5
theorem YV {a up e n b:Nat} {L:List Value} (h:vZ P a up e n=true) (E:ev N σ x= .pointer (some ⟨b,0,none⟩)) (j:w.heap[b]? =some (.cells L.toArray e (0,0))) (q:L.length=n):
 (execOp (ev N σ) ⟨dst,.convert a up x,ty,pos,af,g⟩).run P w= .ok (.value<|.pointer<|some ⟨b,0,none⟩) w:=by
 obtain ⟨h1,h2,h3,h4,i,hi,hs⟩:=Mc h
 have C:w.shape? b=some (e,L.length):=by simp [Ez,j]
 have A:¬n=0:=ab
 simp [execOp,E,convert,eu h1,eu h2,MX,MW,viewAt,C,cellsIn,q,sizeOf,jc hi,hs,A]
theorem TM {j up e n b:Nat} {L:List Value} (h:vZ P j up e n=true) (G:ev N σ x= .pointer (some ⟨b,0,none⟩)) (q:w.heap[b]? =some (.cells L.toArray e (0,0))) (A:L.length=n):
 (execOp (ev N σ) ⟨dst,.convert up j x,ty,pos,af,g⟩).run P w= .ok (.value<|.pointer<|some ⟨b,0,none⟩) w:=by
 obtain ⟨h1,h2,h3,h4,i,hi,hs⟩:=Mc h
 have E:w.shape? b=some (e,L.length):=by simp [Ez,q]
 have a:¬n=0:=ab
 have C:liesAt P P.depth e (L.length / P.cellsOf e) 0 e 1=true :=by
  have hd:P.depth=(2 *(P.types.size+Made.depth)+1)+1:=rfl
  rw [hd]
  simp only [liesAt,Ea]
  left
  rw [hd]
  simp [rowAt,h3,a,A,sameLayout,Nat.div_self h4]
 simp [execOp,G,convert,eu h1,eu h2,MX,MW,viewAt,E,variablesAt,sizeOf,jc hi,hs,a,C]
theorem Wa {t A e:TypeId} {a:Addr} (hu:P.underlying t=some (.pointer e)) (hs:(P.info? e).isSome=true) (j:ev N σ x= .pointer (some a)) (q:ev N σ y= .pointer (some a)):
 (execOp (ev N σ) ⟨dst,.binOp .neq t x y A,ty,pos,af,g⟩).run P w= .ok (.value<|.bool false) w:=by
 obtain ⟨i,hi⟩:=o8.1 hs
 have he:∀ d,(ub (d+1) t (.pointer<|some a)<|.pointer<|some a).run P w= .ok true w:=by
  intro d
  simp [ub,eu hu,sizeOf,jc hi,sameAddr]
 have h:(binOp .neq t (.pointer<|some a)<|.pointer<|some a).run P w= .ok (.bool false) w:=by
  have :=he 9999
  simp only [binOp]
  have h2:(Ej t (.pointer<|some a)<|.pointer<|some a).run P w= .ok true w:=this
  simp [h2]
 simp [execOp,j,q,eqGuard,h]
theorem Rz {f:FuncId} {args:Array Operand} {a:Array TypeId} {v:Value} (j:∀ v w,(callFunc f #[v]).run P w= .ok (.value v) w) (i:args.toList.map (ev N σ)= [v]):
 (execOp (ev N σ) ⟨dst,.call ⟨.value (.func f),args,a⟩,ty,pos,af,g⟩).run P w= .ok (.value v) w:=by
 have :args.map (ev N σ)= #[v]:=by rw [← zH,nv,i]
 simp [execOp,resolve,ev,qY,invoke,this,j]
structure Bd (T e:TypeId) (w:World) (b:Nat) (buf:Value) (l:List UInt8):Prop where
 aJ:∃ pa,w.heap[b]? =some (.cells [zQ pa,buf].toArray T (0,0))∧(pa=none∨pa=some ⟨b,0,none⟩)
 own:w.ownsRow (b+1) e 1 buf l.length (U8 l)
 nil:buf= .slice none 0 0↔l= []
def BF (b:Nat) (a:Value) (k:Nat):Prop :=k=b∨a.ownBlock=some k
end
theorem Bd.lt {T e b:Nat} {w:World} {a:Value} {l:List UInt8} (h:Bd T e w b a l):b < w.heap.size:=let ⟨_,h,_⟩:=h.aJ; (dm.1 h).1
theorem Bd.jk {T e b:Nat} {w:World} {a:Value} {l:List UInt8} (h:Bd T e w b a l) {k:Nat} (hk:BF b a k):b≤k∧k < w.heap.size:=by
 rcases hk with rfl | hk
 · exact ⟨cj _,h.lt⟩
 · have :=h.own.lt k hk; omega
theorem Bd.md {T e b:Nat} {F:Nat→Prop} {w w':World} {a:Value} {l:List UInt8} (h:Bd T e w b a l) (hm:Md F w w') (i:∀ k,BF b a k→¬F k):Bd T e w' b a l:=by
 obtain ⟨⟨j,h1,h2⟩,h3,h4⟩:=h
 exact ⟨⟨j,hm.aJ h1 (i b<|.inl aa),h2⟩,db h3 hm (fun k hk=>i k<|.inr hk),h4⟩
end Go.Hb
namespace Go.Hb
open Go.RowKit
def gN (P:Program) (t:TypeId):Option (List (Nat×Nat)×List Value):=
 match P.info? t,P.underlying t with
 | some it,some (.struct fields)=>
   match it.zero,fields.toList.mapM (fun f=>(P.info? f.type).map fun i=>(f.offset,i.size)) with
   | some z,some pl=>some (pl,z.cells.toList)
   | _,_=>none
 | _,_=>none
def vD (pl:List (Nat×Nat)):List Value→List (Nat×Value)→Option (List Value)
 | a,[]=>some a
 | a,(i,v)::r=>match pl[i]? with
   | some (off,s)=>if (s==1 && v.oneCell' && iR off a.length)=true then vD pl (a.set off v) r else none
   | none=>none
theorem W4 {pl:List (Nat×Nat)} {a L:List Value} {ps:List (Nat×Value)} (h:vD pl a ps=some L):oW (pl.toArray[·]?) a.toArray ps=some L.toArray:=by
 induction ps generalizing a with
 | nil=>simp only [vD,fL] at h; subst h; rfl
 | cons p ps C=>
   obtain ⟨i,v⟩:=p
   simp only [vD] at h
   split at h
   · rename_i off s hs
     split at h
     · rename_i j
       simp only [gO,beq_iff_eq] at j
       obtain ⟨⟨rfl,h1⟩,ho⟩:=j
       have E:off < a.length:=uu ho
       have A:v.cells= #[v]:=qN h1
       have q:pl.toArray[i]? =some (off,1):=by simpa using hs
       simp only [oW,q,A]
       rw [if_neg (by simp; omega),← C h]
       simp
     · cases h
   · cases h
theorem oH {α:Type} {f:α→List Value} {m:Nat} (i:∀ a,(f a).length=m) (l:List α):(l.flatMap f).length=l.length*m:=by
 induction l with
 | nil=>simp
 | cons x l j=>simp [j,i,sB,Nat.add_comm]
theorem BO {α:Type} {f:α→List Value} {m:Nat} (i:∀ a,(f a).length=m) {l:List α} {j c:Nat} {a:α} (h:l[j]? =some a) (q:c < m):(l.flatMap f)[j*m+c]? =(f a)[c]? :=by
 induction l generalizing j with
 | nil=>simp at h
 | cons x l A=>
   cases j with
   | zero=>
     simp only [List.getElem?_cons_zero,fL] at h; subst h
     rw [EK,gQ,rh,mg (by rw [i]; exact q)]
   | succ j=>
     simp only [NB] at h
     rw [rh,mT (by rw [i,sB]; omega),i,show (j+1)*m+c - m=j*m+c from by rw [sB]; omega]
     exact A h
theorem e9 {α:Type} {f:α→List Value} {m:Nat} (q:∀ a,(f a).length=m) {h:Array Obj} {a:Option Addr} {l:List α} {i:Nat} {e:α} (C:aI h a (l.flatMap f)) (E:l[i]? =some e):∀ j,j < m→Hb.aO h (bk a) (fo a+i*m+j)=(f e)[j]? :=by
 intro j A
 have h1:=BO q E A
 have h2:j < (f e).length:=by rw [q]; exact A
 rw [cz h2] at h1 ⊢
 rw [NT]; exact C.aO _ _ h1
theorem BQ {α:Type} {f:α→List Value} {m:Nat} (i:∀ a,(f a).length=m) (hm:0 < m) {l:List α} (h:0 < l.length):l.flatMap f≠[]:=by
 intro e
 have :=oH i l
 rw [e] at this
 have :0 < l.length*m:=Nat.mul_pos h hm
 simp at*; omega
theorem Ia {α:Type} {f:α→List Value} {m:Nat} (i:∀ a,(f a).length=m) {l:List α} {j:Nat} (x:α) (h:j < l.length):(l.set j x).flatMap f=(l.flatMap f).take (j*m)++f x++(l.flatMap f).drop (j*m+m):=by
 induction l generalizing j with
 | nil=>simp at h
 | cons y l q=>
   cases j with
   | zero=>
     simp only [List.set_cons_zero,rh,EK,oq,p9,gQ]
     rw [No,Nq (by rw [i]; exact cj _),i]; simp
   | succ j=>
     simp only [cM] at h
     rw [List.set_cons_succ,rh,q ab,rh,xd,No,i,eI (l:=f y) (by rw [i,sB]; omega),Nq (l:=f y) (by rw [i,sB]; omega),
      show (j+1)*m - m=j*m from by rw [sB]; omega,show (j+1)*m+m - m=j*m+m from by rw [sB]; omega]
     simp
theorem H9 {α:Type} {f:α→List Value} (i:∀ a,(f a).all gz=true) (l:List α):(l.flatMap f).all gz=true :=by
 simp only [List.all_flatMap,me]; intro x _; exact me.1<|i x
section
variable {P:Program} {N:Fm} {σ:Nat→Value} {w:World} {dst:Option Nat} {ty:TypeId} {pos :String} {af:Array Edge} {g:Option (Nat×Bool)} {x y z:Operand} {K:(Nat→Value)→World→Prop}
theorem cO {t:TypeId} {parts:Array (Nat×Operand)} {pl:List (Nat×Nat)} {a L:List Value} {ps:List (Nat×Value)} (h:gN P t=some (pl,a)) (hp:parts.toList.map (fun p=>(p.1,ev N σ p.2))=ps) (i:vD pl a ps=some L):
 (execOp (ev N σ) ⟨dst,.build t parts,ty,pos,af,g⟩).run P w= .ok (.value<|.agg L.toArray) w:=by
 unfold gN at h
 split at h
 · rename_i it fields hi hu
   split at h
   · rename_i z A q hm
     simp only [fL,sE] at h
     obtain ⟨rfl,rfl⟩:=h
     have j:P.built t (parts.map fun p=>(p.1,ev N σ p.2)).toList=some L.toArray:=by
      have :=W4 i
      simp only [MK] at this
      simp only [Program.built,hi,hu,q,hm,nv,hp]; exact this
     simp [execOp,run_build w t _ _ j]
   · cases h
 · cases h
end
end Go.Hb
namespace Go.Hb
open Go.RowKit
section
variable {P:Program} {N:Fm} {σ:Nat→Value} {w:World} {dst:Option Nat} {ty:TypeId} {pos :String} {af:Array Edge} {g:Option (Nat×Bool)} {x y z:Operand} {K:(Nat→Value)→World→Prop}
theorem VR {zv:Value} (h1:zv.oneCell'=true) (n:Nat):madeCells zv.cells n=(kj n zv).toArray:=by
 rw [qN h1]
 apply Array.ext
 · simp [madeCells]
 · intro i h2 h3
   simp [madeCells,Nat.mod_one]
theorem V6 {t e bytes n:Nat} {E C:IntKind} {zv:Value} (M:fV P t e 1 bytes=true) (a:zeroOf P e=some (some [zv])) (h1:zv.oneCell'=true) (O:ev N σ x= .int E n) (U:ev N σ y= .int C n) (Y:bytes*n≤281474976710656) (j:n≤maxLen)
 (k:∀ b w',b=w.heap.size→Nw w w'→(∀ B,B≤b→w'.ownsRow B e 1 (.slice (some ⟨b,0,none⟩) n n) n (kj n zv))→K (iF σ dst<|.slice (some ⟨b,0,none⟩) n n) w'):dM P N ⟨dst,.makeSlice t x y,ty,pos,af,g⟩ σ w K:=by
 obtain ⟨hu,i,G,hi,A,hs,J,ac,Z⟩:=r4 M
 have V:G.cells= #[zv]:=by
  unfold zeroOf at a
  simp only [hi,A,mh,fL] at a
  exact zH.1<|by simpa using a
 refine oS (v:=fun b=> .slice (some ⟨b,0,none⟩) n n) (ob:= .cells (kj n zv).toArray e (0,0)) ?_ fun b w' h2 h3 h4=>k b w' h2 h3 fun B I=>⟨by simp,.inr ⟨b,n,_,aa,I,h4,cj _,j,by simp,by simp⟩⟩
 have q:=run_make (P:=P) w t e i G hu hi A E C n n ab (Int.le_refl _) (by rw [J,← Int.natCast_mul]; omega)<|by unfold maxLen at j; omega
 rw [V,hs,Nat.mul_one,mS,show madeCells #[zv] n=(kj n zv).toArray by rw [← VR h1,qN h1]] at q
 simp [execOp,O,U,q]
end
end Go.Hb
namespace Go.Hb
section
variable {P:Program} {N:Fm} {σ:Nat→Value} {w:World} {dst:Option Nat} {ty:TypeId} {pos :String} {af:Array Edge} {g:Option (Nat×Bool)} {x y z:Operand}
theorem Q4 {t n len cap i:Nat} {a:Option Addr} {k k':IntKind} (he:gr P t=some n) (C:ev N σ x= .slice a len cap) (E:ev N σ y= .int k (i:Nat)) (G:ev N σ z= .int k' (i:Nat)) (h:i≤cap):
 (execOp (ev N σ) ⟨dst,.slice t x none (some y) (some z),ty,pos,af,g⟩).run P w= .ok (.value<|.slice a i i) w:=by
 have q:(0:Int)≤(i:Int):=ab
 unfold gr at he
 cases hd:P.underlying t with
 | none=>rw [hd] at he; cases he
 | some d=>
   rw [hd] at he
   cases d <;> first | (cases he; done) | skip
   rename_i e
   cases hi':P.info? e with
   | none=>simp [hi'] at he
   | some j=>
     have A:(if i=0 then a else a.map (·.add 0))=a:=by
      split
      · rfl
      · cases a <;> simp [zJ]
     simp only [execOp,si,wo,C,E,G,mh,Option.map_none,oX,sj,asIntOf]
     simp [eu hd,jc hi',sizeOf,q,A]
     intro I; omega
end
end Go.Hb
namespace Go.Hb
open Go.RowKit
def rp (h:Array Obj) (b:Nat) (kvs:List (Value×Value)):Prop := ∃ es clock,h[b]? =some (.map es clock)∧es.toList.map (fun e=>(e.key,e.val))=kvs
theorem rp.md {F:Nat→Prop} {w w':World} {b:Nat} {kvs:List (Value×Value)} (h:rp w.heap b kvs) (hm:Md F w w') (a:¬F b):rp w'.heap b kvs:=
 let ⟨es,c,h1,h2⟩:=h; ⟨es,c,hm.aJ h1 a,h2⟩
structure xj (P:Program) (k:TypeId) (isK:Value→Prop):Prop where
 check:∀ em w v,isK v→(ua em 10000 k v).run P w= .ok () w
 find:∀ w x es,isK x→(∀ e∈es,isK e.key)→
  ((zL k x es).run P w= .ok none w∧∀ e∈es,e.key≠x)∨∃ j e,(zL k x es).run P w= .ok (some (j,e.val)) w∧es[j]? =some e∧e.key=x
theorem QU {P:Program} {k:TypeId} {em:Bool} {n:Nat} {a:List UInt8} (hk:P.underlying k=some .string) (w:World):(ua em (n+1) k<|str a).run P w= .ok () w:=by
 simp only [str,ua,wz,eu hk,wy,zO]
def zeroV (P:Program) (e:TypeId):Option Value:=(P.info? e).bind (·.zero)
theorem zC {P:Program} {e:TypeId} {z:Value} (h:zeroV P e=some z) (w:World):(zeroValue e).run P w= .ok z w:=by
 unfold zeroV at h
 simp only [Option.bind_eq_some_iff] at h
 obtain ⟨i,hi,a⟩:=h
 simp [zeroValue,jc hi,a]
section
variable {P:Program} {N:Fm} {σ:Nat→Value} {w:World} {dst:Option Nat} {ty:TypeId} {pos :String} {af:Array Edge} {g:Option (Nat×Bool)} {x y z:Operand} {K:(Nat→Value)→World→Prop}
variable {t k e:TypeId} {isK:Value→Prop} {b:Nat} {kvs:List (Value×Value)} {kx v:Value}
theorem BC {es:Array MapEntry} (h:es.toList.map (fun e=>(e.key,e.val))=kvs) (hk:∀ p∈kvs,isK p.1):∀ e∈es.toList,isK e.key:=fun e he=>hk (e.key,e.val)<|by rw [← h]; exact xa he
theorem run_getObj_map {es:Array MapEntry} {c:Nat} (a:w.heap[b]? =some (.map es c)):(getObj b).run P w= .ok (.map es c) w:=by
 simp [getObj,Sem.run,a]
theorem Wj {kvs:List (Value×Value)} (hn:(kvs.map sD).Nodup) {kx v a:Value} (h1:(kx,v)∈kvs) (h2:(kx,a)∈kvs):v=a:=by
 induction kvs with
 | nil=>simp at h1
 | cons p kvs i=>
   simp only [um,NK] at hn
   rcases gl.1 h1 with h1 | h1
   · rcases gl.1 h2 with h2 | h2
     · rw [← h1] at h2; cases h2; rfl
     · rw [← h1] at hn; exact absurd (xa (f:=sD) h2) hn.1
   · rcases gl.1 h2 with h2 | h2
     · rw [← h2] at hn; exact absurd (xa (f:=sD) h1) hn.1
     · exact i hn.2 h1 h2
theorem VI {ok:Bool} (G:P.underlying t=some (.map k e)) (i:xj P k isK) (hm:rp w.heap b kvs) (hk:∀ p∈kvs,isK p.1) (J:ev N σ x= .map (some b)) (M:ev N σ y=kx) (hi:isK kx) (hn:(kvs.map sD).Nodup) (a:(kx,v)∈kvs):
 (execOp (ev N σ) ⟨dst,.lookup t x y ok,ty,pos,af,g⟩).run P w= .ok (.value (if ok then .tuple #[v,.bool true] else v)) w:=by
 obtain ⟨es,c,E,he⟩:=hm
 rcases i.find w kx es.toList hi (BC he hk) with ⟨_,h2⟩ | ⟨j,q,h1,h2,h3⟩
 · rw [← he] at a
   obtain ⟨A,C,h4⟩:=o4.1 a
   cases h4
   exact absurd aa<|h2 A C
 · have I:(kx,q.val)∈kvs:=by rw [← he,← h3]; exact xa (f:=fun e:MapEntry=>(e.key,e.val))<|iJ h2
   have :=Wj hn a I
   subst this
   cases ok <;> simp [execOp,M5,eu G,J,M,run_getObj_map E,i.check _ w kx hi,h1]
theorem VJ {ok:Bool} {zv:Value} (A:P.underlying t=some (.map k e)) (G:zeroV P e=some zv) (a:xj P k isK) (hm:rp w.heap b kvs) (hk:∀ p∈kvs,isK p.1) (C:ev N σ x= .map (some b)) (E:ev N σ y=kx) (hi:isK kx) (hn:∀ v,(kx,v)∉kvs):
 (execOp (ev N σ) ⟨dst,.lookup t x y ok,ty,pos,af,g⟩).run P w= .ok (.value (if ok then .tuple #[zv,.bool false] else zv)) w:=by
 obtain ⟨es,c,q,he⟩:=hm
 rcases a.find w kx es.toList hi (BC he hk) with ⟨h1,_⟩ | ⟨j,i,h1,h2,h3⟩
 · cases ok <;> simp [execOp,M5,eu A,C,E,run_getObj_map q,a.check _ w kx hi,h1,zC G]
 · exact absurd (by rw [← he,← h3]; exact xa (f:=fun e:MapEntry=>(e.key,e.val))<|iJ h2)<|hn i.val
end
end Go.Hb
namespace Go.Hb
open Go.RowKit
def tag (w:World) (k:Nat):Nat:=match w.heap[k]? with | some (.cells _ t _)=>t+2 | some (.map _ _)=>1 | _=>0
theorem dt {w:World} {k t:Nat} {cs:Array Value} {z:Nat×Nat} (h:w.heap[k]? =some (.cells cs t z)):tag w k=t+2:=by unfold tag; rw [h]
theorem YJ {w:World} {k:Nat} {kvs:List (Value×Value)} (h:rp w.heap k kvs):tag w k=1:=by
 obtain ⟨es,c,h,_⟩:=h
 unfold tag; rw [h]
theorem DK {w:World} {B e size n k:Nat} {v:Value} {xs:List Value} (h:w.ownsRow B e size v n xs) (hk:v.ownBlock=some k):tag w k=e+2:=by
 rcases h.2 with ⟨rfl,_⟩ | ⟨g,cap,cur,rfl,_,a,_⟩
 · simp [iH] at hk
 · simp only [iH,fL] at hk; subst hk
   exact dt a
def TF (w:World) (L:List Nat) (F:Nat→Prop):Prop := ∀ k,F k→L.contains (tag w k)=true
theorem TF.no {w:World} {L:List Nat} {F:Nat→Prop} (h:TF w L F) {k t:Nat} (i:tag w k=t) (a:L.contains t=false):¬F k:=fun hk=>by
 have :=h k hk
 rw [i,a] at this; cases this
theorem TF.or {w:World} {L:List Nat} {F G:Nat→Prop} (h:TF w L F) (a:TF w L G):TF w L (fun k=>F k∨G k):=fun k hk=>by
 rcases hk with hk | hk
 · exact h k hk
 · exact a k hk
theorem TF.eq {w:World} {L:List Nat} {b t:Nat} (i:tag w b=t) (a:L.contains t=true):TF w L (fun k=>k=b):=fun k hk=>by
 subst hk; rw [i]; exact a
theorem TF.own {w:World} {L:List Nat} {B e size n:Nat} {v:Value} {xs:List Value} (h:w.ownsRow B e size v n xs) (a:L.contains (e+2)=true):TF w L (fun k=>v.ownBlock=some k):=fun k hk=>by
 rw [DK h hk]; exact a
theorem Md.gy {F:Nat→Prop} {w w':World} {L:List Nat} {k t:Nat} {cs:Array Value} {z:Nat×Nat} (hm:Md F w w') (a:TF w L F) (h:w.heap[k]? =some (.cells cs t z)) (i:L.contains (t+2)=false):w'.heap[k]? =some (.cells cs t z):=hm.aJ h<|a.no (dt h) i
theorem bZ {F:Nat→Prop} {w w':World} {L:List Nat} {B e size n:Nat} {v:Value} {xs:List Value} (h:w.ownsRow B e size v n xs) (hm:Md F w w') (a:TF w L F) (i:L.contains (e+2)=false):w'.ownsRow B e size v n xs:=db h hm fun _ hk=>a.no (DK h hk) i
theorem Md.tag {F:Nat→Prop} {w w':World} (hm:Md F w w') {k:Nat} (hk:k < w.heap.size) (a:¬F k):Hb.tag w' k=Hb.tag w k:=by
 unfold Hb.tag; rw [hm.cy k hk a]
end Go.Hb
end
section
namespace Go.Hb
open Go.RowKit Go.ChangeShapes Go.WideShapes Go.ChangeAt
theorem Wk.frame {w w':World} (h:Wk w w') (may:MemPlace→Prop):w.keptBut w' may:=by
 refine ⟨h.os,h.output,fun i hi=> ?_⟩
 rw [h.cy i hi id]
 split <;> simp_all
theorem Wk.same {w w':World} (h:Wk w w') {p:MemPlace} (hp:p.block < w.heap.size):w.sameAt w' p:=by
 cases p with
 | cell b o=>exact World.cell?_of_block (w:=w)<|h.cy b hp id
 | map b=>exact h.cy b hp id
section
variable {H:Type} {enc:TypeId×Value→H} {P:Program} {W W':World}
theorem LW (A:laidOutB P=true) (hk:Wk W W'):∀ (i:List TypeId) (vs:List Value) (j:List (DataW H)) (ps:List MemPlace),i.all (fun t=>P.readableRec t && decide (t < P.types.size))=true→(∀ x∈ps,x.block < W.heap.size)→
 MY enc P W 0 (fun _=>true) true i vs j ps→MY enc P W' 0 (fun b=>decide (b < W.heap.size)) true i vs j ps
 | [],[],[],_,_,_,h=>h
 | t::i,v::vs,d::j,_,hp,hlt,⟨p,q,h1,h2,he⟩=>by
   subst he
   rw [uh,gO,gO] at hp
   exact ⟨p,q,WideElems.Trod_stays A hp.1.1 (of_decide_eq_true hp.1.2) h1 (fun x a=>hk.same<|hlt x<|NG _ a) (fun x a=>decide_eq_true<|hlt x<|NG _ a),
    LW A hk i vs j q hp.2 (fun x a=>hlt x<|List.mem_append_right _ a) h2,rfl⟩
 | [],_::_,_,_,_,_,h=>h.elim
 | [],[],_::_,_,_,_,h=>h.elim
 | _::_,[],_,_,_,_,h=>h.elim
 | _::_,_::_,[],_,_,_,h=>h.elim
theorem Xk {f:FuncId} {fn:Func} {s:ChangeSpec} {args:Array Value} {a gs:List (DataW H)} {before:List MemPlace} {tb:TypeId} (j:DataW.Whole enc P fn.params.toList s.vars false W args.toList a gs before) (C:s.vars= [])
 (hs:s.fn H (a++gs)= {results:= [.lit (.bool true)],args:=a}) (M:fn.resultTypes= #[tb]) (G:P.underlying tb=some .bool) (I:laidOutB P=true) (hp:fn.params.toList.all (fun t=>P.readableRec t && decide (t < P.types.size))=true)
 (h:bh P f args W (fun v w'=>v= .bool true∧Wk W w')):Calls P f args W fun e W'=> ∃ v,e= .returned v∧s.post enc P fn false true false false W args v W':=by
 refine lO h fun e W' ⟨v,he,O,hk⟩=>⟨v,he,?_⟩
 subst O
 have A:=j
 obtain ⟨p,q,E,i,rfl,_,_⟩:=j
 rw [C] at i
 obtain ⟨rfl,rfl⟩:=trodVars_none i
 have J:∀ x∈p,x.block < W.heap.size:=fun x U=>A.lt x<|by simpa using U
 refine ⟨_,_,_,[],p,[],A,?_,?_,?_,hk.frame _,fun h=>by cases h⟩
 · rw [hs,M]
   exact trodAll_cons_mk (shut_bool G _) trodAll_mk0
 · rw [hs]
   exact LW I hk _ _ _ _ hp J E
 · rw [hs,C]; rfl
end
end Go.Hb
namespace Go.Hb
open Go.Proofs.YtffmhpaepdkabaaGreatDoor
theorem OX {H:Type} {l:List (DataW H)} (hk:Rows.uptoSmall H l=true):Rows.uptoBulkAll l≤1048576:=of_decide_eq_true hk
end Go.Hb
namespace Go.Hb
open Go.Proofs.YtffmhpaepdkabaaGreatDoor Go.RowKit Go.ChangeShapes Go.WideShapes Go.ChangeAt
structure ES (P:Program) (t:TypeId) (m:Nat) {X:Type} (R:World→List Value→X→Prop) (B:X→Nat):Prop where
 cells:P.cellsOf t=m
 op:∀ {H:Type} (enc:TypeId×Value→H) (W:World) (fuel:Nat) (cs:List Value) (d:DataW H) (p:List MemPlace),DataW.trod enc P W 0 (fun _=>true) true fuel t cs=some (d,p)→cs.length=m∧∃ x,R W cs x∧B x≤Rows.uptoBulk d
section
variable {P:Program} {t t0 t1 e:TypeId} {m m0 m1:Nat} {X X0 X1:Type} {R:World→List Value→X→Prop} {B:X→Nat} {R0:World→List Value→X0→Prop} {B0:X0→Nat} {R1:World→List Value→X1→Prop} {B1:X1→Nat}
theorem Wx {k:IntKind} (i:P.underlying t=some (.int k)) (a:P.cellsOf t=1):ES P t 1 (fun _ cs (x:Int)=>cs= [.int k x]∧(Lit.int k x).wf=true) (fun _=>1) where
 cells:=a
 op enc W fuel cs d p h:=by
  obtain ⟨n,rfl,j,hw⟩:=DataW.trod_int i h
  cases j
  exact ⟨aa,n,⟨aa,hw⟩,by simp [Rows.uptoBulk]⟩
theorem Kr (i:P.underlying t=some .string) (a:P.cellsOf t=1):ES P t 1 (fun _ cs (x:List UInt8)=>cs= [str x]) (fun x=>x.length+1) where
 cells:=a
 op enc W fuel cs d p h:=by
  obtain ⟨s,rfl,j,hw⟩:=DataW.trod_string i h
  cases j
  exact ⟨aa,s.data.toList,aa,by simp [Rows.uptoBulk]⟩
end
end Go.Hb
end
section
namespace Go.Hb
theorem drop_cons {α:Type} {l:List α} {i:Nat} (d:α) (h:i < l.length):l.drop i=l.getD i d::l.drop (i+1):=by
 rw [List.drop_eq_getElem_cons h]; simp [cQ,h]
theorem vO {α:Type} {l:List α} {k i:Nat} (d:α) (hk:k≤i) (hi:i < l.length):(l.take<|i+1).drop k=(l.take i).drop k++ [l.getD i d]:=by
 rw [fD l i d hi,List.drop_append_of_le_length (by rw [dO]; omega)]
def nd (b:UInt8):Bool:=b==32 || b==9
theorem qE (b:UInt8):nd b=decide (b.toNat=32∨b.toNat=9):=by
 unfold nd
 have h:∀ x:UInt8,(b==x)=decide (b.toNat=x.toNat):=fun x=>by
  by_cases a:b=x
  · subst a; simp
  · have :b.toNat≠x.toNat:=fun h=>a<|kY.1 h
    simp [a,this]
 rw [h,h]
 simp [Bool.decide_or]
def cD:List UInt8→List UInt8→List (List UInt8)
 | cur,[]=>if cur= [] then [] else [cur]
 | cur,b::r=>if nd b then (if cur= [] then cD [] r else cur::cD [] r) else cD (cur++ [b]) r
theorem BU:cD [] []= []:=by simp [cD]
theorem Ic {cur:List UInt8} (h:cur≠[]):cD cur []= [cur]:=by simp [cD,h]
theorem yb {b:UInt8} {r:List UInt8} (h:nd b=true):cD [] (b::r)=cD [] r:=by simp [cD,h]
theorem Ib {cur:List UInt8} {b:UInt8} {r:List UInt8} (h:nd b=true) (a:cur≠[]):cD cur (b::r)=cur::cD [] r:=by simp [cD,h,a]
theorem BT {cur:List UInt8} {b:UInt8} {r:List UInt8} (h:nd b=false):cD cur (b::r)=cD (cur++ [b]) r:=by simp [cD,h]
theorem BS:∀ (l cur x:List UInt8),x∈cD cur l→x≠[]∧x.length≤cur.length+l.length:=by
 intro l
 induction l with
 | nil=>
   intro cur x h
   unfold cD at h
   split at h
   · cases h
   · simp only [jY] at h; subst h; exact ⟨by assumption,by simp⟩
 | cons b r a=>
   intro cur x h
   unfold cD at h
   split at h
   · split at h
     · have :=a [] x h; simp only [cM,fP] at*; exact ⟨this.1,ab⟩
     · rcases gl.1 h with rfl | h
       · exact ⟨by assumption,by simp⟩
       · have :=a [] x h; simp only [cM,fP] at*; exact ⟨this.1,ab⟩
   · have :=a _ x h; simp only [cM,bI,fP] at*; exact ⟨this.1,ab⟩
theorem uY:∀ (l cur:List UInt8),(cD cur l).length≤l.length+1:=by
 intro l
 induction l with
 | nil=>intro cur; unfold cD; split <;> simp
 | cons b r a=>
   intro cur
   unfold cD
   split
   · split
     · have :=a []; simp only [cM]; omega
     · have :=a []; simp only [cM]; omega
   · have :=a (cur++ [b]); simp only [cM]; omega
theorem BR {cur l:List UInt8} {i:Nat} (a:cur≠[]) (h:l.length≤i∨nd (l.getD i 0)=true):cD cur (l.drop i)=cur::cD [] (l.drop i):=by
 by_cases hi:i < l.length
 · have j:=h.resolve_left ab
   rw [drop_cons 0 hi,Ib j a,yb j]
 · rw [gP ab,Ic a,BU]
def kZ (l:List UInt8) (i:Nat) (a:Int) (cur:List UInt8):Prop :=(a= -1∧cur= [])∨(∃ k:Nat,a=k∧k < i∧i≤l.length∧cur=(l.take i).drop k)
theorem kZ.no {l:List UInt8} {i:Nat} :kZ l i (-1) []:= .inl ⟨rfl,rfl⟩
theorem kZ.neg {l cur:List UInt8} {i:Nat} {a:Int} (h:kZ l i a cur) (j:a < 0):a= -1∧cur= []:=by
 rcases h with h | ⟨k,rfl,_⟩
 · exact h
 · omega
theorem kZ.pos {l cur:List UInt8} {i:Nat} {a:Int} (h:kZ l i a cur) (j:¬a < 0):(0≤a∧a < i)∧cur=(l.take i).drop a.toNat∧cur≠[]:=by
 rcases h with ⟨rfl,_⟩ | ⟨k,rfl,h1,h2,rfl⟩
 · omega
 · refine ⟨ab,by simp,fun e=> ?_⟩
   have :=congrArg jy e
   simp only [fK,dO,fP] at this
   omega
theorem kZ.begin {l:List UInt8} {i:Nat} (hi:i < l.length):kZ l (i+1) i [l.getD i 0]:=by
 refine .inr ⟨i,aa,ab,ab,?_⟩
 rw [vO 0 (cj i) hi,gP (by rw [dO]; omega),p9]
theorem kZ.more {l cur:List UInt8} {i:Nat} {a:Int} (h:kZ l i a cur) (j:¬a < 0) (hi:i < l.length):kZ l (i+1) a (cur++ [l.getD i 0]):=by
 rcases h with ⟨rfl,_⟩ | ⟨k,rfl,h1,h2,rfl⟩
 · omega
 · exact .inr ⟨k,aa,ab,ab,(vO 0 ab hi).symm⟩
def jK (l:List UInt8):List UInt8:=if 0 < l.length∧l.getD (l.length - 1) 0=13 then l.take (l.length - 1) else l
theorem Hq (l:List UInt8):(jK l).length≤l.length:=by unfold jK; split <;> simp
theorem Hr {l:List UInt8} (h:0 < l.length) (h1:l.getD (l.length - 1) 0=13):jK l=l.take (l.length - 1):=if_pos ⟨h,h1⟩
theorem By {l:List UInt8} (h:¬(0 < l.length∧l.getD (l.length - 1) 0=13)):jK l=l:=if_neg h
theorem Js {l:List UInt8} (h:0 < l.length):l.drop (l.length - 1)= [l.getD (l.length - 1) 0]:=by
 rw [drop_cons 0 ab,gP ab]
def fU:List UInt8→List UInt8→List (List UInt8)
 | cur,[]=>if cur= [] then [] else [jK cur]
 | cur,b::r=>if b=10 then jK cur::fU [] r else fU (cur++ [b]) r
theorem CM:fU [] []= []:=by simp [fU]
theorem JE {cur:List UInt8} (h:cur≠[]):fU cur []= [jK cur]:=by simp [fU,h]
theorem JF (cur r:List UInt8):fU cur (10::r)=jK cur::fU [] r:=by simp [fU]
theorem CL {cur:List UInt8} {b:UInt8} {r:List UInt8} (h:b≠10):fU cur (b::r)=fU (cur++ [b]) r:=by simp [fU,h]
theorem CK:∀ (l cur:List UInt8),(fU cur l).length≤l.length+1:=by
 intro l
 induction l with
 | nil=>intro cur; unfold fU; split <;> simp
 | cons b r a=>
   intro cur
   unfold fU
   split
   · have :=a []; simp only [cM]; omega
   · have :=a (cur++ [b]); simp only [cM]; omega
theorem VL (l:List UInt8):(fU [] l).length≤l.length:=by
 cases l with
 | nil=>simp [fU]
 | cons b r=>
   unfold fU
   split
   · have :=CK r []
     have h2:∀ m:List UInt8,(fU [] m).length≤m.length:=by
      intro m
      induction m with
      | nil=>simp [fU]
      | cons c m a=>
        unfold fU
        split
        · simp only [cM]; omega
        · have :=CK m ([]++ [c]); simp only [cM]; omega
     have :=h2 r
     simp only [cM]; omega
   · have :=CK r ([]++ [b]); simp only [cM]; omega
theorem VM:∀ (l cur x:List UInt8),x∈fU cur l→x.length≤cur.length+l.length:=by
 intro l
 induction l with
 | nil=>
   intro cur x h
   unfold fU at h
   split at h
   · cases h
   · simp only [jY] at h; subst h; have :=Hq cur; simp only [fP]; omega
 | cons b r a=>
   intro cur x h
   unfold fU at h
   split at h
   · rcases gl.1 h with rfl | h
     · have :=Hq cur; omega
     · have :=a [] x h; simp only [cM,fP] at*; omega
   · have :=a _ x h; simp only [cM,bI,fP] at*; omega
def eZ (c:UInt8) (l:List UInt8):Int:=if l.idxOf c < l.length then (l.idxOf c:Int) else -1
theorem Jj {c:UInt8} {l:List UInt8} (h:eZ c l < 0):¬l.idxOf c < l.length:=fun h1=>by unfold eZ at h; rw [if_pos h1] at h; omega
theorem rM {c:UInt8} {l:List UInt8} (h:¬eZ c l < 0):eZ c l=l.idxOf c∧l.idxOf c < l.length:=by
 unfold eZ at*
 by_cases h1:l.idxOf c < l.length
 · exact ⟨if_pos h1,h1⟩
 · rw [if_neg h1] at h; omega
def mx (c:UInt8) (l:List UInt8):List UInt8:=if eZ c l < 0 then l else l.take (l.idxOf c)
def nL (c:UInt8) (l:List UInt8):List UInt8:=if eZ c l < 0 then [] else l.drop (l.idxOf c+1)
theorem RR (c:UInt8) (l:List UInt8):(mx c l).length≤l.length:=by unfold mx; split <;> simp; omega
theorem RV {c:UInt8} {l:List UInt8} (h:l≠[]):(nL c l).length < l.length:=by
 have :=lx.2 h
 unfold nL; split <;> simp <;> omega
theorem VK:∀ (l cur:List UInt8),l.idxOf 10 < l.length→fU cur l=jK (cur++l.take (l.idxOf 10))::fU [] (l.drop<|l.idxOf 10 +1):=by
 intro l
 induction l with
 | nil=>intro cur h; simp at h
 | cons b r j=>
   intro cur h
   by_cases a:b=10
   · subst a
     rw [ED,JF,oq,ed,gQ,List.drop_one,List.tail_cons]
   · have i:(b::r).idxOf 10=r.idxOf 10 +1:=by rw [wU,beq_eq_false_iff_ne.2 a]; rfl
     rw [i] at h ⊢
     simp only [cM] at h
     rw [CL a,j _ ab,qc,wP,dC]
     rfl
theorem VN:∀ (l cur:List UInt8),¬l.idxOf 10 < l.length→cur++l≠[]→fU cur l= [jK (cur++l)]:=by
 intro l
 induction l with
 | nil=>intro cur _ h; rw [ed] at h ⊢; exact JE h
 | cons b r j=>
   intro cur h h1
   by_cases a:b=10
   · subst a; rw [ED] at h; simp at h
   · have i:(b::r).idxOf 10=r.idxOf 10 +1:=by rw [wU,beq_eq_false_iff_ne.2 a]; rfl
     rw [i] at h
     simp only [cM] at h
     rw [CL a,j _ ab (by simp),dC]
     rfl
theorem VO {l:List UInt8} (h:l≠[]):fU [] l=jK (mx 10 l)::fU [] (nL 10 l):=by
 by_cases h1:eZ 10 l < 0
 · rw [VN l [] (Jj h1) (by simpa using h)]
   unfold mx nL
   rw [if_pos h1,if_pos h1,CM,p9]
 · rw [VK l [] (rM h1).2]
   unfold mx nL
   rw [if_neg h1,if_neg h1,p9]
def gv (s p:List UInt8):List UInt8:=if s.take p.length=p then s.drop p.length else s
def qL:List UInt8:= [239,187,191]
def tA (s:List UInt8):Bool:=decide (s.take 3=qL)
def kV (s:List UInt8):List UInt8:=gv s qL
theorem zx (s:List UInt8):(kV s).length≤s.length:=by unfold kV gv; split <;> simp
theorem Zb {s:List UInt8} (h:tA s=true):kV s=s.drop 3:=if_pos<|of_decide_eq_true h
theorem Za {s:List UInt8} (h:tA s=false):kV s=s:=if_neg<|of_decide_eq_false h
theorem VT {s:List UInt8} (h:tA s=true):3≤s.length:=by
 have h1:=congrArg jy<|of_decide_eq_true h
 rw [dO] at h1
 have :qL.length=3:=rfl
 omega
theorem yL (s:List UInt8):tA s=decide (3≤s.length∧(s.getD 0 0).toNat=239∧(s.getD 1 0).toNat=187∧(s.getD 2 0).toNat=191):=by
 unfold tA
 refine decide_eq_decide.2 ?_
 match s with
 | []=>simp [qL]
 | [a]=>simp [qL]
 | [a,b]=>simp [qL]
 | a::b::c::r=>
   have h:∀ (x:UInt8) (n:Nat),n < 256→(x=j0 n↔x.toNat=n):=fun x n hn=>by
    constructor
    · rintro rfl; simp; omega
    · intro h; apply kY.1; simp; omega
   have h1:=h a 239 az
   have h2:=h b 187 az
   have h3:=h c 191 az
   simp only [qL,qc,oq,List.cons.injEq,and_true,cM,lP,List.getD_cons_succ]
   constructor
   · rintro ⟨i,j,q⟩; exact ⟨ab,h1.1 i,h2.1 j,h3.1 q⟩
   · rintro ⟨_,i,j,q⟩; exact ⟨h1.2 i,h2.2 j,h3.2 q⟩
def bG (t:List UInt8):List (List UInt8):=fU []<|kV t
theorem nT (t:List UInt8):(bG t).length≤t.length:=fW (VL _)<|zx t
theorem CJ {t x:List UInt8} (h:x∈bG t):x.length≤t.length:=by
 have :=VM _ _ _ h
 have :=zx t
 simp only [fP] at*; omega
def vK (f:List UInt8):Bool:=decide ((f.getD 0 0).toNat=35)
def nS (f:List (List UInt8)):List (List UInt8):=f.takeWhile fun x=> !vK x
def lf (l:List UInt8) (n:Nat):List (Nat×List (List UInt8)):=if nS (cD [] l)= [] then [] else [(n,nS (cD [] l))]
def lk (n:Nat):List (List UInt8)→List (Nat×List (List UInt8))
 | []=> []
 | l::r=>lf l n++lk (n+1) r
def bN (t:List UInt8):List (Nat×List (List UInt8)):=lk 1<|bG t
theorem nk (l:List UInt8):∀ (i:List (List UInt8)) (n:Nat),lk n (i++ [l])=lk n i++lf l (n+i.length):=by
 intro i
 induction i with
 | nil=>intro n; simp [lk]
 | cons a i j=>intro n; rw [EA,lk,j,lk,cM,dC,show n+1 +i.length=n+(i.length+1) from by omega]
theorem Dn:∀ (i:List (List UInt8)) (n:Nat),(lk n i).length≤i.length:=by
 intro i
 induction i with
 | nil=>intro n; simp [lk]
 | cons a i j=>
   intro n
   have :=j<|n+1
   unfold lk lf
   rw [bI]
   split <;> simp only [fP,cM] <;> omega
theorem yY (t:List UInt8):(bN t).length≤t.length:=fW (Dn _ _)<|nT t
theorem yH {f:List (List UInt8)} :∀ {j:Nat},j≤f.length→(∀ i,i < j→vK (f.getD i [])=false)→(j=f.length∨vK (f.getD j [])=true)→nS f=f.take j:=by
 induction f with
 | nil=>intro j A _ _; rw [NQ]; rfl
 | cons a f C=>
   intro j A h1 h2
   cases j with
   | zero=>
     rcases h2 with h2 | h2
     · simp at h2
     · simp only [lP] at h2
       simp [nS,h2]
   | succ j=>
     have q:=h1 0 ab
     simp only [lP] at q
     have :=C (j:=j) (by simpa using A) (fun i hi=>by simpa using h1 (i+1) ab)<|by simpa using h2
     unfold nS at*
     rw [List.takeWhile_cons,q]
     simp only [Bool.not_false,if_true,qc]
     rw [this]
theorem Vn {f:List (List UInt8)} {x:List UInt8} (h:x∈nS f):x∈f:=(NP _).subset h
theorem Vm (f:List (List UInt8)):(nS f).length≤f.length:=(NP _).length_le
theorem XB:∀ (i:List (List UInt8)) (n:Nat) (r:Nat×List (List UInt8)),r∈lk n i→n≤r.1∧r.1 < n+i.length∧r.2≠[]∧∃ l∈i,r.2=nS (cD [] l):=by
 intro i
 induction i with
 | nil=>intro n r h; cases h
 | cons a i q=>
   intro n r h
   rw [lk] at h
   rcases jz.1 h with h | h
   · unfold lf at h
     split at h
     · cases h
     · simp only [jY] at h; subst h
       exact ⟨by simp,by simp,by assumption,a,by simp,aa⟩
   · obtain ⟨h1,h2,h3,l,j,h4⟩:=q _ _ h
     exact ⟨ab,by simp only [cM]; omega,h3,l,by simp [j],h4⟩
theorem yZ {t:List UInt8} {r:Nat×List (List UInt8)} (h:r∈bN t):1≤r.1∧r.1≤t.length∧r.2≠[]∧r.2.length≤t.length+1∧∀ x∈r.2,x≠[]∧x.length≤t.length:=by
 obtain ⟨h1,h2,h3,l,i,h4⟩:=XB _ _ _ h
 have q:=nT t
 have j:=CJ i
 refine ⟨h1,ab,h3,?_,fun x a=> ?_⟩
 · rw [h4]; have :=Vm (cD [] l); have :=uY l []; omega
 · rw [h4] at a
   have :=BS _ _ _<|Vn a
   simp only [fP] at this
   exact ⟨this.1,ab⟩
def qw (b:UInt8):Bool:=decide (48≤b.toNat∧b.toNat≤57)
def eJ (s:List UInt8):Nat:=s.foldl (fun n b=>n*10 +(b.toNat - 48)) 0
theorem m9 {s:List UInt8} {i:Nat} (h:i < s.length):eJ (s.take<|i+1)=eJ (s.take i)*10 +((s.getD i 0).toNat - 48):=by
 rw [fD s i 0 h]; unfold eJ; rw [EC]; rfl
theorem TK:∀ (s:List UInt8) (n:Nat),n≤s.foldl (fun n b=>n*10 +(b.toNat - 48)) n:=by
 intro s
 induction s with
 | nil=>intro n; exact cj _
 | cons b s a=>intro n; refine fW ?_ (a _); show n≤n*10 +(b.toNat - 48); omega
theorem Sg (s:List UInt8) (i:Nat):eJ (s.take i)≤eJ s:=by
 have :eJ s=(s.drop i).foldl (fun n b=>n*10 +(b.toNat - 48)) (eJ<|s.take i):=by
  unfold eJ; rw [← EC,List.take_append_drop]
 rw [this]; exact TK _ _
def qH (s:List UInt8):Prop :=s= []∨(1 < s.length∧(s.getD 0 0).toNat=48)
def Bu (s:List UInt8):Prop := ∀ i,i < s.length→qw (s.getD i 0)=true
open Classical in
noncomputable def dY (s:List UInt8) (most:Int):Nat×Int:=if qH s∨¬Bu s∨most < eJ s then (0,13) else (eJ s,0)
theorem yP {s:List UInt8} {most:Int} (h:qH s):dY s most=(0,13):=if_pos<|.inl h
theorem yO {s:List UInt8} {most:Int} {i:Nat} (h:i < s.length) (h1:qw (s.getD i 0)=false):dY s most=(0,13):=if_pos<|.inr<|.inl fun hd=>by rw [hd i h] at h1; cases h1
theorem Wl {s:List UInt8} {most:Int} (h:most < eJ s):dY s most=(0,13):=if_pos<|.inr<|.inr h
theorem vB {s:List UInt8} {most:Int} (i:Nat) (h:most < eJ (s.take i)):dY s most=(0,13):=Wl<|by have :=Sg s i; omega
theorem CS {s:List UInt8} {most:Int} (h:¬qH s) (h1:Bu s) (h2:¬most < eJ s):dY s most=(eJ s,0):=if_neg<|by rintro (a | a | a) <;> first | exact h a | exact a h1 | exact h2 a
theorem Kj (s:List UInt8) (most:Int):(dY s most=(0,13))∨(dY s most=(eJ s,0)∧(eJ s:Int)≤most):=by
 unfold dY
 split
 · exact .inl aa
 · rename_i h; exact .inr ⟨rfl,by have :¬most < eJ s:=fun a=>h (.inr<|.inr a); omega⟩
theorem qM (s:List UInt8) (most:Int):(dY s most).2=0→((dY s most).1:Int)≤most:=by
 rcases Kj s most with h | ⟨h,h1⟩ <;> rw [h]
 · intro h; cases h
 · intro _; exact h1
theorem Bt {b:UInt8} (h:qw b=true):48≤b.toNat∧b.toNat≤57:=of_decide_eq_true h
theorem xP {b:UInt8} (h:¬(48≤b.toNat∧b.toNat≤57)):qw b=false :=decide_eq_false h
theorem Jk {x:UInt8} :∀ {l:List UInt8} {i:Nat},i < l.length→(∀ j,j < i→l.getD j 0≠x)→l.getD i 0=x→eZ x l=(i:Nat):=by
 have key:∀ (l:List UInt8) (i:Nat),i < l.length→(∀ j,j < i→l.getD j 0≠x)→l.getD i 0=x→l.idxOf x=i:=by
  intro l
  induction l with
  | nil=>intro i h; simp at h
  | cons b l q=>
    intro i h h1 h2
    cases i with
    | zero=>have a:b=x:=h2
            subst a; simp
    | succ i=>
      have a:b≠x:=h1 0<|Nat.succ_pos _
      rw [wU,show (b==x)=false from by simpa using a]
      have :=q i (by simpa using h) (fun j A=>h1 (j+1) ab) h2
      rw [this]; rfl
 intro l i h h1 h2
 unfold eZ
 rw [key l i h h1 h2,if_pos h]
theorem Jl {x:UInt8} {l:List UInt8} (h:∀ j,j < l.length→l.getD j 0≠x):eZ x l= -1:=by
 unfold eZ
 rw [if_neg]
 intro h1
 have hm:=List.idxOf_lt_length_iff.1 h1
 obtain ⟨j,a,e⟩:=z1.1 hm
 exact h j a<|by rw [cQ,cz a]; exact e
end Go.Hb
end
section
namespace Go.Hb
open Go.RowKit
theorem pU {h:Array Obj} {a:Option Addr} {l:List UInt8} {i:Nat} (j:aI h a (U8 l)) (hi:i < l.length):Hb.aO h (bk a) (fo a+i*1)=some (.int .u8 (l.getD i 0).toNat):=by
 refine j.gG ?_
 unfold U8
 rw [ic,cz hi,cQ,cz hi]; rfl
theorem Y7 {h:Array Obj} {a:Option Addr} {l:List UInt8} (i:aI h a (U8 l)) (n:Nat):aI h a (U8<|l.take n):=by
 have :=i.take n
 unfold U8 at*
 rwa [List.map_take]
theorem pV {l:List UInt8} (h:0 < l.length):U8 l≠[]:=by
 intro e
 have :=congrArg jy e
 rw [xp,fP] at this
 omega
theorem qP {w:World} {B e:Nat} {v:Value} {l:List UInt8} {x:UInt8} (h:w.ownsRow B e 1 v (l.length+1) (U8 l++ [.int .u8 x.toNat])):w.ownsRow B e 1 v (l++ [x]).length (U8<|l++ [x]):=by
 rw [bI,xo]; exact h
theorem mH {w:World} {B e:Nat} {v:Value} {l:List (List UInt8)} {x:List UInt8} (h:w.ownsRow B e 1 v (l.length+1) (l.map str++ [str x])):w.ownsRow B e 1 v (l++ [x]).length ((l++ [x]).map str):=by
 rw [bI,ig]; exact h
abbrev Rw:Type :=Nat×List (List UInt8)
def y2 (q:Nat×Value):List Value:= [.int .i64 q.1,q.2]
def kF (l:List (Nat×Value)):List Value:=l.flatMap y2
theorem Du (a b:List (Nat×Value)):kF (a++b)=kF a++kF b:=by simp [kF]
theorem Lc (l:List (Nat×Value)):(kF l).length=l.length*2:=oH (f:=y2) (m:=2) (fun _=>rfl) l
theorem lM {l:List (Nat×Value)} (h:0 < l.length):kF l≠[]:=BQ (f:=y2) (m:=2) (fun _=>rfl) az h
theorem lN {h:Array Obj} {ad:Option Addr} {vs:List (Nat×Value)} {i:Nat} {q:Nat×Value} (a:aI h ad (kF vs)) (A:vs[i]? =some q):∀ j,j < 2→Hb.aO h (bk ad) (fo ad+i*2 +j)= [jh .i64 q.1,q.2][j]? :=
 e9 (f:=y2) (m:=2) (fun _=>rfl) a A
def Tg (w:World) (B e n:Nat) (v:Value) (xs:List Value):Prop :=
 ∃ a cp,v= .slice a n cp∧n≤cp∧(xs= []∨∃ b cur z,a=some ⟨b,0,none⟩∧B≤b∧w.heap[b]? =some (.cells cur e z)∧∀ (j:Nat) u,xs[j]? =some u→cur[j]? =some u)
theorem Tg.jN {w:World} {B e size n:Nat} {v:Value} {xs:List Value} (h:w.ownsRow B e size v n xs):Tg w B e n v xs:=by
 have a:=h
 rcases h.2 with ⟨rfl,rfl⟩ | ⟨g,cap,cur,rfl,i,q,_,_,_,A⟩
 · exact ⟨none,0,aa,cj _,.inl<|fO<|by simpa using h.1⟩
 · refine ⟨_,cap,aa,(aX a).1,.inr ⟨g,cur,_,aa,i,q,fun j u hu=> ?_⟩⟩
   rw [← A,o3] at hu
   split at hu
   · simpa using hu
   · cases hu
theorem Tg.cells {w:World} {B e n:Nat} {v:Value} {xs:List Value} (h:Tg w B e n v xs):∃ a cp,v= .slice a n cp∧aI w.heap a xs:=by
 obtain ⟨a,cp,rfl,_,h | ⟨b,cur,z,rfl,_,i,q⟩⟩:=h
 · subst h; exact ⟨a,cp,rfl,aI.nil _ _⟩
 · refine ⟨_,cp,aa,fun _=>rfl,fun j u hu=> ?_⟩
   show Hb.aO w.heap b (0 +j)=_
   rw [gQ,a6 i]; exact q j u hu
theorem Tg.cI {w:World} {B e n cp:Nat} {a:Option Addr} {xs:List Value} (h:Tg w B e n (.slice a n cp) xs):n≤cp∧aI w.heap a xs:=by
 obtain ⟨C,E,j,i,G⟩:=id h
 obtain ⟨a2,c2,q,A⟩:=h.cells
 cases j; cases q
 exact ⟨i,A⟩
theorem Tg.slice {w:World} {B e n:Nat} {v:Value} {xs:List Value} (h:Tg w B e n v xs):∃ a cp,v= .slice a n cp:=let ⟨a,cp,hv,_⟩:=h; ⟨a,cp,hv⟩
theorem Tg.md {F:Nat→Prop} {w w':World} {B e n:Nat} {v:Value} {xs:List Value} (h:Tg w B e n v xs) (hm:Md F w w') (q:∀ k,F k→∀ cur z,w.heap[k]?≠some (.cells cur e z)):Tg w' B e n v xs:=by
 obtain ⟨a,cp,rfl,j,h | ⟨b,cur,z,rfl,A,i,C⟩⟩:=h
 · exact ⟨a,cp,aa,j,.inl h⟩
 · exact ⟨_,cp,aa,j,.inr ⟨b,cur,z,aa,A,by rw [hm.cy b (dm.1 i).1 (fun hk=>q b hk cur z i)]; exact i,C⟩⟩
theorem Tg.wk {w w':World} {B e n:Nat} {v:Value} {xs:List Value} (h:Tg w B e n v xs) (hm:Wk w w'):Tg w' B e n v xs:=h.md hm fun _ hk=>hk.elim
theorem Tg.clip {w:World} {B e n k cp i:Nat} {a:Option Addr} {xs:List Value} (h:Tg w B e n (.slice a n cp) xs) (hk:k≤i):Tg w B e k (.slice a k i) (xs.take k):=by
 obtain ⟨I,J,A,_,q⟩:=h
 simp only [mR,true_and] at A
 obtain ⟨rfl,rfl⟩:=A
 refine ⟨a,i,aa,hk,?_⟩
 rcases q with rfl | ⟨b,cur,z,C,E,G,q⟩
 · exact .inl NQ
 · exact .inr ⟨b,cur,z,C,E,G,fun j u hu=>q j u<|by rw [o3] at hu; split at hu; exact hu; cases hu⟩
theorem hU {w:World} {B e i size n:Nat} {v:Value} {xs:List Value} (h:w.ownsRow B e size v n xs) (q:e≠i):∀ k,v.ownBlock=some k→∀ cur z,w.heap[k]?≠some (.cells cur i z):=by
 intro k hk cur z a
 rcases h.2 with ⟨rfl,_⟩ | ⟨g,cap,A,rfl,_,j,_⟩
 · simp [iH] at hk
 · simp only [iH,fL] at hk
   subst hk
   rw [j] at a
   simp only [fL,wq] at a
   exact q a.2.1
theorem fg {w:World} {b e i:Nat} {cs:Array Value} {y:Nat×Nat} (h:w.heap[b]? =some (.cells cs e y)) (j:e≠i):∀ k,k=b→∀ cur z,w.heap[k]?≠some (.cells cur i z):=by
 rintro k rfl cur z a
 rw [h] at a
 simp only [fL,wq] at a
 exact j a.2.1
def gT (w:World) (B e:Nat) (vs:List (Nat×Value)) (rs:List Rw):Prop :=vs.length=rs.length∧∀ (i:Nat) q r,vs[i]? =some q→rs[i]? =some r→q.1=r.1∧Tg w B e r.2.length q.2 (r.2.map str)
theorem gT.nil (w:World) (B e:Nat):gT w B e [] []:=⟨rfl,fun i q r a=>by simp at a⟩
theorem gT.md {F:Nat→Prop} {w w':World} {B e:Nat} {vs:List (Nat×Value)} {rs:List Rw} (h:gT w B e vs rs) (hm:Md F w w') (a:∀ k,F k→∀ cur z,w.heap[k]?≠some (.cells cur e z)):gT w' B e vs rs:=
 ⟨h.1,fun i q r h1 h2=>⟨(h.2 i q r h1 h2).1,(h.2 i q r h1 h2).2.md hm a⟩⟩
theorem gT.wk {w w':World} {B e:Nat} {vs:List (Nat×Value)} {rs:List Rw} (h:gT w B e vs rs) (hm:Wk w w'):gT w' B e vs rs:=h.md hm fun _ hk=>hk.elim
theorem gT.snoc {w:World} {B e n:Nat} {vs:List (Nat×Value)} {rs:List Rw} {v:Value} {r:List (List UInt8)} (a:gT w B e vs rs) (A:Tg w B e r.length v (r.map str)):gT w B e (vs++ [(n,v)]) (rs++ [(n,r)]):=by
 refine ⟨by rw [bI,bI,a.1]; rfl,fun i C E h1 h2=> ?_⟩
 have q:=a.1
 by_cases hi:i < vs.length
 · rw [mg hi] at h1
   rw [mg ab] at h2
   exact a.2 i C E h1 h2
 · rw [mT ab] at h1
   rw [mT ab,← q] at h2
   cases hj:i - vs.length with
   | zero=>rw [hj] at h1 h2; cases h1; cases h2; exact ⟨rfl,A⟩
   | succ j=>rw [hj] at h1; simp at h1
theorem Tg.mono {w:World} {B B' e n:Nat} {v:Value} {xs:List Value} (h:Tg w B e n v xs) (i:B'≤B):Tg w B' e n v xs:=by
 obtain ⟨a,cp,q,j,A⟩:=h
 exact ⟨a,cp,q,j,A.imp id fun ⟨b,cur,z,h1,h2,h3⟩=>⟨b,cur,z,h1,fW i h2,h3⟩⟩
theorem gT.mono {w:World} {B B' e:Nat} {vs:List (Nat×Value)} {rs:List Rw} (h:gT w B e vs rs) (a:B'≤B):gT w B' e vs rs:=⟨h.1,fun i q r h1 h2=>⟨(h.2 i q r h1 h2).1,(h.2 i q r h1 h2).2.mono a⟩⟩
end Go.Hb
end
section
set_option linter.unusedSectionVars false
namespace Go.Hb
open Go.RowKit
open Go.Sort (swp insInner insOuter insertionSort siftDown heapBuild heapPop heapSort scanUp scanDown partLoop partEqLoop partition partitionEqual scanSorted shiftDown shiftUp partialIns partialInsertionSort reverseLoop reverseRange choosePivot breakPatterns breakStep pdq Hint)
def LE {α:Type} (f:α→Value) (d:Array α):List Value:=d.toList.map f
section
variable {α:Type} [Inhabited α] {f:α→Value}
theorem vu (d:Array α):(LE f d).length=d.size:=by simp [LE]
theorem ca {d:Array α} (h:0 < d.size):LE f d≠[]:=by
 intro e; have :=congrArg jy e; rw [vu,fP] at this; omega
theorem Ju {d:Array α} {i:Nat} (h:i < d.size):(LE f d)[i]? =some (f d[i]!):=by
 unfold LE
 rw [ic,D6,zE h,getElem!_pos d i h]; rfl
theorem dF {h:Array Obj} {a:Option Addr} {d:Array α} {i:Nat} (j:aI h a (LE f d)) (hi:i < d.size):Hb.aO h (bk a) (fo a+i*1)=some (f d[i]!):=j.gG<|Ju hi
theorem Vv (d:Array α) (i:Nat) (v:α):(LE f d).set i (f v)=LE f (d.setIfInBounds i v):=by
 unfold LE; rw [D8,List.map_set]
theorem fG {w:World} {B e n:Nat} {v:Value} {d:Array α} (h:w.ownsRow B e 1 v n (LE f d)):d.size=n:=by
 have :=h.1; rw [vu] at this; omega
end
section
variable {P:Program} {N:Fm} {σ:Nat→Value} {w:World} {ty:TypeId} {pos :String} {af:Array Edge} {g:Option (Nat×Bool)} {x y:Operand} {K:(Nat→Value)→World→Prop}
theorem gu {α:Type} [Inhabited α] {f:α→Value} {t B e n cap:Nat} {a:Option Addr} {d:Array α} {u:α} (i:Nat) (q:w.ownsRow B e 1 (.slice a n cap) n (LE f d)) (E:ee P t=some 1) (A:ev N σ x= .pointer (some ⟨bk a,fo a+i*1,none⟩)) (C:ev N σ y=f u) (h1:(f u).oneCell'=true)
 (G:i < n) (k:∀ w',Md (fun k=>(bO a n cap).ownBlock=some k) w w'→w'.ownsRow B e 1 (.slice a n cap) n (LE f<|d.setIfInBounds i u)→K σ w'):dM P N ⟨none,.store t x y,ty,pos,af,g⟩ σ w K:=
 tI q E A C h1 (j:=i) ab ab fun w' h1 h2=>k w' h1<|by rw [← Vv]; exact h2
end
section
variable {α:Type} [Inhabited α] {lt:α→α→Bool} {d:Array α}
theorem U2 {a j:Nat} (h:a < j) (h1:lt d[j]! d[j - 1]! =true):insInner lt a j d=insInner lt a (j - 1) (swp d j<|j - 1):=by
 cases j with
 | zero=>omega
 | succ j=>simp only [sx] at*; rw [insInner,if_pos (by simp [h1]; omega)]
theorem U4 {a j:Nat} (h:¬a < j):insInner lt a j d=d:=by
 cases j with
 | zero=>rfl
 | succ j=>rw [insInner,if_neg (by simp; omega)]
theorem U3 {a j:Nat} (h1:lt d[j]! d[j - 1]! =false):insInner lt a j d=d:=by
 cases j with
 | zero=>rfl
 | succ j=>simp only [sx] at*; rw [insInner,if_neg (by simp [h1])]
theorem Jh {a b i:Nat} (h:i < b):insOuter lt a b i d=insOuter lt a b (i+1) (insInner lt a i d):=by rw [insOuter,if_pos h]
theorem U1 {a b i:Nat} (h:¬i < b):insOuter lt a b i d=d:=by rw [insOuter,if_neg h]
theorem X8 {hi first r:Nat} (h:¬2 *r+1 < hi):siftDown lt hi first r d=d:=by rw [siftDown,dif_pos ab]
theorem X9 {hi first r:Nat} (h:2 *r+1 +1 < hi) (h1:lt d[first+(2 *r+1)]! d[first+(2 *r+1)+1]! =true):
 siftDown lt hi first r d=if (!lt d[first+r]! d[first+(2 *r+2)]!)=true then d else siftDown lt hi first (2 *r+2) (swp d (first+r)<|first+(2 *r+2)):=by
 rw [siftDown,dif_neg ab,if_pos (by simp [h1]; omega),dif_pos ab]
theorem Ll {hi first r:Nat} (a:2 *r+1 < hi) (h:¬2 *r+1 +1 < hi∨lt d[first+(2 *r+1)]! d[first+(2 *r+1)+1]! =false):
 siftDown lt hi first r d=if (!lt d[first+r]! d[first+(2 *r+1)]!)=true then d else siftDown lt hi first (2 *r+1) (swp d (first+r)<|first+(2 *r+1)):=by
 rw [siftDown,dif_neg ab,if_neg (by rcases h with h | h <;> simp [h] <;> omega)]
theorem Un {hi first k:Nat} (h:0 < k):heapBuild lt hi first k d=heapBuild lt hi first (k - 1) (siftDown lt hi first (k - 1) d):=by
 cases k with
 | zero=>omega
 | succ k=>rfl
theorem Uo {hi first :Nat} :heapBuild lt hi first 0 d=d:=rfl
theorem UM {first k:Nat} (h:0 < k):heapPop lt first k d=heapPop lt first (k - 1) (siftDown lt (k - 1) first 0 (swp d first (first+(k - 1)))):=by
 cases k with
 | zero=>omega
 | succ k=>rfl
theorem DQ {p:α→Bool} {i j:Nat} (h:i≤j) (h1:p d[i]! =true):scanUp p d j i=scanUp p d j (i+1):=by
 rw [scanUp]; simp [h,h1]
theorem tO {p:α→Bool} {i j:Nat} (h:¬i≤j∨p d[i]! =false):scanUp p d j i=i:=by
 rw [scanUp]; rcases h with h | h <;> simp [h]
theorem Bv {p:α→Bool} {i j:Nat} (a:0 < j) (h:i≤j) (h1:p d[j]! =true):scanDown p d i j=scanDown p d i (j - 1):=by
 cases j with
 | zero=>omega
 | succ j=>rw [scanDown]; simp [h,h1]
theorem s8 {p:α→Bool} {i j:Nat} (h:¬i≤j∨p d[j]! =false):scanDown p d i j=j:=by
 cases j with
 | zero=>rfl
 | succ j=>rw [scanDown]; rcases h with h | h <;> simp [h]
theorem Yo {b i:Nat} (h:i < b) (h1:lt d[i]! d[i - 1]! =false):scanSorted lt d b i=scanSorted lt d b (i+1):=by
 rw [scanSorted]; simp [h,h1]
theorem Lz {b i:Nat} (h:¬i < b∨lt d[i]! d[i - 1]! =true):scanSorted lt d b i=i:=by
 rw [scanSorted]; rcases h with h | h <;> simp [h]
theorem XT {j:Nat} (h:0 < j) (h1:lt d[j]! d[j - 1]! =true):shiftDown lt j d=shiftDown lt (j - 1) (swp d j<|j - 1):=by
 cases j with
 | zero=>omega
 | succ j=>simp only [sx] at*; rw [shiftDown]; simp [h1]
theorem Ld {j:Nat} (h:¬0 < j∨lt d[j]! d[j - 1]! =false):shiftDown lt j d=d:=by
 cases j with
 | zero=>rfl
 | succ j=>simp only [sx] at*; rw [shiftDown]; rcases h with h | h <;> first | omega | simp [h]
theorem YD {b j:Nat} (h:j < b) (h1:lt d[j]! d[j - 1]! =true):shiftUp lt b j d=shiftUp lt b (j+1) (swp d j<|j - 1):=by
 rw [shiftUp]; simp [h,h1]
theorem LK {b j:Nat} (h:¬j < b∨lt d[j]! d[j - 1]! =false):shiftUp lt b j d=d:=by
 rw [shiftUp]; rcases h with h | h <;> simp [h]
theorem Xl {i j:Nat} (h:i < j):reverseLoop i j d=reverseLoop (i+1) (j - 1) (swp d i j):=by rw [reverseLoop,if_pos h]
theorem Xm {i j:Nat} (h:¬i < j):reverseLoop i j d=d:=by rw [reverseLoop,if_neg h]
theorem KB {a i j i2 q:Nat} (h1:scanUp (fun x=>lt x d[a]!) d j i=i2) (h2:scanDown (fun x=> !lt x d[a]!) d i2 j=q) (hi:i≤i2) (A:q≤j):
 partLoop lt a i j d=if i2 > q then (q,d) else if (q - 1)+1 - (i2+1) < j+1 - i then partLoop lt a (i2+1) (q - 1) (swp d i2 q) else (q,d):=by
 rw [partLoop]; simp only [h1,h2]; split <;> first | rfl | (split <;> rfl)
theorem Ku {a i j i2 q:Nat} (h1:scanUp (fun x=> !lt d[a]! x) d j i=i2) (h2:scanDown (fun x=>lt d[a]! x) d i2 j=q):
 partEqLoop lt a i j d=if i2 > q then (i2,d) else if (q - 1)+1 - (i2+1) < j+1 - i then partEqLoop lt a (i2+1) (q - 1) (swp d i2 q) else (i2,d):=by
 rw [partEqLoop]; simp only [h1,h2]; split <;> first | rfl | (split <;> rfl)
end
def bW (x y:Nat):Bool:=decide (x < y)
theorem vv:Go.Sort.SWO bW:=⟨fun x=>by simp [bW],fun x y z=>by simp only [bW,decide_eq_true_eq]; omega,fun x y z=>by simp only [bW,decide_eq_false_iff_not]; omega⟩
def bc (n:Nat):Value:= .int .u16 n
section
variable {P:Program} {N:Fm} {σ:Nat→Value} {w:World} {dst:Option Nat} {ty:TypeId} {pos :String} {af:Array Edge} {g:Option (Nat×Bool)} {x y:Operand}
theorem Ax {t A:TypeId} {k:IntKind} {a b v:Int} (j:ev N σ x= .int k a) (q:ev N σ y= .int k b) (i:k.wrap (gk k.bits a ^^^ gk k.bits b).toNat=v):
 (execOp (ev N σ) ⟨dst,.binOp .xor t x y A,ty,pos,af,g⟩).run P w= .ok (.value<|.int k v) w:=by
 subst i; simp [execOp,j,q,eqGuard,binOp,wv]
end
theorem L9 (x:Int):0≤eF.wrap x∧eF.wrap x < 18446744073709551616:=by
 have h:eF.wrap x=x % 18446744073709551616:=by
  simp [IntKind.wrap,IntKind.bits,IntKind.signed]
 rw [h]; omega
theorem OA (r:Int) (m:Nat) (hm:0 < m∧m≤1099511627776):∃ o:Nat,o≤m - 1∧eF.wrap (gk eF.bits r &&& gk eF.bits ((m:Int) - 1)).toNat=(o:Int):=by
 refine ⟨(gk eF.bits r &&& gk eF.bits ((m:Int) - 1)).toNat,?_,?_⟩
 · rw [MM]
   refine fW Nat.and_le_right ?_
   have h1:(m:Int) - 1=((m - 1:Nat):Int):=ab
   rw [h1,p6]
   have h2:(eF.bits:Nat)=64:=rfl
   rw [h2]
   omega
 · exact oU (by have :=(gk eF.bits r &&& gk eF.bits ((m:Int) - 1)).isLt; have h2:(eF.bits:Nat)=64:=aa; rw [h2] at this ⊢; omega)
def kR (n:Nat):Nat:=if n=0 then 0 else Nat.log2 n+1
theorem Jy:∀ n:Fin 256,n.val≠0→n.val < 2 ^ kR n.val∧2 ^ kR n.val≤2 *n.val∧kR n.val≤8:=by decide+kernel
theorem yJ {n:Nat} (h:n < 256):kR n≤8:=by
 rcases Nat.eq_zero_or_pos n with rfl | a
 · decide
 · exact (Jy ⟨n,h⟩<|by simp; omega).2.2
theorem Vy {n:Nat} (h:n < 256) (a:0 < n):n < 2 ^ kR n∧2 ^ kR n≤2 *n:=by
 have :=Jy ⟨n,h⟩<|by simp; omega
 exact ⟨this.1,this.2.1⟩
end Go.Hb
end
section
namespace Go.Hb
def iq:List Nat→List Nat
 | []=> []
 | [x]=> [x]
 | x::y::l=>if x=y then iq (y::l) else x::iq (y::l)
theorem Sf (x y:Nat):∀ l:List Nat,iq (l++ [x,y])=if x=y then iq (l++ [x]) else iq (l++ [x])++ [y]:=by
 intro l
 induction l with
 | nil=>by_cases h:x=y <;> simp [iq,h]
 | cons a l i=>
   cases l with
   | nil=>by_cases h:a=x <;> by_cases h2:x=y <;> simp_all [iq]
   | cons b l=>
     simp only [EA] at i ⊢
     rw [iq,i,iq]
     by_cases h:a=b <;> by_cases h2:x=y <;> simp [h,h2]
theorem Hf (x:Nat):∀ l:List Nat,x∈iq l↔x∈l:=by
 intro l
 induction l with
 | nil=>simp [iq]
 | cons a l i=>
   cases l with
   | nil=>simp [iq]
   | cons b l=>
     rw [iq]
     by_cases h:a=b
     · subst h; rw [if_pos rfl,i]; simp
     · rw [if_neg h,gl,i,gl (a:=x) (b:=a)]
theorem Se:∀ l:List Nat,l.Pairwise (·≤·)→(iq l).Pairwise (· < ·):=by
 intro l
 induction l with
 | nil=>intro _; exact List.Pairwise.nil
 | cons a l j=>
   intro h
   cases l with
   | nil=>simp [iq]
   | cons b l=>
     rw [qa] at h
     rw [iq]
     by_cases h1:a=b
     · rw [if_pos h1]; exact j h.2
     · rw [if_neg h1,qa]
       refine ⟨fun y i=> ?_,j h.2⟩
       have i:=(Hf y _).1 i
       have h2:=h.1 b<|by simp
       rcases gl.1 i with rfl | i
       · omega
       · have :=(qa.1 h.2).1 y i; omega
theorem Xs:∀ l m:List Nat,l.Pairwise (· < ·)→m.Pairwise (· < ·)→(∀ x,x∈l↔x∈m)→l=m:=by
 intro l
 induction l with
 | nil=>
   intro m _ _ h
   cases m with
   | nil=>rfl
   | cons y m=>have :=(h y).2 (by simp); cases this
 | cons a l q=>
   intro m j hm h
   cases m with
   | nil=>have :=(h a).1 (by simp); cases this
   | cons y m=>
     rw [qa] at j hm
     have e:a=y:=by
      have h1:=(h a).1<|by simp
      have h2:=(h y).2<|by simp
      rcases gl.1 h1 with h1 | h1
      · exact h1
      · rcases gl.1 h2 with h2 | h2
        · exact h2.symm
        · have :=j.1 y h2; have :=hm.1 a h1; omega
     subst e
     congr 1
     refine q m j.2 hm.2 fun x=> ?_
     constructor
     · intro i
       have :=j.1 x i
       rcases gl.1 ((h x).1<|uo _ i) with h1 | h1
       · omega
       · exact h1
     · intro i
       have :=hm.1 x i
       rcases gl.1 ((h x).2<|uo _ i) with h1 | h1
       · omega
       · exact h1
def mB (x:Nat):List Nat→List Nat
 | []=> [x]
 | y::l=>if x < y then x::y::l else if x=y then y::l else y::mB x l
def kf (l:List Nat):List Nat:=l.foldr mB []
theorem Jg (x y:Nat):∀ l:List Nat,y∈mB x l↔y=x∨y∈l:=by
 intro l
 induction l with
 | nil=>simp [mB]
 | cons a l i=>
   rw [mB]
   split
   · simp
   · split
     · rename_i h; subst h; simp
     · rw [gl,i,gl]
       constructor <;> (rintro (h | h | h) <;> simp [h])
theorem U0 (x:Nat):∀ l:List Nat,l.Pairwise (· < ·)→(mB x l).Pairwise (· < ·):=by
 intro l
 induction l with
 | nil=>intro _; simp [mB]
 | cons a l q=>
   intro h
   rw [mB]
   rw [qa] at h
   split
   · rename_i j
     rw [qa,qa]
     exact ⟨fun y i=>by rcases gl.1 i with rfl | i; exact j; have :=h.1 y i; omega,h⟩
   · split
     · rw [qa]; exact h
     · rw [qa]
       exact ⟨fun y i=>by rcases (Jg x y l).1 i with rfl | i; omega; exact h.1 y i,q h.2⟩
theorem CY (x:Nat):∀ l:List Nat,x∈kf l↔x∈l:=by
 intro l
 induction l with
 | nil=>simp [kf]
 | cons a l i=>show x∈mB a (kf l)↔_; rw [Jg,i,gl]
theorem CZ:∀ l:List Nat,(kf l).Pairwise (· < ·):=by
 intro l
 induction l with
 | nil=>exact List.Pairwise.nil
 | cons a l i=>exact U0 a _ i
theorem C0 {l m:List Nat} (hm:m.Pairwise (· < ·)) (h:∀ x,x∈m↔x∈l):m=kf l:=Xs _ _ hm (CZ l) fun x=>by rw [h,CY]
theorem Wt {l:List Nat} (h:l.Pairwise (· < ·)):kf l=l:=(C0 h fun _=>Iff.rfl).symm
theorem UZ (x:Nat):∀ l:List Nat,(mB x l).length≤l.length+1:=by
 intro l
 induction l with
 | nil=>simp [mB]
 | cons a l i=>rw [mB]; split <;> (try split) <;> simp only [cM] <;> omega
theorem Ws:∀ l:List Nat,(kf l).length≤l.length:=by
 intro l
 induction l with
 | nil=>simp [kf]
 | cons a l i=>have :=UZ a (kf l); show (mB a<|kf l).length≤_; simp only [cM]; omega
theorem tL (d:Array Nat):d.toList.length=d.size:=by simp
theorem vV (d:Array Nat) (i:Nat):d.toList.getD i 0=d[i]! :=by
 rw [cQ,D6]
 by_cases h:i < d.size
 · rw [zE h,getElem!_pos d i h]; rfl
 · rw [tW ab,getElem!_neg d i h]; rfl
theorem zm {d:Array Nat} {i:Nat} (h:i < d.size):d.toList.take (i+1)=d.toList.take i++ [d[i]!]:=by
 rw [fD d.toList i 0 (by simpa using h),vV]
theorem xN {d:Array Nat} {q:Nat} (h1:1≤q) (h:q < d.size):iq (d.toList.take<|q+1)=if d[q - 1]! =d[q]! then iq (d.toList.take q) else iq (d.toList.take q)++ [d[q]!]:=by
 obtain ⟨q,rfl⟩:∃ k,q=k+1:=⟨q - 1,ab⟩
 rw [zm h,zm ab,dC,sx]
 exact Sf _ _ _
theorem Yi {d:Array Nat} (h:ud bW 0 d.size d):d.toList.Pairwise (·≤·):=by
 rw [List.pairwise_iff_getElem]
 intro i j hi a q
 have :=h i j (Nat.zero_le _) q<|by simpa using a
 rw [← vV,← vV,cQ,cQ,cz hi,cz a] at this
 simp only [bW,decide_eq_false_iff_not,z8] at this
 omega
theorem Yg {l:List Nat} {d:Array Nat} (hp:Go.Sort.PermIn 0 l.length l.toArray d) (hs:ud bW 0 l.length d):iq d.toList=kf l:=by
 have a:d.size=l.length:=by rw [hp.1]; simp
 have i:d.toList.Perm l:=by
  have :=hp.2.2
  rw [show (d.extract 0 l.length).toList=d.toList from by rw [Array.toList_extract]; simp [eI (show d.toList.length≤l.length by simp [a])]] at this
  simpa using this
 exact C0 (Se _<|Yi<|by rw [a]; exact hs) fun x=>by rw [Hf]; exact i.mem_iff
theorem xQ {d d2:Array Nat} {k j:Nat} (h:d.toList.drop k=d2.toList.drop k) (hk:k≤j):d[j]! =d2[j]! :=by
 have :=congrArg (fun l=>l.getD (j - k) 0) h
 simp only [cQ,ri,show k+(j - k)=j from by omega] at this
 rw [← vV,← vV]; simpa [cQ] using this
theorem set_drop {d:Array Nat} {k m v:Nat} (h:k < m):(d.setIfInBounds k v).toList.drop m=d.toList.drop m:=by
 rw [D8,List.drop_set,if_pos h]
theorem Dv {d:Array Nat} {k v:Nat} (h:k < d.size):(d.setIfInBounds k v).toList.take (k+1)=d.toList.take k++ [v]:=by
 rw [D8,List.set_eq_take_append_cons_drop,if_pos (by simpa using h),xd,dO,wg,o6 ab,NV,eI (by rw [dO]; omega)]
 rfl
theorem CF {h:Array Obj} {a:Option Addr} {d:Array Nat} {i j:Nat} {f:Nat→Value} (q:aI h a ((LE f d).drop i)) (hi:i+j < d.size):Hb.aO h (bk a) (fo a+j*1)=some (f d[i+j]!):=by
 refine q.gG ?_
 rw [ri]; exact Ju hi
theorem CG {d:Array Nat} {i:Nat} {f:Nat→Value} (h:i < d.size):(LE f d).drop i≠[]:=by
 intro e; have :=congrArg jy e; rw [fK,vu,fP] at this; omega
def jd (b:UInt8):Bool:=decide (33≤b.toNat∧b.toNat≤126∧b.toNat≠47∧b.toNat≠44∧b.toNat≠35)
noncomputable def eD (kind:Nat) (s:List UInt8):Nat:=
 if kind=1 then (if s.length=1∧jd (s.getD 0 0)=true then (s.getD 0 0).toNat else 0)
 else if kind=2 then (if s.length=2∧jd (s.getD 0 0)=true∧jd (s.getD 1 0)=true then 256 *(s.getD 0 0).toNat+(s.getD 1 0).toNat else 0)
 else (dY s 65535).1
def fC (c:UInt8):List UInt8→List UInt8→List (List UInt8)
 | acc,[]=> [acc]
 | acc,b::l=>if b=c then acc::fC c [] l else fC c (acc++ [b]) l
theorem Yl (c:UInt8):∀ (l acc:List UInt8),(fC c acc l).length≤l.length+1:=by
 intro l
 induction l with
 | nil=>intro acc; simp [fC]
 | cons b l a=>
   intro acc; rw [fC]; split
   · have :=a []; simp only [cM]; omega
   · have :=a (acc++ [b]); simp only [cM]; omega
theorem Ym (c:UInt8):∀ (l acc x:List UInt8),x∈fC c acc l→x.length≤acc.length+l.length:=by
 intro l
 induction l with
 | nil=>intro acc x h; simp only [fC,jY] at h; subst h; simp
 | cons b l a=>
   intro acc x h
   rw [fC] at h
   split at h
   · rcases gl.1 h with rfl | h
     · simp
     · have :=a [] x h; simp only [fP,cM] at*; omega
   · have :=a _ x h; rw [bI,eW] at this; simp only [cM]; omega
def pD (k:Nat):Nat→List UInt8→List (List UInt8)
 | 0,_=> []
 | f+1,s=>if s= [] then [] else s.take k::pD k f (s.drop k)
def chunks (k:Nat) (s:List UInt8):List (List UInt8):=pD k s.length s
theorem QW {k:Nat} (hk:0 < k):∀ (f g:Nat) (s:List UInt8),s.length≤f→s.length≤g→pD k f s=pD k g s:=by
 intro f
 induction f with
 | zero=>intro g s h _; obtain rfl :=fO (by omega :s.length=0); cases g <;> simp [pD]
 | succ f a=>
   intro g s h1 h2
   cases g with
   | zero=>obtain rfl :=fO (by omega :s.length=0); simp [pD]
   | succ g=>
     rw [pD,pD]
     by_cases hs:s= []
     · simp [hs]
     · have i:=lx.2 hs
       rw [if_neg hs,if_neg hs,a g (s.drop k) (by rw [fK]; omega) (by rw [fK]; omega)]
theorem xG (k:Nat):chunks k []= []:=rfl
theorem xF {k:Nat} {s:List UInt8} (hk:0 < k) (hs:s≠[]):chunks k s=s.take k::chunks k (s.drop k):=by
 have a:=lx.2 hs
 unfold chunks
 obtain ⟨m,hm⟩:∃ m,s.length=m+1:=⟨s.length - 1,ab⟩
 rw [hm,pD,if_neg hs,QW hk m (s.drop k).length (s.drop k) (by rw [fK]; omega) (cj _)]
theorem QZ {k:Nat} (hk:0 < k):∀ (n:Nat) (s:List UInt8),s.length≤n→(chunks k s).length≤s.length:=by
 intro n
 induction n with
 | zero=>intro s h; obtain rfl :=fO (by omega :s.length=0); simp [xG]
 | succ n a=>
   intro s h
   by_cases hs:s= []
   · subst hs; simp [xG]
   · have i:=lx.2 hs
     rw [xF hk hs,cM]
     have :=a (s.drop k)<|by rw [fK]; omega
     rw [fK] at this; omega
theorem Q0 {k:Nat} (hk:0 < k):∀ (n:Nat) (s x:List UInt8),s.length≤n→x∈chunks k s→x.length≤s.length:=by
 intro n
 induction n with
 | zero=>intro s x h a; obtain rfl :=fO (by omega :s.length=0); cases a
 | succ n i=>
   intro s x h a
   by_cases hs:s= []
   · subst hs; cases a
   · have j:=lx.2 hs
     rw [xF hk hs] at a
     rcases gl.1 a with rfl | a
     · rw [dO]; omega
     · have :=i (s.drop k) x (by rw [fK]; omega) a
       rw [fK] at this; omega
def dE (kind:Nat) (s:List UInt8):List (List UInt8):=if kind=3 then fC 44 [] s else chunks kind s
theorem Kz {kind:Nat} {s:List UInt8} (hk:0 < kind):(dE kind s).length≤s.length+1:=by
 unfold dE; split
 · exact Yl _ _ _
 · have :=QZ hk s.length s (cj _); omega
theorem KA {kind:Nat} {s x:List UInt8} (hk:0 < kind) (h:x∈dE kind s):x.length≤s.length:=by
 unfold dE at h; split at h
 · have :=Ym _ _ _ _ h; simpa using this
 · exact Q0 hk _ _ _ (cj _) h
noncomputable def dX (kind:Nat) (s:List UInt8):List Nat×Nat:=
 if s= [] then ([],31) else if ∃ x∈dE kind s,eD kind x=0 then ([],31) else if 64 < (dE kind s).length then ([],32) else (kf ((dE kind s).map<|eD kind),0)
noncomputable def gI (kind:Nat) (s:List UInt8):Nat×Nat:=if eD kind s=0 then (0,31) else (eD kind s,0)
theorem HY (kind:Nat) (s:List UInt8):eD kind s < 65536:=by
 unfold eD
 have a:=iS<|s.getD 0 0
 have h1:=iS<|s.getD 1 0
 split
 · split <;> omega
 · split
   · split <;> omega
   · unfold dY; split
     · exact Nat.zero_lt_succ _
     · rename_i h; simp only; omega
theorem tT {n:Int} (h:0≤n∧n≤65535):oY.wrap n=n:=IntWalk.u16_in n h
theorem XY {x:Nat} (h:x < 256):oY.wrap ((x:Int)*2 ^ min (8:Int).toNat oY.bits)=((256 *x:Nat):Int):=by
 have h2:((x:Int)*2 ^ min (8:Int).toNat oY.bits)=((256 *x:Nat):Int):=by
  show (x:Int)*256=_
  omega
 rw [h2]; exact tT ab
theorem WA {x y:Nat} (h:x < 256) (q:y < 256):oY.wrap (gk oY.bits ((256 *x:Nat):Int) ||| gk oY.bits ((y:Nat):Int)).toNat=((256 *x+y:Nat):Int):=by
 have h1:(gk oY.bits ((256 *x:Nat):Int) ||| gk oY.bits ((y:Nat):Int)).toNat=256 *x+y:=by
  have j:(oY.bits:Nat)=16:=rfl
  rw [MN,p6,p6,j]
  have a:(((256 *x:Nat):Int) % ((2 ^ 16:Nat):Int)).toNat=2 ^ 8 *x:=ab
  have i:(((y:Nat):Int) % ((2 ^ 16:Nat):Int)).toNat=y:=ab
  rw [a,i,← Nat.two_pow_add_eq_or_of_lt (show y < 2 ^ 8 by omega)]
 rw [h1]; exact tT ab
theorem Ki (s:List UInt8):(dY s 65535).1≤65535:=by
 unfold dY; split
 · exact Nat.zero_le _
 · simp only; omega
theorem QY (s:List UInt8) (i k:Nat):(s.take (min ((i+k:Nat):Int) (s.length:Int)).toNat).drop (i:Int).toNat=(s.drop i).take k:=by
 rw [mS,show (min ((i+k:Nat):Int) (s.length:Int)).toNat=min (i+k) s.length from by omega,su]
 by_cases h:i+k≤s.length
 · rw [o6 h,NV]
 · rw [Nat.min_eq_right ab,eI (by rw [fK]; omega),eI (by rw [fK]; omega)]
theorem Lx (c:UInt8):∀ (l acc:List UInt8),l.idxOf c < l.length→fC c acc l=(acc++l.take (l.idxOf c))::fC c [] (l.drop<|l.idxOf c+1):=by
 intro l
 induction l with
 | nil=>intro acc h; simp at h
 | cons b l i=>
   intro acc h
   rw [fC]
   by_cases a:b=c
   · subst a; rw [if_pos rfl]; simp
   · rw [if_neg a]
     have hi:(b::l).idxOf c=l.idxOf c+1:=by rw [wU,show (b==c)=false from by simpa using a]; rfl
     rw [hi] at h ⊢
     simp only [cM] at h
     rw [i _ ab]
     simp [dC]
theorem Yn (c:UInt8):∀ (l acc:List UInt8),¬c∈l→fC c acc l= [acc++l]:=by
 intro l
 induction l with
 | nil=>intro acc _; simp [fC]
 | cons b l a=>
   intro acc h
   rw [gl,not_or] at h
   rw [fC,if_neg (fun e=>h.1 e.symm),a _ h.2]; simp
theorem DC (c:UInt8):∀ (l acc:List UInt8),(fC c acc l).length=l.count c+1:=by
 intro l
 induction l with
 | nil=>intro acc; simp [fC]
 | cons b l i=>
   intro acc
   rw [fC]
   by_cases a:b=c
   · subst a; rw [if_pos rfl,cM,i]; simp
   · rw [if_neg a,i,List.count_cons_of_ne a]
theorem RX {c:UInt8} {l:List UInt8} (h:l.idxOf c < l.length):(l.drop<|l.idxOf c+1).count c+1=l.count c:=by
 have h1:=DC c l []
 rw [Lx c l [] h,cM,DC] at h1
 omega
def bM (n:Nat):Value:= .int .i64 n
theorem yK {α:Type} {f:α→Value} {h:Array Obj} {a:Option Addr} {l:List α} {i:Nat} (d:α) (j:aI h a (l.map f)) (hi:i < l.length):Hb.aO h (bk a) (fo a+i*1)=some (f<|l.getD i d):=by
 refine j.gG ?_
 rw [ic,cz hi,cQ,cz hi]; rfl
def qh (l out:List Nat) (last:Int):Prop :=out.Pairwise (· < ·)∧∀ x,x∈out↔x∈l∧(x:Int)≤last
def k4 (l:List Nat) (last:Int) (i:Nat) (nx:Int):Prop :=(nx= -1∧∀ j,j < i→((l.getD j 0:Nat):Int)≤last)∨(∃ m∈l,nx=(m:Nat)∧last < nx∧∀ j,j < i→last < ((l.getD j 0:Nat):Int)→nx≤((l.getD j 0:Nat):Int))
theorem qh.nil (l:List Nat):qh l [] (-1):=⟨List.Pairwise.nil,fun x=>by simp; omega⟩
theorem k4.nil (l:List Nat) (last:Int):k4 l last 0 (-1):= .inl ⟨rfl,fun j a=>by omega⟩
theorem yR {i:Nat} {q:Nat→Prop} (h:∀ j,j < i→q j) (h1:q i):∀ j,j < i+1→q j:=fun j a=>by
 rcases e8 j i with h2 | h2
 · exact h j h2
 · rw [show j=i by omega]; exact h1
theorem k4.skip {l:List Nat} {last nx:Int} {i:Nat} (h:k4 l last i nx) (h1:((l.getD i 0:Nat):Int)≤last∨(¬nx < 0∧nx≤((l.getD i 0:Nat):Int))):k4 l last (i+1) nx:=by
 rcases h with ⟨h2,h3⟩ | ⟨m,hm,h2,h3,h4⟩
 · exact .inl ⟨h2,yR h3 ab⟩
 · exact .inr ⟨m,hm,h2,h3,yR h4 ab⟩
theorem k4.take {l:List Nat} {last nx:Int} {i:Nat} (h:k4 l last i nx) (hi:i < l.length) (h1:last < ((l.getD i 0:Nat):Int)) (h2:nx < 0∨((l.getD i 0:Nat):Int) < nx):k4 l last (i+1) ((l.getD i 0:Nat):Int):=by
 refine .inr ⟨l.getD i 0,?_,aa,h1,?_⟩
 · rw [cQ,cz hi]; exact ND hi
 · rcases h with ⟨_,h4⟩ | ⟨m,_,h3,_,h5⟩
   · exact yR (fun j a q=>by have :=h4 j a; omega) ab
   · exact yR (fun j a q=>by have :=h5 j a q; omega) ab
theorem k4.done {l out:List Nat} {last nx:Int} (h:k4 l last l.length nx) (hu:qh l out last) (hn:nx < 0):out=kf l:=by
 refine C0 hu.1 fun x=> ?_
 rw [hu.2]
 refine ⟨fun h1=>h1.1,fun h1=>⟨h1,?_⟩⟩
 rcases h with ⟨_,h3⟩ | ⟨m,_,h3,_,_⟩
 · obtain ⟨j,a,rfl⟩:=z1.1 h1
   have :=h3 j a
   rwa [cQ,cz a] at this
 · omega
theorem k4.more {l out:List Nat} {last nx:Int} (h:k4 l last l.length nx) (hu:qh l out last) (hn:¬nx < 0):∃ m,m∈l∧nx=((m:Nat):Int)∧last < nx∧qh l (out++ [m]) nx:=by
 rcases h with ⟨h2,_⟩ | ⟨m,hm,h2,h3,h4⟩
 · omega
 · refine ⟨m,hm,h2,h3,?_,fun x=> ?_⟩
   · rw [List.pairwise_append]
     exact ⟨hu.1,List.pairwise_singleton _ _,fun a E b i=>by rw [jY] at i; subst i; have :=((hu.2 a).1 E).2; omega⟩
   · rw [jz,hu.2,jY]
     constructor
     · rintro (⟨h5,A⟩ | rfl)
       · exact ⟨h5,ab⟩
       · exact ⟨hm,ab⟩
     · rintro ⟨h5,A⟩
       by_cases C:(x:Int)≤last
       · exact .inl ⟨h5,C⟩
       · right
         obtain ⟨j,q,rfl⟩:=z1.1 h5
         have :=h4 j q
         rw [cQ,cz q] at this
         simp only [z8] at this
         omega
end Go.Hb
end
section
namespace Go.Hb
def iN (b:UInt8):Bool:=decide (33≤b.toNat∧b.toNat≠127)
def gq (w:List UInt8):Bool:=w.all iN
def pX (w:List UInt8):Bool:=decide (1≤w.length∧w.length≤64∧gq w=true)
theorem dQ {α:Type} {l:List α} {i:Nat} {d:α} (h:i < l.length):l.getD i d∈l:=by
 rw [cQ,cz h]; exact ND h
theorem nU {α:Type} {l:List α} {x:α} (d:α) (h:x∈l):∃ i,i < l.length∧l.getD i d=x:=by
 obtain ⟨i,hi,rfl⟩:=z1.1 h
 exact ⟨i,hi,by rw [cQ,cz hi]; rfl⟩
theorem Fj {α:Type} {f:α→Bool} {l:List α} {i:Nat} (d:α) (h:i < l.length) (h1:f (l.getD i d)=false):l.all f=false :=by
 rw [List.all_eq_false]; exact ⟨_,dQ h,by rw [h1]; exact eb⟩
theorem Fk {α:Type} {f:α→Bool} {l:List α} (d:α) (h:∀ i,i < l.length→f (l.getD i d)=true):l.all f=true :=by
 rw [me]; intro x a; obtain ⟨i,hi,rfl⟩:=nU d a; exact h i hi
theorem sW {w:List UInt8} {i:Nat} (h:i < w.length) (h1:iN (w.getD i 0)=false):gq w=false :=Fj 0 h h1
theorem uJ {w:List UInt8} (h:∀ i,i < w.length→iN (w.getD i 0)=true):gq w=true :=Fk 0 h
theorem O2 (b:UInt8):gq [b]=iN b:=by unfold gq; simp
def rG (b:UInt8):Bool:=decide (b.toNat=92∨b.toNat=47∨b.toNat=35)
abbrev lD:Type :=List UInt8×List UInt8×Bool×Nat
def KI (r:lD):Value:= .tuple #[str r.1,str r.2.1,.bool r.2.2.1,.int .i64 r.2.2.2]
def jm:List UInt8→List UInt8→lD
 | acc,[]=>(acc,[],false,0)
 | acc,[b]=>if b.toNat=47 then (acc,[],true,0) else if b.toNat=92 then ([],[],false,20) else (acc++ [b],[],false,0)
 | acc,b::c::l=>if b.toNat=47 then (acc,c::l,true,0) else if b.toNat=92 then (if rG c=true then jm (acc++ [c]) l else ([],[],false,20)) else jm (acc++ [b]) (c::l)
theorem zB (acc:List UInt8):jm acc []=(acc,[],false,0):=by simp [jm]
theorem DZ {acc l:List UInt8} {b:UInt8} (h:b.toNat=47):jm acc (b::l)=(acc,l,true,0):=by
 cases l <;> simp [jm,h]
theorem DW {acc:List UInt8} {b:UInt8} (h:b.toNat=92):jm acc [b]=([],[],false,20):=by simp [jm,h]
theorem DX {acc l:List UInt8} {b c:UInt8} (h:b.toNat=92) (a:rG c=false):jm acc (b::c::l)=([],[],false,20):=by simp [jm,h,a]
theorem wc {acc l:List UInt8} {b c:UInt8} (h:b.toNat=92) (a:rG c=true):jm acc (b::c::l)=jm (acc++ [c]) l:=by simp [jm,h,a]
theorem DY {acc l:List UInt8} {b:UInt8} (h:¬b.toNat=47) (h1:¬b.toNat=92):jm acc (b::l)=jm (acc++ [b]) l:=by
 cases l <;> simp [jm,h,h1]
theorem ZF (n:Nat):∀ (l acc:List UInt8),l.length≤n→(jm acc l).1.length≤acc.length+l.length∧(jm acc l).2.1.length≤l.length:=by
 induction n with
 | zero=>intro l acc h; obtain rfl :=fO (by omega :l.length=0); rw [zB]; exact ⟨by simp,by simp⟩
 | succ n a=>
   intro l acc h
   cases l with
   | nil=>rw [zB]; exact ⟨by simp,by simp⟩
   | cons b l=>
     simp only [cM] at h ⊢
     by_cases h1:b.toNat=47
     · rw [DZ h1]; exact ⟨by simp only; omega,by simp only; omega⟩
     · by_cases h2:b.toNat=92
       · cases l with
         | nil=>rw [DW h2]; exact ⟨by simp,by simp⟩
         | cons c l=>
           simp only [cM] at h ⊢
           cases hc:rG c
           · rw [DX h2 hc]; exact ⟨by simp,by simp⟩
           · rw [wc h2 hc]
             have :=a l (acc++ [c]) ab
             rw [bI,eW] at this
             omega
       · rw [DY h1 h2]
         have :=a l (acc++ [b]) ab
         rw [bI,eW] at this
         omega
def bu (f:List UInt8):lD:=jm [] f
theorem r9 (f:List UInt8):(bu f).1.length≤f.length∧(bu f).2.1.length≤f.length:=by
 have :=ZF f.length f []<|cj _
 simpa [bu] using this
def lets (s:List UInt8):List UInt8:=s.foldl (fun a b=>if b∈a then a else a++ [b]) []
def letE (s:List UInt8):List UInt8×Nat:=if s= []∨gq s=false then ([],21) else (lets s,0)
theorem qK {s:List UInt8} {i:Nat} (h:i < s.length):lets (s.take<|i+1)=if s.getD i 0∈lets (s.take i) then lets (s.take i) else lets (s.take i)++ [s.getD i 0]:=by
 unfold lets
 rw [fD s i 0 h,EC]; rfl
theorem CH (s:List UInt8):(lets s).length≤s.length:=by
 have key:∀ (s a:List UInt8),(s.foldl (fun a b=>if b∈a then a else a++ [b]) a).length≤a.length+s.length:=by
  intro s
  induction s with
  | nil=>intro a; simp
  | cons b s i=>
    intro a
    rw [sv,cM]
    split
    · have :=i a; omega
    · have :=i (a++ [b]); rw [bI,eW] at this; omega
 have :=key s []
 simpa [lets] using this
def marksOf (a:List UInt8):List Value:=(jZ 256).map fun k=> .bool<|decide (j0 k∈a)
theorem JJ (a:List UInt8):(marksOf a).length=256:=by simp [marksOf]
theorem VV (a:List UInt8) (b:UInt8):(marksOf a)[b.toNat]? =some (.bool<|decide (b∈a)):=by
 have :=iS b
 unfold marksOf
 rw [ic,zW ab]
 simp
theorem VX (a:List UInt8) (b:UInt8):(marksOf a).set b.toNat (.bool true)=marksOf (a++ [b]):=by
 apply p8
 intro k
 rw [kX,JJ]
 unfold marksOf
 rw [ic,ic]
 by_cases hk:k < 256
 · rw [zW hk]
   simp only [mh]
   have he:(j0 k=b)↔b.toNat=k:=by
    constructor
    · rintro rfl; simp; omega
    · rintro rfl; simp
   by_cases h:b.toNat=k
   · have h2:=he.2 h
     simp [h,hk,h2]
   · have h2:¬j0 k=b:=fun e=>h<|he.1 e
     simp [h,h2]
 · have :(jZ 256)[k]? =none:=uk<|by simp; omega
   have i:=iS b
   rw [this]
   simp; omega
theorem VW:marksOf []=kj 256 (.bool false):=by
 unfold marksOf
 apply p8
 intro k
 rw [ic,List.getElem?_replicate]
 by_cases hk:k < 256
 · rw [zW hk]; simp [hk]
 · rw [uk (by simp; omega)]; simp [hk]
theorem Bd.new {T e b:Nat} {w:World} (h:w.heap[b]? =some (.cells [zQ none,.slice none 0 0].toArray T (0,0))):Bd T e w b (.slice none 0 0) []:=
 ⟨⟨none,h,.inl rfl⟩,du _ _ _ _,by simp⟩
theorem Bd.step {T e b:Nat} {a w w':World} {i:Value} {l:List UInt8} (h:Bd T e w b i l) (j:Wk a w) (q:Md (BF b i) w w') (C:a.heap.size≤b):Wk a w':=
 Md.trans' j q fun k hk A=>by have :=h.jk A; omega
theorem Bd.DH {T e b:Nat} {a w w':World} {i:Value} {l:List UInt8} (h:Bd T e w b i l) (j:Wk a w) (q:Md (fun k=>i.ownBlock=some k) w w') (C:a.heap.size≤b):Wk a w':=
 Md.trans' j q fun k hk A=>by have :=h.jk (.inr A); omega
end Go.Hb
end
section
set_option linter.unusedSimpArgs false
namespace Go.Hb
def qp (g:Nat→Bool):Nat→Nat
 | 0=>0
 | n+1=>qp g n ||| (if g n=true then 2 ^ n else 0)
theorem OO (g:Nat→Bool):∀ n,qp g n < 2 ^ n:=by
 intro n
 induction n with
 | zero=>exact Nat.zero_lt_one
 | succ n a=>
   rw [qp]
   refine EJ (Nat.lt_trans a<|z7 az<|uv n) ?_
   split
   · exact z7 az<|uv n
   · exact Nat.two_pow_pos _
theorem uH (g:Nat→Bool) (j:Nat):∀ n,(qp g n).testBit j=(decide (j < n) && g j):=by
 intro n
 induction n with
 | zero=>simp [qp]
 | succ n q=>
   rw [qp,NZ,q]
   by_cases i:j=n
   · subst i
     cases h:g j <;> simp [Nat.testBit_two_pow_self]
   · have a:(if g n=true then 2 ^ n else 0).testBit j=false :=by
      split
      · rw [N0]; simp; omega
      · simp
     rw [a,MO]
     congr 1
     exact decide_eq_decide.2 ab
theorem xz {g:Nat→Bool} {x:Nat} (i:x < 2 ^ 64) (h:∀ j,j < 64→x.testBit j=g j):x=qp g 64:=by
 refine Nat.eq_of_testBit_eq fun j=> ?_
 rw [uH]
 by_cases a:j < 64
 · rw [h j a,decide_eq_true a,wj]
 · rw [decide_eq_false a,Bool.false_and]
   exact Nat.testBit_lt_two_pow<|sy i<|Nat.pow_le_pow_right az ab
def eV (f:UInt8→Bool) (k:Nat):Nat:=qp (fun j=>f<|j0<|64 *k+j) 64
def eG (f:UInt8→Bool):List Value:= [.int .u64 (eV f 0),.int .u64 (eV f 1),.int .u64 (eV f 2),.int .u64 (eV f 3)]
theorem tR (f:UInt8→Bool) (k:Nat):eV f k < 18446744073709551616:=OO _ 64
theorem xI (f:UInt8→Bool):(eG f).length=4:=rfl
theorem GL (f:UInt8→Bool):(eG f).all gz=true :=rfl
theorem Bi (f:UInt8→Bool) {k:Nat} (h:k < 4):(eG f)[k]? =some (.int .u64<|eV f k):=by
 match k,h with
 | 0,_=>rfl
 | 1,_=>rfl
 | 2,_=>rfl
 | 3,_=>rfl
theorem Bj:eG (fun _=>false)= [.int .u64 0,.int .u64 0,.int .u64 0,.int .u64 0]:=by
 have :∀ k,eV (fun _=>false) k=0:=fun k=>(xz (x:=0) az fun j _=>by simp).symm
 unfold eG; simp only [this]; rfl
theorem Ay (b:UInt8) {k j:Nat} (hk:k < 4) (i:j < 64):j0 (64 *k+j)=b↔k=b.toNat / 64∧j=b.toNat % 64:=by
 have a:=iS b
 constructor
 · rintro rfl
   simp only [EL]
   omega
 · rintro ⟨h1,h2⟩
   refine kY.1 ?_
   simp only [EL]
   omega
theorem Zx (f:UInt8→Bool) (b:UInt8) {k:Nat} (hk:k < 4):eV (fun x=>f x || decide (x=b)) k=if k=b.toNat / 64 then eV f k ||| 2 ^ (b.toNat % 64) else eV f k:=by
 split
 · rename_i h
   refine (xz (EJ (tR f k)<|z7 az ab) fun j a=> ?_).symm
   rw [NZ,N0]
   have h1:(eV f k).testBit j=f (j0<|64 *k+j):=by unfold eV; rw [uH,decide_eq_true a,wj]
   rw [h1]
   congr 1
   exact decide_eq_decide.2<|by rw [Ay b hk a]; omega
 · rename_i h
   refine (xz (tR f k) fun j a=> ?_).symm
   have h1:(eV f k).testBit j=f (j0<|64 *k+j):=by unfold eV; rw [uH,decide_eq_true a,wj]
   show _=(f (j0<|64 *k+j) || decide (j0 (64 *k+j)=b))
   rw [h1,decide_eq_false (by rw [Ay b hk a]; omega),MO]
theorem Rq (f:UInt8→Bool) (b:UInt8):(eG f).set (b.toNat / 64) (.int .u64 ((eV f (b.toNat / 64) ||| 2 ^ (b.toNat % 64):Nat):Int))=eG (fun x=>f x || decide (x=b)):=by
 have a:=iS b
 apply p8
 intro k
 rw [kX,xI]
 by_cases hk:k < 4
 · rw [Bi _ hk,Bi _ hk,Zx f b hk]
   by_cases h:b.toNat / 64=k
   · subst h; simp [show b.toNat / 64 < 4 by omega]
   · rw [if_neg h,if_neg (fun e=>h e.symm)]
 · rw [uk (by rw [xI]; omega),uk (by rw [xI]; omega)]
   simp; omega
theorem Zw (f:UInt8→Bool) (b:UInt8):decide ((((eV f (b.toNat / 64) / 2 ^ (b.toNat % 64)) % 2:Nat):Int)=1)=f b:=by
 have a:=iS b
 have h1:(eV f<|b.toNat / 64).testBit (b.toNat % 64)=f b:=by
  unfold eV
  rw [uH,decide_eq_true (Nat.mod_lt _ az),wj,(Ay b (k:=b.toNat / 64) (j:=b.toNat % 64) ab<|Nat.mod_lt _ az).2 ⟨rfl,rfl⟩]
 rw [← h1,Nat.testBit_eq_decide_div_mod_eq]
 exact decide_eq_decide.2 ab
theorem Fp (b:UInt8):p7.wrap (gk p7.bits (b.toNat:Int) &&& gk p7.bits 63).toNat=((b.toNat % 64:Nat):Int):=by
 have h:∀ r:Fin 256,p7.wrap (gk p7.bits ((r.val:Nat):Int) &&& gk p7.bits 63).toNat=((r.val % 64:Nat):Int):=by decide+kernel
 exact h ⟨b.toNat,iS b⟩
theorem Lk (b:UInt8):(b.toNat:Int).fdiv (2 ^ min (6:Int).toNat p7.bits)=((b.toNat / 64:Nat):Int):=by
 have h:∀ r:Fin 256,((r.val:Nat):Int).fdiv (2 ^ min (6:Int).toNat p7.bits)=((r.val / 64:Nat):Int):=by decide+kernel
 exact h ⟨b.toNat,iS b⟩
theorem XX {m:Nat} (h:m < 64):eF.wrap ((1:Int)*2 ^ min ((m:Nat):Int).toNat eF.bits)=((2 ^ m:Nat):Int):=by
 have h2:(eF.bits:Nat)=64:=rfl
 rw [mS,h2,o6 ab,Int.one_mul]
 have h3:(2:Nat) ^ m < 2 ^ 64:=z7 az h
 have h4:((2:Int) ^ m)=((2 ^ m:Nat):Int):=by simp
 rw [h4]
 obtain ⟨x,a⟩:∃ x:Nat,2 ^ m=x:=⟨_,rfl⟩
 rw [a] at h3 ⊢; exact oU ab
theorem Wz {x y:Nat} (i:x < 2 ^ 64) (j:y < 2 ^ 64):eF.wrap (gk eF.bits (x:Int) ||| gk eF.bits (y:Int)).toNat=((x ||| y:Nat):Int):=by
 have a:(eF.bits:Nat)=64:=rfl
 have h1:(gk eF.bits (x:Int) ||| gk eF.bits (y:Int)).toNat=x ||| y:=by
  rw [MN,p6,p6,a]
  congr 1 <;> omega
 rw [h1]
 have :=EJ i j
 obtain ⟨z,q⟩:∃ z:Nat,x ||| y=z:=⟨_,rfl⟩
 rw [q] at this ⊢; exact oU ab
theorem X7 (x:Nat) {m:Nat} (h:m < 64):(x:Int).fdiv (2 ^ min ((m:Nat):Int).toNat eF.bits)=((x / 2 ^ m:Nat):Int):=by
 have h2:(eF.bits:Nat)=64:=rfl
 rw [mS,h2,o6 ab]
 rw [show ((2:Int) ^ m)=((2 ^ m:Nat):Int) by simp,Int.fdiv_eq_ediv_of_nonneg _ (Int.natCast_nonneg _)]; rfl
theorem Oz {x:Nat} (i:x < 2 ^ 64):eF.wrap (gk eF.bits (x:Int) &&& gk eF.bits 1).toNat=((x % 2:Nat):Int):=by
 have a:(eF.bits:Nat)=64:=rfl
 have h1:(gk eF.bits (x:Int) &&& gk eF.bits 1).toNat=x % 2:=by
  rw [MM,p6,p6,a,show ((x:Int) % ((2 ^ 64:Nat):Int)).toNat=x by omega]
  exact Nat.and_one_is_mod x
 rw [h1]; exact oU ab
section
variable {P:Program} {N:Fm} {σ:Nat→Value} {w:World} {dst:Option Nat} {ty:TypeId} {pos :String} {af:Array Edge} {g:Option (Nat×Bool)} {x:Operand}
theorem xJ {t:TypeId} {k:Nat} {f:UInt8→Bool} (A:ev N σ x= .int .u64 (eV f k)):(execOp (ev N σ) ⟨dst,.unOp .xor t x,ty,pos,af,g⟩).run P w= .ok (.value<|.int .u64<|eV (fun y=> !f y) k) w:=by
 have q:=tR f k
 have h1:eF.wrap (gk eF.bits eF.max ^^^ gk eF.bits (eV f k:Int)).toNat=(eV (fun y=> !f y) k:Int):=by
  have i:(eF.bits:Nat)=64:=rfl
  have h2:(gk eF.bits eF.max ^^^ gk eF.bits (eV f k:Int)).toNat=eV (fun y=> !f y) k:=by
   rw [BitVec.toNat_xor,p6,p6,i,show (eF.max % ((2 ^ 64:Nat):Int)).toNat=2 ^ 64 - 1 from by decide,show ((eV f k:Int) % ((2 ^ 64:Nat):Int)).toNat=eV f k by omega]
   refine xz (Nat.xor_lt_two_pow az q) fun j a=> ?_
   rw [Nat.testBit_xor,Nat.testBit_two_pow_sub_one,decide_eq_true a,Bool.true_xor]
   congr 1
   unfold eV; rw [uH,decide_eq_true a,wj]
  rw [h2]; have :=tR (fun y=> !f y) k; exact oU ab
 have h3:(wv .xor eF eF.max (eV f k:Int)).run P w= .ok (.int .u64<|eV (fun y=> !f y) k) w:=by
  simp only [wv]
  rw [← h1]; rfl
 have h4:(El .xor<|.int eF (eV f k:Int)).run P w= .ok (.int .u64<|eV (fun y=> !f y) k) w:=by
  simp only [El]
  exact h3
 simp [execOp,A,h4]
end
def cB (t:List UInt8) (b:UInt8):Bool:=
 if t.length=1 then decide (t.getD 0 0=46∨t.getD 0 0=b)
 else if t.getD 1 0=94 then !decide (b∈(t.take<|t.length - 1).drop 2)
 else decide (b∈(t.take<|t.length - 1).drop 1)
def im:List UInt8→Option (List UInt8×List UInt8)
 | []=>none
 | b::l=>if b=91 then (if l.idxOf 93 < l.length∧l.idxOf 93≠0∧¬(l.idxOf 93=1∧l.getD 0 0=94) then some (b::l.take (l.idxOf 93 +1),l.drop (l.idxOf 93 +1)) else none) else some ([b],l)
theorem Ba {s t r:List UInt8} (h:im s=some (t,r)):r.length < s.length:=by
 cases s with
 | nil=>cases h
 | cons b l=>
   simp only [im] at h
   split at h
   · split at h
     · simp only [fL,sE] at h
       obtain ⟨_,rfl⟩:=h
       rw [fK,cM]; omega
     · cases h
   · simp only [fL,sE] at h
     obtain ⟨_,rfl⟩:=h
     simp
def lX:Nat→List UInt8→Option (List<|List UInt8)
 | 0,s=>if s= [] then some [] else none
 | f+1,s=>if s= [] then some [] else match im s with
   | none=>none
   | some (t,r)=>(lX f r).map (t:: ·)
theorem RQ:∀ (f g:Nat) (s:List UInt8),s.length≤f→s.length≤g→lX f s=lX g s:=by
 intro f
 induction f with
 | zero=>intro g s h _; obtain rfl :=fO (by omega :s.length=0); cases g <;> simp [lX]
 | succ f a=>
   intro g s h1 h2
   cases g with
   | zero=>obtain rfl :=fO (by omega :s.length=0); simp [lX]
   | succ g=>
     rw [lX,lX]
     split
     · rfl
     · cases hc:im s with
       | none=>rfl
       | some q=>
         obtain ⟨t,r⟩:=q
         have :=Ba hc
         simp only
         rw [a g r ab ab]
def mu (s:List UInt8):Option (List<|List UInt8):=lX s.length s
theorem RM:mu []=some []:=rfl
theorem RO {s t r:List UInt8} (h:im s=some (t,r)):mu s=(mu r).map (t:: ·):=by
 have a:=Ba h
 unfold mu
 obtain ⟨m,hm⟩:∃ m,s.length=m+1:=⟨s.length - 1,ab⟩
 have hs:s≠[]:=fun e=>by rw [e] at hm; simp at hm
 rw [hm,lX,if_neg hs,h]
 simp only
 rw [RQ m r.length r ab (cj _)]
theorem RN {s:List UInt8} (hs:s≠[]) (h:im s=none):mu s=none:=by
 unfold mu
 have a:=lx.2 hs
 obtain ⟨m,hm⟩:∃ m,s.length=m+1:=⟨s.length - 1,ab⟩
 rw [hm,lX,if_neg hs,h]
def da (s:List UInt8):List (List UInt8)×Nat:=
 if s= []∨512 < s.length then ([],40) else if s= [46] then ([],0) else match mu s with
  | none=>([],41)
  | some xs=>if 16 < xs.length then ([],42) else (xs,0)
def km (s:List UInt8) (i:Nat) (a:List (List UInt8)):Prop :=mu s=(mu<|s.drop i).map (a++ ·)
theorem km.start (s:List UInt8):km s 0 []:=by
 unfold km; rw [wS]; cases mu s <;> simp
theorem km.step {s t r:List UInt8} {i j:Nat} {a:List (List UInt8)} (h:km s i a) (q:im (s.drop i)=some (t,r)) (A:r=s.drop j):km s j (a++ [t]):=by
 subst A
 unfold km at*
 rw [h,RO q]
 cases mu (s.drop j) <;> simp
theorem km.bad {s:List UInt8} {i:Nat} {a:List (List UInt8)} (h:km s i a) (hi:i < s.length) (j:im (s.drop i)=none):mu s=none:=by
 unfold km at h
 rw [h,RN (fun e=>by have :=congrArg jy e; rw [fK,fP] at this; omega) j]; rfl
theorem km.done {s:List UInt8} {i:Nat} {a:List (List UInt8)} (h:km s i a) (hi:s.length≤i):mu s=some a:=by
 unfold km at h
 rw [h,gP hi,RM]; simp
theorem GF {b:UInt8} {l:List UInt8} (h:b≠91):im (b::l)=some ([b],l):=by simp [im,h]
theorem Bb {b:UInt8} {l:List UInt8} (a:b=91) (h:l.idxOf 93 < l.length) (h1:l.idxOf 93≠0) (h2:¬(l.idxOf 93=1∧l.getD 0 0=94)):im (b::l)=some (b::l.take (l.idxOf 93 +1),l.drop (l.idxOf 93 +1)):=by
 simp only [im]; rw [if_pos a,if_pos ⟨h,h1,h2⟩]
theorem xH {b:UInt8} {l:List UInt8} (a:b=91) (h:¬(l.idxOf 93 < l.length∧l.idxOf 93≠0∧¬(l.idxOf 93=1∧l.getD 0 0=94))):im (b::l)=none:=by
 simp only [im]; rw [if_pos a,if_neg h]
def lV (f:UInt8→Bool) (i:Nat):List UInt8:=((jZ i).map j0).filter f
def bytesOf (f:UInt8→Bool):List UInt8:=lV f 256
theorem sV (f:UInt8→Bool) (i:Nat):lV f (i+1)=lV f i++(if f (j0 i)=true then [j0 i] else []):=by
 unfold lV
 rw [List.range_succ,ig,List.filter_append]
 congr 1
 cases h:f (j0 i) <;> simp [h]
theorem qs (f:UInt8→Bool) (i:Nat):(lV f i).length≤i:=by
 unfold lV
 refine fW (zX _ _) ?_
 simp
theorem FI (f:UInt8→Bool) (b:UInt8):b∈bytesOf f↔f b=true :=by
 unfold bytesOf lV
 rw [List.mem_filter]
 refine ⟨fun h=>h.2,fun h=>⟨?_,h⟩⟩
 rw [o4]
 exact ⟨b.toNat,uq.2 (iS b),by simp⟩
theorem OZ (f:UInt8→Bool):(bytesOf f).Nodup:=by
 unfold bytesOf lV
 refine List.Nodup.sublist List.filter_sublist ?_
 rw [NL,List.pairwise_map]
 refine Z1 ?_<|NL.1 List.nodup_range
 intro a b i j q e
 have h1:=uq.1 i
 have h2:=uq.1 j
 have :=congrArg UInt8.toNat e
 simp only [EL] at this
 omega
theorem O1 (f:UInt8→Bool):∀ i,(lV f i).length+(lV (fun b=> !f b) i).length=i:=by
 intro i
 induction i with
 | zero=>rfl
 | succ i a=>
   rw [sV,sV,bI,bI]
   cases h:f (j0 i) <;> simp [h] <;> omega
theorem FH {f g:UInt8→Bool} (h:∀ b,f b=g b):bytesOf f=bytesOf g:=by rw [show f=g from funext h]
def gM (f:UInt8→Bool):List UInt8:=
 if (bytesOf f).length=256 then [46]
 else if (bytesOf f).length=1∧(bytesOf f).getD 0 0≠46∧(bytesOf f).getD 0 0≠91 then bytesOf f
 else if f 93=true then [91,94]++bytesOf (fun b=> !f b)++ [93]
 else [91]++((bytesOf f).filter (fun b=>decide (b≠94))++(if 94∈bytesOf f then [94] else []))++ [93]
def l6 (ps:List (List UInt8)):List UInt8:=if ps= [] then [46] else ps.flatMap fun t=>gM<|cB t
theorem Dw (f:UInt8→Bool):(gM f).length≤300:=by
 have h1:=qs f 256
 have h2:=qs (fun b=> !f b) 256
 unfold gM
 split
 · simp
 · split
   · unfold bytesOf; omega
   · split
     · simp only [bI,cM,fP]; unfold bytesOf; omega
     · have h3:=zX (fun b=>decide (b≠94))<|bytesOf f
       have h4:(if 94∈bytesOf f then [(94:UInt8)] else []).length≤1:=by split <;> simp
       simp only [bI,cM,fP]
       have h5:(bytesOf f).length≤256:=h1
       omega
theorem UO {l:List UInt8} (hn:l.Nodup) {c:UInt8} (h:l.idxOf c < l.length):l.take (l.idxOf c)++l.drop (l.idxOf c+1)=l.filter (fun b=>decide (b≠c)):=by
 induction l with
 | nil=>simp at h
 | cons b l j=>
   rw [NK] at hn
   by_cases a:b=c
   · subst a
     simp only [ED,oq,p9,gQ,wP,wS]
     rw [List.filter_cons_of_neg (by simp)]
     exact (Ns.2 fun x i=>by simp; rintro rfl; exact hn.1 i).symm
   · have e:(b::l).idxOf c=l.idxOf c+1:=by rw [wU,show (b==c)=false from by simpa using a]; rfl
     rw [e] at h ⊢
     simp only [cM] at h
     rw [qc,wP,EA,j hn.2 ab,List.filter_cons_of_pos (by simpa using a)]
theorem Kh {l:List UInt8} {c:UInt8} (h:¬c∈l):l.filter (fun b=>decide (b≠c))=l:=
 Ns.2 fun x a=>by simp; rintro rfl; exact h a
def k6 (ps:List (List UInt8)):List Value:=ps.flatMap fun t=>eG<|cB t
theorem Rp (a b:List (List UInt8)):k6 (a++b)=k6 a++k6 b:=by simp [k6]
end Go.Hb
end
