/-
  Walks and plain laws that the law rests on, laid together. No conditions but those that each theorem names.
-/
import Derived.WalkKit
import Derived.OrdersHeld
import Derived.TacticsIn
import Derived.Lib.Strings
import Derived.Lib.UnsafeStr
import Derived.Laws.MakeOwn
import Derived.Laws.StructEq
import Derived.SliceStrings
import Derived.Carry
import Derived.JoinedCond
import Derived.ProofKit
import Derived.OpenShut
import Derived.Test.YtchkamdekbbgeaaGreatDoorRows
import Derived.Sort.AssemblyPlain
import Derived.RangeFuncFrom
import Derived.RangeFuncLeaves
import Derived.Recover
import Derived.Laws.OwnMore
import Derived.Lib.Bytealg
import Derived.Lib.SliceRun
import Derived.OrdersIn
import Derived.Maps.RangeRun
import Derived.Test.YtchkamdekbbgeaaGreatDoorChecked
import Derived.Shelf.Slices.In.SortAlone
import Derived.Shelf.Slices.In.SortNone
import Derived.Sort.OwnSortedInts
import Derived.Sort.EveryDepth
import Derived.Shelf.SlSortCmp.NoneTotal
import Derived.Sort.OwnSorted
import Derived.Sort.Walk0
set_option linter.unusedVariables false
open Array renaming ext_getElem?→PS,getD_eq_getD_getElem?→GR,getElem?_eq_getElem→vZ,getElem?_eq_none→rK,getElem?_eq_some_iff→dT,getElem?_setIfInBounds→GU,getElem?_toList→wg,length_toList→yw,mem_toList_iff→yx,range→rL,replicate→BL,setIfInBounds_comm→GV,toArray_toList→BM,toList_append→PV,toList_inj→BO,toList_map→oc,toList_setIfInBounds→yy
open BitVec renaming ofInt→gX,toNat_and→PW,toNat_ofInt→rM,toNat_or→PX
open Bool renaming and_eq_true→iq,eq_iff_iff→sW,noConfusion→eA,not_eq_true'→BR,or_eq_true→yA,or_false→PY,true_and→yB
open Go.Addr renaming add→BS
open Go.Builtin renaming append_→BT,firstCells→PZ,lenOf→P0,len_→P1
open Go.Calls renaming mono→lU
open Go.Conv renaming bytesToString→P4,seenAt→P5,unsafePointer→P6
open Go.DataW renaming TrodAll→P7
open Go.Deferred renaming ofValue→sX
open Go.Fence renaming wide→rN
open Go.Instr renaming alloc→Qa,buildSlice→GZ,checkKey→p6,fill→od,findKey→ug,loadAt→Qd,lookup→Qe,slice→yD,sliceAt→ui,sliceBound→uj,sliceBounds→qG,storeAt→G4,sureAddr→sY
open Go.IntKind renaming i64→BU,u16→qH,u64→fq,u8→rO
open Go.Next renaming value→G5
open Go.Obj.cells renaming injEq→yE
open Go.Op renaming equal→G6,equalIn→rP,intArith→yF,intBits→yG,intCmp→wh,stringOp→BV,unary→G7
open Go.Oper renaming upon→mJ,uponIn→BW,wp→kG
open Go.Region renaming Mode→uk,binds→lV,free_spec→G9,noSelect_spec→Ha,ready→ly,wanted→sZ
open Go.Result renaming andThen_ok→oZ,ok→Hc
open Go.Sem renaming run_bind→o0,run_ite→He,run_pure→rQ
open Go.Sort renaming SortedIn→wi
open Go.Value renaming bool→cy,cells→wo,int→gY,oneCell'→gI,ownBlock→jU,pointer→BY,slice→cg
open Go.Value.slice renaming injEq→og
open Go.Value.string renaming inj→Qs
open Go.World renaming freeze→yK,ownsRow_nil→dC,setCell→B3,shape?→Hk
open Int renaming toNat_natCast→kH
open List.Pairwise renaming imp_of_mem→aeT
open List renaming all_cons→wq,all_eq_true→mK,any_eq_true→B4,append_assoc→e6,append_nil→eJ,cons_append→Hl,drop_append→QA,drop_eq_nil_of_le→iS,drop_of_length_le→QD,drop_succ_cons→yL,drop_take→uq,drop_zero→yM,eq_nil_of_length_eq_zero→fY,ext_getElem?→qI,filter_eq_self→B7,flatMap_cons→kI,foldl_append→Ho,foldl_cons→ta,getD_cons_zero→mq,getD_eq_getElem?_getD→da,getElem?_append_left→nq,getElem?_append_right→oh,getElem?_cons_succ→QK,getElem?_drop→qJ,getElem?_eq_getElem→cz,getElem?_eq_none→wx,getElem?_map→gi,getElem?_range→B8,getElem?_set→lW,getElem?_take→qK,getElem_mem→QO,idxOf_cons→yN,idxOf_cons_self→Hq,length→jV,length_append→bP,length_cons→db,length_drop→fM,length_filter_le→o5,length_nil→gC,length_pos_iff→mr,length_singleton→fE,length_take→dM,mapM_toArray→yR,map_append→fZ,map_cons→tc,map_take→Ca,mem_append→gq,mem_append_left→Cb,mem_cons→eL,mem_cons_of_mem→om,mem_iff_getElem→Cc,mem_map→iT,mem_map_of_mem→uu,mem_of_getElem?→gL,mem_range→nr,mem_singleton→gD,nil_append→qL,nodup_cons→Cd,nodup_iff_pairwise_ne→QS,pairwise_cons→lz,pairwise_iff_getElem→QV,range→gZ,replicate→kZ,size_toArray→qM,takeWhile_sublist→QY,take_append→uw,take_nil→Q1,take_of_length_le→eK,take_succ_cons→rU,take_zero→oq,zipIdx_cons→Cg
open List.cons renaming inj→Qx,injEq→Qy
open Nat renaming add_assoc→Q3,add_sub_cancel→ux,add_sub_cancel_left→Q6,beq→yT,ble→o7,blt→iU,eq_of_beq_eq_true→Q7,le_of_ble_eq_true→td,le_refl→cU,le_trans→fu,lt_of_lt_of_le→uy,lt_or_ge→fT,lt_succ_self→wO,min_eq_left→qN,mul_le_mul_right→qO,mul_one→nu,or_lt_two_pow→Hv,pow_lt_pow_right→Ci,succ_mul→rV,testBit_or→Q9,testBit_two_pow→Ra,zero_add→iV,zero_mul→Hw
open Option renaming bind_some→rW,getD_some→Cj,isSome_iff_exists→ot,map_eq_some_iff→ou,map_some→lX
open Option.some renaming injEq→gM
open Prod renaming fst→iW
open Prod.mk renaming injEq→uz
open UInt8 renaming lt_iff_toNat_lt→Rc,ofNat→kJ,toNat_inj→lA,toNat_lt→jJ,toNat_ofNat'→Hx
open Go.Proofs.Tryz
open Go.RowKit

namespace Go.Hb
theorem aj {p:Prop} (h:p:=by omega):p:=h
theorem au {p:Prop} (h:p:=by kernel_rfl):p:=h
theorem aM {p:Prop} (h:p:=by decide):p:=h
theorem ag {α:Sort _} {a:α} :a=a:=rfl
end Go.Hb
section
namespace Go.Hb
structure Fm where
 n:Nat
 D:List Deferred
 F:List Nat
 r:Option Nat
def ea (σ:Nat→Value) (d:Nat) (v:Value):Nat→Value:=fun i=>cond (yT i d) v<|σ i
def gK (σ:Nat→Value):Option Nat→Value→Nat→Value
 | some d,v=>ea σ d v
 | none,_=>σ
def act (N:Fm) (σ:Nat→Value):Act:=⟨((gZ N.n).map σ).toArray,N.D⟩
def ev (N:Fm) (σ:Nat→Value):Operand→Value
 | .tmp t=>cond (iU t N.n) (σ t) undef
 | .const v=>v
 | .global g=> .pointer<|some ⟨g,0,none⟩
 | .func f=> .func (.func f) #[] #[]
theorem qW (N:Fm) (σ:Nat→Value) (t:Nat):(act N σ).tmps[t]? =if t < N.n then some (σ t) else none:=by
 simp only [act,List.getElem?_toArray,gi];split
 · rename_i h; rw [B8 h]; rfl
 · rename_i h; rw [wx (by simpa using h)]; rfl
theorem jM (N:Fm) (σ:Nat→Value):(act N σ).eval=ev N σ:=by
 funext x;cases x with
 | tmp t=>
   simp only [Act.eval,ev,GR,qW];by_cases h:t < N.n
   · rw [if_pos h,show iU t N.n=true from by simpa using h]; rfl
   · rw [if_neg h,show iU t N.n=false from by cases hx:iU t N.n <;> simp_all [iU,Nat.ble_eq] <;> omega]; rfl
 | _=>rfl
theorem y0 {a b:Act} (hd:a.defers=b.defers) (A:∀ i:Nat,a.tmps[i]? =b.tmps[i]?):a=b:=by
 cases a; cases b;simp only at hd A;subst hd;congr 1;exact PS A
theorem lD (N:Fm) (σ:Nat→Value) (dst:Option Nat) (v:Value):(act N σ).put dst v=act N (gK σ dst v):=by
 cases dst with
 | none=>rfl
 | some d=>
   refine y0 ag fun i=> ?_;have E:((act N σ).put (some d) v).tmps=(act N σ).tmps.setIfInBounds d v:=rfl;rw [E,GU,qW,qW];have hs:(act N σ).tmps.size=N.n:=by simp [act]
   simp only [gK,ea];by_cases C:i=d
   · subst C;rw [hs];have A:yT i i=true :=by simp
     by_cases h:i < N.n
     · rw [if_pos rfl,if_pos h,if_pos h,A]; rfl
     · rw [if_pos rfl,if_neg h,if_neg h]
   · rw [if_neg (fun e=>C e.symm)];have A:yT i d=false :=by
      cases hx:yT i d
      · rfl
      · exact absurd (Q7 hx) C
     rw [A]; rfl
theorem qB {σ:Nat→Value} {i:Nat} {v:Value} (h:σ i=v):ea σ i v=σ:=by
 funext j;unfold ea;cases hx:yT j i
 · rfl
 · have :=Q7 hx; subst this; exact h.symm
def lift (N:Fm) (Q:Exit→(Nat→Value)→World→Prop):Exit→Act→World→Prop
 | .panic c,a,w=> ∃ σ,a=act N σ∧∀ A,(∀ i∈N.F,A i=σ i)→Q (.panic c) A w
 | .outgrown,_,_=>False
 | e,a,w=> ∃ σ,a=act N σ∧Q e σ w
def fe:Option Nat→Fence
 | none=>rN
 | some l=>rN.inRound l
theorem DM (r:Option Nat):(fe r).round=r:=by cases r <;> rfl
theorem zT (r:Option Nat) (f:FuncId):(fe r).fn f:=by cases r <;> trivial
theorem xy (r:Option Nat):(fe r).depth=none:=by cases r <;> rfl
theorem KI {r:Option Nat} {n:Nat} {P:Program} {f:FuncId} {args:Array Value} {w:World} {R:Ending→World→Prop} (h:Calls P f args w R):CallsIn (fe r) n P f args w R:=by
 cases r
 · exact callsIn_wide.2 h
 · exact (callsIn_wide (n:=n)).2 h
theorem KJ {r:Option Nat} {n:Nat} {P:Program} {row:String} {args:Array Value} {w:World} {R:Value→World→Prop} (h:Rows P row args w R):RowsIn (fe r) n P row args w R:=fun c cs _=>by
 obtain ⟨v,w',A,hs⟩:=h c cs;refine ⟨v,w',A,?_⟩;cases r
 · exact stepsIn_wide.2 hs
 · exact stepsIn_wide.2 hs
def Nr (ops:List Oper):Bool:=ops.all fun o=>match o.op with | .defer _=>false | _=>true
def vE (r:Option Nat) (ops:List Oper):Bool:=match r with | none=>true | some _=>Nr ops
theorem aaO {l:List Oper} (h:Nr l=true):∀ o∈l,∀ c,o.op≠.defer c:=fun o A c e=>by
 have :=mK.1 h o A;rw [e] at this;cases this
theorem ED {r:Option Nat} {P:Program} {ops:Array Oper} {Q:Exit→Act→World→Prop} (E:¬LetsOut Q) (G:vE r ops.toList=true):∀ (l:List Nat) (a:Act) (w:World),wpOps P ops Q l a w→wpOpsIn (fe r) 0 P ops Q l a w:=by
 intro l
 induction l with
 | nil=>exact fun _ _ h=>h
 | cons i l C=>
   intro a w h;simp only [wpOps] at h;simp only [wpOpsIn];cases ho:ops[i]? with
   | none=>simp only [ho] at h ⊢; exact C a w h
   | some o=>
     simp only [ho] at h ⊢;by_cases hw:sZ o (yielded ops a.tmps)=true
     · rw [if_pos hw] at h ⊢;rcases h with h | h
       · refine ⟨fun f _=>zT r f,?_⟩;rw [DM];have I:o.semAt r a.eval=execOp a.eval o:=by
          cases r with
          | none=>rfl
          | some k=>exact Oper.semAt_eq _ _ _<|aaO G o<|yx.2<|Array.mem_of_getElem? ho
         rw [I];unfold kG at h;generalize (execOp a.eval o).run P w=x at h;cases x with
         | ok n w'=>
           cases n <;> simp only [mJ,BW] at h ⊢ <;>
            first
             | exact C _ _ h
             | (refine ⟨fun A=>(by rw [xy] at A; cases A),CallsIn.mono (KI h) fun e w'' he=> ?_⟩
                cases e <;> first | exact C _ _ he | exact he)
             | exact ⟨fun A=>(by rw [xy] at A; cases A),RowsIn.mono (KJ h) fun v w'' he=>C _ _ he⟩
         | halt x w'=>cases x <;> simp only [mJ,BW] at h ⊢ <;> exact h
       · exact absurd h.2 E
     · rw [if_neg hw] at h ⊢;exact ⟨fun f _=>zT r f,C _ _ h⟩
def eG (P:Program) (N:Fm) (c:Code) (Q:Exit→(Nat→Value)→World→Prop) (σ:Nat→Value) (w:World):Prop :=
 c.wpIn (fe N.r) 0 P (lift N Q) (act N σ) w
def fz (P:Program) (N:Fm) (ops:Array Oper) (Q:Exit→(Nat→Value)→World→Prop) (l:List Oper) (σ:Nat→Value) (w:World):Prop :=
 wpList P ops (lift N Q) l (act N σ) w
def nj (K:(Nat→Value)→World→Prop) (Q:Exit→(Nat→Value)→World→Prop):Exit→(Nat→Value)→World→Prop
 | .normal,σ,w=>K σ w
 | e,σ,w=>Q e σ w
def sB (id:Nat) (Q:Exit→(Nat→Value)→World→Prop):Exit→(Nat→Value)→World→Prop
 | .exit A,σ,w=>if A=id then Q .normal σ w else Q (.exit A) σ w
 | e,σ,w=>Q e σ w
section
variable {P:Program} {N:Fm} {Q:Exit→(Nat→Value)→World→Prop} {σ:Nat→Value} {w:World} {K:(Nat→Value)→World→Prop}
theorem Z7 {Q E:Exit→(Nat→Value)→World→Prop} (h:∀ e σ w,Q e σ w→E e σ w) (e:Exit) (a:Act) (w:World):lift N Q e a w→lift N E e a w:=by
 cases e <;> first | exact fun h=>h.elim | exact fun ⟨σ,A,C⟩=>⟨σ,A,h _ _ _ C⟩ | exact fun ⟨σ,A,C⟩=>⟨σ,A,fun I G=>h _ _ _<|C I G⟩
theorem aeA {A:Exit→(Nat→Value)→World→Prop} {c:Code} (h:∀ e σ w,Q e σ w→A e σ w) (C:eG P N c Q σ w):eG P N c A σ w:=
 wpIn_mono C (Z7 h)
theorem tn (h:K σ w):nj K Q .normal σ w:=h
theorem te (id:Nat) (h:Q (.exit id) σ w):nj K Q (.exit id) σ w:=h
theorem tr (h:Q .ret σ w):nj K Q .ret σ w:=h
theorem bn {id:Nat} (h:Q .normal σ w):sB id Q .normal σ w:=h
theorem be {id:Nat} (h:Q .normal σ w):sB id Q (.exit id) σ w:=by simpa only [sB,if_true] using h
theorem qh {id A:Nat} (C:A≠id) (h:Q (.exit A) σ w):sB id Q (.exit A) σ w:=by simpa only [sB,if_neg C] using h
theorem br {id:Nat} (h:Q .ret σ w):sB id Q .ret σ w:=h
theorem sq {x y:Code} (h:∀ K:(Nat→Value)→World→Prop,(∀ σ w,eG P N y Q σ w→K σ w)→eG P N x (nj K Q) σ w):eG P N (.seq x y) Q σ w:=by
 refine wpIn_seq<|wpIn_mono (h (fun σ w=>eG P N y Q σ w) fun _ _ h=>h) ?_;intro e a w A;cases e with
 | normal=>obtain ⟨σ,rfl,C⟩:=A; exact C
 | panic c=>exact A
 | outgrown=>exact A
 | _=>obtain ⟨σ,rfl,C⟩:=A; exact ⟨σ,rfl,C⟩
theorem ez {x y:Code} (A:(Nat→Value)→World→Prop) (h:eG P N x (nj A Q) σ w) (hk:∀ σ w,A σ w→eG P N y Q σ w):eG P N (.seq x y) Q σ w:=
 sq fun _ E=>aeA (fun e _ _ C=>by cases e <;> first | exact E _ _ (hk _ _ C) | exact C) h
theorem ct {c:Operand} {x y:Code} (A:ev N σ c= .bool true) (h:eG P N x Q σ w):eG P N (.cond c x y) Q σ w:=
 wpIn_cond_true (by rw [jM]; exact A) h
theorem cf {c:Operand} {x y:Code} (A:ev N σ c= .bool false) (h:eG P N y Q σ w):eG P N (.cond c x y) Q σ w:=
 wpIn_cond_false (by rw [jM]; exact A) h
theorem cb {c:Operand} {x y:Code} {b:Bool} (A:ev N σ c= .bool b) (E:b=true→eG P N x Q σ w) (C:b=false→eG P N y Q σ w):eG P N (.cond c x y) Q σ w:=by
 cases b
 · exact cf A<|C ag
 · exact ct A<|E ag
theorem cd {c:Operand} {x y:Code} {p:Prop} [Decidable p] (A:ev N σ c= .bool (decide p)) (E:p→eG P N x Q σ w) (C:¬p→eG P N y Q σ w):eG P N (.cond c x y) Q σ w:=
 cb A (fun h=>E<|of_decide_eq_true h) (fun h=>C<|of_decide_eq_false h)
theorem aW {id:Nat} {c:Code} (h:eG P N c (sB id Q) σ w):eG P N (.block id c) Q σ w:=by
 refine wpIn_block<|wpIn_mono h ?_;intro e a w C;cases e with
 | panic c=>exact C
 | outgrown=>exact C
 | exit E=>
   obtain ⟨σ,rfl,A⟩:=C;simp only [sB,Exit.inBlock] at A ⊢;split
   · rename_i e; rw [if_pos e] at A; exact ⟨σ,rfl,A⟩
   · rename_i e; rw [if_neg e] at A; exact ⟨σ,rfl,A⟩
 | _=>obtain ⟨σ,rfl,A⟩:=C; exact ⟨σ,rfl,A⟩
theorem ext {id:Nat} (h:Q (.exit id) σ w):eG P N (.exit id) Q σ w:=wpIn_exit ⟨σ,rfl,h⟩
theorem aT (h:Q .normal σ w):eG P N .skip Q σ w:=wpIn_skip ⟨σ,rfl,h⟩
theorem rt (h:Q .ret σ w):eG P N .ret Q σ w:=wpIn_ret ⟨σ,rfl,h⟩
theorem fx {c:Code} {v:Value} (i:Nat) (h:σ i=v) (A:eG P N c Q (ea σ i v) w):eG P N c Q σ w:=by rw [qB h] at A; exact A
def Sl (σ:Nat→Value) (L:List (Nat×Value)):Prop :=L.map (fun p=>σ p.1)=L.map (fun p=>p.2)
def BC (σ:Nat→Value):List (Nat×Value)→Nat→Value
 | []=>σ
 | p::L=>ea (BC σ L) p.1 p.2
theorem Ps {σ:Nat→Value} :∀ {L:List (Nat×Value)},Sl σ L→BC σ L=σ
 | [],_=>rfl
 | p::L,h=>by
   have h1:σ p.1=p.2:=(Qx h).1;have h2:Sl σ L:=(Qx h).2;rw [BC,Ps h2,qB h1]
theorem bH {c:Code} {L:List (Nat×Value)} (h:Sl σ L) (A:eG P N c Q (BC σ L) w):eG P N c Q σ w:=by rw [Ps h] at A; exact A
theorem lp {c:Code} (J:Nat→(Nat→Value)→World→Prop) (n:Nat) (ae:J n σ w)
 (h:∀ n σ w,J n σ w→eG P N c (nj (fun ao w'=> ∃ m,m < n∧J m ao w') Q) σ w):eG P N (.loop c) Q σ w:=by
 intro b k cs al V Y;have key:∀ n σ w,J n σ w→
  ∃ e O w',lift N Q e O w'∧ArrivesIn (Machine.fenced P<|fe N.r) P (lone (b.atR (act N σ) (.code c:: .inLoop c::k)) cs w) b k cs e O w':=by
  intro n
  induction n using Nat.strongRecOn with
  | _ n am=>
    intro σ w ah;obtain ⟨e,Z,I,G,C⟩:=h n σ w ah b (.inLoop c::k) cs al V Y;cases e with
    | normal=>
      obtain ⟨A,rfl,m,hm,ai⟩:=G;obtain ⟨ac,aa,an,ak,aj⟩:=am m hm A I ai;exact ⟨ac,aa,an,ak,.of_steps (StepsIn.trans C<|.one (fenced_calm V Y ag) stepR_inLoop) aj⟩
    | exit id=>obtain ⟨A,rfl,E⟩:=G; exact ⟨.exit id,act N A,I,⟨A,rfl,E⟩,.pass (x:= .inLoop c) rfl (fun _ _=> .inl<|by simp) C⟩
    | goto l=>obtain ⟨A,rfl,E⟩:=G; exact ⟨.goto l,act N A,I,⟨A,rfl,E⟩,.pass (x:= .inLoop c) rfl (fun _ _=> .inl<|by simp) C⟩
    | ret=>obtain ⟨A,rfl,E⟩:=G; exact ⟨.ret,act N A,I,⟨A,rfl,E⟩,.pass (x:= .inLoop c) rfl (fun _ _=> .inl<|by simp) C⟩
    | panic ab=>exact ⟨.panic ab,Z,I,G,.pass (x:= .inLoop c) rfl (fun _ _=> .inl<|by simp) C⟩
    | outgrown=>exact G.elim
 obtain ⟨e,O,w',E,C⟩:=key _ σ w ae;exact ⟨e,O,w',E,.of_steps (.one (fenced_calm V Y ag) stepR_loop) C⟩
def dW (P:Program) (N:Fm) (o:Oper) (σ:Nat→Value) (w:World) (K:(Nat→Value)→World→Prop):Prop :=
 kG P o (act N σ) w (fun a w=> ∃ σ,a=act N σ∧K σ w) (fun _ _ _=>False)
theorem ad6 {o:Oper} {a:Act} {K C:Act→World→Prop} {Q:Exit→Act→World→Prop} (h:∀ a w,K a w→C a w)
 (r:Result Next) (A:o.upon P a K (fun _ _ _=>False) r):o.upon P a C Q r:=by
 cases r with
 | ok n w'=>
   cases n <;> simp only [mJ] at A ⊢ <;>
    first
     | exact h _ _ A
     | exact lU A (fun e w'' he=>by
      cases e with
      | returned v=>exact h _ _ he
      | panicked c=>exact he.elim
      | outgrown=>obtain ⟨_,_,E⟩:=he; exact E.elim)
     | exact Rows.mono A fun _ _ he=>h _ _ he
 | halt x w'=>cases x <;> simp only [mJ] at A ⊢
theorem vV {K:(Nat→Value)→World→Prop} {A:Act→World→Prop} {Q:Exit→Act→World→Prop} {o:Oper} (h:dW P N o σ w K) (hk:∀ σ w,K σ w→A (act N σ) w):o.wp P (act N σ) w A Q:=by
 unfold dW at h;unfold kG at*;exact ad6 (fun a w ⟨σ,E,C⟩=>by subst E; exact hk _ _ C) _ h
theorem PJ {K A:(Nat→Value)→World→Prop} {o:Oper} (h:dW P N o σ w K) (hk:∀ σ w,K σ w→A σ w):dW P N o σ w A:=
 vV h (fun σ w C=>⟨σ,rfl,hk σ w C⟩)
variable {ops:Array Oper} {rest:List Oper} {d:Nat} {op:Op} {ty:TypeId} {pos :String} {af:Array Edge} {d':Option Nat} {v:Value} {o:Oper}
theorem BG (A:sZ o (yielded ops (act N σ).tmps)=true) (h:dW P N o σ w (fun σ w=>fz P N ops Q rest σ w)):fz P N ops Q (o::rest) σ w:=by
 unfold fz wpList;rw [if_pos A];exact .inl<|vV h fun _ _ hk=>hk
theorem np {K:(Nat→Value)→World→Prop} {w':World} (A:(execOp (ev N σ) o).run P w= .ok (.value v) w') (hk:K (gK σ o.dst v) w'):dW P N o σ w K:=by
 unfold dW kG;rw [jM,A];exact ⟨_,lD ..,hk⟩
theorem kY (o:Oper) (A:o.guard=none) (y:Nat→Option Bool):sZ o y=true :=by simp [sZ,A]
def lL (ops:Array Oper) (j:Nat):Option Nat:=(ops[j]?).bind (·.dst)
theorem vT {j t:Nat} {want b:Bool} (C:o.guard=some (j,want)) (A:lL ops j=some t) (E:iU t N.n=true) (G:σ t= .bool b):
 sZ o (yielded ops (act N σ).tmps)=(b==want):=by
 have h1:yielded ops (act N σ).tmps j=some b:=by
  unfold yielded;unfold lL at A;rw [A];simp only [rW,qW];rw [if_pos (uy (wO t)<|td E),G]
 simp only [sZ,C,h1];cases b <;> cases want <;> rfl
theorem PD {j t:Nat} {want:Bool} (C:o.guard=some (j,want)) (A:lL ops j=some t) (E:iU t N.n=true) (G:σ t=undef):
 sZ o (yielded ops (act N σ).tmps)=false :=by
 have h1:yielded ops (act N σ).tmps j=none:=by
  unfold yielded;unfold lL at A;rw [A];simp only [rW,qW];rw [if_pos (uy (wO t)<|td E),G]; rfl
 simp only [sZ,C,h1];rfl
theorem p (h:(execOp (ev N σ) ⟨some d,op,ty,pos,af,none⟩).run P w= .ok (.value v) w) (k:fz P N ops Q rest (ea σ d v) w):
 fz P N ops Q (⟨some d,op,ty,pos,af,none⟩::rest) σ w:=
 BG (kY _ rfl _) (np h k)
theorem pg {j t:Nat} {want:Bool} (A:lL ops j=some t) (C:iU t N.n=true) (E:σ t= .bool want)
 (h:(execOp (ev N σ) ⟨some d,op,ty,pos,af,some (j,want)⟩).run P w= .ok (.value v) w) (k:fz P N ops Q rest (ea σ d v) w):
 fz P N ops Q (⟨some d,op,ty,pos,af,some (j,want)⟩::rest) σ w:=
 BG (by rw [vT rfl A C E]; cases want <;> rfl) (np h k)
theorem sk {j t:Nat} {want b:Bool} (C:lL ops j=some t) (E:iU t N.n=true) (G:σ t= .bool b) (A:(b==want)=false)
 (k:fz P N ops Q rest (ea σ d undef) w):fz P N ops Q (⟨some d,op,ty,pos,af,some (j,want)⟩::rest) σ w:=by
 unfold fz wpList;rw [if_neg (by rw [vT rfl C E G,A]; simp),lD];exact k
theorem A4 {j t:Nat} {want:Bool} (A:lL ops j=some t) (C:iU t N.n=true) (E:σ t=undef)
 (k:fz P N ops Q rest (ea σ d undef) w):fz P N ops Q (⟨some d,op,ty,pos,af,some (j,want)⟩::rest) σ w:=by
 unfold fz wpList;rw [if_neg (by rw [PD rfl A C E]; simp),lD];exact k
theorem e (h:dW P N ⟨d',op,ty,pos,af,none⟩ σ w (fun σ w=>fz P N ops Q rest σ w)):fz P N ops Q (⟨d',op,ty,pos,af,none⟩::rest) σ w:=
 BG (kY _ rfl _) h
theorem eg {j t:Nat} {want:Bool} (A:lL ops j=some t) (C:iU t N.n=true) (E:σ t= .bool want)
 (h:dW P N ⟨d',op,ty,pos,af,some (j,want)⟩ σ w (fun σ w=>fz P N ops Q rest σ w)):fz P N ops Q (⟨d',op,ty,pos,af,some (j,want)⟩::rest) σ w:=
 BG (by rw [vT rfl A C E]; cases want <;> rfl) h
theorem nl (h:Q .normal σ w):fz P N ops Q [] σ w:=⟨σ,rfl,h⟩
theorem ES:¬LetsOut (lift N Q):=fun ⟨_,_,h⟩=>h
theorem rg {id:Nat} {l:List Oper} (A:vE N.r l=true) (h:fz P N l.toArray Q l σ w):eG P N (.region id l.toArray false) Q σ w:=by
 refine wpIn_region<|ED ES A _ _ _ ?_;have h1:=wpOps_eq_wpList (P:=P) (ops:=l.toArray) (Q:=lift N Q) l 0 fun j=>by simp
 rw [List.range_eq_range',qM,h1];exact h
theorem gs {l:List Oper} {t:Nat} {q:Prop} [Decidable q] (h:σ t= .bool (decide q)) (E:q→fz P N ops Q l (ea σ t<|.bool true) w) (C:¬q→fz P N ops Q l (ea σ t<|.bool false) w):fz P N ops Q l σ w:=by
 by_cases A:q
 · have :=E A; rwa [qB (by rw [h,decide_eq_true A])] at this
 · have :=C A; rwa [qB (by rw [h,decide_eq_false A])] at this
theorem gb {l:List Oper} {t:Nat} {b:Bool} (h:σ t= .bool b) (C:b=true→fz P N ops Q l (ea σ t<|.bool true) w) (A:b=false→fz P N ops Q l (ea σ t<|.bool false) w):fz P N ops Q l σ w:=by
 cases b
 · have :=A rfl; rwa [qB h] at this
 · have :=C rfl; rwa [qB h] at this
def gh (P:Program) (N:Fm) (ops:Array Oper) (Q:Exit→(Nat→Value)→World→Prop) (S:World→Prop) (fuel:Nat) (bC:Array Bool) (σ:Nat→Value) (w:World):Prop :=
 wpAnyH P .any ops (lift N Q) S fuel bC (act N σ) w
variable {S:World→Prop} {fuel:Nat} {bC:Array Bool}
theorem H3 {id:Nat} {l:List Oper} (A:vE N.r l=true) (hm:P.follows .mixedOrders=true) (h:wpAny P .any l.toArray (lift N Q) l.toArray.size (BL l.toArray.size false) (act N σ) w.drew):eG P N (.region id l.toArray true) Q σ w:=by
 refine wpIn_region_draw fun t=>ED ES A _ _ _ ?_;simp only [Region.schedule,hm,Bool.true_or,if_true];exact wpAny_sound _ t _ _ _ h
theorem cj {id:Nat} {l:List Oper} (S:World→Prop) (A:vE N.r l=true) (hm:P.follows .mixedOrders=true) (C:S w.drew) (h:gh P N l.toArray Q S l.length (BL l.length false) σ w.drew):eG P N (.region id l.toArray true) Q σ w:=
 H3 A hm (wpAny_of_held _ _ _ _<|by rw [qM]; exact h)
def Fo (F:List Nat) (d:Option Nat):Bool:=match d with | some d=> !(F.contains d) | none=>true
def kS (F:List Nat) (ops:Array Oper) (bC:Array Bool) (i:Nat):Bool:=
 Region.noSelect ops && Region.free .any ops bC i && (ly .any ops bC).contains i && Fo F ((ops[i]?).bind (·.dst))
theorem tI {d:Option Nat} {v:Value} (hd:Fo N.F d=true) (c:List PanicEntry) (a:Act) (w:World):lift N Q (.panic c) (a.put d v) w→lift N Q (.panic c) a w:=by
 rintro ⟨σ,A,h⟩;cases d with
 | none=>exact ⟨σ,A,h⟩
 | some d=>
   have O:a.tmps.size=N.n:=by
    have :=congrArg (fun x:Act=>x.tmps.size) A;simpa [Act.put,act] using this
   have E:a.defers=N.D:=congrArg (fun x:Act=>x.defers) A;have G:∀ i:Nat,i≠d→a.tmps[i]? =if i < N.n then some (σ i) else none:=fun i hi=>by
    have h1:(a.put (some d) v).tmps[i]? =a.tmps[i]? :=by
     show (a.tmps.setIfInBounds d v)[i]? =_;rw [GU,if_neg (fun e=>hi e.symm)]
    rw [← h1,A,qW]
   refine ⟨fun i=>if i < N.n then a.tmps.getD i undef else σ i,y0 E fun i=> ?_,fun J C=>h J fun i hi=> ?_⟩
   · rw [qW];by_cases h1:i < N.n
     · rw [if_pos h1,if_pos h1,GR,vZ aj]; rfl
     · rw [if_neg h1,rK aj]
   · have I:i≠d:=by
      rintro rfl;simp only [Fo,BR,List.contains_eq_mem,decide_eq_false_iff_not] at hd;exact hd hi
     rw [C i hi];by_cases h1:i < N.n
     · simp only [if_pos h1];rw [GR,G i I,if_pos h1]; rfl
     · simp only [if_neg h1]
theorem hp (i:Nat) (hi:ops[i]? =some ⟨some d,op,ty,pos,af,none⟩) (A:kS N.F ops bC i=true)
 (E:∀ w,S w→(execOp (ev N σ) ⟨some d,op,ty,pos,af,none⟩).run P w= .ok (.value v) w) (C:S w)
 (k:gh P N ops Q S fuel (bC.setIfInBounds i true) (ea σ d v) w):gh P N ops Q S (fuel+1) bC σ w:=by
 simp only [kS,iq] at A;refine wpAnyH_take hi A.1.1.1 A.1.1.2 A.1.2 (fun c a w=>tI (by have :=A.2; rwa [hi] at this) c a w) (.inl ⟨kY _ rfl _,fun w C=> ?_⟩) C ?_ (v:=v)
 · rw [jM]; exact E w C
 · rw [lD]; exact k
theorem qo (i:Nat) {j t:Nat} {want:Bool} (hi:ops[i]? =some ⟨some d,op,ty,pos,af,some (j,want)⟩) (A:kS N.F ops bC i=true)
 (E:lL ops j=some t) (G:iU t N.n=true) (I:σ t= .bool want)
 (J:∀ w,S w→(execOp (ev N σ) ⟨some d,op,ty,pos,af,some (j,want)⟩).run P w= .ok (.value v) w) (C:S w)
 (k:gh P N ops Q S fuel (bC.setIfInBounds i true) (ea σ d v) w):gh P N ops Q S (fuel+1) bC σ w:=by
 simp only [kS,iq] at A;refine wpAnyH_take hi A.1.1.1 A.1.1.2 A.1.2 (fun c a w=>tI (by have :=A.2; rwa [hi] at this) c a w) (.inl ⟨by rw [vT ag E G I]; cases want <;> rfl,fun w C=> ?_⟩) C ?_ (v:=v)
 · rw [jM]; exact J w C
 · rw [lD]; exact k
theorem qp (i:Nat) {j t:Nat} {want b:Bool} (hi:ops[i]? =some ⟨some d,op,ty,pos,af,some (j,want)⟩) (A:kS N.F ops bC i=true)
 (G:lL ops j=some t) (I:iU t N.n=true) (J:σ t= .bool b) (E:(b==want)=false) (C:S w)
 (k:gh P N ops Q S fuel (bC.setIfInBounds i true) (ea σ d undef) w):gh P N ops Q S (fuel+1) bC σ w:=by
 simp only [kS,iq] at A;refine wpAnyH_take hi A.1.1.1 A.1.1.2 A.1.2 (fun c a w=>tI (by have :=A.2; rwa [hi] at this) c a w) (.inr ⟨by rw [vT ag G I J,E],ag⟩) C ?_ (v:=undef);rw [lD]; exact k
theorem j4 (i:Nat) {j t:Nat} {want:Bool} (hi:ops[i]? =some ⟨some d,op,ty,pos,af,some (j,want)⟩) (A:kS N.F ops bC i=true)
 (E:lL ops j=some t) (G:iU t N.n=true) (I:σ t=undef) (C:S w)
 (k:gh P N ops Q S fuel (bC.setIfInBounds i true) (ea σ d undef) w):gh P N ops Q S (fuel+1) bC σ w:=by
 simp only [kS,iq] at A;refine wpAnyH_take hi A.1.1.1 A.1.1.2 A.1.2 (fun c a w=>tI (by have :=A.2; rwa [hi] at this) c a w) (.inr ⟨PD ag E G I,ag⟩) C ?_ (v:=undef);rw [lD]; exact k
def oQ (ops:Array Oper) (bC:Array Bool) (i:Nat):Bool:=(ly .any ops bC)== [i]
theorem he (i:Nat) (hi:ops[i]? =some ⟨d',op,ty,pos,af,none⟩) (A:oQ ops bC i=true)
 (h:dW P N ⟨d',op,ty,pos,af,none⟩ σ w (fun σ w=>S w∧gh P N ops Q S fuel (bC.setIfInBounds i true) σ w)):gh P N ops Q S (fuel+1) bC σ w:=by
 refine wpAnyH_all (rs:= [i]) (by simpa [oQ] using A) (by simp) ?_;intro k hk;obtain rfl :k=i:=by simpa using hk
 unfold wpOp;simp only [hi];rw [if_pos (kY _ rfl _)];exact .inl<|vV h fun _ _ hk=>hk
theorem nM (i:Nat) {j t:Nat} {want:Bool} (hi:ops[i]? =some ⟨d',op,ty,pos,af,some (j,want)⟩) (C:oQ ops bC i=true)
 (A:lL ops j=some t) (E:iU t N.n=true) (G:σ t= .bool want)
 (h:dW P N ⟨d',op,ty,pos,af,some (j,want)⟩ σ w (fun σ w=>S w∧gh P N ops Q S fuel (bC.setIfInBounds i true) σ w)):gh P N ops Q S (fuel+1) bC σ w:=by
 refine wpAnyH_all (rs:= [i]) (by simpa [oQ] using C) (by simp) ?_;intro k hk;obtain rfl :k=i:=by simpa using hk
 unfold wpOp;simp only [hi];rw [if_pos (by rw [vT rfl A E G]; cases want <;> rfl)];exact .inl<|vV h fun _ _ hk=>hk
theorem hn (A:(ly .any ops bC).isEmpty=true) (h:Q .normal σ w):gh P N ops Q S fuel bC σ w:=
 wpAnyH_done (by simpa using A) ⟨σ,rfl,h⟩ fuel
theorem iP {t:Nat} {q:Prop} [Decidable q] (h:σ t= .bool (decide q)) (E:q→gh P N ops Q S fuel bC (ea σ t<|.bool true) w) (C:¬q→gh P N ops Q S fuel bC (ea σ t<|.bool false) w):gh P N ops Q S fuel bC σ w:=by
 by_cases A:q
 · have :=E A; rwa [qB (by rw [h,decide_eq_true A])] at this
 · have :=C A; rwa [qB (by rw [h,decide_eq_false A])] at this
theorem Au {t:Nat} {b:Bool} (h:σ t= .bool b) (C:b=true→gh P N ops Q S fuel bC (ea σ t<|.bool true) w) (A:b=false→gh P N ops Q S fuel bC (ea σ t<|.bool false) w):gh P N ops Q S fuel bC σ w:=by
 cases b
 · have :=A rfl; rwa [qB h] at this
 · have :=C rfl; rwa [qB h] at this
end
def bw (P:Program) (f:FuncId) (args:Array Value) (w:World) (R:Value→World→Prop):Prop :=
 Calls P f args w fun e w'=> ∃ v,e= .returned v∧R v w'
theorem bw.mono {P:Program} {f:FuncId} {args:Array Value} {w:World} {R R':Value→World→Prop} (h:bw P f args w R) (C:∀ v w',R v w'→R' v w'):bw P f args w R':=
 lU h fun _ _ ⟨v,he,A⟩=>⟨v,he,C _ _ A⟩
def nY (args:List Value):Nat→Value:=fun i=>args.getD i undef
def fin (P:Program) (fn:Func) (N:Fm) (R:Value→World→Prop):Exit→(Nat→Value)→World→Prop
 | .normal,σ,w=> ∃ v,(results fn (act N σ).tmps).run P w= .ok v w∧R v w
 | .ret,σ,w=> ∃ v,(results fn (act N σ).tmps).run P w= .ok v w∧R v w
 | _,_,_=>False
theorem enter {P:Program} {f:FuncId} {N:Nat} {fn:Func} {c:Code} {args:List Value} {w:World} {R:Value→World→Prop} (V:P.funcs[f]? =some fn) (O:fn.body=some c)
 (I:fn.ntmps=N) (hn:o7 args.length N=true) (h:eG P ⟨N,[],[],none⟩ c (fin P fn ⟨N,[],[],none⟩ R) (nY args) w):bw P f args.toArray w R:=by
 subst I;refine calls_of_wp V O ?_;have J:({tmps:=args.toArray++BL (fn.ntmps - args.toArray.size) undef,defers:= []} :Act)=act ⟨fn.ntmps,[],[],none⟩ (nY args):=by
  have Y:args.length≤fn.ntmps:=by simpa using hn
  refine y0 ag fun i=> ?_;rw [qW];simp only [nY,da,qM];by_cases h1:i < args.length
  · rw [Array.getElem?_append_left (by simpa using h1),if_pos aj];simp [h1]
  · rw [Array.getElem?_append_right (by simpa using h1)];simp only [qM,Array.getElem?_replicate];by_cases h2:i < fn.ntmps
    · rw [if_pos aj,if_pos h2,wx aj]; rfl
    · rw [if_neg aj,if_neg h2]
 rw [J];refine Code.wp_mono ?_<|wpIn_wide.1 h;intro e a w A;cases e with
 | normal=>obtain ⟨σ,rfl,v,G,E⟩:=A; exact ⟨rfl,v,G,v,rfl,E⟩
 | ret=>obtain ⟨σ,rfl,v,G,E⟩:=A; exact ⟨rfl,v,G,v,rfl,E⟩
 | exit id=>obtain ⟨σ,rfl,C⟩:=A; exact C.elim
 | goto l=>obtain ⟨σ,rfl,C⟩:=A; exact C.elim
 | panic c=>obtain ⟨σ,rfl,C⟩:=A; exact (C σ fun _ _=>rfl).elim
 | outgrown=>exact A.elim
section
variable {P:Program} {N:Fm} {σ:Nat→Value} {w:World} {fn:Func} {R:Value→World→Prop}
theorem p5 (t:Nat):(act N σ).tmps.getD t undef=ev N σ (.tmp t):=by
 rw [← jM]; rfl
theorem f0 (h:fn.results= #[]) (A:R (.tuple #[]) w):fin P fn N R .normal σ w:=⟨_,results_none h _ _ _,A⟩
theorem si (h:fn.results= #[]) (A:R (.tuple #[]) w):fin P fn N R .ret σ w:=⟨_,results_none h _ _ _,A⟩
theorem f1 {t:Nat} {v:Value} (h:fn.results= #[.tmp t]) (C:ev N σ (.tmp t)=v) (A:R v w):fin P fn N R .ret σ w:=
 ⟨v,by rw [results_tmp h,p5,C],A⟩
theorem f2 {t u:Nat} {v A:Value} (h:fn.results= #[.tmp t,.tmp u]) (E:ev N σ (.tmp t)=v) (hu:ev N σ (.tmp u)=A) (C:R (.tuple #[v,A]) w):fin P fn N R .ret σ w:=
 ⟨_,by rw [results_tmp2 h,p5,p5,E,hu],C⟩
theorem f3 {t u s:Nat} {v A C:Value} (h:fn.results= #[.tmp t,.tmp u,.tmp s]) (G:ev N σ (.tmp t)=v) (hu:ev N σ (.tmp u)=A) (hs:ev N σ (.tmp s)=C) (E:R (.tuple #[v,A,C]) w):fin P fn N R .ret σ w:=by
 refine ⟨_,?_,E⟩;simp only [results,h];subst G hu hs;simp only [← p5];simp [yR]
theorem f4 {t u s r:Nat} {v A C v3:Value} (h:fn.results= #[.tmp t,.tmp u,.tmp s,.tmp r]) (I:ev N σ (.tmp t)=v) (hu:ev N σ (.tmp u)=A) (hs:ev N σ (.tmp s)=C) (G:ev N σ (.tmp r)=v3) (E:R (.tuple #[v,A,C,v3]) w):fin P fn N R .ret σ w:=by
 refine ⟨_,?_,E⟩;simp only [results,h];subst I hu hs G;simp only [← p5];simp [yR]
end
attribute [irreducible] fz eG gh dW
end Go.Hb
namespace Go.Hb
def a7 (h:Array Obj) (b off :Nat):Option Value:=
 match h[b]? with
 | some (.cells c _ _)=>c[off]?
 | _=>none
theorem pA (w:World) (b off :Nat):w.cell? ⟨b,off,none⟩=a7 w.heap b off :=by
 unfold World.cell? a7;simp only;split <;> simp_all
theorem bo {h:Array Obj} {b off :Nat} {c:Array Value} {t:TypeId} {f:Nat×Nat} (A:h[b]? =some (.cells c t f)):a7 h b off =c[off]? :=by
 simp only [a7,A]
theorem Uu {h:Array Obj} {b off :Nat} {v:Value} (A:a7 h b off =some v):b < h.size:=by
 unfold a7 at A;rcases fT b h.size with E | C
 · exact E
 · simp [rK C] at A
structure Md (F:Nat→Prop) (w w':World):Prop where
 os:w'.os=w.os
 output:w'.output=w.output
 size:w.heap.size≤w'.heap.size
 dJ:∀ k,k < w.heap.size→¬F k→w'.heap[k]? =w.heap[k]?
abbrev Wk (w w':World):Prop :=Md (fun _=>False) w w'
theorem Md.refl (F:Nat→Prop) (w:World):Md F w w:=⟨rfl,rfl,cU _,fun _ _ _=>rfl⟩
theorem Md.drew {F:Nat→Prop} {w w':World} (h:Md F w w'):Md F w w'.drew:=⟨h.os,h.output,h.size,h.dJ⟩
theorem Md.mono {F G:Nat→Prop} {w w':World} (h:Md F w w') (C:∀ k,k < w.heap.size→F k→G k):Md G w w':=
 ⟨h.os,h.output,h.size,fun k hk E=>h.dJ k hk fun A=>E<|C k hk A⟩
theorem Md.trans {F:Nat→Prop} {a b c:World} (h:Md F a b) (A:Md F b c):Md F a c:=
 ⟨A.os.trans h.os,A.output.trans h.output,fu h.size A.size,fun k hk C=>(A.dJ k (uy hk h.size) C).trans<|h.dJ k hk C⟩
theorem Md.trans' {F G:Nat→Prop} {a b c:World} (h:Md F a b) (A:Md G b c) (E:∀ k,k < a.heap.size→G k→F k):Md F a c:=
 ⟨A.os.trans h.os,A.output.trans h.output,fu h.size A.size,
  fun k hk C=>(A.dJ k (uy hk h.size) fun x=>C<|E k hk x).trans (h.dJ k hk C)⟩
theorem Md.aW {F:Nat→Prop} {w w':World} (h:Md F w w') {k:Nat} {o:Obj} (hk:w.heap[k]? =some o) (A:¬F k):w'.heap[k]? =some o:=
 (h.dJ k (dT.1 hk).1 A).trans hk
theorem Md.a7 {F:Nat→Prop} {w w':World} (h:Md F w w') {b off :Nat} {v:Value} (A:Hb.a7 w.heap b off =some v) (C:¬F b):Hb.a7 w'.heap b off =some v:=by
 have :=h.dJ b (Uu A) C;unfold Hb.a7 at*;rw [this]; exact A
theorem Wk.a7 {w w':World} (h:Wk w w') {b off :Nat} {v:Value} (A:Hb.a7 w.heap b off =some v):Hb.a7 w'.heap b off =some v:=Md.a7 h A id
theorem Wk.aW {w w':World} (h:Wk w w') {k:Nat} {o:Obj} (hk:w.heap[k]? =some o):w'.heap[k]? =some o:=Md.aW h hk id
structure Nw (w w':World):Prop where
 md:Wk w w'
 size:w'.heap.size=w.heap.size+1
 one:∃ o,w'= {w with heap:=w.heap.push o}
theorem NA (w:World) (o:Obj):Nw w {w with heap:=w.heap.push o} :=
 ⟨⟨rfl,rfl,by simp,fun k hk _=>by show (w.heap.push o)[k]? =_; rw [Array.getElem?_push,if_neg aj]⟩,by simp,o,rfl⟩
def dN (P:Program) (t:TypeId):Option (Option Nat):=
 match P.underlying t with
 | some (.struct _) | some (.array _ _)=>((P.info? t).map (·.size)).map some
 | some _=>some none
 | none=>none
def cJ (P:Program) (s f:Nat):Option Nat:=
 match P.underlying s with
 | some (.struct fs)=>match fs[f]? with
   | some fd=>match P.info? fd.type with
     | some i=>if i.size=0 then none else some fd.offset
     | none=>none
   | none=>none
 | _=>none
def ib (P:Program) (t:TypeId):Option Nat:=
 match P.underlying t with
 | some (.slice e)=>(P.info? e).map (·.size)
 | _=>none
section
variable {P:Program} {N:Fm} {σ:Nat→Value} {w:World} {dst:Option Nat} {ty:TypeId} {pos :String} {af:Array Edge} {g:Option (Nat×Bool)} {x y z:Operand}
theorem ep {t:TypeId} {d:TypeDesc} (h:P.underlying t=some d) (w:World):(underlying t).run P w= .ok d w:=by
 simp [underlying,h]
theorem jH {t:TypeId} {i:TypeInfo} (h:P.info? t=some i) (w:World):(typeInfo t).run P w= .ok i w:=by
 simp [typeInfo,h]
theorem mv:(execOp (ev N σ) ⟨dst,.move x,ty,pos,af,g⟩).run P w= .ok (.value<|ev N σ x) w:=rfl
theorem aJ:(execOp (ev N σ) ⟨dst,.assign x,ty,pos,af,g⟩).run P w= .ok (.value<|ev N σ x) w:=rfl
theorem a8 (v:Value) (h:ev N σ x=v):(execOp (ev N σ) ⟨dst,.move x,ty,pos,af,g⟩).run P w= .ok (.value v) w:=by rw [← h]; rfl
theorem cV (v:Value) (h:ev N σ x=v):(execOp (ev N σ) ⟨dst,.assign x,ty,pos,af,g⟩).run P w= .ok (.value v) w:=by rw [← h]; rfl
theorem bI {c:Operand} (A:ev N σ c= .bool true):(execOp (ev N σ) ⟨dst,.pick c x y,ty,pos,af,g⟩).run P w= .ok (.value<|ev N σ x) w:=by
 simp [execOp,A,asBool]
theorem bD {c:Operand} (A:ev N σ c= .bool false):(execOp (ev N σ) ⟨dst,.pick c x y,ty,pos,af,g⟩).run P w= .ok (.value<|ev N σ y) w:=by
 simp [execOp,A,asBool]
theorem nc {a:Addr} (A:ev N σ x= .pointer (some a)):(execOp (ev N σ) ⟨dst,.nilCheck x,ty,pos,af,g⟩).run P w= .ok (.value<|.pointer<|some a) w:=by
 simp [execOp,A]
theorem xt {i:Nat} {vs:Array Value} {v:Value} (C:ev N σ x= .tuple vs) (A:vs[i]? =some v):(execOp (ev N σ) ⟨dst,.extract x i,ty,pos,af,g⟩).run P w= .ok (.value v) w:=by
 simp [execOp,C,Instr.extract,A]
theorem fa {s f n b off :Nat} (A:cJ P s f=some n) (G:ev N σ x= .pointer (some ⟨b,off,none⟩)):
 (execOp (ev N σ) ⟨dst,.fieldAddr s x f,ty,pos,af,g⟩).run P w= .ok (.value<|.pointer<|some ⟨b,off+n,none⟩) w:=by
 unfold cJ at A;split at A
 · rename_i fs hu;split at A
   · rename_i fd E;split at A
     · rename_i i hi;split at A
       · cases A
       · rename_i I;cases A;have C:(⟨b,off,none⟩:Addr).add fd.offset=⟨b,off+fd.offset,none⟩:=by unfold BS; split <;> simp_all
         simp [execOp,Instr.fieldAt,ep hu,E,G,sY,fieldPlace,sizeOf,jH hi,I,C]
     · cases A
   · cases A
 · cases A
theorem ld {t b off :Nat} {v:Value} (hu:dN P t=some none) (E:ev N σ x= .pointer (some ⟨b,off,none⟩)) (A:a7 w.heap b off =some v):
 (execOp (ev N σ) ⟨dst,.load t x,ty,pos,af,g⟩).run P w= .ok (.value v) w:=by
 have C:w.cell? ⟨b,off,none⟩=some v:=by rw [pA]; exact A
 unfold dN at hu;cases hd:P.underlying t with
 | none=>rw [hd] at hu; cases hu
 | some d=>
   rw [hd] at hu;cases d <;> first
    | (simp only [ou] at hu; obtain ⟨_,_,h⟩:=hu; cases h; done)
    | simp [execOp,Qd,E,sY,loadVar,isAgg,ep hd,run_load,C]
theorem nA (b off j:Nat):(⟨b,off,none⟩:Addr).add j=⟨b,off+j,none⟩:=by
 unfold BS; split <;> simp_all
theorem dp {t n b off :Nat} {cs:List Value} (hu:dN P t=some (some n)) (I:ev N σ x= .pointer (some ⟨b,off,none⟩)) (G:cs.length=n)
 (C:∀ j,j < n→a7 w.heap b (off+j)=cs[j]?):
 (execOp (ev N σ) ⟨dst,.load t x,ty,pos,af,g⟩).run P w= .ok (.value<|.agg cs.toArray) w:=by
 have E:(loadCells ⟨b,off,none⟩ n).run P w= .ok cs.toArray w:=by
  subst G;refine run_loadCells_list (P:=P) w ⟨b,off,none⟩ cs fun j v A=> ?_;rw [nA,pA];exact (C j (List.getElem?_eq_some_iff.1 A).1).trans A
 unfold dN at hu;cases hd:P.underlying t with
 | none=>rw [hd] at hu; cases hu
 | some d=>
   rw [hd] at hu;cases hi:P.info? t with
   | none=>simp [Program.underlying,hi] at hd
   | some i=>
     rw [hi] at hu;cases d <;> first
      | (cases hu; done)
      | (simp only [lX,gM] at hu; subst hu
         simp [execOp,Qd,I,sY,loadVar,isAgg,ep hd,sizeOf,jH hi,E])
theorem ia {t n b off len cap:Nat} {k:IntKind} {i:Int} (he:ib P t=some n) (C:ev N σ x= .slice (some ⟨b,off,none⟩) len cap) (E:ev N σ y= .int k i) (A:0≤i∧i < len):
 (execOp (ev N σ) ⟨dst,.indexAddr t x y,ty,pos,af,g⟩).run P w= .ok (.value<|.pointer<|some ⟨b,off+i.toNat*n,none⟩) w:=by
 unfold ib at he;cases hd:P.underlying t with
 | none=>rw [hd] at he; cases he
 | some d=>
   rw [hd] at he;cases d <;> first | (cases he; done) | skip
   rename_i e;cases hi:P.info? e with
   | none=>simp [hi] at he
   | some j=>
     simp only [hi,lX,gM] at he;subst he;simp [execOp,Instr.indexAt,C,E,asIntOf,ep hd,A.1,A.2,sizeOf,jH hi,nA]
def fR (a:Option Addr) (cap l n:Nat):Option Addr:=if cap=l then a else a.map (·.add (l*n))
theorem F8 {t n len cap:Nat} {a:Option Addr} {lo hi:Option Value} {l h:Nat} (he:ib P t=some n) (G:ev N σ x= .slice a len cap)
 (E:(qG true len cap lo hi none).run P w= .ok (l,h,cap) w) (A C:Option Operand) (I:A.map (ev N σ)=lo) (J:C.map (ev N σ)=hi):
 (execOp (ev N σ) ⟨dst,.slice t x A C none,ty,pos,af,g⟩).run P w= .ok (.value<|.slice (fR a cap l n) (h - l)<|cap - l) w:=by
 unfold ib at he;cases hd:P.underlying t with
 | none=>rw [hd] at he; cases he
 | some d=>
   rw [hd] at he;cases d <;> first | (cases he; done) | skip
   rename_i e;cases hi':P.info? e with
   | none=>simp [hi'] at he
   | some j=>
     simp only [hi',lX,gM] at he;subst he;simp [execOp,ui,yD,G,I,J,ep hd,E,sizeOf,jH hi',fR]
theorem sO {t n len cap:Nat} {a:Option Addr} {k:IntKind} {i:Int} (he:ib P t=some n) (C:ev N σ x= .slice a len cap) (E:ev N σ z= .int k i) (A:0≤i∧i≤cap):
 (execOp (ev N σ) ⟨dst,.slice t x none (some z) none,ty,pos,af,g⟩).run P w= .ok (.value<|.slice a i.toNat cap) w:=by
 have :=F8 (dst:=dst) (ty:=ty) (pos :=pos) (af:=af) (g:=g) (w:=w) (lo:=none) (hi:=some<|.int k i) (l:=0) (h:=i.toNat) he C
  (by simp [qG,uj,asIntOf,A.1,A.2]) none (some z) rfl (by simp [E])
 rw [this];have hs:fR a cap 0 n=a:=by
  unfold fR; split
  · rfl
  · cases a <;> simp [BS]
 rw [hs]; rfl
theorem sP {t n len cap:Nat} {a:Option Addr} {k:IntKind} {i:Int} (he:ib P t=some n) (C:ev N σ x= .slice a len cap) (E:ev N σ y= .int k i) (A:0≤i∧i≤len):
 (execOp (ev N σ) ⟨dst,.slice t x (some y) none none,ty,pos,af,g⟩).run P w= .ok (.value<|.slice (fR a cap i.toNat n) (len - i.toNat)<|cap - i.toNat) w:=
 F8 (lo:=some<|.int k i) (hi:=none) he C
  (by simp [qG,uj,asIntOf,A.1,A.2]) (some y) none (by simp [E]) rfl
theorem sll {t n len cap:Nat} {a:Option Addr} {k k':IntKind} {i j:Int} (he:ib P t=some n) (C:ev N σ x= .slice a len cap) (E:ev N σ y= .int k i) (G:ev N σ z= .int k' j) (A:0≤i∧i≤j∧j≤cap):
 (execOp (ev N σ) ⟨dst,.slice t x (some y) (some z) none,ty,pos,af,g⟩).run P w= .ok (.value<|.slice (fR a cap i.toNat n) (j.toNat - i.toNat)<|cap - i.toNat) w:=by
 have h1:0≤j:=aj;have h2:i≤(j.toNat:Int):=aj;refine F8 (lo:=some<|.int k i) (hi:=some<|.int k' j) he C ?_ (some y) (some z) (by simp [E])<|by simp [G]
 simp only [qG,uj,asIntOf,o0,rQ,oZ,He,A.1,h1,A.2.2,h2,and_self,if_true]
theorem cR {n:Int} (h: -9223372036854775808≤n∧n≤9223372036854775807):BU.wrap n=n:=IntWalk.i64_in n h
theorem vX {n:Int} (h:0≤n∧n≤255):rO.wrap n=n:=IntWalk.u8_in n h
theorem qF {n:Int} (h:0≤n∧n≤18446744073709551615):fq.wrap n=n:=IntWalk.u64_in n h
theorem iv {k:IntKind} {a b:Int} (h:a=b):gY k a=gY k b:=by rw [h]
theorem ad {t G:TypeId} {k:IntKind} {a b:Int} (C:ev N σ x= .int k a) (E:ev N σ y= .int k b) (A:k.wrap (a+b)=a+b):
 (execOp (ev N σ) ⟨dst,.binOp .add t x y G,ty,pos,af,g⟩).run P w= .ok (.value<|.int k<|a+b) w:=by
 simp [execOp,C,E,eqGuard,binOp,yF,A]
theorem bJ {t G:TypeId} {k:IntKind} {a b:Int} (v:Int) (C:ev N σ x= .int k a) (E:ev N σ y= .int k b) (A:k.wrap (a+b)=v):
 (execOp (ev N σ) ⟨dst,.binOp .add t x y G,ty,pos,af,g⟩).run P w= .ok (.value<|.int k v) w:=by
 subst A; simp [execOp,C,E,eqGuard,binOp,yF]
theorem ed {t G:TypeId} {k:IntKind} {a b:Int} (v:Int) (C:ev N σ x= .int k a) (E:ev N σ y= .int k b) (A:k.wrap (a - b)=v):
 (execOp (ev N σ) ⟨dst,.binOp .sub t x y G,ty,pos,af,g⟩).run P w= .ok (.value<|.int k v) w:=by
 subst A; simp [execOp,C,E,eqGuard,binOp,yF]
theorem qs {t G:TypeId} {k:IntKind} {a b:Int} (v:Int) (C:ev N σ x= .int k a) (E:ev N σ y= .int k b) (A:k.wrap (a*b)=v):
 (execOp (ev N σ) ⟨dst,.binOp .mul t x y G,ty,pos,af,g⟩).run P w= .ok (.value<|.int k v) w:=by
 subst A; simp [execOp,C,E,eqGuard,binOp,yF]
theorem bp {a:Int} {n:Nat} (h:a=n) (hn:n≤9223372036854775807):BU.wrap a=(n:Int):=by rw [h]; exact cR aj
theorem bv {p q:Prop} [Decidable p] [Decidable q] (h:p↔q):cy (decide p)=cy (decide q):=by rw [decide_eq_decide.2 h]
theorem sb {t G:TypeId} {k:IntKind} {a b:Int} (C:ev N σ x= .int k a) (E:ev N σ y= .int k b) (A:k.wrap (a - b)=a - b):
 (execOp (ev N σ) ⟨dst,.binOp .sub t x y G,ty,pos,af,g⟩).run P w= .ok (.value<|.int k<|a - b) w:=by
 simp [execOp,C,E,eqGuard,binOp,yF,A]
theorem qw {t I:TypeId} {k:IntKind} {a b:Int} (v:Int) (E:ev N σ x= .int k a) (G:ev N σ y= .int k b) (A:0≤a∧0 < b) (C:k.wrap (a / b)=v):
 (execOp (ev N σ) ⟨dst,.binOp .quo t x y I,ty,pos,af,g⟩).run P w= .ok (.value<|.int k v) w:=by
 have :a.tdiv b=a / b:=Int.tdiv_eq_ediv_of_nonneg A.1;subst C; simp [execOp,E,G,eqGuard,binOp,Op.intDiv,show b≠0 from by omega,this]
theorem lt {t E:TypeId} {k:IntKind} {a b:Int} (A:ev N σ x= .int k a) (C:ev N σ y= .int k b):
 (execOp (ev N σ) ⟨dst,.binOp .lss t x y E,ty,pos,af,g⟩).run P w= .ok (.value<|.bool<|decide (a < b)) w:=by
 simp [execOp,A,C,eqGuard,binOp,wh]
theorem le {t E:TypeId} {k:IntKind} {a b:Int} (A:ev N σ x= .int k a) (C:ev N σ y= .int k b):
 (execOp (ev N σ) ⟨dst,.binOp .leq t x y E,ty,pos,af,g⟩).run P w= .ok (.value<|.bool<|decide (a≤b)) w:=by
 simp [execOp,A,C,eqGuard,binOp,wh]
theorem gt {t E:TypeId} {k:IntKind} {a b:Int} (A:ev N σ x= .int k a) (C:ev N σ y= .int k b):
 (execOp (ev N σ) ⟨dst,.binOp .gtr t x y E,ty,pos,af,g⟩).run P w= .ok (.value<|.bool<|decide (b < a)) w:=by
 simp [execOp,A,C,eqGuard,binOp,wh]
theorem ge {t E:TypeId} {k:IntKind} {a b:Int} (A:ev N σ x= .int k a) (C:ev N σ y= .int k b):
 (execOp (ev N σ) ⟨dst,.binOp .geq t x y E,ty,pos,af,g⟩).run P w= .ok (.value<|.bool<|decide (b≤a)) w:=by
 simp [execOp,A,C,eqGuard,binOp,wh]
theorem bT {t E:TypeId} {k:IntKind} {a b:Int} (A:ev N σ x= .int k a) (C:ev N σ y= .int k b):
 (execOp (ev N σ) ⟨dst,.binOp .eql t x y E,ty,pos,af,g⟩).run P w= .ok (.value<|.bool<|decide (a=b)) w:=by
 simp [execOp,A,C,eqGuard,binOp,wh];rw [sW]; simp
theorem dw {t E:TypeId} {k:IntKind} {a b:Int} (A:ev N σ x= .int k a) (C:ev N σ y= .int k b):
 (execOp (ev N σ) ⟨dst,.binOp .neq t x y E,ty,pos,af,g⟩).run P w= .ok (.value<|.bool<|decide (a≠b)) w:=by
 simp [execOp,A,C,eqGuard,binOp,wh];rw [sW]; simp
theorem no {t:TypeId} {b:Bool} (A:ev N σ x= .bool b):(execOp (ev N σ) ⟨dst,.unOp .not t x,ty,pos,af,g⟩).run P w= .ok (.value<|.bool<|!b) w:=by
 simp [execOp,A,G7]
theorem Ia {t G:TypeId} {k:IntKind} {a b v:Int} (C:ev N σ x= .int k a) (E:ev N σ y= .int k b) (A:k.wrap (gX k.bits a ||| gX k.bits b).toNat=v):
 (execOp (ev N σ) ⟨dst,.binOp .or t x y G,ty,pos,af,g⟩).run P w= .ok (.value<|.int k v) w:=by
 subst A; simp [execOp,C,E,eqGuard,binOp,yG]
theorem gw {t G:TypeId} {k:IntKind} {a b v:Int} (C:ev N σ x= .int k a) (E:ev N σ y= .int k b) (A:k.wrap (gX k.bits a &&& gX k.bits b).toNat=v):
 (execOp (ev N σ) ⟨dst,.binOp .and t x y G,ty,pos,af,g⟩).run P w= .ok (.value<|.int k v) w:=by
 subst A; simp [execOp,C,E,eqGuard,binOp,yG]
theorem shr {t G:TypeId} {k I:IntKind} {a b v:Int} (C:ev N σ x= .int k a) (E:ev N σ y= .int I b) (J:0≤b) (A:a.fdiv (2 ^ min b.toNat k.bits)=v):
 (execOp (ev N σ) ⟨dst,.binOp .shr t x y G,ty,pos,af,g⟩).run P w= .ok (.value<|.int k v) w:=by
 have :¬b < 0:=aj;simp [execOp,C,E,eqGuard,binOp,Op.shift,this,A]
theorem shl {t G:TypeId} {k I:IntKind} {a b v:Int} (C:ev N σ x= .int k a) (E:ev N σ y= .int I b) (J:0≤b) (A:k.wrap (a*2 ^ min b.toNat k.bits)=v):
 (execOp (ev N σ) ⟨dst,.binOp .shl t x y G,ty,pos,af,g⟩).run P w= .ok (.value<|.int k v) w:=by
 have :¬b < 0:=aj;simp [execOp,C,E,eqGuard,binOp,Op.shift,this,A]
theorem By (m:Nat) (h:m < 256):((kJ m).toNat:Int)=(m:Int):=by
 simp [Nat.mod_eq_of_lt h]
theorem cv {t u:TypeId} {k k':IntKind} {n:Int} (hu:P.underlying u=some (.int k')) (A:(P.underlying t).isSome=true) (C:ev N σ x= .int k n):
 (execOp (ev N σ) ⟨dst,.convert t u x,ty,pos,af,g⟩).run P w= .ok (.value<|.int k'<|k'.wrap n) w:=by
 obtain ⟨d,hd⟩:=ot.1 A;cases d <;> simp [execOp,C,convert,ep hu,ep hd,Conv.intToInt]
theorem mC {t u:TypeId} {k k':IntKind} {n v:Int} (hu:P.underlying u=some (.int k')) (C:(P.underlying t).isSome=true) (E:ev N σ x= .int k n) (A:k'.wrap n=v):
 (execOp (ev N σ) ⟨dst,.convert t u x,ty,pos,af,g⟩).run P w= .ok (.value<|.int k' v) w:=by
 rw [cv hu C E,A]
theorem zB {t u:TypeId} {k k':IntKind} {n:Int} (hu:P.underlying u=some (.int k')) (C:(P.underlying t).isSome=true) (E:ev N σ x= .int k n) (A:k'.wrap n=n):
 (execOp (ev N σ) ⟨dst,.convert t u x,ty,pos,af,g⟩).run P w= .ok (.value<|.int k' n) w:=by
 rw [cv hu C E,A]
theorem W9 (d:Nat) {t e:TypeId} {a:Option Addr} (hu:P.underlying t=some (.pointer e)):(rP (d+1) t (.pointer a)<|.pointer none).run P w= .ok a.isNone w:=by
 cases a <;> simp [rP,ep hu]
theorem Xa {t e:TypeId} {a:Option Addr} (hu:P.underlying t=some (.pointer e)):(G6 t (.pointer a)<|.pointer none).run P w= .ok a.isNone w:=W9 9999 hu
theorem lJ {t E e:TypeId} {a:Option Addr} (hu:P.underlying t=some (.pointer e)) (A:ev N σ x= .pointer a) (C:ev N σ y= .pointer none):
 (execOp (ev N σ) ⟨dst,.binOp .eql t x y E,ty,pos,af,g⟩).run P w= .ok (.value<|.bool a.isNone) w:=by
 have h:(binOp .eql t (.pointer a)<|.pointer none).run P w= .ok (.bool a.isNone) w:=by
  simp only [binOp]; simp [Xa hu]
 simp [execOp,A,C,eqGuard,h]
theorem W7 (d:Nat) {t:TypeId} {a b:Bool} (hu:P.underlying t=some .bool):(rP (d+1) t (.bool a)<|.bool b).run P w= .ok (a==b) w:=by
 simp [rP,ep hu]
theorem W8 {t:TypeId} {a b:Bool} (hu:P.underlying t=some .bool):(G6 t (.bool a)<|.bool b).run P w= .ok (a==b) w:=W7 9999 hu
theorem DF {t E:TypeId} {a b:Bool} (hu:P.underlying t=some .bool) (A:ev N σ x= .bool a) (C:ev N σ y= .bool b):
 (execOp (ev N σ) ⟨dst,.binOp .eql t x y E,ty,pos,af,g⟩).run P w= .ok (.value<|.bool<|decide (a=b)) w:=by
 have h:(binOp .eql t (.bool a)<|.bool b).run P w= .ok (.bool<|decide (a=b)) w:=by
  simp only [binOp]; simp [W8 hu]; cases a <;> cases b <;> rfl
 simp [execOp,A,C,eqGuard,h]
def str (l:List UInt8):Value:= .string ⟨⟨l⟩⟩
theorem c8 {t:TypeId} {l:List UInt8} {at_:Array TypeId} (C:P.underlying t=some .string) (A:at_= #[t]) (E:ev N σ x=str l):
 (execOp (ev N σ) ⟨dst,.call ⟨.builtin .len,#[x],at_⟩,ty,pos,af,g⟩).run P w= .ok (.value<|.int .i64 l.length) w:=by
 subst A;simp [execOp,resolve,invoke,builtin,P1,ep C,E,str,goInt];rfl
theorem bN {t e:TypeId} {a:Option Addr} {n c:Nat} {at_:Array TypeId} (C:P.underlying t=some (.slice e)) (A:at_= #[t]) (E:ev N σ x= .slice a n c):
 (execOp (ev N σ) ⟨dst,.call ⟨.builtin .len,#[x],at_⟩,ty,pos,af,g⟩).run P w= .ok (.value<|.int .i64 n) w:=by
 subst A;simp [execOp,resolve,invoke,builtin,P1,ep C,E,goInt]
theorem mn {k:IntKind} {a b:Int} {at_:Array TypeId} (A:ev N σ x= .int k a) (C:ev N σ y= .int k b):
 (execOp (ev N σ) ⟨dst,.call ⟨.builtin .min,#[x,y],at_⟩,ty,pos,af,g⟩).run P w= .ok (.value<|.int k<|min a b) w:=by
 have :(if b < a then b else a)=min a b:=aj;simp [execOp,resolve,invoke,builtin,Builtin.min_,Builtin.min2,A,C,this]
theorem mx {k:IntKind} {a b:Int} {at_:Array TypeId} (A:ev N σ x= .int k a) (C:ev N σ y= .int k b):
 (execOp (ev N σ) ⟨dst,.call ⟨.builtin .max,#[x,y],at_⟩,ty,pos,af,g⟩).run P w= .ok (.value<|.int k<|max a b) w:=by
 have :(if b > a then b else a)=max a b:=aj;simp [execOp,resolve,invoke,builtin,Builtin.max_,Builtin.max2,A,C,this]
theorem ZD {t:TypeId} {l:List UInt8} {k:IntKind} {i:Int} (G:P.underlying t=some .string) (I:ev N σ x=str l) (J:ev N σ y= .int k i) (C:0≤i∧i < l.length):
 (execOp (ev N σ) ⟨dst,.index t x y,ty,pos,af,g⟩).run P w= .ok (.value<|.int .u8 ((l.getD i.toNat 0).toNat:Int)) w:=by
 have hs:(⟨⟨l⟩⟩:ByteArray)[i.toNat]? =some (l.getD i.toNat 0):=by
  have A:i.toNat < l.length:=aj;have E:i.toNat < (⟨⟨l⟩⟩:ByteArray).size:=A;rw [getElem?_pos (⟨⟨l⟩⟩:ByteArray) i.toNat E];simp [da,A,ByteArray.getElem_eq_getElem_data]
 simp [execOp,Instr.index,I,J,asIntOf,str,ep G,C.1,hs]
theorem F7 (l:List UInt8) (a b:Nat):Value.string ((⟨⟨l⟩⟩:ByteArray).extract a b)=str ((l.take b).drop a):=by
 unfold str;congr 1;apply ByteArray.ext;simp [ByteArray.data_extract,List.extract_eq_take_drop,uq]
theorem jQ (n:Nat) {t:TypeId} {l:List UInt8} {k:IntKind} (A:P.underlying t=some .string) (C:ev N σ x=str l) (E:ev N σ y= .int k (n:Int)) (h:n < l.length):
 (execOp (ev N σ) ⟨dst,.index t x y,ty,pos,af,g⟩).run P w= .ok (.value<|.int .u8 ((l.getD n 0).toNat:Int)) w:=ZD A C E ⟨aj,aj⟩
theorem fC {n:Nat} {t:TypeId} {l:List UInt8} {k:IntKind} (A:P.underlying t=some .string) (C:ev N σ x=str l) (E:ev N σ y= .int k (n:Int)) (h:n < l.length):
 (execOp (ev N σ) ⟨dst,.index t x y,ty,pos,af,g⟩).run P w= .ok (.value<|.int .u8 ((l.getD n 0).toNat:Int)) w:=jQ n A C E h
theorem ng {t:TypeId} {l:List UInt8} {k k':IntKind} {a b:Int} (C:P.underlying t=some .string) (E:ev N σ x=str l) (G:ev N σ y= .int k a) (I:ev N σ z= .int k' b) (A:0≤a∧a≤b∧b≤l.length):
 (execOp (ev N σ) ⟨dst,.slice t x (some y) (some z) none,ty,pos,af,g⟩).run P w= .ok (.value<|str<|(l.take b.toNat).drop a.toNat) w:=by
 have h1:b≤((⟨⟨l⟩⟩:ByteArray).size:Nat):=A.2.2;have h2:0≤b:=aj;have h3:a≤(b.toNat:Nat):=aj;simp [execOp,ui,yD,qG,uj,E,G,I,asIntOf,str,ep C,A.1,h1,h2];rw [if_pos aj];exact congrArg (fun v=>Hc (G5 v) w)<|F7 l a.toNat b.toNat
theorem sQ {t:TypeId} {l:List UInt8} {k':IntKind} {b:Int} (C:P.underlying t=some .string) (E:ev N σ x=str l) (G:ev N σ z= .int k' b) (A:0≤b∧b≤l.length):
 (execOp (ev N σ) ⟨dst,.slice t x none (some z) none,ty,pos,af,g⟩).run P w= .ok (.value<|str<|l.take b.toNat) w:=by
 have h1:b≤((⟨⟨l⟩⟩:ByteArray).size:Nat):=A.2;have :=F7 l 0 b.toNat;simp only [yM] at this;simp [execOp,ui,yD,qG,uj,E,G,asIntOf,str,ep C,A.1,h1];exact Qs this
theorem ni {t:TypeId} {l:List UInt8} {k:IntKind} {a:Int} (C:P.underlying t=some .string) (E:ev N σ x=str l) (G:ev N σ y= .int k a) (A:0≤a∧a≤l.length):
 (execOp (ev N σ) ⟨dst,.slice t x (some y) none none,ty,pos,af,g⟩).run P w= .ok (.value<|str<|l.drop a.toNat) w:=by
 have h1:a≤((⟨⟨l⟩⟩:ByteArray).size:Nat):=A.2;have :=F7 l a.toNat l.length;simp only [List.take_length] at this;simp [execOp,ui,yD,qG,uj,E,G,asIntOf,str,ep C,A.1,h1];exact Qs this
theorem Gt (l:List UInt8):(⟨⟨l⟩⟩:ByteArray).toList=l:=Lib.toList_data ⟨⟨l⟩⟩
theorem cc {t E:TypeId} {l m:List UInt8} (A:ev N σ x=str l) (C:ev N σ y=str m) (h:l.length+m.length≤9223372036854775807):
 (execOp (ev N σ) ⟨dst,.binOp .add t x y E,ty,pos,af,g⟩).run P w= .ok (.value<|str<|l++m) w:=by
 have h1:¬(((⟨⟨l⟩⟩:ByteArray).size+(⟨⟨m⟩⟩:ByteArray).size:Nat):Int) > BU.max:=by
  have :BU.max=9223372036854775807:=aM;rw [this];show ¬((l.length+m.length:Nat):Int) > _;omega
 have h2:(⟨⟨l⟩⟩:ByteArray)++(⟨⟨m⟩⟩:ByteArray)=⟨⟨l++m⟩⟩:=by
  apply ByteArray.ext; simp
 simp only [execOp,A,C,str,eqGuard,binOp,BV];rw [if_neg h1,h2];rfl
theorem ew {t E:TypeId} {l m:List UInt8} (A:ev N σ x=str l) (C:ev N σ y=str m):
 (execOp (ev N σ) ⟨dst,.binOp .eql t x y E,ty,pos,af,g⟩).run P w= .ok (.value<|.bool<|decide (l=m)) w:=by
 simp only [execOp,A,C,str,eqGuard,binOp,BV,Gt];show Hc (G5<|.bool<|l==m) w=_;rw [show (l==m)=decide (l=m) from by rw [sW]; simp]
theorem nR {t E:TypeId} {l m:List UInt8} (A:ev N σ x=str l) (C:ev N σ y=str m):
 (execOp (ev N σ) ⟨dst,.binOp .neq t x y E,ty,pos,af,g⟩).run P w= .ok (.value<|.bool<|decide (l≠m)) w:=by
 simp only [execOp,A,C,str,eqGuard,binOp,BV,Gt];show Hc (G5<|.bool<|!(l==m)) w=_;rw [show (!(l==m))=decide (l≠m) from by rw [sW]; simp]
def fy (a b:List UInt8):Bool:=Op.bytesLess a b
theorem yh (a:List UInt8):fy a a=false :=by
 induction a with
 | nil=>rfl
 | cons x a C=>
   have A:¬x < x:=UInt8.lt_irrefl x;have :fy (x::a) (x::a)=(decide (x < x) || (x==x && fy a a)):=rfl;rw [this,C]; simp [A]
theorem OC (x y:UInt8) (a b:List UInt8):fy (x::a) (y::b)=(decide (x < y) || (x==y && fy a b)):=rfl
theorem tT {a b c:List UInt8} (h1:fy a b=true) (h2:fy b c=true):fy a c=true :=by
 induction a generalizing b c with
 | nil=>
   cases b with
   | nil=>cases h1
   | cons y b=>cases c with
     | nil=>cases h2
     | cons z c=>rfl
 | cons x a A=>
   cases b with
   | nil=>cases h1
   | cons y b=>cases c with
     | nil=>cases h2
     | cons z c=>
       rw [OC] at*;simp only [yA,decide_eq_true_eq,iq,beq_iff_eq] at*;rcases h1 with h1 | ⟨rfl,h1⟩
       · rcases h2 with h2 | ⟨rfl,h2⟩
         · exact .inl<|UInt8.lt_trans h1 h2
         · exact .inl h1
       · rcases h2 with h2 | ⟨rfl,h2⟩
         · exact .inl h2
         · exact .inr ⟨ag,A h1 h2⟩
theorem tS (a b:List UInt8):fy a b=true∨a=b∨fy b a=true :=by
 induction a generalizing b with
 | nil=>cases b with
   | nil=>exact .inr<|.inl rfl
   | cons y b=>exact .inl rfl
 | cons x a A=>cases b with
   | nil=>exact .inr<|.inr rfl
   | cons y b=>
     simp only [OC,yA,decide_eq_true_eq,iq,beq_iff_eq,Qy];rcases Nat.lt_trichotomy x.toNat y.toNat with h | h | h
     · exact .inl<|.inl<|Rc.2 h
     · have e:x=y:=lA.1 h;subst e;rcases A b with h | h | h
       · exact .inl<|.inr ⟨ag,h⟩
       · exact .inr<|.inl ⟨ag,h⟩
       · exact .inr<|.inr<|.inr ⟨ag,h⟩
     · exact .inr<|.inr<|.inl<|Rc.2 h
theorem A5 {a b:List UInt8} (h:fy a b=true):fy b a=false :=by
 cases hb:fy b a
 · rfl
 · have :=tT h hb; rw [yh] at this; cases this
theorem FF {rs:List (List UInt8)} (hs:rs.Pairwise (fun x y=>fy x y=true)) {i j:Nat} (h:i < j) (A:j < rs.length):fy (rs.getD i []) (rs.getD j [])=true :=by
 have :=QV.1 hs i j aj A h;simpa [da,cz A,cz (show i < rs.length by omega)] using this
theorem lts {t E:TypeId} {l m:List UInt8} (A:ev N σ x=str l) (C:ev N σ y=str m):
 (execOp (ev N σ) ⟨dst,.binOp .lss t x y E,ty,pos,af,g⟩).run P w= .ok (.value<|.bool<|fy l m) w:=by
 simp only [execOp,A,C,str,eqGuard,binOp,BV,Gt];rfl
theorem mf {fn:Fn} {first captured:Array Operand} :(execOp (ev N σ) ⟨dst,.makeFunc fn first captured,ty,pos,af,g⟩).run P w= .ok (.value<|.func fn (first.map<|ev N σ)<|captured.map<|ev N σ) w:=rfl
theorem M9 {fn:Fn} {first captured:Array Operand} :(execOp (ev N σ) ⟨dst,.makeFunc fn first captured,ty,pos,af,g⟩).run P w= .ok (.value<|.func fn (first.toList.map<|ev N σ).toArray (captured.toList.map<|ev N σ).toArray) w:=by
 rw [mf,← oc,← oc]
end
end Go.Hb
namespace Go.Hb
def bX (h:Array Obj) (b:Nat) (L:List Value):Prop := ∃ e,h[b]? =some (.cells L.toArray e (0,0))
theorem bX.a7 {h:Array Obj} {b:Nat} {L:List Value} (A:bX h b L) (j:Nat):Hb.a7 h b j=L[j]? :=by
 obtain ⟨e,A⟩:=A;rw [bo A]; simp
theorem bX.bF {h:Array Obj} {b:Nat} {L:List Value} (A:bX h b L) (j:Nat):Hb.a7 h b (0 +j)=L[j]? :=by
 rw [iV,A.a7]
theorem Md.B {F:Nat→Prop} {w w':World} (h:Md F w w') {b:Nat} {L:List Value} (A:bX w.heap b L) (C:¬F b):bX w'.heap b L:=
 let ⟨e,A⟩:=A; ⟨e,h.aW A C⟩
theorem Wk.B {w w':World} (h:Wk w w') {b:Nat} {L:List Value} (A:bX w.heap b L):bX w'.heap b L:=Md.B h A id
theorem bX.lt {h:Array Obj} {b:Nat} {L:List Value} (A:bX h b L):b < h.size:=let ⟨_,A⟩:=A; (dT.1 A).1
def bk (a:Option Addr):Nat:=match a with | some ad=>ad.block | none=>0
def fo (a:Option Addr):Nat:=match a with | some ad=>ad.off | none=>0
structure aR (h:Array Obj) (a:Option Addr) (xs:List Value):Prop where
 ok:xs≠[]→a=some ⟨bk a,fo a,none⟩
 a7:∀ j u,xs[j]? =some u→Hb.a7 h (bk a) (fo a+j)=some u
theorem aR.nil (h:Array Obj) (a:Option Addr):aR h a []:=⟨fun h=>absurd rfl h,fun _ _ hu=>by simp at hu⟩
theorem aR.md {F:Nat→Prop} {w w':World} {a:Option Addr} {xs:List Value} (A:aR w.heap a xs) (h:Md F w w') (C:xs≠[]→¬F (bk a)):aR w'.heap a xs:=
 ⟨A.ok,fun j u hu=>h.a7 (A.a7 j u hu)<|C<|by rintro rfl; simp at hu⟩
theorem aR.wk {w w':World} {a:Option Addr} {xs:List Value} (A:aR w.heap a xs) (h:Wk w w'):aR w'.heap a xs:=A.md h fun _ x=>x
theorem aR.take {h:Array Obj} {a:Option Addr} {xs:List Value} (A:aR h a xs) (n:Nat):aR h a (xs.take n):=
 ⟨fun C=>A.ok (by rintro rfl; simp at C),fun j u hu=>A.a7 j u<|by rw [qK] at hu; split at hu; exact hu; cases hu⟩
theorem aR.dZ {h:Array Obj} {b:Nat} {L:List Value} (A:bX h b L):aR h (some ⟨b,0,none⟩) L:=
 ⟨fun _=>rfl,fun j u hu=>by show Hb.a7 h b (0 +j)=_; rw [iV,A.a7]; exact hu⟩
theorem aR.gQ {h:Array Obj} {a:Option Addr} {xs:List Value} (A:aR h a xs) {i:Nat} {u:Value} (hu:xs[i]? =some u):Hb.a7 h (bk a) (fo a+i*1)=some u:=by
 rw [nu]; exact A.a7 i u hu
def cw (h:Array Obj) (a:Option Addr) (l:List (List UInt8)):Prop :=aR h a<|l.map str
theorem cw.get {h:Array Obj} {a:Option Addr} {l:List (List UInt8)} (hs:cw h a l) {i:Nat} (hi:i < l.length):Hb.a7 h (bk a) (fo a+i*1)=some (str<|l.getD i []):=
 aR.gQ hs (by simp [da,hi])
theorem cw.wk {w w':World} {a:Option Addr} {l:List (List UInt8)} (hs:cw w.heap a l) (h:Wk w w'):cw w'.heap a l:=aR.wk hs h
theorem bY {α:Type} {f:α→Value} {l:List α} (h:0 < l.length):l.map f≠[]:=by
 cases l with
 | nil=>simp at h
 | cons x l=>simp
def aeU (k:IntKind) (h:Array Obj) (a:Option Addr) (l:List Int):Prop :=aR h a<|l.map<|gY k
def gz (P:Program) (t e size bytes:Nat):Bool:=
 match P.underlying t with
 | some (.slice A)=>A==e && match P.info? e with
   | some i=>i.size==size && i.bytes==bytes && iU 0 size && match i.zero with
     | some z=>z.cells.size==size
     | none=>false
   | none=>false
 | _=>false
theorem sN {P:Program} {t e size bytes:Nat} (h:gz P t e size bytes=true):
 P.underlying t=some (.slice e)∧∃ i z,P.info? e=some i∧i.zero=some z∧i.size=size∧i.bytes=bytes∧z.cells.size=size∧0 < size:=by
 unfold gz at h;split at h
 · rename_i C hu;simp only [iq,beq_iff_eq] at h;obtain ⟨rfl,h⟩:=h;split at h
   · rename_i i hi;simp only [iq,beq_iff_eq] at h;obtain ⟨⟨⟨h1,h2⟩,h3⟩,h4⟩:=h;split at h4
     · rename_i z A;exact ⟨hu,i,z,hi,A,h1,h2,by simpa using h4,uy (wO 0)<|td h3⟩
     · cases h4
   · cases h
 · cases h
def eN (P:Program) (t:TypeId):Option Nat:=(P.info? t).map (·.size)
def zeroOf (P:Program) (t:TypeId):Option (Option<|List Value):=(P.info? t).map fun i=>i.zero.map fun z=>z.cells.toList
def bu (P:Program) (f:FuncId):Prop := ∀ args w,(callFunc f args).run P w= .ok (.enter f args) w
theorem Ut {P:Program} {f:FuncId} {fn:Func} (C:P.funcs[f]? =some fn) (hn:(fn.name== "runtime.NumGoroutine")=false) (A:fn.body.isNone=false):bu P f:=by
 intro args w;have h1:¬((fn.name== "runtime.NumGoroutine")=true):=by rw [hn]; simp
 have h2:¬(fn.body.isNone=true):=by rw [A]; simp
 simp only [callFunc,o0,run_program,oZ,C];rw [if_neg h1,if_neg h2];rfl
section
variable {P:Program} {N:Fm} {σ:Nat→Value} {w:World} {dst:Option Nat} {ty:TypeId} {pos :String} {af:Array Edge} {g:Option (Nat×Bool)} {x y z:Operand} {K:(Nat→Value)→World→Prop}
theorem PI {o:Oper} {f:FuncId} {L:List Value} {R:Value→World→Prop} (E:(execOp (ev N σ) o).run P w= .ok (.enter f L.toArray) w) (C:bw P f L.toArray w R)
 (k:∀ v w',R v w'→K (gK σ o.dst v) w'):dW P N o σ w K:=by
 unfold dW kG;rw [jM,E];refine lU C fun e w' ⟨v,he,A⟩=> ?_;subst he;exact ⟨_,lD ..,k v w' A⟩
theorem cl {f:FuncId} {args:Array Operand} {A:Array TypeId} {L:List Value} {R:Value→World→Prop} (E:bu P f) (G:bw P f L.toArray w R) (C:args.toList.map (ev N σ)=L)
 (k:∀ v w',R v w'→K (gK σ dst v) w'):dW P N ⟨dst,.call ⟨.value (.func f),args,A⟩,ty,pos,af,g⟩ σ w K:=by
 refine PI (f:=f) ?_ G k;have :args.map (ev N σ)=L.toArray:=by rw [← C,← oc]
 simp [execOp,resolve,ev,sX,invoke,this,E L.toArray w]
theorem Vk {f:FuncId} {fo:Operand} {first cap:Array Value} {args:Array Operand} {A:Array TypeId} {L:List Value} {R:Value→World→Prop} (E:bu P f) (I:ev N σ fo= .func (.func f) first cap)
 (G:bw P f L.toArray w R) (C:first.toList++args.toList.map (ev N σ)++cap.toList=L)
 (k:∀ v w',R v w'→K (gK σ dst v) w'):dW P N ⟨dst,.call ⟨.value fo,args,A⟩,ty,pos,af,g⟩ σ w K:=by
 refine PI (f:=f) ?_ G k;have :first++args.map (ev N σ)++cap=L.toArray:=by rw [← C,← oc,← PV,← PV]
 simp [execOp,resolve,I,sX,invoke,this,E L.toArray w]
theorem oW {o:Oper} {ob:Obj} {v:Nat→Value} (A:(execOp (ev N σ) o).run P w= .ok (.value<|v w.heap.size) {w with heap:=w.heap.push ob})
 (k:∀ b w',b=w.heap.size→Nw w w'→w'.heap[b]? =some ob→K (gK σ o.dst<|v b) w'):dW P N o σ w K:=
 np A (k _ _ rfl (NA w ob) (by simp))
theorem al {e:TypeId} {C:List Value} (A:zeroOf P e=some (some C)) (k:∀ b w',b=w.heap.size→Nw w w'→bX w'.heap b C→K (gK σ dst<|.pointer<|some ⟨b,0,none⟩) w'):
 dW P N ⟨dst,.alloc e,ty,pos,af,g⟩ σ w K:=by
 refine oW (v:=fun b=> .pointer<|some ⟨b,0,none⟩) (ob:= .cells C.toArray e (0,0)) ?_ fun b w' h1 h2 h3=>k b w' h1 h2 ⟨e,h3⟩;unfold zeroOf at A;simp only [ou] at A;obtain ⟨i,hi,zv,E,rfl⟩:=A;simp [execOp,Qa,zeroValue,jH hi,E,newVar,newRow]
theorem hU {e:TypeId} {C:List Value} (A:zeroOf P e=some (some C)) (k:∀ b w',b=w.heap.size→Nw w w'→w'.heap[b]? =some (.cells C.toArray e (0,0))→K (gK σ dst<|.pointer<|some ⟨b,0,none⟩) w'):
 dW P N ⟨dst,.alloc e,ty,pos,af,g⟩ σ w K:=by
 refine oW (v:=fun b=> .pointer<|some ⟨b,0,none⟩) (ob:= .cells C.toArray e (0,0)) ?_ k;unfold zeroOf at A;simp only [ou] at A;obtain ⟨i,hi,zv,E,rfl⟩:=A;simp [execOp,Qa,zeroValue,jH hi,E,newVar,newRow]
theorem bx {e:TypeId} {v:Value} {L:List Value} (C:ev N σ x=v) (A:v.cells.toList=L) (k:∀ b w',b=w.heap.size→Nw w w'→bX w'.heap b L→K (gK σ dst<|.pointer<|some ⟨b,0,none⟩) w'):
 dW P N ⟨dst,.box e x,ty,pos,af,g⟩ σ w K:=by
 subst A;refine oW (v:=fun b=> .pointer<|some ⟨b,0,none⟩) (ob:= .cells v.cells e (0,0)) ?_ fun b w' h1 h2 h3=>k b w' h1 h2 ⟨e,h3⟩;simp [execOp,Instr.box,C,newVar,newRow]
theorem tN {t:TypeId} (k:∀ b w',b=w.heap.size→Nw w w'→w'.heap[b]? =some (.map #[] 0)→K (gK σ dst<|.map<|some b) w'):dW P N ⟨dst,.makeMap t none,ty,pos,af,g⟩ σ w K:=by
 refine oW (v:=fun b=> .map<|some b) ?_ k;simp [execOp,Instr.makeMap]
theorem mQ {t e:TypeId} {size bytes:Nat} (C:gz P t e size bytes=true)
 (k:∀ b w',b=w.heap.size→Nw w w'→(∀ B,B≤b→w'.ownsRow B e size (.slice (some ⟨b,0,none⟩) 0 0) 0 [])→K (gK σ dst<|.slice (some ⟨b,0,none⟩) 0 0) w'):dW P N ⟨dst,.buildSlice t 0 #[],ty,pos,af,g⟩ σ w K:=by
 refine oW (v:=fun b=> .slice (some ⟨b,0,none⟩) 0 0) (ob:= .cells #[] e (0,0)) ?_ fun b w' h1 h2 h3=>k b w' h1 h2 fun B A=>⟨by simp,.inr ⟨b,0,#[],ag,A,h3,cU _,by simp [maxLen],by simp,by simp⟩⟩
 obtain ⟨hu,i,zv,hi,E,h1,h2,h3,h4⟩:=sN C;simp [execOp,GZ,ep hu,sizeOf,jH hi,od,newRow];congr 2;exact Array.eq_empty_of_size_eq_zero<|by simp
theorem Ie {t e:TypeId} {size bytes:Nat} {v:Value} {L:List Value} (I:gz P t e size bytes=true) (hs:o7 size 1000=true) (O:ev N σ x=v) (J:v.cells.size=size)
 (C:v.cells.toList=L) (k:∀ b w',b=w.heap.size→Nw w w'→w'.heap[b]? =some (.cells L.toArray e (0,0))→K (gK σ dst<|.slice (some ⟨b,0,none⟩) 1 1) w'):dW P N ⟨dst,.buildSlice t 1 #[(0,x)],ty,pos,af,g⟩ σ w K:=by
 subst C;refine oW (v:=fun b=> .slice (some ⟨b,0,none⟩) 1 1) (ob:= .cells v.cells e (0,0)) ?_ fun b w' h1 h2 h3=>k b w' h1 h2<|by simpa using h3
 obtain ⟨hu,i,zv,hi,V,h1,h2,h3,h4⟩:=sN I;have Z:size≤1000:=by simpa using hs
 have E:od (fun i=>some (i*size,size)) ((rL size).map (zv.cells[· % zv.cells.size]!)) [(0,v)]=some v.cells:=by
  have A:((rL size).map (zv.cells[· % zv.cells.size]!)).size=size:=by simp
  generalize (rL size).map (zv.cells[· % zv.cells.size]!)=cs at A;simp only [od,J];rw [if_neg (by rw [A]; simp)];congr 1;have key:∀ (l:List Value) (m:Nat) (cs:Array Value),m+l.length≤cs.size→∀ j,((l.zipIdx m).foldl (fun (cs:Array Value) (c,j)=>cs.setIfInBounds (0 *size+j) c) cs)[j]? =if j < m then cs[j]? else if j < m+l.length then l[j - m]? else cs[j]? :=by
   intro l
   induction l with
   | nil=>intro m cs hm j; simp; intro h1 h2; omega
   | cons c l Y=>
     intro m cs hm j;simp only [Cg,ta,db] at hm ⊢;rw [Y (m+1) _ (by simp; omega)];simp only [Hw,iV,GU];by_cases h1:j < m
     · rw [if_pos aj,if_pos h1,if_neg aj]
     · rw [if_neg h1];by_cases h2:j=m
       · subst h2;rw [if_pos aj,if_pos rfl,if_pos aj,if_pos aj];simp
       · rw [if_neg aj];by_cases h3:j < m+1 +l.length
         · rw [if_pos h3,if_pos aj];obtain ⟨q,G⟩:∃ q,j - m=q+1:=⟨j - m - 1,aj⟩
           rw [G,QK,show j - (m+1)=q from by omega]
         · rw [if_neg h3,if_neg aj,if_neg aj]
  apply PS;intro j;have :=key v.cells.toList 0 cs (by simp; omega) j;rw [show (v.cells.zipIdx.foldl (fun (cs:Array Value) (c,j)=>cs.setIfInBounds (0 *size+j) c) cs)=((v.cells.toList.zipIdx 0).foldl (fun (cs:Array Value) (c,j)=>cs.setIfInBounds (0 *size+j) c) cs) from by
   rw [← Array.foldl_toList]; simp [Array.toList_zipIdx]]
  rw [this];simp only [Nat.not_lt_zero,if_false,iV,Nat.sub_zero,yw,wg];split
  · rfl
  · rw [rK aj,rK aj]
 simp only [execOp,GZ,o0,ep hu,oZ,sizeOf,jH hi,rQ,h1,Nat.one_mul,He,zeroValue,V,List.map_toArray,tc,List.map_nil,O,E];rw [if_neg (by rw [show (2:Nat) ^ 24=16777216 from rfl]; omega),if_neg aj];simp [newRow]
theorem If {t e:TypeId} {size bytes:Nat} {v:Value} {L:List Value} (C:gz P t e size bytes=true) (hs:o7 size 1000=true) (G:ev N σ x=v) (E:v.cells.size=size)
 (A:v.cells.toList=L) (k:∀ b w',b=w.heap.size→Nw w w'→bX w'.heap b L→K (gK σ dst<|.slice (some ⟨b,0,none⟩) 1 1) w'):dW P N ⟨dst,.buildSlice t 1 #[(0,x)],ty,pos,af,g⟩ σ w K:=
 Ie C hs G E A fun b w' h1 h2 h3=>k b w' h1 h2 ⟨_,h3⟩
theorem qu {v:Value} (h:v.oneCell'=true):v.cells= #[v]:=by cases v <;> first | rfl | (cases h; done)
theorem KL {loc:Nat→Option (Nat×Nat)} (C:∀ i,loc i=some (i*1,1)):∀ (rest pre A:List Value),A.length=rest.length→rest.all gI=true→
 od loc (pre++A).toArray ((rest.zipIdx pre.length).map fun q=>(q.2,q.1))=some (pre++rest).toArray
 | [],pre,A,hl,_=>by
   rw [fY hl]; rfl
 | v::r,pre,A,hl,h1=>by
   cases A with
   | nil=>simp at hl
   | cons z A=>
     rw [wq,iq] at h1;have G:=qu h1.1;have E:=KL C r (pre++ [v]) A (by simpa using hl) h1.2;simp only [Cg,tc,od,C,G];rw [if_neg (by simp)];simp only [bP,fE,e6,List.singleton_append] at E;rw [← E];simp
theorem tx {t e bytes n:Nat} {ps:Array (Nat×Operand)} {L:List Value} (E:gz P t e 1 bytes=true) (hp:ps.toList.map (fun p=>(p.1,ev N σ p.2))=(L.zipIdx 0).map fun q=>(q.2,q.1)) (h1:L.all gI=true) (hn:L.length=n) (hs:(o7 n 1000 && iU 0 n)=true)
 (k:∀ b w',b=w.heap.size→Nw w w'→w'.heap[b]? =some (.cells L.toArray e (0,0))→K (gK σ dst<|.slice (some ⟨b,0,none⟩) n n) w'):dW P N ⟨dst,.buildSlice t n ps,ty,pos,af,g⟩ σ w K:=by
 subst hn;refine oW (v:=fun b=> .slice (some ⟨b,0,none⟩) L.length L.length) (ob:= .cells L.toArray e (0,0)) ?_ k;obtain ⟨hu,i,zv,hi,G,A,h2,h3,h4⟩:=sN E;simp only [iq] at hs;have J:L.length≤1000:=by simpa using hs.1
 have O:0 < L.length:=by have :=td hs.2; omega
 have C:od (fun i=>some (i*1,1)) ((rL<|L.length*1).map (zv.cells[· % zv.cells.size]!)) (ps.toList.map fun p=>(p.1,ev N σ p.2))=some L.toArray:=by
  rw [hp];have I:((rL<|L.length*1).map (zv.cells[· % zv.cells.size]!)).toList.length=L.length:=by simp
  have :=KL (loc:=fun i=>some (i*1,1)) (fun _=>rfl) L [] ((rL<|L.length*1).map (zv.cells[· % zv.cells.size]!)).toList I h1;rw [qL,qL,BM] at this;exact this
 simp only [execOp,GZ,o0,ep hu,oZ,sizeOf,jH hi,rQ,A,He,zeroValue,G,oc,C];rw [if_neg (by rw [show (2:Nat) ^ 24=16777216 from rfl]; omega),if_neg aj];simp [newRow]
theorem fU {t e:TypeId} {bytes:Nat} {v:Value} (A:gz P t e 1 bytes=true) (C:ev N σ x=v) (h1:v.oneCell'=true)
 (k:∀ b w',b=w.heap.size→Nw w w'→bX w'.heap b [v]→K (gK σ dst<|.slice (some ⟨b,0,none⟩) 1 1) w'):dW P N ⟨dst,.buildSlice t 1 #[(0,x)],ty,pos,af,g⟩ σ w K:=
 If A rfl C (by rw [qu h1]; rfl) (by rw [qu h1]) k
theorem lF {t e:TypeId} {size bytes:Nat} {L:List Value} (C:gz P t e size bytes=true) (hs:o7 size 1000=true) (E:ev N σ x= .agg L.toArray) (A:L.length=size)
 (k:∀ b w',b=w.heap.size→Nw w w'→bX w'.heap b L→K (gK σ dst<|.slice (some ⟨b,0,none⟩) 1 1) w'):dW P N ⟨dst,.buildSlice t 1 #[(0,x)],ty,pos,af,g⟩ σ w K:=
 If C hs E (by simpa [wo] using A) (by simp [wo]) k
theorem je {e:TypeId} {L:List Value} (A:ev N σ x= .agg L.toArray) (k:∀ b w',b=w.heap.size→Nw w w'→bX w'.heap b L→K (gK σ dst<|.pointer<|some ⟨b,0,none⟩) w'):
 dW P N ⟨dst,.box e x,ty,pos,af,g⟩ σ w K:=bx A (by simp [wo]) k
theorem oB {e:TypeId} {L:List Value} (A:ev N σ x= .agg L.toArray) (k:∀ b w',b=w.heap.size→Nw w w'→w'.heap[b]? =some (.cells L.toArray e (0,0))→K (gK σ dst<|.pointer<|some ⟨b,0,none⟩) w'):
 dW P N ⟨dst,.box e x,ty,pos,af,g⟩ σ w K:=by
 refine oW (v:=fun b=> .pointer<|some ⟨b,0,none⟩) (ob:= .cells L.toArray e (0,0)) ?_ fun b w' h1 h2 h3=>k b w' h1 h2 h3;simp [execOp,Instr.box,A,newVar,newRow,wo]
theorem Si {t e:TypeId} {bytes:Nat} {v:Value} (I:gz P t e 1 bytes=true) (J:ev N σ x=v) (h1:v.oneCell'=true)
 (k:∀ b w',b=w.heap.size→Nw w w'→(∀ B,B≤b→w'.ownsRow B e 1 (.slice (some ⟨b,0,none⟩) 1 1) 1 [v])→K (gK σ dst<|.slice (some ⟨b,0,none⟩) 1 1) w'):dW P N ⟨dst,.buildSlice t 1 #[(0,x)],ty,pos,af,g⟩ σ w K:=
 Ie (L:= [v]) I rfl J (by rw [qu h1]; rfl) (by rw [qu h1]) fun b w' G E A=>k b w' G E fun B C=>⟨rfl,.inr ⟨b,1,#[v],rfl,C,A,cU _,by simp [maxLen],rfl,rfl⟩⟩
theorem xe {l:List Value} (h:l.all gI=true):∀ u∈l,u.oneCell'=true :=mK.1 h
theorem dB {t b off :Nat} {e:TypeId} {L:List Value} {v:Value} (C:eN P t=some 1) (aa:ev N σ x= .pointer (some ⟨b,off,none⟩)) (ab:ev N σ y=v) (h1:v.oneCell'=true) (A:w.heap[b]? =some (.cells L.toArray e (0,0))) (V:off < L.length)
 (k:∀ w',Md (fun k=>k=b) w w'→w'.heap[b]? =some (.cells (L.set off v).toArray e (0,0))→K σ w'):dW P N ⟨none,.store t x y,ty,pos,af,g⟩ σ w K:=by
 have G:v.cells= #[v]:=by cases v <;> first | rfl | (cases h1; done)
 have I:w.cell? ⟨b,off,none⟩=some L[off]:=by rw [pA,bo A]; simp [V]
 have J:w.frozen? ⟨b,off,none⟩=false :=by simp only [World.frozen?,show w.heap[b]? =_ from A]; simp
 unfold eN at C;simp only [ou] at C;obtain ⟨i,hi,hs⟩:=C;have E:(⟨b,off,none⟩:Addr).add 0=⟨b,off,none⟩:=rfl;have Y:(execOp (ev N σ) ⟨none,.store t x y,ty,pos,af,g⟩).run P w= .ok .skip (w.setCell ⟨b,off,none⟩ v):=by
  simp [execOp,G4,aa,ab,sY,storeVar,G,sizeOf,jH hi,hs,storeCells,E,run_store P w _ v _ h1,I,J]
 unfold dW kG;rw [jM,Y];refine ⟨σ,ag,k _ ⟨ag,ag,by simp [B3],fun k _ hk=> ?_⟩ ?_⟩
 · exact Below.heap_setCell w _ v k hk
 · have O:=(dT.1 A).1;have Z:w.heap[b]= .cells L.toArray e (0,0):=(dT.1 A).2;simp only [B3];rw [vZ (by simpa using O),Array.getElem_modify];simp [Z,List.setIfInBounds_toArray]
theorem st {t b off :Nat} {L:List Value} {v:Value} (I:eN P t=some 1) (E:ev N σ x= .pointer (some ⟨b,off,none⟩)) (G:ev N σ y=v) (h1:v.oneCell'=true) (A:bX w.heap b L) (C:off < L.length)
 (k:∀ w',Md (fun k=>k=b) w w'→bX w'.heap b (L.set off v)→K σ w'):dW P N ⟨none,.store t x y,ty,pos,af,g⟩ σ w K:=
 let ⟨_,A⟩:=A
 dB I E G h1 A C fun w' h1 h2=>k w' h1 ⟨_,h2⟩
theorem gS {t b off n:Nat} {e:TypeId} {L vs:List Value} (A:eN P t=some n) (G:ev N σ x= .pointer (some ⟨b,off,none⟩)) (I:ev N σ y= .agg vs.toArray) (hn:vs.length=n) (h1:vs.all gI=true) (C:w.heap[b]? =some (.cells L.toArray e (0,0))) (J:off+n≤L.length)
 (k:∀ w',Md (fun k=>k=b) w w'→w'.heap[b]? =some (.cells (L.take off++vs++L.drop (off+n)).toArray e (0,0))→K σ w'):dW P N ⟨none,.store t x y,ty,pos,af,g⟩ σ w K:=by
 unfold eN at A;simp only [ou] at A;obtain ⟨i,hi,hs⟩:=A;have cj:=run_storeCells_at P b off e vs 0 L.toArray w C (by simp; omega)<|xe h1;have E:(execOp (ev N σ) ⟨none,.store t x y,ty,pos,af,g⟩).run P w= .ok .skip (w.setRow b (L.take off++vs++L.drop (off+n)).toArray):=by
  simp [execOp,G4,G,I,sY,storeVar,wo,sizeOf,jH hi,hs,hn,cj]
 unfold dW kG;rw [jM,E];exact ⟨σ,ag,k _ ⟨ag,ag,by simp,fun k _ hk=>setRow_other w b k _ hk⟩<|setRow_heap w b _ _ e _ C⟩
theorem dy {t b off n:Nat} {L vs:List Value} (C:eN P t=some n) (G:ev N σ x= .pointer (some ⟨b,off,none⟩)) (I:ev N σ y= .agg vs.toArray) (hn:vs.length=n) (h1:vs.all gI=true) (A:bX w.heap b L) (J:off+n≤L.length)
 (k:∀ w',Md (fun k=>k=b) w w'→bX w'.heap b (L.take off++vs++L.drop (off+n))→K σ w'):dW P N ⟨none,.store t x y,ty,pos,af,g⟩ σ w K:=by
 obtain ⟨e,A⟩:=A;unfold eN at C;simp only [ou] at C;obtain ⟨i,hi,hs⟩:=C;have cj:=run_storeCells_at P b off e vs 0 L.toArray w A (by simp; omega)<|xe h1;have E:(execOp (ev N σ) ⟨none,.store t x y,ty,pos,af,g⟩).run P w= .ok .skip (w.setRow b (L.take off++vs++L.drop (off+n)).toArray):=by
  simp [execOp,G4,G,I,sY,storeVar,wo,sizeOf,jH hi,hs,hn,cj]
 unfold dW kG;rw [jM,E];exact ⟨σ,ag,k _ ⟨ag,ag,by simp,fun k _ hk=>setRow_other w b k _ hk⟩ ⟨e,setRow_heap w b _ _ e _ A⟩⟩
theorem RS {t ty e:TypeId} {i:TypeInfo} {zv:Value} {B n m c:Nat} {v aa:Value} {xs news:List Value} {ad:Addr} {w':World} (hu:P.underlying t=some (.slice e)) (hi:P.info? e=some i) (Z:i.zero=some zv) (ai:zv.cells.size=i.size) (ag:0 < i.size)
 (G:w.ownsRow B e i.size v n xs) (E:news.length=m*i.size) (I:∀ j u,news[j]? =some u→w.cell? (ad.add j)=some u) (h1:∀ u∈news,u.oneCell'=true) (O:n+m≤maxLen) (J:(n+m)*i.bytes≤140737488355328)
 (A:(BT #[t,t] ty #[v,.slice (some ad) m c]).run P w= .ok aa w'):∀ k,aa.ownBlock=some k→v.ownBlock=some k∨w.heap.size≤k:=by
 intro k hk;have ak:n+m≤9223372036854775807:=by unfold maxLen at O; omega
 rcases G.2 with ⟨rfl,rfl⟩ | ⟨C,cap,cur,rfl,am,ae,ao,an,ab,ap⟩
 · have ah:xs= []:=fY<|by simpa using G.1
   subst ah;obtain ⟨v2,aq,V,h2,_,_⟩:=run_append_own (P:=P) w w.heap.size t ty e i zv i.size i.bytes hu hi Z rfl rfl ai ag _ 0 [] (dC w w.heap.size e i.size) ad m c news E I h1 O J (cU _);rw [A] at V;cases V;exact .inr (by
    rcases h2.2 with ⟨h,_⟩ | ⟨g2,_,_,h,al,_⟩
    · rw [h] at hk; simp [jU] at hk
    · rw [h] at hk; simp only [jU,gM] at hk; omega)
 · by_cases Y:n+m≤cap
   · have ac:n*i.size+news.length≤cur.size:=by rw [E,ab,← Nat.add_mul]; exact qO _ Y
     rw [run_append_room (P:=P) w t ty e i hu hi C n cap cur ae ad m c news E I h1 Y ac] at A;cases A;exact .inl hk
   · have holds:∀ j u,xs[j]? =some u→w.cell? ((⟨C,0,none⟩:Addr).add j)=some u:=G.cells (g:=C) rfl;rw [run_append_grow (P:=P) w t ty e i zv hu hi Z ⟨C,0,none⟩ n cap xs G.1 holds ad m c news E I aj aj (growslice_fits aj J)] at A;cases A;simp only [jU,gM] at hk;exact .inr aj
theorem ap {t e size bytes B n m c:Nat} {v:Value} {xs news:List Value} {a:Option Addr} (am:gz P t e size bytes=true) (C:w.ownsRow B e size v n xs) (aa:ev N σ x=v) (ag:B≤w.heap.size)
 (ab:ev N σ y= .slice a m c) (J:aR w.heap a news) (E:news.length=m*size) (h1:news.all gI=true) (G:(n+m)*bytes≤140737488355328) (aq:n+m≤9223372036854775807)
 (k:∀ A w',w'.ownsRow B e size A (n+m) (xs++news)→Md (fun k=>v.ownBlock=some k) w w'→(A= .slice none 0 0↔v= .slice none 0 0∧m=0)→(∀ k,A.ownBlock=some k→v.ownBlock=some k∨w.heap.size≤k)→K (gK σ dst A) w'):
 dW P N ⟨dst,.call ⟨.builtin .append,#[x,y],#[t,t]⟩,ty,pos,af,g⟩ σ w K:=by
 obtain ⟨hu,i,zv,hi,ac,hs,I,ae,Y⟩:=sN am;have O:n+m≤maxLen:=by unfold maxLen; omega
 by_cases hm:news= []
 · subst hm;have aj:m=0:=by
    rcases Nat.mul_eq_zero.1 (E.symm.trans rfl) with h | h
    · exact h
    · omega
   subst aj;have al:(BT #[t,t] ty #[v,.slice a 0 c]).run P w= .ok v w:=by
    rcases C.2 with ⟨rfl,rfl⟩ | ⟨ao,cap,cur,rfl,_,_,hle,_⟩
    · cases a <;> simp [BT,ep hu,sizeOf,jH hi,P0,PZ,loadCells,loadCellsFrom]
    · cases a <;> simp [BT,ep hu,sizeOf,jH hi,P0,PZ,loadCells,loadCellsFrom,hle,storeCells]
   refine np (w':=w) (v:=v) ?_<|k v w (by simpa using C) (Md.refl _ _) (by simp) fun _ h=> .inl h;simp [execOp,resolve,invoke,builtin,aa,ab,al]
 · have ah:=J.ok hm;have V:∀ j u,news[j]? =some u→w.cell? ((⟨bk a,fo a,none⟩:Addr).add j)=some u:=fun j u hu=>by rw [nA,pA]; exact J.a7 j u hu
   obtain ⟨A,w',Z,h2,h3,h4⟩:=run_append_own (P:=P) w B t ty e i zv size bytes hu hi ac hs I ae Y v n xs C ⟨bk a,fo a,none⟩ m c news E V (xe h1) O G ag;subst hs I;have ai:=RS hu hi ac ae Y C E V (xe h1) O G Z;refine np (w':=w') (v:=A) ?_<|k A w' h2 ⟨h3.os,h3.output,h3.size,fun k hk ak=>h3.block k hk fun e=>ak e.symm⟩ h4 ai;have an:ev N σ y= .slice (some ⟨bk a,fo a,none⟩) m c:=ab.trans<|congrArg (fun a=>cg a m c) ah;simp [execOp,resolve,invoke,builtin,aa,an,Z]
theorem bh {t n len cap:Nat} {k:IntKind} {i:Int} {a:Option Addr} (he:ib P t=some n) (C:ev N σ x= .slice a len cap) (E:ev N σ y= .int k i) (A:0≤i∧i < len) (G:a=some ⟨bk a,fo a,none⟩):
 (execOp (ev N σ) ⟨dst,.indexAddr t x y,ty,pos,af,g⟩).run P w= .ok (.value<|.pointer<|some ⟨bk a,fo a+i.toNat*n,none⟩) w:=
 ia he (by rw [C]; congr 1) E A
end
theorem dz {F:Nat→Prop} {w w':World} {B e size n:Nat} {v:Value} {xs:List Value} (h:w.ownsRow B e size v n xs) (hm:Md F w w') (C:∀ k,v.ownBlock=some k→¬F k):w'.ownsRow B e size v n xs:=by
 refine ⟨h.1,?_⟩;rcases h.2 with hn | ⟨g,cap,cur,rfl,A,E,rest⟩
 · exact .inl hn
 · exact .inr ⟨g,cap,cur,ag,A,hm.aW E (C g ag),rest⟩
section
variable {P:Program} {N:Fm} {σ:Nat→Value} {w:World} {dst:Option Nat} {ty:TypeId} {pos :String} {af:Array Edge} {g:Option (Nat×Bool)} {x y z:Operand} {K:(Nat→Value)→World→Prop}
theorem tV {t B e size n cap off j:Nat} {a:Option Addr} {xs:List Value} {u:Value} (ab:w.ownsRow B e size (.slice a n cap) n xs) (ai:eN P t=some 1) (ae:ev N σ x= .pointer (some ⟨bk a,off,none⟩)) (ah:ev N σ y=u) (h1:u.oneCell'=true)
 (Y:off =fo a+j) (aa:j < n*size)
 (k:∀ w',Md (fun k=>(cg a n cap).ownBlock=some k) w w'→w'.ownsRow B e size (.slice a n cap) n (xs.set j u)→K σ w'):dW P N ⟨none,.store t x y,ty,pos,af,g⟩ σ w K:=by
 obtain ⟨E,h⟩:=ab;rcases h with ⟨h,rfl⟩ | ⟨A,cp,cur,h,G,V,hle,O,C,ac⟩
 · simp at aa
 · simp only [og,true_and] at h;obtain ⟨rfl,rfl⟩:=h;have Z:off =j:=by rw [Y]; simp [fo]
   subst Z;have hlen:off < cur.toList.length:=by
    have :=qO size hle;rw [yw,C]; omega
   refine dB (L:=cur.toList) ai ae ah h1 (show w.heap[A]? =_ by simpa using V) hlen fun w' J I=>k w' (J.mono fun k _ hk=>by subst hk; rfl) ⟨by simpa using E,.inr ⟨A,cap,_,ag,G,I,hle,O,by simpa using C,?_⟩⟩;rw [← ac];simp only;rw [List.take_set]
end
theorem fG {w:World} {B e size n:Nat} {v:Value} {xs:List Value} (h:w.ownsRow B e size v n xs):v.oneCell'=true :=by
 rcases h.2 with ⟨rfl,_⟩ | ⟨g,cap,cur,rfl,_⟩ <;> rfl
theorem cM {w:World} {B e size n:Nat} {v:Value} {xs:List Value} (h:w.ownsRow B e size v n xs):∃ a cap,v= .slice a n cap:=by
 rcases h.2 with ⟨rfl,rfl⟩ | ⟨g,cap,cur,rfl,_⟩
 · exact ⟨_,_,ag⟩
 · exact ⟨_,_,ag⟩
theorem nT {w:World} {B B' e E size Y n V:Nat} {v G:Value} {xs Z:List Value} (h:w.ownsRow B e size v n xs) (I:w.ownsRow B' E Y G V Z) (O:e≠E) {k:Nat} (hk:v.ownBlock=some k):G.ownBlock≠some k:=by
 intro C;rcases h.2 with ⟨rfl,_⟩ | ⟨g,cap,cur,rfl,_,J,_⟩
 · simp [jU] at hk
 · rcases I.2 with ⟨rfl,_⟩ | ⟨ac,aa,ab,rfl,_,A,_⟩
   · simp [jU] at C
   · simp only [jU,gM] at hk C;subst hk C;rw [J] at A;simp only [gM,yE] at A;exact O A.2.1
theorem bc {w w':World} {B e size n:Nat} {v:Value} {xs:List Value} (h:w.ownsRow B e size v n xs) (hm:Wk w w'):w'.ownsRow B e size v n xs:=dz h hm fun _ _ x=>x
theorem dK {w:World} {B e size n:Nat} {v:Value} {xs:List Value} (h:w.ownsRow B e size v n xs) {k:Nat} (hk:v.ownBlock=some k):B≤k∧k < w.heap.size:=h.lt k hk
theorem Wk.own {w0 w w':World} {B e size n:Nat} {v:Value} {xs:List Value} (h:Wk w0 w) (A:w.ownsRow B e size v n xs) (hm:Md (fun k=>v.ownBlock=some k) w w') (E:w0.heap.size≤B):Wk w0 w':=
 Md.trans' h hm (fun k hk C=>by have :=(dK A C).1; omega)
theorem vF {w:World} {B e size n:Nat} {v:Value} {xs:List Value} (h:w.ownsRow B e size v n xs):∃ a cap,v= .slice a n cap∧aR w.heap a xs∧n≤cap∧(∀ k,v.ownBlock=some k→a=some ⟨k,0,none⟩∧B≤k∧k < w.heap.size)∧(v.ownBlock=none→xs= []):=by
 rcases h.2 with ⟨rfl,rfl⟩ | ⟨g,cap,cur,rfl,C,A,hle,_,_,E⟩
 · have :xs= []:=fY<|by simpa using h.1
   subst this;exact ⟨none,0,ag,aR.nil _ _,cU _,fun k hk=>by simp [jU] at hk,fun _=>rfl⟩
 · refine ⟨_,cap,ag,⟨fun _=>rfl,fun j u hu=> ?_⟩,hle,fun k hk=> ?_,fun hk=>by simp [jU] at hk⟩
   · show a7 w.heap g (0 +j)=_;rw [iV,bo A];rw [← E,qK] at hu;split at hu
     · simpa using hu
     · cases hu
   · simp only [jU,gM] at hk; subst hk;exact ⟨ag,C,(dT.1 A).1⟩
theorem bg {w:World} {B e size n cap:Nat} {a:Option Addr} {xs:List Value} (h:w.ownsRow B e size (.slice a n cap) n xs):n≤cap∧aR w.heap a xs:=by
 obtain ⟨E,G,A,C,hle,_⟩:=vF h;simp only [og,true_and] at A;obtain ⟨rfl,rfl⟩:=A;exact ⟨hle,C⟩
theorem eT {w:World} {B B' e size n:Nat} {v:Value} {xs:List Value} (h:w.ownsRow B e size v n xs) (A:B'≤B):w.ownsRow B' e size v n xs:=by
 refine ⟨h.1,?_⟩;rcases h.2 with h | ⟨g,cap,cur,h1,h2,r⟩
 · exact .inl h
 · exact .inr ⟨g,cap,cur,h1,fu A h2,r⟩
theorem aR.drop {h:Array Obj} {a:Option Addr} {xs:List Value} (A:aR h a xs) {cap k size:Nat} (G:xs.length≤cap*size):aR h (fR a cap k size) (xs.drop<|k*size):=by
 unfold fR;by_cases hk:cap=k
 · rw [if_pos hk,iS (by rw [← hk]; exact G)]; exact aR.nil _ _
 · rw [if_neg hk];by_cases C:xs= []
   · subst C; rw [List.drop_nil]; exact aR.nil _ _
   · have E:=A.ok C;rw [E];simp only [lX,nA];refine ⟨fun _=>rfl,fun j u hu=> ?_⟩;rw [qJ] at hu;have :=A.a7 _ _ hu;show Hb.a7 h (bk a) (fo a+k*size+j)=_;rw [Q3]; exact this
theorem cw.drop {h:Array Obj} {a:Option Addr} {l:List (List UInt8)} (hs:cw h a l) {cap k:Nat} (A:l.length≤cap):cw h (fR a cap k 1) (l.drop k):=by
 have :=aR.drop (k:=k) (size:=1) hs (cap:=cap)<|by rw [List.length_map]; omega
 rw [nu,← List.map_drop] at this; exact this
theorem cw.take {h:Array Obj} {a:Option Addr} {l:List (List UInt8)} (hs:cw h a l) (k:Nat):cw h a (l.take k):=by
 have :=aR.take hs k;rw [← Ca] at this; exact this
theorem abc {w:World} {B e size n cap:Nat} {a:Option Addr} {xs:List Value} (h:w.ownsRow B e size (.slice a n cap) n xs) (C:xs≠[]):B≤bk a∧bk a < w.heap.size:=by
 obtain ⟨E,G,A,_,_,h1,h2⟩:=vF h;simp only [og,true_and] at A;obtain ⟨rfl,rfl⟩:=A;cases hk:(cg a n cap).ownBlock with
 | none=>exact absurd (h2 hk) C
 | some k=>
   obtain ⟨rfl,h3,h4⟩:=h1 k hk;exact ⟨h3,h4⟩
section
variable {P:Program} {N:Fm} {σ:Nat→Value} {w:World} {dst:Option Nat} {ty:TypeId} {pos :String} {af:Array Edge} {g:Option (Nat×Bool)} {x y z:Operand} {K:(Nat→Value)→World→Prop}
end
end Go.Hb
namespace Go.Hb
section
variable {P:Program} {md:uk} {ops:Array Oper} {Q:Exit→Act→World→Prop} {S:World→Prop} {r:Nat}
def rG (P:Program) (md:uk) (ops:Array Oper) (Q:Exit→Act→World→Prop) (S:World→Prop) (r:Nat):Nat→Array Bool→Act→World→Prop
 | 0,bC,a,w=>ly md ops bC= []∧Q .normal a w
 | fuel+1,bC,a,w=>
   (ly md ops bC= []→Q .normal a w)∧
   ∀ i∈ly md ops bC,wpOp P ops Q i (fun A w'=>((bC.setIfInBounds i true).getD r false =false→S w')∧rG P md ops Q S r fuel (bC.setIfInBounds i true) A w') a w
theorem PG:∀ (fuel:Nat) (bC:Array Bool) (a:Act) (w:World),rG P md ops Q S r fuel bC a w→wpAny P md ops Q fuel bC a w
 | 0,_,_,_,h=>h
 | fuel+1,_,_,_,h=>⟨h.1,fun i hi=>wpOp_mono (fun A w' C=>PG fuel _ A w' C.2)<|h.2 i hi⟩
theorem aey {i:Nat} {G:Oper} {v:Value} (hi:ops[i]? =some G) (al:∀ (j:Nat) (o:Oper) cs b,ops[j]? =some o→o.op≠.select cs b)
 (ao:∀ c a w,Q (.panic c) (a.put G.dst v) w→Q (.panic c) a w) (az:∀ o,ops[r]? =some o→∃ x∈o.after,lV md x=true∧x.on=i) (au:i≠r):
 ∀ (fuel:Nat) (bC:Array Bool) (a:Act) (w:World),
   (∀ j C,ops[j]? =some C→j≠i→bC.getD j true =false→(∀ x∈C.after,lV md x=true→x.on≠i)→G.apart ops C=true)→
   i∈ly md ops bC→YieldsIf P ops S G v a→S w→bC.getD r false =false→
   rG P md ops Q S r fuel (bC.setIfInBounds i true) (a.put G.dst v) w→rG P md ops Q S r (fuel+1) bC a w:=by
 intro fuel
 induction fuel with
 | zero=>
   intro bC a w _ E V I _ H;refine ⟨fun h=>(by rw [h] at E; cases E),fun j J=> ?_⟩;by_cases A:j=i
   · subst A; exact V.wpOp hi I ⟨fun _=>I,H⟩
   · have :=ready_mono J A;rw [H.1] at this;cases this
 | succ fuel aA=>
   intro bC a w ac E V I ai H;refine ⟨fun h=>(by rw [h] at E; cases E),fun j J=> ?_⟩;by_cases A:j=i
   · subst A; exact V.wpOp hi I ⟨fun _=>I,H⟩
   · have h1:=H.2 j<|ready_mono J A;obtain ⟨ah,C,O,ap⟩:=mem_ready.1 J;have ak:∀ x∈C.after,lV md x=true→x.on≠i:=fun x aa Z heq=>by
      have h1:=ap x aa Z;have ab:=(mem_ready.1 E).1;rw [heq] at h1;rcases fT i bC.size with Y | Y
      · simp [Y] at ab h1; rw [ab] at h1; cases h1
      · simp [rK Y] at h1
     have ag:j≠r:=by
      rintro rfl;obtain ⟨x,aa,Z,ay⟩:=az C O;exact ak x aa Z ay
     have aw:(bC.setIfInBounds j true).getD r false =false :=by rw [getD_set_ne false ag]; exact ai
     have aj:((bC.setIfInBounds i true).setIfInBounds j true).getD r false =false :=by rw [getD_set_ne false ag,getD_set_ne false au]; exact ai
     have h2:=wpOp_putIf O (ac j C O A ah ak) (fun cs b=>al i G cs b hi) (fun cs b=>al j C cs b O) ao V h1;have aq:∀ k ok,ops[k]? =some ok→k≠i→(bC.setIfInBounds j true).getD k true =false→
      (∀ x∈ok.after,lV md x=true→x.on≠i)→G.apart ops ok=true :=fun k ok hk av am ax=>by
      refine ac k ok hk av ?_ ax;by_cases ae:j=k
      · subst ae; exact ah
      · rw [getD_set_ne true ae] at am; exact am
     refine wpOp_mono (fun an w' h3=>⟨fun _=>h3.2.1 aj,aA (bC.setIfInBounds j true) an w' aq (ready_mono E<|Ne.symm A) h3.1 (h3.2.1 aj) aw ?_⟩) h2;rw [GV _ _ A];exact h3.2.2
end
section
variable {P:Program} {N:Fm} {ops:Array Oper} {Q:Exit→(Nat→Value)→World→Prop} {σ:Nat→Value} {w:World} {S:World→Prop} {r fuel:Nat} {bC:Array Bool}
 {d':Option Nat} {d:Nat} {op:Op} {ty:TypeId} {pos :String} {af:Array Edge} {v:Value}
def im (P:Program) (N:Fm) (ops:Array Oper) (Q:Exit→(Nat→Value)→World→Prop) (S:World→Prop) (r fuel:Nat) (bC:Array Bool) (σ:Nat→Value) (w:World):Prop :=
 rG P .any ops (lift N Q) S r fuel bC (act N σ) w
theorem fj {id:Nat} {l:List Oper} (S:World→Prop) (r:Nat) (A:vE N.r l=true) (hm:P.follows .mixedOrders=true) (C:S w.drew) (h:im P N l.toArray Q S r l.length (BL l.length false) σ w.drew):eG P N (.region id l.toArray true) Q σ w:=by
 exact H3 A hm<|PG _ _ _ _<|by rw [qM]; exact h
def Eg (F:List Nat) (ops:Array Oper) (bC:Array Bool) (r i:Nat):Bool:=
 kS F ops bC i && !(bC.getD r false) && i !=r && (match ops[r]? with | some o=>o.after.toList.any (fun x=>lV .any x && x.on==i) | none=>false)
theorem lq (i:Nat) (hi:ops[i]? =some ⟨some d,op,ty,pos,af,none⟩) (C:Eg N.F ops bC r i=true)
 (O:∀ w,S w→(execOp (ev N σ) ⟨some d,op,ty,pos,af,none⟩).run P w= .ok (.value v) w) (A:S w)
 (k:im P N ops Q S r fuel (bC.setIfInBounds i true) (ea σ d v) w):im P N ops Q S r (fuel+1) bC σ w:=by
 simp only [Eg,kS,iq,BR,bne_iff_ne,ne_eq] at C;obtain ⟨⟨⟨⟨⟨⟨E,G⟩,hf3⟩,hfF⟩,hf4⟩,hf5⟩,hf6⟩:=C;rw [hi] at hfF;refine aey hi (Ha E) (fun c a w=>tI hfF c a w) (fun o I=> ?_) hf5 fuel bC _ w (G9 hi G) (by simpa using hf3) (.inl ⟨kY _ rfl _,fun w A=> ?_⟩) A hf4 ?_ (v:=v)
 · rw [I] at hf6;simp only [B4,iq,beq_iff_eq] at hf6;obtain ⟨x,J,h1,h2⟩:=hf6;exact ⟨x,yx.1 J,h1,h2⟩
 · rw [jM]; exact O w A
 · rw [lD]; exact k
theorem MJ (i:Nat) (hi:ops[i]? =some ⟨d',op,ty,pos,af,none⟩) (E:oQ ops bC i=true)
 (h:dW P N ⟨d',op,ty,pos,af,none⟩ σ w (fun σ w=>((bC.setIfInBounds i true).getD r false =false→S w)∧im P N ops Q S r fuel (bC.setIfInBounds i true) σ w)):im P N ops Q S r (fuel+1) bC σ w:=by
 have A:ly .any ops bC= [i]:=by simpa [oQ] using E
 refine ⟨fun C=>absurd (A ▸ C) (by simp),fun k hk=> ?_⟩;rw [A] at hk;obtain rfl :k=i:=by simpa using hk
 unfold wpOp;simp only [hi];rw [if_pos (kY _ rfl _)];exact .inl<|vV h fun _ _ hk=>hk
theorem ic (i:Nat) (hi:ops[i]? =some ⟨d',op,ty,pos,af,none⟩) (A:oQ ops bC i=true)
 (h:dW P N ⟨d',op,ty,pos,af,none⟩ σ w (fun σ w=>S w∧im P N ops Q S r fuel (bC.setIfInBounds i true) σ w)):im P N ops Q S r (fuel+1) bC σ w:=
 MJ i hi A (PJ h fun _ _ hk=>⟨fun _=>hk.1,hk.2⟩)
theorem eb (i:Nat) (hi:ops[i]? =some ⟨d',op,ty,pos,af,none⟩) (E:oQ ops bC i=true) (C:(bC.setIfInBounds i true).getD r false =true)
 (h:dW P N ⟨d',op,ty,pos,af,none⟩ σ w (fun σ w=>im P N ops Q S r fuel (bC.setIfInBounds i true) σ w)):im P N ops Q S r (fuel+1) bC σ w:=
 MJ i hi E (PJ h fun _ _ hk=>⟨fun A=>absurd (A.symm.trans C) eA,hk⟩)
theorem fi (C:(ly .any ops bC).isEmpty=true) (h:Q .normal σ w):im P N ops Q S r fuel bC σ w:=by
 have A:ly .any ops bC= []:=by simpa using C
 cases fuel with
 | zero=>exact ⟨A,σ,rfl,h⟩
 | succ fuel=>exact ⟨fun _=>⟨σ,rfl,h⟩,by rw [A]; simp⟩
attribute [irreducible] im
end
end Go.Hb
namespace Go.Hb
section
variable {P:Program} {md:uk} {ops:Array Oper} {Q:Exit→Act→World→Prop} {S:World→Prop} {r:Nat}
inductive ti (md:uk) (ops:Array Oper) (i:Nat):Nat→Prop
 | one {r o e} :ops[r]? =some o→e∈o.after→lV md e=true→e.on=i→ti md ops i r
 | more {r o e} :ops[r]? =some o→e∈o.after→lV md e=true→ti md ops i e.on→ti md ops i r
def uA (md:uk) (ops:Array Oper) (bC:Array Bool):Prop := ∀ (j:Nat) (o:Oper),ops[j]? =some o→bC.getD j false =true→∀ e∈o.after,lV md e=true→bC.getD e.on false =true
theorem LO {bC:Array Bool} {j k:Nat} (h:bC.getD k false =true):(bC.setIfInBounds j true).getD k false =true :=by
 by_cases e:j=k
 · subst e;by_cases A:j < bC.size
   · simp [A]
   · simp [A] at h
 · rw [getD_set_ne false e]; exact h
theorem uA.set {bC:Array Bool} {j:Nat} (h:uA md ops bC) (I:j∈ly md ops bC):uA md ops (bC.setIfInBounds j true):=by
 intro k o hk E e he C;obtain ⟨_,O,J,G⟩:=mem_ready.1 I;by_cases A:j=k
 · subst A;rw [J] at hk; cases hk;exact LO<|G e he C
 · rw [getD_set_ne false A] at E;exact LO<|h k o hk E e he C
theorem ti.bC {bC:Array Bool} {i r:Nat} (hd:ti md ops i r) (E:uA md ops bC) (A:∀ o,ops[r]? =some o→∀ e∈o.after,lV md e=true→bC.getD e.on false =true):bC.getD i false =true :=by
 induction hd with
 | one h1 h2 h3 h4=>rw [← h4]; exact A _ h1 _ h2 h3
 | more h1 h2 h3 _ I=>exact I fun o G e he C=>E _ o G (A _ h1 _ h2 h3) e he C
theorem aex {i:Nat} {E:Oper} {v:Value} (hi:ops[i]? =some E) (am:∀ (j:Nat) (o:Oper) cs b,ops[j]? =some o→o.op≠.select cs b)
 (ap:∀ c a w,Q (.panic c) (a.put E.dst v) w→Q (.panic c) a w) (hd:ti md ops i r) (av:i≠r):
 ∀ (fuel:Nat) (bC:Array Bool) (a:Act) (w:World),uA md ops bC→
   (∀ j G,ops[j]? =some G→j≠i→bC.getD j true =false→(∀ x∈G.after,lV md x=true→x.on≠i)→E.apart ops G=true)→
   i∈ly md ops bC→YieldsIf P ops S E v a→S w→bC.getD r false =false→
   rG P md ops Q S r fuel (bC.setIfInBounds i true) (a.put E.dst v) w→rG P md ops Q S r (fuel+1) bC a w:=by
 intro fuel
 induction fuel with
 | zero=>
   intro bC a w _ _ C V I _ H;refine ⟨fun h=>(by rw [h] at C; cases C),fun j J=> ?_⟩;by_cases A:j=i
   · subst A; exact V.wpOp hi I ⟨fun _=>I,H⟩
   · have :=ready_mono J A;rw [H.1] at this;cases this
 | succ fuel aB=>
   intro bC a w ab ac C V I aj H;refine ⟨fun h=>(by rw [h] at C; cases C),fun j J=> ?_⟩;by_cases A:j=i
   · subst A; exact V.wpOp hi I ⟨fun _=>I,H⟩
   · have h1:=H.2 j<|ready_mono J A;obtain ⟨ai,G,O,aa⟩:=mem_ready.1 J;have ae:bC.getD i false =false :=by
      have Z:=(mem_ready.1 C).1;rcases fT i bC.size with Y | Y
      · simpa [Y] using Z
      · simp [Y] at Z
     have az:∀ x∈G.after,lV md x=true→x.on≠i:=fun x aA aq heq=>by
      have h1:=aa x aA aq;rw [heq,ae] at h1; cases h1
     have ah:j≠r:=by
      rintro rfl;have :=hd.bC ab fun o al=>by rw [O] at al; cases al; exact aa
      rw [ae] at this; cases this
     have ax:(bC.setIfInBounds j true).getD r false =false :=by rw [getD_set_ne false ah]; exact aj
     have ak:((bC.setIfInBounds i true).setIfInBounds j true).getD r false =false :=by rw [getD_set_ne false ah,getD_set_ne false av]; exact aj
     have h2:=wpOp_putIf O (ac j G O A ai az) (fun cs b=>am i E cs b hi) (fun cs b=>am j G cs b O) ap V h1;have au:∀ k ok,ops[k]? =some ok→k≠i→(bC.setIfInBounds j true).getD k true =false→
      (∀ x∈ok.after,lV md x=true→x.on≠i)→E.apart ops ok=true :=fun k ok hk aw an ay=>by
      refine ac k ok hk aw ?_ ay;by_cases ag:j=k
      · subst ag; exact ai
      · rw [getD_set_ne true ag] at an; exact an
     refine wpOp_mono (fun ao w' h3=>⟨fun _=>h3.2.1 ak,aB (bC.setIfInBounds j true) ao w' (ab.set J) au (ready_mono C<|Ne.symm A) h3.1 (h3.2.1 ak) ax ?_⟩) h2;rw [GV _ _ A];exact h3.2.2
theorem aez {i:Nat} {E:Oper} {v:Value} (hi:ops[i]? =some E) (ai:∀ (j:Nat) (o:Oper) cs b,ops[j]? =some o→o.op≠.select cs b)
 (al:∀ c a w,Q (.panic c) (a.put E.dst v) w→Q (.panic c) a w) (Y:i≠r):
 ∀ (fuel:Nat) (bC:Array Bool) (a:Act) (w:World),
   (∀ j G,ops[j]? =some G→j≠i→bC.getD j true =false→(∀ x∈G.after,lV md x=true→x.on≠i)→E.apart ops G=true)→
   i∈ly md ops bC→YieldsIf P ops (fun _=>True) E v a→(bC.getD r false =false→S w)→
   rG P md ops Q S r fuel (bC.setIfInBounds i true) (a.put E.dst v) w→rG P md ops Q S r (fuel+1) bC a w:=by
 intro fuel
 induction fuel with
 | zero=>
   intro bC a w _ C J V H;refine ⟨fun h=>(by rw [h] at C; cases C),fun j I=> ?_⟩;by_cases A:j=i
   · subst A; exact J.wpOp hi trivial ⟨fun h=>V (by rw [getD_set_ne false Y] at h; exact h),H⟩
   · have :=ready_mono I A;rw [H.1] at this;cases this
 | succ fuel ax=>
   intro bC a w ac C J V H;refine ⟨fun h=>(by rw [h] at C; cases C),fun j I=> ?_⟩;by_cases A:j=i
   · subst A; exact J.wpOp hi trivial ⟨fun h=>V (by rw [getD_set_ne false Y] at h; exact h),H⟩
   · have h1:=H.2 j<|ready_mono I A;obtain ⟨ah,G,Z,am⟩:=mem_ready.1 I;have ap:bC.getD i false =false :=by
      have aa:=(mem_ready.1 C).1;rcases fT i bC.size with O | O
      · simpa [O] using aa
      · simp [O] at aa
     have av:∀ x∈G.after,lV md x=true→x.on≠i:=fun x aw an heq=>by
      have h1:=am x aw an;rw [heq,ap] at h1; cases h1
     have h2:=wpOp_putIf Z (ac j G Z A ah av) (fun cs b=>ai i E cs b hi) (fun cs b=>ai j G cs b Z) al J h1;have ao:∀ k ok,ops[k]? =some ok→k≠i→(bC.setIfInBounds j true).getD k true =false→
      (∀ x∈ok.after,lV md x=true→x.on≠i)→E.apart ops ok=true :=fun k ok hk aq aj au=>by
      refine ac k ok hk aq ?_ au;by_cases ag:j=k
      · subst ag; exact ah
      · rw [getD_set_ne true ag] at aj; exact aj
     have ab:(bC.setIfInBounds i true).setIfInBounds j true =(bC.setIfInBounds j true).setIfInBounds i true :=GV _ _ fun e=>A e.symm;have ae:(bC.setIfInBounds j true).getD r false =false→((bC.setIfInBounds i true).setIfInBounds j true).getD r false =false :=fun h=>by rw [ab,getD_set_ne false Y]; exact h
     refine wpOp_mono (fun ak w' h3=>⟨fun h=>h3.2.1 (ae h),ax (bC.setIfInBounds j true) ak w' ao (ready_mono C<|Ne.symm A) h3.1 (fun h=>h3.2.1<|ae h) ?_⟩) h2;rw [← ab];exact h3.2.2
end
section
variable {P:Program} {N:Fm} {ops:Array Oper} {Q:Exit→(Nat→Value)→World→Prop} {σ:Nat→Value} {w:World} {S:World→Prop} {r fuel:Nat} {bC:Array Bool}
 {d:Nat} {op:Op} {ty:TypeId} {pos :String} {af:Array Edge} {v:Value}
def zI (ops:Array Oper) (i:Nat):Nat→Nat→Bool
 | 0,_=>false
 | f+1,r=>match ops[r]? with | some o=>o.after.toList.any (fun e=>lV .any e && (e.on==i || zI ops i f e.on)) | none=>false
theorem Wo {i:Nat} :∀ (f r:Nat),zI ops i f r=true→ti .any ops i r:=by
 intro f
 induction f with
 | zero=>intro r h; cases h
 | succ f E=>
   intro r h;rw [zI] at h;split at h
   · rename_i o C;simp only [B4,iq,yA,beq_iff_eq] at h;obtain ⟨e,he,A,h⟩:=h;rcases h with h | h
     · exact .one C (yx.1 he) A h
     · exact .more C (yx.1 he) A<|E _ h
   · cases h
def Dn (ops:Array Oper) (bC:Array Bool):Bool:=(gZ ops.size).all fun j=> !bC.getD j false || match ops[j]? with | some o=>o.after.toList.all (fun e=> !lV .any e || bC.getD e.on false) | none=>true
theorem U3 (h:Dn ops bC=true):uA .any ops bC:=by
 intro j o A E e he C;unfold Dn at h;rw [mK] at h;have h1:=h j<|nr.2 (dT.1 A).1;rw [E,A] at h1;simp only [Bool.not_true,Bool.false_or,mK,yA,BR] at h1;rcases h1 e (yx.2 he) with h2 | h2
 · rw [C] at h2; cases h2
 · exact h2
def Ef (F:List Nat) (ops:Array Oper) (bC:Array Bool) (r i:Nat):Bool:=kS F ops bC i && !(bC.getD r false) && i !=r && Dn ops bC && zI ops i ops.size r
def xN (F:List Nat) (ops:Array Oper) (bC:Array Bool) (r i:Nat):Bool:=kS F ops bC i && i !=r
theorem lh (i:Nat) (hi:ops[i]? =some ⟨some d,op,ty,pos,af,none⟩) (C:Ef N.F ops bC r i=true)
 (I:∀ w,S w→(execOp (ev N σ) ⟨some d,op,ty,pos,af,none⟩).run P w= .ok (.value v) w) (A:S w)
 (k:im P N ops Q S r fuel (bC.setIfInBounds i true) (ea σ d v) w):im P N ops Q S r (fuel+1) bC σ w:=by
 simp only [Ef,kS,iq,BR,bne_iff_ne,ne_eq] at C;obtain ⟨⟨⟨⟨⟨⟨⟨E,G⟩,hf3⟩,hfF⟩,hf4⟩,hf5⟩,hf6⟩,hf7⟩:=C;rw [hi] at hfF;unfold im at*;refine aex hi (Ha E) (fun c a w=>tI hfF c a w) (Wo _ _ hf7) hf5 fuel bC _ w (U3 hf6) (G9 hi G) (by simpa using hf3) (.inl ⟨kY _ rfl _,fun w A=> ?_⟩) A hf4 ?_ (v:=v)
 · rw [jM]; exact I w A
 · rw [lD]; exact k
theorem dO (i:Nat) (hi:ops[i]? =some ⟨some d,op,ty,pos,af,none⟩) (A:xN N.F ops bC r i=true)
 (I:∀ w,(execOp (ev N σ) ⟨some d,op,ty,pos,af,none⟩).run P w= .ok (.value v) w) (C:bC.getD r false =false→S w)
 (k:im P N ops Q S r fuel (bC.setIfInBounds i true) (ea σ d v) w):im P N ops Q S r (fuel+1) bC σ w:=by
 simp only [xN,kS,iq,bne_iff_ne,ne_eq] at A;obtain ⟨⟨⟨⟨E,G⟩,hf3⟩,hfF⟩,hf5⟩:=A;rw [hi] at hfF;unfold im at*;refine aez hi (Ha E) (fun c a w=>tI hfF c a w) hf5 fuel bC _ w (G9 hi G) (by simpa using hf3) (.inl ⟨kY _ rfl _,fun w _=> ?_⟩) C ?_ (v:=v)
 · rw [jM]; exact I w
 · rw [lD]; exact k
end
end Go.Hb
namespace Go.Hb
def Po:Nat→Nat→List UInt8
 | 0,n=> [kJ n]
 | f+1,n=>if n < 128 then [kJ n] else kJ (n % 128 +128)::Po f (n / 128)
def adZ (n:Nat):List UInt8:=Po n n
def frame:List (List UInt8)→List UInt8
 | []=> []
 | r::l=>adZ r.length++(r++frame l)
theorem fX {α:Type} (l:List α) (i:Nat) (d:α) (h:i < l.length):l.take (i+1)=l.take i++ [l.getD i d]:=by
 rw [List.take_succ_eq_append_getElem h]; simp [da,h]
end Go.Hb
namespace Go.Hb
def U8 (l:List UInt8):List Value:=l.map fun b=>gY .u8 b.toNat
theorem yZ (l:List UInt8):(U8 l).length=l.length:=by simp [U8]
theorem yY (a b:List UInt8):U8 (a++b)=U8 a++U8 b:=by simp [U8]
theorem Ru (l:List UInt8):(U8 l).all gI=true :=by
 rw [mK];intro u hu;simp only [U8,iT] at hu;obtain ⟨b,_,rfl⟩:=hu;rfl
def zg (P:Program) (t e u:TypeId):Bool:=
 gz P t e 1 1 && (match P.underlying e with | some (.int .u8)=>true | _=>false) && (match P.underlying u with | some .string=>true | _=>false) &&
  (match P.info? e with | some i=>(match i.zero with | some (.int .u8 0)=>true | _=>false) | none=>false)
theorem Sm {P:Program} {t e u:TypeId} (h:zg P t e u=true):
 gz P t e 1 1=true∧P.underlying e=some (.int .u8)∧P.underlying u=some .string∧∃ i,P.info? e=some i∧i.zero=some (.int .u8 0):=by
 simp only [zg,iq] at h;obtain ⟨⟨⟨h1,h2⟩,h3⟩,h4⟩:=h;refine ⟨h1,?_,?_,?_⟩
 · split at h2
   · rename_i h; exact h
   · cases h2
 · split at h3
   · rename_i h; exact h
   · cases h3
 · split at h4
   · rename_i i hi;split at h4
     · rename_i h; exact ⟨i,hi,h⟩
     · cases h4
   · cases h4
section
variable {P:Program} {N:Fm} {σ:Nat→Value} {w:World} {dst:Option Nat} {ty:TypeId} {pos :String} {af:Array Edge} {g:Option (Nat×Bool)} {x y z:Operand} {K:(Nat→Value)→World→Prop}
theorem foldl_push (l:List UInt8) (r:ByteArray):(l.map fun b=>(b.toNat:Int)).foldl (fun r n=>r.push<|kJ n.toNat) r=⟨r.data++l.toArray⟩:=by
 induction l generalizing r with
 | nil=>simp
 | cons b l A=>
   simp only [tc,ta];rw [A];apply ByteArray.ext;simp [ByteArray.push]
theorem oG {t e u n c:Nat} {a:Option Addr} {l:List UInt8} (h:zg P t e u=true) (O:ev N σ x= .slice a n c) (A:aR w.heap a (U8 l)) (C:l.length=n):
 (execOp (ev N σ) ⟨dst,.convert t u x,ty,pos,af,g⟩).run P w= .ok (.value<|str l) w:=by
 obtain ⟨h1,h2,h3,_⟩:=Sm h;obtain ⟨hu,_⟩:=sN h1;have G:(P4<|.slice a n c).run P w= .ok (str l) w:=by
  by_cases he:l= []
  · subst he;cases a with
    | none=>simp [P4,str]; rfl
    | some a=>
      subst C;have :=run_bytesToString (P:=P) w a 0 c []<|by simp [loadCells,loadCellsFrom]
      exact this.trans ag
  · have E:=A.ok<|by simpa [U8] using he
    have J:(loadCells ⟨bk a,fo a,none⟩ n).run P w= .ok ((l.map fun b=>(b.toNat:Int)).map<|gY .u8).toArray w:=by
     subst C;have :=run_loadCells_list (P:=P) w ⟨bk a,fo a,none⟩ (U8 l) fun j v I=>by
      rw [nA,pA];exact A.a7 j v I
     rw [yZ] at this;rw [this];simp [U8]
    rw [E,run_bytesToString w _ n c _ J,foldl_push];simp [str,ByteArray.empty,ByteArray.emptyWithCapacity];rfl
 simp [execOp,O,run_convert_bytes_string w t u e a n c hu h2 h3,G]
theorem usd {at_:Array TypeId} {v:Value} {a:Option Addr} {n c:Nat} (A:ev N σ x= .slice a n c) (h:a=none∨c≠0):
 (execOp (ev N σ) ⟨dst,.call ⟨.builtin .unsafeSliceData,#[x],at_⟩,ty,pos,af,g⟩).run P w= .ok (.value<|.pointer a) w:=by
 have _:=v;have :(Builtin.unsafeSliceData_ at_ ty #[.slice a n c]).run P w= .ok (.pointer a) w:=by
  cases a with
  | none=>exact Lib.run_unsafeSliceData_nil w at_ ty n c
  | some a=>exact Lib.run_unsafeSliceData_row w at_ ty a n c<|h.resolve_left<|by simp
 simp [execOp,resolve,invoke,builtin,A,this]
def ptrTo (P:Program) (C e:TypeId):Bool:=match P.underlying C with | some (.pointer A)=>A==e && P.cellsOf e==1 | _=>false
theorem usg {G it e B n c:Nat} {a:Option Addr} {l:List UInt8} {xs:List Value} (hp:ptrTo P G e=true) (O:ev N σ x= .pointer a) (V:ev N σ y= .int .i64 n) (E:w.ownsRow B e 1 (.slice a n c) n xs)
 (al:xs=U8 l) (am:n≤9223372036854775807)
 (k:∀ w',Md (fun k=>(cg a n c).ownBlock=some k) w w'→w'.heap.size=w.heap.size→K (gK σ dst<|str l) w'):
 dW P N ⟨dst,.call ⟨.builtin .unsafeString,#[x,y],#[G,it]⟩,ty,pos,af,g⟩ σ w K:=by
 subst al;have A:l.length=n:=by have :=E.1; simpa [U8] using this
 unfold ptrTo at hp;split at hp
 case h_2=>cases hp
 rename_i I hu;simp only [iq,beq_iff_eq] at hp;obtain ⟨rfl,Z⟩:=hp;by_cases he:l= []
 · subst he;obtain rfl :n=0:=A.symm;refine np (w':=w) (v:=str []) ?_<|k w (Md.refl _ _) ag;simp [execOp,resolve,invoke,builtin,O,V,Lib.run_unsafeString_none];rfl
 · rcases E.2 with ⟨h,Y⟩ | ⟨C,cap,cur,h,_,ab,hle,_,ak,an⟩
   · subst Y; simp only [List.length_eq_zero_iff] at A; exact absurd A he
   · simp only [og,true_and] at h;obtain ⟨rfl,rfl⟩:=h;have ai:w.shape? C=some (I,cur.size):=by simp [Hk,ab]
     have ah:=Lib.run_unsafeString_row (P:=P) w G it ty I hu Z C cur.size ai l he (by rw [A,ak]; omega) aj (fun j u hu=>by
      obtain ⟨ad,cp,J,aa,_,hk,_⟩:=vF E;simp only [og,true_and] at J;obtain ⟨rfl,rfl⟩:=J;rw [nA,pA];exact aa.a7 j _ (by simp [U8,hu]))
     refine np (w':=w.freeze ⟨C,0,none⟩ l.length) (v:=str l) ?_ (k _ ⟨?_,?_,?_,?_⟩ ?_)
     · simp [execOp,resolve,invoke,builtin,O,V,← A,ah,str]
     · unfold yK; split <;> rfl
     · unfold yK; split <;> rfl
     · unfold yK; split <;> simp
     · intro k hk ac;have ae:k≠C:=fun e=>ac<|by simp [jU,e]
       unfold yK;split
       · rfl
       · simp only [Array.getElem?_modify]; rw [if_neg (fun e=>ae e.symm)]
     · unfold yK; split <;> simp
def yt (P:Program) (C up e n:Nat):Bool:=
 (match P.underlying C with | some (.pointer A)=>A==e | _=>false) && (match P.underlying up with | some .unsafePointer=>true | _=>false) && P.cellsOf e==n && iU 0 n && (match P.info? e with | some i=>i.size==n | _=>false)
theorem Pr {P:Program} {A up e n:Nat} (h:yt P A up e n=true):P.underlying A=some (.pointer e)∧P.underlying up=some .unsafePointer∧P.cellsOf e=n∧0 < n∧∃ i,P.info? e=some i∧i.size=n:=by
 simp only [yt,iq] at h;obtain ⟨⟨⟨⟨h1,h2⟩,h3⟩,h4⟩,h5⟩:=h;refine ⟨?_,?_,by simpa using h3,uy (wO 0) (td h4),?_⟩
 · split at h1
   · rename_i h; simp only [beq_iff_eq] at h1; rw [h,h1]
   · cases h1
 · split at h2
   · rename_i h; exact h
   · cases h2
 · split at h5
   · rename_i i hi; exact ⟨i,hi,by simpa using h5⟩
   · cases h5
theorem toU {A up e n b:Nat} {L:List Value} (h:yt P A up e n=true) (J:ev N σ x= .pointer (some ⟨b,0,none⟩)) (C:w.heap[b]? =some (.cells L.toArray e (0,0))) (E:L.length=n):
 (execOp (ev N σ) ⟨dst,.convert A up x,ty,pos,af,g⟩).run P w= .ok (.value<|.pointer<|some ⟨b,0,none⟩) w:=by
 obtain ⟨h1,h2,h3,h4,i,hi,hs⟩:=Pr h;have I:w.shape? b=some (e,L.length):=by simp [Hk,C]
 have G:¬n=0:=aj;simp [execOp,J,convert,ep h1,ep h2,P6,P5,viewAt,I,cellsIn,E,sizeOf,jH hi,hs,G]
theorem X2 {C up e n b:Nat} {L:List Value} (h:yt P C up e n=true) (O:ev N σ x= .pointer (some ⟨b,0,none⟩)) (E:w.heap[b]? =some (.cells L.toArray e (0,0))) (G:L.length=n):
 (execOp (ev N σ) ⟨dst,.convert up C x,ty,pos,af,g⟩).run P w= .ok (.value<|.pointer<|some ⟨b,0,none⟩) w:=by
 obtain ⟨h1,h2,h3,h4,i,hi,hs⟩:=Pr h;have J:w.shape? b=some (e,L.length):=by simp [Hk,E]
 have A:¬n=0:=aj;have I:liesAt P P.depth e (L.length / P.cellsOf e) 0 e 1=true :=by
  have hd:P.depth=(2 *(P.types.size+Made.depth)+1)+1:=rfl;rw [hd];simp only [liesAt,yA];left;rw [hd];simp [rowAt,h3,A,G,sameLayout,Nat.div_self h4]
 simp [execOp,O,convert,ep h1,ep h2,P6,P5,viewAt,J,variablesAt,sizeOf,jH hi,hs,A,I]
theorem aaI {t E e:TypeId} {a:Addr} (hu:P.underlying t=some (.pointer e)) (hs:(P.info? e).isSome=true) (A:ev N σ x= .pointer (some a)) (C:ev N σ y= .pointer (some a)):
 (execOp (ev N σ) ⟨dst,.binOp .neq t x y E,ty,pos,af,g⟩).run P w= .ok (.value<|.bool false) w:=by
 obtain ⟨i,hi⟩:=ot.1 hs;have he:∀ d,(rP (d+1) t (.pointer<|some a)<|.pointer<|some a).run P w= .ok true w:=by
  intro d;simp [rP,ep hu,sizeOf,jH hi,sameAddr]
 have h:(binOp .neq t (.pointer<|some a)<|.pointer<|some a).run P w= .ok (.bool false) w:=by
  have :=he 9999;simp only [binOp];have h2:(G6 t (.pointer<|some a)<|.pointer<|some a).run P w= .ok true w:=this;simp [h2]
 simp [execOp,A,C,eqGuard,h]
theorem Vl {f:FuncId} {args:Array Operand} {A:Array TypeId} {v:Value} (E:∀ v w,(callFunc f #[v]).run P w= .ok (.value v) w) (C:args.toList.map (ev N σ)= [v]):
 (execOp (ev N σ) ⟨dst,.call ⟨.value (.func f),args,A⟩,ty,pos,af,g⟩).run P w= .ok (.value v) w:=by
 have :args.map (ev N σ)= #[v]:=by rw [← BO,oc,C]
 simp [execOp,resolve,ev,sX,invoke,this,E]
structure Bd (T e:TypeId) (w:World) (b:Nat) (buf:Value) (l:List UInt8):Prop where
 aW:∃ pa,w.heap[b]? =some (.cells [BY pa,buf].toArray T (0,0))∧(pa=none∨pa=some ⟨b,0,none⟩)
 own:w.ownsRow (b+1) e 1 buf l.length (U8 l)
 nil:buf= .slice none 0 0↔l= []
def BF (b:Nat) (A:Value) (k:Nat):Prop :=k=b∨A.ownBlock=some k
end
theorem Bd.lt {T e b:Nat} {w:World} {A:Value} {l:List UInt8} (h:Bd T e w b A l):b < w.heap.size:=let ⟨_,h,_⟩:=h.aW; (dT.1 h).1
theorem Bd.j0 {T e b:Nat} {w:World} {A:Value} {l:List UInt8} (h:Bd T e w b A l) {k:Nat} (hk:BF b A k):b≤k∧k < w.heap.size:=by
 rcases hk with rfl | hk
 · exact ⟨cU _,h.lt⟩
 · have :=h.own.lt k hk; omega
theorem Bd.md {T e b:Nat} {F:Nat→Prop} {w w':World} {A:Value} {l:List UInt8} (h:Bd T e w b A l) (hm:Md F w w') (C:∀ k,BF b A k→¬F k):Bd T e w' b A l:=by
 obtain ⟨⟨E,h1,h2⟩,h3,h4⟩:=h;exact ⟨⟨E,hm.aW h1 (C b<|.inl ag),h2⟩,dz h3 hm (fun k hk=>C k<|.inr hk),h4⟩
end Go.Hb
namespace Go.Hb
def iJ (P:Program) (t:TypeId):Option (List (Nat×Nat)×List Value):=
 match P.info? t,P.underlying t with
 | some it,some (.struct fields)=>
   match it.zero,fields.toList.mapM (fun f=>(P.info? f.type).map fun i=>(f.offset,i.size)) with
   | some z,some pl=>some (pl,z.cells.toList)
   | _,_=>none
 | _,_=>none
def x8 (pl:List (Nat×Nat)):List Value→List (Nat×Value)→Option (List Value)
 | A,[]=>some A
 | A,(i,v)::r=>match pl[i]? with
   | some (off,s)=>if (s==1 && v.oneCell' && iU off A.length)=true then x8 pl (A.set off v) r else none
   | none=>none
theorem abA {pl:List (Nat×Nat)} {A L:List Value} {ps:List (Nat×Value)} (h:x8 pl A ps=some L):od (pl.toArray[·]?) A.toArray ps=some L.toArray:=by
 induction ps generalizing A with
 | nil=>simp only [x8,gM] at h; subst h; rfl
 | cons p ps I=>
   obtain ⟨i,v⟩:=p;simp only [x8] at h;split at h
   · rename_i off s hs;split at h
     · rename_i C;simp only [iq,beq_iff_eq] at C;obtain ⟨⟨rfl,h1⟩,ho⟩:=C;have J:off < A.length:=td ho;have G:v.cells= #[v]:=qu h1;have E:pl.toArray[i]? =some (off,1):=by simpa using hs
       simp only [od,E,G];rw [if_neg (by simp; omega),← I h];simp
     · cases h
   · cases h
theorem mV {α:Type} {f:α→List Value} {m:Nat} (A:∀ a,(f a).length=m) (l:List α):(l.flatMap f).length=l.length*m:=by
 induction l with
 | nil=>simp
 | cons x l C=>simp [C,A,rV,Nat.add_comm]
theorem zZ {α:Type} {f:α→List Value} {m:Nat} (A:∀ a,(f a).length=m) {l:List α} {j c:Nat} {a:α} (h:l[j]? =some a) (C:c < m):(l.flatMap f)[j*m+c]? =(f a)[c]? :=by
 induction l generalizing j with
 | nil=>simp at h
 | cons x l E=>
   cases j with
   | zero=>
     simp only [List.getElem?_cons_zero,gM] at h; subst h;rw [Hw,iV,kI,nq (by rw [A]; exact C)]
   | succ j=>
     simp only [QK] at h;rw [kI,oh (by rw [A,rV]; omega),A,show (j+1)*m+c - m=j*m+c from by rw [rV]; omega];exact E h
theorem fO {α:Type} {f:α→List Value} {m:Nat} (A:∀ a,(f a).length=m) {h:Array Obj} {a:Option Addr} {l:List α} {i:Nat} {e:α} (E:aR h a (l.flatMap f)) (G:l[i]? =some e):∀ j,j < m→Hb.a7 h (bk a) (fo a+i*m+j)=(f e)[j]? :=by
 intro j C;have h1:=zZ A G C;have h2:j < (f e).length:=by rw [A]; exact C
 rw [cz h2] at h1 ⊢;rw [Q3]; exact E.a7 _ _ h1
theorem DU {α:Type} {f:α→List Value} {m:Nat} (A:∀ a,(f a).length=m) (hm:0 < m) {l:List α} (h:0 < l.length):l.flatMap f≠[]:=by
 intro e;have :=mV A l;rw [e] at this;have :0 < l.length*m:=Nat.mul_pos h hm;simp at*; omega
theorem Ll {α:Type} {f:α→List Value} {m:Nat} (A:∀ a,(f a).length=m) {l:List α} {j:Nat} (x:α) (h:j < l.length):(l.set j x).flatMap f=(l.flatMap f).take (j*m)++f x++(l.flatMap f).drop (j*m+m):=by
 induction l generalizing j with
 | nil=>simp at h
 | cons y l C=>
   cases j with
   | zero=>
     simp only [List.set_cons_zero,kI,Hw,oq,qL,iV];rw [QA,QD (by rw [A]; exact cU _),A]; simp
   | succ j=>
     simp only [db] at h;rw [List.set_cons_succ,kI,C aj,kI,uw,QA,A,eK (l:=f y) (by rw [A,rV]; omega),QD (l:=f y) (by rw [A,rV]; omega),
      show (j+1)*m - m=j*m from by rw [rV]; omega,show (j+1)*m+m - m=j*m+m from by rw [rV]; omega]
     simp
theorem DV {α:Type} {f:α→List Value} (A:∀ a,(f a).all gI=true) (l:List α):(l.flatMap f).all gI=true :=by
 simp only [List.all_flatMap,mK]; intro x _; exact mK.1<|A x
section
variable {P:Program} {N:Fm} {σ:Nat→Value} {w:World} {dst:Option Nat} {ty:TypeId} {pos :String} {af:Array Edge} {g:Option (Nat×Bool)} {x y z:Operand} {K:(Nat→Value)→World→Prop}
theorem dt {t:TypeId} {parts:Array (Nat×Operand)} {pl:List (Nat×Nat)} {A L:List Value} {ps:List (Nat×Value)} (h:iJ P t=some (pl,A)) (hp:parts.toList.map (fun p=>(p.1,ev N σ p.2))=ps) (C:x8 pl A ps=some L):
 (execOp (ev N σ) ⟨dst,.build t parts,ty,pos,af,g⟩).run P w= .ok (.value<|.agg L.toArray) w:=by
 unfold iJ at h;split at h
 · rename_i it fields hi hu;split at h
   · rename_i z I G hm;simp only [gM,uz] at h;obtain ⟨rfl,rfl⟩:=h;have E:P.built t (parts.map fun p=>(p.1,ev N σ p.2)).toList=some L.toArray:=by
      have :=abA C;simp only [BM] at this;simp only [Program.built,hi,hu,G,hm,oc,hp]; exact this
     simp [execOp,run_build w t _ _ E]
   · cases h
 · cases h
end
end Go.Hb
namespace Go.Hb
section
variable {P:Program} {N:Fm} {σ:Nat→Value} {w:World} {dst:Option Nat} {ty:TypeId} {pos :String} {af:Array Edge} {g:Option (Nat×Bool)} {x y z:Operand} {K:(Nat→Value)→World→Prop}
theorem aai {zv:Value} (h1:zv.oneCell'=true) (n:Nat):madeCells zv.cells n=(kZ n zv).toArray:=by
 rw [qu h1];apply Array.ext
 · simp [madeCells]
 · intro i h2 h3;simp [madeCells,Nat.mod_one]
theorem mks {t e bytes n:Nat} {J I:IntKind} {zv:Value} (Z:gz P t e 1 bytes=true) (A:zeroOf P e=some (some [zv])) (h1:zv.oneCell'=true) (aa:ev N σ x= .int J n) (ab:ev N σ y= .int I n) (ae:bytes*n≤281474976710656) (C:n≤maxLen)
 (k:∀ b w',b=w.heap.size→Nw w w'→(∀ B,B≤b→w'.ownsRow B e 1 (.slice (some ⟨b,0,none⟩) n n) n (kZ n zv))→K (gK σ dst<|.slice (some ⟨b,0,none⟩) n n) w'):dW P N ⟨dst,.makeSlice t x y,ty,pos,af,g⟩ σ w K:=by
 obtain ⟨hu,i,O,hi,G,hs,Y,ai,ah⟩:=sN Z;have ac:O.cells= #[zv]:=by
  unfold zeroOf at A;simp only [hi,G,lX,gM] at A;exact BO.1<|by simpa using A
 refine oW (v:=fun b=> .slice (some ⟨b,0,none⟩) n n) (ob:= .cells (kZ n zv).toArray e (0,0)) ?_ fun b w' h2 h3 h4=>k b w' h2 h3 fun B V=>⟨by simp,.inr ⟨b,n,_,ag,V,h4,cU _,C,by simp,by simp⟩⟩
 have E:=run_make (P:=P) w t e i O hu hi G J I n n aj (Int.le_refl _) (by rw [Y,← Int.natCast_mul]; omega)<|by unfold maxLen at C; omega
 rw [ac,hs,nu,kH,show madeCells #[zv] n=(kZ n zv).toArray by rw [← aai h1,qu h1]] at E;simp [execOp,aa,ab,E]
end
end Go.Hb
namespace Go.Hb
section
variable {P:Program} {N:Fm} {σ:Nat→Value} {w:World} {dst:Option Nat} {ty:TypeId} {pos :String} {af:Array Edge} {g:Option (Nat×Bool)} {x y z:Operand}
theorem UO {t n len cap i:Nat} {a:Option Addr} {k k':IntKind} (he:ib P t=some n) (E:ev N σ x= .slice a len cap) (G:ev N σ y= .int k (i:Nat)) (I:ev N σ z= .int k' (i:Nat)) (h:i≤cap):
 (execOp (ev N σ) ⟨dst,.slice t x none (some y) (some z),ty,pos,af,g⟩).run P w= .ok (.value<|.slice a i i) w:=by
 have A:(0:Int)≤(i:Int):=aj;unfold ib at he;cases hd:P.underlying t with
 | none=>rw [hd] at he; cases he
 | some d=>
   rw [hd] at he;cases d <;> first | (cases he; done) | skip
   rename_i e;cases hi':P.info? e with
   | none=>simp [hi'] at he
   | some j=>
     have C:(if i=0 then a else a.map (·.add 0))=a:=by
      split
      · rfl
      · cases a <;> simp [BS]
     simp only [execOp,ui,yD,E,G,I,lX,Option.map_none,qG,uj,asIntOf];simp [ep hd,jH hi',sizeOf,A,C];intro J; omega
end
end Go.Hb
namespace Go.Hb
def tj (h:Array Obj) (b:Nat) (kvs:List (Value×Value)):Prop := ∃ es clock,h[b]? =some (.map es clock)∧es.toList.map (fun e=>(e.key,e.val))=kvs
theorem tj.md {F:Nat→Prop} {w w':World} {b:Nat} {kvs:List (Value×Value)} (h:tj w.heap b kvs) (hm:Md F w w') (A:¬F b):tj w'.heap b kvs:=
 let ⟨es,c,h1,h2⟩:=h; ⟨es,c,hm.aW h1 A,h2⟩
structure wV (P:Program) (k:TypeId) (isK:Value→Prop):Prop where
 check:∀ em w v,isK v→(p6 em 10000 k v).run P w= .ok () w
 find:∀ w x es,isK x→(∀ e∈es,isK e.key)→
  ((ug k x es).run P w= .ok none w∧∀ e∈es,e.key≠x)∨∃ j e,(ug k x es).run P w= .ok (some (j,e.val)) w∧es[j]? =some e∧e.key=x
theorem UC {P:Program} {k:TypeId} {q:IntKind} {em:Bool} {n:Nat} {a:Int} (hk:P.underlying k=some (.int q)) (w:World):(p6 em (n+1) k<|.int .i64 a).run P w= .ok () w:=by
 simp only [p6,o0,ep hk,oZ,rQ]
theorem Jn {P:Program} {k:TypeId} {em:Bool} {n:Nat} {a:List UInt8} (hk:P.underlying k=some .string) (w:World):(p6 em (n+1) k<|str a).run P w= .ok () w:=by
 simp only [str,p6,o0,ep hk,oZ,rQ]
theorem abh {P:Program} {t:TypeId} {cs:Array Value} {o:Nat} {v:Value} {d:TypeDesc} (A:P.underlying t=some d) (hd:(match d with | .bool | .string=>true | _=>false)=true) (C:cs[o]? =some v) (w:World):(part t cs o).run P w= .ok v w:=by
 cases d <;> first | (cases hd; done) | simp [part,isAgg,ep A,C]
def zeroV (P:Program) (e:TypeId):Option Value:=(P.info? e).bind (·.zero)
theorem yv {P:Program} {e:TypeId} {z:Value} (h:zeroV P e=some z) (w:World):(zeroValue e).run P w= .ok z w:=by
 unfold zeroV at h;simp only [Option.bind_eq_some_iff] at h;obtain ⟨i,hi,A⟩:=h;simp [zeroValue,jH hi,A]
section
variable {P:Program} {N:Fm} {σ:Nat→Value} {w:World} {dst:Option Nat} {ty:TypeId} {pos :String} {af:Array Edge} {g:Option (Nat×Bool)} {x y z:Operand} {K:(Nat→Value)→World→Prop}
variable {t k e:TypeId} {isK:Value→Prop} {b:Nat} {kvs:List (Value×Value)} {kx v:Value}
theorem DJ {es:Array MapEntry} (h:es.toList.map (fun e=>(e.key,e.val))=kvs) (hk:∀ p∈kvs,isK p.1):∀ e∈es.toList,isK e.key:=fun e he=>hk (e.key,e.val)<|by rw [← h]; exact uu he
theorem run_getObj_map {es:Array MapEntry} {c:Nat} (A:w.heap[b]? =some (.map es c)):(getObj b).run P w= .ok (.map es c) w:=by
 simp [getObj,Sem.run,A]
theorem aaQ {kvs:List (Value×Value)} (hn:(kvs.map iW).Nodup) {kx v A:Value} (h1:(kx,v)∈kvs) (h2:(kx,A)∈kvs):v=A:=by
 induction kvs with
 | nil=>simp at h1
 | cons p kvs C=>
   simp only [tc,Cd] at hn;rcases eL.1 h1 with h1 | h1
   · rcases eL.1 h2 with h2 | h2
     · rw [← h1] at h2; cases h2; rfl
     · rw [← h1] at hn; exact absurd (uu (f:=iW) h2) hn.1
   · rcases eL.1 h2 with h2 | h2
     · rw [← h2] at hn; exact absurd (uu (f:=iW) h1) hn.1
     · exact C hn.2 h1 h2
theorem aab {ok:Bool} (O:P.underlying t=some (.map k e)) (C:wV P k isK) (hm:tj w.heap b kvs) (hk:∀ p∈kvs,isK p.1) (Y:ev N σ x= .map (some b)) (Z:ev N σ y=kx) (hi:isK kx) (hn:(kvs.map iW).Nodup) (A:(kx,v)∈kvs):
 (execOp (ev N σ) ⟨dst,.lookup t x y ok,ty,pos,af,g⟩).run P w= .ok (.value (if ok then .tuple #[v,.bool true] else v)) w:=by
 obtain ⟨es,c,J,he⟩:=hm;rcases C.find w kx es.toList hi (DJ he hk) with ⟨_,h2⟩ | ⟨j,E,h1,h2,h3⟩
 · rw [← he] at A;obtain ⟨G,I,h4⟩:=iT.1 A;cases h4;exact absurd ag<|h2 G I
 · have V:(kx,E.val)∈kvs:=by rw [← he,← h3]; exact uu (f:=fun e:MapEntry=>(e.key,e.val))<|gL h2
   have :=aaQ hn A V;subst this;cases ok <;> simp [execOp,Qe,ep O,Y,Z,run_getObj_map J,C.check _ w kx hi,h1]
theorem aac {ok:Bool} {zv:Value} (G:P.underlying t=some (.map k e)) (O:zeroV P e=some zv) (A:wV P k isK) (hm:tj w.heap b kvs) (hk:∀ p∈kvs,isK p.1) (I:ev N σ x= .map (some b)) (J:ev N σ y=kx) (hi:isK kx) (hn:∀ v,(kx,v)∉kvs):
 (execOp (ev N σ) ⟨dst,.lookup t x y ok,ty,pos,af,g⟩).run P w= .ok (.value (if ok then .tuple #[zv,.bool false] else zv)) w:=by
 obtain ⟨es,c,E,he⟩:=hm;rcases A.find w kx es.toList hi (DJ he hk) with ⟨h1,_⟩ | ⟨j,C,h1,h2,h3⟩
 · cases ok <;> simp [execOp,Qe,ep G,I,J,run_getObj_map E,A.check _ w kx hi,h1,yv O]
 · exact absurd (by rw [← he,← h3]; exact uu (f:=fun e:MapEntry=>(e.key,e.val))<|gL h2)<|hn C.val
end
end Go.Hb
namespace Go.Hb
def tag (w:World) (k:Nat):Nat:=match w.heap[k]? with | some (.cells _ t _)=>t+2 | some (.map _ _)=>1 | _=>0
theorem dS {w:World} {k t:Nat} {cs:Array Value} {z:Nat×Nat} (h:w.heap[k]? =some (.cells cs t z)):tag w k=t+2:=by unfold tag; rw [h]
theorem Bn {w:World} {k:Nat} {kvs:List (Value×Value)} (h:tj w.heap k kvs):tag w k=1:=by
 obtain ⟨es,c,h,_⟩:=h;unfold tag; rw [h]
theorem Gq {w:World} {B e size n k:Nat} {v:Value} {xs:List Value} (h:w.ownsRow B e size v n xs) (hk:v.ownBlock=some k):tag w k=e+2:=by
 rcases h.2 with ⟨rfl,_⟩ | ⟨g,cap,cur,rfl,_,A,_⟩
 · simp [jU] at hk
 · simp only [jU,gM] at hk; subst hk;exact dS A
def TF (w:World) (L:List Nat) (F:Nat→Prop):Prop := ∀ k,F k→L.contains (tag w k)=true
theorem TF.no {w:World} {L:List Nat} {F:Nat→Prop} (h:TF w L F) {k t:Nat} (C:tag w k=t) (A:L.contains t=false):¬F k:=fun hk=>by
 have :=h k hk;rw [C,A] at this; cases this
theorem TF.or {w:World} {L:List Nat} {F G:Nat→Prop} (h:TF w L F) (A:TF w L G):TF w L (fun k=>F k∨G k):=fun k hk=>by
 rcases hk with hk | hk
 · exact h k hk
 · exact A k hk
theorem TF.eq {w:World} {L:List Nat} {b t:Nat} (C:tag w b=t) (A:L.contains t=true):TF w L (fun k=>k=b):=fun k hk=>by
 subst hk; rw [C]; exact A
theorem TF.own {w:World} {L:List Nat} {B e size n:Nat} {v:Value} {xs:List Value} (h:w.ownsRow B e size v n xs) (A:L.contains (e+2)=true):TF w L (fun k=>v.ownBlock=some k):=fun k hk=>by
 rw [Gq h hk]; exact A
theorem Md.jd {F:Nat→Prop} {w w':World} {L:List Nat} {k t:Nat} {cs:Array Value} {z:Nat×Nat} (hm:Md F w w') (A:TF w L F) (h:w.heap[k]? =some (.cells cs t z)) (C:L.contains (t+2)=false):w'.heap[k]? =some (.cells cs t z):=hm.aW h<|A.no (dS h) C
theorem c7 {F:Nat→Prop} {w w':World} {L:List Nat} {B e size n:Nat} {v:Value} {xs:List Value} (h:w.ownsRow B e size v n xs) (hm:Md F w w') (A:TF w L F) (C:L.contains (e+2)=false):w'.ownsRow B e size v n xs:=dz h hm fun _ hk=>A.no (Gq h hk) C
theorem Md.tag {F:Nat→Prop} {w w':World} (hm:Md F w w') {k:Nat} (hk:k < w.heap.size) (A:¬F k):Hb.tag w' k=Hb.tag w k:=by
 unfold Hb.tag; rw [hm.dJ k hk A]
end Go.Hb
end
section
namespace Go.Hb
open Go.ChangeShapes Go.WideShapes Go.ChangeAt
theorem Wk.frame {w w':World} (h:Wk w w') (may:MemPlace→Prop):w.keptBut w' may:=by
 refine ⟨h.os,h.output,fun i hi=> ?_⟩;rw [h.dJ i hi id];split <;> simp_all
theorem Wk.same {w w':World} (h:Wk w w') {p:MemPlace} (hp:p.block < w.heap.size):w.sameAt w' p:=by
 cases p with
 | cell b o=>exact World.cell?_of_block (w:=w)<|h.dJ b hp id
 | map b=>exact h.dJ b hp id
section
variable {H:Type} {enc:TypeId×Value→H} {P:Program} {W W':World}
theorem Pb (G:laidOutB P=true) (hk:Wk W W'):∀ (C:List TypeId) (vs:List Value) (E:List (DataW H)) (ps:List MemPlace),C.all (fun t=>P.readableRec t && decide (t < P.types.size))=true→(∀ x∈ps,x.block < W.heap.size)→
 P7 enc P W 0 (fun _=>true) true C vs E ps→P7 enc P W' 0 (fun b=>decide (b < W.heap.size)) true C vs E ps
 | [],[],[],_,_,_,h=>h
 | t::C,v::vs,d::E,_,hp,hlt,⟨p,q,h1,h2,he⟩=>by
   subst he;rw [wq,iq,iq] at hp;exact ⟨p,q,WideElems.Trod_stays G hp.1.1 (of_decide_eq_true hp.1.2) h1 (fun x A=>hk.same<|hlt x<|Cb _ A) (fun x A=>decide_eq_true<|hlt x<|Cb _ A),
    Pb G hk C vs E q hp.2 (fun x A=>hlt x<|List.mem_append_right _ A) h2,rfl⟩
 | [],_::_,_,_,_,_,h=>h.elim
 | [],[],_::_,_,_,_,h=>h.elim
 | _::_,[],_,_,_,_,h=>h.elim
 | _::_,_::_,[],_,_,_,h=>h.elim
theorem abT {f:FuncId} {fn:Func} {s:ChangeSpec} {args:Array Value} {A gs:List (DataW H)} {before:List MemPlace} {tb:TypeId} (E:DataW.Whole enc P fn.params.toList s.vars false W args.toList A gs before) (I:s.vars= [])
 (hs:s.fn H (A++gs)= {results:= [.lit (.bool true)],args:=A}) (Z:fn.resultTypes= #[tb]) (O:P.underlying tb=some .bool) (V:laidOutB P=true) (hp:fn.params.toList.all (fun t=>P.readableRec t && decide (t < P.types.size))=true)
 (h:bw P f args W (fun v w'=>v= .bool true∧Wk W w')):Calls P f args W fun e W'=> ∃ v,e= .returned v∧s.post enc P fn false true false false W args v W':=by
 refine lU h fun e W' ⟨v,he,aa,hk⟩=>⟨v,he,?_⟩
 subst aa;have G:=E;obtain ⟨p,q,J,C,rfl,_,_⟩:=E;rw [I] at C;obtain ⟨rfl,rfl⟩:=trodVars_none C;have Y:∀ x∈p,x.block < W.heap.size:=fun x ab=>G.lt x<|by simpa using ab
 refine ⟨_,_,_,[],p,[],G,?_,?_,?_,hk.frame _,fun h=>by cases h⟩
 · rw [hs,Z];exact trodAll_cons_mk (shut_bool O _) trodAll_mk0
 · rw [hs];exact Pb V hk _ _ _ _ hp Y J
 · rw [hs,I]; rfl
end
end Go.Hb
namespace Go.Hb
open Go.Proofs.YtchkamdekbbgeaaGreatDoor
theorem Sk {H:Type} {l:List (DataW H)} (hk:Rows.uptoSmall H l=true):Rows.uptoBulkAll l≤1048576:=of_decide_eq_true hk
end Go.Hb
namespace Go.Hb
open Go.Proofs.YtchkamdekbbgeaaGreatDoor Go.ChangeShapes Go.WideShapes Go.ChangeAt
structure Rs (P:Program) (t:TypeId) (m:Nat) {X:Type} (R:World→List Value→X→Prop) (B:X→Nat):Prop where
 cells:P.cellsOf t=m
 op:∀ {H:Type} (enc:TypeId×Value→H) (W:World) (fuel:Nat) (cs:List Value) (d:DataW H) (p:List MemPlace),DataW.trod enc P W 0 (fun _=>true) true fuel t cs=some (d,p)→cs.length=m∧∃ x,R W cs x∧B x≤Rows.uptoBulk d
section
variable {P:Program} {t t0 t1 e:TypeId} {m m0 m1:Nat} {X X0 X1:Type} {R:World→List Value→X→Prop} {B:X→Nat} {R0:World→List Value→X0→Prop} {B0:X0→Nat} {R1:World→List Value→X1→Prop} {B1:X1→Nat}
theorem Fp (C:P.underlying t=some .string) (A:P.cellsOf t=1):Rs P t 1 (fun _ cs (x:List UInt8)=>cs= [str x]) (fun x=>x.length+1) where
 cells:=A
 op enc W fuel cs d p h:=by
  obtain ⟨s,rfl,E,hw⟩:=DataW.trod_string C h;cases E;exact ⟨ag,s.data.toList,ag,by simp [Rows.uptoBulk]⟩
end
end Go.Hb
end
namespace Go.Hb
theorem drop_cons {α:Type} {l:List α} {i:Nat} (d:α) (h:i < l.length):l.drop i=l.getD i d::l.drop (i+1):=by
 rw [List.drop_eq_getElem_cons h]; simp [da,h]
theorem yi {α:Type} {l:List α} {k i:Nat} (d:α) (hk:k≤i) (hi:i < l.length):(l.take<|i+1).drop k=(l.take i).drop k++ [l.getD i d]:=by
 rw [fX l i d hi,List.drop_append_of_le_length (by rw [dM]; omega)]
def oJ (b:UInt8):Bool:=b==32 || b==9
theorem sv (b:UInt8):oJ b=decide (b.toNat=32∨b.toNat=9):=by
 unfold oJ;have h:∀ x:UInt8,(b==x)=decide (b.toNat=x.toNat):=fun x=>by
  by_cases A:b=x
  · subst A; simp
  · have :b.toNat≠x.toNat:=fun h=>A<|lA.1 h;simp [A,this]
 rw [h,h];simp [Bool.decide_or]
def dj:List UInt8→List UInt8→List (List UInt8)
 | cur,[]=>if cur= [] then [] else [cur]
 | cur,b::r=>if oJ b then (if cur= [] then dj [] r else cur::dj [] r) else dj (cur++ [b]) r
theorem DZ:dj [] []= []:=by simp [dj]
theorem Lo {cur:List UInt8} (h:cur≠[]):dj cur []= [cur]:=by simp [dj,h]
theorem z6 {b:UInt8} {r:List UInt8} (h:oJ b=true):dj [] (b::r)=dj [] r:=by simp [dj,h]
theorem Ln {cur:List UInt8} {b:UInt8} {r:List UInt8} (h:oJ b=true) (A:cur≠[]):dj cur (b::r)=cur::dj [] r:=by simp [dj,h,A]
theorem DY {cur:List UInt8} {b:UInt8} {r:List UInt8} (h:oJ b=false):dj cur (b::r)=dj (cur++ [b]) r:=by simp [dj,h]
theorem DX:∀ (l cur x:List UInt8),x∈dj cur l→x≠[]∧x.length≤cur.length+l.length:=by
 intro l
 induction l with
 | nil=>
   intro cur x h;unfold dj at h;split at h
   · cases h
   · simp only [gD] at h; subst h; exact ⟨by assumption,by simp⟩
 | cons b r A=>
   intro cur x h;unfold dj at h;split at h
   · split at h
     · have :=A [] x h; simp only [db,gC] at*; exact ⟨this.1,aj⟩
     · rcases eL.1 h with rfl | h
       · exact ⟨by assumption,by simp⟩
       · have :=A [] x h; simp only [db,gC] at*; exact ⟨this.1,aj⟩
   · have :=A _ x h; simp only [db,bP,gC] at*; exact ⟨this.1,aj⟩
theorem xA:∀ (l cur:List UInt8),(dj cur l).length≤l.length+1:=by
 intro l
 induction l with
 | nil=>intro cur; unfold dj; split <;> simp
 | cons b r A=>
   intro cur;unfold dj;split
   · split
     · have :=A []; simp only [db]; omega
     · have :=A []; simp only [db]; omega
   · have :=A (cur++ [b]); simp only [db]; omega
theorem DW {cur l:List UInt8} {i:Nat} (A:cur≠[]) (h:l.length≤i∨oJ (l.getD i 0)=true):dj cur (l.drop i)=cur::dj [] (l.drop i):=by
 by_cases hi:i < l.length
 · have C:=h.resolve_left aj;rw [drop_cons 0 hi,Ln C A,z6 C]
 · rw [iS aj,Lo A,DZ]
def lY (l:List UInt8) (i:Nat) (A:Int) (cur:List UInt8):Prop :=(A= -1∧cur= [])∨(∃ k:Nat,A=k∧k < i∧i≤l.length∧cur=(l.take i).drop k)
theorem lY.no {l:List UInt8} {i:Nat} :lY l i (-1) []:= .inl ⟨rfl,rfl⟩
theorem lY.neg {l cur:List UInt8} {i:Nat} {A:Int} (h:lY l i A cur) (C:A < 0):A= -1∧cur= []:=by
 rcases h with h | ⟨k,rfl,_⟩
 · exact h
 · omega
theorem lY.pos {l cur:List UInt8} {i:Nat} {A:Int} (h:lY l i A cur) (C:¬A < 0):(0≤A∧A < i)∧cur=(l.take i).drop A.toNat∧cur≠[]:=by
 rcases h with ⟨rfl,_⟩ | ⟨k,rfl,h1,h2,rfl⟩
 · omega
 · refine ⟨aj,by simp,fun e=> ?_⟩;have :=congrArg jV e;simp only [fM,dM,gC] at this;omega
theorem lY.begin {l:List UInt8} {i:Nat} (hi:i < l.length):lY l (i+1) i [l.getD i 0]:=by
 refine .inr ⟨i,ag,aj,aj,?_⟩;rw [yi 0 (cU i) hi,iS (by rw [dM]; omega),qL]
theorem lY.more {l cur:List UInt8} {i:Nat} {A:Int} (h:lY l i A cur) (C:¬A < 0) (hi:i < l.length):lY l (i+1) A (cur++ [l.getD i 0]):=by
 rcases h with ⟨rfl,_⟩ | ⟨k,rfl,h1,h2,rfl⟩
 · omega
 · exact .inr ⟨k,ag,aj,aj,(yi 0 aj hi).symm⟩
def ko (l:List UInt8):List UInt8:=if 0 < l.length∧l.getD (l.length - 1) 0=13 then l.take (l.length - 1) else l
theorem Km (l:List UInt8):(ko l).length≤l.length:=by unfold ko; split <;> simp
theorem Kn {l:List UInt8} (h:0 < l.length) (h1:l.getD (l.length - 1) 0=13):ko l=l.take (l.length - 1):=if_pos ⟨h,h1⟩
theorem DC {l:List UInt8} (h:¬(0 < l.length∧l.getD (l.length - 1) 0=13)):ko l=l:=if_neg h
theorem MK {l:List UInt8} (h:0 < l.length):l.drop (l.length - 1)= [l.getD (l.length - 1) 0]:=by
 rw [drop_cons 0 aj,iS aj]
def gR:List UInt8→List UInt8→List (List UInt8)
 | cur,[]=>if cur= [] then [] else [ko cur]
 | cur,b::r=>if b=10 then ko cur::gR [] r else gR (cur++ [b]) r
theorem EW:gR [] []= []:=by simp [gR]
theorem MV {cur:List UInt8} (h:cur≠[]):gR cur []= [ko cur]:=by simp [gR,h]
theorem MW (cur r:List UInt8):gR cur (10::r)=ko cur::gR [] r:=by simp [gR]
theorem EV {cur:List UInt8} {b:UInt8} {r:List UInt8} (h:b≠10):gR cur (b::r)=gR (cur++ [b]) r:=by simp [gR,h]
theorem EU:∀ (l cur:List UInt8),(gR cur l).length≤l.length+1:=by
 intro l
 induction l with
 | nil=>intro cur; unfold gR; split <;> simp
 | cons b r A=>
   intro cur;unfold gR;split
   · have :=A []; simp only [db]; omega
   · have :=A (cur++ [b]); simp only [db]; omega
theorem aae (l:List UInt8):(gR [] l).length≤l.length:=by
 cases l with
 | nil=>simp [gR]
 | cons b r=>
   unfold gR;split
   · have :=EU r [];have h2:∀ m:List UInt8,(gR [] m).length≤m.length:=by
      intro m
      induction m with
      | nil=>simp [gR]
      | cons c m A=>
        unfold gR;split
        · simp only [db]; omega
        · have :=EU m ([]++ [c]); simp only [db]; omega
     have :=h2 r;simp only [db]; omega
   · have :=EU r ([]++ [b]); simp only [db]; omega
theorem aaf:∀ (l cur x:List UInt8),x∈gR cur l→x.length≤cur.length+l.length:=by
 intro l
 induction l with
 | nil=>
   intro cur x h;unfold gR at h;split at h
   · cases h
   · simp only [gD] at h; subst h; have :=Km cur; simp only [gC]; omega
 | cons b r A=>
   intro cur x h;unfold gR at h;split at h
   · rcases eL.1 h with rfl | h
     · have :=Km cur; omega
     · have :=A [] x h; simp only [db,gC] at*; omega
   · have :=A _ x h; simp only [db,bP,gC] at*; omega
def fP (c:UInt8) (l:List UInt8):Int:=if l.idxOf c < l.length then (l.idxOf c:Int) else -1
theorem Mx {c:UInt8} {l:List UInt8} (h:fP c l < 0):¬l.idxOf c < l.length:=fun h1=>by unfold fP at h; rw [if_pos h1] at h; omega
theorem tF {c:UInt8} {l:List UInt8} (h:¬fP c l < 0):fP c l=l.idxOf c∧l.idxOf c < l.length:=by
 unfold fP at*;by_cases h1:l.idxOf c < l.length
 · exact ⟨if_pos h1,h1⟩
 · rw [if_neg h1] at h; omega
def nG (c:UInt8) (l:List UInt8):List UInt8:=if fP c l < 0 then l else l.take (l.idxOf c)
def pH (c:UInt8) (l:List UInt8):List UInt8:=if fP c l < 0 then [] else l.drop (l.idxOf c+1)
theorem VM (c:UInt8) (l:List UInt8):(nG c l).length≤l.length:=by unfold nG; split <;> simp; omega
theorem VP {c:UInt8} {l:List UInt8} (h:l≠[]):(pH c l).length < l.length:=by
 have :=mr.2 h;unfold pH; split <;> simp <;> omega
theorem aad:∀ (l cur:List UInt8),l.idxOf 10 < l.length→gR cur l=ko (cur++l.take (l.idxOf 10))::gR [] (l.drop<|l.idxOf 10 +1):=by
 intro l
 induction l with
 | nil=>intro cur h; simp at h
 | cons b r E=>
   intro cur h;by_cases A:b=10
   · subst A;rw [Hq,MW,oq,eJ,iV,List.drop_one,List.tail_cons]
   · have C:(b::r).idxOf 10=r.idxOf 10 +1:=by rw [yN,beq_eq_false_iff_ne.2 A]; rfl
     rw [C] at h ⊢;simp only [db] at h;rw [EV A,E _ aj,rU,yL,e6];rfl
theorem aag:∀ (l cur:List UInt8),¬l.idxOf 10 < l.length→cur++l≠[]→gR cur l= [ko (cur++l)]:=by
 intro l
 induction l with
 | nil=>intro cur _ h; rw [eJ] at h ⊢; exact MV h
 | cons b r E=>
   intro cur h h1;by_cases A:b=10
   · subst A; rw [Hq] at h; simp at h
   · have C:(b::r).idxOf 10=r.idxOf 10 +1:=by rw [yN,beq_eq_false_iff_ne.2 A]; rfl
     rw [C] at h;simp only [db] at h;rw [EV A,E _ aj (by simp),e6];rfl
theorem aah {l:List UInt8} (h:l≠[]):gR [] l=ko (nG 10 l)::gR [] (pH 10 l):=by
 by_cases h1:fP 10 l < 0
 · rw [aag l [] (Mx h1) (by simpa using h)];unfold nG pH;rw [if_pos h1,if_pos h1,EW,qL]
 · rw [aad l [] (tF h1).2];unfold nG pH;rw [if_neg h1,if_neg h1,qL]
def gB (s p:List UInt8):List UInt8:=if s.take p.length=p then s.drop p.length else s
def sG:List UInt8:= [239,187,191]
def vv (s:List UInt8):Bool:=decide (s.take 3=sG)
def lT (s:List UInt8):List UInt8:=gB s sG
theorem BB (s:List UInt8):(lT s).length≤s.length:=by unfold lT gB; split <;> simp
theorem ad4 {s:List UInt8} (h:vv s=true):lT s=s.drop 3:=if_pos<|of_decide_eq_true h
theorem ad3 {s:List UInt8} (h:vv s=false):lT s=s:=if_neg<|of_decide_eq_false h
theorem aal {s:List UInt8} (h:vv s=true):3≤s.length:=by
 have h1:=congrArg jV<|of_decide_eq_true h;rw [dM] at h1;have :sG.length=3:=rfl;omega
theorem AD (s:List UInt8):vv s=decide (3≤s.length∧(s.getD 0 0).toNat=239∧(s.getD 1 0).toNat=187∧(s.getD 2 0).toNat=191):=by
 unfold vv;refine decide_eq_decide.2 ?_
 match s with
 | []=>simp [sG]
 | [a]=>simp [sG]
 | [a,b]=>simp [sG]
 | a::b::c::r=>
   have h:∀ (x:UInt8) (n:Nat),n < 256→(x=kJ n↔x.toNat=n):=fun x n hn=>by
    constructor
    · rintro rfl; simp; omega
    · intro h; apply lA.1; simp; omega
   have h1:=h a 239 aM;have h2:=h b 187 aM;have h3:=h c 191 aM;simp only [sG,rU,oq,Qy,and_true,db,mq,List.getD_cons_succ];constructor
   · rintro ⟨A,C,E⟩; exact ⟨aj,h1.1 A,h2.1 C,h3.1 E⟩
   · rintro ⟨_,A,C,E⟩; exact ⟨h1.2 A,h2.2 C,h3.2 E⟩
def bU (t:List UInt8):List (List UInt8):=gR []<|lT t
theorem pS (t:List UInt8):(bU t).length≤t.length:=fu (aae _)<|BB t
theorem ET {t x:List UInt8} (h:x∈bU t):x.length≤t.length:=by
 have :=aaf _ _ _ h;have :=BB t;simp only [gC] at*; omega
def yd (f:List UInt8):Bool:=decide ((f.getD 0 0).toNat=35)
def pR (f:List (List UInt8)):List (List UInt8):=f.takeWhile fun x=> !yd x
def ml (l:List UInt8) (n:Nat):List (Nat×List (List UInt8)):=if pR (dj [] l)= [] then [] else [(n,pR (dj [] l))]
def mo (n:Nat):List (List UInt8)→List (Nat×List (List UInt8))
 | []=> []
 | l::r=>ml l n++mo (n+1) r
def cx (t:List UInt8):List (Nat×List (List UInt8)):=mo 1<|bU t
theorem oT (l:List UInt8):∀ (A:List (List UInt8)) (n:Nat),mo n (A++ [l])=mo n A++ml l (n+A.length):=by
 intro A
 induction A with
 | nil=>intro n; simp [mo]
 | cons a A C=>intro n; rw [Hl,mo,C,mo,db,e6,show n+1 +A.length=n+(A.length+1) from by omega]
theorem FR:∀ (A:List (List UInt8)) (n:Nat),(mo n A).length≤A.length:=by
 intro A
 induction A with
 | nil=>intro n; simp [mo]
 | cons a A C=>
   intro n;have :=C<|n+1;unfold mo ml;rw [bP];split <;> simp only [gC,db] <;> omega
theorem AW (t:List UInt8):(cx t).length≤t.length:=fu (FR _ _)<|pS t
theorem Ay {f:List (List UInt8)} :∀ {j:Nat},j≤f.length→(∀ i,i < j→yd (f.getD i [])=false)→(j=f.length∨yd (f.getD j [])=true)→pR f=f.take j:=by
 induction f with
 | nil=>intro j C _ _; rw [Q1]; rfl
 | cons a f E=>
   intro j C h1 h2;cases j with
   | zero=>
     rcases h2 with h2 | h2
     · simp at h2
     · simp only [mq] at h2;simp [pR,h2]
   | succ j=>
     have A:=h1 0 aj;simp only [mq] at A;have :=E (j:=j) (by simpa using C) (fun i hi=>by simpa using h1 (i+1) aj)<|by simpa using h2
     unfold pR at*;rw [List.takeWhile_cons,A];simp only [Bool.not_false,if_true,rU];rw [this]
theorem ZO {f:List (List UInt8)} {x:List UInt8} (h:x∈pR f):x∈f:=(QY _).subset h
theorem ZN (f:List (List UInt8)):(pR f).length≤f.length:=(QY _).length_le
theorem ab5:∀ (A:List (List UInt8)) (n:Nat) (r:Nat×List (List UInt8)),r∈mo n A→n≤r.1∧r.1 < n+A.length∧r.2≠[]∧∃ l∈A,r.2=pR (dj [] l):=by
 intro A
 induction A with
 | nil=>intro n r h; cases h
 | cons a A E=>
   intro n r h;rw [mo] at h;rcases gq.1 h with h | h
   · unfold ml at h;split at h
     · cases h
     · simp only [gD] at h; subst h;exact ⟨by simp,by simp,by assumption,a,by simp,ag⟩
   · obtain ⟨h1,h2,h3,l,C,h4⟩:=E _ _ h;exact ⟨aj,by simp only [db]; omega,h3,l,by simp [C],h4⟩
theorem AX {t:List UInt8} {r:Nat×List (List UInt8)} (h:r∈cx t):1≤r.1∧r.1≤t.length∧r.2≠[]∧r.2.length≤t.length+1∧∀ x∈r.2,x≠[]∧x.length≤t.length:=by
 obtain ⟨h1,h2,h3,l,C,h4⟩:=ab5 _ _ _ h;have G:=pS t;have E:=ET C;refine ⟨h1,aj,h3,?_,fun x A=> ?_⟩
 · rw [h4]; have :=ZN (dj [] l); have :=xA l []; omega
 · rw [h4] at A;have :=DX _ _ _<|ZO A;simp only [gC] at this;exact ⟨this.1,aj⟩
def se (b:UInt8):Bool:=decide (48≤b.toNat∧b.toNat≤57)
def fA (s:List UInt8):Nat:=s.foldl (fun n b=>n*10 +(b.toNat - 48)) 0
theorem oH {s:List UInt8} {i:Nat} (h:i < s.length):fA (s.take<|i+1)=fA (s.take i)*10 +((s.getD i 0).toNat - 48):=by
 rw [fX s i 0 h]; unfold fA; rw [Ho]; rfl
theorem XX:∀ (s:List UInt8) (n:Nat),n≤s.foldl (fun n b=>n*10 +(b.toNat - 48)) n:=by
 intro s
 induction s with
 | nil=>intro n; exact cU _
 | cons b s A=>intro n; refine fu ?_ (A _); show n≤n*10 +(b.toNat - 48); omega
theorem We (s:List UInt8) (i:Nat):fA (s.take i)≤fA s:=by
 have :fA s=(s.drop i).foldl (fun n b=>n*10 +(b.toNat - 48)) (fA<|s.take i):=by
  unfold fA; rw [← Ho,List.take_append_drop]
 rw [this]; exact XX _ _
def sy (s:List UInt8):Prop :=s= []∨(1 < s.length∧(s.getD 0 0).toNat=48)
def Dy (s:List UInt8):Prop := ∀ i,i < s.length→se (s.getD i 0)=true
open Classical in
noncomputable def eE (s:List UInt8) (most:Int):Nat×Int:=if sy s∨¬Dy s∨most < fA s then (0,13) else (fA s,0)
theorem AL {s:List UInt8} {most:Int} (h:sy s):eE s most=(0,13):=if_pos<|.inl h
theorem AK {s:List UInt8} {most:Int} {i:Nat} (h:i < s.length) (h1:se (s.getD i 0)=false):eE s most=(0,13):=if_pos<|.inr<|.inl fun hd=>by rw [hd i h] at h1; cases h1
theorem aaR {s:List UInt8} {most:Int} (h:most < fA s):eE s most=(0,13):=if_pos<|.inr<|.inr h
theorem x4 {s:List UInt8} {most:Int} (i:Nat) (h:most < fA (s.take i)):eE s most=(0,13):=aaR<|by have :=We s i; omega
theorem Fc {s:List UInt8} {most:Int} (h:¬sy s) (h1:Dy s) (h2:¬most < fA s):eE s most=(fA s,0):=if_neg<|by rintro (A | A | A) <;> first | exact h A | exact A h1 | exact h2 A
theorem Nu (s:List UInt8) (most:Int):(eE s most=(0,13))∨(eE s most=(fA s,0)∧(fA s:Int)≤most):=by
 unfold eE;split
 · exact .inl ag
 · rename_i h; exact .inr ⟨rfl,by have :¬most < fA s:=fun A=>h (.inr<|.inr A); omega⟩
theorem sI (s:List UInt8) (most:Int):(eE s most).2=0→((eE s most).1:Int)≤most:=by
 rcases Nu s most with h | ⟨h,h1⟩ <;> rw [h]
 · intro h; cases h
 · intro _; exact h1
theorem Dx {b:UInt8} (h:se b=true):48≤b.toNat∧b.toNat≤57:=of_decide_eq_true h
theorem zK {b:UInt8} (h:¬(48≤b.toNat∧b.toNat≤57)):se b=false :=decide_eq_false h
theorem My {x:UInt8} :∀ {l:List UInt8} {i:Nat},i < l.length→(∀ j,j < i→l.getD j 0≠x)→l.getD i 0=x→fP x l=(i:Nat):=by
 have key:∀ (l:List UInt8) (i:Nat),i < l.length→(∀ j,j < i→l.getD j 0≠x)→l.getD i 0=x→l.idxOf x=i:=by
  intro l
  induction l with
  | nil=>intro i h; simp at h
  | cons b l C=>
    intro i h h1 h2;cases i with
    | zero=>have A:b=x:=h2
            subst A; simp
    | succ i=>
      have A:b≠x:=h1 0<|Nat.succ_pos _;rw [yN,show (b==x)=false from by simpa using A];have :=C i (by simpa using h) (fun j E=>h1 (j+1) aj) h2;rw [this]; rfl
 intro l i h h1 h2;unfold fP;rw [key l i h h1 h2,if_pos h]
theorem Mz {x:UInt8} {l:List UInt8} (h:∀ j,j < l.length→l.getD j 0≠x):fP x l= -1:=by
 unfold fP;rw [if_neg];intro h1;have hm:=List.idxOf_lt_length_iff.1 h1;obtain ⟨j,A,e⟩:=Cc.1 hm;exact h j A<|by rw [da,cz A]; exact e
end Go.Hb
section
namespace Go.Hb
theorem rC {h:Array Obj} {a:Option Addr} {l:List UInt8} {i:Nat} (A:aR h a (U8 l)) (hi:i < l.length):Hb.a7 h (bk a) (fo a+i*1)=some (.int .u8 (l.getD i 0).toNat):=by
 refine A.gQ ?_;unfold U8;rw [gi,cz hi,da,cz hi]; rfl
theorem adX {h:Array Obj} {a:Option Addr} {l:List UInt8} (A:aR h a (U8 l)) (n:Nat):aR h a (U8<|l.take n):=by
 have :=A.take n;unfold U8 at*;rwa [Ca]
theorem rD {l:List UInt8} (h:0 < l.length):U8 l≠[]:=by
 intro e;have :=congrArg jV e;rw [yZ,gC] at this;omega
theorem sK {w:World} {B e:Nat} {v:Value} {l:List UInt8} {x:UInt8} (h:w.ownsRow B e 1 v (l.length+1) (U8 l++ [.int .u8 x.toNat])):w.ownsRow B e 1 v (l++ [x]).length (U8<|l++ [x]):=by
 rw [bP,yY]; exact h
theorem nU {w:World} {B e:Nat} {v:Value} {l:List (List UInt8)} {x:List UInt8} (h:w.ownsRow B e 1 v (l.length+1) (l.map str++ [str x])):w.ownsRow B e 1 v (l++ [x]).length ((l++ [x]).map str):=by
 rw [bP,fZ]; exact h
abbrev Rw:Type :=Nat×List (List UInt8)
def A0 (q:Nat×Value):List Value:= [.int .i64 q.1,q.2]
def lr (l:List (Nat×Value)):List Value:=l.flatMap A0
theorem F1 (a b:List (Nat×Value)):lr (a++b)=lr a++lr b:=by simp [lr]
theorem Oh (l:List (Nat×Value)):(lr l).length=l.length*2:=mV (f:=A0) (m:=2) (fun _=>rfl) l
theorem mG {l:List (Nat×Value)} (h:0 < l.length):lr l≠[]:=DU (f:=A0) (m:=2) (fun _=>rfl) aM h
theorem mH {h:Array Obj} {ad:Option Addr} {vs:List (Nat×Value)} {i:Nat} {q:Nat×Value} (A:aR h ad (lr vs)) (C:vs[i]? =some q):∀ j,j < 2→Hb.a7 h (bk ad) (fo ad+i*2 +j)= [gY .i64 q.1,q.2][j]? :=
 fO (f:=A0) (m:=2) (fun _=>rfl) A C
def Tg (w:World) (B e n:Nat) (v:Value) (xs:List Value):Prop :=
 ∃ a cp,v= .slice a n cp∧n≤cp∧(xs= []∨∃ b cur z,a=some ⟨b,0,none⟩∧B≤b∧w.heap[b]? =some (.cells cur e z)∧∀ (j:Nat) u,xs[j]? =some u→cur[j]? =some u)
theorem Tg.kj {w:World} {B e size n:Nat} {v:Value} {xs:List Value} (h:w.ownsRow B e size v n xs):Tg w B e n v xs:=by
 have A:=h;rcases h.2 with ⟨rfl,rfl⟩ | ⟨g,cap,cur,rfl,C,E,_,_,_,G⟩
 · exact ⟨none,0,ag,cU _,.inl<|fY<|by simpa using h.1⟩
 · refine ⟨_,cap,ag,(bg A).1,.inr ⟨g,cur,_,ag,C,E,fun j u hu=> ?_⟩⟩;rw [← G,qK] at hu;split at hu
   · simpa using hu
   · cases hu
theorem Tg.cells {w:World} {B e n:Nat} {v:Value} {xs:List Value} (h:Tg w B e n v xs):∃ a cp,v= .slice a n cp∧aR w.heap a xs:=by
 obtain ⟨a,cp,rfl,_,h | ⟨b,cur,z,rfl,_,A,C⟩⟩:=h
 · subst h; exact ⟨a,cp,rfl,aR.nil _ _⟩
 · refine ⟨_,cp,ag,fun _=>rfl,fun j u hu=> ?_⟩;show Hb.a7 w.heap b (0 +j)=_;rw [iV,bo A]; exact C j u hu
theorem Tg.du {w:World} {B e n cp:Nat} {a:Option Addr} {xs:List Value} (h:Tg w B e n (.slice a n cp) xs):n≤cp∧aR w.heap a xs:=by
 obtain ⟨I,J,C,A,O⟩:=id h;obtain ⟨a2,c2,E,G⟩:=h.cells;cases C; cases E;exact ⟨A,G⟩
theorem Tg.slice {w:World} {B e n:Nat} {v:Value} {xs:List Value} (h:Tg w B e n v xs):∃ a cp,v= .slice a n cp:=let ⟨a,cp,hv,_⟩:=h; ⟨a,cp,hv⟩
theorem Tg.md {F:Nat→Prop} {w w':World} {B e n:Nat} {v:Value} {xs:List Value} (h:Tg w B e n v xs) (hm:Md F w w') (E:∀ k,F k→∀ cur z,w.heap[k]?≠some (.cells cur e z)):Tg w' B e n v xs:=by
 obtain ⟨a,cp,rfl,C,h | ⟨b,cur,z,rfl,G,A,I⟩⟩:=h
 · exact ⟨a,cp,ag,C,.inl h⟩
 · exact ⟨_,cp,ag,C,.inr ⟨b,cur,z,ag,G,by rw [hm.dJ b (dT.1 A).1 (fun hk=>E b hk cur z A)]; exact A,I⟩⟩
theorem Tg.wk {w w':World} {B e n:Nat} {v:Value} {xs:List Value} (h:Tg w B e n v xs) (hm:Wk w w'):Tg w' B e n v xs:=h.md hm fun _ hk=>hk.elim
theorem Tg.clip {w:World} {B e n k cp A:Nat} {a:Option Addr} {xs:List Value} (h:Tg w B e n (.slice a n cp) xs) (hk:k≤A):Tg w B e k (.slice a k A) (xs.take k):=by
 obtain ⟨O,V,E,_,C⟩:=h;simp only [og,true_and] at E;obtain ⟨rfl,rfl⟩:=E;refine ⟨a,A,ag,hk,?_⟩;rcases C with rfl | ⟨b,cur,z,G,I,J,C⟩
 · exact .inl Q1
 · exact .inr ⟨b,cur,z,G,I,J,fun j u hu=>C j u<|by rw [qK] at hu; split at hu; exact hu; cases hu⟩
theorem ji {w:World} {B e C size n:Nat} {v:Value} {xs:List Value} (h:w.ownsRow B e size v n xs) (G:e≠C):∀ k,v.ownBlock=some k→∀ cur z,w.heap[k]?≠some (.cells cur C z):=by
 intro k hk cur z A;rcases h.2 with ⟨rfl,_⟩ | ⟨g,cap,I,rfl,_,E,_⟩
 · simp [jU] at hk
 · simp only [jU,gM] at hk;subst hk;rw [E] at A;simp only [gM,yE] at A;exact G A.2.1
theorem gk {w:World} {b e C:Nat} {cs:Array Value} {y:Nat×Nat} (h:w.heap[b]? =some (.cells cs e y)) (E:e≠C):∀ k,k=b→∀ cur z,w.heap[k]?≠some (.cells cur C z):=by
 rintro k rfl cur z A;rw [h] at A;simp only [gM,yE] at A;exact E A.2.1
def ja (w:World) (B e:Nat) (vs:List (Nat×Value)) (rs:List Rw):Prop :=vs.length=rs.length∧∀ (i:Nat) q r,vs[i]? =some q→rs[i]? =some r→q.1=r.1∧Tg w B e r.2.length q.2 (r.2.map str)
theorem ja.nil (w:World) (B e:Nat):ja w B e [] []:=⟨rfl,fun i q r A=>by simp at A⟩
theorem ja.md {F:Nat→Prop} {w w':World} {B e:Nat} {vs:List (Nat×Value)} {rs:List Rw} (h:ja w B e vs rs) (hm:Md F w w') (A:∀ k,F k→∀ cur z,w.heap[k]?≠some (.cells cur e z)):ja w' B e vs rs:=
 ⟨h.1,fun i q r h1 h2=>⟨(h.2 i q r h1 h2).1,(h.2 i q r h1 h2).2.md hm A⟩⟩
theorem ja.wk {w w':World} {B e:Nat} {vs:List (Nat×Value)} {rs:List Rw} (h:ja w B e vs rs) (hm:Wk w w'):ja w' B e vs rs:=h.md hm fun _ hk=>hk.elim
theorem ja.snoc {w:World} {B e n:Nat} {vs:List (Nat×Value)} {rs:List Rw} {v:Value} {r:List (List UInt8)} (A:ja w B e vs rs) (E:Tg w B e r.length v (r.map str)):ja w B e (vs++ [(n,v)]) (rs++ [(n,r)]):=by
 refine ⟨by rw [bP,bP,A.1]; rfl,fun i G I h1 h2=> ?_⟩;have C:=A.1;by_cases hi:i < vs.length
 · rw [nq hi] at h1;rw [nq aj] at h2;exact A.2 i G I h1 h2
 · rw [oh aj] at h1;rw [oh aj,← C] at h2;cases hj:i - vs.length with
   | zero=>rw [hj] at h1 h2; cases h1; cases h2; exact ⟨rfl,E⟩
   | succ j=>rw [hj] at h1; simp at h1
theorem Tg.mono {w:World} {B B' e n:Nat} {v:Value} {xs:List Value} (h:Tg w B e n v xs) (A:B'≤B):Tg w B' e n v xs:=by
 obtain ⟨a,cp,E,C,G⟩:=h;exact ⟨a,cp,E,C,G.imp id fun ⟨b,cur,z,h1,h2,h3⟩=>⟨b,cur,z,h1,fu A h2,h3⟩⟩
theorem ja.mono {w:World} {B B' e:Nat} {vs:List (Nat×Value)} {rs:List Rw} (h:ja w B e vs rs) (A:B'≤B):ja w B' e vs rs:=⟨h.1,fun i q r h1 h2=>⟨(h.2 i q r h1 h2).1,(h.2 i q r h1 h2).2.mono A⟩⟩
end Go.Hb
end
section
set_option linter.unusedSectionVars false
namespace Go.Hb
open Go.Sort (swp insInner insOuter insertionSort siftDown heapBuild heapPop heapSort scanUp scanDown partLoop partEqLoop partition partitionEqual scanSorted shiftDown shiftUp partialIns partialInsertionSort reverseLoop reverseRange choosePivot breakPatterns breakStep pdq Hint)
def LE {α:Type} (f:α→Value) (d:Array α):List Value:=d.toList.map f
section
variable {α:Type} [Inhabited α] {f:α→Value}
theorem sE (d:Array α):(LE f d).length=d.size:=by simp [LE]
theorem cX {d:Array α} (h:0 < d.size):LE f d≠[]:=by
 intro e; have :=congrArg jV e; rw [sE,gC] at this; omega
theorem EO {d:Array α} {i:Nat} (h:i < d.size):(LE f d)[i]? =some (f d[i]!):=by
 unfold LE;rw [gi,wg,vZ h,getElem!_pos d i h]; rfl
theorem dY {h:Array Obj} {a:Option Addr} {d:Array α} {i:Nat} (A:aR h a (LE f d)) (hi:i < d.size):Hb.a7 h (bk a) (fo a+i*1)=some (f d[i]!):=A.gQ<|EO hi
theorem ZX (d:Array α) (i:Nat) (v:α):(LE f d).set i (f v)=LE f (d.setIfInBounds i v):=by
 unfold LE; rw [yy,List.map_set]
theorem gd {w:World} {B e n:Nat} {v:Value} {d:Array α} (h:w.ownsRow B e 1 v n (LE f d)):d.size=n:=by
 have :=h.1; rw [sE] at this; omega
end
section
variable {P:Program} {N:Fm} {σ:Nat→Value} {w:World} {ty:TypeId} {pos :String} {af:Array Edge} {g:Option (Nat×Bool)} {x y:Operand} {K:(Nat→Value)→World→Prop}
theorem gW {α:Type} [Inhabited α] {f:α→Value} {t B e n cap:Nat} {a:Option Addr} {d:Array α} {u:α} (i:Nat) (A:w.ownsRow B e 1 (.slice a n cap) n (LE f d)) (G:eN P t=some 1) (C:ev N σ x= .pointer (some ⟨bk a,fo a+i*1,none⟩)) (E:ev N σ y=f u) (h1:(f u).oneCell'=true)
 (I:i < n) (k:∀ w',Md (fun k=>(cg a n cap).ownBlock=some k) w w'→w'.ownsRow B e 1 (.slice a n cap) n (LE f<|d.setIfInBounds i u)→K σ w'):dW P N ⟨none,.store t x y,ty,pos,af,g⟩ σ w K:=
 tV A G C E h1 (j:=i) aj aj fun w' h1 h2=>k w' h1<|by rw [← ZX]; exact h2
end
section
variable {α:Type} [Inhabited α] {lt:α→α→Bool} {d:Array α}
theorem Zr {a j:Nat} (h:a < j) (h1:lt d[j]! d[j - 1]! =true):insInner lt a j d=insInner lt a (j - 1) (swp d j<|j - 1):=by
 cases j with
 | zero=>omega
 | succ j=>simp only [ux] at*; rw [insInner,if_pos (by simp [h1]; omega)]
theorem Zt {a j:Nat} (h:¬a < j):insInner lt a j d=d:=by
 cases j with
 | zero=>rfl
 | succ j=>rw [insInner,if_neg (by simp; omega)]
theorem Zs {a j:Nat} (h1:lt d[j]! d[j - 1]! =false):insInner lt a j d=d:=by
 cases j with
 | zero=>rfl
 | succ j=>simp only [ux] at*; rw [insInner,if_neg (by simp [h1])]
theorem Mr {a b i:Nat} (h:i < b):insOuter lt a b i d=insOuter lt a b (i+1) (insInner lt a i d):=by rw [insOuter,if_pos h]
theorem Zq {a b i:Nat} (h:¬i < b):insOuter lt a b i d=d:=by rw [insOuter,if_neg h]
theorem acI {hi first r:Nat} (h:¬2 *r+1 < hi):siftDown lt hi first r d=d:=by rw [siftDown,dif_pos aj]
theorem acJ {hi first r:Nat} (h:2 *r+1 +1 < hi) (h1:lt d[first+(2 *r+1)]! d[first+(2 *r+1)+1]! =true):
 siftDown lt hi first r d=if (!lt d[first+r]! d[first+(2 *r+2)]!)=true then d else siftDown lt hi first (2 *r+2) (swp d (first+r)<|first+(2 *r+2)):=by
 rw [siftDown,dif_neg aj,if_pos (by simp [h1]; omega),dif_pos aj]
theorem Oz {hi first r:Nat} (A:2 *r+1 < hi) (h:¬2 *r+1 +1 < hi∨lt d[first+(2 *r+1)]! d[first+(2 *r+1)+1]! =false):
 siftDown lt hi first r d=if (!lt d[first+r]! d[first+(2 *r+1)]!)=true then d else siftDown lt hi first (2 *r+1) (swp d (first+r)<|first+(2 *r+1)):=by
 rw [siftDown,dif_neg aj,if_neg (by rcases h with h | h <;> simp [h] <;> omega)]
theorem YI {hi first k:Nat} (h:0 < k):heapBuild lt hi first k d=heapBuild lt hi first (k - 1) (siftDown lt hi first (k - 1) d):=by
 cases k with
 | zero=>omega
 | succ k=>rfl
theorem YJ {hi first :Nat} :heapBuild lt hi first 0 d=d:=rfl
theorem Za {first k:Nat} (h:0 < k):heapPop lt first k d=heapPop lt first (k - 1) (siftDown lt (k - 1) first 0 (swp d first (first+(k - 1)))):=by
 cases k with
 | zero=>omega
 | succ k=>rfl
theorem GF {p:α→Bool} {i j:Nat} (h:i≤j) (h1:p d[i]! =true):scanUp p d j i=scanUp p d j (i+1):=by
 rw [scanUp]; simp [h,h1]
theorem vR {p:α→Bool} {i j:Nat} (h:¬i≤j∨p d[i]! =false):scanUp p d j i=i:=by
 rw [scanUp]; rcases h with h | h <;> simp [h]
theorem Dz {p:α→Bool} {i j:Nat} (A:0 < j) (h:i≤j) (h1:p d[j]! =true):scanDown p d i j=scanDown p d i (j - 1):=by
 cases j with
 | zero=>omega
 | succ j=>rw [scanDown]; simp [h,h1]
theorem uY {p:α→Bool} {i j:Nat} (h:¬i≤j∨p d[j]! =false):scanDown p d i j=j:=by
 cases j with
 | zero=>rfl
 | succ j=>rw [scanDown]; rcases h with h | h <;> simp [h]
theorem acY {b i:Nat} (h:i < b) (h1:lt d[i]! d[i - 1]! =false):scanSorted lt d b i=scanSorted lt d b (i+1):=by
 rw [scanSorted]; simp [h,h1]
theorem OQ {b i:Nat} (h:¬i < b∨lt d[i]! d[i - 1]! =true):scanSorted lt d b i=i:=by
 rw [scanSorted]; rcases h with h | h <;> simp [h]
theorem acp {j:Nat} (h:0 < j) (h1:lt d[j]! d[j - 1]! =true):shiftDown lt j d=shiftDown lt (j - 1) (swp d j<|j - 1):=by
 cases j with
 | zero=>omega
 | succ j=>simp only [ux] at*; rw [shiftDown]; simp [h1]
theorem Oi {j:Nat} (h:¬0 < j∨lt d[j]! d[j - 1]! =false):shiftDown lt j d=d:=by
 cases j with
 | zero=>rfl
 | succ j=>simp only [ux] at*; rw [shiftDown]; rcases h with h | h <;> first | omega | simp [h]
theorem adu {b j:Nat} (h:j < b) (h1:lt d[j]! d[j - 1]! =true):shiftUp lt b j d=shiftUp lt b (j+1) (swp d j<|j - 1):=by
 rw [shiftUp]; simp [h,h1]
theorem O1 {b j:Nat} (h:¬j < b∨lt d[j]! d[j - 1]! =false):shiftUp lt b j d=d:=by
 rw [shiftUp]; rcases h with h | h <;> simp [h]
theorem abU {i j:Nat} (h:i < j):reverseLoop i j d=reverseLoop (i+1) (j - 1) (swp d i j):=by rw [reverseLoop,if_pos h]
theorem abV {i j:Nat} (h:¬i < j):reverseLoop i j d=d:=by rw [reverseLoop,if_neg h]
theorem NP {a i j i2 A:Nat} (h1:scanUp (fun x=>lt x d[a]!) d j i=i2) (h2:scanDown (fun x=> !lt x d[a]!) d i2 j=A) (hi:i≤i2) (C:A≤j):
 partLoop lt a i j d=if i2 > A then (A,d) else if (A - 1)+1 - (i2+1) < j+1 - i then partLoop lt a (i2+1) (A - 1) (swp d i2 A) else (A,d):=by
 rw [partLoop]; simp only [h1,h2]; split <;> first | rfl | (split <;> rfl)
theorem NI {a i j i2 A:Nat} (h1:scanUp (fun x=> !lt d[a]! x) d j i=i2) (h2:scanDown (fun x=>lt d[a]! x) d i2 j=A):
 partEqLoop lt a i j d=if i2 > A then (i2,d) else if (A - 1)+1 - (i2+1) < j+1 - i then partEqLoop lt a (i2+1) (A - 1) (swp d i2 A) else (i2,d):=by
 rw [partEqLoop]; simp only [h1,h2]; split <;> first | rfl | (split <;> rfl)
end
def cT (x y:Nat):Bool:=decide (x < y)
theorem xU:Go.Sort.SWO cT:=⟨fun x=>by simp [cT],fun x y z=>by simp only [cT,decide_eq_true_eq]; omega,fun x y z=>by simp only [cT,decide_eq_false_iff_not]; omega⟩
def bA (n:Nat):Value:= .int .u16 n
section
variable {P:Program} {N:Fm} {σ:Nat→Value} {w:World} {dst:Option Nat} {ty:TypeId} {pos :String} {af:Array Edge} {g:Option (Nat×Bool)} {x y:Operand}
theorem CG {t G:TypeId} {k:IntKind} {a b v:Int} (C:ev N σ x= .int k a) (E:ev N σ y= .int k b) (A:k.wrap (gX k.bits a ^^^ gX k.bits b).toNat=v):
 (execOp (ev N σ) ⟨dst,.binOp .xor t x y G,ty,pos,af,g⟩).run P w= .ok (.value<|.int k v) w:=by
 subst A; simp [execOp,C,E,eqGuard,binOp,yG]
end
theorem Pl (x:Int):0≤fq.wrap x∧fq.wrap x < 18446744073709551616:=by
 have h:fq.wrap x=x % 18446744073709551616:=by
  simp [IntKind.wrap,IntKind.bits,IntKind.signed]
 rw [h]; omega
theorem RR (r:Int) (m:Nat) (hm:0 < m∧m≤1099511627776):∃ o:Nat,o≤m - 1∧fq.wrap (gX fq.bits r &&& gX fq.bits ((m:Int) - 1)).toNat=(o:Int):=by
 refine ⟨(gX fq.bits r &&& gX fq.bits ((m:Int) - 1)).toNat,?_,?_⟩
 · rw [PW];refine fu Nat.and_le_right ?_;have h1:(m:Int) - 1=((m - 1:Nat):Int):=aj;rw [h1,rM];have h2:(fq.bits:Nat)=64:=rfl;rw [h2];omega
 · exact qF (by have :=(gX fq.bits r &&& gX fq.bits ((m:Int) - 1)).isLt; have h2:(fq.bits:Nat)=64:=ag; rw [h2] at this ⊢; omega)
def lN (n:Nat):Nat:=if n=0 then 0 else Nat.log2 n+1
theorem MP:∀ n:Fin 256,n.val≠0→n.val < 2 ^ lN n.val∧2 ^ lN n.val≤2 *n.val∧lN n.val≤8:=by decide+kernel
theorem AA {n:Nat} (h:n < 256):lN n≤8:=by
 rcases Nat.eq_zero_or_pos n with rfl | A
 · decide
 · exact (MP ⟨n,h⟩<|by simp; omega).2.2
theorem Z4 {n:Nat} (h:n < 256) (A:0 < n):n < 2 ^ lN n∧2 ^ lN n≤2 *n:=by
 have :=MP ⟨n,h⟩<|by simp; omega
 exact ⟨this.1,this.2.1⟩
end Go.Hb
end
namespace Go.Hb
def jr:List Nat→List Nat
 | []=> []
 | [x]=> [x]
 | x::y::l=>if x=y then jr (y::l) else x::jr (y::l)
theorem Wd (x y:Nat):∀ l:List Nat,jr (l++ [x,y])=if x=y then jr (l++ [x]) else jr (l++ [x])++ [y]:=by
 intro l
 induction l with
 | nil=>by_cases h:x=y <;> simp [jr,h]
 | cons a l A=>
   cases l with
   | nil=>by_cases h:a=x <;> by_cases h2:x=y <;> simp_all [jr]
   | cons b l=>
     simp only [Hl] at A ⊢;rw [jr,A,jr];by_cases h:a=b <;> by_cases h2:x=y <;> simp [h,h2]
theorem JY (x:Nat):∀ l:List Nat,x∈jr l↔x∈l:=by
 intro l
 induction l with
 | nil=>simp [jr]
 | cons a l A=>
   cases l with
   | nil=>simp [jr]
   | cons b l=>
     rw [jr];by_cases h:a=b
     · subst h; rw [if_pos rfl,A]; simp
     · rw [if_neg h,eL,A,eL (a:=x) (b:=a)]
theorem Wc:∀ l:List Nat,l.Pairwise (·≤·)→(jr l).Pairwise (· < ·):=by
 intro l
 induction l with
 | nil=>intro _; exact List.Pairwise.nil
 | cons a l C=>
   intro h;cases l with
   | nil=>simp [jr]
   | cons b l=>
     rw [lz] at h;rw [jr];by_cases h1:a=b
     · rw [if_pos h1]; exact C h.2
     · rw [if_neg h1,lz];refine ⟨fun y A=> ?_,C h.2⟩;have A:=(JY y _).1 A;have h2:=h.1 b<|by simp
       rcases eL.1 A with rfl | A
       · omega
       · have :=(lz.1 h.2).1 y A; omega
theorem ab0:∀ l m:List Nat,l.Pairwise (· < ·)→m.Pairwise (· < ·)→(∀ x,x∈l↔x∈m)→l=m:=by
 intro l
 induction l with
 | nil=>
   intro m _ _ h;cases m with
   | nil=>rfl
   | cons y m=>have :=(h y).2 (by simp); cases this
 | cons a l E=>
   intro m C hm h;cases m with
   | nil=>have :=(h a).1 (by simp); cases this
   | cons y m=>
     rw [lz] at C hm;have e:a=y:=by
      have h1:=(h a).1<|by simp
      have h2:=(h y).2<|by simp
      rcases eL.1 h1 with h1 | h1
      · exact h1
      · rcases eL.1 h2 with h2 | h2
        · exact h2.symm
        · have :=C.1 y h2; have :=hm.1 a h1; omega
     subst e;congr 1;refine E m C.2 hm.2 fun x=> ?_;constructor
     · intro A;have :=C.1 x A;rcases eL.1 ((h x).1<|om _ A) with h1 | h1
       · omega
       · exact h1
     · intro A;have :=hm.1 x A;rcases eL.1 ((h x).2<|om _ A) with h1 | h1
       · omega
       · exact h1
def nN (x:Nat):List Nat→List Nat
 | []=> [x]
 | y::l=>if x < y then x::y::l else if x=y then y::l else y::nN x l
def kX (l:List Nat):List Nat:=l.foldr nN []
theorem Mq (x y:Nat):∀ l:List Nat,y∈nN x l↔y=x∨y∈l:=by
 intro l
 induction l with
 | nil=>simp [nN]
 | cons a l A=>
   rw [nN];split
   · simp
   · split
     · rename_i h; subst h; simp
     · rw [eL,A,eL];constructor <;> (rintro (h | h | h) <;> simp [h])
theorem Zp (x:Nat):∀ l:List Nat,l.Pairwise (· < ·)→(nN x l).Pairwise (· < ·):=by
 intro l
 induction l with
 | nil=>intro _; simp [nN]
 | cons a l E=>
   intro h;rw [nN];rw [lz] at h;split
   · rename_i C;rw [lz,lz];exact ⟨fun y A=>by rcases eL.1 A with rfl | A; exact C; have :=h.1 y A; omega,h⟩
   · split
     · rw [lz]; exact h
     · rw [lz];exact ⟨fun y A=>by rcases (Mq x y l).1 A with rfl | A; omega; exact h.1 y A,E h.2⟩
theorem Fi (x:Nat):∀ l:List Nat,x∈kX l↔x∈l:=by
 intro l
 induction l with
 | nil=>simp [kX]
 | cons a l A=>show x∈nN a (kX l)↔_; rw [Mq,A,eL]
theorem Fj:∀ l:List Nat,(kX l).Pairwise (· < ·):=by
 intro l
 induction l with
 | nil=>exact List.Pairwise.nil
 | cons a l A=>exact Zp a _ A
theorem Fk {l m:List Nat} (hm:m.Pairwise (· < ·)) (h:∀ x,x∈m↔x∈l):m=kX l:=ab0 _ _ hm (Fj l) fun x=>by rw [h,Fi]
theorem aaY {l:List Nat} (h:l.Pairwise (· < ·)):kX l=l:=(Fk h fun _=>Iff.rfl).symm
theorem Zo (x:Nat):∀ l:List Nat,(nN x l).length≤l.length+1:=by
 intro l
 induction l with
 | nil=>simp [nN]
 | cons a l A=>rw [nN]; split <;> (try split) <;> simp only [db] <;> omega
theorem aaX:∀ l:List Nat,(kX l).length≤l.length:=by
 intro l
 induction l with
 | nil=>simp [kX]
 | cons a l A=>have :=Zo a (kX l); show (nN a<|kX l).length≤_; simp only [db]; omega
theorem vO (d:Array Nat):d.toList.length=d.size:=by simp
theorem yp (d:Array Nat) (i:Nat):d.toList.getD i 0=d[i]! :=by
 rw [da,wg];by_cases h:i < d.size
 · rw [vZ h,getElem!_pos d i h]; rfl
 · rw [rK aj,getElem!_neg d i h]; rfl
theorem Bs {d:Array Nat} {i:Nat} (h:i < d.size):d.toList.take (i+1)=d.toList.take i++ [d[i]!]:=by
 rw [fX d.toList i 0 (by simpa using h),yp]
theorem zH {d:Array Nat} {q:Nat} (h1:1≤q) (h:q < d.size):jr (d.toList.take<|q+1)=if d[q - 1]! =d[q]! then jr (d.toList.take q) else jr (d.toList.take q)++ [d[q]!]:=by
 obtain ⟨q,rfl⟩:∃ k,q=k+1:=⟨q - 1,aj⟩
 rw [Bs h,Bs aj,e6,ux];exact Wd _ _ _
theorem F9 {d:Array Nat} (h:wi cT 0 d.size d):d.toList.Pairwise (·≤·):=by
 rw [QV];intro i j hi A C;have :=h i j (Nat.zero_le _) C<|by simpa using A
 rw [← yp,← yp,da,da,cz hi,cz A] at this;simp only [cT,decide_eq_false_iff_not,Cj] at this;omega
theorem acP {l:List Nat} {d:Array Nat} (hp:Go.Sort.PermIn 0 l.length l.toArray d) (hs:wi cT 0 l.length d):jr d.toList=kX l:=by
 have A:d.size=l.length:=by rw [hp.1]; simp
 have C:d.toList.Perm l:=by
  have :=hp.2.2;rw [show (d.extract 0 l.length).toList=d.toList from by rw [Array.toList_extract]; simp [eK (show d.toList.length≤l.length by simp [A])]] at this;simpa using this
 exact Fk (Wc _<|F9<|by rw [A]; exact hs) fun x=>by rw [JY]; exact C.mem_iff
theorem zM {d d2:Array Nat} {k j:Nat} (h:d.toList.drop k=d2.toList.drop k) (hk:k≤j):d[j]! =d2[j]! :=by
 have :=congrArg (fun l=>l.getD (j - k) 0) h;simp only [da,qJ,show k+(j - k)=j from by omega] at this;rw [← yp,← yp]; simpa [da] using this
theorem set_drop {d:Array Nat} {k m v:Nat} (h:k < m):(d.setIfInBounds k v).toList.drop m=d.toList.drop m:=by
 rw [yy,List.drop_set,if_pos h]
theorem F4 {d:Array Nat} {k v:Nat} (h:k < d.size):(d.setIfInBounds k v).toList.take (k+1)=d.toList.take k++ [v]:=by
 rw [yy,List.set_eq_take_append_cons_drop,if_pos (by simpa using h),uw,dM,yw,qN aj,Q6,eK (by rw [dM]; omega)];rfl
theorem EM {h:Array Obj} {a:Option Addr} {d:Array Nat} {i j:Nat} {f:Nat→Value} (A:aR h a ((LE f d).drop i)) (hi:i+j < d.size):Hb.a7 h (bk a) (fo a+j*1)=some (f d[i+j]!):=by
 refine A.gQ ?_;rw [qJ]; exact EO hi
theorem EN {d:Array Nat} {i:Nat} {f:Nat→Value} (h:i < d.size):(LE f d).drop i≠[]:=by
 intro e; have :=congrArg jV e; rw [fM,sE,gC] at this; omega
def jR (b:UInt8):Bool:=decide (33≤b.toNat∧b.toNat≤126∧b.toNat≠47∧b.toNat≠44∧b.toNat≠35)
noncomputable def e9 (kind:Nat) (s:List UInt8):Nat:=
 if kind=1 then (if s.length=1∧jR (s.getD 0 0)=true then (s.getD 0 0).toNat else 0)
 else if kind=2 then (if s.length=2∧jR (s.getD 0 0)=true∧jR (s.getD 1 0)=true then 256 *(s.getD 0 0).toNat+(s.getD 1 0).toNat else 0)
 else (eE s 65535).1
def gA (c:UInt8):List UInt8→List UInt8→List (List UInt8)
 | acc,[]=> [acc]
 | acc,b::l=>if b=c then acc::gA c [] l else gA c (acc++ [b]) l
theorem acT (c:UInt8):∀ (l acc:List UInt8),(gA c acc l).length≤l.length+1:=by
 intro l
 induction l with
 | nil=>intro acc; simp [gA]
 | cons b l A=>
   intro acc; rw [gA]; split
   · have :=A []; simp only [db]; omega
   · have :=A (acc++ [b]); simp only [db]; omega
theorem acU (c:UInt8):∀ (l acc x:List UInt8),x∈gA c acc l→x.length≤acc.length+l.length:=by
 intro l
 induction l with
 | nil=>intro acc x h; simp only [gA,gD] at h; subst h; simp
 | cons b l A=>
   intro acc x h;rw [gA] at h;split at h
   · rcases eL.1 h with rfl | h
     · simp
     · have :=A [] x h; simp only [gC,db] at*; omega
   · have :=A _ x h; rw [bP,fE] at this; simp only [db]; omega
def q4 (k:Nat):Nat→List UInt8→List (List UInt8)
 | 0,_=> []
 | f+1,s=>if s= [] then [] else s.take k::q4 k f (s.drop k)
def chunks (k:Nat) (s:List UInt8):List (List UInt8):=q4 k s.length s
theorem UF {k:Nat} (hk:0 < k):∀ (f g:Nat) (s:List UInt8),s.length≤f→s.length≤g→q4 k f s=q4 k g s:=by
 intro f
 induction f with
 | zero=>intro g s h _; obtain rfl :=fY (by omega :s.length=0); cases g <;> simp [q4]
 | succ f A=>
   intro g s h1 h2;cases g with
   | zero=>obtain rfl :=fY (by omega :s.length=0); simp [q4]
   | succ g=>
     rw [q4,q4];by_cases hs:s= []
     · simp [hs]
     · have C:=mr.2 hs;rw [if_neg hs,if_neg hs,A g (s.drop k) (by rw [fM]; omega) (by rw [fM]; omega)]
theorem zw (k:Nat):chunks k []= []:=rfl
theorem zu {k:Nat} {s:List UInt8} (hk:0 < k) (hs:s≠[]):chunks k s=s.take k::chunks k (s.drop k):=by
 have A:=mr.2 hs;unfold chunks;obtain ⟨m,hm⟩:∃ m,s.length=m+1:=⟨s.length - 1,aj⟩
 rw [hm,q4,if_neg hs,UF hk m (s.drop k).length (s.drop k) (by rw [fM]; omega) (cU _)]
theorem UI {k:Nat} (hk:0 < k):∀ (n:Nat) (s:List UInt8),s.length≤n→(chunks k s).length≤s.length:=by
 intro n
 induction n with
 | zero=>intro s h; obtain rfl :=fY (by omega :s.length=0); simp [zw]
 | succ n A=>
   intro s h;by_cases hs:s= []
   · subst hs; simp [zw]
   · have C:=mr.2 hs;rw [zu hk hs,db];have :=A (s.drop k)<|by rw [fM]; omega
     rw [fM] at this; omega
theorem UJ {k:Nat} (hk:0 < k):∀ (n:Nat) (s x:List UInt8),s.length≤n→x∈chunks k s→x.length≤s.length:=by
 intro n
 induction n with
 | zero=>intro s x h A; obtain rfl :=fY (by omega :s.length=0); cases A
 | succ n C=>
   intro s x h A;by_cases hs:s= []
   · subst hs; cases A
   · have E:=mr.2 hs;rw [zu hk hs] at A;rcases eL.1 A with rfl | A
     · rw [dM]; omega
     · have :=C (s.drop k) x (by rw [fM]; omega) A;rw [fM] at this; omega
def ec (kind:Nat) (s:List UInt8):List (List UInt8):=if kind=3 then gA 44 [] s else chunks kind s
theorem NN {kind:Nat} {s:List UInt8} (hk:0 < kind):(ec kind s).length≤s.length+1:=by
 unfold ec; split
 · exact acT _ _ _
 · have :=UI hk s.length s (cU _); omega
theorem NO {kind:Nat} {s x:List UInt8} (hk:0 < kind) (h:x∈ec kind s):x.length≤s.length:=by
 unfold ec at h; split at h
 · have :=acU _ _ _ _ h; simpa using this
 · exact UJ hk _ _ _ (cU _) h
noncomputable def eD (kind:Nat) (s:List UInt8):List Nat×Nat:=
 if s= [] then ([],31) else if ∃ x∈ec kind s,e9 kind x=0 then ([],31) else if 64 < (ec kind s).length then ([],32) else (kX ((ec kind s).map<|e9 kind),0)
noncomputable def iN (kind:Nat) (s:List UInt8):Nat×Nat:=if e9 kind s=0 then (0,31) else (e9 kind s,0)
theorem La (kind:Nat) (s:List UInt8):e9 kind s < 65536:=by
 unfold e9;have A:=jJ<|s.getD 0 0;have h1:=jJ<|s.getD 1 0;split
 · split <;> omega
 · split
   · split <;> omega
   · unfold eE; split
     · exact Nat.zero_lt_succ _
     · rename_i h; simp only; omega
theorem vW {n:Int} (h:0≤n∧n≤65535):qH.wrap n=n:=IntWalk.u16_in n h
theorem acA {x:Nat} (h:x < 256):qH.wrap ((x:Int)*2 ^ min (8:Int).toNat qH.bits)=((256 *x:Nat):Int):=by
 have h2:((x:Int)*2 ^ min (8:Int).toNat qH.bits)=((256 *x:Nat):Int):=by
  show (x:Int)*256=_;omega
 rw [h2]; exact vW aj
theorem or8 {x y:Nat} (h:x < 256) (G:y < 256):qH.wrap (gX qH.bits ((256 *x:Nat):Int) ||| gX qH.bits ((y:Nat):Int)).toNat=((256 *x+y:Nat):Int):=by
 have h1:(gX qH.bits ((256 *x:Nat):Int) ||| gX qH.bits ((y:Nat):Int)).toNat=256 *x+y:=by
  have E:(qH.bits:Nat)=16:=rfl;rw [PX,rM,rM,E];have A:(((256 *x:Nat):Int) % ((2 ^ 16:Nat):Int)).toNat=2 ^ 8 *x:=aj;have C:(((y:Nat):Int) % ((2 ^ 16:Nat):Int)).toNat=y:=aj;rw [A,C,← Nat.two_pow_add_eq_or_of_lt (show y < 2 ^ 8 by omega)]
 rw [h1]; exact vW aj
theorem Nt (s:List UInt8):(eE s 65535).1≤65535:=by
 unfold eE; split
 · exact Nat.zero_le _
 · simp only; omega
theorem UH (s:List UInt8) (i k:Nat):(s.take (min ((i+k:Nat):Int) (s.length:Int)).toNat).drop (i:Int).toNat=(s.drop i).take k:=by
 rw [kH,show (min ((i+k:Nat):Int) (s.length:Int)).toNat=min (i+k) s.length from by omega,uq];by_cases h:i+k≤s.length
 · rw [qN h,Q6]
 · rw [Nat.min_eq_right aj,eK (by rw [fM]; omega),eK (by rw [fM]; omega)]
theorem OO (c:UInt8):∀ (l acc:List UInt8),l.idxOf c < l.length→gA c acc l=(acc++l.take (l.idxOf c))::gA c [] (l.drop<|l.idxOf c+1):=by
 intro l
 induction l with
 | nil=>intro acc h; simp at h
 | cons b l C=>
   intro acc h;rw [gA];by_cases A:b=c
   · subst A; rw [if_pos rfl]; simp
   · rw [if_neg A];have hi:(b::l).idxOf c=l.idxOf c+1:=by rw [yN,show (b==c)=false from by simpa using A]; rfl
     rw [hi] at h ⊢;simp only [db] at h;rw [C _ aj];simp [e6]
theorem acV (c:UInt8):∀ (l acc:List UInt8),¬c∈l→gA c acc l= [acc++l]:=by
 intro l
 induction l with
 | nil=>intro acc _; simp [gA]
 | cons b l A=>
   intro acc h;rw [eL,not_or] at h;rw [gA,if_neg (fun e=>h.1 e.symm),A _ h.2]; simp
theorem Gc (c:UInt8):∀ (l acc:List UInt8),(gA c acc l).length=l.count c+1:=by
 intro l
 induction l with
 | nil=>intro acc; simp [gA]
 | cons b l C=>
   intro acc;rw [gA];by_cases A:b=c
   · subst A; rw [if_pos rfl,db,C]; simp
   · rw [if_neg A,C,List.count_cons_of_ne A]
theorem VU {c:UInt8} {l:List UInt8} (h:l.idxOf c < l.length):(l.drop<|l.idxOf c+1).count c+1=l.count c:=by
 have h1:=Gc c l [];rw [OO c l [] h,db,Gc] at h1;omega
def bV (n:Nat):Value:= .int .i64 n
theorem AB {α:Type} {f:α→Value} {h:Array Obj} {a:Option Addr} {l:List α} {i:Nat} (d:α) (A:aR h a (l.map f)) (hi:i < l.length):Hb.a7 h (bk a) (fo a+i*1)=some (f<|l.getD i d):=by
 refine A.gQ ?_;rw [gi,cz hi,da,cz hi]; rfl
def rY (l out:List Nat) (last:Int):Prop :=out.Pairwise (· < ·)∧∀ x,x∈out↔x∈l∧(x:Int)≤last
def l5 (l:List Nat) (last:Int) (i:Nat) (nx:Int):Prop :=(nx= -1∧∀ j,j < i→((l.getD j 0:Nat):Int)≤last)∨(∃ m∈l,nx=(m:Nat)∧last < nx∧∀ j,j < i→last < ((l.getD j 0:Nat):Int)→nx≤((l.getD j 0:Nat):Int))
theorem rY.nil (l:List Nat):rY l [] (-1):=⟨List.Pairwise.nil,fun x=>by simp; omega⟩
theorem l5.nil (l:List Nat) (last:Int):l5 l last 0 (-1):= .inl ⟨rfl,fun j A=>by omega⟩
theorem AN {i:Nat} {q:Nat→Prop} (h:∀ j,j < i→q j) (h1:q i):∀ j,j < i+1→q j:=fun j A=>by
 rcases fT j i with h2 | h2
 · exact h j h2
 · rw [show j=i by omega]; exact h1
theorem l5.skip {l:List Nat} {last nx:Int} {i:Nat} (h:l5 l last i nx) (h1:((l.getD i 0:Nat):Int)≤last∨(¬nx < 0∧nx≤((l.getD i 0:Nat):Int))):l5 l last (i+1) nx:=by
 rcases h with ⟨h2,h3⟩ | ⟨m,hm,h2,h3,h4⟩
 · exact .inl ⟨h2,AN h3 aj⟩
 · exact .inr ⟨m,hm,h2,h3,AN h4 aj⟩
theorem l5.take {l:List Nat} {last nx:Int} {i:Nat} (h:l5 l last i nx) (hi:i < l.length) (h1:last < ((l.getD i 0:Nat):Int)) (h2:nx < 0∨((l.getD i 0:Nat):Int) < nx):l5 l last (i+1) ((l.getD i 0:Nat):Int):=by
 refine .inr ⟨l.getD i 0,?_,ag,h1,?_⟩
 · rw [da,cz hi]; exact QO hi
 · rcases h with ⟨_,h4⟩ | ⟨m,_,h3,_,h5⟩
   · exact AN (fun j A C=>by have :=h4 j A; omega) aj
   · exact AN (fun j A C=>by have :=h5 j A C; omega) aj
theorem l5.done {l out:List Nat} {last nx:Int} (h:l5 l last l.length nx) (hu:rY l out last) (hn:nx < 0):out=kX l:=by
 refine Fk hu.1 fun x=> ?_;rw [hu.2];refine ⟨fun h1=>h1.1,fun h1=>⟨h1,?_⟩⟩;rcases h with ⟨_,h3⟩ | ⟨m,_,h3,_,_⟩
 · obtain ⟨j,A,rfl⟩:=Cc.1 h1;have :=h3 j A;rwa [da,cz A] at this
 · omega
theorem l5.more {l out:List Nat} {last nx:Int} (h:l5 l last l.length nx) (hu:rY l out last) (hn:¬nx < 0):∃ m,m∈l∧nx=((m:Nat):Int)∧last < nx∧rY l (out++ [m]) nx:=by
 rcases h with ⟨h2,_⟩ | ⟨m,hm,h2,h3,h4⟩
 · omega
 · refine ⟨m,hm,h2,h3,?_,fun x=> ?_⟩
   · rw [List.pairwise_append];exact ⟨hu.1,List.pairwise_singleton _ _,fun a I b A=>by rw [gD] at A; subst A; have :=((hu.2 a).1 I).2; omega⟩
   · rw [gq,hu.2,gD];constructor
     · rintro (⟨h5,E⟩ | rfl)
       · exact ⟨h5,aj⟩
       · exact ⟨hm,aj⟩
     · rintro ⟨h5,E⟩;by_cases G:(x:Int)≤last
       · exact .inl ⟨h5,G⟩
       · right;obtain ⟨j,C,rfl⟩:=Cc.1 h5;have :=h4 j C;rw [da,cz C] at this;simp only [Cj] at this;omega
end Go.Hb
section
namespace Go.Hb
def jy (b:UInt8):Bool:=decide (33≤b.toNat∧b.toNat≠127)
def hY (w:List UInt8):Bool:=w.all jy
def rF (w:List UInt8):Bool:=decide (1≤w.length∧w.length≤64∧hY w=true)
theorem ek {α:Type} {l:List α} {i:Nat} {d:α} (h:i < l.length):l.getD i d∈l:=by
 rw [da,cz h]; exact QO h
theorem mY {α:Type} {l:List α} {x:α} (d:α) (h:x∈l):∃ i,i < l.length∧l.getD i d=x:=by
 obtain ⟨i,hi,rfl⟩:=Cc.1 h;exact ⟨i,hi,by rw [da,cz hi]; rfl⟩
theorem HX {α:Type} {f:α→Bool} {l:List α} {i:Nat} (d:α) (h:i < l.length) (h1:f (l.getD i d)=false):l.all f=false :=by
 rw [List.all_eq_false]; exact ⟨_,ek h,by rw [h1]; exact eA⟩
theorem HY {α:Type} {f:α→Bool} {l:List α} (d:α) (h:∀ i,i < l.length→f (l.getD i d)=true):l.all f=true :=by
 rw [mK]; intro x A; obtain ⟨i,hi,rfl⟩:=mY d A; exact h i hi
theorem uQ {w:List UInt8} {i:Nat} (h:i < w.length) (h1:jy (w.getD i 0)=false):hY w=false :=HX 0 h h1
theorem xh {w:List UInt8} (h:∀ i,i < w.length→jy (w.getD i 0)=true):hY w=true :=HY 0 h
theorem Sr (b:UInt8):hY [b]=jy b:=by unfold hY; simp
def tD (b:UInt8):Bool:=decide (b.toNat=92∨b.toNat=47∨b.toNat=35)
abbrev my:Type :=List UInt8×List UInt8×Bool×Nat
def NW (r:my):Value:= .tuple #[str r.1,str r.2.1,.bool r.2.2.1,.int .i64 r.2.2.2]
def j8:List UInt8→List UInt8→my
 | acc,[]=>(acc,[],false,0)
 | acc,[b]=>if b.toNat=47 then (acc,[],true,0) else if b.toNat=92 then ([],[],false,20) else (acc++ [b],[],false,0)
 | acc,b::c::l=>if b.toNat=47 then (acc,c::l,true,0) else if b.toNat=92 then (if tD c=true then j8 (acc++ [c]) l else ([],[],false,20)) else j8 (acc++ [b]) (c::l)
theorem BI (acc:List UInt8):j8 acc []=(acc,[],false,0):=by simp [j8]
theorem GN {acc l:List UInt8} {b:UInt8} (h:b.toNat=47):j8 acc (b::l)=(acc,l,true,0):=by
 cases l <;> simp [j8,h]
theorem GK {acc:List UInt8} {b:UInt8} (h:b.toNat=92):j8 acc [b]=([],[],false,20):=by simp [j8,h]
theorem GL {acc l:List UInt8} {b c:UInt8} (h:b.toNat=92) (A:tD c=false):j8 acc (b::c::l)=([],[],false,20):=by simp [j8,h,A]
theorem yu {acc l:List UInt8} {b c:UInt8} (h:b.toNat=92) (A:tD c=true):j8 acc (b::c::l)=j8 (acc++ [c]) l:=by simp [j8,h,A]
theorem GM {acc l:List UInt8} {b:UInt8} (h:¬b.toNat=47) (h1:¬b.toNat=92):j8 acc (b::l)=j8 (acc++ [b]) l:=by
 cases l <;> simp [j8,h,h1]
theorem aeB (n:Nat):∀ (l acc:List UInt8),l.length≤n→(j8 acc l).1.length≤acc.length+l.length∧(j8 acc l).2.1.length≤l.length:=by
 induction n with
 | zero=>intro l acc h; obtain rfl :=fY (by omega :l.length=0); rw [BI]; exact ⟨by simp,by simp⟩
 | succ n A=>
   intro l acc h;cases l with
   | nil=>rw [BI]; exact ⟨by simp,by simp⟩
   | cons b l=>
     simp only [db] at h ⊢;by_cases h1:b.toNat=47
     · rw [GN h1]; exact ⟨by simp only; omega,by simp only; omega⟩
     · by_cases h2:b.toNat=92
       · cases l with
         | nil=>rw [GK h2]; exact ⟨by simp,by simp⟩
         | cons c l=>
           simp only [db] at h ⊢;cases hc:tD c
           · rw [GL h2 hc]; exact ⟨by simp,by simp⟩
           · rw [yu h2 hc];have :=A l (acc++ [c]) aj;rw [bP,fE] at this;omega
       · rw [GM h1 h2];have :=A l (acc++ [b]) aj;rw [bP,fE] at this;omega
def bK (f:List UInt8):my:=j8 [] f
theorem ua (f:List UInt8):(bK f).1.length≤f.length∧(bK f).2.1.length≤f.length:=by
 have :=aeB f.length f []<|cU _;simpa [bK] using this
def lets (s:List UInt8):List UInt8:=s.foldl (fun a b=>if b∈a then a else a++ [b]) []
def letE (s:List UInt8):List UInt8×Nat:=if s= []∨hY s=false then ([],21) else (lets s,0)
theorem sF {s:List UInt8} {i:Nat} (h:i < s.length):lets (s.take<|i+1)=if s.getD i 0∈lets (s.take i) then lets (s.take i) else lets (s.take i)++ [s.getD i 0]:=by
 unfold lets;rw [fX s i 0 h,Ho]; rfl
theorem ER (s:List UInt8):(lets s).length≤s.length:=by
 have key:∀ (s a:List UInt8),(s.foldl (fun a b=>if b∈a then a else a++ [b]) a).length≤a.length+s.length:=by
  intro s
  induction s with
  | nil=>intro a; simp
  | cons b s A=>
    intro a;rw [ta,db];split
    · have :=A a; omega
    · have :=A (a++ [b]); rw [bP,fE] at this; omega
 have :=key s [];simpa [lets] using this
def marksOf (a:List UInt8):List Value:=(gZ 256).map fun k=> .bool<|decide (kJ k∈a)
theorem M1 (a:List UInt8):(marksOf a).length=256:=by simp [marksOf]
theorem aan (a:List UInt8) (b:UInt8):(marksOf a)[b.toNat]? =some (.bool<|decide (b∈a)):=by
 have :=jJ b;unfold marksOf;rw [gi,B8 aj];simp
theorem aap (a:List UInt8) (b:UInt8):(marksOf a).set b.toNat (.bool true)=marksOf (a++ [b]):=by
 apply qI;intro k;rw [lW,M1];unfold marksOf;rw [gi,gi];by_cases hk:k < 256
 · rw [B8 hk];simp only [lX];have he:(kJ k=b)↔b.toNat=k:=by
    constructor
    · rintro rfl; simp; omega
    · rintro rfl; simp
   by_cases h:b.toNat=k
   · have h2:=he.2 h;simp [h,hk,h2]
   · have h2:¬kJ k=b:=fun e=>h<|he.1 e;simp [h,h2]
 · have :(gZ 256)[k]? =none:=wx<|by simp; omega
   have A:=jJ b;rw [this];simp; omega
theorem aao:marksOf []=kZ 256 (.bool false):=by
 unfold marksOf;apply qI;intro k;rw [gi,List.getElem?_replicate];by_cases hk:k < 256
 · rw [B8 hk]; simp [hk]
 · rw [wx (by simp; omega)]; simp [hk]
theorem Bd.new {T e b:Nat} {w:World} (h:w.heap[b]? =some (.cells [BY none,.slice none 0 0].toArray T (0,0))):Bd T e w b (.slice none 0 0) []:=
 ⟨⟨none,h,.inl rfl⟩,dC _ _ _ _,by simp⟩
theorem Bd.step {T e b:Nat} {w0 w w':World} {A:Value} {l:List UInt8} (h:Bd T e w b A l) (C:Wk w0 w) (E:Md (BF b A) w w') (I:w0.heap.size≤b):Wk w0 w':=
 Md.trans' C E fun k hk G=>by have :=h.j0 G; omega
theorem Bd.Gl {T e b:Nat} {w0 w w':World} {A:Value} {l:List UInt8} (h:Bd T e w b A l) (C:Wk w0 w) (E:Md (fun k=>A.ownBlock=some k) w w') (I:w0.heap.size≤b):Wk w0 w':=
 Md.trans' C E fun k hk G=>by have :=h.j0 (.inr G); omega
end Go.Hb
end
section
set_option linter.unusedSimpArgs false
namespace Go.Hb
def r7 (g:Nat→Bool):Nat→Nat
 | 0=>0
 | n+1=>r7 g n ||| (if g n=true then 2 ^ n else 0)
theorem R9 (g:Nat→Bool):∀ n,r7 g n < 2 ^ n:=by
 intro n
 induction n with
 | zero=>exact Nat.zero_lt_one
 | succ n A=>
   rw [r7];refine Hv (Nat.lt_trans A<|Ci aM<|wO n) ?_;split
   · exact Ci aM<|wO n
   · exact Nat.two_pow_pos _
theorem xg (g:Nat→Bool) (j:Nat):∀ n,(r7 g n).testBit j=(decide (j < n) && g j):=by
 intro n
 induction n with
 | zero=>simp [r7]
 | succ n E=>
   rw [r7,Q9,E];by_cases C:j=n
   · subst C;cases h:g j <;> simp [Nat.testBit_two_pow_self]
   · have A:(if g n=true then 2 ^ n else 0).testBit j=false :=by
      split
      · rw [Ra]; simp; omega
      · simp
     rw [A,PY];congr 1;exact decide_eq_decide.2 aj
theorem zf {g:Nat→Bool} {x:Nat} (C:x < 2 ^ 64) (h:∀ j,j < 64→x.testBit j=g j):x=r7 g 64:=by
 refine Nat.eq_of_testBit_eq fun j=> ?_;rw [xg];by_cases A:j < 64
 · rw [h j A,decide_eq_true A,yB]
 · rw [decide_eq_false A,Bool.false_and];exact Nat.testBit_lt_two_pow<|uy C<|Nat.pow_le_pow_right aM aj
def fL (f:UInt8→Bool) (k:Nat):Nat:=r7 (fun j=>f<|kJ<|64 *k+j) 64
def fw (f:UInt8→Bool):List Value:= [.int .u64 (fL f 0),.int .u64 (fL f 1),.int .u64 (fL f 2),.int .u64 (fL f 3)]
theorem vU (f:UInt8→Bool) (k:Nat):fL f k < 18446744073709551616:=R9 _ 64
theorem zy (f:UInt8→Bool):(fw f).length=4:=rfl
theorem Jw (f:UInt8→Bool):(fw f).all gI=true :=rfl
theorem Dp (f:UInt8→Bool) {k:Nat} (h:k < 4):(fw f)[k]? =some (.int .u64<|fL f k):=by
 match k,h with
 | 0,_=>rfl
 | 1,_=>rfl
 | 2,_=>rfl
 | 3,_=>rfl
theorem Dq:fw (fun _=>false)= [.int .u64 0,.int .u64 0,.int .u64 0,.int .u64 0]:=by
 have :∀ k,fL (fun _=>false) k=0:=fun k=>(zf (x:=0) aM fun j _=>by simp).symm;unfold fw; simp only [this]; rfl
theorem CH (b:UInt8) {k j:Nat} (hk:k < 4) (C:j < 64):kJ (64 *k+j)=b↔k=b.toNat / 64∧j=b.toNat % 64:=by
 have A:=jJ b;constructor
 · rintro rfl;simp only [Hx];omega
 · rintro ⟨h1,h2⟩;refine lA.1 ?_;simp only [Hx];omega
theorem aev (f:UInt8→Bool) (b:UInt8) {k:Nat} (hk:k < 4):fL (fun x=>f x || decide (x=b)) k=if k=b.toNat / 64 then fL f k ||| 2 ^ (b.toNat % 64) else fL f k:=by
 split
 · rename_i h;refine (zf (Hv (vU f k)<|Ci aM aj) fun j A=> ?_).symm;rw [Q9,Ra];have h1:(fL f k).testBit j=f (kJ<|64 *k+j):=by unfold fL; rw [xg,decide_eq_true A,yB]
   rw [h1];congr 1;exact decide_eq_decide.2<|by rw [CH b hk A]; omega
 · rename_i h;refine (zf (vU f k) fun j A=> ?_).symm;have h1:(fL f k).testBit j=f (kJ<|64 *k+j):=by unfold fL; rw [xg,decide_eq_true A,yB]
   show _=(f (kJ<|64 *k+j) || decide (kJ (64 *k+j)=b))
   rw [h1,decide_eq_false (by rw [CH b hk A]; omega),PY]
theorem Vc (f:UInt8→Bool) (b:UInt8):(fw f).set (b.toNat / 64) (.int .u64 ((fL f (b.toNat / 64) ||| 2 ^ (b.toNat % 64):Nat):Int))=fw (fun x=>f x || decide (x=b)):=by
 have A:=jJ b;apply qI;intro k;rw [lW,zy];by_cases hk:k < 4
 · rw [Dp _ hk,Dp _ hk,aev f b hk];by_cases h:b.toNat / 64=k
   · subst h; simp [show b.toNat / 64 < 4 by omega]
   · rw [if_neg h,if_neg (fun e=>h e.symm)]
 · rw [wx (by rw [zy]; omega),wx (by rw [zy]; omega)];simp; omega
theorem aeu (f:UInt8→Bool) (b:UInt8):decide ((((fL f (b.toNat / 64) / 2 ^ (b.toNat % 64)) % 2:Nat):Int)=1)=f b:=by
 have A:=jJ b;have h1:(fL f<|b.toNat / 64).testBit (b.toNat % 64)=f b:=by
  unfold fL;rw [xg,decide_eq_true (Nat.mod_lt _ aM),yB,(CH b (k:=b.toNat / 64) (j:=b.toNat % 64) aj<|Nat.mod_lt _ aM).2 ⟨rfl,rfl⟩]
 rw [← h1,Nat.testBit_eq_decide_div_mod_eq];exact decide_eq_decide.2 aj
theorem H2 (b:UInt8):rO.wrap (gX rO.bits (b.toNat:Int) &&& gX rO.bits 63).toNat=((b.toNat % 64:Nat):Int):=by
 have h:∀ r:Fin 256,rO.wrap (gX rO.bits ((r.val:Nat):Int) &&& gX rO.bits 63).toNat=((r.val % 64:Nat):Int):=by decide+kernel
 exact h ⟨b.toNat,jJ b⟩
theorem Oy (b:UInt8):(b.toNat:Int).fdiv (2 ^ min (6:Int).toNat rO.bits)=((b.toNat / 64:Nat):Int):=by
 have h:∀ r:Fin 256,((r.val:Nat):Int).fdiv (2 ^ min (6:Int).toNat rO.bits)=((r.val / 64:Nat):Int):=by decide+kernel
 exact h ⟨b.toNat,jJ b⟩
theorem acz {m:Nat} (h:m < 64):fq.wrap ((1:Int)*2 ^ min ((m:Nat):Int).toNat fq.bits)=((2 ^ m:Nat):Int):=by
 have h2:(fq.bits:Nat)=64:=rfl;rw [kH,h2,qN aj,Int.one_mul];have h3:(2:Nat) ^ m < 2 ^ 64:=Ci aM h;have h4:((2:Int) ^ m)=((2 ^ m:Nat):Int):=by simp
 rw [h4];obtain ⟨x,A⟩:∃ x:Nat,2 ^ m=x:=⟨_,rfl⟩
 rw [A] at h3 ⊢; exact qF aj
theorem aa3 {x y:Nat} (C:x < 2 ^ 64) (E:y < 2 ^ 64):fq.wrap (gX fq.bits (x:Int) ||| gX fq.bits (y:Int)).toNat=((x ||| y:Nat):Int):=by
 have A:(fq.bits:Nat)=64:=rfl;have h1:(gX fq.bits (x:Int) ||| gX fq.bits (y:Int)).toNat=x ||| y:=by
  rw [PX,rM,rM,A];congr 1 <;> omega
 rw [h1];have :=Hv C E;obtain ⟨z,G⟩:∃ z:Nat,x ||| y=z:=⟨_,rfl⟩
 rw [G] at this ⊢; exact qF aj
theorem acH (x:Nat) {m:Nat} (h:m < 64):(x:Int).fdiv (2 ^ min ((m:Nat):Int).toNat fq.bits)=((x / 2 ^ m:Nat):Int):=by
 have h2:(fq.bits:Nat)=64:=rfl;rw [kH,h2,qN aj];rw [show ((2:Int) ^ m)=((2 ^ m:Nat):Int) by simp,Int.fdiv_eq_ediv_of_nonneg _ (Int.natCast_nonneg _)]; rfl
theorem RQ {x:Nat} (C:x < 2 ^ 64):fq.wrap (gX fq.bits (x:Int) &&& gX fq.bits 1).toNat=((x % 2:Nat):Int):=by
 have A:(fq.bits:Nat)=64:=rfl;have h1:(gX fq.bits (x:Int) &&& gX fq.bits 1).toNat=x % 2:=by
  rw [PW,rM,rM,A,show ((x:Int) % ((2 ^ 64:Nat):Int)).toNat=x by omega];exact Nat.and_one_is_mod x
 rw [h1]; exact qF aj
section
variable {P:Program} {N:Fm} {σ:Nat→Value} {w:World} {dst:Option Nat} {ty:TypeId} {pos :String} {af:Array Edge} {g:Option (Nat×Bool)} {x:Operand}
theorem zA {t:TypeId} {k:Nat} {f:UInt8→Bool} (G:ev N σ x= .int .u64 (fL f k)):(execOp (ev N σ) ⟨dst,.unOp .xor t x,ty,pos,af,g⟩).run P w= .ok (.value<|.int .u64<|fL (fun y=> !f y) k) w:=by
 have E:=vU f k;have h1:fq.wrap (gX fq.bits fq.max ^^^ gX fq.bits (fL f k:Int)).toNat=(fL (fun y=> !f y) k:Int):=by
  have C:(fq.bits:Nat)=64:=rfl;have h2:(gX fq.bits fq.max ^^^ gX fq.bits (fL f k:Int)).toNat=fL (fun y=> !f y) k:=by
   rw [BitVec.toNat_xor,rM,rM,C,show (fq.max % ((2 ^ 64:Nat):Int)).toNat=2 ^ 64 - 1 from by decide,show ((fL f k:Int) % ((2 ^ 64:Nat):Int)).toNat=fL f k by omega];refine zf (Nat.xor_lt_two_pow aM E) fun j A=> ?_;rw [Nat.testBit_xor,Nat.testBit_two_pow_sub_one,decide_eq_true A,Bool.true_xor];congr 1;unfold fL; rw [xg,decide_eq_true A,yB]
  rw [h2]; have :=vU (fun y=> !f y) k; exact qF aj
 have h3:(yG .xor fq fq.max (fL f k:Int)).run P w= .ok (.int .u64<|fL (fun y=> !f y) k) w:=by
  simp only [yG];rw [← h1]; rfl
 have h4:(G7 .xor<|.int fq (fL f k:Int)).run P w= .ok (.int .u64<|fL (fun y=> !f y) k) w:=by
  simp only [G7];exact h3
 simp [execOp,G,h4]
end
def di (t:List UInt8) (b:UInt8):Bool:=
 if t.length=1 then decide (t.getD 0 0=46∨t.getD 0 0=b)
 else if t.getD 1 0=94 then !decide (b∈(t.take<|t.length - 1).drop 2)
 else decide (b∈(t.take<|t.length - 1).drop 1)
def jq:List UInt8→Option (List UInt8×List UInt8)
 | []=>none
 | b::l=>if b=91 then (if l.idxOf 93 < l.length∧l.idxOf 93≠0∧¬(l.idxOf 93=1∧l.getD 0 0=94) then some (b::l.take (l.idxOf 93 +1),l.drop (l.idxOf 93 +1)) else none) else some ([b],l)
theorem Di {s t r:List UInt8} (h:jq s=some (t,r)):r.length < s.length:=by
 cases s with
 | nil=>cases h
 | cons b l=>
   simp only [jq] at h;split at h
   · split at h
     · simp only [gM,uz] at h;obtain ⟨_,rfl⟩:=h;rw [fM,db]; omega
     · cases h
   · simp only [gM,uz] at h;obtain ⟨_,rfl⟩:=h;simp
def mT:Nat→List UInt8→Option (List<|List UInt8)
 | 0,s=>if s= [] then some [] else none
 | f+1,s=>if s= [] then some [] else match jq s with
   | none=>none
   | some (t,r)=>(mT f r).map (t:: ·)
theorem VI:∀ (f g:Nat) (s:List UInt8),s.length≤f→s.length≤g→mT f s=mT g s:=by
 intro f
 induction f with
 | zero=>intro g s h _; obtain rfl :=fY (by omega :s.length=0); cases g <;> simp [mT]
 | succ f A=>
   intro g s h1 h2;cases g with
   | zero=>obtain rfl :=fY (by omega :s.length=0); simp [mT]
   | succ g=>
     rw [mT,mT];split
     · rfl
     · cases hc:jq s with
       | none=>rfl
       | some q=>
         obtain ⟨t,r⟩:=q;have :=Di hc;simp only;rw [A g r aj aj]
def nD (s:List UInt8):Option (List<|List UInt8):=mT s.length s
theorem VE:nD []=some []:=rfl
theorem VG {s t r:List UInt8} (h:jq s=some (t,r)):nD s=(nD r).map (t:: ·):=by
 have A:=Di h;unfold nD;obtain ⟨m,hm⟩:∃ m,s.length=m+1:=⟨s.length - 1,aj⟩
 have hs:s≠[]:=fun e=>by rw [e] at hm; simp at hm
 rw [hm,mT,if_neg hs,h];simp only;rw [VI m r.length r aj (cU _)]
theorem VF {s:List UInt8} (hs:s≠[]) (h:jq s=none):nD s=none:=by
 unfold nD;have A:=mr.2 hs;obtain ⟨m,hm⟩:∃ m,s.length=m+1:=⟨s.length - 1,aj⟩
 rw [hm,mT,if_neg hs,h]
def dE (s:List UInt8):List (List UInt8)×Nat:=
 if s= []∨512 < s.length then ([],40) else if s= [46] then ([],0) else match nD s with
  | none=>([],41)
  | some xs=>if 16 < xs.length then ([],42) else (xs,0)
def k0 (s:List UInt8) (i:Nat) (A:List (List UInt8)):Prop :=nD s=(nD<|s.drop i).map (A++ ·)
theorem k0.start (s:List UInt8):k0 s 0 []:=by
 unfold k0; rw [yM]; cases nD s <;> simp
theorem k0.step {s t r:List UInt8} {i j:Nat} {A:List (List UInt8)} (h:k0 s i A) (C:jq (s.drop i)=some (t,r)) (E:r=s.drop j):k0 s j (A++ [t]):=by
 subst E;unfold k0 at*;rw [h,VG C];cases nD (s.drop j) <;> simp
theorem k0.bad {s:List UInt8} {i:Nat} {A:List (List UInt8)} (h:k0 s i A) (hi:i < s.length) (C:jq (s.drop i)=none):nD s=none:=by
 unfold k0 at h;rw [h,VF (fun e=>by have :=congrArg jV e; rw [fM,gC] at this; omega) C]; rfl
theorem k0.done {s:List UInt8} {i:Nat} {A:List (List UInt8)} (h:k0 s i A) (hi:s.length≤i):nD s=some A:=by
 unfold k0 at h;rw [h,iS hi,VE]; simp
theorem Jo {b:UInt8} {l:List UInt8} (h:b≠91):jq (b::l)=some ([b],l):=by simp [jq,h]
theorem Dj {b:UInt8} {l:List UInt8} (A:b=91) (h:l.idxOf 93 < l.length) (h1:l.idxOf 93≠0) (h2:¬(l.idxOf 93=1∧l.getD 0 0=94)):jq (b::l)=some (b::l.take (l.idxOf 93 +1),l.drop (l.idxOf 93 +1)):=by
 simp only [jq]; rw [if_pos A,if_pos ⟨h,h1,h2⟩]
theorem zx {b:UInt8} {l:List UInt8} (A:b=91) (h:¬(l.idxOf 93 < l.length∧l.idxOf 93≠0∧¬(l.idxOf 93=1∧l.getD 0 0=94))):jq (b::l)=none:=by
 simp only [jq]; rw [if_pos A,if_neg h]
def mR (f:UInt8→Bool) (i:Nat):List UInt8:=((gZ i).map kJ).filter f
def bytesOf (f:UInt8→Bool):List UInt8:=mR f 256
theorem uP (f:UInt8→Bool) (i:Nat):mR f (i+1)=mR f i++(if f (kJ i)=true then [kJ i] else []):=by
 unfold mR;rw [List.range_succ,fZ,List.filter_append];congr 1;cases h:f (kJ i) <;> simp [h]
theorem r9 (f:UInt8→Bool) (i:Nat):(mR f i).length≤i:=by
 unfold mR;refine fu (o5 _ _) ?_;simp
theorem Ik (f:UInt8→Bool) (b:UInt8):b∈bytesOf f↔f b=true :=by
 unfold bytesOf mR;rw [List.mem_filter];refine ⟨fun h=>h.2,fun h=>⟨?_,h⟩⟩;rw [iT];exact ⟨b.toNat,nr.2 (jJ b),by simp⟩
theorem Sn (f:UInt8→Bool):(bytesOf f).Nodup:=by
 unfold bytesOf mR;refine List.Nodup.sublist List.filter_sublist ?_;rw [QS,List.pairwise_map];refine aeT ?_<|QS.1 List.nodup_range;intro a b A C E e;have h1:=nr.1 A;have h2:=nr.1 C;have :=congrArg UInt8.toNat e;simp only [Hx] at this;omega
theorem Sq (f:UInt8→Bool):∀ i,(mR f i).length+(mR (fun b=> !f b) i).length=i:=by
 intro i
 induction i with
 | zero=>rfl
 | succ i A=>
   rw [uP,uP,bP,bP];cases h:f (kJ i) <;> simp [h] <;> omega
theorem Ij {f g:UInt8→Bool} (h:∀ b,f b=g b):bytesOf f=bytesOf g:=by rw [show f=g from funext h]
def iR (f:UInt8→Bool):List UInt8:=
 if (bytesOf f).length=256 then [46]
 else if (bytesOf f).length=1∧(bytesOf f).getD 0 0≠46∧(bytesOf f).getD 0 0≠91 then bytesOf f
 else if f 93=true then [91,94]++bytesOf (fun b=> !f b)++ [93]
 else [91]++((bytesOf f).filter (fun b=>decide (b≠94))++(if 94∈bytesOf f then [94] else []))++ [93]
def nf (ps:List (List UInt8)):List UInt8:=if ps= [] then [46] else ps.flatMap fun t=>iR<|di t
theorem F5 (f:UInt8→Bool):(iR f).length≤300:=by
 have h1:=r9 f 256;have h2:=r9 (fun b=> !f b) 256;unfold iR;split
 · simp
 · split
   · unfold bytesOf; omega
   · split
     · simp only [bP,db,gC]; unfold bytesOf; omega
     · have h3:=o5 (fun b=>decide (b≠94))<|bytesOf f;have h4:(if 94∈bytesOf f then [(94:UInt8)] else []).length≤1:=by split <;> simp
       simp only [bP,db,gC];have h5:(bytesOf f).length≤256:=h1;omega
theorem Zc {l:List UInt8} (hn:l.Nodup) {c:UInt8} (h:l.idxOf c < l.length):l.take (l.idxOf c)++l.drop (l.idxOf c+1)=l.filter (fun b=>decide (b≠c)):=by
 induction l with
 | nil=>simp at h
 | cons b l E=>
   rw [Cd] at hn;by_cases A:b=c
   · subst A;simp only [Hq,oq,qL,iV,yL,yM];rw [List.filter_cons_of_neg (by simp)];exact (B7.2 fun x C=>by simp; rintro rfl; exact hn.1 C).symm
   · have e:(b::l).idxOf c=l.idxOf c+1:=by rw [yN,show (b==c)=false from by simpa using A]; rfl
     rw [e] at h ⊢;simp only [db] at h;rw [rU,yL,Hl,E hn.2 aj,List.filter_cons_of_pos (by simpa using A)]
theorem Ns {l:List UInt8} {c:UInt8} (h:¬c∈l):l.filter (fun b=>decide (b≠c))=l:=
 B7.2 fun x A=>by simp; rintro rfl; exact h A
def l9 (ps:List (List UInt8)):List Value:=ps.flatMap fun t=>fw<|di t
theorem Vb (a b:List (List UInt8)):l9 (a++b)=l9 a++l9 b:=by simp [l9]
end Go.Hb
end
