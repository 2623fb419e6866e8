/-
  Walks and plain laws that the law rests on, laid together. No conditions but those that each theorem names.
-/
import Derived.WalkKit
import Derived.OrdersHeld
import Derived.TacticsIn
import Derived.Lib.Strings
import Derived.Lib.UnsafeStr
import Derived.Laws.MakeOwn
import Derived.Laws.StructEq
import Derived.SliceStrings
import Derived.Carry
import Derived.JoinedCond
import Derived.ProofKit
import Derived.OpenShut
import Derived.Test.YtiagknaekaknhaaGreatDoorRows
import Derived.Test.YtiagknaekaknhaaGreatDoorChecked
import Derived.RangeFuncFrom
import Derived.RangeFuncLeaves
import Derived.Recover
import Derived.Laws.OwnMore
import Derived.OrdersIn
import Derived.Lib.SliceRun
import Derived.Lib.Bytealg
import Derived.Lib.FrozenHead
import Derived.Deep.AppendSrc
import Derived.RangeFuncNested
import Derived.Stop.LaidErr
set_option linter.unusedVariables false
set_option maxRecDepth 20000
set_option maxHeartbeats 1000000
open Array renaming ext_getElem?→Ev,getD_eq_getD_getElem?→iZ,getElem?_append_left→Ex,getElem?_append_right→Ey,getElem?_eq_getElem→nU,getElem?_eq_none→ui,getElem?_eq_some_iff→dq,getElem?_replicate→EA,getElem?_setIfInBounds→rB,length_toList→lH,mem_toList_iff→uk,range→lI,replicate→nV,setIfInBounds_comm→yQ,toArray_toList→yR,toList_append→EB,toList_inj→rC,toList_map→ja
open BitVec renaming ofInt→iB
open Bool renaming and_eq_true→a0,and_eq_true_iff→pN,eq_iff_iff→pO,false_eq_true→lJ,noConfusion→cJ,not_eq_true'→jB,or_eq_true→nW
open Go renaming Addr→bL,Code→bH,Edge→bQ,Exit→bu,Func→fU,FuncId→ee,IntKind→bA,Oper→aC,Operand→aW,Program→ar,TypeId→av,Value→ag,World→ah
open Go.Addr renaming add→uo
open Go.Builtin renaming append_→ke,firstCells→ur,lenOf→EJ,len_→yT
open Go.ByteArray renaming toList_eq→EL
open Go.Calls renaming mono→kE
open Go.CallsD renaming mono→EM
open Go.CallsIn renaming mono→EN
open Go.Code renaming wp_mono→yU
open Go.Conv renaming bytesToString→EP,seenAt→ER,unsafePointer→ES
open Go.DataW renaming TrodAll→ET
open Go.Deferred renaming ofValue→mF
open Go.Fence renaming wide→e7
open Go.Instr renaming alloc→uu,box→yV,buildSlice→rE,checkKey→kF,fill→jb,findAsking→nY,findKey→nZ,findNow→n3,indexAt→EW,loadAt→EY,lookup→EZ,slice→rG,sliceAt→n4,sliceBound→n5,sliceBounds→kG,storeAt→yY,sureAddr→n6,typeAssert→E1
open Go.IntKind renaming i64→uv
open Go.Next renaming value→rH
open Go.Obj.cells renaming injEq→E4
open Go.Op renaming bytesLess→yZ,equal→mG,equalIn→iC,intArith→rI,intCmp→pR,intDiv→y7,stringOp→n8
open Go.Oper renaming semAt_eq→rJ,upon→iD,uponIn→rK,wp→gI
open Go.Program renaming built→E5,underlying→E6
open Go.Proofs.Tryz renaming prog→aq
open Go.Region renaming Mode→n9,binds→dF,free_spec→y8,noSelect_spec→y9,ready→dx,wanted→kf
open Go.Result renaming andThen_ok→hZ,ok→rL
open Go.Rows renaming mono→uw
open Go.RowsIn renaming mono→E7
open Go.Sem renaming run→lK,run_bind→iE,run_ite→rM,run_pure→kH
open Go.Value renaming bool→bp,cells→pS,int→aZ,oneCell'→fu,ownBlock→gr,pointer→ux,slice→cG
open Go.Value.slice renaming injEq→pT
open Go.Value.string renaming inj→E8
open Go.World renaming freeze→lL,ownsRow_nil→fv,setCell→Fb,shape?→za
open Int renaming tdiv_eq_ediv_of_nonneg→Fe
open List renaming all_cons→pU,all_eq_true→Fg,any_eq_true→Fh,eq_nil_of_length_eq_zero→jF,ext_getElem?→uA,flatMap_cons→pV,foldl_cons→jc,getD_eq_getElem?_getD→bY,getElem?_cons_succ→jd,getElem?_cons_zero→je,getElem?_eq_getElem→bC,getElem?_eq_none→jG,getElem?_eq_some_iff→cD,getElem?_map→gu,getElem?_range→zc,getElem?_take→jg,getElem?_toArray→lO,length_append→bG,length_cons→dC,length_singleton→og,mapM_toArray→zf,map_cons→dG,mem_append_left→pZ,mem_cons→ef,mem_map_of_mem→rR,mem_of_getElem?→kK,nil_append→p7,range→fX,range_eq_range'→FB,replicate→dr,size_toArray→eM,zipIdx_cons→FH
open List.cons renaming inj→Fi
open Nat renaming add_comm→qa,beq→aP,ble→bf,blt→aE,eq_of_beq_eq_true→bM,le_of_ble_eq_true→bN,le_refl→aQ,le_trans→cn,lt_of_lt_of_le→mK,lt_or_ge→dD,lt_succ_self→mL,mul_le_mul_right→om,succ_mul→zm,zero_add→cz,zero_mul→uS
open Option renaming bind_some→FQ,isSome_iff_exists→mM,map_eq_some_iff→gM,map_some→fG
open Option.some renaming injEq→bK
open Prod renaming fst→gN
open Prod.mk renaming injEq→ig
open UInt8 renaming ofNat→e9,toNat_lt→kM
open Go.Proofs.Tryz
open Go.RowKit

namespace Go.Hb
theorem ab {p:Prop} (h:p:=by omega):p:=h
theorem ai {p:Prop} (h:p:=by kernel_rfl):p:=h
theorem aF {p:Prop} (h:p:=by decide):p:=h
theorem U {α:Sort _} {a:α} :a=a:=rfl
end Go.Hb
section
namespace Go.Hb
structure Fm where
 n:Nat
 D:List Deferred
 F:List Nat
 r:Option Nat
def aV (σ:Nat→ag) (d:Nat) (v:ag):Nat→ag:=fun i=>cond (aP i d) v<|σ i
def dw (σ:Nat→ag):Option Nat→ag→Nat→ag
 | some d,v=>aV σ d v
 | none,_=>σ
def act (N:Fm) (σ:Nat→ag):Act:=⟨((fX N.n).map σ).toArray,N.D⟩
def ev (N:Fm) (σ:Nat→ag):aW→ag
 | .tmp t=>cond (aE t N.n) (σ t) undef
 | .const v=>v
 | .global g=> .pointer<|some ⟨g,0,none⟩
 | .func f=> .func (.func f) #[] #[]
theorem ji (N:Fm) (σ:Nat→ag) (t:Nat):(act N σ).tmps[t]? =if t < N.n then some (σ t) else none:=by grind [act]
theorem dt (N:Fm) (σ:Nat→ag):(act N σ).eval=ev N σ:=by
 funext x;cases x with
 | tmp t=>
   simp only [Act.eval,ev,iZ,ji];by_cases h:t < N.n
   · rw [if_pos h,show aE t N.n=true from by simpa using h]; rfl
   · rw [if_neg h,show aE t N.n=false from by cases hx:aE t N.n <;> simp_all [aE,Nat.ble_eq] <;> omega]; rfl
 | _=>rfl
theorem r7 {a b:Act} (A:a.defers=b.defers) (C:∀ i:Nat,a.tmps[i]? =b.tmps[i]?):a=b:=by
 cases a; cases b;simp only at A C;subst A;congr 1;exact Ev C
theorem eO (N:Fm) (σ:Nat→ag) (dst:Option Nat) (v:ag):(act N σ).put dst v=act N (dw σ dst v):=by
 cases dst with
 | none=>rfl
 | some d=>
   refine r7 U fun i=> ?_;have h0:((act N σ).put (some d) v).tmps=(act N σ).tmps.setIfInBounds d v:=rfl;rw [h0,rB,ji,ji];have C:(act N σ).tmps.size=N.n:=by simp [act]
   simp only [dw,aV];by_cases A:i=d
   · subst A;rw [C];have hb:aP i i=true :=by simp
     by_cases h:i < N.n
     · rw [if_pos rfl,if_pos h,if_pos h,hb]; rfl
     · rw [if_pos rfl,if_neg h,if_neg h]
   · rw [if_neg (fun e=>A e.symm)];have hb:aP i d=false :=by
      cases hx:aP i d
      · rfl
      · exact absurd (bM hx) A
     rw [hb]; rfl
theorem mB {σ:Nat→ag} {i:Nat} {v:ag} (h:σ i=v):aV σ i v=σ:=by grind [aV,aP,bM]
def lift (N:Fm) (Q:bu→(Nat→ag)→ah→Prop):bu→Act→ah→Prop
 | .panic c,a,w=> ∃ σ,a=act N σ∧∀ σ',(∀ i∈N.F,σ' i=σ i)→Q (.panic c) σ' w
 | .outgrown,_,_=>False
 | e,a,w=> ∃ σ,a=act N σ∧Q e σ w
def fe:Option Nat→Fence
 | none=>e7
 | some l=>e7.inRound l
theorem m5 (r:Option Nat):(fe r).round=r:=by cases r <;> rfl
theorem ki (r:Option Nat) (f:ee):(fe r).fn f:=by cases r <;> trivial
theorem m4 (r:Option Nat):(fe r).depth=none:=by cases r <;> rfl
theorem sK {r:Option Nat} {n:Nat} {P:ar} {f:ee} {args:Array ag} {w:ah} {R:Ending→ah→Prop} (h:Calls P f args w R):CallsIn (fe r) n P f args w R:=by
 cases r
 · exact callsIn_wide.2 h
 · exact (callsIn_wide (n:=n)).2 h
theorem A7 {r:Option Nat} {n:Nat} {P:ar} {row:String} {args:Array ag} {w:ah} {R:ag→ah→Prop} (h:Rows P row args w R):RowsIn (fe r) n P row args w R:=fun c cs _=>by
 obtain ⟨v,w',C,A⟩:=h c cs;refine ⟨v,w',C,?_⟩;cases r
 · exact stepsIn_wide.2 A
 · exact stepsIn_wide.2 A
def xy (ops:List aC):Bool:=ops.all fun o=>match o.op with | .defer _=>false | _=>true
def ks (r:Option Nat) (ops:List aC):Bool:=match r with | none=>true | some _=>xy ops
theorem Kg {l:List aC} (h:xy l=true):∀ o∈l,∀ c,o.op≠.defer c:=by grind [xy]
theorem wO {r:Option Nat} {P:ar} {ops:Array aC} {Q:bu→Act→ah→Prop} (A:¬LetsOut Q) (hr:ks r ops.toList=true):∀ (l:List Nat) (a:Act) (w:ah),wpOps P ops Q l a w→wpOpsIn (fe r) 0 P ops Q l a w:=by
 intro l
 induction l with
 | nil=>exact fun _ _ h=>h
 | cons i l ih=>
   intro a w h;simp only [wpOps] at h;simp only [wpOpsIn];cases ho:ops[i]? with
   | none=>simp only [ho] at h ⊢; exact ih a w h
   | some o=>
     simp only [ho] at h ⊢;by_cases hw:kf o (yielded ops a.tmps)=true
     · rw [if_pos hw] at h ⊢;rcases h with h | h
       · refine ⟨fun f _=>ki r f,?_⟩;rw [m5];have C:o.semAt r a.eval=execOp a.eval o:=by
          cases r with
          | none=>rfl
          | some k=>exact rJ _ _ _<|Kg hr o<|uk.2<|Array.mem_of_getElem? ho
         rw [C];unfold gI at h;generalize (execOp a.eval o).run P w=x at h;cases x with
         | ok n w'=>
           cases n <;> simp only [iD,rK] at h ⊢ <;>
            first
             | exact ih _ _ h
             | (refine ⟨fun h0=>(by rw [m4] at h0; cases h0),EN (sK h) fun e w'' he=> ?_⟩
                cases e <;> first | exact ih _ _ he | exact he)
             | exact ⟨fun h0=>(by rw [m4] at h0; cases h0),E7 (A7 h) fun v w'' he=>ih _ _ he⟩
         | halt x w'=>cases x <;> simp only [iD,rK] at h ⊢ <;> exact h
       · exact absurd h.2 A
     · rw [if_neg hw] at h ⊢;exact ⟨fun f _=>ki r f,ih _ _ h⟩
def bw (P:ar) (N:Fm) (c:bH) (Q:bu→(Nat→ag)→ah→Prop) (σ:Nat→ag) (w:ah):Prop :=
 c.wpIn (fe N.r) 0 P (lift N Q) (act N σ) w
def bP (P:ar) (N:Fm) (ops:Array aC) (Q:bu→(Nat→ag)→ah→Prop) (l:List aC) (σ:Nat→ag) (w:ah):Prop :=
 wpList P ops (lift N Q) l (act N σ) w
def gZ (K:(Nat→ag)→ah→Prop) (Q:bu→(Nat→ag)→ah→Prop):bu→(Nat→ag)→ah→Prop
 | .normal,σ,w=>K σ w
 | e,σ,w=>Q e σ w
def kZ (id:Nat) (Q:bu→(Nat→ag)→ah→Prop):bu→(Nat→ag)→ah→Prop
 | .exit A,σ,w=>if A=id then Q .normal σ w else Q (.exit A) σ w
 | e,σ,w=>Q e σ w
section
variable {P:ar} {N:Fm} {Q:bu→(Nat→ag)→ah→Prop} {σ:Nat→ag} {w:ah} {K:(Nat→ag)→ah→Prop}
theorem JH {Q C:bu→(Nat→ag)→ah→Prop} (h:∀ e σ w,Q e σ w→C e σ w) (e:bu) (a:Act) (w:ah):lift N Q e a w→lift N C e a w:=by
 cases e <;> first | exact fun h=>h.elim | exact fun ⟨σ,ha,A⟩=>⟨σ,ha,h _ _ _ A⟩ | exact fun ⟨σ,ha,A⟩=>⟨σ,ha,fun σ' E=>h _ _ _<|A σ' E⟩
theorem Ei {A:bu→(Nat→ag)→ah→Prop} {c:bH} (h:∀ e σ w,Q e σ w→A e σ w) (C:bw P N c Q σ w):bw P N c A σ w:=
 wpIn_mono C (JH h)
theorem tn (h:K σ w):gZ K Q .normal σ w:=h
theorem te (id:Nat) (h:Q (.exit id) σ w):gZ K Q (.exit id) σ w:=h
theorem tr (h:Q .ret σ w):gZ K Q .ret σ w:=h
theorem bn {id:Nat} (h:Q .normal σ w):kZ id Q .normal σ w:=h
theorem be {id:Nat} (h:Q .normal σ w):kZ id Q (.exit id) σ w:=by simpa only [kZ,if_true] using h
theorem Gr {id A:Nat} (C:A≠id) (h:Q (.exit A) σ w):kZ id Q (.exit A) σ w:=by simpa only [kZ,if_neg C] using h
theorem br {id:Nat} (h:Q .ret σ w):kZ id Q .ret σ w:=h
theorem sq {x y:bH} (h:∀ K:(Nat→ag)→ah→Prop,(∀ σ w,bw P N y Q σ w→K σ w)→bw P N x (gZ K Q) σ w):bw P N (.seq x y) Q σ w:=by
 refine wpIn_seq<|wpIn_mono (h (fun σ w=>bw P N y Q σ w) fun _ _ h=>h) ?_;intro e a w A;cases e with
 | normal=>obtain ⟨σ,rfl,C⟩:=A; exact C
 | panic c=>exact A
 | outgrown=>exact A
 | _=>obtain ⟨σ,rfl,C⟩:=A; exact ⟨σ,rfl,C⟩
theorem eJ {x y:bH} (A:(Nat→ag)→ah→Prop) (h:bw P N x (gZ A Q) σ w) (I:∀ σ w,A σ w→bw P N y Q σ w):bw P N (.seq x y) Q σ w:=
 sq fun _ E=>Ei (fun e _ _ C=>by cases e <;> first | exact E _ _ (I _ _ C) | exact C) h
theorem ct {c:aW} {x y:bH} (A:ev N σ c= .bool true) (h:bw P N x Q σ w):bw P N (.cond c x y) Q σ w:=
 wpIn_cond_true (by rw [dt]; exact A) h
theorem cf {c:aW} {x y:bH} (A:ev N σ c= .bool false) (h:bw P N y Q σ w):bw P N (.cond c x y) Q σ w:=
 wpIn_cond_false (by rw [dt]; exact A) h
theorem cb {c:aW} {x y:bH} {b:Bool} (A:ev N σ c= .bool b) (E:b=true→bw P N x Q σ w) (C:b=false→bw P N y Q σ w):bw P N (.cond c x y) Q σ w:=by
 cases b
 · exact cf A<|C U
 · exact ct A<|E U
theorem cd {c:aW} {x y:bH} {p:Prop} [Decidable p] (A:ev N σ c= .bool (decide p)) (E:p→bw P N x Q σ w) (C:¬p→bw P N y Q σ w):bw P N (.cond c x y) Q σ w:=by grind [cb]
theorem ak {id:Nat} {c:bH} (h:bw P N c (kZ id Q) σ w):bw P N (.block id c) Q σ w:=by
 refine wpIn_block<|wpIn_mono h ?_;intro e a w C;cases e with
 | panic c=>exact C
 | outgrown=>exact C
 | exit E=>
   obtain ⟨σ,rfl,A⟩:=C;simp only [kZ,Exit.inBlock] at A ⊢;split
   · rename_i e; rw [if_pos e] at A; exact ⟨σ,rfl,A⟩
   · rename_i e; rw [if_neg e] at A; exact ⟨σ,rfl,A⟩
 | _=>obtain ⟨σ,rfl,A⟩:=C; exact ⟨σ,rfl,A⟩
theorem ext {id:Nat} (h:Q (.exit id) σ w):bw P N (.exit id) Q σ w:=wpIn_exit ⟨σ,rfl,h⟩
theorem Dq (h:Q .normal σ w):bw P N .skip Q σ w:=wpIn_skip ⟨σ,rfl,h⟩
theorem rt (h:Q .ret σ w):bw P N .ret Q σ w:=wpIn_ret ⟨σ,rfl,h⟩
theorem fx {c:bH} {v:ag} (i:Nat) (h:σ i=v) (A:bw P N c Q (aV σ i v) w):bw P N c Q σ w:=by rw [mB h] at A; exact A
def Sl (σ:Nat→ag) (L:List (Nat×ag)):Prop :=L.map (fun p=>σ p.1)=L.map (fun p=>p.2)
def pH (σ:Nat→ag):List (Nat×ag)→Nat→ag
 | []=>σ
 | p::L=>aV (pH σ L) p.1 p.2
theorem ua {σ:Nat→ag} :∀ {L:List (Nat×ag)},Sl σ L→pH σ L=σ
 | [],_=>rfl
 | p::L,h=>by
   have h1:σ p.1=p.2:=(Fi h).1;have A:Sl σ L:=(Fi h).2;rw [pH,ua A,mB h1]
theorem bJ {c:bH} {L:List (Nat×ag)} (h:Sl σ L) (A:bw P N c Q (pH σ L) w):bw P N c Q σ w:=by rw [ua h] at A; exact A
theorem lp {c:bH} (L:Nat→(Nat→ag)→ah→Prop) (n:Nat) (h0:L n σ w)
 (h:∀ n σ w,L n σ w→bw P N c (gZ (fun σ' w'=> ∃ m,m < n∧L m σ' w') Q) σ w):bw P N (.loop c) Q σ w:=by
 intro b k cs aj hb hr;have key:∀ n σ w,L n σ w→
  ∃ e M w',lift N Q e M w'∧ArrivesIn (Machine.fenced P<|fe N.r) P (lone (b.atR (act N σ) (.code c:: .inLoop c::k)) cs w) b k cs e M w':=by
  intro n
  induction n using Nat.strongRecOn with
  | _ n ih=>
    intro σ w ac;obtain ⟨e,O,J,I,C⟩:=h n σ w ac b (.inLoop c::k) cs aj hb hr;cases e with
    | normal=>
      obtain ⟨A,rfl,m,hm,ad⟩:=I;obtain ⟨ab,V,ak,ai,ae⟩:=ih m hm A J ad;exact ⟨ab,V,ak,ai,.of_steps (StepsIn.trans C<|.one (fenced_calm hb hr U) stepR_inLoop) ae⟩
    | exit id=>obtain ⟨A,rfl,E⟩:=I; exact ⟨.exit id,act N A,J,⟨A,rfl,E⟩,.pass (x:= .inLoop c) rfl (fun _ _=> .inl<|by simp) C⟩
    | goto l=>obtain ⟨A,rfl,E⟩:=I; exact ⟨.goto l,act N A,J,⟨A,rfl,E⟩,.pass (x:= .inLoop c) rfl (fun _ _=> .inl<|by simp) C⟩
    | ret=>obtain ⟨A,rfl,E⟩:=I; exact ⟨.ret,act N A,J,⟨A,rfl,E⟩,.pass (x:= .inLoop c) rfl (fun _ _=> .inl<|by simp) C⟩
    | panic Z=>exact ⟨.panic Z,O,J,I,.pass (x:= .inLoop c) rfl (fun _ _=> .inl<|by simp) C⟩
    | outgrown=>exact I.elim
 obtain ⟨e,M,w',E,C⟩:=key _ σ w h0;exact ⟨e,M,w',E,.of_steps (.one (fenced_calm hb hr U) stepR_loop) C⟩
def bW (P:ar) (N:Fm) (o:aC) (σ:Nat→ag) (w:ah) (K:(Nat→ag)→ah→Prop):Prop :=
 gI P o (act N σ) w (fun a w=> ∃ σ,a=act N σ∧K σ w) (fun _ _ _=>False)
theorem MG {o:aC} {a:Act} {K C:Act→ah→Prop} {Q:bu→Act→ah→Prop} (h:∀ a w,K a w→C a w)
 (r:Result Next) (A:o.upon P a K (fun _ _ _=>False) r):o.upon P a C Q r:=by
 cases r with
 | ok n w'=>
   cases n <;> simp only [iD] at A ⊢ <;>
    first
     | exact h _ _ A
     | exact kE A (fun e w'' he=>by
      cases e with
      | returned v=>exact h _ _ he
      | panicked c=>exact he.elim
      | outgrown=>obtain ⟨_,_,E⟩:=he; exact E.elim)
     | exact uw A fun _ _ he=>h _ _ he
 | halt x w'=>cases x <;> simp only [iD] at A ⊢
theorem pI {K:(Nat→ag)→ah→Prop} {A:Act→ah→Prop} {Q:bu→Act→ah→Prop} {o:aC} (h:bW P N o σ w K) (E:∀ σ w,K σ w→A (act N σ) w):o.wp P (act N σ) w A Q:=by
 unfold bW at h;unfold gI at*;exact MG (fun a w ⟨σ,ha,C⟩=>by subst ha; exact E _ _ C) _ h
theorem Ek {K A:(Nat→ag)→ah→Prop} {o:aC} (h:bW P N o σ w K) (E:∀ σ w,K σ w→A σ w):bW P N o σ w A:=
 pI h (fun σ w C=>⟨σ,rfl,E σ w C⟩)
variable {ops:Array aC} {rest:List aC} {d:Nat} {op:Op} {ty:av} {pos :String} {af:Array bQ} {d':Option Nat} {v:ag} {o:aC}
theorem uh (A:kf o (yielded ops (act N σ).tmps)=true) (h:bW P N o σ w (fun σ w=>bP P N ops Q rest σ w)):bP P N ops Q (o::rest) σ w:=by
 unfold bP wpList;rw [if_pos A];exact .inl<|pI h fun _ _ C=>C
theorem hO {K:(Nat→ag)→ah→Prop} {w':ah} (hr:(execOp (ev N σ) o).run P w= .ok (.value v) w') (A:K (dw σ o.dst v) w'):bW P N o σ w K:=by
 unfold bW gI;rw [dt,hr];exact ⟨_,eO ..,A⟩
theorem fq (o:aC) (A:o.guard=none) (y:Nat→Option Bool):kf o y=true :=by simp [kf,A]
def dT (ops:Array aC) (j:Nat):Option Nat:=(ops[j]?).bind (·.dst)
theorem mE {j t:Nat} {want b:Bool} (C:o.guard=some (j,want)) (A:dT ops j=some t) (E:aE t N.n=true) (I:σ t= .bool b):
 kf o (yielded ops (act N σ).tmps)=(b==want):=by
 have h1:yielded ops (act N σ).tmps j=some b:=by
  unfold yielded;unfold dT at A;rw [A];simp only [FQ,ji];rw [if_pos (mK (mL t)<|bN E),I]
 simp only [kf,C,h1];cases b <;> cases want <;> rfl
theorem yF {j t:Nat} {want:Bool} (C:o.guard=some (j,want)) (A:dT ops j=some t) (E:aE t N.n=true) (I:σ t=undef):
 kf o (yielded ops (act N σ).tmps)=false :=by
 have h1:yielded ops (act N σ).tmps j=none:=by
  unfold yielded;unfold dT at A;rw [A];simp only [FQ,ji];rw [if_pos (mK (mL t)<|bN E),I]; rfl
 simp only [kf,C,h1];rfl
theorem p (h:(execOp (ev N σ) ⟨some d,op,ty,pos,af,none⟩).run P w= .ok (.value v) w) (k:bP P N ops Q rest (aV σ d v) w):
 bP P N ops Q (⟨some d,op,ty,pos,af,none⟩::rest) σ w:=
 uh (fq _ rfl _) (hO h k)
theorem pg {j t:Nat} {want:Bool} (A:dT ops j=some t) (C:aE t N.n=true) (E:σ t= .bool want)
 (h:(execOp (ev N σ) ⟨some d,op,ty,pos,af,some (j,want)⟩).run P w= .ok (.value v) w) (k:bP P N ops Q rest (aV σ d v) w):
 bP P N ops Q (⟨some d,op,ty,pos,af,some (j,want)⟩::rest) σ w:=
 uh (by rw [mE rfl A C E]; cases want <;> rfl) (hO h k)
theorem sk {j t:Nat} {want b:Bool} (A:dT ops j=some t) (C:aE t N.n=true) (E:σ t= .bool b) (hb:(b==want)=false)
 (k:bP P N ops Q rest (aV σ d undef) w):bP P N ops Q (⟨some d,op,ty,pos,af,some (j,want)⟩::rest) σ w:=by
 unfold bP wpList;rw [if_neg (by rw [mE rfl A C E,hb]; simp),eO];exact k
theorem Dr {j t:Nat} {want:Bool} (A:dT ops j=some t) (C:aE t N.n=true) (E:σ t=undef)
 (k:bP P N ops Q rest (aV σ d undef) w):bP P N ops Q (⟨some d,op,ty,pos,af,some (j,want)⟩::rest) σ w:=by
 unfold bP wpList;rw [if_neg (by rw [yF rfl A C E]; simp),eO];exact k
theorem e (h:bW P N ⟨d',op,ty,pos,af,none⟩ σ w (fun σ w=>bP P N ops Q rest σ w)):bP P N ops Q (⟨d',op,ty,pos,af,none⟩::rest) σ w:=
 uh (fq _ rfl _) h
theorem eg {j t:Nat} {want:Bool} (A:dT ops j=some t) (C:aE t N.n=true) (E:σ t= .bool want)
 (h:bW P N ⟨d',op,ty,pos,af,some (j,want)⟩ σ w (fun σ w=>bP P N ops Q rest σ w)):bP P N ops Q (⟨d',op,ty,pos,af,some (j,want)⟩::rest) σ w:=by grind [uh,mE]
theorem nl (h:Q .normal σ w):bP P N ops Q [] σ w:=⟨σ,rfl,h⟩
theorem xe:¬LetsOut (lift N Q):=fun ⟨_,_,h⟩=>h
theorem rg {id:Nat} {l:List aC} (hr:ks N.r l=true) (h:bP P N l.toArray Q l σ w):bw P N (.region id l.toArray false) Q σ w:=by
 refine wpIn_region<|wO xe hr _ _ _ ?_;have h1:=wpOps_eq_wpList (P:=P) (ops:=l.toArray) (Q:=lift N Q) l 0 fun j=>by simp
 rw [FB,eM,h1];exact h
theorem gs {l:List aC} {t:Nat} {q:Prop} [Decidable q] (h:σ t= .bool (decide q)) (E:q→bP P N ops Q l (aV σ t<|.bool true) w) (C:¬q→bP P N ops Q l (aV σ t<|.bool false) w):bP P N ops Q l σ w:=by
 by_cases A:q
 · have :=E A; rwa [mB (by rw [h,decide_eq_true A])] at this
 · have :=C A; rwa [mB (by rw [h,decide_eq_false A])] at this
theorem gb {l:List aC} {t:Nat} {b:Bool} (h:σ t= .bool b) (C:b=true→bP P N ops Q l (aV σ t<|.bool true) w) (A:b=false→bP P N ops Q l (aV σ t<|.bool false) w):bP P N ops Q l σ w:=by
 cases b
 · have :=A rfl; rwa [mB h] at this
 · have :=C rfl; rwa [mB h] at this
def cm (P:ar) (N:Fm) (ops:Array aC) (Q:bu→(Nat→ag)→ah→Prop) (S:ah→Prop) (fuel:Nat) (listed:Array Bool) (σ:Nat→ag) (w:ah):Prop :=
 wpAnyH P .any ops (lift N Q) S fuel listed (act N σ) w
variable {S:ah→Prop} {fuel:Nat} {listed:Array Bool}
theorem zE {id:Nat} {l:List aC} (hr:ks N.r l=true) (hm:P.follows .mixedOrders=true) (h:wpAny P .any l.toArray (lift N Q) l.toArray.size (nV l.toArray.size false) (act N σ) w.drew):bw P N (.region id l.toArray true) Q σ w:=by
 refine wpIn_region_draw fun t=>wO xe hr _ _ _ ?_;simp only [Region.schedule,hm,Bool.true_or,if_true];exact wpAny_sound _ t _ _ _ h
theorem bo {id:Nat} {l:List aC} (S:ah→Prop) (hr:ks N.r l=true) (hm:P.follows .mixedOrders=true) (A:S w.drew) (h:cm P N l.toArray Q S l.length (nV l.length false) σ w.drew):bw P N (.region id l.toArray true) Q σ w:=
 zE hr hm (wpAny_of_held _ _ _ _<|by rw [eM]; exact h)
def xE (F:List Nat) (d:Option Nat):Bool:=match d with | some d=> !(F.contains d) | none=>true
def eI (F:List Nat) (ops:Array aC) (listed:Array Bool) (i:Nat):Bool:=
 Region.noSelect ops && Region.free .any ops listed i && (dx .any ops listed).contains i && xE F ((ops[i]?).bind (·.dst))
theorem ni {d:Option Nat} {v:ag} (A:xE N.F d=true) (c:List PanicEntry) (a:Act) (w:ah):lift N Q (.panic c) (a.put d v) w→lift N Q (.panic c) a w:=by
 rintro ⟨σ,ha,h⟩;cases d with
 | none=>exact ⟨σ,ha,h⟩
 | some d=>
   have L:a.tmps.size=N.n:=by
    have :=congrArg (fun x:Act=>x.tmps.size) ha;simpa [Act.put,act] using this
   have E:a.defers=N.D:=congrArg (fun x:Act=>x.defers) ha;have I:∀ i:Nat,i≠d→a.tmps[i]? =if i < N.n then some (σ i) else none:=fun i hi=>by
    have h1:(a.put (some d) v).tmps[i]? =a.tmps[i]? :=by
     show (a.tmps.setIfInBounds d v)[i]? =_;rw [rB,if_neg (fun e=>hi e.symm)]
    rw [← h1,ha,ji]
   refine ⟨fun i=>if i < N.n then a.tmps.getD i undef else σ i,r7 E fun i=> ?_,fun σ' C=>h σ' fun i hi=> ?_⟩
   · rw [ji];by_cases h1:i < N.n
     · rw [if_pos h1,if_pos h1,iZ,nU ab]; rfl
     · rw [if_neg h1,ui ab]
   · have J:i≠d:=by
      rintro rfl;simp only [xE,jB,List.contains_eq_mem,decide_eq_false_iff_not] at A;exact A hi
     rw [C i hi];by_cases h1:i < N.n
     · simp only [if_pos h1];rw [iZ,I i J,if_pos h1]; rfl
     · simp only [if_neg h1]
theorem hp (i:Nat) (hi:ops[i]? =some ⟨some d,op,ty,pos,af,none⟩) (A:eI N.F ops listed i=true)
 (E:∀ w,S w→(execOp (ev N σ) ⟨some d,op,ty,pos,af,none⟩).run P w= .ok (.value v) w) (C:S w)
 (k:cm P N ops Q S fuel (listed.setIfInBounds i true) (aV σ d v) w):cm P N ops Q S (fuel+1) listed σ w:=by
 simp only [eI,a0] at A;refine wpAnyH_take hi A.1.1.1 A.1.1.2 A.1.2 (fun c a w=>ni (by have :=A.2; rwa [hi] at this) c a w) (.inl ⟨fq _ rfl _,fun w C=> ?_⟩) C ?_ (v:=v)
 · rw [dt]; exact E w C
 · rw [eO]; exact k
theorem bV (i:Nat) {j t:Nat} {want:Bool} (hi:ops[i]? =some ⟨some d,op,ty,pos,af,some (j,want)⟩) (A:eI N.F ops listed i=true)
 (E:dT ops j=some t) (I:aE t N.n=true) (J:σ t= .bool want)
 (L:∀ w,S w→(execOp (ev N σ) ⟨some d,op,ty,pos,af,some (j,want)⟩).run P w= .ok (.value v) w) (C:S w)
 (k:cm P N ops Q S fuel (listed.setIfInBounds i true) (aV σ d v) w):cm P N ops Q S (fuel+1) listed σ w:=by
 simp only [eI,a0] at A;refine wpAnyH_take hi A.1.1.1 A.1.1.2 A.1.2 (fun c a w=>ni (by have :=A.2; rwa [hi] at this) c a w) (.inl ⟨by rw [mE U E I J]; cases want <;> rfl,fun w C=> ?_⟩) C ?_ (v:=v)
 · rw [dt]; exact L w C
 · rw [eO]; exact k
theorem sO (i:Nat) {j t:Nat} {want b:Bool} (hi:ops[i]? =some ⟨some d,op,ty,pos,af,some (j,want)⟩) (A:eI N.F ops listed i=true)
 (E:dT ops j=some t) (I:aE t N.n=true) (J:σ t= .bool b) (hb:(b==want)=false) (C:S w)
 (k:cm P N ops Q S fuel (listed.setIfInBounds i true) (aV σ d undef) w):cm P N ops Q S (fuel+1) listed σ w:=by
 simp only [eI,a0] at A;refine wpAnyH_take hi A.1.1.1 A.1.1.2 A.1.2 (fun c a w=>ni (by have :=A.2; rwa [hi] at this) c a w) (.inr ⟨by rw [mE U E I J,hb],U⟩) C ?_ (v:=undef);rw [eO]; exact k
theorem I2 (i:Nat) {j t:Nat} {want:Bool} (hi:ops[i]? =some ⟨some d,op,ty,pos,af,some (j,want)⟩) (A:eI N.F ops listed i=true)
 (E:dT ops j=some t) (I:aE t N.n=true) (J:σ t=undef) (C:S w)
 (k:cm P N ops Q S fuel (listed.setIfInBounds i true) (aV σ d undef) w):cm P N ops Q S (fuel+1) listed σ w:=by
 simp only [eI,a0] at A;refine wpAnyH_take hi A.1.1.1 A.1.1.2 A.1.2 (fun c a w=>ni (by have :=A.2; rwa [hi] at this) c a w) (.inr ⟨yF U E I J,U⟩) C ?_ (v:=undef);rw [eO]; exact k
def gU (ops:Array aC) (listed:Array Bool) (i:Nat):Bool:=(dx .any ops listed)== [i]
theorem he (i:Nat) (hi:ops[i]? =some ⟨d',op,ty,pos,af,none⟩) (hr:gU ops listed i=true)
 (h:bW P N ⟨d',op,ty,pos,af,none⟩ σ w (fun σ w=>S w∧cm P N ops Q S fuel (listed.setIfInBounds i true) σ w)):cm P N ops Q S (fuel+1) listed σ w:=by
 refine wpAnyH_all (rs:= [i]) (by simpa [gU] using hr) (by simp) ?_;intro k A;obtain rfl :k=i:=by simpa using A
 unfold wpOp;simp only [hi];rw [if_pos (fq _ rfl _)];exact .inl<|pI h fun _ _ A=>A
theorem By (i:Nat) {j t:Nat} {want:Bool} (hi:ops[i]? =some ⟨d',op,ty,pos,af,some (j,want)⟩) (hr:gU ops listed i=true)
 (C:dT ops j=some t) (E:aE t N.n=true) (I:σ t= .bool want)
 (h:bW P N ⟨d',op,ty,pos,af,some (j,want)⟩ σ w (fun σ w=>S w∧cm P N ops Q S fuel (listed.setIfInBounds i true) σ w)):cm P N ops Q S (fuel+1) listed σ w:=by
 refine wpAnyH_all (rs:= [i]) (by simpa [gU] using hr) (by simp) ?_;intro k A;obtain rfl :k=i:=by simpa using A
 unfold wpOp;simp only [hi];rw [if_pos (by rw [mE rfl C E I]; cases want <;> rfl)];exact .inl<|pI h fun _ _ A=>A
theorem hn (hr:(dx .any ops listed).isEmpty=true) (h:Q .normal σ w):cm P N ops Q S fuel listed σ w:=
 wpAnyH_done (by simpa using hr) ⟨σ,rfl,h⟩ fuel
theorem j3 {t:Nat} {q:Prop} [Decidable q] (h:σ t= .bool (decide q)) (E:q→cm P N ops Q S fuel listed (aV σ t<|.bool true) w) (C:¬q→cm P N ops Q S fuel listed (aV σ t<|.bool false) w):cm P N ops Q S fuel listed σ w:=by
 by_cases A:q
 · have :=E A; rwa [mB (by rw [h,decide_eq_true A])] at this
 · have :=C A; rwa [mB (by rw [h,decide_eq_false A])] at this
end
def bg (P:ar) (f:ee) (args:Array ag) (w:ah) (R:ag→ah→Prop):Prop :=
 Calls P f args w fun e w'=> ∃ v,e= .returned v∧R v w'
theorem bg.mono {P:ar} {f:ee} {args:Array ag} {w:ah} {R A:ag→ah→Prop} (h:bg P f args w R) (hr:∀ v w',R v w'→A v w'):bg P f args w A:=
 kE h fun _ _ ⟨v,he,C⟩=>⟨v,he,hr _ _ C⟩
def dv (args:List ag):Nat→ag:=fun i=>args.getD i undef
def fin (P:ar) (fn:fU) (N:Fm) (R:ag→ah→Prop):bu→(Nat→ag)→ah→Prop
 | .normal,σ,w=> ∃ v,(results fn (act N σ).tmps).run P w= .ok v w∧R v w
 | .ret,σ,w=> ∃ v,(results fn (act N σ).tmps).run P w= .ok v w∧R v w
 | _,_,_=>False
theorem enter {P:ar} {f:ee} {N:Nat} {fn:fU} {c:bH} {args:List ag} {w:ah} {R:ag→ah→Prop} (L:P.funcs[f]? =some fn) (hb:fn.body=some c)
 (J:fn.ntmps=N) (hn:bf args.length N=true) (h:bw P ⟨N,[],[],none⟩ c (fin P fn ⟨N,[],[],none⟩ R) (dv args) w):bg P f args.toArray w R:=by
 subst J;refine calls_of_wp L hb ?_;have ha:({tmps:=args.toArray++nV (fn.ntmps - args.toArray.size) undef,defers:= []} :Act)=act ⟨fn.ntmps,[],[],none⟩ (dv args):=by
  have M:args.length≤fn.ntmps:=by simpa using hn
  refine r7 U fun i=> ?_;rw [ji];simp only [dv,bY,eM];by_cases h1:i < args.length
  · rw [Ex (by simpa using h1),if_pos ab];simp [h1]
  · rw [Ey (by simpa using h1)];simp only [eM,EA];by_cases I:i < fn.ntmps
    · rw [if_pos ab,if_pos I,jG ab]; rfl
    · rw [if_neg ab,if_neg I]
 rw [ha];refine yU ?_<|wpIn_wide.1 h;intro e a w A;cases e with
 | normal=>obtain ⟨σ,rfl,v,hr,E⟩:=A; exact ⟨rfl,v,hr,v,rfl,E⟩
 | ret=>obtain ⟨σ,rfl,v,hr,E⟩:=A; exact ⟨rfl,v,hr,v,rfl,E⟩
 | exit id=>obtain ⟨σ,rfl,C⟩:=A; exact C.elim
 | goto l=>obtain ⟨σ,rfl,C⟩:=A; exact C.elim
 | panic c=>obtain ⟨σ,rfl,C⟩:=A; exact (C σ fun _ _=>rfl).elim
 | outgrown=>exact A.elim
section
variable {P:ar} {N:Fm} {σ:Nat→ag} {w:ah} {fn:fU} {R:ag→ah→Prop}
theorem nw (t:Nat):(act N σ).tmps.getD t undef=ev N σ (.tmp t):=by
 rw [← dt]; rfl
theorem f0 (h:fn.results= #[]) (A:R (.tuple #[]) w):fin P fn N R .normal σ w:=⟨_,results_none h _ _ _,A⟩
theorem Iq (h:fn.results= #[]) (A:R (.tuple #[]) w):fin P fn N R .ret σ w:=⟨_,results_none h _ _ _,A⟩
theorem f1 {t:Nat} {v:ag} (h:fn.results= #[.tmp t]) (C:ev N σ (.tmp t)=v) (A:R v w):fin P fn N R .ret σ w:=
 ⟨v,by rw [results_tmp h,nw,C],A⟩
theorem f2 {t u:Nat} {v A:ag} (h:fn.results= #[.tmp t,.tmp u]) (E:ev N σ (.tmp t)=v) (hu:ev N σ (.tmp u)=A) (C:R (.tuple #[v,A]) w):fin P fn N R .ret σ w:=
 ⟨_,by rw [results_tmp2 h,nw,nw,E,hu],C⟩
theorem f3 {t u s:Nat} {v A C:ag} (h:fn.results= #[.tmp t,.tmp u,.tmp s]) (J:ev N σ (.tmp t)=v) (hu:ev N σ (.tmp u)=A) (I:ev N σ (.tmp s)=C) (E:R (.tuple #[v,A,C]) w):fin P fn N R .ret σ w:=by
 refine ⟨_,?_,E⟩;simp only [results,h];subst J hu I;simp only [← nw];simp [zf]
end
attribute [irreducible] bP bw cm bW
end Go.Hb
namespace Go.Hb
def ax (h:Array Obj) (b off :Nat):Option ag:=
 match h[b]? with
 | some (.cells c _ _)=>c[off]?
 | _=>none
theorem jR (w:ah) (b off :Nat):w.cell? ⟨b,off,none⟩=ax w.heap b off :=by
 unfold World.cell? ax;simp only;split <;> simp_all
theorem bt {h:Array Obj} {b off :Nat} {c:Array ag} {t:av} {f:Nat×Nat} (hb:h[b]? =some (.cells c t f)):ax h b off =c[off]? :=by
 simp only [ax,hb]
theorem GX {h:Array Obj} {b off :Nat} {v:ag} (A:ax h b off =some v):b < h.size:=by grind [ax]
structure Md (F:Nat→Prop) (w w':ah):Prop where
 os:w'.os=w.os
 output:w'.output=w.output
 size:w.heap.size≤w'.heap.size
 dM:∀ k,k < w.heap.size→¬F k→w'.heap[k]? =w.heap[k]?
abbrev Wk (w w':ah):Prop :=Md (fun _=>False) w w'
theorem Md.refl (F:Nat→Prop) (w:ah):Md F w w:=⟨rfl,rfl,aQ _,fun _ _ _=>rfl⟩
theorem Md.drew {F:Nat→Prop} {w w':ah} (h:Md F w w'):Md F w w'.drew:=⟨h.os,h.output,h.size,h.dM⟩
theorem Md.mono {F G:Nat→Prop} {w w':ah} (h:Md F w w') (E:∀ k,k < w.heap.size→F k→G k):Md G w w':=
 ⟨h.os,h.output,h.size,fun k A I=>h.dM k A fun C=>I<|E k A C⟩
theorem Md.trans {F:Nat→Prop} {a b c:ah} (h:Md F a b) (h':Md F b c):Md F a c:=
 ⟨h'.os.trans h.os,h'.output.trans h.output,cn h.size h'.size,fun k C A=>(h'.dM k (mK C h.size) A).trans<|h.dM k C A⟩
theorem Md.trans' {F G:Nat→Prop} {a b c:ah} (h:Md F a b) (h':Md G b c) (E:∀ k,k < a.heap.size→G k→F k):Md F a c:=
 ⟨h'.os.trans h.os,h'.output.trans h.output,cn h.size h'.size,
  fun k A C=>(h'.dM k (mK A h.size) fun x=>C<|E k A x).trans (h.dM k A C)⟩
theorem Md.ak {F:Nat→Prop} {w w':ah} (h:Md F w w') {k:Nat} {o:Obj} (A:w.heap[k]? =some o) (C:¬F k):w'.heap[k]? =some o:=
 (h.dM k (dq.1 A).1 C).trans A
theorem Md.ax {F:Nat→Prop} {w w':ah} (h:Md F w w') {b off :Nat} {v:ag} (A:Hb.ax w.heap b off =some v) (C:¬F b):Hb.ax w'.heap b off =some v:=by
 have :=h.dM b (GX A) C;unfold Hb.ax at*;rw [this]; exact A
theorem Wk.ax {w w':ah} (h:Wk w w') {b off :Nat} {v:ag} (A:Hb.ax w.heap b off =some v):Hb.ax w'.heap b off =some v:=Md.ax h A id
theorem Wk.ak {w w':ah} (h:Wk w w') {k:Nat} {o:Obj} (A:w.heap[k]? =some o):w'.heap[k]? =some o:=Md.ak h A id
structure Nw (w w':ah):Prop where
 md:Wk w w'
 size:w'.heap.size=w.heap.size+1
 one:∃ o,w'= {w with heap:=w.heap.push o}
theorem Co (w:ah) (o:Obj):Nw w {w with heap:=w.heap.push o} :=
 ⟨⟨rfl,rfl,by simp,fun k A _=>by show (w.heap.push o)[k]? =_; rw [Array.getElem?_push,if_neg ab]⟩,by simp,o,rfl⟩
def dd (P:ar) (t:av):Option (Option Nat):=
 match P.underlying t with
 | some (.struct _) | some (.array _ _)=>((P.info? t).map (·.size)).map some
 | some _=>some none
 | none=>none
def m6 (P:ar) (s f:Nat):Option Nat:=
 match P.underlying s with
 | some (.struct A)=>match A[f]? with
   | some fd=>match P.info? fd.type with
     | some i=>if i.size=0 then none else some fd.offset
     | none=>none
   | none=>none
 | _=>none
def cY (P:ar) (t:av):Option Nat:=
 match P.underlying t with
 | some (.slice e)=>(P.info? e).map (·.size)
 | _=>none
section
variable {P:ar} {N:Fm} {σ:Nat→ag} {w:ah} {dst:Option Nat} {ty:av} {pos :String} {af:Array bQ} {g:Option (Nat×Bool)} {x y z:aW}
theorem bB {t:av} {d:TypeDesc} (h:P.underlying t=some d) (w:ah):(underlying t).run P w= .ok d w:=by
 simp [underlying,h]
theorem dj {t:av} {i:TypeInfo} (h:P.info? t=some i) (w:ah):(typeInfo t).run P w= .ok i w:=by
 simp [typeInfo,h]
theorem mv:(execOp (ev N σ) ⟨dst,.move x,ty,pos,af,g⟩).run P w= .ok (.value<|ev N σ x) w:=rfl
theorem aR:(execOp (ev N σ) ⟨dst,.assign x,ty,pos,af,g⟩).run P w= .ok (.value<|ev N σ x) w:=rfl
theorem nk (v:ag) (h:ev N σ x=v):(execOp (ev N σ) ⟨dst,.move x,ty,pos,af,g⟩).run P w= .ok (.value v) w:=by rw [← h]; rfl
theorem zK (v:ag) (h:ev N σ x=v):(execOp (ev N σ) ⟨dst,.assign x,ty,pos,af,g⟩).run P w= .ok (.value v) w:=by rw [← h]; rfl
theorem nq {c:aW} (A:ev N σ c= .bool true):(execOp (ev N σ) ⟨dst,.pick c x y,ty,pos,af,g⟩).run P w= .ok (.value<|ev N σ x) w:=by
 simp [execOp,A,asBool]
theorem o6 {c:aW} (A:ev N σ c= .bool false):(execOp (ev N σ) ⟨dst,.pick c x y,ty,pos,af,g⟩).run P w= .ok (.value<|ev N σ y) w:=by
 simp [execOp,A,asBool]
theorem nc {a:bL} (A:ev N σ x= .pointer (some a)):(execOp (ev N σ) ⟨dst,.nilCheck x,ty,pos,af,g⟩).run P w= .ok (.value<|.pointer<|some a) w:=by
 simp [execOp,A]
theorem xt {i:Nat} {vs:Array ag} {v:ag} (C:ev N σ x= .tuple vs) (A:vs[i]? =some v):(execOp (ev N σ) ⟨dst,.extract x i,ty,pos,af,g⟩).run P w= .ok (.value v) w:=by
 simp [execOp,C,Instr.extract,A]
theorem fa {s f n b off :Nat} (A:m6 P s f=some n) (I:ev N σ x= .pointer (some ⟨b,off,none⟩)):
 (execOp (ev N σ) ⟨dst,.fieldAddr s x f,ty,pos,af,g⟩).run P w= .ok (.value<|.pointer<|some ⟨b,off+n,none⟩) w:=by
 unfold m6 at A;split at A
 · rename_i L hu;split at A
   · rename_i fd E;split at A
     · rename_i i hi;split at A
       · cases A
       · rename_i J;cases A;have C:(⟨b,off,none⟩:bL).add fd.offset=⟨b,off+fd.offset,none⟩:=by unfold uo; split <;> simp_all
         simp [execOp,Instr.fieldAt,bB hu,E,I,n6,fieldPlace,sizeOf,dj hi,J,C]
     · cases A
   · cases A
 · cases A
theorem ld {t b off :Nat} {v:ag} (hu:dd P t=some none) (E:ev N σ x= .pointer (some ⟨b,off,none⟩)) (A:ax w.heap b off =some v):
 (execOp (ev N σ) ⟨dst,.load t x,ty,pos,af,g⟩).run P w= .ok (.value v) w:=by
 have C:w.cell? ⟨b,off,none⟩=some v:=by rw [jR]; exact A
 unfold dd at hu;cases hd:P.underlying t with
 | none=>rw [hd] at hu; cases hu
 | some d=>
   rw [hd] at hu;cases d <;> first
    | (simp only [gM] at hu; obtain ⟨_,_,h⟩:=hu; cases h; done)
    | simp [execOp,EY,E,n6,loadVar,isAgg,bB hd,run_load,C]
theorem gd (b off j:Nat):(⟨b,off,none⟩:bL).add j=⟨b,off+j,none⟩:=by
 unfold uo; split <;> simp_all
theorem eU {t n b off :Nat} {cs:List ag} (hu:dd P t=some (some n)) (J:ev N σ x= .pointer (some ⟨b,off,none⟩)) (I:cs.length=n)
 (C:∀ j,j < n→ax w.heap b (off+j)=cs[j]?):
 (execOp (ev N σ) ⟨dst,.load t x,ty,pos,af,g⟩).run P w= .ok (.value<|.agg cs.toArray) w:=by
 have E:(loadCells ⟨b,off,none⟩ n).run P w= .ok cs.toArray w:=by
  subst I;refine run_loadCells_list (P:=P) w ⟨b,off,none⟩ cs fun j v A=> ?_;rw [gd,jR];exact (C j (cD.1 A).1).trans A
 unfold dd at hu;cases hd:P.underlying t with
 | none=>rw [hd] at hu; cases hu
 | some d=>
   rw [hd] at hu;cases hi:P.info? t with
   | none=>simp [E6,hi] at hd
   | some i=>
     rw [hi] at hu;cases d <;> first
      | (cases hu; done)
      | (simp only [fG,bK] at hu; subst hu
         simp [execOp,EY,J,n6,loadVar,isAgg,bB hd,sizeOf,dj hi,E])
theorem ia {t n b off len cap:Nat} {k:bA} {i:Int} (he:cY P t=some n) (A:ev N σ x= .slice (some ⟨b,off,none⟩) len cap) (C:ev N σ y= .int k i) (h0:0≤i∧i < len):
 (execOp (ev N σ) ⟨dst,.indexAddr t x y,ty,pos,af,g⟩).run P w= .ok (.value<|.pointer<|some ⟨b,off+i.toNat*n,none⟩) w:=by
 unfold cY at he;cases hd:P.underlying t with
 | none=>rw [hd] at he; cases he
 | some d=>
   rw [hd] at he;cases d <;> first | (cases he; done) | skip
   rename_i e;cases hi:P.info? e with
   | none=>simp [hi] at he
   | some j=>
     simp only [hi,fG,bK] at he;subst he;simp [execOp,EW,A,C,asIntOf,bB hd,h0.1,h0.2,sizeOf,dj hi,gd]
def ez (a:Option bL) (cap l n:Nat):Option bL:=if cap=l then a else a.map (·.add (l*n))
theorem yh {t n len cap:Nat} {a:Option bL} {lo hi:Option ag} {l h:Nat} (he:cY P t=some n) (E:ev N σ x= .slice a len cap)
 (hb:(kG true len cap lo hi none).run P w= .ok (l,h,cap) w) (A C:Option aW) (I:A.map (ev N σ)=lo) (J:C.map (ev N σ)=hi):
 (execOp (ev N σ) ⟨dst,.slice t x A C none,ty,pos,af,g⟩).run P w= .ok (.value<|.slice (ez a cap l n) (h - l)<|cap - l) w:=by
 unfold cY at he;cases hd:P.underlying t with
 | none=>rw [hd] at he; cases he
 | some d=>
   rw [hd] at he;cases d <;> first | (cases he; done) | skip
   rename_i e;cases hi':P.info? e with
   | none=>simp [hi'] at he
   | some j=>
     simp only [hi',fG,bK] at he;subst he;simp [execOp,n4,rG,E,I,J,bB hd,hb,sizeOf,dj hi',ez]
theorem yi {t n len cap:Nat} {a:Option bL} {k:bA} {i:Int} (he:cY P t=some n) (C:ev N σ x= .slice a len cap) (E:ev N σ z= .int k i) (h0:0≤i∧i≤cap):
 (execOp (ev N σ) ⟨dst,.slice t x none (some z) none,ty,pos,af,g⟩).run P w= .ok (.value<|.slice a i.toNat cap) w:=by
 have :=yh (dst:=dst) (ty:=ty) (pos :=pos) (af:=af) (g:=g) (w:=w) (lo:=none) (hi:=some<|.int k i) (l:=0) (h:=i.toNat) he C
  (by simp [kG,n5,asIntOf,h0.1,h0.2]) none (some z) rfl (by simp [E])
 rw [this];have A:ez a cap 0 n=a:=by
  unfold ez; split
  · rfl
  · cases a <;> simp [uo]
 rw [A]; rfl
theorem yj {t n len cap:Nat} {a:Option bL} {k:bA} {i:Int} (he:cY P t=some n) (A:ev N σ x= .slice a len cap) (C:ev N σ y= .int k i) (h0:0≤i∧i≤len):
 (execOp (ev N σ) ⟨dst,.slice t x (some y) none none,ty,pos,af,g⟩).run P w= .ok (.value<|.slice (ez a cap i.toNat n) (len - i.toNat)<|cap - i.toNat) w:=
 yh (lo:=some<|.int k i) (hi:=none) he A
  (by simp [kG,n5,asIntOf,h0.1,h0.2]) (some y) none (by simp [C]) rfl
theorem yg {t n len cap:Nat} {a:Option bL} {k A:bA} {i j:Int} (he:cY P t=some n) (E:ev N σ x= .slice a len cap) (I:ev N σ y= .int k i) (J:ev N σ z= .int A j) (h0:0≤i∧i≤j∧j≤cap):
 (execOp (ev N σ) ⟨dst,.slice t x (some y) (some z) none,ty,pos,af,g⟩).run P w= .ok (.value<|.slice (ez a cap i.toNat n) (j.toNat - i.toNat)<|cap - i.toNat) w:=by
 have h1:0≤j:=ab;have C:i≤(j.toNat:Int):=ab;refine yh (lo:=some<|.int k i) (hi:=some<|.int A j) he E ?_ (some y) (some z) (by simp [I])<|by simp [J]
 simp only [kG,n5,asIntOf,iE,kH,hZ,rM,h0.1,h1,h0.2.2,C,and_self,if_true]
theorem hJ {n:Int} (h: -9223372036854775808≤n∧n≤9223372036854775807):uv.wrap n=n:=IntWalk.i64_in n h
theorem yG {n:Int} (h: -2147483648≤n∧n≤2147483647):IntKind.i32.wrap n=n:=IntWalk.i32_in n h
theorem yK {n:Int} (h:0≤n∧n≤255):IntKind.u8.wrap n=n:=IntWalk.u8_in n h
theorem Em {n:Int} (h:0≤n∧n≤4294967295):IntKind.u32.wrap n=n:=IntWalk.u32_in n h
theorem gG {n:Int} (h:0≤n∧n≤18446744073709551615):IntKind.u64.wrap n=n:=IntWalk.u64_in n h
theorem iv {k:bA} {a b:Int} (h:a=b):aZ k a=aZ k b:=by rw [h]
theorem ad {t E:av} {k:bA} {a b:Int} (A:ev N σ x= .int k a) (C:ev N σ y= .int k b) (hr:k.wrap (a+b)=a+b):
 (execOp (ev N σ) ⟨dst,.binOp .add t x y E,ty,pos,af,g⟩).run P w= .ok (.value<|.int k<|a+b) w:=by
 simp [execOp,A,C,eqGuard,binOp,rI,hr]
theorem u6 {t E:av} {k:bA} {a b:Int} (v:Int) (A:ev N σ x= .int k a) (C:ev N σ y= .int k b) (hr:k.wrap (a+b)=v):
 (execOp (ev N σ) ⟨dst,.binOp .add t x y E,ty,pos,af,g⟩).run P w= .ok (.value<|.int k v) w:=by
 subst hr; simp [execOp,A,C,eqGuard,binOp,rI]
theorem xX {t E:av} {k:bA} {a b:Int} (v:Int) (A:ev N σ x= .int k a) (C:ev N σ y= .int k b) (hr:k.wrap (a - b)=v):
 (execOp (ev N σ) ⟨dst,.binOp .sub t x y E,ty,pos,af,g⟩).run P w= .ok (.value<|.int k v) w:=by
 subst hr; simp [execOp,A,C,eqGuard,binOp,rI]
theorem xw {t E:av} {k:bA} {a b:Int} (v:Int) (A:ev N σ x= .int k a) (C:ev N σ y= .int k b) (hr:k.wrap (a*b)=v):
 (execOp (ev N σ) ⟨dst,.binOp .mul t x y E,ty,pos,af,g⟩).run P w= .ok (.value<|.int k v) w:=by
 subst hr; simp [execOp,A,C,eqGuard,binOp,rI]
theorem yE {a:Int} {n:Nat} (h:a=n) (hn:n≤9223372036854775807):uv.wrap a=(n:Int):=by rw [h]; exact hJ ab
theorem bv {p q:Prop} [Decidable p] [Decidable q] (h:p↔q):bp (decide p)=bp (decide q):=by rw [decide_eq_decide.2 h]
theorem sb {t E:av} {k:bA} {a b:Int} (A:ev N σ x= .int k a) (C:ev N σ y= .int k b) (hr:k.wrap (a - b)=a - b):
 (execOp (ev N σ) ⟨dst,.binOp .sub t x y E,ty,pos,af,g⟩).run P w= .ok (.value<|.int k<|a - b) w:=by
 simp [execOp,A,C,eqGuard,binOp,rI,hr]
theorem qu {t E:av} {k:bA} {a b:Int} (A:ev N σ x= .int k a) (C:ev N σ y= .int k b) (h0:0≤a∧0 < b) (hr:k.wrap (a / b)=a / b):
 (execOp (ev N σ) ⟨dst,.binOp .quo t x y E,ty,pos,af,g⟩).run P w= .ok (.value<|.int k<|a / b) w:=by
 have :a.tdiv b=a / b:=Fe h0.1;simp [execOp,A,C,eqGuard,binOp,y7,show b≠0 from by omega,this,hr]
theorem KO {t E:av} {k:bA} {a b:Int} (v:Int) (A:ev N σ x= .int k a) (C:ev N σ y= .int k b) (h0:0≤a∧0 < b) (hr:k.wrap (a / b)=v):
 (execOp (ev N σ) ⟨dst,.binOp .quo t x y E,ty,pos,af,g⟩).run P w= .ok (.value<|.int k v) w:=by
 have :a.tdiv b=a / b:=Fe h0.1;subst hr; simp [execOp,A,C,eqGuard,binOp,y7,show b≠0 from by omega,this]
theorem rm {t E:av} {k:bA} {a b:Int} (A:ev N σ x= .int k a) (C:ev N σ y= .int k b) (h0:0≤a∧0 < b):
 (execOp (ev N σ) ⟨dst,.binOp .rem t x y E,ty,pos,af,g⟩).run P w= .ok (.value<|.int k<|a % b) w:=by
 have :a.tmod b=a % b:=Int.tmod_eq_emod_of_nonneg h0.1;simp [execOp,A,C,eqGuard,binOp,y7,show b≠0 from by omega,this]
theorem lt {t E:av} {k:bA} {a b:Int} (A:ev N σ x= .int k a) (C:ev N σ y= .int k b):
 (execOp (ev N σ) ⟨dst,.binOp .lss t x y E,ty,pos,af,g⟩).run P w= .ok (.value<|.bool<|decide (a < b)) w:=by
 simp [execOp,A,C,eqGuard,binOp,pR]
theorem le {t E:av} {k:bA} {a b:Int} (A:ev N σ x= .int k a) (C:ev N σ y= .int k b):
 (execOp (ev N σ) ⟨dst,.binOp .leq t x y E,ty,pos,af,g⟩).run P w= .ok (.value<|.bool<|decide (a≤b)) w:=by
 simp [execOp,A,C,eqGuard,binOp,pR]
theorem gt {t E:av} {k:bA} {a b:Int} (A:ev N σ x= .int k a) (C:ev N σ y= .int k b):
 (execOp (ev N σ) ⟨dst,.binOp .gtr t x y E,ty,pos,af,g⟩).run P w= .ok (.value<|.bool<|decide (b < a)) w:=by
 simp [execOp,A,C,eqGuard,binOp,pR]
theorem ge {t E:av} {k:bA} {a b:Int} (A:ev N σ x= .int k a) (C:ev N σ y= .int k b):
 (execOp (ev N σ) ⟨dst,.binOp .geq t x y E,ty,pos,af,g⟩).run P w= .ok (.value<|.bool<|decide (b≤a)) w:=by
 simp [execOp,A,C,eqGuard,binOp,pR]
theorem A0 {t E:av} {k:bA} {a b:Int} (A:ev N σ x= .int k a) (C:ev N σ y= .int k b):
 (execOp (ev N σ) ⟨dst,.binOp .eql t x y E,ty,pos,af,g⟩).run P w= .ok (.value<|.bool<|decide (a=b)) w:=by
 simp [execOp,A,C,eqGuard,binOp,pR];rw [pO]; simp
theorem Ch {t E:av} {k:bA} {a b:Int} (A:ev N σ x= .int k a) (C:ev N σ y= .int k b):
 (execOp (ev N σ) ⟨dst,.binOp .neq t x y E,ty,pos,af,g⟩).run P w= .ok (.value<|.bool<|decide (a≠b)) w:=by
 simp [execOp,A,C,eqGuard,binOp,pR];rw [pO]; simp
theorem no {t:av} {b:Bool} (A:ev N σ x= .bool b):(execOp (ev N σ) ⟨dst,.unOp .not t x,ty,pos,af,g⟩).run P w= .ok (.value<|.bool<|!b) w:=by
 simp [execOp,A,Op.unary]
theorem zP {t I:av} {k:bA} {a b v:Int} (C:ev N σ x= .int k a) (E:ev N σ y= .int k b) (A:k.wrap (iB k.bits a ||| iB k.bits b).toNat=v):
 (execOp (ev N σ) ⟨dst,.binOp .or t x y I,ty,pos,af,g⟩).run P w= .ok (.value<|.int k v) w:=by
 subst A; simp [execOp,C,E,eqGuard,binOp,Op.intBits]
theorem cV {t I:av} {k:bA} {a b v:Int} (C:ev N σ x= .int k a) (E:ev N σ y= .int k b) (A:k.wrap (iB k.bits a &&& iB k.bits b).toNat=v):
 (execOp (ev N σ) ⟨dst,.binOp .and t x y I,ty,pos,af,g⟩).run P w= .ok (.value<|.int k v) w:=by
 subst A; simp [execOp,C,E,eqGuard,binOp,Op.intBits]
theorem shr {t I:av} {k J:bA} {a b v:Int} (C:ev N σ x= .int k a) (E:ev N σ y= .int J b) (h0:0≤b) (A:a.fdiv (2 ^ min b.toNat k.bits)=v):
 (execOp (ev N σ) ⟨dst,.binOp .shr t x y I,ty,pos,af,g⟩).run P w= .ok (.value<|.int k v) w:=by
 have :¬b < 0:=ab;simp [execOp,C,E,eqGuard,binOp,Op.shift,this,A]
theorem shl {t I:av} {k J:bA} {a b v:Int} (C:ev N σ x= .int k a) (E:ev N σ y= .int J b) (h0:0≤b) (A:k.wrap (a*2 ^ min b.toNat k.bits)=v):
 (execOp (ev N σ) ⟨dst,.binOp .shl t x y I,ty,pos,af,g⟩).run P w= .ok (.value<|.int k v) w:=by
 have :¬b < 0:=ab;simp [execOp,C,E,eqGuard,binOp,Op.shift,this,A]
theorem MB (m:Nat) (h:m < 256):((e9 m).toNat:Int)=(m:Int):=by
 simp [Nat.mod_eq_of_lt h]
theorem cv {t u:av} {k A:bA} {n:Int} (hu:P.underlying u=some (.int A)) (E:(P.underlying t).isSome=true) (I:ev N σ x= .int k n):
 (execOp (ev N σ) ⟨dst,.convert t u x,ty,pos,af,g⟩).run P w= .ok (.value<|.int A<|A.wrap n) w:=by
 obtain ⟨d,C⟩:=mM.1 E;cases d <;> simp [execOp,I,convert,bB hu,bB C,Conv.intToInt]
theorem Hw {t u:av} {k A:bA} {n v:Int} (hu:P.underlying u=some (.int A)) (C:(P.underlying t).isSome=true) (E:ev N σ x= .int k n) (hr:A.wrap n=v):
 (execOp (ev N σ) ⟨dst,.convert t u x,ty,pos,af,g⟩).run P w= .ok (.value<|.int A v) w:=by
 rw [cv hu C E,hr]
theorem fL {t u:av} {k A:bA} {n:Int} (hu:P.underlying u=some (.int A)) (C:(P.underlying t).isSome=true) (E:ev N σ x= .int k n) (hr:A.wrap n=n):
 (execOp (ev N σ) ⟨dst,.convert t u x,ty,pos,af,g⟩).run P w= .ok (.value<|.int A n) w:=by
 rw [cv hu C E,hr]
theorem vO (d:Nat) {t e:av} {a:Option bL} (hu:P.underlying t=some (.pointer e)):(iC (d+1) t (.pointer a)<|.pointer none).run P w= .ok a.isNone w:=by
 cases a <;> simp [iC,bB hu]
theorem A1 {t e:av} {a:Option bL} (hu:P.underlying t=some (.pointer e)):(mG t (.pointer a)<|.pointer none).run P w= .ok a.isNone w:=vO 9999 hu
theorem ix {t E e:av} {a:Option bL} (hu:P.underlying t=some (.pointer e)) (A:ev N σ x= .pointer a) (C:ev N σ y= .pointer none):
 (execOp (ev N σ) ⟨dst,.binOp .eql t x y E,ty,pos,af,g⟩).run P w= .ok (.value<|.bool a.isNone) w:=by
 have h:(binOp .eql t (.pointer a)<|.pointer none).run P w= .ok (.bool a.isNone) w:=by
  simp only [binOp]; simp [A1 hu]
 simp [execOp,A,C,eqGuard,h]
theorem Ci {t E e:av} {a:Option bL} (hu:P.underlying t=some (.pointer e)) (A:ev N σ x= .pointer a) (C:ev N σ y= .pointer none):
 (execOp (ev N σ) ⟨dst,.binOp .neq t x y E,ty,pos,af,g⟩).run P w= .ok (.value<|.bool a.isSome) w:=by
 have h:(binOp .neq t (.pointer a)<|.pointer none).run P w= .ok (.bool a.isSome) w:=by
  simp only [binOp]; simp [A1 hu]
 simp [execOp,A,C,eqGuard,h]
theorem AZ (d:Nat) {t:av} {a b:Bool} (hu:P.underlying t=some .bool):(iC (d+1) t (.bool a)<|.bool b).run P w= .ok (a==b) w:=by
 simp [iC,bB hu]
theorem Ie {t:av} {a b:Bool} (hu:P.underlying t=some .bool):(mG t (.bool a)<|.bool b).run P w= .ok (a==b) w:=AZ 9999 hu
theorem If {t E:av} {a b:Bool} (hu:P.underlying t=some .bool) (A:ev N σ x= .bool a) (C:ev N σ y= .bool b):
 (execOp (ev N σ) ⟨dst,.binOp .eql t x y E,ty,pos,af,g⟩).run P w= .ok (.value<|.bool<|decide (a=b)) w:=by
 have h:(binOp .eql t (.bool a)<|.bool b).run P w= .ok (.bool<|decide (a=b)) w:=by
  simp only [binOp]; simp [Ie hu]; cases a <;> cases b <;> rfl
 simp [execOp,A,C,eqGuard,h]
def str (l:List UInt8):ag:= .string ⟨⟨l⟩⟩
theorem BY {t:av} {l:List UInt8} {at_:Array av} (A:P.underlying t=some .string) (ha:at_= #[t]) (C:ev N σ x=str l):
 (execOp (ev N σ) ⟨dst,.call ⟨.builtin .len,#[x],at_⟩,ty,pos,af,g⟩).run P w= .ok (.value<|.int .i64 l.length) w:=by
 subst ha;simp [execOp,resolve,invoke,builtin,yT,bB A,C,str,goInt];rfl
theorem xg {t e:av} {a:Option bL} {n c:Nat} {at_:Array av} (A:P.underlying t=some (.slice e)) (ha:at_= #[t]) (C:ev N σ x= .slice a n c):
 (execOp (ev N σ) ⟨dst,.call ⟨.builtin .len,#[x],at_⟩,ty,pos,af,g⟩).run P w= .ok (.value<|.int .i64 n) w:=by
 subst ha;simp [execOp,resolve,invoke,builtin,yT,bB A,C,goInt]
theorem JN {t k e r:av} {es:Array MapEntry} {c:Nat} {at_:Array av} (A:P.underlying t=some (.map k e)) (ha:at_= #[t]) (C:ev N σ x= .map (some r)) (hr:w.heap[r]? =some (.map es c)):
 (execOp (ev N σ) ⟨dst,.call ⟨.builtin .len,#[x],at_⟩,ty,pos,af,g⟩).run P w= .ok (.value<|.int .i64 es.size) w:=by
 subst ha;simp [execOp,resolve,invoke,builtin,yT,bB A,C,goInt,getObj,lK,hr]
theorem mn {k:bA} {a b:Int} {at_:Array av} (A:ev N σ x= .int k a) (C:ev N σ y= .int k b):
 (execOp (ev N σ) ⟨dst,.call ⟨.builtin .min,#[x,y],at_⟩,ty,pos,af,g⟩).run P w= .ok (.value<|.int k<|min a b) w:=by
 have :(if b < a then b else a)=min a b:=ab;simp [execOp,resolve,invoke,builtin,Builtin.min_,Builtin.min2,A,C,this]
theorem mx {k:bA} {a b:Int} {at_:Array av} (A:ev N σ x= .int k a) (C:ev N σ y= .int k b):
 (execOp (ev N σ) ⟨dst,.call ⟨.builtin .max,#[x,y],at_⟩,ty,pos,af,g⟩).run P w= .ok (.value<|.int k<|max a b) w:=by
 have :(if b > a then b else a)=max a b:=ab;simp [execOp,resolve,invoke,builtin,Builtin.max_,Builtin.max2,A,C,this]
theorem Jg {t:av} {l:List UInt8} {k:bA} {i:Int} (I:P.underlying t=some .string) (J:ev N σ x=str l) (L:ev N σ y= .int k i) (h0:0≤i∧i < l.length):
 (execOp (ev N σ) ⟨dst,.index t x y,ty,pos,af,g⟩).run P w= .ok (.value<|.int .u8 ((l.getD i.toNat 0).toNat:Int)) w:=by
 have E:(⟨⟨l⟩⟩:ByteArray)[i.toNat]? =some (l.getD i.toNat 0):=by
  have A:i.toNat < l.length:=ab;have C:i.toNat < (⟨⟨l⟩⟩:ByteArray).size:=A;rw [getElem?_pos (⟨⟨l⟩⟩:ByteArray) i.toNat C];simp [bY,A,ByteArray.getElem_eq_getElem_data]
 simp [execOp,Instr.index,J,L,asIntOf,str,bB I,h0.1,E]
theorem yf (l:List UInt8) (a b:Nat):Value.string ((⟨⟨l⟩⟩:ByteArray).extract a b)=str ((l.take b).drop a):=by
 unfold str;congr 1;apply ByteArray.ext;simp [ByteArray.data_extract,List.extract_eq_take_drop,List.drop_take]
theorem sS (n:Nat) {t:av} {l:List UInt8} {k:bA} (A:P.underlying t=some .string) (C:ev N σ x=str l) (E:ev N σ y= .int k (n:Int)) (h:n < l.length):
 (execOp (ev N σ) ⟨dst,.index t x y,ty,pos,af,g⟩).run P w= .ok (.value<|.int .u8 ((l.getD n 0).toNat:Int)) w:=Jg A C E ⟨ab,ab⟩
theorem fN {n:Nat} {t:av} {l:List UInt8} {k:bA} (A:P.underlying t=some .string) (C:ev N σ x=str l) (E:ev N σ y= .int k (n:Int)) (h:n < l.length):
 (execOp (ev N σ) ⟨dst,.index t x y,ty,pos,af,g⟩).run P w= .ok (.value<|.int .u8 ((l.getD n 0).toNat:Int)) w:=sS n A C E h
theorem my {t:av} {l:List UInt8} {k L:bA} {a b:Int} (C:P.underlying t=some .string) (E:ev N σ x=str l) (I:ev N σ y= .int k a) (J:ev N σ z= .int L b) (h0:0≤a∧a≤b∧b≤l.length):
 (execOp (ev N σ) ⟨dst,.slice t x (some y) (some z) none,ty,pos,af,g⟩).run P w= .ok (.value<|str<|(l.take b.toNat).drop a.toNat) w:=by
 have h1:b≤((⟨⟨l⟩⟩:ByteArray).size:Nat):=h0.2.2;have A:0≤b:=ab;have M:a≤(b.toNat:Nat):=ab;simp [execOp,n4,rG,kG,n5,E,I,J,asIntOf,str,bB C,h0.1,h1,A];rw [if_pos ab];exact congrArg (fun v=>rL (rH v) w)<|yf l a.toNat b.toNat
theorem ym {t:av} {l:List UInt8} {I:bA} {b:Int} (A:P.underlying t=some .string) (C:ev N σ x=str l) (E:ev N σ z= .int I b) (h0:0≤b∧b≤l.length):
 (execOp (ev N σ) ⟨dst,.slice t x none (some z) none,ty,pos,af,g⟩).run P w= .ok (.value<|str<|l.take b.toNat) w:=by
 have h1:b≤((⟨⟨l⟩⟩:ByteArray).size:Nat):=h0.2;have :=yf l 0 b.toNat;simp only [List.drop_zero] at this;simp [execOp,n4,rG,kG,n5,C,E,asIntOf,str,bB A,h0.1,h1];exact E8 this
theorem Du {t:av} {l:List UInt8} {k:bA} {a:Int} (A:P.underlying t=some .string) (C:ev N σ x=str l) (E:ev N σ y= .int k a) (h0:0≤a∧a≤l.length):
 (execOp (ev N σ) ⟨dst,.slice t x (some y) none none,ty,pos,af,g⟩).run P w= .ok (.value<|str<|l.drop a.toNat) w:=by
 have h1:a≤((⟨⟨l⟩⟩:ByteArray).size:Nat):=h0.2;have :=yf l a.toNat l.length;simp only [List.take_length] at this;simp [execOp,n4,rG,kG,n5,C,E,asIntOf,str,bB A,h0.1,h1];exact E8 this
theorem pF (l:List UInt8):(⟨⟨l⟩⟩:ByteArray).toList=l:=Lib.toList_data ⟨⟨l⟩⟩
theorem cc {t I:av} {l m:List UInt8} (C:ev N σ x=str l) (E:ev N σ y=str m) (h:l.length+m.length≤9223372036854775807):
 (execOp (ev N σ) ⟨dst,.binOp .add t x y I,ty,pos,af,g⟩).run P w= .ok (.value<|str<|l++m) w:=by
 have h1:¬(((⟨⟨l⟩⟩:ByteArray).size+(⟨⟨m⟩⟩:ByteArray).size:Nat):Int) > uv.max:=by
  have :uv.max=9223372036854775807:=aF;rw [this];show ¬((l.length+m.length:Nat):Int) > _;omega
 have A:(⟨⟨l⟩⟩:ByteArray)++(⟨⟨m⟩⟩:ByteArray)=⟨⟨l++m⟩⟩:=by
  apply ByteArray.ext; simp
 simp only [execOp,C,E,str,eqGuard,binOp,n8];rw [if_neg h1,A];rfl
theorem A2 {t E:av} {l m:List UInt8} (A:ev N σ x=str l) (C:ev N σ y=str m):
 (execOp (ev N σ) ⟨dst,.binOp .eql t x y E,ty,pos,af,g⟩).run P w= .ok (.value<|.bool<|decide (l=m)) w:=by
 simp only [execOp,A,C,str,eqGuard,binOp,n8,pF];show rL (rH<|.bool<|l==m) w=_;rw [show (l==m)=decide (l=m) from by rw [pO]; simp]
theorem Cj {t E:av} {l m:List UInt8} (A:ev N σ x=str l) (C:ev N σ y=str m):
 (execOp (ev N σ) ⟨dst,.binOp .neq t x y E,ty,pos,af,g⟩).run P w= .ok (.value<|.bool<|decide (l≠m)) w:=by
 simp only [execOp,A,C,str,eqGuard,binOp,n8,pF];show rL (rH<|.bool<|!(l==m)) w=_;rw [show (!(l==m))=decide (l≠m) from by rw [pO]; simp]
def nu (a b:List UInt8):Bool:=yZ a b
theorem LM (x y:UInt8) (a b:List UInt8):nu (x::a) (y::b)=(decide (x < y) || (x==y && nu a b)):=rfl
theorem JS {t E:av} {l m:List UInt8} (A:ev N σ x=str l) (C:ev N σ y=str m):
 (execOp (ev N σ) ⟨dst,.binOp .lss t x y E,ty,pos,af,g⟩).run P w= .ok (.value<|.bool<|nu l m) w:=by
 simp only [execOp,A,C,str,eqGuard,binOp,n8,pF];rfl
theorem JD {t E:av} {l m:List UInt8} (A:ev N σ x=str l) (C:ev N σ y=str m):
 (execOp (ev N σ) ⟨dst,.binOp .leq t x y E,ty,pos,af,g⟩).run P w= .ok (.value<|.bool (nu l m || decide (l=m))) w:=by
 simp only [execOp,A,C,str,eqGuard,binOp,n8,pF];show rL (rH<|.bool (yZ l m || l==m)) w=_;rw [show (l==m)=decide (l=m) from by rw [pO]; simp];rfl
theorem IU {t E:av} {l m:List UInt8} (A:ev N σ x=str l) (C:ev N σ y=str m):
 (execOp (ev N σ) ⟨dst,.binOp .gtr t x y E,ty,pos,af,g⟩).run P w= .ok (.value<|.bool<|!(nu l m || decide (l=m))) w:=by
 simp only [execOp,A,C,str,eqGuard,binOp,n8,pF];show rL (rH<|.bool<|!(yZ l m || l==m)) w=_;rw [show (l==m)=decide (l=m) from by rw [pO]; simp];rfl
theorem IN {t E:av} {l m:List UInt8} (A:ev N σ x=str l) (C:ev N σ y=str m):
 (execOp (ev N σ) ⟨dst,.binOp .geq t x y E,ty,pos,af,g⟩).run P w= .ok (.value<|.bool<|!nu l m) w:=by
 simp only [execOp,A,C,str,eqGuard,binOp,n8,pF];rfl
theorem mf {fn:Fn} {first captured:Array aW} :(execOp (ev N σ) ⟨dst,.makeFunc fn first captured,ty,pos,af,g⟩).run P w= .ok (.value<|.func fn (first.map<|ev N σ)<|captured.map<|ev N σ) w:=rfl
theorem xr {fn:Fn} {first captured:Array aW} :(execOp (ev N σ) ⟨dst,.makeFunc fn first captured,ty,pos,af,g⟩).run P w= .ok (.value<|.func fn (first.toList.map<|ev N σ).toArray (captured.toList.map<|ev N σ).toArray) w:=by
 rw [mf,← ja,← ja]
end
end Go.Hb
namespace Go.Hb
def az (h:Array Obj) (b:Nat) (L:List ag):Prop := ∃ e,h[b]? =some (.cells L.toArray e (0,0))
theorem az.ax {h:Array Obj} {b:Nat} {L:List ag} (hb:az h b L) (j:Nat):Hb.ax h b j=L[j]? :=by
 obtain ⟨e,hb⟩:=hb;rw [bt hb]; simp
theorem az.aN {h:Array Obj} {b:Nat} {L:List ag} (hb:az h b L) (j:Nat):Hb.ax h b (0 +j)=L[j]? :=by
 rw [cz,hb.ax]
theorem Md.B {F:Nat→Prop} {w w':ah} (h:Md F w w') {b:Nat} {L:List ag} (hb:az w.heap b L) (A:¬F b):az w'.heap b L:=
 let ⟨e,hb⟩:=hb; ⟨e,h.ak hb A⟩
theorem Wk.B {w w':ah} (h:Wk w w') {b:Nat} {L:List ag} (hb:az w.heap b L):az w'.heap b L:=Md.B h hb id
theorem az.lt {h:Array Obj} {b:Nat} {L:List ag} (hb:az h b L):b < h.size:=by grind [az]
def bk (a:Option bL):Nat:=match a with | some ad=>ad.block | none=>0
def fo (a:Option bL):Nat:=match a with | some ad=>ad.off | none=>0
structure a9 (h:Array Obj) (a:Option bL) (xs:List ag):Prop where
 ok:xs≠[]→a=some ⟨bk a,fo a,none⟩
 ax:∀ j u,xs[j]? =some u→Hb.ax h (bk a) (fo a+j)=some u
theorem a9.nil (h:Array Obj) (a:Option bL):a9 h a []:=⟨fun h=>absurd rfl h,fun _ _ hu=>by simp at hu⟩
theorem a9.md {F:Nat→Prop} {w w':ah} {a:Option bL} {xs:List ag} (A:a9 w.heap a xs) (h:Md F w w') (C:xs≠[]→¬F (bk a)):a9 w'.heap a xs:=
 ⟨A.ok,fun j u hu=>h.ax (A.ax j u hu)<|C<|by rintro rfl; simp at hu⟩
theorem a9.wk {w w':ah} {a:Option bL} {xs:List ag} (A:a9 w.heap a xs) (h:Wk w w'):a9 w'.heap a xs:=A.md h fun _ x=>x
theorem a9.fQ {h:Array Obj} {b:Nat} {L:List ag} (hb:az h b L):a9 h (some ⟨b,0,none⟩) L:=
 ⟨fun _=>rfl,fun j u hu=>by show Hb.ax h b (0 +j)=_; rw [cz,hb.ax]; exact hu⟩
theorem a9.qn {h:Array Obj} {a:Option bL} {xs:List ag} (A:a9 h a xs) {i:Nat} {u:ag} (hu:xs[i]? =some u):Hb.ax h (bk a) (fo a+i*1)=some u:=by
 rw [Nat.mul_one]; exact A.ax i u hu
theorem th {α:Type} {f:α→ag} {l:List α} (h:0 < l.length):l.map f≠[]:=by
 cases l with
 | nil=>simp at h
 | cons x l=>simp
def dU (P:ar) (t e size bytes:Nat):Bool:=
 match P.underlying t with
 | some (.slice e')=>e'==e && match P.info? e with
   | some i=>i.size==size && i.bytes==bytes && aE 0 size && match i.zero with
     | some z=>z.cells.size==size
     | none=>false
   | none=>false
 | _=>false
theorem px {P:ar} {t e size bytes:Nat} (h:dU P t e size bytes=true):
 P.underlying t=some (.slice e)∧∃ i z,P.info? e=some i∧i.zero=some z∧i.size=size∧i.bytes=bytes∧z.cells.size=size∧0 < size:=by
 unfold dU at h;split at h
 · rename_i e' hu;simp only [a0,beq_iff_eq] at h;obtain ⟨rfl,h⟩:=h;split at h
   · rename_i i hi;simp only [a0,beq_iff_eq] at h;obtain ⟨⟨⟨h1,A⟩,h3⟩,h4⟩:=h;split at h4
     · rename_i z C;exact ⟨hu,i,z,hi,C,h1,A,by simpa using h4,mK (mL 0)<|bN h3⟩
     · cases h4
   · cases h
 · cases h
def cC (P:ar) (t:av):Option Nat:=(P.info? t).map (·.size)
def zeroOf (P:ar) (t:av):Option (Option<|List ag):=(P.info? t).map fun i=>i.zero.map fun z=>z.cells.toList
def ga (P:ar) (f:ee):Prop := ∀ args w,(callFunc f args).run P w= .ok (.enter f args) w
theorem vi {P:ar} {f:ee} {fn:fU} (C:P.funcs[f]? =some fn) (hn:(fn.name== "runtime.NumGoroutine")=false) (hb:fn.body.isNone=false):ga P f:=by
 intro args w;have h1:¬((fn.name== "runtime.NumGoroutine")=true):=by rw [hn]; simp
 have A:¬(fn.body.isNone=true):=by rw [hb]; simp
 simp only [callFunc,iE,run_program,hZ,C];rw [if_neg h1,if_neg A];rfl
section
variable {P:ar} {N:Fm} {σ:Nat→ag} {w:ah} {dst:Option Nat} {ty:av} {pos :String} {af:Array bQ} {g:Option (Nat×Bool)} {x y z:aW} {K:(Nat→ag)→ah→Prop}
theorem Ej {o:aC} {f:ee} {L:List ag} {R:ag→ah→Prop} (C:(execOp (ev N σ) o).run P w= .ok (.enter f L.toArray) w) (hr:bg P f L.toArray w R)
 (k:∀ v w',R v w'→K (dw σ o.dst v) w'):bW P N o σ w K:=by
 unfold bW gI;rw [dt,C];refine kE hr fun e w' ⟨v,he,A⟩=> ?_;subst he;exact ⟨_,eO ..,k v w' A⟩
theorem cl {f:ee} {args:Array aW} {A:Array av} {L:List ag} {R:ag→ah→Prop} (E:ga P f) (hr:bg P f L.toArray w R) (C:args.toList.map (ev N σ)=L)
 (k:∀ v w',R v w'→K (dw σ dst v) w'):bW P N ⟨dst,.call ⟨.value (.func f),args,A⟩,ty,pos,af,g⟩ σ w K:=by
 refine Ej (f:=f) ?_ hr k;have :args.map (ev N σ)=L.toArray:=by rw [← C,← ja]
 simp [execOp,resolve,ev,mF,invoke,this,E L.toArray w]
theorem vp {f:ee} {fo:aW} {first cap:Array ag} {args:Array aW} {A:Array av} {L:List ag} {R:ag→ah→Prop} (E:ga P f) (I:ev N σ fo= .func (.func f) first cap)
 (hr:bg P f L.toArray w R) (C:first.toList++args.toList.map (ev N σ)++cap.toList=L)
 (k:∀ v w',R v w'→K (dw σ dst v) w'):bW P N ⟨dst,.call ⟨.value fo,args,A⟩,ty,pos,af,g⟩ σ w K:=by
 refine Ej (f:=f) ?_ hr k;have :first++args.map (ev N σ)++cap=L.toArray:=by rw [← C,← ja,← EB,← EB]
 simp [execOp,resolve,I,mF,invoke,this,E L.toArray w]
theorem lF {o:aC} {ob:Obj} {v:Nat→ag} (A:(execOp (ev N σ) o).run P w= .ok (.value<|v w.heap.size) {w with heap:=w.heap.push ob})
 (k:∀ b w',b=w.heap.size→Nw w w'→w'.heap[b]? =some ob→K (dw σ o.dst<|v b) w'):bW P N o σ w K:=by grind [hO,Co]
theorem al {e:av} {C:List ag} (A:zeroOf P e=some (some C)) (k:∀ b w',b=w.heap.size→Nw w w'→az w'.heap b C→K (dw σ dst<|.pointer<|some ⟨b,0,none⟩) w'):
 bW P N ⟨dst,.alloc e,ty,pos,af,g⟩ σ w K:=by
 refine lF (v:=fun b=> .pointer<|some ⟨b,0,none⟩) (ob:= .cells C.toArray e (0,0)) ?_ fun b w' h1 E I=>k b w' h1 E ⟨e,I⟩;unfold zeroOf at A;simp only [gM] at A;obtain ⟨i,hi,zv,J,rfl⟩:=A;simp [execOp,uu,zeroValue,dj hi,J,newVar,newRow]
theorem du {e:av} {C:List ag} (A:zeroOf P e=some (some C)) (k:∀ b w',b=w.heap.size→Nw w w'→w'.heap[b]? =some (.cells C.toArray e (0,0))→K (dw σ dst<|.pointer<|some ⟨b,0,none⟩) w'):
 bW P N ⟨dst,.alloc e,ty,pos,af,g⟩ σ w K:=by
 refine lF (v:=fun b=> .pointer<|some ⟨b,0,none⟩) (ob:= .cells C.toArray e (0,0)) ?_ k;unfold zeroOf at A;simp only [gM] at A;obtain ⟨i,hi,zv,E,rfl⟩:=A;simp [execOp,uu,zeroValue,dj hi,E,newVar,newRow]
theorem bx {e:av} {v:ag} {L:List ag} (I:ev N σ x=v) (E:v.cells.toList=L) (k:∀ b w',b=w.heap.size→Nw w w'→az w'.heap b L→K (dw σ dst<|.pointer<|some ⟨b,0,none⟩) w'):
 bW P N ⟨dst,.box e x,ty,pos,af,g⟩ σ w K:=by
 subst E;refine lF (v:=fun b=> .pointer<|some ⟨b,0,none⟩) (ob:= .cells v.cells e (0,0)) ?_ fun b w' h1 A C=>k b w' h1 A ⟨e,C⟩;simp [execOp,yV,I,newVar,newRow]
theorem se {t e:av} {size bytes:Nat} (I:dU P t e size bytes=true)
 (k:∀ b w',b=w.heap.size→Nw w w'→(∀ B,B≤b→w'.ownsRow B e size (.slice (some ⟨b,0,none⟩) 0 0) 0 [])→K (dw σ dst<|.slice (some ⟨b,0,none⟩) 0 0) w'):bW P N ⟨dst,.buildSlice t 0 #[],ty,pos,af,g⟩ σ w K:=by
 refine lF (v:=fun b=> .slice (some ⟨b,0,none⟩) 0 0) (ob:= .cells #[] e (0,0)) ?_ fun b w' h1 A C=>k b w' h1 A fun B E=>⟨by simp,.inr ⟨b,0,#[],U,E,C,aQ _,by simp [maxLen],by simp,by simp⟩⟩
 obtain ⟨hu,i,zv,hi,L,h1,A,C,J⟩:=px I;simp [execOp,rE,bB hu,sizeOf,dj hi,jb,newRow];congr 2;exact Array.eq_empty_of_size_eq_zero<|by simp
theorem GA {t e:av} {size bytes:Nat} {v:ag} {L:List ag} (U:dU P t e size bytes=true) (O:bf size 1000=true) (Z:ev N σ x=v) (V:v.cells.size=size)
 (I:v.cells.toList=L) (k:∀ b w',b=w.heap.size→Nw w w'→w'.heap[b]? =some (.cells L.toArray e (0,0))→K (dw σ dst<|.slice (some ⟨b,0,none⟩) 1 1) w'):bW P N ⟨dst,.buildSlice t 1 #[(0,x)],ty,pos,af,g⟩ σ w K:=by
 subst I;refine lF (v:=fun b=> .slice (some ⟨b,0,none⟩) 1 1) (ob:= .cells v.cells e (0,0)) ?_ fun b w' h1 A C=>k b w' h1 A<|by simpa using C
 obtain ⟨hu,i,zv,hi,ac,h1,A,C,ad⟩:=px U;have ae:size≤1000:=by simpa using O
 have J:jb (fun i=>some (i*size,size)) ((lI size).map (zv.cells[· % zv.cells.size]!)) [(0,v)]=some v.cells:=by
  have E:((lI size).map (zv.cells[· % zv.cells.size]!)).size=size:=by simp
  generalize (lI size).map (zv.cells[· % zv.cells.size]!)=cs at E;simp only [jb,V];rw [if_neg (by rw [E]; simp)];congr 1;have key:∀ (l:List ag) (m:Nat) (cs:Array ag),m+l.length≤cs.size→∀ j,((l.zipIdx m).foldl (fun (cs:Array ag) (c,j)=>cs.setIfInBounds (0 *size+j) c) cs)[j]? =if j < m then cs[j]? else if j < m+l.length then l[j - m]? else cs[j]? :=by
   intro l
   induction l with
   | nil=>intro m cs hm j; simp; intro h1 A; omega
   | cons c l ih=>
     intro m cs hm j;simp only [FH,jc,dC] at hm ⊢;rw [ih (m+1) _ (by simp; omega)];simp only [uS,cz,rB];by_cases h1:j < m
     · rw [if_pos ab,if_pos h1,if_neg ab]
     · rw [if_neg h1];by_cases A:j=m
       · subst A;rw [if_pos ab,if_pos rfl,if_pos ab,if_pos ab];simp
       · rw [if_neg ab];by_cases C:j < m+1 +l.length
         · rw [if_pos C,if_pos ab];obtain ⟨q,M⟩:∃ q,j - m=q+1:=⟨j - m - 1,ab⟩
           rw [M,jd,show j - (m+1)=q from by omega]
         · rw [if_neg C,if_neg ab,if_neg ab]
  apply Ev;intro j;have :=key v.cells.toList 0 cs (by simp; omega) j;rw [show (v.cells.zipIdx.foldl (fun (cs:Array ag) (c,j)=>cs.setIfInBounds (0 *size+j) c) cs)=((v.cells.toList.zipIdx 0).foldl (fun (cs:Array ag) (c,j)=>cs.setIfInBounds (0 *size+j) c) cs) from by
   rw [← Array.foldl_toList]; simp [Array.toList_zipIdx]]
  rw [this];simp only [Nat.not_lt_zero,if_false,cz,Nat.sub_zero,lH,Array.getElem?_toList];split
  · rfl
  · rw [ui ab,ui ab]
 simp only [execOp,rE,iE,bB hu,hZ,sizeOf,dj hi,kH,h1,Nat.one_mul,rM,zeroValue,ac,List.map_toArray,dG,List.map_nil,Z,J];rw [if_neg (by rw [show (2:Nat) ^ 24=16777216 from rfl]; omega),if_neg ab];simp [newRow]
theorem zQ {t e:av} {size bytes:Nat} {v:ag} {L:List ag} (J:dU P t e size bytes=true) (I:bf size 1000=true) (O:ev N σ x=v) (M:v.cells.size=size)
 (E:v.cells.toList=L) (k:∀ b w',b=w.heap.size→Nw w w'→az w'.heap b L→K (dw σ dst<|.slice (some ⟨b,0,none⟩) 1 1) w'):bW P N ⟨dst,.buildSlice t 1 #[(0,x)],ty,pos,af,g⟩ σ w K:=
 GA J I O M E fun b w' h1 A C=>k b w' h1 A ⟨_,C⟩
theorem nn {v:ag} (h:v.oneCell'=true):v.cells= #[v]:=by cases v <;> first | rfl | (cases h; done)
theorem A9 {loc:Nat→Option (Nat×Nat)} (C:∀ i,loc i=some (i*1,1)):∀ (rest pre A:List ag),A.length=rest.length→rest.all fu=true→
 jb loc (pre++A).toArray ((rest.zipIdx pre.length).map fun q=>(q.2,q.1))=some (pre++rest).toArray
 | [],pre,A,hl,_=>by
   rw [jF hl]; rfl
 | v::r,pre,A,hl,h1=>by
   cases A with
   | nil=>simp at hl
   | cons z A=>
     rw [pU,a0] at h1;have E:=nn h1.1;have ih:=A9 C r (pre++ [v]) A (by simpa using hl) h1.2;simp only [FH,dG,jb,C,E];rw [if_neg (by simp)];simp only [bG,og,List.append_assoc,List.singleton_append] at ih;rw [← ih];simp
theorem GB {t e bytes n:Nat} {ps:Array (Nat×aW)} {L:List ag} (I:dU P t e 1 bytes=true) (hp:ps.toList.map (fun p=>(p.1,ev N σ p.2))=(L.zipIdx 0).map fun q=>(q.2,q.1)) (h1:L.all fu=true) (hn:L.length=n) (A:(bf n 1000 && aE 0 n)=true)
 (k:∀ b w',b=w.heap.size→Nw w w'→w'.heap[b]? =some (.cells L.toArray e (0,0))→K (dw σ dst<|.slice (some ⟨b,0,none⟩) n n) w'):bW P N ⟨dst,.buildSlice t n ps,ty,pos,af,g⟩ σ w K:=by
 subst hn;refine lF (v:=fun b=> .slice (some ⟨b,0,none⟩) L.length L.length) (ob:= .cells L.toArray e (0,0)) ?_ k;obtain ⟨hu,i,zv,hi,J,C,O,U,V⟩:=px I;simp only [a0] at A;have Z:L.length≤1000:=by simpa using A.1
 have ac:0 < L.length:=by have :=bN A.2; omega
 have E:jb (fun i=>some (i*1,1)) ((lI<|L.length*1).map (zv.cells[· % zv.cells.size]!)) (ps.toList.map fun p=>(p.1,ev N σ p.2))=some L.toArray:=by
  rw [hp];have M:((lI<|L.length*1).map (zv.cells[· % zv.cells.size]!)).toList.length=L.length:=by simp
  have :=A9 (loc:=fun i=>some (i*1,1)) (fun _=>rfl) L [] ((lI<|L.length*1).map (zv.cells[· % zv.cells.size]!)).toList M h1;rw [p7,p7,yR] at this;exact this
 simp only [execOp,rE,iE,bB hu,hZ,sizeOf,dj hi,kH,C,rM,zeroValue,J,ja,E];rw [if_neg (by rw [show (2:Nat) ^ 24=16777216 from rfl]; omega),if_neg ab];simp [newRow]
theorem jO {t e:av} {bytes:Nat} {v:ag} (A:dU P t e 1 bytes=true) (C:ev N σ x=v) (h1:v.oneCell'=true)
 (k:∀ b w',b=w.heap.size→Nw w w'→az w'.heap b [v]→K (dw σ dst<|.slice (some ⟨b,0,none⟩) 1 1) w'):bW P N ⟨dst,.buildSlice t 1 #[(0,x)],ty,pos,af,g⟩ σ w K:=
 zQ A rfl C (by rw [nn h1]; rfl) (by rw [nn h1]) k
theorem oC {t e:av} {size bytes:Nat} {L:List ag} (E:dU P t e size bytes=true) (C:bf size 1000=true) (I:ev N σ x= .agg L.toArray) (A:L.length=size)
 (k:∀ b w',b=w.heap.size→Nw w w'→az w'.heap b L→K (dw σ dst<|.slice (some ⟨b,0,none⟩) 1 1) w'):bW P N ⟨dst,.buildSlice t 1 #[(0,x)],ty,pos,af,g⟩ σ w K:=
 zQ E C I (by simpa [pS] using A) (by simp [pS]) k
theorem mS {e:av} {L:List ag} (A:ev N σ x= .agg L.toArray) (k:∀ b w',b=w.heap.size→Nw w w'→az w'.heap b L→K (dw σ dst<|.pointer<|some ⟨b,0,none⟩) w'):
 bW P N ⟨dst,.box e x,ty,pos,af,g⟩ σ w K:=bx A (by simp [pS]) k
theorem sg {e:av} {L:List ag} (E:ev N σ x= .agg L.toArray) (k:∀ b w',b=w.heap.size→Nw w w'→w'.heap[b]? =some (.cells L.toArray e (0,0))→K (dw σ dst<|.pointer<|some ⟨b,0,none⟩) w'):
 bW P N ⟨dst,.box e x,ty,pos,af,g⟩ σ w K:=by
 refine lF (v:=fun b=> .pointer<|some ⟨b,0,none⟩) (ob:= .cells L.toArray e (0,0)) ?_ fun b w' h1 A C=>k b w' h1 A C;simp [execOp,yV,E,newVar,newRow,pS]
theorem sc {l:List ag} (h:l.all fu=true):∀ u∈l,u.oneCell'=true :=Fg.1 h
theorem cU {t b off :Nat} {e:av} {L:List ag} {v:ag} (A:cC P t=some 1) (ad:ev N σ x= .pointer (some ⟨b,off,none⟩)) (ae:ev N σ y=v) (h1:v.oneCell'=true) (hb:w.heap[b]? =some (.cells L.toArray e (0,0))) (V:off < L.length)
 (k:∀ w',Md (fun k=>k=b) w w'→w'.heap[b]? =some (.cells (L.set off v).toArray e (0,0))→K σ w'):bW P N ⟨none,.store t x y,ty,pos,af,g⟩ σ w K:=by
 have E:v.cells= #[v]:=by cases v <;> first | rfl | (cases h1; done)
 have I:w.cell? ⟨b,off,none⟩=some L[off]:=by rw [jR,bt hb]; simp [V]
 have J:w.frozen? ⟨b,off,none⟩=false :=by simp only [World.frozen?,show w.heap[b]? =_ from hb]; simp
 unfold cC at A;simp only [gM] at A;obtain ⟨i,hi,ab⟩:=A;have C:(⟨b,off,none⟩:bL).add 0=⟨b,off,none⟩:=rfl;have Z:(execOp (ev N σ) ⟨none,.store t x y,ty,pos,af,g⟩).run P w= .ok .skip (w.setCell ⟨b,off,none⟩ v):=by
  simp [execOp,yY,ad,ae,n6,storeVar,E,sizeOf,dj hi,ab,storeCells,C,run_store P w _ v _ h1,I,J]
 unfold bW gI;rw [dt,Z];refine ⟨σ,U,k _ ⟨U,U,by simp [Fb],fun k _ M=> ?_⟩ ?_⟩
 · exact Below.heap_setCell w _ v k M
 · have O:=(dq.1 hb).1;have ac:w.heap[b]= .cells L.toArray e (0,0):=(dq.1 hb).2;simp only [Fb];rw [nU (by simpa using O),Array.getElem_modify];simp [ac,List.setIfInBounds_toArray]
theorem st {t b off :Nat} {L:List ag} {v:ag} (J:cC P t=some 1) (E:ev N σ x= .pointer (some ⟨b,off,none⟩)) (I:ev N σ y=v) (h1:v.oneCell'=true) (hb:az w.heap b L) (C:off < L.length)
 (k:∀ w',Md (fun k=>k=b) w w'→az w'.heap b (L.set off v)→K σ w'):bW P N ⟨none,.store t x y,ty,pos,af,g⟩ σ w K:=
 let ⟨_,hb⟩:=hb
 cU J E I h1 hb C fun w' h1 A=>k w' h1 ⟨_,A⟩
theorem eb {t b off n:Nat} {e:av} {L vs:List ag} (A:cC P t=some n) (J:ev N σ x= .pointer (some ⟨b,off,none⟩)) (M:ev N σ y= .agg vs.toArray) (hn:vs.length=n) (h1:vs.all fu=true) (hb:w.heap[b]? =some (.cells L.toArray e (0,0))) (O:off+n≤L.length)
 (k:∀ w',Md (fun k=>k=b) w w'→w'.heap[b]? =some (.cells (L.take off++vs++L.drop (off+n)).toArray e (0,0))→K σ w'):bW P N ⟨none,.store t x y,ty,pos,af,g⟩ σ w K:=by
 unfold cC at A;simp only [gM] at A;obtain ⟨i,hi,I⟩:=A;have bo:=run_storeCells_at P b off e vs 0 L.toArray w hb (by simp; omega)<|sc h1;have E:(execOp (ev N σ) ⟨none,.store t x y,ty,pos,af,g⟩).run P w= .ok .skip (w.setRow b (L.take off++vs++L.drop (off+n)).toArray):=by
  simp [execOp,yY,J,M,n6,storeVar,pS,sizeOf,dj hi,I,hn,bo]
 unfold bW gI;rw [dt,E];exact ⟨σ,U,k _ ⟨U,U,by simp,fun k _ C=>setRow_other w b k _ C⟩<|setRow_heap w b _ _ e _ hb⟩
theorem rn {t b off n:Nat} {L vs:List ag} (A:cC P t=some n) (J:ev N σ x= .pointer (some ⟨b,off,none⟩)) (M:ev N σ y= .agg vs.toArray) (hn:vs.length=n) (h1:vs.all fu=true) (hb:az w.heap b L) (O:off+n≤L.length)
 (k:∀ w',Md (fun k=>k=b) w w'→az w'.heap b (L.take off++vs++L.drop (off+n))→K σ w'):bW P N ⟨none,.store t x y,ty,pos,af,g⟩ σ w K:=by
 obtain ⟨e,hb⟩:=hb;unfold cC at A;simp only [gM] at A;obtain ⟨i,hi,I⟩:=A;have bo:=run_storeCells_at P b off e vs 0 L.toArray w hb (by simp; omega)<|sc h1;have E:(execOp (ev N σ) ⟨none,.store t x y,ty,pos,af,g⟩).run P w= .ok .skip (w.setRow b (L.take off++vs++L.drop (off+n)).toArray):=by
  simp [execOp,yY,J,M,n6,storeVar,pS,sizeOf,dj hi,I,hn,bo]
 unfold bW gI;rw [dt,E];exact ⟨σ,U,k _ ⟨U,U,by simp,fun k _ C=>setRow_other w b k _ C⟩ ⟨e,setRow_heap w b _ _ e _ hb⟩⟩
theorem Gl {t ty e:av} {i:TypeInfo} {zv:ag} {B n m c:Nat} {v V:ag} {xs news:List ag} {ad:bL} {w':ah} (hu:P.underlying t=some (.slice e)) (hi:P.info? e=some i) (U:i.zero=some zv) (al:zv.cells.size=i.size) (aj:0 < i.size)
 (I:w.ownsRow B e i.size v n xs) (E:news.length=m*i.size) (J:∀ j u,news[j]? =some u→w.cell? (ad.add j)=some u) (h1:∀ u∈news,u.oneCell'=true) (L:n+m≤maxLen) (hb:(n+m)*i.bytes≤140737488355328)
 (hr:(ke #[t,t] ty #[v,.slice (some ad) m c]).run P w= .ok V w'):∀ k,V.ownBlock=some k→v.ownBlock=some k∨w.heap.size≤k:=by
 intro k A;have ao:n+m≤9223372036854775807:=by unfold maxLen at L; omega
 rcases I.2 with ⟨rfl,rfl⟩ | ⟨C,cap,cur,rfl,aq,ai,au,ar,ac,aw⟩
 · have ak:xs= []:=jF<|by simpa using I.1
   subst ak;obtain ⟨v2,ax,M,Z,_,_⟩:=run_append_own (P:=P) w w.heap.size t ty e i zv i.size i.bytes hu hi U rfl rfl al aj _ 0 [] (fv w w.heap.size e i.size) ad m c news E J h1 L hb (aQ _);rw [hr] at M;cases M;exact .inr (by
    rcases Z.2 with ⟨h,_⟩ | ⟨am,_,_,h,ap,_⟩
    · rw [h] at A; simp [gr] at A
    · rw [h] at A; simp only [gr,bK] at A; omega)
 · by_cases O:n+m≤cap
   · have ae:n*i.size+news.length≤cur.size:=by rw [E,ac,← Nat.add_mul]; exact om _ O
     rw [run_append_room (P:=P) w t ty e i hu hi C n cap cur ai ad m c news E J h1 O ae] at hr;cases hr;exact .inl A
   · have holds:∀ j u,xs[j]? =some u→w.cell? ((⟨C,0,none⟩:bL).add j)=some u:=I.cells (g:=C) rfl;rw [run_append_grow (P:=P) w t ty e i zv hu hi U ⟨C,0,none⟩ n cap xs I.1 holds ad m c news E J ab ab (growslice_fits ab hb)] at hr;cases hr;simp only [gr,bK] at A;exact .inr ab
theorem ap {t e size bytes B n m c:Nat} {v:ag} {xs news:List ag} {a:Option bL} (aq:dU P t e size bytes=true) (E:w.ownsRow B e size v n xs) (Z:ev N σ x=v) (ai:B≤w.heap.size)
 (ab:ev N σ y= .slice a m c) (L:a9 w.heap a news) (I:news.length=m*size) (h1:news.all fu=true) (hb:(n+m)*bytes≤140737488355328) (av:n+m≤9223372036854775807)
 (k:∀ A w',w'.ownsRow B e size A (n+m) (xs++news)→Md (fun k=>v.ownBlock=some k) w w'→(A= .slice none 0 0↔v= .slice none 0 0∧m=0)→(∀ k,A.ownBlock=some k→v.ownBlock=some k∨w.heap.size≤k)→K (dw σ dst A) w'):
 bW P N ⟨dst,.call ⟨.builtin .append,#[x,y],#[t,t]⟩,ty,pos,af,g⟩ σ w K:=by
 obtain ⟨hu,i,zv,hi,ac,V,J,ad,U⟩:=px aq;have M:n+m≤maxLen:=by unfold maxLen; omega
 by_cases hm:news= []
 · subst hm;have al:m=0:=by
    rcases Nat.mul_eq_zero.1 (I.symm.trans rfl) with h | h
    · exact h
    · omega
   subst al;have ao:(ke #[t,t] ty #[v,.slice a 0 c]).run P w= .ok v w:=by
    rcases E.2 with ⟨rfl,rfl⟩ | ⟨au,cap,cur,rfl,_,_,hle,_⟩
    · cases a <;> simp [ke,bB hu,sizeOf,dj hi,EJ,ur,loadCells,loadCellsFrom]
    · cases a <;> simp [ke,bB hu,sizeOf,dj hi,EJ,ur,loadCells,loadCellsFrom,hle,storeCells]
   refine hO (w':=w) (v:=v) ?_<|k v w (by simpa using E) (Md.refl _ _) (by simp) fun _ h=> .inl h;simp [execOp,resolve,invoke,builtin,Z,ab,ao]
 · have ha:=L.ok hm;have O:∀ j u,news[j]? =some u→w.cell? ((⟨bk a,fo a,none⟩:bL).add j)=some u:=fun j u hu=>by rw [gd,jR]; exact L.ax j u hu
   obtain ⟨A,w',hr,ae,C,ah⟩:=run_append_own (P:=P) w B t ty e i zv size bytes hu hi ac V J ad U v n xs E ⟨bk a,fo a,none⟩ m c news I O (sc h1) M hb ai;subst V J;have aj:=Gl hu hi ac ad U E I O (sc h1) M hb hr;refine hO (w':=w') (v:=A) ?_<|k A w' ae ⟨C.os,C.output,C.size,fun k ak am=>C.block k ak fun e=>am e.symm⟩ ah aj;have ar:ev N σ y= .slice (some ⟨bk a,fo a,none⟩) m c:=ab.trans<|congrArg (fun a=>cG a m c) ha;simp [execOp,resolve,invoke,builtin,Z,ar,hr]
theorem bE {t n len cap:Nat} {k:bA} {i:Int} {a:Option bL} (he:cY P t=some n) (A:ev N σ x= .slice a len cap) (C:ev N σ y= .int k i) (h0:0≤i∧i < len) (ha:a=some ⟨bk a,fo a,none⟩):
 (execOp (ev N σ) ⟨dst,.indexAddr t x y,ty,pos,af,g⟩).run P w= .ok (.value<|.pointer<|some ⟨bk a,fo a+i.toNat*n,none⟩) w:=
 ia he (by rw [A]; congr 1) C h0
end
theorem bR {F:Nat→Prop} {w w':ah} {B e size n:Nat} {v:ag} {xs:List ag} (h:w.ownsRow B e size v n xs) (hm:Md F w w') (A:∀ k,v.ownBlock=some k→¬F k):w'.ownsRow B e size v n xs:=by
 refine ⟨h.1,?_⟩;rcases h.2 with hn | ⟨g,cap,cur,rfl,hb,C,rest⟩
 · exact .inl hn
 · exact .inr ⟨g,cap,cur,U,hb,hm.ak C (A g U),rest⟩
section
variable {P:ar} {N:Fm} {σ:Nat→ag} {w:ah} {dst:Option Nat} {ty:av} {pos :String} {af:Array bQ} {g:Option (Nat×Bool)} {x y z:aW} {K:(Nat→ag)→ah→Prop}
theorem pD {t B e size n cap off j:Nat} {a:Option bL} {xs:List ag} {u:ag} (ad:w.ownsRow B e size (.slice a n cap) n xs) (aj:cC P t=some 1) (ah:ev N σ x= .pointer (some ⟨bk a,off,none⟩)) (ai:ev N σ y=u) (h1:u.oneCell'=true)
 (V:off =fo a+j) (ac:j < n*size)
 (k:∀ w',Md (fun k=>(cG a n cap).ownBlock=some k) w w'→w'.ownsRow B e size (.slice a n cap) n (xs.set j u)→K σ w'):bW P N ⟨none,.store t x y,ty,pos,af,g⟩ σ w K:=by
 obtain ⟨h0,h⟩:=ad;rcases h with ⟨h,rfl⟩ | ⟨A,ak,cur,h,E,O,hle,M,C,ae⟩
 · simp at ac
 · simp only [pT,true_and] at h;obtain ⟨rfl,rfl⟩:=h;have Z:off =j:=by rw [V]; simp [fo]
   subst Z;have hlen:off < cur.toList.length:=by
    have :=om size hle;rw [lH,C]; omega
   refine cU (L:=cur.toList) aj ah ai h1 (show w.heap[A]? =_ by simpa using O) hlen fun w' J I=>k w' (J.mono fun k _ ab=>by subst ab; rfl) ⟨by simpa using h0,.inr ⟨A,cap,_,U,E,I,hle,M,by simpa using C,?_⟩⟩;rw [← ae];simp only;rw [List.take_set]
end
theorem xH {w:ah} {B e size n:Nat} {v:ag} {xs:List ag} (h:w.ownsRow B e size v n xs):v.oneCell'=true :=by
 rcases h.2 with ⟨rfl,_⟩ | ⟨g,cap,cur,rfl,_⟩ <;> rfl
theorem di {w:ah} {B e size n:Nat} {v:ag} {xs:List ag} (h:w.ownsRow B e size v n xs):∃ a cap,v= .slice a n cap:=by
 rcases h.2 with ⟨rfl,rfl⟩ | ⟨g,cap,cur,rfl,_⟩
 · exact ⟨_,_,U⟩
 · exact ⟨_,_,U⟩
theorem bh {w w':ah} {B e size n:Nat} {v:ag} {xs:List ag} (h:w.ownsRow B e size v n xs) (hm:Wk w w'):w'.ownsRow B e size v n xs:=bR h hm fun _ _ x=>x
theorem cE {w:ah} {B e size n:Nat} {v:ag} {xs:List ag} (h:w.ownsRow B e size v n xs) {k:Nat} (A:v.ownBlock=some k):B≤k∧k < w.heap.size:=h.lt k A
theorem Wk.own {w0 w w':ah} {B e size n:Nat} {v:ag} {xs:List ag} (h:Wk w0 w) (A:w.ownsRow B e size v n xs) (hm:Md (fun k=>v.ownBlock=some k) w w') (E:w0.heap.size≤B):Wk w0 w':=
 Md.trans' h hm (fun k I C=>by have :=(cE A C).1; omega)
theorem tv {w:ah} {B e size n:Nat} {v:ag} {xs:List ag} (h:w.ownsRow B e size v n xs):∃ a cap,v= .slice a n cap∧a9 w.heap a xs∧n≤cap∧(∀ k,v.ownBlock=some k→a=some ⟨k,0,none⟩∧B≤k∧k < w.heap.size)∧(v.ownBlock=none→xs= []):=by
 rcases h.2 with ⟨rfl,rfl⟩ | ⟨g,cap,cur,rfl,hb,C,hle,_,_,E⟩
 · have :xs= []:=jF<|by simpa using h.1
   subst this;exact ⟨none,0,U,a9.nil _ _,aQ _,fun k A=>by simp [gr] at A,fun _=>rfl⟩
 · refine ⟨_,cap,U,⟨fun _=>rfl,fun j u hu=> ?_⟩,hle,fun k A=> ?_,fun A=>by simp [gr] at A⟩
   · show ax w.heap g (0 +j)=_;rw [cz,bt C];rw [← E,jg] at hu;split at hu
     · simpa using hu
     · cases hu
   · simp only [gr,bK] at A; subst A;exact ⟨U,hb,(dq.1 C).1⟩
theorem cw {w:ah} {B e size n cap:Nat} {a:Option bL} {xs:List ag} (h:w.ownsRow B e size (.slice a n cap) n xs):n≤cap∧a9 w.heap a xs:=by grind [tv]
theorem mr {w:ah} {B B' e size n:Nat} {v:ag} {xs:List ag} (h:w.ownsRow B e size v n xs) (C:B'≤B):w.ownsRow B' e size v n xs:=by
 refine ⟨h.1,?_⟩;rcases h.2 with h | ⟨g,cap,cur,h1,A,r⟩
 · exact .inl h
 · exact .inr ⟨g,cap,cur,h1,cn C A,r⟩
section
variable {P:ar} {N:Fm} {σ:Nat→ag} {w:ah} {dst:Option Nat} {ty:av} {pos :String} {af:Array bQ} {g:Option (Nat×Bool)} {x y z:aW} {K:(Nat→ag)→ah→Prop}
end
end Go.Hb
namespace Go.Hb
section
variable {P:ar} {md:n9} {ops:Array aC} {Q:bu→Act→ah→Prop} {S:ah→Prop} {r:Nat}
def lE (P:ar) (md:n9) (ops:Array aC) (Q:bu→Act→ah→Prop) (S:ah→Prop) (r:Nat):Nat→Array Bool→Act→ah→Prop
 | 0,listed,a,w=>dx md ops listed= []∧Q .normal a w
 | fuel+1,listed,a,w=>
   (dx md ops listed= []→Q .normal a w)∧
   ∀ i∈dx md ops listed,wpOp P ops Q i (fun A w'=>((listed.setIfInBounds i true).getD r false =false→S w')∧lE P md ops Q S r fuel (listed.setIfInBounds i true) A w') a w
theorem Eg:∀ (fuel:Nat) (listed:Array Bool) (a:Act) (w:ah),lE P md ops Q S r fuel listed a w→wpAny P md ops Q fuel listed a w
 | 0,_,_,_,h=>h
 | fuel+1,_,_,_,h=>⟨h.1,fun i hi=>wpOp_mono (fun A w' h'=>Eg fuel _ A w' h'.2)<|h.2 i hi⟩
theorem Nx {i:Nat} {E:aC} {v:ag} (hi:ops[i]? =some E) (aj:∀ (j:Nat) (o:aC) cs b,ops[j]? =some o→o.op≠.select cs b)
 (ao:∀ c a w,Q (.panic c) (a.put E.dst v) w→Q (.panic c) a w) (az:∀ o,ops[r]? =some o→∃ x∈o.after,dF md x=true∧x.on=i) (ar:i≠r):
 ∀ (fuel:Nat) (listed:Array Bool) (a:Act) (w:ah),
   (∀ j C,ops[j]? =some C→j≠i→listed.getD j true =false→(∀ x∈C.after,dF md x=true→x.on≠i)→E.apart ops C=true)→
   i∈dx md ops listed→YieldsIf P ops S E v a→S w→listed.getD r false =false→
   lE P md ops Q S r fuel (listed.setIfInBounds i true) (a.put E.dst v) w→lE P md ops Q S r (fuel+1) listed a w:=by
 intro fuel
 induction fuel with
 | zero=>
   intro listed a w _ hr O I _ H;refine ⟨fun h=>(by rw [h] at hr; cases hr),fun j L=> ?_⟩;by_cases A:j=i
   · subst A; exact O.wpOp hi I ⟨fun _=>I,H⟩
   · have :=ready_mono L A;rw [H.1] at this;cases this
 | succ fuel ih=>
   intro listed a w V hr O I ad H;refine ⟨fun h=>(by rw [h] at hr; cases hr),fun j L=> ?_⟩;by_cases A:j=i
   · subst A; exact O.wpOp hi I ⟨fun _=>I,H⟩
   · have h1:=H.2 j<|ready_mono L A;obtain ⟨ac,C,M,ap⟩:=mem_ready.1 L;have ai:∀ x∈C.after,dF md x=true→x.on≠i:=fun x U hb heq=>by
      have h1:=ap x U hb;have h0:=(mem_ready.1 hr).1;rw [heq] at h1;rcases dD i listed.size with h' | h'
      · simp [h'] at h0 h1; rw [h0] at h1; cases h1
      · simp [ui h'] at h1
     have ab:j≠r:=by
      rintro rfl;obtain ⟨x,U,hb,ay⟩:=az C M;exact ai x U hb ay
     have aw:(listed.setIfInBounds j true).getD r false =false :=by rw [getD_set_ne false ab]; exact ad
     have ae:((listed.setIfInBounds i true).setIfInBounds j true).getD r false =false :=by rw [getD_set_ne false ab,getD_set_ne false ar]; exact ad
     have am:=wpOp_putIf M (V j C M A ac ai) (fun cs b=>aj i E cs b hi) (fun cs b=>aj j C cs b M) ao O h1;have aq:∀ k ok,ops[k]? =some ok→k≠i→(listed.setIfInBounds j true).getD k true =false→
      (∀ x∈ok.after,dF md x=true→x.on≠i)→E.apart ops ok=true :=fun k ok au av ak ax=>by
      refine V k ok au av ?_ ax;by_cases Z:j=k
      · subst Z; exact ac
      · rw [getD_set_ne true Z] at ak; exact ak
     refine wpOp_mono (fun al w' J=>⟨fun _=>J.2.1 ae,ih (listed.setIfInBounds j true) al w' aq (ready_mono hr<|Ne.symm A) J.1 (J.2.1 ae) aw ?_⟩) am;rw [yQ _ _ A];exact J.2.2
end
section
variable {P:ar} {N:Fm} {ops:Array aC} {Q:bu→(Nat→ag)→ah→Prop} {σ:Nat→ag} {w:ah} {S:ah→Prop} {r fuel:Nat} {listed:Array Bool}
 {d':Option Nat} {d:Nat} {op:Op} {ty:av} {pos :String} {af:Array bQ} {v:ag}
def cr (P:ar) (N:Fm) (ops:Array aC) (Q:bu→(Nat→ag)→ah→Prop) (S:ah→Prop) (r fuel:Nat) (listed:Array Bool) (σ:Nat→ag) (w:ah):Prop :=
 lE P .any ops (lift N Q) S r fuel listed (act N σ) w
theorem lj {id:Nat} {l:List aC} (S:ah→Prop) (r:Nat) (hr:ks N.r l=true) (hm:P.follows .mixedOrders=true) (A:S w.drew) (h:cr P N l.toArray Q S r l.length (nV l.length false) σ w.drew):bw P N (.region id l.toArray true) Q σ w:=by
 exact zE hr hm<|Eg _ _ _ _<|by rw [eM]; exact h
def oP (F:List Nat) (ops:Array aC) (listed:Array Bool) (r i:Nat):Bool:=
 eI F ops listed i && !(listed.getD r false) && i !=r && (match ops[r]? with | some o=>o.after.toList.any (fun x=>dF .any x && x.on==i) | none=>false)
theorem lq (i:Nat) (hi:ops[i]? =some ⟨some d,op,ty,pos,af,none⟩) (C:oP N.F ops listed r i=true)
 (O:∀ w,S w→(execOp (ev N σ) ⟨some d,op,ty,pos,af,none⟩).run P w= .ok (.value v) w) (A:S w)
 (k:cr P N ops Q S r fuel (listed.setIfInBounds i true) (aV σ d v) w):cr P N ops Q S r (fuel+1) listed σ w:=by
 simp only [oP,eI,a0,jB,bne_iff_ne,ne_eq] at C;obtain ⟨⟨⟨⟨⟨⟨I,J⟩,hf3⟩,hfF⟩,hf4⟩,hf5⟩,hf6⟩:=C;rw [hi] at hfF;refine Nx hi (y9 I) (fun c a w=>ni hfF c a w) (fun o L=> ?_) hf5 fuel listed _ w (y8 hi J) (by simpa using hf3) (.inl ⟨fq _ rfl _,fun w A=> ?_⟩) A hf4 ?_ (v:=v)
 · rw [L] at hf6;simp only [Fh,a0,beq_iff_eq] at hf6;obtain ⟨x,M,h1,E⟩:=hf6;exact ⟨x,uk.1 M,h1,E⟩
 · rw [dt]; exact O w A
 · rw [eO]; exact k
theorem BP (i:Nat) (hi:ops[i]? =some ⟨d',op,ty,pos,af,none⟩) (hr:gU ops listed i=true)
 (h:bW P N ⟨d',op,ty,pos,af,none⟩ σ w (fun σ w=>((listed.setIfInBounds i true).getD r false =false→S w)∧cr P N ops Q S r fuel (listed.setIfInBounds i true) σ w)):cr P N ops Q S r (fuel+1) listed σ w:=by
 have C:dx .any ops listed= [i]:=by simpa [gU] using hr
 refine ⟨fun h0=>absurd (C ▸ h0) (by simp),fun k A=> ?_⟩;rw [C] at A;obtain rfl :k=i:=by simpa using A
 unfold wpOp;simp only [hi];rw [if_pos (fq _ rfl _)];exact .inl<|pI h fun _ _ A=>A
theorem et (i:Nat) (hi:ops[i]? =some ⟨d',op,ty,pos,af,none⟩) (hr:gU ops listed i=true)
 (h:bW P N ⟨d',op,ty,pos,af,none⟩ σ w (fun σ w=>S w∧cr P N ops Q S r fuel (listed.setIfInBounds i true) σ w)):cr P N ops Q S r (fuel+1) listed σ w:=by grind [BP,Ek]
theorem js (i:Nat) (hi:ops[i]? =some ⟨d',op,ty,pos,af,none⟩) (hr:gU ops listed i=true) (C:(listed.setIfInBounds i true).getD r false =true)
 (h:bW P N ⟨d',op,ty,pos,af,none⟩ σ w (fun σ w=>cr P N ops Q S r fuel (listed.setIfInBounds i true) σ w)):cr P N ops Q S r (fuel+1) listed σ w:=
 BP i hi hr (Ek h fun _ _ A=>⟨fun h0=>absurd (h0.symm.trans C) cJ,A⟩)
theorem jt (hr:(dx .any ops listed).isEmpty=true) (h:Q .normal σ w):cr P N ops Q S r fuel listed σ w:=by
 have A:dx .any ops listed= []:=by simpa using hr
 cases fuel with
 | zero=>exact ⟨A,σ,rfl,h⟩
 | succ fuel=>exact ⟨fun _=>⟨σ,rfl,h⟩,by rw [A]; simp⟩
attribute [irreducible] cr
end
end Go.Hb
namespace Go.Hb
section
variable {P:ar} {md:n9} {ops:Array aC} {Q:bu→Act→ah→Prop} {S:ah→Prop} {r:Nat}
inductive mO (md:n9) (ops:Array aC) (i:Nat):Nat→Prop
 | one {r o e} :ops[r]? =some o→e∈o.after→dF md e=true→e.on=i→mO md ops i r
 | more {r o e} :ops[r]? =some o→e∈o.after→dF md e=true→mO md ops i e.on→mO md ops i r
def mN (md:n9) (ops:Array aC) (listed:Array Bool):Prop := ∀ (j:Nat) (o:aC),ops[j]? =some o→listed.getD j false =true→∀ e∈o.after,dF md e=true→listed.getD e.on false =true
theorem Bv {listed:Array Bool} {j k:Nat} (h:listed.getD k false =true):(listed.setIfInBounds j true).getD k false =true :=by
 by_cases e:j=k
 · subst e;by_cases A:j < listed.size
   · simp [A]
   · simp [A] at h
 · rw [getD_set_ne false e]; exact h
theorem mN.set {listed:Array Bool} {j:Nat} (h:mN md ops listed) (J:j∈dx md ops listed):mN md ops (listed.setIfInBounds j true):=by
 intro k o A E e he hb;obtain ⟨_,M,L,I⟩:=mem_ready.1 J;by_cases C:j=k
 · subst C;rw [L] at A; cases A;exact Bv<|I e he hb
 · rw [getD_set_ne false C] at E;exact Bv<|h k o A E e he hb
theorem mO.listed {listed:Array Bool} {i r:Nat} (J:mO md ops i r) (I:mN md ops listed) (ha:∀ o,ops[r]? =some o→∀ e∈o.after,dF md e=true→listed.getD e.on false =true):listed.getD i false =true :=by
 induction J with
 | one h1 A C E=>rw [← E]; exact ha _ h1 _ A C
 | more h1 A C _ ih=>exact ih fun o L e he hb=>I _ o L (ha _ h1 _ A C) e he hb
theorem Nv {i:Nat} {C:aC} {v:ag} (hi:ops[i]? =some C) (al:∀ (j:Nat) (o:aC) cs b,ops[j]? =some o→o.op≠.select cs b)
 (aq:∀ c a w,Q (.panic c) (a.put C.dst v) w→Q (.panic c) a w) (ar:mO md ops i r) (av:i≠r):
 ∀ (fuel:Nat) (listed:Array Bool) (a:Act) (w:ah),mN md ops listed→
   (∀ j E,ops[j]? =some E→j≠i→listed.getD j true =false→(∀ x∈E.after,dF md x=true→x.on≠i)→C.apart ops E=true)→
   i∈dx md ops listed→YieldsIf P ops S C v a→S w→listed.getD r false =false→
   lE P md ops Q S r fuel (listed.setIfInBounds i true) (a.put C.dst v) w→lE P md ops Q S r (fuel+1) listed a w:=by
 intro fuel
 induction fuel with
 | zero=>
   intro listed a w _ _ hr O I _ H;refine ⟨fun h=>(by rw [h] at hr; cases hr),fun j J=> ?_⟩;by_cases A:j=i
   · subst A; exact O.wpOp hi I ⟨fun _=>I,H⟩
   · have :=ready_mono J A;rw [H.1] at this;cases this
 | succ fuel ih=>
   intro listed a w V Z hr O I ai H;refine ⟨fun h=>(by rw [h] at hr; cases hr),fun j J=> ?_⟩;by_cases A:j=i
   · subst A; exact O.wpOp hi I ⟨fun _=>I,H⟩
   · have h1:=H.2 j<|ready_mono J A;obtain ⟨ae,E,M,U⟩:=mem_ready.1 J;have ab:listed.getD i false =false :=by
      have h0:=(mem_ready.1 hr).1;rcases dD i listed.size with h' | h'
      · simpa [h'] using h0
      · simp [h'] at h0
     have aA:∀ x∈E.after,dF md x=true→x.on≠i:=fun x aB hb heq=>by
      have h1:=U x aB hb;rw [heq,ab] at h1; cases h1
     have ad:j≠r:=by
      rintro rfl;have :=ar.listed V fun o ak=>by rw [M] at ak; cases ak; exact U
      rw [ab] at this; cases this
     have ay:(listed.setIfInBounds j true).getD r false =false :=by rw [getD_set_ne false ad]; exact ai
     have aj:((listed.setIfInBounds i true).setIfInBounds j true).getD r false =false :=by rw [getD_set_ne false ad,getD_set_ne false av]; exact ai
     have ap:=wpOp_putIf M (Z j E M A ae aA) (fun cs b=>al i C cs b hi) (fun cs b=>al j E cs b M) aq O h1;have au:∀ k ok,ops[k]? =some ok→k≠i→(listed.setIfInBounds j true).getD k true =false→
      (∀ x∈ok.after,dF md x=true→x.on≠i)→C.apart ops ok=true :=fun k ok aw ax am az=>by
      refine Z k ok aw ax ?_ az;by_cases ac:j=k
      · subst ac; exact ae
      · rw [getD_set_ne true ac] at am; exact am
     refine wpOp_mono (fun ao w' L=>⟨fun _=>L.2.1 aj,ih (listed.setIfInBounds j true) ao w' (V.set J) au (ready_mono hr<|Ne.symm A) L.1 (L.2.1 aj) ay ?_⟩) ap;rw [yQ _ _ A];exact L.2.2
theorem Ny {i:Nat} {C:aC} {v:ag} (hi:ops[i]? =some C) (ae:∀ (j:Nat) (o:aC) cs b,ops[j]? =some o→o.op≠.select cs b)
 (al:∀ c a w,Q (.panic c) (a.put C.dst v) w→Q (.panic c) a w) (O:i≠r):
 ∀ (fuel:Nat) (listed:Array Bool) (a:Act) (w:ah),
   (∀ j E,ops[j]? =some E→j≠i→listed.getD j true =false→(∀ x∈E.after,dF md x=true→x.on≠i)→C.apart ops E=true)→
   i∈dx md ops listed→YieldsIf P ops (fun _=>True) C v a→(listed.getD r false =false→S w)→
   lE P md ops Q S r fuel (listed.setIfInBounds i true) (a.put C.dst v) w→lE P md ops Q S r (fuel+1) listed a w:=by
 intro fuel
 induction fuel with
 | zero=>
   intro listed a w _ hr L M H;refine ⟨fun h=>(by rw [h] at hr; cases hr),fun j J=> ?_⟩;by_cases A:j=i
   · subst A; exact L.wpOp hi trivial ⟨fun h=>M (by rw [getD_set_ne false O] at h; exact h),H⟩
   · have :=ready_mono J A;rw [H.1] at this;cases this
 | succ fuel ih=>
   intro listed a w Z hr L M H;refine ⟨fun h=>(by rw [h] at hr; cases hr),fun j J=> ?_⟩;by_cases A:j=i
   · subst A; exact L.wpOp hi trivial ⟨fun h=>M (by rw [getD_set_ne false O] at h; exact h),H⟩
   · have h1:=H.2 j<|ready_mono J A;obtain ⟨ad,E,U,am⟩:=mem_ready.1 J;have ap:listed.getD i false =false :=by
      have h0:=(mem_ready.1 hr).1;rcases dD i listed.size with h' | h'
      · simpa [h'] using h0
      · simp [h'] at h0
     have av:∀ x∈E.after,dF md x=true→x.on≠i:=fun x aw hb heq=>by
      have h1:=am x aw hb;rw [heq,ap] at h1; cases h1
     have ak:=wpOp_putIf U (Z j E U A ad av) (fun cs b=>ae i C cs b hi) (fun cs b=>ae j E cs b U) al L h1;have ao:∀ k ok,ops[k]? =some ok→k≠i→(listed.setIfInBounds j true).getD k true =false→
      (∀ x∈ok.after,dF md x=true→x.on≠i)→C.apart ops ok=true :=fun k ok aq ar ai au=>by
      refine Z k ok aq ar ?_ au;by_cases ac:j=k
      · subst ac; exact ad
      · rw [getD_set_ne true ac] at ai; exact ai
     have V:(listed.setIfInBounds i true).setIfInBounds j true =(listed.setIfInBounds j true).setIfInBounds i true :=yQ _ _ fun e=>A e.symm;have ab:(listed.setIfInBounds j true).getD r false =false→((listed.setIfInBounds i true).setIfInBounds j true).getD r false =false :=fun h=>by rw [V,getD_set_ne false O]; exact h
     refine wpOp_mono (fun aj w' I=>⟨fun h=>I.2.1 (ab h),ih (listed.setIfInBounds j true) aj w' ao (ready_mono hr<|Ne.symm A) I.1 (fun h=>I.2.1<|ab h) ?_⟩) ak;rw [← V];exact I.2.2
end
section
variable {P:ar} {N:Fm} {ops:Array aC} {Q:bu→(Nat→ag)→ah→Prop} {σ:Nat→ag} {w:ah} {S:ah→Prop} {r fuel:Nat} {listed:Array Bool}
 {d:Nat} {op:Op} {ty:av} {pos :String} {af:Array bQ} {v:ag}
def sw (ops:Array aC) (i:Nat):Nat→Nat→Bool
 | 0,_=>false
 | f+1,r=>match ops[r]? with | some o=>o.after.toList.any (fun e=>dF .any e && (e.on==i || sw ops i f e.on)) | none=>false
theorem HS {i:Nat} :∀ (f r:Nat),sw ops i f r=true→mO .any ops i r:=by
 intro f
 induction f with
 | zero=>intro r h; cases h
 | succ f ih=>
   intro r h;rw [sw] at h;split at h
   · rename_i o A;simp only [Fh,a0,nW,beq_iff_eq] at h;obtain ⟨e,he,hb,h⟩:=h;rcases h with h | h
     · exact .one A (uk.1 he) hb h
     · exact .more A (uk.1 he) hb<|ih _ h
   · cases h
def vn (ops:Array aC) (listed:Array Bool):Bool:=(fX ops.size).all fun j=> !listed.getD j false || match ops[j]? with | some o=>o.after.toList.all (fun e=> !dF .any e || listed.getD e.on false) | none=>true
theorem Hc (h:vn ops listed=true):mN .any ops listed:=by grind [vn,mN]
def wo (F:List Nat) (ops:Array aC) (listed:Array Bool) (r i:Nat):Bool:=eI F ops listed i && !(listed.getD r false) && i !=r && vn ops listed && sw ops i ops.size r
def m8 (F:List Nat) (ops:Array aC) (listed:Array Bool) (r i:Nat):Bool:=eI F ops listed i && i !=r
theorem B3 (i:Nat) (hi:ops[i]? =some ⟨some d,op,ty,pos,af,none⟩) (C:wo N.F ops listed r i=true)
 (J:∀ w,S w→(execOp (ev N σ) ⟨some d,op,ty,pos,af,none⟩).run P w= .ok (.value v) w) (A:S w)
 (k:cr P N ops Q S r fuel (listed.setIfInBounds i true) (aV σ d v) w):cr P N ops Q S r (fuel+1) listed σ w:=by
 simp only [wo,eI,a0,jB,bne_iff_ne,ne_eq] at C;obtain ⟨⟨⟨⟨⟨⟨⟨E,I⟩,hf3⟩,hfF⟩,hf4⟩,hf5⟩,hf6⟩,hf7⟩:=C;rw [hi] at hfF;unfold cr at*;refine Nv hi (y9 E) (fun c a w=>ni hfF c a w) (HS _ _ hf7) hf5 fuel listed _ w (Hc hf6) (y8 hi I) (by simpa using hf3) (.inl ⟨fq _ rfl _,fun w A=> ?_⟩) A hf4 ?_ (v:=v)
 · rw [dt]; exact J w A
 · rw [eO]; exact k
theorem qR (i:Nat) (hi:ops[i]? =some ⟨some d,op,ty,pos,af,none⟩) (A:m8 N.F ops listed r i=true)
 (J:∀ w,(execOp (ev N σ) ⟨some d,op,ty,pos,af,none⟩).run P w= .ok (.value v) w) (C:listed.getD r false =false→S w)
 (k:cr P N ops Q S r fuel (listed.setIfInBounds i true) (aV σ d v) w):cr P N ops Q S r (fuel+1) listed σ w:=by
 simp only [m8,eI,a0,bne_iff_ne,ne_eq] at A;obtain ⟨⟨⟨⟨E,I⟩,hf3⟩,hfF⟩,hf5⟩:=A;rw [hi] at hfF;unfold cr at*;refine Ny hi (y9 E) (fun c a w=>ni hfF c a w) hf5 fuel listed _ w (y8 hi I) (by simpa using hf3) (.inl ⟨fq _ rfl _,fun w _=> ?_⟩) C ?_ (v:=v)
 · rw [dt]; exact J w
 · rw [eO]; exact k
end
end Go.Hb
namespace Go.Hb
def DZ:Nat→Nat→List UInt8
 | 0,n=> [e9 n]
 | f+1,n=>if n < 128 then [e9 n] else e9 (n % 128 +128)::DZ f (n / 128)
def MD (n:Nat):List UInt8:=DZ n n
def frame:List (List UInt8)→List UInt8
 | []=> []
 | r::l=>MD r.length++(r++frame l)
theorem DP {α:Type} (l:List α) (i:Nat) (d:α) (h:i < l.length):l.take (i+1)=l.take i++ [l.getD i d]:=by simp_all
end Go.Hb
namespace Go.Hb
def U8 (l:List UInt8):List ag:=l.map fun b=>aZ .u8 b.toNat
theorem oB (l:List UInt8):(U8 l).length=l.length:=by simp [U8]
theorem r6 (a b:List UInt8):U8 (a++b)=U8 a++U8 b:=by simp [U8]
def mT (P:ar) (t e u:av):Bool:=
 dU P t e 1 1 && (match P.underlying e with | some (.int .u8)=>true | _=>false) && (match P.underlying u with | some .string=>true | _=>false) &&
  (match P.info? e with | some i=>(match i.zero with | some (.int .u8 0)=>true | _=>false) | none=>false)
theorem GO {P:ar} {t e u:av} (h:mT P t e u=true):
 dU P t e 1 1=true∧P.underlying e=some (.int .u8)∧P.underlying u=some .string∧∃ i,P.info? e=some i∧i.zero=some (.int .u8 0):=by grind [mT,dU]
section
variable {P:ar} {N:Fm} {σ:Nat→ag} {w:ah} {dst:Option Nat} {ty:av} {pos :String} {af:Array bQ} {g:Option (Nat×Bool)} {x y z:aW} {K:(Nat→ag)→ah→Prop}
theorem foldl_push (l:List UInt8) (r:ByteArray):(l.map fun b=>(b.toNat:Int)).foldl (fun r n=>r.push<|e9 n.toNat) r=⟨r.data++l.toArray⟩:=by
 induction l generalizing r with
 | nil=>simp
 | cons b l ih=>
   simp only [dG,jc];rw [ih];apply ByteArray.ext;simp [ByteArray.push]
theorem qt {t e u n c:Nat} {a:Option bL} {l:List UInt8} (h:mT P t e u=true) (O:ev N σ x= .slice a n c) (A:a9 w.heap a (U8 l)) (C:l.length=n):
 (execOp (ev N σ) ⟨dst,.convert t u x,ty,pos,af,g⟩).run P w= .ok (.value<|str l) w:=by
 obtain ⟨h1,E,I,_⟩:=GO h;obtain ⟨hu,_⟩:=px h1;have J:(EP<|.slice a n c).run P w= .ok (str l) w:=by
  by_cases he:l= []
  · subst he;cases a with
    | none=>simp [EP,str]; rfl
    | some a=>
      subst C;have :=run_bytesToString (P:=P) w a 0 c []<|by simp [loadCells,loadCellsFrom]
      exact this.trans U
  · have ha:=A.ok<|by simpa [U8] using he
    have M:(loadCells ⟨bk a,fo a,none⟩ n).run P w= .ok ((l.map fun b=>(b.toNat:Int)).map<|aZ .u8).toArray w:=by
     subst C;have :=run_loadCells_list (P:=P) w ⟨bk a,fo a,none⟩ (U8 l) fun j v L=>by
      rw [gd,jR];exact A.ax j v L
     rw [oB] at this;rw [this];simp [U8]
    rw [ha,run_bytesToString w _ n c _ M,foldl_push];simp [str,ByteArray.empty,ByteArray.emptyWithCapacity];rfl
 simp [execOp,O,run_convert_bytes_string w t u e a n c hu E I,J]
theorem yA {at_:Array av} {v:ag} {a:Option bL} {n c:Nat} (A:ev N σ x= .slice a n c) (h:a=none∨c≠0):
 (execOp (ev N σ) ⟨dst,.call ⟨.builtin .unsafeSliceData,#[x],at_⟩,ty,pos,af,g⟩).run P w= .ok (.value<|.pointer a) w:=by
 have _:=v;have :(Builtin.unsafeSliceData_ at_ ty #[.slice a n c]).run P w= .ok (.pointer a) w:=by
  cases a with
  | none=>exact Lib.run_unsafeSliceData_nil w at_ ty n c
  | some a=>exact Lib.run_unsafeSliceData_row w at_ ty a n c<|h.resolve_left<|by simp
 simp [execOp,resolve,invoke,builtin,A,this]
def ptrTo (P:ar) (A e:av):Bool:=match P.underlying A with | some (.pointer e')=>e'==e && P.cellsOf e==1 | _=>false
theorem MI {I it e B n c:Nat} {a:Option bL} {l:List UInt8} {xs:List ag} (hp:ptrTo P I e=true) (L:ev N σ x= .pointer a) (M:ev N σ y= .int .i64 n) (E:w.ownsRow B e 1 (.slice a n c) n xs)
 (ak:xs=U8 l) (am:n≤9223372036854775807)
 (k:∀ w',Md (fun k=>(cG a n c).ownBlock=some k) w w'→w'.heap.size=w.heap.size→K (dw σ dst<|str l) w'):
 bW P N ⟨dst,.call ⟨.builtin .unsafeString,#[x,y],#[I,it]⟩,ty,pos,af,g⟩ σ w K:=by
 subst ak;have A:l.length=n:=by have :=E.1; simpa [U8] using this
 unfold ptrTo at hp;split at hp
 case h_2=>cases hp
 rename_i e' hu;simp only [a0,beq_iff_eq] at hp;obtain ⟨rfl,O⟩:=hp;by_cases he:l= []
 · subst he;obtain rfl :n=0:=A.symm;refine hO (w':=w) (v:=str []) ?_<|k w (Md.refl _ _) U;simp [execOp,resolve,invoke,builtin,L,M,Lib.run_unsafeString_none];rfl
 · rcases E.2 with ⟨h,h0⟩ | ⟨C,cap,cur,h,_,Z,hle,_,aj,ao⟩
   · subst h0; simp only [List.length_eq_zero_iff] at A; exact absurd A he
   · simp only [pT,true_and] at h;obtain ⟨rfl,rfl⟩:=h;have ai:w.shape? C=some (e',cur.size):=by simp [za,Z]
     have hr:=Lib.run_unsafeString_row (P:=P) w I it ty e' hu O C cur.size ai l he (by rw [A,aj]; omega) ab (fun j u hu=>by
      obtain ⟨ad,al,J,V,_,ac,_⟩:=tv E;simp only [pT,true_and] at J;obtain ⟨rfl,rfl⟩:=J;rw [gd,jR];exact V.ax j _ (by simp [U8,hu]))
     refine hO (w':=w.freeze ⟨C,0,none⟩ l.length) (v:=str l) ?_ (k _ ⟨?_,?_,?_,?_⟩ ?_)
     · simp [execOp,resolve,invoke,builtin,L,M,← A,hr,str]
     · unfold lL; split <;> rfl
     · unfold lL; split <;> rfl
     · unfold lL; split <;> simp
     · intro k ac ae;have ah:k≠C:=fun e=>ae<|by simp [gr,e]
       unfold lL;split
       · rfl
       · simp only [Array.getElem?_modify]; rw [if_neg (fun e=>ah e.symm)]
     · unfold lL; split <;> simp
def nz (P:ar) (A up e n:Nat):Bool:=
 (match P.underlying A with | some (.pointer e')=>e'==e | _=>false) && (match P.underlying up with | some .unsafePointer=>true | _=>false) && P.cellsOf e==n && aE 0 n && (match P.info? e with | some i=>i.size==n | _=>false)
theorem D4 {P:ar} {C up e n:Nat} (h:nz P C up e n=true):P.underlying C=some (.pointer e)∧P.underlying up=some .unsafePointer∧P.cellsOf e=n∧0 < n∧∃ i,P.info? e=some i∧i.size=n:=by
 simp only [nz,a0] at h;obtain ⟨⟨⟨⟨h1,A⟩,h3⟩,h4⟩,h5⟩:=h;refine ⟨?_,?_,by simpa using h3,mK (mL 0) (bN h4),?_⟩
 · split at h1
   · rename_i h; simp only [beq_iff_eq] at h1; rw [h,h1]
   · cases h1
 · split at A
   · rename_i h; exact h
   · cases A
 · split at h5
   · rename_i i hi; exact ⟨i,hi,by simpa using h5⟩
   · cases h5
theorem DS {A up e n b:Nat} {L:List ag} (h:nz P A up e n=true) (O:ev N σ x= .pointer (some ⟨b,0,none⟩)) (hb:w.heap[b]? =some (.cells L.toArray e (0,0))) (E:L.length=n):
 (execOp (ev N σ) ⟨dst,.convert A up x,ty,pos,af,g⟩).run P w= .ok (.value<|.pointer<|some ⟨b,0,none⟩) w:=by
 obtain ⟨h1,C,U,V,i,hi,J⟩:=D4 h;have M:w.shape? b=some (e,L.length):=by simp [za,hb]
 have I:¬n=0:=ab;simp [execOp,O,convert,bB h1,bB C,ES,ER,viewAt,M,cellsIn,E,sizeOf,dj hi,J,I]
theorem Bo {E up e n b:Nat} {L:List ag} (h:nz P E up e n=true) (ac:ev N σ x= .pointer (some ⟨b,0,none⟩)) (hb:w.heap[b]? =some (.cells L.toArray e (0,0))) (O:L.length=n):
 (execOp (ev N σ) ⟨dst,.convert up E x,ty,pos,af,g⟩).run P w= .ok (.value<|.pointer<|some ⟨b,0,none⟩) w:=by
 obtain ⟨h1,I,J,M,i,hi,V⟩:=D4 h;have Z:w.shape? b=some (e,L.length):=by simp [za,hb]
 have C:¬n=0:=ab;have U:liesAt P P.depth e (L.length / P.cellsOf e) 0 e 1=true :=by
  have A:P.depth=(2 *(P.types.size+Made.depth)+1)+1:=rfl;rw [A];simp only [liesAt,nW];left;rw [A];simp [rowAt,J,C,O,sameLayout,Nat.div_self M]
 simp [execOp,ac,convert,bB h1,bB I,ES,ER,viewAt,Z,variablesAt,sizeOf,dj hi,V,C,U]
theorem Ke {t J e:av} {a:bL} (hu:P.underlying t=some (.pointer e)) (C:(P.info? e).isSome=true) (E:ev N σ x= .pointer (some a)) (I:ev N σ y= .pointer (some a)):
 (execOp (ev N σ) ⟨dst,.binOp .neq t x y J,ty,pos,af,g⟩).run P w= .ok (.value<|.bool false) w:=by
 obtain ⟨i,hi⟩:=mM.1 C;have he:∀ d,(iC (d+1) t (.pointer<|some a)<|.pointer<|some a).run P w= .ok true w:=by
  intro d;simp [iC,bB hu,sizeOf,dj hi,sameAddr]
 have h:(binOp .neq t (.pointer<|some a)<|.pointer<|some a).run P w= .ok (.bool false) w:=by
  have :=he 9999;simp only [binOp];have A:(mG t (.pointer<|some a)<|.pointer<|some a).run P w= .ok true w:=this;simp [A]
 simp [execOp,E,I,eqGuard,h]
theorem Hd {f:ee} {args:Array aW} {A:Array av} {v:ag} (E:∀ v w,(callFunc f #[v]).run P w= .ok (.value v) w) (C:args.toList.map (ev N σ)= [v]):
 (execOp (ev N σ) ⟨dst,.call ⟨.value (.func f),args,A⟩,ty,pos,af,g⟩).run P w= .ok (.value v) w:=by
 have :args.map (ev N σ)= #[v]:=by rw [← rC,ja,C]
 simp [execOp,resolve,ev,mF,invoke,this,E]
structure Bd (T e:av) (w:ah) (b:Nat) (buf:ag) (l:List UInt8):Prop where
 ak:∃ pa,w.heap[b]? =some (.cells [ux pa,buf].toArray T (0,0))∧(pa=none∨pa=some ⟨b,0,none⟩)
 own:w.ownsRow (b+1) e 1 buf l.length (U8 l)
 nil:buf= .slice none 0 0↔l= []
def BF (b:Nat) (A:ag) (k:Nat):Prop :=k=b∨A.ownBlock=some k
end
theorem Bd.lt {T e b:Nat} {w:ah} {A:ag} {l:List UInt8} (h:Bd T e w b A l):b < w.heap.size:=let ⟨_,h,_⟩:=h.ak; (dq.1 h).1
theorem Bd.sM {T e b:Nat} {w:ah} {C:ag} {l:List UInt8} (h:Bd T e w b C l) {k:Nat} (A:BF b C k):b≤k∧k < w.heap.size:=by
 rcases A with rfl | A
 · exact ⟨aQ _,h.lt⟩
 · have :=h.own.lt k A; omega
theorem Bd.md {T e b:Nat} {F:Nat→Prop} {w w':ah} {A:ag} {l:List UInt8} (h:Bd T e w b A l) (hm:Md F w w') (C:∀ k,BF b A k→¬F k):Bd T e w' b A l:=by
 obtain ⟨⟨J,h1,E⟩,h3,h4⟩:=h;exact ⟨⟨J,hm.ak h1 (C b<|.inl U),E⟩,bR h3 hm (fun k I=>C k<|.inr I),h4⟩
end Go.Hb
namespace Go.Hb
def eA (P:ar) (t:av):Option (List (Nat×Nat)×List ag):=
 match P.info? t,P.underlying t with
 | some it,some (.struct fields)=>
   match it.zero,fields.toList.mapM (fun f=>(P.info? f.type).map fun i=>(f.offset,i.size)) with
   | some z,some pl=>some (pl,z.cells.toList)
   | _,_=>none
 | _,_=>none
def q7 (pl:List (Nat×Nat)):List ag→List (Nat×ag)→Option (List ag)
 | A,[]=>some A
 | A,(i,v)::r=>match pl[i]? with
   | some (off,s)=>if (s==1 && v.oneCell' && aE off A.length)=true then q7 pl (A.set off v) r else none
   | none=>none
theorem KN {pl:List (Nat×Nat)} {A L:List ag} {ps:List (Nat×ag)} (h:q7 pl A ps=some L):jb (pl.toArray[·]?) A.toArray ps=some L.toArray:=by
 induction ps generalizing A with
 | nil=>simp only [q7,bK] at h; subst h; rfl
 | cons p ps ih=>
   obtain ⟨i,v⟩:=p;simp only [q7] at h;split at h
   · rename_i off s I;split at h
     · rename_i C;simp only [a0,beq_iff_eq] at C;obtain ⟨⟨rfl,h1⟩,ho⟩:=C;have M:off < A.length:=bN ho;have J:v.cells= #[v]:=nn h1;have E:pl.toArray[i]? =some (off,1):=by simpa using I
       simp only [jb,E,J];rw [if_neg (by simp; omega),← ih h];simp
     · cases h
   · cases h
theorem sL {α:Type} {f:α→List ag} {m:Nat} (A:∀ a,(f a).length=m) (l:List α):(l.flatMap f).length=l.length*m:=by
 induction l with
 | nil=>simp
 | cons x l ih=>simp [ih,A,zm,qa]
theorem IC {α:Type} {f:α→List ag} {m:Nat} (A:∀ a,(f a).length=m) {l:List α} {j c:Nat} {a:α} (h:l[j]? =some a) (C:c < m):(l.flatMap f)[j*m+c]? =(f a)[c]? :=by
 induction l generalizing j with
 | nil=>simp at h
 | cons x l ih=>
   cases j with
   | zero=>
     simp only [je,bK] at h; subst h;rw [uS,cz,pV,List.getElem?_append_left (by rw [A]; exact C)]
   | succ j=>
     simp only [jd] at h;rw [pV,List.getElem?_append_right (by rw [A,zm]; omega),A,show (j+1)*m+c - m=j*m+c from by rw [zm]; omega];exact ih h
theorem l8 {α:Type} {f:α→List ag} {m:Nat} (A:∀ a,(f a).length=m) {h:Array Obj} {a:Option bL} {l:List α} {i:Nat} {e:α} (I:a9 h a (l.flatMap f)) (J:l[i]? =some e):∀ j,j < m→Hb.ax h (bk a) (fo a+i*m+j)=(f e)[j]? :=by
 intro j C;have h1:=IC A J C;have E:j < (f e).length:=by rw [A]; exact C
 rw [bC E] at h1 ⊢;rw [Nat.add_assoc]; exact I.ax _ _ h1
theorem oM {α:Type} {f:α→List ag} {m:Nat} (A:∀ a,(f a).length=m) (hm:0 < m) {l:List α} (h:0 < l.length):l.flatMap f≠[]:=by
 intro e;have :=sL A l;rw [e] at this;have :0 < l.length*m:=Nat.mul_pos h hm;simp at*; omega
theorem Bg {α:Type} {f:α→List ag} (A:∀ a,(f a).all fu=true) (l:List α):(l.flatMap f).all fu=true :=by grind
section
variable {P:ar} {N:Fm} {σ:Nat→ag} {w:ah} {dst:Option Nat} {ty:av} {pos :String} {af:Array bQ} {g:Option (Nat×Bool)} {x y z:aW} {K:(Nat→ag)→ah→Prop}
theorem eG {t:av} {parts:Array (Nat×aW)} {pl:List (Nat×Nat)} {A L:List ag} {ps:List (Nat×ag)} (h:eA P t=some (pl,A)) (hp:parts.toList.map (fun p=>(p.1,ev N σ p.2))=ps) (C:q7 pl A ps=some L):
 (execOp (ev N σ) ⟨dst,.build t parts,ty,pos,af,g⟩).run P w= .ok (.value<|.agg L.toArray) w:=by
 unfold eA at h;split at h
 · rename_i it fields hi hu;split at h
   · rename_i z I E hm;simp only [bK,ig] at h;obtain ⟨rfl,rfl⟩:=h;have hb:P.built t (parts.map fun p=>(p.1,ev N σ p.2)).toList=some L.toArray:=by
      have :=KN C;simp only [yR] at this;simp only [E5,hi,hu,E,hm,ja,hp]; exact this
     simp [execOp,run_build w t _ _ hb]
   · cases h
 · cases h
theorem Gu {t:av} {parts:Array (Nat×aW)} {pl:List (Nat×Nat)} {A L:List ag} {ps:List (Nat×ag)} (h:eA P t=some (pl,A)) (hp:parts.toList.map (fun p=>(p.1,ev N σ p.2))=ps) (C:jb (pl.toArray[·]?) A.toArray ps=some L.toArray):
 (execOp (ev N σ) ⟨dst,.build t parts,ty,pos,af,g⟩).run P w= .ok (.value<|.agg L.toArray) w:=by
 unfold eA at h;split at h
 · rename_i it fields hi hu;split at h
   · rename_i z I E hm;simp only [bK,ig] at h;obtain ⟨rfl,rfl⟩:=h;have hb:P.built t (parts.map fun p=>(p.1,ev N σ p.2)).toList=some L.toArray:=by
      have :=C;simp only [yR] at this;simp only [E5,hi,hu,E,hm,ja,hp]; exact this
     simp [execOp,run_build w t _ _ hb]
   · cases h
 · cases h
end
end Go.Hb
namespace Go.Hb
section
variable {P:ar} {N:Fm} {σ:Nat→ag} {w:ah} {dst:Option Nat} {ty:av} {pos :String} {af:Array bQ} {g:Option (Nat×Bool)} {x y z:aW} {K:(Nat→ag)→ah→Prop}
theorem JV {zv:ag} (h1:zv.oneCell'=true) (n:Nat):madeCells zv.cells n=(dr n zv).toArray:=by
 rw [nn h1];apply Array.ext
 · simp [madeCells]
 · intro i A C;simp [madeCells,Nat.mod_one]
theorem gB {t e bytes n:Nat} {J I:bA} {zv:ag} (ae:dU P t e 1 bytes=true) (A:zeroOf P e=some (some [zv])) (h1:zv.oneCell'=true) (ah:ev N σ x= .int J n) (ai:ev N σ y= .int I n) (hb:bytes*n≤281474976710656) (C:n≤maxLen)
 (k:∀ b w',b=w.heap.size→Nw w w'→(∀ B,B≤b→w'.ownsRow B e 1 (.slice (some ⟨b,0,none⟩) n n) n (dr n zv))→K (dw σ dst<|.slice (some ⟨b,0,none⟩) n n) w'):bW P N ⟨dst,.makeSlice t x y,ty,pos,af,g⟩ σ w K:=by
 obtain ⟨hu,i,L,hi,E,ad,ac,al,ak⟩:=px ae;have aj:L.cells= #[zv]:=by
  unfold zeroOf at A;simp only [hi,E,fG,bK] at A;exact rC.1<|by simpa using A
 refine lF (v:=fun b=> .slice (some ⟨b,0,none⟩) n n) (ob:= .cells (dr n zv).toArray e (0,0)) ?_ fun b w' M O V=>k b w' M O fun B Z=>⟨by simp,.inr ⟨b,n,_,U,Z,V,aQ _,C,by simp,by simp⟩⟩
 have hr:=run_make (P:=P) w t e i L hu hi E J I n n ab (Int.le_refl _) (by rw [ac,← Int.natCast_mul]; omega)<|by unfold maxLen at C; omega
 rw [aj,ad,Nat.mul_one,Int.toNat_natCast,show madeCells #[zv] n=(dr n zv).toArray by rw [← JV h1,nn h1]] at hr;simp [execOp,ah,ai,hr]
end
end Go.Hb
namespace Go.Hb
section
variable {P:ar} {N:Fm} {σ:Nat→ag} {w:ah} {dst:Option Nat} {ty:av} {pos :String} {af:Array bQ} {g:Option (Nat×Bool)} {x y z:aW}
theorem G7 {t n len cap i:Nat} {a:Option bL} {k I:bA} (he:cY P t=some n) (A:ev N σ x= .slice a len cap) (C:ev N σ y= .int k (i:Nat)) (E:ev N σ z= .int I (i:Nat)) (h:i≤cap):
 (execOp (ev N σ) ⟨dst,.slice t x none (some y) (some z),ty,pos,af,g⟩).run P w= .ok (.value<|.slice a i i) w:=by
 have h0:(0:Int)≤(i:Int):=ab;unfold cY at he;cases hd:P.underlying t with
 | none=>rw [hd] at he; cases he
 | some d=>
   rw [hd] at he;cases d <;> first | (cases he; done) | skip
   rename_i e;cases hi':P.info? e with
   | none=>simp [hi'] at he
   | some j=>
     have ha:(if i=0 then a else a.map (·.add 0))=a:=by
      split
      · rfl
      · cases a <;> simp [uo]
     simp only [execOp,n4,rG,A,C,E,fG,Option.map_none,kG,n5,asIntOf];simp [bB hd,dj hi',sizeOf,h0,ha];intro J; omega
end
end Go.Hb
namespace Go.Hb
def uW (h:Array Obj) (b:Nat) (kvs:List (ag×ag)):Prop := ∃ es clock,h[b]? =some (.map es clock)∧es.toList.map (fun e=>(e.key,e.val))=kvs
structure oy (P:ar) (k:av) (c9:ag→Prop):Prop where
 check:∀ em w v,c9 v→(kF em 10000 k v).run P w= .ok () w
 find:∀ w x es,c9 x→(∀ e∈es,c9 e.key)→
  ((nZ k x es).run P w= .ok none w∧∀ e∈es,e.key≠x)∨∃ j e,(nZ k x es).run P w= .ok (some (j,e.val)) w∧es[j]? =some e∧e.key=x
theorem GY {P:ar} {k:av} {em:Bool} {n:Nat} {a:Bool} (A:P.underlying k=some .bool) (w:ah):(kF em (n+1) k<|.bool a).run P w= .ok () w:=by
 simp only [kF,iE,bB A,hZ,kH]
theorem zY {P:ar} {k:av} {em:Bool} {n:Nat} {a:List UInt8} (A:P.underlying k=some .string) (w:ah):(kF em (n+1) k<|str a).run P w= .ok () w:=by
 simp only [str,kF,iE,bB A,hZ,kH]
def wQ (v:ag):Prop := ∃ (f:Bool) (s:List UInt8),v= .agg #[.bool f,str s]
def mR (P:ar) (k:av):Bool:=
 match P.underlying k with
 | some (.struct A)=>match A.toList with
   | [f1,f2]=>f1.name != "_" && f2.name != "_" && f1.offset==0 && f2.offset==1 && !P.stoodInHeld k &&
     (match P.underlying f1.type with | some .bool=>true | _=>false) && (match P.underlying f2.type with | some .string=>true | _=>false)
   | _=>false
 | _=>false
theorem tw {P:ar} {t:av} {cs:Array ag} {o:Nat} {v:ag} {d:TypeDesc} (C:P.underlying t=some d) (A:(match d with | .bool | .string=>true | _=>false)=true) (E:cs[o]? =some v) (w:ah):(part t cs o).run P w= .ok v w:=by
 cases d <;> first | (cases A; done) | simp [part,isAgg,bB C,E]
theorem vf {P:ar} {k:av} (h:mR P k=true):∃ A f1 f2,P.underlying k=some (.struct A)∧A.toList= [f1,f2]∧f1.name≠ "_" ∧f2.name≠ "_" ∧f1.offset=0∧f2.offset=1∧P.stoodInHeld k=false∧P.underlying f1.type=some .bool∧P.underlying f2.type=some .string:=by grind [mR]
theorem Ih {P:ar} {k:av} (h:mR P k=true) {f g:Bool} {s t:List UInt8} (w:ah):(mG k (.agg #[.bool f,str s])<|.agg #[.bool g,str t]).run P w= .ok (decide (f=g∧s=t)) w:=by
 obtain ⟨M,f1,f2,hu,ab,h1,O,U,V,Z,A,C⟩:=vf h;have E:P.fieldsOf k=M:=by simp [Program.fieldsOf,hu]
 have J:∀ (x:Bool) (y:List UInt8) (w:ah),(part f1.type #[.bool x,str y] f1.offset).run P w= .ok (.bool x) w:=fun x y w=>tw A rfl (by rw [U]; rfl) w;have L:∀ (x:Bool) (y:List UInt8) (w:ah),(part f2.type #[.bool x,str y] f2.offset).run P w= .ok (str y) w:=fun x y w=>tw C rfl (by rw [V]; rfl) w;unfold mG;show (iC (9998 +1 +1) k _ _).run P w=_;rw [run_equalIn_struct w (9998 +1) k _ _ (by rw [E]; exact hu) Z,E,ab];simp only [Op.eqFields,iE,rM,J,L,hZ,run_equalIn_bool' w 9998 f1.type f g A,h1,O,ne_eq,not_false_eq_true,if_true];by_cases I:f=g
 · subst I;have :(iC (9998 +1) f2.type (str s)<|str t).run P w= .ok (decide (s=t)) w:=by
    rw [str,str,run_equalIn_string w 9998 f2.type _ _ C,EL,EL];congr 1;by_cases bo:s=t
    · subst bo; simp
    · simp [bo]
   simp only [beq_self_eq_true,Bool.not_true,lJ,if_false,this,hZ,true_and];by_cases bo:s=t <;> simp [bo]
 · simp [I]
theorem GZ {P:ar} {k:av} {em:Bool} {n:Nat} (h:mR P k=true) {f:Bool} {s:List UInt8} (w:ah):(kF em (n+1 +1) k<|.agg #[.bool f,str s]).run P w= .ok () w:=by
 obtain ⟨U,f1,f2,hu,O,h1,J,L,M,V,A,C⟩:=vf h;have E:∀ (w:ah),(part f1.type #[.bool f,str s] f1.offset).run P w= .ok (.bool f) w:=fun w=>tw A rfl (by rw [L]; rfl) w;have I:∀ (w:ah),(part f2.type #[.bool f,str s] f2.offset).run P w= .ok (str s) w:=fun w=>tw C rfl (by rw [M]; rfl) w;rw [kF];simp only [iE,bB hu,hZ];rw [← Array.forIn_toList,O];simp only [List.forIn_cons,List.forIn_nil,iE,E,I,h1,J,ne_eq,not_false_eq_true,if_true,hZ,GY A,zY C,kH]
theorem Bb {P:ar} {k:av} (h:mR P k=true) {f:Bool} {s:List UInt8} (w:ah):∀ (es:List MapEntry) (i:Nat),(∀ e∈es,wQ e.key)→
 ((nY k (.agg #[.bool f,str s]) es i).run P w= .ok none w∧∀ e∈es,e.key≠.agg #[.bool f,str s])∨∃ j e,(nY k (.agg #[.bool f,str s]) es i).run P w= .ok (some (i+j,e.val)) w∧es[j]? =some e∧e.key= .agg #[.bool f,str s]
 | [],i,_=> .inl ⟨by simp [nY],fun _ h=>by simp at h⟩
 | e::es,i,hk=>by
   obtain ⟨g,t,ha⟩:=hk e<|by simp
   have he:=Ih h (f:=f) (g:=g) (s:=s) (t:=t) w;rw [← ha] at he;by_cases A:f=g∧s=t
   · obtain ⟨rfl,rfl⟩:=A;refine .inr ⟨0,e,?_,U,ha⟩;simp [nY,he]
   · have L:e.key≠.agg #[.bool f,str s]:=by
      rw [ha]; intro E; simp [str] at E; exact A ⟨E.1.symm,E.2.symm⟩
     rcases Bb (f:=f) (s:=s) h w es (i+1) (fun e he=>hk e<|by simp [he]) with ⟨h1,C⟩ | ⟨j,e',h1,C,J⟩
     · refine .inl ⟨by simp [nY,he,A,h1],fun e' I=> ?_⟩;rcases ef.1 I with rfl | I
       · exact L
       · exact C e' I
     · refine .inr ⟨j+1,e',?_,C,J⟩;simp only [nY,iE,he,A,hZ,decide_false,rM,lJ,if_false,h1]; rw [show i+1 +j=i+(j+1) from by omega]
theorem Jr {P:ar} {k:av} (h:mR P k=true):oy P k wQ where
 check em w v hv:=by obtain ⟨f,s,rfl⟩:=hv; exact GZ (n:=9998) h w
 find w x es hx hes:=by
  obtain ⟨f,s,rfl⟩:=hx;obtain ⟨J,f1,f2,hu,_⟩:=vf h;have I:es≠[]→(nZ k (.agg #[.bool f,str s]) es).run P w=(nY k (.agg #[.bool f,str s]) es).run P w:=by
   intro A;cases es with
   | nil=>exact absurd rfl A
   | cons e es=>simp [nZ,bB hu,n3,Instr.sameNow]
  by_cases A:es= []
  · subst A; exact .inl ⟨by simp [nZ,bB hu,n3],fun _ h=>by simp at h⟩
  · rw [I A];rcases Bb h w es 0 hes with h1 | ⟨j,e,h1,C,E⟩
    · exact .inl h1
    · exact .inr ⟨j,e,by rw [h1,cz],C,E⟩
def zeroV (P:ar) (e:av):Option ag:=(P.info? e).bind (·.zero)
theorem En {P:ar} {e:av} {z:ag} (h:zeroV P e=some z) (w:ah):(zeroValue e).run P w= .ok z w:=by
 unfold zeroV at h;simp only [Option.bind_eq_some_iff] at h;obtain ⟨i,hi,A⟩:=h;simp [zeroValue,dj hi,A]
section
variable {P:ar} {N:Fm} {σ:Nat→ag} {w:ah} {dst:Option Nat} {ty:av} {pos :String} {af:Array bQ} {g:Option (Nat×Bool)} {x y z:aW} {K:(Nat→ag)→ah→Prop}
variable {t k e:av} {c9:ag→Prop} {b:Nat} {kvs:List (ag×ag)} {kx v:ag}
theorem sG {es:Array MapEntry} (h:es.toList.map (fun e=>(e.key,e.val))=kvs) (A:∀ p∈kvs,c9 p.1):∀ e∈es.toList,c9 e.key:=by grind [e,he,rR]
theorem run_getObj_map {es:Array MapEntry} {c:Nat} (hr:w.heap[b]? =some (.map es c)):(getObj b).run P w= .ok (.map es c) w:=by
 simp [getObj,lK,hr]
theorem Kl {kvs:List (ag×ag)} (hn:(kvs.map gN).Nodup) {kx v C:ag} (h1:(kx,v)∈kvs) (A:(kx,C)∈kvs):v=C:=by
 induction kvs with
 | nil=>simp at h1
 | cons p kvs ih=>
   simp only [dG,List.nodup_cons] at hn;rcases ef.1 h1 with h1 | h1
   · rcases ef.1 A with A | A
     · rw [← h1] at A; cases A; rfl
     · rw [← h1] at hn; exact absurd (rR (f:=gN) A) hn.1
   · rcases ef.1 A with A | A
     · rw [← A] at hn; exact absurd (rR (f:=gN) h1) hn.1
     · exact ih hn.2 h1 A
theorem JK {ok:Bool} (V:P.underlying t=some (.map k e)) (E:oy P k c9) (hm:uW w.heap b kvs) (O:∀ p∈kvs,c9 p.1) (ab:ev N σ x= .map (some b)) (ac:ev N σ y=kx) (hi:c9 kx) (hn:(kvs.map gN).Nodup) (C:(kx,v)∈kvs):
 (execOp (ev N σ) ⟨dst,.lookup t x y ok,ty,pos,af,g⟩).run P w= .ok (.value (if ok then .tuple #[v,.bool true] else v)) w:=by
 obtain ⟨es,c,hr,he⟩:=hm;rcases E.find w kx es.toList hi (sG he O) with ⟨_,A⟩ | ⟨j,e',h1,A,J⟩
 · rw [← he] at C;obtain ⟨I,M,L⟩:=List.mem_map.1 C;cases L;exact absurd U<|A I M
 · have Z:(kx,e'.val)∈kvs:=by rw [← he,← J]; exact rR (f:=fun e:MapEntry=>(e.key,e.val))<|kK A
   have :=Kl hn C Z;subst this;cases ok <;> simp [execOp,EZ,bB V,ab,ac,run_getObj_map hr,E.check _ w kx hi,h1]
theorem JL {ok:Bool} {zv:ag} (J:P.underlying t=some (.map k e)) (O:zeroV P e=some zv) (A:oy P k c9) (hm:uW w.heap b kvs) (I:∀ p∈kvs,c9 p.1) (L:ev N σ x= .map (some b)) (M:ev N σ y=kx) (hi:c9 kx) (hn:∀ v,(kx,v)∉kvs):
 (execOp (ev N σ) ⟨dst,.lookup t x y ok,ty,pos,af,g⟩).run P w= .ok (.value (if ok then .tuple #[zv,.bool false] else zv)) w:=by
 obtain ⟨es,c,hr,he⟩:=hm;rcases A.find w kx es.toList hi (sG he I) with ⟨h1,_⟩ | ⟨j,e',h1,C,E⟩
 · cases ok <;> simp [execOp,EZ,bB J,L,M,run_getObj_map hr,A.check _ w kx hi,h1,En O]
 · exact absurd (by rw [← he,← E]; exact rR (f:=fun e:MapEntry=>(e.key,e.val))<|kK C)<|hn e'.val
end
end Go.Hb
namespace Go.Hb
def tag (w:ah) (k:Nat):Nat:=match w.heap[k]? with | some (.cells _ t _)=>t+2 | some (.map _ _)=>1 | _=>0
theorem rp {w:ah} {k t:Nat} {cs:Array ag} {z:Nat×Nat} (h:w.heap[k]? =some (.cells cs t z)):tag w k=t+2:=by unfold tag; rw [h]
theorem DN {w:ah} {B e size n k:Nat} {v:ag} {xs:List ag} (h:w.ownsRow B e size v n xs) (A:v.ownBlock=some k):tag w k=e+2:=by
 rcases h.2 with ⟨rfl,_⟩ | ⟨g,cap,cur,rfl,_,C,_⟩
 · simp [gr] at A
 · simp only [gr,bK] at A; subst A;exact rp C
def TF (w:ah) (L:List Nat) (F:Nat→Prop):Prop := ∀ k,F k→L.contains (tag w k)=true
theorem TF.no {w:ah} {L:List Nat} {F:Nat→Prop} (h:TF w L F) {k t:Nat} (C:tag w k=t) (A:L.contains t=false):¬F k:=by grind [TF,tag]
theorem TF.eq {w:ah} {L:List Nat} {b t:Nat} (E:tag w b=t) (C:L.contains t=true):TF w L (fun k=>k=b):=fun k A=>by
 subst A; rw [E]; exact C
theorem TF.own {w:ah} {L:List Nat} {B e size n:Nat} {v:ag} {xs:List ag} (h:w.ownsRow B e size v n xs) (C:L.contains (e+2)=true):TF w L (fun k=>v.ownBlock=some k):=fun k A=>by
 rw [DN h A]; exact C
theorem Md.zM {F:Nat→Prop} {w w':ah} {L:List Nat} {k t:Nat} {cs:Array ag} {z:Nat×Nat} (hm:Md F w w') (hT:TF w L F) (h:w.heap[k]? =some (.cells cs t z)) (A:L.contains (t+2)=false):w'.heap[k]? =some (.cells cs t z):=hm.ak h<|hT.no (rp h) A
theorem mq {F:Nat→Prop} {w w':ah} {L:List Nat} {B e size n:Nat} {v:ag} {xs:List ag} (h:w.ownsRow B e size v n xs) (hm:Md F w w') (hT:TF w L F) (C:L.contains (e+2)=false):w'.ownsRow B e size v n xs:=bR h hm fun _ A=>hT.no (DN h A) C
end Go.Hb
namespace Go.Hb
inductive TD | no | int (k:bA) | str | bool | ptr | dk (e n:Nat) | st (offs:List Nat)
def ll {α:Type} :List α→Nat→α→α
 | [],_,d=>d
 | a::_,0,_=>a
 | _::l,n+1,d=>ll l n d
def pE (T:List (List TD)) (t:Nat):TD:=ll (ll T (t / 16) []) (t % 16) .no
def dL:bA→Nat
 | .i8=>0 | .i16=>1 | .i32=>2 | .i64=>3 | .u8=>4 | .u16=>5 | .u32=>6 | .u64=>7
theorem nb {a b:bA} (h:aP (dL a) (dL b)=true):a=b:=by
 cases a <;> cases b <;> first | rfl | (cases h)
def tj (P:ar) (t:Nat):Nat→List Nat→Bool
 | _,[]=>true
 | f,n::l=>(match m6 P t f with | some m=>aP m n | none=>false) && tj P t (f+1) l
def yv (P:ar) (t:Nat):TD→Bool
 | .no=>true
 | .int k=>match P.underlying t with | some (.int A)=>aP (dL k) (dL A) | _=>false
 | .str=>match P.underlying t with | some .string=>true | _=>false
 | .bool=>match P.underlying t with | some .bool=>true | _=>false
 | .ptr=>match P.underlying t with | some (.pointer _)=>true | _=>false
 | .dk e n=>match P.underlying t,cY P t with | some (.slice e'),some n'=>aP e e' && aP n n' | _,_=>false
 | .st C=>tj P t 0 C
def tE (P:ar):Nat→List TD→Bool
 | _,[]=>true
 | t,d::l=>yv P t d && tE P (t+1) l
def jA (P:ar):Nat→List (List TD)→Bool
 | _,[]=>true
 | t,r::l=>tE P t r && jA P (t+16) l
theorem CS {P:ar} :∀ {l:List TD} {b j:Nat},tE P b l=true→yv P (b+j) (ll l j .no)=true
 | [],b,j,_=>rfl
 | d::l,b,0,h=>(pN.1 h).1
 | d::l,b,j+1,h=>by
   have :=CS (j:=j) (pN.1 h).2;rw [show b+(j+1)=b+1 +j from by omega]; exact this
theorem DM {P:ar} :∀ {T:List (List TD)} {b i:Nat},jA P b T=true→tE P (b+16 *i) (ll T i [])=true
 | [],b,i,_=>rfl
 | r::T,b,0,h=>(pN.1 h).1
 | r::T,b,i+1,h=>by
   have :=DM (i:=i) (pN.1 h).2;rw [show b+16 *(i+1)=b+16 +16 *i from by omega]; exact this
theorem yu {P:ar} {T:List (List TD)} (h:jA P 0 T=true) (t:Nat):yv P t (pE T t)=true :=by
 have :=CS (j:=t % 16)<|DM (i:=t / 16) h;rw [show 0 +16 *(t / 16)+t % 16=t from by omega] at this;exact this
theorem Cq {P:ar} {t:Nat} :∀ {l:List Nat} {b f n:Nat},tj P t b l=true→l[f]? =some n→m6 P t (b+f)=some n
 | [],b,f,n,_,h=>by simp at h
 | m::l,b,0,n,h,hn=>by
   have h1:=(pN.1 h).1;obtain rfl :m=n:=by simpa using hn
   split at h1
   · rename_i A hm; rw [Nat.add_zero,hm,bM h1]
   · cases h1
 | m::l,b,f+1,n,h,hn=>by
   have :=Cq (f:=f) (pN.1 h).2<|by simpa using hn
   rw [show b+(f+1)=b+1 +f from by omega]; exact this
section
variable {P:ar} {T:List (List TD)} (hT:jA P 0 T=true) {t:Nat}
include hT
theorem HH (h:pE T t= .str):P.underlying t=some .string:=by
 have :=yu hT t;rw [h] at this;change (match P.underlying t with | some .string=>true | _=>false)=true at this;split at this
 · assumption
 · cases this
theorem HF {e n:Nat} (h:pE T t= .dk e n):P.underlying t=some (.slice e)∧cY P t=some n:=by
 have :=yu hT t;rw [h] at this;change (match P.underlying t,cY P t with | some (.slice e'),some n'=>aP e e' && aP n n' | _,_=>false)=true at this;split at this
 · rename_i h1 A;simp only [a0] at this;rw [h1,A,bM this.1,bM this.2]; exact ⟨rfl,rfl⟩
 · cases this
theorem HG {l:List Nat} {f n:Nat} (h:pE T t= .st l) (hn:l[f]? =some n):m6 P t f=some n:=by
 have :=yu hT t;rw [h] at this;have :=Cq (show tj P t 0 l=true from this) hn;rwa [cz] at this
end
def K6 (k:bA) (n:Int):Prop :=match k with
 | .i64=> -9223372036854775808≤n∧n≤9223372036854775807
 | .u8=>0≤n∧n≤255
 | .i32=> -2147483648≤n∧n≤2147483647
 | .u32=>0≤n∧n≤4294967295
 | .u64=>0≤n∧n≤18446744073709551615
 | _=>False
theorem CR {k:bA} {n:Int} (h:K6 k n):k.wrap n=n:=by
 cases k <;> first | exact hJ h | exact yK h | exact yG h | exact Em h | exact gG h | exact h.elim
inductive oA | no | v (x:ag) | vc (x:ag) (c:Prop)
def tA (k:bA) (n:Int):oA:=match k with
 | .i64=> .vc (.int .i64 n)<|-9223372036854775808≤n∧n≤9223372036854775807
 | .u8=> .vc (.int .u8 n)<|0≤n∧n≤255
 | .i32=> .vc (.int .i32 n)<|-2147483648≤n∧n≤2147483647
 | .u32=> .vc (.int .u32 n)<|0≤n∧n≤4294967295
 | .u64=> .vc (.int .u64 n)<|0≤n∧n≤18446744073709551615
 | _=> .no
def wG (op:BinOp) (k:bA) (a b:Int):oA:=match op with
 | .lss=> .v<|.bool<|decide (a < b)
 | .leq=> .v<|.bool<|decide (a≤b)
 | .gtr=> .v<|.bool<|decide (b < a)
 | .geq=> .v<|.bool<|decide (b≤a)
 | .eql=> .v<|.bool<|decide (a=b)
 | .neq=> .v<|.bool<|decide (a≠b)
 | .add=>tA k<|a+b
 | .sub=>tA k<|a - b
 | _=> .no
def Dz (op:BinOp) (l m:List UInt8):oA:=match op with
 | .eql=> .v<|.bool<|decide (l=m)
 | .neq=> .v<|.bool<|decide (l≠m)
 | .add=> .vc (str<|l++m)<|l.length+m.length≤9223372036854775807
 | _=> .no
def kj (v:ag):oA:=match v with
 | .int k n=> .v<|.int k n
 | .bool b=> .v<|.bool b
 | .string ⟨⟨l⟩⟩=> .v<|str l
 | .pointer a=> .v<|.pointer a
 | .slice a n c=> .v<|.slice a n c
 | .map r=> .v<|.map r
 | .func f a b=> .v<|.func f a b
 | .nilFunc=> .v .nilFunc
 | .iface t v=> .v<|.iface t v
 | .nilIface=> .v .nilIface
 | .agg c=> .v<|.agg c
 | .tuple c=> .v<|.tuple c
 | _=> .no
theorem IF {v x:ag} (h:kj v= .v x):v=x:=by
 unfold kj at h;split at h <;> cases h <;> rfl
theorem IG {v x:ag} {c:Prop} (h:kj v= .vc x c):False:=by
 unfold kj at h;split at h <;> cases h
def oZ (T:List (List TD)) (N:Fm) (σ:Nat→ag) (o:Op):oA:=match o with
 | .move x=>kj<|ev N σ x
 | .assign x=>kj<|ev N σ x
 | .pick c x y=>match ev N σ c with
   | .bool true =>kj<|ev N σ x
   | .bool false =>kj<|ev N σ y
   | _=> .no
 | .nilCheck x=>match ev N σ x with
   | .pointer (some a)=> .v<|.pointer<|some a
   | _=> .no
 | .extract x i=>match ev N σ x with
   | .tuple ⟨vs⟩=>match vs[i]? with
     | some v=> .v v
     | none=> .no
   | _=> .no
 | .fieldAddr s x f=>match ev N σ x,pE T s with
   | .pointer (some ⟨b,off,none⟩),.st l=>match l[f]? with
     | some n=> .v<|.pointer<|some ⟨b,off+n,none⟩
     | none=> .no
   | _,_=> .no
 | .binOp op t x y _=>match ev N σ x,ev N σ y with
   | .int k a,.int k' b=>cond (aP (dL k)<|dL k') (wG op k a b) .no
   | .string ⟨⟨l⟩⟩,.string ⟨⟨m⟩⟩=>Dz op l m
   | _,_=> .no
 | .unOp .not _ x=>match ev N σ x with
   | .bool b=> .v<|.bool<|!b
   | _=> .no
 | .call ⟨.builtin .len,⟨[x]⟩,⟨[t]⟩⟩=>match ev N σ x,pE T t with
   | .string ⟨⟨l⟩⟩,.str=> .v<|.int .i64 l.length
   | .slice a n c,.dk _ _=> .v<|.int .i64 n
   | _,_=> .no
 | _=> .no
def xF (P:ar) (N:Fm) (σ:Nat→ag) (o:aC) (w:ah):oA→Prop
 | .no=>True
 | .v x=>(execOp (ev N σ) o).run P w= .ok (.value x) w
 | .vc x c=>c→(execOp (ev N σ) o).run P w= .ok (.value x) w
theorem sN {P:ar} {N:Fm} {σ:Nat→ag} {o:aC} {w:ah} {v:ag} (h:(execOp (ev N σ) o).run P w= .ok (.value v) w):xF P N σ o w (kj v):=by
 cases hf:kj v with
 | no=>trivial
 | v x=>rw [← IF hf]; exact h
 | vc x c=>exact (IG hf).elim
theorem tq {P:ar} {T:List (List TD)} (hT:jA P 0 T=true) {N:Fm} {σ:Nat→ag} (d:Option Nat) (o:Op) (ty:av) (pos :String) (af:Array bQ) (g:Option (Nat×Bool)) (w:ah):xF P N σ ⟨d,o,ty,pos,af,g⟩ w (oZ T N σ o):=by
 unfold oZ;split
 · exact sN mv
 · exact sN aR
 · split
   · exact sN<|nq<|by assumption
   · exact sN<|o6<|by assumption
   · trivial
 · split
   · exact nc<|by assumption
   · trivial
 · split
   · split
     · exact xt (by assumption)<|by simpa using by assumption
     · trivial
   · trivial
 · split
   · split
     · exact fa (HG hT (by assumption)<|by assumption)<|by assumption
     · trivial
   · trivial
 · split
   · rename_i k a E b A C;cases hk:aP (dL k) (dL E)
     · trivial
     · obtain rfl :=nb hk;show xF _ _ _ _ _ (wG _ _ _ _);unfold wG;split
       · exact lt A C
       · exact le A C
       · exact gt A C
       · exact ge A C
       · exact A0 A C
       · exact Ch A C
       · unfold tA; split <;> first | trivial | exact fun h=>ad A C<|CR h
       · unfold tA; split <;> first | trivial | exact fun h=>sb A C<|CR h
       · trivial
   · rename_i l m A C;unfold Dz;split
     · exact A2 A C
     · exact Cj A C
     · exact fun h=>cc A C h
     · trivial
   · trivial
 · split
   · exact no<|by assumption
   · trivial
 · split
   · exact BY (HH hT<|by assumption) U<|by assumption
   · exact xg (HF hT<|by assumption).1 U<|by assumption
   · trivial
 · trivial
inductive Pt | c (c:bH) | l (ops:Array aC) (l:List aC) | x (e:bu)
inductive Kn | sq (y:bH) | bk (id:Nat)
def eD (P:ar) (N:Fm):List Kn→(bu→(Nat→ag)→ah→Prop)→bu→(Nat→ag)→ah→Prop
 | [],Q=>Q
 | .sq y::st,Q=>gZ (fun σ w=>bw P N y (eD P N st Q) σ w)<|eD P N st Q
 | .bk id::st,Q=>kZ id<|eD P N st Q
@[reducible] def At (P:ar) (N:Fm) (Q:bu→(Nat→ag)→ah→Prop) (w:ah) (p:Pt) (st:List Kn) (σ:Nat→ag):Prop :=match p with
 | .c c=>bw P N c (eD P N st Q) σ w
 | .l ops l=>bP P N ops (eD P N st Q) l σ w
 | .x e=>eD P N st Q e σ w
inductive Out | no | at (p:Pt) (st:List Kn) (σ:Nat→ag) (c:Option Prop)
def andG (c:Prop):Option Prop→Option Prop
 | none=>some c
 | some d=>some<|c∧d
def optG:Option Prop→Prop
 | none=>True
 | some c=>c
theorem sd {c:Prop} {d:Option Prop} (h:optG (andG c d)):c∧optG d:=by
 cases d
 · exact ⟨h,trivial⟩
 · exact h
inductive F4 | no | go (p:Pt) (st:List Kn) (σ:Nat→ag) (c:Option Prop)
def stepG (T:List (List TD)) (N:Fm) (p:Pt) (st:List Kn) (σ:Nat→ag) (c:Option Prop):F4:=match p with
 | .x .normal=>match st with
   | .sq y::st=> .go (.c y) st σ c
   | .bk _::st=> .go (.x .normal) st σ c
   | []=> .no
 | .x .ret=>match st with
   | _::st=> .go (.x .ret) st σ c
   | []=> .no
 | .x (.exit i)=>match st with
   | .sq _::st=> .go (.x<|.exit i) st σ c
   | .bk j::st=>cond (aP i j) (.go (.x .normal) st σ c)<|.go (.x<|.exit i) st σ c
   | []=> .no
 | .x _=> .no
 | .c (.seq x y)=> .go (.c x) (.sq y::st) σ c
 | .c (.block id x)=> .go (.c x) (.bk id::st) σ c
 | .c .skip => .go (.x .normal) st σ c
 | .c .ret=> .go (.x .ret) st σ c
 | .c (.exit i)=> .go (.x<|.exit i) st σ c
 | .c (.region id ⟨l⟩ false)=>cond (ks N.r l) (.go (.l ⟨l⟩ l) st σ c) .no
 | .c (.cond x a b)=>match ev N σ x with
   | .bool true => .go (.c a) st σ c
   | .bool false => .go (.c b) st σ c
   | _=> .no
 | .c _=> .no
 | .l ops []=> .go (.x .normal) st σ c
 | .l ops (⟨some d,o,ty,pos,af,none⟩::r)=>match oZ T N σ o with
   | .v x=> .go (.l ops r) st (aV σ d x) c
   | .vc x c'=> .go (.l ops r) st (aV σ d x)<|andG c' c
   | .no=> .no
 | .l ops (⟨some d,o,ty,pos,af,some (j,want)⟩::r)=>match dT ops j with
   | some t=>cond (aE t N.n) (match σ t with
     | .bool b=>cond (b==want) (match oZ T N σ o with
       | .v x=> .go (.l ops r) st (aV σ d x) c
       | .vc x c'=> .go (.l ops r) st (aV σ d x)<|andG c' c
       | .no=> .no) (.go (.l ops r) st (aV σ d undef) c)
     | .tuple ⟨[]⟩=> .go (.l ops r) st (aV σ d undef) c
     | _=> .no) .no
   | none=> .no
 | .l ops _=> .no
def gW (T:List (List TD)) (N:Fm):Nat→Pt→List Kn→(Nat→ag)→Option Prop→Out
 | 0,p,st,σ,c=> .at p st σ c
 | n+1,p,st,σ,c=>match stepG T N p st σ c with
   | .go p st σ c=>gW T N n p st σ c
   | .no=> .no
section
variable {P:ar} {T:List (List TD)} {N:Fm} {Q:bu→(Nat→ag)→ah→Prop} {w:ah} {σ σ':Nat→ag} {p p':Pt} {st st':List Kn} {c c':Option Prop} {n:Nat}
theorem Mf (hT:jA P 0 T=true) (h:stepG T N p st σ c= .go p' st' σ' c') (A:optG c') (C:At P N Q w p' st' σ'):optG c∧At P N Q w p st σ:=by
 unfold stepG at h;split at h
 · split at h
   · cases h; exact ⟨A,tn C⟩
   · cases h; exact ⟨A,bn C⟩
   · cases h
 · split at h
   · rename_i k _;cases h; cases k
     · exact ⟨A,tr C⟩
     · exact ⟨A,br C⟩
   · cases h
 · split at h
   · cases h; exact ⟨A,te _ C⟩
   · rename_i i _ j _;cases hij:aP i j
     · rw [hij] at h; cases h;exact ⟨A,Gr (fun e=>by rw [e] at hij; simp at hij) C⟩
     · rw [hij] at h; cases h;obtain rfl :=bM hij;exact ⟨A,be C⟩
   · cases h
 · cases h
 · cases h; exact ⟨A,sq fun K U=>Ei (fun e σ w O=>by cases e <;> first | exact U _ _ O | exact O) C⟩
 · cases h; exact ⟨A,ak C⟩
 · cases h; exact ⟨A,Dq C⟩
 · cases h; exact ⟨A,rt C⟩
 · cases h; exact ⟨A,ext C⟩
 · rename_i id l;cases hr:ks N.r l
   · rw [hr] at h; cases h
   · rw [hr] at h; cases h;exact ⟨A,rg hr C⟩
 · split at h
   · cases h; exact ⟨A,ct (by assumption) C⟩
   · cases h; exact ⟨A,cf (by assumption) C⟩
   · cases h
 · cases h
 · cases h; exact ⟨A,nl C⟩
 · rename_i ops d o ty pos af r;have bd:=tq (P:=P) hT (N:=N) (σ:=σ) (some d) o ty pos af none w;split at h
   · rename_i x E;rw [E] at bd; cases h;exact ⟨A,Hb.p bd C⟩
   · rename_i x q E;rw [E] at bd; cases h;obtain ⟨L,M⟩:=sd A;exact ⟨M,Hb.p (bd L) C⟩
   · cases h
 · rename_i ops d o ty pos af j want r;have bd:=tq (P:=P) hT (N:=N) (σ:=σ) (some d) o ty pos af (some (j,want)) w;split at h
   · rename_i t J;cases hb:aE t N.n
     · rw [hb] at h; cases h
     · rw [hb] at h;simp only [cond_true] at h;split at h
       · rename_i b I;cases hw:(b==want)
         · rw [hw] at h; cases h;exact ⟨A,sk J hb I hw C⟩
         · rw [hw] at h;simp only [cond_true] at h;obtain rfl :b=want:=by simpa using hw
           split at h
           · rename_i x E;rw [E] at bd; cases h;exact ⟨A,pg J hb I bd C⟩
           · rename_i x q E;rw [E] at bd; cases h;obtain ⟨L,M⟩:=sd A;exact ⟨M,pg J hb I (bd L) C⟩
           · cases h
       · rename_i I;cases h;exact ⟨A,Dr J hb I C⟩
       · cases h
   · cases h
 · cases h
theorem iV (hT:jA P 0 T=true):∀ (n:Nat) (p:Pt) (st:List Kn) (σ:Nat→ag) (c:Option Prop),gW T N n p st σ c= .at p' st' σ' c'→optG c'→At P N Q w p' st' σ'→optG c∧At P N Q w p st σ
 | 0,p,st,σ,c,h,hc,hk=>by cases h; exact ⟨hc,hk⟩
 | n+1,p,st,σ,c,h,hc,hk=>by
   simp only [gW] at h;split at h
   · rename_i C;obtain ⟨h1,A⟩:=iV hT n _ _ _ _ h hc hk;exact Mf hT C h1 A
   · cases h
end
inductive FY | no | at (fuel:Nat) (listed:Array Bool) (σ:Nat→ag) (c:Option Prop)
inductive F2 | no | go (σ:Nat→ag) (c:Option Prop)
def DE (T:List (List TD)) (N:Fm) (g:Bool) (ops:Array aC) (i:Nat) (σ:Nat→ag) (c:Option Prop):F2:=match ops[i]? with
 | some ⟨some d,o,_,_,_,none⟩=>match oZ T N σ o with
   | .v x=> .go (aV σ d x) c
   | .vc x c'=> .go (aV σ d x)<|andG c' c
   | .no=> .no
 | some ⟨some d,o,_,_,_,some (j,want)⟩=>cond g (match dT ops j with
   | some t=>cond (aE t N.n) (match σ t with
     | .bool b=>cond (b==want) (match oZ T N σ o with
       | .v x=> .go (aV σ d x) c
       | .vc x c'=> .go (aV σ d x)<|andG c' c
       | .no=> .no) (.go (aV σ d undef) c)
     | .tuple ⟨[]⟩=> .go (aV σ d undef) c
     | _=> .no) .no
   | none=> .no) .no
 | _=> .no
def lA (T:List (List TD)) (N:Fm) (g:Bool) (ops:Array aC):List Nat→Nat→Array Bool→(Nat→ag)→Option Prop→FY
 | [],fuel,listed,σ,c=> .at fuel listed σ c
 | _::_,0,_,_,_=> .no
 | i::is,fuel+1,listed,σ,c=>match DE T N g ops i σ c with
   | .go σ c=>lA T N g ops is fuel (listed.setIfInBounds i true) σ c
   | .no=> .no
def kS (fr:Array Bool→Nat→Bool):List Nat→Array Bool→Bool
 | [],_=>true
 | i::is,listed=>fr listed i && kS fr is (listed.setIfInBounds i true)
section
variable {P:ar} {T:List (List TD)} {N:Fm} {g:Bool} {ops:Array aC} {fr:Array Bool→Nat→Bool} {fuel':Nat} {listed':Array Bool} {σ':Nat→ag} {c':Option Prop} {w:ah}
theorem tJ (hT:jA P 0 T=true) (W:Nat→Array Bool→(Nat→ag)→Prop)
 (H1:∀ {i d o ty pos af v fuel listed σ},ops[i]? =some ⟨some d,o,ty,pos,af,none⟩→fr listed i=true→(∀ w,(execOp (ev N σ) ⟨some d,o,ty,pos,af,none⟩).run P w= .ok (.value v) w)→W fuel (listed.setIfInBounds i true) (aV σ d v)→W (fuel+1) listed σ)
 (M:g=true→∀ {i d o ty pos af v fuel listed σ j want t},ops[i]? =some ⟨some d,o,ty,pos,af,some (j,want)⟩→fr listed i=true→dT ops j=some t→aE t N.n=true→σ t= .bool want→(∀ w,(execOp (ev N σ) ⟨some d,o,ty,pos,af,some (j,want)⟩).run P w= .ok (.value v) w)→W fuel (listed.setIfInBounds i true) (aV σ d v)→W (fuel+1) listed σ)
 (V:g=true→∀ {i d o ty pos af fuel listed σ j want t b},ops[i]? =some ⟨some d,o,ty,pos,af,some (j,want)⟩→fr listed i=true→dT ops j=some t→aE t N.n=true→σ t= .bool b→(b==want)=false→W fuel (listed.setIfInBounds i true) (aV σ d undef)→W (fuel+1) listed σ)
 (Z:g=true→∀ {i d o ty pos af fuel listed σ j want t},ops[i]? =some ⟨some d,o,ty,pos,af,some (j,want)⟩→fr listed i=true→dT ops j=some t→aE t N.n=true→σ t=undef→W fuel (listed.setIfInBounds i true) (aV σ d undef)→W (fuel+1) listed σ):
 ∀ (is:List Nat) (fuel:Nat) (listed:Array Bool) (σ:Nat→ag) (c:Option Prop),lA T N g ops is fuel listed σ c= .at fuel' listed' σ' c'→kS fr is listed=true→optG c'→W fuel' listed' σ'→optG c∧W fuel listed σ
 | [],fuel,listed,σ,c,h,_,C,E=>by cases h; exact ⟨C,E⟩
 | i::is,0,listed,σ,c,h,_,C,E=>by cases h
 | i::is,fuel+1,listed,σ,c,h,hf,C,E=>by
   simp only [kS,a0] at hf;simp only [lA] at h;split at h
   · rename_i ab c2 A;obtain ⟨C,E⟩:=tJ hT W H1 M V Z is fuel _ _ _ h hf.2 C E;unfold DE at A;split at A
     · rename_i d o ty pos af hi;have bd:=fun w=>tq hT (N:=N) (σ:=σ) (some d) o ty pos af none w;split at A
       · rename_i x I;rw [I] at bd; cases A;exact ⟨C,H1 hi hf.1 bd E⟩
       · rename_i x q I;rw [I] at bd; cases A;obtain ⟨O,U⟩:=sd C;exact ⟨U,H1 hi hf.1 (fun w=>bd w O) E⟩
       · cases A
     · rename_i d o ty pos af j want hi;have bd:=fun w=>tq hT (N:=N) (σ:=σ) (some d) o ty pos af (some (j,want)) w;cases hg:g
       · rw [hg] at A; cases A
       · rw [hg] at A;simp only [cond_true] at A;split at A
         · rename_i t L;cases hb:aE t N.n
           · rw [hb] at A; cases A
           · rw [hb] at A;simp only [cond_true] at A;split at A
             · rename_i b J;cases hw:(b==want)
               · rw [hw] at A; cases A;exact ⟨C,V hg hi hf.1 L hb J hw E⟩
               · rw [hw] at A;simp only [cond_true] at A;obtain rfl :b=want:=by simpa using hw
                 split at A
                 · rename_i x I;rw [I] at bd; cases A;exact ⟨C,M hg hi hf.1 L hb J bd E⟩
                 · rename_i x q I;rw [I] at bd; cases A;obtain ⟨O,U⟩:=sd C;exact ⟨U,M hg hi hf.1 L hb J (fun w=>bd w O) E⟩
                 · cases A
             · rename_i J;cases A;exact ⟨C,Z hg hi hf.1 L hb J E⟩
             · cases A
         · cases A
     · cases A
   · cases h
variable {Q:bu→(Nat→ag)→ah→Prop} {S:ah→Prop} {r fuel:Nat} {listed:Array Bool} {σ:Nat→ag}
theorem IP (hT:jA P 0 T=true) (is:List Nat) (h:lA T N true ops is fuel listed σ none= .at fuel' listed' σ' c') (J:S w) (k:cm P N ops Q S fuel' listed' σ' w) (M:optG c') (A:kS (eI N.F ops) is listed=true):cm P N ops Q S fuel listed σ w:=
 (tJ hT (fun fuel listed σ=>cm P N ops Q S fuel listed σ w) (fun hi A L k=>hp _ hi A (fun w _=>L w) J k) (fun _=>fun hi A C E I L k=>bV _ hi A C E I (fun w _=>L w) J k) (fun _=>fun hi A C E I hb k=>sO _ hi A C E I hb J k) (fun _=>fun hi A C E I k=>I2 _ hi A C E I J k) is fuel listed σ none h A M k).2
theorem IS (hT:jA P 0 T=true) (is:List Nat) (h:lA T N false ops is fuel listed σ none= .at fuel' listed' σ' c') (C:S w) (k:cr P N ops Q S r fuel' listed' σ' w) (E:optG c') (A:kS (fun l i=>oP N.F ops l r i) is listed=true):cr P N ops Q S r fuel listed σ w:=
 (tJ (g:=false) hT (fun fuel listed σ=>cr P N ops Q S r fuel listed σ w) (fun hi A I k=>lq _ hi A (fun w _=>I w) C k) (fun h=>cJ h) (fun h=>cJ h) (fun h=>cJ h) is fuel listed σ none h A E k).2
theorem IQ (hT:jA P 0 T=true) (is:List Nat) (h:lA T N false ops is fuel listed σ none= .at fuel' listed' σ' c') (C:S w) (k:cr P N ops Q S r fuel' listed' σ' w) (E:optG c') (A:kS (fun l i=>m8 N.F ops l r i) is listed=true):cr P N ops Q S r fuel listed σ w:=
 (tJ (g:=false) hT (fun fuel listed σ=>cr P N ops Q S r fuel listed σ w) (fun hi A I k=>qR _ hi A I (fun _=>C) k) (fun h=>cJ h) (fun h=>cJ h) (fun h=>cJ h) is fuel listed σ none h A E k).2
end
def vh (P:ar) (f:ee):Bool:=match P.funcs[f]? with
 | some fn=> !(fn.name== "runtime.NumGoroutine") && !fn.body.isNone
 | none=>false
theorem GU {P:ar} {f:ee} (h:vh P f=true):ga P f:=by
 unfold vh at h;split at h
 · simp only [a0,jB] at h;exact vi (by assumption) h.1 h.2
 · cases h
section
variable {P:ar} {N:Fm} {σ:Nat→ag} {w:ah} {dst:Option Nat} {ty:av} {pos :String} {af:Array bQ} {g:Option (Nat×Bool)} {x y z:aW} {K:(Nat→ag)→ah→Prop}
theorem aX {f:ee} {args:Array aW} {A:Array av} {L:List ag} {R:ag→ah→Prop} (hr:bg P f L.toArray w R) (C:args.toList.map (ev N σ)=L)
 (k:∀ v w',R v w'→K (dw σ dst v) w') (E:vh P f=true :=by kernel_rfl):bW P N ⟨dst,.call ⟨.value (.func f),args,A⟩,ty,pos,af,g⟩ σ w K:=cl (GU E) hr C k
theorem aw {t b off :Nat} {v:ag} (C:ev N σ x= .pointer (some ⟨b,off,none⟩)) (A:ax w.heap b off =some v) (hu:dd P t=some none:=by kernel_rfl):
 (execOp (ev N σ) ⟨dst,.load t x,ty,pos,af,g⟩).run P w= .ok (.value v) w:=ld hu C A
theorem cg (n:Nat) {t E:av} {a b:Int} (A:ev N σ x= .int .i64 a:=by exact U) (C:ev N σ y= .int .i64 b:=by exact U) (h:a+b=(n:Int)∧n≤9223372036854775807:=by omega):
 (execOp (ev N σ) ⟨dst,.binOp .add t x y E,ty,pos,af,g⟩).run P w= .ok (.value<|.int .i64 (n:Int)) w:=u6 (n:Int) A C<|yE h.1 h.2
theorem pn (n:Nat) {t E:av} {a b:Int} (A:ev N σ x= .int .i64 a:=by exact U) (C:ev N σ y= .int .i64 b:=by exact U) (h:a - b=(n:Int)∧n≤9223372036854775807:=by omega):
 (execOp (ev N σ) ⟨dst,.binOp .sub t x y E,ty,pos,af,g⟩).run P w= .ok (.value<|.int .i64 (n:Int)) w:=xX (n:Int) A C<|yE h.1 h.2
variable {ops:Array aC} {Q:bu→(Nat→ag)→ah→Prop} {S:ah→Prop} {r fuel d t b off :Nat} {listed:Array Bool} {v:ag} {W:ah} {l:List aC} {id:Nat}
theorem cM (i:Nat) (h:(ops[i]?,ev N σ x)=(some ⟨some d,.load t x,ty,pos,af,none⟩,.pointer (some ⟨b,off,none⟩))) (A:Wk W w) (C:ax W.heap b off =some v) (k:cm P N ops Q (fun w'=>Wk W w') fuel (listed.setIfInBounds i true) (aV σ d v) w)
 (E:eI N.F ops listed i=true :=by kernel_rfl) (hu:dd P t=some none:=by kernel_rfl):cm P N ops Q (fun w'=>Wk W w') (fuel+1) listed σ w:=hp i (congrArg gN h) E (fun _ hw=>ld hu (congrArg Prod.snd h)<|hw.ax C) A k
theorem j9 (i:Nat) (h:(ops[i]?,ev N σ x)=(some ⟨some d,.load t x,ty,pos,af,none⟩,.pointer (some ⟨b,off,none⟩))) (A:Wk W w) (C:ax W.heap b off =some v) (k:cr P N ops Q (fun w'=>Wk W w') r fuel (listed.setIfInBounds i true) (aV σ d v) w)
 (E:oP N.F ops listed r i=true :=by kernel_rfl) (hu:dd P t=some none:=by kernel_rfl):cr P N ops Q (fun w'=>Wk W w') r (fuel+1) listed σ w:=lq i (congrArg gN h) E (fun _ hw=>ld hu (congrArg Prod.snd h)<|hw.ax C) A k
theorem eT (h:Wk w w.drew→cm P N l.toArray Q (fun w'=>Wk w w') l.length (nV l.length false) σ w.drew) (hr:ks N.r l=true :=by exact U) (hm:P.follows .mixedOrders=true :=by kernel_rfl):bw P N (.region id l.toArray true) Q σ w:=bo _ hr hm (Md.refl _ _).drew<|h (Md.refl _ _).drew
theorem ta (r:Nat) (h:Wk w w.drew→cr P N l.toArray Q (fun w'=>Wk w w') r l.length (nV l.length false) σ w.drew) (hr:ks N.r l=true :=by exact U) (hm:P.follows .mixedOrders=true :=by kernel_rfl):bw P N (.region id l.toArray true) Q σ w:=lj _ r hr hm (Md.refl _ _).drew<|h (Md.refl _ _).drew
end
end Go.Hb
end
section
namespace Go.Hb
open Go.ChangeShapes Go.WideShapes Go.ChangeAt
theorem Wk.frame {w w':ah} (h:Wk w w') (may:MemPlace→Prop):w.keptBut w' may:=by
 refine ⟨h.os,h.output,fun i hi=> ?_⟩;rw [h.dM i hi id];split <;> simp_all
theorem Wk.same {w w':ah} (h:Wk w w') {p:MemPlace} (hp:p.block < w.heap.size):w.sameAt w' p:=by
 cases p with
 | cell b o=>exact World.cell?_of_block (w:=w)<|h.dM b hp id
 | map b=>exact h.dM b hp id
section
variable {H:Type} {enc:av×ag→H} {P:ar} {W W':ah}
theorem DU (J:laidOutB P=true) (I:Wk W W'):∀ (C:List av) (vs:List ag) (E:List (DataW H)) (ps:List MemPlace),C.all (fun t=>P.readableRec t && decide (t < P.types.size))=true→(∀ x∈ps,x.block < W.heap.size)→
 ET enc P W 0 (fun _=>true) true C vs E ps→ET enc P W' 0 (fun b=>decide (b < W.heap.size)) true C vs E ps
 | [],[],[],_,_,_,h=>h
 | t::C,v::vs,d::E,_,hp,hlt,⟨p,q,h1,h2,he⟩=>by
   subst he;rw [pU,a0,a0] at hp;exact ⟨p,q,WideElems.Trod_stays J hp.1.1 (of_decide_eq_true hp.1.2) h1 (fun x A=>I.same<|hlt x<|pZ _ A) (fun x A=>decide_eq_true<|hlt x<|pZ _ A),
    DU J I C vs E q hp.2 (fun x A=>hlt x<|List.mem_append_right _ A) h2,rfl⟩
 | [],_::_,_,_,_,_,h=>h.elim
 | [],[],_::_,_,_,_,h=>h.elim
 | _::_,[],_,_,_,_,h=>h.elim
 | _::_,_::_,[],_,_,_,h=>h.elim
theorem KW {f:ee} {fn:fU} {s:ChangeSpec} {args:Array ag} {A gs:List (DataW H)} {before:List MemPlace} {O:av} (I:DataW.Whole enc P fn.params.toList s.vars false W args.toList A gs before) (M:s.vars= [])
 (C:s.fn H (A++gs)= {results:= [.lit (.bool true)],args:=A}) (hr:fn.resultTypes= #[O]) (hb:P.underlying O=some .bool) (V:laidOutB P=true) (hp:fn.params.toList.all (fun t=>P.readableRec t && decide (t < P.types.size))=true)
 (h:bg P f args W (fun v w'=>v= .bool true∧Wk W w')):Calls P f args W fun e W'=> ∃ v,e= .returned v∧s.post enc P fn false true false false W args v W':=by
 refine kE h fun e W' ⟨v,he,ab,L⟩=>⟨v,he,?_⟩
 subst ab;have J:=I;obtain ⟨p,q,U,E,rfl,_,_⟩:=I;rw [M] at E;obtain ⟨rfl,rfl⟩:=trodVars_none E;have Z:∀ x∈p,x.block < W.heap.size:=fun x ac=>J.lt x<|by simpa using ac
 refine ⟨_,_,_,[],p,[],J,?_,?_,?_,L.frame _,fun h=>by cases h⟩
 · rw [C,hr];exact trodAll_cons_mk (shut_bool hb _) trodAll_mk0
 · rw [C];exact DU V L _ _ _ _ hp Z U
 · rw [C,M]; rfl
end
end Go.Hb
namespace Go.Hb
open Go.Proofs.YtiagknaekaknhaaGreatDoor
theorem GD {H:Type} {l:List (DataW H)} (A:Rows.uptoSmall H l=true):Rows.uptoBulkAll l≤1048576:=of_decide_eq_true A
end Go.Hb
namespace Go.Hb
open Go.Proofs.YtiagknaekaknhaaGreatDoor Go.ChangeShapes Go.WideShapes Go.ChangeAt
structure zt (P:ar) (t:av) (m:Nat) {X:Type} (R:ah→List ag→X→Prop) (B:X→Nat):Prop where
 cells:P.cellsOf t=m
 op:∀ {H:Type} (enc:av×ag→H) (W:ah) (fuel:Nat) (cs:List ag) (d:DataW H) (p:List MemPlace),DataW.trod enc P W 0 (fun _=>true) true fuel t cs=some (d,p)→cs.length=m∧∃ x,R W cs x∧B x≤Rows.uptoBulk d
section
variable {P:ar} {t t0 t1 e:av} {m m0 m1:Nat} {X X0 X1:Type} {R:ah→List ag→X→Prop} {B:X→Nat} {R0:ah→List ag→X0→Prop} {B0:X0→Nat} {R1:ah→List ag→X1→Prop} {B1:X1→Nat}
theorem KB {k:bA} (C:P.underlying t=some (.int k)) (A:P.cellsOf t=1):zt P t 1 (fun _ cs (x:Int)=>cs= [.int k x]∧(Lit.int k x).wf=true) (fun _=>1) where
 cells:=A
 op enc W fuel cs d p h:=by
  obtain ⟨n,rfl,E,hw⟩:=DataW.trod_int C h;cases E;exact ⟨U,n,⟨U,hw⟩,by simp [Rows.uptoBulk]⟩
theorem CB (C:P.underlying t=some .string) (A:P.cellsOf t=1):zt P t 1 (fun _ cs (x:List UInt8)=>cs= [str x]) (fun x=>x.length+1) where
 cells:=A
 op enc W fuel cs d p h:=by
  obtain ⟨s,rfl,E,hw⟩:=DataW.trod_string C h;cases E;exact ⟨U,s.data.toList,U,by simp [Rows.uptoBulk]⟩
end
end Go.Hb
end
section
namespace Go.Hb
open Go.Proofs
def gF:List (List TD):= [
 [.no,.no,.no,.no,.no,.no,.no,.st [0,1,2,3],.st [0,1,2,3],.str,.str,.str,.no,.st [0,1],.st [0,1],.no],
 [.no,.no,.st [0],.st [0],.no,.no,.no,.dk 100 2,.dk 143 2,.no,.st [0,1,2,3],.st [0,1,2,3],.no,.no,.no,.dk 9 1],
 [.no,.no,.no,.no,.no,.no,.no,.no,.dk 77 2,.dk 81 2,.no,.st [0,1,2,3],.st [0,1,2,3],.no,.no,.dk 3 1],
 [.no,.no,.no,.no,.no,.no,.no,.no,.no,.no,.no,.st [0,1,2,3,4],.st [0,1,2,3,4],.dk 64 1,.no,.no],
 [.dk 4 1,.no,.no,.dk 47 1,.st [0,1,2],.st [0,1,2],.no,.no,.no,.st [0,7],.st [0,7],.no,.st [0,1],.st [0,1],.no,.dk 84 2],
 [.st [0,1],.st [0,1],.no,.st [0,1],.st [0,1],.no,.no,.no,.no,.no,.no,.no,.no,.no,.no,.st [0,1,2]],
 [.st [0,1,2],.no,.no,.no,.st [0,1],.no,.no,.no,.st [0,1,2],.st [0,1,2],.no,.no,.no,.st [0,1,2],.no,.no],
 [.st [0],.st [0],.no,.no,.no,.no,.no,.dk 188 1,.dk 186 5,.dk 192 7,.st [0,1,2,3,8,9,10,11,12],.st [0,1,2,3,8,9,10,11,12],.no,.no,.no,.dk 262 2],
 [.st [0,1,2,15],.st [0,1,2,15],.no,.no,.no,.st [0,1,6],.st [0,1,6],.no,.no,.no,.no,.no,.no,.dk 167 2,.st [0,1],.st [0,1]],
 [.no,.no,.no,.no,.no,.no,.dk 5 1,.st [0,1,2,3],.st [0,1,2,3],.no,.no,.st [0,1],.st [0,1],.no,.no,.no],
 [.no,.no,.no,.no,.no,.no,.no,.st [0,1],.no,.no,.no,.no,.no,.no,.no,.no],
 [.no,.no,.no,.st [0,1,2,3,4],.st [0,1,2,3,4],.no,.st [0,13],.st [0,13],.no,.st [0,1,2,3,4],.st [0,1,2,3,4],.no,.dk 117 1,.no,.no,.st [0,1,2,3,4,5,6]],
 [.st [0,1,2,3,4,5,6],.no,.st [0,1,2,3,4,5],.st [0,1,2,3,4,5],.no,.no,.st [0],.st [0],.no,.st [0,1],.st [0,1],.dk 202 2,.no,.no,.no,.no],
 [.no,.no,.no,.no,.no,.st [0,1],.st [0,1],.no,.no,.no,.no,.no,.no,.no,.no,.no],
 [.no,.st [0,1,2],.st [0,1,2],.no,.no,.no,.no,.no,.no,.no,.st [0,1,2],.st [0,1,2],.no,.dk 257 2,.no,.no],
 [.no,.no,.no,.st [0,1,2,3,4,5,6],.st [0,1,2,3,4,5,6],.no,.no,.no,.no,.no,.st [0,1],.st [0,1],.no,.no,.no,.no],
 [.st [0,1],.st [0,1],.no,.st [0,1],.st [0,1],.st [0,1],.st [0,1],.no,.no,.no,.no,.no,.no,.no,.no,.no],
 [.no,.no,.no,.no,.no,.no,.no,.no,.no,.no,.no,.no,.no,.no,.no,.no],
 [.no,.no,.no,.no,.no,.st [0,1,2],.st [0,1,2],.no,.no,.no,.no,.no,.no,.no,.no,.no],
 [.no,.no,.no,.no,.no,.no,.no,.no,.no,.no,.no,.no,.dk 117 1,.no,.no,.no],
 [.st [0,1,2,3,4,5],.st [0,1,2,3,4,5],.no,.no,.no,.st [0,1,2,3,4],.st [0,1,2,3,4],.no,.no,.no,.no,.no,.no,.no,.no,.no],
 [.no,.no,.no,.no,.no,.no,.no,.dk 341 1,.no,.st [0,1,2,3,4,5,6],.st [0,1,2,3,4,5,6],.no,.st [0],.st [0],.no,.no],
 [.no,.no,.no,.no,.dk 52 1,.no,.no,.no,.no,.no,.no,.no,.no,.no,.no,.no],
 [.no,.no,.no,.no,.no,.no,.no,.no,.no,.no,.no,.no,.no,.no,.no,.no],
 [.no,.no,.no,.no,.no,.no,.no,.no,.no,.st [0,1,2,3,4,5,6],.st [0,1,2,3,4,5,6],.no,.no,.dk 402 2,.st [0,1,2],.st [0,1,2]],
 [.no,.st [0,1],.st [0,1],.st [0,1],.st [0,1],.no,.no,.no,.no,.no,.no,.dk 436 4,.st [0],.st [0],.no,.no],
 [.no,.no,.no,.no,.no,.no,.no,.no,.no,.st [0,1,2,3,4],.st [0,1,2,3,4],.no,.no,.st [0,1],.st [0,1],.no],
 [.dk 199 1,.no,.no,.no,.no,.no,.no,.no,.no,.no,.no,.no,.no,.no,.no,.no],
 [.no,.no,.no,.no,.no,.no,.no,.no,.no,.no,.no,.no,.no,.st [0],.st [0],.no],
 [.no,.no,.no,.no,.no,.no,.no,.no,.no,.no,.no,.no,.no,.no,.no,.no],
 [.no,.no,.no,.no,.no,.no,.no,.no,.no,.no,.no,.no,.no,.no,.no,.no],
 [.dk 462 1,.dk 501 2,.st [0,1,2],.st [0,1,2],.st [0,1],.st [0,1],.no,.no,.no,.no,.no,.no,.no,.no,.no,.no],
 [.no,.no,.no,.no,.no,.no,.no,.no,.no,.st [0,1],.st [0,1],.no,.no,.st [0,1,2,3],.st [0,1,2,3],.no],
 [.no,.no,.no,.no,.no,.no,.no,.st [0,1,2,3,4,5,6,7,8,9,10],.st [0,1,2,3,4,5,6,7,8,9,10],.no,.no,.st [0,1],.st [0,1],.st [0],.st [0],.no],
 [.no,.st [0,1,2,3,4],.st [0,1,2,3,4],.dk 550 4,.no,.st [0,1,2,3],.st [0,1,2,3],.no,.no]]
theorem hH:jA aq 0 gF=true :=ai
section
variable {N:Fm} {Q:bu→(Nat→ag)→ah→Prop} {w:ah} {σ σ':Nat→ag} {p':Pt} {st st':List Kn} {c':Option Prop}
theorem bX {x:bH} {A:bH} (n:Nat) (h:gW gF N n (.c x) [] σ none= .at (.c A) st' σ' c') (k:bw aq N A (eD aq N st' Q) σ' w) (C:optG c':=by first | exact trivial | (simp only [optG,andG]; omega)):bw aq N x Q σ w:=(iV hH n _ _ _ _ h C k).2
theorem aU {x:bH} {C:Array aC} {A:List aC} (n:Nat) (h:gW gF N n (.c x) [] σ none= .at (.l C A) st' σ' c') (k:bP aq N C (eD aq N st' Q) A σ' w) (E:optG c':=by first | exact trivial | (simp only [optG,andG]; omega)):bw aq N x Q σ w:=(iV hH n _ _ _ _ h E k).2
theorem j2 {x:bH} {e':bu} (n:Nat) (h:gW gF N n (.c x) [] σ none= .at (.x e') [] σ' c') (k:Q e' σ' w) (A:optG c':=by first | exact trivial | (simp only [optG,andG]; omega)):bw aq N x Q σ w:=(iV hH n _ _ _ _ h A k).2
theorem bS {x:bH} {A:bH} (n:Nat) (h:gW gF N n (.c x) st σ none= .at (.c A) st' σ' c') (k:bw aq N A (eD aq N st' Q) σ' w) (C:optG c':=by first | exact trivial | (simp only [optG,andG]; omega)):bw aq N x (eD aq N st Q) σ w:=(iV hH n _ _ _ _ h C k).2
theorem aI {x:bH} {C:Array aC} {A:List aC} (n:Nat) (h:gW gF N n (.c x) st σ none= .at (.l C A) st' σ' c') (k:bP aq N C (eD aq N st' Q) A σ' w) (E:optG c':=by first | exact trivial | (simp only [optG,andG]; omega)):bw aq N x (eD aq N st Q) σ w:=(iV hH n _ _ _ _ h E k).2
theorem aG {x:bH} {e':bu} (n:Nat) (h:gW gF N n (.c x) st σ none= .at (.x e') [] σ' c') (k:Q e' σ' w) (A:optG c':=by first | exact trivial | (simp only [optG,andG]; omega)):bw aq N x (eD aq N st Q) σ w:=(iV hH n _ _ _ _ h A k).2
theorem aK {ops:Array aC} {l:List aC} {A:bH} (n:Nat) (h:gW gF N n (.l ops l) st σ none= .at (.c A) st' σ' c') (k:bw aq N A (eD aq N st' Q) σ' w) (C:optG c':=by first | exact trivial | (simp only [optG,andG]; omega)):bP aq N ops (eD aq N st Q) l σ w:=(iV hH n _ _ _ _ h C k).2
theorem aj {ops:Array aC} {l:List aC} {C:Array aC} {A:List aC} (n:Nat) (h:gW gF N n (.l ops l) st σ none= .at (.l C A) st' σ' c') (k:bP aq N C (eD aq N st' Q) A σ' w) (E:optG c':=by first | exact trivial | (simp only [optG,andG]; omega)):bP aq N ops (eD aq N st Q) l σ w:=(iV hH n _ _ _ _ h E k).2
theorem ay {ops:Array aC} {l:List aC} {e':bu} (n:Nat) (h:gW gF N n (.l ops l) st σ none= .at (.x e') [] σ' c') (k:Q e' σ' w) (A:optG c':=by first | exact trivial | (simp only [optG,andG]; omega)):bP aq N ops (eD aq N st Q) l σ w:=(iV hH n _ _ _ _ h A k).2
theorem dn {e:bu} {A:bH} (n:Nat) (h:gW gF N n (.x e) st σ none= .at (.c A) st' σ' c') (k:bw aq N A (eD aq N st' Q) σ' w) (C:optG c':=by first | exact trivial | (simp only [optG,andG]; omega)):eD aq N st Q e σ w:=(iV hH n _ _ _ _ h C k).2
theorem gy {e:bu} {C:Array aC} {A:List aC} (n:Nat) (h:gW gF N n (.x e) st σ none= .at (.l C A) st' σ' c') (k:bP aq N C (eD aq N st' Q) A σ' w) (E:optG c':=by first | exact trivial | (simp only [optG,andG]; omega)):eD aq N st Q e σ w:=(iV hH n _ _ _ _ h E k).2
theorem ba {e:bu} {e':bu} (n:Nat) (h:gW gF N n (.x e) st σ none= .at (.x e') [] σ' c') (k:Q e' σ' w) (A:optG c':=by first | exact trivial | (simp only [optG,andG]; omega)):eD aq N st Q e σ w:=(iV hH n _ _ _ _ h A k).2
variable {ops:Array aC} {S:ah→Prop} {r fuel fuel':Nat} {listed listed':Array Bool}
theorem aH (is:List Nat) (h:lA gF N true ops is fuel listed σ none= .at fuel' listed' σ' c') (A:S w) (k:cm aq N ops Q S fuel' listed' σ' w) (C:optG c':=by first | exact trivial | (simp only [optG,andG]; omega)) (E:kS (eI N.F ops) is listed=true :=by kernel_rfl):cm aq N ops Q S fuel listed σ w:=IP hH is h A k C E
theorem dK (is:List Nat) (h:lA gF N false ops is fuel listed σ none= .at fuel' listed' σ' c') (A:S w) (k:cr aq N ops Q S r fuel' listed' σ' w) (C:optG c':=by first | exact trivial | (simp only [optG,andG]; omega)) (E:kS (fun l i=>oP N.F ops l r i) is listed=true :=by kernel_rfl):cr aq N ops Q S r fuel listed σ w:=IS hH is h A k C E
theorem qJ (is:List Nat) (h:lA gF N false ops is fuel listed σ none= .at fuel' listed' σ' c') (A:S w) (k:cr aq N ops Q S r fuel' listed' σ' w) (C:optG c':=by first | exact trivial | (simp only [optG,andG]; omega)) (E:kS (fun l i=>m8 N.F ops l r i) is listed=true :=by kernel_rfl):cr aq N ops Q S r fuel listed σ w:=IQ hH is h A k C E
end
end Go.Hb
end
namespace Go.Hb
theorem drop_cons {α:Type} {l:List α} {i:Nat} (d:α) (h:i < l.length):l.drop i=l.getD i d::l.drop (i+1):=by simp_all
def k0 (c:UInt8) (l:List UInt8):Int:=if l.idxOf c < l.length then (l.idxOf c:Int) else -1
theorem MA {h:Array Obj} {a:Option bL} {l:List UInt8} {i:Nat} (A:a9 h a (U8 l)) (hi:i < l.length):Hb.ax h (bk a) (fo a+i*1)=some (.int .u8 (l.getD i 0).toNat):=by
 refine A.qn ?_;unfold U8;rw [gu,bC hi,bY,bC hi]; rfl
theorem MC {l:List UInt8} (h:0 < l.length):U8 l≠[]:=by
 intro e;have :=congrArg List.length e;rw [oB,List.length_nil] at this;omega
theorem CD {w:ah} {B e:Nat} {v:ag} {l:List UInt8} {x:UInt8} (h:w.ownsRow B e 1 v (l.length+1) (U8 l++ [.int .u8 x.toNat])):w.ownsRow B e 1 v (l++ [x]).length (U8<|l++ [x]):=by
 rw [bG,r6]; exact h
def Tg (w:ah) (B e n:Nat) (v:ag) (xs:List ag):Prop :=
 ∃ a A,v= .slice a n A∧n≤A∧(xs= []∨∃ b cur z,a=some ⟨b,0,none⟩∧B≤b∧w.heap[b]? =some (.cells cur e z)∧∀ (j:Nat) u,xs[j]? =some u→cur[j]? =some u)
theorem Tg.oX {w:ah} {B e size n:Nat} {v:ag} {xs:List ag} (h:w.ownsRow B e size v n xs):Tg w B e n v xs:=by
 have h0:=h;rcases h.2 with ⟨rfl,rfl⟩ | ⟨g,cap,cur,rfl,hb,A,_,_,_,C⟩
 · exact ⟨none,0,U,aQ _,.inl<|jF<|by simpa using h.1⟩
 · refine ⟨_,cap,U,(cw h0).1,.inr ⟨g,cur,_,U,hb,A,fun j u hu=> ?_⟩⟩;rw [← C,jg] at hu;split at hu
   · simpa using hu
   · cases hu
theorem Tg.cells {w:ah} {B e n:Nat} {v:ag} {xs:List ag} (h:Tg w B e n v xs):∃ a A,v= .slice a n A∧a9 w.heap a xs:=by
 obtain ⟨a,A,rfl,_,h | ⟨b,cur,z,rfl,_,C,E⟩⟩:=h
 · subst h; exact ⟨a,A,rfl,a9.nil _ _⟩
 · refine ⟨_,A,U,fun _=>rfl,fun j u hu=> ?_⟩;show Hb.ax w.heap b (0 +j)=_;rw [cz,bt C]; exact E j u hu
theorem Tg.qq {w:ah} {B e n A:Nat} {a:Option bL} {xs:List ag} (h:Tg w B e n (.slice a n A) xs):n≤A∧a9 w.heap a xs:=by
 obtain ⟨L,c',E,C,O⟩:=id h;obtain ⟨M,c2,I,J⟩:=h.cells;cases E; cases I;exact ⟨C,J⟩
theorem Tg.slice {w:ah} {B e n:Nat} {v:ag} {xs:List ag} (h:Tg w B e n v xs):∃ a A,v= .slice a n A:=let ⟨a,A,hv,_⟩:=h; ⟨a,A,hv⟩
theorem Tg.md {F:Nat→Prop} {w w':ah} {B e n:Nat} {v:ag} {xs:List ag} (h:Tg w B e n v xs) (hm:Md F w w') (I:∀ k,F k→∀ cur z,w.heap[k]?≠some (.cells cur e z)):Tg w' B e n v xs:=by
 obtain ⟨a,C,rfl,E,h | ⟨b,cur,z,rfl,hb,A,L⟩⟩:=h
 · exact ⟨a,C,U,E,.inl h⟩
 · exact ⟨_,C,U,E,.inr ⟨b,cur,z,U,hb,by rw [hm.dM b (dq.1 A).1 (fun J=>I b J cur z A)]; exact A,L⟩⟩
theorem Tg.wk {w w':ah} {B e n:Nat} {v:ag} {xs:List ag} (h:Tg w B e n v xs) (hm:Wk w w'):Tg w' B e n v xs:=h.md hm fun _ A=>A.elim
theorem gV {w:ah} {B e e' size n:Nat} {v:ag} {xs:List ag} (h:w.ownsRow B e size v n xs) (I:e≠e'):∀ k,v.ownBlock=some k→∀ cur z,w.heap[k]?≠some (.cells cur e' z):=by
 intro k C cur z A;rcases h.2 with ⟨rfl,_⟩ | ⟨g,cap,J,rfl,_,E,_⟩
 · simp [gr] at C
 · simp only [gr,bK] at C;subst C;rw [E] at A;simp only [bK,E4] at A;exact I A.2.1
theorem Tg.mono {w:ah} {B B' e n:Nat} {v:ag} {xs:List ag} (h:Tg w B e n v xs) (A:B'≤B):Tg w B' e n v xs:=by grind [Tg]
def fB (b:UInt8):Bool:=decide (33≤b.toNat∧b.toNat≠127)
def gh (w:List UInt8):Bool:=w.all fB
def nA (w:List UInt8):Bool:=decide (1≤w.length∧w.length≤64∧gh w=true)
theorem j1 {α:Type} {l:List α} {i:Nat} {d:α} (h:i < l.length):l.getD i d∈l:=by
 rw [bY,bC h]; exact List.getElem_mem h
theorem J5 {α:Type} {l:List α} {x:α} (d:α) (h:x∈l):∃ i,i < l.length∧l.getD i d=x:=by
 obtain ⟨i,hi,rfl⟩:=List.mem_iff_getElem.1 h;exact ⟨i,hi,by rw [bY,bC hi]; rfl⟩
theorem zB {α:Type} {f:α→Bool} {l:List α} {i:Nat} (d:α) (h:i < l.length) (h1:f (l.getD i d)=false):l.all f=false :=by
 rw [List.all_eq_false]; exact ⟨_,j1 h,by rw [h1]; exact cJ⟩
theorem zC {α:Type} {f:α→Bool} {l:List α} (d:α) (h:∀ i,i < l.length→f (l.getD i d)=true):l.all f=true :=by
 rw [Fg]; intro x A; obtain ⟨i,hi,rfl⟩:=J5 d A; exact h i hi
theorem qp {w:List UInt8} {i:Nat} (h:i < w.length) (h1:fB (w.getD i 0)=false):gh w=false :=zB 0 h h1
theorem si {w:List UInt8} (h:∀ i,i < w.length→fB (w.getD i 0)=true):gh w=true :=zC 0 h
def lets (s:List UInt8):List UInt8:=s.foldl (fun a b=>if b∈a then a else a++ [b]) []
def letE (s:List UInt8):List UInt8×Nat:=if s= []∨gh s=false then ([],21) else (lets s,0)
theorem me {s:List UInt8} {i:Nat} (h:i < s.length):lets (s.take<|i+1)=if s.getD i 0∈lets (s.take i) then lets (s.take i) else lets (s.take i)++ [s.getD i 0]:=by
 unfold lets;rw [DP s i 0 h,List.foldl_append]; rfl
theorem xd (s:List UInt8):(lets s).length≤s.length:=by
 have key:∀ (s a:List UInt8),(s.foldl (fun a b=>if b∈a then a else a++ [b]) a).length≤a.length+s.length:=by
  intro s
  induction s with
  | nil=>intro a; simp
  | cons b s ih=>
    intro a;rw [jc,dC];split
    · have :=ih a; omega
    · have :=ih (a++ [b]); rw [bG,og] at this; omega
 have :=key s [];simpa [lets] using this
def marksOf (a:List UInt8):List ag:=(fX 256).map fun k=> .bool<|decide (e9 k∈a)
theorem Cc (a:List UInt8):(marksOf a).length=256:=by simp [marksOf]
theorem JY (a:List UInt8) (b:UInt8):(marksOf a)[b.toNat]? =some (.bool<|decide (b∈a)):=by
 have :=kM b;unfold marksOf;rw [gu,zc ab];simp
theorem J0 (a:List UInt8) (b:UInt8):(marksOf a).set b.toNat (.bool true)=marksOf (a++ [b]):=by
 apply uA;intro k;rw [List.getElem?_set,Cc];unfold marksOf;rw [gu,gu];by_cases C:k < 256
 · rw [zc C];simp only [fG];have he:(e9 k=b)↔b.toNat=k:=by
    constructor
    · rintro rfl; simp; omega
    · rintro rfl; simp
   by_cases h:b.toNat=k
   · have A:=he.2 h;simp [h,C,A]
   · have A:¬e9 k=b:=fun e=>h<|he.1 e;simp [h,A]
 · have :(fX 256)[k]? =none:=jG<|by simp; omega
   have hb:=kM b;rw [this];simp; omega
theorem JZ:marksOf []=dr 256 (.bool false):=by
 unfold marksOf;apply uA;intro k;rw [gu,List.getElem?_replicate];by_cases A:k < 256
 · rw [zc A]; simp [A]
 · rw [jG (by simp; omega)]; simp [A]
theorem Bd.new {T e b:Nat} {w:ah} (h:w.heap[b]? =some (.cells [ux none,.slice none 0 0].toArray T (0,0))):Bd T e w b (.slice none 0 0) []:=
 ⟨⟨none,h,.inl rfl⟩,fv _ _ _ _,by simp⟩
theorem Bd.step {T e b:Nat} {w0 w w':ah} {A:ag} {l:List UInt8} (h:Bd T e w b A l) (C:Wk w0 w) (E:Md (BF b A) w w') (hb:w0.heap.size≤b):Wk w0 w':=
 Md.trans' C E fun k J I=>by have :=h.sM I; omega
theorem Bd.Mg {T e b:Nat} {w0 w w':ah} {A:ag} {l:List UInt8} (h:Bd T e w b A l) (C:Wk w0 w) (E:Md (fun k=>A.ownBlock=some k) w w') (hb:w0.heap.size≤b):Wk w0 w':=
 Md.trans' C E fun k J I=>by have :=h.sM (.inr I); omega
end Go.Hb
section
namespace Go.Hb
def kP (P:ar) (t:av):Option (Nat×Nat):=
 match P.underlying t with
 | some (.array n e)=>(P.info? e).map fun i=>(n,i.size)
 | _=>none
section
variable {P:ar} {N:Fm} {σ:Nat→ag} {w:ah} {dst:Option Nat} {ty:av} {pos :String} {af:Array bQ} {g:Option (Nat×Bool)} {x y:aW}
theorem jr {t n A b off :Nat} {k:bA} {i:Int} (he:kP P t=some (n,A)) (C:ev N σ x= .pointer (some ⟨b,off,none⟩)) (E:ev N σ y= .int k i) (h0:0≤i∧i < n):
 (execOp (ev N σ) ⟨dst,.indexAddr t x y,ty,pos,af,g⟩).run P w= .ok (.value<|.pointer<|some ⟨b,off+i.toNat*A,none⟩) w:=by
 unfold kP at he;cases hd:P.underlying t with
 | none=>rw [hd] at he; cases he
 | some d=>
   rw [hd] at he;cases d <;> first | (cases he; done) | skip
   rename_i m e;cases hi:P.info? e with
   | none=>simp [hi] at he
   | some j=>
     simp only [hi,fG,bK,ig] at he;obtain ⟨rfl,rfl⟩:=he;simp [execOp,EW,n6,C,E,asIntOf,bB hd,h0.1,h0.2,sizeOf,dj hi,gd]
end
theorem J1 {h:Array Obj} {b:Nat} {a:List UInt8} (A:az h b (marksOf a)) (c:UInt8):Hb.ax h b (0 +((c.toNat:Nat):Int).toNat*1)=some (.bool<|decide (c∈a)):=by
 rw [A.ax,show 0 +((c.toNat:Nat):Int).toNat*1=c.toNat from by omega]; exact JY a c
theorem J2 {h:Array Obj} {b:Nat} {a:List UInt8} {c:UInt8} (A:az h b ((marksOf a).set (0 +((c.toNat:Nat):Int).toNat*1)<|.bool true)):az h b (marksOf<|a++ [c]):=by
 rw [show 0 +((c.toNat:Nat):Int).toNat*1=c.toNat from by omega,J0] at A; exact A
end Go.Hb
end
section
namespace Go.Hb
section
variable {P:ar} {N:Fm} {σ:Nat→ag} {w:ah} {fn:fU} {R:ag→ah→Prop}
theorem JT {t b off :Nat} {v:ag} (hu:dd P t=some none) (A:Hb.ax w.heap b off =some v):(loadVar t ⟨b,off,none⟩).run P w= .ok v w:=by
 have C:w.cell? ⟨b,off,none⟩=some v:=by rw [jR]; exact A
 unfold dd at hu;cases hd:P.underlying t with
 | none=>rw [hd] at hu; cases hu
 | some d=>
   rw [hd] at hu;cases d <;> first
    | (simp only [gM] at hu; obtain ⟨_,_,h⟩:=hu; cases h; done)
    | simp [loadVar,isAgg,bB hd,run_load,C]
theorem JU {t n b off :Nat} {cs:List ag} (hu:dd P t=some (some n)) (I:cs.length=n) (C:∀ j,j < n→Hb.ax w.heap b (off+j)=cs[j]?):(loadVar t ⟨b,off,none⟩).run P w= .ok (.agg cs.toArray) w:=by
 have E:(loadCells ⟨b,off,none⟩ n).run P w= .ok cs.toArray w:=by
  subst I;refine run_loadCells_list (P:=P) w ⟨b,off,none⟩ cs fun j v A=> ?_;rw [gd,jR];exact (C j (cD.1 A).1).trans A
 unfold dd at hu;cases hd:P.underlying t with
 | none=>rw [hd] at hu; cases hu
 | some d=>
   rw [hd] at hu;cases hi:P.info? t with
   | none=>simp [E6,hi] at hd
   | some i=>
     rw [hi] at hu;cases d <;> first
      | (cases hu; done)
      | (simp only [fG,bK] at hu; subst hu
         simp [loadVar,isAgg,bB hd,sizeOf,dj hi,E])
def ik (P:ar) (N:Fm) (σ:Nat→ag) (w:ah):ResultVar→ag→Prop
 | .tmp t,v=>ev N σ (.tmp t)=v
 | .cell a t,v=> ∃ ad,ev N σ (.tmp a)= .pointer (some ad)∧(loadVar t ad).run P w= .ok v w
theorem lz {t:Tmp} :ik P N σ w (.tmp t) (ev N σ<|.tmp t):=rfl
theorem jy {a t b off :Nat} {v:ag} (C:ev N σ (.tmp a)= .pointer (some ⟨b,off,none⟩)) (hu:dd P t=some none) (A:Hb.ax w.heap b off =some v):ik P N σ w (.cell a t) v:=⟨_,C,JT hu A⟩
theorem iz {a t n b off :Nat} {cs:List ag} (E:ev N σ (.tmp a)= .pointer (some ⟨b,off,none⟩)) (hu:dd P t=some (some n)) (C:cs.length=n) (A:∀ j,j < n→Hb.ax w.heap b (off+j)=cs[j]?):ik P N σ w (.cell a t) (.agg cs.toArray):=⟨_,E,JU hu C A⟩
def iA (tmps:Array ag):ResultVar→Sem ag
 | .tmp t=>pure<|tmps.getD t undef
 | .cell a t=>do loadVar t (← asAddr (tmps.getD a undef))
theorem gE {r:ResultVar} {v:ag} (h:ik P N σ w r v):(iA (act N σ).tmps r).run P w= .ok v w:=by
 cases r with
 | tmp t=>
   show lK P (pure<|(act N σ).tmps.getD t undef) w=_;rw [nw]; simp only [ik] at h; rw [h]; rfl
 | cell a t=>
   obtain ⟨ad,h1,A⟩:=h;show lK P (do loadVar t (← asAddr ((act N σ).tmps.getD a undef))) w=_;rw [nw,h1];simp [asAddr,A]
theorem C0 {tmps:Array ag} {r:ResultVar} {v:ag} (h:fn.results= #[r]) (h1:(iA tmps r).run P w= .ok v w):(results fn tmps).run P w= .ok v w:=by
 have A:(results fn tmps)=(do let vs ← #[r].mapM (iA tmps); pure (if h:vs.size=1 then vs[0] else .tuple vs)):=by
  unfold results; rw [h]; rfl
 rw [A]; simp [zf,h1]
theorem tG {tmps:Array ag} {r s:ResultVar} {v u:ag} (h:fn.results= #[r,s]) (h1:(iA tmps r).run P w= .ok v w) (A:(iA tmps s).run P w= .ok u w):(results fn tmps).run P w= .ok (.tuple #[v,u]) w:=by
 have C:(results fn tmps)=(do let vs ← #[r,s].mapM (iA tmps); pure (if h:vs.size=1 then vs[0] else .tuple vs)):=by
  unfold results; rw [h]; rfl
 rw [C]; simp [zf,h1,A]
theorem qF {r:ResultVar} {v:ag} (h:fn.results= #[r]) (h1:ik P N σ w r v) (A:R v w):fin P fn N R .ret σ w:=⟨v,C0 h (gE h1),A⟩
theorem sJ {r s:ResultVar} {v u:ag} (h:fn.results= #[r,s]) (h1:ik P N σ w r v) (A:ik P N σ w s u) (C:R (.tuple #[v,u]) w):fin P fn N R .ret σ w:=⟨_,tG h (gE h1) (gE A),C⟩
end
end Go.Hb
end
section
namespace Go.Hb
def eY (P:ar) (N:Fm) (c:bH) (B:bu→Act→ah→Prop) (σ:Nat→ag) (w:ah):Prop :=c.wpIn (fe N.r) 0 P B (act N σ) w
def qb (N:Fm) (B:bu→Act→ah→Prop):bu→(Nat→ag)→ah→Prop :=fun e σ w=>B e (act N σ) w
section
variable {P:ar} {N:Fm} {B:bu→Act→ah→Prop} {σ:Nat→ag} {w:ah}
theorem cT {x y:bH} (h:eY P N x (Exit.then (y.wpIn (fe N.r) 0 P B) B) σ w):eY P N (.seq x y) B σ w:=wpIn_seq h
theorem bD {y:bH} (h:eY P N y B σ w):qb N (Exit.then (y.wpIn (fe N.r) 0 P B) B) .normal σ w:=h
theorem xJ {y:Act→ah→Prop} (h:qb N B .ret σ w):qb N (Exit.then y B) .ret σ w:=h
theorem C1 (h:qb N B .ret σ w):eY P N .ret B σ w:=wpIn_ret h
theorem LU {x y:bH} (A:(Nat→ag)→ah→Prop) (h:eY P N x (Exit.then (fun a w=> ∃ σ,a=act N σ∧A σ w) B) σ w) (I:∀ σ w,A σ w→eY P N y B σ w):eY P N (.seq x y) B σ w:=by
 refine wpIn_seq<|wpIn_mono h ?_;intro e a w C;cases e with
 | normal=>obtain ⟨σ,rfl,E⟩:=C; exact I _ _ E
 | _=>exact C
theorem z4 {A:(Nat→ag)→ah→Prop} (h:A σ w):qb N (Exit.then (fun a w=> ∃ σ,a=act N σ∧A σ w) B) .normal σ w:=⟨σ,rfl,h⟩
theorem LB {c:bH} {L:List (Nat×ag)} (h:Sl σ L) (A:eY P N c B (pH σ L) w):eY P N c B σ w:=by rw [ua h] at A; exact A
theorem cS {c:bH} (h:bw P N c (qb N B) σ w):eY P N c B σ w:=by
 unfold bw at h;refine wpIn_mono h ?_;intro e a w A;cases e with
 | panic c=>obtain ⟨σ,rfl,C⟩:=A; exact C σ fun _ _=>rfl
 | outgrown=>exact A.elim
 | _=>obtain ⟨σ,rfl,C⟩:=A; exact C
end
theorem nt (fn:fU) (args:List ag) (F:List Nat) (hn:bf args.length fn.ntmps=true):({tmps:=args.toArray++nV (fn.ntmps - args.toArray.size) undef,defers:= []} :Act)=act ⟨fn.ntmps,[],F,none⟩ (dv args):=by
 have C:args.length≤fn.ntmps:=by simpa using hn
 refine r7 U fun i=> ?_;rw [ji];simp only [dv,bY,eM];by_cases h1:i < args.length
 · rw [Ex (by simpa using h1),if_pos ab];simp [h1]
 · rw [Ey (by simpa using h1)];simp only [eM,EA];by_cases A:i < fn.ntmps
   · rw [if_pos ab,if_pos A,jG ab]; rfl
   · rw [if_neg ab,if_neg A]
abbrev Bm (P:ar) (fn:fU) (R:ag→ah→Prop):bu→Act→ah→Prop :=bodyPostM e7 0 P fn (fun e w'=> ∃ v,e= .returned v∧R v w')
theorem AS {P:ar} {f:ee} {N:Nat} {fn:fU} {c:bH} {args:List ag} {w:ah} {R:ag→ah→Prop} (F:List Nat) (C:P.funcs[f]? =some fn) (hb:fn.body=some c)
 (A:fn.ntmps=N) (hn:bf args.length N=true) (h:eY P ⟨N,[],F,none⟩ c (Bm P fn R) (dv args) w):bg P f args.toArray w R:=by
 subst A;refine callsIn_wide.1<|callsIn_of_wp_marks (F:=e7) (n:=0) C hb trivial ?_;rw [nt fn args F hn];exact h
section
variable {P:ar} {n:Nat} {F:List Nat} {σ:Nat→ag} {w:ah} {fn:fU} {R:ag→ah→Prop}
theorem Jy {e:bu} (he:e= .ret∨e= .normal) {v:ag} (hr:(results fn (act ⟨n,[],F,none⟩ σ).tmps).run P w= .ok v w) (A:R v w):qb ⟨n,[],F,none⟩ (Bm P fn R) e σ w:=by
 rcases he with rfl | rfl <;> exact ⟨v,hr,v,rfl,A⟩
theorem A6 {t:Nat} {v:ag} (h:fn.results= #[.tmp t]) (C:ev ⟨n,[],F,none⟩ σ (.tmp t)=v) (A:R v w):qb ⟨n,[],F,none⟩ (Bm P fn R) .ret σ w:=
 Jy (.inl rfl) (by rw [results_tmp h,nw,C]) A
end
theorem gq {w:ah} {B t size n pp C:Nat} {v:ag} {xs:List ag} {cs:Array ag} {z:Nat×Nat} (h:w.ownsRow B t size v n xs) (hp:w.heap[pp]? =some (.cells cs C z)) (I:t≠C):v.ownBlock≠some pp:=by
 intro A;rcases h.2 with ⟨h1,_⟩ | ⟨g,cap,cur,h1,_,E,_⟩
 · rw [h1] at A; simp [gr] at A
 · rw [h1] at A;simp only [gr,bK] at A;subst A;rw [E] at hp;simp only [bK,E4] at hp;exact I hp.2.1
section
variable {P:ar} {N:Fm} {σ:Nat→ag} {w:ah} {dst:Option Nat} {ty:av} {pos :String} {af:Array bQ} {g:Option (Nat×Bool)} {x:aW} {K:(Nat→ag)→ah→Prop}
theorem sf {e:av} {v:ag} (A:ev N σ x=v) (h1:v.oneCell'=true) (k:∀ b w',b=w.heap.size→Nw w w'→w'.heap[b]? =some (.cells [v].toArray e (0,0))→K (dw σ dst<|.pointer<|some ⟨b,0,none⟩) w'):
 bW P N ⟨dst,.box e x,ty,pos,af,g⟩ σ w K:=by
 refine lF (v:=fun b=> .pointer<|some ⟨b,0,none⟩) (ob:= .cells [v].toArray e (0,0)) ?_ k;have :=nn h1;simp [execOp,yV,A,this,newVar,newRow]
end
theorem xp (w:ah) (k:Nat) (o:Obj):Md (fun j=>j=k) w (w.putObj k o):=
 ⟨rfl,rfl,by simp [World.putObj],fun j _ A=>World.putObj_heap_other A⟩
def bZ (w w':ah):Prop := ∀ (k:Nat) (o:Obj),w.heap[k]? =some o→((∀ cur e z,o≠.cells cur e z)∧∀ es c,o≠.map es c)→w'.heap[k]? =some o
theorem bZ.trans {a b c:ah} (h:bZ a b) (h':bZ b c):bZ a c:=fun k o A hn=>h' k o (h k o A hn) hn
theorem bZ.md {F:Nat→Prop} {w w':ah} (hm:Md F w w') (C:∀ k,F k→∃ cur e z,w.heap[k]? =some (.cells cur e z)):bZ w w':=fun k o A hn=>by
 rw [hm.dM k (dq.1 A).1 (fun E=>by obtain ⟨c,e,z,h⟩:=C k E; rw [A] at h; exact hn.1 _ _ _<|Option.some.inj h)]; exact A
theorem bZ.wk {w w':ah} (hm:Wk w w'):bZ w w':=bZ.md hm fun _ h=>h.elim
theorem o4 {w:ah} {B e size n:Nat} {v:ag} {xs:List ag} (h:w.ownsRow B e size v n xs):∀ k,v.ownBlock=some k→∃ cur e z,w.heap[k]? =some (.cells cur e z):=by
 intro k A;rcases h.2 with ⟨rfl,_⟩ | ⟨g,cap,E,rfl,_,C,_⟩
 · simp [gr] at A
 · simp only [gr,bK] at A; subst A; exact ⟨_,_,_,C⟩
section
variable {F:Nat→Prop} {W W':ah} {B:Nat}
end
theorem zw (N:Fm):∀ (l:List (Tmp×ag)) (σ:Nat→ag),l.foldl (fun t p=>t.setIfInBounds p.1 p.2) (act N σ).tmps=(act N<|l.foldl (fun s p=>aV s p.1 p.2) σ).tmps:=by
 intro l
 induction l with
 | nil=>intro σ; rfl
 | cons p l ih=>
   intro σ;rw [jc,jc,← ih];congr 1;have :=congrArg Act.tmps<|eO N σ (some p.1) p.2;exact this
section
variable {P:ar} {N:Fm} {ops:Array aC} {Q:bu→(Nat→ag)→ah→Prop} {rest:List aC} {σ:Nat→ag} {w:ah} {d':Option Nat} {d:Nat} {op:Op} {ty:av} {pos :String} {af:Array bQ} {v:ag}
def kD (P:ar) (N:Fm) (ops:Array aC) (Q:bu→(Nat→ag)→ah→Prop) (l:List aC) (σ:Nat→ag) (w:ah):Prop :=wpListIn (fe N.r) 0 P ops (lift N Q) l (act N σ) w
theorem KX {id:Nat} {l:List aC} (h:kD P N l.toArray Q l σ w):bw P N (.region id l.toArray false) Q σ w:=by
 unfold bw; exact wpIn_region_lit h
theorem Kf (h:Q .normal σ w):kD P N ops Q [] σ w:=⟨σ,rfl,h⟩
def xz (o:Op):Bool:=match o with | .defer _=>false | _=>true
theorem Kk {o:Op} (h:xz o=true):∀ c,o≠.defer c:=fun c e=>by subst e; cases h
theorem ey (hn:xz op=true) (h:bW P N ⟨d',op,ty,pos,af,none⟩ σ w (fun σ w=>kD P N ops Q rest σ w)):kD P N ops Q (⟨d',op,ty,pos,af,none⟩::rest) σ w:=by
 unfold kD wpListIn;rw [if_pos (fq _ rfl _)];refine ⟨fun f _=>ki _ f,?_⟩;rw [m5,rJ _ _ _ (Kk hn)];unfold bW gI at h;generalize (execOp (act N σ).eval ⟨d',op,ty,pos,af,none⟩).run P w=x at h ⊢;cases x with
 | ok n w'=>
   cases n <;> simp only [iD,rK] at h ⊢ <;>
    first
     | (obtain ⟨σ',ha,A⟩:=h; rw [ha]; exact A)
     | (refine ⟨fun h0=>(by rw [m4] at h0; cases h0),EN (sK h) fun e w'' he=> ?_⟩
        cases e with
        | returned v=>obtain ⟨σ',ha,A⟩:=he; simp only; rw [ha]; exact A
        | panicked c=>exact he.elim
        | outgrown=>obtain ⟨_,_,C⟩:=he; exact C.elim)
     | (refine ⟨fun h0=>(by rw [m4] at h0; cases h0),E7 (A7 h) fun v w'' he=> ?_⟩
        obtain ⟨σ',ha,A⟩:=he; rw [ha]; exact A)
 | halt x w'=>cases x <;> simp only [iD] at h
theorem py (hn:xz op=true) (h:(execOp (ev N σ) ⟨some d,op,ty,pos,af,none⟩).run P w= .ok (.value v) w) (k:kD P N ops Q rest (aV σ d v) w):kD P N ops Q (⟨some d,op,ty,pos,af,none⟩::rest) σ w:=
 ey hn (hO h k)
end
end Go.Hb
end
section
namespace Go.Hb
def mP (P:ar) (f:ee) (args:Array ag) (w:ah) (R:ag→ah→Prop) (A:List PanicEntry→ah→Prop):Prop :=
 Calls P f args w fun e w'=>(∃ v,e= .returned v∧R v w')∨∃ c,e= .panicked c∧A c w'
def Ba (P:ar) (fn:fU) (N:Fm) (R:ag→ah→Prop) (A:List PanicEntry→ah→Prop):bu→(Nat→ag)→ah→Prop
 | .normal,σ,w=> ∃ v,(results fn (act N σ).tmps).run P w= .ok v w∧R v w
 | .ret,σ,w=> ∃ v,(results fn (act N σ).tmps).run P w= .ok v w∧R v w
 | .panic c,_,w=>A c w
 | _,_,_=>False
theorem qH {P:ar} {fn:fU} {N:Fm} {R:ag→ah→Prop} {A:List PanicEntry→ah→Prop} {e:bu} {σ:Nat→ag} {w:ah} (h:fin P fn N R e σ w):Ba P fn N R A e σ w:=by
 cases e <;> first | exact h | exact h.elim
theorem qD {P:ar} {f:ee} {N:Nat} {fn:fU} {c:bH} {args:List ag} {w:ah} {R:ag→ah→Prop} {I:List PanicEntry→ah→Prop} (L:P.funcs[f]? =some fn) (hb:fn.body=some c)
 (J:fn.ntmps=N) (hn:bf args.length N=true) (h:bw P ⟨N,[],[],none⟩ c (Ba P fn ⟨N,[],[],none⟩ R I) (dv args) w):mP P f args.toArray w R I:=by
 subst J;refine calls_of_wp L hb ?_;rw [nt fn args [] hn];unfold bw at h;refine yU ?_<|wpIn_wide.1 h;intro e a w A;cases e with
 | normal=>obtain ⟨σ,rfl,v,hr,E⟩:=A; exact ⟨rfl,v,hr,.inl ⟨v,rfl,E⟩⟩
 | ret=>obtain ⟨σ,rfl,v,hr,E⟩:=A; exact ⟨rfl,v,hr,.inl ⟨v,rfl,E⟩⟩
 | exit id=>obtain ⟨σ,rfl,C⟩:=A; exact C.elim
 | goto l=>obtain ⟨σ,rfl,C⟩:=A; exact C.elim
 | panic c=>obtain ⟨σ,rfl,C⟩:=A; exact ⟨rfl,.inr ⟨c,rfl,C σ fun _ _=>rfl⟩⟩
 | outgrown=>exact A.elim
section
variable {P:ar} {N:Fm} {Q:bu→(Nat→ag)→ah→Prop} {σ:Nat→ag} {w:ah} {ops:Array aC} {rest:List aC} {dst:Option Nat} {ty:av} {pos :String} {af:Array bQ} {g:Option (Nat×Bool)} {x:aW}
def nR (P:ar) (N:Fm) (o:aC) (σ:Nat→ag) (w:ah) (K:(Nat→ag)→ah→Prop) (A:List PanicEntry→ah→Prop):Prop :=
 gI P o (act N σ) w (fun a w=> ∃ σ,a=act N σ∧K σ w) (fun e a w=>match e with | .panic c=>a=act N σ∧A c w | _=>False)
theorem yI {o:aC} {K:(Nat→ag)→ah→Prop} {C:List PanicEntry→ah→Prop} {A:Act→ah→Prop} (h:nR P N o σ w K C) (L:∀ σ w,K σ w→A (act N σ) w) (hp:∀ c w',C c w'→∀ σ',(∀ i∈N.F,σ' i=σ i)→Q (.panic c) σ' w'):o.wp P (act N σ) w A (lift N Q):=by
 unfold nR at h;unfold gI at*;generalize (execOp (act N σ).eval o).run P w=r at h ⊢;have E:∀ a w,(∃ σ,a=act N σ∧K σ w)→A a w:=by rintro a w ⟨σ,rfl,h⟩; exact L _ _ h
 have I:∀ c (a:Act) w',(a=act N σ∧C c w')→lift N Q (.panic c) a w':=by rintro c a w' ⟨rfl,h⟩; exact ⟨σ,rfl,hp c w' h⟩
 cases r with
 | ok n w'=>
   cases n <;> simp only [iD] at h ⊢ <;>
    first
     | exact E _ _ h
     | exact kE h (fun e w'' he=>by
      cases e with
      | returned v=>exact E _ _ he
      | panicked c=>exact I _ _ _ ⟨rfl,he.2⟩
      | outgrown=>obtain ⟨_,_,J⟩:=he; exact J.elim)
     | exact uw h fun _ _ he=>E _ _ he
 | halt x w'=>cases x <;> simp only [iD] at h ⊢ <;> exact I _ _ _ ⟨rfl,h.2⟩
theorem eC {f:ee} {args:Array aW} {C:Array av} {L:List ag} {R:ag→ah→Prop} {A:List PanicEntry→ah→Prop} {K:(Nat→ag)→ah→Prop} (O:ga P f) (hr:mP P f L.toArray w R A) (I:args.toList.map (ev N σ)=L)
 (k:∀ v w',R v w'→K (dw σ dst v) w'):nR P N ⟨dst,.call ⟨.value (.func f),args,C⟩,ty,pos,af,g⟩ σ w K A:=by
 unfold nR gI;have hm:args.map (ev N σ)=L.toArray:=by rw [← I,← ja]
 have U:(execOp (ev N σ) ⟨dst,.call ⟨.value (.func f),args,C⟩,ty,pos,af,g⟩).run P w= .ok (.enter f L.toArray) w:=by
  have E:=O L.toArray w;simp [execOp,resolve,ev,mF,invoke,hm,E]
 rw [dt,U];simp only [iD];refine kE hr ?_;rintro e w' (⟨v,rfl,M⟩ | ⟨c,rfl,J⟩)
 · exact ⟨_,eO ..,k v w' M⟩
 · exact ⟨trivial,J⟩
theorem eP {o:aC} {A:List PanicEntry→ah→Prop} (E:o.guard=none) (h:nR P N o σ w (fun σ w=>bP P N ops Q rest σ w) A) (hp:∀ c w',A c w'→∀ σ',(∀ i∈N.F,σ' i=σ i)→Q (.panic c) σ' w'):bP P N ops Q (o::rest) σ w:=by
 unfold bP wpList;rw [if_pos (fq o E _)];refine .inl<|yI h (fun σ w C=> ?_) hp;unfold bP at C; exact C
theorem KL {t:av} {v:ag} (A:ev N σ x= .iface t v) (hp:∀ σ',(∀ i∈N.F,σ' i=σ i)→Q (.panic [{v:= .iface t v,recovered:=false}]) σ' w):bP P N ops Q (⟨dst,.panic x,ty,pos,af,none⟩::rest) σ w:=by
 unfold bP wpList;rw [if_pos (fq _ rfl _)];refine .inl ?_;unfold gI;have hr:(execOp (ev N σ) ⟨dst,.panic x,ty,pos,af,none⟩).run P w= .halt (.panic<|.iface t v) w:=by
  simp [execOp,A,Instr.panic]
 rw [dt,hr];exact ⟨σ,U,hp⟩
theorem J9 {t:av} {d:TypeDesc} {v:ag} (hu:P.underlying t=some d) (A:(match d with | .interface _=>false | _=>true)=true) (C:ev N σ x=v):(execOp (ev N σ) ⟨dst,.makeInterface t x,ty,pos,af,g⟩).run P w= .ok (.value<|.iface t v) w:=by
 cases d <;> first | (cases A; done) | simp [execOp,Instr.makeInterface,C,bB hu]
def ko (P:ar) (t:av):Bool:=match P.underlying t with | some (.interface _)=>false | some _=>true | none=>false
theorem xu {t:av} {v:ag} (h:ko P t=true) (A:ev N σ x=v):(execOp (ev N σ) ⟨dst,.makeInterface t x,ty,pos,af,g⟩).run P w= .ok (.value<|.iface t v) w:=by
 unfold ko at h;cases hd:P.underlying t with
 | none=>rw [hd] at h; cases h
 | some d=>rw [hd] at h; exact J9 hd (by cases d <;> first | rfl | cases h) A
theorem DL {xt a:av} {zv:ag} (hu:ko P a=true) (C:zeroV P a=some zv) (A:ev N σ x= .nilIface):(execOp (ev N σ) ⟨dst,.typeAssert x xt a true,ty,pos,af,g⟩).run P w= .ok (.value<|.tuple #[zv,.bool false]) w:=by
 unfold ko at hu;cases hd:P.underlying a with
 | none=>rw [hd] at hu; cases hu
 | some d=>rw [hd] at hu; cases d <;> first | (cases hu; done) | simp [execOp,E1,A,bB hd,En C]
theorem DK {xt a:av} {v:ag} (hu:ko P a=true) (A:ev N σ x= .iface a v):(execOp (ev N σ) ⟨dst,.typeAssert x xt a true,ty,pos,af,g⟩).run P w= .ok (.value<|.tuple #[v,.bool true]) w:=by
 unfold ko at hu;cases hd:P.underlying a with
 | none=>rw [hd] at hu; cases hu
 | some d=>rw [hd] at hu; cases d <;> first | (cases hu; done) | simp [execOp,E1,A,bB hd]
variable {S:ah→Prop} {fuel:Nat} {listed:Array Bool}
theorem IY {o:aC} {C:List PanicEntry→ah→Prop} (i:Nat) (hi:ops[i]? =some o) (hr:gU ops listed i=true) (E:o.guard=none)
 (h:nR P N o σ w (fun σ w=>S w∧cm P N ops Q S fuel (listed.setIfInBounds i true) σ w) C) (hp:∀ c w',C c w'→∀ σ',(∀ i∈N.F,σ' i=σ i)→Q (.panic c) σ' w'):cm P N ops Q S (fuel+1) listed σ w:=by
 unfold cm at*;refine wpAnyH_all (rs:= [i]) (by simpa [gU] using hr) (by simp) ?_;intro k A;obtain rfl :k=i:=by simpa using A
 unfold wpOp;simp only [hi];rw [if_pos (fq _ E _)];exact .inl<|yI h (fun σ w A=>A) hp
end
section
variable {P:ar} {N:Fm} {Q:bu→(Nat→ag)→ah→Prop} {σ:Nat→ag} {w:ah} {ops:Array aC} {S:ah→Prop} {fuel:Nat} {listed:Array Bool}
end
section
variable {P:ar} {N:Fm} {Q:bu→(Nat→ag)→ah→Prop} {σ:Nat→ag} {w:ah} {ops:Array aC} {S:ah→Prop} {fuel r:Nat} {listed:Array Bool}
theorem JC {o:aC} {C:List PanicEntry→ah→Prop} (i:Nat) (hi:ops[i]? =some o) (hr:gU ops listed i=true) (I:o.guard=none)
 (h:nR P N o σ w (fun σ w=>S w∧cr P N ops Q S r fuel (listed.setIfInBounds i true) σ w) C) (hp:∀ c w',C c w'→∀ σ',(∀ i∈N.F,σ' i=σ i)→Q (.panic c) σ' w'):cr P N ops Q S r (fuel+1) listed σ w:=by
 unfold cr at*;have E:dx .any ops listed= [i]:=by simpa [gU] using hr
 refine ⟨fun h0=>absurd (E ▸ h0) (by simp),fun k A=> ?_⟩;rw [E] at A;obtain rfl :k=i:=by simpa using A
 unfold wpOp;simp only [hi];rw [if_pos (fq _ I _)];exact .inl<|yI h (fun σ w A=>⟨fun _=>A.1,A.2⟩) hp
end
abbrev lT (P:ar) (fn:fU) (R:ag→ah→Prop):bu→Act→ah→Prop :=bodyPostD P fn (fun e w'=> ∃ v,e= .returned v∧R v w')
theorem Ia {P:ar} {f:ee} {N:Nat} {fn:fU} {c:bH} {args:List ag} {w:ah} {R:ag→ah→Prop} (F:List Nat) (C:P.funcs[f]? =some fn) (hb:fn.body=some c)
 (A:fn.ntmps=N) (hn:bf args.length N=true) (h:eY P ⟨N,[],F,none⟩ c (lT P fn R) (dv args) w):bg P f args.toArray w R:=by
 subst A;refine calls_of_wp_defers C hb ?_;rw [nt fn args F hn];exact wpIn_wide.1 h
section
variable {P:ar} {n:Nat} {D:List Deferred} {F:List Nat} {σ:Nat→ag} {w:ah} {fn:fU} {R:ag→ah→Prop} {B:bu→Act→ah→Prop}
theorem Iu {v:ag} (hr:(results fn (act ⟨n,[],F,none⟩ σ).tmps).run P w= .ok v w) (A:R v w):qb ⟨n,[],F,none⟩ (lT P fn R) .ret σ w:=⟨v,hr,v,rfl,A⟩
theorem JE:¬LetsOut (lT P fn R):=fun ⟨_,_,h⟩=>by obtain ⟨v,h,_⟩:=h; cases h
theorem kW {id d:Nat} {f:ee} (M:¬LetsOut B) {cs:Array aW} {I J:av} {p1 p2:String} {C E:Array bQ} {y:bH} (A:Array ag) (V:cs.toList.map (ev ⟨n,[],F,none⟩ σ)=A.toList) (ab:d < n)
 (h:eY P ⟨n,[{target:= .fn (.func f) A,args:= #[]}],F,none⟩ y B (aV σ d<|.func (.func f) #[] A) w):
 eY P ⟨n,[],F,none⟩ (.region id #[⟨some d,.makeFunc (.func f) #[] cs,I,p1,C,none⟩,⟨none,.defer ⟨.value (.tmp d),#[],#[]⟩,J,p2,E,none⟩] false) (Exit.then (y.wpIn (fe none) 0 P B) B) σ w:=by
 have Z:cs.map (ev ⟨n,[],F,none⟩ σ)=A:=rC.1<|by rw [ja]; exact V
 refine wpIn_region ?_;have O:¬LetsOut (Exit.then (y.wpIn (fe none) 0 P B) B):=fun ⟨a,w,h⟩=>M ⟨a,w,h⟩;refine wO (r:=none) O U _ _ _ ?_;show wpOps P _ _ [0,1] _ _;simp only [wpOps,lO,je,jd];rw [if_pos (fq _ rfl _)];refine .inl ?_;unfold gI;have h1:(execOp (act ⟨n,[],F,none⟩ σ).eval ⟨some d,.makeFunc (.func f) #[] cs,I,p1,C,none⟩).run P w= .ok (.value<|.func (.func f) #[] A) w:=by
  rw [dt,mf,Z]; simp
 rw [h1];simp only [iD];rw [if_pos (fq _ rfl _),eO];refine .inl ?_;have L:(execOp (act ⟨n,[],F,none⟩<|dw σ (some d)<|.func (.func f) #[] A).eval ⟨none,.defer ⟨.value (.tmp d),#[],#[]⟩,J,p2,E,none⟩).run P w= .ok (.defer {target:= .fn (.func f) A,args:= #[]}) w:=by
  have ac:ev ⟨n,[],F,none⟩ (aV σ d<|.func (.func f) #[] A) (.tmp d)= .func (.func f) #[] A:=by
   show cond (aE d n) (aV σ d _ d) undef=_;rw [show aE d n=true from by simpa using ab];show aV σ d _ d=_;unfold aV; simp
  rw [dt];show (execOp (ev ⟨n,[],F,none⟩<|aV σ d<|.func (.func f) #[] A) _).run P w=_;simp [execOp,resolve,ac,mF]
 rw [L];exact h
end
theorem KC {P:ar} {ops:Array aC} {Q:bu→Act→List Frame→ah→Prop} {cs:List Frame} (A:¬LetsOut fun e a w=>Q e a cs w):∀ (l:List Nat) (a:Act) (w:ah),wpOps P ops (fun e a w=>Q e a cs w) l a w→wpOpsS P ops Q l a cs w:=by
 intro l
 induction l with
 | nil=>exact fun _ _ h=>h
 | cons i l ih=>
   intro a w h;simp only [wpOps] at h;simp only [wpOpsS];cases ho:ops[i]? with
   | none=>simp only [ho] at h ⊢; exact ih a w h
   | some o=>
     simp only [ho] at h ⊢;by_cases hw:kf o (yielded ops a.tmps)=true
     · rw [if_pos hw] at h ⊢;rcases h with h | h
       · unfold gI at h;generalize (execOp a.eval o).run P w=x at h;cases x with
         | ok n w'=>
           cases n <;> simp only [iD] at h ⊢ <;>
            first
             | exact ih _ _ h
             | exact kE h fun e w'' he=>by cases e <;> first | exact ih _ _ he | exact he
             | exact uw h fun v w'' he=>ih _ _ he
         | halt x w'=>cases x <;> simp only [iD] at h ⊢ <;> exact h
       · exact absurd h.2 A
     · rw [if_neg hw] at h ⊢;exact ih _ _ h
theorem JJ {P:ar} {ops:Array aC} {Q C:bu→Act→ah→Prop} (A:∀ e a w,Q e a w→C e a w) (E:¬LetsOut Q):∀ (l:List aC) (a:Act) (w:ah),wpList P ops Q l a w→wpList P ops C l a w:=by
 intro l
 induction l with
 | nil=>exact fun _ _ h=>A _ _ _ h
 | cons o l ih=>
   intro a w h;unfold wpList at h ⊢;split at h
   · rename_i hw;rw [if_pos hw];rcases h with h | h
     · left;unfold gI at h ⊢;generalize (execOp a.eval o).run P w=x at h;cases x with
       | ok n w'=>
         cases n <;> simp only [iD] at h ⊢ <;>
          first
           | exact ih _ _ h
           | exact kE h (fun e w'' he=>by
            cases e with
            | returned v=>exact ih _ _ he
            | panicked c=>exact A _ _ _ he
            | outgrown=>exact absurd he E)
           | exact uw h fun v w'' he=>ih _ _ he
       | halt x w'=>cases x <;> simp only [iD] at h ⊢ <;> exact A _ _ _ h
     · exact absurd h.2 E
   · rename_i hw;rw [if_neg hw]; exact ih _ _ h
theorem zV {P:ar} {f:ee} {fn:fU} {id N d:Nat} {ty:av} {pos :String} {af:Array bQ} {rest:List aC} {y:bH} {args:List ag} {w:ah} {u I:FrameMode} {v:ag} {R:ah→Prop}
 (ai:P.funcs[f]? =some fn) (hb:fn.body=some (.seq (.region id (⟨some d,.call ⟨.builtin .recover,#[],#[]⟩,ty,pos,af,none⟩::rest).toArray false) y)) (ad:fn.ntmps=N) (hn:bf args.length N=true)
 (aj:∀ (C:Frame) (cs:List Frame),C.mode=u→(recoverD (C::cs)=some (v,{C with mode:=I} ::cs))∨(recoverD (C::cs)=none∧v= .nilIface∧I=u))
 (h:bP P ⟨N,[],[],none⟩ (⟨some d,.call ⟨.builtin .recover,#[],#[]⟩,ty,pos,af,none⟩::rest).toArray (gZ (fun σ w=>bw P ⟨N,[],[],none⟩ y (fin P fn ⟨N,[],[],none⟩ fun _ w=>R w) σ w)<|fin P fn ⟨N,[],[],none⟩ fun _ w=>R w) rest (aV (dv args) d v) w):
 CallsD P f args.toArray u w fun e J w'=> ∃ v,e= .returned v∧J=I∧R w':=by
 subst ad;refine callsD_of_wpS ai hb ?_;intro C cs hu;rw [nt fn args [] hn];refine wpS_seq<|wpS_region ?_;have ak:fX (⟨some d,.call ⟨.builtin .recover,#[],#[]⟩,ty,pos,af,none⟩::rest).toArray.size=0::(List.range' 1 rest.length):=by
  rw [eM,dC,FB,List.range'_succ]
 rw [ak];simp only [wpOpsS,lO,je];rw [if_pos (fq _ rfl _)];have al:(execOp (act ⟨fn.ntmps,[],[],none⟩<|dv args).eval ⟨some d,.call ⟨.builtin .recover,#[],#[]⟩,ty,pos,af,none⟩).run P w= .ok .recover w:=by
  rw [dt];simp [execOp,resolve,invoke,builtin]
 rw [al];simp only;obtain ⟨L,M⟩:∃ L,L=({C with mode:=I} ::cs:List Frame):=⟨_,rfl⟩
 have ae:∀ X:Act→List Frame→Prop,X ((act ⟨fn.ntmps,[],[],none⟩<|dv args).put (some d) v) L→
  (match recoverD (C::cs) with
   | some (v,O)=>X ((act ⟨fn.ntmps,[],[],none⟩<|dv args).put (some d) v) O
   | none=>X ((act ⟨fn.ntmps,[],[],none⟩<|dv args).put (some d) .nilIface) (C::cs)):=by
  intro X V;rcases aj C cs hu with h1 | ⟨h1,ab,ac⟩;rw [h1]; subst M; exact V;rw [h1]; subst ab ac;have :({C with mode:=I} :Frame)=C:=by subst hu; rfl
  rw [this] at M; subst M; exact V
 refine ae (fun a O=>wpOpsS P _ _ _ a O w) ?_;rw [eO];refine KC ?_ _ _ _ ?_;rintro ⟨a,w,h⟩;simp only [Exit.thenS,bodyPostS] at h;obtain ⟨_,_,h,_⟩:=h; cases h;have h1:=wpOps_eq_wpList (P:=P) (ops:=(⟨some d,.call ⟨.builtin .recover,#[],#[]⟩,ty,pos,af,none⟩::rest).toArray) (Q:=fun e a w'=>Exit.thenS (Code.wpS P y (bodyPostS P fn C cs fun e J w'=> ∃ v,e= .returned v∧J=I∧R w')) (bodyPostS P fn C cs fun e J w'=> ∃ v,e= .returned v∧J=I∧R w') e a L w') rest 1 fun j=>by simp [qa]
 rw [h1];unfold bP at h;refine JJ ?_ xe _ _ _ h;intro e a w' E;have Z:∀ (e:bu) (σ:Nat→ag) (w':ah),fin P fn ⟨fn.ntmps,[],[],none⟩ (fun _ w=>R w) e σ w'→bodyPostS P fn C cs (fun e J w'=> ∃ v,e= .returned v∧J=I∧R w') e (act ⟨fn.ntmps,[],[],none⟩ σ) L w':=by
  intro e σ w' A;cases e with
  | normal=>obtain ⟨v,hr,U⟩:=A; exact ⟨rfl,I,M,v,hr,v,rfl,rfl,U⟩
  | ret=>obtain ⟨v,hr,U⟩:=A; exact ⟨rfl,I,M,v,hr,v,rfl,rfl,U⟩
  | _=>exact A.elim
 cases e with
 | normal=>
   obtain ⟨σ,rfl,A⟩:=E;refine wpS_of_wp ?_;simp only [gZ] at A;unfold bw at A;refine yU ?_<|wpIn_wide.1 A;intro e a w' E;cases e with
   | panic c=>obtain ⟨σ,rfl,A⟩:=E; exact (A σ fun _ _=>rfl).elim
   | outgrown=>exact E.elim
   | _=>obtain ⟨σ,rfl,A⟩:=E; exact Z _ σ w' A
 | panic c=>obtain ⟨σ,rfl,A⟩:=E; exact (A σ fun _ _=>rfl).elim
 | outgrown=>exact E.elim
 | ret=>obtain ⟨σ,rfl,A⟩:=E; exact Z .ret σ w' A
 | exit i=>obtain ⟨σ,rfl,A⟩:=E; exact A.elim
 | goto i=>obtain ⟨σ,rfl,A⟩:=E; exact A.elim
section
variable {P:ar} {n:Nat} {F:List Nat} {σ:Nat→ag} {w:ah} {fn:fU} {R:ag→ah→Prop}
theorem Iw {g:ee} {A:Array ag} {M:ah→Prop} (hu:(invoke (.fn (.func g) A) #[]).run P w= .ok (.enter g A) w)
 (I:CallsD P g A .returning w fun e J w'=> ∃ v,e= .returned v∧J= .returning∧M w') (E:∀ w',M w'→∃ v,(results fn (act ⟨n,[{target:= .fn (.func g) A,args:= #[]}],F,none⟩ σ).tmps).run P w'= .ok v w'∧R v w'):
 qb ⟨n,[{target:= .fn (.func g) A,args:= #[]}],F,none⟩ (lT P fn R) .ret σ w:=by
 refine leaves_cons (by simp) hu ?_;refine EM I ?_;rintro e L w' ⟨v,rfl,rfl,hm⟩;obtain ⟨v2,h1,C⟩:=E w' hm;exact ⟨v2,h1,v2,U,C⟩
theorem Ix {g:ee} {A:Array ag} {M:ah→Prop} {v:ag} (hu:(invoke (.fn (.func g) A) #[]).run P w= .ok (.enter g A) w)
 (I:CallsD P g A (.panicking [{v:=v,recovered:=false}]) w fun e J w'=> ∃ x,e= .returned x∧J= .panicking [{v:=v,recovered:=true}]∧M w') (E:∀ w',M w'→∃ v,(results fn (act ⟨n,[{target:= .fn (.func g) A,args:= #[]}],F,none⟩ σ).tmps).run P w'= .ok v w'∧R v w'):
 qb ⟨n,[{target:= .fn (.func g) A,args:= #[]}],F,none⟩ (lT P fn R) (.panic [{v:=v,recovered:=false}]) σ w:=by
 refine leaves_cons (by simp) hu ?_;refine EM I ?_;rintro e L w' ⟨x,rfl,rfl,hm⟩;obtain ⟨v2,h1,C⟩:=E w' hm;exact ⟨v2,h1,v2,U,C⟩
end
end Go.Hb
end
section
namespace Go.Hb
abbrev Tl:=List<|List UInt8
def wy:Tl→List (UInt8×Tl)
 | []=> []
 | []::ts=>wy ts
 | (c::t)::ts=>match wy ts with
   | []=> [(c,[t])]
   | (c',g)::r=>if c=c' then (c,t::g)::r else (c,[t])::(c',g)::r
def I9 (A:Tl):Bool:=match A with | []::_=>true | _=>false
def HV (A:Tl):Tl:=match A with | []::r=>r | r=>r
structure VS where
 known:List Tl
 kB:List (Bool×List (UInt8×Nat))
def VS.add (s:VS) (A:Tl):VS:=⟨s.known++ [A],s.kB++ [(false,[])]⟩
end Go.Hb
namespace Go.Hb
end Go.Hb
namespace Go.Hb
abbrev FV:=Bool×List (UInt8×Nat)
end Go.Hb
namespace Go.Hb
def tC (l:List (UInt8×Nat)):Prop :=l.Pairwise fun a b=>a.1.toNat < b.1.toNat
end Go.Hb
namespace Go.Hb
def H9 (A:List Tl) (p:UInt8×Tl):UInt8×Nat:=(p.1,A.idxOf p.2+1)
def enc (A:List Tl) (L:Tl):FV:=(I9 L,(wy<|HV L).map (H9 A))
end Go.Hb
namespace Go.Hb
def nm (A:List Tl) (i:Nat):Tl:=A.getD (i - 1) []
end Go.Hb
namespace Go.Hb
end Go.Hb
namespace Go.Hb
end Go.Hb
end
