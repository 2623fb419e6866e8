/-
  Walks and plain laws that the law rests on, laid together. No conditions but those that each theorem names.
-/
import Derived.WalkKit
import Derived.OrdersHeld
import Derived.TacticsIn
import Derived.Lib.Strings
import Derived.Lib.UnsafeStr
import Derived.Laws.MakeOwn
import Derived.Laws.StructEq
import Derived.SliceStrings
import Derived.Carry
import Derived.JoinedCond
import Derived.ProofKit
import Derived.OpenShut
import Derived.Test.YtjaoldaegkmkjaaGreatDoorRows
import Derived.Test.YtjaoldaegkmkjaaGreatDoorChecked
import Derived.RangeFuncFrom
import Derived.RangeFuncLeaves
import Derived.Recover
import Derived.Laws.OwnMore
import Derived.Lib.Bytealg
import Derived.OrdersIn
import Derived.Lib.SliceRun
import Derived.Lib.FrozenHead
import Derived.Deep.AppendSrc
import Derived.RangeFuncNested
import Derived.Stop.LaidErr
set_option linter.unusedVariables false
set_option maxRecDepth 20000
set_option maxHeartbeats 1000000
open Array renaming ext_getElem?→Ad,getD_eq_getD_getElem?→gw,getElem?_append_left→Af,getElem?_append_right→Ag,getElem?_eq_getElem→lH,getElem?_eq_none→qM,getElem?_eq_some_iff→ef,getElem?_replicate→Ai,getElem?_setIfInBounds→og,length_toList→jF,mem_toList_iff→qO,range→m7,replicate→lI,setIfInBounds_comm→uE,toArray_toList→Aj,toList_append→Ak,toList_inj→oh,toList_map→gR
open BitVec renaming ofInt→fS
open Bool renaming and_eq_true→aV,and_eq_true_iff→m8,eq_iff_iff→m9,false_eq_true→om,noConfusion→dd,not_eq_true'→iW,or_eq_true→lJ
open Go renaming Addr→bB,Code→bt,Edge→bX,Exit→bc,Func→fc,FuncId→dA,IntKind→bg,Oper→ax,Operand→aT,Program→aq,TypeId→an,Value→ag,World→ah
open Go.Addr renaming add→qP
open Go.Builtin renaming append_→iA,firstCells→qR,lenOf→Ar,len_→uG
open Go.ByteArray renaming toList_eq→Au
open Go.Calls renaming mono→iX
open Go.CallsD renaming mono→Av
open Go.Code renaming wp_mono→uH
open Go.Conv renaming bytesToString→Ax,seenAt→Ay,unsafePointer→Az
open Go.DataW renaming TrodAll→AA
open Go.Deferred renaming ofValue→ki
open Go.Fence renaming wide→gS
open Go.Instr renaming alloc→qS,box→uI,buildSlice→qT,checkKey→iY,fill→iZ,findAsking→lK,findKey→lL,findNow→lM,indexAt→AG,loadAt→AH,lookup→AI,slice→ou,sliceAt→lN,sliceBound→lO,sliceBounds→ja,storeAt→uL,sureAddr→lP,typeAssert→AK
open Go.IntKind renaming i64→qU
open Go.Next renaming value→ow
open Go.Obj.cells renaming injEq→AN
open Go.Op renaming bytesLess→uM,equal→kj,equalIn→eC,intArith→ox,intCmp→nb,intDiv→uN,stringOp→lR
open Go.Oper renaming upon→gT,uponIn→qV,wp→fy
open Go.Program renaming built→AP,underlying→AQ
open Go.Proofs.Tryz renaming prog→ak
open Go.Region renaming Mode→lS,binds→cY,free_spec→uP,noSelect_spec→uQ,ready→dn,wanted→iB
open Go.Result renaming andThen_ok→fT,ok→oy
open Go.Rows renaming mono→qW
open Go.Sem renaming run→jG,run_bind→gx,run_ite→qX,run_pure→jH
open Go.Value renaming bool→bh,cells→nf,int→aW,oneCell'→eV,ownBlock→ff,pointer→qY,slice→iC
open Go.Value.slice renaming injEq→uR
open Go.Value.string renaming inj→AR
open Go.World renaming freeze→jI,ownsRow_nil→gy,setCell→AW,shape?→uS
open Int renaming tdiv_eq_ediv_of_nonneg→AY
open List renaming all_eq_true→AZ,any_eq_true→A0,eq_nil_of_length_eq_zero→jL,ext_getElem?→q6,flatMap_cons→A6,foldl_cons→oB,getD_eq_getElem?_getD→cg,getElem?_cons_succ→gz,getElem?_cons_zero→gA,getElem?_eq_getElem→bH,getElem?_eq_none→km,getElem?_eq_some_iff→cJ,getElem?_map→jM,getElem?_range→uV,getElem?_take→gB,getElem?_toArray→jN,length_append→cj,length_cons→cZ,mapM_toArray→uW,map_cons→fg,mem_append_left→Bf,mem_cons→fU,mem_map_of_mem→oE,mem_of_getElem?→lW,range→kn,range_eq_range'→Bl,replicate→dq,size_toArray→dG
open List.cons renaming inj→A2
open Nat renaming add_comm→rj,beq→aD,ble→aX,blt→az,eq_of_beq_eq_true→bA,le_of_ble_eq_true→bC,le_refl→aY,le_trans→cH,lt_of_lt_of_le→kq,lt_or_ge→de,lt_succ_self→kr,mul_le_mul_right→lX,succ_mul→va,zero_add→b9,zero_mul→rn
open Option renaming bind_some→Bu,isSome_iff_exists→ks,map_eq_some_iff→fA,map_some→eu
open Option.some renaming injEq→bu
open Prod renaming fst→fh
open Prod.mk renaming injEq→gD
open UInt8 renaming ofNat→dP,toNat_lt→ku
open Go.Proofs.Tryz
open Go.RowKit

namespace Go.Hb
theorem U {p:Prop} (h:p:=by omega):p:=h
theorem aj {p:Prop} (h:p:=by kernel_rfl):p:=h
theorem aI {p:Prop} (h:p:=by decide):p:=h
theorem J {α:Sort _} {a:α} :a=a:=rfl
end Go.Hb
section
namespace Go.Hb
structure Fm where
 n:Nat
 D:List Deferred
 F:List Nat
 r:Option Nat
def a0 (σ:Nat→ag) (d:Nat) (v:ag):Nat→ag:=fun i=>cond (aD i d) v<|σ i
def cV (σ:Nat→ag):Option Nat→ag→Nat→ag
 | some d,v=>a0 σ d v
 | none,_=>σ
def act (N:Fm) (σ:Nat→ag):Act:=⟨((kn N.n).map σ).toArray,N.D⟩
def ev (N:Fm) (σ:Nat→ag):aT→ag
 | .tmp t=>cond (az t N.n) (σ t) undef
 | .const v=>v
 | .global g=> .pointer<|some ⟨g,0,none⟩
 | .func f=> .func (.func f) #[] #[]
theorem gF (N:Fm) (σ:Nat→ag) (t:Nat):(act N σ).tmps[t]? =if t < N.n then some (σ t) else none:=by grind [act]
theorem cW (N:Fm) (σ:Nat→ag):(act N σ).eval=ev N σ:=by
 funext x;cases x with
 | tmp t=>
   simp only [Act.eval,ev,gw,gF];by_cases h:t < N.n
   · rw [if_pos h,show az t N.n=true from by simpa using h]; rfl
   · rw [if_neg h,show az t N.n=false from by cases hx:az t N.n <;> simp_all [az,Nat.ble_eq] <;> omega]; rfl
 | _=>rfl
theorem oR {a b:Act} (A:a.defers=b.defers) (C:∀ i:Nat,a.tmps[i]? =b.tmps[i]?):a=b:=by
 cases a; cases b;simp only at A C;subst A;congr 1;exact Ad C
theorem dS (N:Fm) (σ:Nat→ag) (dst:Option Nat) (v:ag):(act N σ).put dst v=act N (cV σ dst v):=by
 cases dst with
 | none=>rfl
 | some d=>
   refine oR J fun i=> ?_;have h0:((act N σ).put (some d) v).tmps=(act N σ).tmps.setIfInBounds d v:=rfl;rw [h0,og,gF,gF];have C:(act N σ).tmps.size=N.n:=by simp [act]
   simp only [cV,a0];by_cases A:i=d
   · subst A;rw [C];have hb:aD i i=true :=by simp
     by_cases h:i < N.n
     · rw [if_pos rfl,if_pos h,if_pos h,hb]; rfl
     · rw [if_pos rfl,if_neg h,if_neg h]
   · rw [if_neg (fun e=>A e.symm)];have hb:aD i d=false :=by
      cases hx:aD i d
      · rfl
      · exact absurd (bA hx) A
     rw [hb]; rfl
theorem lj {σ:Nat→ag} {i:Nat} {v:ag} (h:σ i=v):a0 σ i v=σ:=by grind [a0,aD,bA]
def lift (N:Fm) (Q:bc→(Nat→ag)→ah→Prop):bc→Act→ah→Prop
 | .panic c,a,w=> ∃ σ,a=act N σ∧∀ σ',(∀ i∈N.F,σ' i=σ i)→Q (.panic c) σ' w
 | .outgrown,_,_=>False
 | e,a,w=> ∃ σ,a=act N σ∧Q e σ w
def fe:Option Nat→Fence
 | none=>gS
 | some l=>gS.inRound l
theorem nw (r:Option Nat):(fe r).round=r:=by cases r <;> rfl
theorem j1 (r:Option Nat) (f:dA):(fe r).fn f:=by cases r <;> trivial
theorem pj (r:Option Nat):(fe r).depth=none:=by cases r <;> rfl
theorem sg {r:Option Nat} {n:Nat} {P:aq} {f:dA} {args:Array ag} {w:ah} {R:Ending→ah→Prop} (h:Calls P f args w R):CallsIn (fe r) n P f args w R:=by
 cases r
 · exact callsIn_wide.2 h
 · exact (callsIn_wide (n:=n)).2 h
theorem DF {r:Option Nat} {n:Nat} {P:aq} {row:String} {args:Array ag} {w:ah} {R:ag→ah→Prop} (h:Rows P row args w R):RowsIn (fe r) n P row args w R:=fun c cs _=>by
 obtain ⟨v,w',C,A⟩:=h c cs;refine ⟨v,w',C,?_⟩;cases r
 · exact stepsIn_wide.2 A
 · exact stepsIn_wide.2 A
def tg (ops:List ax):Bool:=ops.all fun o=>match o.op with | .defer _=>false | _=>true
def iR (r:Option Nat) (ops:List ax):Bool:=match r with | none=>true | some _=>tg ops
theorem E7 {l:List ax} (h:tg l=true):∀ o∈l,∀ c,o.op≠.defer c:=by grind [tg]
theorem sI {r:Option Nat} {P:aq} {ops:Array ax} {Q:bc→Act→ah→Prop} (A:¬LetsOut Q) (hr:iR r ops.toList=true):∀ (l:List Nat) (a:Act) (w:ah),wpOps P ops Q l a w→wpOpsIn (fe r) 0 P ops Q l a w:=by
 intro l
 induction l with
 | nil=>exact fun _ _ h=>h
 | cons i l ih=>
   intro a w h;simp only [wpOps] at h;simp only [wpOpsIn];cases ho:ops[i]? with
   | none=>simp only [ho] at h ⊢; exact ih a w h
   | some o=>
     simp only [ho] at h ⊢;by_cases hw:iB o (yielded ops a.tmps)=true
     · rw [if_pos hw] at h ⊢;rcases h with h | h
       · refine ⟨fun f _=>j1 r f,?_⟩;rw [nw];have C:o.semAt r a.eval=execOp a.eval o:=by
          cases r with
          | none=>rfl
          | some k=>exact Oper.semAt_eq _ _ _<|E7 hr o<|qO.2<|Array.mem_of_getElem? ho
         rw [C];unfold fy at h;generalize (execOp a.eval o).run P w=x at h;cases x with
         | ok n w'=>
           cases n <;> simp only [gT,qV] at h ⊢ <;>
            first
             | exact ih _ _ h
             | (refine ⟨fun h0=>(by rw [pj] at h0; cases h0),CallsIn.mono (sg h) fun e w'' he=> ?_⟩
                cases e <;> first | exact ih _ _ he | exact he)
             | exact ⟨fun h0=>(by rw [pj] at h0; cases h0),RowsIn.mono (DF h) fun v w'' he=>ih _ _ he⟩
         | halt x w'=>cases x <;> simp only [gT,qV] at h ⊢ <;> exact h
       · exact absurd h.2 A
     · rw [if_neg hw] at h ⊢;exact ⟨fun f _=>j1 r f,ih _ _ h⟩
def bl (P:aq) (N:Fm) (c:bt) (Q:bc→(Nat→ag)→ah→Prop) (σ:Nat→ag) (w:ah):Prop :=
 c.wpIn (fe N.r) 0 P (lift N Q) (act N σ) w
def bD (P:aq) (N:Fm) (ops:Array ax) (Q:bc→(Nat→ag)→ah→Prop) (l:List ax) (σ:Nat→ag) (w:ah):Prop :=
 wpList P ops (lift N Q) l (act N σ) w
def fQ (K:(Nat→ag)→ah→Prop) (Q:bc→(Nat→ag)→ah→Prop):bc→(Nat→ag)→ah→Prop
 | .normal,σ,w=>K σ w
 | e,σ,w=>Q e σ w
def jq (id:Nat) (Q:bc→(Nat→ag)→ah→Prop):bc→(Nat→ag)→ah→Prop
 | .exit A,σ,w=>if A=id then Q .normal σ w else Q (.exit A) σ w
 | e,σ,w=>Q e σ w
section
variable {P:aq} {N:Fm} {Q:bc→(Nat→ag)→ah→Prop} {σ:Nat→ag} {w:ah} {K:(Nat→ag)→ah→Prop}
theorem ED {Q C:bc→(Nat→ag)→ah→Prop} (h:∀ e σ w,Q e σ w→C e σ w) (e:bc) (a:Act) (w:ah):lift N Q e a w→lift N C e a w:=by
 cases e <;> first | exact fun h=>h.elim | exact fun ⟨σ,ha,A⟩=>⟨σ,ha,h _ _ _ A⟩ | exact fun ⟨σ,ha,A⟩=>⟨σ,ha,fun σ' E=>h _ _ _<|A σ' E⟩
theorem z5 {A:bc→(Nat→ag)→ah→Prop} {c:bt} (h:∀ e σ w,Q e σ w→A e σ w) (C:bl P N c Q σ w):bl P N c A σ w:=
 wpIn_mono C (ED h)
theorem tn (h:K σ w):fQ K Q .normal σ w:=h
theorem te (id:Nat) (h:Q (.exit id) σ w):fQ K Q (.exit id) σ w:=h
theorem tr (h:Q .ret σ w):fQ K Q .ret σ w:=h
theorem bn {id:Nat} (h:Q .normal σ w):jq id Q .normal σ w:=h
theorem be {id:Nat} (h:Q .normal σ w):jq id Q (.exit id) σ w:=by simpa only [jq,if_true] using h
theorem B7 {id A:Nat} (C:A≠id) (h:Q (.exit A) σ w):jq id Q (.exit A) σ w:=by simpa only [jq,if_neg C] using h
theorem br {id:Nat} (h:Q .ret σ w):jq id Q .ret σ w:=h
theorem sq {x y:bt} (h:∀ K:(Nat→ag)→ah→Prop,(∀ σ w,bl P N y Q σ w→K σ w)→bl P N x (fQ K Q) σ w):bl P N (.seq x y) Q σ w:=by
 refine wpIn_seq<|wpIn_mono (h (fun σ w=>bl P N y Q σ w) fun _ _ h=>h) ?_;intro e a w A;cases e with
 | normal=>obtain ⟨σ,rfl,C⟩:=A; exact C
 | panic c=>exact A
 | outgrown=>exact A
 | _=>obtain ⟨σ,rfl,C⟩:=A; exact ⟨σ,rfl,C⟩
theorem eS {x y:bt} (A:(Nat→ag)→ah→Prop) (h:bl P N x (fQ A Q) σ w) (I:∀ σ w,A σ w→bl P N y Q σ w):bl P N (.seq x y) Q σ w:=
 sq fun _ E=>z5 (fun e _ _ C=>by cases e <;> first | exact E _ _ (I _ _ C) | exact C) h
theorem ct {c:aT} {x y:bt} (A:ev N σ c= .bool true) (h:bl P N x Q σ w):bl P N (.cond c x y) Q σ w:=
 wpIn_cond_true (by rw [cW]; exact A) h
theorem cf {c:aT} {x y:bt} (A:ev N σ c= .bool false) (h:bl P N y Q σ w):bl P N (.cond c x y) Q σ w:=
 wpIn_cond_false (by rw [cW]; exact A) h
theorem cb {c:aT} {x y:bt} {b:Bool} (A:ev N σ c= .bool b) (E:b=true→bl P N x Q σ w) (C:b=false→bl P N y Q σ w):bl P N (.cond c x y) Q σ w:=by
 cases b
 · exact cf A<|C J
 · exact ct A<|E J
theorem cd {c:aT} {x y:bt} {p:Prop} [Decidable p] (A:ev N σ c= .bool (decide p)) (E:p→bl P N x Q σ w) (C:¬p→bl P N y Q σ w):bl P N (.cond c x y) Q σ w:=by grind [cb]
theorem ar {id:Nat} {c:bt} (h:bl P N c (jq id Q) σ w):bl P N (.block id c) Q σ w:=by
 refine wpIn_block<|wpIn_mono h ?_;intro e a w C;cases e with
 | panic c=>exact C
 | outgrown=>exact C
 | exit E=>
   obtain ⟨σ,rfl,A⟩:=C;simp only [jq,Exit.inBlock] at A ⊢;split
   · rename_i e; rw [if_pos e] at A; exact ⟨σ,rfl,A⟩
   · rename_i e; rw [if_neg e] at A; exact ⟨σ,rfl,A⟩
 | _=>obtain ⟨σ,rfl,A⟩:=C; exact ⟨σ,rfl,A⟩
theorem ext {id:Nat} (h:Q (.exit id) σ w):bl P N (.exit id) Q σ w:=wpIn_exit ⟨σ,rfl,h⟩
theorem zl (h:Q .normal σ w):bl P N .skip Q σ w:=wpIn_skip ⟨σ,rfl,h⟩
theorem rt (h:Q .ret σ w):bl P N .ret Q σ w:=wpIn_ret ⟨σ,rfl,h⟩
def Sl (σ:Nat→ag) (L:List (Nat×ag)):Prop :=L.map (fun p=>σ p.1)=L.map (fun p=>p.2)
def n9 (σ:Nat→ag):List (Nat×ag)→Nat→ag
 | []=>σ
 | p::L=>a0 (n9 σ L) p.1 p.2
theorem ue {σ:Nat→ag} :∀ {L:List (Nat×ag)},Sl σ L→n9 σ L=σ
 | [],_=>rfl
 | p::L,h=>by
   have h1:σ p.1=p.2:=(A2 h).1;have A:Sl σ L:=(A2 h).2;rw [n9,ue A,lj h1]
theorem bF {c:bt} {L:List (Nat×ag)} (h:Sl σ L) (A:bl P N c Q (n9 σ L) w):bl P N c Q σ w:=by rw [ue h] at A; exact A
theorem lp {c:bt} (M:Nat→(Nat→ag)→ah→Prop) (n:Nat) (h0:M n σ w)
 (h:∀ n σ w,M n σ w→bl P N c (fQ (fun σ' w'=> ∃ m,m < n∧M m σ' w') Q) σ w):bl P N (.loop c) Q σ w:=by
 intro b k cs ai hb hr;have key:∀ n σ w,M n σ w→
  ∃ e O w',lift N Q e O w'∧ArrivesIn (Machine.fenced P<|fe N.r) P (lone (b.atR (act N σ) (.code c:: .inLoop c::k)) cs w) b k cs e O w':=by
  intro n
  induction n using Nat.strongRecOn with
  | _ n ih=>
    intro σ w ab;obtain ⟨e,U,L,I,C⟩:=h n σ w ab b (.inLoop c::k) cs ai hb hr;cases e with
    | normal=>
      obtain ⟨A,rfl,m,hm,ac⟩:=I;obtain ⟨aa,V,aj,ae,ad⟩:=ih m hm A L ac;exact ⟨aa,V,aj,ae,.of_steps (StepsIn.trans C<|.one (fenced_calm hb hr J) stepR_inLoop) ad⟩
    | exit id=>obtain ⟨A,rfl,E⟩:=I; exact ⟨.exit id,act N A,L,⟨A,rfl,E⟩,.pass (x:= .inLoop c) rfl (fun _ _=> .inl<|by simp) C⟩
    | goto l=>obtain ⟨A,rfl,E⟩:=I; exact ⟨.goto l,act N A,L,⟨A,rfl,E⟩,.pass (x:= .inLoop c) rfl (fun _ _=> .inl<|by simp) C⟩
    | ret=>obtain ⟨A,rfl,E⟩:=I; exact ⟨.ret,act N A,L,⟨A,rfl,E⟩,.pass (x:= .inLoop c) rfl (fun _ _=> .inl<|by simp) C⟩
    | panic Z=>exact ⟨.panic Z,U,L,I,.pass (x:= .inLoop c) rfl (fun _ _=> .inl<|by simp) C⟩
    | outgrown=>exact I.elim
 obtain ⟨e,O,w',E,C⟩:=key _ σ w h0;exact ⟨e,O,w',E,.of_steps (.one (fenced_calm hb hr J) stepR_loop) C⟩
def bO (P:aq) (N:Fm) (o:ax) (σ:Nat→ag) (w:ah) (K:(Nat→ag)→ah→Prop):Prop :=
 fy P o (act N σ) w (fun a w=> ∃ σ,a=act N σ∧K σ w) (fun _ _ _=>False)
theorem G1 {o:ax} {a:Act} {K C:Act→ah→Prop} {Q:bc→Act→ah→Prop} (h:∀ a w,K a w→C a w)
 (r:Result Next) (A:o.upon P a K (fun _ _ _=>False) r):o.upon P a C Q r:=by
 cases r with
 | ok n w'=>
   cases n <;> simp only [gT] at A ⊢ <;>
    first
     | exact h _ _ A
     | exact iX A (fun e w'' he=>by
      cases e with
      | returned v=>exact h _ _ he
      | panicked c=>exact he.elim
      | outgrown=>obtain ⟨_,_,E⟩:=he; exact E.elim)
     | exact qW A fun _ _ he=>h _ _ he
 | halt x w'=>cases x <;> simp only [gT] at A ⊢
theorem oc {K:(Nat→ag)→ah→Prop} {A:Act→ah→Prop} {Q:bc→Act→ah→Prop} {o:ax} (h:bO P N o σ w K) (E:∀ σ w,K σ w→A (act N σ) w):o.wp P (act N σ) w A Q:=by
 unfold bO at h;unfold fy at*;exact G1 (fun a w ⟨σ,ha,C⟩=>by subst ha; exact E _ _ C) _ h
theorem z7 {K A:(Nat→ag)→ah→Prop} {o:ax} (h:bO P N o σ w K) (E:∀ σ w,K σ w→A σ w):bO P N o σ w A:=
 oc h (fun σ w C=>⟨σ,rfl,E σ w C⟩)
variable {ops:Array ax} {rest:List ax} {d:Nat} {op:Op} {ty:an} {pos :String} {af:Array bX} {d':Option Nat} {v:ag} {o:ax}
theorem qJ (hg:iB o (yielded ops (act N σ).tmps)=true) (h:bO P N o σ w (fun σ w=>bD P N ops Q rest σ w)):bD P N ops Q (o::rest) σ w:=by
 unfold bD wpList;rw [if_pos hg];exact .inl<|oc h fun _ _ A=>A
theorem jD {K:(Nat→ag)→ah→Prop} {w':ah} (hr:(execOp (ev N σ) o).run P w= .ok (.value v) w') (A:K (cV σ o.dst v) w'):bO P N o σ w K:=by
 unfold bO fy;rw [cW,hr];exact ⟨_,dS ..,A⟩
theorem eU (o:ax) (hg:o.guard=none) (y:Nat→Option Bool):iB o y=true :=by simp [iB,hg]
def da (ops:Array ax) (j:Nat):Option Nat:=(ops[j]?).bind (·.dst)
theorem kg {j t:Nat} {want b:Bool} (hg:o.guard=some (j,want)) (A:da ops j=some t) (C:az t N.n=true) (E:σ t= .bool b):
 iB o (yielded ops (act N σ).tmps)=(b==want):=by
 have h1:yielded ops (act N σ).tmps j=some b:=by
  unfold yielded;unfold da at A;rw [A];simp only [Bu,gF];rw [if_pos (kq (kr t)<|bC C),E]
 simp only [iB,hg,h1];cases b <;> cases want <;> rfl
theorem uq {j t:Nat} {want:Bool} (hg:o.guard=some (j,want)) (A:da ops j=some t) (C:az t N.n=true) (E:σ t=undef):
 iB o (yielded ops (act N σ).tmps)=false :=by
 have h1:yielded ops (act N σ).tmps j=none:=by
  unfold yielded;unfold da at A;rw [A];simp only [Bu,gF];rw [if_pos (kq (kr t)<|bC C),E]; rfl
 simp only [iB,hg,h1];rfl
theorem p (h:(execOp (ev N σ) ⟨some d,op,ty,pos,af,none⟩).run P w= .ok (.value v) w) (k:bD P N ops Q rest (a0 σ d v) w):
 bD P N ops Q (⟨some d,op,ty,pos,af,none⟩::rest) σ w:=
 qJ (eU _ rfl _) (jD h k)
theorem pg {j t:Nat} {want:Bool} (A:da ops j=some t) (C:az t N.n=true) (E:σ t= .bool want)
 (h:(execOp (ev N σ) ⟨some d,op,ty,pos,af,some (j,want)⟩).run P w= .ok (.value v) w) (k:bD P N ops Q rest (a0 σ d v) w):
 bD P N ops Q (⟨some d,op,ty,pos,af,some (j,want)⟩::rest) σ w:=
 qJ (by rw [kg rfl A C E]; cases want <;> rfl) (jD h k)
theorem sk {j t:Nat} {want b:Bool} (A:da ops j=some t) (C:az t N.n=true) (E:σ t= .bool b) (hb:(b==want)=false)
 (k:bD P N ops Q rest (a0 σ d undef) w):bD P N ops Q (⟨some d,op,ty,pos,af,some (j,want)⟩::rest) σ w:=by
 unfold bD wpList;rw [if_neg (by rw [kg rfl A C E,hb]; simp),dS];exact k
theorem zm {j t:Nat} {want:Bool} (A:da ops j=some t) (C:az t N.n=true) (E:σ t=undef)
 (k:bD P N ops Q rest (a0 σ d undef) w):bD P N ops Q (⟨some d,op,ty,pos,af,some (j,want)⟩::rest) σ w:=by
 unfold bD wpList;rw [if_neg (by rw [uq rfl A C E]; simp),dS];exact k
theorem e (h:bO P N ⟨d',op,ty,pos,af,none⟩ σ w (fun σ w=>bD P N ops Q rest σ w)):bD P N ops Q (⟨d',op,ty,pos,af,none⟩::rest) σ w:=
 qJ (eU _ rfl _) h
theorem eg {j t:Nat} {want:Bool} (A:da ops j=some t) (C:az t N.n=true) (E:σ t= .bool want)
 (h:bO P N ⟨d',op,ty,pos,af,some (j,want)⟩ σ w (fun σ w=>bD P N ops Q rest σ w)):bD P N ops Q (⟨d',op,ty,pos,af,some (j,want)⟩::rest) σ w:=by grind [qJ,kg]
theorem nl (h:Q .normal σ w):bD P N ops Q [] σ w:=⟨σ,rfl,h⟩
theorem sS:¬LetsOut (lift N Q):=fun ⟨_,_,h⟩=>h
theorem rg {id:Nat} {l:List ax} (hr:iR N.r l=true) (h:bD P N l.toArray Q l σ w):bl P N (.region id l.toArray false) Q σ w:=by
 refine wpIn_region<|sI sS hr _ _ _ ?_;have h1:=wpOps_eq_wpList (P:=P) (ops:=l.toArray) (Q:=lift N Q) l 0 fun j=>by simp
 rw [Bl,dG,h1];exact h
theorem gs {l:List ax} {t:Nat} {q:Prop} [Decidable q] (h:σ t= .bool (decide q)) (E:q→bD P N ops Q l (a0 σ t<|.bool true) w) (C:¬q→bD P N ops Q l (a0 σ t<|.bool false) w):bD P N ops Q l σ w:=by
 by_cases A:q
 · have :=E A; rwa [lj (by rw [h,decide_eq_true A])] at this
 · have :=C A; rwa [lj (by rw [h,decide_eq_false A])] at this
theorem gb {l:List ax} {t:Nat} {b:Bool} (h:σ t= .bool b) (C:b=true→bD P N ops Q l (a0 σ t<|.bool true) w) (A:b=false→bD P N ops Q l (a0 σ t<|.bool false) w):bD P N ops Q l σ w:=by
 cases b
 · have :=A rfl; rwa [lj h] at this
 · have :=C rfl; rwa [lj h] at this
def bS (P:aq) (N:Fm) (ops:Array ax) (Q:bc→(Nat→ag)→ah→Prop) (S:ah→Prop) (fuel:Nat) (listed:Array Bool) (σ:Nat→ag) (w:ah):Prop :=
 wpAnyH P .any ops (lift N Q) S fuel listed (act N σ) w
variable {S:ah→Prop} {fuel:Nat} {listed:Array Bool}
theorem vn {id:Nat} {l:List ax} (hr:iR N.r l=true) (hm:P.follows .mixedOrders=true) (h:wpAny P .any l.toArray (lift N Q) l.toArray.size (lI l.toArray.size false) (act N σ) w.drew):bl P N (.region id l.toArray true) Q σ w:=by
 refine wpIn_region_draw fun t=>sI sS hr _ _ _ ?_;simp only [Region.schedule,hm,Bool.true_or,if_true];exact wpAny_sound _ t _ _ _ h
theorem a9 {id:Nat} {l:List ax} (S:ah→Prop) (hr:iR N.r l=true) (hm:P.follows .mixedOrders=true) (A:S w.drew) (h:bS P N l.toArray Q S l.length (lI l.length false) σ w.drew):bl P N (.region id l.toArray true) Q σ w:=
 vn hr hm (wpAny_of_held _ _ _ _<|by rw [dG]; exact h)
def tk (F:List Nat) (d:Option Nat):Bool:=match d with | some d=> !(F.contains d) | none=>true
def dF (F:List Nat) (ops:Array ax) (listed:Array Bool) (i:Nat):Bool:=
 Region.noSelect ops && Region.free .any ops listed i && (dn .any ops listed).contains i && tk F ((ops[i]?).bind (·.dst))
theorem kU {d:Option Nat} {v:ag} (A:tk N.F d=true) (c:List PanicEntry) (a:Act) (w:ah):lift N Q (.panic c) (a.put d v) w→lift N Q (.panic c) a w:=by
 rintro ⟨σ,ha,h⟩;cases d with
 | none=>exact ⟨σ,ha,h⟩
 | some d=>
   have L:a.tmps.size=N.n:=by
    have :=congrArg (fun x:Act=>x.tmps.size) ha;simpa [Act.put,act] using this
   have E:a.defers=N.D:=congrArg (fun x:Act=>x.defers) ha;have I:∀ i:Nat,i≠d→a.tmps[i]? =if i < N.n then some (σ i) else none:=fun i hi=>by
    have h1:(a.put (some d) v).tmps[i]? =a.tmps[i]? :=by
     show (a.tmps.setIfInBounds d v)[i]? =_;rw [og,if_neg (fun e=>hi e.symm)]
    rw [← h1,ha,gF]
   refine ⟨fun i=>if i < N.n then a.tmps.getD i undef else σ i,oR E fun i=> ?_,fun σ' C=>h σ' fun i hi=> ?_⟩
   · rw [gF];by_cases h1:i < N.n
     · rw [if_pos h1,if_pos h1,gw,lH U]; rfl
     · rw [if_neg h1,qM U]
   · have J:i≠d:=by
      rintro rfl;simp only [tk,iW,List.contains_eq_mem,decide_eq_false_iff_not] at A;exact A hi
     rw [C i hi];by_cases h1:i < N.n
     · simp only [if_pos h1];rw [gw,I i J,if_pos h1]; rfl
     · simp only [if_neg h1]
theorem hp (i:Nat) (hi:ops[i]? =some ⟨some d,op,ty,pos,af,none⟩) (A:dF N.F ops listed i=true)
 (E:∀ w,S w→(execOp (ev N σ) ⟨some d,op,ty,pos,af,none⟩).run P w= .ok (.value v) w) (C:S w)
 (k:bS P N ops Q S fuel (listed.setIfInBounds i true) (a0 σ d v) w):bS P N ops Q S (fuel+1) listed σ w:=by
 simp only [dF,aV] at A;refine wpAnyH_take hi A.1.1.1 A.1.1.2 A.1.2 (fun c a w=>kU (by have :=A.2; rwa [hi] at this) c a w) (.inl ⟨eU _ rfl _,fun w C=> ?_⟩) C ?_ (v:=v)
 · rw [cW]; exact E w C
 · rw [dS]; exact k
theorem xE (i:Nat) {j t:Nat} {want:Bool} (hi:ops[i]? =some ⟨some d,op,ty,pos,af,some (j,want)⟩) (A:dF N.F ops listed i=true)
 (E:da ops j=some t) (I:az t N.n=true) (L:σ t= .bool want)
 (M:∀ w,S w→(execOp (ev N σ) ⟨some d,op,ty,pos,af,some (j,want)⟩).run P w= .ok (.value v) w) (C:S w)
 (k:bS P N ops Q S fuel (listed.setIfInBounds i true) (a0 σ d v) w):bS P N ops Q S (fuel+1) listed σ w:=by
 simp only [dF,aV] at A;refine wpAnyH_take hi A.1.1.1 A.1.1.2 A.1.2 (fun c a w=>kU (by have :=A.2; rwa [hi] at this) c a w) (.inl ⟨by rw [kg J E I L]; cases want <;> rfl,fun w C=> ?_⟩) C ?_ (v:=v)
 · rw [cW]; exact M w C
 · rw [dS]; exact k
theorem xF (i:Nat) {j t:Nat} {want b:Bool} (hi:ops[i]? =some ⟨some d,op,ty,pos,af,some (j,want)⟩) (A:dF N.F ops listed i=true)
 (E:da ops j=some t) (I:az t N.n=true) (L:σ t= .bool b) (hb:(b==want)=false) (C:S w)
 (k:bS P N ops Q S fuel (listed.setIfInBounds i true) (a0 σ d undef) w):bS P N ops Q S (fuel+1) listed σ w:=by
 simp only [dF,aV] at A;refine wpAnyH_take hi A.1.1.1 A.1.1.2 A.1.2 (fun c a w=>kU (by have :=A.2; rwa [hi] at this) c a w) (.inr ⟨by rw [kg J E I L,hb],J⟩) C ?_ (v:=undef);rw [dS]; exact k
theorem D3 (i:Nat) {j t:Nat} {want:Bool} (hi:ops[i]? =some ⟨some d,op,ty,pos,af,some (j,want)⟩) (A:dF N.F ops listed i=true)
 (E:da ops j=some t) (I:az t N.n=true) (L:σ t=undef) (C:S w)
 (k:bS P N ops Q S fuel (listed.setIfInBounds i true) (a0 σ d undef) w):bS P N ops Q S (fuel+1) listed σ w:=by
 simp only [dF,aV] at A;refine wpAnyH_take hi A.1.1.1 A.1.1.2 A.1.2 (fun c a w=>kU (by have :=A.2; rwa [hi] at this) c a w) (.inr ⟨uq J E I L,J⟩) C ?_ (v:=undef);rw [dS]; exact k
def gK (ops:Array ax) (listed:Array Bool) (i:Nat):Bool:=(dn .any ops listed)== [i]
theorem he (i:Nat) (hi:ops[i]? =some ⟨d',op,ty,pos,af,none⟩) (hr:gK ops listed i=true)
 (h:bO P N ⟨d',op,ty,pos,af,none⟩ σ w (fun σ w=>S w∧bS P N ops Q S fuel (listed.setIfInBounds i true) σ w)):bS P N ops Q S (fuel+1) listed σ w:=by
 refine wpAnyH_all (rs:= [i]) (by simpa [gK] using hr) (by simp) ?_;intro k A;obtain rfl :k=i:=by simpa using A
 unfold wpOp;simp only [hi];rw [if_pos (eU _ rfl _)];exact .inl<|oc h fun _ _ A=>A
theorem xD (i:Nat) {j t:Nat} {want:Bool} (hi:ops[i]? =some ⟨d',op,ty,pos,af,some (j,want)⟩) (hr:gK ops listed i=true)
 (C:da ops j=some t) (E:az t N.n=true) (I:σ t= .bool want)
 (h:bO P N ⟨d',op,ty,pos,af,some (j,want)⟩ σ w (fun σ w=>S w∧bS P N ops Q S fuel (listed.setIfInBounds i true) σ w)):bS P N ops Q S (fuel+1) listed σ w:=by
 refine wpAnyH_all (rs:= [i]) (by simpa [gK] using hr) (by simp) ?_;intro k A;obtain rfl :k=i:=by simpa using A
 unfold wpOp;simp only [hi];rw [if_pos (by rw [kg rfl C E I]; cases want <;> rfl)];exact .inl<|oc h fun _ _ A=>A
theorem hn (hr:(dn .any ops listed).isEmpty=true) (h:Q .normal σ w):bS P N ops Q S fuel listed σ w:=
 wpAnyH_done (by simpa using hr) ⟨σ,rfl,h⟩ fuel
theorem nC {t:Nat} {q:Prop} [Decidable q] (h:σ t= .bool (decide q)) (E:q→bS P N ops Q S fuel listed (a0 σ t<|.bool true) w) (C:¬q→bS P N ops Q S fuel listed (a0 σ t<|.bool false) w):bS P N ops Q S fuel listed σ w:=by
 by_cases A:q
 · have :=E A; rwa [lj (by rw [h,decide_eq_true A])] at this
 · have :=C A; rwa [lj (by rw [h,decide_eq_false A])] at this
end
def bj (P:aq) (f:dA) (args:Array ag) (w:ah) (R:ag→ah→Prop):Prop :=
 Calls P f args w fun e w'=> ∃ v,e= .returned v∧R v w'
theorem bj.mono {P:aq} {f:dA} {args:Array ag} {w:ah} {R A:ag→ah→Prop} (h:bj P f args w R) (hr:∀ v w',R v w'→A v w'):bj P f args w A:=
 iX h fun _ _ ⟨v,he,C⟩=>⟨v,he,hr _ _ C⟩
def cU (args:List ag):Nat→ag:=fun i=>args.getD i undef
def fin (P:aq) (fn:fc) (N:Fm) (R:ag→ah→Prop):bc→(Nat→ag)→ah→Prop
 | .normal,σ,w=> ∃ v,(results fn (act N σ).tmps).run P w= .ok v w∧R v w
 | .ret,σ,w=> ∃ v,(results fn (act N σ).tmps).run P w= .ok v w∧R v w
 | _,_,_=>False
theorem enter {P:aq} {f:dA} {N:Nat} {fn:fc} {c:bt} {args:List ag} {w:ah} {R:ag→ah→Prop} (M:P.funcs[f]? =some fn) (hb:fn.body=some c)
 (L:fn.ntmps=N) (hn:aX args.length N=true) (h:bl P ⟨N,[],[],none⟩ c (fin P fn ⟨N,[],[],none⟩ R) (cU args) w):bj P f args.toArray w R:=by
 subst L;refine calls_of_wp M hb ?_;have ha:({tmps:=args.toArray++lI (fn.ntmps - args.toArray.size) undef,defers:= []} :Act)=act ⟨fn.ntmps,[],[],none⟩ (cU args):=by
  have O:args.length≤fn.ntmps:=by simpa using hn
  refine oR J fun i=> ?_;rw [gF];simp only [cU,cg,dG];by_cases h1:i < args.length
  · rw [Af (by simpa using h1),if_pos U];simp [h1]
  · rw [Ag (by simpa using h1)];simp only [dG,Ai];by_cases I:i < fn.ntmps
    · rw [if_pos U,if_pos I,km U]; rfl
    · rw [if_neg U,if_neg I]
 rw [ha];refine uH ?_<|wpIn_wide.1 h;intro e a w A;cases e with
 | normal=>obtain ⟨σ,rfl,v,hr,E⟩:=A; exact ⟨rfl,v,hr,v,rfl,E⟩
 | ret=>obtain ⟨σ,rfl,v,hr,E⟩:=A; exact ⟨rfl,v,hr,v,rfl,E⟩
 | exit id=>obtain ⟨σ,rfl,C⟩:=A; exact C.elim
 | goto l=>obtain ⟨σ,rfl,C⟩:=A; exact C.elim
 | panic c=>obtain ⟨σ,rfl,C⟩:=A; exact (C σ fun _ _=>rfl).elim
 | outgrown=>exact A.elim
section
variable {P:aq} {N:Fm} {σ:Nat→ag} {w:ah} {fn:fc} {R:ag→ah→Prop}
theorem mZ (t:Nat):(act N σ).tmps.getD t undef=ev N σ (.tmp t):=by
 rw [← cW]; rfl
theorem f0 (h:fn.results= #[]) (A:R (.tuple #[]) w):fin P fn N R .normal σ w:=⟨_,results_none h _ _ _,A⟩
theorem f1 {t:Nat} {v:ag} (h:fn.results= #[.tmp t]) (C:ev N σ (.tmp t)=v) (A:R v w):fin P fn N R .ret σ w:=
 ⟨v,by rw [results_tmp h,mZ,C],A⟩
theorem f2 {t u:Nat} {v A:ag} (h:fn.results= #[.tmp t,.tmp u]) (E:ev N σ (.tmp t)=v) (hu:ev N σ (.tmp u)=A) (C:R (.tuple #[v,A]) w):fin P fn N R .ret σ w:=
 ⟨_,by rw [results_tmp2 h,mZ,mZ,E,hu],C⟩
theorem f3 {t u s:Nat} {v A C:ag} (h:fn.results= #[.tmp t,.tmp u,.tmp s]) (J:ev N σ (.tmp t)=v) (hu:ev N σ (.tmp u)=A) (I:ev N σ (.tmp s)=C) (E:R (.tuple #[v,A,C]) w):fin P fn N R .ret σ w:=by
 refine ⟨_,?_,E⟩;simp only [results,h];subst J hu I;simp only [← mZ];simp [uW]
end
attribute [irreducible] bD bl bS bO
end Go.Hb
namespace Go.Hb
def av (h:Array Obj) (b off :Nat):Option ag:=
 match h[b]? with
 | some (.cells c _ _)=>c[off]?
 | _=>none
theorem hJ (w:ah) (b off :Nat):w.cell? ⟨b,off,none⟩=av w.heap b off :=by
 unfold World.cell? av;simp only;split <;> simp_all
theorem bT {h:Array Obj} {b off :Nat} {c:Array ag} {t:an} {f:Nat×Nat} (hb:h[b]? =some (.cells c t f)):av h b off =c[off]? :=by
 simp only [av,hb]
theorem Cr {h:Array Obj} {b off :Nat} {v:ag} (A:av h b off =some v):b < h.size:=by grind [av]
structure Md (F:Nat→Prop) (w w':ah):Prop where
 os:w'.os=w.os
 output:w'.output=w.output
 size:w.heap.size≤w'.heap.size
 ey:∀ k,k < w.heap.size→¬F k→w'.heap[k]? =w.heap[k]?
abbrev Wk (w w':ah):Prop :=Md (fun _=>False) w w'
theorem Md.refl (F:Nat→Prop) (w:ah):Md F w w:=⟨rfl,rfl,aY _,fun _ _ _=>rfl⟩
theorem Md.drew {F:Nat→Prop} {w w':ah} (h:Md F w w'):Md F w w'.drew:=⟨h.os,h.output,h.size,h.ey⟩
theorem Md.mono {F G:Nat→Prop} {w w':ah} (h:Md F w w') (E:∀ k,k < w.heap.size→F k→G k):Md G w w':=
 ⟨h.os,h.output,h.size,fun k A hg=>h.ey k A fun C=>hg<|E k A C⟩
theorem Md.trans {F:Nat→Prop} {a b c:ah} (h:Md F a b) (h':Md F b c):Md F a c:=
 ⟨h'.os.trans h.os,h'.output.trans h.output,cH h.size h'.size,fun k C A=>(h'.ey k (kq C h.size) A).trans<|h.ey k C A⟩
theorem Md.trans' {F G:Nat→Prop} {a b c:ah} (h:Md F a b) (h':Md G b c) (hg:∀ k,k < a.heap.size→G k→F k):Md F a c:=
 ⟨h'.os.trans h.os,h'.output.trans h.output,cH h.size h'.size,
  fun k A C=>(h'.ey k (kq A h.size) fun x=>C<|hg k A x).trans (h.ey k A C)⟩
theorem Md.ar {F:Nat→Prop} {w w':ah} (h:Md F w w') {k:Nat} {o:Obj} (A:w.heap[k]? =some o) (C:¬F k):w'.heap[k]? =some o:=
 (h.ey k (ef.1 A).1 C).trans A
theorem Md.av {F:Nat→Prop} {w w':ah} (h:Md F w w') {b off :Nat} {v:ag} (A:Hb.av w.heap b off =some v) (C:¬F b):Hb.av w'.heap b off =some v:=by
 have :=h.ey b (Cr A) C;unfold Hb.av at*;rw [this]; exact A
theorem Wk.av {w w':ah} (h:Wk w w') {b off :Nat} {v:ag} (A:Hb.av w.heap b off =some v):Hb.av w'.heap b off =some v:=Md.av h A id
theorem Wk.ar {w w':ah} (h:Wk w w') {k:Nat} {o:Obj} (A:w.heap[k]? =some o):w'.heap[k]? =some o:=Md.ar h A id
structure Nw (w w':ah):Prop where
 md:Wk w w'
 size:w'.heap.size=w.heap.size+1
 one:∃ o,w'= {w with heap:=w.heap.push o}
theorem Fc (w:ah) (o:Obj):Nw w {w with heap:=w.heap.push o} :=
 ⟨⟨rfl,rfl,by simp,fun k A _=>by show (w.heap.push o)[k]? =_; rw [Array.getElem?_push,if_neg U]⟩,by simp,o,rfl⟩
def cB (P:aq) (t:an):Option (Option Nat):=
 match P.underlying t with
 | some (.struct _) | some (.array _ _)=>((P.info? t).map (·.size)).map some
 | some _=>some none
 | none=>none
def kN (P:aq) (s f:Nat):Option Nat:=
 match P.underlying s with
 | some (.struct A)=>match A[f]? with
   | some fd=>match P.info? fd.type with
     | some i=>if i.size=0 then none else some fd.offset
     | none=>none
   | none=>none
 | _=>none
def cK (P:aq) (t:an):Option Nat:=
 match P.underlying t with
 | some (.slice e)=>(P.info? e).map (·.size)
 | _=>none
section
variable {P:aq} {N:Fm} {σ:Nat→ag} {w:ah} {dst:Option Nat} {ty:an} {pos :String} {af:Array bX} {g:Option (Nat×Bool)} {x y z:aT}
theorem ba {t:an} {d:TypeDesc} (h:P.underlying t=some d) (w:ah):(underlying t).run P w= .ok d w:=by
 simp [underlying,h]
theorem cG {t:an} {i:TypeInfo} (h:P.info? t=some i) (w:ah):(typeInfo t).run P w= .ok i w:=by
 simp [typeInfo,h]
theorem mv:(execOp (ev N σ) ⟨dst,.move x,ty,pos,af,g⟩).run P w= .ok (.value<|ev N σ x) w:=rfl
theorem aP:(execOp (ev N σ) ⟨dst,.assign x,ty,pos,af,g⟩).run P w= .ok (.value<|ev N σ x) w:=rfl
theorem pK (v:ag) (h:ev N σ x=v):(execOp (ev N σ) ⟨dst,.move x,ty,pos,af,g⟩).run P w= .ok (.value v) w:=by rw [← h]; rfl
theorem B4 (v:ag) (h:ev N σ x=v):(execOp (ev N σ) ⟨dst,.assign x,ty,pos,af,g⟩).run P w= .ok (.value v) w:=by rw [← h]; rfl
theorem nS {c:aT} (A:ev N σ c= .bool true):(execOp (ev N σ) ⟨dst,.pick c x y,ty,pos,af,g⟩).run P w= .ok (.value<|ev N σ x) w:=by
 simp [execOp,A,asBool]
theorem pV {c:aT} (A:ev N σ c= .bool false):(execOp (ev N σ) ⟨dst,.pick c x y,ty,pos,af,g⟩).run P w= .ok (.value<|ev N σ y) w:=by
 simp [execOp,A,asBool]
theorem nc {a:bB} (A:ev N σ x= .pointer (some a)):(execOp (ev N σ) ⟨dst,.nilCheck x,ty,pos,af,g⟩).run P w= .ok (.value<|.pointer<|some a) w:=by
 simp [execOp,A]
theorem xt {i:Nat} {vs:Array ag} {v:ag} (C:ev N σ x= .tuple vs) (A:vs[i]? =some v):(execOp (ev N σ) ⟨dst,.extract x i,ty,pos,af,g⟩).run P w= .ok (.value v) w:=by
 simp [execOp,C,Instr.extract,A]
theorem fa {s f n b off :Nat} (A:kN P s f=some n) (I:ev N σ x= .pointer (some ⟨b,off,none⟩)):
 (execOp (ev N σ) ⟨dst,.fieldAddr s x f,ty,pos,af,g⟩).run P w= .ok (.value<|.pointer<|some ⟨b,off+n,none⟩) w:=by
 unfold kN at A;split at A
 · rename_i L hu;split at A
   · rename_i fd E;split at A
     · rename_i i hi;split at A
       · cases A
       · rename_i J;cases A;have C:(⟨b,off,none⟩:bB).add fd.offset=⟨b,off+fd.offset,none⟩:=by unfold qP; split <;> simp_all
         simp [execOp,Instr.fieldAt,ba hu,E,I,lP,fieldPlace,sizeOf,cG hi,J,C]
     · cases A
   · cases A
 · cases A
theorem ld {t b off :Nat} {v:ag} (hu:cB P t=some none) (E:ev N σ x= .pointer (some ⟨b,off,none⟩)) (A:av w.heap b off =some v):
 (execOp (ev N σ) ⟨dst,.load t x,ty,pos,af,g⟩).run P w= .ok (.value v) w:=by
 have C:w.cell? ⟨b,off,none⟩=some v:=by rw [hJ]; exact A
 unfold cB at hu;cases hd:P.underlying t with
 | none=>rw [hd] at hu; cases hu
 | some d=>
   rw [hd] at hu;cases d <;> first
    | (simp only [fA] at hu; obtain ⟨_,_,h⟩:=hu; cases h; done)
    | simp [execOp,AH,E,lP,loadVar,isAgg,ba hd,run_load,C]
theorem eH (b off j:Nat):(⟨b,off,none⟩:bB).add j=⟨b,off+j,none⟩:=by
 unfold qP; split <;> simp_all
theorem du {t n b off :Nat} {cs:List ag} (hu:cB P t=some (some n)) (J:ev N σ x= .pointer (some ⟨b,off,none⟩)) (I:cs.length=n)
 (C:∀ j,j < n→av w.heap b (off+j)=cs[j]?):
 (execOp (ev N σ) ⟨dst,.load t x,ty,pos,af,g⟩).run P w= .ok (.value<|.agg cs.toArray) w:=by
 have E:(loadCells ⟨b,off,none⟩ n).run P w= .ok cs.toArray w:=by
  subst I;refine run_loadCells_list (P:=P) w ⟨b,off,none⟩ cs fun j v A=> ?_;rw [eH,hJ];exact (C j (cJ.1 A).1).trans A
 unfold cB at hu;cases hd:P.underlying t with
 | none=>rw [hd] at hu; cases hu
 | some d=>
   rw [hd] at hu;cases hi:P.info? t with
   | none=>simp [AQ,hi] at hd
   | some i=>
     rw [hi] at hu;cases d <;> first
      | (cases hu; done)
      | (simp only [eu,bu] at hu; subst hu
         simp [execOp,AH,J,lP,loadVar,isAgg,ba hd,sizeOf,cG hi,E])
theorem ia {t n b off len cap:Nat} {k:bg} {i:Int} (he:cK P t=some n) (A:ev N σ x= .slice (some ⟨b,off,none⟩) len cap) (C:ev N σ y= .int k i) (h0:0≤i∧i < len):
 (execOp (ev N σ) ⟨dst,.indexAddr t x y,ty,pos,af,g⟩).run P w= .ok (.value<|.pointer<|some ⟨b,off+i.toNat*n,none⟩) w:=by
 unfold cK at he;cases hd:P.underlying t with
 | none=>rw [hd] at he; cases he
 | some d=>
   rw [hd] at he;cases d <;> first | (cases he; done) | skip
   rename_i e;cases hi:P.info? e with
   | none=>simp [hi] at he
   | some j=>
     simp only [hi,eu,bu] at he;subst he;simp [execOp,AG,A,C,asIntOf,ba hd,h0.1,h0.2,sizeOf,cG hi,eH]
def dw (a:Option bB) (cap l n:Nat):Option bB:=if cap=l then a else a.map (·.add (l*n))
theorem tT {t n len cap:Nat} {a:Option bB} {lo hi:Option ag} {l h:Nat} (he:cK P t=some n) (E:ev N σ x= .slice a len cap)
 (hb:(ja true len cap lo hi none).run P w= .ok (l,h,cap) w) (A C:Option aT) (I:A.map (ev N σ)=lo) (J:C.map (ev N σ)=hi):
 (execOp (ev N σ) ⟨dst,.slice t x A C none,ty,pos,af,g⟩).run P w= .ok (.value<|.slice (dw a cap l n) (h - l)<|cap - l) w:=by
 unfold cK at he;cases hd:P.underlying t with
 | none=>rw [hd] at he; cases he
 | some d=>
   rw [hd] at he;cases d <;> first | (cases he; done) | skip
   rename_i e;cases hi':P.info? e with
   | none=>simp [hi'] at he
   | some j=>
     simp only [hi',eu,bu] at he;subst he;simp [execOp,lN,ou,E,I,J,ba hd,hb,sizeOf,cG hi',dw]
theorem zo {t n len cap:Nat} {a:Option bB} {k:bg} {i:Int} (he:cK P t=some n) (C:ev N σ x= .slice a len cap) (E:ev N σ z= .int k i) (h0:0≤i∧i≤cap):
 (execOp (ev N σ) ⟨dst,.slice t x none (some z) none,ty,pos,af,g⟩).run P w= .ok (.value<|.slice a i.toNat cap) w:=by
 have :=tT (dst:=dst) (ty:=ty) (pos :=pos) (af:=af) (g:=g) (w:=w) (lo:=none) (hi:=some<|.int k i) (l:=0) (h:=i.toNat) he C
  (by simp [ja,lO,asIntOf,h0.1,h0.2]) none (some z) rfl (by simp [E])
 rw [this];have A:dw a cap 0 n=a:=by
  unfold dw; split
  · rfl
  · cases a <;> simp [qP]
 rw [A]; rfl
theorem tU {t n len cap:Nat} {a:Option bB} {k:bg} {i:Int} (he:cK P t=some n) (A:ev N σ x= .slice a len cap) (C:ev N σ y= .int k i) (h0:0≤i∧i≤len):
 (execOp (ev N σ) ⟨dst,.slice t x (some y) none none,ty,pos,af,g⟩).run P w= .ok (.value<|.slice (dw a cap i.toNat n) (len - i.toNat)<|cap - i.toNat) w:=
 tT (lo:=some<|.int k i) (hi:=none) he A
  (by simp [ja,lO,asIntOf,h0.1,h0.2]) (some y) none (by simp [C]) rfl
theorem tS {t n len cap:Nat} {a:Option bB} {k A:bg} {i j:Int} (he:cK P t=some n) (E:ev N σ x= .slice a len cap) (I:ev N σ y= .int k i) (J:ev N σ z= .int A j) (h0:0≤i∧i≤j∧j≤cap):
 (execOp (ev N σ) ⟨dst,.slice t x (some y) (some z) none,ty,pos,af,g⟩).run P w= .ok (.value<|.slice (dw a cap i.toNat n) (j.toNat - i.toNat)<|cap - i.toNat) w:=by
 have h1:0≤j:=U;have C:i≤(j.toNat:Int):=U;refine tT (lo:=some<|.int k i) (hi:=some<|.int A j) he E ?_ (some y) (some z) (by simp [I])<|by simp [J]
 simp only [ja,lO,asIntOf,gx,jH,fT,qX,h0.1,h1,h0.2.2,C,and_self,if_true]
theorem gQ {n:Int} (h: -9223372036854775808≤n∧n≤9223372036854775807):qU.wrap n=n:=IntWalk.i64_in n h
theorem ur {n:Int} (h: -2147483648≤n∧n≤2147483647):IntKind.i32.wrap n=n:=IntWalk.i32_in n h
theorem uw {n:Int} (h:0≤n∧n≤255):IntKind.u8.wrap n=n:=IntWalk.u8_in n h
theorem z8 {n:Int} (h:0≤n∧n≤4294967295):IntKind.u32.wrap n=n:=IntWalk.u32_in n h
theorem fw {n:Int} (h:0≤n∧n≤18446744073709551615):IntKind.u64.wrap n=n:=IntWalk.u64_in n h
theorem iv {k:bg} {a b:Int} (h:a=b):aW k a=aW k b:=by rw [h]
theorem ad {t t':an} {k:bg} {a b:Int} (A:ev N σ x= .int k a) (C:ev N σ y= .int k b) (hr:k.wrap (a+b)=a+b):
 (execOp (ev N σ) ⟨dst,.binOp .add t x y t',ty,pos,af,g⟩).run P w= .ok (.value<|.int k<|a+b) w:=by
 simp [execOp,A,C,eqGuard,binOp,ox,hr]
theorem rE {t t':an} {k:bg} {a b:Int} (v:Int) (A:ev N σ x= .int k a) (C:ev N σ y= .int k b) (hr:k.wrap (a+b)=v):
 (execOp (ev N σ) ⟨dst,.binOp .add t x y t',ty,pos,af,g⟩).run P w= .ok (.value<|.int k v) w:=by
 subst hr; simp [execOp,A,C,eqGuard,binOp,ox]
theorem tG {t t':an} {k:bg} {a b:Int} (v:Int) (A:ev N σ x= .int k a) (C:ev N σ y= .int k b) (hr:k.wrap (a - b)=v):
 (execOp (ev N σ) ⟨dst,.binOp .sub t x y t',ty,pos,af,g⟩).run P w= .ok (.value<|.int k v) w:=by
 subst hr; simp [execOp,A,C,eqGuard,binOp,ox]
theorem tc {t t':an} {k:bg} {a b:Int} (v:Int) (A:ev N σ x= .int k a) (C:ev N σ y= .int k b) (hr:k.wrap (a*b)=v):
 (execOp (ev N σ) ⟨dst,.binOp .mul t x y t',ty,pos,af,g⟩).run P w= .ok (.value<|.int k v) w:=by
 subst hr; simp [execOp,A,C,eqGuard,binOp,ox]
theorem uo {a:Int} {n:Nat} (h:a=n) (hn:n≤9223372036854775807):qU.wrap a=(n:Int):=by rw [h]; exact gQ U
theorem bv {p q:Prop} [Decidable p] [Decidable q] (h:p↔q):bh (decide p)=bh (decide q):=by rw [decide_eq_decide.2 h]
theorem sb {t t':an} {k:bg} {a b:Int} (A:ev N σ x= .int k a) (C:ev N σ y= .int k b) (hr:k.wrap (a - b)=a - b):
 (execOp (ev N σ) ⟨dst,.binOp .sub t x y t',ty,pos,af,g⟩).run P w= .ok (.value<|.int k<|a - b) w:=by
 simp [execOp,A,C,eqGuard,binOp,ox,hr]
theorem qu {t t':an} {k:bg} {a b:Int} (A:ev N σ x= .int k a) (C:ev N σ y= .int k b) (h0:0≤a∧0 < b) (hr:k.wrap (a / b)=a / b):
 (execOp (ev N σ) ⟨dst,.binOp .quo t x y t',ty,pos,af,g⟩).run P w= .ok (.value<|.int k<|a / b) w:=by
 have :a.tdiv b=a / b:=AY h0.1;simp [execOp,A,C,eqGuard,binOp,uN,show b≠0 from by omega,this,hr]
theorem Fv {t t':an} {k:bg} {a b:Int} (v:Int) (A:ev N σ x= .int k a) (C:ev N σ y= .int k b) (h0:0≤a∧0 < b) (hr:k.wrap (a / b)=v):
 (execOp (ev N σ) ⟨dst,.binOp .quo t x y t',ty,pos,af,g⟩).run P w= .ok (.value<|.int k v) w:=by
 have :a.tdiv b=a / b:=AY h0.1;subst hr; simp [execOp,A,C,eqGuard,binOp,uN,show b≠0 from by omega,this]
theorem rm {t t':an} {k:bg} {a b:Int} (A:ev N σ x= .int k a) (C:ev N σ y= .int k b) (h0:0≤a∧0 < b):
 (execOp (ev N σ) ⟨dst,.binOp .rem t x y t',ty,pos,af,g⟩).run P w= .ok (.value<|.int k<|a % b) w:=by
 have :a.tmod b=a % b:=Int.tmod_eq_emod_of_nonneg h0.1;simp [execOp,A,C,eqGuard,binOp,uN,show b≠0 from by omega,this]
theorem lt {t t':an} {k:bg} {a b:Int} (A:ev N σ x= .int k a) (C:ev N σ y= .int k b):
 (execOp (ev N σ) ⟨dst,.binOp .lss t x y t',ty,pos,af,g⟩).run P w= .ok (.value<|.bool<|decide (a < b)) w:=by
 simp [execOp,A,C,eqGuard,binOp,nb]
theorem le {t t':an} {k:bg} {a b:Int} (A:ev N σ x= .int k a) (C:ev N σ y= .int k b):
 (execOp (ev N σ) ⟨dst,.binOp .leq t x y t',ty,pos,af,g⟩).run P w= .ok (.value<|.bool<|decide (a≤b)) w:=by
 simp [execOp,A,C,eqGuard,binOp,nb]
theorem gt {t t':an} {k:bg} {a b:Int} (A:ev N σ x= .int k a) (C:ev N σ y= .int k b):
 (execOp (ev N σ) ⟨dst,.binOp .gtr t x y t',ty,pos,af,g⟩).run P w= .ok (.value<|.bool<|decide (b < a)) w:=by
 simp [execOp,A,C,eqGuard,binOp,nb]
theorem ge {t t':an} {k:bg} {a b:Int} (A:ev N σ x= .int k a) (C:ev N σ y= .int k b):
 (execOp (ev N σ) ⟨dst,.binOp .geq t x y t',ty,pos,af,g⟩).run P w= .ok (.value<|.bool<|decide (b≤a)) w:=by
 simp [execOp,A,C,eqGuard,binOp,nb]
theorem xc {t t':an} {k:bg} {a b:Int} (A:ev N σ x= .int k a) (C:ev N σ y= .int k b):
 (execOp (ev N σ) ⟨dst,.binOp .eql t x y t',ty,pos,af,g⟩).run P w= .ok (.value<|.bool<|decide (a=b)) w:=by
 simp [execOp,A,C,eqGuard,binOp,nb];rw [m9]; simp
theorem yj {t t':an} {k:bg} {a b:Int} (A:ev N σ x= .int k a) (C:ev N σ y= .int k b):
 (execOp (ev N σ) ⟨dst,.binOp .neq t x y t',ty,pos,af,g⟩).run P w= .ok (.value<|.bool<|decide (a≠b)) w:=by
 simp [execOp,A,C,eqGuard,binOp,nb];rw [m9]; simp
theorem no {t:an} {b:Bool} (A:ev N σ x= .bool b):(execOp (ev N σ) ⟨dst,.unOp .not t x,ty,pos,af,g⟩).run P w= .ok (.value<|.bool<|!b) w:=by
 simp [execOp,A,Op.unary]
theorem vz {t t':an} {k:bg} {a b v:Int} (C:ev N σ x= .int k a) (E:ev N σ y= .int k b) (A:k.wrap (fS k.bits a ||| fS k.bits b).toNat=v):
 (execOp (ev N σ) ⟨dst,.binOp .or t x y t',ty,pos,af,g⟩).run P w= .ok (.value<|.int k v) w:=by
 subst A; simp [execOp,C,E,eqGuard,binOp,Op.intBits]
theorem cw {t t':an} {k:bg} {a b v:Int} (C:ev N σ x= .int k a) (E:ev N σ y= .int k b) (A:k.wrap (fS k.bits a &&& fS k.bits b).toNat=v):
 (execOp (ev N σ) ⟨dst,.binOp .and t x y t',ty,pos,af,g⟩).run P w= .ok (.value<|.int k v) w:=by
 subst A; simp [execOp,C,E,eqGuard,binOp,Op.intBits]
theorem shr {t t':an} {k I:bg} {a b v:Int} (C:ev N σ x= .int k a) (E:ev N σ y= .int I b) (h0:0≤b) (A:a.fdiv (2 ^ min b.toNat k.bits)=v):
 (execOp (ev N σ) ⟨dst,.binOp .shr t x y t',ty,pos,af,g⟩).run P w= .ok (.value<|.int k v) w:=by
 have :¬b < 0:=U;simp [execOp,C,E,eqGuard,binOp,Op.shift,this,A]
theorem shl {t t':an} {k I:bg} {a b v:Int} (C:ev N σ x= .int k a) (E:ev N σ y= .int I b) (h0:0≤b) (A:k.wrap (a*2 ^ min b.toNat k.bits)=v):
 (execOp (ev N σ) ⟨dst,.binOp .shl t x y t',ty,pos,af,g⟩).run P w= .ok (.value<|.int k v) w:=by
 have :¬b < 0:=U;simp [execOp,C,E,eqGuard,binOp,Op.shift,this,A]
theorem GW (m:Nat) (h:m < 256):((dP m).toNat:Int)=(m:Int):=by
 simp [Nat.mod_eq_of_lt h]
theorem cv {t u:an} {k A:bg} {n:Int} (hu:P.underlying u=some (.int A)) (E:(P.underlying t).isSome=true) (I:ev N σ x= .int k n):
 (execOp (ev N σ) ⟨dst,.convert t u x,ty,pos,af,g⟩).run P w= .ok (.value<|.int A<|A.wrap n) w:=by
 obtain ⟨d,C⟩:=ks.1 E;cases d <;> simp [execOp,I,convert,ba hu,ba C,Conv.intToInt]
theorem CL {t u:an} {k A:bg} {n v:Int} (hu:P.underlying u=some (.int A)) (C:(P.underlying t).isSome=true) (E:ev N σ x= .int k n) (hr:A.wrap n=v):
 (execOp (ev N σ) ⟨dst,.convert t u x,ty,pos,af,g⟩).run P w= .ok (.value<|.int A v) w:=by
 rw [cv hu C E,hr]
theorem fE {t u:an} {k A:bg} {n:Int} (hu:P.underlying u=some (.int A)) (C:(P.underlying t).isSome=true) (E:ev N σ x= .int k n) (hr:A.wrap n=n):
 (execOp (ev N σ) ⟨dst,.convert t u x,ty,pos,af,g⟩).run P w= .ok (.value<|.int A n) w:=by
 rw [cv hu C E,hr]
theorem r8 (d:Nat) {t e:an} {a:Option bB} (hu:P.underlying t=some (.pointer e)):(eC (d+1) t (.pointer a)<|.pointer none).run P w= .ok a.isNone w:=by
 cases a <;> simp [eC,ba hu]
theorem xd {t e:an} {a:Option bB} (hu:P.underlying t=some (.pointer e)):(kj t (.pointer a)<|.pointer none).run P w= .ok a.isNone w:=r8 9999 hu
theorem mr {t t' e:an} {a:Option bB} (hu:P.underlying t=some (.pointer e)) (A:ev N σ x= .pointer a) (C:ev N σ y= .pointer none):
 (execOp (ev N σ) ⟨dst,.binOp .eql t x y t',ty,pos,af,g⟩).run P w= .ok (.value<|.bool a.isNone) w:=by
 have h:(binOp .eql t (.pointer a)<|.pointer none).run P w= .ok (.bool a.isNone) w:=by
  simp only [binOp]; simp [xd hu]
 simp [execOp,A,C,eqGuard,h]
theorem tf {t t' e:an} {a:Option bB} (hu:P.underlying t=some (.pointer e)) (A:ev N σ x= .pointer a) (C:ev N σ y= .pointer none):
 (execOp (ev N σ) ⟨dst,.binOp .neq t x y t',ty,pos,af,g⟩).run P w= .ok (.value<|.bool a.isSome) w:=by
 have h:(binOp .neq t (.pointer a)<|.pointer none).run P w= .ok (.bool a.isSome) w:=by
  simp only [binOp]; simp [xd hu]
 simp [execOp,A,C,eqGuard,h]
theorem wZ (d:Nat) {t:an} {a b:Bool} (hu:P.underlying t=some .bool):(eC (d+1) t (.bool a)<|.bool b).run P w= .ok (a==b) w:=by
 simp [eC,ba hu]
theorem Dp {t:an} {a b:Bool} (hu:P.underlying t=some .bool):(kj t (.bool a)<|.bool b).run P w= .ok (a==b) w:=wZ 9999 hu
theorem E3 {t t':an} {a b:Bool} (hu:P.underlying t=some .bool) (A:ev N σ x= .bool a) (C:ev N σ y= .bool b):
 (execOp (ev N σ) ⟨dst,.binOp .neq t x y t',ty,pos,af,g⟩).run P w= .ok (.value<|.bool<|decide (a≠b)) w:=by
 have h:(binOp .neq t (.bool a)<|.bool b).run P w= .ok (.bool<|decide (a≠b)) w:=by
  simp only [binOp]; simp [Dp hu]; cases a <;> cases b <;> rfl
 simp [execOp,A,C,eqGuard,h]
def str (l:List UInt8):ag:= .string ⟨⟨l⟩⟩
theorem xY {t:an} {l:List UInt8} {at_:Array an} (A:P.underlying t=some .string) (ha:at_= #[t]) (C:ev N σ x=str l):
 (execOp (ev N σ) ⟨dst,.call ⟨.builtin .len,#[x],at_⟩,ty,pos,af,g⟩).run P w= .ok (.value<|.int .i64 l.length) w:=by
 subst ha;simp [execOp,resolve,invoke,builtin,uG,ba A,C,str,goInt];rfl
theorem sT {t e:an} {a:Option bB} {n c:Nat} {at_:Array an} (A:P.underlying t=some (.slice e)) (ha:at_= #[t]) (C:ev N σ x= .slice a n c):
 (execOp (ev N σ) ⟨dst,.call ⟨.builtin .len,#[x],at_⟩,ty,pos,af,g⟩).run P w= .ok (.value<|.int .i64 n) w:=by
 subst ha;simp [execOp,resolve,invoke,builtin,uG,ba A,C,goInt]
theorem EH {t k e r:an} {es:Array MapEntry} {c:Nat} {at_:Array an} (A:P.underlying t=some (.map k e)) (ha:at_= #[t]) (C:ev N σ x= .map (some r)) (hr:w.heap[r]? =some (.map es c)):
 (execOp (ev N σ) ⟨dst,.call ⟨.builtin .len,#[x],at_⟩,ty,pos,af,g⟩).run P w= .ok (.value<|.int .i64 es.size) w:=by
 subst ha;simp [execOp,resolve,invoke,builtin,uG,ba A,C,goInt,getObj,jG,hr]
theorem mn {k:bg} {a b:Int} {at_:Array an} (A:ev N σ x= .int k a) (C:ev N σ y= .int k b):
 (execOp (ev N σ) ⟨dst,.call ⟨.builtin .min,#[x,y],at_⟩,ty,pos,af,g⟩).run P w= .ok (.value<|.int k<|min a b) w:=by
 have :(if b < a then b else a)=min a b:=U;simp [execOp,resolve,invoke,builtin,Builtin.min_,Builtin.min2,A,C,this]
theorem mx {k:bg} {a b:Int} {at_:Array an} (A:ev N σ x= .int k a) (C:ev N σ y= .int k b):
 (execOp (ev N σ) ⟨dst,.call ⟨.builtin .max,#[x,y],at_⟩,ty,pos,af,g⟩).run P w= .ok (.value<|.int k<|max a b) w:=by
 have :(if b > a then b else a)=max a b:=U;simp [execOp,resolve,invoke,builtin,Builtin.max_,Builtin.max2,A,C,this]
theorem Ej {t:an} {l:List UInt8} {k:bg} {i:Int} (E:P.underlying t=some .string) (I:ev N σ x=str l) (J:ev N σ y= .int k i) (h0:0≤i∧i < l.length):
 (execOp (ev N σ) ⟨dst,.index t x y,ty,pos,af,g⟩).run P w= .ok (.value<|.int .u8 ((l.getD i.toNat 0).toNat:Int)) w:=by
 have C:(⟨⟨l⟩⟩:ByteArray)[i.toNat]? =some (l.getD i.toNat 0):=by
  have aJ:i.toNat < l.length:=U;have A:i.toNat < (⟨⟨l⟩⟩:ByteArray).size:=aJ;rw [getElem?_pos (⟨⟨l⟩⟩:ByteArray) i.toNat A];simp [cg,aJ,ByteArray.getElem_eq_getElem_data]
 simp [execOp,Instr.index,I,J,asIntOf,str,ba E,h0.1,C]
theorem tR (l:List UInt8) (a b:Nat):Value.string ((⟨⟨l⟩⟩:ByteArray).extract a b)=str ((l.take b).drop a):=by
 unfold str;congr 1;apply ByteArray.ext;simp [ByteArray.data_extract,List.extract_eq_take_drop,List.drop_take]
theorem xI (n:Nat) {t:an} {l:List UInt8} {k:bg} (A:P.underlying t=some .string) (C:ev N σ x=str l) (E:ev N σ y= .int k (n:Int)) (h:n < l.length):
 (execOp (ev N σ) ⟨dst,.index t x y,ty,pos,af,g⟩).run P w= .ok (.value<|.int .u8 ((l.getD n 0).toNat:Int)) w:=Ej A C E ⟨U,U⟩
theorem eL {n:Nat} {t:an} {l:List UInt8} {k:bg} (A:P.underlying t=some .string) (C:ev N σ x=str l) (E:ev N σ y= .int k (n:Int)) (h:n < l.length):
 (execOp (ev N σ) ⟨dst,.index t x y,ty,pos,af,g⟩).run P w= .ok (.value<|.int .u8 ((l.getD n 0).toNat:Int)) w:=xI n A C E h
theorem qs {t:an} {l:List UInt8} {k L:bg} {a b:Int} (C:P.underlying t=some .string) (E:ev N σ x=str l) (I:ev N σ y= .int k a) (J:ev N σ z= .int L b) (h0:0≤a∧a≤b∧b≤l.length):
 (execOp (ev N σ) ⟨dst,.slice t x (some y) (some z) none,ty,pos,af,g⟩).run P w= .ok (.value<|str<|(l.take b.toNat).drop a.toNat) w:=by
 have h1:b≤((⟨⟨l⟩⟩:ByteArray).size:Nat):=h0.2.2;have A:0≤b:=U;have M:a≤(b.toNat:Nat):=U;simp [execOp,lN,ou,ja,lO,E,I,J,asIntOf,str,ba C,h0.1,h1,A];rw [if_pos U];exact congrArg (fun v=>oy (ow v) w)<|tR l a.toNat b.toNat
theorem tV {t:an} {l:List UInt8} {I:bg} {b:Int} (A:P.underlying t=some .string) (C:ev N σ x=str l) (E:ev N σ z= .int I b) (h0:0≤b∧b≤l.length):
 (execOp (ev N σ) ⟨dst,.slice t x none (some z) none,ty,pos,af,g⟩).run P w= .ok (.value<|str<|l.take b.toNat) w:=by
 have h1:b≤((⟨⟨l⟩⟩:ByteArray).size:Nat):=h0.2;have :=tR l 0 b.toNat;simp only [List.drop_zero] at this;simp [execOp,lN,ou,ja,lO,C,E,asIntOf,str,ba A,h0.1,h1];exact AR this
theorem Gg {t:an} {l:List UInt8} {k:bg} {a:Int} (A:P.underlying t=some .string) (C:ev N σ x=str l) (E:ev N σ y= .int k a) (h0:0≤a∧a≤l.length):
 (execOp (ev N σ) ⟨dst,.slice t x (some y) none none,ty,pos,af,g⟩).run P w= .ok (.value<|str<|l.drop a.toNat) w:=by
 have h1:a≤((⟨⟨l⟩⟩:ByteArray).size:Nat):=h0.2;have :=tR l a.toNat l.length;simp only [List.take_length] at this;simp [execOp,lN,ou,ja,lO,C,E,asIntOf,str,ba A,h0.1,h1];exact AR this
theorem m3 (l:List UInt8):(⟨⟨l⟩⟩:ByteArray).toList=l:=Lib.toList_data ⟨⟨l⟩⟩
theorem cc {t t':an} {l m:List UInt8} (C:ev N σ x=str l) (E:ev N σ y=str m) (h:l.length+m.length≤9223372036854775807):
 (execOp (ev N σ) ⟨dst,.binOp .add t x y t',ty,pos,af,g⟩).run P w= .ok (.value<|str<|l++m) w:=by
 have h1:¬(((⟨⟨l⟩⟩:ByteArray).size+(⟨⟨m⟩⟩:ByteArray).size:Nat):Int) > qU.max:=by
  have :qU.max=9223372036854775807:=aI;rw [this];show ¬((l.length+m.length:Nat):Int) > _;omega
 have A:(⟨⟨l⟩⟩:ByteArray)++(⟨⟨m⟩⟩:ByteArray)=⟨⟨l++m⟩⟩:=by
  apply ByteArray.ext; simp
 simp only [execOp,C,E,str,eqGuard,binOp,lR];rw [if_neg h1,A];rfl
theorem xe {t t':an} {l m:List UInt8} (A:ev N σ x=str l) (C:ev N σ y=str m):
 (execOp (ev N σ) ⟨dst,.binOp .eql t x y t',ty,pos,af,g⟩).run P w= .ok (.value<|.bool<|decide (l=m)) w:=by
 simp only [execOp,A,C,str,eqGuard,binOp,lR,m3];show oy (ow<|.bool<|l==m) w=_;rw [show (l==m)=decide (l=m) from by rw [m9]; simp]
theorem ym {t t':an} {l m:List UInt8} (A:ev N σ x=str l) (C:ev N σ y=str m):
 (execOp (ev N σ) ⟨dst,.binOp .neq t x y t',ty,pos,af,g⟩).run P w= .ok (.value<|.bool<|decide (l≠m)) w:=by
 simp only [execOp,A,C,str,eqGuard,binOp,lR,m3];show oy (ow<|.bool<|!(l==m)) w=_;rw [show (!(l==m))=decide (l≠m) from by rw [m9]; simp]
def lb (a b:List UInt8):Bool:=uM a b
theorem Gf (x y:UInt8) (a b:List UInt8):lb (x::a) (y::b)=(decide (x < y) || (x==y && lb a b)):=rfl
theorem EM {t t':an} {l m:List UInt8} (A:ev N σ x=str l) (C:ev N σ y=str m):
 (execOp (ev N σ) ⟨dst,.binOp .lss t x y t',ty,pos,af,g⟩).run P w= .ok (.value<|.bool<|lb l m) w:=by
 simp only [execOp,A,C,str,eqGuard,binOp,lR,m3];rfl
theorem EA {t t':an} {l m:List UInt8} (A:ev N σ x=str l) (C:ev N σ y=str m):
 (execOp (ev N σ) ⟨dst,.binOp .leq t x y t',ty,pos,af,g⟩).run P w= .ok (.value<|.bool (lb l m || decide (l=m))) w:=by
 simp only [execOp,A,C,str,eqGuard,binOp,lR,m3];show oy (ow<|.bool (uM l m || l==m)) w=_;rw [show (l==m)=decide (l=m) from by rw [m9]; simp];rfl
theorem DT {t t':an} {l m:List UInt8} (A:ev N σ x=str l) (C:ev N σ y=str m):
 (execOp (ev N σ) ⟨dst,.binOp .gtr t x y t',ty,pos,af,g⟩).run P w= .ok (.value<|.bool<|!(lb l m || decide (l=m))) w:=by
 simp only [execOp,A,C,str,eqGuard,binOp,lR,m3];show oy (ow<|.bool<|!(uM l m || l==m)) w=_;rw [show (l==m)=decide (l=m) from by rw [m9]; simp];rfl
theorem DP {t t':an} {l m:List UInt8} (A:ev N σ x=str l) (C:ev N σ y=str m):
 (execOp (ev N σ) ⟨dst,.binOp .geq t x y t',ty,pos,af,g⟩).run P w= .ok (.value<|.bool<|!lb l m) w:=by
 simp only [execOp,A,C,str,eqGuard,binOp,lR,m3];rfl
theorem mf {fn:Fn} {first captured:Array aT} :(execOp (ev N σ) ⟨dst,.makeFunc fn first captured,ty,pos,af,g⟩).run P w= .ok (.value<|.func fn (first.map<|ev N σ)<|captured.map<|ev N σ) w:=rfl
theorem yh {fn:Fn} {first captured:Array aT} :(execOp (ev N σ) ⟨dst,.makeFunc fn first captured,ty,pos,af,g⟩).run P w= .ok (.value<|.func fn (first.toList.map<|ev N σ).toArray (captured.toList.map<|ev N σ).toArray) w:=by
 rw [mf,← gR,← gR]
end
end Go.Hb
namespace Go.Hb
def aw (h:Array Obj) (b:Nat) (L:List ag):Prop := ∃ e,h[b]? =some (.cells L.toArray e (0,0))
theorem aw.av {h:Array Obj} {b:Nat} {L:List ag} (hb:aw h b L) (j:Nat):Hb.av h b j=L[j]? :=by
 obtain ⟨e,hb⟩:=hb;rw [bT hb]; simp
theorem aw.aO {h:Array Obj} {b:Nat} {L:List ag} (hb:aw h b L) (j:Nat):Hb.av h b (0 +j)=L[j]? :=by
 rw [b9,hb.av]
theorem Md.B {F:Nat→Prop} {w w':ah} (h:Md F w w') {b:Nat} {L:List ag} (hb:aw w.heap b L) (A:¬F b):aw w'.heap b L:=
 let ⟨e,hb⟩:=hb; ⟨e,h.ar hb A⟩
theorem Wk.B {w w':ah} (h:Wk w w') {b:Nat} {L:List ag} (hb:aw w.heap b L):aw w'.heap b L:=Md.B h hb id
theorem aw.lt {h:Array Obj} {b:Nat} {L:List ag} (hb:aw h b L):b < h.size:=by grind [aw]
def bk (a:Option bB):Nat:=match a with | some ad=>ad.block | none=>0
def fo (a:Option bB):Nat:=match a with | some ad=>ad.off | none=>0
structure bo (h:Array Obj) (a:Option bB) (xs:List ag):Prop where
 ok:xs≠[]→a=some ⟨bk a,fo a,none⟩
 av:∀ j u,xs[j]? =some u→Hb.av h (bk a) (fo a+j)=some u
theorem bo.nil (h:Array Obj) (a:Option bB):bo h a []:=⟨fun h=>absurd rfl h,fun _ _ hu=>by simp at hu⟩
theorem bo.md {F:Nat→Prop} {w w':ah} {a:Option bB} {xs:List ag} (A:bo w.heap a xs) (h:Md F w w') (C:xs≠[]→¬F (bk a)):bo w'.heap a xs:=
 ⟨A.ok,fun j u hu=>h.av (A.av j u hu)<|C<|by rintro rfl; simp at hu⟩
theorem bo.wk {w w':ah} {a:Option bB} {xs:List ag} (A:bo w.heap a xs) (h:Wk w w'):bo w'.heap a xs:=A.md h fun _ x=>x
theorem bo.iw {h:Array Obj} {b:Nat} {L:List ag} (hb:aw h b L):bo h (some ⟨b,0,none⟩) L:=
 ⟨fun _=>rfl,fun j u hu=>by show Hb.av h b (0 +j)=_; rw [b9,hb.av]; exact hu⟩
theorem bo.B5 {h:Array Obj} {a:Option bB} {xs:List ag} (A:bo h a xs) {i:Nat} {u:ag} (hu:xs[i]? =some u):Hb.av h (bk a) (fo a+i*1)=some u:=by
 rw [Nat.mul_one]; exact A.av i u hu
def dY (P:aq) (t e size bytes:Nat):Bool:=
 match P.underlying t with
 | some (.slice e')=>e'==e && match P.info? e with
   | some i=>i.size==size && i.bytes==bytes && az 0 size && match i.zero with
     | some z=>z.cells.size==size
     | none=>false
   | none=>false
 | _=>false
theorem n5 {P:aq} {t e size bytes:Nat} (h:dY P t e size bytes=true):
 P.underlying t=some (.slice e)∧∃ i z,P.info? e=some i∧i.zero=some z∧i.size=size∧i.bytes=bytes∧z.cells.size=size∧0 < size:=by
 unfold dY at h;split at h
 · rename_i e' hu;simp only [aV,beq_iff_eq] at h;obtain ⟨rfl,h⟩:=h;split at h
   · rename_i i hi;simp only [aV,beq_iff_eq] at h;obtain ⟨⟨⟨h1,A⟩,h3⟩,h4⟩:=h;split at h4
     · rename_i z C;exact ⟨hu,i,z,hi,C,h1,A,by simpa using h4,kq (kr 0)<|bC h3⟩
     · cases h4
   · cases h
 · cases h
def bU (P:aq) (t:an):Option Nat:=(P.info? t).map (·.size)
def zeroOf (P:aq) (t:an):Option (Option<|List ag):=(P.info? t).map fun i=>i.zero.map fun z=>z.cells.toList
def fB (P:aq) (f:dA):Prop := ∀ args w,(callFunc f args).run P w= .ok (.enter f args) w
theorem rP {P:aq} {f:dA} {fn:fc} (C:P.funcs[f]? =some fn) (hn:(fn.name== "runtime.NumGoroutine")=false) (hb:fn.body.isNone=false):fB P f:=by
 intro args w;have h1:¬((fn.name== "runtime.NumGoroutine")=true):=by rw [hn]; simp
 have A:¬(fn.body.isNone=true):=by rw [hb]; simp
 simp only [callFunc,gx,run_program,fT,C];rw [if_neg h1,if_neg A];rfl
section
variable {P:aq} {N:Fm} {σ:Nat→ag} {w:ah} {dst:Option Nat} {ty:an} {pos :String} {af:Array bX} {g:Option (Nat×Bool)} {x y z:aT} {K:(Nat→ag)→ah→Prop}
theorem z6 {o:ax} {f:dA} {L:List ag} {R:ag→ah→Prop} (C:(execOp (ev N σ) o).run P w= .ok (.enter f L.toArray) w) (hr:bj P f L.toArray w R)
 (k:∀ v w',R v w'→K (cV σ o.dst v) w'):bO P N o σ w K:=by
 unfold bO fy;rw [cW,C];refine iX hr fun e w' ⟨v,he,A⟩=> ?_;subst he;exact ⟨_,dS ..,k v w' A⟩
theorem cl {f:dA} {args:Array aT} {A:Array an} {L:List ag} {R:ag→ah→Prop} (E:fB P f) (hr:bj P f L.toArray w R) (C:args.toList.map (ev N σ)=L)
 (k:∀ v w',R v w'→K (cV σ dst v) w'):bO P N ⟨dst,.call ⟨.value (.func f),args,A⟩,ty,pos,af,g⟩ σ w K:=by
 refine z6 (f:=f) ?_ hr k;have :args.map (ev N σ)=L.toArray:=by rw [← C,← gR]
 simp [execOp,resolve,ev,ki,invoke,this,E L.toArray w]
theorem CD {f:dA} {fo:aT} {first cap:Array ag} {args:Array aT} {A:Array an} {L:List ag} {R:ag→ah→Prop} (E:fB P f) (I:ev N σ fo= .func (.func f) first cap)
 (hr:bj P f L.toArray w R) (C:first.toList++args.toList.map (ev N σ)++cap.toList=L)
 (k:∀ v w',R v w'→K (cV σ dst v) w'):bO P N ⟨dst,.call ⟨.value fo,args,A⟩,ty,pos,af,g⟩ σ w K:=by
 refine z6 (f:=f) ?_ hr k;have :first++args.map (ev N σ)++cap=L.toArray:=by rw [← C,← gR,← Ak,← Ak]
 simp [execOp,resolve,I,ki,invoke,this,E L.toArray w]
theorem kh {o:ax} {ob:Obj} {v:Nat→ag} (A:(execOp (ev N σ) o).run P w= .ok (.value<|v w.heap.size) {w with heap:=w.heap.push ob})
 (k:∀ b w',b=w.heap.size→Nw w w'→w'.heap[b]? =some ob→K (cV σ o.dst<|v b) w'):bO P N o σ w K:=by grind [jD,Fc]
theorem al {e:an} {C:List ag} (A:zeroOf P e=some (some C)) (k:∀ b w',b=w.heap.size→Nw w w'→aw w'.heap b C→K (cV σ dst<|.pointer<|some ⟨b,0,none⟩) w'):
 bO P N ⟨dst,.alloc e,ty,pos,af,g⟩ σ w K:=by
 refine kh (v:=fun b=> .pointer<|some ⟨b,0,none⟩) (ob:= .cells C.toArray e (0,0)) ?_ fun b w' h1 E I=>k b w' h1 E ⟨e,I⟩;unfold zeroOf at A;simp only [fA] at A;obtain ⟨i,hi,zv,J,rfl⟩:=A;simp [execOp,qS,zeroValue,cG hi,J,newVar,newRow]
theorem dC {e:an} {C:List ag} (A:zeroOf P e=some (some C)) (k:∀ b w',b=w.heap.size→Nw w w'→w'.heap[b]? =some (.cells C.toArray e (0,0))→K (cV σ dst<|.pointer<|some ⟨b,0,none⟩) w'):
 bO P N ⟨dst,.alloc e,ty,pos,af,g⟩ σ w K:=by
 refine kh (v:=fun b=> .pointer<|some ⟨b,0,none⟩) (ob:= .cells C.toArray e (0,0)) ?_ k;unfold zeroOf at A;simp only [fA] at A;obtain ⟨i,hi,zv,E,rfl⟩:=A;simp [execOp,qS,zeroValue,cG hi,E,newVar,newRow]
theorem bx {e:an} {v:ag} {L:List ag} (I:ev N σ x=v) (E:v.cells.toList=L) (k:∀ b w',b=w.heap.size→Nw w w'→aw w'.heap b L→K (cV σ dst<|.pointer<|some ⟨b,0,none⟩) w'):
 bO P N ⟨dst,.box e x,ty,pos,af,g⟩ σ w K:=by
 subst E;refine kh (v:=fun b=> .pointer<|some ⟨b,0,none⟩) (ob:= .cells v.cells e (0,0)) ?_ fun b w' h1 A C=>k b w' h1 A ⟨e,C⟩;simp [execOp,uI,I,newVar,newRow]
theorem oV {t e:an} {size bytes:Nat} (I:dY P t e size bytes=true)
 (k:∀ b w',b=w.heap.size→Nw w w'→(∀ B,B≤b→w'.ownsRow B e size (.slice (some ⟨b,0,none⟩) 0 0) 0 [])→K (cV σ dst<|.slice (some ⟨b,0,none⟩) 0 0) w'):bO P N ⟨dst,.buildSlice t 0 #[],ty,pos,af,g⟩ σ w K:=by
 refine kh (v:=fun b=> .slice (some ⟨b,0,none⟩) 0 0) (ob:= .cells #[] e (0,0)) ?_ fun b w' h1 A C=>k b w' h1 A fun B E=>⟨by simp,.inr ⟨b,0,#[],J,E,C,aY _,by simp [maxLen],by simp,by simp⟩⟩
 obtain ⟨hu,i,zv,hi,M,h1,A,C,L⟩:=n5 I;simp [execOp,qT,ba hu,sizeOf,cG hi,iZ,newRow];congr 2;exact Array.eq_empty_of_size_eq_zero<|by simp
theorem Cf {t e:an} {size bytes:Nat} {v:ag} {L:List ag} (V:dY P t e size bytes=true) (O:aX size 1000=true) (aa:ev N σ x=v) (Z:v.cells.size=size)
 (I:v.cells.toList=L) (k:∀ b w',b=w.heap.size→Nw w w'→w'.heap[b]? =some (.cells L.toArray e (0,0))→K (cV σ dst<|.slice (some ⟨b,0,none⟩) 1 1) w'):bO P N ⟨dst,.buildSlice t 1 #[(0,x)],ty,pos,af,g⟩ σ w K:=by
 subst I;refine kh (v:=fun b=> .slice (some ⟨b,0,none⟩) 1 1) (ob:= .cells v.cells e (0,0)) ?_ fun b w' h1 A C=>k b w' h1 A<|by simpa using C
 obtain ⟨hu,i,zv,hi,ab,h1,A,C,ac⟩:=n5 V;have ad:size≤1000:=by simpa using O
 have J:iZ (fun i=>some (i*size,size)) ((m7 size).map (zv.cells[· % zv.cells.size]!)) [(0,v)]=some v.cells:=by
  have E:((m7 size).map (zv.cells[· % zv.cells.size]!)).size=size:=by simp
  generalize (m7 size).map (zv.cells[· % zv.cells.size]!)=cs at E;simp only [iZ,Z];rw [if_neg (by rw [E]; simp)];congr 1;have key:∀ (l:List ag) (m:Nat) (cs:Array ag),m+l.length≤cs.size→∀ j,((l.zipIdx m).foldl (fun (cs:Array ag) (c,j)=>cs.setIfInBounds (0 *size+j) c) cs)[j]? =if j < m then cs[j]? else if j < m+l.length then l[j - m]? else cs[j]? :=by
   intro l
   induction l with
   | nil=>intro m cs hm j; simp; intro h1 A; omega
   | cons c l ih=>
     intro m cs hm j;simp only [List.zipIdx_cons,oB,cZ] at hm ⊢;rw [ih (m+1) _ (by simp; omega)];simp only [rn,b9,og];by_cases h1:j < m
     · rw [if_pos U,if_pos h1,if_neg U]
     · rw [if_neg h1];by_cases A:j=m
       · subst A;rw [if_pos U,if_pos rfl,if_pos U,if_pos U];simp
       · rw [if_neg U];by_cases C:j < m+1 +l.length
         · rw [if_pos C,if_pos U];obtain ⟨q,M⟩:∃ q,j - m=q+1:=⟨j - m - 1,U⟩
           rw [M,gz,show j - (m+1)=q from by omega]
         · rw [if_neg C,if_neg U,if_neg U]
  apply Ad;intro j;have :=key v.cells.toList 0 cs (by simp; omega) j;rw [show (v.cells.zipIdx.foldl (fun (cs:Array ag) (c,j)=>cs.setIfInBounds (0 *size+j) c) cs)=((v.cells.toList.zipIdx 0).foldl (fun (cs:Array ag) (c,j)=>cs.setIfInBounds (0 *size+j) c) cs) from by
   rw [← Array.foldl_toList]; simp [Array.toList_zipIdx]]
  rw [this];simp only [Nat.not_lt_zero,if_false,b9,Nat.sub_zero,jF,Array.getElem?_toList];split
  · rfl
  · rw [qM U,qM U]
 simp only [execOp,qT,gx,ba hu,fT,sizeOf,cG hi,jH,h1,Nat.one_mul,qX,zeroValue,ab,List.map_toArray,fg,List.map_nil,aa,J];rw [if_neg (by rw [show (2:Nat) ^ 24=16777216 from rfl]; omega),if_neg U];simp [newRow]
theorem vA {t e:an} {size bytes:Nat} {v:ag} {L:List ag} (J:dY P t e size bytes=true) (I:aX size 1000=true) (O:ev N σ x=v) (M:v.cells.size=size)
 (E:v.cells.toList=L) (k:∀ b w',b=w.heap.size→Nw w w'→aw w'.heap b L→K (cV σ dst<|.slice (some ⟨b,0,none⟩) 1 1) w'):bO P N ⟨dst,.buildSlice t 1 #[(0,x)],ty,pos,af,g⟩ σ w K:=
 Cf J I O M E fun b w' h1 A C=>k b w' h1 A ⟨_,C⟩
theorem mF {v:ag} (h:v.oneCell'=true):v.cells= #[v]:=by cases v <;> first | rfl | (cases h; done)
theorem rL {t e:an} {bytes:Nat} {v:ag} (A:dY P t e 1 bytes=true) (C:ev N σ x=v) (h1:v.oneCell'=true)
 (k:∀ b w',b=w.heap.size→Nw w w'→aw w'.heap b [v]→K (cV σ dst<|.slice (some ⟨b,0,none⟩) 1 1) w'):bO P N ⟨dst,.buildSlice t 1 #[(0,x)],ty,pos,af,g⟩ σ w K:=
 vA A rfl C (by rw [mF h1]; rfl) (by rw [mF h1]) k
theorem jW {t e:an} {size bytes:Nat} {L:List ag} (E:dY P t e size bytes=true) (C:aX size 1000=true) (I:ev N σ x= .agg L.toArray) (A:L.length=size)
 (k:∀ b w',b=w.heap.size→Nw w w'→aw w'.heap b L→K (cV σ dst<|.slice (some ⟨b,0,none⟩) 1 1) w'):bO P N ⟨dst,.buildSlice t 1 #[(0,x)],ty,pos,af,g⟩ σ w K:=
 vA E C I (by simpa [nf] using A) (by simp [nf]) k
theorem l9 {e:an} {L:List ag} (A:ev N σ x= .agg L.toArray) (k:∀ b w',b=w.heap.size→Nw w w'→aw w'.heap b L→K (cV σ dst<|.pointer<|some ⟨b,0,none⟩) w'):
 bO P N ⟨dst,.box e x,ty,pos,af,g⟩ σ w K:=bx A (by simp [nf]) k
theorem oW {e:an} {L:List ag} (E:ev N σ x= .agg L.toArray) (k:∀ b w',b=w.heap.size→Nw w w'→w'.heap[b]? =some (.cells L.toArray e (0,0))→K (cV σ dst<|.pointer<|some ⟨b,0,none⟩) w'):
 bO P N ⟨dst,.box e x,ty,pos,af,g⟩ σ w K:=by
 refine kh (v:=fun b=> .pointer<|some ⟨b,0,none⟩) (ob:= .cells L.toArray e (0,0)) ?_ fun b w' h1 A C=>k b w' h1 A C;simp [execOp,uI,E,newVar,newRow,nf]
theorem oT {l:List ag} (h:l.all eV=true):∀ u∈l,u.oneCell'=true :=AZ.1 h
theorem dZ {t b off :Nat} {e:an} {L:List ag} {v:ag} (A:bU P t=some 1) (ab:ev N σ x= .pointer (some ⟨b,off,none⟩)) (ac:ev N σ y=v) (h1:v.oneCell'=true) (hb:w.heap[b]? =some (.cells L.toArray e (0,0))) (U:off < L.length)
 (k:∀ w',Md (fun k=>k=b) w w'→w'.heap[b]? =some (.cells (L.set off v).toArray e (0,0))→K σ w'):bO P N ⟨none,.store t x y,ty,pos,af,g⟩ σ w K:=by
 have E:v.cells= #[v]:=by cases v <;> first | rfl | (cases h1; done)
 have I:w.cell? ⟨b,off,none⟩=some L[off]:=by rw [hJ,bT hb]; simp [U]
 have M:w.frozen? ⟨b,off,none⟩=false :=by simp only [World.frozen?,show w.heap[b]? =_ from hb]; simp
 unfold bU at A;simp only [fA] at A;obtain ⟨i,hi,Z⟩:=A;have C:(⟨b,off,none⟩:bB).add 0=⟨b,off,none⟩:=rfl;have V:(execOp (ev N σ) ⟨none,.store t x y,ty,pos,af,g⟩).run P w= .ok .skip (w.setCell ⟨b,off,none⟩ v):=by
  simp [execOp,uL,ab,ac,lP,storeVar,E,sizeOf,cG hi,Z,storeCells,C,run_store P w _ v _ h1,I,M]
 unfold bO fy;rw [cW,V];refine ⟨σ,J,k _ ⟨J,J,by simp [AW],fun k _ O=> ?_⟩ ?_⟩
 · exact Below.heap_setCell w _ v k O
 · have aJ:=(ef.1 hb).1;have aa:w.heap[b]= .cells L.toArray e (0,0):=(ef.1 hb).2;simp only [AW];rw [lH (by simpa using aJ),Array.getElem_modify];simp [aa,List.setIfInBounds_toArray]
theorem st {t b off :Nat} {L:List ag} {v:ag} (J:bU P t=some 1) (E:ev N σ x= .pointer (some ⟨b,off,none⟩)) (I:ev N σ y=v) (h1:v.oneCell'=true) (hb:aw w.heap b L) (C:off < L.length)
 (k:∀ w',Md (fun k=>k=b) w w'→aw w'.heap b (L.set off v)→K σ w'):bO P N ⟨none,.store t x y,ty,pos,af,g⟩ σ w K:=
 let ⟨_,hb⟩:=hb
 dZ J E I h1 hb C fun w' h1 A=>k w' h1 ⟨_,A⟩
theorem dx {t b off n:Nat} {e:an} {L vs:List ag} (A:bU P t=some n) (M:ev N σ x= .pointer (some ⟨b,off,none⟩)) (O:ev N σ y= .agg vs.toArray) (hn:vs.length=n) (h1:vs.all eV=true) (hb:w.heap[b]? =some (.cells L.toArray e (0,0))) (U:off+n≤L.length)
 (k:∀ w',Md (fun k=>k=b) w w'→w'.heap[b]? =some (.cells (L.take off++vs++L.drop (off+n)).toArray e (0,0))→K σ w'):bO P N ⟨none,.store t x y,ty,pos,af,g⟩ σ w K:=by
 unfold bU at A;simp only [fA] at A;obtain ⟨i,hi,I⟩:=A;have a9:=run_storeCells_at P b off e vs 0 L.toArray w hb (by simp; omega)<|oT h1;have E:(execOp (ev N σ) ⟨none,.store t x y,ty,pos,af,g⟩).run P w= .ok .skip (w.setRow b (L.take off++vs++L.drop (off+n)).toArray):=by
  simp [execOp,uL,M,O,lP,storeVar,nf,sizeOf,cG hi,I,hn,a9]
 unfold bO fy;rw [cW,E];exact ⟨σ,J,k _ ⟨J,J,by simp,fun k _ C=>setRow_other w b k _ C⟩<|setRow_heap w b _ _ e _ hb⟩
theorem n8 {t b off n:Nat} {L vs:List ag} (A:bU P t=some n) (M:ev N σ x= .pointer (some ⟨b,off,none⟩)) (O:ev N σ y= .agg vs.toArray) (hn:vs.length=n) (h1:vs.all eV=true) (hb:aw w.heap b L) (U:off+n≤L.length)
 (k:∀ w',Md (fun k=>k=b) w w'→aw w'.heap b (L.take off++vs++L.drop (off+n))→K σ w'):bO P N ⟨none,.store t x y,ty,pos,af,g⟩ σ w K:=by
 obtain ⟨e,hb⟩:=hb;unfold bU at A;simp only [fA] at A;obtain ⟨i,hi,I⟩:=A;have a9:=run_storeCells_at P b off e vs 0 L.toArray w hb (by simp; omega)<|oT h1;have E:(execOp (ev N σ) ⟨none,.store t x y,ty,pos,af,g⟩).run P w= .ok .skip (w.setRow b (L.take off++vs++L.drop (off+n)).toArray):=by
  simp [execOp,uL,M,O,lP,storeVar,nf,sizeOf,cG hi,I,hn,a9]
 unfold bO fy;rw [cW,E];exact ⟨σ,J,k _ ⟨J,J,by simp,fun k _ C=>setRow_other w b k _ C⟩ ⟨e,setRow_heap w b _ _ e _ hb⟩⟩
theorem BZ {t ty e:an} {i:TypeInfo} {zv:ag} {B n m c:Nat} {v Z:ag} {xs news:List ag} {ad:bB} {w':ah} (hu:P.underlying t=some (.slice e)) (hi:P.info? e=some i) (V:i.zero=some zv) (aj:zv.cells.size=i.size) (ae:0 < i.size)
 (I:w.ownsRow B e i.size v n xs) (E:news.length=m*i.size) (J:∀ j u,news[j]? =some u→w.cell? (ad.add j)=some u) (h1:∀ u∈news,u.oneCell'=true) (L:n+m≤maxLen) (hb:(n+m)*i.bytes≤140737488355328)
 (hr:(iA #[t,t] ty #[v,.slice (some ad) m c]).run P w= .ok Z w'):∀ k,Z.ownBlock=some k→v.ownBlock=some k∨w.heap.size≤k:=by
 intro k A;have al:n+m≤9223372036854775807:=by unfold maxLen at L; omega
 rcases I.2 with ⟨rfl,rfl⟩ | ⟨C,cap,cur,rfl,ao,hg,aq,ap,ab,ar⟩
 · have ai:xs= []:=jL<|by simpa using I.1
   subst ai;obtain ⟨v2,av,M,aa,_,_⟩:=run_append_own (P:=P) w w.heap.size t ty e i zv i.size i.bytes hu hi V rfl rfl aj ae _ 0 [] (gy w w.heap.size e i.size) ad m c news E J h1 L hb (aY _);rw [hr] at M;cases M;exact .inr (by
    rcases aa.2 with ⟨h,_⟩ | ⟨ak,_,_,h,am,_⟩
    · rw [h] at A; simp [ff] at A
    · rw [h] at A; simp only [ff,bu] at A; omega)
 · by_cases O:n+m≤cap
   · have ac:n*i.size+news.length≤cur.size:=by rw [E,ab,← Nat.add_mul]; exact lX _ O
     rw [run_append_room (P:=P) w t ty e i hu hi C n cap cur hg ad m c news E J h1 O ac] at hr;cases hr;exact .inl A
   · have holds:∀ j u,xs[j]? =some u→w.cell? ((⟨C,0,none⟩:bB).add j)=some u:=I.cells (g:=C) rfl;rw [run_append_grow (P:=P) w t ty e i zv hu hi V ⟨C,0,none⟩ n cap xs I.1 holds ad m c news E J U U (growslice_fits U hb)] at hr;cases hr;simp only [ff,bu] at A;exact .inr U
theorem ap {t e size bytes B n m c:Nat} {v:ag} {xs news:List ag} {a:Option bB} (an:dY P t e size bytes=true) (E:w.ownsRow B e size v n xs) (Z:ev N σ x=v) (ah:B≤w.heap.size)
 (aa:ev N σ y= .slice a m c) (L:bo w.heap a news) (I:news.length=m*size) (h1:news.all eV=true) (hb:(n+m)*bytes≤140737488355328) (ar:n+m≤9223372036854775807)
 (k:∀ A w',w'.ownsRow B e size A (n+m) (xs++news)→Md (fun k=>v.ownBlock=some k) w w'→(A= .slice none 0 0↔v= .slice none 0 0∧m=0)→(∀ k,A.ownBlock=some k→v.ownBlock=some k∨w.heap.size≤k)→K (cV σ dst A) w'):
 bO P N ⟨dst,.call ⟨.builtin .append,#[x,y],#[t,t]⟩,ty,pos,af,g⟩ σ w K:=by
 obtain ⟨hu,i,zv,hi,ab,V,J,ac,U⟩:=n5 an;have M:n+m≤maxLen:=by unfold maxLen; omega
 by_cases hm:news= []
 · subst hm;have ak:m=0:=by
    rcases Nat.mul_eq_zero.1 (I.symm.trans rfl) with h | h
    · exact h
    · omega
   subst ak;have am:(iA #[t,t] ty #[v,.slice a 0 c]).run P w= .ok v w:=by
    rcases E.2 with ⟨rfl,rfl⟩ | ⟨aq,cap,cur,rfl,_,_,hle,_⟩
    · cases a <;> simp [iA,ba hu,sizeOf,cG hi,Ar,qR,loadCells,loadCellsFrom]
    · cases a <;> simp [iA,ba hu,sizeOf,cG hi,Ar,qR,loadCells,loadCellsFrom,hle,storeCells]
   refine jD (w':=w) (v:=v) ?_<|k v w (by simpa using E) (Md.refl _ _) (by simp) fun _ h=> .inl h;simp [execOp,resolve,invoke,builtin,Z,aa,am]
 · have ha:=L.ok hm;have O:∀ j u,news[j]? =some u→w.cell? ((⟨bk a,fo a,none⟩:bB).add j)=some u:=fun j u hu=>by rw [eH,hJ]; exact L.av j u hu
   obtain ⟨A,w',hr,ad,C,ae⟩:=run_append_own (P:=P) w B t ty e i zv size bytes hu hi ab V J ac U v n xs E ⟨bk a,fo a,none⟩ m c news I O (oT h1) M hb ah;subst V J;have ai:=BZ hu hi ab ac U E I O (oT h1) M hb hr;refine jD (w':=w') (v:=A) ?_<|k A w' ad ⟨C.os,C.output,C.size,fun k aj al=>C.block k aj fun e=>al e.symm⟩ ae ai;have ao:ev N σ y= .slice (some ⟨bk a,fo a,none⟩) m c:=aa.trans<|congrArg (fun a=>iC a m c) ha;simp [execOp,resolve,invoke,builtin,Z,ao,hr]
theorem cC {t n len cap:Nat} {k:bg} {i:Int} {a:Option bB} (he:cK P t=some n) (A:ev N σ x= .slice a len cap) (C:ev N σ y= .int k i) (h0:0≤i∧i < len) (ha:a=some ⟨bk a,fo a,none⟩):
 (execOp (ev N σ) ⟨dst,.indexAddr t x y,ty,pos,af,g⟩).run P w= .ok (.value<|.pointer<|some ⟨bk a,fo a+i.toNat*n,none⟩) w:=
 ia he (by rw [A]; congr 1) C h0
end
theorem cP {F:Nat→Prop} {w w':ah} {B e size n:Nat} {v:ag} {xs:List ag} (h:w.ownsRow B e size v n xs) (hm:Md F w w') (A:∀ k,v.ownBlock=some k→¬F k):w'.ownsRow B e size v n xs:=by
 refine ⟨h.1,?_⟩;rcases h.2 with hn | ⟨g,cap,cur,rfl,hb,C,rest⟩
 · exact .inl hn
 · exact .inr ⟨g,cap,cur,J,hb,hm.ar C (A g J),rest⟩
section
variable {P:aq} {N:Fm} {σ:Nat→ag} {w:ah} {dst:Option Nat} {ty:an} {pos :String} {af:Array bX} {g:Option (Nat×Bool)} {x y z:aT} {K:(Nat→ag)→ah→Prop}
theorem GK {t B e size n cap off j:Nat} {a:Option bB} {xs:List ag} {u:ag} (ab:w.ownsRow B e size (.slice a n cap) n xs) (ah:bU P t=some 1) (ad:ev N σ x= .pointer (some ⟨bk a,off,none⟩)) (ae:ev N σ y=u) (h1:u.oneCell'=true)
 (U:off =fo a+j) (aa:j < n*size)
 (k:∀ w',Md (fun k=>(iC a n cap).ownBlock=some k) w w'→w'.ownsRow B e size (.slice a n cap) n (xs.set j u)→K σ w'):bO P N ⟨none,.store t x y,ty,pos,af,g⟩ σ w K:=by
 obtain ⟨h0,h⟩:=ab;rcases h with ⟨h,rfl⟩ | ⟨A,ai,cur,h,E,hg,hle,O,C,ac⟩
 · simp at aa
 · simp only [uR,true_and] at h;obtain ⟨rfl,rfl⟩:=h;have V:off =j:=by rw [U]; simp [fo]
   subst V;have hlen:off < cur.toList.length:=by
    have :=lX size hle;rw [jF,C]; omega
   refine dZ (L:=cur.toList) ah ad ae h1 (show w.heap[A]? =_ by simpa using hg) hlen fun w' M I=>k w' (M.mono fun k _ Z=>by subst Z; rfl) ⟨by simpa using h0,.inr ⟨A,cap,_,J,E,I,hle,O,by simpa using C,?_⟩⟩;rw [← ac];simp only;rw [List.take_set]
end
theorem tt {w:ah} {B e size n:Nat} {v:ag} {xs:List ag} (h:w.ownsRow B e size v n xs):v.oneCell'=true :=by
 rcases h.2 with ⟨rfl,_⟩ | ⟨g,cap,cur,rfl,_⟩ <;> rfl
theorem gM {w:ah} {B e size n:Nat} {v:ag} {xs:List ag} (h:w.ownsRow B e size v n xs):∃ a cap,v= .slice a n cap:=by
 rcases h.2 with ⟨rfl,rfl⟩ | ⟨g,cap,cur,rfl,_⟩
 · exact ⟨_,_,J⟩
 · exact ⟨_,_,J⟩
theorem Fp {w:ah} {B B' e e' size M n L:Nat} {v I:ag} {xs O:List ag} (h:w.ownsRow B e size v n xs) (h':w.ownsRow B' e' M I L O) (J:e≠e') {k:Nat} (C:v.ownBlock=some k):I.ownBlock≠some k:=by
 intro E;rcases h.2 with ⟨rfl,_⟩ | ⟨g,cap,cur,rfl,_,hg,_⟩
 · simp [ff] at C
 · rcases h'.2 with ⟨rfl,_⟩ | ⟨Z,U,V,rfl,_,A,_⟩
   · simp [ff] at E
   · simp only [ff,bu] at C E;subst C E;rw [hg] at A;simp only [bu,AN] at A;exact J A.2.1
theorem cq {w w':ah} {B e size n:Nat} {v:ag} {xs:List ag} (h:w.ownsRow B e size v n xs) (hm:Wk w w'):w'.ownsRow B e size v n xs:=cP h hm fun _ _ x=>x
theorem dc {w:ah} {B e size n:Nat} {v:ag} {xs:List ag} (h:w.ownsRow B e size v n xs) {k:Nat} (A:v.ownBlock=some k):B≤k∧k < w.heap.size:=h.lt k A
theorem Wk.own {w0 w w':ah} {B e size n:Nat} {v:ag} {xs:List ag} (h:Wk w0 w) (A:w.ownsRow B e size v n xs) (hm:Md (fun k=>v.ownBlock=some k) w w') (E:w0.heap.size≤B):Wk w0 w':=
 Md.trans' h hm (fun k I C=>by have :=(dc A C).1; omega)
theorem mI {w:ah} {B e size n:Nat} {v:ag} {xs:List ag} (h:w.ownsRow B e size v n xs):∃ a cap,v= .slice a n cap∧bo w.heap a xs∧n≤cap∧(∀ k,v.ownBlock=some k→a=some ⟨k,0,none⟩∧B≤k∧k < w.heap.size)∧(v.ownBlock=none→xs= []):=by
 rcases h.2 with ⟨rfl,rfl⟩ | ⟨g,cap,cur,rfl,hb,C,hle,_,_,E⟩
 · have :xs= []:=jL<|by simpa using h.1
   subst this;exact ⟨none,0,J,bo.nil _ _,aY _,fun k A=>by simp [ff] at A,fun _=>rfl⟩
 · refine ⟨_,cap,J,⟨fun _=>rfl,fun j u hu=> ?_⟩,hle,fun k A=> ?_,fun A=>by simp [ff] at A⟩
   · show av w.heap g (0 +j)=_;rw [b9,bT C];rw [← E,gB] at hu;split at hu
     · simpa using hu
     · cases hu
   · simp only [ff,bu] at A; subst A;exact ⟨J,hb,(ef.1 C).1⟩
theorem iy {w:ah} {B e size n cap:Nat} {a:Option bB} {xs:List ag} (h:w.ownsRow B e size (.slice a n cap) n xs):n≤cap∧bo w.heap a xs:=by grind [mI]
theorem pT {w:ah} {B B' e size n:Nat} {v:ag} {xs:List ag} (h:w.ownsRow B e size v n xs) (C:B'≤B):w.ownsRow B' e size v n xs:=by
 refine ⟨h.1,?_⟩;rcases h.2 with h | ⟨g,cap,cur,h1,A,r⟩
 · exact .inl h
 · exact .inr ⟨g,cap,cur,h1,cH C A,r⟩
section
variable {P:aq} {N:Fm} {σ:Nat→ag} {w:ah} {dst:Option Nat} {ty:an} {pos :String} {af:Array bX} {g:Option (Nat×Bool)} {x y z:aT} {K:(Nat→ag)→ah→Prop}
end
end Go.Hb
namespace Go.Hb
section
variable {P:aq} {md:lS} {ops:Array ax} {Q:bc→Act→ah→Prop} {S:ah→Prop} {r:Nat}
def jC (P:aq) (md:lS) (ops:Array ax) (Q:bc→Act→ah→Prop) (S:ah→Prop) (r:Nat):Nat→Array Bool→Act→ah→Prop
 | 0,listed,a,w=>dn md ops listed= []∧Q .normal a w
 | fuel+1,listed,a,w=>
   (dn md ops listed= []→Q .normal a w)∧
   ∀ i∈dn md ops listed,wpOp P ops Q i (fun A w'=>((listed.setIfInBounds i true).getD r false =false→S w')∧jC P md ops Q S r fuel (listed.setIfInBounds i true) A w') a w
theorem zZ:∀ (fuel:Nat) (listed:Array Bool) (a:Act) (w:ah),jC P md ops Q S r fuel listed a w→wpAny P md ops Q fuel listed a w
 | 0,_,_,_,h=>h
 | fuel+1,_,_,_,h=>⟨h.1,fun i hi=>wpOp_mono (fun A w' h'=>zZ fuel _ A w' h'.2)<|h.2 i hi⟩
theorem HI {i:Nat} {E:ax} {v:ag} (hi:ops[i]? =some E) (ai:∀ (j:Nat) (o:ax) cs b,ops[j]? =some o→o.op≠.select cs b)
 (am:∀ c a w,Q (.panic c) (a.put E.dst v) w→Q (.panic c) a w) (az:∀ o,ops[r]? =some o→∃ x∈o.after,cY md x=true∧x.on=i) (ap:i≠r):
 ∀ (fuel:Nat) (listed:Array Bool) (a:Act) (w:ah),
   (∀ j C,ops[j]? =some C→j≠i→listed.getD j true =false→(∀ x∈C.after,cY md x=true→x.on≠i)→E.apart ops C=true)→
   i∈dn md ops listed→YieldsIf P ops S E v a→S w→listed.getD r false =false→
   jC P md ops Q S r fuel (listed.setIfInBounds i true) (a.put E.dst v) w→jC P md ops Q S r (fuel+1) listed a w:=by
 intro fuel
 induction fuel with
 | zero=>
   intro listed a w _ hr O I _ H;refine ⟨fun h=>(by rw [h] at hr; cases hr),fun j L=> ?_⟩;by_cases A:j=i
   · subst A; exact O.wpOp hi I ⟨fun _=>I,H⟩
   · have :=ready_mono L A;rw [H.1] at this;cases this
 | succ fuel ih=>
   intro listed a w V hr O I ac H;refine ⟨fun h=>(by rw [h] at hr; cases hr),fun j L=> ?_⟩;by_cases A:j=i
   · subst A; exact O.wpOp hi I ⟨fun _=>I,H⟩
   · have h1:=H.2 j<|ready_mono L A;obtain ⟨ab,C,M,an⟩:=mem_ready.1 L;have ae:∀ x∈C.after,cY md x=true→x.on≠i:=fun x U hb heq=>by
      have h1:=an x U hb;have h0:=(mem_ready.1 hr).1;rw [heq] at h1;rcases de i listed.size with h' | h'
      · simp [h'] at h0 h1; rw [h0] at h1; cases h1
      · simp [qM h'] at h1
     have aa:j≠r:=by
      rintro rfl;obtain ⟨x,U,hb,ay⟩:=az C M;exact ae x U hb ay
     have av:(listed.setIfInBounds j true).getD r false =false :=by rw [getD_set_ne false aa]; exact ac
     have ad:((listed.setIfInBounds i true).setIfInBounds j true).getD r false =false :=by rw [getD_set_ne false aa,getD_set_ne false ap]; exact ac
     have al:=wpOp_putIf M (V j C M A ab ae) (fun cs b=>ai i E cs b hi) (fun cs b=>ai j C cs b M) am O h1;have ao:∀ k ok,ops[k]? =some ok→k≠i→(listed.setIfInBounds j true).getD k true =false→
      (∀ x∈ok.after,cY md x=true→x.on≠i)→E.apart ops ok=true :=fun k ok aq ar aj aw=>by
      refine V k ok aq ar ?_ aw;by_cases Z:j=k
      · subst Z; exact ab
      · rw [getD_set_ne true Z] at aj; exact aj
     refine wpOp_mono (fun ak w' J=>⟨fun _=>J.2.1 ad,ih (listed.setIfInBounds j true) ak w' ao (ready_mono hr<|Ne.symm A) J.1 (J.2.1 ad) av ?_⟩) al;rw [uE _ _ A];exact J.2.2
end
section
variable {P:aq} {N:Fm} {ops:Array ax} {Q:bc→(Nat→ag)→ah→Prop} {σ:Nat→ag} {w:ah} {S:ah→Prop} {r fuel:Nat} {listed:Array Bool}
 {d':Option Nat} {d:Nat} {op:Op} {ty:an} {pos :String} {af:Array bX} {v:ag}
def bN (P:aq) (N:Fm) (ops:Array ax) (Q:bc→(Nat→ag)→ah→Prop) (S:ah→Prop) (r fuel:Nat) (listed:Array Bool) (σ:Nat→ag) (w:ah):Prop :=
 jC P .any ops (lift N Q) S r fuel listed (act N σ) w
theorem x8 {id:Nat} {l:List ax} (S:ah→Prop) (r:Nat) (hr:iR N.r l=true) (hm:P.follows .mixedOrders=true) (A:S w.drew) (h:bN P N l.toArray Q S r l.length (lI l.length false) σ w.drew):bl P N (.region id l.toArray true) Q σ w:=by
 exact vn hr hm<|zZ _ _ _ _<|by rw [dG]; exact h
def my (F:List Nat) (ops:Array ax) (listed:Array Bool) (r i:Nat):Bool:=
 dF F ops listed i && !(listed.getD r false) && i !=r && (match ops[r]? with | some o=>o.after.toList.any (fun x=>cY .any x && x.on==i) | none=>false)
theorem lq (i:Nat) (hi:ops[i]? =some ⟨some d,op,ty,pos,af,none⟩) (C:my N.F ops listed r i=true)
 (O:∀ w,S w→(execOp (ev N σ) ⟨some d,op,ty,pos,af,none⟩).run P w= .ok (.value v) w) (A:S w)
 (k:bN P N ops Q S r fuel (listed.setIfInBounds i true) (a0 σ d v) w):bN P N ops Q S r (fuel+1) listed σ w:=by
 simp only [my,dF,aV,iW,bne_iff_ne,ne_eq] at C;obtain ⟨⟨⟨⟨⟨⟨I,J⟩,hf3⟩,hfF⟩,hf4⟩,hf5⟩,hf6⟩:=C;rw [hi] at hfF;refine HI hi (uQ I) (fun c a w=>kU hfF c a w) (fun o L=> ?_) hf5 fuel listed _ w (uP hi J) (by simpa using hf3) (.inl ⟨eU _ rfl _,fun w A=> ?_⟩) A hf4 ?_ (v:=v)
 · rw [L] at hf6;simp only [A0,aV,beq_iff_eq] at hf6;obtain ⟨x,M,h1,E⟩:=hf6;exact ⟨x,qO.1 M,h1,E⟩
 · rw [cW]; exact O w A
 · rw [dS]; exact k
theorem xS (i:Nat) (hi:ops[i]? =some ⟨d',op,ty,pos,af,none⟩) (hr:gK ops listed i=true)
 (h:bO P N ⟨d',op,ty,pos,af,none⟩ σ w (fun σ w=>((listed.setIfInBounds i true).getD r false =false→S w)∧bN P N ops Q S r fuel (listed.setIfInBounds i true) σ w)):bN P N ops Q S r (fuel+1) listed σ w:=by
 have C:dn .any ops listed= [i]:=by simpa [gK] using hr
 refine ⟨fun h0=>absurd (C ▸ h0) (by simp),fun k A=> ?_⟩;rw [C] at A;obtain rfl :k=i:=by simpa using A
 unfold wpOp;simp only [hi];rw [if_pos (eU _ rfl _)];exact .inl<|oc h fun _ _ A=>A
theorem nI (i:Nat) (hi:ops[i]? =some ⟨d',op,ty,pos,af,none⟩) (hr:gK ops listed i=true)
 (h:bO P N ⟨d',op,ty,pos,af,none⟩ σ w (fun σ w=>S w∧bN P N ops Q S r fuel (listed.setIfInBounds i true) σ w)):bN P N ops Q S r (fuel+1) listed σ w:=by grind [xS,z7]
theorem xW (i:Nat) (hi:ops[i]? =some ⟨d',op,ty,pos,af,none⟩) (hr:gK ops listed i=true) (C:(listed.setIfInBounds i true).getD r false =true)
 (h:bO P N ⟨d',op,ty,pos,af,none⟩ σ w (fun σ w=>bN P N ops Q S r fuel (listed.setIfInBounds i true) σ w)):bN P N ops Q S r (fuel+1) listed σ w:=
 xS i hi hr (z7 h fun _ _ A=>⟨fun h0=>absurd (h0.symm.trans C) dd,A⟩)
theorem xX (hr:(dn .any ops listed).isEmpty=true) (h:Q .normal σ w):bN P N ops Q S r fuel listed σ w:=by
 have A:dn .any ops listed= []:=by simpa using hr
 cases fuel with
 | zero=>exact ⟨A,σ,rfl,h⟩
 | succ fuel=>exact ⟨fun _=>⟨σ,rfl,h⟩,by rw [A]; simp⟩
attribute [irreducible] bN
end
end Go.Hb
namespace Go.Hb
section
variable {P:aq} {md:lS} {ops:Array ax} {Q:bc→Act→ah→Prop} {S:ah→Prop} {r:Nat}
inductive ky (md:lS) (ops:Array ax) (i:Nat):Nat→Prop
 | one {r o e} :ops[r]? =some o→e∈o.after→cY md e=true→e.on=i→ky md ops i r
 | more {r o e} :ops[r]? =some o→e∈o.after→cY md e=true→ky md ops i e.on→ky md ops i r
def kv (md:lS) (ops:Array ax) (listed:Array Bool):Prop := ∀ (j:Nat) (o:ax),ops[j]? =some o→listed.getD j false =true→∀ e∈o.after,cY md e=true→listed.getD e.on false =true
theorem xB {listed:Array Bool} {j k:Nat} (h:listed.getD k false =true):(listed.setIfInBounds j true).getD k false =true :=by
 by_cases e:j=k
 · subst e;by_cases A:j < listed.size
   · simp [A]
   · simp [A] at h
 · rw [getD_set_ne false e]; exact h
theorem kv.set {listed:Array Bool} {j:Nat} (h:kv md ops listed) (J:j∈dn md ops listed):kv md ops (listed.setIfInBounds j true):=by
 intro k o A E e he hb;obtain ⟨_,M,L,I⟩:=mem_ready.1 J;by_cases C:j=k
 · subst C;rw [L] at A; cases A;exact xB<|I e he hb
 · rw [getD_set_ne false C] at E;exact xB<|h k o A E e he hb
theorem ky.listed {listed:Array Bool} {i r:Nat} (J:ky md ops i r) (I:kv md ops listed) (ha:∀ o,ops[r]? =some o→∀ e∈o.after,cY md e=true→listed.getD e.on false =true):listed.getD i false =true :=by
 induction J with
 | one h1 A C E=>rw [← E]; exact ha _ h1 _ A C
 | more h1 A C _ ih=>exact ih fun o L e he hb=>I _ o L (ha _ h1 _ A C) e he hb
theorem HH {i:Nat} {C:ax} {v:ag} (hi:ops[i]? =some C) (ak:∀ (j:Nat) (o:ax) cs b,ops[j]? =some o→o.op≠.select cs b)
 (ao:∀ c a w,Q (.panic c) (a.put C.dst v) w→Q (.panic c) a w) (ap:ky md ops i r) (ar:i≠r):
 ∀ (fuel:Nat) (listed:Array Bool) (a:Act) (w:ah),kv md ops listed→
   (∀ j E,ops[j]? =some E→j≠i→listed.getD j true =false→(∀ x∈E.after,cY md x=true→x.on≠i)→C.apart ops E=true)→
   i∈dn md ops listed→YieldsIf P ops S C v a→S w→listed.getD r false =false→
   jC P md ops Q S r fuel (listed.setIfInBounds i true) (a.put C.dst v) w→jC P md ops Q S r (fuel+1) listed a w:=by
 intro fuel
 induction fuel with
 | zero=>
   intro listed a w _ _ hr O I _ H;refine ⟨fun h=>(by rw [h] at hr; cases hr),fun j J=> ?_⟩;by_cases A:j=i
   · subst A; exact O.wpOp hi I ⟨fun _=>I,H⟩
   · have :=ready_mono J A;rw [H.1] at this;cases this
 | succ fuel ih=>
   intro listed a w V Z hr O I ae H;refine ⟨fun h=>(by rw [h] at hr; cases hr),fun j J=> ?_⟩;by_cases A:j=i
   · subst A; exact O.wpOp hi I ⟨fun _=>I,H⟩
   · have h1:=H.2 j<|ready_mono J A;obtain ⟨ad,E,M,U⟩:=mem_ready.1 J;have aa:listed.getD i false =false :=by
      have h0:=(mem_ready.1 hr).1;rcases de i listed.size with h' | h'
      · simpa [h'] using h0
      · simp [h'] at h0
     have aA:∀ x∈E.after,cY md x=true→x.on≠i:=fun x aB hb heq=>by
      have h1:=U x aB hb;rw [heq,aa] at h1; cases h1
     have ac:j≠r:=by
      rintro rfl;have :=ap.listed V fun o aj=>by rw [M] at aj; cases aj; exact U
      rw [aa] at this; cases this
     have ay:(listed.setIfInBounds j true).getD r false =false :=by rw [getD_set_ne false ac]; exact ae
     have ai:((listed.setIfInBounds i true).setIfInBounds j true).getD r false =false :=by rw [getD_set_ne false ac,getD_set_ne false ar]; exact ae
     have an:=wpOp_putIf M (Z j E M A ad aA) (fun cs b=>ak i C cs b hi) (fun cs b=>ak j E cs b M) ao O h1;have aq:∀ k ok,ops[k]? =some ok→k≠i→(listed.setIfInBounds j true).getD k true =false→
      (∀ x∈ok.after,cY md x=true→x.on≠i)→C.apart ops ok=true :=fun k ok av aw al az=>by
      refine Z k ok av aw ?_ az;by_cases ab:j=k
      · subst ab; exact ad
      · rw [getD_set_ne true ab] at al; exact al
     refine wpOp_mono (fun am w' L=>⟨fun _=>L.2.1 ai,ih (listed.setIfInBounds j true) am w' (V.set J) aq (ready_mono hr<|Ne.symm A) L.1 (L.2.1 ai) ay ?_⟩) an;rw [uE _ _ A];exact L.2.2
theorem HJ {i:Nat} {C:ax} {v:ag} (hi:ops[i]? =some C) (ac:∀ (j:Nat) (o:ax) cs b,ops[j]? =some o→o.op≠.select cs b)
 (aj:∀ c a w,Q (.panic c) (a.put C.dst v) w→Q (.panic c) a w) (O:i≠r):
 ∀ (fuel:Nat) (listed:Array Bool) (a:Act) (w:ah),
   (∀ j E,ops[j]? =some E→j≠i→listed.getD j true =false→(∀ x∈E.after,cY md x=true→x.on≠i)→C.apart ops E=true)→
   i∈dn md ops listed→YieldsIf P ops (fun _=>True) C v a→(listed.getD r false =false→S w)→
   jC P md ops Q S r fuel (listed.setIfInBounds i true) (a.put C.dst v) w→jC P md ops Q S r (fuel+1) listed a w:=by
 intro fuel
 induction fuel with
 | zero=>
   intro listed a w _ hr L M H;refine ⟨fun h=>(by rw [h] at hr; cases hr),fun j J=> ?_⟩;by_cases A:j=i
   · subst A; exact L.wpOp hi trivial ⟨fun h=>M (by rw [getD_set_ne false O] at h; exact h),H⟩
   · have :=ready_mono J A;rw [H.1] at this;cases this
 | succ fuel ih=>
   intro listed a w Z hr L M H;refine ⟨fun h=>(by rw [h] at hr; cases hr),fun j J=> ?_⟩;by_cases A:j=i
   · subst A; exact L.wpOp hi trivial ⟨fun h=>M (by rw [getD_set_ne false O] at h; exact h),H⟩
   · have h1:=H.2 j<|ready_mono J A;obtain ⟨ab,E,U,ak⟩:=mem_ready.1 J;have am:listed.getD i false =false :=by
      have h0:=(mem_ready.1 hr).1;rcases de i listed.size with h' | h'
      · simpa [h'] using h0
      · simp [h'] at h0
     have aq:∀ x∈E.after,cY md x=true→x.on≠i:=fun x ar hb heq=>by
      have h1:=ak x ar hb;rw [heq,am] at h1; cases h1
     have ai:=wpOp_putIf U (Z j E U A ab aq) (fun cs b=>ac i C cs b hi) (fun cs b=>ac j E cs b U) aj L h1;have al:∀ k ok,ops[k]? =some ok→k≠i→(listed.setIfInBounds j true).getD k true =false→
      (∀ x∈ok.after,cY md x=true→x.on≠i)→C.apart ops ok=true :=fun k ok an ao ad ap=>by
      refine Z k ok an ao ?_ ap;by_cases aa:j=k
      · subst aa; exact ab
      · rw [getD_set_ne true aa] at ad; exact ad
     have V:(listed.setIfInBounds i true).setIfInBounds j true =(listed.setIfInBounds j true).setIfInBounds i true :=uE _ _ fun e=>A e.symm;have hg:(listed.setIfInBounds j true).getD r false =false→((listed.setIfInBounds i true).setIfInBounds j true).getD r false =false :=fun h=>by rw [V,getD_set_ne false O]; exact h
     refine wpOp_mono (fun ae w' I=>⟨fun h=>I.2.1 (hg h),ih (listed.setIfInBounds j true) ae w' al (ready_mono hr<|Ne.symm A) I.1 (fun h=>I.2.1<|hg h) ?_⟩) ai;rw [← V];exact I.2.2
end
section
variable {P:aq} {N:Fm} {ops:Array ax} {Q:bc→(Nat→ag)→ah→Prop} {σ:Nat→ag} {w:ah} {S:ah→Prop} {r fuel:Nat} {listed:Array Bool}
 {d:Nat} {op:Op} {ty:an} {pos :String} {af:Array bX} {v:ag}
def o5 (ops:Array ax) (i:Nat):Nat→Nat→Bool
 | 0,_=>false
 | f+1,r=>match ops[r]? with | some o=>o.after.toList.any (fun e=>cY .any e && (e.on==i || o5 ops i f e.on)) | none=>false
theorem C8 {i:Nat} :∀ (f r:Nat),o5 ops i f r=true→ky .any ops i r:=by
 intro f
 induction f with
 | zero=>intro r h; cases h
 | succ f ih=>
   intro r h;rw [o5] at h;split at h
   · rename_i o A;simp only [A0,aV,lJ,beq_iff_eq] at h;obtain ⟨e,he,hb,h⟩:=h;rcases h with h | h
     · exact .one A (qO.1 he) hb h
     · exact .more A (qO.1 he) hb<|ih _ h
   · cases h
def rT (ops:Array ax) (listed:Array Bool):Bool:=(kn ops.size).all fun j=> !listed.getD j false || match ops[j]? with | some o=>o.after.toList.all (fun e=> !cY .any e || listed.getD e.on false) | none=>true
theorem CC (h:rT ops listed=true):kv .any ops listed:=by grind [rT,kv]
def sx (F:List Nat) (ops:Array ax) (listed:Array Bool) (r i:Nat):Bool:=dF F ops listed i && !(listed.getD r false) && i !=r && rT ops listed && o5 ops i ops.size r
def kP (F:List Nat) (ops:Array ax) (listed:Array Bool) (r i:Nat):Bool:=dF F ops listed i && i !=r
theorem x7 (i:Nat) (hi:ops[i]? =some ⟨some d,op,ty,pos,af,none⟩) (C:sx N.F ops listed r i=true)
 (J:∀ w,S w→(execOp (ev N σ) ⟨some d,op,ty,pos,af,none⟩).run P w= .ok (.value v) w) (A:S w)
 (k:bN P N ops Q S r fuel (listed.setIfInBounds i true) (a0 σ d v) w):bN P N ops Q S r (fuel+1) listed σ w:=by
 simp only [sx,dF,aV,iW,bne_iff_ne,ne_eq] at C;obtain ⟨⟨⟨⟨⟨⟨⟨E,I⟩,hf3⟩,hfF⟩,hf4⟩,hf5⟩,hf6⟩,hf7⟩:=C;rw [hi] at hfF;unfold bN at*;refine HH hi (uQ E) (fun c a w=>kU hfF c a w) (C8 _ _ hf7) hf5 fuel listed _ w (CC hf6) (uP hi I) (by simpa using hf3) (.inl ⟨eU _ rfl _,fun w A=> ?_⟩) A hf4 ?_ (v:=v)
 · rw [cW]; exact J w A
 · rw [dS]; exact k
theorem nJ (i:Nat) (hi:ops[i]? =some ⟨some d,op,ty,pos,af,none⟩) (A:kP N.F ops listed r i=true)
 (J:∀ w,(execOp (ev N σ) ⟨some d,op,ty,pos,af,none⟩).run P w= .ok (.value v) w) (C:listed.getD r false =false→S w)
 (k:bN P N ops Q S r fuel (listed.setIfInBounds i true) (a0 σ d v) w):bN P N ops Q S r (fuel+1) listed σ w:=by
 simp only [kP,dF,aV,bne_iff_ne,ne_eq] at A;obtain ⟨⟨⟨⟨E,I⟩,hf3⟩,hfF⟩,hf5⟩:=A;rw [hi] at hfF;unfold bN at*;refine HJ hi (uQ E) (fun c a w=>kU hfF c a w) hf5 fuel listed _ w (uP hi I) (by simpa using hf3) (.inl ⟨eU _ rfl _,fun w _=> ?_⟩) C ?_ (v:=v)
 · rw [cW]; exact J w
 · rw [dS]; exact k
end
end Go.Hb
namespace Go.Hb
def zO:Nat→Nat→List UInt8
 | 0,n=> [dP n]
 | f+1,n=>if n < 128 then [dP n] else dP (n % 128 +128)::zO f (n / 128)
def GY (n:Nat):List UInt8:=zO n n
def frame:List (List UInt8)→List UInt8
 | []=> []
 | r::l=>GY r.length++(r++frame l)
theorem ua {α:Type} (l:List α) (i:Nat) (d:α) (h:i < l.length):l.take (i+1)=l.take i++ [l.getD i d]:=by simp_all
end Go.Hb
namespace Go.Hb
def U8 (l:List UInt8):List ag:=l.map fun b=>aW .u8 b.toNat
theorem oQ (l:List UInt8):(U8 l).length=l.length:=by simp [U8]
theorem vh (a b:List UInt8):U8 (a++b)=U8 a++U8 b:=by simp [U8]
def kE (P:aq) (t e u:an):Bool:=
 dY P t e 1 1 && (match P.underlying e with | some (.int .u8)=>true | _=>false) && (match P.underlying u with | some .string=>true | _=>false) &&
  (match P.info? e with | some i=>(match i.zero with | some (.int .u8 0)=>true | _=>false) | none=>false)
theorem Cj {P:aq} {t e u:an} (h:kE P t e u=true):
 dY P t e 1 1=true∧P.underlying e=some (.int .u8)∧P.underlying u=some .string∧∃ i,P.info? e=some i∧i.zero=some (.int .u8 0):=by grind [kE,dY]
section
variable {P:aq} {N:Fm} {σ:Nat→ag} {w:ah} {dst:Option Nat} {ty:an} {pos :String} {af:Array bX} {g:Option (Nat×Bool)} {x y z:aT} {K:(Nat→ag)→ah→Prop}
theorem foldl_push (l:List UInt8) (r:ByteArray):(l.map fun b=>(b.toNat:Int)).foldl (fun r n=>r.push<|dP n.toNat) r=⟨r.data++l.toArray⟩:=by
 induction l generalizing r with
 | nil=>simp
 | cons b l ih=>
   simp only [fg,oB];rw [ih];apply ByteArray.ext;simp [ByteArray.push]
theorem o0 {t e u n c:Nat} {a:Option bB} {l:List UInt8} (h:kE P t e u=true) (U:ev N σ x= .slice a n c) (A:bo w.heap a (U8 l)) (C:l.length=n):
 (execOp (ev N σ) ⟨dst,.convert t u x,ty,pos,af,g⟩).run P w= .ok (.value<|str l) w:=by
 obtain ⟨h1,E,I,_⟩:=Cj h;obtain ⟨hu,_⟩:=n5 h1;have L:(Ax<|.slice a n c).run P w= .ok (str l) w:=by
  by_cases he:l= []
  · subst he;cases a with
    | none=>simp [Ax,str]; rfl
    | some a=>
      subst C;have :=run_bytesToString (P:=P) w a 0 c []<|by simp [loadCells,loadCellsFrom]
      exact this.trans J
  · have ha:=A.ok<|by simpa [U8] using he
    have O:(loadCells ⟨bk a,fo a,none⟩ n).run P w= .ok ((l.map fun b=>(b.toNat:Int)).map<|aW .u8).toArray w:=by
     subst C;have :=run_loadCells_list (P:=P) w ⟨bk a,fo a,none⟩ (U8 l) fun j v M=>by
      rw [eH,hJ];exact A.av j v M
     rw [oQ] at this;rw [this];simp [U8]
    rw [ha,run_bytesToString w _ n c _ O,foldl_push];simp [str,ByteArray.empty,ByteArray.emptyWithCapacity];rfl
 simp [execOp,U,run_convert_bytes_string w t u e a n c hu E I,L]
theorem uj {at_:Array an} {v:ag} {a:Option bB} {n c:Nat} (A:ev N σ x= .slice a n c) (h:a=none∨c≠0):
 (execOp (ev N σ) ⟨dst,.call ⟨.builtin .unsafeSliceData,#[x],at_⟩,ty,pos,af,g⟩).run P w= .ok (.value<|.pointer a) w:=by
 have _:=v;have :(Builtin.unsafeSliceData_ at_ ty #[.slice a n c]).run P w= .ok (.pointer a) w:=by
  cases a with
  | none=>exact Lib.run_unsafeSliceData_nil w at_ ty n c
  | some a=>exact Lib.run_unsafeSliceData_row w at_ ty a n c<|h.resolve_left<|by simp
 simp [execOp,resolve,invoke,builtin,A,this]
def ptrTo (P:aq) (A e:an):Bool:=match P.underlying A with | some (.pointer e')=>e'==e && P.cellsOf e==1 | _=>false
theorem G2 {I it e B n c:Nat} {a:Option bB} {l:List UInt8} {xs:List ag} (hp:ptrTo P I e=true) (M:ev N σ x= .pointer a) (O:ev N σ y= .int .i64 n) (E:w.ownsRow B e 1 (.slice a n c) n xs)
 (aj:xs=U8 l) (al:n≤9223372036854775807)
 (k:∀ w',Md (fun k=>(iC a n c).ownBlock=some k) w w'→w'.heap.size=w.heap.size→K (cV σ dst<|str l) w'):
 bO P N ⟨dst,.call ⟨.builtin .unsafeString,#[x,y],#[I,it]⟩,ty,pos,af,g⟩ σ w K:=by
 subst aj;have A:l.length=n:=by have :=E.1; simpa [U8] using this
 unfold ptrTo at hp;split at hp
 case h_2=>cases hp
 rename_i e' hu;simp only [aV,beq_iff_eq] at hp;obtain ⟨rfl,V⟩:=hp;by_cases he:l= []
 · subst he;obtain rfl :n=0:=A.symm;refine jD (w':=w) (v:=str []) ?_<|k w (Md.refl _ _) J;simp [execOp,resolve,invoke,builtin,M,O,Lib.run_unsafeString_none];rfl
 · rcases E.2 with ⟨h,h0⟩ | ⟨C,cap,cur,h,_,aa,hle,_,ai,am⟩
   · subst h0; simp only [List.length_eq_zero_iff] at A; exact absurd A he
   · simp only [uR,true_and] at h;obtain ⟨rfl,rfl⟩:=h;have ah:w.shape? C=some (e',cur.size):=by simp [uS,aa]
     have hr:=Lib.run_unsafeString_row (P:=P) w I it ty e' hu V C cur.size ah l he (by rw [A,ai]; omega) U (fun j u hu=>by
      obtain ⟨ad,ak,L,Z,_,ab,_⟩:=mI E;simp only [uR,true_and] at L;obtain ⟨rfl,rfl⟩:=L;rw [eH,hJ];exact Z.av j _ (by simp [U8,hu]))
     refine jD (w':=w.freeze ⟨C,0,none⟩ l.length) (v:=str l) ?_ (k _ ⟨?_,?_,?_,?_⟩ ?_)
     · simp [execOp,resolve,invoke,builtin,M,O,← A,hr,str]
     · unfold jI; split <;> rfl
     · unfold jI; split <;> rfl
     · unfold jI; split <;> simp
     · intro k ab ac;have ae:k≠C:=fun e=>ac<|by simp [ff,e]
       unfold jI;split
       · rfl
       · simp only [Array.getElem?_modify]; rw [if_neg (fun e=>ae e.symm)]
     · unfold jI; split <;> simp
def lh (P:aq) (A up e n:Nat):Bool:=
 (match P.underlying A with | some (.pointer e')=>e'==e | _=>false) && (match P.underlying up with | some .unsafePointer=>true | _=>false) && P.cellsOf e==n && az 0 n && (match P.info? e with | some i=>i.size==n | _=>false)
theorem zQ {P:aq} {C up e n:Nat} (h:lh P C up e n=true):P.underlying C=some (.pointer e)∧P.underlying up=some .unsafePointer∧P.cellsOf e=n∧0 < n∧∃ i,P.info? e=some i∧i.size=n:=by
 simp only [lh,aV] at h;obtain ⟨⟨⟨⟨h1,A⟩,h3⟩,h4⟩,h5⟩:=h;refine ⟨?_,?_,by simpa using h3,kq (kr 0) (bC h4),?_⟩
 · split at h1
   · rename_i h; simp only [beq_iff_eq] at h1; rw [h,h1]
   · cases h1
 · split at A
   · rename_i h; exact h
   · cases A
 · split at h5
   · rename_i i hi; exact ⟨i,hi,by simpa using h5⟩
   · cases h5
theorem zH {A up e n b:Nat} {L:List ag} (h:lh P A up e n=true) (O:ev N σ x= .pointer (some ⟨b,0,none⟩)) (hb:w.heap[b]? =some (.cells L.toArray e (0,0))) (E:L.length=n):
 (execOp (ev N σ) ⟨dst,.convert A up x,ty,pos,af,g⟩).run P w= .ok (.value<|.pointer<|some ⟨b,0,none⟩) w:=by
 obtain ⟨h1,C,V,Z,i,hi,J⟩:=zQ h;have M:w.shape? b=some (e,L.length):=by simp [uS,hb]
 have I:¬n=0:=U;simp [execOp,O,convert,ba h1,ba C,Az,Ay,viewAt,M,cellsIn,E,sizeOf,cG hi,J,I]
theorem xx {E up e n b:Nat} {L:List ag} (h:lh P E up e n=true) (ab:ev N σ x= .pointer (some ⟨b,0,none⟩)) (hb:w.heap[b]? =some (.cells L.toArray e (0,0))) (O:L.length=n):
 (execOp (ev N σ) ⟨dst,.convert up E x,ty,pos,af,g⟩).run P w= .ok (.value<|.pointer<|some ⟨b,0,none⟩) w:=by
 obtain ⟨h1,I,J,M,i,hi,Z⟩:=zQ h;have aa:w.shape? b=some (e,L.length):=by simp [uS,hb]
 have C:¬n=0:=U;have V:liesAt P P.depth e (L.length / P.cellsOf e) 0 e 1=true :=by
  have A:P.depth=(2 *(P.types.size+Made.depth)+1)+1:=rfl;rw [A];simp only [liesAt,lJ];left;rw [A];simp [rowAt,J,C,O,sameLayout,Nat.div_self M]
 simp [execOp,ab,convert,ba h1,ba I,Az,Ay,viewAt,aa,variablesAt,sizeOf,cG hi,Z,C,V]
theorem E4 {t t' e:an} {a:bB} (hu:P.underlying t=some (.pointer e)) (C:(P.info? e).isSome=true) (E:ev N σ x= .pointer (some a)) (I:ev N σ y= .pointer (some a)):
 (execOp (ev N σ) ⟨dst,.binOp .neq t x y t',ty,pos,af,g⟩).run P w= .ok (.value<|.bool false) w:=by
 obtain ⟨i,hi⟩:=ks.1 C;have he:∀ d,(eC (d+1) t (.pointer<|some a)<|.pointer<|some a).run P w= .ok true w:=by
  intro d;simp [eC,ba hu,sizeOf,cG hi,sameAddr]
 have h:(binOp .neq t (.pointer<|some a)<|.pointer<|some a).run P w= .ok (.bool false) w:=by
  have :=he 9999;simp only [binOp];have A:(kj t (.pointer<|some a)<|.pointer<|some a).run P w= .ok true w:=this;simp [A]
 simp [execOp,E,I,eqGuard,h]
theorem CE {f:dA} {args:Array aT} {A:Array an} {v:ag} (E:∀ v w,(callFunc f #[v]).run P w= .ok (.value v) w) (C:args.toList.map (ev N σ)= [v]):
 (execOp (ev N σ) ⟨dst,.call ⟨.value (.func f),args,A⟩,ty,pos,af,g⟩).run P w= .ok (.value v) w:=by
 have :args.map (ev N σ)= #[v]:=by rw [← oh,gR,C]
 simp [execOp,resolve,ev,ki,invoke,this,E]
structure Bd (T e:an) (w:ah) (b:Nat) (buf:ag) (l:List UInt8):Prop where
 ar:∃ pa,w.heap[b]? =some (.cells [qY pa,buf].toArray T (0,0))∧(pa=none∨pa=some ⟨b,0,none⟩)
 own:w.ownsRow (b+1) e 1 buf l.length (U8 l)
 nil:buf= .slice none 0 0↔l= []
def BF (b:Nat) (A:ag) (k:Nat):Prop :=k=b∨A.ownBlock=some k
end
theorem Bd.lt {T e b:Nat} {w:ah} {A:ag} {l:List UInt8} (h:Bd T e w b A l):b < w.heap.size:=let ⟨_,h,_⟩:=h.ar; (ef.1 h).1
theorem Bd.pn {T e b:Nat} {w:ah} {C:ag} {l:List UInt8} (h:Bd T e w b C l) {k:Nat} (A:BF b C k):b≤k∧k < w.heap.size:=by
 rcases A with rfl | A
 · exact ⟨aY _,h.lt⟩
 · have :=h.own.lt k A; omega
theorem Bd.md {T e b:Nat} {F:Nat→Prop} {w w':ah} {A:ag} {l:List UInt8} (h:Bd T e w b A l) (hm:Md F w w') (C:∀ k,BF b A k→¬F k):Bd T e w' b A l:=by
 obtain ⟨⟨L,h1,E⟩,h3,h4⟩:=h;exact ⟨⟨L,hm.ar h1 (C b<|.inl J),E⟩,cP h3 hm (fun k I=>C k<|.inr I),h4⟩
end Go.Hb
namespace Go.Hb
def dO (P:aq) (t:an):Option (List (Nat×Nat)×List ag):=
 match P.info? t,P.underlying t with
 | some it,some (.struct fields)=>
   match it.zero,fields.toList.mapM (fun f=>(P.info? f.type).map fun i=>(f.offset,i.size)) with
   | some z,some pl=>some (pl,z.cells.toList)
   | _,_=>none
 | _,_=>none
def nU (pl:List (Nat×Nat)):List ag→List (Nat×ag)→Option (List ag)
 | A,[]=>some A
 | A,(i,v)::r=>match pl[i]? with
   | some (off,s)=>if (s==1 && v.oneCell' && az off A.length)=true then nU pl (A.set off v) r else none
   | none=>none
theorem Fu {pl:List (Nat×Nat)} {A L:List ag} {ps:List (Nat×ag)} (h:nU pl A ps=some L):iZ (pl.toArray[·]?) A.toArray ps=some L.toArray:=by
 induction ps generalizing A with
 | nil=>simp only [nU,bu] at h; subst h; rfl
 | cons p ps ih=>
   obtain ⟨i,v⟩:=p;simp only [nU] at h;split at h
   · rename_i off s I;split at h
     · rename_i C;simp only [aV,beq_iff_eq] at C;obtain ⟨⟨rfl,h1⟩,ho⟩:=C;have M:off < A.length:=bC ho;have J:v.cells= #[v]:=mF h1;have E:pl.toArray[i]? =some (off,1):=by simpa using I
       simp only [iZ,E,J];rw [if_neg (by simp; omega),← ih h];simp
     · cases h
   · cases h
theorem pk {α:Type} {f:α→List ag} {m:Nat} (A:∀ a,(f a).length=m) (l:List α):(l.flatMap f).length=l.length*m:=by
 induction l with
 | nil=>simp
 | cons x l ih=>simp [ih,A,va,rj]
theorem DJ {α:Type} {f:α→List ag} {m:Nat} (A:∀ a,(f a).length=m) {l:List α} {j c:Nat} {a:α} (h:l[j]? =some a) (C:c < m):(l.flatMap f)[j*m+c]? =(f a)[c]? :=by
 induction l generalizing j with
 | nil=>simp at h
 | cons x l ih=>
   cases j with
   | zero=>
     simp only [gA,bu] at h; subst h;rw [rn,b9,A6,List.getElem?_append_left (by rw [A]; exact C)]
   | succ j=>
     simp only [gz] at h;rw [A6,List.getElem?_append_right (by rw [A,va]; omega),A,show (j+1)*m+c - m=j*m+c from by rw [va]; omega];exact ih h
theorem fk {α:Type} {f:α→List ag} {m:Nat} (A:∀ a,(f a).length=m) {h:Array Obj} {a:Option bB} {l:List α} {i:Nat} {e:α} (I:bo h a (l.flatMap f)) (J:l[i]? =some e):∀ j,j < m→Hb.av h (bk a) (fo a+i*m+j)=(f e)[j]? :=by
 intro j C;have h1:=DJ A J C;have E:j < (f e).length:=by rw [A]; exact C
 rw [bH E] at h1 ⊢;rw [Nat.add_assoc]; exact I.av _ _ h1
theorem iJ {α:Type} {f:α→List ag} {m:Nat} (A:∀ a,(f a).length=m) (hm:0 < m) {l:List α} (h:0 < l.length):l.flatMap f≠[]:=by
 intro e;have :=pk A l;rw [e] at this;have :0 < l.length*m:=Nat.mul_pos h hm;simp at*; omega
theorem xo {α:Type} {f:α→List ag} (A:∀ a,(f a).all eV=true) (l:List α):(l.flatMap f).all eV=true :=by grind
section
variable {P:aq} {N:Fm} {σ:Nat→ag} {w:ah} {dst:Option Nat} {ty:an} {pos :String} {af:Array bX} {g:Option (Nat×Bool)} {x y z:aT} {K:(Nat→ag)→ah→Prop}
theorem dJ {t:an} {parts:Array (Nat×aT)} {pl:List (Nat×Nat)} {A L:List ag} {ps:List (Nat×ag)} (h:dO P t=some (pl,A)) (hp:parts.toList.map (fun p=>(p.1,ev N σ p.2))=ps) (C:nU pl A ps=some L):
 (execOp (ev N σ) ⟨dst,.build t parts,ty,pos,af,g⟩).run P w= .ok (.value<|.agg L.toArray) w:=by
 unfold dO at h;split at h
 · rename_i it fields hi hu;split at h
   · rename_i z I E hm;simp only [bu,gD] at h;obtain ⟨rfl,rfl⟩:=h;have hb:P.built t (parts.map fun p=>(p.1,ev N σ p.2)).toList=some L.toArray:=by
      have :=Fu C;simp only [Aj] at this;simp only [AP,hi,hu,E,hm,gR,hp]; exact this
     simp [execOp,run_build w t _ _ hb]
   · cases h
 · cases h
theorem Ca {t:an} {parts:Array (Nat×aT)} {pl:List (Nat×Nat)} {A L:List ag} {ps:List (Nat×ag)} (h:dO P t=some (pl,A)) (hp:parts.toList.map (fun p=>(p.1,ev N σ p.2))=ps) (C:iZ (pl.toArray[·]?) A.toArray ps=some L.toArray):
 (execOp (ev N σ) ⟨dst,.build t parts,ty,pos,af,g⟩).run P w= .ok (.value<|.agg L.toArray) w:=by
 unfold dO at h;split at h
 · rename_i it fields hi hu;split at h
   · rename_i z I E hm;simp only [bu,gD] at h;obtain ⟨rfl,rfl⟩:=h;have hb:P.built t (parts.map fun p=>(p.1,ev N σ p.2)).toList=some L.toArray:=by
      have :=C;simp only [Aj] at this;simp only [AP,hi,hu,E,hm,gR,hp]; exact this
     simp [execOp,run_build w t _ _ hb]
   · cases h
 · cases h
end
end Go.Hb
namespace Go.Hb
section
variable {P:aq} {N:Fm} {σ:Nat→ag} {w:ah} {dst:Option Nat} {ty:an} {pos :String} {af:Array bX} {g:Option (Nat×Bool)} {x y z:aT} {K:(Nat→ag)→ah→Prop}
theorem EP {zv:ag} (h1:zv.oneCell'=true) (n:Nat):madeCells zv.cells n=(dq n zv).toArray:=by
 rw [mF h1];apply Array.ext
 · simp [madeCells]
 · intro i A C;simp [madeCells,Nat.mod_one]
theorem fl {t e bytes n:Nat} {L I:bg} {zv:ag} (ad:dY P t e 1 bytes=true) (A:zeroOf P e=some (some [zv])) (h1:zv.oneCell'=true) (ae:ev N σ x= .int L n) (ah:ev N σ y= .int I n) (hb:bytes*n≤281474976710656) (C:n≤maxLen)
 (k:∀ b w',b=w.heap.size→Nw w w'→(∀ B,B≤b→w'.ownsRow B e 1 (.slice (some ⟨b,0,none⟩) n n) n (dq n zv))→K (cV σ dst<|.slice (some ⟨b,0,none⟩) n n) w'):bO P N ⟨dst,.makeSlice t x y,ty,pos,af,g⟩ σ w K:=by
 obtain ⟨hu,i,M,hi,E,ac,ab,ak,aj⟩:=n5 ad;have ai:M.cells= #[zv]:=by
  unfold zeroOf at A;simp only [hi,E,eu,bu] at A;exact oh.1<|by simpa using A
 refine kh (v:=fun b=> .slice (some ⟨b,0,none⟩) n n) (ob:= .cells (dq n zv).toArray e (0,0)) ?_ fun b w' O V Z=>k b w' O V fun B aa=>⟨by simp,.inr ⟨b,n,_,J,aa,Z,aY _,C,by simp,by simp⟩⟩
 have hr:=run_make (P:=P) w t e i M hu hi E L I n n U (Int.le_refl _) (by rw [ab,← Int.natCast_mul]; omega)<|by unfold maxLen at C; omega
 rw [ai,ac,Nat.mul_one,Int.toNat_natCast,show madeCells #[zv] n=(dq n zv).toArray by rw [← EP h1,mF h1]] at hr;simp [execOp,ae,ah,hr]
end
end Go.Hb
namespace Go.Hb
section
variable {P:aq} {N:Fm} {σ:Nat→ag} {w:ah} {dst:Option Nat} {ty:an} {pos :String} {af:Array bX} {g:Option (Nat×Bool)} {x y z:aT}
theorem Cy {t n len cap i:Nat} {a:Option bB} {k I:bg} (he:cK P t=some n) (A:ev N σ x= .slice a len cap) (C:ev N σ y= .int k (i:Nat)) (E:ev N σ z= .int I (i:Nat)) (h:i≤cap):
 (execOp (ev N σ) ⟨dst,.slice t x none (some y) (some z),ty,pos,af,g⟩).run P w= .ok (.value<|.slice a i i) w:=by
 have h0:(0:Int)≤(i:Int):=U;unfold cK at he;cases hd:P.underlying t with
 | none=>rw [hd] at he; cases he
 | some d=>
   rw [hd] at he;cases d <;> first | (cases he; done) | skip
   rename_i e;cases hi':P.info? e with
   | none=>simp [hi'] at he
   | some j=>
     have ha:(if i=0 then a else a.map (·.add 0))=a:=by
      split
      · rfl
      · cases a <;> simp [qP]
     simp only [execOp,lN,ou,A,C,E,eu,Option.map_none,ja,lO,asIntOf];simp [ba hd,cG hi',sizeOf,h0,ha];intro aJ; omega
end
end Go.Hb
namespace Go.Hb
def rz (h:Array Obj) (b:Nat) (kvs:List (ag×ag)):Prop := ∃ es clock,h[b]? =some (.map es clock)∧es.toList.map (fun e=>(e.key,e.val))=kvs
structure l5 (P:aq) (k:an) (cD:ag→Prop):Prop where
 check:∀ em w v,cD v→(iY em 10000 k v).run P w= .ok () w
 find:∀ w x es,cD x→(∀ e∈es,cD e.key)→
  ((lL k x es).run P w= .ok none w∧∀ e∈es,e.key≠x)∨∃ j e,(lL k x es).run P w= .ok (some (j,e.val)) w∧es[j]? =some e∧e.key=x
theorem Ct {P:aq} {k:an} {em:Bool} {n:Nat} {a:Bool} (A:P.underlying k=some .bool) (w:ah):(iY em (n+1) k<|.bool a).run P w= .ok () w:=by
 simp only [iY,gx,ba A,fT,jH]
theorem vG {P:aq} {k:an} {em:Bool} {n:Nat} {a:List UInt8} (A:P.underlying k=some .string) (w:ah):(iY em (n+1) k<|str a).run P w= .ok () w:=by
 simp only [str,iY,gx,ba A,fT,jH]
def sL (v:ag):Prop := ∃ (f:Bool) (s:List UInt8),v= .agg #[.bool f,str s]
def kD (P:aq) (k:an):Bool:=
 match P.underlying k with
 | some (.struct A)=>match A.toList with
   | [f1,f2]=>f1.name != "_" && f2.name != "_" && f1.offset==0 && f2.offset==1 && !P.stoodInHeld k &&
     (match P.underlying f1.type with | some .bool=>true | _=>false) && (match P.underlying f2.type with | some .string=>true | _=>false)
   | _=>false
 | _=>false
theorem pU {P:aq} {t:an} {cs:Array ag} {o:Nat} {v:ag} {d:TypeDesc} (C:P.underlying t=some d) (A:(match d with | .bool | .string=>true | _=>false)=true) (E:cs[o]? =some v) (w:ah):(part t cs o).run P w= .ok v w:=by
 cases d <;> first | (cases A; done) | simp [part,isAgg,ba C,E]
theorem rM {P:aq} {k:an} (h:kD P k=true):∃ A f1 f2,P.underlying k=some (.struct A)∧A.toList= [f1,f2]∧f1.name≠ "_" ∧f2.name≠ "_" ∧f1.offset=0∧f2.offset=1∧P.stoodInHeld k=false∧P.underlying f1.type=some .bool∧P.underlying f2.type=some .string:=by grind [kD]
theorem Du {P:aq} {k:an} (h:kD P k=true) {f g:Bool} {s t:List UInt8} (w:ah):(kj k (.agg #[.bool f,str s])<|.agg #[.bool g,str t]).run P w= .ok (decide (f=g∧s=t)) w:=by
 obtain ⟨M,f1,f2,hu,aa,h1,O,U,V,Z,A,C⟩:=rM h;have E:P.fieldsOf k=M:=by simp [Program.fieldsOf,hu]
 have J:∀ (x:Bool) (y:List UInt8) (w:ah),(part f1.type #[.bool x,str y] f1.offset).run P w= .ok (.bool x) w:=fun x y w=>pU A rfl (by rw [U]; rfl) w;have L:∀ (x:Bool) (y:List UInt8) (w:ah),(part f2.type #[.bool x,str y] f2.offset).run P w= .ok (str y) w:=fun x y w=>pU C rfl (by rw [V]; rfl) w;unfold kj;show (eC (9998 +1 +1) k _ _).run P w=_;rw [run_equalIn_struct w (9998 +1) k _ _ (by rw [E]; exact hu) Z,E,aa];simp only [Op.eqFields,gx,qX,J,L,fT,run_equalIn_bool' w 9998 f1.type f g A,h1,O,ne_eq,not_false_eq_true,if_true];by_cases I:f=g
 · subst I;have :(eC (9998 +1) f2.type (str s)<|str t).run P w= .ok (decide (s=t)) w:=by
    rw [str,str,run_equalIn_string w 9998 f2.type _ _ C,Au,Au];congr 1;by_cases a9:s=t
    · subst a9; simp
    · simp [a9]
   simp only [beq_self_eq_true,Bool.not_true,om,if_false,this,fT,true_and];by_cases a9:s=t <;> simp [a9]
 · simp [I]
theorem Cu {P:aq} {k:an} {em:Bool} {n:Nat} (h:kD P k=true) {f:Bool} {s:List UInt8} (w:ah):(iY em (n+1 +1) k<|.agg #[.bool f,str s]).run P w= .ok () w:=by
 obtain ⟨U,f1,f2,hu,O,h1,J,L,M,V,A,C⟩:=rM h;have E:∀ (w:ah),(part f1.type #[.bool f,str s] f1.offset).run P w= .ok (.bool f) w:=fun w=>pU A rfl (by rw [L]; rfl) w;have I:∀ (w:ah),(part f2.type #[.bool f,str s] f2.offset).run P w= .ok (str s) w:=fun w=>pU C rfl (by rw [M]; rfl) w;rw [iY];simp only [gx,ba hu,fT];rw [← Array.forIn_toList,O];simp only [List.forIn_cons,List.forIn_nil,gx,E,I,h1,J,ne_eq,not_false_eq_true,if_true,fT,Ct A,vG C,jH]
theorem xl {P:aq} {k:an} (h:kD P k=true) {f:Bool} {s:List UInt8} (w:ah):∀ (es:List MapEntry) (i:Nat),(∀ e∈es,sL e.key)→
 ((lK k (.agg #[.bool f,str s]) es i).run P w= .ok none w∧∀ e∈es,e.key≠.agg #[.bool f,str s])∨∃ j e,(lK k (.agg #[.bool f,str s]) es i).run P w= .ok (some (i+j,e.val)) w∧es[j]? =some e∧e.key= .agg #[.bool f,str s]
 | [],i,_=> .inl ⟨by simp [lK],fun _ h=>by simp at h⟩
 | e::es,i,hk=>by
   obtain ⟨g,t,ha⟩:=hk e<|by simp
   have he:=Du h (f:=f) (g:=g) (s:=s) (t:=t) w;rw [← ha] at he;by_cases A:f=g∧s=t
   · obtain ⟨rfl,rfl⟩:=A;refine .inr ⟨0,e,?_,J,ha⟩;simp [lK,he]
   · have M:e.key≠.agg #[.bool f,str s]:=by
      rw [ha]; intro E; simp [str] at E; exact A ⟨E.1.symm,E.2.symm⟩
     rcases xl (f:=f) (s:=s) h w es (i+1) (fun e he=>hk e<|by simp [he]) with ⟨h1,C⟩ | ⟨j,e',h1,C,L⟩
     · refine .inl ⟨by simp [lK,he,A,h1],fun e' I=> ?_⟩;rcases fU.1 I with rfl | I
       · exact M
       · exact C e' I
     · refine .inr ⟨j+1,e',?_,C,L⟩;simp only [lK,gx,he,A,fT,decide_false,qX,om,if_false,h1]; rw [show i+1 +j=i+(j+1) from by omega]
theorem Ep {P:aq} {k:an} (h:kD P k=true):l5 P k sL where
 check em w v hv:=by obtain ⟨f,s,rfl⟩:=hv; exact Cu (n:=9998) h w
 find w x es hx hes:=by
  obtain ⟨f,s,rfl⟩:=hx;obtain ⟨J,f1,f2,hu,_⟩:=rM h;have I:es≠[]→(lL k (.agg #[.bool f,str s]) es).run P w=(lK k (.agg #[.bool f,str s]) es).run P w:=by
   intro A;cases es with
   | nil=>exact absurd rfl A
   | cons e es=>simp [lL,ba hu,lM,Instr.sameNow]
  by_cases A:es= []
  · subst A; exact .inl ⟨by simp [lL,ba hu,lM],fun _ h=>by simp at h⟩
  · rw [I A];rcases xl h w es 0 hes with h1 | ⟨j,e,h1,C,E⟩
    · exact .inl h1
    · exact .inr ⟨j,e,by rw [h1,b9],C,E⟩
def zeroV (P:aq) (e:an):Option ag:=(P.info? e).bind (·.zero)
theorem z9 {P:aq} {e:an} {z:ag} (h:zeroV P e=some z) (w:ah):(zeroValue e).run P w= .ok z w:=by
 unfold zeroV at h;simp only [Option.bind_eq_some_iff] at h;obtain ⟨i,hi,A⟩:=h;simp [zeroValue,cG hi,A]
section
variable {P:aq} {N:Fm} {σ:Nat→ag} {w:ah} {dst:Option Nat} {ty:an} {pos :String} {af:Array bX} {g:Option (Nat×Bool)} {x y z:aT} {K:(Nat→ag)→ah→Prop}
variable {t k e:an} {cD:ag→Prop} {b:Nat} {kvs:List (ag×ag)} {kx v:ag}
theorem pd {es:Array MapEntry} (h:es.toList.map (fun e=>(e.key,e.val))=kvs) (A:∀ p∈kvs,cD p.1):∀ e∈es.toList,cD e.key:=by grind [e,he,oE]
theorem run_getObj_map {es:Array MapEntry} {c:Nat} (hr:w.heap[b]? =some (.map es c)):(getObj b).run P w= .ok (.map es c) w:=by
 simp [getObj,jG,hr]
theorem Fa {kvs:List (ag×ag)} (hn:(kvs.map fh).Nodup) {kx v C:ag} (h1:(kx,v)∈kvs) (A:(kx,C)∈kvs):v=C:=by
 induction kvs with
 | nil=>simp at h1
 | cons p kvs ih=>
   simp only [fg,List.nodup_cons] at hn;rcases fU.1 h1 with h1 | h1
   · rcases fU.1 A with A | A
     · rw [← h1] at A; cases A; rfl
     · rw [← h1] at hn; exact absurd (oE (f:=fh) A) hn.1
   · rcases fU.1 A with A | A
     · rw [← A] at hn; exact absurd (oE (f:=fh) h1) hn.1
     · exact ih hn.2 h1 A
theorem EF {ok:Bool} (V:P.underlying t=some (.map k e)) (E:l5 P k cD) (hm:rz w.heap b kvs) (U:∀ p∈kvs,cD p.1) (aa:ev N σ x= .map (some b)) (ab:ev N σ y=kx) (hi:cD kx) (hn:(kvs.map fh).Nodup) (C:(kx,v)∈kvs):
 (execOp (ev N σ) ⟨dst,.lookup t x y ok,ty,pos,af,g⟩).run P w= .ok (.value (if ok then .tuple #[v,.bool true] else v)) w:=by
 obtain ⟨es,c,hr,he⟩:=hm;rcases E.find w kx es.toList hi (pd he U) with ⟨_,A⟩ | ⟨j,e',h1,A,L⟩
 · rw [← he] at C;obtain ⟨I,O,M⟩:=List.mem_map.1 C;cases M;exact absurd J<|A I O
 · have Z:(kx,e'.val)∈kvs:=by rw [← he,← L]; exact oE (f:=fun e:MapEntry=>(e.key,e.val))<|lW A
   have :=Fa hn C Z;subst this;cases ok <;> simp [execOp,AI,ba V,aa,ab,run_getObj_map hr,E.check _ w kx hi,h1]
theorem EG {ok:Bool} {zv:ag} (J:P.underlying t=some (.map k e)) (O:zeroV P e=some zv) (A:l5 P k cD) (hm:rz w.heap b kvs) (I:∀ p∈kvs,cD p.1) (L:ev N σ x= .map (some b)) (M:ev N σ y=kx) (hi:cD kx) (hn:∀ v,(kx,v)∉kvs):
 (execOp (ev N σ) ⟨dst,.lookup t x y ok,ty,pos,af,g⟩).run P w= .ok (.value (if ok then .tuple #[zv,.bool false] else zv)) w:=by
 obtain ⟨es,c,hr,he⟩:=hm;rcases A.find w kx es.toList hi (pd he I) with ⟨h1,_⟩ | ⟨j,e',h1,C,E⟩
 · cases ok <;> simp [execOp,AI,ba J,L,M,run_getObj_map hr,A.check _ w kx hi,h1,z9 O]
 · exact absurd (by rw [← he,← E]; exact oE (f:=fun e:MapEntry=>(e.key,e.val))<|lW C)<|hn e'.val
end
end Go.Hb
namespace Go.Hb
end Go.Hb
namespace Go.Hb
inductive TD | no | int (k:bg) | str | bool | ptr | cN (e n:Nat) | st (offs:List Nat)
def ju {α:Type} :List α→Nat→α→α
 | [],_,d=>d
 | a::_,0,_=>a
 | _::l,n+1,d=>ju l n d
def mY (T:List (List TD)) (t:Nat):TD:=ju (ju T (t / 16) []) (t % 16) .no
def c7:bg→Nat
 | .i8=>0 | .i16=>1 | .i32=>2 | .i64=>3 | .u8=>4 | .u16=>5 | .u32=>6 | .u64=>7
theorem kQ {a b:bg} (h:aD (c7 a) (c7 b)=true):a=b:=by
 cases a <;> cases b <;> first | rfl | (cases h)
def pM (P:aq) (t:Nat):Nat→List Nat→Bool
 | _,[]=>true
 | f,n::l=>(match kN P t f with | some m=>aD m n | none=>false) && pM P t (f+1) l
def uc (P:aq) (t:Nat):TD→Bool
 | .no=>true
 | .int k=>match P.underlying t with | some (.int A)=>aD (c7 k) (c7 A) | _=>false
 | .str=>match P.underlying t with | some .string=>true | _=>false
 | .bool=>match P.underlying t with | some .bool=>true | _=>false
 | .ptr=>match P.underlying t with | some (.pointer _)=>true | _=>false
 | .cN e n=>match P.underlying t,cK P t with | some (.slice e'),some n'=>aD e e' && aD n n' | _,_=>false
 | .st C=>pM P t 0 C
def pZ (P:aq):Nat→List TD→Bool
 | _,[]=>true
 | t,d::l=>uc P t d && pZ P (t+1) l
def gP (P:aq):Nat→List (List TD)→Bool
 | _,[]=>true
 | t,r::l=>pZ P t r && gP P (t+16) l
theorem yN {P:aq} :∀ {l:List TD} {b j:Nat},pZ P b l=true→uc P (b+j) (ju l j .no)=true
 | [],b,j,_=>rfl
 | d::l,b,0,h=>(m8.1 h).1
 | d::l,b,j+1,h=>by
   have :=yN (j:=j) (m8.1 h).2;rw [show b+(j+1)=b+1 +j from by omega]; exact this
theorem zD {P:aq} :∀ {T:List (List TD)} {b i:Nat},gP P b T=true→pZ P (b+16 *i) (ju T i [])=true
 | [],b,i,_=>rfl
 | r::T,b,0,h=>(m8.1 h).1
 | r::T,b,i+1,h=>by
   have :=zD (i:=i) (m8.1 h).2;rw [show b+16 *(i+1)=b+16 +16 *i from by omega]; exact this
theorem ub {P:aq} {T:List (List TD)} (h:gP P 0 T=true) (t:Nat):uc P t (mY T t)=true :=by
 have :=yN (j:=t % 16)<|zD (i:=t / 16) h;rw [show 0 +16 *(t / 16)+t % 16=t from by omega] at this;exact this
theorem yq {P:aq} {t:Nat} :∀ {l:List Nat} {b f n:Nat},pM P t b l=true→l[f]? =some n→kN P t (b+f)=some n
 | [],b,f,n,_,h=>by simp at h
 | m::l,b,0,n,h,hn=>by
   have h1:=(m8.1 h).1;obtain rfl :m=n:=by simpa using hn
   split at h1
   · rename_i A hm; rw [Nat.add_zero,hm,bA h1]
   · cases h1
 | m::l,b,f+1,n,h,hn=>by
   have :=yq (f:=f) (m8.1 h).2<|by simpa using hn
   rw [show b+(f+1)=b+1 +f from by omega]; exact this
section
variable {P:aq} {T:List (List TD)} (hT:gP P 0 T=true) {t:Nat}
include hT
theorem CW (h:mY T t= .str):P.underlying t=some .string:=by
 have :=ub hT t;rw [h] at this;change (match P.underlying t with | some .string=>true | _=>false)=true at this;split at this
 · assumption
 · cases this
theorem CU {e n:Nat} (h:mY T t= .cN e n):P.underlying t=some (.slice e)∧cK P t=some n:=by
 have :=ub hT t;rw [h] at this;change (match P.underlying t,cK P t with | some (.slice e'),some n'=>aD e e' && aD n n' | _,_=>false)=true at this;split at this
 · rename_i h1 A;simp only [aV] at this;rw [h1,A,bA this.1,bA this.2]; exact ⟨rfl,rfl⟩
 · cases this
theorem CV {l:List Nat} {f n:Nat} (h:mY T t= .st l) (hn:l[f]? =some n):kN P t f=some n:=by
 have :=ub hT t;rw [h] at this;have :=yq (show pM P t 0 l=true from this) hn;rwa [b9] at this
end
def FD (k:bg) (n:Int):Prop :=match k with
 | .i64=> -9223372036854775808≤n∧n≤9223372036854775807
 | .u8=>0≤n∧n≤255
 | .i32=> -2147483648≤n∧n≤2147483647
 | .u32=>0≤n∧n≤4294967295
 | .u64=>0≤n∧n≤18446744073709551615
 | _=>False
theorem yM {k:bg} {n:Int} (h:FD k n):k.wrap n=n:=by
 cases k <;> first | exact gQ h | exact uw h | exact ur h | exact z8 h | exact fw h | exact h.elim
inductive l7 | no | v (x:ag) | vc (x:ag) (c:Prop)
def pW (k:bg) (n:Int):l7:=match k with
 | .i64=> .vc (.int .i64 n)<|-9223372036854775808≤n∧n≤9223372036854775807
 | .u8=> .vc (.int .u8 n)<|0≤n∧n≤255
 | .i32=> .vc (.int .i32 n)<|-2147483648≤n∧n≤2147483647
 | .u32=> .vc (.int .u32 n)<|0≤n∧n≤4294967295
 | .u64=> .vc (.int .u64 n)<|0≤n∧n≤18446744073709551615
 | _=> .no
def sF (op:BinOp) (k:bg) (a b:Int):l7:=match op with
 | .lss=> .v<|.bool<|decide (a < b)
 | .leq=> .v<|.bool<|decide (a≤b)
 | .gtr=> .v<|.bool<|decide (b < a)
 | .geq=> .v<|.bool<|decide (b≤a)
 | .eql=> .v<|.bool<|decide (a=b)
 | .neq=> .v<|.bool<|decide (a≠b)
 | .add=>pW k<|a+b
 | .sub=>pW k<|a - b
 | _=> .no
def zu (op:BinOp) (l m:List UInt8):l7:=match op with
 | .eql=> .v<|.bool<|decide (l=m)
 | .neq=> .v<|.bool<|decide (l≠m)
 | .add=> .vc (str<|l++m)<|l.length+m.length≤9223372036854775807
 | _=> .no
def iK (v:ag):l7:=match v with
 | .int k n=> .v<|.int k n
 | .bool b=> .v<|.bool b
 | .string ⟨⟨l⟩⟩=> .v<|str l
 | .pointer a=> .v<|.pointer a
 | .slice a n c=> .v<|.slice a n c
 | .map r=> .v<|.map r
 | .func f a b=> .v<|.func f a b
 | .nilFunc=> .v .nilFunc
 | .iface t v=> .v<|.iface t v
 | .nilIface=> .v .nilIface
 | .agg c=> .v<|.agg c
 | .tuple c=> .v<|.tuple c
 | _=> .no
theorem DM {v x:ag} (h:iK v= .v x):v=x:=by
 unfold iK at h;split at h <;> cases h <;> rfl
theorem DN {v x:ag} {c:Prop} (h:iK v= .vc x c):False:=by
 unfold iK at h;split at h <;> cases h
def mG (T:List (List TD)) (N:Fm) (σ:Nat→ag) (o:Op):l7:=match o with
 | .move x=>iK<|ev N σ x
 | .assign x=>iK<|ev N σ x
 | .pick c x y=>match ev N σ c with
   | .bool true =>iK<|ev N σ x
   | .bool false =>iK<|ev N σ y
   | _=> .no
 | .nilCheck x=>match ev N σ x with
   | .pointer (some a)=> .v<|.pointer<|some a
   | _=> .no
 | .extract x i=>match ev N σ x with
   | .tuple ⟨vs⟩=>match vs[i]? with
     | some v=> .v v
     | none=> .no
   | _=> .no
 | .fieldAddr s x f=>match ev N σ x,mY T s with
   | .pointer (some ⟨b,off,none⟩),.st l=>match l[f]? with
     | some n=> .v<|.pointer<|some ⟨b,off+n,none⟩
     | none=> .no
   | _,_=> .no
 | .binOp op t x y _=>match ev N σ x,ev N σ y with
   | .int k a,.int k' b=>cond (aD (c7 k)<|c7 k') (sF op k a b) .no
   | .string ⟨⟨l⟩⟩,.string ⟨⟨m⟩⟩=>zu op l m
   | _,_=> .no
 | .unOp .not _ x=>match ev N σ x with
   | .bool b=> .v<|.bool<|!b
   | _=> .no
 | .call ⟨.builtin .len,⟨[x]⟩,⟨[t]⟩⟩=>match ev N σ x,mY T t with
   | .string ⟨⟨l⟩⟩,.str=> .v<|.int .i64 l.length
   | .slice a n c,.cN _ _=> .v<|.int .i64 n
   | _,_=> .no
 | _=> .no
def tl (P:aq) (N:Fm) (σ:Nat→ag) (o:ax) (w:ah):l7→Prop
 | .no=>True
 | .v x=>(execOp (ev N σ) o).run P w= .ok (.value x) w
 | .vc x c=>c→(execOp (ev N σ) o).run P w= .ok (.value x) w
theorem po {P:aq} {N:Fm} {σ:Nat→ag} {o:ax} {w:ah} {v:ag} (h:(execOp (ev N σ) o).run P w= .ok (.value v) w):tl P N σ o w (iK v):=by
 cases hf:iK v with
 | no=>trivial
 | v x=>rw [← DM hf]; exact h
 | vc x c=>exact (DN hf).elim
theorem pP {P:aq} {T:List (List TD)} (hT:gP P 0 T=true) {N:Fm} {σ:Nat→ag} (d:Option Nat) (o:Op) (ty:an) (pos :String) (af:Array bX) (g:Option (Nat×Bool)) (w:ah):tl P N σ ⟨d,o,ty,pos,af,g⟩ w (mG T N σ o):=by
 unfold mG;split
 · exact po mv
 · exact po aP
 · split
   · exact po<|nS<|by assumption
   · exact po<|pV<|by assumption
   · trivial
 · split
   · exact nc<|by assumption
   · trivial
 · split
   · split
     · exact xt (by assumption)<|by simpa using by assumption
     · trivial
   · trivial
 · split
   · split
     · exact fa (CV hT (by assumption)<|by assumption)<|by assumption
     · trivial
   · trivial
 · split
   · rename_i k a E b A C;cases hk:aD (c7 k) (c7 E)
     · trivial
     · obtain rfl :=kQ hk;show tl _ _ _ _ _ (sF _ _ _ _);unfold sF;split
       · exact lt A C
       · exact le A C
       · exact gt A C
       · exact ge A C
       · exact xc A C
       · exact yj A C
       · unfold pW; split <;> first | trivial | exact fun h=>ad A C<|yM h
       · unfold pW; split <;> first | trivial | exact fun h=>sb A C<|yM h
       · trivial
   · rename_i l m A C;unfold zu;split
     · exact xe A C
     · exact ym A C
     · exact fun h=>cc A C h
     · trivial
   · trivial
 · split
   · exact no<|by assumption
   · trivial
 · split
   · exact xY (CW hT<|by assumption) J<|by assumption
   · exact sT (CU hT<|by assumption).1 J<|by assumption
   · trivial
 · trivial
inductive Pt | c (c:bt) | l (ops:Array ax) (l:List ax) | x (e:bc)
inductive Kn | sq (y:bt) | bk (id:Nat)
def dz (P:aq) (N:Fm):List Kn→(bc→(Nat→ag)→ah→Prop)→bc→(Nat→ag)→ah→Prop
 | [],Q=>Q
 | .sq y::st,Q=>fQ (fun σ w=>bl P N y (dz P N st Q) σ w)<|dz P N st Q
 | .bk id::st,Q=>jq id<|dz P N st Q
@[reducible] def At (P:aq) (N:Fm) (Q:bc→(Nat→ag)→ah→Prop) (w:ah) (p:Pt) (st:List Kn) (σ:Nat→ag):Prop :=match p with
 | .c c=>bl P N c (dz P N st Q) σ w
 | .l ops l=>bD P N ops (dz P N st Q) l σ w
 | .x e=>dz P N st Q e σ w
inductive Out | no | at (p:Pt) (st:List Kn) (σ:Nat→ag) (c:Option Prop)
def andG (c:Prop):Option Prop→Option Prop
 | none=>some c
 | some d=>some<|c∧d
def optG:Option Prop→Prop
 | none=>True
 | some c=>c
theorem oU {c:Prop} {d:Option Prop} (h:optG (andG c d)):c∧optG d:=by
 cases d
 · exact ⟨h,trivial⟩
 · exact h
inductive BG | no | go (p:Pt) (st:List Kn) (σ:Nat→ag) (c:Option Prop)
def stepG (T:List (List TD)) (N:Fm) (p:Pt) (st:List Kn) (σ:Nat→ag) (c:Option Prop):BG:=match p with
 | .x .normal=>match st with
   | .sq y::st=> .go (.c y) st σ c
   | .bk _::st=> .go (.x .normal) st σ c
   | []=> .no
 | .x .ret=>match st with
   | _::st=> .go (.x .ret) st σ c
   | []=> .no
 | .x (.exit i)=>match st with
   | .sq _::st=> .go (.x<|.exit i) st σ c
   | .bk j::st=>cond (aD i j) (.go (.x .normal) st σ c)<|.go (.x<|.exit i) st σ c
   | []=> .no
 | .x _=> .no
 | .c (.seq x y)=> .go (.c x) (.sq y::st) σ c
 | .c (.block id x)=> .go (.c x) (.bk id::st) σ c
 | .c .skip => .go (.x .normal) st σ c
 | .c .ret=> .go (.x .ret) st σ c
 | .c (.exit i)=> .go (.x<|.exit i) st σ c
 | .c (.region id ⟨l⟩ false)=>cond (iR N.r l) (.go (.l ⟨l⟩ l) st σ c) .no
 | .c (.cond x a b)=>match ev N σ x with
   | .bool true => .go (.c a) st σ c
   | .bool false => .go (.c b) st σ c
   | _=> .no
 | .c _=> .no
 | .l ops []=> .go (.x .normal) st σ c
 | .l ops (⟨some d,o,ty,pos,af,none⟩::r)=>match mG T N σ o with
   | .v x=> .go (.l ops r) st (a0 σ d x) c
   | .vc x c'=> .go (.l ops r) st (a0 σ d x)<|andG c' c
   | .no=> .no
 | .l ops (⟨some d,o,ty,pos,af,some (j,want)⟩::r)=>match da ops j with
   | some t=>cond (az t N.n) (match σ t with
     | .bool b=>cond (b==want) (match mG T N σ o with
       | .v x=> .go (.l ops r) st (a0 σ d x) c
       | .vc x c'=> .go (.l ops r) st (a0 σ d x)<|andG c' c
       | .no=> .no) (.go (.l ops r) st (a0 σ d undef) c)
     | .tuple ⟨[]⟩=> .go (.l ops r) st (a0 σ d undef) c
     | _=> .no) .no
   | none=> .no
 | .l ops _=> .no
def fq (T:List (List TD)) (N:Fm):Nat→Pt→List Kn→(Nat→ag)→Option Prop→Out
 | 0,p,st,σ,c=> .at p st σ c
 | n+1,p,st,σ,c=>match stepG T N p st σ c with
   | .go p st σ c=>fq T N n p st σ c
   | .no=> .no
section
variable {P:aq} {T:List (List TD)} {N:Fm} {Q:bc→(Nat→ag)→ah→Prop} {w:ah} {σ σ':Nat→ag} {p p':Pt} {st st':List Kn} {c c':Option Prop} {n:Nat}
theorem GC (hT:gP P 0 T=true) (h:stepG T N p st σ c= .go p' st' σ' c') (A:optG c') (C:At P N Q w p' st' σ'):optG c∧At P N Q w p st σ:=by
 unfold stepG at h;split at h
 · split at h
   · cases h; exact ⟨A,tn C⟩
   · cases h; exact ⟨A,bn C⟩
   · cases h
 · split at h
   · rename_i k _;cases h; cases k
     · exact ⟨A,tr C⟩
     · exact ⟨A,br C⟩
   · cases h
 · split at h
   · cases h; exact ⟨A,te _ C⟩
   · rename_i i _ j _;cases hij:aD i j
     · rw [hij] at h; cases h;exact ⟨A,B7 (fun e=>by rw [e] at hij; simp at hij) C⟩
     · rw [hij] at h; cases h;obtain rfl :=bA hij;exact ⟨A,be C⟩
   · cases h
 · cases h
 · cases h; exact ⟨A,sq fun K V=>z5 (fun e σ w U=>by cases e <;> first | exact V _ _ U | exact U) C⟩
 · cases h; exact ⟨A,ar C⟩
 · cases h; exact ⟨A,zl C⟩
 · cases h; exact ⟨A,rt C⟩
 · cases h; exact ⟨A,ext C⟩
 · rename_i id l;cases hr:iR N.r l
   · rw [hr] at h; cases h
   · rw [hr] at h; cases h;exact ⟨A,rg hr C⟩
 · split at h
   · cases h; exact ⟨A,ct (by assumption) C⟩
   · cases h; exact ⟨A,cf (by assumption) C⟩
   · cases h
 · cases h
 · cases h; exact ⟨A,nl C⟩
 · rename_i ops d o ty pos af r;have E:=pP (P:=P) hT (N:=N) (σ:=σ) (some d) o ty pos af none w;split at h
   · rename_i x I;rw [I] at E; cases h;exact ⟨A,Hb.p E C⟩
   · rename_i x q I;rw [I] at E; cases h;obtain ⟨M,O⟩:=oU A;exact ⟨O,Hb.p (E M) C⟩
   · cases h
 · rename_i ops d o ty pos af j want r;have E:=pP (P:=P) hT (N:=N) (σ:=σ) (some d) o ty pos af (some (j,want)) w;split at h
   · rename_i t L;cases hb:az t N.n
     · rw [hb] at h; cases h
     · rw [hb] at h;simp only [cond_true] at h;split at h
       · rename_i b J;cases hw:(b==want)
         · rw [hw] at h; cases h;exact ⟨A,sk L hb J hw C⟩
         · rw [hw] at h;simp only [cond_true] at h;obtain rfl :b=want:=by simpa using hw
           split at h
           · rename_i x I;rw [I] at E; cases h;exact ⟨A,pg L hb J E C⟩
           · rename_i x q I;rw [I] at E; cases h;obtain ⟨M,O⟩:=oU A;exact ⟨O,pg L hb J (E M) C⟩
           · cases h
       · rename_i J;cases h;exact ⟨A,zm L hb J C⟩
       · cases h
   · cases h
 · cases h
theorem gq (hT:gP P 0 T=true):∀ (n:Nat) (p:Pt) (st:List Kn) (σ:Nat→ag) (c:Option Prop),fq T N n p st σ c= .at p' st' σ' c'→optG c'→At P N Q w p' st' σ'→optG c∧At P N Q w p st σ
 | 0,p,st,σ,c,h,hc,hk=>by cases h; exact ⟨hc,hk⟩
 | n+1,p,st,σ,c,h,hc,hk=>by
   simp only [fq] at h;split at h
   · rename_i C;obtain ⟨h1,A⟩:=gq hT n _ _ _ _ h hc hk;exact GC hT C h1 A
   · cases h
end
inductive BC | no | at (fuel:Nat) (listed:Array Bool) (σ:Nat→ag) (c:Option Prop)
inductive BE | no | go (σ:Nat→ag) (c:Option Prop)
def zA (T:List (List TD)) (N:Fm) (g:Bool) (ops:Array ax) (i:Nat) (σ:Nat→ag) (c:Option Prop):BE:=match ops[i]? with
 | some ⟨some d,o,_,_,_,none⟩=>match mG T N σ o with
   | .v x=> .go (a0 σ d x) c
   | .vc x c'=> .go (a0 σ d x)<|andG c' c
   | .no=> .no
 | some ⟨some d,o,_,_,_,some (j,want)⟩=>cond g (match da ops j with
   | some t=>cond (az t N.n) (match σ t with
     | .bool b=>cond (b==want) (match mG T N σ o with
       | .v x=> .go (a0 σ d x) c
       | .vc x c'=> .go (a0 σ d x)<|andG c' c
       | .no=> .no) (.go (a0 σ d undef) c)
     | .tuple ⟨[]⟩=> .go (a0 σ d undef) c
     | _=> .no) .no
   | none=> .no) .no
 | _=> .no
def jA (T:List (List TD)) (N:Fm) (g:Bool) (ops:Array ax):List Nat→Nat→Array Bool→(Nat→ag)→Option Prop→BC
 | [],fuel,listed,σ,c=> .at fuel listed σ c
 | _::_,0,_,_,_=> .no
 | i::is,fuel+1,listed,σ,c=>match zA T N g ops i σ c with
   | .go σ c=>jA T N g ops is fuel (listed.setIfInBounds i true) σ c
   | .no=> .no
def jj (fr:Array Bool→Nat→Bool):List Nat→Array Bool→Bool
 | [],_=>true
 | i::is,listed=>fr listed i && jj fr is (listed.setIfInBounds i true)
section
variable {P:aq} {T:List (List TD)} {N:Fm} {g:Bool} {ops:Array ax} {fr:Array Bool→Nat→Bool} {fuel':Nat} {listed':Array Bool} {σ':Nat→ag} {c':Option Prop} {w:ah}
theorem qe (hT:gP P 0 T=true) (W:Nat→Array Bool→(Nat→ag)→Prop)
 (H1:∀ {i d o ty pos af v fuel listed σ},ops[i]? =some ⟨some d,o,ty,pos,af,none⟩→fr listed i=true→(∀ w,(execOp (ev N σ) ⟨some d,o,ty,pos,af,none⟩).run P w= .ok (.value v) w)→W fuel (listed.setIfInBounds i true) (a0 σ d v)→W (fuel+1) listed σ)
 (O:g=true→∀ {i d o ty pos af v fuel listed σ j want t},ops[i]? =some ⟨some d,o,ty,pos,af,some (j,want)⟩→fr listed i=true→da ops j=some t→az t N.n=true→σ t= .bool want→(∀ w,(execOp (ev N σ) ⟨some d,o,ty,pos,af,some (j,want)⟩).run P w= .ok (.value v) w)→W fuel (listed.setIfInBounds i true) (a0 σ d v)→W (fuel+1) listed σ)
 (Z:g=true→∀ {i d o ty pos af fuel listed σ j want t b},ops[i]? =some ⟨some d,o,ty,pos,af,some (j,want)⟩→fr listed i=true→da ops j=some t→az t N.n=true→σ t= .bool b→(b==want)=false→W fuel (listed.setIfInBounds i true) (a0 σ d undef)→W (fuel+1) listed σ)
 (aa:g=true→∀ {i d o ty pos af fuel listed σ j want t},ops[i]? =some ⟨some d,o,ty,pos,af,some (j,want)⟩→fr listed i=true→da ops j=some t→az t N.n=true→σ t=undef→W fuel (listed.setIfInBounds i true) (a0 σ d undef)→W (fuel+1) listed σ):
 ∀ (is:List Nat) (fuel:Nat) (listed:Array Bool) (σ:Nat→ag) (c:Option Prop),jA T N g ops is fuel listed σ c= .at fuel' listed' σ' c'→jj fr is listed=true→optG c'→W fuel' listed' σ'→optG c∧W fuel listed σ
 | [],fuel,listed,σ,c,h,_,C,E=>by cases h; exact ⟨C,E⟩
 | i::is,0,listed,σ,c,h,_,C,E=>by cases h
 | i::is,fuel+1,listed,σ,c,h,hf,C,E=>by
   simp only [jj,aV] at hf;simp only [jA] at h;split at h
   · rename_i ab c2 A;obtain ⟨C,E⟩:=qe hT W H1 O Z aa is fuel _ _ _ h hf.2 C E;unfold zA at A;split at A
     · rename_i d o ty pos af hi;have I:=fun w=>pP hT (N:=N) (σ:=σ) (some d) o ty pos af none w;split at A
       · rename_i x J;rw [J] at I; cases A;exact ⟨C,H1 hi hf.1 I E⟩
       · rename_i x q J;rw [J] at I; cases A;obtain ⟨U,V⟩:=oU C;exact ⟨V,H1 hi hf.1 (fun w=>I w U) E⟩
       · cases A
     · rename_i d o ty pos af j want hi;have I:=fun w=>pP hT (N:=N) (σ:=σ) (some d) o ty pos af (some (j,want)) w;cases hg:g
       · rw [hg] at A; cases A
       · rw [hg] at A;simp only [cond_true] at A;split at A
         · rename_i t M;cases hb:az t N.n
           · rw [hb] at A; cases A
           · rw [hb] at A;simp only [cond_true] at A;split at A
             · rename_i b L;cases hw:(b==want)
               · rw [hw] at A; cases A;exact ⟨C,Z hg hi hf.1 M hb L hw E⟩
               · rw [hw] at A;simp only [cond_true] at A;obtain rfl :b=want:=by simpa using hw
                 split at A
                 · rename_i x J;rw [J] at I; cases A;exact ⟨C,O hg hi hf.1 M hb L I E⟩
                 · rename_i x q J;rw [J] at I; cases A;obtain ⟨U,V⟩:=oU C;exact ⟨V,O hg hi hf.1 M hb L (fun w=>I w U) E⟩
                 · cases A
             · rename_i L;cases A;exact ⟨C,aa hg hi hf.1 M hb L E⟩
             · cases A
         · cases A
     · cases A
   · cases h
variable {Q:bc→(Nat→ag)→ah→Prop} {S:ah→Prop} {r fuel:Nat} {listed:Array Bool} {σ:Nat→ag}
theorem DQ (hT:gP P 0 T=true) (is:List Nat) (h:jA T N true ops is fuel listed σ none= .at fuel' listed' σ' c') (J:S w) (k:bS P N ops Q S fuel' listed' σ' w) (M:optG c') (A:jj (dF N.F ops) is listed=true):bS P N ops Q S fuel listed σ w:=
 (qe hT (fun fuel listed σ=>bS P N ops Q S fuel listed σ w) (fun hi A L k=>hp _ hi A (fun w _=>L w) J k) (fun _=>fun hi A C E I L k=>xE _ hi A C E I (fun w _=>L w) J k) (fun _=>fun hi A C E I hb k=>xF _ hi A C E I hb J k) (fun _=>fun hi A C E I k=>D3 _ hi A C E I J k) is fuel listed σ none h A M k).2
theorem DS (hT:gP P 0 T=true) (is:List Nat) (h:jA T N false ops is fuel listed σ none= .at fuel' listed' σ' c') (C:S w) (k:bN P N ops Q S r fuel' listed' σ' w) (E:optG c') (A:jj (fun l i=>my N.F ops l r i) is listed=true):bN P N ops Q S r fuel listed σ w:=
 (qe (g:=false) hT (fun fuel listed σ=>bN P N ops Q S r fuel listed σ w) (fun hi A I k=>lq _ hi A (fun w _=>I w) C k) (fun h=>dd h) (fun h=>dd h) (fun h=>dd h) is fuel listed σ none h A E k).2
theorem DR (hT:gP P 0 T=true) (is:List Nat) (h:jA T N false ops is fuel listed σ none= .at fuel' listed' σ' c') (C:S w) (k:bN P N ops Q S r fuel' listed' σ' w) (E:optG c') (A:jj (fun l i=>kP N.F ops l r i) is listed=true):bN P N ops Q S r fuel listed σ w:=
 (qe (g:=false) hT (fun fuel listed σ=>bN P N ops Q S r fuel listed σ w) (fun hi A I k=>nJ _ hi A I (fun _=>C) k) (fun h=>dd h) (fun h=>dd h) (fun h=>dd h) is fuel listed σ none h A E k).2
end
def rO (P:aq) (f:dA):Bool:=match P.funcs[f]? with
 | some fn=> !(fn.name== "runtime.NumGoroutine") && !fn.body.isNone
 | none=>false
theorem Co {P:aq} {f:dA} (h:rO P f=true):fB P f:=by
 unfold rO at h;split at h
 · simp only [aV,iW] at h;exact rP (by assumption) h.1 h.2
 · cases h
section
variable {P:aq} {N:Fm} {σ:Nat→ag} {w:ah} {dst:Option Nat} {ty:an} {pos :String} {af:Array bX} {g:Option (Nat×Bool)} {x y z:aT} {K:(Nat→ag)→ah→Prop}
theorem bd {f:dA} {args:Array aT} {A:Array an} {L:List ag} {R:ag→ah→Prop} (hr:bj P f L.toArray w R) (C:args.toList.map (ev N σ)=L)
 (k:∀ v w',R v w'→K (cV σ dst v) w') (E:rO P f=true :=by kernel_rfl):bO P N ⟨dst,.call ⟨.value (.func f),args,A⟩,ty,pos,af,g⟩ σ w K:=cl (Co E) hr C k
theorem aA {t b off :Nat} {v:ag} (C:ev N σ x= .pointer (some ⟨b,off,none⟩)) (A:av w.heap b off =some v) (hu:cB P t=some none:=by kernel_rfl):
 (execOp (ev N σ) ⟨dst,.load t x,ty,pos,af,g⟩).run P w= .ok (.value v) w:=ld hu C A
theorem cr (n:Nat) {t t':an} {a b:Int} (A:ev N σ x= .int .i64 a:=by exact J) (C:ev N σ y= .int .i64 b:=by exact J) (h:a+b=(n:Int)∧n≤9223372036854775807:=by omega):
 (execOp (ev N σ) ⟨dst,.binOp .add t x y t',ty,pos,af,g⟩).run P w= .ok (.value<|.int .i64 (n:Int)) w:=rE (n:Int) A C<|uo h.1 h.2
theorem qf (n:Nat) {t t':an} {a b:Int} (A:ev N σ x= .int .i64 a:=by exact J) (C:ev N σ y= .int .i64 b:=by exact J) (h:a - b=(n:Int)∧n≤9223372036854775807:=by omega):
 (execOp (ev N σ) ⟨dst,.binOp .sub t x y t',ty,pos,af,g⟩).run P w= .ok (.value<|.int .i64 (n:Int)) w:=tG (n:Int) A C<|uo h.1 h.2
variable {ops:Array ax} {Q:bc→(Nat→ag)→ah→Prop} {S:ah→Prop} {r fuel d t b off :Nat} {listed:Array Bool} {v:ag} {W:ah} {l:List ax} {id:Nat}
theorem cT (i:Nat) (h:(ops[i]?,ev N σ x)=(some ⟨some d,.load t x,ty,pos,af,none⟩,.pointer (some ⟨b,off,none⟩))) (A:Wk W w) (C:av W.heap b off =some v) (k:bS P N ops Q (fun w'=>Wk W w') fuel (listed.setIfInBounds i true) (a0 σ d v) w)
 (E:dF N.F ops listed i=true :=by kernel_rfl) (hu:cB P t=some none:=by kernel_rfl):bS P N ops Q (fun w'=>Wk W w') (fuel+1) listed σ w:=hp i (congrArg fh h) E (fun _ hw=>ld hu (congrArg Prod.snd h)<|hw.av C) A k
theorem tu (i:Nat) (h:(ops[i]?,ev N σ x)=(some ⟨some d,.load t x,ty,pos,af,none⟩,.pointer (some ⟨b,off,none⟩))) (A:Wk W w) (C:av W.heap b off =some v) (k:bN P N ops Q (fun w'=>Wk W w') r fuel (listed.setIfInBounds i true) (a0 σ d v) w)
 (E:my N.F ops listed r i=true :=by kernel_rfl) (hu:cB P t=some none:=by kernel_rfl):bN P N ops Q (fun w'=>Wk W w') r (fuel+1) listed σ w:=lq i (congrArg fh h) E (fun _ hw=>ld hu (congrArg Prod.snd h)<|hw.av C) A k
theorem eK (h:Wk w w.drew→bS P N l.toArray Q (fun w'=>Wk w w') l.length (lI l.length false) σ w.drew) (hr:iR N.r l=true :=by exact J) (hm:P.follows .mixedOrders=true :=by kernel_rfl):bl P N (.region id l.toArray true) Q σ w:=a9 _ hr hm (Md.refl _ _).drew<|h (Md.refl _ _).drew
theorem EL (r:Nat) (h:Wk w w.drew→bN P N l.toArray Q (fun w'=>Wk w w') r l.length (lI l.length false) σ w.drew) (hr:iR N.r l=true :=by exact J) (hm:P.follows .mixedOrders=true :=by kernel_rfl):bl P N (.region id l.toArray true) Q σ w:=x8 _ r hr hm (Md.refl _ _).drew<|h (Md.refl _ _).drew
end
end Go.Hb
end
section
namespace Go.Hb
open Go.ChangeShapes Go.WideShapes Go.ChangeAt
theorem Wk.frame {w w':ah} (h:Wk w w') (may:MemPlace→Prop):w.keptBut w' may:=by
 refine ⟨h.os,h.output,fun i hi=> ?_⟩;rw [h.ey i hi id];split <;> simp_all
theorem Wk.same {w w':ah} (h:Wk w w') {p:MemPlace} (hp:p.block < w.heap.size):w.sameAt w' p:=by
 cases p with
 | cell b o=>exact World.cell?_of_block (w:=w)<|h.ey b hp id
 | map b=>exact h.ey b hp id
section
variable {H:Type} {enc:an×ag→H} {P:aq} {W W':ah}
theorem zJ (J:laidOutB P=true) (I:Wk W W'):∀ (C:List an) (vs:List ag) (E:List (DataW H)) (ps:List MemPlace),C.all (fun t=>P.readableRec t && decide (t < P.types.size))=true→(∀ x∈ps,x.block < W.heap.size)→
 AA enc P W 0 (fun _=>true) true C vs E ps→AA enc P W' 0 (fun b=>decide (b < W.heap.size)) true C vs E ps
 | [],[],[],_,_,_,h=>h
 | t::C,v::vs,d::E,_,hp,aJ,⟨p,q,h1,h2,he⟩=>by
   subst he;rw [List.all_cons,aV,aV] at hp;exact ⟨p,q,WideElems.Trod_stays J hp.1.1 (of_decide_eq_true hp.1.2) h1 (fun x A=>I.same<|aJ x<|Bf _ A) (fun x A=>decide_eq_true<|aJ x<|Bf _ A),
    zJ J I C vs E q hp.2 (fun x A=>aJ x<|List.mem_append_right _ A) h2,rfl⟩
 | [],_::_,_,_,_,_,h=>h.elim
 | [],[],_::_,_,_,_,h=>h.elim
 | _::_,[],_,_,_,_,h=>h.elim
 | _::_,_::_,[],_,_,_,h=>h.elim
theorem Fz {f:dA} {fn:fc} {s:ChangeSpec} {args:Array ag} {A gs:List (DataW H)} {before:List MemPlace} {O:an} (I:DataW.Whole enc P fn.params.toList s.vars false W args.toList A gs before) (M:s.vars= [])
 (C:s.fn H (A++gs)= {results:= [.lit (.bool true)],args:=A}) (hr:fn.resultTypes= #[O]) (hb:P.underlying O=some .bool) (V:laidOutB P=true) (hp:fn.params.toList.all (fun t=>P.readableRec t && decide (t < P.types.size))=true)
 (h:bj P f args W (fun v w'=>v= .bool true∧Wk W w')):Calls P f args W fun e W'=> ∃ v,e= .returned v∧s.post enc P fn false true false false W args v W':=by
 refine iX h fun e W' ⟨v,he,Z,L⟩=>⟨v,he,?_⟩
 subst Z;have J:=I;obtain ⟨p,q,U,E,rfl,_,_⟩:=I;rw [M] at E;obtain ⟨rfl,rfl⟩:=trodVars_none E;have aJ:∀ x∈p,x.block < W.heap.size:=fun x aa=>J.lt x<|by simpa using aa
 refine ⟨_,_,_,[],p,[],J,?_,?_,?_,L.frame _,fun h=>by cases h⟩
 · rw [C,hr];exact trodAll_cons_mk (shut_bool hb _) trodAll_mk0
 · rw [C];exact zJ V L _ _ _ _ hp aJ U
 · rw [C,M]; rfl
end
end Go.Hb
namespace Go.Hb
open Go.Proofs.YtjaoldaegkmkjaaGreatDoor
theorem Cg {H:Type} {l:List (DataW H)} (A:Rows.uptoSmall H l=true):Rows.uptoBulkAll l≤1048576:=of_decide_eq_true A
end Go.Hb
namespace Go.Hb
open Go.Proofs.YtjaoldaegkmkjaaGreatDoor Go.ChangeShapes Go.WideShapes Go.ChangeAt
structure BB (P:aq) (t:an) (m:Nat) {X:Type} (R:ah→List ag→X→Prop) (B:X→Nat):Prop where
 cells:P.cellsOf t=m
 op:∀ {H:Type} (enc:an×ag→H) (W:ah) (fuel:Nat) (cs:List ag) (d:DataW H) (p:List MemPlace),DataW.trod enc P W 0 (fun _=>true) true fuel t cs=some (d,p)→cs.length=m∧∃ x,R W cs x∧B x≤Rows.uptoBulk d
section
variable {P:aq} {t t0 t1 e:an} {m m0 m1:Nat} {X X0 X1:Type} {R:ah→List ag→X→Prop} {B:X→Nat} {R0:ah→List ag→X0→Prop} {B0:X0→Nat} {R1:ah→List ag→X1→Prop} {B1:X1→Nat}
theorem Fk (C:P.underlying t=some .string) (A:P.cellsOf t=1):BB P t 1 (fun _ cs (x:List UInt8)=>cs= [str x]) (fun x=>x.length+1) where
 cells:=A
 op enc W fuel cs d p h:=by
  obtain ⟨s,rfl,E,hw⟩:=DataW.trod_string C h;cases E;exact ⟨J,s.data.toList,J,by simp [Rows.uptoBulk]⟩
end
end Go.Hb
end
section
namespace Go.Hb
open Go.Proofs
def e7:List (List TD):= [
 [.no,.no,.no,.no,.no,.no,.no,.st [0,1,2,3],.st [0,1,2,3],.str,.str,.str,.no,.st [0,1],.st [0,1],.no],
 [.no,.no,.st [0],.st [0],.no,.no,.no,.no,.no,.no,.no,.cN 77 2,.cN 93 2,.no,.st [0,1,2,3],.st [0,1,2,3]],
 [.no,.no,.no,.no,.no,.no,.cN 60 2,.cN 63 2,.no,.st [0,1,2,3],.st [0,1,2,3],.no,.no,.cN 9 1,.st [0,1,2,3,4],.st [0,1,2,3,4]],
 [.no,.no,.no,.no,.no,.no,.no,.cN 3 1,.no,.no,.no,.st [0,1],.st [0,1],.cN 65 2,.st [0,1],.st [0,1]],
 [.st [0,1],.st [0,1],.no,.no,.no,.st [0,7],.st [0,7],.no,.st [0,1,2],.st [0,1,2],.no,.no,.no,.st [0,1],.no,.no],
 [.no,.no,.st [0,1,2,3,4],.st [0,1,2,3,4],.no,.no,.no,.no,.no,.no,.no,.cN 103 2,.st [0,1],.st [0,1],.no,.no],
 [.no,.no,.no,.no,.no,.no,.cN 55 1,.st [0,1],.no,.no,.no,.st [0,1],.st [0,1],.no,.no,.no],
 [.no,.no,.no,.no,.no,.no,.no,.no,.st [0,1,2],.st [0,1,2],.no,.no,.no,.st [0,1,2],.no,.no],
 [.st [0],.st [0],.no,.no,.no,.no,.no,.cN 194 1,.cN 192 5,.cN 198 7,.st [0,1,2,3,8,9,10,11,12],.st [0,1,2,3,8,9,10,11,12],.no,.no,.no,.cN 259 2],
 [.st [0,1,2,15],.st [0,1,2,15],.no,.no,.no,.st [0,1,6],.st [0,1,6],.no,.no,.no,.no,.no,.no,.no,.no,.no],
 [.no,.no,.cN 5 1,.st [0,1,2,3],.st [0,1,2,3],.no,.no,.no,.no,.no,.no,.no,.cN 4 1,.st [0,1,2],.st [0,1,2],.no],
 [.no,.no,.no,.no,.no,.no,.no,.no,.no,.st [0,1,2,3,4],.st [0,1,2,3,4],.no,.st [0,13],.st [0,13],.no,.st [0,1,2,3,4]],
 [.st [0,1,2,3,4],.no,.cN 133 1,.no,.no,.st [0,1,2,3,4,5,6],.st [0,1,2,3,4,5,6],.no,.st [0,1,2,3,4,5],.st [0,1,2,3,4,5],.no,.no,.st [0],.st [0],.no,.st [0,1]],
 [.st [0,1],.cN 208 2,.no,.no,.no,.no,.no,.no,.no,.no,.no,.st [0,1],.st [0,1],.no,.no,.no],
 [.no,.no,.no,.no,.no,.no,.st [0,1,2],.st [0,1,2],.no,.no,.no,.cN 254 2,.no,.no,.no,.no],
 [.no,.st [0,1,2,3,4,5,6],.st [0,1,2,3,4,5,6],.no,.no,.no,.no,.no,.st [0,1],.st [0,1],.no,.no,.no,.st [0,1],.st [0,1],.no],
 [.st [0,1],.st [0,1],.st [0,1],.st [0,1],.no,.no,.no,.no,.no,.no,.no,.no,.no,.no,.no,.no],
 [.no,.no,.no,.no,.no,.no,.no,.no,.no,.no,.no,.no,.no,.no,.no,.no],
 [.no,.no,.st [0,1,2],.st [0,1,2],.no,.no,.no,.no,.no,.no,.no,.no,.no,.no,.no,.no],
 [.no,.no,.no,.no,.no,.no,.no,.no,.cN 133 1,.no,.no,.no,.st [0,1,2,3,4,5],.st [0,1,2,3,4,5],.no,.no],
 [.no,.st [0,1,2,3,4],.st [0,1,2,3,4],.no,.no,.no,.no,.no,.no,.no,.no,.no,.no,.no,.no,.no],
 [.no,.no,.no,.no,.cN 338 1,.no,.st [0,1,2,3,4,5,6],.st [0,1,2,3,4,5,6],.no,.st [0],.st [0],.no,.no,.no,.no,.no],
 [.no,.cN 24 1,.no,.no,.no,.no,.no,.no,.no,.no,.no,.no,.no,.no,.no,.no],
 [.no,.no,.no,.no,.no,.no,.no,.no,.no,.no,.no,.no,.no,.no,.no,.no],
 [.no,.no,.no,.no,.no,.no,.st [0,1,2,3,4,5,6],.st [0,1,2,3,4,5,6],.no,.no,.cN 399 2,.st [0,1,2],.st [0,1,2],.no,.st [0,1],.st [0,1]],
 [.st [0,1],.st [0,1],.no,.no,.no,.no,.no,.no,.no,.cN 434 4,.st [0],.st [0],.no,.no,.no,.no],
 [.no,.no,.no,.no,.no,.no,.no,.st [0,1,2,3,4],.st [0,1,2,3,4],.no,.no,.st [0,1],.st [0,1],.no,.cN 205 1,.no],
 [.no,.no,.no,.no,.no,.no,.no,.no,.no,.no,.no,.no,.no,.no,.no,.no],
 [.no,.no,.no,.no,.no,.no,.no,.no,.no,.no,.no,.st [0],.st [0],.no,.no,.no],
 [.no,.no,.no,.no,.no,.no,.no,.no,.no,.no,.no,.no,.no,.no,.no,.no],
 [.no,.no,.no,.no,.no,.no,.no,.no,.no,.no,.no,.no,.no,.cN 460 1,.cN 498 2,.st [0,1,2]],
 [.st [0,1,2],.st [0,1],.st [0,1],.no,.no,.no,.no,.no,.no,.no,.no,.no,.no,.no,.no,.no],
 [.no,.no,.no,.no,.no,.st [0,1],.st [0,1],.no,.no,.st [0,1,2,3],.st [0,1,2,3],.no,.no,.no,.no,.no],
 [.no,.no,.no,.st [0,1,2,3,4,5,6,7,8,9,10],.st [0,1,2,3,4,5,6,7,8,9,10],.no,.no,.st [0,1],.st [0,1],.st [0],.st [0],.no,.no,.st [0,1,2,3,4],.st [0,1,2,3,4],.cN 546 4],
 [.no,.st [0,1,2,3],.st [0,1,2,3],.no,.no]]
theorem fv:gP ak 0 e7=true :=aj
section
variable {N:Fm} {Q:bc→(Nat→ag)→ah→Prop} {w:ah} {σ σ':Nat→ag} {p':Pt} {st st':List Kn} {c':Option Prop}
theorem bY {x:bt} {A:bt} (n:Nat) (h:fq e7 N n (.c x) [] σ none= .at (.c A) st' σ' c') (k:bl ak N A (dz ak N st' Q) σ' w) (C:optG c':=by first | exact trivial | (simp only [optG,andG]; omega)):bl ak N x Q σ w:=(gq fv n _ _ _ _ h C k).2
theorem aZ {x:bt} {C:Array ax} {A:List ax} (n:Nat) (h:fq e7 N n (.c x) [] σ none= .at (.l C A) st' σ' c') (k:bD ak N C (dz ak N st' Q) A σ' w) (E:optG c':=by first | exact trivial | (simp only [optG,andG]; omega)):bl ak N x Q σ w:=(gq fv n _ _ _ _ h E k).2
theorem nA {x:bt} {e':bc} (n:Nat) (h:fq e7 N n (.c x) [] σ none= .at (.x e') [] σ' c') (k:Q e' σ' w) (A:optG c':=by first | exact trivial | (simp only [optG,andG]; omega)):bl ak N x Q σ w:=(gq fv n _ _ _ _ h A k).2
theorem bR {x:bt} {A:bt} (n:Nat) (h:fq e7 N n (.c x) st σ none= .at (.c A) st' σ' c') (k:bl ak N A (dz ak N st' Q) σ' w) (C:optG c':=by first | exact trivial | (simp only [optG,andG]; omega)):bl ak N x (dz ak N st Q) σ w:=(gq fv n _ _ _ _ h C k).2
theorem aF {x:bt} {C:Array ax} {A:List ax} (n:Nat) (h:fq e7 N n (.c x) st σ none= .at (.l C A) st' σ' c') (k:bD ak N C (dz ak N st' Q) A σ' w) (E:optG c':=by first | exact trivial | (simp only [optG,andG]; omega)):bl ak N x (dz ak N st Q) σ w:=(gq fv n _ _ _ _ h E k).2
theorem aH {x:bt} {e':bc} (n:Nat) (h:fq e7 N n (.c x) st σ none= .at (.x e') [] σ' c') (k:Q e' σ' w) (A:optG c':=by first | exact trivial | (simp only [optG,andG]; omega)):bl ak N x (dz ak N st Q) σ w:=(gq fv n _ _ _ _ h A k).2
theorem aG {ops:Array ax} {l:List ax} {A:bt} (n:Nat) (h:fq e7 N n (.l ops l) st σ none= .at (.c A) st' σ' c') (k:bl ak N A (dz ak N st' Q) σ' w) (C:optG c':=by first | exact trivial | (simp only [optG,andG]; omega)):bD ak N ops (dz ak N st Q) l σ w:=(gq fv n _ _ _ _ h C k).2
theorem ai {ops:Array ax} {l:List ax} {C:Array ax} {A:List ax} (n:Nat) (h:fq e7 N n (.l ops l) st σ none= .at (.l C A) st' σ' c') (k:bD ak N C (dz ak N st' Q) A σ' w) (E:optG c':=by first | exact trivial | (simp only [optG,andG]; omega)):bD ak N ops (dz ak N st Q) l σ w:=(gq fv n _ _ _ _ h E k).2
theorem ay {ops:Array ax} {l:List ax} {e':bc} (n:Nat) (h:fq e7 N n (.l ops l) st σ none= .at (.x e') [] σ' c') (k:Q e' σ' w) (A:optG c':=by first | exact trivial | (simp only [optG,andG]; omega)):bD ak N ops (dz ak N st Q) l σ w:=(gq fv n _ _ _ _ h A k).2
theorem dU {e:bc} {A:bt} (n:Nat) (h:fq e7 N n (.x e) st σ none= .at (.c A) st' σ' c') (k:bl ak N A (dz ak N st' Q) σ' w) (C:optG c':=by first | exact trivial | (simp only [optG,andG]; omega)):dz ak N st Q e σ w:=(gq fv n _ _ _ _ h C k).2
theorem iM {e:bc} {C:Array ax} {A:List ax} (n:Nat) (h:fq e7 N n (.x e) st σ none= .at (.l C A) st' σ' c') (k:bD ak N C (dz ak N st' Q) A σ' w) (E:optG c':=by first | exact trivial | (simp only [optG,andG]; omega)):dz ak N st Q e σ w:=(gq fv n _ _ _ _ h E k).2
theorem bf {e:bc} {e':bc} (n:Nat) (h:fq e7 N n (.x e) st σ none= .at (.x e') [] σ' c') (k:Q e' σ' w) (A:optG c':=by first | exact trivial | (simp only [optG,andG]; omega)):dz ak N st Q e σ w:=(gq fv n _ _ _ _ h A k).2
variable {ops:Array ax} {S:ah→Prop} {r fuel fuel':Nat} {listed listed':Array Bool}
theorem aK (is:List Nat) (h:jA e7 N true ops is fuel listed σ none= .at fuel' listed' σ' c') (A:S w) (k:bS ak N ops Q S fuel' listed' σ' w) (C:optG c':=by first | exact trivial | (simp only [optG,andG]; omega)) (E:jj (dF N.F ops) is listed=true :=by kernel_rfl):bS ak N ops Q S fuel listed σ w:=DQ fv is h A k C E
theorem pv (is:List Nat) (h:jA e7 N false ops is fuel listed σ none= .at fuel' listed' σ' c') (A:S w) (k:bN ak N ops Q S r fuel' listed' σ' w) (C:optG c':=by first | exact trivial | (simp only [optG,andG]; omega)) (E:jj (fun l i=>my N.F ops l r i) is listed=true :=by kernel_rfl):bN ak N ops Q S r fuel listed σ w:=DS fv is h A k C E
theorem sC (is:List Nat) (h:jA e7 N false ops is fuel listed σ none= .at fuel' listed' σ' c') (A:S w) (k:bN ak N ops Q S r fuel' listed' σ' w) (C:optG c':=by first | exact trivial | (simp only [optG,andG]; omega)) (E:jj (fun l i=>kP N.F ops l r i) is listed=true :=by kernel_rfl):bN ak N ops Q S r fuel listed σ w:=DR fv is h A k C E
end
end Go.Hb
end
namespace Go.Hb
theorem drop_cons {α:Type} {l:List α} {i:Nat} (d:α) (h:i < l.length):l.drop i=l.getD i d::l.drop (i+1):=by simp_all
def jr (c:UInt8) (l:List UInt8):Int:=if l.idxOf c < l.length then (l.idxOf c:Int) else -1
theorem GV {h:Array Obj} {a:Option bB} {l:List UInt8} {i:Nat} (A:bo h a (U8 l)) (hi:i < l.length):Hb.av h (bk a) (fo a+i*1)=some (.int .u8 (l.getD i 0).toNat):=by
 refine A.B5 ?_;unfold U8;rw [jM,bH hi,cg,bH hi]; rfl
theorem GX {l:List UInt8} (h:0 < l.length):U8 l≠[]:=by
 intro e;have :=congrArg List.length e;rw [oQ,List.length_nil] at this;omega
theorem yC {w:ah} {B e:Nat} {v:ag} {l:List UInt8} {x:UInt8} (h:w.ownsRow B e 1 v (l.length+1) (U8 l++ [.int .u8 x.toNat])):w.ownsRow B e 1 v (l++ [x]).length (U8<|l++ [x]):=by
 rw [cj,vh]; exact h
def Tg (w:ah) (B e n:Nat) (v:ag) (xs:List ag):Prop :=
 ∃ a A,v= .slice a n A∧n≤A∧(xs= []∨∃ b cur z,a=some ⟨b,0,none⟩∧B≤b∧w.heap[b]? =some (.cells cur e z)∧∀ (j:Nat) u,xs[j]? =some u→cur[j]? =some u)
theorem Tg.kX {w:ah} {B e size n:Nat} {v:ag} {xs:List ag} (h:w.ownsRow B e size v n xs):Tg w B e n v xs:=by
 have h0:=h;rcases h.2 with ⟨rfl,rfl⟩ | ⟨g,cap,cur,rfl,hb,hg,_,_,_,A⟩
 · exact ⟨none,0,J,aY _,.inl<|jL<|by simpa using h.1⟩
 · refine ⟨_,cap,J,(iy h0).1,.inr ⟨g,cur,_,J,hb,hg,fun j u hu=> ?_⟩⟩;rw [← A,gB] at hu;split at hu
   · simpa using hu
   · cases hu
theorem Tg.cells {w:ah} {B e n:Nat} {v:ag} {xs:List ag} (h:Tg w B e n v xs):∃ a A,v= .slice a n A∧bo w.heap a xs:=by
 obtain ⟨a,A,rfl,_,h | ⟨b,cur,z,rfl,_,hg,C⟩⟩:=h
 · subst h; exact ⟨a,A,rfl,bo.nil _ _⟩
 · refine ⟨_,A,J,fun _=>rfl,fun j u hu=> ?_⟩;show Hb.av w.heap b (0 +j)=_;rw [b9,bT hg]; exact C j u hu
theorem Tg.nk {w:ah} {B e n A:Nat} {a:Option bB} {xs:List ag} (h:Tg w B e n (.slice a n A) xs):n≤A∧bo w.heap a xs:=by
 obtain ⟨L,c',E,C,O⟩:=id h;obtain ⟨M,c2,I,J⟩:=h.cells;cases E; cases I;exact ⟨C,J⟩
theorem Tg.slice {w:ah} {B e n:Nat} {v:ag} {xs:List ag} (h:Tg w B e n v xs):∃ a A,v= .slice a n A:=let ⟨a,A,hv,_⟩:=h; ⟨a,A,hv⟩
theorem Tg.md {F:Nat→Prop} {w w':ah} {B e n:Nat} {v:ag} {xs:List ag} (h:Tg w B e n v xs) (hm:Md F w w') (E:∀ k,F k→∀ cur z,w.heap[k]?≠some (.cells cur e z)):Tg w' B e n v xs:=by
 obtain ⟨a,A,rfl,C,h | ⟨b,cur,z,rfl,hb,hg,L⟩⟩:=h
 · exact ⟨a,A,J,C,.inl h⟩
 · exact ⟨_,A,J,C,.inr ⟨b,cur,z,J,hb,by rw [hm.ey b (ef.1 hg).1 (fun I=>E b I cur z hg)]; exact hg,L⟩⟩
theorem Tg.wk {w w':ah} {B e n:Nat} {v:ag} {xs:List ag} (h:Tg w B e n v xs) (hm:Wk w w'):Tg w' B e n v xs:=h.md hm fun _ A=>A.elim
theorem kZ {w:ah} {B e e' size n:Nat} {v:ag} {xs:List ag} (h:w.ownsRow B e size v n xs) (E:e≠e'):∀ k,v.ownBlock=some k→∀ cur z,w.heap[k]?≠some (.cells cur e' z):=by
 intro k A cur z hg;rcases h.2 with ⟨rfl,_⟩ | ⟨g,cap,I,rfl,_,C,_⟩
 · simp [ff] at A
 · simp only [ff,bu] at A;subst A;rw [C] at hg;simp only [bu,AN] at hg;exact E hg.2.1
theorem Tg.mono {w:ah} {B B' e n:Nat} {v:ag} {xs:List ag} (h:Tg w B e n v xs) (A:B'≤B):Tg w B' e n v xs:=by grind [Tg]
def ej (b:UInt8):Bool:=decide (33≤b.toNat∧b.toNat≠127)
def eI (w:List UInt8):Bool:=w.all ej
def lk (w:List UInt8):Bool:=decide (1≤w.length∧w.length≤64∧eI w=true)
theorem iL {α:Type} {l:List α} {i:Nat} {d:α} (h:i < l.length):l.getD i d∈l:=by
 rw [cg,bH h]; exact List.getElem_mem h
theorem EZ {α:Type} {l:List α} {x:α} (d:α) (h:x∈l):∃ i,i < l.length∧l.getD i d=x:=by
 obtain ⟨i,hi,rfl⟩:=List.mem_iff_getElem.1 h;exact ⟨i,hi,by rw [cg,bH hi]; rfl⟩
theorem vj {α:Type} {f:α→Bool} {l:List α} {i:Nat} (d:α) (h:i < l.length) (h1:f (l.getD i d)=false):l.all f=false :=by
 rw [List.all_eq_false]; exact ⟨_,iL h,by rw [h1]; exact dd⟩
theorem vk {α:Type} {f:α→Bool} {l:List α} (d:α) (h:∀ i,i < l.length→f (l.getD i d)=true):l.all f=true :=by
 rw [AZ]; intro x A; obtain ⟨i,hi,rfl⟩:=EZ d A; exact h i hi
theorem ni {w:List UInt8} {i:Nat} (h:i < w.length) (h1:ej (w.getD i 0)=false):eI w=false :=vj 0 h h1
theorem oX {w:List UInt8} (h:∀ i,i < w.length→ej (w.getD i 0)=true):eI w=true :=vk 0 h
def lets (s:List UInt8):List UInt8:=s.foldl (fun a b=>if b∈a then a else a++ [b]) []
def letE (s:List UInt8):List UInt8×Nat:=if s= []∨eI s=false then ([],21) else (lets s,0)
theorem j5 {s:List UInt8} {i:Nat} (h:i < s.length):lets (s.take<|i+1)=if s.getD i 0∈lets (s.take i) then lets (s.take i) else lets (s.take i)++ [s.getD i 0]:=by
 unfold lets;rw [ua s i 0 h,List.foldl_append]; rfl
theorem sR (s:List UInt8):(lets s).length≤s.length:=by
 have key:∀ (s a:List UInt8),(s.foldl (fun a b=>if b∈a then a else a++ [b]) a).length≤a.length+s.length:=by
  intro s
  induction s with
  | nil=>intro a; simp
  | cons b s ih=>
    intro a;rw [oB,cZ];split
    · have :=ih a; omega
    · have :=ih (a++ [b]); rw [cj,List.length_singleton] at this; omega
 have :=key s [];simpa [lets] using this
def marksOf (a:List UInt8):List ag:=(kn 256).map fun k=> .bool<|decide (dP k∈a)
theorem yg (a:List UInt8):(marksOf a).length=256:=by simp [marksOf]
theorem ES (a:List UInt8) (b:UInt8):(marksOf a)[b.toNat]? =some (.bool<|decide (b∈a)):=by
 have :=ku b;unfold marksOf;rw [jM,uV U];simp
theorem EU (a:List UInt8) (b:UInt8):(marksOf a).set b.toNat (.bool true)=marksOf (a++ [b]):=by
 apply q6;intro k;rw [List.getElem?_set,yg];unfold marksOf;rw [jM,jM];by_cases C:k < 256
 · rw [uV C];simp only [eu];have he:(dP k=b)↔b.toNat=k:=by
    constructor
    · rintro rfl; simp; omega
    · rintro rfl; simp
   by_cases h:b.toNat=k
   · have A:=he.2 h;simp [h,C,A]
   · have A:¬dP k=b:=fun e=>h<|he.1 e;simp [h,A]
 · have :(kn 256)[k]? =none:=km<|by simp; omega
   have hb:=ku b;rw [this];simp; omega
theorem ET:marksOf []=dq 256 (.bool false):=by
 unfold marksOf;apply q6;intro k;rw [jM,List.getElem?_replicate];by_cases A:k < 256
 · rw [uV A]; simp [A]
 · rw [km (by simp; omega)]; simp [A]
theorem Bd.new {T e b:Nat} {w:ah} (h:w.heap[b]? =some (.cells [qY none,.slice none 0 0].toArray T (0,0))):Bd T e w b (.slice none 0 0) []:=
 ⟨⟨none,h,.inl rfl⟩,gy _ _ _ _,by simp⟩
theorem Bd.step {T e b:Nat} {w0 w w':ah} {A:ag} {l:List UInt8} (h:Bd T e w b A l) (C:Wk w0 w) (E:Md (BF b A) w w') (hb:w0.heap.size≤b):Wk w0 w':=
 Md.trans' C E fun k J I=>by have :=h.pn I; omega
theorem Bd.GD {T e b:Nat} {w0 w w':ah} {A:ag} {l:List UInt8} (h:Bd T e w b A l) (C:Wk w0 w) (E:Md (fun k=>A.ownBlock=some k) w w') (hb:w0.heap.size≤b):Wk w0 w':=
 Md.trans' C E fun k J I=>by have :=h.pn (.inr I); omega
end Go.Hb
section
namespace Go.Hb
def jh (P:aq) (t:an):Option (Nat×Nat):=
 match P.underlying t with
 | some (.array n e)=>(P.info? e).map fun i=>(n,i.size)
 | _=>none
section
variable {P:aq} {N:Fm} {σ:Nat→ag} {w:ah} {dst:Option Nat} {ty:an} {pos :String} {af:Array bX} {g:Option (Nat×Bool)} {x y:aT}
theorem gf {t n A b off :Nat} {k:bg} {i:Int} (he:jh P t=some (n,A)) (C:ev N σ x= .pointer (some ⟨b,off,none⟩)) (E:ev N σ y= .int k i) (h0:0≤i∧i < n):
 (execOp (ev N σ) ⟨dst,.indexAddr t x y,ty,pos,af,g⟩).run P w= .ok (.value<|.pointer<|some ⟨b,off+i.toNat*A,none⟩) w:=by
 unfold jh at he;cases hd:P.underlying t with
 | none=>rw [hd] at he; cases he
 | some d=>
   rw [hd] at he;cases d <;> first | (cases he; done) | skip
   rename_i m e;cases hi:P.info? e with
   | none=>simp [hi] at he
   | some j=>
     simp only [hi,eu,bu,gD] at he;obtain ⟨rfl,rfl⟩:=he;simp [execOp,AG,lP,C,E,asIntOf,ba hd,h0.1,h0.2,sizeOf,cG hi,eH]
end
theorem EV {h:Array Obj} {b:Nat} {a:List UInt8} (A:aw h b (marksOf a)) (c:UInt8):Hb.av h b (0 +((c.toNat:Nat):Int).toNat*1)=some (.bool<|decide (c∈a)):=by
 rw [A.av,show 0 +((c.toNat:Nat):Int).toNat*1=c.toNat from by omega]; exact ES a c
theorem EW {h:Array Obj} {b:Nat} {a:List UInt8} {c:UInt8} (A:aw h b ((marksOf a).set (0 +((c.toNat:Nat):Int).toNat*1)<|.bool true)):aw h b (marksOf<|a++ [c]):=by
 rw [show 0 +((c.toNat:Nat):Int).toNat*1=c.toNat from by omega,EU] at A; exact A
end Go.Hb
end
section
namespace Go.Hb
section
variable {P:aq} {N:Fm} {σ:Nat→ag} {w:ah} {fn:fc} {R:ag→ah→Prop}
theorem EN {t b off :Nat} {v:ag} (hu:cB P t=some none) (A:Hb.av w.heap b off =some v):(loadVar t ⟨b,off,none⟩).run P w= .ok v w:=by
 have C:w.cell? ⟨b,off,none⟩=some v:=by rw [hJ]; exact A
 unfold cB at hu;cases hd:P.underlying t with
 | none=>rw [hd] at hu; cases hu
 | some d=>
   rw [hd] at hu;cases d <;> first
    | (simp only [fA] at hu; obtain ⟨_,_,h⟩:=hu; cases h; done)
    | simp [loadVar,isAgg,ba hd,run_load,C]
theorem EO {t n b off :Nat} {cs:List ag} (hu:cB P t=some (some n)) (I:cs.length=n) (C:∀ j,j < n→Hb.av w.heap b (off+j)=cs[j]?):(loadVar t ⟨b,off,none⟩).run P w= .ok (.agg cs.toArray) w:=by
 have E:(loadCells ⟨b,off,none⟩ n).run P w= .ok cs.toArray w:=by
  subst I;refine run_loadCells_list (P:=P) w ⟨b,off,none⟩ cs fun j v A=> ?_;rw [eH,hJ];exact (C j (cJ.1 A).1).trans A
 unfold cB at hu;cases hd:P.underlying t with
 | none=>rw [hd] at hu; cases hu
 | some d=>
   rw [hd] at hu;cases hi:P.info? t with
   | none=>simp [AQ,hi] at hd
   | some i=>
     rw [hi] at hu;cases d <;> first
      | (cases hu; done)
      | (simp only [eu,bu] at hu; subst hu
         simp [loadVar,isAgg,ba hd,sizeOf,cG hi,E])
def jg (P:aq) (N:Fm) (σ:Nat→ag) (w:ah):ResultVar→ag→Prop
 | .tmp t,v=>ev N σ (.tmp t)=v
 | .cell a t,v=> ∃ ad,ev N σ (.tmp a)= .pointer (some ad)∧(loadVar t ad).run P w= .ok v w
theorem nW {t:Tmp} :jg P N σ w (.tmp t) (ev N σ<|.tmp t):=rfl
theorem gN {a t b off :Nat} {v:ag} (C:ev N σ (.tmp a)= .pointer (some ⟨b,off,none⟩)) (hu:cB P t=some none) (A:Hb.av w.heap b off =some v):jg P N σ w (.cell a t) v:=⟨_,C,EN hu A⟩
theorem gp {a t n b off :Nat} {cs:List ag} (E:ev N σ (.tmp a)= .pointer (some ⟨b,off,none⟩)) (hu:cB P t=some (some n)) (C:cs.length=n) (A:∀ j,j < n→Hb.av w.heap b (off+j)=cs[j]?):jg P N σ w (.cell a t) (.agg cs.toArray):=⟨_,E,EO hu C A⟩
def jz (tmps:Array ag):ResultVar→Sem ag
 | .tmp t=>pure<|tmps.getD t undef
 | .cell a t=>do loadVar t (← asAddr (tmps.getD a undef))
theorem iz {r:ResultVar} {v:ag} (h:jg P N σ w r v):(jz (act N σ).tmps r).run P w= .ok v w:=by
 cases r with
 | tmp t=>
   show jG P (pure<|(act N σ).tmps.getD t undef) w=_;rw [mZ]; simp only [jg] at h; rw [h]; rfl
 | cell a t=>
   obtain ⟨ad,h1,A⟩:=h;show jG P (do loadVar t (← asAddr ((act N σ).tmps.getD a undef))) w=_;rw [mZ,h1];simp [asAddr,A]
theorem FH {tmps:Array ag} {r:ResultVar} {v:ag} (h:fn.results= #[r]) (h1:(jz tmps r).run P w= .ok v w):(results fn tmps).run P w= .ok v w:=by
 have A:(results fn tmps)=(do let vs ← #[r].mapM (jz tmps); pure (if h:vs.size=1 then vs[0] else .tuple vs)):=by
  unfold results; rw [h]; rfl
 rw [A]; simp [uW,h1]
theorem p7 {tmps:Array ag} {r s:ResultVar} {v u:ag} (h:fn.results= #[r,s]) (h1:(jz tmps r).run P w= .ok v w) (A:(jz tmps s).run P w= .ok u w):(results fn tmps).run P w= .ok (.tuple #[v,u]) w:=by
 have C:(results fn tmps)=(do let vs ← #[r,s].mapM (jz tmps); pure (if h:vs.size=1 then vs[0] else .tuple vs)):=by
  unfold results; rw [h]; rfl
 rw [C]; simp [uW,h1,A]
theorem nv {r:ResultVar} {v:ag} (h:fn.results= #[r]) (h1:jg P N σ w r v) (A:R v w):fin P fn N R .ret σ w:=⟨v,FH h (iz h1),A⟩
theorem ph {r s:ResultVar} {v u:ag} (h:fn.results= #[r,s]) (h1:jg P N σ w r v) (A:jg P N σ w s u) (C:R (.tuple #[v,u]) w):fin P fn N R .ret σ w:=⟨_,p7 h (iz h1) (iz A),C⟩
end
end Go.Hb
end
section
namespace Go.Hb
def gv (P:aq) (N:Fm) (c:bt) (B:bc→Act→ah→Prop) (σ:Nat→ag) (w:ah):Prop :=c.wpIn (fe N.r) 0 P B (act N σ) w
def qb (N:Fm) (B:bc→Act→ah→Prop):bc→(Nat→ag)→ah→Prop :=fun e σ w=>B e (act N σ) w
section
variable {P:aq} {N:Fm} {B:bc→Act→ah→Prop} {σ:Nat→ag} {w:ah}
theorem eT {x y:bt} (h:gv P N x (Exit.then (y.wpIn (fe N.r) 0 P B) B) σ w):gv P N (.seq x y) B σ w:=wpIn_seq h
theorem bM {y:bt} (h:gv P N y B σ w):qb N (Exit.then (y.wpIn (fe N.r) 0 P B) B) .normal σ w:=h
theorem Fs {y:Act→ah→Prop} (h:qb N B .ret σ w):qb N (Exit.then y B) .ret σ w:=h
theorem FK (h:qb N B .ret σ w):gv P N .ret B σ w:=wpIn_ret h
theorem Gi {x y:bt} (A:(Nat→ag)→ah→Prop) (h:gv P N x (Exit.then (fun a w=> ∃ σ,a=act N σ∧A σ w) B) σ w) (I:∀ σ w,A σ w→gv P N y B σ w):gv P N (.seq x y) B σ w:=by
 refine wpIn_seq<|wpIn_mono h ?_;intro e a w C;cases e with
 | normal=>obtain ⟨σ,rfl,E⟩:=C; exact I _ _ E
 | _=>exact C
theorem vK {A:(Nat→ag)→ah→Prop} (h:A σ w):qb N (Exit.then (fun a w=> ∃ σ,a=act N σ∧A σ w) B) .normal σ w:=⟨σ,rfl,h⟩
theorem F6 {c:bt} {L:List (Nat×ag)} (h:Sl σ L) (A:gv P N c B (n9 σ L) w):gv P N c B σ w:=by rw [ue h] at A; exact A
theorem eN {c:bt} (h:bl P N c (qb N B) σ w):gv P N c B σ w:=by
 unfold bl at h;refine wpIn_mono h ?_;intro e a w A;cases e with
 | panic c=>obtain ⟨σ,rfl,C⟩:=A; exact C σ fun _ _=>rfl
 | outgrown=>exact A.elim
 | _=>obtain ⟨σ,rfl,C⟩:=A; exact C
end
theorem mU (fn:fc) (args:List ag) (F:List Nat) (hn:aX args.length fn.ntmps=true):({tmps:=args.toArray++lI (fn.ntmps - args.toArray.size) undef,defers:= []} :Act)=act ⟨fn.ntmps,[],F,none⟩ (cU args):=by
 have C:args.length≤fn.ntmps:=by simpa using hn
 refine oR J fun i=> ?_;rw [gF];simp only [cU,cg,dG];by_cases h1:i < args.length
 · rw [Af (by simpa using h1),if_pos U];simp [h1]
 · rw [Ag (by simpa using h1)];simp only [dG,Ai];by_cases A:i < fn.ntmps
   · rw [if_pos U,if_pos A,km U]; rfl
   · rw [if_neg U,if_neg A]
section
variable {P:aq} {n:Nat} {F:List Nat} {σ:Nat→ag} {w:ah} {fn:fc} {R:ag→ah→Prop}
end
section
variable {P:aq} {N:Fm} {σ:Nat→ag} {w:ah} {dst:Option Nat} {ty:an} {pos :String} {af:Array bX} {g:Option (Nat×Bool)} {x:aT} {K:(Nat→ag)→ah→Prop}
theorem Ch {e:an} {v:ag} (A:ev N σ x=v) (h1:v.oneCell'=true) (k:∀ b w',b=w.heap.size→Nw w w'→w'.heap[b]? =some (.cells [v].toArray e (0,0))→K (cV σ dst<|.pointer<|some ⟨b,0,none⟩) w'):
 bO P N ⟨dst,.box e x,ty,pos,af,g⟩ σ w K:=by
 refine kh (v:=fun b=> .pointer<|some ⟨b,0,none⟩) (ob:= .cells [v].toArray e (0,0)) ?_ k;have :=mF h1;simp [execOp,uI,A,this,newVar,newRow]
end
section
variable {F:Nat→Prop} {W W':ah} {B:Nat}
end
theorem BJ (N:Fm):∀ (l:List (Tmp×ag)) (σ:Nat→ag),l.foldl (fun t p=>t.setIfInBounds p.1 p.2) (act N σ).tmps=(act N<|l.foldl (fun s p=>a0 s p.1 p.2) σ).tmps:=by
 intro l
 induction l with
 | nil=>intro σ; rfl
 | cons p l ih=>
   intro σ;rw [oB,oB,← ih];congr 1;have :=congrArg Act.tmps<|dS N σ (some p.1) p.2;exact this
section
variable {P:aq} {N:Fm} {ops:Array ax} {Q:bc→(Nat→ag)→ah→Prop} {rest:List ax} {σ:Nat→ag} {w:ah} {d':Option Nat} {d:Nat} {op:Op} {ty:an} {pos :String} {af:Array bX} {v:ag}
end
end Go.Hb
end
section
namespace Go.Hb
def kA (P:aq) (f:dA) (args:Array ag) (w:ah) (R:ag→ah→Prop) (A:List PanicEntry→ah→Prop):Prop :=
 Calls P f args w fun e w'=>(∃ v,e= .returned v∧R v w')∨∃ c,e= .panicked c∧A c w'
def xj (P:aq) (fn:fc) (N:Fm) (R:ag→ah→Prop) (A:List PanicEntry→ah→Prop):bc→(Nat→ag)→ah→Prop
 | .normal,σ,w=> ∃ v,(results fn (act N σ).tmps).run P w= .ok v w∧R v w
 | .ret,σ,w=> ∃ v,(results fn (act N σ).tmps).run P w= .ok v w∧R v w
 | .panic c,_,w=>A c w
 | _,_,_=>False
theorem ny {P:aq} {fn:fc} {N:Fm} {R:ag→ah→Prop} {A:List PanicEntry→ah→Prop} {e:bc} {σ:Nat→ag} {w:ah} (h:fin P fn N R e σ w):xj P fn N R A e σ w:=by
 cases e <;> first | exact h | exact h.elim
theorem nt {P:aq} {f:dA} {N:Nat} {fn:fc} {c:bt} {args:List ag} {w:ah} {R:ag→ah→Prop} {I:List PanicEntry→ah→Prop} (L:P.funcs[f]? =some fn) (hb:fn.body=some c)
 (J:fn.ntmps=N) (hn:aX args.length N=true) (h:bl P ⟨N,[],[],none⟩ c (xj P fn ⟨N,[],[],none⟩ R I) (cU args) w):kA P f args.toArray w R I:=by
 subst J;refine calls_of_wp L hb ?_;rw [mU fn args [] hn];unfold bl at h;refine uH ?_<|wpIn_wide.1 h;intro e a w A;cases e with
 | normal=>obtain ⟨σ,rfl,v,hr,E⟩:=A; exact ⟨rfl,v,hr,.inl ⟨v,rfl,E⟩⟩
 | ret=>obtain ⟨σ,rfl,v,hr,E⟩:=A; exact ⟨rfl,v,hr,.inl ⟨v,rfl,E⟩⟩
 | exit id=>obtain ⟨σ,rfl,C⟩:=A; exact C.elim
 | goto l=>obtain ⟨σ,rfl,C⟩:=A; exact C.elim
 | panic c=>obtain ⟨σ,rfl,C⟩:=A; exact ⟨rfl,.inr ⟨c,rfl,C σ fun _ _=>rfl⟩⟩
 | outgrown=>exact A.elim
section
variable {P:aq} {N:Fm} {Q:bc→(Nat→ag)→ah→Prop} {σ:Nat→ag} {w:ah} {ops:Array ax} {rest:List ax} {dst:Option Nat} {ty:an} {pos :String} {af:Array bX} {g:Option (Nat×Bool)} {x:aT}
def lF (P:aq) (N:Fm) (o:ax) (σ:Nat→ag) (w:ah) (K:(Nat→ag)→ah→Prop) (A:List PanicEntry→ah→Prop):Prop :=
 fy P o (act N σ) w (fun a w=> ∃ σ,a=act N σ∧K σ w) (fun e a w=>match e with | .panic c=>a=act N σ∧A c w | _=>False)
theorem uv {o:ax} {K:(Nat→ag)→ah→Prop} {C:List PanicEntry→ah→Prop} {A:Act→ah→Prop} (h:lF P N o σ w K C) (L:∀ σ w,K σ w→A (act N σ) w) (hp:∀ c w',C c w'→∀ σ',(∀ i∈N.F,σ' i=σ i)→Q (.panic c) σ' w'):o.wp P (act N σ) w A (lift N Q):=by
 unfold lF at h;unfold fy at*;generalize (execOp (act N σ).eval o).run P w=r at h ⊢;have E:∀ a w,(∃ σ,a=act N σ∧K σ w)→A a w:=by rintro a w ⟨σ,rfl,h⟩; exact L _ _ h
 have I:∀ c (a:Act) w',(a=act N σ∧C c w')→lift N Q (.panic c) a w':=by rintro c a w' ⟨rfl,h⟩; exact ⟨σ,rfl,hp c w' h⟩
 cases r with
 | ok n w'=>
   cases n <;> simp only [gT] at h ⊢ <;>
    first
     | exact E _ _ h
     | exact iX h (fun e w'' he=>by
      cases e with
      | returned v=>exact E _ _ he
      | panicked c=>exact I _ _ _ ⟨rfl,he.2⟩
      | outgrown=>obtain ⟨_,_,J⟩:=he; exact J.elim)
     | exact qW h fun _ _ he=>E _ _ he
 | halt x w'=>cases x <;> simp only [gT] at h ⊢ <;> exact I _ _ _ ⟨rfl,h.2⟩
theorem dy {f:dA} {args:Array aT} {C:Array an} {L:List ag} {R:ag→ah→Prop} {A:List PanicEntry→ah→Prop} {K:(Nat→ag)→ah→Prop} (O:fB P f) (hr:kA P f L.toArray w R A) (I:args.toList.map (ev N σ)=L)
 (k:∀ v w',R v w'→K (cV σ dst v) w'):lF P N ⟨dst,.call ⟨.value (.func f),args,C⟩,ty,pos,af,g⟩ σ w K A:=by
 unfold lF fy;have hm:args.map (ev N σ)=L.toArray:=by rw [← I,← gR]
 have U:(execOp (ev N σ) ⟨dst,.call ⟨.value (.func f),args,C⟩,ty,pos,af,g⟩).run P w= .ok (.enter f L.toArray) w:=by
  have E:=O L.toArray w;simp [execOp,resolve,ev,ki,invoke,hm,E]
 rw [cW,U];simp only [gT];refine iX hr ?_;rintro e w' (⟨v,rfl,M⟩ | ⟨c,rfl,J⟩)
 · exact ⟨_,dS ..,k v w' M⟩
 · exact ⟨trivial,J⟩
theorem eP {o:ax} {A:List PanicEntry→ah→Prop} (hg:o.guard=none) (h:lF P N o σ w (fun σ w=>bD P N ops Q rest σ w) A) (hp:∀ c w',A c w'→∀ σ',(∀ i∈N.F,σ' i=σ i)→Q (.panic c) σ' w'):bD P N ops Q (o::rest) σ w:=by
 unfold bD wpList;rw [if_pos (eU o hg _)];refine .inl<|uv h (fun σ w C=> ?_) hp;unfold bD at C; exact C
theorem Fq {t:an} {v:ag} (A:ev N σ x= .iface t v) (hp:∀ σ',(∀ i∈N.F,σ' i=σ i)→Q (.panic [{v:= .iface t v,recovered:=false}]) σ' w):bD P N ops Q (⟨dst,.panic x,ty,pos,af,none⟩::rest) σ w:=by
 unfold bD wpList;rw [if_pos (eU _ rfl _)];refine .inl ?_;unfold fy;have hr:(execOp (ev N σ) ⟨dst,.panic x,ty,pos,af,none⟩).run P w= .halt (.panic<|.iface t v) w:=by
  simp [execOp,A,Instr.panic]
 rw [cW,hr];exact ⟨σ,J,hp⟩
theorem E1 {t:an} {d:TypeDesc} {v:ag} (hu:P.underlying t=some d) (A:(match d with | .interface _=>false | _=>true)=true) (C:ev N σ x=v):(execOp (ev N σ) ⟨dst,.makeInterface t x,ty,pos,af,g⟩).run P w= .ok (.value<|.iface t v) w:=by
 cases d <;> first | (cases A; done) | simp [execOp,Instr.makeInterface,C,ba hu]
def iN (P:aq) (t:an):Bool:=match P.underlying t with | some (.interface _)=>false | some _=>true | none=>false
theorem pJ {t:an} {v:ag} (h:iN P t=true) (A:ev N σ x=v):(execOp (ev N σ) ⟨dst,.makeInterface t x,ty,pos,af,g⟩).run P w= .ok (.value<|.iface t v) w:=by
 unfold iN at h;cases hd:P.underlying t with
 | none=>rw [hd] at h; cases h
 | some d=>rw [hd] at h; exact E1 hd (by cases d <;> first | rfl | cases h) A
theorem zC {xt a:an} {zv:ag} (hu:iN P a=true) (C:zeroV P a=some zv) (A:ev N σ x= .nilIface):(execOp (ev N σ) ⟨dst,.typeAssert x xt a true,ty,pos,af,g⟩).run P w= .ok (.value<|.tuple #[zv,.bool false]) w:=by
 unfold iN at hu;cases hd:P.underlying a with
 | none=>rw [hd] at hu; cases hu
 | some d=>rw [hd] at hu; cases d <;> first | (cases hu; done) | simp [execOp,AK,A,ba hd,z9 C]
theorem zB {xt a:an} {v:ag} (hu:iN P a=true) (A:ev N σ x= .iface a v):(execOp (ev N σ) ⟨dst,.typeAssert x xt a true,ty,pos,af,g⟩).run P w= .ok (.value<|.tuple #[v,.bool true]) w:=by
 unfold iN at hu;cases hd:P.underlying a with
 | none=>rw [hd] at hu; cases hu
 | some d=>rw [hd] at hu; cases d <;> first | (cases hu; done) | simp [execOp,AK,A,ba hd]
variable {S:ah→Prop} {fuel:Nat} {listed:Array Bool}
theorem DX {o:ax} {C:List PanicEntry→ah→Prop} (i:Nat) (hi:ops[i]? =some o) (hr:gK ops listed i=true) (hg:o.guard=none)
 (h:lF P N o σ w (fun σ w=>S w∧bS P N ops Q S fuel (listed.setIfInBounds i true) σ w) C) (hp:∀ c w',C c w'→∀ σ',(∀ i∈N.F,σ' i=σ i)→Q (.panic c) σ' w'):bS P N ops Q S (fuel+1) listed σ w:=by
 unfold bS at*;refine wpAnyH_all (rs:= [i]) (by simpa [gK] using hr) (by simp) ?_;intro k A;obtain rfl :k=i:=by simpa using A
 unfold wpOp;simp only [hi];rw [if_pos (eU _ hg _)];exact .inl<|uv h (fun σ w A=>A) hp
end
section
variable {P:aq} {N:Fm} {Q:bc→(Nat→ag)→ah→Prop} {σ:Nat→ag} {w:ah} {ops:Array ax} {S:ah→Prop} {fuel:Nat} {listed:Array Bool}
end
section
variable {P:aq} {N:Fm} {Q:bc→(Nat→ag)→ah→Prop} {σ:Nat→ag} {w:ah} {ops:Array ax} {S:ah→Prop} {fuel r:Nat} {listed:Array Bool}
theorem Ez {o:ax} {C:List PanicEntry→ah→Prop} (i:Nat) (hi:ops[i]? =some o) (hr:gK ops listed i=true) (hg:o.guard=none)
 (h:lF P N o σ w (fun σ w=>S w∧bN P N ops Q S r fuel (listed.setIfInBounds i true) σ w) C) (hp:∀ c w',C c w'→∀ σ',(∀ i∈N.F,σ' i=σ i)→Q (.panic c) σ' w'):bN P N ops Q S r (fuel+1) listed σ w:=by
 unfold bN at*;have E:dn .any ops listed= [i]:=by simpa [gK] using hr
 refine ⟨fun h0=>absurd (E ▸ h0) (by simp),fun k A=> ?_⟩;rw [E] at A;obtain rfl :k=i:=by simpa using A
 unfold wpOp;simp only [hi];rw [if_pos (eU _ hg _)];exact .inl<|uv h (fun σ w A=>⟨fun _=>A.1,A.2⟩) hp
end
abbrev jR (P:aq) (fn:fc) (R:ag→ah→Prop):bc→Act→ah→Prop :=bodyPostD P fn (fun e w'=> ∃ v,e= .returned v∧R v w')
theorem Dk {P:aq} {f:dA} {N:Nat} {fn:fc} {c:bt} {args:List ag} {w:ah} {R:ag→ah→Prop} (F:List Nat) (C:P.funcs[f]? =some fn) (hb:fn.body=some c)
 (A:fn.ntmps=N) (hn:aX args.length N=true) (h:gv P ⟨N,[],F,none⟩ c (jR P fn R) (cU args) w):bj P f args.toArray w R:=by
 subst A;refine calls_of_wp_defers C hb ?_;rw [mU fn args F hn];exact wpIn_wide.1 h
section
variable {P:aq} {n:Nat} {D:List Deferred} {F:List Nat} {σ:Nat→ag} {w:ah} {fn:fc} {R:ag→ah→Prop} {B:bc→Act→ah→Prop}
theorem DB {v:ag} (hr:(results fn (act ⟨n,[],F,none⟩ σ).tmps).run P w= .ok v w) (A:R v w):qb ⟨n,[],F,none⟩ (jR P fn R) .ret σ w:=⟨v,hr,v,rfl,A⟩
theorem EB:¬LetsOut (jR P fn R):=fun ⟨_,_,h⟩=>by obtain ⟨v,h,_⟩:=h; cases h
theorem jm {id d:Nat} {f:dA} (O:¬LetsOut B) {cs:Array aT} {I L:an} {p1 p2:String} {C E:Array bX} {y:bt} (A:Array ag) (V:cs.toList.map (ev ⟨n,[],F,none⟩ σ)=A.toList) (aa:d < n)
 (h:gv P ⟨n,[{target:= .fn (.func f) A,args:= #[]}],F,none⟩ y B (a0 σ d<|.func (.func f) #[] A) w):
 gv P ⟨n,[],F,none⟩ (.region id #[⟨some d,.makeFunc (.func f) #[] cs,I,p1,C,none⟩,⟨none,.defer ⟨.value (.tmp d),#[],#[]⟩,L,p2,E,none⟩] false) (Exit.then (y.wpIn (fe none) 0 P B) B) σ w:=by
 have Z:cs.map (ev ⟨n,[],F,none⟩ σ)=A:=oh.1<|by rw [gR]; exact V
 refine wpIn_region ?_;have U:¬LetsOut (Exit.then (y.wpIn (fe none) 0 P B) B):=fun ⟨a,w,h⟩=>O ⟨a,w,h⟩;refine sI (r:=none) U J _ _ _ ?_;show wpOps P _ _ [0,1] _ _;simp only [wpOps,jN,gA,gz];rw [if_pos (eU _ rfl _)];refine .inl ?_;unfold fy;have h1:(execOp (act ⟨n,[],F,none⟩ σ).eval ⟨some d,.makeFunc (.func f) #[] cs,I,p1,C,none⟩).run P w= .ok (.value<|.func (.func f) #[] A) w:=by
  rw [cW,mf,Z]; simp
 rw [h1];simp only [gT];rw [if_pos (eU _ rfl _),dS];refine .inl ?_;have M:(execOp (act ⟨n,[],F,none⟩<|cV σ (some d)<|.func (.func f) #[] A).eval ⟨none,.defer ⟨.value (.tmp d),#[],#[]⟩,L,p2,E,none⟩).run P w= .ok (.defer {target:= .fn (.func f) A,args:= #[]}) w:=by
  have ab:ev ⟨n,[],F,none⟩ (a0 σ d<|.func (.func f) #[] A) (.tmp d)= .func (.func f) #[] A:=by
   show cond (az d n) (a0 σ d _ d) undef=_;rw [show az d n=true from by simpa using aa];show a0 σ d _ d=_;unfold a0; simp
  rw [cW];show (execOp (ev ⟨n,[],F,none⟩<|a0 σ d<|.func (.func f) #[] A) _).run P w=_;simp [execOp,resolve,ab,ki]
 rw [M];exact h
end
theorem Fl {P:aq} {ops:Array ax} {Q:bc→Act→List Frame→ah→Prop} {cs:List Frame} (A:¬LetsOut fun e a w=>Q e a cs w):∀ (l:List Nat) (a:Act) (w:ah),wpOps P ops (fun e a w=>Q e a cs w) l a w→wpOpsS P ops Q l a cs w:=by
 intro l
 induction l with
 | nil=>exact fun _ _ h=>h
 | cons i l ih=>
   intro a w h;simp only [wpOps] at h;simp only [wpOpsS];cases ho:ops[i]? with
   | none=>simp only [ho] at h ⊢; exact ih a w h
   | some o=>
     simp only [ho] at h ⊢;by_cases hw:iB o (yielded ops a.tmps)=true
     · rw [if_pos hw] at h ⊢;rcases h with h | h
       · unfold fy at h;generalize (execOp a.eval o).run P w=x at h;cases x with
         | ok n w'=>
           cases n <;> simp only [gT] at h ⊢ <;>
            first
             | exact ih _ _ h
             | exact iX h fun e w'' he=>by cases e <;> first | exact ih _ _ he | exact he
             | exact qW h fun v w'' he=>ih _ _ he
         | halt x w'=>cases x <;> simp only [gT] at h ⊢ <;> exact h
       · exact absurd h.2 A
     · rw [if_neg hw] at h ⊢;exact ih _ _ h
theorem EE {P:aq} {ops:Array ax} {Q C:bc→Act→ah→Prop} (A:∀ e a w,Q e a w→C e a w) (E:¬LetsOut Q):∀ (l:List ax) (a:Act) (w:ah),wpList P ops Q l a w→wpList P ops C l a w:=by
 intro l
 induction l with
 | nil=>exact fun _ _ h=>A _ _ _ h
 | cons o l ih=>
   intro a w h;unfold wpList at h ⊢;split at h
   · rename_i hw;rw [if_pos hw];rcases h with h | h
     · left;unfold fy at h ⊢;generalize (execOp a.eval o).run P w=x at h;cases x with
       | ok n w'=>
         cases n <;> simp only [gT] at h ⊢ <;>
          first
           | exact ih _ _ h
           | exact iX h (fun e w'' he=>by
            cases e with
            | returned v=>exact ih _ _ he
            | panicked c=>exact A _ _ _ he
            | outgrown=>exact absurd he E)
           | exact qW h fun v w'' he=>ih _ _ he
       | halt x w'=>cases x <;> simp only [gT] at h ⊢ <;> exact A _ _ _ h
     · exact absurd h.2 E
   · rename_i hw;rw [if_neg hw]; exact ih _ _ h
theorem vD {P:aq} {f:dA} {fn:fc} {id N d:Nat} {ty:an} {pos :String} {af:Array bX} {rest:List ax} {y:bt} {args:List ag} {w:ah} {u I:FrameMode} {v:ag} {R:ah→Prop}
 (ae:P.funcs[f]? =some fn) (hb:fn.body=some (.seq (.region id (⟨some d,.call ⟨.builtin .recover,#[],#[]⟩,ty,pos,af,none⟩::rest).toArray false) y)) (ac:fn.ntmps=N) (hn:aX args.length N=true)
 (ai:∀ (C:Frame) (cs:List Frame),C.mode=u→(recoverD (C::cs)=some (v,{C with mode:=I} ::cs))∨(recoverD (C::cs)=none∧v= .nilIface∧I=u))
 (h:bD P ⟨N,[],[],none⟩ (⟨some d,.call ⟨.builtin .recover,#[],#[]⟩,ty,pos,af,none⟩::rest).toArray (fQ (fun σ w=>bl P ⟨N,[],[],none⟩ y (fin P fn ⟨N,[],[],none⟩ fun _ w=>R w) σ w)<|fin P fn ⟨N,[],[],none⟩ fun _ w=>R w) rest (a0 (cU args) d v) w):
 CallsD P f args.toArray u w fun e J w'=> ∃ v,e= .returned v∧J=I∧R w':=by
 subst ac;refine callsD_of_wpS ae hb ?_;intro C cs hu;rw [mU fn args [] hn];refine wpS_seq<|wpS_region ?_;have aj:kn (⟨some d,.call ⟨.builtin .recover,#[],#[]⟩,ty,pos,af,none⟩::rest).toArray.size=0::(List.range' 1 rest.length):=by
  rw [dG,cZ,Bl,List.range'_succ]
 rw [aj];simp only [wpOpsS,jN,gA];rw [if_pos (eU _ rfl _)];have ak:(execOp (act ⟨fn.ntmps,[],[],none⟩<|cU args).eval ⟨some d,.call ⟨.builtin .recover,#[],#[]⟩,ty,pos,af,none⟩).run P w= .ok .recover w:=by
  rw [cW];simp [execOp,resolve,invoke,builtin]
 rw [ak];simp only;obtain ⟨L,M⟩:∃ L,L=({C with mode:=I} ::cs:List Frame):=⟨_,rfl⟩
 have ad:∀ X:Act→List Frame→Prop,X ((act ⟨fn.ntmps,[],[],none⟩<|cU args).put (some d) v) L→
  (match recoverD (C::cs) with
   | some (v,O)=>X ((act ⟨fn.ntmps,[],[],none⟩<|cU args).put (some d) v) O
   | none=>X ((act ⟨fn.ntmps,[],[],none⟩<|cU args).put (some d) .nilIface) (C::cs)):=by
  intro X V;rcases ai C cs hu with h1 | ⟨h1,aa,ab⟩;rw [h1]; subst M; exact V;rw [h1]; subst aa ab;have :({C with mode:=I} :Frame)=C:=by subst hu; rfl
  rw [this] at M; subst M; exact V
 refine ad (fun a O=>wpOpsS P _ _ _ a O w) ?_;rw [dS];refine Fl ?_ _ _ _ ?_;rintro ⟨a,w,h⟩;simp only [Exit.thenS,bodyPostS] at h;obtain ⟨_,_,h,_⟩:=h; cases h;have h1:=wpOps_eq_wpList (P:=P) (ops:=(⟨some d,.call ⟨.builtin .recover,#[],#[]⟩,ty,pos,af,none⟩::rest).toArray) (Q:=fun e a w'=>Exit.thenS (Code.wpS P y (bodyPostS P fn C cs fun e J w'=> ∃ v,e= .returned v∧J=I∧R w')) (bodyPostS P fn C cs fun e J w'=> ∃ v,e= .returned v∧J=I∧R w') e a L w') rest 1 fun j=>by simp [rj]
 rw [h1];unfold bD at h;refine EE ?_ sS _ _ _ h;intro e a w' E;have Z:∀ (e:bc) (σ:Nat→ag) (w':ah),fin P fn ⟨fn.ntmps,[],[],none⟩ (fun _ w=>R w) e σ w'→bodyPostS P fn C cs (fun e J w'=> ∃ v,e= .returned v∧J=I∧R w') e (act ⟨fn.ntmps,[],[],none⟩ σ) L w':=by
  intro e σ w' A;cases e with
  | normal=>obtain ⟨v,hr,U⟩:=A; exact ⟨rfl,I,M,v,hr,v,rfl,rfl,U⟩
  | ret=>obtain ⟨v,hr,U⟩:=A; exact ⟨rfl,I,M,v,hr,v,rfl,rfl,U⟩
  | _=>exact A.elim
 cases e with
 | normal=>
   obtain ⟨σ,rfl,A⟩:=E;refine wpS_of_wp ?_;simp only [fQ] at A;unfold bl at A;refine uH ?_<|wpIn_wide.1 A;intro e a w' E;cases e with
   | panic c=>obtain ⟨σ,rfl,A⟩:=E; exact (A σ fun _ _=>rfl).elim
   | outgrown=>exact E.elim
   | _=>obtain ⟨σ,rfl,A⟩:=E; exact Z _ σ w' A
 | panic c=>obtain ⟨σ,rfl,A⟩:=E; exact (A σ fun _ _=>rfl).elim
 | outgrown=>exact E.elim
 | ret=>obtain ⟨σ,rfl,A⟩:=E; exact Z .ret σ w' A
 | exit i=>obtain ⟨σ,rfl,A⟩:=E; exact A.elim
 | goto i=>obtain ⟨σ,rfl,A⟩:=E; exact A.elim
section
variable {P:aq} {n:Nat} {F:List Nat} {σ:Nat→ag} {w:ah} {fn:fc} {R:ag→ah→Prop}
theorem DD {g:dA} {A:Array ag} {M:ah→Prop} (hu:(invoke (.fn (.func g) A) #[]).run P w= .ok (.enter g A) w)
 (I:CallsD P g A .returning w fun e L w'=> ∃ v,e= .returned v∧L= .returning∧M w') (E:∀ w',M w'→∃ v,(results fn (act ⟨n,[{target:= .fn (.func g) A,args:= #[]}],F,none⟩ σ).tmps).run P w'= .ok v w'∧R v w'):
 qb ⟨n,[{target:= .fn (.func g) A,args:= #[]}],F,none⟩ (jR P fn R) .ret σ w:=by
 refine leaves_cons (by simp) hu ?_;refine Av I ?_;rintro e O w' ⟨v,rfl,rfl,hm⟩;obtain ⟨v2,h1,C⟩:=E w' hm;exact ⟨v2,h1,v2,J,C⟩
theorem DE {g:dA} {A:Array ag} {M:ah→Prop} {v:ag} (hu:(invoke (.fn (.func g) A) #[]).run P w= .ok (.enter g A) w)
 (I:CallsD P g A (.panicking [{v:=v,recovered:=false}]) w fun e L w'=> ∃ x,e= .returned x∧L= .panicking [{v:=v,recovered:=true}]∧M w') (E:∀ w',M w'→∃ v,(results fn (act ⟨n,[{target:= .fn (.func g) A,args:= #[]}],F,none⟩ σ).tmps).run P w'= .ok v w'∧R v w'):
 qb ⟨n,[{target:= .fn (.func g) A,args:= #[]}],F,none⟩ (jR P fn R) (.panic [{v:=v,recovered:=false}]) σ w:=by
 refine leaves_cons (by simp) hu ?_;refine Av I ?_;rintro e O w' ⟨x,rfl,rfl,hm⟩;obtain ⟨v2,h1,C⟩:=E w' hm;exact ⟨v2,h1,v2,J,C⟩
end
end Go.Hb
end
section
namespace Go.Hb
abbrev Tl:=List<|List UInt8
def sD:Tl→List (UInt8×Tl)
 | []=> []
 | []::ts=>sD ts
 | (c::t)::ts=>match sD ts with
   | []=> [(c,[t])]
   | (c',g)::r=>if c=c' then (c,t::g)::r else (c,[t])::(c',g)::r
def Ea (A:Tl):Bool:=match A with | []::_=>true | _=>false
def Da (A:Tl):Tl:=match A with | []::r=>r | r=>r
structure VS where
 known:List Tl
 cR:List (Bool×List (UInt8×Nat))
def VS.add (s:VS) (A:Tl):VS:=⟨s.known++ [A],s.cR++ [(false,[])]⟩
end Go.Hb
namespace Go.Hb
end Go.Hb
namespace Go.Hb
abbrev Bz:=Bool×List (UInt8×Nat)
end Go.Hb
namespace Go.Hb
end Go.Hb
namespace Go.Hb
def Dj (A:List Tl) (p:UInt8×Tl):UInt8×Nat:=(p.1,A.idxOf p.2+1)
def enc (A:List Tl) (L:Tl):Bz:=(Ea L,(sD<|Da L).map (Dj A))
end Go.Hb
namespace Go.Hb
def nm (A:List Tl) (i:Nat):Tl:=A.getD (i - 1) []
end Go.Hb
namespace Go.Hb
end Go.Hb
namespace Go.Hb
end Go.Hb
end
