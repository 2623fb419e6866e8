/-
  Walks and plain laws that the law rests on, laid together. No conditions but those that each theorem names.
-/
import Derived.WalkKit
import Derived.OrdersHeld
import Derived.TacticsIn
import Derived.Lib.Strings
import Derived.Lib.UnsafeStr
import Derived.Laws.MakeOwn
import Derived.Laws.StructEq
import Derived.SliceStrings
import Derived.Carry
import Derived.JoinedCond
import Derived.ProofKit
import Derived.OpenShut
import Derived.Test.YtfgapieofinadaaGreatDoorRows
import Derived.Test.YtfgapieofinadaaGreatDoorChecked
import Derived.Maps.RangeRun
import Derived.Laws.OwnMore
import Derived.Lib.SliceRun
import Derived.RangeFuncFrom
import Derived.RangeFuncLeaves
import Derived.Recover
import Derived.OrdersIn
import Derived.Lib.Bytealg
import Derived.Lib.FrozenHead
import Derived.Deep.AppendSrc
import Derived.RangeFuncNested
import Derived.Stop.LaidErr
import Derived.Shelf.Slices.In.SortAlone
import Derived.Shelf.Slices.In.SortNone
import Derived.Sort.OwnSorted
import Derived.Sort.EveryDepth
set_option linter.unusedVariables false
set_option maxRecDepth 20000
set_option maxHeartbeats 1000000
open Array renaming ext_getElem?→tR,getD_eq_getD_getElem?→iW,getElem?_eq_getElem→nF,getElem?_eq_none→tT,getElem?_eq_some_iff→bJ,getElem?_setIfInBounds→qS,mem_toList_iff→tW,range→lz,replicate→pj,setIfInBounds_comm→yg,toArray_toList→yh,toList_append→Dk,toList_inj→pn,toList_map→gN
open BitVec renaming ofInt→iw
open Bool renaming and_eq_true→bf,and_eq_true_iff→po,eq_iff_iff→mm,false_eq_true→qU,noConfusion→dd,not_eq_true'→kC,or_eq_true→nH
open Go renaming Addr→aG,Code→bz,Edge→bM,Exit→ba,FuncId→dH,IntKind→bu,Oper→ar,Operand→aO,Program→an,TypeId→ak,Value→ag,World→ah
open Go.Addr renaming add→tZ
open Go.Builtin renaming append_→jX,firstCells→ub,lenOf→Dr,len_→yi
open Go.ByteArray renaming toList_eq→Dt
open Go.Calls renaming mono→gO
open Go.Conv renaming bytesToString→Dx,seenAt→Dy,unsafePointer→Dz
open Go.DataW renaming TrodAll→DA,trod→qV
open Go.Deferred renaming ofValue→kD
open Go.Fence renaming wide→eA
open Go.Instr renaming alloc→uc,buildSlice→ud,checkKey→kE,fill→jv,findAsking→nI,findKey→nJ,findNow→nK,indexAt→DF,loadAt→DG,lookup→DH,slice→qX,sliceAt→nL,sliceBound→nM,sliceBounds→kF,storeAt→DJ,sureAddr→pw
open Go.IntKind renaming i64→ue
open Go.Lib renaming run_append_own_string→DM
open Go.Next renaming value→qY
open Go.Obj.cells renaming injEq→DO
open Go.Op renaming bytesLess→ym,equal→mo,equalIn→ix,intArith→qZ,intCmp→pz,intDiv→yn,stringOp→nO
open Go.Oper renaming upon→iy,uponIn→pB,wp→gp
open Go.Program renaming built→DP
open Go.Proofs.Tryz renaming prog→aj
open Go.Region renaming Mode→nP,binds→dB,free_spec→yo,noSelect_spec→yp,ready→dV,wanted→kG
open Go.Result renaming andThen_ok→fR,ok→q6
open Go.Sem renaming run_bind→gq,run_ite→q7,run_pure→jw
open Go.Value renaming bool→bO,cells→nQ,int→bT,oneCell'→kH,ownBlock→cR,pointer→uf,slice→fC
open Go.Value.slice renaming injEq→kI
open Go.Value.string renaming inj→DR
open Go.World renaming cell?→DS,cells?_some→DT,freeze→lA,ownsRow_nil→iz,setCell→uh,shape?→yr
open Int renaming tdiv_eq_ediv_of_nonneg→DW
open List renaming all_cons→uj,all_eq_true→uk,any_eq_true→D3,append_assoc→gQ,append_nil→j0,drop_eq_nil_of_le→lB,eq_nil_of_length_eq_zero→jx,ext_getElem?→um,flatMap_cons→D9,flatten_cons→pC,foldl_cons→q9,getD_cons_zero→mr,getD_eq_getElem?_getD→cn,getElem?_append_left→eW,getElem?_append_right→eI,getElem?_cons_succ→gR,getElem?_cons_zero→fS,getElem?_eq_getElem→bR,getElem?_eq_none→nU,getElem?_eq_some_iff→cB,getElem?_map→eJ,getElem?_range→uo,getElem?_take→gr,idxOf_cons→Ec,idxOf_cons_self→Ed,length→lE,length_append→bB,length_cons→bA,length_map→lF,length_nil→fk,length_range→Eg,length_singleton→fE,length_take→bW,mapM_toArray→Ei,map_cons→dq,mem_append_left→Ej,mem_cons→dr,mem_map_of_mem→nV,mem_of_getElem?→jy,mem_singleton→gU,nil_append→lG,range→lH,replicate→eB,size_toArray→ej,sum_cons→ri,takeWhile_sublist→Eu,take_succ_cons→Ex,zipIdx_cons→Ez
open List.cons renaming inj→D4,injEq→iA
open Nat renaming add_assoc→fT,beq→aQ,ble→aZ,blt→av,div_add_mod→EB,eq_of_beq_eq_true→bQ,le_of_ble_eq_true→bH,le_refl→aT,le_trans→bS,lt_of_le_of_lt→EC,lt_of_lt_of_le→my,lt_or_ge→dW,lt_succ_self→mz,mul_comm→rp,succ_mul→pF,zero_add→cr,zero_mul→pH
open Option renaming bind_eq_some_iff→ry,bind_some→EH,isSome_iff_exists→rz,map_eq_some_iff→fU,map_some→dJ
open Option.some renaming injEq→bp
open Prod renaming fst→cg
open Prod.mk renaming injEq→kK
open UInt8 renaming ofNat→eK,toNat_lt→pJ
open Go.Proofs.Tryz
open Go.RowKit

namespace Go.Hb
theorem ab {p:Prop} (h:p:=by omega):p:=h
theorem ai {p:Prop} (h:p:=by kernel_rfl):p:=h
theorem aW {p:Prop} (h:p:=by decide):p:=h
theorem U {α:Sort _} {a:α} :a=a:=rfl
end Go.Hb
section
namespace Go.Hb
structure Fm where
 n:Nat
 D:List Deferred
 F:List Nat
 r:Option Nat
def aY (σ:Nat→ag) (d:Nat) (v:ag):Nat→ag:=fun i=>cond (aQ i d) v<|σ i
def cz (σ:Nat→ag):Option Nat→ag→Nat→ag
 | some d,v=>aY σ d v
 | none,_=>σ
def act (N:Fm) (σ:Nat→ag):Act:=⟨((lH N.n).map σ).toArray,N.D⟩
def ev (N:Fm) (σ:Nat→ag):aO→ag
 | .tmp t=>cond (av t N.n) (σ t) undef
 | .const v=>v
 | .global g=> .pointer<|some ⟨g,0,none⟩
 | .func f=> .func (.func f) #[] #[]
theorem ja (N:Fm) (σ:Nat→ag) (t:Nat):(act N σ).tmps[t]? =if t < N.n then some (σ t) else none:=by grind [act]
theorem de (N:Fm) (σ:Nat→ag):(act N σ).eval=ev N σ:=by
 funext x;cases x with
 | tmp t=>
   simp only [Act.eval,ev,iW,ja];by_cases h:t < N.n
   · rw [if_pos h,show av t N.n=true from by simpa using h]; rfl
   · rw [if_neg h,show av t N.n=false from by cases hx:av t N.n <;> simp_all [av,Nat.ble_eq] <;> omega]; rfl
 | _=>rfl
theorem rE {a b:Act} (A:a.defers=b.defers) (C:∀ i:Nat,a.tmps[i]? =b.tmps[i]?):a=b:=by
 cases a; cases b;simp only at A C;subst A;congr 1;exact tR C
theorem eC (N:Fm) (σ:Nat→ag) (dst:Option Nat) (v:ag):(act N σ).put dst v=act N (cz σ dst v):=by
 cases dst with
 | none=>rfl
 | some d=>
   refine rE U fun i=> ?_;have h0:((act N σ).put (some d) v).tmps=(act N σ).tmps.setIfInBounds d v:=rfl;rw [h0,qS,ja,ja];have C:(act N σ).tmps.size=N.n:=by simp [act]
   simp only [cz,aY];by_cases A:i=d
   · subst A;rw [C];have hb:aQ i i=true :=by simp
     by_cases h:i < N.n
     · rw [if_pos rfl,if_pos h,if_pos h,hb]; rfl
     · rw [if_pos rfl,if_neg h,if_neg h]
   · rw [if_neg (fun e=>A e.symm)];have hb:aQ i d=false :=by
      cases hx:aQ i d
      · rfl
      · exact absurd (bQ hx) A
     rw [hb]; rfl
theorem mi {σ:Nat→ag} {i:Nat} {v:ag} (h:σ i=v):aY σ i v=σ:=by grind [aY,aQ,bQ]
def lift (N:Fm) (Q:ba→(Nat→ag)→ah→Prop):ba→Act→ah→Prop
 | .panic c,a,w=> ∃ σ,a=act N σ∧∀ σ',(∀ i∈N.F,σ' i=σ i)→Q (.panic c) σ' w
 | .outgrown,_,_=>False
 | e,a,w=> ∃ σ,a=act N σ∧Q e σ w
def fe:Option Nat→Fence
 | none=>eA
 | some l=>eA.inRound l
theorem mO (r:Option Nat):(fe r).round=r:=by cases r <;> rfl
theorem ka (r:Option Nat) (f:dH):(fe r).fn f:=by cases r <;> trivial
theorem mN (r:Option Nat):(fe r).depth=none:=by cases r <;> rfl
theorem sc {r:Option Nat} {n:Nat} {P:an} {f:dH} {args:Array ag} {w:ah} {R:Ending→ah→Prop} (h:Calls P f args w R):CallsIn (fe r) n P f args w R:=by
 cases r
 · exact callsIn_wide.2 h
 · exact (callsIn_wide (n:=n)).2 h
theorem Aa {r:Option Nat} {n:Nat} {P:an} {row:String} {args:Array ag} {w:ah} {R:ag→ah→Prop} (h:Rows P row args w R):RowsIn (fe r) n P row args w R:=fun c cs _=>by
 obtain ⟨v,w',C,A⟩:=h c cs;refine ⟨v,w',C,?_⟩;cases r
 · exact stepsIn_wide.2 A
 · exact stepsIn_wide.2 A
def wE (ops:List ar):Bool:=ops.all fun o=>match o.op with | .defer _=>false | _=>true
def km (r:Option Nat) (ops:List ar):Bool:=match r with | none=>true | some _=>wE ops
theorem JV {l:List ar} (h:wE l=true):∀ o∈l,∀ c,o.op≠.defer c:=by grind [wE]
theorem vO {r:Option Nat} {P:an} {ops:Array ar} {Q:ba→Act→ah→Prop} (A:¬LetsOut Q) (hr:km r ops.toList=true):∀ (l:List Nat) (a:Act) (w:ah),wpOps P ops Q l a w→wpOpsIn (fe r) 0 P ops Q l a w:=by
 intro l
 induction l with
 | nil=>exact fun _ _ h=>h
 | cons i l ih=>
   intro a w h;simp only [wpOps] at h;simp only [wpOpsIn];cases ho:ops[i]? with
   | none=>simp only [ho] at h ⊢; exact ih a w h
   | some o=>
     simp only [ho] at h ⊢;by_cases hw:kG o (yielded ops a.tmps)=true
     · rw [if_pos hw] at h ⊢;rcases h with h | h
       · refine ⟨fun f _=>ka r f,?_⟩;rw [mO];have C:o.semAt r a.eval=execOp a.eval o:=by
          cases r with
          | none=>rfl
          | some k=>exact Oper.semAt_eq _ _ _<|JV hr o<|tW.2<|Array.mem_of_getElem? ho
         rw [C];unfold gp at h;generalize (execOp a.eval o).run P w=x at h;cases x with
         | ok n w'=>
           cases n <;> simp only [iy,pB] at h ⊢ <;>
            first
             | exact ih _ _ h
             | (refine ⟨fun h0=>(by rw [mN] at h0; cases h0),CallsIn.mono (sc h) fun e w'' he=> ?_⟩
                cases e <;> first | exact ih _ _ he | exact he)
             | exact ⟨fun h0=>(by rw [mN] at h0; cases h0),RowsIn.mono (Aa h) fun v w'' he=>ih _ _ he⟩
         | halt x w'=>cases x <;> simp only [iy,pB] at h ⊢ <;> exact h
       · exact absurd h.2 A
     · rw [if_neg hw] at h ⊢;exact ⟨fun f _=>ka r f,ih _ _ h⟩
def bg (P:an) (N:Fm) (c:bz) (Q:ba→(Nat→ag)→ah→Prop) (σ:Nat→ag) (w:ah):Prop :=
 c.wpIn (fe N.r) 0 P (lift N Q) (act N σ) w
def bK (P:an) (N:Fm) (ops:Array ar) (Q:ba→(Nat→ag)→ah→Prop) (l:List ar) (σ:Nat→ag) (w:ah):Prop :=
 wpList P ops (lift N Q) l (act N σ) w
def gi (K:(Nat→ag)→ah→Prop) (Q:ba→(Nat→ag)→ah→Prop):ba→(Nat→ag)→ah→Prop
 | .normal,σ,w=>K σ w
 | e,σ,w=>Q e σ w
def kW (id:Nat) (Q:ba→(Nat→ag)→ah→Prop):ba→(Nat→ag)→ah→Prop
 | .exit A,σ,w=>if A=id then Q .normal σ w else Q (.exit A) σ w
 | e,σ,w=>Q e σ w
section
variable {P:an} {N:Fm} {Q:ba→(Nat→ag)→ah→Prop} {σ:Nat→ag} {w:ah} {K:(Nat→ag)→ah→Prop}
theorem Jq {Q C:ba→(Nat→ag)→ah→Prop} (h:∀ e σ w,Q e σ w→C e σ w) (e:ba) (a:Act) (w:ah):lift N Q e a w→lift N C e a w:=by
 cases e <;> first | exact fun h=>h.elim | exact fun ⟨σ,ha,A⟩=>⟨σ,ha,h _ _ _ A⟩ | exact fun ⟨σ,ha,A⟩=>⟨σ,ha,fun σ' E=>h _ _ _<|A σ' E⟩
theorem C9 {A:ba→(Nat→ag)→ah→Prop} {c:bz} (h:∀ e σ w,Q e σ w→A e σ w) (C:bg P N c Q σ w):bg P N c A σ w:=
 wpIn_mono C (Jq h)
theorem tn (h:K σ w):gi K Q .normal σ w:=h
theorem te (id:Nat) (h:Q (.exit id) σ w):gi K Q (.exit id) σ w:=h
theorem tr (h:Q .ret σ w):gi K Q .ret σ w:=h
theorem bn {id:Nat} (h:Q .normal σ w):kW id Q .normal σ w:=h
theorem be {id:Nat} (h:Q .normal σ w):kW id Q (.exit id) σ w:=by simpa only [kW,if_true] using h
theorem Fp {id A:Nat} (C:A≠id) (h:Q (.exit A) σ w):kW id Q (.exit A) σ w:=by simpa only [kW,if_neg C] using h
theorem br {id:Nat} (h:Q .ret σ w):kW id Q .ret σ w:=h
theorem sq {x y:bz} (h:∀ K:(Nat→ag)→ah→Prop,(∀ σ w,bg P N y Q σ w→K σ w)→bg P N x (gi K Q) σ w):bg P N (.seq x y) Q σ w:=by
 refine wpIn_seq<|wpIn_mono (h (fun σ w=>bg P N y Q σ w) fun _ _ h=>h) ?_;intro e a w A;cases e with
 | normal=>obtain ⟨σ,rfl,C⟩:=A; exact C
 | panic c=>exact A
 | outgrown=>exact A
 | _=>obtain ⟨σ,rfl,C⟩:=A; exact ⟨σ,rfl,C⟩
theorem lu {x y:bz} (A:(Nat→ag)→ah→Prop) (h:bg P N x (gi A Q) σ w) (I:∀ σ w,A σ w→bg P N y Q σ w):bg P N (.seq x y) Q σ w:=
 sq fun _ E=>C9 (fun e _ _ C=>by cases e <;> first | exact E _ _ (I _ _ C) | exact C) h
theorem ct {c:aO} {x y:bz} (A:ev N σ c= .bool true) (h:bg P N x Q σ w):bg P N (.cond c x y) Q σ w:=
 wpIn_cond_true (by rw [de]; exact A) h
theorem cf {c:aO} {x y:bz} (A:ev N σ c= .bool false) (h:bg P N y Q σ w):bg P N (.cond c x y) Q σ w:=
 wpIn_cond_false (by rw [de]; exact A) h
theorem cb {c:aO} {x y:bz} {b:Bool} (A:ev N σ c= .bool b) (E:b=true→bg P N x Q σ w) (C:b=false→bg P N y Q σ w):bg P N (.cond c x y) Q σ w:=by
 cases b
 · exact cf A<|C U
 · exact ct A<|E U
theorem cd {c:aO} {x y:bz} {p:Prop} [Decidable p] (A:ev N σ c= .bool (decide p)) (E:p→bg P N x Q σ w) (C:¬p→bg P N y Q σ w):bg P N (.cond c x y) Q σ w:=by grind [cb]
theorem aq {id:Nat} {c:bz} (h:bg P N c (kW id Q) σ w):bg P N (.block id c) Q σ w:=by
 refine wpIn_block<|wpIn_mono h ?_;intro e a w C;cases e with
 | panic c=>exact C
 | outgrown=>exact C
 | exit E=>
   obtain ⟨σ,rfl,A⟩:=C;simp only [kW,Exit.inBlock] at A ⊢;split
   · rename_i e; rw [if_pos e] at A; exact ⟨σ,rfl,A⟩
   · rename_i e; rw [if_neg e] at A; exact ⟨σ,rfl,A⟩
 | _=>obtain ⟨σ,rfl,A⟩:=C; exact ⟨σ,rfl,A⟩
theorem ext {id:Nat} (h:Q (.exit id) σ w):bg P N (.exit id) Q σ w:=wpIn_exit ⟨σ,rfl,h⟩
theorem Cn (h:Q .normal σ w):bg P N .skip Q σ w:=wpIn_skip ⟨σ,rfl,h⟩
theorem rt (h:Q .ret σ w):bg P N .ret Q σ w:=wpIn_ret ⟨σ,rfl,h⟩
theorem fx {c:bz} {v:ag} (i:Nat) (h:σ i=v) (A:bg P N c Q (aY σ i v) w):bg P N c Q σ w:=by rw [mi h] at A; exact A
def Sl (σ:Nat→ag) (L:List (Nat×ag)):Prop :=L.map (fun p=>σ p.1)=L.map (fun p=>p.2)
def qO (σ:Nat→ag):List (Nat×ag)→Nat→ag
 | []=>σ
 | p::L=>aY (qO σ L) p.1 p.2
theorem xO {σ:Nat→ag} :∀ {L:List (Nat×ag)},Sl σ L→qO σ L=σ
 | [],_=>rfl
 | p::L,h=>by
   have A:σ p.1=p.2:=(D4 h).1;have C:Sl σ L:=(D4 h).2;rw [qO,xO C,mi A]
theorem cH {c:bz} {L:List (Nat×ag)} (h:Sl σ L) (A:bg P N c Q (qO σ L) w):bg P N c Q σ w:=by rw [xO h] at A; exact A
theorem lp {c:bz} (L:Nat→(Nat→ag)→ah→Prop) (n:Nat) (h0:L n σ w)
 (h:∀ n σ w,L n σ w→bg P N c (gi (fun σ' w'=> ∃ m,m < n∧L m σ' w') Q) σ w):bg P N (.loop c) Q σ w:=by
 intro b k cs ai hb hr;have key:∀ n σ w,L n σ w→
  ∃ e M w',lift N Q e M w'∧ArrivesIn (Machine.fenced P<|fe N.r) P (lone (b.atR (act N σ) (.code c:: .inLoop c::k)) cs w) b k cs e M w':=by
  intro n
  induction n using Nat.strongRecOn with
  | _ n ih=>
    intro σ w ab;obtain ⟨e,O,J,I,C⟩:=h n σ w ab b (.inLoop c::k) cs ai hb hr;cases e with
    | normal=>
      obtain ⟨A,rfl,m,hm,ac⟩:=I;obtain ⟨aa,V,aj,ae,ad⟩:=ih m hm A J ac;exact ⟨aa,V,aj,ae,.of_steps (StepsIn.trans C<|.one (fenced_calm hb hr U) stepR_inLoop) ad⟩
    | exit id=>obtain ⟨A,rfl,E⟩:=I; exact ⟨.exit id,act N A,J,⟨A,rfl,E⟩,.pass (x:= .inLoop c) rfl (fun _ _=> .inl<|by simp) C⟩
    | goto l=>obtain ⟨A,rfl,E⟩:=I; exact ⟨.goto l,act N A,J,⟨A,rfl,E⟩,.pass (x:= .inLoop c) rfl (fun _ _=> .inl<|by simp) C⟩
    | ret=>obtain ⟨A,rfl,E⟩:=I; exact ⟨.ret,act N A,J,⟨A,rfl,E⟩,.pass (x:= .inLoop c) rfl (fun _ _=> .inl<|by simp) C⟩
    | panic Z=>exact ⟨.panic Z,O,J,I,.pass (x:= .inLoop c) rfl (fun _ _=> .inl<|by simp) C⟩
    | outgrown=>exact I.elim
 obtain ⟨e,M,w',E,C⟩:=key _ σ w h0;exact ⟨e,M,w',E,.of_steps (.one (fenced_calm hb hr U) stepR_loop) C⟩
def bI (P:an) (N:Fm) (o:ar) (σ:Nat→ag) (w:ah) (K:(Nat→ag)→ah→Prop):Prop :=
 gp P o (act N σ) w (fun a w=> ∃ σ,a=act N σ∧K σ w) (fun _ _ _=>False)
theorem MN {o:ar} {a:Act} {K C:Act→ah→Prop} {Q:ba→Act→ah→Prop} (h:∀ a w,K a w→C a w)
 (r:Result Next) (A:o.upon P a K (fun _ _ _=>False) r):o.upon P a C Q r:=by
 cases r with
 | ok n w'=>
   cases n <;> simp only [iy] at A ⊢ <;>
    first
     | exact h _ _ A
     | exact gO A (fun e w'' he=>by
      cases e with
      | returned v=>exact h _ _ he
      | panicked c=>exact he.elim
      | outgrown=>obtain ⟨_,_,E⟩:=he; exact E.elim)
     | exact Rows.mono A fun _ _ he=>h _ _ he
 | halt x w'=>cases x <;> simp only [iy] at A ⊢
theorem qP {K:(Nat→ag)→ah→Prop} {A:Act→ah→Prop} {Q:ba→Act→ah→Prop} {o:ar} (h:bI P N o σ w K) (E:∀ σ w,K σ w→A (act N σ) w):o.wp P (act N σ) w A Q:=by
 unfold bI at h;unfold gp at*;exact MN (fun a w ⟨σ,ha,C⟩=>by subst ha; exact E _ _ C) _ h
theorem Db {K A:(Nat→ag)→ah→Prop} {o:ar} (h:bI P N o σ w K) (E:∀ σ w,K σ w→A σ w):bI P N o σ w A:=
 qP h (fun σ w C=>⟨σ,rfl,E σ w C⟩)
variable {ops:Array ar} {rest:List ar} {d:Nat} {op:Op} {ty:ak} {pos :String} {af:Array bM} {d':Option Nat} {v:ag} {o:ar}
theorem tL (A:kG o (yielded ops (act N σ).tmps)=true) (h:bI P N o σ w (fun σ w=>bK P N ops Q rest σ w)):bK P N ops Q (o::rest) σ w:=by
 unfold bK wpList;rw [if_pos A];exact .inl<|qP h fun _ _ C=>C
theorem iu {K:(Nat→ag)→ah→Prop} {w':ah} (hr:(execOp (ev N σ) o).run P w= .ok (.value v) w') (A:K (cz σ o.dst v) w'):bI P N o σ w K:=by
 unfold bI gp;rw [de,hr];exact ⟨_,eC ..,A⟩
theorem fj (o:ar) (A:o.guard=none) (y:Nat→Option Bool):kG o y=true :=by simp [kG,A]
def dL (ops:Array ar) (j:Nat):Option Nat:=(ops[j]?).bind (·.dst)
theorem mj {j t:Nat} {want b:Bool} (E:o.guard=some (j,want)) (A:dL ops j=some t) (I:av t N.n=true) (J:σ t= .bool b):
 kG o (yielded ops (act N σ).tmps)=(b==want):=by
 have C:yielded ops (act N σ).tmps j=some b:=by
  unfold yielded;unfold dL at A;rw [A];simp only [EH,ja];rw [if_pos (my (mz t)<|bH I),J]
 simp only [kG,E,C];cases b <;> cases want <;> rfl
theorem xY {j t:Nat} {want:Bool} (E:o.guard=some (j,want)) (A:dL ops j=some t) (I:av t N.n=true) (J:σ t=undef):
 kG o (yielded ops (act N σ).tmps)=false :=by
 have C:yielded ops (act N σ).tmps j=none:=by
  unfold yielded;unfold dL at A;rw [A];simp only [EH,ja];rw [if_pos (my (mz t)<|bH I),J]; rfl
 simp only [kG,E,C];rfl
theorem p (h:(execOp (ev N σ) ⟨some d,op,ty,pos,af,none⟩).run P w= .ok (.value v) w) (k:bK P N ops Q rest (aY σ d v) w):
 bK P N ops Q (⟨some d,op,ty,pos,af,none⟩::rest) σ w:=
 tL (fj _ rfl _) (iu h k)
theorem pg {j t:Nat} {want:Bool} (A:dL ops j=some t) (C:av t N.n=true) (E:σ t= .bool want)
 (h:(execOp (ev N σ) ⟨some d,op,ty,pos,af,some (j,want)⟩).run P w= .ok (.value v) w) (k:bK P N ops Q rest (aY σ d v) w):
 bK P N ops Q (⟨some d,op,ty,pos,af,some (j,want)⟩::rest) σ w:=
 tL (by rw [mj rfl A C E]; cases want <;> rfl) (iu h k)
theorem sk {j t:Nat} {want b:Bool} (A:dL ops j=some t) (C:av t N.n=true) (E:σ t= .bool b) (hb:(b==want)=false)
 (k:bK P N ops Q rest (aY σ d undef) w):bK P N ops Q (⟨some d,op,ty,pos,af,some (j,want)⟩::rest) σ w:=by
 unfold bK wpList;rw [if_neg (by rw [mj rfl A C E,hb]; simp),eC];exact k
theorem Co {j t:Nat} {want:Bool} (A:dL ops j=some t) (C:av t N.n=true) (E:σ t=undef)
 (k:bK P N ops Q rest (aY σ d undef) w):bK P N ops Q (⟨some d,op,ty,pos,af,some (j,want)⟩::rest) σ w:=by
 unfold bK wpList;rw [if_neg (by rw [xY rfl A C E]; simp),eC];exact k
theorem e (h:bI P N ⟨d',op,ty,pos,af,none⟩ σ w (fun σ w=>bK P N ops Q rest σ w)):bK P N ops Q (⟨d',op,ty,pos,af,none⟩::rest) σ w:=
 tL (fj _ rfl _) h
theorem eg {j t:Nat} {want:Bool} (A:dL ops j=some t) (C:av t N.n=true) (E:σ t= .bool want)
 (h:bI P N ⟨d',op,ty,pos,af,some (j,want)⟩ σ w (fun σ w=>bK P N ops Q rest σ w)):bK P N ops Q (⟨d',op,ty,pos,af,some (j,want)⟩::rest) σ w:=by grind [tL,mj]
theorem nl (h:Q .normal σ w):bK P N ops Q [] σ w:=⟨σ,rfl,h⟩
theorem vW:¬LetsOut (lift N Q):=fun ⟨_,_,h⟩=>h
theorem rg {id:Nat} {l:List ar} (hr:km N.r l=true) (h:bK P N l.toArray Q l σ w):bg P N (.region id l.toArray false) Q σ w:=by
 refine wpIn_region<|vO vW hr _ _ _ ?_;have A:=wpOps_eq_wpList (P:=P) (ops:=l.toArray) (Q:=lift N Q) l 0 fun j=>by simp
 rw [List.range_eq_range',ej,A];exact h
theorem gs {l:List ar} {t:Nat} {q:Prop} [Decidable q] (h:σ t= .bool (decide q)) (E:q→bK P N ops Q l (aY σ t<|.bool true) w) (C:¬q→bK P N ops Q l (aY σ t<|.bool false) w):bK P N ops Q l σ w:=by
 by_cases A:q
 · have :=E A; rwa [mi (by rw [h,decide_eq_true A])] at this
 · have :=C A; rwa [mi (by rw [h,decide_eq_false A])] at this
theorem gb {l:List ar} {t:Nat} {b:Bool} (h:σ t= .bool b) (C:b=true→bK P N ops Q l (aY σ t<|.bool true) w) (A:b=false→bK P N ops Q l (aY σ t<|.bool false) w):bK P N ops Q l σ w:=by
 cases b
 · have :=A rfl; rwa [mi h] at this
 · have :=C rfl; rwa [mi h] at this
def cm (P:an) (N:Fm) (ops:Array ar) (Q:ba→(Nat→ag)→ah→Prop) (S:ah→Prop) (fuel:Nat) (listed:Array Bool) (σ:Nat→ag) (w:ah):Prop :=
 wpAnyH P .any ops (lift N Q) S fuel listed (act N σ) w
variable {S:ah→Prop} {fuel:Nat} {listed:Array Bool}
theorem yV {id:Nat} {l:List ar} (hr:km N.r l=true) (hm:P.follows .mixedOrders=true) (h:wpAny P .any l.toArray (lift N Q) l.toArray.size (pj l.toArray.size false) (act N σ) w.drew):bg P N (.region id l.toArray true) Q σ w:=by
 refine wpIn_region_draw fun t=>vO vW hr _ _ _ ?_;simp only [Region.schedule,hm,Bool.true_or,if_true];exact wpAny_sound _ t _ _ _ h
theorem bD {id:Nat} {l:List ar} (S:ah→Prop) (hr:km N.r l=true) (hm:P.follows .mixedOrders=true) (A:S w.drew) (h:cm P N l.toArray Q S l.length (pj l.length false) σ w.drew):bg P N (.region id l.toArray true) Q σ w:=
 yV hr hm (wpAny_of_held _ _ _ _<|by rw [ej]; exact h)
def wP (F:List Nat) (d:Option Nat):Bool:=match d with | some d=> !(F.contains d) | none=>true
def et (F:List Nat) (ops:Array ar) (listed:Array Bool) (i:Nat):Bool:=
 Region.noSelect ops && Region.free .any ops listed i && (dV .any ops listed).contains i && wP F ((ops[i]?).bind (·.dst))
theorem m8 {d:Option Nat} {v:ag} (C:wP N.F d=true) (c:List PanicEntry) (a:Act) (w:ah):lift N Q (.panic c) (a.put d v) w→lift N Q (.panic c) a w:=by
 rintro ⟨σ,ha,h⟩;cases d with
 | none=>exact ⟨σ,ha,h⟩
 | some d=>
   have M:a.tmps.size=N.n:=by
    have :=congrArg (fun x:Act=>x.tmps.size) ha;simpa [Act.put,act] using this
   have I:a.defers=N.D:=congrArg (fun x:Act=>x.defers) ha;have J:∀ i:Nat,i≠d→a.tmps[i]? =if i < N.n then some (σ i) else none:=fun i hi=>by
    have A:(a.put (some d) v).tmps[i]? =a.tmps[i]? :=by
     show (a.tmps.setIfInBounds d v)[i]? =_;rw [qS,if_neg (fun e=>hi e.symm)]
    rw [← A,ha,ja]
   refine ⟨fun i=>if i < N.n then a.tmps.getD i undef else σ i,rE I fun i=> ?_,fun σ' E=>h σ' fun i hi=> ?_⟩
   · rw [ja];by_cases A:i < N.n
     · rw [if_pos A,if_pos A,iW,nF ab]; rfl
     · rw [if_neg A,tT ab]
   · have L:i≠d:=by
      rintro rfl;simp only [wP,kC,List.contains_eq_mem,decide_eq_false_iff_not] at C;exact C hi
     rw [E i hi];by_cases A:i < N.n
     · simp only [if_pos A];rw [iW,J i L,if_pos A]; rfl
     · simp only [if_neg A]
theorem hp (i:Nat) (hi:ops[i]? =some ⟨some d,op,ty,pos,af,none⟩) (A:et N.F ops listed i=true)
 (E:∀ w,S w→(execOp (ev N σ) ⟨some d,op,ty,pos,af,none⟩).run P w= .ok (.value v) w) (C:S w)
 (k:cm P N ops Q S fuel (listed.setIfInBounds i true) (aY σ d v) w):cm P N ops Q S (fuel+1) listed σ w:=by
 simp only [et,bf] at A;refine wpAnyH_take hi A.1.1.1 A.1.1.2 A.1.2 (fun c a w=>m8 (by have :=A.2; rwa [hi] at this) c a w) (.inl ⟨fj _ rfl _,fun w C=> ?_⟩) C ?_ (v:=v)
 · rw [de]; exact E w C
 · rw [eC]; exact k
theorem Ay (i:Nat) {j t:Nat} {want:Bool} (hi:ops[i]? =some ⟨some d,op,ty,pos,af,some (j,want)⟩) (A:et N.F ops listed i=true)
 (E:dL ops j=some t) (I:av t N.n=true) (J:σ t= .bool want)
 (L:∀ w,S w→(execOp (ev N σ) ⟨some d,op,ty,pos,af,some (j,want)⟩).run P w= .ok (.value v) w) (C:S w)
 (k:cm P N ops Q S fuel (listed.setIfInBounds i true) (aY σ d v) w):cm P N ops Q S (fuel+1) listed σ w:=by
 simp only [et,bf] at A;refine wpAnyH_take hi A.1.1.1 A.1.1.2 A.1.2 (fun c a w=>m8 (by have :=A.2; rwa [hi] at this) c a w) (.inl ⟨by rw [mj U E I J]; cases want <;> rfl,fun w C=> ?_⟩) C ?_ (v:=v)
 · rw [de]; exact L w C
 · rw [eC]; exact k
theorem Az (i:Nat) {j t:Nat} {want b:Bool} (hi:ops[i]? =some ⟨some d,op,ty,pos,af,some (j,want)⟩) (A:et N.F ops listed i=true)
 (E:dL ops j=some t) (I:av t N.n=true) (J:σ t= .bool b) (hb:(b==want)=false) (C:S w)
 (k:cm P N ops Q S fuel (listed.setIfInBounds i true) (aY σ d undef) w):cm P N ops Q S (fuel+1) listed σ w:=by
 simp only [et,bf] at A;refine wpAnyH_take hi A.1.1.1 A.1.1.2 A.1.2 (fun c a w=>m8 (by have :=A.2; rwa [hi] at this) c a w) (.inr ⟨by rw [mj U E I J,hb],U⟩) C ?_ (v:=undef);rw [eC]; exact k
theorem IF (i:Nat) {j t:Nat} {want:Bool} (hi:ops[i]? =some ⟨some d,op,ty,pos,af,some (j,want)⟩) (A:et N.F ops listed i=true)
 (E:dL ops j=some t) (I:av t N.n=true) (J:σ t=undef) (C:S w)
 (k:cm P N ops Q S fuel (listed.setIfInBounds i true) (aY σ d undef) w):cm P N ops Q S (fuel+1) listed σ w:=by
 simp only [et,bf] at A;refine wpAnyH_take hi A.1.1.1 A.1.1.2 A.1.2 (fun c a w=>m8 (by have :=A.2; rwa [hi] at this) c a w) (.inr ⟨xY U E I J,U⟩) C ?_ (v:=undef);rw [eC]; exact k
def jn (ops:Array ar) (listed:Array Bool) (i:Nat):Bool:=(dV .any ops listed)== [i]
theorem he (i:Nat) (hi:ops[i]? =some ⟨d',op,ty,pos,af,none⟩) (hr:jn ops listed i=true)
 (h:bI P N ⟨d',op,ty,pos,af,none⟩ σ w (fun σ w=>S w∧cm P N ops Q S fuel (listed.setIfInBounds i true) σ w)):cm P N ops Q S (fuel+1) listed σ w:=by
 refine wpAnyH_all (rs:= [i]) (by simpa [jn] using hr) (by simp) ?_;intro k A;obtain rfl :k=i:=by simpa using A
 unfold wpOp;simp only [hi];rw [if_pos (fj _ rfl _)];exact .inl<|qP h fun _ _ A=>A
theorem Ax (i:Nat) {j t:Nat} {want:Bool} (hi:ops[i]? =some ⟨d',op,ty,pos,af,some (j,want)⟩) (hr:jn ops listed i=true)
 (C:dL ops j=some t) (E:av t N.n=true) (I:σ t= .bool want)
 (h:bI P N ⟨d',op,ty,pos,af,some (j,want)⟩ σ w (fun σ w=>S w∧cm P N ops Q S fuel (listed.setIfInBounds i true) σ w)):cm P N ops Q S (fuel+1) listed σ w:=by
 refine wpAnyH_all (rs:= [i]) (by simpa [jn] using hr) (by simp) ?_;intro k A;obtain rfl :k=i:=by simpa using A
 unfold wpOp;simp only [hi];rw [if_pos (by rw [mj rfl C E I]; cases want <;> rfl)];exact .inl<|qP h fun _ _ A=>A
theorem hn (hr:(dV .any ops listed).isEmpty=true) (h:Q .normal σ w):cm P N ops Q S fuel listed σ w:=
 wpAnyH_done (by simpa using hr) ⟨σ,rfl,h⟩ fuel
theorem mS {t:Nat} {q:Prop} [Decidable q] (h:σ t= .bool (decide q)) (E:q→cm P N ops Q S fuel listed (aY σ t<|.bool true) w) (C:¬q→cm P N ops Q S fuel listed (aY σ t<|.bool false) w):cm P N ops Q S fuel listed σ w:=by
 by_cases A:q
 · have :=E A; rwa [mi (by rw [h,decide_eq_true A])] at this
 · have :=C A; rwa [mi (by rw [h,decide_eq_false A])] at this
end
def aR (P:an) (f:dH) (args:Array ag) (w:ah) (R:ag→ah→Prop):Prop :=
 Calls P f args w fun e w'=> ∃ v,e= .returned v∧R v w'
theorem aR.mono {P:an} {f:dH} {args:Array ag} {w:ah} {R A:ag→ah→Prop} (h:aR P f args w R) (hr:∀ v w',R v w'→A v w'):aR P f args w A:=
 gO h fun _ _ ⟨v,he,C⟩=>⟨v,he,hr _ _ C⟩
def dk (args:List ag):Nat→ag:=fun i=>args.getD i undef
def fin (P:an) (fn:Func) (N:Fm) (R:ag→ah→Prop):ba→(Nat→ag)→ah→Prop
 | .normal,σ,w=> ∃ v,(results fn (act N σ).tmps).run P w= .ok v w∧R v w
 | .ret,σ,w=> ∃ v,(results fn (act N σ).tmps).run P w= .ok v w∧R v w
 | _,_,_=>False
theorem enter {P:an} {f:dH} {N:Nat} {fn:Func} {c:bz} {args:List ag} {w:ah} {R:ag→ah→Prop} (M:P.funcs[f]? =some fn) (hb:fn.body=some c)
 (L:fn.ntmps=N) (hn:aZ args.length N=true) (h:bg P ⟨N,[],[],none⟩ c (fin P fn ⟨N,[],[],none⟩ R) (dk args) w):aR P f args.toArray w R:=by
 subst L;refine calls_of_wp M hb ?_;have ha:({tmps:=args.toArray++pj (fn.ntmps - args.toArray.size) undef,defers:= []} :Act)=act ⟨fn.ntmps,[],[],none⟩ (dk args):=by
  have O:args.length≤fn.ntmps:=by simpa using hn
  refine rE U fun i=> ?_;rw [ja];simp only [dk,cn,ej];by_cases E:i < args.length
  · rw [Array.getElem?_append_left (by simpa using E),if_pos ab];simp [E]
  · rw [Array.getElem?_append_right (by simpa using E)];simp only [ej,Array.getElem?_replicate];by_cases J:i < fn.ntmps
    · rw [if_pos ab,if_pos J,nU ab]; rfl
    · rw [if_neg ab,if_neg J]
 rw [ha];refine Code.wp_mono ?_<|wpIn_wide.1 h;intro e a w A;cases e with
 | normal=>obtain ⟨σ,rfl,v,hr,I⟩:=A; exact ⟨rfl,v,hr,v,rfl,I⟩
 | ret=>obtain ⟨σ,rfl,v,hr,I⟩:=A; exact ⟨rfl,v,hr,v,rfl,I⟩
 | exit id=>obtain ⟨σ,rfl,C⟩:=A; exact C.elim
 | goto l=>obtain ⟨σ,rfl,C⟩:=A; exact C.elim
 | panic c=>obtain ⟨σ,rfl,C⟩:=A; exact (C σ fun _ _=>rfl).elim
 | outgrown=>exact A.elim
section
variable {P:an} {N:Fm} {σ:Nat→ag} {w:ah} {fn:Func} {R:ag→ah→Prop}
theorem jt (t:Nat):(act N σ).tmps.getD t undef=ev N σ (.tmp t):=by
 rw [← de]; rfl
theorem f0 (h:fn.results= #[]) (A:R (.tuple #[]) w):fin P fn N R .normal σ w:=⟨_,results_none h _ _ _,A⟩
theorem f1 {t:Nat} {v:ag} (h:fn.results= #[.tmp t]) (C:ev N σ (.tmp t)=v) (A:R v w):fin P fn N R .ret σ w:=
 ⟨v,by rw [results_tmp h,jt,C],A⟩
theorem f2 {t u:Nat} {v A:ag} (h:fn.results= #[.tmp t,.tmp u]) (E:ev N σ (.tmp t)=v) (hu:ev N σ (.tmp u)=A) (C:R (.tuple #[v,A]) w):fin P fn N R .ret σ w:=
 ⟨_,by rw [results_tmp2 h,jt,jt,E,hu],C⟩
theorem f3 {t u s:Nat} {v A C:ag} (h:fn.results= #[.tmp t,.tmp u,.tmp s]) (J:ev N σ (.tmp t)=v) (hu:ev N σ (.tmp u)=A) (I:ev N σ (.tmp s)=C) (E:R (.tuple #[v,A,C]) w):fin P fn N R .ret σ w:=by
 refine ⟨_,?_,E⟩;simp only [results,h];subst J hu I;simp only [← jt];simp [Ei]
theorem f4 {t u s r:Nat} {v A C v3:ag} (h:fn.results= #[.tmp t,.tmp u,.tmp s,.tmp r]) (J:ev N σ (.tmp t)=v) (hu:ev N σ (.tmp u)=A) (I:ev N σ (.tmp s)=C) (hr:ev N σ (.tmp r)=v3) (E:R (.tuple #[v,A,C,v3]) w):fin P fn N R .ret σ w:=by
 refine ⟨_,?_,E⟩;simp only [results,h];subst J hu I hr;simp only [← jt];simp [Ei]
end
attribute [irreducible] bK bg cm bI
end Go.Hb
namespace Go.Hb
def ay (h:Array Obj) (b off :Nat):Option ag:=
 match h[b]? with
 | some (.cells c _ _)=>c[off]?
 | _=>none
theorem hZ (w:ah) (b off :Nat):w.cell? ⟨b,off,none⟩=ay w.heap b off :=by
 unfold DS ay;simp only;split <;> simp_all
theorem dg {h:Array Obj} {b off :Nat} {c:Array ag} {t:ak} {f:Nat×Nat} (hb:h[b]? =some (.cells c t f)):ay h b off =c[off]? :=by
 simp only [ay,hb]
theorem FR {h:Array Obj} {b off :Nat} {v:ag} (A:ay h b off =some v):b < h.size:=by grind [ay]
structure Md (F:Nat→Prop) (w w':ah):Prop where
 os:w'.os=w.os
 output:w'.output=w.output
 size:w.heap.size≤w'.heap.size
 cP:∀ k,k < w.heap.size→¬F k→w'.heap[k]? =w.heap[k]?
abbrev Wk (w w':ah):Prop :=Md (fun _=>False) w w'
theorem Md.refl (F:Nat→Prop) (w:ah):Md F w w:=⟨rfl,rfl,aT _,fun _ _ _=>rfl⟩
theorem Md.drew {F:Nat→Prop} {w w':ah} (h:Md F w w'):Md F w w'.drew:=⟨h.os,h.output,h.size,h.cP⟩
theorem Md.mono {F G:Nat→Prop} {w w':ah} (h:Md F w w') (E:∀ k,k < w.heap.size→F k→G k):Md G w w':=
 ⟨h.os,h.output,h.size,fun k A I=>h.cP k A fun C=>I<|E k A C⟩
theorem Md.trans {F:Nat→Prop} {a b c:ah} (h:Md F a b) (A:Md F b c):Md F a c:=
 ⟨A.os.trans h.os,A.output.trans h.output,bS h.size A.size,fun k E C=>(A.cP k (my E h.size) C).trans<|h.cP k E C⟩
theorem Md.trans' {F G:Nat→Prop} {a b c:ah} (h:Md F a b) (A:Md G b c) (I:∀ k,k < a.heap.size→G k→F k):Md F a c:=
 ⟨A.os.trans h.os,A.output.trans h.output,bS h.size A.size,
  fun k C E=>(A.cP k (my C h.size) fun x=>E<|I k C x).trans (h.cP k C E)⟩
theorem Md.aq {F:Nat→Prop} {w w':ah} (h:Md F w w') {k:Nat} {o:Obj} (A:w.heap[k]? =some o) (C:¬F k):w'.heap[k]? =some o:=
 (h.cP k (bJ.1 A).1 C).trans A
theorem Md.ay {F:Nat→Prop} {w w':ah} (h:Md F w w') {b off :Nat} {v:ag} (A:Hb.ay w.heap b off =some v) (C:¬F b):Hb.ay w'.heap b off =some v:=by
 have :=h.cP b (FR A) C;unfold Hb.ay at*;rw [this]; exact A
theorem Wk.ay {w w':ah} (h:Wk w w') {b off :Nat} {v:ag} (A:Hb.ay w.heap b off =some v):Hb.ay w'.heap b off =some v:=Md.ay h A id
theorem Wk.aq {w w':ah} (h:Wk w w') {k:Nat} {o:Obj} (A:w.heap[k]? =some o):w'.heap[k]? =some o:=Md.aq h A id
structure Nw (w w':ah):Prop where
 md:Wk w w'
 size:w'.heap.size=w.heap.size+1
 one:∃ o,w'= {w with heap:=w.heap.push o}
theorem wN (w:ah) (o:Obj):Nw w {w with heap:=w.heap.push o} :=
 ⟨⟨rfl,rfl,by simp,fun k A _=>by show (w.heap.push o)[k]? =_; rw [Array.getElem?_push,if_neg ab]⟩,by simp,o,rfl⟩
def c9 (P:an) (t:ak):Option (Option Nat):=
 match P.underlying t with
 | some (.struct _) | some (.array _ _)=>((P.info? t).map (·.size)).map some
 | some _=>some none
 | none=>none
def ot (P:an) (s f:Nat):Option Nat:=
 match P.underlying s with
 | some (.struct A)=>match A[f]? with
   | some fd=>match P.info? fd.type with
     | some i=>if i.size=0 then none else some fd.offset
     | none=>none
   | none=>none
 | _=>none
def dh (P:an) (t:ak):Option Nat:=
 match P.underlying t with
 | some (.slice e)=>(P.info? e).map (·.size)
 | _=>none
section
variable {P:an} {N:Fm} {σ:Nat→ag} {w:ah} {dst:Option Nat} {ty:ak} {pos :String} {af:Array bM} {g:Option (Nat×Bool)} {x y z:aO}
theorem bh {t:ak} {d:TypeDesc} (h:P.underlying t=some d) (w:ah):(underlying t).run P w= .ok d w:=by
 simp [underlying,h]
theorem di {t:ak} {i:TypeInfo} (h:P.info? t=some i) (w:ah):(typeInfo t).run P w= .ok i w:=by
 simp [typeInfo,h]
theorem mv:(execOp (ev N σ) ⟨dst,.move x,ty,pos,af,g⟩).run P w= .ok (.value<|ev N σ x) w:=rfl
theorem aE:(execOp (ev N σ) ⟨dst,.assign x,ty,pos,af,g⟩).run P w= .ok (.value<|ev N σ x) w:=rfl
theorem nf (v:ag) (h:ev N σ x=v):(execOp (ev N σ) ⟨dst,.move x,ty,pos,af,g⟩).run P w= .ok (.value v) w:=by rw [← h]; rfl
theorem Fj (v:ag) (h:ev N σ x=v):(execOp (ev N σ) ⟨dst,.assign x,ty,pos,af,g⟩).run P w= .ok (.value v) w:=by rw [← h]; rfl
theorem ta {c:aO} (A:ev N σ c= .bool true):(execOp (ev N σ) ⟨dst,.pick c x y,ty,pos,af,g⟩).run P w= .ok (.value<|ev N σ x) w:=by
 simp [execOp,A,asBool]
theorem sZ {c:aO} (A:ev N σ c= .bool false):(execOp (ev N σ) ⟨dst,.pick c x y,ty,pos,af,g⟩).run P w= .ok (.value<|ev N σ y) w:=by
 simp [execOp,A,asBool]
theorem nc {a:aG} (A:ev N σ x= .pointer (some a)):(execOp (ev N σ) ⟨dst,.nilCheck x,ty,pos,af,g⟩).run P w= .ok (.value<|.pointer<|some a) w:=by
 simp [execOp,A]
theorem xt {i:Nat} {vs:Array ag} {v:ag} (C:ev N σ x= .tuple vs) (A:vs[i]? =some v):(execOp (ev N σ) ⟨dst,.extract x i,ty,pos,af,g⟩).run P w= .ok (.value v) w:=by
 simp [execOp,C,Instr.extract,A]
theorem fa {s f n b off :Nat} (A:ot P s f=some n) (I:ev N σ x= .pointer (some ⟨b,off,none⟩)):
 (execOp (ev N σ) ⟨dst,.fieldAddr s x f,ty,pos,af,g⟩).run P w= .ok (.value<|.pointer<|some ⟨b,off+n,none⟩) w:=by
 unfold ot at A;split at A
 · rename_i L hu;split at A
   · rename_i fd E;split at A
     · rename_i i hi;split at A
       · cases A
       · rename_i J;cases A;have C:(⟨b,off,none⟩:aG).add fd.offset=⟨b,off+fd.offset,none⟩:=by unfold tZ; split <;> simp_all
         simp [execOp,Instr.fieldAt,bh hu,E,I,pw,fieldPlace,sizeOf,di hi,J,C]
     · cases A
   · cases A
 · cases A
theorem ld {t b off :Nat} {v:ag} (hu:c9 P t=some none) (E:ev N σ x= .pointer (some ⟨b,off,none⟩)) (A:ay w.heap b off =some v):
 (execOp (ev N σ) ⟨dst,.load t x,ty,pos,af,g⟩).run P w= .ok (.value v) w:=by
 have C:w.cell? ⟨b,off,none⟩=some v:=by rw [hZ]; exact A
 unfold c9 at hu;cases hd:P.underlying t with
 | none=>rw [hd] at hu; cases hu
 | some d=>
   rw [hd] at hu;cases d <;> first
    | (simp only [fU] at hu; obtain ⟨_,_,h⟩:=hu; cases h; done)
    | simp [execOp,DG,E,pw,loadVar,isAgg,bh hd,run_load,C]
theorem dO (b off j:Nat):(⟨b,off,none⟩:aG).add j=⟨b,off+j,none⟩:=by
 unfold tZ; split <;> simp_all
theorem jk {t n b off :Nat} {cs:List ag} (hu:c9 P t=some (some n)) (J:ev N σ x= .pointer (some ⟨b,off,none⟩)) (I:cs.length=n)
 (C:∀ j,j < n→ay w.heap b (off+j)=cs[j]?):
 (execOp (ev N σ) ⟨dst,.load t x,ty,pos,af,g⟩).run P w= .ok (.value<|.agg cs.toArray) w:=by
 have E:(loadCells ⟨b,off,none⟩ n).run P w= .ok cs.toArray w:=by
  subst I;refine run_loadCells_list (P:=P) w ⟨b,off,none⟩ cs fun j v A=> ?_;rw [dO,hZ];exact (C j (cB.1 A).1).trans A
 unfold c9 at hu;cases hd:P.underlying t with
 | none=>rw [hd] at hu; cases hu
 | some d=>
   rw [hd] at hu;cases hi:P.info? t with
   | none=>simp [Program.underlying,hi] at hd
   | some i=>
     rw [hi] at hu;cases d <;> first
      | (cases hu; done)
      | (simp only [dJ,bp] at hu; subst hu
         simp [execOp,DG,J,pw,loadVar,isAgg,bh hd,sizeOf,di hi,E])
theorem ia {t n b off len cap:Nat} {k:bu} {i:Int} (he:dh P t=some n) (A:ev N σ x= .slice (some ⟨b,off,none⟩) len cap) (C:ev N σ y= .int k i) (h0:0≤i∧i < len):
 (execOp (ev N σ) ⟨dst,.indexAddr t x y,ty,pos,af,g⟩).run P w= .ok (.value<|.pointer<|some ⟨b,off+i.toNat*n,none⟩) w:=by
 unfold dh at he;cases hd:P.underlying t with
 | none=>rw [hd] at he; cases he
 | some d=>
   rw [hd] at he;cases d <;> first | (cases he; done) | skip
   rename_i e;cases hi:P.info? e with
   | none=>simp [hi] at he
   | some j=>
     simp only [hi,dJ,bp] at he;subst he;simp [execOp,DF,A,C,asIntOf,bh hd,h0.1,h0.2,sizeOf,di hi,dO]
def dc (a:Option aG) (cap l n:Nat):Option aG:=if cap=l then a else a.map (·.add (l*n))
theorem xx {t n len cap:Nat} {a:Option aG} {lo hi:Option ag} {l h:Nat} (he:dh P t=some n) (E:ev N σ x= .slice a len cap)
 (hb:(kF true len cap lo hi none).run P w= .ok (l,h,cap) w) (A C:Option aO) (I:A.map (ev N σ)=lo) (J:C.map (ev N σ)=hi):
 (execOp (ev N σ) ⟨dst,.slice t x A C none,ty,pos,af,g⟩).run P w= .ok (.value<|.slice (dc a cap l n) (h - l)<|cap - l) w:=by
 unfold dh at he;cases hd:P.underlying t with
 | none=>rw [hd] at he; cases he
 | some d=>
   rw [hd] at he;cases d <;> first | (cases he; done) | skip
   rename_i e;cases hi':P.info? e with
   | none=>simp [hi'] at he
   | some j=>
     simp only [hi',dJ,bp] at he;subst he;simp [execOp,nL,qX,E,I,J,bh hd,hb,sizeOf,di hi',dc]
theorem xy {t n len cap:Nat} {a:Option aG} {k:bu} {i:Int} (he:dh P t=some n) (C:ev N σ x= .slice a len cap) (E:ev N σ z= .int k i) (h0:0≤i∧i≤cap):
 (execOp (ev N σ) ⟨dst,.slice t x none (some z) none,ty,pos,af,g⟩).run P w= .ok (.value<|.slice a i.toNat cap) w:=by
 have :=xx (dst:=dst) (ty:=ty) (pos :=pos) (af:=af) (g:=g) (w:=w) (lo:=none) (hi:=some<|.int k i) (l:=0) (h:=i.toNat) he C
  (by simp [kF,nM,asIntOf,h0.1,h0.2]) none (some z) rfl (by simp [E])
 rw [this];have A:dc a cap 0 n=a:=by
  unfold dc; split
  · rfl
  · cases a <;> simp [tZ]
 rw [A]; rfl
theorem tw {t n len cap:Nat} {a:Option aG} {k:bu} {i:Int} (he:dh P t=some n) (A:ev N σ x= .slice a len cap) (C:ev N σ y= .int k i) (h0:0≤i∧i≤len):
 (execOp (ev N σ) ⟨dst,.slice t x (some y) none none,ty,pos,af,g⟩).run P w= .ok (.value<|.slice (dc a cap i.toNat n) (len - i.toNat)<|cap - i.toNat) w:=
 xx (lo:=some<|.int k i) (hi:=none) he A
  (by simp [kF,nM,asIntOf,h0.1,h0.2]) (some y) none (by simp [C]) rfl
theorem tv {t n len cap:Nat} {a:Option aG} {k A:bu} {i j:Int} (he:dh P t=some n) (I:ev N σ x= .slice a len cap) (J:ev N σ y= .int k i) (L:ev N σ z= .int A j) (h0:0≤i∧i≤j∧j≤cap):
 (execOp (ev N σ) ⟨dst,.slice t x (some y) (some z) none,ty,pos,af,g⟩).run P w= .ok (.value<|.slice (dc a cap i.toNat n) (j.toNat - i.toNat)<|cap - i.toNat) w:=by
 have C:0≤j:=ab;have E:i≤(j.toNat:Int):=ab;refine xx (lo:=some<|.int k i) (hi:=some<|.int A j) he I ?_ (some y) (some z) (by simp [J])<|by simp [L]
 simp only [kF,nM,asIntOf,gq,jw,fR,q7,h0.1,C,h0.2.2,E,and_self,if_true]
theorem nA {n:Int} (h: -9223372036854775808≤n∧n≤9223372036854775807):ue.wrap n=n:=IntWalk.i64_in n h
theorem xZ {n:Int} (h: -2147483648≤n∧n≤2147483647):IntKind.i32.wrap n=n:=IntWalk.i32_in n h
theorem Dd {n:Int} (h:0≤n∧n≤255):IntKind.u8.wrap n=n:=IntWalk.u8_in n h
theorem Dc {n:Int} (h:0≤n∧n≤4294967295):IntKind.u32.wrap n=n:=IntWalk.u32_in n h
theorem pd {n:Int} (h:0≤n∧n≤18446744073709551615):IntKind.u64.wrap n=n:=IntWalk.u64_in n h
theorem iv {k:bu} {a b:Int} (h:a=b):bT k a=bT k b:=by rw [h]
theorem ad {t E:ak} {k:bu} {a b:Int} (A:ev N σ x= .int k a) (C:ev N σ y= .int k b) (hr:k.wrap (a+b)=a+b):
 (execOp (ev N σ) ⟨dst,.binOp .add t x y E,ty,pos,af,g⟩).run P w= .ok (.value<|.int k<|a+b) w:=by
 simp [execOp,A,C,eqGuard,binOp,qZ,hr]
theorem yO {t E:ak} {k:bu} {a b:Int} (v:Int) (A:ev N σ x= .int k a) (C:ev N σ y= .int k b) (hr:k.wrap (a+b)=v):
 (execOp (ev N σ) ⟨dst,.binOp .add t x y E,ty,pos,af,g⟩).run P w= .ok (.value<|.int k v) w:=by
 subst hr; simp [execOp,A,C,eqGuard,binOp,qZ]
theorem B7 {t E:ak} {k:bu} {a b:Int} (v:Int) (A:ev N σ x= .int k a) (C:ev N σ y= .int k b) (hr:k.wrap (a - b)=v):
 (execOp (ev N σ) ⟨dst,.binOp .sub t x y E,ty,pos,af,g⟩).run P w= .ok (.value<|.int k v) w:=by
 subst hr; simp [execOp,A,C,eqGuard,binOp,qZ]
theorem Bj {t E:ak} {k:bu} {a b:Int} (v:Int) (A:ev N σ x= .int k a) (C:ev N σ y= .int k b) (hr:k.wrap (a*b)=v):
 (execOp (ev N σ) ⟨dst,.binOp .mul t x y E,ty,pos,af,g⟩).run P w= .ok (.value<|.int k v) w:=by
 subst hr; simp [execOp,A,C,eqGuard,binOp,qZ]
theorem xX {a:Int} {n:Nat} (h:a=n) (hn:n≤9223372036854775807):ue.wrap a=(n:Int):=by rw [h]; exact nA ab
theorem bv {p q:Prop} [Decidable p] [Decidable q] (h:p↔q):bO (decide p)=bO (decide q):=by rw [decide_eq_decide.2 h]
theorem sb {t E:ak} {k:bu} {a b:Int} (A:ev N σ x= .int k a) (C:ev N σ y= .int k b) (hr:k.wrap (a - b)=a - b):
 (execOp (ev N σ) ⟨dst,.binOp .sub t x y E,ty,pos,af,g⟩).run P w= .ok (.value<|.int k<|a - b) w:=by
 simp [execOp,A,C,eqGuard,binOp,qZ,hr]
theorem qu {t E:ak} {k:bu} {a b:Int} (A:ev N σ x= .int k a) (C:ev N σ y= .int k b) (h0:0≤a∧0 < b) (hr:k.wrap (a / b)=a / b):
 (execOp (ev N σ) ⟨dst,.binOp .quo t x y E,ty,pos,af,g⟩).run P w= .ok (.value<|.int k<|a / b) w:=by
 have :a.tdiv b=a / b:=DW h0.1;simp [execOp,A,C,eqGuard,binOp,yn,show b≠0 from by omega,this,hr]
theorem KB {t E:ak} {k:bu} {a b:Int} (v:Int) (A:ev N σ x= .int k a) (C:ev N σ y= .int k b) (h0:0≤a∧0 < b) (hr:k.wrap (a / b)=v):
 (execOp (ev N σ) ⟨dst,.binOp .quo t x y E,ty,pos,af,g⟩).run P w= .ok (.value<|.int k v) w:=by
 have :a.tdiv b=a / b:=DW h0.1;subst hr; simp [execOp,A,C,eqGuard,binOp,yn,show b≠0 from by omega,this]
theorem rm {t E:ak} {k:bu} {a b:Int} (A:ev N σ x= .int k a) (C:ev N σ y= .int k b) (h0:0≤a∧0 < b):
 (execOp (ev N σ) ⟨dst,.binOp .rem t x y E,ty,pos,af,g⟩).run P w= .ok (.value<|.int k<|a % b) w:=by
 have :a.tmod b=a % b:=Int.tmod_eq_emod_of_nonneg h0.1;simp [execOp,A,C,eqGuard,binOp,yn,show b≠0 from by omega,this]
theorem lt {t E:ak} {k:bu} {a b:Int} (A:ev N σ x= .int k a) (C:ev N σ y= .int k b):
 (execOp (ev N σ) ⟨dst,.binOp .lss t x y E,ty,pos,af,g⟩).run P w= .ok (.value<|.bool<|decide (a < b)) w:=by
 simp [execOp,A,C,eqGuard,binOp,pz]
theorem le {t E:ak} {k:bu} {a b:Int} (A:ev N σ x= .int k a) (C:ev N σ y= .int k b):
 (execOp (ev N σ) ⟨dst,.binOp .leq t x y E,ty,pos,af,g⟩).run P w= .ok (.value<|.bool<|decide (a≤b)) w:=by
 simp [execOp,A,C,eqGuard,binOp,pz]
theorem gt {t E:ak} {k:bu} {a b:Int} (A:ev N σ x= .int k a) (C:ev N σ y= .int k b):
 (execOp (ev N σ) ⟨dst,.binOp .gtr t x y E,ty,pos,af,g⟩).run P w= .ok (.value<|.bool<|decide (b < a)) w:=by
 simp [execOp,A,C,eqGuard,binOp,pz]
theorem ge {t E:ak} {k:bu} {a b:Int} (A:ev N σ x= .int k a) (C:ev N σ y= .int k b):
 (execOp (ev N σ) ⟨dst,.binOp .geq t x y E,ty,pos,af,g⟩).run P w= .ok (.value<|.bool<|decide (b≤a)) w:=by
 simp [execOp,A,C,eqGuard,binOp,pz]
theorem zY {t E:ak} {k:bu} {a b:Int} (A:ev N σ x= .int k a) (C:ev N σ y= .int k b):
 (execOp (ev N σ) ⟨dst,.binOp .eql t x y E,ty,pos,af,g⟩).run P w= .ok (.value<|.bool<|decide (a=b)) w:=by
 simp [execOp,A,C,eqGuard,binOp,pz];rw [mm]; simp
theorem Bl {t E:ak} {k:bu} {a b:Int} (A:ev N σ x= .int k a) (C:ev N σ y= .int k b):
 (execOp (ev N σ) ⟨dst,.binOp .neq t x y E,ty,pos,af,g⟩).run P w= .ok (.value<|.bool<|decide (a≠b)) w:=by
 simp [execOp,A,C,eqGuard,binOp,pz];rw [mm]; simp
theorem no {t:ak} {b:Bool} (A:ev N σ x= .bool b):(execOp (ev N σ) ⟨dst,.unOp .not t x,ty,pos,af,g⟩).run P w= .ok (.value<|.bool<|!b) w:=by
 simp [execOp,A,Op.unary]
theorem y8 {t I:ak} {k:bu} {a b v:Int} (C:ev N σ x= .int k a) (E:ev N σ y= .int k b) (A:k.wrap (iw k.bits a ||| iw k.bits b).toNat=v):
 (execOp (ev N σ) ⟨dst,.binOp .or t x y I,ty,pos,af,g⟩).run P w= .ok (.value<|.int k v) w:=by
 subst A; simp [execOp,C,E,eqGuard,binOp,Op.intBits]
theorem cM {t I:ak} {k:bu} {a b v:Int} (C:ev N σ x= .int k a) (E:ev N σ y= .int k b) (A:k.wrap (iw k.bits a &&& iw k.bits b).toNat=v):
 (execOp (ev N σ) ⟨dst,.binOp .and t x y I,ty,pos,af,g⟩).run P w= .ok (.value<|.int k v) w:=by
 subst A; simp [execOp,C,E,eqGuard,binOp,Op.intBits]
theorem shr {t I:ak} {k J:bu} {a b v:Int} (C:ev N σ x= .int k a) (E:ev N σ y= .int J b) (h0:0≤b) (A:a.fdiv (2 ^ min b.toNat k.bits)=v):
 (execOp (ev N σ) ⟨dst,.binOp .shr t x y I,ty,pos,af,g⟩).run P w= .ok (.value<|.int k v) w:=by
 have :¬b < 0:=ab;simp [execOp,C,E,eqGuard,binOp,Op.shift,this,A]
theorem shl {t I:ak} {k J:bu} {a b v:Int} (C:ev N σ x= .int k a) (E:ev N σ y= .int J b) (h0:0≤b) (A:k.wrap (a*2 ^ min b.toNat k.bits)=v):
 (execOp (ev N σ) ⟨dst,.binOp .shl t x y I,ty,pos,af,g⟩).run P w= .ok (.value<|.int k v) w:=by
 have :¬b < 0:=ab;simp [execOp,C,E,eqGuard,binOp,Op.shift,this,A]
theorem ME (m:Nat) (h:m < 256):((eK m).toNat:Int)=(m:Int):=by
 simp [Nat.mod_eq_of_lt h]
theorem cv {t u:ak} {k A:bu} {n:Int} (hu:P.underlying u=some (.int A)) (E:(P.underlying t).isSome=true) (I:ev N σ x= .int k n):
 (execOp (ev N σ) ⟨dst,.convert t u x,ty,pos,af,g⟩).run P w= .ok (.value<|.int A<|A.wrap n) w:=by
 obtain ⟨d,C⟩:=rz.1 E;cases d <;> simp [execOp,I,convert,bh hu,bh C,Conv.intToInt]
theorem Gn {t u:ak} {k A:bu} {n v:Int} (hu:P.underlying u=some (.int A)) (C:(P.underlying t).isSome=true) (E:ev N σ x= .int k n) (hr:A.wrap n=v):
 (execOp (ev N σ) ⟨dst,.convert t u x,ty,pos,af,g⟩).run P w= .ok (.value<|.int A v) w:=by
 rw [cv hu C E,hr]
theorem rP {t u:ak} {k A:bu} {n:Int} (hu:P.underlying u=some (.int A)) (C:(P.underlying t).isSome=true) (E:ev N σ x= .int k n) (hr:A.wrap n=n):
 (execOp (ev N σ) ⟨dst,.convert t u x,ty,pos,af,g⟩).run P w= .ok (.value<|.int A n) w:=by
 rw [cv hu C E,hr]
theorem vp (d:Nat) {t e:ak} {a:Option aG} (hu:P.underlying t=some (.pointer e)):(ix (d+1) t (.pointer a)<|.pointer none).run P w= .ok a.isNone w:=by
 cases a <;> simp [ix,bh hu]
theorem zZ {t e:ak} {a:Option aG} (hu:P.underlying t=some (.pointer e)):(mo t (.pointer a)<|.pointer none).run P w= .ok a.isNone w:=vp 9999 hu
theorem fY {t E e:ak} {a:Option aG} (hu:P.underlying t=some (.pointer e)) (A:ev N σ x= .pointer a) (C:ev N σ y= .pointer none):
 (execOp (ev N σ) ⟨dst,.binOp .eql t x y E,ty,pos,af,g⟩).run P w= .ok (.value<|.bool a.isNone) w:=by
 have h:(binOp .eql t (.pointer a)<|.pointer none).run P w= .ok (.bool a.isNone) w:=by
  simp only [binOp]; simp [zZ hu]
 simp [execOp,A,C,eqGuard,h]
theorem qp {t E e:ak} {a:Option aG} (hu:P.underlying t=some (.pointer e)) (A:ev N σ x= .pointer a) (C:ev N σ y= .pointer none):
 (execOp (ev N σ) ⟨dst,.binOp .neq t x y E,ty,pos,af,g⟩).run P w= .ok (.value<|.bool a.isSome) w:=by
 have h:(binOp .neq t (.pointer a)<|.pointer none).run P w= .ok (.bool a.isSome) w:=by
  simp only [binOp]; simp [zZ hu]
 simp [execOp,A,C,eqGuard,h]
theorem zX (d:Nat) {t:ak} {a b:Bool} (hu:P.underlying t=some .bool):(ix (d+1) t (.bool a)<|.bool b).run P w= .ok (a==b) w:=by
 simp [ix,bh hu]
theorem HA {t:ak} {a b:Bool} (hu:P.underlying t=some .bool):(mo t (.bool a)<|.bool b).run P w= .ok (a==b) w:=zX 9999 hu
theorem wD {t E:ak} {a b:Bool} (hu:P.underlying t=some .bool) (A:ev N σ x= .bool a) (C:ev N σ y= .bool b):
 (execOp (ev N σ) ⟨dst,.binOp .neq t x y E,ty,pos,af,g⟩).run P w= .ok (.value<|.bool<|decide (a≠b)) w:=by
 have h:(binOp .neq t (.bool a)<|.bool b).run P w= .ok (.bool<|decide (a≠b)) w:=by
  simp only [binOp]; simp [HA hu]; cases a <;> cases b <;> rfl
 simp [execOp,A,C,eqGuard,h]
def str (l:List UInt8):ag:= .string ⟨⟨l⟩⟩
theorem A3 {t:ak} {l:List UInt8} {at_:Array ak} (A:P.underlying t=some .string) (ha:at_= #[t]) (C:ev N σ x=str l):
 (execOp (ev N σ) ⟨dst,.call ⟨.builtin .len,#[x],at_⟩,ty,pos,af,g⟩).run P w= .ok (.value<|.int .i64 l.length) w:=by
 subst ha;simp [execOp,resolve,invoke,builtin,yi,bh A,C,str,goInt];rfl
theorem vX {t e:ak} {a:Option aG} {n c:Nat} {at_:Array ak} (A:P.underlying t=some (.slice e)) (ha:at_= #[t]) (C:ev N σ x= .slice a n c):
 (execOp (ev N σ) ⟨dst,.call ⟨.builtin .len,#[x],at_⟩,ty,pos,af,g⟩).run P w= .ok (.value<|.int .i64 n) w:=by
 subst ha;simp [execOp,resolve,invoke,builtin,yi,bh A,C,goInt]
theorem A2 {t k e r:ak} {es:Array MapEntry} {c:Nat} {at_:Array ak} (A:P.underlying t=some (.map k e)) (ha:at_= #[t]) (C:ev N σ x= .map (some r)) (hr:w.heap[r]? =some (.map es c)):
 (execOp (ev N σ) ⟨dst,.call ⟨.builtin .len,#[x],at_⟩,ty,pos,af,g⟩).run P w= .ok (.value<|.int .i64 es.size) w:=by
 subst ha;simp [execOp,resolve,invoke,builtin,yi,bh A,C,goInt,getObj,Sem.run,hr]
theorem mn {k:bu} {a b:Int} {at_:Array ak} (A:ev N σ x= .int k a) (C:ev N σ y= .int k b):
 (execOp (ev N σ) ⟨dst,.call ⟨.builtin .min,#[x,y],at_⟩,ty,pos,af,g⟩).run P w= .ok (.value<|.int k<|min a b) w:=by
 have :(if b < a then b else a)=min a b:=ab;simp [execOp,resolve,invoke,builtin,Builtin.min_,Builtin.min2,A,C,this]
theorem mx {k:bu} {a b:Int} {at_:Array ak} (A:ev N σ x= .int k a) (C:ev N σ y= .int k b):
 (execOp (ev N σ) ⟨dst,.call ⟨.builtin .max,#[x,y],at_⟩,ty,pos,af,g⟩).run P w= .ok (.value<|.int k<|max a b) w:=by
 have :(if b > a then b else a)=max a b:=ab;simp [execOp,resolve,invoke,builtin,Builtin.max_,Builtin.max2,A,C,this]
theorem IY {t:ak} {l:List UInt8} {k:bu} {i:Int} (I:P.underlying t=some .string) (J:ev N σ x=str l) (L:ev N σ y= .int k i) (h0:0≤i∧i < l.length):
 (execOp (ev N σ) ⟨dst,.index t x y,ty,pos,af,g⟩).run P w= .ok (.value<|.int .u8 ((l.getD i.toNat 0).toNat:Int)) w:=by
 have E:(⟨⟨l⟩⟩:ByteArray)[i.toNat]? =some (l.getD i.toNat 0):=by
  have A:i.toNat < l.length:=ab;have C:i.toNat < (⟨⟨l⟩⟩:ByteArray).size:=A;rw [getElem?_pos (⟨⟨l⟩⟩:ByteArray) i.toNat C];simp [cn,A,ByteArray.getElem_eq_getElem_data]
 simp [execOp,Instr.index,J,L,asIntOf,str,bh I,h0.1,E]
theorem xw (l:List UInt8) (a b:Nat):Value.string ((⟨⟨l⟩⟩:ByteArray).extract a b)=str ((l.take b).drop a):=by
 unfold str;congr 1;apply ByteArray.ext;simp [ByteArray.data_extract,List.extract_eq_take_drop,List.drop_take]
theorem qe (n:Nat) {t:ak} {l:List UInt8} {k:bu} (A:P.underlying t=some .string) (C:ev N σ x=str l) (E:ev N σ y= .int k (n:Int)) (h:n < l.length):
 (execOp (ev N σ) ⟨dst,.index t x y,ty,pos,af,g⟩).run P w= .ok (.value<|.int .u8 ((l.getD n 0).toNat:Int)) w:=IY A C E ⟨ab,ab⟩
theorem ga {n:Nat} {t:ak} {l:List UInt8} {k:bu} (A:P.underlying t=some .string) (C:ev N σ x=str l) (E:ev N σ y= .int k (n:Int)) (h:n < l.length):
 (execOp (ev N σ) ⟨dst,.index t x y,ty,pos,af,g⟩).run P w= .ok (.value<|.int .u8 ((l.getD n 0).toNat:Int)) w:=qe n A C E h
theorem tz {t:ak} {l:List UInt8} {k M:bu} {a b:Int} (E:P.underlying t=some .string) (I:ev N σ x=str l) (J:ev N σ y= .int k a) (L:ev N σ z= .int M b) (h0:0≤a∧a≤b∧b≤l.length):
 (execOp (ev N σ) ⟨dst,.slice t x (some y) (some z) none,ty,pos,af,g⟩).run P w= .ok (.value<|str<|(l.take b.toNat).drop a.toNat) w:=by
 have A:b≤((⟨⟨l⟩⟩:ByteArray).size:Nat):=h0.2.2;have C:0≤b:=ab;have O:a≤(b.toNat:Nat):=ab;simp [execOp,nL,qX,kF,nM,I,J,L,asIntOf,str,bh E,h0.1,A,C];rw [if_pos ab];exact congrArg (fun v=>q6 (qY v) w)<|xw l a.toNat b.toNat
theorem qI {t:ak} {l:List UInt8} {J:bu} {b:Int} (C:P.underlying t=some .string) (E:ev N σ x=str l) (I:ev N σ z= .int J b) (h0:0≤b∧b≤l.length):
 (execOp (ev N σ) ⟨dst,.slice t x none (some z) none,ty,pos,af,g⟩).run P w= .ok (.value<|str<|l.take b.toNat) w:=by
 have A:b≤((⟨⟨l⟩⟩:ByteArray).size:Nat):=h0.2;have :=xw l 0 b.toNat;simp only [List.drop_zero] at this;simp [execOp,nL,qX,kF,nM,E,I,asIntOf,str,bh C,h0.1,A];exact DR this
theorem nu {t:ak} {l:List UInt8} {k:bu} {a:Int} (C:P.underlying t=some .string) (E:ev N σ x=str l) (I:ev N σ y= .int k a) (h0:0≤a∧a≤l.length):
 (execOp (ev N σ) ⟨dst,.slice t x (some y) none none,ty,pos,af,g⟩).run P w= .ok (.value<|str<|l.drop a.toNat) w:=by
 have A:a≤((⟨⟨l⟩⟩:ByteArray).size:Nat):=h0.2;have :=xw l a.toNat l.length;simp only [List.take_length] at this;simp [execOp,nL,qX,kF,nM,E,I,asIntOf,str,bh C,h0.1,A];exact DR this
theorem o9 (l:List UInt8):(⟨⟨l⟩⟩:ByteArray).toList=l:=Lib.toList_data ⟨⟨l⟩⟩
theorem cc {t J:ak} {l m:List UInt8} (E:ev N σ x=str l) (I:ev N σ y=str m) (h:l.length+m.length≤9223372036854775807):
 (execOp (ev N σ) ⟨dst,.binOp .add t x y J,ty,pos,af,g⟩).run P w= .ok (.value<|str<|l++m) w:=by
 have A:¬(((⟨⟨l⟩⟩:ByteArray).size+(⟨⟨m⟩⟩:ByteArray).size:Nat):Int) > ue.max:=by
  have :ue.max=9223372036854775807:=aW;rw [this];show ¬((l.length+m.length:Nat):Int) > _;omega
 have C:(⟨⟨l⟩⟩:ByteArray)++(⟨⟨m⟩⟩:ByteArray)=⟨⟨l++m⟩⟩:=by
  apply ByteArray.ext; simp
 simp only [execOp,E,I,str,eqGuard,binOp,nO];rw [if_neg A,C];rfl
theorem z1 {t E:ak} {l m:List UInt8} (A:ev N σ x=str l) (C:ev N σ y=str m):
 (execOp (ev N σ) ⟨dst,.binOp .eql t x y E,ty,pos,af,g⟩).run P w= .ok (.value<|.bool<|decide (l=m)) w:=by
 simp only [execOp,A,C,str,eqGuard,binOp,nO,o9];show q6 (qY<|.bool<|l==m) w=_;rw [show (l==m)=decide (l=m) from by rw [mm]; simp]
theorem Bn {t E:ak} {l m:List UInt8} (A:ev N σ x=str l) (C:ev N σ y=str m):
 (execOp (ev N σ) ⟨dst,.binOp .neq t x y E,ty,pos,af,g⟩).run P w= .ok (.value<|.bool<|decide (l≠m)) w:=by
 simp only [execOp,A,C,str,eqGuard,binOp,nO,o9];show q6 (qY<|.bool<|!(l==m)) w=_;rw [show (!(l==m))=decide (l≠m) from by rw [mm]; simp]
def ns (a b:List UInt8):Bool:=ym a b
theorem LP (x y:UInt8) (a b:List UInt8):ns (x::a) (y::b)=(decide (x < y) || (x==y && ns a b)):=rfl
theorem JE {t E:ak} {l m:List UInt8} (A:ev N σ x=str l) (C:ev N σ y=str m):
 (execOp (ev N σ) ⟨dst,.binOp .lss t x y E,ty,pos,af,g⟩).run P w= .ok (.value<|.bool<|ns l m) w:=by
 simp only [execOp,A,C,str,eqGuard,binOp,nO,o9];rfl
theorem Jn {t E:ak} {l m:List UInt8} (A:ev N σ x=str l) (C:ev N σ y=str m):
 (execOp (ev N σ) ⟨dst,.binOp .leq t x y E,ty,pos,af,g⟩).run P w= .ok (.value<|.bool (ns l m || decide (l=m))) w:=by
 simp only [execOp,A,C,str,eqGuard,binOp,nO,o9];show q6 (qY<|.bool (ym l m || l==m)) w=_;rw [show (l==m)=decide (l=m) from by rw [mm]; simp];rfl
theorem IA {t E:ak} {l m:List UInt8} (A:ev N σ x=str l) (C:ev N σ y=str m):
 (execOp (ev N σ) ⟨dst,.binOp .gtr t x y E,ty,pos,af,g⟩).run P w= .ok (.value<|.bool<|!(ns l m || decide (l=m))) w:=by
 simp only [execOp,A,C,str,eqGuard,binOp,nO,o9];show q6 (qY<|.bool<|!(ym l m || l==m)) w=_;rw [show (l==m)=decide (l=m) from by rw [mm]; simp];rfl
theorem Iq {t E:ak} {l m:List UInt8} (A:ev N σ x=str l) (C:ev N σ y=str m):
 (execOp (ev N σ) ⟨dst,.binOp .geq t x y E,ty,pos,af,g⟩).run P w= .ok (.value<|.bool<|!ns l m) w:=by
 simp only [execOp,A,C,str,eqGuard,binOp,nO,o9];rfl
theorem mf {fn:Fn} {first captured:Array aO} :(execOp (ev N σ) ⟨dst,.makeFunc fn first captured,ty,pos,af,g⟩).run P w= .ok (.value<|.func fn (first.map<|ev N σ)<|captured.map<|ev N σ) w:=rfl
theorem oG {fn:Fn} {first captured:Array aO} :(execOp (ev N σ) ⟨dst,.makeFunc fn first captured,ty,pos,af,g⟩).run P w= .ok (.value<|.func fn (first.toList.map<|ev N σ).toArray (captured.toList.map<|ev N σ).toArray) w:=by
 rw [mf,← gN,← gN]
end
end Go.Hb
namespace Go.Hb
def aI (h:Array Obj) (b:Nat) (L:List ag):Prop := ∃ e,h[b]? =some (.cells L.toArray e (0,0))
theorem aI.ay {h:Array Obj} {b:Nat} {L:List ag} (hb:aI h b L) (j:Nat):Hb.ay h b j=L[j]? :=by
 obtain ⟨e,hb⟩:=hb;rw [dg hb]; simp
theorem aI.bd {h:Array Obj} {b:Nat} {L:List ag} (hb:aI h b L) (j:Nat):Hb.ay h b (0 +j)=L[j]? :=by
 rw [cr,hb.ay]
theorem Md.B {F:Nat→Prop} {w w':ah} (h:Md F w w') {b:Nat} {L:List ag} (hb:aI w.heap b L) (A:¬F b):aI w'.heap b L:=
 let ⟨e,hb⟩:=hb; ⟨e,h.aq hb A⟩
theorem Wk.B {w w':ah} (h:Wk w w') {b:Nat} {L:List ag} (hb:aI w.heap b L):aI w'.heap b L:=Md.B h hb id
theorem aI.lt {h:Array Obj} {b:Nat} {L:List ag} (hb:aI h b L):b < h.size:=by grind [aI]
def bk (a:Option aG):Nat:=match a with | some ad=>ad.block | none=>0
def fo (a:Option aG):Nat:=match a with | some ad=>ad.off | none=>0
structure bo (h:Array Obj) (a:Option aG) (xs:List ag):Prop where
 ok:xs≠[]→a=some ⟨bk a,fo a,none⟩
 ay:∀ j u,xs[j]? =some u→Hb.ay h (bk a) (fo a+j)=some u
theorem bo.nil (h:Array Obj) (a:Option aG):bo h a []:=⟨fun h=>absurd rfl h,fun _ _ hu=>by simp at hu⟩
theorem bo.md {F:Nat→Prop} {w w':ah} {a:Option aG} {xs:List ag} (A:bo w.heap a xs) (h:Md F w w') (C:xs≠[]→¬F (bk a)):bo w'.heap a xs:=
 ⟨A.ok,fun j u hu=>h.ay (A.ay j u hu)<|C<|by rintro rfl; simp at hu⟩
theorem bo.wk {w w':ah} {a:Option aG} {xs:List ag} (A:bo w.heap a xs) (h:Wk w w'):bo w'.heap a xs:=A.md h fun _ x=>x
theorem bo.jT {h:Array Obj} {b:Nat} {L:List ag} (hb:aI h b L):bo h (some ⟨b,0,none⟩) L:=
 ⟨fun _=>rfl,fun j u hu=>by show Hb.ay h b (0 +j)=_; rw [cr,hb.ay]; exact hu⟩
theorem bo.uM {h:Array Obj} {a:Option aG} {xs:List ag} (A:bo h a xs) {i:Nat} {u:ag} (hu:xs[i]? =some u):Hb.ay h (bk a) (fo a+i*1)=some u:=by
 rw [Nat.mul_one]; exact A.ay i u hu
def dN (h:Array Obj) (a:Option aG) (l:List (List UInt8)):Prop :=bo h a<|l.map str
theorem dN.get {h:Array Obj} {a:Option aG} {l:List (List UInt8)} (A:dN h a l) {i:Nat} (hi:i < l.length):Hb.ay h (bk a) (fo a+i*1)=some (str<|l.getD i []):=
 bo.uM A (by simp [cn,hi])
theorem dN.wk {w w':ah} {a:Option aG} {l:List (List UInt8)} (A:dN w.heap a l) (h:Wk w w'):dN w'.heap a l:=bo.wk A h
theorem oJ {α:Type} {f:α→ag} {l:List α} (h:0 < l.length):l.map f≠[]:=by
 cases l with
 | nil=>simp at h
 | cons x l=>simp
def eU (P:an) (t e size bytes:Nat):Bool:=
 match P.underlying t with
 | some (.slice A)=>A==e && match P.info? e with
   | some i=>i.size==size && i.bytes==bytes && av 0 size && match i.zero with
     | some z=>z.cells.size==size
     | none=>false
   | none=>false
 | _=>false
theorem nt {P:an} {t e size bytes:Nat} (h:eU P t e size bytes=true):
 P.underlying t=some (.slice e)∧∃ i z,P.info? e=some i∧i.zero=some z∧i.size=size∧i.bytes=bytes∧z.cells.size=size∧0 < size:=by
 unfold eU at h;split at h
 · rename_i I hu;simp only [bf,beq_iff_eq] at h;obtain ⟨rfl,h⟩:=h;split at h
   · rename_i i hi;simp only [bf,beq_iff_eq] at h;obtain ⟨⟨⟨A,C⟩,h3⟩,h4⟩:=h;split at h4
     · rename_i z E;exact ⟨hu,i,z,hi,E,A,C,by simpa using h4,my (mz 0)<|bH h3⟩
     · cases h4
   · cases h
 · cases h
def cO (P:an) (t:ak):Option Nat:=(P.info? t).map (·.size)
def zeroOf (P:an) (t:ak):Option (Option<|List ag):=(P.info? t).map fun i=>i.zero.map fun z=>z.cells.toList
def eL (P:an) (f:dH):Prop := ∀ args w,(callFunc f args).run P w= .ok (.enter f args) w
theorem uW {P:an} {f:dH} {fn:Func} (E:P.funcs[f]? =some fn) (hn:(fn.name== "runtime.NumGoroutine")=false) (hb:fn.body.isNone=false):eL P f:=by
 intro args w;have A:¬((fn.name== "runtime.NumGoroutine")=true):=by rw [hn]; simp
 have C:¬(fn.body.isNone=true):=by rw [hb]; simp
 simp only [callFunc,gq,run_program,fR,E];rw [if_neg A,if_neg C];rfl
section
variable {P:an} {N:Fm} {σ:Nat→ag} {w:ah} {dst:Option Nat} {ty:ak} {pos :String} {af:Array bM} {g:Option (Nat×Bool)} {x y z:aO} {K:(Nat→ag)→ah→Prop}
theorem Da {o:ar} {f:dH} {L:List ag} {R:ag→ah→Prop} (C:(execOp (ev N σ) o).run P w= .ok (.enter f L.toArray) w) (hr:aR P f L.toArray w R)
 (k:∀ v w',R v w'→K (cz σ o.dst v) w'):bI P N o σ w K:=by
 unfold bI gp;rw [de,C];refine gO hr fun e w' ⟨v,he,A⟩=> ?_;subst he;exact ⟨_,eC ..,k v w' A⟩
theorem cl {f:dH} {args:Array aO} {A:Array ak} {L:List ag} {R:ag→ah→Prop} (E:eL P f) (hr:aR P f L.toArray w R) (C:args.toList.map (ev N σ)=L)
 (k:∀ v w',R v w'→K (cz σ dst v) w'):bI P N ⟨dst,.call ⟨.value (.func f),args,A⟩,ty,pos,af,g⟩ σ w K:=by
 refine Da (f:=f) ?_ hr k;have :args.map (ev N σ)=L.toArray:=by rw [← C,← gN]
 simp [execOp,resolve,ev,kD,invoke,this,E L.toArray w]
theorem u6 {f:dH} {fo:aO} {first cap:Array ag} {args:Array aO} {A:Array ak} {L:List ag} {R:ag→ah→Prop} (E:eL P f) (I:ev N σ fo= .func (.func f) first cap)
 (hr:aR P f L.toArray w R) (C:first.toList++args.toList.map (ev N σ)++cap.toList=L)
 (k:∀ v w',R v w'→K (cz σ dst v) w'):bI P N ⟨dst,.call ⟨.value fo,args,A⟩,ty,pos,af,g⟩ σ w K:=by
 refine Da (f:=f) ?_ hr k;have :first++args.map (ev N σ)++cap=L.toArray:=by rw [← C,← gN,← Dk,← Dk]
 simp [execOp,resolve,I,kD,invoke,this,E L.toArray w]
theorem kB {o:ar} {ob:Obj} {v:Nat→ag} (A:(execOp (ev N σ) o).run P w= .ok (.value<|v w.heap.size) {w with heap:=w.heap.push ob})
 (k:∀ b w',b=w.heap.size→Nw w w'→w'.heap[b]? =some ob→K (cz σ o.dst<|v b) w'):bI P N o σ w K:=by grind [iu,wN]
theorem al {e:ak} {C:List ag} (A:zeroOf P e=some (some C)) (k:∀ b w',b=w.heap.size→Nw w w'→aI w'.heap b C→K (cz σ dst<|.pointer<|some ⟨b,0,none⟩) w'):
 bI P N ⟨dst,.alloc e,ty,pos,af,g⟩ σ w K:=by
 refine kB (v:=fun b=> .pointer<|some ⟨b,0,none⟩) (ob:= .cells C.toArray e (0,0)) ?_ fun b w' E I J=>k b w' E I ⟨e,J⟩;unfold zeroOf at A;simp only [fU] at A;obtain ⟨i,hi,zv,L,rfl⟩:=A;simp [execOp,uc,zeroValue,di hi,L,newVar,newRow]
theorem fI {e:ak} {C:List ag} (A:zeroOf P e=some (some C)) (k:∀ b w',b=w.heap.size→Nw w w'→w'.heap[b]? =some (.cells C.toArray e (0,0))→K (cz σ dst<|.pointer<|some ⟨b,0,none⟩) w'):
 bI P N ⟨dst,.alloc e,ty,pos,af,g⟩ σ w K:=by
 refine kB (v:=fun b=> .pointer<|some ⟨b,0,none⟩) (ob:= .cells C.toArray e (0,0)) ?_ k;unfold zeroOf at A;simp only [fU] at A;obtain ⟨i,hi,zv,E,rfl⟩:=A;simp [execOp,uc,zeroValue,di hi,E,newVar,newRow]
theorem bx {e:ak} {v:ag} {L:List ag} (J:ev N σ x=v) (I:v.cells.toList=L) (k:∀ b w',b=w.heap.size→Nw w w'→aI w'.heap b L→K (cz σ dst<|.pointer<|some ⟨b,0,none⟩) w'):
 bI P N ⟨dst,.box e x,ty,pos,af,g⟩ σ w K:=by
 subst I;refine kB (v:=fun b=> .pointer<|some ⟨b,0,none⟩) (ob:= .cells v.cells e (0,0)) ?_ fun b w' A C E=>k b w' A C ⟨e,E⟩;simp [execOp,Instr.box,J,newVar,newRow]
theorem Bi {t:ak} (k:∀ b w',b=w.heap.size→Nw w w'→w'.heap[b]? =some (.map #[] 0)→K (cz σ dst<|.map<|some b) w'):bI P N ⟨dst,.makeMap t none,ty,pos,af,g⟩ σ w K:=by
 refine kB (v:=fun b=> .map<|some b) ?_ k;simp [execOp,Instr.makeMap]
theorem FC {t e:ak} {size bytes:Nat} {v:ag} {L:List ag} (V:eU P t e size bytes=true) (U:aZ size 1000=true) (aa:ev N σ x=v) (Z:v.cells.size=size)
 (J:v.cells.toList=L) (k:∀ b w',b=w.heap.size→Nw w w'→w'.heap[b]? =some (.cells L.toArray e (0,0))→K (cz σ dst<|.slice (some ⟨b,0,none⟩) 1 1) w'):bI P N ⟨dst,.buildSlice t 1 #[(0,x)],ty,pos,af,g⟩ σ w K:=by
 subst J;refine kB (v:=fun b=> .slice (some ⟨b,0,none⟩) 1 1) (ob:= .cells v.cells e (0,0)) ?_ fun b w' A C E=>k b w' A C<|by simpa using E
 obtain ⟨hu,i,zv,hi,ac,A,C,E,ad⟩:=nt V;have ae:size≤1000:=by simpa using U
 have M:jv (fun i=>some (i*size,size)) ((lz size).map (zv.cells[· % zv.cells.size]!)) [(0,v)]=some v.cells:=by
  have I:((lz size).map (zv.cells[· % zv.cells.size]!)).size=size:=by simp
  generalize (lz size).map (zv.cells[· % zv.cells.size]!)=cs at I;simp only [jv,Z];rw [if_neg (by rw [I]; simp)];congr 1;have key:∀ (l:List ag) (m:Nat) (cs:Array ag),m+l.length≤cs.size→∀ j,((l.zipIdx m).foldl (fun (cs:Array ag) (c,j)=>cs.setIfInBounds (0 *size+j) c) cs)[j]? =if j < m then cs[j]? else if j < m+l.length then l[j - m]? else cs[j]? :=by
   intro l
   induction l with
   | nil=>intro m cs hm j; simp; intro A C; omega
   | cons c l ih=>
     intro m cs hm j;simp only [Ez,q9,bA] at hm ⊢;rw [ih (m+1) _ (by simp; omega)];simp only [pH,cr,qS];by_cases A:j < m
     · rw [if_pos ab,if_pos A,if_neg ab]
     · rw [if_neg A];by_cases C:j=m
       · subst C;rw [if_pos ab,if_pos rfl,if_pos ab,if_pos ab];simp
       · rw [if_neg ab];by_cases E:j < m+1 +l.length
         · rw [if_pos E,if_pos ab];obtain ⟨q,O⟩:∃ q,j - m=q+1:=⟨j - m - 1,ab⟩
           rw [O,gR,show j - (m+1)=q from by omega]
         · rw [if_neg E,if_neg ab,if_neg ab]
  apply tR;intro j;have :=key v.cells.toList 0 cs (by simp; omega) j;rw [show (v.cells.zipIdx.foldl (fun (cs:Array ag) (c,j)=>cs.setIfInBounds (0 *size+j) c) cs)=((v.cells.toList.zipIdx 0).foldl (fun (cs:Array ag) (c,j)=>cs.setIfInBounds (0 *size+j) c) cs) from by
   rw [← Array.foldl_toList]; simp [Array.toList_zipIdx]]
  rw [this];simp only [Nat.not_lt_zero,if_false,cr,Nat.sub_zero,Array.length_toList,Array.getElem?_toList];split
  · rfl
  · rw [tT ab,tT ab]
 simp only [execOp,ud,gq,bh hu,fR,sizeOf,di hi,jw,A,Nat.one_mul,q7,zeroValue,ac,List.map_toArray,dq,List.map_nil,aa,M];rw [if_neg (by rw [show (2:Nat) ^ 24=16777216 from rfl]; omega),if_neg ab];simp [newRow]
theorem y9 {t e:ak} {size bytes:Nat} {v:ag} {L:List ag} (M:eU P t e size bytes=true) (J:aZ size 1000=true) (U:ev N σ x=v) (O:v.cells.size=size)
 (I:v.cells.toList=L) (k:∀ b w',b=w.heap.size→Nw w w'→aI w'.heap b L→K (cz σ dst<|.slice (some ⟨b,0,none⟩) 1 1) w'):bI P N ⟨dst,.buildSlice t 1 #[(0,x)],ty,pos,af,g⟩ σ w K:=
 FC M J U O I fun b w' A C E=>k b w' A C ⟨_,E⟩
theorem me {v:ag} (h:v.oneCell'=true):v.cells= #[v]:=by cases v <;> first | rfl | (cases h; done)
theorem Ac {loc:Nat→Option (Nat×Nat)} (C:∀ i,loc i=some (i*1,1)):∀ (rest pre A:List ag),A.length=rest.length→rest.all kH=true→
 jv loc (pre++A).toArray ((rest.zipIdx pre.length).map fun q=>(q.2,q.1))=some (pre++rest).toArray
 | [],pre,A,hl,_=>by
   rw [jx hl]; rfl
 | v::r,pre,A,hl,h1=>by
   cases A with
   | nil=>simp at hl
   | cons z A=>
     rw [uj,bf] at h1;have E:=me h1.1;have ih:=Ac C r (pre++ [v]) A (by simpa using hl) h1.2;simp only [Ez,dq,jv,C,E];rw [if_neg (by simp)];simp only [bB,fE,gQ,List.singleton_append] at ih;rw [← ih];simp
theorem FD {t e bytes n:Nat} {ps:Array (Nat×aO)} {L:List ag} (J:eU P t e 1 bytes=true) (hp:ps.toList.map (fun p=>(p.1,ev N σ p.2))=(L.zipIdx 0).map fun q=>(q.2,q.1)) (C:L.all kH=true) (hn:L.length=n) (A:(aZ n 1000 && av 0 n)=true)
 (k:∀ b w',b=w.heap.size→Nw w w'→w'.heap[b]? =some (.cells L.toArray e (0,0))→K (cz σ dst<|.slice (some ⟨b,0,none⟩) n n) w'):bI P N ⟨dst,.buildSlice t n ps,ty,pos,af,g⟩ σ w K:=by
 subst hn;refine kB (v:=fun b=> .slice (some ⟨b,0,none⟩) L.length L.length) (ob:= .cells L.toArray e (0,0)) ?_ k;obtain ⟨hu,i,zv,hi,M,E,U,V,Z⟩:=nt J;simp only [bf] at A;have aa:L.length≤1000:=by simpa using A.1
 have ac:0 < L.length:=by have :=bH A.2; omega
 have I:jv (fun i=>some (i*1,1)) ((lz<|L.length*1).map (zv.cells[· % zv.cells.size]!)) (ps.toList.map fun p=>(p.1,ev N σ p.2))=some L.toArray:=by
  rw [hp];have O:((lz<|L.length*1).map (zv.cells[· % zv.cells.size]!)).toList.length=L.length:=by simp
  have :=Ac (loc:=fun i=>some (i*1,1)) (fun _=>rfl) L [] ((lz<|L.length*1).map (zv.cells[· % zv.cells.size]!)).toList O C;rw [lG,lG,yh] at this;exact this
 simp only [execOp,ud,gq,bh hu,fR,sizeOf,di hi,jw,E,q7,zeroValue,M,gN,I];rw [if_neg (by rw [show (2:Nat) ^ 24=16777216 from rfl]; omega),if_neg ab];simp [newRow]
theorem n7 {t e:ak} {bytes:Nat} {v:ag} (C:eU P t e 1 bytes=true) (E:ev N σ x=v) (A:v.oneCell'=true)
 (k:∀ b w',b=w.heap.size→Nw w w'→aI w'.heap b [v]→K (cz σ dst<|.slice (some ⟨b,0,none⟩) 1 1) w'):bI P N ⟨dst,.buildSlice t 1 #[(0,x)],ty,pos,af,g⟩ σ w K:=
 y9 C rfl E (by rw [me A]; rfl) (by rw [me A]) k
theorem rJ {t e:ak} {size bytes:Nat} {L:List ag} (E:eU P t e size bytes=true) (C:aZ size 1000=true) (I:ev N σ x= .agg L.toArray) (A:L.length=size)
 (k:∀ b w',b=w.heap.size→Nw w w'→aI w'.heap b L→K (cz σ dst<|.slice (some ⟨b,0,none⟩) 1 1) w'):bI P N ⟨dst,.buildSlice t 1 #[(0,x)],ty,pos,af,g⟩ σ w K:=
 y9 E C I (by simpa [nQ] using A) (by simp [nQ]) k
theorem zb {e:ak} {v:ag} (C:ev N σ x=v) (A:v.oneCell'=true) (k:∀ b w',b=w.heap.size→Nw w w'→aI w'.heap b [v]→K (cz σ dst<|.pointer<|some ⟨b,0,none⟩) w'):
 bI P N ⟨dst,.box e x,ty,pos,af,g⟩ σ w K:=bx C (by rw [me A]) k
theorem rL {e:ak} {L:List ag} (A:ev N σ x= .agg L.toArray) (k:∀ b w',b=w.heap.size→Nw w w'→aI w'.heap b L→K (cz σ dst<|.pointer<|some ⟨b,0,none⟩) w'):
 bI P N ⟨dst,.box e x,ty,pos,af,g⟩ σ w K:=bx A (by simp [nQ]) k
theorem zc {e:ak} {L:List ag} (I:ev N σ x= .agg L.toArray) (k:∀ b w',b=w.heap.size→Nw w w'→w'.heap[b]? =some (.cells L.toArray e (0,0))→K (cz σ dst<|.pointer<|some ⟨b,0,none⟩) w'):
 bI P N ⟨dst,.box e x,ty,pos,af,g⟩ σ w K:=by
 refine kB (v:=fun b=> .pointer<|some ⟨b,0,none⟩) (ob:= .cells L.toArray e (0,0)) ?_ fun b w' A C E=>k b w' A C E;simp [execOp,Instr.box,I,newVar,newRow,nQ]
theorem rH {l:List ag} (h:l.all kH=true):∀ u∈l,u.oneCell'=true :=uk.1 h
theorem fP {t b off :Nat} {e:ak} {L:List ag} {v:ag} (A:cO P t=some 1) (ad:ev N σ x= .pointer (some ⟨b,off,none⟩)) (ae:ev N σ y=v) (C:v.oneCell'=true) (hb:w.heap[b]? =some (.cells L.toArray e (0,0))) (Z:off < L.length)
 (k:∀ w',Md (fun k=>k=b) w w'→w'.heap[b]? =some (.cells (L.set off v).toArray e (0,0))→K σ w'):bI P N ⟨none,.store t x y,ty,pos,af,g⟩ σ w K:=by
 have I:v.cells= #[v]:=by cases v <;> first | rfl | (cases C; done)
 have J:w.cell? ⟨b,off,none⟩=some L[off]:=by rw [hZ,dg hb]; simp [Z]
 have M:w.frozen? ⟨b,off,none⟩=false :=by simp only [World.frozen?,show w.heap[b]? =_ from hb]; simp
 unfold cO at A;simp only [fU] at A;obtain ⟨i,hi,ab⟩:=A;have E:(⟨b,off,none⟩:aG).add 0=⟨b,off,none⟩:=rfl;have aa:(execOp (ev N σ) ⟨none,.store t x y,ty,pos,af,g⟩).run P w= .ok .skip (w.setCell ⟨b,off,none⟩ v):=by
  simp [execOp,DJ,ad,ae,pw,storeVar,I,sizeOf,di hi,ab,storeCells,E,run_store P w _ v _ C,J,M]
 unfold bI gp;rw [de,aa];refine ⟨σ,U,k _ ⟨U,U,by simp [uh],fun k _ O=> ?_⟩ ?_⟩
 · exact Below.heap_setCell w _ v k O
 · have V:=(bJ.1 hb).1;have ac:w.heap[b]= .cells L.toArray e (0,0):=(bJ.1 hb).2;simp only [uh];rw [nF (by simpa using V),Array.getElem_modify];simp [ac,List.setIfInBounds_toArray]
theorem st {t b off :Nat} {L:List ag} {v:ag} (M:cO P t=some 1) (I:ev N σ x= .pointer (some ⟨b,off,none⟩)) (J:ev N σ y=v) (A:v.oneCell'=true) (hb:aI w.heap b L) (E:off < L.length)
 (k:∀ w',Md (fun k=>k=b) w w'→aI w'.heap b (L.set off v)→K σ w'):bI P N ⟨none,.store t x y,ty,pos,af,g⟩ σ w K:=
 let ⟨_,hb⟩:=hb
 fP M I J A hb E fun w' A C=>k w' A ⟨_,C⟩
theorem ir {t b off n:Nat} {e:ak} {L vs:List ag} (A:cO P t=some n) (M:ev N σ x= .pointer (some ⟨b,off,none⟩)) (O:ev N σ y= .agg vs.toArray) (hn:vs.length=n) (C:vs.all kH=true) (hb:w.heap[b]? =some (.cells L.toArray e (0,0))) (V:off+n≤L.length)
 (k:∀ w',Md (fun k=>k=b) w w'→w'.heap[b]? =some (.cells (L.take off++vs++L.drop (off+n)).toArray e (0,0))→K σ w'):bI P N ⟨none,.store t x y,ty,pos,af,g⟩ σ w K:=by
 unfold cO at A;simp only [fU] at A;obtain ⟨i,hi,J⟩:=A;have bD:=run_storeCells_at P b off e vs 0 L.toArray w hb (by simp; omega)<|rH C;have I:(execOp (ev N σ) ⟨none,.store t x y,ty,pos,af,g⟩).run P w= .ok .skip (w.setRow b (L.take off++vs++L.drop (off+n)).toArray):=by
  simp [execOp,DJ,M,O,pw,storeVar,nQ,sizeOf,di hi,J,hn,bD]
 unfold bI gp;rw [de,I];exact ⟨σ,U,k _ ⟨U,U,by simp,fun k _ E=>setRow_other w b k _ E⟩<|setRow_heap w b _ _ e _ hb⟩
theorem Fe {t ty e:ak} {i:TypeInfo} {zv:ag} {B n m c:Nat} {v Z:ag} {xs news:List ag} {ad:aG} {w':ah} (hu:P.underlying t=some (.slice e)) (hi:P.info? e=some i) (V:i.zero=some zv) (am:zv.cells.size=i.size) (aj:0 < i.size)
 (I:w.ownsRow B e i.size v n xs) (E:news.length=m*i.size) (J:∀ j u,news[j]? =some u→w.cell? (ad.add j)=some u) (L:∀ u∈news,u.oneCell'=true) (M:n+m≤maxLen) (hb:(n+m)*i.bytes≤140737488355328)
 (hr:(jX #[t,t] ty #[v,.slice (some ad) m c]).run P w= .ok Z w'):∀ k,Z.ownBlock=some k→v.ownBlock=some k∨w.heap.size≤k:=by
 intro k A;have an:n+m≤9223372036854775807:=by unfold maxLen at M; omega
 rcases I.2 with ⟨rfl,rfl⟩ | ⟨C,cap,cur,rfl,ap,ai,ar,aq,ac,au⟩
 · have al:xs= []:=jx<|by simpa using I.1
   subst al;obtain ⟨v2,av,O,aa,_,_⟩:=run_append_own (P:=P) w w.heap.size t ty e i zv i.size i.bytes hu hi V rfl rfl am aj _ 0 [] (iz w w.heap.size e i.size) ad m c news E J L M hb (aT _);rw [hr] at O;cases O;exact .inr (by
    rcases aa.2 with ⟨h,_⟩ | ⟨g2,_,_,h,ao,_⟩
    · rw [h] at A; simp [cR] at A
    · rw [h] at A; simp only [cR,bp] at A; omega)
 · by_cases U:n+m≤cap
   · have ae:n*i.size+news.length≤cur.size:=by rw [E,ac,← Nat.add_mul]; exact Nat.mul_le_mul_right _ U
     rw [run_append_room (P:=P) w t ty e i hu hi C n cap cur ai ad m c news E J L U ae] at hr;cases hr;exact .inl A
   · have holds:∀ j u,xs[j]? =some u→w.cell? ((⟨C,0,none⟩:aG).add j)=some u:=I.cells (g:=C) rfl;rw [run_append_grow (P:=P) w t ty e i zv hu hi V ⟨C,0,none⟩ n cap xs I.1 holds ad m c news E J ab ab (growslice_fits ab hb)] at hr;cases hr;simp only [cR,bp] at A;exact .inr ab
theorem ap {t e size bytes B n m c:Nat} {v:ag} {xs news:List ag} {a:Option aG} (ao:eU P t e size bytes=true) (E:w.ownsRow B e size v n xs) (aa:ev N σ x=v) (ai:B≤w.heap.size)
 (ab:ev N σ y= .slice a m c) (M:bo w.heap a news) (I:news.length=m*size) (J:news.all kH=true) (hb:(n+m)*bytes≤140737488355328) (au:n+m≤9223372036854775807)
 (k:∀ A w',w'.ownsRow B e size A (n+m) (xs++news)→Md (fun k=>v.ownBlock=some k) w w'→(A= .slice none 0 0↔v= .slice none 0 0∧m=0)→(∀ k,A.ownBlock=some k→v.ownBlock=some k∨w.heap.size≤k)→K (cz σ dst A) w'):
 bI P N ⟨dst,.call ⟨.builtin .append,#[x,y],#[t,t]⟩,ty,pos,af,g⟩ σ w K:=by
 obtain ⟨hu,i,zv,hi,ac,Z,L,ad,V⟩:=nt ao;have O:n+m≤maxLen:=by unfold maxLen; omega
 by_cases hm:news= []
 · subst hm;have al:m=0:=by
    rcases Nat.mul_eq_zero.1 (I.symm.trans rfl) with h | h
    · exact h
    · omega
   subst al;have an:(jX #[t,t] ty #[v,.slice a 0 c]).run P w= .ok v w:=by
    rcases E.2 with ⟨rfl,rfl⟩ | ⟨ar,cap,cur,rfl,_,_,hle,_⟩
    · cases a <;> simp [jX,bh hu,sizeOf,di hi,Dr,ub,loadCells,loadCellsFrom]
    · cases a <;> simp [jX,bh hu,sizeOf,di hi,Dr,ub,loadCells,loadCellsFrom,hle,storeCells]
   refine iu (w':=w) (v:=v) ?_<|k v w (by simpa using E) (Md.refl _ _) (by simp) fun _ h=> .inl h;simp [execOp,resolve,invoke,builtin,aa,ab,an]
 · have ha:=M.ok hm;have U:∀ j u,news[j]? =some u→w.cell? ((⟨bk a,fo a,none⟩:aG).add j)=some u:=fun j u hu=>by rw [dO,hZ]; exact M.ay j u hu
   obtain ⟨A,w',hr,ae,C,ah⟩:=run_append_own (P:=P) w B t ty e i zv size bytes hu hi ac Z L ad V v n xs E ⟨bk a,fo a,none⟩ m c news I U (rH J) O hb ai;subst Z L;have aj:=Fe hu hi ac ad V E I U (rH J) O hb hr;refine iu (w':=w') (v:=A) ?_<|k A w' ae ⟨C.os,C.output,C.size,fun k ak am=>C.block k ak fun e=>am e.symm⟩ ah aj;have aq:ev N σ y= .slice (some ⟨bk a,fo a,none⟩) m c:=ab.trans<|congrArg (fun a=>fC a m c) ha;simp [execOp,resolve,invoke,builtin,aa,aq,hr]
theorem fv {t n len cap:Nat} {k:bu} {i:Int} {a:Option aG} (he:dh P t=some n) (A:ev N σ x= .slice a len cap) (C:ev N σ y= .int k i) (h0:0≤i∧i < len) (ha:a=some ⟨bk a,fo a,none⟩):
 (execOp (ev N σ) ⟨dst,.indexAddr t x y,ty,pos,af,g⟩).run P w= .ok (.value<|.pointer<|some ⟨bk a,fo a+i.toNat*n,none⟩) w:=
 ia he (by rw [A]; congr 1) C h0
end
theorem da {F:Nat→Prop} {w w':ah} {B e size n:Nat} {v:ag} {xs:List ag} (h:w.ownsRow B e size v n xs) (hm:Md F w w') (A:∀ k,v.ownBlock=some k→¬F k):w'.ownsRow B e size v n xs:=by
 refine ⟨h.1,?_⟩;rcases h.2 with hn | ⟨g,cap,cur,rfl,hb,C,rest⟩
 · exact .inl hn
 · exact .inr ⟨g,cap,cur,U,hb,hm.aq C (A g U),rest⟩
section
variable {P:an} {N:Fm} {σ:Nat→ag} {w:ah} {dst:Option Nat} {ty:ak} {pos :String} {af:Array bM} {g:Option (Nat×Bool)} {x y z:aO} {K:(Nat→ag)→ah→Prop}
end
theorem BI {w:ah} {B e size n:Nat} {v:ag} {xs:List ag} (h:w.ownsRow B e size v n xs):v.oneCell'=true :=by
 rcases h.2 with ⟨rfl,_⟩ | ⟨g,cap,cur,rfl,_⟩ <;> rfl
theorem iQ {w:ah} {B e size n:Nat} {v:ag} {xs:List ag} (h:w.ownsRow B e size v n xs):∃ a cap,v= .slice a n cap:=by
 rcases h.2 with ⟨rfl,rfl⟩ | ⟨g,cap,cur,rfl,_⟩
 · exact ⟨_,_,U⟩
 · exact ⟨_,_,U⟩
theorem Kt {w:ah} {B B' e I size V n U:Nat} {v J:ag} {xs Z:List ag} (h:w.ownsRow B e size v n xs) (L:w.ownsRow B' I V J U Z) (O:e≠I) {k:Nat} (C:v.ownBlock=some k):J.ownBlock≠some k:=by
 intro E;rcases h.2 with ⟨rfl,_⟩ | ⟨g,cap,cur,rfl,_,M,_⟩
 · simp [cR] at C
 · rcases L.2 with ⟨rfl,_⟩ | ⟨ac,aa,ab,rfl,_,A,_⟩
   · simp [cR] at E
   · simp only [cR,bp] at C E;subst C E;rw [M] at A;simp only [bp,DO] at A;exact O A.2.1
theorem cE {w w':ah} {B e size n:Nat} {v:ag} {xs:List ag} (h:w.ownsRow B e size v n xs) (hm:Wk w w'):w'.ownsRow B e size v n xs:=da h hm fun _ _ x=>x
theorem dF {w:ah} {B e size n:Nat} {v:ag} {xs:List ag} (h:w.ownsRow B e size v n xs) {k:Nat} (A:v.ownBlock=some k):B≤k∧k < w.heap.size:=h.lt k A
theorem Wk.own {w0 w w':ah} {B e size n:Nat} {v:ag} {xs:List ag} (h:Wk w0 w) (A:w.ownsRow B e size v n xs) (hm:Md (fun k=>v.ownBlock=some k) w w') (E:w0.heap.size≤B):Wk w0 w':=
 Md.trans' h hm (fun k I C=>by have :=(dF A C).1; omega)
theorem qA {w:ah} {B e size n:Nat} {v:ag} {xs:List ag} (h:w.ownsRow B e size v n xs):∃ a cap,v= .slice a n cap∧bo w.heap a xs∧n≤cap∧(∀ k,v.ownBlock=some k→a=some ⟨k,0,none⟩∧B≤k∧k < w.heap.size)∧(v.ownBlock=none→xs= []):=by
 rcases h.2 with ⟨rfl,rfl⟩ | ⟨g,cap,cur,rfl,hb,C,hle,_,_,E⟩
 · have :xs= []:=jx<|by simpa using h.1
   subst this;exact ⟨none,0,U,bo.nil _ _,aT _,fun k A=>by simp [cR] at A,fun _=>rfl⟩
 · refine ⟨_,cap,U,⟨fun _=>rfl,fun j u hu=> ?_⟩,hle,fun k A=> ?_,fun A=>by simp [cR] at A⟩
   · show ay w.heap g (0 +j)=_;rw [cr,dg C];rw [← E,gr] at hu;split at hu
     · simpa using hu
     · cases hu
   · simp only [cR,bp] at A; subst A;exact ⟨U,hb,(bJ.1 C).1⟩
theorem fO {w:ah} {B e size n cap:Nat} {a:Option aG} {xs:List ag} (h:w.ownsRow B e size (.slice a n cap) n xs):n≤cap∧bo w.heap a xs:=by grind [qA]
theorem sW {w:ah} {B B' e size n:Nat} {v:ag} {xs:List ag} (h:w.ownsRow B e size v n xs) (E:B'≤B):w.ownsRow B' e size v n xs:=by
 refine ⟨h.1,?_⟩;rcases h.2 with h | ⟨g,cap,cur,A,C,r⟩
 · exact .inl h
 · exact .inr ⟨g,cap,cur,A,bS E C,r⟩
theorem bo.drop {h:Array Obj} {a:Option aG} {xs:List ag} (C:bo h a xs) {cap k size:Nat} (I:xs.length≤cap*size):bo h (dc a cap k size) (xs.drop<|k*size):=by
 unfold dc;by_cases A:cap=k
 · rw [if_pos A,lB (by rw [← A]; exact I)]; exact bo.nil _ _
 · rw [if_neg A];by_cases E:xs= []
   · subst E; rw [List.drop_nil]; exact bo.nil _ _
   · have ha:=C.ok E;rw [ha];simp only [dJ,dO];refine ⟨fun _=>rfl,fun j u hu=> ?_⟩;rw [List.getElem?_drop] at hu;have :=C.ay _ _ hu;show Hb.ay h (bk a) (fo a+k*size+j)=_;rw [fT]; exact this
section
variable {P:an} {N:Fm} {σ:Nat→ag} {w:ah} {dst:Option Nat} {ty:ak} {pos :String} {af:Array bM} {g:Option (Nat×Bool)} {x y z:aO} {K:(Nat→ag)→ah→Prop}
end
end Go.Hb
namespace Go.Hb
section
variable {P:an} {md:nP} {ops:Array ar} {Q:ba→Act→ah→Prop} {S:ah→Prop} {r:Nat}
def lv (P:an) (md:nP) (ops:Array ar) (Q:ba→Act→ah→Prop) (S:ah→Prop) (r:Nat):Nat→Array Bool→Act→ah→Prop
 | 0,listed,a,w=>dV md ops listed= []∧Q .normal a w
 | fuel+1,listed,a,w=>
   (dV md ops listed= []→Q .normal a w)∧
   ∀ i∈dV md ops listed,wpOp P ops Q i (fun A w'=>((listed.setIfInBounds i true).getD r false =false→S w')∧lv P md ops Q S r fuel (listed.setIfInBounds i true) A w') a w
theorem C7:∀ (fuel:Nat) (listed:Array Bool) (a:Act) (w:ah),lv P md ops Q S r fuel listed a w→wpAny P md ops Q fuel listed a w
 | 0,_,_,_,h=>h
 | fuel+1,_,_,_,h=>⟨h.1,fun i hi=>wpOp_mono (fun A w' C=>C7 fuel _ A w' C.2)<|h.2 i hi⟩
theorem Nb {i:Nat} {I:ar} {v:ag} (hi:ops[i]? =some I) (ak:∀ (j:Nat) (o:ar) cs b,ops[j]? =some o→o.op≠.select cs b)
 (ao:∀ c a w,Q (.panic c) (a.put I.dst v) w→Q (.panic c) a w) (aA:∀ o,ops[r]? =some o→∃ x∈o.after,dB md x=true∧x.on=i) (au:i≠r):
 ∀ (fuel:Nat) (listed:Array Bool) (a:Act) (w:ah),
   (∀ j C,ops[j]? =some C→j≠i→listed.getD j true =false→(∀ x∈C.after,dB md x=true→x.on≠i)→I.apart ops C=true)→
   i∈dV md ops listed→YieldsIf P ops S I v a→S w→listed.getD r false =false→
   lv P md ops Q S r fuel (listed.setIfInBounds i true) (a.put I.dst v) w→lv P md ops Q S r (fuel+1) listed a w:=by
 intro fuel
 induction fuel with
 | zero=>
   intro listed a w _ hr U J _ H;refine ⟨fun h=>(by rw [h] at hr; cases hr),fun j M=> ?_⟩;by_cases A:j=i
   · subst A; exact U.wpOp hi J ⟨fun _=>J,H⟩
   · have :=ready_mono M A;rw [H.1] at this;cases this
 | succ fuel ih=>
   intro listed a w aa hr U J ae H;refine ⟨fun h=>(by rw [h] at hr; cases hr),fun j M=> ?_⟩;by_cases A:j=i
   · subst A; exact U.wpOp hi J ⟨fun _=>J,H⟩
   · have E:=H.2 j<|ready_mono M A;obtain ⟨ad,C,O,ap⟩:=mem_ready.1 M;have aj:∀ x∈C.after,dB md x=true→x.on≠i:=fun x Z hb heq=>by
      have E:=ap x Z hb;have h0:=(mem_ready.1 hr).1;rw [heq] at E;rcases dW i listed.size with V | V
      · simp [V] at h0 E; rw [h0] at E; cases E
      · simp [tT V] at E
     have ac:j≠r:=by
      rintro rfl;obtain ⟨x,Z,hb,az⟩:=aA C O;exact aj x Z hb az
     have ax:(listed.setIfInBounds j true).getD r false =false :=by rw [getD_set_ne false ac]; exact ae
     have ai:((listed.setIfInBounds i true).setIfInBounds j true).getD r false =false :=by rw [getD_set_ne false ac,getD_set_ne false au]; exact ae
     have an:=wpOp_putIf O (aa j C O A ad aj) (fun cs b=>ak i I cs b hi) (fun cs b=>ak j C cs b O) ao U E;have aq:∀ k ok,ops[k]? =some ok→k≠i→(listed.setIfInBounds j true).getD k true =false→
      (∀ x∈ok.after,dB md x=true→x.on≠i)→I.apart ops ok=true :=fun k ok av aw al ay=>by
      refine aa k ok av aw ?_ ay;by_cases ab:j=k
      · subst ab; exact ad
      · rw [getD_set_ne true ab] at al; exact al
     refine wpOp_mono (fun am w' L=>⟨fun _=>L.2.1 ai,ih (listed.setIfInBounds j true) am w' aq (ready_mono hr<|Ne.symm A) L.1 (L.2.1 ai) ax ?_⟩) an;rw [yg _ _ A];exact L.2.2
end
section
variable {P:an} {N:Fm} {ops:Array ar} {Q:ba→(Nat→ag)→ah→Prop} {σ:Nat→ag} {w:ah} {S:ah→Prop} {r fuel:Nat} {listed:Array Bool}
 {d':Option Nat} {d:Nat} {op:Op} {ty:ak} {pos :String} {af:Array bM} {v:ag}
def bV (P:an) (N:Fm) (ops:Array ar) (Q:ba→(Nat→ag)→ah→Prop) (S:ah→Prop) (r fuel:Nat) (listed:Array Bool) (σ:Nat→ag) (w:ah):Prop :=
 lv P .any ops (lift N Q) S r fuel listed (act N σ) w
theorem sG {id:Nat} {l:List ar} (S:ah→Prop) (r:Nat) (hr:km N.r l=true) (hm:P.follows .mixedOrders=true) (A:S w.drew) (h:bV P N l.toArray Q S r l.length (pj l.length false) σ w.drew):bg P N (.region id l.toArray true) Q σ w:=by
 exact yV hr hm<|C7 _ _ _ _<|by rw [ej]; exact h
def ov (F:List Nat) (ops:Array ar) (listed:Array Bool) (r i:Nat):Bool:=
 et F ops listed i && !(listed.getD r false) && i !=r && (match ops[r]? with | some o=>o.after.toList.any (fun x=>dB .any x && x.on==i) | none=>false)
theorem lq (i:Nat) (hi:ops[i]? =some ⟨some d,op,ty,pos,af,none⟩) (C:ov N.F ops listed r i=true)
 (U:∀ w,S w→(execOp (ev N σ) ⟨some d,op,ty,pos,af,none⟩).run P w= .ok (.value v) w) (A:S w)
 (k:bV P N ops Q S r fuel (listed.setIfInBounds i true) (aY σ d v) w):bV P N ops Q S r (fuel+1) listed σ w:=by
 simp only [ov,et,bf,kC,bne_iff_ne,ne_eq] at C;obtain ⟨⟨⟨⟨⟨⟨J,L⟩,hf3⟩,hfF⟩,hf4⟩,hf5⟩,hf6⟩:=C;rw [hi] at hfF;refine Nb hi (yp J) (fun c a w=>m8 hfF c a w) (fun o M=> ?_) hf5 fuel listed _ w (yo hi L) (by simpa using hf3) (.inl ⟨fj _ rfl _,fun w A=> ?_⟩) A hf4 ?_ (v:=v)
 · rw [M] at hf6;simp only [D3,bf,beq_iff_eq] at hf6;obtain ⟨x,O,E,I⟩:=hf6;exact ⟨x,tW.1 O,E,I⟩
 · rw [de]; exact U w A
 · rw [eC]; exact k
theorem AQ (i:Nat) (hi:ops[i]? =some ⟨d',op,ty,pos,af,none⟩) (hr:jn ops listed i=true)
 (h:bI P N ⟨d',op,ty,pos,af,none⟩ σ w (fun σ w=>((listed.setIfInBounds i true).getD r false =false→S w)∧bV P N ops Q S r fuel (listed.setIfInBounds i true) σ w)):bV P N ops Q S r (fuel+1) listed σ w:=by
 have C:dV .any ops listed= [i]:=by simpa [jn] using hr
 refine ⟨fun h0=>absurd (C ▸ h0) (by simp),fun k A=> ?_⟩;rw [C] at A;obtain rfl :k=i:=by simpa using A
 unfold wpOp;simp only [hi];rw [if_pos (fj _ rfl _)];exact .inl<|qP h fun _ _ A=>A
theorem sC (i:Nat) (hi:ops[i]? =some ⟨d',op,ty,pos,af,none⟩) (hr:jn ops listed i=true)
 (h:bI P N ⟨d',op,ty,pos,af,none⟩ σ w (fun σ w=>S w∧bV P N ops Q S r fuel (listed.setIfInBounds i true) σ w)):bV P N ops Q S r (fuel+1) listed σ w:=by grind [AQ,Db]
theorem oC (i:Nat) (hi:ops[i]? =some ⟨d',op,ty,pos,af,none⟩) (hr:jn ops listed i=true) (C:(listed.setIfInBounds i true).getD r false =true)
 (h:bI P N ⟨d',op,ty,pos,af,none⟩ σ w (fun σ w=>bV P N ops Q S r fuel (listed.setIfInBounds i true) σ w)):bV P N ops Q S r (fuel+1) listed σ w:=
 AQ i hi hr (Db h fun _ _ A=>⟨fun h0=>absurd (h0.symm.trans C) dd,A⟩)
theorem oD (hr:(dV .any ops listed).isEmpty=true) (h:Q .normal σ w):bV P N ops Q S r fuel listed σ w:=by
 have A:dV .any ops listed= []:=by simpa using hr
 cases fuel with
 | zero=>exact ⟨A,σ,rfl,h⟩
 | succ fuel=>exact ⟨fun _=>⟨σ,rfl,h⟩,by rw [A]; simp⟩
attribute [irreducible] bV
end
end Go.Hb
namespace Go.Hb
section
variable {P:an} {md:nP} {ops:Array ar} {Q:ba→Act→ah→Prop} {S:ah→Prop} {r:Nat}
inductive mD (md:nP) (ops:Array ar) (i:Nat):Nat→Prop
 | one {r o e} :ops[r]? =some o→e∈o.after→dB md e=true→e.on=i→mD md ops i r
 | more {r o e} :ops[r]? =some o→e∈o.after→dB md e=true→mD md ops i e.on→mD md ops i r
def mC (md:nP) (ops:Array ar) (listed:Array Bool):Prop := ∀ (j:Nat) (o:ar),ops[j]? =some o→listed.getD j false =true→∀ e∈o.after,dB md e=true→listed.getD e.on false =true
theorem Aw {listed:Array Bool} {j k:Nat} (h:listed.getD k false =true):(listed.setIfInBounds j true).getD k false =true :=by
 by_cases e:j=k
 · subst e;by_cases A:j < listed.size
   · simp [A]
   · simp [A] at h
 · rw [getD_set_ne false e]; exact h
theorem mC.set {listed:Array Bool} {j:Nat} (h:mC md ops listed) (J:j∈dV md ops listed):mC md ops (listed.setIfInBounds j true):=by
 intro k o A E e he hb;obtain ⟨_,M,L,I⟩:=mem_ready.1 J;by_cases C:j=k
 · subst C;rw [L] at A; cases A;exact Aw<|I e he hb
 · rw [getD_set_ne false C] at E;exact Aw<|h k o A E e he hb
theorem mD.listed {listed:Array Bool} {i r:Nat} (L:mD md ops i r) (J:mC md ops listed) (ha:∀ o,ops[r]? =some o→∀ e∈o.after,dB md e=true→listed.getD e.on false =true):listed.getD i false =true :=by
 induction L with
 | one A C E I=>rw [← I]; exact ha _ A _ C E
 | more A C E _ ih=>exact ih fun o M e he hb=>J _ o M (ha _ A _ C E) e he hb
theorem Na {i:Nat} {C:ar} {v:ag} (hi:ops[i]? =some C) (am:∀ (j:Nat) (o:ar) cs b,ops[j]? =some o→o.op≠.select cs b)
 (aq:∀ c a w,Q (.panic c) (a.put C.dst v) w→Q (.panic c) a w) (au:mD md ops i r) (aw:i≠r):
 ∀ (fuel:Nat) (listed:Array Bool) (a:Act) (w:ah),mC md ops listed→
   (∀ j E,ops[j]? =some E→j≠i→listed.getD j true =false→(∀ x∈E.after,dB md x=true→x.on≠i)→C.apart ops E=true)→
   i∈dV md ops listed→YieldsIf P ops S C v a→S w→listed.getD r false =false→
   lv P md ops Q S r fuel (listed.setIfInBounds i true) (a.put C.dst v) w→lv P md ops Q S r (fuel+1) listed a w:=by
 intro fuel
 induction fuel with
 | zero=>
   intro listed a w _ _ hr U I _ H;refine ⟨fun h=>(by rw [h] at hr; cases hr),fun j J=> ?_⟩;by_cases A:j=i
   · subst A; exact U.wpOp hi I ⟨fun _=>I,H⟩
   · have :=ready_mono J A;rw [H.1] at this;cases this
 | succ fuel ih=>
   intro listed a w aa ab hr U I aj H;refine ⟨fun h=>(by rw [h] at hr; cases hr),fun j J=> ?_⟩;by_cases A:j=i
   · subst A; exact U.wpOp hi I ⟨fun _=>I,H⟩
   · have L:=H.2 j<|ready_mono J A;obtain ⟨ai,E,O,Z⟩:=mem_ready.1 J;have ac:listed.getD i false =false :=by
      have h0:=(mem_ready.1 hr).1;rcases dW i listed.size with V | V
      · simpa [V] using h0
      · simp [V] at h0
     have aB:∀ x∈E.after,dB md x=true→x.on≠i:=fun x aC hb heq=>by
      have L:=Z x aC hb;rw [heq,ac] at L; cases L
     have ae:j≠r:=by
      rintro rfl;have :=au.listed aa fun o al=>by rw [O] at al; cases al; exact Z
      rw [ac] at this; cases this
     have az:(listed.setIfInBounds j true).getD r false =false :=by rw [getD_set_ne false ae]; exact aj
     have ak:((listed.setIfInBounds i true).setIfInBounds j true).getD r false =false :=by rw [getD_set_ne false ae,getD_set_ne false aw]; exact aj
     have ap:=wpOp_putIf O (ab j E O A ai aB) (fun cs b=>am i C cs b hi) (fun cs b=>am j E cs b O) aq U L;have av:∀ k ok,ops[k]? =some ok→k≠i→(listed.setIfInBounds j true).getD k true =false→
      (∀ x∈ok.after,dB md x=true→x.on≠i)→C.apart ops ok=true :=fun k ok ax ay an aA=>by
      refine ab k ok ax ay ?_ aA;by_cases ad:j=k
      · subst ad; exact ai
      · rw [getD_set_ne true ad] at an; exact an
     refine wpOp_mono (fun ao w' M=>⟨fun _=>M.2.1 ak,ih (listed.setIfInBounds j true) ao w' (aa.set J) av (ready_mono hr<|Ne.symm A) M.1 (M.2.1 ak) az ?_⟩) ap;rw [yg _ _ A];exact M.2.2
theorem Nc {i:Nat} {C:ar} {v:ag} (hi:ops[i]? =some C) (ai:∀ (j:Nat) (o:ar) cs b,ops[j]? =some o→o.op≠.select cs b)
 (am:∀ c a w,Q (.panic c) (a.put C.dst v) w→Q (.panic c) a w) (V:i≠r):
 ∀ (fuel:Nat) (listed:Array Bool) (a:Act) (w:ah),
   (∀ j E,ops[j]? =some E→j≠i→listed.getD j true =false→(∀ x∈E.after,dB md x=true→x.on≠i)→C.apart ops E=true)→
   i∈dV md ops listed→YieldsIf P ops (fun _=>True) C v a→(listed.getD r false =false→S w)→
   lv P md ops Q S r fuel (listed.setIfInBounds i true) (a.put C.dst v) w→lv P md ops Q S r (fuel+1) listed a w:=by
 intro fuel
 induction fuel with
 | zero=>
   intro listed a w _ hr M U H;refine ⟨fun h=>(by rw [h] at hr; cases hr),fun j L=> ?_⟩;by_cases A:j=i
   · subst A; exact M.wpOp hi trivial ⟨fun h=>U (by rw [getD_set_ne false V] at h; exact h),H⟩
   · have :=ready_mono L A;rw [H.1] at this;cases this
 | succ fuel ih=>
   intro listed a w ab hr M U H;refine ⟨fun h=>(by rw [h] at hr; cases hr),fun j L=> ?_⟩;by_cases A:j=i
   · subst A; exact M.wpOp hi trivial ⟨fun h=>U (by rw [getD_set_ne false V] at h; exact h),H⟩
   · have I:=H.2 j<|ready_mono L A;obtain ⟨ae,E,Z,an⟩:=mem_ready.1 L;have ap:listed.getD i false =false :=by
      have h0:=(mem_ready.1 hr).1;rcases dW i listed.size with O | O
      · simpa [O] using h0
      · simp [O] at h0
     have aw:∀ x∈E.after,dB md x=true→x.on≠i:=fun x ax hb heq=>by
      have I:=an x ax hb;rw [heq,ap] at I; cases I
     have al:=wpOp_putIf Z (ab j E Z A ae aw) (fun cs b=>ai i C cs b hi) (fun cs b=>ai j E cs b Z) am M I;have ao:∀ k ok,ops[k]? =some ok→k≠i→(listed.setIfInBounds j true).getD k true =false→
      (∀ x∈ok.after,dB md x=true→x.on≠i)→C.apart ops ok=true :=fun k ok aq au aj av=>by
      refine ab k ok aq au ?_ av;by_cases ad:j=k
      · subst ad; exact ae
      · rw [getD_set_ne true ad] at aj; exact aj
     have aa:(listed.setIfInBounds i true).setIfInBounds j true =(listed.setIfInBounds j true).setIfInBounds i true :=yg _ _ fun e=>A e.symm;have ac:(listed.setIfInBounds j true).getD r false =false→((listed.setIfInBounds i true).setIfInBounds j true).getD r false =false :=fun h=>by rw [aa,getD_set_ne false V]; exact h
     refine wpOp_mono (fun ak w' J=>⟨fun h=>J.2.1 (ac h),ih (listed.setIfInBounds j true) ak w' ao (ready_mono hr<|Ne.symm A) J.1 (fun h=>J.2.1<|ac h) ?_⟩) al;rw [← aa];exact J.2.2
end
section
variable {P:an} {N:Fm} {ops:Array ar} {Q:ba→(Nat→ag)→ah→Prop} {σ:Nat→ag} {w:ah} {S:ah→Prop} {r fuel:Nat} {listed:Array Bool}
 {d:Nat} {op:Op} {ty:ak} {pos :String} {af:Array bM} {v:ag}
def rS (ops:Array ar) (i:Nat):Nat→Nat→Bool
 | 0,_=>false
 | f+1,r=>match ops[r]? with | some o=>o.after.toList.any (fun e=>dB .any e && (e.on==i || rS ops i f e.on)) | none=>false
theorem G3 {i:Nat} :∀ (f r:Nat),rS ops i f r=true→mD .any ops i r:=by
 intro f
 induction f with
 | zero=>intro r h; cases h
 | succ f ih=>
   intro r h;rw [rS] at h;split at h
   · rename_i o A;simp only [D3,bf,nH,beq_iff_eq] at h;obtain ⟨e,he,hb,h⟩:=h;rcases h with h | h
     · exact .one A (tW.1 he) hb h
     · exact .more A (tW.1 he) hb<|ih _ h
   · cases h
def u5 (ops:Array ar) (listed:Array Bool):Bool:=(lH ops.size).all fun j=> !listed.getD j false || match ops[j]? with | some o=>o.after.toList.all (fun e=> !dB .any e || listed.getD e.on false) | none=>true
theorem F8 (h:u5 ops listed=true):mC .any ops listed:=by grind [u5,mC]
def vE (F:List Nat) (ops:Array ar) (listed:Array Bool) (r i:Nat):Bool:=et F ops listed i && !(listed.getD r false) && i !=r && u5 ops listed && rS ops i ops.size r
def mQ (F:List Nat) (ops:Array ar) (listed:Array Bool) (r i:Nat):Bool:=et F ops listed i && i !=r
theorem A6 (i:Nat) (hi:ops[i]? =some ⟨some d,op,ty,pos,af,none⟩) (C:vE N.F ops listed r i=true)
 (J:∀ w,S w→(execOp (ev N σ) ⟨some d,op,ty,pos,af,none⟩).run P w= .ok (.value v) w) (A:S w)
 (k:bV P N ops Q S r fuel (listed.setIfInBounds i true) (aY σ d v) w):bV P N ops Q S r (fuel+1) listed σ w:=by
 simp only [vE,et,bf,kC,bne_iff_ne,ne_eq] at C;obtain ⟨⟨⟨⟨⟨⟨⟨E,I⟩,hf3⟩,hfF⟩,hf4⟩,hf5⟩,hf6⟩,hf7⟩:=C;rw [hi] at hfF;unfold bV at*;refine Na hi (yp E) (fun c a w=>m8 hfF c a w) (G3 _ _ hf7) hf5 fuel listed _ w (F8 hf6) (yo hi I) (by simpa using hf3) (.inl ⟨fj _ rfl _,fun w A=> ?_⟩) A hf4 ?_ (v:=v)
 · rw [de]; exact J w A
 · rw [eC]; exact k
theorem qh (i:Nat) (hi:ops[i]? =some ⟨some d,op,ty,pos,af,none⟩) (A:mQ N.F ops listed r i=true)
 (J:∀ w,(execOp (ev N σ) ⟨some d,op,ty,pos,af,none⟩).run P w= .ok (.value v) w) (C:listed.getD r false =false→S w)
 (k:bV P N ops Q S r fuel (listed.setIfInBounds i true) (aY σ d v) w):bV P N ops Q S r (fuel+1) listed σ w:=by
 simp only [mQ,et,bf,bne_iff_ne,ne_eq] at A;obtain ⟨⟨⟨⟨E,I⟩,hf3⟩,hfF⟩,hf5⟩:=A;rw [hi] at hfF;unfold bV at*;refine Nc hi (yp E) (fun c a w=>m8 hfF c a w) hf5 fuel listed _ w (yo hi I) (by simpa using hf3) (.inl ⟨fj _ rfl _,fun w _=> ?_⟩) C ?_ (v:=v)
 · rw [de]; exact J w
 · rw [eC]; exact k
end
end Go.Hb
namespace Go.Hb
def CW:Nat→Nat→List UInt8
 | 0,n=> [eK n]
 | f+1,n=>if n < 128 then [eK n] else eK (n % 128 +128)::CW f (n / 128)
def MF (n:Nat):List UInt8:=CW n n
def frame:List (List UInt8)→List UInt8
 | []=> []
 | r::l=>MF r.length++(r++frame l)
theorem o7 {α:Type} (l:List α) (i:Nat) (d:α) (h:i < l.length):l.take (i+1)=l.take i++ [l.getD i d]:=by simp_all
end Go.Hb
namespace Go.Hb
def U8 (l:List UInt8):List ag:=l.map fun b=>bT .u8 b.toNat
theorem uJ (l:List UInt8):(U8 l).length=l.length:=by simp [U8]
theorem yM (a b:List UInt8):U8 (a++b)=U8 a++U8 b:=by simp [U8]
def lP (P:an) (t e u:ak):Bool:=
 eU P t e 1 1 && (match P.underlying e with | some (.int .u8)=>true | _=>false) && (match P.underlying u with | some .string=>true | _=>false) &&
  (match P.info? e with | some i=>(match i.zero with | some (.int .u8 0)=>true | _=>false) | none=>false)
theorem zd {P:an} {t e u:ak} (h:lP P t e u=true):
 eU P t e 1 1=true∧P.underlying e=some (.int .u8)∧P.underlying u=some .string∧∃ i,P.info? e=some i∧i.zero=some (.int .u8 0):=by grind [lP,eU]
section
variable {P:an} {N:Fm} {σ:Nat→ag} {w:ah} {dst:Option Nat} {ty:ak} {pos :String} {af:Array bM} {g:Option (Nat×Bool)} {x y z:aO} {K:(Nat→ag)→ah→Prop}
theorem foldl_push (l:List UInt8) (r:ByteArray):(l.map fun b=>(b.toNat:Int)).foldl (fun r n=>r.push<|eK n.toNat) r=⟨r.data++l.toArray⟩:=by
 induction l generalizing r with
 | nil=>simp
 | cons b l ih=>
   simp only [dq,q9];rw [ih];apply ByteArray.ext;simp [ByteArray.push]
theorem vg {t e u n c:Nat} {a:Option aG} {l:List UInt8} (h:lP P t e u=true) (V:ev N σ x= .slice a n c) (A:bo w.heap a (U8 l)) (C:l.length=n):
 (execOp (ev N σ) ⟨dst,.convert t u x,ty,pos,af,g⟩).run P w= .ok (.value<|str l) w:=by
 obtain ⟨E,I,J,_⟩:=zd h;obtain ⟨hu,_⟩:=nt E;have L:(Dx<|.slice a n c).run P w= .ok (str l) w:=by
  by_cases he:l= []
  · subst he;cases a with
    | none=>simp [Dx,str]; rfl
    | some a=>
      subst C;have :=run_bytesToString (P:=P) w a 0 c []<|by simp [loadCells,loadCellsFrom]
      exact this.trans U
  · have ha:=A.ok<|by simpa [U8] using he
    have O:(loadCells ⟨bk a,fo a,none⟩ n).run P w= .ok ((l.map fun b=>(b.toNat:Int)).map<|bT .u8).toArray w:=by
     subst C;have :=run_loadCells_list (P:=P) w ⟨bk a,fo a,none⟩ (U8 l) fun j v M=>by
      rw [dO,hZ];exact A.ay j v M
     rw [uJ] at this;rw [this];simp [U8]
    rw [ha,run_bytesToString w _ n c _ O,foldl_push];simp [str,ByteArray.empty,ByteArray.emptyWithCapacity];rfl
 simp [execOp,V,run_convert_bytes_string w t u e a n c hu I J,L]
theorem Fc {t e u B n:Nat} {v:ag} {xs:List ag} {l:List UInt8} (h:lP P t e u=true) (E:w.ownsRow B e 1 v n xs) (U:ev N σ x=v) (ah:B≤w.heap.size) (am:ev N σ y=str l)
 (hb:n+l.length≤140737488355328)
 (k:∀ C w',w'.ownsRow B e 1 C (n+l.length) (xs++U8 l)→Md (fun k=>v.ownBlock=some k) w w'→(C= .slice none 0 0↔v= .slice none 0 0∧l= [])→(∀ k,C.ownBlock=some k→v.ownBlock=some k∨w.heap.size≤k)→K (cz σ dst C) w'):
 bI P N ⟨dst,.call ⟨.builtin .append,#[x,y],#[t,u]⟩,ty,pos,af,g⟩ σ w K:=by
 obtain ⟨aa,ao,J,i,hi,V⟩:=zd h;obtain ⟨hu,j,zv,aj,_,M,O,_,_⟩:=nt aa;obtain rfl :j=i:=Option.some.inj<|aj.symm.trans hi;obtain ⟨C,w',hr,ad,L,ae⟩:=DM (P:=P) w B t u ty e j hu J hi V M O v n xs E ⟨⟨l⟩⟩ (by show n+l.length≤maxLen; unfold maxLen; omega) hb ah;refine iu (w':=w') (v:=C) ?_ (k C w' ad ⟨L.os,L.output,L.size,fun k A ak=>L.block k A fun e=>ak e.symm⟩ ?_ ?_)
 · have an:ev N σ y= .string ⟨⟨l⟩⟩:=am;simp [execOp,resolve,invoke,builtin,U,an,hr]
 · rw [ae];show (_∧l.length=0)↔_;simp
 · intro k A;rcases E.2 with ⟨rfl,rfl⟩ | ⟨I,cap,cur,rfl,aq,ai,av,ar,au,aw⟩
   · have U:xs= []:=jx<|by simpa using E.1
     subst U;obtain ⟨v2,ax,Z,ac,_,_⟩:=DM (P:=P) w w.heap.size t u ty e j hu J hi V M O _ 0 [] (iz w w.heap.size e 1) ⟨⟨l⟩⟩ (by show 0 +l.length≤maxLen; unfold maxLen; omega) (by show 0 +l.length≤_; omega)<|aT _;rw [hr] at Z;cases Z;rcases ac.2 with ⟨h,_⟩ | ⟨g2,_,_,h,ap,_⟩
     · rw [h] at A; simp [cR] at A
     · rw [h] at A; simp only [cR,bp] at A; exact .inr ab
   · by_cases al:n+l.length≤cap
     · rw [Lib.run_append_room_string (P:=P) w t u ty e j hu J hi M I n cap cur ai ⟨⟨l⟩⟩ al (by show n+l.length≤_; omega)] at hr;cases hr;exact .inl A
     · have holds:∀ j u,xs[j]? =some u→w.cell? ((⟨I,0,none⟩:aG).add j)=some u:=E.cells (g:=I) rfl;rw [Lib.run_append_grow_string (P:=P) w t u ty e j _ hu J hi V ⟨I,0,none⟩ n cap xs (by rw [M]; exact E.1) holds ⟨⟨l⟩⟩ (by show cap < n+l.length; omega) (by show ((n+l.length:Nat):Int)≤_; omega) (growslice_fits (by show cap < n+l.length; omega)<|by rw [O]; show (n+l.length)*1≤_; omega)] at hr;cases hr;simp only [cR,bp] at A;exact .inr ab
theorem xS {at_:Array ak} {v:ag} {a:Option aG} {n c:Nat} (A:ev N σ x= .slice a n c) (h:a=none∨c≠0):
 (execOp (ev N σ) ⟨dst,.call ⟨.builtin .unsafeSliceData,#[x],at_⟩,ty,pos,af,g⟩).run P w= .ok (.value<|.pointer a) w:=by
 have _:=v;have :(Builtin.unsafeSliceData_ at_ ty #[.slice a n c]).run P w= .ok (.pointer a) w:=by
  cases a with
  | none=>exact Lib.run_unsafeSliceData_nil w at_ ty n c
  | some a=>exact Lib.run_unsafeSliceData_row w at_ ty a n c<|h.resolve_left<|by simp
 simp [execOp,resolve,invoke,builtin,A,this]
def ptrTo (P:an) (C e:ak):Bool:=match P.underlying C with | some (.pointer A)=>A==e && P.cellsOf e==1 | _=>false
theorem MP {I it e B n c:Nat} {a:Option aG} {l:List UInt8} {xs:List ag} (hp:ptrTo P I e=true) (M:ev N σ x= .pointer a) (O:ev N σ y= .int .i64 n) (E:w.ownsRow B e 1 (.slice a n c) n xs)
 (ak:xs=U8 l) (am:n≤9223372036854775807)
 (k:∀ w',Md (fun k=>(fC a n c).ownBlock=some k) w w'→w'.heap.size=w.heap.size→K (cz σ dst<|str l) w'):
 bI P N ⟨dst,.call ⟨.builtin .unsafeString,#[x,y],#[I,it]⟩,ty,pos,af,g⟩ σ w K:=by
 subst ak;have A:l.length=n:=by have :=E.1; simpa [U8] using this
 unfold ptrTo at hp;split at hp
 case h_2=>cases hp
 rename_i J hu;simp only [bf,beq_iff_eq] at hp;obtain ⟨rfl,V⟩:=hp;by_cases he:l= []
 · subst he;obtain rfl :n=0:=A.symm;refine iu (w':=w) (v:=str []) ?_<|k w (Md.refl _ _) U;simp [execOp,resolve,invoke,builtin,M,O,Lib.run_unsafeString_none];rfl
 · rcases E.2 with ⟨h,h0⟩ | ⟨C,cap,cur,h,_,aa,hle,_,aj,an⟩
   · subst h0; simp only [List.length_eq_zero_iff] at A; exact absurd A he
   · simp only [kI,true_and] at h;obtain ⟨rfl,rfl⟩:=h;have ai:w.shape? C=some (J,cur.size):=by simp [yr,aa]
     have hr:=Lib.run_unsafeString_row (P:=P) w I it ty J hu V C cur.size ai l he (by rw [A,aj]; omega) ab (fun j u hu=>by
      obtain ⟨ad,al,L,Z,_,ac,_⟩:=qA E;simp only [kI,true_and] at L;obtain ⟨rfl,rfl⟩:=L;rw [dO,hZ];exact Z.ay j _ (by simp [U8,hu]))
     refine iu (w':=w.freeze ⟨C,0,none⟩ l.length) (v:=str l) ?_ (k _ ⟨?_,?_,?_,?_⟩ ?_)
     · simp [execOp,resolve,invoke,builtin,M,O,← A,hr,str]
     · unfold lA; split <;> rfl
     · unfold lA; split <;> rfl
     · unfold lA; split <;> simp
     · intro k ac ae;have ah:k≠C:=fun e=>ae<|by simp [cR,e]
       unfold lA;split
       · rfl
       · simp only [Array.getElem?_modify]; rw [if_neg (fun e=>ah e.symm)]
     · unfold lA; split <;> simp
def ny (P:an) (C up e n:Nat):Bool:=
 (match P.underlying C with | some (.pointer A)=>A==e | _=>false) && (match P.underlying up with | some .unsafePointer=>true | _=>false) && P.cellsOf e==n && av 0 n && (match P.info? e with | some i=>i.size==n | _=>false)
theorem C0 {P:an} {E up e n:Nat} (h:ny P E up e n=true):P.underlying E=some (.pointer e)∧P.underlying up=some .unsafePointer∧P.cellsOf e=n∧0 < n∧∃ i,P.info? e=some i∧i.size=n:=by
 simp only [ny,bf] at h;obtain ⟨⟨⟨⟨A,C⟩,h3⟩,h4⟩,h5⟩:=h;refine ⟨?_,?_,by simpa using h3,my (mz 0) (bH h4),?_⟩
 · split at A
   · rename_i h; simp only [beq_iff_eq] at A; rw [h,A]
   · cases A
 · split at C
   · rename_i h; exact h
   · cases C
 · split at h5
   · rename_i i hi; exact ⟨i,hi,by simpa using h5⟩
   · cases h5
theorem CK {A up e n b:Nat} {L:List ag} (h:ny P A up e n=true) (U:ev N σ x= .pointer (some ⟨b,0,none⟩)) (hb:w.heap[b]? =some (.cells L.toArray e (0,0))) (I:L.length=n):
 (execOp (ev N σ) ⟨dst,.convert A up x,ty,pos,af,g⟩).run P w= .ok (.value<|.pointer<|some ⟨b,0,none⟩) w:=by
 obtain ⟨C,E,V,Z,i,hi,M⟩:=C0 h;have O:w.shape? b=some (e,L.length):=by simp [yr,hb]
 have J:¬n=0:=ab;simp [execOp,U,convert,bh C,bh E,Dz,Dy,viewAt,O,cellsIn,I,sizeOf,di hi,M,J]
theorem Aq {E up e n b:Nat} {L:List ag} (h:ny P E up e n=true) (ac:ev N σ x= .pointer (some ⟨b,0,none⟩)) (hb:w.heap[b]? =some (.cells L.toArray e (0,0))) (U:L.length=n):
 (execOp (ev N σ) ⟨dst,.convert up E x,ty,pos,af,g⟩).run P w= .ok (.value<|.pointer<|some ⟨b,0,none⟩) w:=by
 obtain ⟨I,J,M,O,i,hi,Z⟩:=C0 h;have aa:w.shape? b=some (e,L.length):=by simp [yr,hb]
 have C:¬n=0:=ab;have V:liesAt P P.depth e (L.length / P.cellsOf e) 0 e 1=true :=by
  have A:P.depth=(2 *(P.types.size+Made.depth)+1)+1:=rfl;rw [A];simp only [liesAt,nH];left;rw [A];simp [rowAt,M,C,U,sameLayout,Nat.div_self O]
 simp [execOp,ac,convert,bh I,bh J,Dz,Dy,viewAt,aa,variablesAt,sizeOf,di hi,Z,C,V]
theorem JS {t J e:ak} {a:aG} (hu:P.underlying t=some (.pointer e)) (C:(P.info? e).isSome=true) (E:ev N σ x= .pointer (some a)) (I:ev N σ y= .pointer (some a)):
 (execOp (ev N σ) ⟨dst,.binOp .neq t x y J,ty,pos,af,g⟩).run P w= .ok (.value<|.bool false) w:=by
 obtain ⟨i,hi⟩:=rz.1 C;have he:∀ d,(ix (d+1) t (.pointer<|some a)<|.pointer<|some a).run P w= .ok true w:=by
  intro d;simp [ix,bh hu,sizeOf,di hi,sameAddr]
 have h:(binOp .neq t (.pointer<|some a)<|.pointer<|some a).run P w= .ok (.bool false) w:=by
  have :=he 9999;simp only [binOp];have A:(mo t (.pointer<|some a)<|.pointer<|some a).run P w= .ok true w:=this;simp [A]
 simp [execOp,E,I,eqGuard,h]
theorem Ga {f:dH} {args:Array aO} {A:Array ak} {v:ag} (E:∀ v w,(callFunc f #[v]).run P w= .ok (.value v) w) (C:args.toList.map (ev N σ)= [v]):
 (execOp (ev N σ) ⟨dst,.call ⟨.value (.func f),args,A⟩,ty,pos,af,g⟩).run P w= .ok (.value v) w:=by
 have :args.map (ev N σ)= #[v]:=by rw [← pn,gN,C]
 simp [execOp,resolve,ev,kD,invoke,this,E]
structure Bd (T e:ak) (w:ah) (b:Nat) (buf:ag) (l:List UInt8):Prop where
 aq:∃ pa,w.heap[b]? =some (.cells [uf pa,buf].toArray T (0,0))∧(pa=none∨pa=some ⟨b,0,none⟩)
 own:w.ownsRow (b+1) e 1 buf l.length (U8 l)
 nil:buf= .slice none 0 0↔l= []
def BF (b:Nat) (A:ag) (k:Nat):Prop :=k=b∨A.ownBlock=some k
end
theorem Bd.lt {T e b:Nat} {w:ah} {A:ag} {l:List UInt8} (h:Bd T e w b A l):b < w.heap.size:=let ⟨_,h,_⟩:=h.aq; (bJ.1 h).1
theorem Bd.se {T e b:Nat} {w:ah} {C:ag} {l:List UInt8} (h:Bd T e w b C l) {k:Nat} (A:BF b C k):b≤k∧k < w.heap.size:=by
 rcases A with rfl | A
 · exact ⟨aT _,h.lt⟩
 · have :=h.own.lt k A; omega
theorem Bd.md {T e b:Nat} {F:Nat→Prop} {w w':ah} {A:ag} {l:List UInt8} (h:Bd T e w b A l) (hm:Md F w w') (C:∀ k,BF b A k→¬F k):Bd T e w' b A l:=by
 obtain ⟨⟨L,E,I⟩,h3,h4⟩:=h;exact ⟨⟨L,hm.aq E (C b<|.inl U),I⟩,da h3 hm (fun k J=>C k<|.inr J),h4⟩
end Go.Hb
namespace Go.Hb
def fB (P:an) (t:ak):Option (List (Nat×Nat)×List ag):=
 match P.info? t,P.underlying t with
 | some it,some (.struct fields)=>
   match it.zero,fields.toList.mapM (fun f=>(P.info? f.type).map fun i=>(f.offset,i.size)) with
   | some z,some pl=>some (pl,z.cells.toList)
   | _,_=>none
 | _,_=>none
def qC (pl:List (Nat×Nat)):List ag→List (Nat×ag)→Option (List ag)
 | A,[]=>some A
 | A,(i,v)::r=>match pl[i]? with
   | some (off,s)=>if (s==1 && v.oneCell' && av off A.length)=true then qC pl (A.set off v) r else none
   | none=>none
theorem Kx {pl:List (Nat×Nat)} {A L:List ag} {ps:List (Nat×ag)} (h:qC pl A ps=some L):jv (pl.toArray[·]?) A.toArray ps=some L.toArray:=by
 induction ps generalizing A with
 | nil=>simp only [qC,bp] at h; subst h; rfl
 | cons p ps ih=>
   obtain ⟨i,v⟩:=p;simp only [qC] at h;split at h
   · rename_i off s J;split at h
     · rename_i C;simp only [bf,beq_iff_eq] at C;obtain ⟨⟨rfl,E⟩,ho⟩:=C;have O:off < A.length:=bH ho;have M:v.cells= #[v]:=me E;have I:pl.toArray[i]? =some (off,1):=by simpa using J
       simp only [jv,I,M];rw [if_neg (by simp; omega),← ih h];simp
     · cases h
   · cases h
theorem H0 {α:Type} {f:α→List ag} {m:Nat} (A:∀ a,(f a).length=m) (l:List α):(l.flatMap f).length=l.length*m:=by
 induction l with
 | nil=>simp
 | cons x l ih=>simp [ih,A,pF,Nat.add_comm]
theorem HZ {α:Type} {f:α→List ag} {m:Nat} (A:∀ a,(f a).length=m) {l:List α} {j c:Nat} {a:α} (h:l[j]? =some a) (C:c < m):(l.flatMap f)[j*m+c]? =(f a)[c]? :=by
 induction l generalizing j with
 | nil=>simp at h
 | cons x l ih=>
   cases j with
   | zero=>
     simp only [fS,bp] at h; subst h;rw [pH,cr,D9,eW (by rw [A]; exact C)]
   | succ j=>
     simp only [gR] at h;rw [D9,eI (by rw [A,pF]; omega),A,show (j+1)*m+c - m=j*m+c from by rw [pF]; omega];exact ih h
theorem pY {α:Type} {f:α→List ag} {m:Nat} (C:∀ a,(f a).length=m) {h:Array Obj} {a:Option aG} {l:List α} {i:Nat} {e:α} (J:bo h a (l.flatMap f)) (L:l[i]? =some e):∀ j,j < m→Hb.ay h (bk a) (fo a+i*m+j)=(f e)[j]? :=by
 intro j E;have A:=HZ C L E;have I:j < (f e).length:=by rw [C]; exact E
 rw [bR I] at A ⊢;rw [fT]; exact J.ay _ _ A
theorem sd {α:Type} {f:α→List ag} {m:Nat} (A:∀ a,(f a).length=m) (hm:0 < m) {l:List α} (h:0 < l.length):l.flatMap f≠[]:=by
 intro e;have :=H0 A l;rw [e] at this;have :0 < l.length*m:=Nat.mul_pos h hm;simp at*; omega
section
variable {P:an} {N:Fm} {σ:Nat→ag} {w:ah} {dst:Option Nat} {ty:ak} {pos :String} {af:Array bM} {g:Option (Nat×Bool)} {x y z:aO} {K:(Nat→ag)→ah→Prop}
theorem hH {t:ak} {parts:Array (Nat×aO)} {pl:List (Nat×Nat)} {A L:List ag} {ps:List (Nat×ag)} (h:fB P t=some (pl,A)) (hp:parts.toList.map (fun p=>(p.1,ev N σ p.2))=ps) (C:qC pl A ps=some L):
 (execOp (ev N σ) ⟨dst,.build t parts,ty,pos,af,g⟩).run P w= .ok (.value<|.agg L.toArray) w:=by
 unfold fB at h;split at h
 · rename_i it fields hi hu;split at h
   · rename_i z I E hm;simp only [bp,kK] at h;obtain ⟨rfl,rfl⟩:=h;have hb:P.built t (parts.map fun p=>(p.1,ev N σ p.2)).toList=some L.toArray:=by
      have :=Kx C;simp only [yh] at this;simp only [DP,hi,hu,E,hm,gN,hp]; exact this
     simp [execOp,run_build w t _ _ hb]
   · cases h
 · cases h
theorem Fu {t:ak} {parts:Array (Nat×aO)} {pl:List (Nat×Nat)} {A L:List ag} {ps:List (Nat×ag)} (h:fB P t=some (pl,A)) (hp:parts.toList.map (fun p=>(p.1,ev N σ p.2))=ps) (C:jv (pl.toArray[·]?) A.toArray ps=some L.toArray):
 (execOp (ev N σ) ⟨dst,.build t parts,ty,pos,af,g⟩).run P w= .ok (.value<|.agg L.toArray) w:=by
 unfold fB at h;split at h
 · rename_i it fields hi hu;split at h
   · rename_i z I E hm;simp only [bp,kK] at h;obtain ⟨rfl,rfl⟩:=h;have hb:P.built t (parts.map fun p=>(p.1,ev N σ p.2)).toList=some L.toArray:=by
      have :=C;simp only [yh] at this;simp only [DP,hi,hu,E,hm,gN,hp]; exact this
     simp [execOp,run_build w t _ _ hb]
   · cases h
 · cases h
end
end Go.Hb
namespace Go.Hb
section
variable {P:an} {N:Fm} {σ:Nat→ag} {w:ah} {dst:Option Nat} {ty:ak} {pos :String} {af:Array bM} {g:Option (Nat×Bool)} {x y z:aO} {K:(Nat→ag)→ah→Prop}
theorem JH {zv:ag} (A:zv.oneCell'=true) (n:Nat):madeCells zv.cells n=(eB n zv).toArray:=by
 rw [me A];apply Array.ext
 · simp [madeCells]
 · intro i C E;simp [madeCells,Nat.mod_one]
theorem k9 {t e bytes n:Nat} {L J:bu} {zv:ag} (ae:eU P t e 1 bytes=true) (A:zeroOf P e=some (some [zv])) (C:zv.oneCell'=true) (ah:ev N σ x= .int L n) (ai:ev N σ y= .int J n) (hb:bytes*n≤281474976710656) (E:n≤maxLen)
 (k:∀ b w',b=w.heap.size→Nw w w'→(∀ B,B≤b→w'.ownsRow B e 1 (.slice (some ⟨b,0,none⟩) n n) n (eB n zv))→K (cz σ dst<|.slice (some ⟨b,0,none⟩) n n) w'):bI P N ⟨dst,.makeSlice t x y,ty,pos,af,g⟩ σ w K:=by
 obtain ⟨hu,i,M,hi,I,ad,ac,al,ak⟩:=nt ae;have aj:M.cells= #[zv]:=by
  unfold zeroOf at A;simp only [hi,I,dJ,bp] at A;exact pn.1<|by simpa using A
 refine kB (v:=fun b=> .slice (some ⟨b,0,none⟩) n n) (ob:= .cells (eB n zv).toArray e (0,0)) ?_ fun b w' O V Z=>k b w' O V fun B aa=>⟨by simp,.inr ⟨b,n,_,U,aa,Z,aT _,E,by simp,by simp⟩⟩
 have hr:=run_make (P:=P) w t e i M hu hi I L J n n ab (Int.le_refl _) (by rw [ac,← Int.natCast_mul]; omega)<|by unfold maxLen at E; omega
 rw [aj,ad,Nat.mul_one,Int.toNat_natCast,show madeCells #[zv] n=(eB n zv).toArray by rw [← JH C,me C]] at hr;simp [execOp,ah,ai,hr]
end
end Go.Hb
namespace Go.Hb
section
variable {P:an} {N:Fm} {σ:Nat→ag} {w:ah} {dst:Option Nat} {ty:ak} {pos :String} {af:Array bM} {g:Option (Nat×Bool)} {x y z:aO}
theorem zt {t n len cap i:Nat} {a:Option aG} {k I:bu} (he:dh P t=some n) (A:ev N σ x= .slice a len cap) (C:ev N σ y= .int k (i:Nat)) (E:ev N σ z= .int I (i:Nat)) (h:i≤cap):
 (execOp (ev N σ) ⟨dst,.slice t x none (some y) (some z),ty,pos,af,g⟩).run P w= .ok (.value<|.slice a i i) w:=by
 have h0:(0:Int)≤(i:Int):=ab;unfold dh at he;cases hd:P.underlying t with
 | none=>rw [hd] at he; cases he
 | some d=>
   rw [hd] at he;cases d <;> first | (cases he; done) | skip
   rename_i e;cases hi':P.info? e with
   | none=>simp [hi'] at he
   | some j=>
     have ha:(if i=0 then a else a.map (·.add 0))=a:=by
      split
      · rfl
      · cases a <;> simp [tZ]
     simp only [execOp,nL,qX,A,C,E,dJ,Option.map_none,kF,nM,asIntOf];simp [bh hd,di hi',sizeOf,h0,ha];intro J; omega
end
end Go.Hb
namespace Go.Hb
def j4 (h:Array Obj) (b:Nat) (kvs:List (ag×ag)):Prop := ∃ es clock,h[b]? =some (.map es clock)∧es.toList.map (fun e=>(e.key,e.val))=kvs
theorem j4.md {F:Nat→Prop} {w w':ah} {b:Nat} {kvs:List (ag×ag)} (h:j4 w.heap b kvs) (hm:Md F w w') (A:¬F b):j4 w'.heap b kvs:=
 let ⟨es,c,h1,h2⟩:=h; ⟨es,c,hm.aq h1 A,h2⟩
theorem j4.lt {h:Array Obj} {b:Nat} {kvs:List (ag×ag)} (hm:j4 h b kvs):b < h.size:=by grind [j4]
structure nZ (P:an) (k:ak) (aD:ag→Prop):Prop where
 check:∀ em w v,aD v→(kE em 10000 k v).run P w= .ok () w
 find:∀ w x es,aD x→(∀ e∈es,aD e.key)→
  ((nJ k x es).run P w= .ok none w∧∀ e∈es,e.key≠x)∨∃ j e,(nJ k x es).run P w= .ok (some (j,e.val)) w∧es[j]? =some e∧e.key=x
theorem FV {P:an} {k:ak} {em:Bool} {n:Nat} {a:Bool} (A:P.underlying k=some .bool) (w:ah):(kE em (n+1) k<|.bool a).run P w= .ok () w:=by
 simp only [kE,gq,bh A,fR,jw]
theorem zl {P:an} {k:ak} {em:Bool} {n:Nat} {a:List UInt8} (A:P.underlying k=some .string) (w:ah):(kE em (n+1) k<|str a).run P w= .ok () w:=by
 simp only [str,kE,gq,bh A,fR,jw]
def vQ (v:ag):Prop := ∃ (f:Bool) (s:List UInt8),v= .agg #[.bool f,str s]
def mH (P:an) (k:ak):Bool:=
 match P.underlying k with
 | some (.struct A)=>match A.toList with
   | [f1,f2]=>f1.name != "_" && f2.name != "_" && f1.offset==0 && f2.offset==1 && !P.stoodInHeld k &&
     (match P.underlying f1.type with | some .bool=>true | _=>false) && (match P.underlying f2.type with | some .string=>true | _=>false)
   | _=>false
 | _=>false
theorem sY {P:an} {t:ak} {cs:Array ag} {o:Nat} {v:ag} {d:TypeDesc} (C:P.underlying t=some d) (A:(match d with | .bool | .string=>true | _=>false)=true) (E:cs[o]? =some v) (w:ah):(part t cs o).run P w= .ok v w:=by
 cases d <;> first | (cases A; done) | simp [part,isAgg,bh C,E]
theorem uR {P:an} {k:ak} (h:mH P k=true):∃ A f1 f2,P.underlying k=some (.struct A)∧A.toList= [f1,f2]∧f1.name≠ "_" ∧f2.name≠ "_" ∧f1.offset=0∧f2.offset=1∧P.stoodInHeld k=false∧P.underlying f1.type=some .bool∧P.underlying f2.type=some .string:=by grind [mH]
theorem HB {P:an} {k:ak} (h:mH P k=true) {f g:Bool} {s t:List UInt8} (w:ah):(mo k (.agg #[.bool f,str s])<|.agg #[.bool g,str t]).run P w= .ok (decide (f=g∧s=t)) w:=by
 obtain ⟨M,f1,f2,hu,ab,O,U,V,Z,aa,A,C⟩:=uR h;have E:P.fieldsOf k=M:=by simp [Program.fieldsOf,hu]
 have J:∀ (x:Bool) (y:List UInt8) (w:ah),(part f1.type #[.bool x,str y] f1.offset).run P w= .ok (.bool x) w:=fun x y w=>sY A rfl (by rw [V]; rfl) w;have L:∀ (x:Bool) (y:List UInt8) (w:ah),(part f2.type #[.bool x,str y] f2.offset).run P w= .ok (str y) w:=fun x y w=>sY C rfl (by rw [Z]; rfl) w;unfold mo;show (ix (9998 +1 +1) k _ _).run P w=_;rw [run_equalIn_struct w (9998 +1) k _ _ (by rw [E]; exact hu) aa,E,ab];simp only [Op.eqFields,gq,q7,J,L,fR,run_equalIn_bool' w 9998 f1.type f g A,O,U,ne_eq,not_false_eq_true,if_true];by_cases I:f=g
 · subst I;have :(ix (9998 +1) f2.type (str s)<|str t).run P w= .ok (decide (s=t)) w:=by
    rw [str,str,run_equalIn_string w 9998 f2.type _ _ C,Dt,Dt];congr 1;by_cases bD:s=t
    · subst bD; simp
    · simp [bD]
   simp only [beq_self_eq_true,Bool.not_true,qU,if_false,this,fR,true_and];by_cases bD:s=t <;> simp [bD]
 · simp [I]
theorem FW {P:an} {k:ak} {em:Bool} {n:Nat} (h:mH P k=true) {f:Bool} {s:List UInt8} (w:ah):(kE em (n+1 +1) k<|.agg #[.bool f,str s]).run P w= .ok () w:=by
 obtain ⟨V,f1,f2,hu,U,J,L,M,O,Z,A,C⟩:=uR h;have E:∀ (w:ah),(part f1.type #[.bool f,str s] f1.offset).run P w= .ok (.bool f) w:=fun w=>sY A rfl (by rw [M]; rfl) w;have I:∀ (w:ah),(part f2.type #[.bool f,str s] f2.offset).run P w= .ok (str s) w:=fun w=>sY C rfl (by rw [O]; rfl) w;rw [kE];simp only [gq,bh hu,fR];rw [← Array.forIn_toList,U];simp only [List.forIn_cons,List.forIn_nil,gq,E,I,J,L,ne_eq,not_false_eq_true,if_true,fR,FV A,zl C,jw]
theorem Ag {P:an} {k:ak} (h:mH P k=true) {f:Bool} {s:List UInt8} (w:ah):∀ (es:List MapEntry) (i:Nat),(∀ e∈es,vQ e.key)→
 ((nI k (.agg #[.bool f,str s]) es i).run P w= .ok none w∧∀ e∈es,e.key≠.agg #[.bool f,str s])∨∃ j e,(nI k (.agg #[.bool f,str s]) es i).run P w= .ok (some (i+j,e.val)) w∧es[j]? =some e∧e.key= .agg #[.bool f,str s]
 | [],i,_=> .inl ⟨by simp [nI],fun _ h=>by simp at h⟩
 | e::es,i,hk=>by
   obtain ⟨g,t,ha⟩:=hk e<|by simp
   have he:=HB h (f:=f) (g:=g) (s:=s) (t:=t) w;rw [← ha] at he;by_cases A:f=g∧s=t
   · obtain ⟨rfl,rfl⟩:=A;refine .inr ⟨0,e,?_,U,ha⟩;simp [nI,he]
   · have O:e.key≠.agg #[.bool f,str s]:=by
      rw [ha]; intro J; simp [str] at J; exact A ⟨J.1.symm,J.2.symm⟩
     rcases Ag (f:=f) (s:=s) h w es (i+1) (fun e he=>hk e<|by simp [he]) with ⟨E,I⟩ | ⟨j,C,E,I,M⟩
     · refine .inl ⟨by simp [nI,he,A,E],fun C L=> ?_⟩;rcases dr.1 L with rfl | L
       · exact O
       · exact I C L
     · refine .inr ⟨j+1,C,?_,I,M⟩;simp only [nI,gq,he,A,fR,decide_false,q7,qU,if_false,E]; rw [show i+1 +j=i+(j+1) from by omega]
theorem I7 {P:an} {k:ak} (h:mH P k=true):nZ P k vQ where
 check em w v hv:=by obtain ⟨f,s,rfl⟩:=hv; exact FW (n:=9998) h w
 find w x es hx hes:=by
  obtain ⟨f,s,rfl⟩:=hx;obtain ⟨L,f1,f2,hu,_⟩:=uR h;have J:es≠[]→(nJ k (.agg #[.bool f,str s]) es).run P w=(nI k (.agg #[.bool f,str s]) es).run P w:=by
   intro A;cases es with
   | nil=>exact absurd rfl A
   | cons e es=>simp [nJ,bh hu,nK,Instr.sameNow]
  by_cases A:es= []
  · subst A; exact .inl ⟨by simp [nJ,bh hu,nK],fun _ h=>by simp at h⟩
  · rw [J A];rcases Ag h w es 0 hes with C | ⟨j,e,C,E,I⟩
    · exact .inl C
    · exact .inr ⟨j,e,by rw [C,cr],E,I⟩
def zeroV (P:an) (e:ak):Option ag:=(P.info? e).bind (·.zero)
theorem ye {P:an} {e:ak} {z:ag} (h:zeroV P e=some z) (w:ah):(zeroValue e).run P w= .ok z w:=by
 unfold zeroV at h;simp only [ry] at h;obtain ⟨i,hi,A⟩:=h;simp [zeroValue,di hi,A]
section
variable {P:an} {N:Fm} {σ:Nat→ag} {w:ah} {dst:Option Nat} {ty:ak} {pos :String} {af:Array bM} {g:Option (Nat×Bool)} {x y z:aO} {K:(Nat→ag)→ah→Prop}
variable {t k e:ak} {aD:ag→Prop} {b:Nat} {kvs:List (ag×ag)} {kx v:ag}
theorem r8 {es:Array MapEntry} (h:es.toList.map (fun e=>(e.key,e.val))=kvs) (A:∀ p∈kvs,aD p.1):∀ e∈es.toList,aD e.key:=by grind [e,he,nV]
theorem run_getObj_map {es:Array MapEntry} {c:Nat} (hr:w.heap[b]? =some (.map es c)):(getObj b).run P w= .ok (.map es c) w:=by
 simp [getObj,Sem.run,hr]
theorem J0 {kvs:List (ag×ag)} (hn:(kvs.map cg).Nodup) {kx v E:ag} (C:(kx,v)∈kvs) (A:(kx,E)∈kvs):v=E:=by
 induction kvs with
 | nil=>simp at C
 | cons p kvs ih=>
   simp only [dq,List.nodup_cons] at hn;rcases dr.1 C with C | C
   · rcases dr.1 A with A | A
     · rw [← C] at A; cases A; rfl
     · rw [← C] at hn; exact absurd (nV (f:=cg) A) hn.1
   · rcases dr.1 A with A | A
     · rw [← A] at hn; exact absurd (nV (f:=cg) C) hn.1
     · exact ih hn.2 C A
theorem AZ {ok:Bool} (aa:P.underlying t=some (.map k e)) (E:nZ P k aD) (hm:j4 w.heap b kvs) (Z:∀ p∈kvs,aD p.1) (ac:ev N σ x= .map (some b)) (ad:ev N σ y=kx) (hi:aD kx) (hn:(kvs.map cg).Nodup) (C:(kx,v)∈kvs):
 (execOp (ev N σ) ⟨dst,.lookup t x y ok,ty,pos,af,g⟩).run P w= .ok (.value (if ok then .tuple #[v,.bool true] else v)) w:=by
 obtain ⟨es,c,hr,he⟩:=hm;rcases E.find w kx es.toList hi (r8 he Z) with ⟨_,A⟩ | ⟨j,I,L,A,M⟩
 · rw [← he] at C;obtain ⟨J,V,O⟩:=List.mem_map.1 C;cases O;exact absurd U<|A J V
 · have ab:(kx,I.val)∈kvs:=by rw [← he,← M]; exact nV (f:=fun e:MapEntry=>(e.key,e.val))<|jy A
   have :=J0 hn C ab;subst this;cases ok <;> simp [execOp,DH,bh aa,ac,ad,run_getObj_map hr,E.check _ w kx hi,L]
theorem A0 {ok:Bool} {zv:ag} (M:P.underlying t=some (.map k e)) (V:zeroV P e=some zv) (A:nZ P k aD) (hm:j4 w.heap b kvs) (L:∀ p∈kvs,aD p.1) (O:ev N σ x= .map (some b)) (U:ev N σ y=kx) (hi:aD kx) (hn:∀ v,(kx,v)∉kvs):
 (execOp (ev N σ) ⟨dst,.lookup t x y ok,ty,pos,af,g⟩).run P w= .ok (.value (if ok then .tuple #[zv,.bool false] else zv)) w:=by
 obtain ⟨es,c,hr,he⟩:=hm;rcases A.find w kx es.toList hi (r8 he L) with ⟨C,_⟩ | ⟨j,E,C,I,J⟩
 · cases ok <;> simp [execOp,DH,bh M,O,U,run_getObj_map hr,A.check _ w kx hi,C,ye V]
 · exact absurd (by rw [← he,← J]; exact nV (f:=fun e:MapEntry=>(e.key,e.val))<|jy I)<|hn E.val
end
end Go.Hb
namespace Go.Hb
end Go.Hb
namespace Go.Hb
inductive TD | no | int (k:bu) | str | bool | ptr | cW (e n:Nat) | st (offs:List Nat)
def lf {α:Type} :List α→Nat→α→α
 | [],_,d=>d
 | a::_,0,_=>a
 | _::l,n+1,d=>lf l n d
def o8 (T:List (List TD)) (t:Nat):TD:=lf (lf T (t / 16) []) (t % 16) .no
def dD:bu→Nat
 | .i8=>0 | .i16=>1 | .i32=>2 | .i64=>3 | .u8=>4 | .u16=>5 | .u32=>6 | .u64=>7
theorem mW {a b:bu} (h:aQ (dD a) (dD b)=true):a=b:=by
 cases a <;> cases b <;> first | rfl | (cases h)
def sQ (P:an) (t:Nat):Nat→List Nat→Bool
 | _,[]=>true
 | f,n::l=>(match ot P t f with | some m=>aQ m n | none=>false) && sQ P t (f+1) l
def xH (P:an) (t:Nat):TD→Bool
 | .no=>true
 | .int k=>match P.underlying t with | some (.int C)=>aQ (dD k) (dD C) | _=>false
 | .str=>match P.underlying t with | some .string=>true | _=>false
 | .bool=>match P.underlying t with | some .bool=>true | _=>false
 | .ptr=>match P.underlying t with | some (.pointer _)=>true | _=>false
 | .cW e n=>match P.underlying t,dh P t with | some (.slice A),some n'=>aQ e A && aQ n n' | _,_=>false
 | .st E=>sQ P t 0 E
def tg (P:an):Nat→List TD→Bool
 | _,[]=>true
 | t,d::l=>xH P t d && tg P (t+1) l
def js (P:an):Nat→List (List TD)→Bool
 | _,[]=>true
 | t,r::l=>tg P t r && js P (t+16) l
theorem BX {P:an} :∀ {l:List TD} {b j:Nat},tg P b l=true→xH P (b+j) (lf l j .no)=true
 | [],b,j,_=>rfl
 | d::l,b,0,h=>(po.1 h).1
 | d::l,b,j+1,h=>by
   have :=BX (j:=j) (po.1 h).2;rw [show b+(j+1)=b+1 +j from by omega]; exact this
theorem CF {P:an} :∀ {T:List (List TD)} {b i:Nat},js P b T=true→tg P (b+16 *i) (lf T i [])=true
 | [],b,i,_=>rfl
 | r::T,b,0,h=>(po.1 h).1
 | r::T,b,i+1,h=>by
   have :=CF (i:=i) (po.1 h).2;rw [show b+16 *(i+1)=b+16 +16 *i from by omega]; exact this
theorem xG {P:an} {T:List (List TD)} (h:js P 0 T=true) (t:Nat):xH P t (o8 T t)=true :=by
 have :=BX (j:=t % 16)<|CF (i:=t / 16) h;rw [show 0 +16 *(t / 16)+t % 16=t from by omega] at this;exact this
theorem Bu {P:an} {t:Nat} :∀ {l:List Nat} {b f n:Nat},sQ P t b l=true→l[f]? =some n→ot P t (b+f)=some n
 | [],b,f,n,_,h=>by simp at h
 | m::l,b,0,n,h,hn=>by
   have A:=(po.1 h).1;obtain rfl :m=n:=by simpa using hn
   split at A
   · rename_i C hm; rw [Nat.add_zero,hm,bQ A]
   · cases A
 | m::l,b,f+1,n,h,hn=>by
   have :=Bu (f:=f) (po.1 h).2<|by simpa using hn
   rw [show b+(f+1)=b+1 +f from by omega]; exact this
section
variable {P:an} {T:List (List TD)} (hT:js P 0 T=true) {t:Nat}
include hT
theorem GF (h:o8 T t= .str):P.underlying t=some .string:=by
 have :=xG hT t;rw [h] at this;change (match P.underlying t with | some .string=>true | _=>false)=true at this;split at this
 · assumption
 · cases this
theorem GC {e n:Nat} (h:o8 T t= .cW e n):P.underlying t=some (.slice e)∧dh P t=some n:=by
 have :=xG hT t;rw [h] at this;change (match P.underlying t,dh P t with | some (.slice A),some n'=>aQ e A && aQ n n' | _,_=>false)=true at this;split at this
 · rename_i C E;simp only [bf] at this;rw [C,E,bQ this.1,bQ this.2]; exact ⟨rfl,rfl⟩
 · cases this
theorem GD {l:List Nat} {f n:Nat} (h:o8 T t= .st l) (hn:l[f]? =some n):ot P t f=some n:=by
 have :=xG hT t;rw [h] at this;have :=Bu (show sQ P t 0 l=true from this) hn;rwa [cr] at this
end
def KN (k:bu) (n:Int):Prop :=match k with
 | .i64=> -9223372036854775808≤n∧n≤9223372036854775807
 | .u8=>0≤n∧n≤255
 | .i32=> -2147483648≤n∧n≤2147483647
 | .u32=>0≤n∧n≤4294967295
 | .u64=>0≤n∧n≤18446744073709551615
 | _=>False
theorem BW {k:bu} {n:Int} (h:KN k n):k.wrap n=n:=by
 cases k <;> first | exact nA h | exact Dd h | exact xZ h | exact Dc h | exact pd h | exact h.elim
inductive n6 | no | v (x:ag) | vc (x:ag) (c:Prop)
def tc (k:bu) (n:Int):n6:=match k with
 | .i64=> .vc (.int .i64 n)<|-9223372036854775808≤n∧n≤9223372036854775807
 | .u8=> .vc (.int .u8 n)<|0≤n∧n≤255
 | .i32=> .vc (.int .i32 n)<|-2147483648≤n∧n≤2147483647
 | .u32=> .vc (.int .u32 n)<|0≤n∧n≤4294967295
 | .u64=> .vc (.int .u64 n)<|0≤n∧n≤18446744073709551615
 | _=> .no
def vM (op:BinOp) (k:bu) (a b:Int):n6:=match op with
 | .lss=> .v<|.bool<|decide (a < b)
 | .leq=> .v<|.bool<|decide (a≤b)
 | .gtr=> .v<|.bool<|decide (b < a)
 | .geq=> .v<|.bool<|decide (b≤a)
 | .eql=> .v<|.bool<|decide (a=b)
 | .neq=> .v<|.bool<|decide (a≠b)
 | .add=>tc k<|a+b
 | .sub=>tc k<|a - b
 | _=> .no
def Cx (op:BinOp) (l m:List UInt8):n6:=match op with
 | .eql=> .v<|.bool<|decide (l=m)
 | .neq=> .v<|.bool<|decide (l≠m)
 | .add=> .vc (str<|l++m)<|l.length+m.length≤9223372036854775807
 | _=> .no
def kd (v:ag):n6:=match v with
 | .int k n=> .v<|.int k n
 | .bool b=> .v<|.bool b
 | .string ⟨⟨l⟩⟩=> .v<|str l
 | .pointer a=> .v<|.pointer a
 | .slice a n c=> .v<|.slice a n c
 | .map r=> .v<|.map r
 | .func f a b=> .v<|.func f a b
 | .nilFunc=> .v .nilFunc
 | .iface t v=> .v<|.iface t v
 | .nilIface=> .v .nilIface
 | .agg c=> .v<|.agg c
 | .tuple c=> .v<|.tuple c
 | _=> .no
theorem Ia {v x:ag} (h:kd v= .v x):v=x:=by
 unfold kd at h;split at h <;> cases h <;> rfl
theorem Ib {v x:ag} {c:Prop} (h:kd v= .vc x c):False:=by
 unfold kd at h;split at h <;> cases h
def oN (T:List (List TD)) (N:Fm) (σ:Nat→ag) (o:Op):n6:=match o with
 | .move x=>kd<|ev N σ x
 | .assign x=>kd<|ev N σ x
 | .pick c x y=>match ev N σ c with
   | .bool true =>kd<|ev N σ x
   | .bool false =>kd<|ev N σ y
   | _=> .no
 | .nilCheck x=>match ev N σ x with
   | .pointer (some a)=> .v<|.pointer<|some a
   | _=> .no
 | .extract x i=>match ev N σ x with
   | .tuple ⟨vs⟩=>match vs[i]? with
     | some v=> .v v
     | none=> .no
   | _=> .no
 | .fieldAddr s x f=>match ev N σ x,o8 T s with
   | .pointer (some ⟨b,off,none⟩),.st l=>match l[f]? with
     | some n=> .v<|.pointer<|some ⟨b,off+n,none⟩
     | none=> .no
   | _,_=> .no
 | .binOp op t x y _=>match ev N σ x,ev N σ y with
   | .int k a,.int k' b=>cond (aQ (dD k)<|dD k') (vM op k a b) .no
   | .string ⟨⟨l⟩⟩,.string ⟨⟨m⟩⟩=>Cx op l m
   | _,_=> .no
 | .unOp .not _ x=>match ev N σ x with
   | .bool b=> .v<|.bool<|!b
   | _=> .no
 | .call ⟨.builtin .len,⟨[x]⟩,⟨[t]⟩⟩=>match ev N σ x,o8 T t with
   | .string ⟨⟨l⟩⟩,.str=> .v<|.int .i64 l.length
   | .slice a n c,.cW _ _=> .v<|.int .i64 n
   | _,_=> .no
 | _=> .no
def wQ (P:an) (N:Fm) (σ:Nat→ag) (o:ar) (w:ah):n6→Prop
 | .no=>True
 | .v x=>(execOp (ev N σ) o).run P w= .ok (.value x) w
 | .vc x c=>c→(execOp (ev N σ) o).run P w= .ok (.value x) w
theorem sf {P:an} {N:Fm} {σ:Nat→ag} {o:ar} {w:ah} {v:ag} (h:(execOp (ev N σ) o).run P w= .ok (.value v) w):wQ P N σ o w (kd v):=by
 cases hf:kd v with
 | no=>trivial
 | v x=>rw [← Ia hf]; exact h
 | vc x c=>exact (Ib hf).elim
theorem sT {P:an} {T:List (List TD)} (hT:js P 0 T=true) {N:Fm} {σ:Nat→ag} (d:Option Nat) (o:Op) (ty:ak) (pos :String) (af:Array bM) (g:Option (Nat×Bool)) (w:ah):wQ P N σ ⟨d,o,ty,pos,af,g⟩ w (oN T N σ o):=by
 unfold oN;split
 · exact sf mv
 · exact sf aE
 · split
   · exact sf<|ta<|by assumption
   · exact sf<|sZ<|by assumption
   · trivial
 · split
   · exact nc<|by assumption
   · trivial
 · split
   · split
     · exact xt (by assumption)<|by simpa using by assumption
     · trivial
   · trivial
 · split
   · split
     · exact fa (GD hT (by assumption)<|by assumption)<|by assumption
     · trivial
   · trivial
 · split
   · rename_i k a E b A C;cases hk:aQ (dD k) (dD E)
     · trivial
     · obtain rfl :=mW hk;show wQ _ _ _ _ _ (vM _ _ _ _);unfold vM;split
       · exact lt A C
       · exact le A C
       · exact gt A C
       · exact ge A C
       · exact zY A C
       · exact Bl A C
       · unfold tc; split <;> first | trivial | exact fun h=>ad A C<|BW h
       · unfold tc; split <;> first | trivial | exact fun h=>sb A C<|BW h
       · trivial
   · rename_i l m A C;unfold Cx;split
     · exact z1 A C
     · exact Bn A C
     · exact fun h=>cc A C h
     · trivial
   · trivial
 · split
   · exact no<|by assumption
   · trivial
 · split
   · exact A3 (GF hT<|by assumption) U<|by assumption
   · exact vX (GC hT<|by assumption).1 U<|by assumption
   · trivial
 · trivial
inductive Pt | c (c:bz) | l (ops:Array ar) (l:List ar) | x (e:ba)
inductive Kn | sq (y:bz) | bk (id:Nat)
def ei (P:an) (N:Fm):List Kn→(ba→(Nat→ag)→ah→Prop)→ba→(Nat→ag)→ah→Prop
 | [],Q=>Q
 | .sq y::st,Q=>gi (fun σ w=>bg P N y (ei P N st Q) σ w)<|ei P N st Q
 | .bk id::st,Q=>kW id<|ei P N st Q
@[reducible] def At (P:an) (N:Fm) (Q:ba→(Nat→ag)→ah→Prop) (w:ah) (p:Pt) (st:List Kn) (σ:Nat→ag):Prop :=match p with
 | .c c=>bg P N c (ei P N st Q) σ w
 | .l ops l=>bK P N ops (ei P N st Q) l σ w
 | .x e=>ei P N st Q e σ w
inductive Out | no | at (p:Pt) (st:List Kn) (σ:Nat→ag) (c:Option Prop)
def andG (c:Prop):Option Prop→Option Prop
 | none=>some c
 | some d=>some<|c∧d
def optG:Option Prop→Prop
 | none=>True
 | some c=>c
theorem rI {c:Prop} {d:Option Prop} (h:optG (andG c d)):c∧optG d:=by
 cases d
 · exact ⟨h,trivial⟩
 · exact h
inductive EW | no | go (p:Pt) (st:List Kn) (σ:Nat→ag) (c:Option Prop)
def stepG (T:List (List TD)) (N:Fm) (p:Pt) (st:List Kn) (σ:Nat→ag) (c:Option Prop):EW:=match p with
 | .x .normal=>match st with
   | .sq y::st=> .go (.c y) st σ c
   | .bk _::st=> .go (.x .normal) st σ c
   | []=> .no
 | .x .ret=>match st with
   | _::st=> .go (.x .ret) st σ c
   | []=> .no
 | .x (.exit i)=>match st with
   | .sq _::st=> .go (.x<|.exit i) st σ c
   | .bk j::st=>cond (aQ i j) (.go (.x .normal) st σ c)<|.go (.x<|.exit i) st σ c
   | []=> .no
 | .x _=> .no
 | .c (.seq x y)=> .go (.c x) (.sq y::st) σ c
 | .c (.block id x)=> .go (.c x) (.bk id::st) σ c
 | .c .skip => .go (.x .normal) st σ c
 | .c .ret=> .go (.x .ret) st σ c
 | .c (.exit i)=> .go (.x<|.exit i) st σ c
 | .c (.region id ⟨l⟩ false)=>cond (km N.r l) (.go (.l ⟨l⟩ l) st σ c) .no
 | .c (.cond x a b)=>match ev N σ x with
   | .bool true => .go (.c a) st σ c
   | .bool false => .go (.c b) st σ c
   | _=> .no
 | .c _=> .no
 | .l ops []=> .go (.x .normal) st σ c
 | .l ops (⟨some d,o,ty,pos,af,none⟩::r)=>match oN T N σ o with
   | .v x=> .go (.l ops r) st (aY σ d x) c
   | .vc x c'=> .go (.l ops r) st (aY σ d x)<|andG c' c
   | .no=> .no
 | .l ops (⟨some d,o,ty,pos,af,some (j,want)⟩::r)=>match dL ops j with
   | some t=>cond (av t N.n) (match σ t with
     | .bool b=>cond (b==want) (match oN T N σ o with
       | .v x=> .go (.l ops r) st (aY σ d x) c
       | .vc x c'=> .go (.l ops r) st (aY σ d x)<|andG c' c
       | .no=> .no) (.go (.l ops r) st (aY σ d undef) c)
     | .tuple ⟨[]⟩=> .go (.l ops r) st (aY σ d undef) c
     | _=> .no) .no
   | none=> .no
 | .l ops _=> .no
def gJ (T:List (List TD)) (N:Fm):Nat→Pt→List Kn→(Nat→ag)→Option Prop→Out
 | 0,p,st,σ,c=> .at p st σ c
 | n+1,p,st,σ,c=>match stepG T N p st σ c with
   | .go p st σ c=>gJ T N n p st σ c
   | .no=> .no
section
variable {P:an} {T:List (List TD)} {N:Fm} {Q:ba→(Nat→ag)→ah→Prop} {w:ah} {σ σ':Nat→ag} {p p':Pt} {st st':List Kn} {c c':Option Prop} {n:Nat}
theorem Me (hT:js P 0 T=true) (h:stepG T N p st σ c= .go p' st' σ' c') (A:optG c') (C:At P N Q w p' st' σ'):optG c∧At P N Q w p st σ:=by
 unfold stepG at h;split at h
 · split at h
   · cases h; exact ⟨A,tn C⟩
   · cases h; exact ⟨A,bn C⟩
   · cases h
 · split at h
   · rename_i k _;cases h; cases k
     · exact ⟨A,tr C⟩
     · exact ⟨A,br C⟩
   · cases h
 · split at h
   · cases h; exact ⟨A,te _ C⟩
   · rename_i i _ j _;cases hij:aQ i j
     · rw [hij] at h; cases h;exact ⟨A,Fp (fun e=>by rw [e] at hij; simp at hij) C⟩
     · rw [hij] at h; cases h;obtain rfl :=bQ hij;exact ⟨A,be C⟩
   · cases h
 · cases h
 · cases h; exact ⟨A,sq fun K V=>C9 (fun e σ w U=>by cases e <;> first | exact V _ _ U | exact U) C⟩
 · cases h; exact ⟨A,aq C⟩
 · cases h; exact ⟨A,Cn C⟩
 · cases h; exact ⟨A,rt C⟩
 · cases h; exact ⟨A,ext C⟩
 · rename_i id l;cases hr:km N.r l
   · rw [hr] at h; cases h
   · rw [hr] at h; cases h;exact ⟨A,rg hr C⟩
 · split at h
   · cases h; exact ⟨A,ct (by assumption) C⟩
   · cases h; exact ⟨A,cf (by assumption) C⟩
   · cases h
 · cases h
 · cases h; exact ⟨A,nl C⟩
 · rename_i ops d o ty pos af r;have E:=sT (P:=P) hT (N:=N) (σ:=σ) (some d) o ty pos af none w;split at h
   · rename_i x I;rw [I] at E; cases h;exact ⟨A,Hb.p E C⟩
   · rename_i x q I;rw [I] at E; cases h;obtain ⟨M,O⟩:=rI A;exact ⟨O,Hb.p (E M) C⟩
   · cases h
 · rename_i ops d o ty pos af j want r;have E:=sT (P:=P) hT (N:=N) (σ:=σ) (some d) o ty pos af (some (j,want)) w;split at h
   · rename_i t L;cases hb:av t N.n
     · rw [hb] at h; cases h
     · rw [hb] at h;simp only [cond_true] at h;split at h
       · rename_i b J;cases hw:(b==want)
         · rw [hw] at h; cases h;exact ⟨A,sk L hb J hw C⟩
         · rw [hw] at h;simp only [cond_true] at h;obtain rfl :b=want:=by simpa using hw
           split at h
           · rename_i x I;rw [I] at E; cases h;exact ⟨A,pg L hb J E C⟩
           · rename_i x q I;rw [I] at E; cases h;obtain ⟨M,O⟩:=rI A;exact ⟨O,pg L hb J (E M) C⟩
           · cases h
       · rename_i J;cases h;exact ⟨A,Co L hb J C⟩
       · cases h
   · cases h
 · cases h
theorem iT (hT:js P 0 T=true):∀ (n:Nat) (p:Pt) (st:List Kn) (σ:Nat→ag) (c:Option Prop),gJ T N n p st σ c= .at p' st' σ' c'→optG c'→At P N Q w p' st' σ'→optG c∧At P N Q w p st σ
 | 0,p,st,σ,c,h,hc,hk=>by cases h; exact ⟨hc,hk⟩
 | n+1,p,st,σ,c,h,hc,hk=>by
   simp only [gJ] at h;split at h
   · rename_i E;obtain ⟨A,C⟩:=iT hT n _ _ _ _ h hc hk;exact Me hT E A C
   · cases h
end
inductive ER | no | at (fuel:Nat) (listed:Array Bool) (σ:Nat→ag) (c:Option Prop)
inductive EV | no | go (σ:Nat→ag) (c:Option Prop)
def CA (T:List (List TD)) (N:Fm) (g:Bool) (ops:Array ar) (i:Nat) (σ:Nat→ag) (c:Option Prop):EV:=match ops[i]? with
 | some ⟨some d,o,_,_,_,none⟩=>match oN T N σ o with
   | .v x=> .go (aY σ d x) c
   | .vc x c'=> .go (aY σ d x)<|andG c' c
   | .no=> .no
 | some ⟨some d,o,_,_,_,some (j,want)⟩=>cond g (match dL ops j with
   | some t=>cond (av t N.n) (match σ t with
     | .bool b=>cond (b==want) (match oN T N σ o with
       | .v x=> .go (aY σ d x) c
       | .vc x c'=> .go (aY σ d x)<|andG c' c
       | .no=> .no) (.go (aY σ d undef) c)
     | .tuple ⟨[]⟩=> .go (aY σ d undef) c
     | _=> .no) .no
   | none=> .no) .no
 | _=> .no
def ln (T:List (List TD)) (N:Fm) (g:Bool) (ops:Array ar):List Nat→Nat→Array Bool→(Nat→ag)→Option Prop→ER
 | [],fuel,listed,σ,c=> .at fuel listed σ c
 | _::_,0,_,_,_=> .no
 | i::is,fuel+1,listed,σ,c=>match CA T N g ops i σ c with
   | .go σ c=>ln T N g ops is fuel (listed.setIfInBounds i true) σ c
   | .no=> .no
def kO (fr:Array Bool→Nat→Bool):List Nat→Array Bool→Bool
 | [],_=>true
 | i::is,listed=>fr listed i && kO fr is (listed.setIfInBounds i true)
section
variable {P:an} {T:List (List TD)} {N:Fm} {g:Bool} {ops:Array ar} {fr:Array Bool→Nat→Bool} {fuel':Nat} {listed':Array Bool} {σ':Nat→ag} {c':Option Prop} {w:ah}
theorem tl (hT:js P 0 T=true) (W:Nat→Array Bool→(Nat→ag)→Prop)
 (H1:∀ {i d o ty pos af v fuel listed σ},ops[i]? =some ⟨some d,o,ty,pos,af,none⟩→fr listed i=true→(∀ w,(execOp (ev N σ) ⟨some d,o,ty,pos,af,none⟩).run P w= .ok (.value v) w)→W fuel (listed.setIfInBounds i true) (aY σ d v)→W (fuel+1) listed σ)
 (O:g=true→∀ {i d o ty pos af v fuel listed σ j want t},ops[i]? =some ⟨some d,o,ty,pos,af,some (j,want)⟩→fr listed i=true→dL ops j=some t→av t N.n=true→σ t= .bool want→(∀ w,(execOp (ev N σ) ⟨some d,o,ty,pos,af,some (j,want)⟩).run P w= .ok (.value v) w)→W fuel (listed.setIfInBounds i true) (aY σ d v)→W (fuel+1) listed σ)
 (Z:g=true→∀ {i d o ty pos af fuel listed σ j want t b},ops[i]? =some ⟨some d,o,ty,pos,af,some (j,want)⟩→fr listed i=true→dL ops j=some t→av t N.n=true→σ t= .bool b→(b==want)=false→W fuel (listed.setIfInBounds i true) (aY σ d undef)→W (fuel+1) listed σ)
 (aa:g=true→∀ {i d o ty pos af fuel listed σ j want t},ops[i]? =some ⟨some d,o,ty,pos,af,some (j,want)⟩→fr listed i=true→dL ops j=some t→av t N.n=true→σ t=undef→W fuel (listed.setIfInBounds i true) (aY σ d undef)→W (fuel+1) listed σ):
 ∀ (is:List Nat) (fuel:Nat) (listed:Array Bool) (σ:Nat→ag) (c:Option Prop),ln T N g ops is fuel listed σ c= .at fuel' listed' σ' c'→kO fr is listed=true→optG c'→W fuel' listed' σ'→optG c∧W fuel listed σ
 | [],fuel,listed,σ,c,h,_,C,E=>by cases h; exact ⟨C,E⟩
 | i::is,0,listed,σ,c,h,_,C,E=>by cases h
 | i::is,fuel+1,listed,σ,c,h,hf,C,E=>by
   simp only [kO,bf] at hf;simp only [ln] at h;split at h
   · rename_i ab c2 A;obtain ⟨C,E⟩:=tl hT W H1 O Z aa is fuel _ _ _ h hf.2 C E;unfold CA at A;split at A
     · rename_i d o ty pos af hi;have I:=fun w=>sT hT (N:=N) (σ:=σ) (some d) o ty pos af none w;split at A
       · rename_i x J;rw [J] at I; cases A;exact ⟨C,H1 hi hf.1 I E⟩
       · rename_i x q J;rw [J] at I; cases A;obtain ⟨U,V⟩:=rI C;exact ⟨V,H1 hi hf.1 (fun w=>I w U) E⟩
       · cases A
     · rename_i d o ty pos af j want hi;have I:=fun w=>sT hT (N:=N) (σ:=σ) (some d) o ty pos af (some (j,want)) w;cases hg:g
       · rw [hg] at A; cases A
       · rw [hg] at A;simp only [cond_true] at A;split at A
         · rename_i t M;cases hb:av t N.n
           · rw [hb] at A; cases A
           · rw [hb] at A;simp only [cond_true] at A;split at A
             · rename_i b L;cases hw:(b==want)
               · rw [hw] at A; cases A;exact ⟨C,Z hg hi hf.1 M hb L hw E⟩
               · rw [hw] at A;simp only [cond_true] at A;obtain rfl :b=want:=by simpa using hw
                 split at A
                 · rename_i x J;rw [J] at I; cases A;exact ⟨C,O hg hi hf.1 M hb L I E⟩
                 · rename_i x q J;rw [J] at I; cases A;obtain ⟨U,V⟩:=rI C;exact ⟨V,O hg hi hf.1 M hb L (fun w=>I w U) E⟩
                 · cases A
             · rename_i L;cases A;exact ⟨C,aa hg hi hf.1 M hb L E⟩
             · cases A
         · cases A
     · cases A
   · cases h
variable {Q:ba→(Nat→ag)→ah→Prop} {S:ah→Prop} {r fuel:Nat} {listed:Array Bool} {σ:Nat→ag}
theorem Ix (hT:js P 0 T=true) (is:List Nat) (h:ln T N true ops is fuel listed σ none= .at fuel' listed' σ' c') (J:S w) (k:cm P N ops Q S fuel' listed' σ' w) (M:optG c') (A:kO (et N.F ops) is listed=true):cm P N ops Q S fuel listed σ w:=
 (tl hT (fun fuel listed σ=>cm P N ops Q S fuel listed σ w) (fun hi A L k=>hp _ hi A (fun w _=>L w) J k) (fun _=>fun hi A C E I L k=>Ay _ hi A C E I (fun w _=>L w) J k) (fun _=>fun hi A C E I hb k=>Az _ hi A C E I hb J k) (fun _=>fun hi A C E I k=>IF _ hi A C E I J k) is fuel listed σ none h A M k).2
theorem Iz (hT:js P 0 T=true) (is:List Nat) (h:ln T N false ops is fuel listed σ none= .at fuel' listed' σ' c') (C:S w) (k:bV P N ops Q S r fuel' listed' σ' w) (E:optG c') (A:kO (fun l i=>ov N.F ops l r i) is listed=true):bV P N ops Q S r fuel listed σ w:=
 (tl (g:=false) hT (fun fuel listed σ=>bV P N ops Q S r fuel listed σ w) (fun hi A I k=>lq _ hi A (fun w _=>I w) C k) (fun h=>dd h) (fun h=>dd h) (fun h=>dd h) is fuel listed σ none h A E k).2
theorem Iy (hT:js P 0 T=true) (is:List Nat) (h:ln T N false ops is fuel listed σ none= .at fuel' listed' σ' c') (C:S w) (k:bV P N ops Q S r fuel' listed' σ' w) (E:optG c') (A:kO (fun l i=>mQ N.F ops l r i) is listed=true):bV P N ops Q S r fuel listed σ w:=
 (tl (g:=false) hT (fun fuel listed σ=>bV P N ops Q S r fuel listed σ w) (fun hi A I k=>qh _ hi A I (fun _=>C) k) (fun h=>dd h) (fun h=>dd h) (fun h=>dd h) is fuel listed σ none h A E k).2
end
def uV (P:an) (f:dH):Bool:=match P.funcs[f]? with
 | some fn=> !(fn.name== "runtime.NumGoroutine") && !fn.body.isNone
 | none=>false
theorem FO {P:an} {f:dH} (h:uV P f=true):eL P f:=by
 unfold uV at h;split at h
 · simp only [bf,kC] at h;exact uW (by assumption) h.1 h.2
 · cases h
section
variable {P:an} {N:Fm} {σ:Nat→ag} {w:ah} {dst:Option Nat} {ty:ak} {pos :String} {af:Array bM} {g:Option (Nat×Bool)} {x y z:aO} {K:(Nat→ag)→ah→Prop}
theorem az {f:dH} {args:Array aO} {A:Array ak} {L:List ag} {R:ag→ah→Prop} (hr:aR P f L.toArray w R) (C:args.toList.map (ev N σ)=L)
 (k:∀ v w',R v w'→K (cz σ dst v) w') (E:uV P f=true :=by kernel_rfl):bI P N ⟨dst,.call ⟨.value (.func f),args,A⟩,ty,pos,af,g⟩ σ w K:=cl (FO E) hr C k
theorem aM {t b off :Nat} {v:ag} (C:ev N σ x= .pointer (some ⟨b,off,none⟩)) (A:ay w.heap b off =some v) (hu:c9 P t=some none:=by kernel_rfl):
 (execOp (ev N σ) ⟨dst,.load t x,ty,pos,af,g⟩).run P w= .ok (.value v) w:=ld hu C A
theorem cK (n:Nat) {t E:ak} {a b:Int} (A:ev N σ x= .int .i64 a:=by exact U) (C:ev N σ y= .int .i64 b:=by exact U) (h:a+b=(n:Int)∧n≤9223372036854775807:=by omega):
 (execOp (ev N σ) ⟨dst,.binOp .add t x y E,ty,pos,af,g⟩).run P w= .ok (.value<|.int .i64 (n:Int)) w:=yO (n:Int) A C<|xX h.1 h.2
theorem xi (n:Nat) {t E:ak} {a b:Int} (A:ev N σ x= .int .i64 a:=by exact U) (C:ev N σ y= .int .i64 b:=by exact U) (h:a - b=(n:Int)∧n≤9223372036854775807:=by omega):
 (execOp (ev N σ) ⟨dst,.binOp .sub t x y E,ty,pos,af,g⟩).run P w= .ok (.value<|.int .i64 (n:Int)) w:=B7 (n:Int) A C<|xX h.1 h.2
variable {ops:Array ar} {Q:ba→(Nat→ag)→ah→Prop} {S:ah→Prop} {r fuel d t b off :Nat} {listed:Array Bool} {v:ag} {W:ah} {l:List ar} {id:Nat}
theorem il (i:Nat) (h:(ops[i]?,ev N σ x)=(some ⟨some d,.load t x,ty,pos,af,none⟩,.pointer (some ⟨b,off,none⟩))) (A:Wk W w) (C:ay W.heap b off =some v) (k:cm P N ops Q (fun w'=>Wk W w') fuel (listed.setIfInBounds i true) (aY σ d v) w)
 (E:et N.F ops listed i=true :=by kernel_rfl) (hu:c9 P t=some none:=by kernel_rfl):cm P N ops Q (fun w'=>Wk W w') (fuel+1) listed σ w:=hp i (congrArg cg h) E (fun _ hw=>ld hu (congrArg Prod.snd h)<|hw.ay C) A k
theorem nh (i:Nat) (h:(ops[i]?,ev N σ x)=(some ⟨some d,.load t x,ty,pos,af,none⟩,.pointer (some ⟨b,off,none⟩))) (A:Wk W w) (C:ay W.heap b off =some v) (k:bV P N ops Q (fun w'=>Wk W w') r fuel (listed.setIfInBounds i true) (aY σ d v) w)
 (E:ov N.F ops listed r i=true :=by kernel_rfl) (hu:c9 P t=some none:=by kernel_rfl):bV P N ops Q (fun w'=>Wk W w') r (fuel+1) listed σ w:=lq i (congrArg cg h) E (fun _ hw=>ld hu (congrArg Prod.snd h)<|hw.ay C) A k
theorem mV (h:Wk w w.drew→cm P N l.toArray Q (fun w'=>Wk w w') l.length (pj l.length false) σ w.drew) (hr:km N.r l=true :=by exact U) (hm:P.follows .mixedOrders=true :=by kernel_rfl):bg P N (.region id l.toArray true) Q σ w:=bD _ hr hm (Md.refl _ _).drew<|h (Md.refl _ _).drew
theorem wj (r:Nat) (h:Wk w w.drew→bV P N l.toArray Q (fun w'=>Wk w w') r l.length (pj l.length false) σ w.drew) (hr:km N.r l=true :=by exact U) (hm:P.follows .mixedOrders=true :=by kernel_rfl):bg P N (.region id l.toArray true) Q σ w:=sG _ r hr hm (Md.refl _ _).drew<|h (Md.refl _ _).drew
end
end Go.Hb
end
namespace Go.Hb
def kz (A:List (List UInt8)):Nat:=(A.map lE).sum
end Go.Hb
section
namespace Go.Hb
open Go.ChangeShapes Go.WideShapes Go.ChangeAt
theorem Wk.frame {w w':ah} (h:Wk w w') (may:MemPlace→Prop):w.keptBut w' may:=by
 refine ⟨h.os,h.output,fun i hi=> ?_⟩;rw [h.cP i hi id];split <;> simp_all
theorem Wk.same {w w':ah} (h:Wk w w') {p:MemPlace} (hp:p.block < w.heap.size):w.sameAt w' p:=by
 cases p with
 | cell b o=>exact World.cell?_of_block (w:=w)<|h.cP b hp id
 | map b=>exact h.cP b hp id
section
variable {H:Type} {enc:ak×ag→H} {P:an} {W W':ah}
theorem CM (J:laidOutB P=true) (I:Wk W W'):∀ (C:List ak) (vs:List ag) (E:List (DataW H)) (ps:List MemPlace),C.all (fun t=>P.readableRec t && decide (t < P.types.size))=true→(∀ x∈ps,x.block < W.heap.size)→
 DA enc P W 0 (fun _=>true) true C vs E ps→DA enc P W' 0 (fun b=>decide (b < W.heap.size)) true C vs E ps
 | [],[],[],_,_,_,h=>h
 | t::C,v::vs,d::E,_,hp,hlt,⟨p,q,h1,h2,he⟩=>by
   subst he;rw [uj,bf,bf] at hp;exact ⟨p,q,WideElems.Trod_stays J hp.1.1 (of_decide_eq_true hp.1.2) h1 (fun x A=>I.same<|hlt x<|Ej _ A) (fun x A=>decide_eq_true<|hlt x<|Ej _ A),
    CM J I C vs E q hp.2 (fun x A=>hlt x<|List.mem_append_right _ A) h2,rfl⟩
 | [],_::_,_,_,_,_,h=>h.elim
 | [],[],_::_,_,_,_,h=>h.elim
 | _::_,[],_,_,_,_,h=>h.elim
 | _::_,_::_,[],_,_,_,h=>h.elim
theorem KJ {f:dH} {fn:Func} {s:ChangeSpec} {args:Array ag} {A gs:List (DataW H)} {before:List MemPlace} {O:ak} (I:DataW.Whole enc P fn.params.toList s.vars false W args.toList A gs before) (M:s.vars= [])
 (C:s.fn H (A++gs)= {results:= [.lit (.bool true)],args:=A}) (hr:fn.resultTypes= #[O]) (hb:P.underlying O=some .bool) (V:laidOutB P=true) (hp:fn.params.toList.all (fun t=>P.readableRec t && decide (t < P.types.size))=true)
 (h:aR P f args W (fun v w'=>v= .bool true∧Wk W w')):Calls P f args W fun e W'=> ∃ v,e= .returned v∧s.post enc P fn false true false false W args v W':=by
 refine gO h fun e W' ⟨v,he,aa,L⟩=>⟨v,he,?_⟩
 subst aa;have J:=I;obtain ⟨p,q,U,E,rfl,_,_⟩:=I;rw [M] at E;obtain ⟨rfl,rfl⟩:=trodVars_none E;have Z:∀ x∈p,x.block < W.heap.size:=fun x ab=>J.lt x<|by simpa using ab
 refine ⟨_,_,_,[],p,[],J,?_,?_,?_,L.frame _,fun h=>by cases h⟩
 · rw [C,hr];exact trodAll_cons_mk (shut_bool hb _) trodAll_mk0
 · rw [C];exact CM V L _ _ _ _ hp Z U
 · rw [C,M]; rfl
theorem zi {w:ah} {a:aG} {v:ag} (h:w.cell? a=some v):a=⟨a.block,a.off,none⟩∧ay w.heap a.block a.off=some v:=by
 obtain ⟨b,o,C⟩:=a;unfold DS at h;simp only at h;split at h
 · rename_i c t z hb;split at h
   · cases h
   · rename_i A;cases C with
     | none=>exact ⟨rfl,by rw [dg hb]; exact h⟩
     | some x=>simp at A
 · cases h
theorem zk {w:ah} {a:aG} {xs:List ag} (h:∀ j u,xs[j]? =some u→w.cell? (a.add j)=some u):bo w.heap (some a) xs:=by
 cases xs with
 | nil=>exact bo.nil _ _
 | cons x xs=>
   have h0:=(zi<|h 0 x rfl).1;have ha:a=⟨a.block,a.off,none⟩:=h0;refine ⟨fun _=>congrArg some ha,fun j u hu=> ?_⟩;have A:=h j u hu;rw [ha,dO,hZ] at A;exact A
theorem Kf {t e:ak} {base:Nat} {v:ag} {d:DataW H} {p:List MemPlace} (I:P.underlying t=some (.slice e)) (he:P.underlying e=some .string) (M:P.cellsOf e=1) (ab:Value.okWide P W .any base t v)
 (h:DataW.Trod enc P W 0 (fun _=>true) true t v d p):∃ (ws:(List<|List UInt8)) (a:Option aG) (c:Nat),v= .slice a ws.length c∧dN W.heap a ws∧(d= .nil∧ws= []∨∃ ac,d= .slice (ws.map fun s=> .lit<|.string s) ac):=by
 obtain ⟨a0,len,cap,rfl⟩:=okWide_slice I ab;obtain ⟨fuel,V⟩:=h;rcases open_strings I he M V with ⟨A,E⟩ | ⟨a,ah,ad,L,A,_,aa,hm,J,E,O,ae⟩
 · simp only [nQ,iA,kI,and_true] at A;obtain ⟨rfl,rfl,rfl⟩:=A;cases E;exact ⟨[],none,0,U,bo.nil _ _,.inl ⟨U,U⟩⟩
 · simp only [nQ,iA,kI,and_true] at A;obtain ⟨rfl,rfl,rfl⟩:=A;simp only [if_true] at J;cases E;refine ⟨(L.take len).map (fun s=>s.data.toList),some a,cap,?_,zk fun j u hu=> ?_,.inr ⟨strs (L.drop len),?_⟩⟩
   · rw [lF,bW,J,Nat.min_eq_left aa]
   · rw [eJ,eJ,Option.map_map,fU] at hu;obtain ⟨s,C,rfl⟩:=hu;rw [gr] at C;split at C
     · have Z:=cB.1 C;have :=O j Z.1;rw [this,cn,C]; rfl
     · cases C
   · simp only [strs,List.map_take,List.map_map]; rfl
end
end Go.Hb
namespace Go.Hb
open Go.Proofs.YtfgapieofinadaaGreatDoor
theorem FE {H:Type} {l:List (DataW H)} (A:Rows.uptoSmall H l=true):Rows.uptoBulkAll l≤1048576:=of_decide_eq_true A
theorem FF {H:Type} {ws:(List<|List UInt8)} {d:DataW H} (h:d= .nil∧ws= []∨∃ A,d= .slice (ws.map fun s=> .lit<|.string s) A):ws.length+kz ws≤Rows.uptoBulk d:=by
 rcases h with ⟨rfl,rfl⟩ | ⟨A,rfl⟩
 · simp [kz]
 · have key:∀ ws:(List<|List UInt8),Rows.uptoBulkAll (ws.map fun s=>(DataW.lit (.string s):DataW H))=ws.length+kz ws:=by
    intro ws
    induction ws with
    | nil=>simp [Rows.uptoBulkAll,kz]
    | cons a l ih=>simp only [dq,Rows.uptoBulkAll,Rows.uptoBulk,ih,kz,bA,ri]; omega
   simp only [Rows.uptoBulk,key]; omega
end Go.Hb
namespace Go.Hb
open Go.Proofs.YtfgapieofinadaaGreatDoor Go.ChangeShapes Go.WideShapes Go.ChangeAt
structure lL (P:an) (t:ak) (m:Nat) {X:Type} (R:ah→List ag→X→Prop) (B:X→Nat):Prop where
 cells:P.cellsOf t=m
 op:∀ {H:Type} (enc:ak×ag→H) (W:ah) (fuel:Nat) (cs:List ag) (d:DataW H) (p:List MemPlace),qV enc P W 0 (fun _=>true) true fuel t cs=some (d,p)→cs.length=m∧∃ x,R W cs x∧B x≤Rows.uptoBulk d
section
variable {P:an} {t t0 t1 e:ak} {m m0 m1:Nat} {X X0 X1:Type} {R:ah→List ag→X→Prop} {B:X→Nat} {R0:ah→List ag→X0→Prop} {B0:X0→Nat} {R1:ah→List ag→X1→Prop} {B1:X1→Nat}
theorem Kh {k:bu} (C:P.underlying t=some (.int k)) (A:P.cellsOf t=1):lL P t 1 (fun _ cs (x:Int)=>cs= [.int k x]∧(Lit.int k x).wf=true) (fun _=>1) where
 cells:=A
 op enc W fuel cs d p h:=by
  obtain ⟨n,rfl,E,hw⟩:=DataW.trod_int C h;cases E;exact ⟨U,n,⟨U,hw⟩,by simp [Rows.uptoBulk]⟩
theorem wS (C:P.underlying t=some .string) (A:P.cellsOf t=1):lL P t 1 (fun _ cs (x:List UInt8)=>cs= [str x]) (fun x=>x.length+1) where
 cells:=A
 op enc W fuel cs d p h:=by
  obtain ⟨s,rfl,E,hw⟩:=DataW.trod_string C h;cases E;exact ⟨U,s.data.toList,U,by simp [Rows.uptoBulk]⟩
def RS (m:Nat) (R:ah→List ag→X→Prop) (W:ah) (cs:List ag) (xs:List X):Prop :=
 ∃ (a:Option aG) (c:Nat) (L:List (List ag)),cs= [.slice a xs.length c]∧L.length=xs.length∧bo W.heap a L.flatten∧xs.length≤c∧∀ (i:Nat) l x,L[i]? =some l→xs[i]? =some x→l.length=m∧R W l x
theorem Al {L:List (List ag)} {m:Nat} (h:∀ l∈L,l.length=m):L.flatten.length=L.length*m:=by
 induction L with
 | nil=>simp
 | cons a L ih=>
   rw [pC,bB,ih (fun l A=>h l<|by simp [A]),h a (by simp),bA,pF]; omega
theorem Ak {L:List (List ag)} {m:Nat} (h:∀ l∈L,l.length=m) {i c:Nat} {l:List ag} (A:L[i]? =some l) (C:c < m):L.flatten[i*m+c]? =l[c]? :=by
 induction L generalizing i with
 | nil=>simp at A
 | cons a L ih=>
   have ha:=h a<|by simp
   cases i with
   | zero=>
     simp only [fS,bp] at A;subst A;rw [pC,pH,cr,eW ab]
   | succ i=>
     simp only [gR] at A;rw [pC,eI (by rw [ha,pF]; omega),ha,show (i+1)*m+c - m=i*m+c from by rw [pF]; omega];exact ih (fun l A=>h l<|by simp [A]) A
theorem H5 {L:List (List ag)} {m:Nat} (hm:0 < m) (h:∀ l∈L,l.length=m) {j:Nat} {u:ag} (hu:L.flatten[j]? =some u):∃ l,L[j / m]? =some l∧l[j % m]? =some u:=by
 have C:=(cB.1 hu).1;rw [Al h] at C;have A:j / m < L.length:=(Nat.div_lt_iff_lt_mul hm).2 C;refine ⟨L[j / m],bR A,?_⟩;have :=Ak h (bR A)<|Nat.mod_lt j hm;rw [rp,EB] at this;rw [← this]; exact hu
theorem za {H:Type} {f:X→Nat} :∀ (xs:List X) (A:List (DataW H)),xs.length=A.length→(∀ (i:Nat) x d,xs[i]? =some x→A[i]? =some d→f x≤Rows.uptoBulk d)→(xs.map f).sum≤Rows.uptoBulkAll A
 | [],_,_,_=>by simp
 | x::xs,[],h,_=>by simp at h
 | x::xs,d::A,h,hf=>by
   have E:=hf 0 x d rfl rfl;have I:=za xs A (by simpa using h) fun i y e C he=>hf (i+1) y e (by simpa using C)<|by simpa using he
   simp only [dq,ri,Rows.uptoBulkAll]; omega
theorem BD (he:lL P e m R B) (az:P.underlying t=some (.slice e)) (ax:P.cellsOf t=1) (hm:0 < m):lL P t 1 (RS m R) (fun xs=>(xs.map B).sum+1) where
 cells:=ax
 op enc W fuel cs d p h:=by
  rcases DataW.trod_slice az h with ⟨rfl,E⟩ | ⟨a,len,cap,elems,rest,n,_,rfl,E,_,J,_,aB,ak,_,_⟩
  · cases E;exact ⟨U,[],⟨none,0,[],U,U,bo.nil _ _,aT _,fun i l x J=>by simp at J⟩,by simp [Rows.uptoBulk]⟩
  · cases E;rw [he.cells] at ak;have hex:∀ i,i < len→∃ (l:List ag) (x:X) (y:DataW _×List MemPlace),elems[i]? =some y∧W.cells? 0 (a.add<|i*m) m=some l∧l.length=m∧R W l x∧B x≤Rows.uptoBulk y.1:=by
     intro i hi;have I:=ak i hi;rw [bR ab,ry] at I;obtain ⟨l,A,C⟩:=I;obtain ⟨ac,x,aj,ad⟩:=he.op enc W n l elems[i].1 elems[i].2 C;exact ⟨l,x,elems[i],bR ab,A,ac,aj,ad⟩
    let M:Nat→List ag:=fun i=>if hi:i < len then (hex i hi).choose else []
    let Z:(i:Nat)→i < len→X:=fun i hi=>(hex i hi).choose_spec.choose
    have O:∀ i (hi:i < len),∃ (y:DataW _×List MemPlace),elems[i]? =some y∧W.cells? 0 (a.add<|i*m) m=some (M i)∧(M i).length=m∧R W (M i) (Z i hi)∧B (Z i hi)≤Rows.uptoBulk y.1:=fun i hi=>by
     have :=(hex i hi).choose_spec.choose_spec;simp only [M,dif_pos hi];exact this
    let xs:List X:=(lH len).attach.map fun q=>Z q.1<|List.mem_range.1 q.2
    have ah:xs.length=len:=by simp [xs]
    have an:∀ (i:Nat) x,xs[i]? =some x→∃ hi:i < len,x=Z i hi:=fun i x E=>by
     simp only [xs,eJ,fU] at E;obtain ⟨q,V,rfl⟩:=E;have I:=cB.1 V;obtain ⟨hi,A⟩:=I;simp only [List.length_attach,Eg] at hi;have C:q.1=i:=by rw [← A]; simp
     subst C;exact ⟨hi,U⟩
    let L:List (List ag):=(lH len).map M
    have au:L.length=len:=by simp [L]
    have ae:∀ (i:Nat) l,L[i]? =some l→i < len∧l=M i:=fun i l J=>by
     simp only [L,eJ,fU] at J;obtain ⟨q,V,rfl⟩:=J;have hi:=(cB.1 V).1;rw [Eg] at hi;rw [uo hi] at V;cases V;exact ⟨hi,U⟩
    have av:∀ l∈L,l.length=m:=fun l J=>by
     obtain ⟨i,hi⟩:=List.mem_iff_getElem?.1 J;obtain ⟨I,rfl⟩:=ae i l hi;obtain ⟨_,_,_,A,_⟩:=O i I;exact A
    refine ⟨U,xs,⟨some a,cap,L,by rw [ah],by rw [au,ah],zk fun j u hu=> ?_,ab,fun i l x J E=> ?_⟩,?_⟩
    · obtain ⟨l,I,A⟩:=H5 hm av hu;obtain ⟨C,rfl⟩:=ae _ l I;obtain ⟨y,_,ac,aj,_⟩:=O _ C;obtain ⟨_,_,ad⟩:=DT ac;have ap:=ad (j % m)<|Nat.mod_lt j hm;have ha:(a.add<|j / m*m).add (j % m)=a.add j:=by
       have aw:∀ (a:aG) (x y:Nat),a.spot=none→(a.add x).add y=a.add (x+y):=by
        intro a x y am;obtain ⟨b,o,s⟩:=a;simp only at am; subst am;rw [dO,dO,dO,fT]
       have ay:a.spot=none:=by
        have h0:=O 0<|EC (Nat.zero_le _) C;obtain ⟨_,_,aq,_⟩:=h0;obtain ⟨_,_,ar⟩:=DT aq;have aa:=ar 0 hm;obtain ⟨aC,_,_,aA,_⟩:=O 0<|EC (Nat.zero_le _) C;rw [bR ab] at aa;simp only [pH] at aa;have ai:=(zi aa).1;have ao:(a.add 0).add 0=a:=rfl;rw [ao] at ai;rw [ai]
       rw [aw a _ _ ay,rp,EB]
      rw [← ha,ap]; exact A
    · obtain ⟨hi,rfl⟩:=an i x E;obtain ⟨_,rfl⟩:=ae i l J;obtain ⟨_,_,_,A,C,_⟩:=O i hi;exact ⟨A,C⟩
    · have I:(xs.map B).sum≤Rows.uptoBulkAll (elems.map (·.1)):=za xs _ (by rw [ah,lF]; omega) fun i x d E al=>by
       obtain ⟨hi,rfl⟩:=an i x E;obtain ⟨y,A,_,_,_,C⟩:=O i hi;rw [eJ,A] at al;cases al;exact C
      simp only [Rows.uptoBulk]; omega
theorem Mw {H:Type} {enc:ak×ag→H} {W:ah} {f0 f1 f2:Field} {fuel:Nat} {cs:List ag} {x:DataW H×List MemPlace} (L:P.underlying t=some (.struct #[f0,f1,f2])) (h:qV enc P W 0 (fun _=>true) true fuel t cs=some x):
 ∃ A C E n,x=(.agg [A.1,C.1,E.1],A.2++(C.2++E.2))∧cs.length=P.cellsOf t∧qV enc P W 0 (fun _=>true) true n f0.type ((cs.drop f0.offset).take<|P.cellsOf f0.type)=some A∧qV enc P W 0 (fun _=>true) true n f1.type ((cs.drop f1.offset).take<|P.cellsOf f1.type)=some C∧
   qV enc P W 0 (fun _=>true) true n f2.type ((cs.drop f2.offset).take<|P.cellsOf f2.type)=some E:=by
 obtain ⟨xs,n,_,rfl,J,hlen,I⟩:=DataW.trod_struct L h
 match xs,hlen with
 | [A,C,E],_=>exact ⟨A,C,E,n,by simp,J,by simpa using I 0 f0 rfl,by simpa using I 1 f1 rfl,by simpa using I 2 f2 rfl⟩
theorem Ki {t2:ak} {I:Type} {L:ah→List ag→I→Prop} {J:I→Nat} (h0:lL P t0 1 R0 B0) (M:lL P t1 1 R1 B1) (O:lL P t2 1 L J) {f0 f1 f2:Field}
 (ad:P.underlying t=some (.struct #[f0,f1,f2])) (aa:f0.type=t0) (ab:f1.type=t1) (ac:f2.type=t2) (am:f0.offset=0) (an:f1.offset=1) (ao:f2.offset=2) (V:P.cellsOf t=3):
 lL P t 3 (fun W cs (x:X0×X1×I)=> ∃ A C E,cs= [A,C,E]∧R0 W [A] x.1∧R1 W [C] x.2.1∧L W [E] x.2.2) (fun x=>B0 x.1+B1 x.2.1+J x.2.2+1) where
 cells:=V
 op enc W fuel cs d p h:=by
  obtain ⟨aw,ax,ay,n,ae,Z,g0,g1,g2⟩:=Mw ad h;cases ae;rw [V] at Z
  match cs,Z with
  | [A,C,E],_=>
    rw [aa,am,h0.cells] at g0;rw [ab,an,M.cells] at g1;rw [ac,ao,O.cells] at g2;obtain ⟨_,ap,ai,ar⟩:=h0.op enc W n _ _ _ g0;obtain ⟨_,aq,aj,au⟩:=M.op enc W n _ _ _ g1;obtain ⟨_,x2,al,av⟩:=O.op enc W n _ _ _ g2;refine ⟨U,(ap,aq,x2),⟨A,C,E,U,ai,aj,al⟩,?_⟩;simp only [Rows.uptoBulk,Rows.uptoBulkAll]; omega
end
theorem Ml {W:ah} {v:ag} {ws:(List<|List UInt8)} (h:RS 1 (fun _ cs (x:List UInt8)=>cs= [str x]) W [v] ws):∃ a c,v= .slice a ws.length c∧dN W.heap a ws∧ws.length≤c:=by
 obtain ⟨a,c,L,I,O,J,M,A⟩:=h;simp only [iA,and_true] at I;refine ⟨a,c,I,?_,M⟩;have e:L.flatten=ws.map str:=by
  have key:∀ (L:List (List ag)) (ws:(List<|List UInt8)),L.length=ws.length→(∀ (i:Nat) l x,L[i]? =some l→ws[i]? =some x→l= [str x])→L.flatten=ws.map str:=by
   intro L
   induction L with
   | nil=>intro ws h _; rw [jx h.symm]; rfl
   | cons a L ih=>
     intro ws h A;cases ws with
     | nil=>simp at h
     | cons w ws=>
       rw [pC,dq,A 0 a w rfl rfl,ih ws (by simpa using h) (fun i l x C E=>A (i+1) l x (by simpa using C)<|by simpa using E)]; rfl
  exact key L ws O fun i l x C E=>(A i l x C E).2
 unfold dN;rw [← e]; exact J
end Go.Hb
end
section
namespace Go.Hb
open Go.Proofs
def gj:List (List TD):= [
 [.no,.no,.no,.no,.no,.no,.no,.st [0,1,2,3],.st [0,1,2,3],.str,.str,.str,.no,.st [0,1],.st [0,1],.no],
 [.no,.no,.st [0],.st [0],.no,.no,.cW 29 3,.no,.no,.no,.no,.cW 9 1,.st [0,1,2],.st [0,1,2],.no,.no],
 [.no,.no,.st [0,1,2],.st [0,1,2],.no,.no,.no,.no,.no,.no,.no,.no,.no,.no,.no,.no],
 [.no,.no,.no,.no,.no,.no,.st [0,1,2,3,4],.st [0,1,2,3,4],.cW 154 2,.cW 250 2,.no,.st [0,1,2,3],.st [0,1,2,3],.no,.no,.no],
 [.st [0,1],.st [0,1],.cW 65 2,.st [0,2],.st [0,2],.st [0,1,8,9],.st [0,1,8,9],.no,.no,.no,.no,.cW 79 2,.no,.no,.st [0,1],.st [0,1]],
 [.no,.no,.no,.cW 1 1,.st [0,1,2],.st [0,1,2],.no,.no,.cW 181 2,.cW 195 2,.no,.st [0,1,2,3],.st [0,1,2,3],.no,.no,.st [0,7]],
 [.st [0,7],.no,.no,.no,.cW 5 1,.st [0,1],.st [0,1],.no,.no,.no,.no,.no,.no,.no,.no,.no],
 [.no,.no,.no,.no,.st [0,1,2],.no,.no,.st [0],.st [0],.no,.no,.no,.no,.no,.cW 215 1,.cW 213 5],
 [.cW 219 7,.st [0,1,2,3,8,9,10,11,12],.st [0,1,2,3,8,9,10,11,12],.no,.no,.no,.cW 294 2,.st [0,1,2,15],.st [0,1,2,15],.no,.no,.no,.st [0,1,6],.st [0,1,6],.no,.no],
 [.no,.no,.no,.no,.st [0,1,2],.st [0,1,2],.no,.no,.no,.st [0,1],.st [0,1],.no,.no,.no,.no,.no],
 [.no,.no,.no,.no,.no,.no,.no,.no,.no,.cW 174 2,.no,.no,.no,.no,.st [0,1],.no],
 [.no,.st [0,1],.st [0,1],.no,.no,.st [0,1],.no,.no,.no,.no,.no,.no,.no,.no,.no,.no],
 [.no,.cW 244 2,.st [0,1],.st [0,1],.no,.no,.no,.no,.no,.no,.no,.no,.no,.st [0,1,2,3,4],.st [0,1,2,3,4],.no],
 [.st [0,13],.st [0,13],.no,.no,.st [0,1,2,3,4],.st [0,1,2,3,4],.no,.cW 124 1,.no,.no,.st [0,1,2,3,4,5,6],.st [0,1,2,3,4,5,6],.no,.st [0,1,2,3,4,5],.st [0,1,2,3,4,5],.st [0]],
 [.st [0],.no,.cW 3 1,.st [0,1],.st [0,1],.cW 228 2,.no,.no,.no,.no,.no,.no,.no,.no,.no,.no],
 [.no,.no,.no,.st [0,1],.st [0,1],.no,.no,.no,.cW 251 2,.st [0,1],.st [0,1],.st [0,1],.no,.no,.no,.no],
 [.no,.no,.no,.no,.no,.no,.no,.no,.no,.no,.no,.no,.no,.no,.no,.no],
 [.no,.no,.no,.no,.no,.st [0,1,2,3,4,5,6],.st [0,1,2,3,4,5,6],.no,.no,.no,.no,.no,.st [0,1],.st [0,1],.no,.no],
 [.no,.no,.no,.st [0,1],.st [0,1],.st [0,1],.st [0,1],.no,.no,.no,.no,.no,.no,.no,.no,.no],
 [.no,.no,.no,.no,.no,.no,.no,.no,.no,.no,.no,.no,.no,.no,.no,.no],
 [.no,.no,.no,.st [0,1,2],.st [0,1,2],.no,.no,.no,.no,.no,.no,.no,.st [0,1,2],.st [0,1,2],.no,.cW 4 1],
 [.st [0,1,2],.st [0,1,2],.no,.no,.no,.no,.no,.no,.no,.no,.no,.no,.no,.no,.no,.no],
 [.no,.no,.no,.cW 124 1,.no,.no,.no,.st [0,1,2,3,4,5],.st [0,1,2,3,4,5],.no,.no,.no,.st [0,1,2,3,4],.st [0,1,2,3,4],.no,.no],
 [.no,.no,.no,.no,.no,.no,.no,.no,.no,.no,.no,.no,.no,.no,.no,.cW 381 1],
 [.no,.st [0,1,2,3,4,5,6],.st [0,1,2,3,4,5,6],.no,.st [0],.st [0],.no,.no,.no,.no,.no,.no,.cW 42 1,.no,.no,.no],
 [.no,.no,.no,.no,.no,.no,.no,.no,.no,.no,.no,.no,.no,.no,.no,.no],
 [.no,.no,.no,.no,.no,.no,.no,.no,.no,.no,.no,.no,.no,.no,.no,.no],
 [.st [0,1,2,3,4,5,6],.st [0,1,2,3,4,5,6],.no,.cW 439 2,.st [0,1,2],.st [0,1,2],.st [0,1],.st [0,1],.st [0,1],.st [0,1],.no,.no,.no,.no,.no,.no],
 [.no,.no,.no,.no,.no,.no,.cW 479 4,.st [0],.st [0],.no,.no,.no,.no,.no,.no,.no],
 [.no,.no,.st [0,1,2,3,4],.st [0,1,2,3,4],.no,.no,.st [0,1],.st [0,1],.no,.cW 224 1,.no,.no,.no,.no,.no,.no],
 [.no,.no,.no,.no,.no,.no,.no,.no,.no,.no,.no,.no,.no,.no,.st [0],.st [0]],
 [.no,.no,.no,.no,.no,.no,.no,.no,.no,.no,.no,.no,.no,.no,.no,.no],
 [.no,.no,.no,.no,.no,.no,.no,.no,.no,.no,.cW 495 1,.cW 527 2,.st [0,1,2],.st [0,1,2],.st [0,1],.st [0,1]],
 [.no,.no,.no,.no,.no,.no,.no,.no,.no,.no,.no,.no,.no,.st [0,1],.st [0,1],.no],
 [.no,.st [0,1,2,3],.st [0,1,2,3],.no,.no,.no,.no,.no,.no,.no,.no,.st [0,1,2,3,4,5,6,7,8,9,10],.st [0,1,2,3,4,5,6,7,8,9,10],.no,.no,.st [0,1]],
 [.st [0,1],.st [0],.st [0],.no,.no,.st [0,1,2,3,4],.st [0,1,2,3,4],.cW 570 4,.no,.st [0,1,2,3],.st [0,1,2,3],.no,.no]]
theorem gL:js aj 0 gj=true :=ai
section
variable {N:Fm} {Q:ba→(Nat→ag)→ah→Prop} {w:ah} {σ σ':Nat→ag} {p':Pt} {st st':List Kn} {c':Option Prop}
theorem cS {x:bz} {A:bz} (n:Nat) (h:gJ gj N n (.c x) [] σ none= .at (.c A) st' σ' c') (k:bg aj N A (ei aj N st' Q) σ' w) (C:optG c':=by first | exact trivial | (simp only [optG,andG]; omega)):bg aj N x Q σ w:=(iT gL n _ _ _ _ h C k).2
theorem aP {x:bz} {C:Array ar} {A:List ar} (n:Nat) (h:gJ gj N n (.c x) [] σ none= .at (.l C A) st' σ' c') (k:bK aj N C (ei aj N st' Q) A σ' w) (E:optG c':=by first | exact trivial | (simp only [optG,andG]; omega)):bg aj N x Q σ w:=(iT gL n _ _ _ _ h E k).2
theorem jh {x:bz} {A:ba} (n:Nat) (h:gJ gj N n (.c x) [] σ none= .at (.x A) [] σ' c') (k:Q A σ' w) (C:optG c':=by first | exact trivial | (simp only [optG,andG]; omega)):bg aj N x Q σ w:=(iT gL n _ _ _ _ h C k).2
theorem cx {x:bz} {A:bz} (n:Nat) (h:gJ gj N n (.c x) st σ none= .at (.c A) st' σ' c') (k:bg aj N A (ei aj N st' Q) σ' w) (C:optG c':=by first | exact trivial | (simp only [optG,andG]; omega)):bg aj N x (ei aj N st Q) σ w:=(iT gL n _ _ _ _ h C k).2
theorem aB {x:bz} {C:Array ar} {A:List ar} (n:Nat) (h:gJ gj N n (.c x) st σ none= .at (.l C A) st' σ' c') (k:bK aj N C (ei aj N st' Q) A σ' w) (E:optG c':=by first | exact trivial | (simp only [optG,andG]; omega)):bg aj N x (ei aj N st Q) σ w:=(iT gL n _ _ _ _ h E k).2
theorem aK {x:bz} {A:ba} (n:Nat) (h:gJ gj N n (.c x) st σ none= .at (.x A) [] σ' c') (k:Q A σ' w) (C:optG c':=by first | exact trivial | (simp only [optG,andG]; omega)):bg aj N x (ei aj N st Q) σ w:=(iT gL n _ _ _ _ h C k).2
theorem aC {ops:Array ar} {l:List ar} {A:bz} (n:Nat) (h:gJ gj N n (.l ops l) st σ none= .at (.c A) st' σ' c') (k:bg aj N A (ei aj N st' Q) σ' w) (C:optG c':=by first | exact trivial | (simp only [optG,andG]; omega)):bK aj N ops (ei aj N st Q) l σ w:=(iT gL n _ _ _ _ h C k).2
theorem ao {ops:Array ar} {l:List ar} {C:Array ar} {A:List ar} (n:Nat) (h:gJ gj N n (.l ops l) st σ none= .at (.l C A) st' σ' c') (k:bK aj N C (ei aj N st' Q) A σ' w) (E:optG c':=by first | exact trivial | (simp only [optG,andG]; omega)):bK aj N ops (ei aj N st Q) l σ w:=(iT gL n _ _ _ _ h E k).2
theorem au {ops:Array ar} {l:List ar} {A:ba} (n:Nat) (h:gJ gj N n (.l ops l) st σ none= .at (.x A) [] σ' c') (k:Q A σ' w) (C:optG c':=by first | exact trivial | (simp only [optG,andG]; omega)):bK aj N ops (ei aj N st Q) l σ w:=(iT gL n _ _ _ _ h C k).2
theorem ji {e:ba} {A:bz} (n:Nat) (h:gJ gj N n (.x e) st σ none= .at (.c A) st' σ' c') (k:bg aj N A (ei aj N st' Q) σ' w) (C:optG c':=by first | exact trivial | (simp only [optG,andG]; omega)):ei aj N st Q e σ w:=(iT gL n _ _ _ _ h C k).2
theorem kV {e:ba} {C:Array ar} {A:List ar} (n:Nat) (h:gJ gj N n (.x e) st σ none= .at (.l C A) st' σ' c') (k:bK aj N C (ei aj N st' Q) A σ' w) (E:optG c':=by first | exact trivial | (simp only [optG,andG]; omega)):ei aj N st Q e σ w:=(iT gL n _ _ _ _ h E k).2
theorem bG {e:ba} {A:ba} (n:Nat) (h:gJ gj N n (.x e) st σ none= .at (.x A) [] σ' c') (k:Q A σ' w) (C:optG c':=by first | exact trivial | (simp only [optG,andG]; omega)):ei aj N st Q e σ w:=(iT gL n _ _ _ _ h C k).2
variable {ops:Array ar} {S:ah→Prop} {r fuel fuel':Nat} {listed listed':Array Bool}
theorem cD (is:List Nat) (h:ln gj N true ops is fuel listed σ none= .at fuel' listed' σ' c') (A:S w) (k:cm aj N ops Q S fuel' listed' σ' w) (C:optG c':=by first | exact trivial | (simp only [optG,andG]; omega)) (E:kO (et N.F ops) is listed=true :=by kernel_rfl):cm aj N ops Q S fuel listed σ w:=Ix gL is h A k C E
theorem lX (is:List Nat) (h:ln gj N false ops is fuel listed σ none= .at fuel' listed' σ' c') (A:S w) (k:bV aj N ops Q S r fuel' listed' σ' w) (C:optG c':=by first | exact trivial | (simp only [optG,andG]; omega)) (E:kO (fun l i=>ov N.F ops l r i) is listed=true :=by kernel_rfl):bV aj N ops Q S r fuel listed σ w:=Iz gL is h A k C E
theorem mR (is:List Nat) (h:ln gj N false ops is fuel listed σ none= .at fuel' listed' σ' c') (A:S w) (k:bV aj N ops Q S r fuel' listed' σ' w) (C:optG c':=by first | exact trivial | (simp only [optG,andG]; omega)) (E:kO (fun l i=>mQ N.F ops l r i) is listed=true :=by kernel_rfl):bV aj N ops Q S r fuel listed σ w:=Iy gL is h A k C E
end
end Go.Hb
end
namespace Go.Hb
theorem drop_cons {α:Type} {l:List α} {i:Nat} (d:α) (h:i < l.length):l.drop i=l.getD i d::l.drop (i+1):=by simp_all
theorem Cq {α:Type} {l:List α} {k i:Nat} (d:α) (A:k≤i) (hi:i < l.length):(l.take<|i+1).drop k=(l.take i).drop k++ [l.getD i d]:=by
 rw [o7 l i d hi,List.drop_append_of_le_length (by rw [bW]; omega)]
def lV (b:UInt8):Bool:=b==32 || b==9
theorem vF (b:UInt8):lV b=decide (b.toNat=32∨b.toNat=9):=by
 unfold lV;have h:∀ x:UInt8,(b==x)=decide (b.toNat=x.toNat):=fun x=>by
  by_cases hb:b=x
  · subst hb; simp
  · have :b.toNat≠x.toNat:=fun h=>hb<|UInt8.toNat_inj.1 h;simp [hb,this]
 rw [h,h];simp [Bool.decide_or]
def bP:List UInt8→List UInt8→List (List UInt8)
 | cur,[]=>if cur= [] then [] else [cur]
 | cur,b::r=>if lV b then (if cur= [] then bP [] r else cur::bP [] r) else bP (cur++ [b]) r
theorem H9:bP [] []= []:=by simp [bP]
theorem Am {cur:List UInt8} (h:cur≠[]):bP cur []= [cur]:=by simp [bP,h]
theorem H7 {b:UInt8} {r:List UInt8} (h:lV b=true):bP [] (b::r)=bP [] r:=by simp [bP,h]
theorem H8 {cur:List UInt8} {b:UInt8} {r:List UInt8} (h:lV b=true) (A:cur≠[]):bP cur (b::r)=cur::bP [] r:=by simp [bP,h,A]
theorem vA {cur:List UInt8} {b:UInt8} {r:List UInt8} (h:lV b=false):bP cur (b::r)=bP (cur++ [b]) r:=by simp [bP,h]
theorem An:∀ (l cur x:List UInt8),x∈bP cur l→x≠[]∧x.length≤cur.length+l.length:=by
 intro l
 induction l with
 | nil=>
   intro cur x h;unfold bP at h;split at h
   · cases h
   · simp only [gU] at h; subst h; exact ⟨by assumption,by simp⟩
 | cons b r ih=>
   intro cur x h;unfold bP at h;split at h
   · split at h
     · have :=ih [] x h; simp only [bA,fk] at*; exact ⟨this.1,ab⟩
     · rcases dr.1 h with rfl | h
       · exact ⟨by assumption,by simp⟩
       · have :=ih [] x h; simp only [bA,fk] at*; exact ⟨this.1,ab⟩
   · have :=ih _ x h; simp only [bA,bB,fk] at*; exact ⟨this.1,ab⟩
theorem vz:∀ (l cur:List UInt8),(bP cur l).length≤l.length+1:=by
 intro l
 induction l with
 | nil=>intro cur; unfold bP; split <;> simp
 | cons b r ih=>
   intro cur;unfold bP;split
   · split
     · have :=ih []; simp only [bA]; omega
     · have :=ih []; simp only [bA]; omega
   · have :=ih (cur++ [b]); simp only [bA]; omega
def fG (l:List UInt8) (i:Nat) (fr:Int) (cur:List UInt8):Prop :=(fr= -1∧cur= [])∨(∃ k:Nat,fr=k∧k < i∧i≤l.length∧cur=(l.take i).drop k)
theorem fG.no {l:List UInt8} {i:Nat} :fG l i (-1) []:= .inl ⟨rfl,rfl⟩
theorem fG.neg {l cur:List UInt8} {i:Nat} {fr:Int} (h:fG l i fr cur) (A:fr < 0):fr= -1∧cur= []:=by grind [fG]
theorem fG.pos {l cur:List UInt8} {i:Nat} {fr:Int} (h:fG l i fr cur) (E:¬fr < 0):(0≤fr∧fr < i)∧cur=(l.take i).drop fr.toNat∧cur≠[]:=by
 rcases h with ⟨rfl,_⟩ | ⟨k,rfl,A,C,rfl⟩
 · omega
 · refine ⟨ab,by simp,fun e=> ?_⟩;have :=congrArg lE e;simp only [List.length_drop,bW,fk] at this;omega
theorem fG.begin {l:List UInt8} {i:Nat} (hi:i < l.length):fG l (i+1) i [l.getD i 0]:=by
 refine .inr ⟨i,U,ab,ab,?_⟩;rw [Cq 0 (aT i) hi,lB (by rw [bW]; omega),lG]
theorem fG.more {l cur:List UInt8} {i:Nat} {fr:Int} (h:fG l i fr cur) (E:¬fr < 0) (hi:i < l.length):fG l (i+1) fr (cur++ [l.getD i 0]):=by
 rcases h with ⟨rfl,_⟩ | ⟨k,rfl,A,C,rfl⟩
 · omega
 · exact .inr ⟨k,U,ab,ab,(Cq 0 ab hi).symm⟩
def eR (l:List UInt8):List UInt8:=if 0 < l.length∧l.getD (l.length - 1) 0=13 then l.take (l.length - 1) else l
theorem zQ (l:List UInt8):(eR l).length≤l.length:=by unfold eR; split <;> simp
theorem Hm {l:List UInt8} (h:0 < l.length) (A:l.getD (l.length - 1) 0=13):eR l=l.take (l.length - 1):=if_pos ⟨h,A⟩
theorem zR {l:List UInt8} (h:¬(0 < l.length∧l.getD (l.length - 1) 0=13)):eR l=l:=if_neg h
theorem AR {l:List UInt8} (h:0 < l.length):l.drop (l.length - 1)= [l.getD (l.length - 1) 0]:=by grind [drop_cons,lB]
def cI:List UInt8→List UInt8→List (List UInt8)
 | cur,[]=>if cur= [] then [] else [eR cur]
 | cur,b::r=>if b=10 then eR cur::cI [] r else cI (cur++ [b]) r
theorem wg:cI [] []= []:=by simp [cI]
theorem Ju {cur:List UInt8} (h:cur≠[]):cI cur []= [eR cur]:=by simp [cI,h]
theorem A4 (cur r:List UInt8):cI cur (10::r)=eR cur::cI [] r:=by simp [cI]
theorem vZ {cur:List UInt8} {b:UInt8} {r:List UInt8} (h:b≠10):cI cur (b::r)=cI (cur++ [b]) r:=by simp [cI,h]
theorem vY:∀ (l cur:List UInt8),(cI cur l).length≤l.length+1:=by
 intro l
 induction l with
 | nil=>intro cur; unfold cI; split <;> simp
 | cons b r ih=>
   intro cur;unfold cI;split
   · have :=ih []; simp only [bA]; omega
   · have :=ih (cur++ [b]); simp only [bA]; omega
theorem Jv (l:List UInt8):(cI [] l).length≤l.length:=by
 cases l with
 | nil=>simp [cI]
 | cons b r=>
   unfold cI;split
   · have :=vY r [];have A:∀ m:List UInt8,(cI [] m).length≤m.length:=by
      intro m
      induction m with
      | nil=>simp [cI]
      | cons c m ih=>
        unfold cI;split
        · simp only [bA]; omega
        · have :=vY m ([]++ [c]); simp only [bA]; omega
     have :=A r;simp only [bA]; omega
   · have :=vY r ([]++ [b]); simp only [bA]; omega
theorem Jw:∀ (l cur x:List UInt8),x∈cI cur l→x.length≤cur.length+l.length:=by
 intro l
 induction l with
 | nil=>
   intro cur x h;unfold cI at h;split at h
   · cases h
   · simp only [gU] at h; subst h; have :=zQ cur; simp only [fk]; omega
 | cons b r ih=>
   intro cur x h;unfold cI at h;split at h
   · rcases dr.1 h with rfl | h
     · have :=zQ cur; omega
     · have :=ih [] x h; simp only [bA,fk] at*; omega
   · have :=ih _ x h; simp only [bA,bB,fk] at*; omega
def dQ (c:UInt8) (l:List UInt8):Int:=if l.idxOf c < l.length then (l.idxOf c:Int) else -1
theorem IT {c:UInt8} {l:List UInt8} (h:dQ c l < 0):¬l.idxOf c < l.length:=by grind [dQ]
theorem AE {c:UInt8} {l:List UInt8} (h:¬dQ c l < 0):dQ c l=l.idxOf c∧l.idxOf c < l.length:=by grind [dQ]
def iG (c:UInt8) (l:List UInt8):List UInt8:=if dQ c l < 0 then l else l.take (l.idxOf c)
def jH (c:UInt8) (l:List UInt8):List UInt8:=if dQ c l < 0 then [] else l.drop (l.idxOf c+1)
theorem Gj (c:UInt8) (l:List UInt8):(iG c l).length≤l.length:=by unfold iG; split <;> simp; omega
theorem Gl {c:UInt8} {l:List UInt8} (h:l≠[]):(jH c l).length < l.length:=by
 have :=List.length_pos_iff.2 h;unfold jH; split <;> simp <;> omega
theorem Jt:∀ (l cur:List UInt8),l.idxOf 10 < l.length→cI cur l=eR (cur++l.take (l.idxOf 10))::cI [] (l.drop<|l.idxOf 10 +1):=by
 intro l
 induction l with
 | nil=>intro cur h; simp at h
 | cons b r ih=>
   intro cur h;by_cases hb:b=10
   · subst hb;rw [Ed,A4,List.take_zero,j0,cr,List.drop_one,List.tail_cons]
   · have A:(b::r).idxOf 10=r.idxOf 10 +1:=by rw [Ec,beq_eq_false_iff_ne.2 hb]; rfl
     rw [A] at h ⊢;simp only [bA] at h;rw [vZ hb,ih _ ab,Ex,List.drop_succ_cons,gQ];rfl
theorem Jx:∀ (l cur:List UInt8),¬l.idxOf 10 < l.length→cur++l≠[]→cI cur l= [eR (cur++l)]:=by
 intro l
 induction l with
 | nil=>intro cur _ h; rw [j0] at h ⊢; exact Ju h
 | cons b r ih=>
   intro cur h C;by_cases hb:b=10
   · subst hb; rw [Ed] at h; simp at h
   · have A:(b::r).idxOf 10=r.idxOf 10 +1:=by rw [Ec,beq_eq_false_iff_ne.2 hb]; rfl
     rw [A] at h;simp only [bA] at h;rw [vZ hb,ih _ ab (by simp),gQ];rfl
theorem Jy {l:List UInt8} (h:l≠[]):cI [] l=eR (iG 10 l)::cI [] (jH 10 l):=by
 by_cases A:dQ 10 l < 0
 · rw [Jx l [] (IT A) (by simpa using h)];unfold iG jH;rw [if_pos A,if_pos A,wg,lG]
 · rw [Jt l [] (AE A).2];unfold iG jH;rw [if_neg A,if_neg A,lG]
def pb (s p:List UInt8):List UInt8:=if s.take p.length=p then s.drop p.length else s
def qk:List UInt8:= [239,187,191]
def wv (s:List UInt8):Bool:=decide (s.take 3=qk)
def qN (s:List UInt8):List UInt8:=pb s qk
theorem xN (s:List UInt8):(qN s).length≤s.length:=by unfold qN pb; split <;> simp
theorem MK {s:List UInt8} (h:wv s=false):qN s=s:=if_neg<|of_decide_eq_false h
def jQ (t:List UInt8):List (List UInt8):=cI []<|qN t
theorem sE (t:List UInt8):(jQ t).length≤t.length:=bS (Jv _)<|xN t
theorem AY {t x:List UInt8} (h:x∈jQ t):x.length≤t.length:=by
 have :=Jw _ _ _ h;have :=xN t;simp only [fk] at*; omega
def oV (f:List UInt8):Bool:=decide ((f.getD 0 0).toNat=35)
def jP (f:List (List UInt8)):List (List UInt8):=f.takeWhile fun x=> !oV x
def kf (l:List UInt8) (n:Nat):List (Nat×List (List UInt8)):=if jP (bP [] l)= [] then [] else [(n,jP (bP [] l))]
def gh (n:Nat):List (List UInt8)→List (Nat×List (List UInt8))
 | []=> []
 | l::r=>kf l n++gh (n+1) r
def ee (t:List UInt8):List (Nat×List (List UInt8)):=gh 1<|jQ t
theorem th (l:List UInt8):∀ (ls:List (List UInt8)) (n:Nat),gh n (ls++ [l])=gh n ls++kf l (n+ls.length):=by
 intro ls
 induction ls with
 | nil=>intro n; simp [gh]
 | cons a ls ih=>intro n; rw [List.cons_append,gh,ih,gh,bA,gQ,show n+1 +ls.length=n+(ls.length+1) from by omega]
theorem BY:∀ (ls:List (List UInt8)) (n:Nat),(gh n ls).length≤ls.length:=by
 intro ls
 induction ls with
 | nil=>intro n; simp [gh]
 | cons a ls ih=>
   intro n;have :=ih<|n+1;unfold gh kf;rw [bB];split <;> simp only [fk,bA] <;> omega
theorem KR (t:List UInt8):(ee t).length≤t.length:=bS (BY _ _)<|sE t
theorem AI {f:List (List UInt8)} :∀ {j:Nat},j≤f.length→(∀ i,i < j→oV (f.getD i [])=false)→(j=f.length∨oV (f.getD j [])=true)→jP f=f.take j:=by
 induction f with
 | nil=>intro j E _ _; rw [List.take_nil]; rfl
 | cons a f ih=>
   intro j E C A;cases j with
   | zero=>
     rcases A with A | A
     · simp at A
     · simp only [mr] at A;simp [jP,A]
   | succ j=>
     have h0:=C 0 ab;simp only [mr] at h0;have :=ih (j:=j) (by simpa using E) (fun i hi=>by simpa using C (i+1) ab)<|by simpa using A
     unfold jP at*;rw [List.takeWhile_cons,h0];simp only [Bool.not_false,if_true,Ex];rw [this]
theorem I6 {f:List (List UInt8)} {x:List UInt8} (h:x∈jP f):x∈f:=(Eu _).subset h
theorem I5 (f:List (List UInt8)):(jP f).length≤f.length:=(Eu _).length_le
theorem KQ:∀ (ls:List (List UInt8)) (n:Nat) (r:Nat×List (List UInt8)),r∈gh n ls→n≤r.1∧r.1 < n+ls.length∧r.2≠[]∧∃ l∈ls,r.2=jP (bP [] l):=by
 intro ls
 induction ls with
 | nil=>intro n r h; cases h
 | cons a ls ih=>
   intro n r h;rw [gh] at h;rcases List.mem_append.1 h with h | h
   · unfold kf at h;split at h
     · cases h
     · simp only [gU] at h; subst h;exact ⟨by simp,by simp,by assumption,a,by simp,U⟩
   · obtain ⟨I,J,A,l,E,C⟩:=ih _ _ h;exact ⟨ab,by simp only [bA]; omega,A,l,by simp [E],C⟩
theorem KS {t:List UInt8} {r:Nat×List (List UInt8)} (h:r∈ee t):1≤r.1∧r.1≤t.length∧r.2≠[]∧r.2.length≤t.length+1∧∀ x∈r.2,x≠[]∧x.length≤t.length:=by
 obtain ⟨E,L,I,l,J,A⟩:=KQ _ _ _ h;have O:=sE t;have M:=AY J;refine ⟨E,ab,I,?_,fun x C=> ?_⟩
 · rw [A]; have :=I5 (bP [] l); have :=vz l []; omega
 · rw [A] at C;have :=An _ _ _<|I6 C;simp only [fk] at this;exact ⟨this.1,ab⟩
theorem BJ {w:ah} {B e:Nat} {v:ag} {l:List (List UInt8)} {x:List UInt8} (h:w.ownsRow B e 1 v (l.length+1) (l.map str++ [str x])):w.ownsRow B e 1 v (l++ [x]).length ((l++ [x]).map str):=by grind
abbrev Rw:Type :=Nat×List (List UInt8)
def xh (q:Nat×ag):List ag:= [.int .i64 q.1,q.2]
def mh (l:List (Nat×ag)):List ag:=l.flatMap xh
theorem Ld (a b:List (Nat×ag)):mh (a++b)=mh a++mh b:=by simp [mh]
theorem Le {l:List (Nat×ag)} (h:0 < l.length):mh l≠[]:=sd (f:=xh) (m:=2) (fun _=>rfl) aW h
def ET (h:Array Obj) (q:Nat×ag) (r:Rw):Prop :=q.1=r.1∧∃ fa A,q.2= .slice fa r.2.length A∧dN h fa r.2
def ES (h:Array Obj) (vs:List (Nat×ag)) (rs:List Rw):Prop :=vs.length=rs.length∧∀ (i:Nat) q r,vs[i]? =some q→rs[i]? =some r→ET h q r
theorem Lg {h:Array Obj} {ad:Option aG} {vs:List (Nat×ag)} {i:Nat} {q:Nat×ag} (A:bo h ad (mh vs)) (C:vs[i]? =some q):∀ j,j < 2→Hb.ay h (bk ad) (fo ad+i*2 +j)= [bT .i64 q.1,q.2][j]? :=
 pY (f:=xh) (m:=2) (fun _=>rfl) A C
def Tg (w:ah) (B e n:Nat) (v:ag) (xs:List ag):Prop :=
 ∃ a A,v= .slice a n A∧n≤A∧(xs= []∨∃ b cur z,a=some ⟨b,0,none⟩∧B≤b∧w.heap[b]? =some (.cells cur e z)∧∀ (j:Nat) u,xs[j]? =some u→cur[j]? =some u)
theorem Tg.wO {w:ah} {B e size n:Nat} {v:ag} {xs:List ag} (h:w.ownsRow B e size v n xs):Tg w B e n v xs:=by
 have h0:=h;rcases h.2 with ⟨rfl,rfl⟩ | ⟨g,cap,cur,rfl,hb,A,_,_,_,C⟩
 · exact ⟨none,0,U,aT _,.inl<|jx<|by simpa using h.1⟩
 · refine ⟨_,cap,U,(fO h0).1,.inr ⟨g,cur,_,U,hb,A,fun j u hu=> ?_⟩⟩;rw [← C,gr] at hu;split at hu
   · simpa using hu
   · cases hu
theorem Tg.cells {w:ah} {B e n:Nat} {v:ag} {xs:List ag} (h:Tg w B e n v xs):∃ a A,v= .slice a n A∧bo w.heap a xs:=by
 obtain ⟨a,A,rfl,_,h | ⟨b,cur,z,rfl,_,C,E⟩⟩:=h
 · subst h; exact ⟨a,A,rfl,bo.nil _ _⟩
 · refine ⟨_,A,U,fun _=>rfl,fun j u hu=> ?_⟩;show Hb.ay w.heap b (0 +j)=_;rw [cr,dg C]; exact E j u hu
theorem Tg.zj {w:ah} {B e n A:Nat} {a:Option aG} {xs:List ag} (h:Tg w B e n (.slice a n A) xs):n≤A∧bo w.heap a xs:=by
 obtain ⟨L,c',E,C,M⟩:=id h;obtain ⟨a2,c2,I,J⟩:=h.cells;cases E; cases I;exact ⟨C,J⟩
theorem Tg.slice {w:ah} {B e n:Nat} {v:ag} {xs:List ag} (h:Tg w B e n v xs):∃ a A,v= .slice a n A:=let ⟨a,A,hv,_⟩:=h; ⟨a,A,hv⟩
theorem Tg.md {F:Nat→Prop} {w w':ah} {B e n:Nat} {v:ag} {xs:List ag} (h:Tg w B e n v xs) (hm:Md F w w') (I:∀ k,F k→∀ cur z,w.heap[k]?≠some (.cells cur e z)):Tg w' B e n v xs:=by
 obtain ⟨a,C,rfl,E,h | ⟨b,cur,z,rfl,hb,A,L⟩⟩:=h
 · exact ⟨a,C,U,E,.inl h⟩
 · exact ⟨_,C,U,E,.inr ⟨b,cur,z,U,hb,by rw [hm.cP b (bJ.1 A).1 (fun J=>I b J cur z A)]; exact A,L⟩⟩
theorem Tg.wk {w w':ah} {B e n:Nat} {v:ag} {xs:List ag} (h:Tg w B e n v xs) (hm:Wk w w'):Tg w' B e n v xs:=h.md hm fun _ A=>A.elim
theorem Tg.clip {w:ah} {B e n k C A:Nat} {a:Option aG} {xs:List ag} (h:Tg w B e n (.slice a n C) xs) (E:k≤A):Tg w B e k (.slice a k A) (xs.take k):=by grind [Tg]
theorem sX {w:ah} {B e E size n:Nat} {v:ag} {xs:List ag} (h:w.ownsRow B e size v n xs) (J:e≠E):∀ k,v.ownBlock=some k→∀ cur z,w.heap[k]?≠some (.cells cur E z):=by
 intro k C cur z A;rcases h.2 with ⟨rfl,_⟩ | ⟨g,cap,L,rfl,_,I,_⟩
 · simp [cR] at C
 · simp only [cR,bp] at C;subst C;rw [I] at A;simp only [bp,DO] at A;exact J A.2.1
theorem FT {w:ah} {b e A:Nat} {cs:Array ag} {y:Nat×Nat} (h:w.heap[b]? =some (.cells cs e y)) (C:e≠A):∀ k,k=b→∀ cur z,w.heap[k]?≠some (.cells cur A z):=by grind
def e9 (w:ah) (B e:Nat) (vs:List (Nat×ag)) (rs:List Rw):Prop :=vs.length=rs.length∧∀ (i:Nat) q r,vs[i]? =some q→rs[i]? =some r→q.1=r.1∧Tg w B e r.2.length q.2 (r.2.map str)
theorem e9.nil (w:ah) (B e:Nat):e9 w B e [] []:=⟨rfl,fun i q r A=>by simp at A⟩
theorem e9.md {F:Nat→Prop} {w w':ah} {B e:Nat} {vs:List (Nat×ag)} {rs:List Rw} (h:e9 w B e vs rs) (hm:Md F w w') (E:∀ k,F k→∀ cur z,w.heap[k]?≠some (.cells cur e z)):e9 w' B e vs rs:=
 ⟨h.1,fun i q r A C=>⟨(h.2 i q r A C).1,(h.2 i q r A C).2.md hm E⟩⟩
theorem e9.wk {w w':ah} {B e:Nat} {vs:List (Nat×ag)} {rs:List Rw} (h:e9 w B e vs rs) (hm:Wk w w'):e9 w' B e vs rs:=h.md hm fun _ A=>A.elim
theorem e9.snoc {w:ah} {B e n:Nat} {vs:List (Nat×ag)} {rs:List Rw} {v:ag} {r:List (List UInt8)} (ha:e9 w B e vs rs) (I:Tg w B e r.length v (r.map str)):e9 w B e (vs++ [(n,v)]) (rs++ [(n,r)]):=by
 refine ⟨by rw [bB,bB,ha.1]; rfl,fun i q' r' A C=> ?_⟩;have E:=ha.1;by_cases hi:i < vs.length
 · rw [eW hi] at A;rw [eW ab] at C;exact ha.2 i q' r' A C
 · rw [eI ab] at A;rw [eI ab,← E] at C;cases hj:i - vs.length with
   | zero=>rw [hj] at A C; cases A; cases C; exact ⟨rfl,I⟩
   | succ j=>rw [hj] at A; simp at A
theorem Tg.mono {w:ah} {B B' e n:Nat} {v:ag} {xs:List ag} (h:Tg w B e n v xs) (A:B'≤B):Tg w B' e n v xs:=by grind [Tg]
theorem e9.mono {w:ah} {B B' e:Nat} {vs:List (Nat×ag)} {rs:List Rw} (h:e9 w B e vs rs) (E:B'≤B):e9 w B' e vs rs:=⟨h.1,fun i q r A C=>⟨(h.2 i q r A C).1,(h.2 i q r A C).2.mono E⟩⟩
theorem e9.all {w:ah} {B e:Nat} {vs:List (Nat×ag)} {rs:List Rw} (h:e9 w B e vs rs):ES w.heap vs rs:=by
 refine ⟨h.1,fun i q r C E=> ?_⟩;obtain ⟨I,J⟩:=h.2 i q r C E;obtain ⟨a,A,M,L⟩:=J.cells;exact ⟨I,a,A,M,L⟩
def fZ (b:UInt8):Bool:=decide (33≤b.toNat∧b.toNat≠127)
def jb (w:List UInt8):Bool:=w.all fZ
def cJ (w:List UInt8):Bool:=decide (1≤w.length∧w.length≤64∧jb w=true)
theorem iM {α:Type} {l:List α} {i:Nat} {d:α} (h:i < l.length):l.getD i d∈l:=by
 rw [cn,bR h]; exact List.getElem_mem h
theorem JO {α:Type} {l:List α} {x:α} (d:α) (h:x∈l):∃ i,i < l.length∧l.getD i d=x:=by
 obtain ⟨i,hi,rfl⟩:=List.mem_iff_getElem.1 h;exact ⟨i,hi,by rw [cn,bR hi]; rfl⟩
theorem yS {α:Type} {f:α→Bool} {l:List α} {i:Nat} (d:α) (h:i < l.length) (A:f (l.getD i d)=false):l.all f=false :=by
 rw [List.all_eq_false]; exact ⟨_,iM h,by rw [A]; exact dd⟩
theorem yT {α:Type} {f:α→Bool} {l:List α} (d:α) (h:∀ i,i < l.length→f (l.getD i d)=true):l.all f=true :=by
 rw [uk]; intro x A; obtain ⟨i,hi,rfl⟩:=JO d A; exact h i hi
theorem uS {w:List UInt8} {i:Nat} (h:i < w.length) (A:fZ (w.getD i 0)=false):jb w=false :=yS 0 h A
theorem uT {w:List UInt8} (h:∀ i,i < w.length→fZ (w.getD i 0)=true):jb w=true :=yT 0 h
def iK (b:UInt8):Bool:=decide (b.toNat=92∨b.toNat=47∨b.toNat=35)
abbrev rD:Type :=List UInt8×List UInt8×Bool×Nat
def KC (r:rD):ag:= .tuple #[str r.1,str r.2.1,.bool r.2.2.1,.int .i64 r.2.2.2]
def dA:List UInt8→List UInt8→rD
 | acc,[]=>(acc,[],false,0)
 | acc,[b]=>if b.toNat=47 then (acc,[],true,0) else if b.toNat=92 then ([],[],false,20) else (acc++ [b],[],false,0)
 | acc,b::c::l=>if b.toNat=47 then (acc,c::l,true,0) else if b.toNat=92 then (if iK c=true then dA (acc++ [c]) l else ([],[],false,20)) else dA (acc++ [b]) (c::l)
theorem tO (acc:List UInt8):dA acc []=(acc,[],false,0):=by simp [dA]
theorem yb {acc l:List UInt8} {b:UInt8} (h:b.toNat=47):dA acc (b::l)=(acc,l,true,0):=by
 cases l <;> simp [dA,h]
theorem x9 {acc:List UInt8} {b:UInt8} (h:b.toNat=92):dA acc [b]=([],[],false,20):=by simp [dA,h]
theorem ya {acc l:List UInt8} {b c:UInt8} (h:b.toNat=92) (A:iK c=false):dA acc (b::c::l)=([],[],false,20):=by simp [dA,h,A]
theorem tM {acc l:List UInt8} {b c:UInt8} (h:b.toNat=92) (A:iK c=true):dA acc (b::c::l)=dA (acc++ [c]) l:=by simp [dA,h,A]
theorem tN {acc l:List UInt8} {b:UInt8} (h:¬b.toNat=47) (A:¬b.toNat=92):dA acc (b::l)=dA (acc++ [b]) l:=by
 cases l <;> simp [dA,h,A]
theorem Nh (n:Nat):∀ (l acc:List UInt8),l.length≤n→(dA acc l).1.length≤acc.length+l.length∧(dA acc l).2.1.length≤l.length:=by
 induction n with
 | zero=>intro l acc h; obtain rfl :=jx (by omega :l.length=0); rw [tO]; exact ⟨by simp,by simp⟩
 | succ n ih=>
   intro l acc h;cases l with
   | nil=>rw [tO]; exact ⟨by simp,by simp⟩
   | cons b l=>
     simp only [bA] at h ⊢;by_cases C:b.toNat=47
     · rw [yb C]; exact ⟨by simp only; omega,by simp only; omega⟩
     · by_cases A:b.toNat=92
       · cases l with
         | nil=>rw [x9 A]; exact ⟨by simp,by simp⟩
         | cons c l=>
           simp only [bA] at h ⊢;cases hc:iK c
           · rw [ya A hc]; exact ⟨by simp,by simp⟩
           · rw [tM A hc];have :=ih l (acc++ [c]) ab;rw [bB,fE] at this;omega
       · rw [tN C A];have :=ih l (acc++ [b]) ab;rw [bB,fE] at this;omega
def ju (f:List UInt8):rD:=dA [] f
theorem Nk (f:List UInt8):(ju f).1.length≤f.length∧(ju f).2.1.length≤f.length:=by
 have :=Nh f.length f []<|aT _;simpa [ju] using this
def dw (w:List UInt8):List UInt8:=w.flatMap fun b=>if iK b=true then [92,b] else [b]
theorem De {w:List UInt8} {i:Nat} (h:i < w.length):dw (w.take<|i+1)=dw (w.take i)++(if iK (w.getD i 0)=true then [92,w.getD i 0] else [w.getD i 0]):=by
 rw [o7 w i 0 h]; simp [dw]
theorem tP (w:List UInt8):(dw w).length≤2 *w.length:=by
 induction w with
 | nil=>simp [dw]
 | cons b w ih=>
   have h:dw (b::w)=(if iK b=true then [92,b] else [b])++dw w:=rfl;rw [h,bB,bA];split <;> simp only [bA,fk] <;> omega
def lets (s:List UInt8):List UInt8:=s.foldl (fun a b=>if b∈a then a else a++ [b]) []
def letE (s:List UInt8):List UInt8×Nat:=if s= []∨jb s=false then ([],21) else (lets s,0)
theorem sD {s:List UInt8} {i:Nat} (h:i < s.length):lets (s.take<|i+1)=if s.getD i 0∈lets (s.take i) then lets (s.take i) else lets (s.take i)++ [s.getD i 0]:=by
 unfold lets;rw [o7 s i 0 h,List.foldl_append]; rfl
theorem AX (s:List UInt8):(lets s).length≤s.length:=by
 have key:∀ (s a:List UInt8),(s.foldl (fun a b=>if b∈a then a else a++ [b]) a).length≤a.length+s.length:=by
  intro s
  induction s with
  | nil=>intro a; simp
  | cons b s ih=>
    intro a;rw [q9,bA];split
    · have :=ih a; omega
    · have :=ih (a++ [b]); rw [bB,fE] at this; omega
 have :=key s [];simpa [lets] using this
def marksOf (a:List UInt8):List ag:=(lH 256).map fun k=> .bool<|decide (eK k∈a)
theorem Bh (a:List UInt8):(marksOf a).length=256:=by simp [marksOf]
theorem JI (a:List UInt8) (b:UInt8):(marksOf a)[b.toNat]? =some (.bool<|decide (b∈a)):=by
 have :=pJ b;unfold marksOf;rw [eJ,uo ab];simp
theorem JK (a:List UInt8) (b:UInt8):(marksOf a).set b.toNat (.bool true)=marksOf (a++ [b]):=by
 apply um;intro k;rw [List.getElem?_set,Bh];unfold marksOf;rw [eJ,eJ];by_cases C:k < 256
 · rw [uo C];simp only [dJ];have he:(eK k=b)↔b.toNat=k:=by
    constructor
    · rintro rfl; simp; omega
    · rintro rfl; simp
   by_cases h:b.toNat=k
   · have A:=he.2 h;simp [h,C,A]
   · have A:¬eK k=b:=fun e=>h<|he.1 e;simp [h,A]
 · have :(lH 256)[k]? =none:=nU<|by simp; omega
   have hb:=pJ b;rw [this];simp; omega
theorem JJ:marksOf []=eB 256 (.bool false):=by
 unfold marksOf;apply um;intro k;rw [eJ,List.getElem?_replicate];by_cases A:k < 256
 · rw [uo A]; simp [A]
 · rw [nU (by simp; omega)]; simp [A]
theorem Bd.new {T e b:Nat} {w:ah} (h:w.heap[b]? =some (.cells [uf none,.slice none 0 0].toArray T (0,0))):Bd T e w b (.slice none 0 0) []:=
 ⟨⟨none,h,.inl rfl⟩,iz _ _ _ _,by simp⟩
theorem Bd.step {T e b:Nat} {w0 w w':ah} {A:ag} {l:List UInt8} (h:Bd T e w b A l) (C:Wk w0 w) (E:Md (BF b A) w w') (hb:w0.heap.size≤b):Wk w0 w':=
 Md.trans' C E fun k J I=>by have :=h.se I; omega
theorem Bd.qK {T e b:Nat} {w0 w w':ah} {A:ag} {l:List UInt8} (h:Bd T e w b A l) (C:Wk w0 w) (E:Md (fun k=>A.ownBlock=some k) w w') (hb:w0.heap.size≤b):Wk w0 w':=
 Md.trans' C E fun k J I=>by have :=h.se (.inr I); omega
end Go.Hb
section
namespace Go.Hb
def lO (P:an) (t:ak):Option (Nat×Nat):=
 match P.underlying t with
 | some (.array n e)=>(P.info? e).map fun i=>(n,i.size)
 | _=>none
section
variable {P:an} {N:Fm} {σ:Nat→ag} {w:ah} {dst:Option Nat} {ty:ak} {pos :String} {af:Array bM} {g:Option (Nat×Bool)} {x y:aO}
theorem p7 {t n A b off :Nat} {k:bu} {i:Int} (he:lO P t=some (n,A)) (C:ev N σ x= .pointer (some ⟨b,off,none⟩)) (E:ev N σ y= .int k i) (h0:0≤i∧i < n):
 (execOp (ev N σ) ⟨dst,.indexAddr t x y,ty,pos,af,g⟩).run P w= .ok (.value<|.pointer<|some ⟨b,off+i.toNat*A,none⟩) w:=by
 unfold lO at he;cases hd:P.underlying t with
 | none=>rw [hd] at he; cases he
 | some d=>
   rw [hd] at he;cases d <;> first | (cases he; done) | skip
   rename_i m e;cases hi:P.info? e with
   | none=>simp [hi] at he
   | some j=>
     simp only [hi,dJ,bp,kK] at he;obtain ⟨rfl,rfl⟩:=he;simp [execOp,DF,pw,C,E,asIntOf,bh hd,h0.1,h0.2,sizeOf,di hi,dO]
end
theorem JL {h:Array Obj} {b:Nat} {a:List UInt8} (A:aI h b (marksOf a)) (c:UInt8):Hb.ay h b (0 +((c.toNat:Nat):Int).toNat*1)=some (.bool<|decide (c∈a)):=by
 rw [A.ay,show 0 +((c.toNat:Nat):Int).toNat*1=c.toNat from by omega]; exact JI a c
theorem JM {h:Array Obj} {b:Nat} {a:List UInt8} {c:UInt8} (A:aI h b ((marksOf a).set (0 +((c.toNat:Nat):Int).toNat*1)<|.bool true)):aI h b (marksOf<|a++ [c]):=by
 rw [show 0 +((c.toNat:Nat):Int).toNat*1=c.toNat from by omega,JK] at A; exact A
end Go.Hb
end
