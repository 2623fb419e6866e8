/-
  Walks and plain laws that the law rests on, laid together. No conditions but those that each theorem names.
-/
import Derived.WalkKit
import Derived.OrdersHeld
import Derived.TacticsIn
import Derived.Lib.Strings
import Derived.Lib.UnsafeStr
import Derived.Laws.MakeOwn
import Derived.Laws.StructEq
import Derived.SliceStrings
import Derived.Carry
import Derived.JoinedCond
import Derived.ProofKit
import Derived.OpenShut
import Derived.Test.YtbogmhohloohhaaGreatDoorRows
import Derived.Test.YtbogmhohloohhaaGreatDoorChecked
import Derived.Maps.RangeRun
import Derived.Laws.OwnMore
import Derived.Lib.SliceRun
import Derived.RangeFuncFrom
import Derived.RangeFuncLeaves
import Derived.Recover
import Derived.OrdersIn
import Derived.Lib.Bytealg
import Derived.Lib.FrozenHead
import Derived.Deep.AppendSrc
import Derived.RangeFuncNested
import Derived.Stop.LaidErr
import Derived.Shelf.Slices.In.SortAlone
import Derived.Shelf.Slices.In.SortNone
import Derived.Sort.OwnSorted
import Derived.Sort.EveryDepth
set_option linter.unusedVariables false
set_option maxRecDepth 20000
set_option maxHeartbeats 1000000
open Array renaming ext_getElem?→rz,getD_eq_getD_getElem?→gU,getElem?_eq_getElem→mh,getElem?_eq_none→rA,getElem?_eq_some_iff→bI,getElem?_setIfInBounds→pb,mem_toList_iff→rD,range→kf,replicate→nN,setIfInBounds_comm→vB,toArray_toList→vC,toList_append→AY,toList_filter→nO,toList_inj→rE,toList_map→gv
open BitVec renaming ofInt→gw
open Bool renaming and_eq_true→aU,and_eq_true_iff→nP,eq_iff_iff→kT,false_eq_true→pd,noConfusion→dn,not_eq_true'→jy,or_eq_true→ml
open Go renaming Addr→aD,Code→bG,Edge→bB,Exit→aK,FuncId→dq,IntKind→bc,Oper→aq,Operand→az,Program→ak,TypeId→aj,Value→ab,World→ah
open Go.Addr renaming add→rG
open Go.Builtin renaming append_→iQ,firstCells→rI,lenOf→A2,len_→vE
open Go.ByteArray renaming toList_eq→A4
open Go.Calls renaming mono→gy
open Go.Conv renaming bytesToString→A8,seenAt→A9,unsafePointer→Ba
open Go.DataW renaming TrodAll→Bb,trod→pf
open Go.Deferred renaming ofValue→kg
open Go.Fence renaming wide→eC
open Go.Instr renaming alloc→rJ,buildSlice→rK,checkKey→jz,fill→iw,findAsking→mm,findKey→mo,findNow→mq,indexAt→Bg,keyThatStays→ph,loadAt→Bh,lookup→Bi,sameBits→Bj,sameNow→rL,slice→pj,sliceAt→mr,sliceBound→mu,sliceBounds→jA,storeAt→Bk,sureAddr→nS
open Go.IntKind renaming i64→rM
open Go.Lib renaming run_append_own_string→Bo
open Go.Next renaming value→pk
open Go.Op renaming bytesLess→vF,equal→kU,equalIn→gC,intArith→pn,intCmp→nV,intDiv→vG,stringOp→my
open Go.Oper renaming upon→gD,uponIn→nW,wp→fv
open Go.Program renaming built→Bq
open Go.Proofs.Tryz renaming prog→an
open Go.Region renaming Mode→mz,binds→c9,free_spec→vH,noSelect_spec→vI,ready→dB,wanted→jB
open Go.Result renaming andThen_ok→fw,ok→pq
open Go.Sem renaming run_bind→fT,run_ite→pv,run_pure→iS
open Go.Value renaming bool→bM,cells→pw,int→cW,oneCell'→jC,ownBlock→cG,pointer→rN,slice→eJ
open Go.Value.slice renaming injEq→kV
open Go.Value.string renaming inj→Bs
open Go.World renaming cell?→Bu,cells?_some→Bv,freeze→kh,ownsRow_nil→jD,setCell→rP,shape?→vK
open Int renaming tdiv_eq_ediv_of_nonneg→By
open List renaming all_cons→rQ,all_eq_true→BB,any_eq_true→BD,eq_nil_of_length_eq_zero→iU,ext_getElem?→pz,filter_cons→rS,filter_eq_self→BI,flatMap_cons→BJ,flatten_cons→nX,foldl_cons→pB,getD_eq_getElem?_getD→cH,getElem?_append_left→fy,getElem?_append_right→fA,getElem?_cons_succ→fU,getElem?_cons_zero→fV,getElem?_eq_getElem→bW,getElem?_eq_none→mB,getElem?_eq_some_iff→cy,getElem?_map→eX,getElem?_range→rU,getElem?_take→gW,length_append→bK,length_cons→bZ,length_range→BQ,length_singleton→gY,map_append→mC,map_cons→da,map_map→rX,mem_append→eL,mem_append_left→vS,mem_append_right→BS,mem_cons→db,mem_iff_getElem?→rY,mem_map→dO,mem_map_of_mem→mD,mem_of_getElem?→jF,mem_singleton→iW,nil_append→r8,nodup_append→BW,nodup_cons→mE,range→kj,replicate→dT,size_toArray→dP,zipIdx_cons→B8
open List.cons renaming inj→rR
open Nat renaming add_assoc→eY,beq→aB,ble→aG,blt→au,div_add_mod→Ca,eq_of_beq_eq_true→bF,le_of_ble_eq_true→bp,le_refl→aO,le_trans→bX,lt_of_le_of_lt→Cb,lt_of_lt_of_le→k9,lt_or_ge→dU,lt_succ_self→kn,mul_comm→pH,succ_mul→n5,zero_add→bS,zero_mul→n7
open Option renaming bind_eq_some_iff→pK,bind_some→Ch,isSome_iff_exists→pL,map_eq_some_iff→fB,map_some→dg
open Option.some renaming inj→et,injEq→aY
open Prod renaming fst→bN,snd→lf
open Prod.mk renaming injEq→jG
open UInt8 renaming ofNat→ee,toNat_lt→n9
open Go.Proofs.Tryz
open Go.RowKit

namespace Go.Hb
theorem ag {p:Prop} (h:p:=by omega):p:=h
theorem ai {p:Prop} (h:p:=by kernel_rfl):p:=h
theorem aP {p:Prop} (h:p:=by decide):p:=h
theorem U {α:Sort _} {a:α} :a=a:=rfl
end Go.Hb
section
namespace Go.Hb
structure Fm where
 n:Nat
 D:List Deferred
 F:List Nat
 r:Option Nat
def aI (σ:Nat→ab) (d:Nat) (v:ab):Nat→ab:=fun i=>cond (aB i d) v<|σ i
def bV (σ:Nat→ab):Option Nat→ab→Nat→ab
 | some d,v=>aI σ d v
 | none,_=>σ
def act (N:Fm) (σ:Nat→ab):Act:=⟨((kj N.n).map σ).toArray,N.D⟩
def ev (N:Fm) (σ:Nat→ab):az→ab
 | .tmp t=>cond (au t N.n) (σ t) undef
 | .const v=>v
 | .global g=> .pointer<|some ⟨g,0,none⟩
 | .func f=> .func (.func f) #[] #[]
theorem hH (N:Fm) (σ:Nat→ab) (t:Nat):(act N σ).tmps[t]? =if t < N.n then some (σ t) else none:=by grind [act]
theorem cK (N:Fm) (σ:Nat→ab):(act N σ).eval=ev N σ:=by
 funext x;cases x with
 | tmp t=>
   simp only [Act.eval,ev,gU,hH];by_cases h:t < N.n
   · rw [if_pos h,show au t N.n=true from by simpa using h]; rfl
   · rw [if_neg h,show au t N.n=false from by cases hx:au t N.n <;> simp_all [au,Nat.ble_eq] <;> omega]; rfl
 | _=>rfl
theorem pO {a b:Act} (A:a.defers=b.defers) (C:∀ i:Nat,a.tmps[i]? =b.tmps[i]?):a=b:=by
 cases a; cases b;simp only at A C;subst A;congr 1;exact rz C
theorem dV (N:Fm) (σ:Nat→ab) (dst:Option Nat) (v:ab):(act N σ).put dst v=act N (bV σ dst v):=by
 cases dst with
 | none=>rfl
 | some d=>
   refine pO U fun i=> ?_;have h0:((act N σ).put (some d) v).tmps=(act N σ).tmps.setIfInBounds d v:=rfl;rw [h0,pb,hH,hH];have C:(act N σ).tmps.size=N.n:=by simp [act]
   simp only [bV,aI];by_cases A:i=d
   · subst A;rw [C];have hb:aB i i=true :=by simp
     by_cases h:i < N.n
     · rw [if_pos rfl,if_pos h,if_pos h,hb]; rfl
     · rw [if_pos rfl,if_neg h,if_neg h]
   · rw [if_neg (fun e=>A e.symm)];have hb:aB i d=false :=by
      cases hx:aB i d
      · rfl
      · exact absurd (bF hx) A
     rw [hb]; rfl
theorem mb {σ:Nat→ab} {i:Nat} {v:ab} (h:σ i=v):aI σ i v=σ:=by grind [aI,aB,bF]
def lift (N:Fm) (Q:aK→(Nat→ab)→ah→Prop):aK→Act→ah→Prop
 | .panic c,a,w=> ∃ σ,a=act N σ∧∀ σ',(∀ i∈N.F,σ' i=σ i)→Q (.panic c) σ' w
 | .outgrown,_,_=>False
 | e,a,w=> ∃ σ,a=act N σ∧Q e σ w
def fe:Option Nat→Fence
 | none=>eC
 | some l=>eC.inRound l
theorem lD (r:Option Nat):(fe r).round=r:=by cases r <;> rfl
theorem je (r:Option Nat) (f:dq):(fe r).fn f:=by cases r <;> trivial
theorem lB (r:Option Nat):(fe r).depth=none:=by cases r <;> rfl
theorem qf {r:Option Nat} {n:Nat} {P:ak} {f:dq} {args:Array ab} {w:ah} {R:Ending→ah→Prop} (h:Calls P f args w R):CallsIn (fe r) n P f args w R:=by
 cases r
 · exact callsIn_wide.2 h
 · exact (callsIn_wide (n:=n)).2 h
theorem xY {r:Option Nat} {n:Nat} {P:ak} {row:String} {args:Array ab} {w:ah} {R:ab→ah→Prop} (h:Rows P row args w R):RowsIn (fe r) n P row args w R:=fun c cs _=>by
 obtain ⟨v,w',C,A⟩:=h c cs;refine ⟨v,w',C,?_⟩;cases r
 · exact stepsIn_wide.2 A
 · exact stepsIn_wide.2 A
def ub (ops:List aq):Bool:=ops.all fun o=>match o.op with | .defer _=>false | _=>true
def jo (r:Option Nat) (ops:List aq):Bool:=match r with | none=>true | some _=>ub ops
theorem Gu {l:List aq} (h:ub l=true):∀ o∈l,∀ c,o.op≠.defer c:=by grind [ub]
theorem tF {r:Option Nat} {P:ak} {ops:Array aq} {Q:aK→Act→ah→Prop} (A:¬LetsOut Q) (hr:jo r ops.toList=true):∀ (l:List Nat) (a:Act) (w:ah),wpOps P ops Q l a w→wpOpsIn (fe r) 0 P ops Q l a w:=by
 intro l
 induction l with
 | nil=>exact fun _ _ h=>h
 | cons i l ih=>
   intro a w h;simp only [wpOps] at h;simp only [wpOpsIn];cases ho:ops[i]? with
   | none=>simp only [ho] at h ⊢; exact ih a w h
   | some o=>
     simp only [ho] at h ⊢;by_cases hw:jB o (yielded ops a.tmps)=true
     · rw [if_pos hw] at h ⊢;rcases h with h | h
       · refine ⟨fun f _=>je r f,?_⟩;rw [lD];have C:o.semAt r a.eval=execOp a.eval o:=by
          cases r with
          | none=>rfl
          | some k=>exact Oper.semAt_eq _ _ _<|Gu hr o<|rD.2<|Array.mem_of_getElem? ho
         rw [C];unfold fv at h;generalize (execOp a.eval o).run P w=x at h;cases x with
         | ok n w'=>
           cases n <;> simp only [gD,nW] at h ⊢ <;>
            first
             | exact ih _ _ h
             | (refine ⟨fun h0=>(by rw [lB] at h0; cases h0),CallsIn.mono (qf h) fun e w'' he=> ?_⟩
                cases e <;> first | exact ih _ _ he | exact he)
             | exact ⟨fun h0=>(by rw [lB] at h0; cases h0),RowsIn.mono (xY h) fun v w'' he=>ih _ _ he⟩
         | halt x w'=>cases x <;> simp only [gD,nW] at h ⊢ <;> exact h
       · exact absurd h.2 A
     · rw [if_neg hw] at h ⊢;exact ⟨fun f _=>je r f,ih _ _ h⟩
def ba (P:ak) (N:Fm) (c:bG) (Q:aK→(Nat→ab)→ah→Prop) (σ:Nat→ab) (w:ah):Prop :=
 c.wpIn (fe N.r) 0 P (lift N Q) (act N σ) w
def bz (P:ak) (N:Fm) (ops:Array aq) (Q:aK→(Nat→ab)→ah→Prop) (l:List aq) (σ:Nat→ab) (w:ah):Prop :=
 wpList P ops (lift N Q) l (act N σ) w
def fN (K:(Nat→ab)→ah→Prop) (Q:aK→(Nat→ab)→ah→Prop):aK→(Nat→ab)→ah→Prop
 | .normal,σ,w=>K σ w
 | e,σ,w=>Q e σ w
def jU (id:Nat) (Q:aK→(Nat→ab)→ah→Prop):aK→(Nat→ab)→ah→Prop
 | .exit A,σ,w=>if A=id then Q .normal σ w else Q (.exit A) σ w
 | e,σ,w=>Q e σ w
section
variable {P:ak} {N:Fm} {Q:aK→(Nat→ab)→ah→Prop} {σ:Nat→ab} {w:ah} {K:(Nat→ab)→ah→Prop}
theorem FX {Q C:aK→(Nat→ab)→ah→Prop} (h:∀ e σ w,Q e σ w→C e σ w) (e:aK) (a:Act) (w:ah):lift N Q e a w→lift N C e a w:=by
 cases e <;> first | exact fun h=>h.elim | exact fun ⟨σ,ha,A⟩=>⟨σ,ha,h _ _ _ A⟩ | exact fun ⟨σ,ha,A⟩=>⟨σ,ha,fun σ' E=>h _ _ _<|A σ' E⟩
theorem AL {A:aK→(Nat→ab)→ah→Prop} {c:bG} (h:∀ e σ w,Q e σ w→A e σ w) (C:ba P N c Q σ w):ba P N c A σ w:=
 wpIn_mono C (FX h)
theorem tn (h:K σ w):fN K Q .normal σ w:=h
theorem te (id:Nat) (h:Q (.exit id) σ w):fN K Q (.exit id) σ w:=h
theorem tr (h:Q .ret σ w):fN K Q .ret σ w:=h
theorem bn {id:Nat} (h:Q .normal σ w):jU id Q .normal σ w:=h
theorem be {id:Nat} (h:Q .normal σ w):jU id Q (.exit id) σ w:=by simpa only [jU,if_true] using h
theorem CS {id A:Nat} (C:A≠id) (h:Q (.exit A) σ w):jU id Q (.exit A) σ w:=by simpa only [jU,if_neg C] using h
theorem br {id:Nat} (h:Q .ret σ w):jU id Q .ret σ w:=h
theorem sq {x y:bG} (h:∀ K:(Nat→ab)→ah→Prop,(∀ σ w,ba P N y Q σ w→K σ w)→ba P N x (fN K Q) σ w):ba P N (.seq x y) Q σ w:=by
 refine wpIn_seq<|wpIn_mono (h (fun σ w=>ba P N y Q σ w) fun _ _ h=>h) ?_;intro e a w A;cases e with
 | normal=>obtain ⟨σ,rfl,C⟩:=A; exact C
 | panic c=>exact A
 | outgrown=>exact A
 | _=>obtain ⟨σ,rfl,C⟩:=A; exact ⟨σ,rfl,C⟩
theorem o3 {x y:bG} (A:(Nat→ab)→ah→Prop) (h:ba P N x (fN A Q) σ w) (I:∀ σ w,A σ w→ba P N y Q σ w):ba P N (.seq x y) Q σ w:=
 sq fun _ E=>AL (fun e _ _ C=>by cases e <;> first | exact E _ _ (I _ _ C) | exact C) h
theorem ct {c:az} {x y:bG} (A:ev N σ c= .bool true) (h:ba P N x Q σ w):ba P N (.cond c x y) Q σ w:=
 wpIn_cond_true (by rw [cK]; exact A) h
theorem cf {c:az} {x y:bG} (A:ev N σ c= .bool false) (h:ba P N y Q σ w):ba P N (.cond c x y) Q σ w:=
 wpIn_cond_false (by rw [cK]; exact A) h
theorem cb {c:az} {x y:bG} {b:Bool} (A:ev N σ c= .bool b) (E:b=true→ba P N x Q σ w) (C:b=false→ba P N y Q σ w):ba P N (.cond c x y) Q σ w:=by
 cases b
 · exact cf A<|C U
 · exact ct A<|E U
theorem cd {c:az} {x y:bG} {p:Prop} [Decidable p] (A:ev N σ c= .bool (decide p)) (E:p→ba P N x Q σ w) (C:¬p→ba P N y Q σ w):ba P N (.cond c x y) Q σ w:=by grind [cb]
theorem ao {id:Nat} {c:bG} (h:ba P N c (jU id Q) σ w):ba P N (.block id c) Q σ w:=by
 refine wpIn_block<|wpIn_mono h ?_;intro e a w C;cases e with
 | panic c=>exact C
 | outgrown=>exact C
 | exit E=>
   obtain ⟨σ,rfl,A⟩:=C;simp only [jU,Exit.inBlock] at A ⊢;split
   · rename_i e; rw [if_pos e] at A; exact ⟨σ,rfl,A⟩
   · rename_i e; rw [if_neg e] at A; exact ⟨σ,rfl,A⟩
 | _=>obtain ⟨σ,rfl,A⟩:=C; exact ⟨σ,rfl,A⟩
theorem ext {id:Nat} (h:Q (.exit id) σ w):ba P N (.exit id) Q σ w:=wpIn_exit ⟨σ,rfl,h⟩
theorem zX (h:Q .normal σ w):ba P N .skip Q σ w:=wpIn_skip ⟨σ,rfl,h⟩
theorem rt (h:Q .ret σ w):ba P N .ret Q σ w:=wpIn_ret ⟨σ,rfl,h⟩
def Sl (σ:Nat→ab) (L:List (Nat×ab)):Prop :=L.map (fun p=>σ p.1)=L.map (fun p=>p.2)
def o5 (σ:Nat→ab):List (Nat×ab)→Nat→ab
 | []=>σ
 | p::L=>aI (o5 σ L) p.1 p.2
theorem vf {σ:Nat→ab} :∀ {L:List (Nat×ab)},Sl σ L→o5 σ L=σ
 | [],_=>rfl
 | p::L,h=>by
   have A:σ p.1=p.2:=(rR h).1;have C:Sl σ L:=(rR h).2;rw [o5,vf C,mb A]
theorem dw {c:bG} {L:List (Nat×ab)} (h:Sl σ L) (A:ba P N c Q (o5 σ L) w):ba P N c Q σ w:=by rw [vf h] at A; exact A
theorem lp {c:bG} (L:Nat→(Nat→ab)→ah→Prop) (n:Nat) (h0:L n σ w)
 (h:∀ n σ w,L n σ w→ba P N c (fN (fun σ' w'=> ∃ m,m < n∧L m σ' w') Q) σ w):ba P N (.loop c) Q σ w:=by
 intro b k cs ai hb hr;have key:∀ n σ w,L n σ w→
  ∃ e M w',lift N Q e M w'∧ArrivesIn (Machine.fenced P<|fe N.r) P (lone (b.atR (act N σ) (.code c:: .inLoop c::k)) cs w) b k cs e M w':=by
  intro n
  induction n using Nat.strongRecOn with
  | _ n ih=>
    intro σ w ac;obtain ⟨e,O,J,I,C⟩:=h n σ w ac b (.inLoop c::k) cs ai hb hr;cases e with
    | normal=>
      obtain ⟨A,rfl,m,hm,ad⟩:=I;obtain ⟨aa,V,aj,ag,ae⟩:=ih m hm A J ad;exact ⟨aa,V,aj,ag,.of_steps (StepsIn.trans C<|.one (fenced_calm hb hr U) stepR_inLoop) ae⟩
    | exit id=>obtain ⟨A,rfl,E⟩:=I; exact ⟨.exit id,act N A,J,⟨A,rfl,E⟩,.pass (x:= .inLoop c) rfl (fun _ _=> .inl<|by simp) C⟩
    | goto l=>obtain ⟨A,rfl,E⟩:=I; exact ⟨.goto l,act N A,J,⟨A,rfl,E⟩,.pass (x:= .inLoop c) rfl (fun _ _=> .inl<|by simp) C⟩
    | ret=>obtain ⟨A,rfl,E⟩:=I; exact ⟨.ret,act N A,J,⟨A,rfl,E⟩,.pass (x:= .inLoop c) rfl (fun _ _=> .inl<|by simp) C⟩
    | panic Z=>exact ⟨.panic Z,O,J,I,.pass (x:= .inLoop c) rfl (fun _ _=> .inl<|by simp) C⟩
    | outgrown=>exact I.elim
 obtain ⟨e,M,w',E,C⟩:=key _ σ w h0;exact ⟨e,M,w',E,.of_steps (.one (fenced_calm hb hr U) stepR_loop) C⟩
def bq (P:ak) (N:Fm) (o:aq) (σ:Nat→ab) (w:ah) (K:(Nat→ab)→ah→Prop):Prop :=
 fv P o (act N σ) w (fun a w=> ∃ σ,a=act N σ∧K σ w) (fun _ _ _=>False)
theorem I5 {o:aq} {a:Act} {K C:Act→ah→Prop} {Q:aK→Act→ah→Prop} (h:∀ a w,K a w→C a w)
 (r:Result Next) (A:o.upon P a K (fun _ _ _=>False) r):o.upon P a C Q r:=by
 cases r with
 | ok n w'=>
   cases n <;> simp only [gD] at A ⊢ <;>
    first
     | exact h _ _ A
     | exact gy A (fun e w'' he=>by
      cases e with
      | returned v=>exact h _ _ he
      | panicked c=>exact he.elim
      | outgrown=>obtain ⟨_,_,E⟩:=he; exact E.elim)
     | exact Rows.mono A fun _ _ he=>h _ _ he
 | halt x w'=>cases x <;> simp only [gD] at A ⊢
theorem o6 {K:(Nat→ab)→ah→Prop} {A:Act→ah→Prop} {Q:aK→Act→ah→Prop} {o:aq} (h:bq P N o σ w K) (E:∀ σ w,K σ w→A (act N σ) w):o.wp P (act N σ) w A Q:=by
 unfold bq at h;unfold fv at*;exact I5 (fun a w ⟨σ,ha,C⟩=>by subst ha; exact E _ _ C) _ h
theorem AN {K A:(Nat→ab)→ah→Prop} {o:aq} (h:bq P N o σ w K) (E:∀ σ w,K σ w→A σ w):bq P N o σ w A:=
 o6 h (fun σ w C=>⟨σ,rfl,E σ w C⟩)
variable {ops:Array aq} {rest:List aq} {d:Nat} {op:Op} {ty:aj} {pos :String} {af:Array bB} {d':Option Nat} {v:ab} {o:aq}
theorem ru (A:jB o (yielded ops (act N σ).tmps)=true) (h:bq P N o σ w (fun σ w=>bz P N ops Q rest σ w)):bz P N ops Q (o::rest) σ w:=by
 unfold bz wpList;rw [if_pos A];exact .inl<|o6 h fun _ _ C=>C
theorem gu {K:(Nat→ab)→ah→Prop} {w':ah} (hr:(execOp (ev N σ) o).run P w= .ok (.value v) w') (A:K (bV σ o.dst v) w'):bq P N o σ w K:=by
 unfold bq fv;rw [cK,hr];exact ⟨_,dV ..,A⟩
theorem eB (o:aq) (A:o.guard=none) (y:Nat→Option Bool):jB o y=true :=by simp [jB,A]
def di (ops:Array aq) (j:Nat):Option Nat:=(ops[j]?).bind (·.dst)
theorem kR {j t:Nat} {want b:Bool} (E:o.guard=some (j,want)) (A:di ops j=some t) (I:au t N.n=true) (J:σ t= .bool b):
 jB o (yielded ops (act N σ).tmps)=(b==want):=by
 have C:yielded ops (act N σ).tmps j=some b:=by
  unfold yielded;unfold di at A;rw [A];simp only [Ch,hH];rw [if_pos (k9 (kn t)<|bp I),J]
 simp only [jB,E,C];cases b <;> cases want <;> rfl
theorem vp {j t:Nat} {want:Bool} (E:o.guard=some (j,want)) (A:di ops j=some t) (I:au t N.n=true) (J:σ t=undef):
 jB o (yielded ops (act N σ).tmps)=false :=by
 have C:yielded ops (act N σ).tmps j=none:=by
  unfold yielded;unfold di at A;rw [A];simp only [Ch,hH];rw [if_pos (k9 (kn t)<|bp I),J]; rfl
 simp only [jB,E,C];rfl
theorem p (h:(execOp (ev N σ) ⟨some d,op,ty,pos,af,none⟩).run P w= .ok (.value v) w) (k:bz P N ops Q rest (aI σ d v) w):
 bz P N ops Q (⟨some d,op,ty,pos,af,none⟩::rest) σ w:=
 ru (eB _ rfl _) (gu h k)
theorem pg {j t:Nat} {want:Bool} (A:di ops j=some t) (C:au t N.n=true) (E:σ t= .bool want)
 (h:(execOp (ev N σ) ⟨some d,op,ty,pos,af,some (j,want)⟩).run P w= .ok (.value v) w) (k:bz P N ops Q rest (aI σ d v) w):
 bz P N ops Q (⟨some d,op,ty,pos,af,some (j,want)⟩::rest) σ w:=
 ru (by rw [kR rfl A C E]; cases want <;> rfl) (gu h k)
theorem sk {j t:Nat} {want b:Bool} (A:di ops j=some t) (C:au t N.n=true) (E:σ t= .bool b) (hb:(b==want)=false)
 (k:bz P N ops Q rest (aI σ d undef) w):bz P N ops Q (⟨some d,op,ty,pos,af,some (j,want)⟩::rest) σ w:=by
 unfold bz wpList;rw [if_neg (by rw [kR rfl A C E,hb]; simp),dV];exact k
theorem zY {j t:Nat} {want:Bool} (A:di ops j=some t) (C:au t N.n=true) (E:σ t=undef)
 (k:bz P N ops Q rest (aI σ d undef) w):bz P N ops Q (⟨some d,op,ty,pos,af,some (j,want)⟩::rest) σ w:=by
 unfold bz wpList;rw [if_neg (by rw [vp rfl A C E]; simp),dV];exact k
theorem e (h:bq P N ⟨d',op,ty,pos,af,none⟩ σ w (fun σ w=>bz P N ops Q rest σ w)):bz P N ops Q (⟨d',op,ty,pos,af,none⟩::rest) σ w:=
 ru (eB _ rfl _) h
theorem eg {j t:Nat} {want:Bool} (A:di ops j=some t) (C:au t N.n=true) (E:σ t= .bool want)
 (h:bq P N ⟨d',op,ty,pos,af,some (j,want)⟩ σ w (fun σ w=>bz P N ops Q rest σ w)):bz P N ops Q (⟨d',op,ty,pos,af,some (j,want)⟩::rest) σ w:=by grind [ru,kR]
theorem nl (h:Q .normal σ w):bz P N ops Q [] σ w:=⟨σ,rfl,h⟩
theorem tN:¬LetsOut (lift N Q):=fun ⟨_,_,h⟩=>h
theorem rg {id:Nat} {l:List aq} (hr:jo N.r l=true) (h:bz P N l.toArray Q l σ w):ba P N (.region id l.toArray false) Q σ w:=by
 refine wpIn_region<|tF tN hr _ _ _ ?_;have A:=wpOps_eq_wpList (P:=P) (ops:=l.toArray) (Q:=lift N Q) l 0 fun j=>by simp
 rw [List.range_eq_range',dP,A];exact h
theorem gs {l:List aq} {t:Nat} {q:Prop} [Decidable q] (h:σ t= .bool (decide q)) (E:q→bz P N ops Q l (aI σ t<|.bool true) w) (C:¬q→bz P N ops Q l (aI σ t<|.bool false) w):bz P N ops Q l σ w:=by
 by_cases A:q
 · have :=E A; rwa [mb (by rw [h,decide_eq_true A])] at this
 · have :=C A; rwa [mb (by rw [h,decide_eq_false A])] at this
theorem gb {l:List aq} {t:Nat} {b:Bool} (h:σ t= .bool b) (C:b=true→bz P N ops Q l (aI σ t<|.bool true) w) (A:b=false→bz P N ops Q l (aI σ t<|.bool false) w):bz P N ops Q l σ w:=by
 cases b
 · have :=A rfl; rwa [mb h] at this
 · have :=C rfl; rwa [mb h] at this
def bR (P:ak) (N:Fm) (ops:Array aq) (Q:aK→(Nat→ab)→ah→Prop) (S:ah→Prop) (fuel:Nat) (listed:Array Bool) (σ:Nat→ab) (w:ah):Prop :=
 wpAnyH P .any ops (lift N Q) S fuel listed (act N σ) w
variable {S:ah→Prop} {fuel:Nat} {listed:Array Bool}
theorem wG {id:Nat} {l:List aq} (hr:jo N.r l=true) (hm:P.follows .mixedOrders=true) (h:wpAny P .any l.toArray (lift N Q) l.toArray.size (nN l.toArray.size false) (act N σ) w.drew):ba P N (.region id l.toArray true) Q σ w:=by
 refine wpIn_region_draw fun t=>tF tN hr _ _ _ ?_;simp only [Region.schedule,hm,Bool.true_or,if_true];exact wpAny_sound _ t _ _ _ h
theorem bu {id:Nat} {l:List aq} (S:ah→Prop) (hr:jo N.r l=true) (hm:P.follows .mixedOrders=true) (A:S w.drew) (h:bR P N l.toArray Q S l.length (nN l.length false) σ w.drew):ba P N (.region id l.toArray true) Q σ w:=
 wG hr hm (wpAny_of_held _ _ _ _<|by rw [dP]; exact h)
def ug (F:List Nat) (d:Option Nat):Bool:=match d with | some d=> !(F.contains d) | none=>true
def dQ (F:List Nat) (ops:Array aq) (listed:Array Bool) (i:Nat):Bool:=
 Region.noSelect ops && Region.free .any ops listed i && (dB .any ops listed).contains i && ug F ((ops[i]?).bind (·.dst))
theorem lO {d:Option Nat} {v:ab} (C:ug N.F d=true) (c:List PanicEntry) (a:Act) (w:ah):lift N Q (.panic c) (a.put d v) w→lift N Q (.panic c) a w:=by
 rintro ⟨σ,ha,h⟩;cases d with
 | none=>exact ⟨σ,ha,h⟩
 | some d=>
   have M:a.tmps.size=N.n:=by
    have :=congrArg (fun x:Act=>x.tmps.size) ha;simpa [Act.put,act] using this
   have I:a.defers=N.D:=congrArg (fun x:Act=>x.defers) ha;have J:∀ i:Nat,i≠d→a.tmps[i]? =if i < N.n then some (σ i) else none:=fun i hi=>by
    have A:(a.put (some d) v).tmps[i]? =a.tmps[i]? :=by
     show (a.tmps.setIfInBounds d v)[i]? =_;rw [pb,if_neg (fun e=>hi e.symm)]
    rw [← A,ha,hH]
   refine ⟨fun i=>if i < N.n then a.tmps.getD i undef else σ i,pO I fun i=> ?_,fun σ' E=>h σ' fun i hi=> ?_⟩
   · rw [hH];by_cases A:i < N.n
     · rw [if_pos A,if_pos A,gU,mh ag]; rfl
     · rw [if_neg A,rA ag]
   · have L:i≠d:=by
      rintro rfl;simp only [ug,jy,List.contains_eq_mem,decide_eq_false_iff_not] at C;exact C hi
     rw [E i hi];by_cases A:i < N.n
     · simp only [if_pos A];rw [gU,J i L,if_pos A]; rfl
     · simp only [if_neg A]
theorem hp (i:Nat) (hi:ops[i]? =some ⟨some d,op,ty,pos,af,none⟩) (A:dQ N.F ops listed i=true)
 (E:∀ w,S w→(execOp (ev N σ) ⟨some d,op,ty,pos,af,none⟩).run P w= .ok (.value v) w) (C:S w)
 (k:bR P N ops Q S fuel (listed.setIfInBounds i true) (aI σ d v) w):bR P N ops Q S (fuel+1) listed σ w:=by
 simp only [dQ,aU] at A;refine wpAnyH_take hi A.1.1.1 A.1.1.2 A.1.2 (fun c a w=>lO (by have :=A.2; rwa [hi] at this) c a w) (.inl ⟨eB _ rfl _,fun w C=> ?_⟩) C ?_ (v:=v)
 · rw [cK]; exact E w C
 · rw [dV]; exact k
theorem yq (i:Nat) {j t:Nat} {want:Bool} (hi:ops[i]? =some ⟨some d,op,ty,pos,af,some (j,want)⟩) (A:dQ N.F ops listed i=true)
 (E:di ops j=some t) (I:au t N.n=true) (J:σ t= .bool want)
 (L:∀ w,S w→(execOp (ev N σ) ⟨some d,op,ty,pos,af,some (j,want)⟩).run P w= .ok (.value v) w) (C:S w)
 (k:bR P N ops Q S fuel (listed.setIfInBounds i true) (aI σ d v) w):bR P N ops Q S (fuel+1) listed σ w:=by
 simp only [dQ,aU] at A;refine wpAnyH_take hi A.1.1.1 A.1.1.2 A.1.2 (fun c a w=>lO (by have :=A.2; rwa [hi] at this) c a w) (.inl ⟨by rw [kR U E I J]; cases want <;> rfl,fun w C=> ?_⟩) C ?_ (v:=v)
 · rw [cK]; exact L w C
 · rw [dV]; exact k
theorem yr (i:Nat) {j t:Nat} {want b:Bool} (hi:ops[i]? =some ⟨some d,op,ty,pos,af,some (j,want)⟩) (A:dQ N.F ops listed i=true)
 (E:di ops j=some t) (I:au t N.n=true) (J:σ t= .bool b) (hb:(b==want)=false) (C:S w)
 (k:bR P N ops Q S fuel (listed.setIfInBounds i true) (aI σ d undef) w):bR P N ops Q S (fuel+1) listed σ w:=by
 simp only [dQ,aU] at A;refine wpAnyH_take hi A.1.1.1 A.1.1.2 A.1.2 (fun c a w=>lO (by have :=A.2; rwa [hi] at this) c a w) (.inr ⟨by rw [kR U E I J,hb],U⟩) C ?_ (v:=undef);rw [dV]; exact k
theorem Fj (i:Nat) {j t:Nat} {want:Bool} (hi:ops[i]? =some ⟨some d,op,ty,pos,af,some (j,want)⟩) (A:dQ N.F ops listed i=true)
 (E:di ops j=some t) (I:au t N.n=true) (J:σ t=undef) (C:S w)
 (k:bR P N ops Q S fuel (listed.setIfInBounds i true) (aI σ d undef) w):bR P N ops Q S (fuel+1) listed σ w:=by
 simp only [dQ,aU] at A;refine wpAnyH_take hi A.1.1.1 A.1.1.2 A.1.2 (fun c a w=>lO (by have :=A.2; rwa [hi] at this) c a w) (.inr ⟨vp U E I J,U⟩) C ?_ (v:=undef);rw [dV]; exact k
def ik (ops:Array aq) (listed:Array Bool) (i:Nat):Bool:=(dB .any ops listed)== [i]
theorem he (i:Nat) (hi:ops[i]? =some ⟨d',op,ty,pos,af,none⟩) (hr:ik ops listed i=true)
 (h:bq P N ⟨d',op,ty,pos,af,none⟩ σ w (fun σ w=>S w∧bR P N ops Q S fuel (listed.setIfInBounds i true) σ w)):bR P N ops Q S (fuel+1) listed σ w:=by
 refine wpAnyH_all (rs:= [i]) (by simpa [ik] using hr) (by simp) ?_;intro k A;obtain rfl :k=i:=by simpa using A
 unfold wpOp;simp only [hi];rw [if_pos (eB _ rfl _)];exact .inl<|o6 h fun _ _ A=>A
theorem tA (i:Nat) {j t:Nat} {want:Bool} (hi:ops[i]? =some ⟨d',op,ty,pos,af,some (j,want)⟩) (hr:ik ops listed i=true)
 (C:di ops j=some t) (E:au t N.n=true) (I:σ t= .bool want)
 (h:bq P N ⟨d',op,ty,pos,af,some (j,want)⟩ σ w (fun σ w=>S w∧bR P N ops Q S fuel (listed.setIfInBounds i true) σ w)):bR P N ops Q S (fuel+1) listed σ w:=by
 refine wpAnyH_all (rs:= [i]) (by simpa [ik] using hr) (by simp) ?_;intro k A;obtain rfl :k=i:=by simpa using A
 unfold wpOp;simp only [hi];rw [if_pos (by rw [kR rfl C E I]; cases want <;> rfl)];exact .inl<|o6 h fun _ _ A=>A
theorem hn (hr:(dB .any ops listed).isEmpty=true) (h:Q .normal σ w):bR P N ops Q S fuel listed σ w:=
 wpAnyH_done (by simpa using hr) ⟨σ,rfl,h⟩ fuel
theorem kF {t:Nat} {q:Prop} [Decidable q] (h:σ t= .bool (decide q)) (E:q→bR P N ops Q S fuel listed (aI σ t<|.bool true) w) (C:¬q→bR P N ops Q S fuel listed (aI σ t<|.bool false) w):bR P N ops Q S fuel listed σ w:=by
 by_cases A:q
 · have :=E A; rwa [mb (by rw [h,decide_eq_true A])] at this
 · have :=C A; rwa [mb (by rw [h,decide_eq_false A])] at this
end
def bf (P:ak) (f:dq) (args:Array ab) (w:ah) (R:ab→ah→Prop):Prop :=
 Calls P f args w fun e w'=> ∃ v,e= .returned v∧R v w'
theorem bf.mono {P:ak} {f:dq} {args:Array ab} {w:ah} {R A:ab→ah→Prop} (h:bf P f args w R) (hr:∀ v w',R v w'→A v w'):bf P f args w A:=
 gy h fun _ _ ⟨v,he,C⟩=>⟨v,he,hr _ _ C⟩
def cP (args:List ab):Nat→ab:=fun i=>args.getD i undef
def fin (P:ak) (fn:Func) (N:Fm) (R:ab→ah→Prop):aK→(Nat→ab)→ah→Prop
 | .normal,σ,w=> ∃ v,(results fn (act N σ).tmps).run P w= .ok v w∧R v w
 | .ret,σ,w=> ∃ v,(results fn (act N σ).tmps).run P w= .ok v w∧R v w
 | _,_,_=>False
theorem enter {P:ak} {f:dq} {N:Nat} {fn:Func} {c:bG} {args:List ab} {w:ah} {R:ab→ah→Prop} (M:P.funcs[f]? =some fn) (hb:fn.body=some c)
 (L:fn.ntmps=N) (hn:aG args.length N=true) (h:ba P ⟨N,[],[],none⟩ c (fin P fn ⟨N,[],[],none⟩ R) (cP args) w):bf P f args.toArray w R:=by
 subst L;refine calls_of_wp M hb ?_;have ha:({tmps:=args.toArray++nN (fn.ntmps - args.toArray.size) undef,defers:= []} :Act)=act ⟨fn.ntmps,[],[],none⟩ (cP args):=by
  have O:args.length≤fn.ntmps:=by simpa using hn
  refine pO U fun i=> ?_;rw [hH];simp only [cP,cH,dP];by_cases E:i < args.length
  · rw [Array.getElem?_append_left (by simpa using E),if_pos ag];simp [E]
  · rw [Array.getElem?_append_right (by simpa using E)];simp only [dP,Array.getElem?_replicate];by_cases J:i < fn.ntmps
    · rw [if_pos ag,if_pos J,mB ag]; rfl
    · rw [if_neg ag,if_neg J]
 rw [ha];refine Code.wp_mono ?_<|wpIn_wide.1 h;intro e a w A;cases e with
 | normal=>obtain ⟨σ,rfl,v,hr,I⟩:=A; exact ⟨rfl,v,hr,v,rfl,I⟩
 | ret=>obtain ⟨σ,rfl,v,hr,I⟩:=A; exact ⟨rfl,v,hr,v,rfl,I⟩
 | exit id=>obtain ⟨σ,rfl,C⟩:=A; exact C.elim
 | goto l=>obtain ⟨σ,rfl,C⟩:=A; exact C.elim
 | panic c=>obtain ⟨σ,rfl,C⟩:=A; exact (C σ fun _ _=>rfl).elim
 | outgrown=>exact A.elim
section
variable {P:ak} {N:Fm} {σ:Nat→ab} {w:ah} {fn:Func} {R:ab→ah→Prop}
theorem l6 (t:Nat):(act N σ).tmps.getD t undef=ev N σ (.tmp t):=by
 rw [← cK]; rfl
theorem f0 (h:fn.results= #[]) (A:R (.tuple #[]) w):fin P fn N R .normal σ w:=⟨_,results_none h _ _ _,A⟩
theorem f1 {t:Nat} {v:ab} (h:fn.results= #[.tmp t]) (C:ev N σ (.tmp t)=v) (A:R v w):fin P fn N R .ret σ w:=
 ⟨v,by rw [results_tmp h,l6,C],A⟩
theorem f2 {t u:Nat} {v A:ab} (h:fn.results= #[.tmp t,.tmp u]) (E:ev N σ (.tmp t)=v) (hu:ev N σ (.tmp u)=A) (C:R (.tuple #[v,A]) w):fin P fn N R .ret σ w:=
 ⟨_,by rw [results_tmp2 h,l6,l6,E,hu],C⟩
theorem f3 {t u s:Nat} {v A C:ab} (h:fn.results= #[.tmp t,.tmp u,.tmp s]) (J:ev N σ (.tmp t)=v) (hu:ev N σ (.tmp u)=A) (I:ev N σ (.tmp s)=C) (E:R (.tuple #[v,A,C]) w):fin P fn N R .ret σ w:=by
 refine ⟨_,?_,E⟩;simp only [results,h];subst J hu I;simp only [← l6];simp [List.mapM_toArray]
end
attribute [irreducible] bz ba bR bq
end Go.Hb
namespace Go.Hb
def ay (h:Array Obj) (b off :Nat):Option ab:=
 match h[b]? with
 | some (.cells c _ _)=>c[off]?
 | _=>none
theorem fZ (w:ah) (b off :Nat):w.cell? ⟨b,off,none⟩=ay w.heap b off :=by
 unfold Bu ay;simp only;split <;> simp_all
theorem dd {h:Array Obj} {b off :Nat} {c:Array ab} {t:aj} {f:Nat×Nat} (hb:h[b]? =some (.cells c t f)):ay h b off =c[off]? :=by
 simp only [ay,hb]
theorem Db {h:Array Obj} {b off :Nat} {v:ab} (A:ay h b off =some v):b < h.size:=by grind [ay]
structure Md (F:Nat→Prop) (w w':ah):Prop where
 os:w'.os=w.os
 output:w'.output=w.output
 size:w.heap.size≤w'.heap.size
 cD:∀ k,k < w.heap.size→¬F k→w'.heap[k]? =w.heap[k]?
abbrev Wk (w w':ah):Prop :=Md (fun _=>False) w w'
theorem Md.refl (F:Nat→Prop) (w:ah):Md F w w:=⟨rfl,rfl,aO _,fun _ _ _=>rfl⟩
theorem Md.drew {F:Nat→Prop} {w w':ah} (h:Md F w w'):Md F w w'.drew:=⟨h.os,h.output,h.size,h.cD⟩
theorem Md.mono {F G:Nat→Prop} {w w':ah} (h:Md F w w') (E:∀ k,k < w.heap.size→F k→G k):Md G w w':=
 ⟨h.os,h.output,h.size,fun k A I=>h.cD k A fun C=>I<|E k A C⟩
theorem Md.trans {F:Nat→Prop} {a b c:ah} (h:Md F a b) (A:Md F b c):Md F a c:=
 ⟨A.os.trans h.os,A.output.trans h.output,bX h.size A.size,fun k E C=>(A.cD k (k9 E h.size) C).trans<|h.cD k E C⟩
theorem Md.trans' {F G:Nat→Prop} {a b c:ah} (h:Md F a b) (A:Md G b c) (I:∀ k,k < a.heap.size→G k→F k):Md F a c:=
 ⟨A.os.trans h.os,A.output.trans h.output,bX h.size A.size,
  fun k C E=>(A.cD k (k9 C h.size) fun x=>E<|I k C x).trans (h.cD k C E)⟩
theorem Md.ao {F:Nat→Prop} {w w':ah} (h:Md F w w') {k:Nat} {o:Obj} (A:w.heap[k]? =some o) (C:¬F k):w'.heap[k]? =some o:=
 (h.cD k (bI.1 A).1 C).trans A
theorem Md.ay {F:Nat→Prop} {w w':ah} (h:Md F w w') {b off :Nat} {v:ab} (A:Hb.ay w.heap b off =some v) (C:¬F b):Hb.ay w'.heap b off =some v:=by
 have :=h.cD b (Db A) C;unfold Hb.ay at*;rw [this]; exact A
theorem Wk.ay {w w':ah} (h:Wk w w') {b off :Nat} {v:ab} (A:Hb.ay w.heap b off =some v):Hb.ay w'.heap b off =some v:=Md.ay h A id
theorem Wk.ao {w w':ah} (h:Wk w w') {k:Nat} {o:Obj} (A:w.heap[k]? =some o):w'.heap[k]? =some o:=Md.ao h A id
structure Nw (w w':ah):Prop where
 md:Wk w w'
 size:w'.heap.size=w.heap.size+1
 one:∃ o,w'= {w with heap:=w.heap.push o}
theorem zb (w:ah) (o:Obj):Nw w {w with heap:=w.heap.push o} :=
 ⟨⟨rfl,rfl,by simp,fun k A _=>by show (w.heap.push o)[k]? =_; rw [Array.getElem?_push,if_neg ag]⟩,by simp,o,rfl⟩
def cM (P:ak) (t:aj):Option (Option Nat):=
 match P.underlying t with
 | some (.struct _) | some (.array _ _)=>((P.info? t).map (·.size)).map some
 | some _=>some none
 | none=>none
def mY (P:ak) (s f:Nat):Option Nat:=
 match P.underlying s with
 | some (.struct A)=>match A[f]? with
   | some fd=>match P.info? fd.type with
     | some i=>if i.size=0 then none else some fd.offset
     | none=>none
   | none=>none
 | _=>none
def cO (P:ak) (t:aj):Option Nat:=
 match P.underlying t with
 | some (.slice e)=>(P.info? e).map (·.size)
 | _=>none
section
variable {P:ak} {N:Fm} {σ:Nat→ab} {w:ah} {dst:Option Nat} {ty:aj} {pos :String} {af:Array bB} {g:Option (Nat×Bool)} {x y z:az}
theorem aR {t:aj} {d:TypeDesc} (h:P.underlying t=some d) (w:ah):(underlying t).run P w= .ok d w:=by
 simp [underlying,h]
theorem cJ {t:aj} {i:TypeInfo} (h:P.info? t=some i) (w:ah):(typeInfo t).run P w= .ok i w:=by
 simp [typeInfo,h]
theorem mv:(execOp (ev N σ) ⟨dst,.move x,ty,pos,af,g⟩).run P w= .ok (.value<|ev N σ x) w:=rfl
theorem aE:(execOp (ev N σ) ⟨dst,.assign x,ty,pos,af,g⟩).run P w= .ok (.value<|ev N σ x) w:=rfl
theorem oN (v:ab) (h:ev N σ x=v):(execOp (ev N σ) ⟨dst,.move x,ty,pos,af,g⟩).run P w= .ok (.value v) w:=by rw [← h]; rfl
theorem qT {c:az} (A:ev N σ c= .bool true):(execOp (ev N σ) ⟨dst,.pick c x y,ty,pos,af,g⟩).run P w= .ok (.value<|ev N σ x) w:=by
 simp [execOp,A,asBool]
theorem zq {c:az} (A:ev N σ c= .bool false):(execOp (ev N σ) ⟨dst,.pick c x y,ty,pos,af,g⟩).run P w= .ok (.value<|ev N σ y) w:=by
 simp [execOp,A,asBool]
theorem nc {a:aD} (A:ev N σ x= .pointer (some a)):(execOp (ev N σ) ⟨dst,.nilCheck x,ty,pos,af,g⟩).run P w= .ok (.value<|.pointer<|some a) w:=by
 simp [execOp,A]
theorem xt {i:Nat} {vs:Array ab} {v:ab} (C:ev N σ x= .tuple vs) (A:vs[i]? =some v):(execOp (ev N σ) ⟨dst,.extract x i,ty,pos,af,g⟩).run P w= .ok (.value v) w:=by
 simp [execOp,C,Instr.extract,A]
theorem fa {s f n b off :Nat} (A:mY P s f=some n) (I:ev N σ x= .pointer (some ⟨b,off,none⟩)):
 (execOp (ev N σ) ⟨dst,.fieldAddr s x f,ty,pos,af,g⟩).run P w= .ok (.value<|.pointer<|some ⟨b,off+n,none⟩) w:=by
 unfold mY at A;split at A
 · rename_i L hu;split at A
   · rename_i fd E;split at A
     · rename_i i hi;split at A
       · cases A
       · rename_i J;cases A;have C:(⟨b,off,none⟩:aD).add fd.offset=⟨b,off+fd.offset,none⟩:=by unfold rG; split <;> simp_all
         simp [execOp,Instr.fieldAt,aR hu,E,I,nS,fieldPlace,sizeOf,cJ hi,J,C]
     · cases A
   · cases A
 · cases A
theorem ld {t b off :Nat} {v:ab} (hu:cM P t=some none) (E:ev N σ x= .pointer (some ⟨b,off,none⟩)) (A:ay w.heap b off =some v):
 (execOp (ev N σ) ⟨dst,.load t x,ty,pos,af,g⟩).run P w= .ok (.value v) w:=by
 have C:w.cell? ⟨b,off,none⟩=some v:=by rw [fZ]; exact A
 unfold cM at hu;cases hd:P.underlying t with
 | none=>rw [hd] at hu; cases hu
 | some d=>
   rw [hd] at hu;cases d <;> first
    | (simp only [fB] at hu; obtain ⟨_,_,h⟩:=hu; cases h; done)
    | simp [execOp,Bh,E,nS,loadVar,isAgg,aR hd,run_load,C]
theorem dt (b off j:Nat):(⟨b,off,none⟩:aD).add j=⟨b,off+j,none⟩:=by
 unfold rG; split <;> simp_all
theorem jZ {t n b off :Nat} {cs:List ab} (hu:cM P t=some (some n)) (J:ev N σ x= .pointer (some ⟨b,off,none⟩)) (I:cs.length=n)
 (C:∀ j,j < n→ay w.heap b (off+j)=cs[j]?):
 (execOp (ev N σ) ⟨dst,.load t x,ty,pos,af,g⟩).run P w= .ok (.value<|.agg cs.toArray) w:=by
 have E:(loadCells ⟨b,off,none⟩ n).run P w= .ok cs.toArray w:=by
  subst I;refine run_loadCells_list (P:=P) w ⟨b,off,none⟩ cs fun j v A=> ?_;rw [dt,fZ];exact (C j (cy.1 A).1).trans A
 unfold cM at hu;cases hd:P.underlying t with
 | none=>rw [hd] at hu; cases hu
 | some d=>
   rw [hd] at hu;cases hi:P.info? t with
   | none=>simp [Program.underlying,hi] at hd
   | some i=>
     rw [hi] at hu;cases d <;> first
      | (cases hu; done)
      | (simp only [dg,aY] at hu; subst hu
         simp [execOp,Bh,J,nS,loadVar,isAgg,aR hd,sizeOf,cJ hi,E])
theorem ia {t n b off len cap:Nat} {k:bc} {i:Int} (he:cO P t=some n) (A:ev N σ x= .slice (some ⟨b,off,none⟩) len cap) (C:ev N σ y= .int k i) (h0:0≤i∧i < len):
 (execOp (ev N σ) ⟨dst,.indexAddr t x y,ty,pos,af,g⟩).run P w= .ok (.value<|.pointer<|some ⟨b,off+i.toNat*n,none⟩) w:=by
 unfold cO at he;cases hd:P.underlying t with
 | none=>rw [hd] at he; cases he
 | some d=>
   rw [hd] at he;cases d <;> first | (cases he; done) | skip
   rename_i e;cases hi:P.info? e with
   | none=>simp [hi] at he
   | some j=>
     simp only [hi,dg,aY] at he;subst he;simp [execOp,Bg,A,C,asIntOf,aR hd,h0.1,h0.2,sizeOf,cJ hi,dt]
def cF (a:Option aD) (cap l n:Nat):Option aD:=if cap=l then a else a.map (·.add (l*n))
theorem uN {t n len cap:Nat} {a:Option aD} {lo hi:Option ab} {l h:Nat} (he:cO P t=some n) (E:ev N σ x= .slice a len cap)
 (hb:(jA true len cap lo hi none).run P w= .ok (l,h,cap) w) (A C:Option az) (I:A.map (ev N σ)=lo) (J:C.map (ev N σ)=hi):
 (execOp (ev N σ) ⟨dst,.slice t x A C none,ty,pos,af,g⟩).run P w= .ok (.value<|.slice (cF a cap l n) (h - l)<|cap - l) w:=by
 unfold cO at he;cases hd:P.underlying t with
 | none=>rw [hd] at he; cases he
 | some d=>
   rw [hd] at he;cases d <;> first | (cases he; done) | skip
   rename_i e;cases hi':P.info? e with
   | none=>simp [hi'] at he
   | some j=>
     simp only [hi',dg,aY] at he;subst he;simp [execOp,mr,pj,E,I,J,aR hd,hb,sizeOf,cJ hi',cF]
theorem uO {t n len cap:Nat} {a:Option aD} {k:bc} {i:Int} (he:cO P t=some n) (C:ev N σ x= .slice a len cap) (E:ev N σ z= .int k i) (h0:0≤i∧i≤cap):
 (execOp (ev N σ) ⟨dst,.slice t x none (some z) none,ty,pos,af,g⟩).run P w= .ok (.value<|.slice a i.toNat cap) w:=by
 have :=uN (dst:=dst) (ty:=ty) (pos :=pos) (af:=af) (g:=g) (w:=w) (lo:=none) (hi:=some<|.int k i) (l:=0) (h:=i.toNat) he C
  (by simp [jA,mu,asIntOf,h0.1,h0.2]) none (some z) rfl (by simp [E])
 rw [this];have A:cF a cap 0 n=a:=by
  unfold cF; split
  · rfl
  · cases a <;> simp [rG]
 rw [A]; rfl
theorem re {t n len cap:Nat} {a:Option aD} {k:bc} {i:Int} (he:cO P t=some n) (A:ev N σ x= .slice a len cap) (C:ev N σ y= .int k i) (h0:0≤i∧i≤len):
 (execOp (ev N σ) ⟨dst,.slice t x (some y) none none,ty,pos,af,g⟩).run P w= .ok (.value<|.slice (cF a cap i.toNat n) (len - i.toNat)<|cap - i.toNat) w:=
 uN (lo:=some<|.int k i) (hi:=none) he A
  (by simp [jA,mu,asIntOf,h0.1,h0.2]) (some y) none (by simp [C]) rfl
theorem q9 {t n len cap:Nat} {a:Option aD} {k A:bc} {i j:Int} (he:cO P t=some n) (I:ev N σ x= .slice a len cap) (J:ev N σ y= .int k i) (L:ev N σ z= .int A j) (h0:0≤i∧i≤j∧j≤cap):
 (execOp (ev N σ) ⟨dst,.slice t x (some y) (some z) none,ty,pos,af,g⟩).run P w= .ok (.value<|.slice (cF a cap i.toNat n) (j.toNat - i.toNat)<|cap - i.toNat) w:=by
 have C:0≤j:=ag;have E:i≤(j.toNat:Int):=ag;refine uN (lo:=some<|.int k i) (hi:=some<|.int A j) he I ?_ (some y) (some z) (by simp [J])<|by simp [L]
 simp only [jA,mu,asIntOf,fT,iS,fw,pv,h0.1,C,h0.2.2,E,and_self,if_true]
theorem mc {n:Int} (h: -9223372036854775808≤n∧n≤9223372036854775807):rM.wrap n=n:=IntWalk.i64_in n h
theorem vq {n:Int} (h: -2147483648≤n∧n≤2147483647):IntKind.i32.wrap n=n:=IntWalk.i32_in n h
theorem AR {n:Int} (h:0≤n∧n≤255):IntKind.u8.wrap n=n:=IntWalk.u8_in n h
theorem AQ {n:Int} (h:0≤n∧n≤4294967295):IntKind.u32.wrap n=n:=IntWalk.u32_in n h
theorem nL {n:Int} (h:0≤n∧n≤18446744073709551615):IntKind.u64.wrap n=n:=IntWalk.u64_in n h
theorem iv {k:bc} {a b:Int} (h:a=b):cW k a=cW k b:=by rw [h]
theorem ad {t E:aj} {k:bc} {a b:Int} (A:ev N σ x= .int k a) (C:ev N σ y= .int k b) (hr:k.wrap (a+b)=a+b):
 (execOp (ev N σ) ⟨dst,.binOp .add t x y E,ty,pos,af,g⟩).run P w= .ok (.value<|.int k<|a+b) w:=by
 simp [execOp,A,C,eqGuard,binOp,pn,hr]
theorem wz {t E:aj} {k:bc} {a b:Int} (v:Int) (A:ev N σ x= .int k a) (C:ev N σ y= .int k b) (hr:k.wrap (a+b)=v):
 (execOp (ev N σ) ⟨dst,.binOp .add t x y E,ty,pos,af,g⟩).run P w= .ok (.value<|.int k v) w:=by
 subst hr; simp [execOp,A,C,eqGuard,binOp,pn]
theorem zK {t E:aj} {k:bc} {a b:Int} (v:Int) (A:ev N σ x= .int k a) (C:ev N σ y= .int k b) (hr:k.wrap (a - b)=v):
 (execOp (ev N σ) ⟨dst,.binOp .sub t x y E,ty,pos,af,g⟩).run P w= .ok (.value<|.int k v) w:=by
 subst hr; simp [execOp,A,C,eqGuard,binOp,pn]
theorem y5 {t E:aj} {k:bc} {a b:Int} (v:Int) (A:ev N σ x= .int k a) (C:ev N σ y= .int k b) (hr:k.wrap (a*b)=v):
 (execOp (ev N σ) ⟨dst,.binOp .mul t x y E,ty,pos,af,g⟩).run P w= .ok (.value<|.int k v) w:=by
 subst hr; simp [execOp,A,C,eqGuard,binOp,pn]
theorem vn {a:Int} {n:Nat} (h:a=n) (hn:n≤9223372036854775807):rM.wrap a=(n:Int):=by rw [h]; exact mc ag
theorem bv {p q:Prop} [Decidable p] [Decidable q] (h:p↔q):bM (decide p)=bM (decide q):=by rw [decide_eq_decide.2 h]
theorem sb {t E:aj} {k:bc} {a b:Int} (A:ev N σ x= .int k a) (C:ev N σ y= .int k b) (hr:k.wrap (a - b)=a - b):
 (execOp (ev N σ) ⟨dst,.binOp .sub t x y E,ty,pos,af,g⟩).run P w= .ok (.value<|.int k<|a - b) w:=by
 simp [execOp,A,C,eqGuard,binOp,pn,hr]
theorem qu {t E:aj} {k:bc} {a b:Int} (A:ev N σ x= .int k a) (C:ev N σ y= .int k b) (h0:0≤a∧0 < b) (hr:k.wrap (a / b)=a / b):
 (execOp (ev N σ) ⟨dst,.binOp .quo t x y E,ty,pos,af,g⟩).run P w= .ok (.value<|.int k<|a / b) w:=by
 have :a.tdiv b=a / b:=By h0.1;simp [execOp,A,C,eqGuard,binOp,vG,show b≠0 from by omega,this,hr]
theorem G1 {t E:aj} {k:bc} {a b:Int} (v:Int) (A:ev N σ x= .int k a) (C:ev N σ y= .int k b) (h0:0≤a∧0 < b) (hr:k.wrap (a / b)=v):
 (execOp (ev N σ) ⟨dst,.binOp .quo t x y E,ty,pos,af,g⟩).run P w= .ok (.value<|.int k v) w:=by
 have :a.tdiv b=a / b:=By h0.1;subst hr; simp [execOp,A,C,eqGuard,binOp,vG,show b≠0 from by omega,this]
theorem rm {t E:aj} {k:bc} {a b:Int} (A:ev N σ x= .int k a) (C:ev N σ y= .int k b) (h0:0≤a∧0 < b):
 (execOp (ev N σ) ⟨dst,.binOp .rem t x y E,ty,pos,af,g⟩).run P w= .ok (.value<|.int k<|a % b) w:=by
 have :a.tmod b=a % b:=Int.tmod_eq_emod_of_nonneg h0.1;simp [execOp,A,C,eqGuard,binOp,vG,show b≠0 from by omega,this]
theorem lt {t E:aj} {k:bc} {a b:Int} (A:ev N σ x= .int k a) (C:ev N σ y= .int k b):
 (execOp (ev N σ) ⟨dst,.binOp .lss t x y E,ty,pos,af,g⟩).run P w= .ok (.value<|.bool<|decide (a < b)) w:=by
 simp [execOp,A,C,eqGuard,binOp,nV]
theorem le {t E:aj} {k:bc} {a b:Int} (A:ev N σ x= .int k a) (C:ev N σ y= .int k b):
 (execOp (ev N σ) ⟨dst,.binOp .leq t x y E,ty,pos,af,g⟩).run P w= .ok (.value<|.bool<|decide (a≤b)) w:=by
 simp [execOp,A,C,eqGuard,binOp,nV]
theorem gt {t E:aj} {k:bc} {a b:Int} (A:ev N σ x= .int k a) (C:ev N σ y= .int k b):
 (execOp (ev N σ) ⟨dst,.binOp .gtr t x y E,ty,pos,af,g⟩).run P w= .ok (.value<|.bool<|decide (b < a)) w:=by
 simp [execOp,A,C,eqGuard,binOp,nV]
theorem ge {t E:aj} {k:bc} {a b:Int} (A:ev N σ x= .int k a) (C:ev N σ y= .int k b):
 (execOp (ev N σ) ⟨dst,.binOp .geq t x y E,ty,pos,af,g⟩).run P w= .ok (.value<|.bool<|decide (b≤a)) w:=by
 simp [execOp,A,C,eqGuard,binOp,nV]
theorem xR {t E:aj} {k:bc} {a b:Int} (A:ev N σ x= .int k a) (C:ev N σ y= .int k b):
 (execOp (ev N σ) ⟨dst,.binOp .eql t x y E,ty,pos,af,g⟩).run P w= .ok (.value<|.bool<|decide (a=b)) w:=by
 simp [execOp,A,C,eqGuard,binOp,nV];rw [kT]; simp
theorem y7 {t E:aj} {k:bc} {a b:Int} (A:ev N σ x= .int k a) (C:ev N σ y= .int k b):
 (execOp (ev N σ) ⟨dst,.binOp .neq t x y E,ty,pos,af,g⟩).run P w= .ok (.value<|.bool<|decide (a≠b)) w:=by
 simp [execOp,A,C,eqGuard,binOp,nV];rw [kT]; simp
theorem no {t:aj} {b:Bool} (A:ev N σ x= .bool b):(execOp (ev N σ) ⟨dst,.unOp .not t x,ty,pos,af,g⟩).run P w= .ok (.value<|.bool<|!b) w:=by
 simp [execOp,A,Op.unary]
theorem wU {t I:aj} {k:bc} {a b v:Int} (C:ev N σ x= .int k a) (E:ev N σ y= .int k b) (A:k.wrap (gw k.bits a ||| gw k.bits b).toNat=v):
 (execOp (ev N σ) ⟨dst,.binOp .or t x y I,ty,pos,af,g⟩).run P w= .ok (.value<|.int k v) w:=by
 subst A; simp [execOp,C,E,eqGuard,binOp,Op.intBits]
theorem b9 {t I:aj} {k:bc} {a b v:Int} (C:ev N σ x= .int k a) (E:ev N σ y= .int k b) (A:k.wrap (gw k.bits a &&& gw k.bits b).toNat=v):
 (execOp (ev N σ) ⟨dst,.binOp .and t x y I,ty,pos,af,g⟩).run P w= .ok (.value<|.int k v) w:=by
 subst A; simp [execOp,C,E,eqGuard,binOp,Op.intBits]
theorem shr {t I:aj} {k J:bc} {a b v:Int} (C:ev N σ x= .int k a) (E:ev N σ y= .int J b) (h0:0≤b) (A:a.fdiv (2 ^ min b.toNat k.bits)=v):
 (execOp (ev N σ) ⟨dst,.binOp .shr t x y I,ty,pos,af,g⟩).run P w= .ok (.value<|.int k v) w:=by
 have :¬b < 0:=ag;simp [execOp,C,E,eqGuard,binOp,Op.shift,this,A]
theorem shl {t I:aj} {k J:bc} {a b v:Int} (C:ev N σ x= .int k a) (E:ev N σ y= .int J b) (h0:0≤b) (A:k.wrap (a*2 ^ min b.toNat k.bits)=v):
 (execOp (ev N σ) ⟨dst,.binOp .shl t x y I,ty,pos,af,g⟩).run P w= .ok (.value<|.int k v) w:=by
 have :¬b < 0:=ag;simp [execOp,C,E,eqGuard,binOp,Op.shift,this,A]
theorem IW (m:Nat) (h:m < 256):((ee m).toNat:Int)=(m:Int):=by
 simp [Nat.mod_eq_of_lt h]
theorem cv {t u:aj} {k A:bc} {n:Int} (hu:P.underlying u=some (.int A)) (E:(P.underlying t).isSome=true) (I:ev N σ x= .int k n):
 (execOp (ev N σ) ⟨dst,.convert t u x,ty,pos,af,g⟩).run P w= .ok (.value<|.int A<|A.wrap n) w:=by
 obtain ⟨d,C⟩:=pL.1 E;cases d <;> simp [execOp,I,convert,aR hu,aR C,Conv.intToInt]
theorem DB {t u:aj} {k A:bc} {n v:Int} (hu:P.underlying u=some (.int A)) (C:(P.underlying t).isSome=true) (E:ev N σ x= .int k n) (hr:A.wrap n=v):
 (execOp (ev N σ) ⟨dst,.convert t u x,ty,pos,af,g⟩).run P w= .ok (.value<|.int A v) w:=by
 rw [cv hu C E,hr]
theorem pU {t u:aj} {k A:bc} {n:Int} (hu:P.underlying u=some (.int A)) (C:(P.underlying t).isSome=true) (E:ev N σ x= .int k n) (hr:A.wrap n=n):
 (execOp (ev N σ) ⟨dst,.convert t u x,ty,pos,af,g⟩).run P w= .ok (.value<|.int A n) w:=by
 rw [cv hu C E,hr]
theorem sZ (d:Nat) {t e:aj} {a:Option aD} (hu:P.underlying t=some (.pointer e)):(gC (d+1) t (.pointer a)<|.pointer none).run P w= .ok a.isNone w:=by
 cases a <;> simp [gC,aR hu]
theorem xS {t e:aj} {a:Option aD} (hu:P.underlying t=some (.pointer e)):(kU t (.pointer a)<|.pointer none).run P w= .ok a.isNone w:=sZ 9999 hu
theorem gL {t E e:aj} {a:Option aD} (hu:P.underlying t=some (.pointer e)) (A:ev N σ x= .pointer a) (C:ev N σ y= .pointer none):
 (execOp (ev N σ) ⟨dst,.binOp .eql t x y E,ty,pos,af,g⟩).run P w= .ok (.value<|.bool a.isNone) w:=by
 have h:(binOp .eql t (.pointer a)<|.pointer none).run P w= .ok (.bool a.isNone) w:=by
  simp only [binOp]; simp [xS hu]
 simp [execOp,A,C,eqGuard,h]
theorem y8 {t E e:aj} {a:Option aD} (hu:P.underlying t=some (.pointer e)) (A:ev N σ x= .pointer a) (C:ev N σ y= .pointer none):
 (execOp (ev N σ) ⟨dst,.binOp .neq t x y E,ty,pos,af,g⟩).run P w= .ok (.value<|.bool a.isSome) w:=by
 have h:(binOp .neq t (.pointer a)<|.pointer none).run P w= .ok (.bool a.isSome) w:=by
  simp only [binOp]; simp [xS hu]
 simp [execOp,A,C,eqGuard,h]
theorem xQ (d:Nat) {t:aj} {a b:Bool} (hu:P.underlying t=some .bool):(gC (d+1) t (.bool a)<|.bool b).run P w= .ok (a==b) w:=by
 simp [gC,aR hu]
theorem Ev {t:aj} {a b:Bool} (hu:P.underlying t=some .bool):(kU t (.bool a)<|.bool b).run P w= .ok (a==b) w:=xQ 9999 hu
theorem Gn {t E:aj} {a b:Bool} (hu:P.underlying t=some .bool) (A:ev N σ x= .bool a) (C:ev N σ y= .bool b):
 (execOp (ev N σ) ⟨dst,.binOp .neq t x y E,ty,pos,af,g⟩).run P w= .ok (.value<|.bool<|decide (a≠b)) w:=by
 have h:(binOp .neq t (.bool a)<|.bool b).run P w= .ok (.bool<|decide (a≠b)) w:=by
  simp only [binOp]; simp [Ev hu]; cases a <;> cases b <;> rfl
 simp [execOp,A,C,eqGuard,h]
def str (l:List UInt8):ab:= .string ⟨⟨l⟩⟩
theorem yM {t:aj} {l:List UInt8} {at_:Array aj} (A:P.underlying t=some .string) (ha:at_= #[t]) (C:ev N σ x=str l):
 (execOp (ev N σ) ⟨dst,.call ⟨.builtin .len,#[x],at_⟩,ty,pos,af,g⟩).run P w= .ok (.value<|.int .i64 l.length) w:=by
 subst ha;simp [execOp,resolve,invoke,builtin,vE,aR A,C,str,goInt];rfl
theorem tP {t e:aj} {a:Option aD} {n c:Nat} {at_:Array aj} (A:P.underlying t=some (.slice e)) (ha:at_= #[t]) (C:ev N σ x= .slice a n c):
 (execOp (ev N σ) ⟨dst,.call ⟨.builtin .len,#[x],at_⟩,ty,pos,af,g⟩).run P w= .ok (.value<|.int .i64 n) w:=by
 subst ha;simp [execOp,resolve,invoke,builtin,vE,aR A,C,goInt]
theorem yL {t k e r:aj} {es:Array MapEntry} {c:Nat} {at_:Array aj} (A:P.underlying t=some (.map k e)) (ha:at_= #[t]) (C:ev N σ x= .map (some r)) (hr:w.heap[r]? =some (.map es c)):
 (execOp (ev N σ) ⟨dst,.call ⟨.builtin .len,#[x],at_⟩,ty,pos,af,g⟩).run P w= .ok (.value<|.int .i64 es.size) w:=by
 subst ha;simp [execOp,resolve,invoke,builtin,vE,aR A,C,goInt,getObj,Sem.run,hr]
theorem mn {k:bc} {a b:Int} {at_:Array aj} (A:ev N σ x= .int k a) (C:ev N σ y= .int k b):
 (execOp (ev N σ) ⟨dst,.call ⟨.builtin .min,#[x,y],at_⟩,ty,pos,af,g⟩).run P w= .ok (.value<|.int k<|min a b) w:=by
 have :(if b < a then b else a)=min a b:=ag;simp [execOp,resolve,invoke,builtin,Builtin.min_,Builtin.min2,A,C,this]
theorem mx {k:bc} {a b:Int} {at_:Array aj} (A:ev N σ x= .int k a) (C:ev N σ y= .int k b):
 (execOp (ev N σ) ⟨dst,.call ⟨.builtin .max,#[x,y],at_⟩,ty,pos,af,g⟩).run P w= .ok (.value<|.int k<|max a b) w:=by
 have :(if b > a then b else a)=max a b:=ag;simp [execOp,resolve,invoke,builtin,Builtin.max_,Builtin.max2,A,C,this]
theorem Fv {t:aj} {l:List UInt8} {k:bc} {i:Int} (I:P.underlying t=some .string) (J:ev N σ x=str l) (L:ev N σ y= .int k i) (h0:0≤i∧i < l.length):
 (execOp (ev N σ) ⟨dst,.index t x y,ty,pos,af,g⟩).run P w= .ok (.value<|.int .u8 ((l.getD i.toNat 0).toNat:Int)) w:=by
 have E:(⟨⟨l⟩⟩:ByteArray)[i.toNat]? =some (l.getD i.toNat 0):=by
  have A:i.toNat < l.length:=ag;have C:i.toNat < (⟨⟨l⟩⟩:ByteArray).size:=A;rw [getElem?_pos (⟨⟨l⟩⟩:ByteArray) i.toNat C];simp [cH,A,ByteArray.getElem_eq_getElem_data]
 simp [execOp,Instr.index,J,L,asIntOf,str,aR I,h0.1,E]
theorem uM (l:List UInt8) (a b:Nat):Value.string ((⟨⟨l⟩⟩:ByteArray).extract a b)=str ((l.take b).drop a):=by
 unfold str;congr 1;apply ByteArray.ext;simp [ByteArray.data_extract,List.extract_eq_take_drop,List.drop_take]
theorem yv (n:Nat) {t:aj} {l:List UInt8} {k:bc} (A:P.underlying t=some .string) (C:ev N σ x=str l) (E:ev N σ y= .int k (n:Int)) (h:n < l.length):
 (execOp (ev N σ) ⟨dst,.index t x y,ty,pos,af,g⟩).run P w= .ok (.value<|.int .u8 ((l.getD n 0).toNat:Int)) w:=Fv A C E ⟨ag,ag⟩
theorem jW {n:Nat} {t:aj} {l:List UInt8} {k:bc} (A:P.underlying t=some .string) (C:ev N σ x=str l) (E:ev N σ y= .int k (n:Int)) (h:n < l.length):
 (execOp (ev N σ) ⟨dst,.index t x y,ty,pos,af,g⟩).run P w= .ok (.value<|.int .u8 ((l.getD n 0).toNat:Int)) w:=yv n A C E h
theorem uP {t:aj} {l:List UInt8} {k M:bc} {a b:Int} (E:P.underlying t=some .string) (I:ev N σ x=str l) (J:ev N σ y= .int k a) (L:ev N σ z= .int M b) (h0:0≤a∧a≤b∧b≤l.length):
 (execOp (ev N σ) ⟨dst,.slice t x (some y) (some z) none,ty,pos,af,g⟩).run P w= .ok (.value<|str<|(l.take b.toNat).drop a.toNat) w:=by
 have A:b≤((⟨⟨l⟩⟩:ByteArray).size:Nat):=h0.2.2;have C:0≤b:=ag;have O:a≤(b.toNat:Nat):=ag;simp [execOp,mr,pj,jA,mu,I,J,L,asIntOf,str,aR E,h0.1,A,C];rw [if_pos ag];exact congrArg (fun v=>pq (pk v) w)<|uM l a.toNat b.toNat
theorem z1 {t:aj} {l:List UInt8} {J:bc} {b:Int} (C:P.underlying t=some .string) (E:ev N σ x=str l) (I:ev N σ z= .int J b) (h0:0≤b∧b≤l.length):
 (execOp (ev N σ) ⟨dst,.slice t x none (some z) none,ty,pos,af,g⟩).run P w= .ok (.value<|str<|l.take b.toNat) w:=by
 have A:b≤((⟨⟨l⟩⟩:ByteArray).size:Nat):=h0.2;have :=uM l 0 b.toNat;simp only [List.drop_zero] at this;simp [execOp,mr,pj,jA,mu,E,I,asIntOf,str,aR C,h0.1,A];exact Bs this
theorem H9 {t:aj} {l:List UInt8} {k:bc} {a:Int} (C:P.underlying t=some .string) (E:ev N σ x=str l) (I:ev N σ y= .int k a) (h0:0≤a∧a≤l.length):
 (execOp (ev N σ) ⟨dst,.slice t x (some y) none none,ty,pos,af,g⟩).run P w= .ok (.value<|str<|l.drop a.toNat) w:=by
 have A:a≤((⟨⟨l⟩⟩:ByteArray).size:Nat):=h0.2;have :=uM l a.toNat l.length;simp only [List.take_length] at this;simp [execOp,mr,pj,jA,mu,E,I,asIntOf,str,aR C,h0.1,A];exact Bs this
theorem nI (l:List UInt8):(⟨⟨l⟩⟩:ByteArray).toList=l:=Lib.toList_data ⟨⟨l⟩⟩
theorem cc {t J:aj} {l m:List UInt8} (E:ev N σ x=str l) (I:ev N σ y=str m) (h:l.length+m.length≤9223372036854775807):
 (execOp (ev N σ) ⟨dst,.binOp .add t x y J,ty,pos,af,g⟩).run P w= .ok (.value<|str<|l++m) w:=by
 have A:¬(((⟨⟨l⟩⟩:ByteArray).size+(⟨⟨m⟩⟩:ByteArray).size:Nat):Int) > rM.max:=by
  have :rM.max=9223372036854775807:=aP;rw [this];show ¬((l.length+m.length:Nat):Int) > _;omega
 have C:(⟨⟨l⟩⟩:ByteArray)++(⟨⟨m⟩⟩:ByteArray)=⟨⟨l++m⟩⟩:=by
  apply ByteArray.ext; simp
 simp only [execOp,E,I,str,eqGuard,binOp,my];rw [if_neg A,C];rfl
theorem xT {t E:aj} {l m:List UInt8} (A:ev N σ x=str l) (C:ev N σ y=str m):
 (execOp (ev N σ) ⟨dst,.binOp .eql t x y E,ty,pos,af,g⟩).run P w= .ok (.value<|.bool<|decide (l=m)) w:=by
 simp only [execOp,A,C,str,eqGuard,binOp,my,nI];show pq (pk<|.bool<|l==m) w=_;rw [show (l==m)=decide (l=m) from by rw [kT]; simp]
theorem y9 {t E:aj} {l m:List UInt8} (A:ev N σ x=str l) (C:ev N σ y=str m):
 (execOp (ev N σ) ⟨dst,.binOp .neq t x y E,ty,pos,af,g⟩).run P w= .ok (.value<|.bool<|decide (l≠m)) w:=by
 simp only [execOp,A,C,str,eqGuard,binOp,my,nI];show pq (pk<|.bool<|!(l==m)) w=_;rw [show (!(l==m))=decide (l≠m) from by rw [kT]; simp]
def lX (a b:List UInt8):Bool:=vF a b
theorem H8 (x y:UInt8) (a b:List UInt8):lX (x::a) (y::b)=(decide (x < y) || (x==y && lX a b)):=rfl
theorem F8 {t E:aj} {l m:List UInt8} (A:ev N σ x=str l) (C:ev N σ y=str m):
 (execOp (ev N σ) ⟨dst,.binOp .lss t x y E,ty,pos,af,g⟩).run P w= .ok (.value<|.bool<|lX l m) w:=by
 simp only [execOp,A,C,str,eqGuard,binOp,my,nI];rfl
theorem FU {t E:aj} {l m:List UInt8} (A:ev N σ x=str l) (C:ev N σ y=str m):
 (execOp (ev N σ) ⟨dst,.binOp .leq t x y E,ty,pos,af,g⟩).run P w= .ok (.value<|.bool (lX l m || decide (l=m))) w:=by
 simp only [execOp,A,C,str,eqGuard,binOp,my,nI];show pq (pk<|.bool (vF l m || l==m)) w=_;rw [show (l==m)=decide (l=m) from by rw [kT]; simp];rfl
theorem Fe {t E:aj} {l m:List UInt8} (A:ev N σ x=str l) (C:ev N σ y=str m):
 (execOp (ev N σ) ⟨dst,.binOp .gtr t x y E,ty,pos,af,g⟩).run P w= .ok (.value<|.bool<|!(lX l m || decide (l=m))) w:=by
 simp only [execOp,A,C,str,eqGuard,binOp,my,nI];show pq (pk<|.bool<|!(vF l m || l==m)) w=_;rw [show (l==m)=decide (l=m) from by rw [kT]; simp];rfl
theorem E5 {t E:aj} {l m:List UInt8} (A:ev N σ x=str l) (C:ev N σ y=str m):
 (execOp (ev N σ) ⟨dst,.binOp .geq t x y E,ty,pos,af,g⟩).run P w= .ok (.value<|.bool<|!lX l m) w:=by
 simp only [execOp,A,C,str,eqGuard,binOp,my,nI];rfl
theorem mf {fn:Fn} {first captured:Array az} :(execOp (ev N σ) ⟨dst,.makeFunc fn first captured,ty,pos,af,g⟩).run P w= .ok (.value<|.func fn (first.map<|ev N σ)<|captured.map<|ev N σ) w:=rfl
theorem qG {fn:Fn} {first captured:Array az} :(execOp (ev N σ) ⟨dst,.makeFunc fn first captured,ty,pos,af,g⟩).run P w= .ok (.value<|.func fn (first.toList.map<|ev N σ).toArray (captured.toList.map<|ev N σ).toArray) w:=by
 rw [mf,← gv,← gv]
end
end Go.Hb
namespace Go.Hb
def aC (h:Array Obj) (b:Nat) (L:List ab):Prop := ∃ e,h[b]? =some (.cells L.toArray e (0,0))
theorem aC.ay {h:Array Obj} {b:Nat} {L:List ab} (hb:aC h b L) (j:Nat):Hb.ay h b j=L[j]? :=by
 obtain ⟨e,hb⟩:=hb;rw [dd hb]; simp
theorem aC.bj {h:Array Obj} {b:Nat} {L:List ab} (hb:aC h b L) (j:Nat):Hb.ay h b (0 +j)=L[j]? :=by
 rw [bS,hb.ay]
theorem Md.B {F:Nat→Prop} {w w':ah} (h:Md F w w') {b:Nat} {L:List ab} (hb:aC w.heap b L) (A:¬F b):aC w'.heap b L:=
 let ⟨e,hb⟩:=hb; ⟨e,h.ao hb A⟩
theorem Wk.B {w w':ah} (h:Wk w w') {b:Nat} {L:List ab} (hb:aC w.heap b L):aC w'.heap b L:=Md.B h hb id
theorem aC.lt {h:Array Obj} {b:Nat} {L:List ab} (hb:aC h b L):b < h.size:=by grind [aC]
def bk (a:Option aD):Nat:=match a with | some ad=>ad.block | none=>0
def fo (a:Option aD):Nat:=match a with | some ad=>ad.off | none=>0
structure bh (h:Array Obj) (a:Option aD) (xs:List ab):Prop where
 ok:xs≠[]→a=some ⟨bk a,fo a,none⟩
 ay:∀ j u,xs[j]? =some u→Hb.ay h (bk a) (fo a+j)=some u
theorem bh.nil (h:Array Obj) (a:Option aD):bh h a []:=⟨fun h=>absurd rfl h,fun _ _ hu=>by simp at hu⟩
theorem bh.md {F:Nat→Prop} {w w':ah} {a:Option aD} {xs:List ab} (A:bh w.heap a xs) (h:Md F w w') (C:xs≠[]→¬F (bk a)):bh w'.heap a xs:=
 ⟨A.ok,fun j u hu=>h.ay (A.ay j u hu)<|C<|by rintro rfl; simp at hu⟩
theorem bh.wk {w w':ah} {a:Option aD} {xs:List ab} (A:bh w.heap a xs) (h:Wk w w'):bh w'.heap a xs:=A.md h fun _ x=>x
theorem bh.j3 {h:Array Obj} {b:Nat} {L:List ab} (hb:aC h b L):bh h (some ⟨b,0,none⟩) L:=
 ⟨fun _=>rfl,fun j u hu=>by show Hb.ay h b (0 +j)=_; rw [bS,hb.ay]; exact hu⟩
theorem bh.sw {h:Array Obj} {a:Option aD} {xs:List ab} (A:bh h a xs) {i:Nat} {u:ab} (hu:xs[i]? =some u):Hb.ay h (bk a) (fo a+i*1)=some u:=by
 rw [Nat.mul_one]; exact A.ay i u hu
def eD (h:Array Obj) (a:Option aD) (l:List (List UInt8)):Prop :=bh h a<|l.map str
theorem eD.get {h:Array Obj} {a:Option aD} {l:List (List UInt8)} (A:eD h a l) {i:Nat} (hi:i < l.length):Hb.ay h (bk a) (fo a+i*1)=some (str<|l.getD i []):=
 bh.sw A (by simp [cH,hi])
theorem eD.wk {w w':ah} {a:Option aD} {l:List (List UInt8)} (A:eD w.heap a l) (h:Wk w w'):eD w'.heap a l:=bh.wk A h
theorem qJ {α:Type} {f:α→ab} {l:List α} (h:0 < l.length):l.map f≠[]:=by
 cases l with
 | nil=>simp at h
 | cons x l=>simp
def ez (P:ak) (t e size bytes:Nat):Bool:=
 match P.underlying t with
 | some (.slice A)=>A==e && match P.info? e with
   | some i=>i.size==size && i.bytes==bytes && au 0 size && match i.zero with
     | some z=>z.cells.size==size
     | none=>false
   | none=>false
 | _=>false
theorem lY {P:ak} {t e size bytes:Nat} (h:ez P t e size bytes=true):
 P.underlying t=some (.slice e)∧∃ i z,P.info? e=some i∧i.zero=some z∧i.size=size∧i.bytes=bytes∧z.cells.size=size∧0 < size:=by
 unfold ez at h;split at h
 · rename_i I hu;simp only [aU,beq_iff_eq] at h;obtain ⟨rfl,h⟩:=h;split at h
   · rename_i i hi;simp only [aU,beq_iff_eq] at h;obtain ⟨⟨⟨A,C⟩,h3⟩,h4⟩:=h;split at h4
     · rename_i z E;exact ⟨hu,i,z,hi,E,A,C,by simpa using h4,k9 (kn 0)<|bp h3⟩
     · cases h4
   · cases h
 · cases h
def cE (P:ak) (t:aj):Option Nat:=(P.info? t).map (·.size)
def zeroOf (P:ak) (t:aj):Option (Option<|List ab):=(P.info? t).map fun i=>i.zero.map fun z=>z.cells.toList
def eN (P:ak) (f:dq):Prop := ∀ args w,(callFunc f args).run P w= .ok (.enter f args) w
theorem sL {P:ak} {f:dq} {fn:Func} (E:P.funcs[f]? =some fn) (hn:(fn.name== "runtime.NumGoroutine")=false) (hb:fn.body.isNone=false):eN P f:=by
 intro args w;have A:¬((fn.name== "runtime.NumGoroutine")=true):=by rw [hn]; simp
 have C:¬(fn.body.isNone=true):=by rw [hb]; simp
 simp only [callFunc,fT,run_program,fw,E];rw [if_neg A,if_neg C];rfl
section
variable {P:ak} {N:Fm} {σ:Nat→ab} {w:ah} {dst:Option Nat} {ty:aj} {pos :String} {af:Array bB} {g:Option (Nat×Bool)} {x y z:az} {K:(Nat→ab)→ah→Prop}
theorem AM {o:aq} {f:dq} {L:List ab} {R:ab→ah→Prop} (C:(execOp (ev N σ) o).run P w= .ok (.enter f L.toArray) w) (hr:bf P f L.toArray w R)
 (k:∀ v w',R v w'→K (bV σ o.dst v) w'):bq P N o σ w K:=by
 unfold bq fv;rw [cK,C];refine gy hr fun e w' ⟨v,he,A⟩=> ?_;subst he;exact ⟨_,dV ..,k v w' A⟩
theorem cl {f:dq} {args:Array az} {A:Array aj} {L:List ab} {R:ab→ah→Prop} (E:eN P f) (hr:bf P f L.toArray w R) (C:args.toList.map (ev N σ)=L)
 (k:∀ v w',R v w'→K (bV σ dst v) w'):bq P N ⟨dst,.call ⟨.value (.func f),args,A⟩,ty,pos,af,g⟩ σ w K:=by
 refine AM (f:=f) ?_ hr k;have :args.map (ev N σ)=L.toArray:=by rw [← C,← gv]
 simp [execOp,resolve,ev,kg,invoke,this,E L.toArray w]
theorem xo {f:dq} {fo:az} {first cap:Array ab} {args:Array az} {A:Array aj} {L:List ab} {R:ab→ah→Prop} (E:eN P f) (I:ev N σ fo= .func (.func f) first cap)
 (hr:bf P f L.toArray w R) (C:first.toList++args.toList.map (ev N σ)++cap.toList=L)
 (k:∀ v w',R v w'→K (bV σ dst v) w'):bq P N ⟨dst,.call ⟨.value fo,args,A⟩,ty,pos,af,g⟩ σ w K:=by
 refine AM (f:=f) ?_ hr k;have :first++args.map (ev N σ)++cap=L.toArray:=by rw [← C,← gv,← AY,← AY]
 simp [execOp,resolve,I,kg,invoke,this,E L.toArray w]
theorem jx {o:aq} {ob:Obj} {v:Nat→ab} (A:(execOp (ev N σ) o).run P w= .ok (.value<|v w.heap.size) {w with heap:=w.heap.push ob})
 (k:∀ b w',b=w.heap.size→Nw w w'→w'.heap[b]? =some ob→K (bV σ o.dst<|v b) w'):bq P N o σ w K:=by grind [gu,zb]
theorem al {e:aj} {C:List ab} (A:zeroOf P e=some (some C)) (k:∀ b w',b=w.heap.size→Nw w w'→aC w'.heap b C→K (bV σ dst<|.pointer<|some ⟨b,0,none⟩) w'):
 bq P N ⟨dst,.alloc e,ty,pos,af,g⟩ σ w K:=by
 refine jx (v:=fun b=> .pointer<|some ⟨b,0,none⟩) (ob:= .cells C.toArray e (0,0)) ?_ fun b w' E I J=>k b w' E I ⟨e,J⟩;unfold zeroOf at A;simp only [fB] at A;obtain ⟨i,hi,zv,L,rfl⟩:=A;simp [execOp,rJ,zeroValue,cJ hi,L,newVar,newRow]
theorem iA {e:aj} {C:List ab} (A:zeroOf P e=some (some C)) (k:∀ b w',b=w.heap.size→Nw w w'→w'.heap[b]? =some (.cells C.toArray e (0,0))→K (bV σ dst<|.pointer<|some ⟨b,0,none⟩) w'):
 bq P N ⟨dst,.alloc e,ty,pos,af,g⟩ σ w K:=by
 refine jx (v:=fun b=> .pointer<|some ⟨b,0,none⟩) (ob:= .cells C.toArray e (0,0)) ?_ k;unfold zeroOf at A;simp only [fB] at A;obtain ⟨i,hi,zv,E,rfl⟩:=A;simp [execOp,rJ,zeroValue,cJ hi,E,newVar,newRow]
theorem bx {e:aj} {v:ab} {L:List ab} (J:ev N σ x=v) (I:v.cells.toList=L) (k:∀ b w',b=w.heap.size→Nw w w'→aC w'.heap b L→K (bV σ dst<|.pointer<|some ⟨b,0,none⟩) w'):
 bq P N ⟨dst,.box e x,ty,pos,af,g⟩ σ w K:=by
 subst I;refine jx (v:=fun b=> .pointer<|some ⟨b,0,none⟩) (ob:= .cells v.cells e (0,0)) ?_ fun b w' A C E=>k b w' A C ⟨e,E⟩;simp [execOp,Instr.box,J,newVar,newRow]
theorem y4 {t:aj} (k:∀ b w',b=w.heap.size→Nw w w'→w'.heap[b]? =some (.map #[] 0)→K (bV σ dst<|.map<|some b) w'):bq P N ⟨dst,.makeMap t none,ty,pos,af,g⟩ σ w K:=by
 refine jx (v:=fun b=> .map<|some b) ?_ k;simp [execOp,Instr.makeMap]
theorem wV {t e:aj} {size bytes:Nat} {v:ab} {L:List ab} (V:ez P t e size bytes=true) (U:aG size 1000=true) (aa:ev N σ x=v) (Z:v.cells.size=size)
 (J:v.cells.toList=L) (k:∀ b w',b=w.heap.size→Nw w w'→w'.heap[b]? =some (.cells L.toArray e (0,0))→K (bV σ dst<|.slice (some ⟨b,0,none⟩) 1 1) w'):bq P N ⟨dst,.buildSlice t 1 #[(0,x)],ty,pos,af,g⟩ σ w K:=by
 subst J;refine jx (v:=fun b=> .slice (some ⟨b,0,none⟩) 1 1) (ob:= .cells v.cells e (0,0)) ?_ fun b w' A C E=>k b w' A C<|by simpa using E
 obtain ⟨hu,i,zv,hi,ac,A,C,E,ad⟩:=lY V;have ae:size≤1000:=by simpa using U
 have M:iw (fun i=>some (i*size,size)) ((kf size).map (zv.cells[· % zv.cells.size]!)) [(0,v)]=some v.cells:=by
  have I:((kf size).map (zv.cells[· % zv.cells.size]!)).size=size:=by simp
  generalize (kf size).map (zv.cells[· % zv.cells.size]!)=cs at I;simp only [iw,Z];rw [if_neg (by rw [I]; simp)];congr 1;have key:∀ (l:List ab) (m:Nat) (cs:Array ab),m+l.length≤cs.size→∀ j,((l.zipIdx m).foldl (fun (cs:Array ab) (c,j)=>cs.setIfInBounds (0 *size+j) c) cs)[j]? =if j < m then cs[j]? else if j < m+l.length then l[j - m]? else cs[j]? :=by
   intro l
   induction l with
   | nil=>intro m cs hm j; simp; intro A C; omega
   | cons c l ih=>
     intro m cs hm j;simp only [B8,pB,bZ] at hm ⊢;rw [ih (m+1) _ (by simp; omega)];simp only [n7,bS,pb];by_cases A:j < m
     · rw [if_pos ag,if_pos A,if_neg ag]
     · rw [if_neg A];by_cases C:j=m
       · subst C;rw [if_pos ag,if_pos rfl,if_pos ag,if_pos ag];simp
       · rw [if_neg ag];by_cases E:j < m+1 +l.length
         · rw [if_pos E,if_pos ag];obtain ⟨q,O⟩:∃ q,j - m=q+1:=⟨j - m - 1,ag⟩
           rw [O,fU,show j - (m+1)=q from by omega]
         · rw [if_neg E,if_neg ag,if_neg ag]
  apply rz;intro j;have :=key v.cells.toList 0 cs (by simp; omega) j;rw [show (v.cells.zipIdx.foldl (fun (cs:Array ab) (c,j)=>cs.setIfInBounds (0 *size+j) c) cs)=((v.cells.toList.zipIdx 0).foldl (fun (cs:Array ab) (c,j)=>cs.setIfInBounds (0 *size+j) c) cs) from by
   rw [← Array.foldl_toList]; simp [Array.toList_zipIdx]]
  rw [this];simp only [Nat.not_lt_zero,if_false,bS,Nat.sub_zero,Array.length_toList,Array.getElem?_toList];split
  · rfl
  · rw [rA ag,rA ag]
 simp only [execOp,rK,fT,aR hu,fw,sizeOf,cJ hi,iS,A,Nat.one_mul,pv,zeroValue,ac,List.map_toArray,da,List.map_nil,aa,M];rw [if_neg (by rw [show (2:Nat) ^ 24=16777216 from rfl]; omega),if_neg ag];simp [newRow]
theorem wW {t e:aj} {size bytes:Nat} {v:ab} {L:List ab} (M:ez P t e size bytes=true) (J:aG size 1000=true) (U:ev N σ x=v) (O:v.cells.size=size)
 (I:v.cells.toList=L) (k:∀ b w',b=w.heap.size→Nw w w'→aC w'.heap b L→K (bV σ dst<|.slice (some ⟨b,0,none⟩) 1 1) w'):bq P N ⟨dst,.buildSlice t 1 #[(0,x)],ty,pos,af,g⟩ σ w K:=
 wV M J U O I fun b w' A C E=>k b w' A C ⟨_,E⟩
theorem kN {v:ab} (h:v.oneCell'=true):v.cells= #[v]:=by cases v <;> first | rfl | (cases h; done)
theorem x7 {loc:Nat→Option (Nat×Nat)} (C:∀ i,loc i=some (i*1,1)):∀ (rest pre A:List ab),A.length=rest.length→rest.all jC=true→
 iw loc (pre++A).toArray ((rest.zipIdx pre.length).map fun q=>(q.2,q.1))=some (pre++rest).toArray
 | [],pre,A,hl,_=>by
   rw [iU hl]; rfl
 | v::r,pre,A,hl,h1=>by
   cases A with
   | nil=>simp at hl
   | cons z A=>
     rw [rQ,aU] at h1;have E:=kN h1.1;have ih:=x7 C r (pre++ [v]) A (by simpa using hl) h1.2;simp only [B8,da,iw,C,E];rw [if_neg (by simp)];simp only [bK,gY,List.append_assoc,List.singleton_append] at ih;rw [← ih];simp
theorem C0 {t e bytes n:Nat} {ps:Array (Nat×az)} {L:List ab} (J:ez P t e 1 bytes=true) (hp:ps.toList.map (fun p=>(p.1,ev N σ p.2))=(L.zipIdx 0).map fun q=>(q.2,q.1)) (C:L.all jC=true) (hn:L.length=n) (A:(aG n 1000 && au 0 n)=true)
 (k:∀ b w',b=w.heap.size→Nw w w'→w'.heap[b]? =some (.cells L.toArray e (0,0))→K (bV σ dst<|.slice (some ⟨b,0,none⟩) n n) w'):bq P N ⟨dst,.buildSlice t n ps,ty,pos,af,g⟩ σ w K:=by
 subst hn;refine jx (v:=fun b=> .slice (some ⟨b,0,none⟩) L.length L.length) (ob:= .cells L.toArray e (0,0)) ?_ k;obtain ⟨hu,i,zv,hi,M,E,U,V,Z⟩:=lY J;simp only [aU] at A;have aa:L.length≤1000:=by simpa using A.1
 have ac:0 < L.length:=by have :=bp A.2; omega
 have I:iw (fun i=>some (i*1,1)) ((kf<|L.length*1).map (zv.cells[· % zv.cells.size]!)) (ps.toList.map fun p=>(p.1,ev N σ p.2))=some L.toArray:=by
  rw [hp];have O:((kf<|L.length*1).map (zv.cells[· % zv.cells.size]!)).toList.length=L.length:=by simp
  have :=x7 (loc:=fun i=>some (i*1,1)) (fun _=>rfl) L [] ((kf<|L.length*1).map (zv.cells[· % zv.cells.size]!)).toList O C;rw [r8,r8,vC] at this;exact this
 simp only [execOp,rK,fT,aR hu,fw,sizeOf,cJ hi,iS,E,pv,zeroValue,M,gv,I];rw [if_neg (by rw [show (2:Nat) ^ 24=16777216 from rfl]; omega),if_neg ag];simp [newRow]
theorem oh {t e:aj} {bytes:Nat} {v:ab} (C:ez P t e 1 bytes=true) (E:ev N σ x=v) (A:v.oneCell'=true)
 (k:∀ b w',b=w.heap.size→Nw w w'→aC w'.heap b [v]→K (bV σ dst<|.slice (some ⟨b,0,none⟩) 1 1) w'):bq P N ⟨dst,.buildSlice t 1 #[(0,x)],ty,pos,af,g⟩ σ w K:=
 wW C rfl E (by rw [kN A]; rfl) (by rw [kN A]) k
theorem sE {t e:aj} {size bytes:Nat} {L:List ab} (E:ez P t e size bytes=true) (C:aG size 1000=true) (I:ev N σ x= .agg L.toArray) (A:L.length=size)
 (k:∀ b w',b=w.heap.size→Nw w w'→aC w'.heap b L→K (bV σ dst<|.slice (some ⟨b,0,none⟩) 1 1) w'):bq P N ⟨dst,.buildSlice t 1 #[(0,x)],ty,pos,af,g⟩ σ w K:=
 wW E C I (by simpa [pw] using A) (by simp [pw]) k
theorem wY {e:aj} {v:ab} (C:ev N σ x=v) (A:v.oneCell'=true) (k:∀ b w',b=w.heap.size→Nw w w'→aC w'.heap b [v]→K (bV σ dst<|.pointer<|some ⟨b,0,none⟩) w'):
 bq P N ⟨dst,.box e x,ty,pos,af,g⟩ σ w K:=bx C (by rw [kN A]) k
theorem sF {e:aj} {L:List ab} (A:ev N σ x= .agg L.toArray) (k:∀ b w',b=w.heap.size→Nw w w'→aC w'.heap b L→K (bV σ dst<|.pointer<|some ⟨b,0,none⟩) w'):
 bq P N ⟨dst,.box e x,ty,pos,af,g⟩ σ w K:=bx A (by simp [pw]) k
theorem xa {e:aj} {L:List ab} (I:ev N σ x= .agg L.toArray) (k:∀ b w',b=w.heap.size→Nw w w'→w'.heap[b]? =some (.cells L.toArray e (0,0))→K (bV σ dst<|.pointer<|some ⟨b,0,none⟩) w'):
 bq P N ⟨dst,.box e x,ty,pos,af,g⟩ σ w K:=by
 refine jx (v:=fun b=> .pointer<|some ⟨b,0,none⟩) (ob:= .cells L.toArray e (0,0)) ?_ fun b w' A C E=>k b w' A C E;simp [execOp,Instr.box,I,newVar,newRow,pw]
theorem pQ {l:List ab} (h:l.all jC=true):∀ u∈l,u.oneCell'=true :=BB.1 h
theorem fM {t b off :Nat} {e:aj} {L:List ab} {v:ab} (A:cE P t=some 1) (ae:ev N σ x= .pointer (some ⟨b,off,none⟩)) (ag:ev N σ y=v) (C:v.oneCell'=true) (hb:w.heap[b]? =some (.cells L.toArray e (0,0))) (Z:off < L.length)
 (k:∀ w',Md (fun k=>k=b) w w'→w'.heap[b]? =some (.cells (L.set off v).toArray e (0,0))→K σ w'):bq P N ⟨none,.store t x y,ty,pos,af,g⟩ σ w K:=by
 have I:v.cells= #[v]:=by cases v <;> first | rfl | (cases C; done)
 have J:w.cell? ⟨b,off,none⟩=some L[off]:=by rw [fZ,dd hb]; simp [Z]
 have M:w.frozen? ⟨b,off,none⟩=false :=by simp only [World.frozen?,show w.heap[b]? =_ from hb]; simp
 unfold cE at A;simp only [fB] at A;obtain ⟨i,hi,ac⟩:=A;have E:(⟨b,off,none⟩:aD).add 0=⟨b,off,none⟩:=rfl;have aa:(execOp (ev N σ) ⟨none,.store t x y,ty,pos,af,g⟩).run P w= .ok .skip (w.setCell ⟨b,off,none⟩ v):=by
  simp [execOp,Bk,ae,ag,nS,storeVar,I,sizeOf,cJ hi,ac,storeCells,E,run_store P w _ v _ C,J,M]
 unfold bq fv;rw [cK,aa];refine ⟨σ,U,k _ ⟨U,U,by simp [rP],fun k _ O=> ?_⟩ ?_⟩
 · exact Below.heap_setCell w _ v k O
 · have V:=(bI.1 hb).1;have ad:w.heap[b]= .cells L.toArray e (0,0):=(bI.1 hb).2;simp only [rP];rw [mh (by simpa using V),Array.getElem_modify];simp [ad,List.setIfInBounds_toArray]
theorem st {t b off :Nat} {L:List ab} {v:ab} (M:cE P t=some 1) (I:ev N σ x= .pointer (some ⟨b,off,none⟩)) (J:ev N σ y=v) (A:v.oneCell'=true) (hb:aC w.heap b L) (E:off < L.length)
 (k:∀ w',Md (fun k=>k=b) w w'→aC w'.heap b (L.set off v)→K σ w'):bq P N ⟨none,.store t x y,ty,pos,af,g⟩ σ w K:=
 let ⟨_,hb⟩:=hb
 fM M I J A hb E fun w' A C=>k w' A ⟨_,C⟩
theorem ka {t b off n:Nat} {e:aj} {L vs:List ab} (A:cE P t=some n) (M:ev N σ x= .pointer (some ⟨b,off,none⟩)) (O:ev N σ y= .agg vs.toArray) (hn:vs.length=n) (C:vs.all jC=true) (hb:w.heap[b]? =some (.cells L.toArray e (0,0))) (V:off+n≤L.length)
 (k:∀ w',Md (fun k=>k=b) w w'→w'.heap[b]? =some (.cells (L.take off++vs++L.drop (off+n)).toArray e (0,0))→K σ w'):bq P N ⟨none,.store t x y,ty,pos,af,g⟩ σ w K:=by
 unfold cE at A;simp only [fB] at A;obtain ⟨i,hi,J⟩:=A;have bu:=run_storeCells_at P b off e vs 0 L.toArray w hb (by simp; omega)<|pQ C;have I:(execOp (ev N σ) ⟨none,.store t x y,ty,pos,af,g⟩).run P w= .ok .skip (w.setRow b (L.take off++vs++L.drop (off+n)).toArray):=by
  simp [execOp,Bk,M,O,nS,storeVar,pw,sizeOf,cJ hi,J,hn,bu]
 unfold bq fv;rw [cK,I];exact ⟨σ,U,k _ ⟨U,U,by simp,fun k _ E=>setRow_other w b k _ E⟩<|setRow_heap w b _ _ e _ hb⟩
theorem CI {t ty e:aj} {i:TypeInfo} {zv:ab} {B n m c:Nat} {v Z:ab} {xs news:List ab} {ad:aD} {w':ah} (hu:P.underlying t=some (.slice e)) (hi:P.info? e=some i) (V:i.zero=some zv) (am:zv.cells.size=i.size) (ak:0 < i.size)
 (I:w.ownsRow B e i.size v n xs) (E:news.length=m*i.size) (J:∀ j u,news[j]? =some u→w.cell? (ad.add j)=some u) (L:∀ u∈news,u.oneCell'=true) (M:n+m≤maxLen) (hb:(n+m)*i.bytes≤140737488355328)
 (hr:(iQ #[t,t] ty #[v,.slice (some ad) m c]).run P w= .ok Z w'):∀ k,Z.ownBlock=some k→v.ownBlock=some k∨w.heap.size≤k:=by
 intro k A;have an:n+m≤9223372036854775807:=by unfold maxLen at M; omega
 rcases I.2 with ⟨rfl,rfl⟩ | ⟨C,cap,cur,rfl,ap,ai,ar,aq,ac,au⟩
 · have al:xs= []:=iU<|by simpa using I.1
   subst al;obtain ⟨v2,av,O,aa,_,_⟩:=run_append_own (P:=P) w w.heap.size t ty e i zv i.size i.bytes hu hi V rfl rfl am ak _ 0 [] (jD w w.heap.size e i.size) ad m c news E J L M hb (aO _);rw [hr] at O;cases O;exact .inr (by
    rcases aa.2 with ⟨h,_⟩ | ⟨g2,_,_,h,ao,_⟩
    · rw [h] at A; simp [cG] at A
    · rw [h] at A; simp only [cG,aY] at A; omega)
 · by_cases U:n+m≤cap
   · have ae:n*i.size+news.length≤cur.size:=by rw [E,ac,← Nat.add_mul]; exact Nat.mul_le_mul_right _ U
     rw [run_append_room (P:=P) w t ty e i hu hi C n cap cur ai ad m c news E J L U ae] at hr;cases hr;exact .inl A
   · have holds:∀ j u,xs[j]? =some u→w.cell? ((⟨C,0,none⟩:aD).add j)=some u:=I.cells (g:=C) rfl;rw [run_append_grow (P:=P) w t ty e i zv hu hi V ⟨C,0,none⟩ n cap xs I.1 holds ad m c news E J ag ag (growslice_fits ag hb)] at hr;cases hr;simp only [cG,aY] at A;exact .inr ag
theorem ap {t e size bytes B n m c:Nat} {v:ab} {xs news:List ab} {a:Option aD} (ao:ez P t e size bytes=true) (E:w.ownsRow B e size v n xs) (aa:ev N σ x=v) (ai:B≤w.heap.size)
 (ac:ev N σ y= .slice a m c) (M:bh w.heap a news) (I:news.length=m*size) (J:news.all jC=true) (hb:(n+m)*bytes≤140737488355328) (au:n+m≤9223372036854775807)
 (k:∀ A w',w'.ownsRow B e size A (n+m) (xs++news)→Md (fun k=>v.ownBlock=some k) w w'→(A= .slice none 0 0↔v= .slice none 0 0∧m=0)→(∀ k,A.ownBlock=some k→v.ownBlock=some k∨w.heap.size≤k)→K (bV σ dst A) w'):
 bq P N ⟨dst,.call ⟨.builtin .append,#[x,y],#[t,t]⟩,ty,pos,af,g⟩ σ w K:=by
 obtain ⟨hu,i,zv,hi,ad,Z,L,ae,V⟩:=lY ao;have O:n+m≤maxLen:=by unfold maxLen; omega
 by_cases hm:news= []
 · subst hm;have al:m=0:=by
    rcases Nat.mul_eq_zero.1 (I.symm.trans rfl) with h | h
    · exact h
    · omega
   subst al;have an:(iQ #[t,t] ty #[v,.slice a 0 c]).run P w= .ok v w:=by
    rcases E.2 with ⟨rfl,rfl⟩ | ⟨ar,cap,cur,rfl,_,_,hle,_⟩
    · cases a <;> simp [iQ,aR hu,sizeOf,cJ hi,A2,rI,loadCells,loadCellsFrom]
    · cases a <;> simp [iQ,aR hu,sizeOf,cJ hi,A2,rI,loadCells,loadCellsFrom,hle,storeCells]
   refine gu (w':=w) (v:=v) ?_<|k v w (by simpa using E) (Md.refl _ _) (by simp) fun _ h=> .inl h;simp [execOp,resolve,invoke,builtin,aa,ac,an]
 · have ha:=M.ok hm;have U:∀ j u,news[j]? =some u→w.cell? ((⟨bk a,fo a,none⟩:aD).add j)=some u:=fun j u hu=>by rw [dt,fZ]; exact M.ay j u hu
   obtain ⟨A,w',hr,ag,C,ah⟩:=run_append_own (P:=P) w B t ty e i zv size bytes hu hi ad Z L ae V v n xs E ⟨bk a,fo a,none⟩ m c news I U (pQ J) O hb ai;subst Z L;have aj:=CI hu hi ad ae V E I U (pQ J) O hb hr;refine gu (w':=w') (v:=A) ?_<|k A w' ag ⟨C.os,C.output,C.size,fun k ak am=>C.block k ak fun e=>am e.symm⟩ ah aj;have aq:ev N σ y= .slice (some ⟨bk a,fo a,none⟩) m c:=ac.trans<|congrArg (fun a=>eJ a m c) ha;simp [execOp,resolve,invoke,builtin,aa,aq,hr]
theorem jh {t n len cap:Nat} {k:bc} {i:Int} {a:Option aD} (he:cO P t=some n) (A:ev N σ x= .slice a len cap) (C:ev N σ y= .int k i) (h0:0≤i∧i < len) (ha:a=some ⟨bk a,fo a,none⟩):
 (execOp (ev N σ) ⟨dst,.indexAddr t x y,ty,pos,af,g⟩).run P w= .ok (.value<|.pointer<|some ⟨bk a,fo a+i.toNat*n,none⟩) w:=
 ia he (by rw [A]; congr 1) C h0
end
theorem cR {F:Nat→Prop} {w w':ah} {B e size n:Nat} {v:ab} {xs:List ab} (h:w.ownsRow B e size v n xs) (hm:Md F w w') (A:∀ k,v.ownBlock=some k→¬F k):w'.ownsRow B e size v n xs:=by
 refine ⟨h.1,?_⟩;rcases h.2 with hn | ⟨g,cap,cur,rfl,hb,C,rest⟩
 · exact .inl hn
 · exact .inr ⟨g,cap,cur,U,hb,hm.ao C (A g U),rest⟩
section
variable {P:ak} {N:Fm} {σ:Nat→ab} {w:ah} {dst:Option Nat} {ty:aj} {pos :String} {af:Array bB} {g:Option (Nat×Bool)} {x y z:az} {K:(Nat→ab)→ah→Prop}
end
theorem GS {w:ah} {B e size n:Nat} {v:ab} {xs:List ab} (h:w.ownsRow B e size v n xs):v.oneCell'=true :=by
 rcases h.2 with ⟨rfl,_⟩ | ⟨g,cap,cur,rfl,_⟩ <;> rfl
theorem iP {w:ah} {B e size n:Nat} {v:ab} {xs:List ab} (h:w.ownsRow B e size v n xs):∃ a cap,v= .slice a n cap:=by
 rcases h.2 with ⟨rfl,rfl⟩ | ⟨g,cap,cur,rfl,_⟩
 · exact ⟨_,_,U⟩
 · exact ⟨_,_,U⟩
theorem dk {w w':ah} {B e size n:Nat} {v:ab} {xs:List ab} (h:w.ownsRow B e size v n xs) (hm:Wk w w'):w'.ownsRow B e size v n xs:=cR h hm fun _ _ x=>x
theorem dF {w:ah} {B e size n:Nat} {v:ab} {xs:List ab} (h:w.ownsRow B e size v n xs) {k:Nat} (A:v.ownBlock=some k):B≤k∧k < w.heap.size:=h.lt k A
theorem Wk.own {w0 w w':ah} {B e size n:Nat} {v:ab} {xs:List ab} (h:Wk w0 w) (A:w.ownsRow B e size v n xs) (hm:Md (fun k=>v.ownBlock=some k) w w') (E:w0.heap.size≤B):Wk w0 w':=
 Md.trans' h hm (fun k I C=>by have :=(dF A C).1; omega)
theorem oU {w:ah} {B e size n:Nat} {v:ab} {xs:List ab} (h:w.ownsRow B e size v n xs):∃ a cap,v= .slice a n cap∧bh w.heap a xs∧n≤cap∧(∀ k,v.ownBlock=some k→a=some ⟨k,0,none⟩∧B≤k∧k < w.heap.size)∧(v.ownBlock=none→xs= []):=by
 rcases h.2 with ⟨rfl,rfl⟩ | ⟨g,cap,cur,rfl,hb,C,hle,_,_,E⟩
 · have :xs= []:=iU<|by simpa using h.1
   subst this;exact ⟨none,0,U,bh.nil _ _,aO _,fun k A=>by simp [cG] at A,fun _=>rfl⟩
 · refine ⟨_,cap,U,⟨fun _=>rfl,fun j u hu=> ?_⟩,hle,fun k A=> ?_,fun A=>by simp [cG] at A⟩
   · show ay w.heap g (0 +j)=_;rw [bS,dd C];rw [← E,gW] at hu;split at hu
     · simpa using hu
     · cases hu
   · simp only [cG,aY] at A; subst A;exact ⟨U,hb,(bI.1 C).1⟩
theorem fk {w:ah} {B e size n cap:Nat} {a:Option aD} {xs:List ab} (h:w.ownsRow B e size (.slice a n cap) n xs):n≤cap∧bh w.heap a xs:=by grind [oU]
theorem GR {w:ah} {B B' e size n:Nat} {v:ab} {xs:List ab} (h:w.ownsRow B e size v n xs) (E:B'≤B):w.ownsRow B' e size v n xs:=by
 refine ⟨h.1,?_⟩;rcases h.2 with h | ⟨g,cap,cur,A,C,r⟩
 · exact .inl h
 · exact .inr ⟨g,cap,cur,A,bX E C,r⟩
theorem bh.drop {h:Array Obj} {a:Option aD} {xs:List ab} (C:bh h a xs) {cap k size:Nat} (I:xs.length≤cap*size):bh h (cF a cap k size) (xs.drop<|k*size):=by
 unfold cF;by_cases A:cap=k
 · rw [if_pos A,List.drop_eq_nil_of_le (by rw [← A]; exact I)]; exact bh.nil _ _
 · rw [if_neg A];by_cases E:xs= []
   · subst E; rw [List.drop_nil]; exact bh.nil _ _
   · have ha:=C.ok E;rw [ha];simp only [dg,dt];refine ⟨fun _=>rfl,fun j u hu=> ?_⟩;rw [List.getElem?_drop] at hu;have :=C.ay _ _ hu;show Hb.ay h (bk a) (fo a+k*size+j)=_;rw [eY]; exact this
section
variable {P:ak} {N:Fm} {σ:Nat→ab} {w:ah} {dst:Option Nat} {ty:aj} {pos :String} {af:Array bB} {g:Option (Nat×Bool)} {x y z:az} {K:(Nat→ab)→ah→Prop}
end
end Go.Hb
namespace Go.Hb
section
variable {P:ak} {md:mz} {ops:Array aq} {Q:aK→Act→ah→Prop} {S:ah→Prop} {r:Nat}
def kd (P:ak) (md:mz) (ops:Array aq) (Q:aK→Act→ah→Prop) (S:ah→Prop) (r:Nat):Nat→Array Bool→Act→ah→Prop
 | 0,listed,a,w=>dB md ops listed= []∧Q .normal a w
 | fuel+1,listed,a,w=>
   (dB md ops listed= []→Q .normal a w)∧
   ∀ i∈dB md ops listed,wpOp P ops Q i (fun A w'=>((listed.setIfInBounds i true).getD r false =false→S w')∧kd P md ops Q S r fuel (listed.setIfInBounds i true) A w') a w
theorem AJ:∀ (fuel:Nat) (listed:Array Bool) (a:Act) (w:ah),kd P md ops Q S r fuel listed a w→wpAny P md ops Q fuel listed a w
 | 0,_,_,_,h=>h
 | fuel+1,_,_,_,h=>⟨h.1,fun i hi=>wpOp_mono (fun A w' C=>AJ fuel _ A w' C.2)<|h.2 i hi⟩
theorem Jt {i:Nat} {I:aq} {v:ab} (hi:ops[i]? =some I) (ak:∀ (j:Nat) (o:aq) cs b,ops[j]? =some o→o.op≠.select cs b)
 (ao:∀ c a w,Q (.panic c) (a.put I.dst v) w→Q (.panic c) a w) (aA:∀ o,ops[r]? =some o→∃ x∈o.after,c9 md x=true∧x.on=i) (au:i≠r):
 ∀ (fuel:Nat) (listed:Array Bool) (a:Act) (w:ah),
   (∀ j C,ops[j]? =some C→j≠i→listed.getD j true =false→(∀ x∈C.after,c9 md x=true→x.on≠i)→I.apart ops C=true)→
   i∈dB md ops listed→YieldsIf P ops S I v a→S w→listed.getD r false =false→
   kd P md ops Q S r fuel (listed.setIfInBounds i true) (a.put I.dst v) w→kd P md ops Q S r (fuel+1) listed a w:=by
 intro fuel
 induction fuel with
 | zero=>
   intro listed a w _ hr U J _ H;refine ⟨fun h=>(by rw [h] at hr; cases hr),fun j M=> ?_⟩;by_cases A:j=i
   · subst A; exact U.wpOp hi J ⟨fun _=>J,H⟩
   · have :=ready_mono M A;rw [H.1] at this;cases this
 | succ fuel ih=>
   intro listed a w aa hr U J ag H;refine ⟨fun h=>(by rw [h] at hr; cases hr),fun j M=> ?_⟩;by_cases A:j=i
   · subst A; exact U.wpOp hi J ⟨fun _=>J,H⟩
   · have E:=H.2 j<|ready_mono M A;obtain ⟨ae,C,O,ap⟩:=mem_ready.1 M;have aj:∀ x∈C.after,c9 md x=true→x.on≠i:=fun x Z hb heq=>by
      have E:=ap x Z hb;have h0:=(mem_ready.1 hr).1;rw [heq] at E;rcases dU i listed.size with V | V
      · simp [V] at h0 E; rw [h0] at E; cases E
      · simp [rA V] at E
     have ad:j≠r:=by
      rintro rfl;obtain ⟨x,Z,hb,az⟩:=aA C O;exact aj x Z hb az
     have ax:(listed.setIfInBounds j true).getD r false =false :=by rw [getD_set_ne false ad]; exact ag
     have ai:((listed.setIfInBounds i true).setIfInBounds j true).getD r false =false :=by rw [getD_set_ne false ad,getD_set_ne false au]; exact ag
     have an:=wpOp_putIf O (aa j C O A ae aj) (fun cs b=>ak i I cs b hi) (fun cs b=>ak j C cs b O) ao U E;have ar:∀ k ok,ops[k]? =some ok→k≠i→(listed.setIfInBounds j true).getD k true =false→
      (∀ x∈ok.after,c9 md x=true→x.on≠i)→I.apart ops ok=true :=fun k ok av aw al ay=>by
      refine aa k ok av aw ?_ ay;by_cases ac:j=k
      · subst ac; exact ae
      · rw [getD_set_ne true ac] at al; exact al
     refine wpOp_mono (fun am w' L=>⟨fun _=>L.2.1 ai,ih (listed.setIfInBounds j true) am w' ar (ready_mono hr<|Ne.symm A) L.1 (L.2.1 ai) ax ?_⟩) an;rw [vB _ _ A];exact L.2.2
end
section
variable {P:ak} {N:Fm} {ops:Array aq} {Q:aK→(Nat→ab)→ah→Prop} {σ:Nat→ab} {w:ah} {S:ah→Prop} {r fuel:Nat} {listed:Array Bool}
 {d':Option Nat} {d:Nat} {op:Op} {ty:aj} {pos :String} {af:Array bB} {v:ab}
def bJ (P:ak) (N:Fm) (ops:Array aq) (Q:aK→(Nat→ab)→ah→Prop) (S:ah→Prop) (r fuel:Nat) (listed:Array Bool) (σ:Nat→ab) (w:ah):Prop :=
 kd P .any ops (lift N Q) S r fuel listed (act N σ) w
theorem qB {id:Nat} {l:List aq} (S:ah→Prop) (r:Nat) (hr:jo N.r l=true) (hm:P.follows .mixedOrders=true) (A:S w.drew) (h:bJ P N l.toArray Q S r l.length (nN l.length false) σ w.drew):ba P N (.region id l.toArray true) Q σ w:=by
 exact wG hr hm<|AJ _ _ _ _<|by rw [dP]; exact h
def mZ (F:List Nat) (ops:Array aq) (listed:Array Bool) (r i:Nat):Bool:=
 dQ F ops listed i && !(listed.getD r false) && i !=r && (match ops[r]? with | some o=>o.after.toList.any (fun x=>c9 .any x && x.on==i) | none=>false)
theorem lq (i:Nat) (hi:ops[i]? =some ⟨some d,op,ty,pos,af,none⟩) (C:mZ N.F ops listed r i=true)
 (U:∀ w,S w→(execOp (ev N σ) ⟨some d,op,ty,pos,af,none⟩).run P w= .ok (.value v) w) (A:S w)
 (k:bJ P N ops Q S r fuel (listed.setIfInBounds i true) (aI σ d v) w):bJ P N ops Q S r (fuel+1) listed σ w:=by
 simp only [mZ,dQ,aU,jy,bne_iff_ne,ne_eq] at C;obtain ⟨⟨⟨⟨⟨⟨J,L⟩,hf3⟩,hfF⟩,hf4⟩,hf5⟩,hf6⟩:=C;rw [hi] at hfF;refine Jt hi (vI J) (fun c a w=>lO hfF c a w) (fun o M=> ?_) hf5 fuel listed _ w (vH hi L) (by simpa using hf3) (.inl ⟨eB _ rfl _,fun w A=> ?_⟩) A hf4 ?_ (v:=v)
 · rw [M] at hf6;simp only [BD,aU,beq_iff_eq] at hf6;obtain ⟨x,O,E,I⟩:=hf6;exact ⟨x,rD.1 O,E,I⟩
 · rw [cK]; exact U w A
 · rw [dV]; exact k
theorem yE (i:Nat) (hi:ops[i]? =some ⟨d',op,ty,pos,af,none⟩) (hr:ik ops listed i=true)
 (h:bq P N ⟨d',op,ty,pos,af,none⟩ σ w (fun σ w=>((listed.setIfInBounds i true).getD r false =false→S w)∧bJ P N ops Q S r fuel (listed.setIfInBounds i true) σ w)):bJ P N ops Q S r (fuel+1) listed σ w:=by
 have C:dB .any ops listed= [i]:=by simpa [ik] using hr
 refine ⟨fun h0=>absurd (C ▸ h0) (by simp),fun k A=> ?_⟩;rw [C] at A;obtain rfl :k=i:=by simpa using A
 unfold wpOp;simp only [hi];rw [if_pos (eB _ rfl _)];exact .inl<|o6 h fun _ _ A=>A
theorem qy (i:Nat) (hi:ops[i]? =some ⟨d',op,ty,pos,af,none⟩) (hr:ik ops listed i=true)
 (h:bq P N ⟨d',op,ty,pos,af,none⟩ σ w (fun σ w=>S w∧bJ P N ops Q S r fuel (listed.setIfInBounds i true) σ w)):bJ P N ops Q S r (fuel+1) listed σ w:=by grind [yE,AN]
theorem oI (i:Nat) (hi:ops[i]? =some ⟨d',op,ty,pos,af,none⟩) (hr:ik ops listed i=true) (C:(listed.setIfInBounds i true).getD r false =true)
 (h:bq P N ⟨d',op,ty,pos,af,none⟩ σ w (fun σ w=>bJ P N ops Q S r fuel (listed.setIfInBounds i true) σ w)):bJ P N ops Q S r (fuel+1) listed σ w:=
 yE i hi hr (AN h fun _ _ A=>⟨fun h0=>absurd (h0.symm.trans C) dn,A⟩)
theorem oJ (hr:(dB .any ops listed).isEmpty=true) (h:Q .normal σ w):bJ P N ops Q S r fuel listed σ w:=by
 have A:dB .any ops listed= []:=by simpa using hr
 cases fuel with
 | zero=>exact ⟨A,σ,rfl,h⟩
 | succ fuel=>exact ⟨fun _=>⟨σ,rfl,h⟩,by rw [A]; simp⟩
attribute [irreducible] bJ
end
end Go.Hb
namespace Go.Hb
section
variable {P:ak} {md:mz} {ops:Array aq} {Q:aK→Act→ah→Prop} {S:ah→Prop} {r:Nat}
inductive lk (md:mz) (ops:Array aq) (i:Nat):Nat→Prop
 | one {r o e} :ops[r]? =some o→e∈o.after→c9 md e=true→e.on=i→lk md ops i r
 | more {r o e} :ops[r]? =some o→e∈o.after→c9 md e=true→lk md ops i e.on→lk md ops i r
def lj (md:mz) (ops:Array aq) (listed:Array Bool):Prop := ∀ (j:Nat) (o:aq),ops[j]? =some o→listed.getD j false =true→∀ e∈o.after,c9 md e=true→listed.getD e.on false =true
theorem yp {listed:Array Bool} {j k:Nat} (h:listed.getD k false =true):(listed.setIfInBounds j true).getD k false =true :=by
 by_cases e:j=k
 · subst e;by_cases A:j < listed.size
   · simp [A]
   · simp [A] at h
 · rw [getD_set_ne false e]; exact h
theorem lj.set {listed:Array Bool} {j:Nat} (h:lj md ops listed) (J:j∈dB md ops listed):lj md ops (listed.setIfInBounds j true):=by
 intro k o A E e he hb;obtain ⟨_,M,L,I⟩:=mem_ready.1 J;by_cases C:j=k
 · subst C;rw [L] at A; cases A;exact yp<|I e he hb
 · rw [getD_set_ne false C] at E;exact yp<|h k o A E e he hb
theorem lk.listed {listed:Array Bool} {i r:Nat} (L:lk md ops i r) (J:lj md ops listed) (ha:∀ o,ops[r]? =some o→∀ e∈o.after,c9 md e=true→listed.getD e.on false =true):listed.getD i false =true :=by
 induction L with
 | one A C E I=>rw [← I]; exact ha _ A _ C E
 | more A C E _ ih=>exact ih fun o M e he hb=>J _ o M (ha _ A _ C E) e he hb
theorem Js {i:Nat} {C:aq} {v:ab} (hi:ops[i]? =some C) (am:∀ (j:Nat) (o:aq) cs b,ops[j]? =some o→o.op≠.select cs b)
 (ar:∀ c a w,Q (.panic c) (a.put C.dst v) w→Q (.panic c) a w) (au:lk md ops i r) (aw:i≠r):
 ∀ (fuel:Nat) (listed:Array Bool) (a:Act) (w:ah),lj md ops listed→
   (∀ j E,ops[j]? =some E→j≠i→listed.getD j true =false→(∀ x∈E.after,c9 md x=true→x.on≠i)→C.apart ops E=true)→
   i∈dB md ops listed→YieldsIf P ops S C v a→S w→listed.getD r false =false→
   kd P md ops Q S r fuel (listed.setIfInBounds i true) (a.put C.dst v) w→kd P md ops Q S r (fuel+1) listed a w:=by
 intro fuel
 induction fuel with
 | zero=>
   intro listed a w _ _ hr U I _ H;refine ⟨fun h=>(by rw [h] at hr; cases hr),fun j J=> ?_⟩;by_cases A:j=i
   · subst A; exact U.wpOp hi I ⟨fun _=>I,H⟩
   · have :=ready_mono J A;rw [H.1] at this;cases this
 | succ fuel ih=>
   intro listed a w aa ac hr U I aj H;refine ⟨fun h=>(by rw [h] at hr; cases hr),fun j J=> ?_⟩;by_cases A:j=i
   · subst A; exact U.wpOp hi I ⟨fun _=>I,H⟩
   · have L:=H.2 j<|ready_mono J A;obtain ⟨ai,E,O,Z⟩:=mem_ready.1 J;have ad:listed.getD i false =false :=by
      have h0:=(mem_ready.1 hr).1;rcases dU i listed.size with V | V
      · simpa [V] using h0
      · simp [V] at h0
     have aB:∀ x∈E.after,c9 md x=true→x.on≠i:=fun x aC hb heq=>by
      have L:=Z x aC hb;rw [heq,ad] at L; cases L
     have ag:j≠r:=by
      rintro rfl;have :=au.listed aa fun o al=>by rw [O] at al; cases al; exact Z
      rw [ad] at this; cases this
     have az:(listed.setIfInBounds j true).getD r false =false :=by rw [getD_set_ne false ag]; exact aj
     have ak:((listed.setIfInBounds i true).setIfInBounds j true).getD r false =false :=by rw [getD_set_ne false ag,getD_set_ne false aw]; exact aj
     have ap:=wpOp_putIf O (ac j E O A ai aB) (fun cs b=>am i C cs b hi) (fun cs b=>am j E cs b O) ar U L;have av:∀ k ok,ops[k]? =some ok→k≠i→(listed.setIfInBounds j true).getD k true =false→
      (∀ x∈ok.after,c9 md x=true→x.on≠i)→C.apart ops ok=true :=fun k ok ax ay an aA=>by
      refine ac k ok ax ay ?_ aA;by_cases ae:j=k
      · subst ae; exact ai
      · rw [getD_set_ne true ae] at an; exact an
     refine wpOp_mono (fun ao w' M=>⟨fun _=>M.2.1 ak,ih (listed.setIfInBounds j true) ao w' (aa.set J) av (ready_mono hr<|Ne.symm A) M.1 (M.2.1 ak) az ?_⟩) ap;rw [vB _ _ A];exact M.2.2
theorem Ju {i:Nat} {C:aq} {v:ab} (hi:ops[i]? =some C) (ai:∀ (j:Nat) (o:aq) cs b,ops[j]? =some o→o.op≠.select cs b)
 (am:∀ c a w,Q (.panic c) (a.put C.dst v) w→Q (.panic c) a w) (V:i≠r):
 ∀ (fuel:Nat) (listed:Array Bool) (a:Act) (w:ah),
   (∀ j E,ops[j]? =some E→j≠i→listed.getD j true =false→(∀ x∈E.after,c9 md x=true→x.on≠i)→C.apart ops E=true)→
   i∈dB md ops listed→YieldsIf P ops (fun _=>True) C v a→(listed.getD r false =false→S w)→
   kd P md ops Q S r fuel (listed.setIfInBounds i true) (a.put C.dst v) w→kd P md ops Q S r (fuel+1) listed a w:=by
 intro fuel
 induction fuel with
 | zero=>
   intro listed a w _ hr M U H;refine ⟨fun h=>(by rw [h] at hr; cases hr),fun j L=> ?_⟩;by_cases A:j=i
   · subst A; exact M.wpOp hi trivial ⟨fun h=>U (by rw [getD_set_ne false V] at h; exact h),H⟩
   · have :=ready_mono L A;rw [H.1] at this;cases this
 | succ fuel ih=>
   intro listed a w ac hr M U H;refine ⟨fun h=>(by rw [h] at hr; cases hr),fun j L=> ?_⟩;by_cases A:j=i
   · subst A; exact M.wpOp hi trivial ⟨fun h=>U (by rw [getD_set_ne false V] at h; exact h),H⟩
   · have I:=H.2 j<|ready_mono L A;obtain ⟨ag,E,Z,an⟩:=mem_ready.1 L;have ap:listed.getD i false =false :=by
      have h0:=(mem_ready.1 hr).1;rcases dU i listed.size with O | O
      · simpa [O] using h0
      · simp [O] at h0
     have aw:∀ x∈E.after,c9 md x=true→x.on≠i:=fun x ax hb heq=>by
      have I:=an x ax hb;rw [heq,ap] at I; cases I
     have al:=wpOp_putIf Z (ac j E Z A ag aw) (fun cs b=>ai i C cs b hi) (fun cs b=>ai j E cs b Z) am M I;have ao:∀ k ok,ops[k]? =some ok→k≠i→(listed.setIfInBounds j true).getD k true =false→
      (∀ x∈ok.after,c9 md x=true→x.on≠i)→C.apart ops ok=true :=fun k ok ar au aj av=>by
      refine ac k ok ar au ?_ av;by_cases ae:j=k
      · subst ae; exact ag
      · rw [getD_set_ne true ae] at aj; exact aj
     have aa:(listed.setIfInBounds i true).setIfInBounds j true =(listed.setIfInBounds j true).setIfInBounds i true :=vB _ _ fun e=>A e.symm;have ad:(listed.setIfInBounds j true).getD r false =false→((listed.setIfInBounds i true).setIfInBounds j true).getD r false =false :=fun h=>by rw [aa,getD_set_ne false V]; exact h
     refine wpOp_mono (fun ak w' J=>⟨fun h=>J.2.1 (ad h),ih (listed.setIfInBounds j true) ak w' ao (ready_mono hr<|Ne.symm A) J.1 (fun h=>J.2.1<|ad h) ?_⟩) al;rw [← aa];exact J.2.2
end
section
variable {P:ak} {N:Fm} {ops:Array aq} {Q:aK→(Nat→ab)→ah→Prop} {σ:Nat→ab} {w:ah} {S:ah→Prop} {r fuel:Nat} {listed:Array Bool}
 {d:Nat} {op:Op} {ty:aj} {pos :String} {af:Array bB} {v:ab}
def pX (ops:Array aq) (i:Nat):Nat→Nat→Bool
 | 0,_=>false
 | f+1,r=>match ops[r]? with | some o=>o.after.toList.any (fun e=>c9 .any e && (e.on==i || pX ops i f e.on)) | none=>false
theorem Ed {i:Nat} :∀ (f r:Nat),pX ops i f r=true→lk .any ops i r:=by
 intro f
 induction f with
 | zero=>intro r h; cases h
 | succ f ih=>
   intro r h;rw [pX] at h;split at h
   · rename_i o A;simp only [BD,aU,ml,beq_iff_eq] at h;obtain ⟨e,he,hb,h⟩:=h;rcases h with h | h
     · exact .one A (rD.1 he) hb h
     · exact .more A (rD.1 he) hb<|ih _ h
   · cases h
def sP (ops:Array aq) (listed:Array Bool):Bool:=(kj ops.size).all fun j=> !listed.getD j false || match ops[j]? with | some o=>o.after.toList.all (fun e=> !c9 .any e || listed.getD e.on false) | none=>true
theorem Dr (h:sP ops listed=true):lj .any ops listed:=by grind [sP,lj]
def tt (F:List Nat) (ops:Array aq) (listed:Array Bool) (r i:Nat):Bool:=dQ F ops listed i && !(listed.getD r false) && i !=r && sP ops listed && pX ops i ops.size r
def lF (F:List Nat) (ops:Array aq) (listed:Array Bool) (r i:Nat):Bool:=dQ F ops listed i && i !=r
theorem yO (i:Nat) (hi:ops[i]? =some ⟨some d,op,ty,pos,af,none⟩) (C:tt N.F ops listed r i=true)
 (J:∀ w,S w→(execOp (ev N σ) ⟨some d,op,ty,pos,af,none⟩).run P w= .ok (.value v) w) (A:S w)
 (k:bJ P N ops Q S r fuel (listed.setIfInBounds i true) (aI σ d v) w):bJ P N ops Q S r (fuel+1) listed σ w:=by
 simp only [tt,dQ,aU,jy,bne_iff_ne,ne_eq] at C;obtain ⟨⟨⟨⟨⟨⟨⟨E,I⟩,hf3⟩,hfF⟩,hf4⟩,hf5⟩,hf6⟩,hf7⟩:=C;rw [hi] at hfF;unfold bJ at*;refine Js hi (vI E) (fun c a w=>lO hfF c a w) (Ed _ _ hf7) hf5 fuel listed _ w (Dr hf6) (vH hi I) (by simpa using hf3) (.inl ⟨eB _ rfl _,fun w A=> ?_⟩) A hf4 ?_ (v:=v)
 · rw [cK]; exact J w A
 · rw [dV]; exact k
theorem oK (i:Nat) (hi:ops[i]? =some ⟨some d,op,ty,pos,af,none⟩) (A:lF N.F ops listed r i=true)
 (J:∀ w,(execOp (ev N σ) ⟨some d,op,ty,pos,af,none⟩).run P w= .ok (.value v) w) (C:listed.getD r false =false→S w)
 (k:bJ P N ops Q S r fuel (listed.setIfInBounds i true) (aI σ d v) w):bJ P N ops Q S r (fuel+1) listed σ w:=by
 simp only [lF,dQ,aU,bne_iff_ne,ne_eq] at A;obtain ⟨⟨⟨⟨E,I⟩,hf3⟩,hfF⟩,hf5⟩:=A;rw [hi] at hfF;unfold bJ at*;refine Ju hi (vI E) (fun c a w=>lO hfF c a w) hf5 fuel listed _ w (vH hi I) (by simpa using hf3) (.inl ⟨eB _ rfl _,fun w _=> ?_⟩) C ?_ (v:=v)
 · rw [cK]; exact J w
 · rw [dV]; exact k
end
end Go.Hb
namespace Go.Hb
def Ax:Nat→Nat→List UInt8
 | 0,n=> [ee n]
 | f+1,n=>if n < 128 then [ee n] else ee (n % 128 +128)::Ax f (n / 128)
def IX (n:Nat):List UInt8:=Ax n n
def frame:List (List UInt8)→List UInt8
 | []=> []
 | r::l=>IX r.length++(r++frame l)
theorem rh {α:Type} (l:List α) (i:Nat) (d:α) (h:i < l.length):l.take (i+1)=l.take i++ [l.getD i d]:=by simp_all
end Go.Hb
namespace Go.Hb
def U8 (l:List UInt8):List ab:=l.map fun b=>cW .u8 b.toNat
theorem ss (l:List UInt8):(U8 l).length=l.length:=by simp [U8]
theorem wv (a b:List UInt8):U8 (a++b)=U8 a++U8 b:=by simp [U8]
def ku (P:ak) (t e u:aj):Bool:=
 ez P t e 1 1 && (match P.underlying e with | some (.int .u8)=>true | _=>false) && (match P.underlying u with | some .string=>true | _=>false) &&
  (match P.info? e with | some i=>(match i.zero with | some (.int .u8 0)=>true | _=>false) | none=>false)
theorem xc {P:ak} {t e u:aj} (h:ku P t e u=true):
 ez P t e 1 1=true∧P.underlying e=some (.int .u8)∧P.underlying u=some .string∧∃ i,P.info? e=some i∧i.zero=some (.int .u8 0):=by grind [ku,ez]
section
variable {P:ak} {N:Fm} {σ:Nat→ab} {w:ah} {dst:Option Nat} {ty:aj} {pos :String} {af:Array bB} {g:Option (Nat×Bool)} {x y z:az} {K:(Nat→ab)→ah→Prop}
theorem foldl_push (l:List UInt8) (r:ByteArray):(l.map fun b=>(b.toNat:Int)).foldl (fun r n=>r.push<|ee n.toNat) r=⟨r.data++l.toArray⟩:=by
 induction l generalizing r with
 | nil=>simp
 | cons b l ih=>
   simp only [da,pB];rw [ih];apply ByteArray.ext;simp [ByteArray.push]
theorem sT {t e u n c:Nat} {a:Option aD} {l:List UInt8} (h:ku P t e u=true) (V:ev N σ x= .slice a n c) (A:bh w.heap a (U8 l)) (C:l.length=n):
 (execOp (ev N σ) ⟨dst,.convert t u x,ty,pos,af,g⟩).run P w= .ok (.value<|str l) w:=by
 obtain ⟨E,I,J,_⟩:=xc h;obtain ⟨hu,_⟩:=lY E;have L:(A8<|.slice a n c).run P w= .ok (str l) w:=by
  by_cases he:l= []
  · subst he;cases a with
    | none=>simp [A8,str]; rfl
    | some a=>
      subst C;have :=run_bytesToString (P:=P) w a 0 c []<|by simp [loadCells,loadCellsFrom]
      exact this.trans U
  · have ha:=A.ok<|by simpa [U8] using he
    have O:(loadCells ⟨bk a,fo a,none⟩ n).run P w= .ok ((l.map fun b=>(b.toNat:Int)).map<|cW .u8).toArray w:=by
     subst C;have :=run_loadCells_list (P:=P) w ⟨bk a,fo a,none⟩ (U8 l) fun j v M=>by
      rw [dt,fZ];exact A.ay j v M
     rw [ss] at this;rw [this];simp [U8]
    rw [ha,run_bytesToString w _ n c _ O,foldl_push];simp [str,ByteArray.empty,ByteArray.emptyWithCapacity];rfl
 simp [execOp,V,run_convert_bytes_string w t u e a n c hu I J,L]
theorem CH {t e u B n:Nat} {v:ab} {xs:List ab} {l:List UInt8} (h:ku P t e u=true) (E:w.ownsRow B e 1 v n xs) (U:ev N σ x=v) (ah:B≤w.heap.size) (am:ev N σ y=str l)
 (hb:n+l.length≤140737488355328)
 (k:∀ C w',w'.ownsRow B e 1 C (n+l.length) (xs++U8 l)→Md (fun k=>v.ownBlock=some k) w w'→(C= .slice none 0 0↔v= .slice none 0 0∧l= [])→(∀ k,C.ownBlock=some k→v.ownBlock=some k∨w.heap.size≤k)→K (bV σ dst C) w'):
 bq P N ⟨dst,.call ⟨.builtin .append,#[x,y],#[t,u]⟩,ty,pos,af,g⟩ σ w K:=by
 obtain ⟨aa,ao,J,i,hi,V⟩:=xc h;obtain ⟨hu,j,zv,aj,_,M,O,_,_⟩:=lY aa;obtain rfl :j=i:=et<|aj.symm.trans hi;obtain ⟨C,w',hr,ad,L,ae⟩:=Bo (P:=P) w B t u ty e j hu J hi V M O v n xs E ⟨⟨l⟩⟩ (by show n+l.length≤maxLen; unfold maxLen; omega) hb ah;refine gu (w':=w') (v:=C) ?_ (k C w' ad ⟨L.os,L.output,L.size,fun k A ak=>L.block k A fun e=>ak e.symm⟩ ?_ ?_)
 · have an:ev N σ y= .string ⟨⟨l⟩⟩:=am;simp [execOp,resolve,invoke,builtin,U,an,hr]
 · rw [ae];show (_∧l.length=0)↔_;simp
 · intro k A;rcases E.2 with ⟨rfl,rfl⟩ | ⟨I,cap,cur,rfl,aq,ai,av,ar,au,aw⟩
   · have U:xs= []:=iU<|by simpa using E.1
     subst U;obtain ⟨v2,ax,Z,ac,_,_⟩:=Bo (P:=P) w w.heap.size t u ty e j hu J hi V M O _ 0 [] (jD w w.heap.size e 1) ⟨⟨l⟩⟩ (by show 0 +l.length≤maxLen; unfold maxLen; omega) (by show 0 +l.length≤_; omega)<|aO _;rw [hr] at Z;cases Z;rcases ac.2 with ⟨h,_⟩ | ⟨g2,_,_,h,ap,_⟩
     · rw [h] at A; simp [cG] at A
     · rw [h] at A; simp only [cG,aY] at A; exact .inr ag
   · by_cases al:n+l.length≤cap
     · rw [Lib.run_append_room_string (P:=P) w t u ty e j hu J hi M I n cap cur ai ⟨⟨l⟩⟩ al (by show n+l.length≤_; omega)] at hr;cases hr;exact .inl A
     · have holds:∀ j u,xs[j]? =some u→w.cell? ((⟨I,0,none⟩:aD).add j)=some u:=E.cells (g:=I) rfl;rw [Lib.run_append_grow_string (P:=P) w t u ty e j _ hu J hi V ⟨I,0,none⟩ n cap xs (by rw [M]; exact E.1) holds ⟨⟨l⟩⟩ (by show cap < n+l.length; omega) (by show ((n+l.length:Nat):Int)≤_; omega) (growslice_fits (by show cap < n+l.length; omega)<|by rw [O]; show (n+l.length)*1≤_; omega)] at hr;cases hr;simp only [cG,aY] at A;exact .inr ag
theorem vj {at_:Array aj} {v:ab} {a:Option aD} {n c:Nat} (A:ev N σ x= .slice a n c) (h:a=none∨c≠0):
 (execOp (ev N σ) ⟨dst,.call ⟨.builtin .unsafeSliceData,#[x],at_⟩,ty,pos,af,g⟩).run P w= .ok (.value<|.pointer a) w:=by
 have _:=v;have :(Builtin.unsafeSliceData_ at_ ty #[.slice a n c]).run P w= .ok (.pointer a) w:=by
  cases a with
  | none=>exact Lib.run_unsafeSliceData_nil w at_ ty n c
  | some a=>exact Lib.run_unsafeSliceData_row w at_ ty a n c<|h.resolve_left<|by simp
 simp [execOp,resolve,invoke,builtin,A,this]
def ptrTo (P:ak) (C e:aj):Bool:=match P.underlying C with | some (.pointer A)=>A==e && P.cellsOf e==1 | _=>false
theorem I7 {I it e B n c:Nat} {a:Option aD} {l:List UInt8} {xs:List ab} (hp:ptrTo P I e=true) (M:ev N σ x= .pointer a) (O:ev N σ y= .int .i64 n) (E:w.ownsRow B e 1 (.slice a n c) n xs)
 (ak:xs=U8 l) (am:n≤9223372036854775807)
 (k:∀ w',Md (fun k=>(eJ a n c).ownBlock=some k) w w'→w'.heap.size=w.heap.size→K (bV σ dst<|str l) w'):
 bq P N ⟨dst,.call ⟨.builtin .unsafeString,#[x,y],#[I,it]⟩,ty,pos,af,g⟩ σ w K:=by
 subst ak;have A:l.length=n:=by have :=E.1; simpa [U8] using this
 unfold ptrTo at hp;split at hp
 case h_2=>cases hp
 rename_i J hu;simp only [aU,beq_iff_eq] at hp;obtain ⟨rfl,V⟩:=hp;by_cases he:l= []
 · subst he;obtain rfl :n=0:=A.symm;refine gu (w':=w) (v:=str []) ?_<|k w (Md.refl _ _) U;simp [execOp,resolve,invoke,builtin,M,O,Lib.run_unsafeString_none];rfl
 · rcases E.2 with ⟨h,h0⟩ | ⟨C,cap,cur,h,_,aa,hle,_,aj,an⟩
   · subst h0; simp only [List.length_eq_zero_iff] at A; exact absurd A he
   · simp only [kV,true_and] at h;obtain ⟨rfl,rfl⟩:=h;have ai:w.shape? C=some (J,cur.size):=by simp [vK,aa]
     have hr:=Lib.run_unsafeString_row (P:=P) w I it ty J hu V C cur.size ai l he (by rw [A,aj]; omega) ag (fun j u hu=>by
      obtain ⟨ad,al,L,Z,_,ac,_⟩:=oU E;simp only [kV,true_and] at L;obtain ⟨rfl,rfl⟩:=L;rw [dt,fZ];exact Z.ay j _ (by simp [U8,hu]))
     refine gu (w':=w.freeze ⟨C,0,none⟩ l.length) (v:=str l) ?_ (k _ ⟨?_,?_,?_,?_⟩ ?_)
     · simp [execOp,resolve,invoke,builtin,M,O,← A,hr,str]
     · unfold kh; split <;> rfl
     · unfold kh; split <;> rfl
     · unfold kh; split <;> simp
     · intro k ac ae;have ah:k≠C:=fun e=>ae<|by simp [cG,e]
       unfold kh;split
       · rfl
       · simp only [Array.getElem?_modify]; rw [if_neg (fun e=>ah e.symm)]
     · unfold kh; split <;> simp
def ma (P:ak) (C up e n:Nat):Bool:=
 (match P.underlying C with | some (.pointer A)=>A==e | _=>false) && (match P.underlying up with | some .unsafePointer=>true | _=>false) && P.cellsOf e==n && au 0 n && (match P.info? e with | some i=>i.size==n | _=>false)
theorem AA {P:ak} {E up e n:Nat} (h:ma P E up e n=true):P.underlying E=some (.pointer e)∧P.underlying up=some .unsafePointer∧P.cellsOf e=n∧0 < n∧∃ i,P.info? e=some i∧i.size=n:=by
 simp only [ma,aU] at h;obtain ⟨⟨⟨⟨A,C⟩,h3⟩,h4⟩,h5⟩:=h;refine ⟨?_,?_,by simpa using h3,k9 (kn 0) (bp h4),?_⟩
 · split at A
   · rename_i h; simp only [beq_iff_eq] at A; rw [h,A]
   · cases A
 · split at C
   · rename_i h; exact h
   · cases C
 · split at h5
   · rename_i i hi; exact ⟨i,hi,by simpa using h5⟩
   · cases h5
theorem Am {A up e n b:Nat} {L:List ab} (h:ma P A up e n=true) (U:ev N σ x= .pointer (some ⟨b,0,none⟩)) (hb:w.heap[b]? =some (.cells L.toArray e (0,0))) (I:L.length=n):
 (execOp (ev N σ) ⟨dst,.convert A up x,ty,pos,af,g⟩).run P w= .ok (.value<|.pointer<|some ⟨b,0,none⟩) w:=by
 obtain ⟨C,E,V,Z,i,hi,M⟩:=AA h;have O:w.shape? b=some (e,L.length):=by simp [vK,hb]
 have J:¬n=0:=ag;simp [execOp,U,convert,aR C,aR E,Ba,A9,viewAt,O,cellsIn,I,sizeOf,cJ hi,M,J]
theorem yi {E up e n b:Nat} {L:List ab} (h:ma P E up e n=true) (ac:ev N σ x= .pointer (some ⟨b,0,none⟩)) (hb:w.heap[b]? =some (.cells L.toArray e (0,0))) (U:L.length=n):
 (execOp (ev N σ) ⟨dst,.convert up E x,ty,pos,af,g⟩).run P w= .ok (.value<|.pointer<|some ⟨b,0,none⟩) w:=by
 obtain ⟨I,J,M,O,i,hi,Z⟩:=AA h;have aa:w.shape? b=some (e,L.length):=by simp [vK,hb]
 have C:¬n=0:=ag;have V:liesAt P P.depth e (L.length / P.cellsOf e) 0 e 1=true :=by
  have A:P.depth=(2 *(P.types.size+Made.depth)+1)+1:=rfl;rw [A];simp only [liesAt,ml];left;rw [A];simp [rowAt,M,C,U,sameLayout,Nat.div_self O]
 simp [execOp,ac,convert,aR I,aR J,Ba,A9,viewAt,aa,variablesAt,sizeOf,cJ hi,Z,C,V]
theorem Gp {t J e:aj} {a:aD} (hu:P.underlying t=some (.pointer e)) (C:(P.info? e).isSome=true) (E:ev N σ x= .pointer (some a)) (I:ev N σ y= .pointer (some a)):
 (execOp (ev N σ) ⟨dst,.binOp .neq t x y J,ty,pos,af,g⟩).run P w= .ok (.value<|.bool false) w:=by
 obtain ⟨i,hi⟩:=pL.1 C;have he:∀ d,(gC (d+1) t (.pointer<|some a)<|.pointer<|some a).run P w= .ok true w:=by
  intro d;simp [gC,aR hu,sizeOf,cJ hi,sameAddr]
 have h:(binOp .neq t (.pointer<|some a)<|.pointer<|some a).run P w= .ok (.bool false) w:=by
  have :=he 9999;simp only [binOp];have A:(kU t (.pointer<|some a)<|.pointer<|some a).run P w= .ok true w:=this;simp [A]
 simp [execOp,E,I,eqGuard,h]
theorem Dt {f:dq} {args:Array az} {A:Array aj} {v:ab} (E:∀ v w,(callFunc f #[v]).run P w= .ok (.value v) w) (C:args.toList.map (ev N σ)= [v]):
 (execOp (ev N σ) ⟨dst,.call ⟨.value (.func f),args,A⟩,ty,pos,af,g⟩).run P w= .ok (.value v) w:=by
 have :args.map (ev N σ)= #[v]:=by rw [← rE,gv,C]
 simp [execOp,resolve,ev,kg,invoke,this,E]
structure Bd (T e:aj) (w:ah) (b:Nat) (buf:ab) (l:List UInt8):Prop where
 ao:∃ pa,w.heap[b]? =some (.cells [rN pa,buf].toArray T (0,0))∧(pa=none∨pa=some ⟨b,0,none⟩)
 own:w.ownsRow (b+1) e 1 buf l.length (U8 l)
 nil:buf= .slice none 0 0↔l= []
def BF (b:Nat) (A:ab) (k:Nat):Prop :=k=b∨A.ownBlock=some k
end
theorem Bd.lt {T e b:Nat} {w:ah} {A:ab} {l:List UInt8} (h:Bd T e w b A l):b < w.heap.size:=let ⟨_,h,_⟩:=h.ao; (bI.1 h).1
theorem Bd.qh {T e b:Nat} {w:ah} {C:ab} {l:List UInt8} (h:Bd T e w b C l) {k:Nat} (A:BF b C k):b≤k∧k < w.heap.size:=by
 rcases A with rfl | A
 · exact ⟨aO _,h.lt⟩
 · have :=h.own.lt k A; omega
theorem Bd.md {T e b:Nat} {F:Nat→Prop} {w w':ah} {A:ab} {l:List UInt8} (h:Bd T e w b A l) (hm:Md F w w') (C:∀ k,BF b A k→¬F k):Bd T e w' b A l:=by
 obtain ⟨⟨L,E,I⟩,h3,h4⟩:=h;exact ⟨⟨L,hm.ao E (C b<|.inl U),I⟩,cR h3 hm (fun k J=>C k<|.inr J),h4⟩
end Go.Hb
namespace Go.Hb
def fl (P:ak) (t:aj):Option (List (Nat×Nat)×List ab):=
 match P.info? t,P.underlying t with
 | some it,some (.struct fields)=>
   match it.zero,fields.toList.mapM (fun f=>(P.info? f.type).map fun i=>(f.offset,i.size)) with
   | some z,some pl=>some (pl,z.cells.toList)
   | _,_=>none
 | _,_=>none
def oV (pl:List (Nat×Nat)):List ab→List (Nat×ab)→Option (List ab)
 | A,[]=>some A
 | A,(i,v)::r=>match pl[i]? with
   | some (off,s)=>if (s==1 && v.oneCell' && au off A.length)=true then oV pl (A.set off v) r else none
   | none=>none
theorem GX {pl:List (Nat×Nat)} {A L:List ab} {ps:List (Nat×ab)} (h:oV pl A ps=some L):iw (pl.toArray[·]?) A.toArray ps=some L.toArray:=by
 induction ps generalizing A with
 | nil=>simp only [oV,aY] at h; subst h; rfl
 | cons p ps ih=>
   obtain ⟨i,v⟩:=p;simp only [oV] at h;split at h
   · rename_i off s J;split at h
     · rename_i C;simp only [aU,beq_iff_eq] at C;obtain ⟨⟨rfl,E⟩,ho⟩:=C;have O:off < A.length:=bp ho;have M:v.cells= #[v]:=kN E;have I:pl.toArray[i]? =some (off,1):=by simpa using J
       simp only [iw,I,M];rw [if_neg (by simp; omega),← ih h];simp
     · cases h
   · cases h
theorem ER {α:Type} {f:α→List ab} {m:Nat} (A:∀ a,(f a).length=m) (l:List α):(l.flatMap f).length=l.length*m:=by
 induction l with
 | nil=>simp
 | cons x l ih=>simp [ih,A,n5,Nat.add_comm]
theorem EP {α:Type} {f:α→List ab} {m:Nat} (A:∀ a,(f a).length=m) {l:List α} {j c:Nat} {a:α} (h:l[j]? =some a) (C:c < m):(l.flatMap f)[j*m+c]? =(f a)[c]? :=by
 induction l generalizing j with
 | nil=>simp at h
 | cons x l ih=>
   cases j with
   | zero=>
     simp only [fV,aY] at h; subst h;rw [n7,bS,BJ,fy (by rw [A]; exact C)]
   | succ j=>
     simp only [fU] at h;rw [BJ,fA (by rw [A,n5]; omega),A,show (j+1)*m+c - m=j*m+c from by rw [n5]; omega];exact ih h
theorem qg {α:Type} {f:α→List ab} {m:Nat} (C:∀ a,(f a).length=m) {h:Array Obj} {a:Option aD} {l:List α} {i:Nat} {e:α} (J:bh h a (l.flatMap f)) (L:l[i]? =some e):∀ j,j < m→Hb.ay h (bk a) (fo a+i*m+j)=(f e)[j]? :=by
 intro j E;have A:=EP C L E;have I:j < (f e).length:=by rw [C]; exact E
 rw [bW I] at A ⊢;rw [eY]; exact J.ay _ _ A
theorem tj {α:Type} {f:α→List ab} {m:Nat} (A:∀ a,(f a).length=m) (hm:0 < m) {l:List α} (h:0 < l.length):l.flatMap f≠[]:=by
 intro e;have :=ER A l;rw [e] at this;have :0 < l.length*m:=Nat.mul_pos h hm;simp at*; omega
section
variable {P:ak} {N:Fm} {σ:Nat→ab} {w:ah} {dst:Option Nat} {ty:aj} {pos :String} {af:Array bB} {g:Option (Nat×Bool)} {x y z:az} {K:(Nat→ab)→ah→Prop}
theorem jJ {t:aj} {parts:Array (Nat×az)} {pl:List (Nat×Nat)} {A L:List ab} {ps:List (Nat×ab)} (h:fl P t=some (pl,A)) (hp:parts.toList.map (fun p=>(p.1,ev N σ p.2))=ps) (C:oV pl A ps=some L):
 (execOp (ev N σ) ⟨dst,.build t parts,ty,pos,af,g⟩).run P w= .ok (.value<|.agg L.toArray) w:=by
 unfold fl at h;split at h
 · rename_i it fields hi hu;split at h
   · rename_i z I E hm;simp only [aY,jG] at h;obtain ⟨rfl,rfl⟩:=h;have hb:P.built t (parts.map fun p=>(p.1,ev N σ p.2)).toList=some L.toArray:=by
      have :=GX C;simp only [vC] at this;simp only [Bq,hi,hu,E,hm,gv,hp]; exact this
     simp [execOp,run_build w t _ _ hb]
   · cases h
 · cases h
theorem CW {t:aj} {parts:Array (Nat×az)} {pl:List (Nat×Nat)} {A L:List ab} {ps:List (Nat×ab)} (h:fl P t=some (pl,A)) (hp:parts.toList.map (fun p=>(p.1,ev N σ p.2))=ps) (C:iw (pl.toArray[·]?) A.toArray ps=some L.toArray):
 (execOp (ev N σ) ⟨dst,.build t parts,ty,pos,af,g⟩).run P w= .ok (.value<|.agg L.toArray) w:=by
 unfold fl at h;split at h
 · rename_i it fields hi hu;split at h
   · rename_i z I E hm;simp only [aY,jG] at h;obtain ⟨rfl,rfl⟩:=h;have hb:P.built t (parts.map fun p=>(p.1,ev N σ p.2)).toList=some L.toArray:=by
      have :=C;simp only [vC] at this;simp only [Bq,hi,hu,E,hm,gv,hp]; exact this
     simp [execOp,run_build w t _ _ hb]
   · cases h
 · cases h
end
end Go.Hb
namespace Go.Hb
section
variable {P:ak} {N:Fm} {σ:Nat→ab} {w:ah} {dst:Option Nat} {ty:aj} {pos :String} {af:Array bB} {g:Option (Nat×Bool)} {x y z:az} {K:(Nat→ab)→ah→Prop}
theorem Gb {zv:ab} (A:zv.oneCell'=true) (n:Nat):madeCells zv.cells n=(dT n zv).toArray:=by
 rw [kN A];apply Array.ext
 · simp [madeCells]
 · intro i C E;simp [madeCells,Nat.mod_one]
theorem j1 {t e bytes n:Nat} {L J:bc} {zv:ab} (ae:ez P t e 1 bytes=true) (A:zeroOf P e=some (some [zv])) (C:zv.oneCell'=true) (ah:ev N σ x= .int L n) (ai:ev N σ y= .int J n) (hb:bytes*n≤281474976710656) (E:n≤maxLen)
 (k:∀ b w',b=w.heap.size→Nw w w'→(∀ B,B≤b→w'.ownsRow B e 1 (.slice (some ⟨b,0,none⟩) n n) n (dT n zv))→K (bV σ dst<|.slice (some ⟨b,0,none⟩) n n) w'):bq P N ⟨dst,.makeSlice t x y,ty,pos,af,g⟩ σ w K:=by
 obtain ⟨hu,i,M,hi,I,ad,ac,al,ak⟩:=lY ae;have aj:M.cells= #[zv]:=by
  unfold zeroOf at A;simp only [hi,I,dg,aY] at A;exact rE.1<|by simpa using A
 refine jx (v:=fun b=> .slice (some ⟨b,0,none⟩) n n) (ob:= .cells (dT n zv).toArray e (0,0)) ?_ fun b w' O V Z=>k b w' O V fun B aa=>⟨by simp,.inr ⟨b,n,_,U,aa,Z,aO _,E,by simp,by simp⟩⟩
 have hr:=run_make (P:=P) w t e i M hu hi I L J n n ag (Int.le_refl _) (by rw [ac,← Int.natCast_mul]; omega)<|by unfold maxLen at E; omega
 rw [aj,ad,Nat.mul_one,Int.toNat_natCast,show madeCells #[zv] n=(dT n zv).toArray by rw [← Gb C,kN C]] at hr;simp [execOp,ah,ai,hr]
end
end Go.Hb
namespace Go.Hb
section
variable {P:ak} {N:Fm} {σ:Nat→ab} {w:ah} {dst:Option Nat} {ty:aj} {pos :String} {af:Array bB} {g:Option (Nat×Bool)} {x y z:az}
theorem Dq {t n len cap i:Nat} {a:Option aD} {k I:bc} (he:cO P t=some n) (A:ev N σ x= .slice a len cap) (C:ev N σ y= .int k (i:Nat)) (E:ev N σ z= .int I (i:Nat)) (h:i≤cap):
 (execOp (ev N σ) ⟨dst,.slice t x none (some y) (some z),ty,pos,af,g⟩).run P w= .ok (.value<|.slice a i i) w:=by
 have h0:(0:Int)≤(i:Int):=ag;unfold cO at he;cases hd:P.underlying t with
 | none=>rw [hd] at he; cases he
 | some d=>
   rw [hd] at he;cases d <;> first | (cases he; done) | skip
   rename_i e;cases hi':P.info? e with
   | none=>simp [hi'] at he
   | some j=>
     have ha:(if i=0 then a else a.map (·.add 0))=a:=by
      split
      · rfl
      · cases a <;> simp [rG]
     simp only [execOp,mr,pj,A,C,E,dg,Option.map_none,jA,mu,asIntOf];simp [aR hd,cJ hi',sizeOf,h0,ha];intro J; omega
end
end Go.Hb
namespace Go.Hb
def iZ (h:Array Obj) (b:Nat) (kvs:List (ab×ab)):Prop := ∃ es clock,h[b]? =some (.map es clock)∧es.toList.map (fun e=>(e.key,e.val))=kvs
theorem iZ.md {F:Nat→Prop} {w w':ah} {b:Nat} {kvs:List (ab×ab)} (h:iZ w.heap b kvs) (hm:Md F w w') (A:¬F b):iZ w'.heap b kvs:=
 let ⟨es,c,h1,h2⟩:=h; ⟨es,c,hm.ao h1 A,h2⟩
theorem iZ.lt {h:Array Obj} {b:Nat} {kvs:List (ab×ab)} (hm:iZ h b kvs):b < h.size:=by grind [iZ]
structure mI (P:ak) (k:aj) (ax:ab→Prop):Prop where
 check:∀ em w v,ax v→(jz em 10000 k v).run P w= .ok () w
 find:∀ w x es,ax x→(∀ e∈es,ax e.key)→
  ((mo k x es).run P w= .ok none w∧∀ e∈es,e.key≠x)∨∃ j e,(mo k x es).run P w= .ok (some (j,e.val)) w∧es[j]? =some e∧e.key=x
theorem De {P:ak} {k:aj} {em:Bool} {n:Nat} {a:Bool} (A:P.underlying k=some .bool) (w:ah):(jz em (n+1) k<|.bool a).run P w= .ok () w:=by
 simp only [jz,fT,aR A,fw,iS]
theorem xj {P:ak} {k:aj} {em:Bool} {n:Nat} {a:List UInt8} (A:P.underlying k=some .string) (w:ah):(jz em (n+1) k<|str a).run P w= .ok () w:=by
 simp only [str,jz,fT,aR A,fw,iS]
def tH (v:ab):Prop := ∃ (f:Bool) (s:List UInt8),v= .agg #[.bool f,str s]
def lv (P:ak) (k:aj):Bool:=
 match P.underlying k with
 | some (.struct A)=>match A.toList with
   | [f1,f2]=>f1.name != "_" && f2.name != "_" && f1.offset==0 && f2.offset==1 && !P.stoodInHeld k &&
     (match P.underlying f1.type with | some .bool=>true | _=>false) && (match P.underlying f2.type with | some .string=>true | _=>false)
   | _=>false
 | _=>false
theorem qS {P:ak} {t:aj} {cs:Array ab} {o:Nat} {v:ab} {d:TypeDesc} (C:P.underlying t=some d) (A:(match d with | .bool | .string=>true | _=>false)=true) (E:cs[o]? =some v) (w:ah):(part t cs o).run P w= .ok v w:=by
 cases d <;> first | (cases A; done) | simp [part,isAgg,aR C,E]
theorem sD {P:ak} {k:aj} (h:lv P k=true):∃ A f1 f2,P.underlying k=some (.struct A)∧A.toList= [f1,f2]∧f1.name≠ "_" ∧f2.name≠ "_" ∧f1.offset=0∧f2.offset=1∧P.stoodInHeld k=false∧P.underlying f1.type=some .bool∧P.underlying f2.type=some .string:=by grind [lv]
theorem Ew {P:ak} {k:aj} (h:lv P k=true) {f g:Bool} {s t:List UInt8} (w:ah):(kU k (.agg #[.bool f,str s])<|.agg #[.bool g,str t]).run P w= .ok (decide (f=g∧s=t)) w:=by
 obtain ⟨M,f1,f2,hu,ab,O,U,V,Z,aa,A,C⟩:=sD h;have E:P.fieldsOf k=M:=by simp [Program.fieldsOf,hu]
 have J:∀ (x:Bool) (y:List UInt8) (w:ah),(part f1.type #[.bool x,str y] f1.offset).run P w= .ok (.bool x) w:=fun x y w=>qS A rfl (by rw [V]; rfl) w;have L:∀ (x:Bool) (y:List UInt8) (w:ah),(part f2.type #[.bool x,str y] f2.offset).run P w= .ok (str y) w:=fun x y w=>qS C rfl (by rw [Z]; rfl) w;unfold kU;show (gC (9998 +1 +1) k _ _).run P w=_;rw [run_equalIn_struct w (9998 +1) k _ _ (by rw [E]; exact hu) aa,E,ab];simp only [Op.eqFields,fT,pv,J,L,fw,run_equalIn_bool' w 9998 f1.type f g A,O,U,ne_eq,not_false_eq_true,if_true];by_cases I:f=g
 · subst I;have :(gC (9998 +1) f2.type (str s)<|str t).run P w= .ok (decide (s=t)) w:=by
    rw [str,str,run_equalIn_string w 9998 f2.type _ _ C,A4,A4];congr 1;by_cases bu:s=t
    · subst bu; simp
    · simp [bu]
   simp only [beq_self_eq_true,Bool.not_true,pd,if_false,this,fw,true_and];by_cases bu:s=t <;> simp [bu]
 · simp [I]
theorem Df {P:ak} {k:aj} {em:Bool} {n:Nat} (h:lv P k=true) {f:Bool} {s:List UInt8} (w:ah):(jz em (n+1 +1) k<|.agg #[.bool f,str s]).run P w= .ok () w:=by
 obtain ⟨V,f1,f2,hu,U,J,L,M,O,Z,A,C⟩:=sD h;have E:∀ (w:ah),(part f1.type #[.bool f,str s] f1.offset).run P w= .ok (.bool f) w:=fun w=>qS A rfl (by rw [M]; rfl) w;have I:∀ (w:ah),(part f2.type #[.bool f,str s] f2.offset).run P w= .ok (str s) w:=fun w=>qS C rfl (by rw [O]; rfl) w;rw [jz];simp only [fT,aR hu,fw];rw [← Array.forIn_toList,U];simp only [List.forIn_cons,List.forIn_nil,fT,E,I,J,L,ne_eq,not_false_eq_true,if_true,fw,De A,xj C,iS]
theorem yb {P:ak} {k:aj} (h:lv P k=true) {f:Bool} {s:List UInt8} (w:ah):∀ (es:List MapEntry) (i:Nat),(∀ e∈es,tH e.key)→
 ((mm k (.agg #[.bool f,str s]) es i).run P w= .ok none w∧∀ e∈es,e.key≠.agg #[.bool f,str s])∨∃ j e,(mm k (.agg #[.bool f,str s]) es i).run P w= .ok (some (i+j,e.val)) w∧es[j]? =some e∧e.key= .agg #[.bool f,str s]
 | [],i,_=> .inl ⟨by simp [mm],fun _ h=>by simp at h⟩
 | e::es,i,hk=>by
   obtain ⟨g,t,ha⟩:=hk e<|by simp
   have he:=Ew h (f:=f) (g:=g) (s:=s) (t:=t) w;rw [← ha] at he;by_cases A:f=g∧s=t
   · obtain ⟨rfl,rfl⟩:=A;refine .inr ⟨0,e,?_,U,ha⟩;simp [mm,he]
   · have O:e.key≠.agg #[.bool f,str s]:=by
      rw [ha]; intro J; simp [str] at J; exact A ⟨J.1.symm,J.2.symm⟩
     rcases yb (f:=f) (s:=s) h w es (i+1) (fun e he=>hk e<|by simp [he]) with ⟨E,I⟩ | ⟨j,C,E,I,M⟩
     · refine .inl ⟨by simp [mm,he,A,E],fun C L=> ?_⟩;rcases db.1 L with rfl | L
       · exact O
       · exact I C L
     · refine .inr ⟨j+1,C,?_,I,M⟩;simp only [mm,fT,he,A,fw,decide_false,pv,pd,if_false,E]; rw [show i+1 +j=i+(j+1) from by omega]
theorem FC {P:ak} {k:aj} (h:lv P k=true):mI P k tH where
 check em w v hv:=by obtain ⟨f,s,rfl⟩:=hv; exact Df (n:=9998) h w
 find w x es hx hes:=by
  obtain ⟨f,s,rfl⟩:=hx;obtain ⟨L,f1,f2,hu,_⟩:=sD h;have J:es≠[]→(mo k (.agg #[.bool f,str s]) es).run P w=(mm k (.agg #[.bool f,str s]) es).run P w:=by
   intro A;cases es with
   | nil=>exact absurd rfl A
   | cons e es=>simp [mo,aR hu,mq,rL]
  by_cases A:es= []
  · subst A; exact .inl ⟨by simp [mo,aR hu,mq],fun _ h=>by simp at h⟩
  · rw [J A];rcases yb h w es 0 hes with C | ⟨j,e,C,E,I⟩
    · exact .inl C
    · exact .inr ⟨j,e,by rw [C,bS],E,I⟩
def zeroV (P:ak) (e:aj):Option ab:=(P.info? e).bind (·.zero)
theorem vy {P:ak} {e:aj} {z:ab} (h:zeroV P e=some z) (w:ah):(zeroValue e).run P w= .ok z w:=by
 unfold zeroV at h;simp only [pK] at h;obtain ⟨i,hi,A⟩:=h;simp [zeroValue,cJ hi,A]
section
variable {P:ak} {N:Fm} {σ:Nat→ab} {w:ah} {dst:Option Nat} {ty:aj} {pos :String} {af:Array bB} {g:Option (Nat×Bool)} {x y z:az} {K:(Nat→ab)→ah→Prop}
variable {t k e:aj} {ax:ab→Prop} {b:Nat} {kvs:List (ab×ab)} {kx v:ab}
theorem qa {es:Array MapEntry} (h:es.toList.map (fun e=>(e.key,e.val))=kvs) (A:∀ p∈kvs,ax p.1):∀ e∈es.toList,ax e.key:=by grind [e,he,mD]
theorem run_getObj_map {es:Array MapEntry} {c:Nat} (hr:w.heap[b]? =some (.map es c)):(getObj b).run P w= .ok (.map es c) w:=by
 simp [getObj,Sem.run,hr]
theorem Gx {kvs:List (ab×ab)} (hn:(kvs.map bN).Nodup) {kx v E:ab} (C:(kx,v)∈kvs) (A:(kx,E)∈kvs):v=E:=by
 induction kvs with
 | nil=>simp at C
 | cons p kvs ih=>
   simp only [da,mE] at hn;rcases db.1 C with C | C
   · rcases db.1 A with A | A
     · rw [← C] at A; cases A; rfl
     · rw [← C] at hn; exact absurd (mD (f:=bN) A) hn.1
   · rcases db.1 A with A | A
     · rw [← A] at hn; exact absurd (mD (f:=bN) C) hn.1
     · exact ih hn.2 C A
theorem yI {ok:Bool} (aa:P.underlying t=some (.map k e)) (E:mI P k ax) (hm:iZ w.heap b kvs) (Z:∀ p∈kvs,ax p.1) (ac:ev N σ x= .map (some b)) (ad:ev N σ y=kx) (hi:ax kx) (hn:(kvs.map bN).Nodup) (C:(kx,v)∈kvs):
 (execOp (ev N σ) ⟨dst,.lookup t x y ok,ty,pos,af,g⟩).run P w= .ok (.value (if ok then .tuple #[v,.bool true] else v)) w:=by
 obtain ⟨es,c,hr,he⟩:=hm;rcases E.find w kx es.toList hi (qa he Z) with ⟨_,A⟩ | ⟨j,I,L,A,M⟩
 · rw [← he] at C;obtain ⟨J,V,O⟩:=dO.1 C;cases O;exact absurd U<|A J V
 · have ab:(kx,I.val)∈kvs:=by rw [← he,← M]; exact mD (f:=fun e:MapEntry=>(e.key,e.val))<|jF A
   have :=Gx hn C ab;subst this;cases ok <;> simp [execOp,Bi,aR aa,ac,ad,run_getObj_map hr,E.check _ w kx hi,L]
theorem yJ {ok:Bool} {zv:ab} (M:P.underlying t=some (.map k e)) (V:zeroV P e=some zv) (A:mI P k ax) (hm:iZ w.heap b kvs) (L:∀ p∈kvs,ax p.1) (O:ev N σ x= .map (some b)) (U:ev N σ y=kx) (hi:ax kx) (hn:∀ v,(kx,v)∉kvs):
 (execOp (ev N σ) ⟨dst,.lookup t x y ok,ty,pos,af,g⟩).run P w= .ok (.value (if ok then .tuple #[zv,.bool false] else zv)) w:=by
 obtain ⟨es,c,hr,he⟩:=hm;rcases A.find w kx es.toList hi (qa he L) with ⟨C,_⟩ | ⟨j,E,C,I,J⟩
 · cases ok <;> simp [execOp,Bi,aR M,O,U,run_getObj_map hr,A.check _ w kx hi,C,vy V]
 · exact absurd (by rw [← he,← J]; exact mD (f:=fun e:MapEntry=>(e.key,e.val))<|jF I)<|hn E.val
end
end Go.Hb
namespace Go.Hb
end Go.Hb
namespace Go.Hb
inductive TD | no | int (k:bc) | str | bool | ptr | c8 (e n:Nat) | st (offs:List Nat)
def j2 {α:Type} :List α→Nat→α→α
 | [],_,d=>d
 | a::_,0,_=>a
 | _::l,n+1,d=>j2 l n d
def nH (T:List (List TD)) (t:Nat):TD:=j2 (j2 T (t / 16) []) (t % 16) .no
def de:bc→Nat
 | .i8=>0 | .i16=>1 | .i32=>2 | .i64=>3 | .u8=>4 | .u16=>5 | .u32=>6 | .u64=>7
theorem lJ {a b:bc} (h:aB (de a) (de b)=true):a=b:=by
 cases a <;> cases b <;> first | rfl | (cases h)
def qM (P:ak) (t:Nat):Nat→List Nat→Bool
 | _,[]=>true
 | f,n::l=>(match mY P t f with | some m=>aB m n | none=>false) && qM P t (f+1) l
def u5 (P:ak) (t:Nat):TD→Bool
 | .no=>true
 | .int k=>match P.underlying t with | some (.int C)=>aB (de k) (de C) | _=>false
 | .str=>match P.underlying t with | some .string=>true | _=>false
 | .bool=>match P.underlying t with | some .bool=>true | _=>false
 | .ptr=>match P.underlying t with | some (.pointer _)=>true | _=>false
 | .c8 e n=>match P.underlying t,cO P t with | some (.slice A),some n'=>aB e A && aB n n' | _,_=>false
 | .st E=>qM P t 0 E
def qX (P:ak):Nat→List TD→Bool
 | _,[]=>true
 | t,d::l=>u5 P t d && qX P (t+1) l
def iu (P:ak):Nat→List (List TD)→Bool
 | _,[]=>true
 | t,r::l=>qX P t r && iu P (t+16) l
theorem zD {P:ak} :∀ {l:List TD} {b j:Nat},qX P b l=true→u5 P (b+j) (j2 l j .no)=true
 | [],b,j,_=>rfl
 | d::l,b,0,h=>(nP.1 h).1
 | d::l,b,j+1,h=>by
   have :=zD (j:=j) (nP.1 h).2;rw [show b+(j+1)=b+1 +j from by omega]; exact this
theorem Ai {P:ak} :∀ {T:List (List TD)} {b i:Nat},iu P b T=true→qX P (b+16 *i) (j2 T i [])=true
 | [],b,i,_=>rfl
 | r::T,b,0,h=>(nP.1 h).1
 | r::T,b,i+1,h=>by
   have :=Ai (i:=i) (nP.1 h).2;rw [show b+16 *(i+1)=b+16 +16 *i from by omega]; exact this
theorem uZ {P:ak} {T:List (List TD)} (h:iu P 0 T=true) (t:Nat):u5 P t (nH T t)=true :=by
 have :=zD (j:=t % 16)<|Ai (i:=t / 16) h;rw [show 0 +16 *(t / 16)+t % 16=t from by omega] at this;exact this
theorem ze {P:ak} {t:Nat} :∀ {l:List Nat} {b f n:Nat},qM P t b l=true→l[f]? =some n→mY P t (b+f)=some n
 | [],b,f,n,_,h=>by simp at h
 | m::l,b,0,n,h,hn=>by
   have A:=(nP.1 h).1;obtain rfl :m=n:=by simpa using hn
   split at A
   · rename_i C hm; rw [Nat.add_zero,hm,bF A]
   · cases A
 | m::l,b,f+1,n,h,hn=>by
   have :=ze (f:=f) (nP.1 h).2<|by simpa using hn
   rw [show b+(f+1)=b+1 +f from by omega]; exact this
section
variable {P:ak} {T:List (List TD)} (hT:iu P 0 T=true) {t:Nat}
include hT
theorem DP (h:nH T t= .str):P.underlying t=some .string:=by
 have :=uZ hT t;rw [h] at this;change (match P.underlying t with | some .string=>true | _=>false)=true at this;split at this
 · assumption
 · cases this
theorem DN {e n:Nat} (h:nH T t= .c8 e n):P.underlying t=some (.slice e)∧cO P t=some n:=by
 have :=uZ hT t;rw [h] at this;change (match P.underlying t,cO P t with | some (.slice A),some n'=>aB e A && aB n n' | _,_=>false)=true at this;split at this
 · rename_i C E;simp only [aU] at this;rw [C,E,bF this.1,bF this.2]; exact ⟨rfl,rfl⟩
 · cases this
theorem DO {l:List Nat} {f n:Nat} (h:nH T t= .st l) (hn:l[f]? =some n):mY P t f=some n:=by
 have :=uZ hT t;rw [h] at this;have :=ze (show qM P t 0 l=true from this) hn;rwa [bS] at this
end
def He (k:bc) (n:Int):Prop :=match k with
 | .i64=> -9223372036854775808≤n∧n≤9223372036854775807
 | .u8=>0≤n∧n≤255
 | .i32=> -2147483648≤n∧n≤2147483647
 | .u32=>0≤n∧n≤4294967295
 | .u64=>0≤n∧n≤18446744073709551615
 | _=>False
theorem zC {k:bc} {n:Int} (h:He k n):k.wrap n=n:=by
 cases k <;> first | exact mc h | exact AR h | exact vq h | exact AQ h | exact nL h | exact h.elim
inductive mM | no | v (x:ab) | vc (x:ab) (c:Prop)
def qU (k:bc) (n:Int):mM:=match k with
 | .i64=> .vc (.int .i64 n)<|-9223372036854775808≤n∧n≤9223372036854775807
 | .u8=> .vc (.int .u8 n)<|0≤n∧n≤255
 | .i32=> .vc (.int .i32 n)<|-2147483648≤n∧n≤2147483647
 | .u32=> .vc (.int .u32 n)<|0≤n∧n≤4294967295
 | .u64=> .vc (.int .u64 n)<|0≤n∧n≤18446744073709551615
 | _=> .no
def tD (op:BinOp) (k:bc) (a b:Int):mM:=match op with
 | .lss=> .v<|.bool<|decide (a < b)
 | .leq=> .v<|.bool<|decide (a≤b)
 | .gtr=> .v<|.bool<|decide (b < a)
 | .geq=> .v<|.bool<|decide (b≤a)
 | .eql=> .v<|.bool<|decide (a=b)
 | .neq=> .v<|.bool<|decide (a≠b)
 | .add=>qU k<|a+b
 | .sub=>qU k<|a - b
 | _=> .no
def Ab (op:BinOp) (l m:List UInt8):mM:=match op with
 | .eql=> .v<|.bool<|decide (l=m)
 | .neq=> .v<|.bool<|decide (l≠m)
 | .add=> .vc (str<|l++m)<|l.length+m.length≤9223372036854775807
 | _=> .no
def jg (v:ab):mM:=match v with
 | .int k n=> .v<|.int k n
 | .bool b=> .v<|.bool b
 | .string ⟨⟨l⟩⟩=> .v<|str l
 | .pointer a=> .v<|.pointer a
 | .slice a n c=> .v<|.slice a n c
 | .map r=> .v<|.map r
 | .func f a b=> .v<|.func f a b
 | .nilFunc=> .v .nilFunc
 | .iface t v=> .v<|.iface t v
 | .nilIface=> .v .nilIface
 | .agg c=> .v<|.agg c
 | .tuple c=> .v<|.tuple c
 | _=> .no
theorem EU {v x:ab} (h:jg v= .v x):v=x:=by
 unfold jg at h;split at h <;> cases h <;> rfl
theorem EV {v x:ab} {c:Prop} (h:jg v= .vc x c):False:=by
 unfold jg at h;split at h <;> cases h
def np (T:List (List TD)) (N:Fm) (σ:Nat→ab) (o:Op):mM:=match o with
 | .move x=>jg<|ev N σ x
 | .assign x=>jg<|ev N σ x
 | .pick c x y=>match ev N σ c with
   | .bool true =>jg<|ev N σ x
   | .bool false =>jg<|ev N σ y
   | _=> .no
 | .nilCheck x=>match ev N σ x with
   | .pointer (some a)=> .v<|.pointer<|some a
   | _=> .no
 | .extract x i=>match ev N σ x with
   | .tuple ⟨vs⟩=>match vs[i]? with
     | some v=> .v v
     | none=> .no
   | _=> .no
 | .fieldAddr s x f=>match ev N σ x,nH T s with
   | .pointer (some ⟨b,off,none⟩),.st l=>match l[f]? with
     | some n=> .v<|.pointer<|some ⟨b,off+n,none⟩
     | none=> .no
   | _,_=> .no
 | .binOp op t x y _=>match ev N σ x,ev N σ y with
   | .int k a,.int k' b=>cond (aB (de k)<|de k') (tD op k a b) .no
   | .string ⟨⟨l⟩⟩,.string ⟨⟨m⟩⟩=>Ab op l m
   | _,_=> .no
 | .unOp .not _ x=>match ev N σ x with
   | .bool b=> .v<|.bool<|!b
   | _=> .no
 | .call ⟨.builtin .len,⟨[x]⟩,⟨[t]⟩⟩=>match ev N σ x,nH T t with
   | .string ⟨⟨l⟩⟩,.str=> .v<|.int .i64 l.length
   | .slice a n c,.c8 _ _=> .v<|.int .i64 n
   | _,_=> .no
 | _=> .no
def uh (P:ak) (N:Fm) (σ:Nat→ab) (o:aq) (w:ah):mM→Prop
 | .no=>True
 | .v x=>(execOp (ev N σ) o).run P w= .ok (.value x) w
 | .vc x c=>c→(execOp (ev N σ) o).run P w= .ok (.value x) w
theorem qi {P:ak} {N:Fm} {σ:Nat→ab} {o:aq} {w:ah} {v:ab} (h:(execOp (ev N σ) o).run P w= .ok (.value v) w):uh P N σ o w (jg v):=by
 cases hf:jg v with
 | no=>trivial
 | v x=>rw [← EU hf]; exact h
 | vc x c=>exact (EV hf).elim
theorem qP {P:ak} {T:List (List TD)} (hT:iu P 0 T=true) {N:Fm} {σ:Nat→ab} (d:Option Nat) (o:Op) (ty:aj) (pos :String) (af:Array bB) (g:Option (Nat×Bool)) (w:ah):uh P N σ ⟨d,o,ty,pos,af,g⟩ w (np T N σ o):=by
 unfold np;split
 · exact qi mv
 · exact qi aE
 · split
   · exact qi<|qT<|by assumption
   · exact qi<|zq<|by assumption
   · trivial
 · split
   · exact nc<|by assumption
   · trivial
 · split
   · split
     · exact xt (by assumption)<|by simpa using by assumption
     · trivial
   · trivial
 · split
   · split
     · exact fa (DO hT (by assumption)<|by assumption)<|by assumption
     · trivial
   · trivial
 · split
   · rename_i k a E b A C;cases hk:aB (de k) (de E)
     · trivial
     · obtain rfl :=lJ hk;show uh _ _ _ _ _ (tD _ _ _ _);unfold tD;split
       · exact lt A C
       · exact le A C
       · exact gt A C
       · exact ge A C
       · exact xR A C
       · exact y7 A C
       · unfold qU; split <;> first | trivial | exact fun h=>ad A C<|zC h
       · unfold qU; split <;> first | trivial | exact fun h=>sb A C<|zC h
       · trivial
   · rename_i l m A C;unfold Ab;split
     · exact xT A C
     · exact y9 A C
     · exact fun h=>cc A C h
     · trivial
   · trivial
 · split
   · exact no<|by assumption
   · trivial
 · split
   · exact yM (DP hT<|by assumption) U<|by assumption
   · exact tP (DN hT<|by assumption).1 U<|by assumption
   · trivial
 · trivial
inductive Pt | c (c:bG) | l (ops:Array aq) (l:List aq) | x (e:aK)
inductive Kn | sq (y:bG) | bk (id:Nat)
def dM (P:ak) (N:Fm):List Kn→(aK→(Nat→ab)→ah→Prop)→aK→(Nat→ab)→ah→Prop
 | [],Q=>Q
 | .sq y::st,Q=>fN (fun σ w=>ba P N y (dM P N st Q) σ w)<|dM P N st Q
 | .bk id::st,Q=>jU id<|dM P N st Q
@[reducible] def At (P:ak) (N:Fm) (Q:aK→(Nat→ab)→ah→Prop) (w:ah) (p:Pt) (st:List Kn) (σ:Nat→ab):Prop :=match p with
 | .c c=>ba P N c (dM P N st Q) σ w
 | .l ops l=>bz P N ops (dM P N st Q) l σ w
 | .x e=>dM P N st Q e σ w
inductive Out | no | at (p:Pt) (st:List Kn) (σ:Nat→ab) (c:Option Prop)
def andG (c:Prop):Option Prop→Option Prop
 | none=>some c
 | some d=>some<|c∧d
def optG:Option Prop→Prop
 | none=>True
 | some c=>c
theorem pR {c:Prop} {d:Option Prop} (h:optG (andG c d)):c∧optG d:=by
 cases d
 · exact ⟨h,trivial⟩
 · exact h
inductive Cv | no | go (p:Pt) (st:List Kn) (σ:Nat→ab) (c:Option Prop)
def stepG (T:List (List TD)) (N:Fm) (p:Pt) (st:List Kn) (σ:Nat→ab) (c:Option Prop):Cv:=match p with
 | .x .normal=>match st with
   | .sq y::st=> .go (.c y) st σ c
   | .bk _::st=> .go (.x .normal) st σ c
   | []=> .no
 | .x .ret=>match st with
   | _::st=> .go (.x .ret) st σ c
   | []=> .no
 | .x (.exit i)=>match st with
   | .sq _::st=> .go (.x<|.exit i) st σ c
   | .bk j::st=>cond (aB i j) (.go (.x .normal) st σ c)<|.go (.x<|.exit i) st σ c
   | []=> .no
 | .x _=> .no
 | .c (.seq x y)=> .go (.c x) (.sq y::st) σ c
 | .c (.block id x)=> .go (.c x) (.bk id::st) σ c
 | .c .skip => .go (.x .normal) st σ c
 | .c .ret=> .go (.x .ret) st σ c
 | .c (.exit i)=> .go (.x<|.exit i) st σ c
 | .c (.region id ⟨l⟩ false)=>cond (jo N.r l) (.go (.l ⟨l⟩ l) st σ c) .no
 | .c (.cond x a b)=>match ev N σ x with
   | .bool true => .go (.c a) st σ c
   | .bool false => .go (.c b) st σ c
   | _=> .no
 | .c _=> .no
 | .l ops []=> .go (.x .normal) st σ c
 | .l ops (⟨some d,o,ty,pos,af,none⟩::r)=>match np T N σ o with
   | .v x=> .go (.l ops r) st (aI σ d x) c
   | .vc x c'=> .go (.l ops r) st (aI σ d x)<|andG c' c
   | .no=> .no
 | .l ops (⟨some d,o,ty,pos,af,some (j,want)⟩::r)=>match di ops j with
   | some t=>cond (au t N.n) (match σ t with
     | .bool b=>cond (b==want) (match np T N σ o with
       | .v x=> .go (.l ops r) st (aI σ d x) c
       | .vc x c'=> .go (.l ops r) st (aI σ d x)<|andG c' c
       | .no=> .no) (.go (.l ops r) st (aI σ d undef) c)
     | .tuple ⟨[]⟩=> .go (.l ops r) st (aI σ d undef) c
     | _=> .no) .no
   | none=> .no
 | .l ops _=> .no
def fL (T:List (List TD)) (N:Fm):Nat→Pt→List Kn→(Nat→ab)→Option Prop→Out
 | 0,p,st,σ,c=> .at p st σ c
 | n+1,p,st,σ,c=>match stepG T N p st σ c with
   | .go p st σ c=>fL T N n p st σ c
   | .no=> .no
section
variable {P:ak} {T:List (List TD)} {N:Fm} {Q:aK→(Nat→ab)→ah→Prop} {w:ah} {σ σ':Nat→ab} {p p':Pt} {st st':List Kn} {c c':Option Prop} {n:Nat}
theorem Iy (hT:iu P 0 T=true) (h:stepG T N p st σ c= .go p' st' σ' c') (A:optG c') (C:At P N Q w p' st' σ'):optG c∧At P N Q w p st σ:=by
 unfold stepG at h;split at h
 · split at h
   · cases h; exact ⟨A,tn C⟩
   · cases h; exact ⟨A,bn C⟩
   · cases h
 · split at h
   · rename_i k _;cases h; cases k
     · exact ⟨A,tr C⟩
     · exact ⟨A,br C⟩
   · cases h
 · split at h
   · cases h; exact ⟨A,te _ C⟩
   · rename_i i _ j _;cases hij:aB i j
     · rw [hij] at h; cases h;exact ⟨A,CS (fun e=>by rw [e] at hij; simp at hij) C⟩
     · rw [hij] at h; cases h;obtain rfl :=bF hij;exact ⟨A,be C⟩
   · cases h
 · cases h
 · cases h; exact ⟨A,sq fun K V=>AL (fun e σ w U=>by cases e <;> first | exact V _ _ U | exact U) C⟩
 · cases h; exact ⟨A,ao C⟩
 · cases h; exact ⟨A,zX C⟩
 · cases h; exact ⟨A,rt C⟩
 · cases h; exact ⟨A,ext C⟩
 · rename_i id l;cases hr:jo N.r l
   · rw [hr] at h; cases h
   · rw [hr] at h; cases h;exact ⟨A,rg hr C⟩
 · split at h
   · cases h; exact ⟨A,ct (by assumption) C⟩
   · cases h; exact ⟨A,cf (by assumption) C⟩
   · cases h
 · cases h
 · cases h; exact ⟨A,nl C⟩
 · rename_i ops d o ty pos af r;have E:=qP (P:=P) hT (N:=N) (σ:=σ) (some d) o ty pos af none w;split at h
   · rename_i x I;rw [I] at E; cases h;exact ⟨A,Hb.p E C⟩
   · rename_i x q I;rw [I] at E; cases h;obtain ⟨M,O⟩:=pR A;exact ⟨O,Hb.p (E M) C⟩
   · cases h
 · rename_i ops d o ty pos af j want r;have E:=qP (P:=P) hT (N:=N) (σ:=σ) (some d) o ty pos af (some (j,want)) w;split at h
   · rename_i t L;cases hb:au t N.n
     · rw [hb] at h; cases h
     · rw [hb] at h;simp only [cond_true] at h;split at h
       · rename_i b J;cases hw:(b==want)
         · rw [hw] at h; cases h;exact ⟨A,sk L hb J hw C⟩
         · rw [hw] at h;simp only [cond_true] at h;obtain rfl :b=want:=by simpa using hw
           split at h
           · rename_i x I;rw [I] at E; cases h;exact ⟨A,pg L hb J E C⟩
           · rename_i x q I;rw [I] at E; cases h;obtain ⟨M,O⟩:=pR A;exact ⟨O,pg L hb J (E M) C⟩
           · cases h
       · rename_i J;cases h;exact ⟨A,zY L hb J C⟩
       · cases h
   · cases h
 · cases h
theorem gR (hT:iu P 0 T=true):∀ (n:Nat) (p:Pt) (st:List Kn) (σ:Nat→ab) (c:Option Prop),fL T N n p st σ c= .at p' st' σ' c'→optG c'→At P N Q w p' st' σ'→optG c∧At P N Q w p st σ
 | 0,p,st,σ,c,h,hc,hk=>by cases h; exact ⟨hc,hk⟩
 | n+1,p,st,σ,c,h,hc,hk=>by
   simp only [fL] at h;split at h
   · rename_i E;obtain ⟨A,C⟩:=gR hT n _ _ _ _ h hc hk;exact Iy hT E A C
   · cases h
end
inductive Cr | no | at (fuel:Nat) (listed:Array Bool) (σ:Nat→ab) (c:Option Prop)
inductive Cu | no | go (σ:Nat→ab) (c:Option Prop)
def Ad (T:List (List TD)) (N:Fm) (g:Bool) (ops:Array aq) (i:Nat) (σ:Nat→ab) (c:Option Prop):Cu:=match ops[i]? with
 | some ⟨some d,o,_,_,_,none⟩=>match np T N σ o with
   | .v x=> .go (aI σ d x) c
   | .vc x c'=> .go (aI σ d x)<|andG c' c
   | .no=> .no
 | some ⟨some d,o,_,_,_,some (j,want)⟩=>cond g (match di ops j with
   | some t=>cond (au t N.n) (match σ t with
     | .bool b=>cond (b==want) (match np T N σ o with
       | .v x=> .go (aI σ d x) c
       | .vc x c'=> .go (aI σ d x)<|andG c' c
       | .no=> .no) (.go (aI σ d undef) c)
     | .tuple ⟨[]⟩=> .go (aI σ d undef) c
     | _=> .no) .no
   | none=> .no) .no
 | _=> .no
def j8 (T:List (List TD)) (N:Fm) (g:Bool) (ops:Array aq):List Nat→Nat→Array Bool→(Nat→ab)→Option Prop→Cr
 | [],fuel,listed,σ,c=> .at fuel listed σ c
 | _::_,0,_,_,_=> .no
 | i::is,fuel+1,listed,σ,c=>match Ad T N g ops i σ c with
   | .go σ c=>j8 T N g ops is fuel (listed.setIfInBounds i true) σ c
   | .no=> .no
def jM (fr:Array Bool→Nat→Bool):List Nat→Array Bool→Bool
 | [],_=>true
 | i::is,listed=>fr listed i && jM fr is (listed.setIfInBounds i true)
section
variable {P:ak} {T:List (List TD)} {N:Fm} {g:Bool} {ops:Array aq} {fr:Array Bool→Nat→Bool} {fuel':Nat} {listed':Array Bool} {σ':Nat→ab} {c':Option Prop} {w:ah}
theorem qZ (hT:iu P 0 T=true) (W:Nat→Array Bool→(Nat→ab)→Prop)
 (H1:∀ {i d o ty pos af v fuel listed σ},ops[i]? =some ⟨some d,o,ty,pos,af,none⟩→fr listed i=true→(∀ w,(execOp (ev N σ) ⟨some d,o,ty,pos,af,none⟩).run P w= .ok (.value v) w)→W fuel (listed.setIfInBounds i true) (aI σ d v)→W (fuel+1) listed σ)
 (O:g=true→∀ {i d o ty pos af v fuel listed σ j want t},ops[i]? =some ⟨some d,o,ty,pos,af,some (j,want)⟩→fr listed i=true→di ops j=some t→au t N.n=true→σ t= .bool want→(∀ w,(execOp (ev N σ) ⟨some d,o,ty,pos,af,some (j,want)⟩).run P w= .ok (.value v) w)→W fuel (listed.setIfInBounds i true) (aI σ d v)→W (fuel+1) listed σ)
 (Z:g=true→∀ {i d o ty pos af fuel listed σ j want t b},ops[i]? =some ⟨some d,o,ty,pos,af,some (j,want)⟩→fr listed i=true→di ops j=some t→au t N.n=true→σ t= .bool b→(b==want)=false→W fuel (listed.setIfInBounds i true) (aI σ d undef)→W (fuel+1) listed σ)
 (aa:g=true→∀ {i d o ty pos af fuel listed σ j want t},ops[i]? =some ⟨some d,o,ty,pos,af,some (j,want)⟩→fr listed i=true→di ops j=some t→au t N.n=true→σ t=undef→W fuel (listed.setIfInBounds i true) (aI σ d undef)→W (fuel+1) listed σ):
 ∀ (is:List Nat) (fuel:Nat) (listed:Array Bool) (σ:Nat→ab) (c:Option Prop),j8 T N g ops is fuel listed σ c= .at fuel' listed' σ' c'→jM fr is listed=true→optG c'→W fuel' listed' σ'→optG c∧W fuel listed σ
 | [],fuel,listed,σ,c,h,_,C,E=>by cases h; exact ⟨C,E⟩
 | i::is,0,listed,σ,c,h,_,C,E=>by cases h
 | i::is,fuel+1,listed,σ,c,h,hf,C,E=>by
   simp only [jM,aU] at hf;simp only [j8] at h;split at h
   · rename_i ac c2 A;obtain ⟨C,E⟩:=qZ hT W H1 O Z aa is fuel _ _ _ h hf.2 C E;unfold Ad at A;split at A
     · rename_i d o ty pos af hi;have I:=fun w=>qP hT (N:=N) (σ:=σ) (some d) o ty pos af none w;split at A
       · rename_i x J;rw [J] at I; cases A;exact ⟨C,H1 hi hf.1 I E⟩
       · rename_i x q J;rw [J] at I; cases A;obtain ⟨U,V⟩:=pR C;exact ⟨V,H1 hi hf.1 (fun w=>I w U) E⟩
       · cases A
     · rename_i d o ty pos af j want hi;have I:=fun w=>qP hT (N:=N) (σ:=σ) (some d) o ty pos af (some (j,want)) w;cases hg:g
       · rw [hg] at A; cases A
       · rw [hg] at A;simp only [cond_true] at A;split at A
         · rename_i t M;cases hb:au t N.n
           · rw [hb] at A; cases A
           · rw [hb] at A;simp only [cond_true] at A;split at A
             · rename_i b L;cases hw:(b==want)
               · rw [hw] at A; cases A;exact ⟨C,Z hg hi hf.1 M hb L hw E⟩
               · rw [hw] at A;simp only [cond_true] at A;obtain rfl :b=want:=by simpa using hw
                 split at A
                 · rename_i x J;rw [J] at I; cases A;exact ⟨C,O hg hi hf.1 M hb L I E⟩
                 · rename_i x q J;rw [J] at I; cases A;obtain ⟨U,V⟩:=pR C;exact ⟨V,O hg hi hf.1 M hb L (fun w=>I w U) E⟩
                 · cases A
             · rename_i L;cases A;exact ⟨C,aa hg hi hf.1 M hb L E⟩
             · cases A
         · cases A
     · cases A
   · cases h
variable {Q:aK→(Nat→ab)→ah→Prop} {S:ah→Prop} {r fuel:Nat} {listed:Array Bool} {σ:Nat→ab}
theorem Fa (hT:iu P 0 T=true) (is:List Nat) (h:j8 T N true ops is fuel listed σ none= .at fuel' listed' σ' c') (J:S w) (k:bR P N ops Q S fuel' listed' σ' w) (M:optG c') (A:jM (dQ N.F ops) is listed=true):bR P N ops Q S fuel listed σ w:=
 (qZ hT (fun fuel listed σ=>bR P N ops Q S fuel listed σ w) (fun hi A L k=>hp _ hi A (fun w _=>L w) J k) (fun _=>fun hi A C E I L k=>yq _ hi A C E I (fun w _=>L w) J k) (fun _=>fun hi A C E I hb k=>yr _ hi A C E I hb J k) (fun _=>fun hi A C E I k=>Fj _ hi A C E I J k) is fuel listed σ none h A M k).2
theorem Fc (hT:iu P 0 T=true) (is:List Nat) (h:j8 T N false ops is fuel listed σ none= .at fuel' listed' σ' c') (C:S w) (k:bJ P N ops Q S r fuel' listed' σ' w) (E:optG c') (A:jM (fun l i=>mZ N.F ops l r i) is listed=true):bJ P N ops Q S r fuel listed σ w:=
 (qZ (g:=false) hT (fun fuel listed σ=>bJ P N ops Q S r fuel listed σ w) (fun hi A I k=>lq _ hi A (fun w _=>I w) C k) (fun h=>dn h) (fun h=>dn h) (fun h=>dn h) is fuel listed σ none h A E k).2
theorem Fb (hT:iu P 0 T=true) (is:List Nat) (h:j8 T N false ops is fuel listed σ none= .at fuel' listed' σ' c') (C:S w) (k:bJ P N ops Q S r fuel' listed' σ' w) (E:optG c') (A:jM (fun l i=>lF N.F ops l r i) is listed=true):bJ P N ops Q S r fuel listed σ w:=
 (qZ (g:=false) hT (fun fuel listed σ=>bJ P N ops Q S r fuel listed σ w) (fun hi A I k=>oK _ hi A I (fun _=>C) k) (fun h=>dn h) (fun h=>dn h) (fun h=>dn h) is fuel listed σ none h A E k).2
end
def sK (P:ak) (f:dq):Bool:=match P.funcs[f]? with
 | some fn=> !(fn.name== "runtime.NumGoroutine") && !fn.body.isNone
 | none=>false
theorem C8 {P:ak} {f:dq} (h:sK P f=true):eN P f:=by
 unfold sK at h;split at h
 · simp only [aU,jy] at h;exact sL (by assumption) h.1 h.2
 · cases h
section
variable {P:ak} {N:Fm} {σ:Nat→ab} {w:ah} {dst:Option Nat} {ty:aj} {pos :String} {af:Array bB} {g:Option (Nat×Bool)} {x y z:az} {K:(Nat→ab)→ah→Prop}
theorem aZ {f:dq} {args:Array az} {A:Array aj} {L:List ab} {R:ab→ah→Prop} (hr:bf P f L.toArray w R) (C:args.toList.map (ev N σ)=L)
 (k:∀ v w',R v w'→K (bV σ dst v) w') (E:sK P f=true :=by kernel_rfl):bq P N ⟨dst,.call ⟨.value (.func f),args,A⟩,ty,pos,af,g⟩ σ w K:=cl (C8 E) hr C k
theorem aH {t b off :Nat} {v:ab} (C:ev N σ x= .pointer (some ⟨b,off,none⟩)) (A:ay w.heap b off =some v) (hu:cM P t=some none:=by kernel_rfl):
 (execOp (ev N σ) ⟨dst,.load t x,ty,pos,af,g⟩).run P w= .ok (.value v) w:=ld hu C A
theorem cY (n:Nat) {t E:aj} {a b:Int} (A:ev N σ x= .int .i64 a:=by exact U) (C:ev N σ y= .int .i64 b:=by exact U) (h:a+b=(n:Int)∧n≤9223372036854775807:=by omega):
 (execOp (ev N σ) ⟨dst,.binOp .add t x y E,ty,pos,af,g⟩).run P w= .ok (.value<|.int .i64 (n:Int)) w:=wz (n:Int) A C<|vn h.1 h.2
theorem q4 (n:Nat) {t E:aj} {a b:Int} (A:ev N σ x= .int .i64 a:=by exact U) (C:ev N σ y= .int .i64 b:=by exact U) (h:a - b=(n:Int)∧n≤9223372036854775807:=by omega):
 (execOp (ev N σ) ⟨dst,.binOp .sub t x y E,ty,pos,af,g⟩).run P w= .ok (.value<|.int .i64 (n:Int)) w:=zK (n:Int) A C<|vn h.1 h.2
variable {ops:Array aq} {Q:aK→(Nat→ab)→ah→Prop} {S:ah→Prop} {r fuel d t b off :Nat} {listed:Array Bool} {v:ab} {W:ah} {l:List aq} {id:Nat}
theorem jT (i:Nat) (h:(ops[i]?,ev N σ x)=(some ⟨some d,.load t x,ty,pos,af,none⟩,.pointer (some ⟨b,off,none⟩))) (A:Wk W w) (C:ay W.heap b off =some v) (k:bR P N ops Q (fun w'=>Wk W w') fuel (listed.setIfInBounds i true) (aI σ d v) w)
 (E:dQ N.F ops listed i=true :=by kernel_rfl) (hu:cM P t=some none:=by kernel_rfl):bR P N ops Q (fun w'=>Wk W w') (fuel+1) listed σ w:=hp i (congrArg bN h) E (fun _ hw=>ld hu (congrArg lf h)<|hw.ay C) A k
theorem nu (i:Nat) (h:(ops[i]?,ev N σ x)=(some ⟨some d,.load t x,ty,pos,af,none⟩,.pointer (some ⟨b,off,none⟩))) (A:Wk W w) (C:ay W.heap b off =some v) (k:bJ P N ops Q (fun w'=>Wk W w') r fuel (listed.setIfInBounds i true) (aI σ d v) w)
 (E:mZ N.F ops listed r i=true :=by kernel_rfl) (hu:cM P t=some none:=by kernel_rfl):bJ P N ops Q (fun w'=>Wk W w') r (fuel+1) listed σ w:=lq i (congrArg bN h) E (fun _ hw=>ld hu (congrArg lf h)<|hw.ay C) A k
theorem tC (h:Wk w w.drew→bR P N l.toArray Q (fun w'=>Wk w w') l.length (nN l.length false) σ w.drew) (hr:jo N.r l=true :=by exact U) (hm:P.follows .mixedOrders=true :=by kernel_rfl):ba P N (.region id l.toArray true) Q σ w:=bu _ hr hm (Md.refl _ _).drew<|h (Md.refl _ _).drew
theorem yP (r:Nat) (h:Wk w w.drew→bJ P N l.toArray Q (fun w'=>Wk w w') r l.length (nN l.length false) σ w.drew) (hr:jo N.r l=true :=by exact U) (hm:P.follows .mixedOrders=true :=by kernel_rfl):ba P N (.region id l.toArray true) Q σ w:=qB _ r hr hm (Md.refl _ _).drew<|h (Md.refl _ _).drew
end
end Go.Hb
end
section
namespace Go.Hb
open Go.ChangeShapes Go.WideShapes Go.ChangeAt
theorem Wk.frame {w w':ah} (h:Wk w w') (may:MemPlace→Prop):w.keptBut w' may:=by
 refine ⟨h.os,h.output,fun i hi=> ?_⟩;rw [h.cD i hi id];split <;> simp_all
theorem Wk.same {w w':ah} (h:Wk w w') {p:MemPlace} (hp:p.block < w.heap.size):w.sameAt w' p:=by
 cases p with
 | cell b o=>exact World.cell?_of_block (w:=w)<|h.cD b hp id
 | map b=>exact h.cD b hp id
section
variable {H:Type} {enc:aj×ab→H} {P:ak} {W W':ah}
theorem Ao (J:laidOutB P=true) (I:Wk W W'):∀ (C:List aj) (vs:List ab) (E:List (DataW H)) (ps:List MemPlace),C.all (fun t=>P.readableRec t && decide (t < P.types.size))=true→(∀ x∈ps,x.block < W.heap.size)→
 Bb enc P W 0 (fun _=>true) true C vs E ps→Bb enc P W' 0 (fun b=>decide (b < W.heap.size)) true C vs E ps
 | [],[],[],_,_,_,h=>h
 | t::C,v::vs,d::E,_,hp,hlt,⟨p,q,h1,h2,he⟩=>by
   subst he;rw [rQ,aU,aU] at hp;exact ⟨p,q,WideElems.Trod_stays J hp.1.1 (of_decide_eq_true hp.1.2) h1 (fun x A=>I.same<|hlt x<|vS _ A) (fun x A=>decide_eq_true<|hlt x<|vS _ A),
    Ao J I C vs E q hp.2 (fun x A=>hlt x<|BS _ A) h2,rfl⟩
 | [],_::_,_,_,_,_,h=>h.elim
 | [],[],_::_,_,_,_,h=>h.elim
 | _::_,[],_,_,_,_,h=>h.elim
 | _::_,_::_,[],_,_,_,h=>h.elim
theorem G8 {f:dq} {fn:Func} {s:ChangeSpec} {args:Array ab} {A gs:List (DataW H)} {before:List MemPlace} {O:aj} (I:DataW.Whole enc P fn.params.toList s.vars false W args.toList A gs before) (M:s.vars= [])
 (C:s.fn H (A++gs)= {results:= [.lit (.bool true)],args:=A}) (hr:fn.resultTypes= #[O]) (hb:P.underlying O=some .bool) (V:laidOutB P=true) (hp:fn.params.toList.all (fun t=>P.readableRec t && decide (t < P.types.size))=true)
 (h:bf P f args W (fun v w'=>v= .bool true∧Wk W w')):Calls P f args W fun e W'=> ∃ v,e= .returned v∧s.post enc P fn false true false false W args v W':=by
 refine gy h fun e W' ⟨v,he,aa,L⟩=>⟨v,he,?_⟩
 subst aa;have J:=I;obtain ⟨p,q,U,E,rfl,_,_⟩:=I;rw [M] at E;obtain ⟨rfl,rfl⟩:=trodVars_none E;have Z:∀ x∈p,x.block < W.heap.size:=fun x ac=>J.lt x<|by simpa using ac
 refine ⟨_,_,_,[],p,[],J,?_,?_,?_,L.frame _,fun h=>by cases h⟩
 · rw [C,hr];exact trodAll_cons_mk (shut_bool hb _) trodAll_mk0
 · rw [C];exact Ao V L _ _ _ _ hp Z U
 · rw [C,M]; rfl
theorem xh {w:ah} {a:aD} {v:ab} (h:w.cell? a=some v):a=⟨a.block,a.off,none⟩∧ay w.heap a.block a.off=some v:=by
 obtain ⟨b,o,C⟩:=a;unfold Bu at h;simp only at h;split at h
 · rename_i c t z hb;split at h
   · cases h
   · rename_i A;cases C with
     | none=>exact ⟨rfl,by rw [dd hb]; exact h⟩
     | some x=>simp at A
 · cases h
theorem Dc {w:ah} {a:aD} {xs:List ab} (h:∀ j u,xs[j]? =some u→w.cell? (a.add j)=some u):bh w.heap (some a) xs:=by
 cases xs with
 | nil=>exact bh.nil _ _
 | cons x xs=>
   have h0:=(xh<|h 0 x rfl).1;have ha:a=⟨a.block,a.off,none⟩:=h0;refine ⟨fun _=>congrArg some ha,fun j u hu=> ?_⟩;have A:=h j u hu;rw [ha,dt,fZ] at A;exact A
end
end Go.Hb
namespace Go.Hb
open Go.Proofs.YtbogmhohloohhaaGreatDoor
theorem C1 {H:Type} {l:List (DataW H)} (A:Rows.uptoSmall H l=true):Rows.uptoBulkAll l≤1048576:=of_decide_eq_true A
end Go.Hb
namespace Go.Hb
open Go.Proofs.YtbogmhohloohhaaGreatDoor Go.ChangeShapes Go.WideShapes Go.ChangeAt
structure kp (P:ak) (t:aj) (m:Nat) {X:Type} (R:ah→List ab→X→Prop) (B:X→Nat):Prop where
 cells:P.cellsOf t=m
 op:∀ {H:Type} (enc:aj×ab→H) (W:ah) (fuel:Nat) (cs:List ab) (d:DataW H) (p:List MemPlace),pf enc P W 0 (fun _=>true) true fuel t cs=some (d,p)→cs.length=m∧∃ x,R W cs x∧B x≤Rows.uptoBulk d
section
variable {P:ak} {t t0 t1 e:aj} {m m0 m1:Nat} {X X0 X1:Type} {R:ah→List ab→X→Prop} {B:X→Nat} {R0:ah→List ab→X0→Prop} {B0:X0→Nat} {R1:ah→List ab→X1→Prop} {B1:X1→Nat}
theorem GJ {k:bc} (C:P.underlying t=some (.int k)) (A:P.cellsOf t=1):kp P t 1 (fun _ cs (x:Int)=>cs= [.int k x]∧(Lit.int k x).wf=true) (fun _=>1) where
 cells:=A
 op enc W fuel cs d p h:=by
  obtain ⟨n,rfl,E,hw⟩:=DataW.trod_int C h;cases E;exact ⟨U,n,⟨U,hw⟩,by simp [Rows.uptoBulk]⟩
theorem ui (C:P.underlying t=some .string) (A:P.cellsOf t=1):kp P t 1 (fun _ cs (x:List UInt8)=>cs= [str x]) (fun x=>x.length+1) where
 cells:=A
 op enc W fuel cs d p h:=by
  obtain ⟨s,rfl,E,hw⟩:=DataW.trod_string C h;cases E;exact ⟨U,s.data.toList,U,by simp [Rows.uptoBulk]⟩
def RS (m:Nat) (R:ah→List ab→X→Prop) (W:ah) (cs:List ab) (xs:List X):Prop :=
 ∃ (a:Option aD) (c:Nat) (L:List (List ab)),cs= [.slice a xs.length c]∧L.length=xs.length∧bh W.heap a L.flatten∧xs.length≤c∧∀ (i:Nat) l x,L[i]? =some l→xs[i]? =some x→l.length=m∧R W l x
theorem yg {L:List (List ab)} {m:Nat} (h:∀ l∈L,l.length=m):L.flatten.length=L.length*m:=by
 induction L with
 | nil=>simp
 | cons a L ih=>
   rw [nX,bK,ih (fun l A=>h l<|by simp [A]),h a (by simp),bZ,n5]; omega
theorem yf {L:List (List ab)} {m:Nat} (h:∀ l∈L,l.length=m) {i c:Nat} {l:List ab} (A:L[i]? =some l) (C:c < m):L.flatten[i*m+c]? =l[c]? :=by
 induction L generalizing i with
 | nil=>simp at A
 | cons a L ih=>
   have ha:=h a<|by simp
   cases i with
   | zero=>
     simp only [fV,aY] at A;subst A;rw [nX,n7,bS,fy ag]
   | succ i=>
     simp only [fU] at A;rw [nX,fA (by rw [ha,n5]; omega),ha,show (i+1)*m+c - m=i*m+c from by rw [n5]; omega];exact ih (fun l A=>h l<|by simp [A]) A
theorem ES {L:List (List ab)} {m:Nat} (hm:0 < m) (h:∀ l∈L,l.length=m) {j:Nat} {u:ab} (hu:L.flatten[j]? =some u):∃ l,L[j / m]? =some l∧l[j % m]? =some u:=by
 have C:=(cy.1 hu).1;rw [yg h] at C;have A:j / m < L.length:=(Nat.div_lt_iff_lt_mul hm).2 C;refine ⟨L[j / m],bW A,?_⟩;have :=yf h (bW A)<|Nat.mod_lt j hm;rw [pH,Ca] at this;rw [← this]; exact hu
theorem wX {H:Type} {f:X→Nat} :∀ (xs:List X) (A:List (DataW H)),xs.length=A.length→(∀ (i:Nat) x d,xs[i]? =some x→A[i]? =some d→f x≤Rows.uptoBulk d)→(xs.map f).sum≤Rows.uptoBulkAll A
 | [],_,_,_=>by simp
 | x::xs,[],h,_=>by simp at h
 | x::xs,d::A,h,hf=>by
   have E:=hf 0 x d rfl rfl;have I:=wX xs A (by simpa using h) fun i y e C he=>hf (i+1) y e (by simpa using C)<|by simpa using he
   simp only [da,List.sum_cons,Rows.uptoBulkAll]; omega
theorem zn (he:kp P e m R B) (az:P.underlying t=some (.slice e)) (ax:P.cellsOf t=1) (hm:0 < m):kp P t 1 (RS m R) (fun xs=>(xs.map B).sum+1) where
 cells:=ax
 op enc W fuel cs d p h:=by
  rcases DataW.trod_slice az h with ⟨rfl,E⟩ | ⟨a,len,cap,elems,rest,n,_,rfl,E,_,J,_,aB,ak,_,_⟩
  · cases E;exact ⟨U,[],⟨none,0,[],U,U,bh.nil _ _,aO _,fun i l x J=>by simp at J⟩,by simp [Rows.uptoBulk]⟩
  · cases E;rw [he.cells] at ak;have hex:∀ i,i < len→∃ (l:List ab) (x:X) (y:DataW _×List MemPlace),elems[i]? =some y∧W.cells? 0 (a.add<|i*m) m=some l∧l.length=m∧R W l x∧B x≤Rows.uptoBulk y.1:=by
     intro i hi;have I:=ak i hi;rw [bW ag,pK] at I;obtain ⟨l,A,C⟩:=I;obtain ⟨ac,x,aj,ad⟩:=he.op enc W n l elems[i].1 elems[i].2 C;exact ⟨l,x,elems[i],bW ag,A,ac,aj,ad⟩
    let M:Nat→List ab:=fun i=>if hi:i < len then (hex i hi).choose else []
    let Z:(i:Nat)→i < len→X:=fun i hi=>(hex i hi).choose_spec.choose
    have O:∀ i (hi:i < len),∃ (y:DataW _×List MemPlace),elems[i]? =some y∧W.cells? 0 (a.add<|i*m) m=some (M i)∧(M i).length=m∧R W (M i) (Z i hi)∧B (Z i hi)≤Rows.uptoBulk y.1:=fun i hi=>by
     have :=(hex i hi).choose_spec.choose_spec;simp only [M,dif_pos hi];exact this
    let xs:List X:=(kj len).attach.map fun q=>Z q.1<|List.mem_range.1 q.2
    have ah:xs.length=len:=by simp [xs]
    have an:∀ (i:Nat) x,xs[i]? =some x→∃ hi:i < len,x=Z i hi:=fun i x E=>by
     simp only [xs,eX,fB] at E;obtain ⟨q,V,rfl⟩:=E;have I:=cy.1 V;obtain ⟨hi,A⟩:=I;simp only [List.length_attach,BQ] at hi;have C:q.1=i:=by rw [← A]; simp
     subst C;exact ⟨hi,U⟩
    let L:List (List ab):=(kj len).map M
    have au:L.length=len:=by simp [L]
    have ae:∀ (i:Nat) l,L[i]? =some l→i < len∧l=M i:=fun i l J=>by
     simp only [L,eX,fB] at J;obtain ⟨q,V,rfl⟩:=J;have hi:=(cy.1 V).1;rw [BQ] at hi;rw [rU hi] at V;cases V;exact ⟨hi,U⟩
    have av:∀ l∈L,l.length=m:=fun l J=>by
     obtain ⟨i,hi⟩:=rY.1 J;obtain ⟨I,rfl⟩:=ae i l hi;obtain ⟨_,_,_,A,_⟩:=O i I;exact A
    refine ⟨U,xs,⟨some a,cap,L,by rw [ah],by rw [au,ah],Dc fun j u hu=> ?_,ag,fun i l x J E=> ?_⟩,?_⟩
    · obtain ⟨l,I,A⟩:=ES hm av hu;obtain ⟨C,rfl⟩:=ae _ l I;obtain ⟨y,_,ac,aj,_⟩:=O _ C;obtain ⟨_,_,ad⟩:=Bv ac;have ap:=ad (j % m)<|Nat.mod_lt j hm;have ha:(a.add<|j / m*m).add (j % m)=a.add j:=by
       have aw:∀ (a:aD) (x y:Nat),a.spot=none→(a.add x).add y=a.add (x+y):=by
        intro a x y am;obtain ⟨b,o,s⟩:=a;simp only at am; subst am;rw [dt,dt,dt,eY]
       have ay:a.spot=none:=by
        have h0:=O 0<|Cb (Nat.zero_le _) C;obtain ⟨_,_,aq,_⟩:=h0;obtain ⟨_,_,ar⟩:=Bv aq;have aa:=ar 0 hm;obtain ⟨aC,_,_,aA,_⟩:=O 0<|Cb (Nat.zero_le _) C;rw [bW ag] at aa;simp only [n7] at aa;have ai:=(xh aa).1;have ao:(a.add 0).add 0=a:=rfl;rw [ao] at ai;rw [ai]
       rw [aw a _ _ ay,pH,Ca]
      rw [← ha,ap]; exact A
    · obtain ⟨hi,rfl⟩:=an i x E;obtain ⟨_,rfl⟩:=ae i l J;obtain ⟨_,_,_,A,C,_⟩:=O i hi;exact ⟨A,C⟩
    · have I:(xs.map B).sum≤Rows.uptoBulkAll (elems.map (·.1)):=wX xs _ (by rw [ah,List.length_map]; omega) fun i x d E al=>by
       obtain ⟨hi,rfl⟩:=an i x E;obtain ⟨y,A,_,_,_,C⟩:=O i hi;rw [eX,A] at al;cases al;exact C
      simp only [Rows.uptoBulk]; omega
theorem IK {H:Type} {enc:aj×ab→H} {W:ah} {f0 f1 f2:Field} {fuel:Nat} {cs:List ab} {x:DataW H×List MemPlace} (L:P.underlying t=some (.struct #[f0,f1,f2])) (h:pf enc P W 0 (fun _=>true) true fuel t cs=some x):
 ∃ A C E n,x=(.agg [A.1,C.1,E.1],A.2++(C.2++E.2))∧cs.length=P.cellsOf t∧pf enc P W 0 (fun _=>true) true n f0.type ((cs.drop f0.offset).take<|P.cellsOf f0.type)=some A∧pf enc P W 0 (fun _=>true) true n f1.type ((cs.drop f1.offset).take<|P.cellsOf f1.type)=some C∧
   pf enc P W 0 (fun _=>true) true n f2.type ((cs.drop f2.offset).take<|P.cellsOf f2.type)=some E:=by
 obtain ⟨xs,n,_,rfl,J,hlen,I⟩:=DataW.trod_struct L h
 match xs,hlen with
 | [A,C,E],_=>exact ⟨A,C,E,n,by simp,J,by simpa using I 0 f0 rfl,by simpa using I 1 f1 rfl,by simpa using I 2 f2 rfl⟩
theorem GK {t2:aj} {I:Type} {L:ah→List ab→I→Prop} {J:I→Nat} (h0:kp P t0 1 R0 B0) (M:kp P t1 1 R1 B1) (O:kp P t2 1 L J) {f0 f1 f2:Field}
 (ae:P.underlying t=some (.struct #[f0,f1,f2])) (aa:f0.type=t0) (ac:f1.type=t1) (ad:f2.type=t2) (am:f0.offset=0) (an:f1.offset=1) (ao:f2.offset=2) (V:P.cellsOf t=3):
 kp P t 3 (fun W cs (x:X0×X1×I)=> ∃ A C E,cs= [A,C,E]∧R0 W [A] x.1∧R1 W [C] x.2.1∧L W [E] x.2.2) (fun x=>B0 x.1+B1 x.2.1+J x.2.2+1) where
 cells:=V
 op enc W fuel cs d p h:=by
  obtain ⟨aw,ax,ay,n,ag,Z,g0,g1,g2⟩:=IK ae h;cases ag;rw [V] at Z
  match cs,Z with
  | [A,C,E],_=>
    rw [aa,am,h0.cells] at g0;rw [ac,an,M.cells] at g1;rw [ad,ao,O.cells] at g2;obtain ⟨_,ap,ai,ar⟩:=h0.op enc W n _ _ _ g0;obtain ⟨_,aq,ak,au⟩:=M.op enc W n _ _ _ g1;obtain ⟨_,x2,al,av⟩:=O.op enc W n _ _ _ g2;refine ⟨U,(ap,aq,x2),⟨A,C,E,U,ai,ak,al⟩,?_⟩;simp only [Rows.uptoBulk,Rows.uptoBulkAll]; omega
end
theorem IF {W:ah} {v:ab} {ws:(List<|List UInt8)} (h:RS 1 (fun _ cs (x:List UInt8)=>cs= [str x]) W [v] ws):∃ a c,v= .slice a ws.length c∧eD W.heap a ws∧ws.length≤c:=by
 obtain ⟨a,c,L,I,O,J,M,A⟩:=h;simp only [List.cons.injEq,and_true] at I;refine ⟨a,c,I,?_,M⟩;have e:L.flatten=ws.map str:=by
  have key:∀ (L:List (List ab)) (ws:(List<|List UInt8)),L.length=ws.length→(∀ (i:Nat) l x,L[i]? =some l→ws[i]? =some x→l= [str x])→L.flatten=ws.map str:=by
   intro L
   induction L with
   | nil=>intro ws h _; rw [iU h.symm]; rfl
   | cons a L ih=>
     intro ws h A;cases ws with
     | nil=>simp at h
     | cons w ws=>
       rw [nX,da,A 0 a w rfl rfl,ih ws (by simpa using h) (fun i l x C E=>A (i+1) l x (by simpa using C)<|by simpa using E)]; rfl
  exact key L ws O fun i l x C E=>(A i l x C E).2
 unfold eD;rw [← e]; exact J
end Go.Hb
end
section
namespace Go.Hb
open Go.Proofs
def fq:List (List TD):= [
 [.no,.no,.no,.no,.no,.no,.no,.st [0,1,2,3],.st [0,1,2,3],.str,.str,.str,.no,.st [0,1],.st [0,1],.no],
 [.no,.no,.st [0],.st [0],.no,.no,.c8 33 3,.no,.no,.no,.no,.no,.no,.no,.no,.c8 9 1],
 [.st [0,1,2],.st [0,1,2],.no,.no,.no,.no,.no,.no,.no,.no,.no,.st [0,1,2],.st [0,1,2],.no,.no,.no],
 [.no,.no,.st [0,1,2,3,4],.st [0,1,2,3,4],.c8 131 2,.c8 151 2,.no,.st [0,1,2,3],.st [0,1,2,3],.no,.no,.st [0,7],.st [0,7],.no,.c8 1 1,.st [0,1,2]],
 [.st [0,1,2],.no,.no,.c8 5 1,.st [0,1],.st [0,1],.no,.no,.no,.no,.no,.no,.no,.no,.no,.c8 83 2],
 [.no,.no,.st [0,1],.st [0,1],.no,.no,.no,.no,.no,.no,.no,.st [0,1,2],.no,.no,.st [0],.st [0]],
 [.no,.no,.no,.no,.no,.c8 171 1,.c8 169 5,.c8 175 7,.st [0,1,2,3,8,9,10,11,12],.st [0,1,2,3,8,9,10,11,12],.no,.no,.no,.c8 237 2,.st [0,1,2,15],.st [0,1,2,15]],
 [.no,.no,.no,.st [0,1,6],.st [0,1,6],.no,.no,.no,.no,.no,.no,.no,.no,.st [0,1],.st [0,1],.no],
 [.no,.no,.st [0,1],.st [0,1],.no,.no,.no,.no,.no,.no,.no,.no,.no,.no,.no,.no],
 [.no,.no,.no,.no,.no,.c8 200 2,.st [0,1],.st [0,1],.no,.no,.no,.no,.no,.no,.no,.no],
 [.no,.st [0,1,2,3,4],.st [0,1,2,3,4],.no,.st [0,13],.st [0,13],.no,.no,.st [0,1,2,3,4],.st [0,1,2,3,4],.no,.c8 99 1,.no,.no,.st [0,1,2,3,4,5,6],.st [0,1,2,3,4,5,6]],
 [.no,.st [0,1,2,3,4,5],.st [0,1,2,3,4,5],.st [0],.st [0],.no,.c8 3 1,.st [0,1],.st [0,1],.c8 184 2,.no,.no,.no,.no,.no,.no],
 [.no,.no,.no,.no,.no,.no,.no,.st [0,1],.st [0,1],.no,.no,.no,.no,.no,.no,.no],
 [.no,.no,.no,.no,.no,.no,.no,.no,.no,.no,.no,.no,.st [0,1,2,3,4,5,6],.st [0,1,2,3,4,5,6],.no,.no],
 [.no,.no,.no,.st [0,1],.st [0,1],.no,.no,.no,.no,.no,.st [0,1],.st [0,1],.st [0,1],.st [0,1],.no,.no],
 [.no,.no,.no,.no,.no,.no,.no,.no,.no,.no,.no,.no,.no,.no,.no,.no],
 [.no,.no,.no,.no,.no,.no,.no,.no,.no,.no,.st [0,1,2],.st [0,1,2],.no,.no,.no,.no],
 [.no,.no,.no,.st [0,1,2],.st [0,1,2],.no,.no,.no,.no,.no,.no,.no,.no,.no,.no,.no],
 [.no,.no,.no,.no,.c8 99 1,.no,.no,.no,.st [0,1,2,3,4,5],.st [0,1,2,3,4,5],.no,.no,.no,.st [0,1,2,3,4],.st [0,1,2,3,4],.no],
 [.no,.no,.no,.no,.no,.no,.no,.no,.no,.no,.no,.no,.no,.no,.no,.no],
 [.c8 318 1,.no,.st [0,1,2,3,4,5,6],.st [0,1,2,3,4,5,6],.no,.st [0],.st [0],.no,.no,.no,.no,.no,.no,.c8 26 1,.no,.no],
 [.no,.no,.no,.no,.no,.no,.no,.no,.no,.no,.no,.no,.no,.no,.no,.no],
 [.no,.no,.no,.no,.no,.no,.no,.no,.no,.no,.no,.no,.no,.no,.no,.no],
 [.no,.no,.st [0,1,2,3,4,5,6],.st [0,1,2,3,4,5,6],.no,.c8 377 2,.st [0,1,2],.st [0,1,2],.st [0,1],.st [0,1],.st [0,1],.st [0,1],.no,.no,.no,.no],
 [.no,.no,.no,.no,.no,.no,.no,.no,.c8 417 4,.st [0],.st [0],.no,.no,.no,.no,.no],
 [.no,.no,.no,.no,.st [0,1,2,3,4],.st [0,1,2,3,4],.no,.no,.st [0,1],.st [0,1],.no,.c8 180 1,.no,.no,.no,.no],
 [.no,.no,.no,.no,.no,.no,.no,.no,.no,.no,.no,.no,.no,.no,.no,.no],
 [.st [0],.st [0],.no,.no,.no,.no,.no,.no,.no,.no,.no,.no,.no,.no,.no,.no],
 [.no,.no,.no,.no,.no,.no,.no,.no,.no,.no,.no,.no,.c8 433 1,.c8 465 2,.st [0,1,2],.st [0,1,2]],
 [.st [0,1],.st [0,1],.no,.no,.no,.no,.no,.no,.no,.no,.no,.no,.no,.no,.no,.st [0,1]],
 [.st [0,1],.no,.no,.st [0,1,2,3],.st [0,1,2,3],.no,.no,.no,.no,.no,.no,.no,.no,.st [0,1,2,3,4,5,6,7,8,9,10],.st [0,1,2,3,4,5,6,7,8,9,10],.no],
 [.no,.st [0,1],.st [0,1],.st [0],.st [0],.no,.no,.st [0,1,2,3,4],.st [0,1,2,3,4],.c8 508 4,.no,.st [0,1,2,3],.st [0,1,2,3],.no,.no]]
theorem fO:iu an 0 fq=true :=ai
section
variable {N:Fm} {Q:aK→(Nat→ab)→ah→Prop} {w:ah} {σ σ':Nat→ab} {p':Pt} {st st':List Kn} {c':Option Prop}
theorem dD {x:bG} {A:bG} (n:Nat) (h:fL fq N n (.c x) [] σ none= .at (.c A) st' σ' c') (k:ba an N A (dM an N st' Q) σ' w) (C:optG c':=by first | exact trivial | (simp only [optG,andG]; omega)):ba an N x Q σ w:=(gR fO n _ _ _ _ h C k).2
theorem bd {x:bG} {C:Array aq} {A:List aq} (n:Nat) (h:fL fq N n (.c x) [] σ none= .at (.l C A) st' σ' c') (k:bz an N C (dM an N st' Q) A σ' w) (E:optG c':=by first | exact trivial | (simp only [optG,andG]; omega)):ba an N x Q σ w:=(gR fO n _ _ _ _ h E k).2
theorem lG {x:bG} {A:aK} (n:Nat) (h:fL fq N n (.c x) [] σ none= .at (.x A) [] σ' c') (k:Q A σ' w) (C:optG c':=by first | exact trivial | (simp only [optG,andG]; omega)):ba an N x Q σ w:=(gR fO n _ _ _ _ h C k).2
theorem dY {x:bG} {A:bG} (n:Nat) (h:fL fq N n (.c x) st σ none= .at (.c A) st' σ' c') (k:ba an N A (dM an N st' Q) σ' w) (C:optG c':=by first | exact trivial | (simp only [optG,andG]; omega)):ba an N x (dM an N st Q) σ w:=(gR fO n _ _ _ _ h C k).2
theorem aM {x:bG} {C:Array aq} {A:List aq} (n:Nat) (h:fL fq N n (.c x) st σ none= .at (.l C A) st' σ' c') (k:bz an N C (dM an N st' Q) A σ' w) (E:optG c':=by first | exact trivial | (simp only [optG,andG]; omega)):ba an N x (dM an N st Q) σ w:=(gR fO n _ _ _ _ h E k).2
theorem bg {x:bG} {A:aK} (n:Nat) (h:fL fq N n (.c x) st σ none= .at (.x A) [] σ' c') (k:Q A σ' w) (C:optG c':=by first | exact trivial | (simp only [optG,andG]; omega)):ba an N x (dM an N st Q) σ w:=(gR fO n _ _ _ _ h C k).2
theorem aQ {ops:Array aq} {l:List aq} {A:bG} (n:Nat) (h:fL fq N n (.l ops l) st σ none= .at (.c A) st' σ' c') (k:ba an N A (dM an N st' Q) σ' w) (C:optG c':=by first | exact trivial | (simp only [optG,andG]; omega)):bz an N ops (dM an N st Q) l σ w:=(gR fO n _ _ _ _ h C k).2
theorem ar {ops:Array aq} {l:List aq} {C:Array aq} {A:List aq} (n:Nat) (h:fL fq N n (.l ops l) st σ none= .at (.l C A) st' σ' c') (k:bz an N C (dM an N st' Q) A σ' w) (E:optG c':=by first | exact trivial | (simp only [optG,andG]; omega)):bz an N ops (dM an N st Q) l σ w:=(gR fO n _ _ _ _ h E k).2
theorem aA {ops:Array aq} {l:List aq} {A:aK} (n:Nat) (h:fL fq N n (.l ops l) st σ none= .at (.x A) [] σ' c') (k:Q A σ' w) (C:optG c':=by first | exact trivial | (simp only [optG,andG]; omega)):bz an N ops (dM an N st Q) l σ w:=(gR fO n _ _ _ _ h C k).2
theorem iK {e:aK} {A:bG} (n:Nat) (h:fL fq N n (.x e) st σ none= .at (.c A) st' σ' c') (k:ba an N A (dM an N st' Q) σ' w) (C:optG c':=by first | exact trivial | (simp only [optG,andG]; omega)):dM an N st Q e σ w:=(gR fO n _ _ _ _ h C k).2
theorem kD {e:aK} {C:Array aq} {A:List aq} (n:Nat) (h:fL fq N n (.x e) st σ none= .at (.l C A) st' σ' c') (k:bz an N C (dM an N st' Q) A σ' w) (E:optG c':=by first | exact trivial | (simp only [optG,andG]; omega)):dM an N st Q e σ w:=(gR fO n _ _ _ _ h E k).2
theorem cg {e:aK} {A:aK} (n:Nat) (h:fL fq N n (.x e) st σ none= .at (.x A) [] σ' c') (k:Q A σ' w) (C:optG c':=by first | exact trivial | (simp only [optG,andG]; omega)):dM an N st Q e σ w:=(gR fO n _ _ _ _ h C k).2
variable {ops:Array aq} {S:ah→Prop} {r fuel fuel':Nat} {listed listed':Array Bool}
theorem cI (is:List Nat) (h:j8 fq N true ops is fuel listed σ none= .at fuel' listed' σ' c') (A:S w) (k:bR an N ops Q S fuel' listed' σ' w) (C:optG c':=by first | exact trivial | (simp only [optG,andG]; omega)) (E:jM (dQ N.F ops) is listed=true :=by kernel_rfl):bR an N ops Q S fuel listed σ w:=Fa fO is h A k C E
theorem oA (is:List Nat) (h:j8 fq N false ops is fuel listed σ none= .at fuel' listed' σ' c') (A:S w) (k:bJ an N ops Q S r fuel' listed' σ' w) (C:optG c':=by first | exact trivial | (simp only [optG,andG]; omega)) (E:jM (fun l i=>mZ N.F ops l r i) is listed=true :=by kernel_rfl):bJ an N ops Q S r fuel listed σ w:=Fc fO is h A k C E
theorem lH (is:List Nat) (h:j8 fq N false ops is fuel listed σ none= .at fuel' listed' σ' c') (A:S w) (k:bJ an N ops Q S r fuel' listed' σ' w) (C:optG c':=by first | exact trivial | (simp only [optG,andG]; omega)) (E:jM (fun l i=>lF N.F ops l r i) is listed=true :=by kernel_rfl):bJ an N ops Q S r fuel listed σ w:=Fb fO is h A k C E
end
end Go.Hb
end
namespace Go.Hb
theorem drop_cons {α:Type} {l:List α} {i:Nat} (d:α) (h:i < l.length):l.drop i=l.getD i d::l.drop (i+1):=by simp_all
def mW (l:List UInt8):List UInt8:=if 0 < l.length∧l.getD (l.length - 1) 0=13 then l.take (l.length - 1) else l
theorem Es {l:List UInt8} (h:¬(0 < l.length∧l.getD (l.length - 1) 0=13)):mW l=l:=if_neg h
def gN:List UInt8→List UInt8→List (List UInt8)
 | cur,[]=>if cur= [] then [] else [mW cur]
 | cur,b::r=>if b=10 then mW cur::gN [] r else gN (cur++ [b]) r
theorem F2:gN [] []= []:=by simp [gN]
theorem F3 (cur r:List UInt8):gN cur (10::r)=mW cur::gN [] r:=by simp [gN]
theorem F0 {cur:List UInt8} {b:UInt8} {r:List UInt8} (h:b≠10):gN cur (b::r)=gN (cur++ [b]) r:=by simp [gN,h]
def jV (c:UInt8) (l:List UInt8):Int:=if l.idxOf c < l.length then (l.idxOf c:Int) else -1
def Tg (w:ah) (B e n:Nat) (v:ab) (xs:List ab):Prop :=
 ∃ a A,v= .slice a n A∧n≤A∧(xs= []∨∃ b cur z,a=some ⟨b,0,none⟩∧B≤b∧w.heap[b]? =some (.cells cur e z)∧∀ (j:Nat) u,xs[j]? =some u→cur[j]? =some u)
theorem Tg.zd {w:ah} {B e size n:Nat} {v:ab} {xs:List ab} (h:w.ownsRow B e size v n xs):Tg w B e n v xs:=by
 have h0:=h;rcases h.2 with ⟨rfl,rfl⟩ | ⟨g,cap,cur,rfl,hb,A,_,_,_,C⟩
 · exact ⟨none,0,U,aO _,.inl<|iU<|by simpa using h.1⟩
 · refine ⟨_,cap,U,(fk h0).1,.inr ⟨g,cur,_,U,hb,A,fun j u hu=> ?_⟩⟩;rw [← C,gW] at hu;split at hu
   · simpa using hu
   · cases hu
theorem Tg.cells {w:ah} {B e n:Nat} {v:ab} {xs:List ab} (h:Tg w B e n v xs):∃ a A,v= .slice a n A∧bh w.heap a xs:=by
 obtain ⟨a,A,rfl,_,h | ⟨b,cur,z,rfl,_,C,E⟩⟩:=h
 · subst h; exact ⟨a,A,rfl,bh.nil _ _⟩
 · refine ⟨_,A,U,fun _=>rfl,fun j u hu=> ?_⟩;show Hb.ay w.heap b (0 +j)=_;rw [bS,dd C]; exact E j u hu
theorem Tg.xi {w:ah} {B e n A:Nat} {a:Option aD} {xs:List ab} (h:Tg w B e n (.slice a n A) xs):n≤A∧bh w.heap a xs:=by
 obtain ⟨L,c',E,C,M⟩:=id h;obtain ⟨a2,c2,I,J⟩:=h.cells;cases E; cases I;exact ⟨C,J⟩
theorem Tg.slice {w:ah} {B e n:Nat} {v:ab} {xs:List ab} (h:Tg w B e n v xs):∃ a A,v= .slice a n A:=let ⟨a,A,hv,_⟩:=h; ⟨a,A,hv⟩
theorem Tg.md {F:Nat→Prop} {w w':ah} {B e n:Nat} {v:ab} {xs:List ab} (h:Tg w B e n v xs) (hm:Md F w w') (I:∀ k,F k→∀ cur z,w.heap[k]?≠some (.cells cur e z)):Tg w' B e n v xs:=by
 obtain ⟨a,C,rfl,E,h | ⟨b,cur,z,rfl,hb,A,L⟩⟩:=h
 · exact ⟨a,C,U,E,.inl h⟩
 · exact ⟨_,C,U,E,.inr ⟨b,cur,z,U,hb,by rw [hm.cD b (bI.1 A).1 (fun J=>I b J cur z A)]; exact A,L⟩⟩
theorem Tg.wk {w w':ah} {B e n:Nat} {v:ab} {xs:List ab} (h:Tg w B e n v xs) (hm:Wk w w'):Tg w' B e n v xs:=h.md hm fun _ A=>A.elim
theorem uo {w:ah} {B e E size n:Nat} {v:ab} {xs:List ab} (h:w.ownsRow B e size v n xs) (J:e≠E):∀ k,v.ownBlock=some k→∀ cur z,w.heap[k]?≠some (.cells cur E z):=by
 intro k C cur z A;rcases h.2 with ⟨rfl,_⟩ | ⟨g,cap,L,rfl,_,I,_⟩
 · simp [cG] at C
 · simp only [cG,aY] at C;subst C;rw [I] at A;simp only [aY,Obj.cells.injEq] at A;exact J A.2.1
theorem Tg.mono {w:ah} {B B' e n:Nat} {v:ab} {xs:List ab} (h:Tg w B e n v xs) (A:B'≤B):Tg w B' e n v xs:=by grind [Tg]
def fi (b:UInt8):Bool:=decide (33≤b.toNat∧b.toNat≠127)
def hZ (w:List UInt8):Bool:=w.all fi
def dK (w:List UInt8):Bool:=decide (1≤w.length∧w.length≤64∧hZ w=true)
theorem m9 {α:Type} {l:List α} {i:Nat} {d:α} (h:i < l.length):l.getD i d∈l:=by
 rw [cH,bW h]; exact List.getElem_mem h
theorem Gk {α:Type} {l:List α} {x:α} (d:α) (h:x∈l):∃ i,i < l.length∧l.getD i d=x:=by
 obtain ⟨i,hi,rfl⟩:=List.mem_iff_getElem.1 h;exact ⟨i,hi,by rw [cH,bW hi]; rfl⟩
theorem wE {α:Type} {f:α→Bool} {l:List α} {i:Nat} (d:α) (h:i < l.length) (A:f (l.getD i d)=false):l.all f=false :=by
 rw [List.all_eq_false]; exact ⟨_,m9 h,by rw [A]; exact dn⟩
theorem wF {α:Type} {f:α→Bool} {l:List α} (d:α) (h:∀ i,i < l.length→f (l.getD i d)=true):l.all f=true :=by
 rw [BB]; intro x A; obtain ⟨i,hi,rfl⟩:=Gk d A; exact h i hi
theorem sG {w:List UInt8} {i:Nat} (h:i < w.length) (A:fi (w.getD i 0)=false):hZ w=false :=wE 0 h A
theorem sI {w:List UInt8} (h:∀ i,i < w.length→fi (w.getD i 0)=true):hZ w=true :=wF 0 h
def jd (b:UInt8):Bool:=decide (b.toNat=92∨b.toNat=47∨b.toNat=35)
abbrev wq:Type :=List UInt8×List UInt8×Bool×Nat
def fR:List UInt8→List UInt8→wq
 | acc,[]=>(acc,[],false,0)
 | acc,[b]=>if b.toNat=47 then (acc,[],true,0) else if b.toNat=92 then ([],[],false,20) else (acc++ [b],[],false,0)
 | acc,b::c::l=>if b.toNat=47 then (acc,c::l,true,0) else if b.toNat=92 then (if jd c=true then fR (acc++ [c]) l else ([],[],false,20)) else fR (acc++ [b]) (c::l)
theorem Jz (acc:List UInt8):fR acc []=(acc,[],false,0):=by simp [fR]
theorem Jx {acc l:List UInt8} {b c:UInt8} (h:b.toNat=92) (A:jd c=true):fR acc (b::c::l)=fR (acc++ [c]) l:=by simp [fR,h,A]
theorem Jy {acc l:List UInt8} {b:UInt8} (h:¬b.toNat=47) (A:¬b.toNat=92):fR acc (b::l)=fR (acc++ [b]) l:=by
 cases l <;> simp [fR,h,A]
def JC (f:List UInt8):wq:=fR [] f
def cU (w:List UInt8):List UInt8:=w.flatMap fun b=>if jd b=true then [92,b] else [b]
theorem AS {w:List UInt8} {i:Nat} (h:i < w.length):cU (w.take<|i+1)=cU (w.take i)++(if jd (w.getD i 0)=true then [92,w.getD i 0] else [w.getD i 0]):=by
 rw [rh w i 0 h]; simp [cU]
theorem ry (w:List UInt8):(cU w).length≤2 *w.length:=by
 induction w with
 | nil=>simp [cU]
 | cons b w ih=>
   have h:cU (b::w)=(if jd b=true then [92,b] else [b])++cU w:=rfl;rw [h,bK,bZ];split <;> simp only [bZ,List.length_nil] <;> omega
def lets (s:List UInt8):List UInt8:=s.foldl (fun a b=>if b∈a then a else a++ [b]) []
def letE (s:List UInt8):List UInt8×Nat:=if s= []∨hZ s=false then ([],21) else (lets s,0)
theorem qz {s:List UInt8} {i:Nat} (h:i < s.length):lets (s.take<|i+1)=if s.getD i 0∈lets (s.take i) then lets (s.take i) else lets (s.take i)++ [s.getD i 0]:=by
 unfold lets;rw [rh s i 0 h,List.foldl_append]; rfl
theorem yH (s:List UInt8):(lets s).length≤s.length:=by
 have key:∀ (s a:List UInt8),(s.foldl (fun a b=>if b∈a then a else a++ [b]) a).length≤a.length+s.length:=by
  intro s
  induction s with
  | nil=>intro a; simp
  | cons b s ih=>
    intro a;rw [pB,bZ];split
    · have :=ih a; omega
    · have :=ih (a++ [b]); rw [bK,gY] at this; omega
 have :=key s [];simpa [lets] using this
def marksOf (a:List UInt8):List ab:=(kj 256).map fun k=> .bool<|decide (ee k∈a)
theorem yZ (a:List UInt8):(marksOf a).length=256:=by simp [marksOf]
theorem Ge (a:List UInt8) (b:UInt8):(marksOf a)[b.toNat]? =some (.bool<|decide (b∈a)):=by
 have :=n9 b;unfold marksOf;rw [eX,rU ag];simp
theorem Gg (a:List UInt8) (b:UInt8):(marksOf a).set b.toNat (.bool true)=marksOf (a++ [b]):=by
 apply pz;intro k;rw [List.getElem?_set,yZ];unfold marksOf;rw [eX,eX];by_cases C:k < 256
 · rw [rU C];simp only [dg];have he:(ee k=b)↔b.toNat=k:=by
    constructor
    · rintro rfl; simp; omega
    · rintro rfl; simp
   by_cases h:b.toNat=k
   · have A:=he.2 h;simp [h,C,A]
   · have A:¬ee k=b:=fun e=>h<|he.1 e;simp [h,A]
 · have :(kj 256)[k]? =none:=mB<|by simp; omega
   have hb:=n9 b;rw [this];simp; omega
theorem Gf:marksOf []=dT 256 (.bool false):=by
 unfold marksOf;apply pz;intro k;rw [eX,List.getElem?_replicate];by_cases A:k < 256
 · rw [rU A]; simp [A]
 · rw [mB (by simp; omega)]; simp [A]
theorem Bd.new {T e b:Nat} {w:ah} (h:w.heap[b]? =some (.cells [rN none,.slice none 0 0].toArray T (0,0))):Bd T e w b (.slice none 0 0) []:=
 ⟨⟨none,h,.inl rfl⟩,jD _ _ _ _,by simp⟩
theorem Bd.step {T e b:Nat} {w0 w w':ah} {A:ab} {l:List UInt8} (h:Bd T e w b A l) (C:Wk w0 w) (E:Md (BF b A) w w') (hb:w0.heap.size≤b):Wk w0 w':=
 Md.trans' C E fun k J I=>by have :=h.qh I; omega
theorem Bd.uU {T e b:Nat} {w0 w w':ah} {A:ab} {l:List UInt8} (h:Bd T e w b A l) (C:Wk w0 w) (E:Md (fun k=>A.ownBlock=some k) w w') (hb:w0.heap.size≤b):Wk w0 w':=
 Md.trans' C E fun k J I=>by have :=h.qh (.inr I); omega
end Go.Hb
section
namespace Go.Hb
def kr (P:ak) (t:aj):Option (Nat×Nat):=
 match P.underlying t with
 | some (.array n e)=>(P.info? e).map fun i=>(n,i.size)
 | _=>none
section
variable {P:ak} {N:Fm} {σ:Nat→ab} {w:ah} {dst:Option Nat} {ty:aj} {pos :String} {af:Array bB} {g:Option (Nat×Bool)} {x y:az}
theorem qn {t n A b off :Nat} {k:bc} {i:Int} (he:kr P t=some (n,A)) (C:ev N σ x= .pointer (some ⟨b,off,none⟩)) (E:ev N σ y= .int k i) (h0:0≤i∧i < n):
 (execOp (ev N σ) ⟨dst,.indexAddr t x y,ty,pos,af,g⟩).run P w= .ok (.value<|.pointer<|some ⟨b,off+i.toNat*A,none⟩) w:=by
 unfold kr at he;cases hd:P.underlying t with
 | none=>rw [hd] at he; cases he
 | some d=>
   rw [hd] at he;cases d <;> first | (cases he; done) | skip
   rename_i m e;cases hi:P.info? e with
   | none=>simp [hi] at he
   | some j=>
     simp only [hi,dg,aY,jG] at he;obtain ⟨rfl,rfl⟩:=he;simp [execOp,Bg,nS,C,E,asIntOf,aR hd,h0.1,h0.2,sizeOf,cJ hi,dt]
end
theorem Gh {h:Array Obj} {b:Nat} {a:List UInt8} (A:aC h b (marksOf a)) (c:UInt8):Hb.ay h b (0 +((c.toNat:Nat):Int).toNat*1)=some (.bool<|decide (c∈a)):=by
 rw [A.ay,show 0 +((c.toNat:Nat):Int).toNat*1=c.toNat from by omega]; exact Ge a c
theorem Gi {h:Array Obj} {b:Nat} {a:List UInt8} {c:UInt8} (A:aC h b ((marksOf a).set (0 +((c.toNat:Nat):Int).toNat*1)<|.bool true)):aC h b (marksOf<|a++ [c]):=by
 rw [show 0 +((c.toNat:Nat):Int).toNat*1=c.toNat from by omega,Gg] at A; exact A
end Go.Hb
end
section
set_option linter.unusedSimpArgs false
namespace Go.Hb
open Classical
structure iY (P:ak) (k:aj) (ax:ab→Prop):Prop where
 key:mI P k ax
 stays:∀ w v,ax v→(ph v v).run P w= .ok v w
def cn (v:ab):Prop := ∃ s:List UInt8,v=str s
def yu (q:bc) (v:ab):Prop := ∃ a:Int,v= .int q a
theorem yc {d:TypeDesc} {ax:ab→Prop} (O:∀ x y,ax x→ax y→∃ A,rL d x y=some A∧(A=true↔x=y)) {x:ab} (U:ax x):∀ (es:List MapEntry) (i:Nat),(∀ e∈es,ax e.key)→
 (mq d x es i=some none∧∀ e∈es,e.key≠x)∨∃ j e,mq d x es i=some (some (i+j,e.val))∧es[j]? =some e∧e.key=x
 | [],i,_=> .inl ⟨rfl,fun _ h=>by simp at h⟩
 | e::es,i,h=>by
   obtain ⟨A,E,M⟩:=O x e.key U<|h e<|by simp
   cases A with
   | true =>exact .inr ⟨0,e,by simp [mq,E],rfl,(M.1 rfl).symm⟩
   | false =>
     have aa:e.key≠x:=fun Z=>by cases M.2 Z.symm
     rcases yc O U es (i+1) (fun e he=>h e<|by simp [he]) with ⟨I,J⟩ | ⟨j,C,I,J,V⟩
     · refine .inl ⟨by simp [mq,E,I],fun C L=> ?_⟩;rcases db.1 L with rfl | L
       · exact aa
       · exact J C L
     · refine .inr ⟨j+1,C,?_,J,V⟩;simp only [mq,E,I]; rw [show i+1 +j=i+(j+1) from by omega]
theorem yz {P:ak} {k:aj} {d:TypeDesc} {ax:ab→Prop} (I:P.underlying k=some d) (M:∀ x y,ax x→ax y→∃ E,rL d x y=some E∧(E=true↔x=y)) (L:∀ em w v,ax v→(jz em 10000 k v).run P w= .ok () w):mI P k ax where
 check:=L
 find w x es hx hes:=by
  rcases yc M hx es 0 hes with ⟨A,C⟩ | ⟨j,e,A,C,J⟩
  · exact .inl ⟨by simp [mo,aR I,A],C⟩
  · exact .inr ⟨j,e,by simp [mo,aR I,A],C,J⟩
theorem wQ (a b:ByteArray):(a==b)=decide (a=b):=by
 rw [kT,decide_eq_true_iff];show ((a.data==b.data)=true)↔_;rw [beq_iff_eq];exact ⟨fun h=>by cases a; cases b; cases h; rfl,fun h=>by rw [h]⟩
theorem tJ {P:ak} {k:aj} (A:P.underlying k=some .string):iY P k cn where
 key:=yz A (by
  rintro _ _ ⟨a,rfl⟩ ⟨b,rfl⟩;refine ⟨_,U,?_⟩;rw [wQ,decide_eq_true_iff];constructor
  · intro h; unfold str; rw [h]
  · intro h; unfold str at h; cases h; rfl) (by rintro em w _ ⟨a,rfl⟩; exact xj (n:=9999) A w)
 stays w v hv:=by obtain ⟨a,rfl⟩:=hv; simp [ph,Bj,str,wQ]
theorem Dg {P:ak} {k:aj} {q r:bc} {em:Bool} {n:Nat} {a:Int} (A:P.underlying k=some (.int q)) (w:ah):(jz em (n+1) k<|.int r a).run P w= .ok () w:=by
 simp only [jz,fT,aR A,fw,iS]
theorem yy {P:ak} {k:aj} {q r:bc} (A:P.underlying k=some (.int q)):iY P k (yu r) where
 key:=yz A (by
  rintro _ _ ⟨a,rfl⟩ ⟨b,rfl⟩;refine ⟨decide (a=b),by simp [rL]; rfl,?_⟩;rw [decide_eq_true_iff];exact ⟨fun h=>by rw [h],fun h=>by cases h; rfl⟩) (by rintro em w _ ⟨a,rfl⟩; exact Dg (n:=9999) A w)
 stays w v hv:=by obtain ⟨a,rfl⟩:=hv; simp [ph,Bj]
def fX (h:Array Obj) (b:Nat) (ax:ab→Prop) (f:ab→Option ab):Prop :=
 ∃ kvs,iZ h b kvs∧(∀ p∈kvs,ax p.1)∧(kvs.map bN).Nodup∧∀ k v,f k=some v↔(k,v)∈kvs
theorem fX.md {F:Nat→Prop} {w w':ah} {b:Nat} {ax:ab→Prop} {f:ab→Option ab} (h:fX w.heap b ax f) (hm:Md F w w') (A:¬F b):fX w'.heap b ax f:=
 let ⟨kvs,h1,h2⟩:=h; ⟨kvs,h1.md hm A,h2⟩
theorem fX.lt {h:Array Obj} {b:Nat} {ax:ab→Prop} {f:ab→Option ab} (hm:fX h b ax f):b < h.size:=let ⟨_,h1,_⟩:=hm; h1.lt
theorem fX.isMap {h:Array Obj} {b:Nat} {ax:ab→Prop} {f:ab→Option ab} (hm:fX h b ax f):∃ es c,h[b]? =some (.map es c):=let ⟨_,⟨es,c,h1,_⟩,_⟩:=hm; ⟨es,c,h1⟩
theorem fX.eo {h:Array Obj} {b:Nat} {ax:ab→Prop} {f:ab→Option ab} (hm:fX h b ax f) {cur:Array ab} {e:aj} {z:Nat×Nat} :h[b]?≠some (.cells cur e z):=by
 obtain ⟨es,c,A⟩:=hm.isMap; rw [A]; intro h; cases h
noncomputable def fK (f:ab→Option ab) (k v:ab):ab→Option ab:=fun q=>if q=k then some v else f q
section
variable {P:ak} {N:Fm} {σ:Nat→ab} {w:ah} {dst:Option Nat} {ty:aj} {pos :String} {af:Array bB} {g:Option (Nat×Bool)} {x y z:az} {K:(Nat→ab)→ah→Prop}
variable {t k e:aj} {ax:ab→Prop} {b:Nat} {f:ab→Option ab} {kx v zv:ab}
theorem yK {ok:Bool} (L:P.underlying t=some (.map k e)) (V:zeroV P e=some zv) (C:iY P k ax) (hm:fX w.heap b ax f) (M:ev N σ x= .map (some b)) (O:ev N σ y=kx) (hi:ax kx):
 (execOp (ev N σ) ⟨dst,.lookup t x y ok,ty,pos,af,g⟩).run P w= .ok (.value (if ok then .tuple #[(f kx).getD zv,.bool (f kx).isSome] else (f kx).getD zv)) w:=by
 obtain ⟨kvs,E,I,U,J⟩:=hm;cases hf:f kx with
 | none=>exact yJ L V C.key E I M O hi fun v A=>by rw [← J] at A; rw [hf] at A; cases A
 | some v=>exact yI L C.key E I M O hi U<|(J kx v).1 hf
theorem qA (C:P.underlying t=some (.map k e)) (L:zeroV P e=some zv) (A:iY P k ax) (hm:fX w.heap b ax f) (I:ev N σ x= .map (some b)) (J:ev N σ y=kx) (hi:ax kx) (E:(f kx).getD zv=v):
 (execOp (ev N σ) ⟨dst,.lookup t x y false,ty,pos,af,g⟩).run P w= .ok (.value v) w:=by
 rw [yK C L A hm I J hi,E]; rfl
theorem FZ {ob:Bool} (E:P.underlying t=some (.map k e)) (M:zeroV P e=some zv) (A:iY P k ax) (hm:fX w.heap b ax f) (J:ev N σ x= .map (some b)) (L:ev N σ y=kx) (hi:ax kx) (I:(f kx).getD zv=v) (C:(f kx).isSome=ob):
 (execOp (ev N σ) ⟨dst,.lookup t x y true,ty,pos,af,g⟩).run P w= .ok (.value<|.tuple #[v,.bool ob]) w:=by
 rw [yK E M A hm J L hi,I,C]; rfl
end
end Go.Hb
end
section
namespace Go.Hb
open Go.ChangeMaps
open Classical
structure fW (es:List MapEntry) (c:Nat):Prop where
 lt:∀ e∈es,e.born < c
 nd:(es.map (·.born)).Nodup
structure fE (es:List MapEntry) (ax:ab→Prop) (f:ab→Option ab):Prop where
 ks:∀ e∈es,ax e.key
 nd:(es.map (·.key)).Nodup
 iff :∀ k v,f k=some v↔∃ e∈es,e.key=k∧e.val=v
def bD (h:Array Obj) (b:Nat) (ax:ab→Prop) (f:ab→Option ab):Prop := ∃ es c,h[b]? =some (.map es c)∧fW es.toList c∧fE es.toList ax f
theorem bD.lQ {h:Array Obj} {b:Nat} {ax:ab→Prop} {f:ab→Option ab} (hm:bD h b ax f):fX h b ax f:=by
 obtain ⟨es,c,A,_,C⟩:=hm;refine ⟨_,⟨es,c,A,U⟩,fun p hp=> ?_,?_,fun k v=> ?_⟩
 · obtain ⟨e,he,rfl⟩:=dO.1 hp; exact C.ks e he
 · rw [rX]; exact C.nd
 · rw [C.iff,dO];exact ⟨fun ⟨e,he,A,E⟩=>⟨e,he,by rw [A,E]⟩,fun ⟨e,he,A⟩=>⟨e,he,congrArg bN A,congrArg lf A⟩⟩
theorem bD.md {F:Nat→Prop} {w w':ah} {b:Nat} {ax:ab→Prop} {f:ab→Option ab} (h:bD w.heap b ax f) (hm:Md F w w') (E:¬F b):bD w'.heap b ax f:=by
 obtain ⟨es,c,A,C⟩:=h;exact ⟨es,c,by rw [hm.cD b (bI.1 A).1 E]; exact A,C⟩
theorem bD.wk {w w':ah} {b:Nat} {ax:ab→Prop} {f:ab→Option ab} (h:bD w.heap b ax f) (hm:Wk w w'):bD w'.heap b ax f:=h.md hm id
theorem bD.lt {h:Array Obj} {b:Nat} {ax:ab→Prop} {f:ab→Option ab} (hm:bD h b ax f):b < h.size:=hm.lQ.lt
theorem bD.nil {h:Array Obj} {b:Nat} {ax:ab→Prop} {c:Nat} (hm:h[b]? =some (.map #[] c)):bD h b ax fun _=>none:=
 ⟨#[],c,hm,⟨fun _ h=>by simp at h,by simp⟩,fun _ h=>by simp at h,by simp,fun k v=>by simp⟩
theorem bD.eo {h:Array Obj} {b:Nat} {ax:ab→Prop} {f:ab→Option ab} (hm:bD h b ax f) {cur:Array ab} {e:aj} {z:Nat×Nat} :h[b]?≠some (.cells cur e z):=hm.lQ.eo
theorem fE.push {es:List MapEntry} {ax:ab→Prop} {f:ab→Option ab} {kx v:ab} {c:Nat} (h:fE es ax f) (hi:ax kx) (I:∀ e∈es,e.key≠kx):fE (es++ [{key:=kx,val:=v,born:=c}]) ax (fK f kx v) where
 ks e he:=by
  rcases eL.1 he with he | he
  · exact h.ks e he
  · rw [iW.1 he]; exact hi
 nd:=by
  rw [mC,BW];refine ⟨h.nd,by simp,fun a ha b hb J=> ?_⟩;obtain ⟨e,he,rfl⟩:=dO.1 ha;simp at hb;exact I e he<|by rw [J,hb]
 iff k u:=by
  unfold fK;by_cases E:k=kx
  · subst E;rw [if_pos rfl];constructor
    · intro A; cases A; exact ⟨_,BS _ (iW.2 rfl),rfl,rfl⟩
    · rintro ⟨e,he,A,C⟩;rcases eL.1 he with he | he
      · exact absurd A<|I e he
      · rw [iW.1 he] at C; rw [← C]
  · rw [if_neg E,h.iff];constructor
    · rintro ⟨e,he,A⟩; exact ⟨e,vS _ he,A⟩
    · rintro ⟨e,he,A,C⟩;rcases eL.1 he with he | he
      · exact ⟨e,he,A,C⟩
      · rw [iW.1 he] at A; exact absurd A.symm E
theorem fW.push {es:List MapEntry} {kx v:ab} {c:Nat} (h:fW es c):fW (es++ [{key:=kx,val:=v,born:=c}]) (c+1) where
 lt e he:=by
  rcases eL.1 he with he | he
  · have :=h.lt e he; omega
  · rw [iW.1 he]; exact kn _
 nd:=by
  rw [mC,BW];refine ⟨h.nd,by simp,fun a ha b hb A=> ?_⟩;obtain ⟨e,he,rfl⟩:=dO.1 ha;simp at hb;have :=h.lt e he; omega
theorem qI {α:Type} (l:List α) (g:α→α) (i j:Nat):(l.modify i g)[j]? =if i=j then (l[j]?).map g else l[j]? :=by grind
theorem ng {α:Type} {l:List α} {g:α→α} {i:Nat} {e:α} (hi:l[i]? =some e) (x:α):x∈l.modify i g↔x=g e∨∃ j,j≠i∧l[j]? =some x:=by
 rw [rY];constructor
 · rintro ⟨j,A⟩;rw [qI] at A;by_cases h:i=j
   · subst h; rw [if_pos rfl,hi] at A; exact .inl (et A).symm
   · rw [if_neg h] at A;exact .inr ⟨j,fun e=>h e.symm,A⟩
 · rintro (rfl | ⟨j,A,h⟩)
   · exact ⟨i,by rw [qI,if_pos U,hi]; rfl⟩
   · exact ⟨j,by rw [qI,if_neg (fun e=>A e.symm),h]⟩
theorem y6 {α β:Type} {l:List α} (g:α→α) (p:α→β) (hp:∀ x,p (g x)=p x) (i:Nat):(l.modify i g).map p=l.map p:=by
 apply pz;intro j;rw [eX,eX,qI];cases l[j]? with
 | none=>by_cases h:i=j <;> simp [h]
 | some x=>by_cases h:i=j <;> simp [h,hp]
theorem fE.HU {es:List MapEntry} {ax:ab→Prop} {f:ab→Option ab} {v:ab} {i:Nat} {e:MapEntry} (h:fE es ax f) (hi:es[i]? =some e):fE (es.modify i fun e=> {e with val:=v}) ax (fK f e.key v) where
 ks x E:=by
  rcases (ng hi x).1 E with rfl | ⟨j,_,A⟩
  · exact h.ks e<|jF hi
  · exact h.ks x<|jF A
 nd:=by rw [y6 (fun e:MapEntry=> {e with val:=v}) (·.key) (fun _=>rfl)]; exact h.nd
 iff k u:=by
  have U:∀ {j:Nat} {x:MapEntry},es[j]? =some x→x.key=e.key→j=i:=fun {j x} A I=>by
   have O:=(cy.1 A).1;exact (List.getElem?_inj (by simpa using O) h.nd).1<|by rw [eX,eX,A,hi,dg,dg,I]
  unfold fK;by_cases I:k=e.key
  · subst I;rw [if_pos rfl];constructor
    · intro C; cases C; exact ⟨_,(ng hi _).2 (.inl rfl),rfl,rfl⟩
    · rintro ⟨x,E,C,J⟩;rcases (ng hi x).1 E with rfl | ⟨j,A,M⟩
      · rw [← J]
      · exact absurd (U M C) A
  · rw [if_neg I,h.iff];constructor
    · rintro ⟨x,E,C,J⟩;obtain ⟨j,A⟩:=List.getElem?_of_mem E;have L:j≠i:=fun L=>by subst L; rw [hi] at A; cases A; exact I C.symm
      exact ⟨x,(ng hi x).2 (.inr ⟨j,L,A⟩),C,J⟩
    · rintro ⟨x,E,C,J⟩;rcases (ng hi x).1 E with rfl | ⟨j,_,M⟩
      · exact absurd C.symm I
      · exact ⟨x,jF M,C,J⟩
section
variable {P:ak} {N:Fm} {σ:Nat→ab} {w:ah} {dst:Option Nat} {ty:aj} {pos :String} {af:Array bB} {g:Option (Nat×Bool)} {x y z:az} {K:(Nat→ab)→ah→Prop}
variable {t k e:aj} {ax:ab→Prop} {b:Nat} {f:ab→Option ab} {kx v zv:ab}
end
def eO (h:Array Obj) (r b:Nat) (left :List (ab×ab)):Prop :=
 ∃ (es:Array MapEntry) (c:Nat) (seen:Array Nat) (A:Nat),h[r]? =some (.mapIter (some b) c seen A)∧c≤A∧h[b]? =some (.map es c)∧fW es.toList c∧(leftOf es seen).toList.map (fun e=>(e.key,e.val))=left
def fF (h:Array Obj) (r b:Nat) (left :List (ab×ab)) (A:ab×ab):Prop :=
 ∃ (es:Array MapEntry) (c:Nat) (seen:Array Nat) (e:MapEntry),h[r]? =some (.mapIter (some b) c (seen.push e.born) c)∧h[b]? =some (.map es c)∧fW es.toList c∧(leftOf es<|seen.push e.born).toList.map (fun e=>(e.key,e.val))=left∧e∈es.toList∧(e.key,e.val)=A
theorem fF.nh {h:Array Obj} {r b:Nat} {left :List (ab×ab)} {A:ab×ab} (hm:fF h r b left A):eO h r b left :=by grind [fF,eO]
theorem eO.md {F:Nat→Prop} {w w':ah} {r b:Nat} {left :List (ab×ab)} (h:eO w.heap r b left) (hm:Md F w w') (hr:¬F r) (hb:¬F b):eO w'.heap r b left :=by
 obtain ⟨es,c,seen,E,A,I,C,J⟩:=h;exact ⟨es,c,seen,E,by rw [hm.cD r (bI.1 A).1 hr]; exact A,I,by rw [hm.cD b (bI.1 C).1 hb]; exact C,J⟩
theorem fF.md {F:Nat→Prop} {w w':ah} {r b:Nat} {left :List (ab×ab)} {E:ab×ab} (h:fF w.heap r b left E) (hm:Md F w w') (hr:¬F r) (hb:¬F b):fF w'.heap r b left E:=by
 obtain ⟨es,c,seen,e,A,C,I⟩:=h;exact ⟨es,c,seen,e,by rw [hm.cD r (bI.1 A).1 hr]; exact A,by rw [hm.cD b (bI.1 C).1 hb]; exact C,I⟩
section
variable {P:ak} {N:Fm} {σ:Nat→ab} {w:ah} {dst:Option Nat} {ty:aj} {pos :String} {af:Array bB} {g:Option (Nat×Bool)} {x y z:az} {K:(Nat→ab)→ah→Prop}
variable {t k e:aj} {ax:ab→Prop} {b:Nat} {f:ab→Option ab} {kx v zv:ab}
theorem qW (M:P.underlying t=some (.map k e)) (hm:bD w.heap b ax f) (O:ev N σ x= .map (some b))
 (U:∀ r w' left,r=w.heap.size→Nw w w'→eO w'.heap r b left→(∀ p∈left,ax p.1)→(left.map bN).Nodup→(∀ k v,f k=some v↔(k,v)∈left)→K (bV σ dst<|.pointer<|some ⟨r,0,none⟩) w'):
 bq P N ⟨dst,.range t x,ty,pos,af,g⟩ σ w K:=by
 obtain ⟨es,c,hr,J,E⟩:=hm;have L:=(bI.1 hr).1;refine jx (v:=fun r=> .pointer<|some ⟨r,0,none⟩) (ob:= .mapIter (some b) c #[] c) ?_ (fun r w' A C I=>U r w' (es.toList.map fun e=>(e.key,e.val)) A C ⟨es,c,#[],c,I,aO _,by rw [C.md.cD b L id]; exact hr,J,by unfold leftOf; simp only [nO]; rw [BI.2 (fun x _=>by simp)]⟩ ?_ ?_ ?_)
 · simp [execOp,O,Instr.range,aR M,run_getObj_map hr]
 · intro p hp; obtain ⟨e,he,rfl⟩:=dO.1 hp; exact E.ks e he
 · rw [rX]; exact E.nd
 · intro k v;rw [E.iff,dO];exact ⟨fun ⟨e,he,A,C⟩=>⟨e,he,by rw [A,C]⟩,fun ⟨e,he,A⟩=>⟨e,he,congrArg bN A,congrArg lf A⟩⟩
theorem FR {es:Array MapEntry} {seen:Array Nat} {e:MapEntry} (hn:(es.toList.map (·.born)).Nodup) (he:e∈(leftOf es seen).toList):(leftOf es seen).toList.Perm (e::(leftOf es<|seen.push e.born).toList):=by
 have C:(leftOf es<|seen.push e.born).toList=(leftOf es seen).toList.filter fun x=>x.born !=e.born:=by
  unfold leftOf;simp only [nO,List.filter_filter];congr 1;funext x;have I:(seen.push e.born).contains x.born=(seen.contains x.born || x.born==e.born):=by
   rw [kT]; simp [Array.mem_push]
  rw [I,Bool.not_or,Bool.and_comm]; rfl
 have A:((leftOf es seen).toList.map (·.born)).Nodup:=by
  unfold leftOf;rw [nO];exact (List.filter_sublist.map _).nodup hn
 rw [C];generalize (leftOf es seen).toList=l at he A;clear C
 induction l with
 | nil=>cases he
 | cons a l ih=>
   rw [da,mE] at A;by_cases ha:a=e
   · subst ha;have E:(a::l).filter (fun x=>x.born !=a.born)=l:=by
      rw [rS,if_neg (by simp)];exact BI.2 fun x L=>by
       have :x.born≠a.born:=fun h=>A.1<|h ▸ mD L;simpa using this
     rw [E]
   · have kE:e∈l:=by
      rcases db.1 he with h | h
      · exact absurd h.symm ha
      · exact h
     have J:a.born≠e.born:=fun h=>A.1<|h ▸ mD kE;rw [rS,if_pos (by simpa using J)];exact ((ih kE A.2).cons a).trans<|List.Perm.swap e a _
theorem GA {r:Nat} {left :List (ab×ab)} (hm:eO w.heap r b left) (M:ev N σ x= .pointer (some ⟨r,0,none⟩))
 (h0:left = []→K (bV σ dst<|.tuple #[.bool false]) w)
 (Z:∀ A left' w',left.Perm (A::left')→Md (fun j=>j=r) w w'→fF w'.heap r b left' A→K (bV σ dst<|.tuple #[.bool true,A.1,A.2]) w'):
 bq P N ⟨dst,.next x false,ty,pos,af,g⟩ σ w K:=by
 obtain ⟨es,c,seen,V,hr,ac,hb,C,rfl⟩:=hm;rcases run_next_at (P:=P) w ty r b c V seen es c hr hb C.lt ac with ⟨aa,I⟩ | ⟨e,he,O,J,I⟩
 · refine gu (v:= .tuple #[.bool false]) ?_<|h0<|by rw [Array.eq_empty_of_size_eq_zero aa]; rfl
   simp [execOp,M,I]
 · have E:O.heap=w.heap:=by rcases J with rfl | rfl <;> rfl
   have L:Md (fun j=>j=r) w (setBlock O r<|.mapIter (some b) c (seen.push e.born) c):=by
    refine ⟨?_,?_,?_,fun j _ ad=> ?_⟩
    · rcases J with rfl | rfl <;> rfl
    · rcases J with rfl | rfl <;> rfl
    · simp [setBlock,E]
    · simp only [setBlock,E]; rw [Array.getElem?_setIfInBounds_ne (fun e=>ad e.symm)]
   have ae:r≠b:=fun h=>by subst h; rw [hr] at hb; cases hb
   refine gu (v:= .tuple #[.bool true,e.key,e.val]) ?_ (Z (e.key,e.val) _ _ (by have :=(FR C.nd he).map (fun e=>(e.key,e.val)); exact this) L ⟨es,c,seen,e,?_,?_,C,U,?_,U⟩)
   · simp [execOp,M,I]
   · simp only [setBlock,E]; rw [Array.getElem?_setIfInBounds_self_of_lt (bI.1 hr).1]
   · rw [L.cD b (bI.1 hb).1 (fun h=>ae h.symm)]; exact hb
   · unfold leftOf at he;rw [nO] at he;exact (List.mem_filter.1 he).1
def zc (b:Bool) (A:ab×ab):ab:=match b with | true => .tuple #[.bool true,A.1,A.2] | false => .tuple #[.bool false]
theorem qL {A:Bool} {E:ab×ab} (C:ev N σ x=zc A E):(execOp (ev N σ) ⟨dst,.extract x 0,ty,pos,af,g⟩).run P w= .ok (.value<|.bool A) w:=by
 cases A
 · exact xt C U
 · exact xt C U
theorem qK {r:Nat} {left :List (ab×ab)} (hm:eO w.heap r b left) (M:ev N σ x= .pointer (some ⟨r,0,none⟩))
 (h:∀ C A left' w',(C=false→left = []∧w'=w)→(C=true→left.Perm (A::left')∧Md (fun j=>j=r) w w'∧fF w'.heap r b left' A)→K (bV σ dst<|zc C A) w'):
 bq P N ⟨dst,.next x false,ty,pos,af,g⟩ σ w K:=
 GA hm M (fun L=>h false (.nilFunc,.nilFunc) [] w (fun _=>⟨L,rfl⟩) fun h=>by cases h) (fun A left' w' E I J=>h true A left' w' (fun h=>by cases h) fun _=>⟨E,I,J⟩)
theorem p7 {r:Nat} {left :List (ab×ab)} {A:ab×ab} (hm:fF w.heap r b left A) (L:ev N σ x= .pointer (some ⟨r,0,none⟩)):
 (execOp (ev N σ) ⟨dst,.entry x,ty,pos,af,g⟩).run P w= .ok (.value<|.tuple #[A.1,A.2]) w:=by
 obtain ⟨es,c,seen,e,C,E,I,_,J,rfl⟩:=hm;have :=run_entry_at (P:=P) w r b c seen es c e C E J I.nd;simp [execOp,L,this]
end
end Go.Hb
end
