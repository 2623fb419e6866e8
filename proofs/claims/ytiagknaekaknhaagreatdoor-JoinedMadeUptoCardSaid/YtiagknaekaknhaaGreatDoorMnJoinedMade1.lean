/-
  Walks and plain laws that the law rests on, laid together. No conditions but those that each theorem names.
-/
import Derived.WalkKit
import Derived.OrdersHeld
import Derived.TacticsIn
import Derived.Lib.Strings
import Derived.Lib.UnsafeStr
import Derived.Laws.MakeOwn
import Derived.Laws.StructEq
import Derived.SliceStrings
import Derived.Carry
import Derived.JoinedCond
import Derived.ProofKit
import Derived.OpenShut
import Derived.Test.YtiagknaekaknhaaGreatDoorRows
import Derived.Test.YtiagknaekaknhaaGreatDoorChecked
import Derived.RangeFuncFrom
import Derived.RangeFuncLeaves
import Derived.Recover
import Derived.Laws.OwnMore
import Derived.OrdersIn
import Derived.Lib.SliceRun
import Derived.Lib.Bytealg
import Derived.Lib.FrozenHead
import Derived.Deep.AppendSrc
import Derived.RangeFuncNested
import Derived.Stop.LaidErr
set_option linter.unusedVariables false
set_option maxRecDepth 20000
set_option maxHeartbeats 1000000
open Array renaming ext_getElem?→D6,getD_eq_getD_getElem?→iV,getElem?_append_left→D8,getElem?_append_right→D9,getElem?_eq_getElem→nL,getElem?_eq_none→tY,getElem?_eq_some_iff→dq,getElem?_replicate→Eb,getElem?_setIfInBounds→rj,length_toList→lz,mem_toList_iff→ua,range→lA,replicate→nM,setIfInBounds_comm→yA,toArray_toList→yB,toList_append→Ec,toList_inj→ub,toList_map→ix
open BitVec renaming ofInt→iy
open Bool renaming and_eq_true→a9,and_eq_true_iff→pH,eq_iff_iff→pI,false_eq_true→mw,noConfusion→c9,not_eq_true'→ky,or_eq_true→nN
open Go renaming Addr→bl,Code→bP,Edge→bR,Exit→bd,FuncId→dU,IntKind→bw,Oper→aC,Operand→aY,Program→av,TypeId→aw,Value→ag,World→ah
open Go.Addr renaming add→ud
open Go.Builtin renaming append_→j2,firstCells→uf,lenOf→Ej,len_→yD
open Go.ByteArray renaming toList_eq→El
open Go.Calls renaming mono→j3
open Go.CallsIn renaming mono→En
open Go.Conv renaming bytesToString→Er,seenAt→Es,unsafePointer→Et
open Go.DataW renaming TrodAll→Eu
open Go.Deferred renaming ofValue→lB
open Go.Fence renaming wide→eR
open Go.Instr renaming alloc→ug,box→yE,buildSlice→rp,checkKey→kz,fill→iW,findAsking→nO,findKey→nP,findNow→nQ,indexAt→Ex,loadAt→Ey,lookup→Ez,slice→ru,sliceAt→nR,sliceBound→nS,sliceBounds→kA,storeAt→yH,sureAddr→nU
open Go.IntKind renaming i64→uh
open Go.Next renaming value→ry
open Go.Obj.cells renaming injEq→EE
open Go.Op renaming bytesLess→yI,equal→my,equalIn→iz,intArith→rz,intCmp→pL,intDiv→yJ,stringOp→nW
open Go.Oper renaming semAt_eq→rA,upon→iA,uponIn→rB,wp→gB
open Go.Program renaming built→EF,underlying→EG
open Go.Proofs.Tryz renaming prog→ar
open Go.Region renaming Mode→nX,binds→dG,free_spec→yK,noSelect_spec→yL,ready→dw,wanted→kB
open Go.Result renaming andThen_ok→gX,ok→rC
open Go.RowsIn renaming mono→EH
open Go.Sem renaming run→lC,run_bind→iB,run_ite→rD,run_pure→kC
open Go.Value renaming bool→bD,cells→pM,int→a0,oneCell'→eS,ownBlock→gh,pointer→ui,slice→cz
open Go.Value.slice renaming injEq→pN
open Go.Value.string renaming inj→EI
open Go.World renaming cell?→EK,cells?_some→EL,freeze→lD,ownsRow_nil→eT,setCell→EN,shape?→yN
open Int renaming tdiv_eq_ediv_of_nonneg→EP
open List renaming all_cons→pP,all_eq_true→ES,any_eq_true→ET,eq_nil_of_length_eq_zero→j4,ext_getElem?→um,flatMap_cons→pQ,flatten_cons→nZ,foldl_cons→iC,getD_eq_getElem?_getD→cn,getElem?_append_left→eU,getElem?_append_right→fm,getElem?_cons_succ→iX,getElem?_cons_zero→iD,getElem?_eq_getElem→bt,getElem?_eq_none→jt,getElem?_eq_some_iff→cB,getElem?_map→eV,getElem?_range→uu,getElem?_take→iY,length_append→bK,length_cons→dm,length_range→ux,length_singleton→mz,mapM_toArray→yQ,map_cons→fq,mem_append_left→pU,mem_cons→eb,mem_map_of_mem→rH,mem_of_getElem?→j5,nil_append→n3,range→iZ,replicate→dr,size_toArray→eW,zipIdx_cons→Fc
open List.cons renaming inj→EU
open Nat renaming add_assoc→hJ,beq→aP,ble→bh,blt→aE,div_add_mod→Ff,eq_of_beq_eq_true→bL,le_of_ble_eq_true→bM,le_refl→aQ,le_trans→cG,lt_of_le_of_lt→Fi,lt_of_lt_of_le→mC,lt_or_ge→dD,lt_succ_self→mD,mul_comm→uJ,mul_le_mul_right→n5,succ_mul→pW,zero_add→cH,zero_mul→pX
open Option renaming bind_eq_some_iff→mE,bind_some→Fp,isSome_iff_exists→mF,map_eq_some_iff→fQ,map_some→fC
open Option.some renaming injEq→bH
open Prod renaming fst→gE
open Prod.mk renaming injEq→hZ
open UInt8 renaming ofNat→eX,toNat_lt→kF
open Go.Proofs.Tryz
open Go.RowKit

namespace Go.Hb
theorem ab {p:Prop} (h:p:=by omega):p:=h
theorem ai {p:Prop} (h:p:=by kernel_rfl):p:=h
theorem aF {p:Prop} (h:p:=by decide):p:=h
theorem U {α:Sort _} {a:α} :a=a:=rfl
end Go.Hb
section
namespace Go.Hb
structure Fm where
 n:Nat
 D:List Deferred
 F:List Nat
 r:Option Nat
def aX (σ:Nat→ag) (d:Nat) (v:ag):Nat→ag:=fun i=>cond (aP i d) v<|σ i
def dv (σ:Nat→ag):Option Nat→ag→Nat→ag
 | some d,v=>aX σ d v
 | none,_=>σ
def act (N:Fm) (σ:Nat→ag):Act:=⟨((iZ N.n).map σ).toArray,N.D⟩
def ev (N:Fm) (σ:Nat→ag):aY→ag
 | .tmp t=>cond (aE t N.n) (σ t) undef
 | .const v=>v
 | .global g=> .pointer<|some ⟨g,0,none⟩
 | .func f=> .func (.func f) #[] #[]
theorem jb (N:Fm) (σ:Nat→ag) (t:Nat):(act N σ).tmps[t]? =if t < N.n then some (σ t) else none:=by grind [act]
theorem dt (N:Fm) (σ:Nat→ag):(act N σ).eval=ev N σ:=by
 funext x;cases x with
 | tmp t=>
   simp only [Act.eval,ev,iV,jb];by_cases h:t < N.n
   · rw [if_pos h,show aE t N.n=true from by simpa using h]; rfl
   · rw [if_neg h,show aE t N.n=false from by cases hx:aE t N.n <;> simp_all [aE,Nat.ble_eq] <;> omega]; rfl
 | _=>rfl
theorem rU {a b:Act} (A:a.defers=b.defers) (C:∀ i:Nat,a.tmps[i]? =b.tmps[i]?):a=b:=by
 cases a; cases b;simp only at A C;subst A;congr 1;exact D6 C
theorem eI (N:Fm) (σ:Nat→ag) (dst:Option Nat) (v:ag):(act N σ).put dst v=act N (dv σ dst v):=by
 cases dst with
 | none=>rfl
 | some d=>
   refine rU U fun i=> ?_;have h0:((act N σ).put (some d) v).tmps=(act N σ).tmps.setIfInBounds d v:=rfl;rw [h0,rj,jb,jb];have C:(act N σ).tmps.size=N.n:=by simp [act]
   simp only [dv,aX];by_cases A:i=d
   · subst A;rw [C];have hb:aP i i=true :=by simp
     by_cases h:i < N.n
     · rw [if_pos rfl,if_pos h,if_pos h,hb]; rfl
     · rw [if_pos rfl,if_neg h,if_neg h]
   · rw [if_neg (fun e=>A e.symm)];have hb:aP i d=false :=by
      cases hx:aP i d
      · rfl
      · exact absurd (bL hx) A
     rw [hb]; rfl
theorem ml {σ:Nat→ag} {i:Nat} {v:ag} (h:σ i=v):aX σ i v=σ:=by grind [aX,aP,bL]
def lift (N:Fm) (Q:bd→(Nat→ag)→ah→Prop):bd→Act→ah→Prop
 | .panic c,a,w=> ∃ σ,a=act N σ∧∀ σ',(∀ i∈N.F,σ' i=σ i)→Q (.panic c) σ' w
 | .outgrown,_,_=>False
 | e,a,w=> ∃ σ,a=act N σ∧Q e σ w
def fe:Option Nat→Fence
 | none=>eR
 | some l=>eR.inRound l
theorem mS (r:Option Nat):(fe r).round=r:=by cases r <;> rfl
theorem ka (r:Option Nat) (f:dU):(fe r).fn f:=by cases r <;> trivial
theorem mR (r:Option Nat):(fe r).depth=none:=by cases r <;> rfl
theorem sB {r:Option Nat} {n:Nat} {P:av} {f:dU} {args:Array ag} {w:ah} {R:Ending→ah→Prop} (h:Calls P f args w R):CallsIn (fe r) n P f args w R:=by
 cases r
 · exact callsIn_wide.2 h
 · exact (callsIn_wide (n:=n)).2 h
theorem AP {r:Option Nat} {n:Nat} {P:av} {row:String} {args:Array ag} {w:ah} {R:ag→ah→Prop} (h:Rows P row args w R):RowsIn (fe r) n P row args w R:=fun c cs _=>by
 obtain ⟨v,w',C,A⟩:=h c cs;refine ⟨v,w',C,?_⟩;cases r
 · exact stepsIn_wide.2 A
 · exact stepsIn_wide.2 A
def xc (ops:List aC):Bool:=ops.all fun o=>match o.op with | .defer _=>false | _=>true
def kj (r:Option Nat) (ops:List aC):Bool:=match r with | none=>true | some _=>xc ops
theorem JN {l:List aC} (h:xc l=true):∀ o∈l,∀ c,o.op≠.defer c:=by grind [xc]
theorem wg {r:Option Nat} {P:av} {ops:Array aC} {Q:bd→Act→ah→Prop} (A:¬LetsOut Q) (hr:kj r ops.toList=true):∀ (l:List Nat) (a:Act) (w:ah),wpOps P ops Q l a w→wpOpsIn (fe r) 0 P ops Q l a w:=by
 intro l
 induction l with
 | nil=>exact fun _ _ h=>h
 | cons i l ih=>
   intro a w h;simp only [wpOps] at h;simp only [wpOpsIn];cases ho:ops[i]? with
   | none=>simp only [ho] at h ⊢; exact ih a w h
   | some o=>
     simp only [ho] at h ⊢;by_cases hw:kB o (yielded ops a.tmps)=true
     · rw [if_pos hw] at h ⊢;rcases h with h | h
       · refine ⟨fun f _=>ka r f,?_⟩;rw [mS];have C:o.semAt r a.eval=execOp a.eval o:=by
          cases r with
          | none=>rfl
          | some k=>exact rA _ _ _<|JN hr o<|ua.2<|Array.mem_of_getElem? ho
         rw [C];unfold gB at h;generalize (execOp a.eval o).run P w=x at h;cases x with
         | ok n w'=>
           cases n <;> simp only [iA,rB] at h ⊢ <;>
            first
             | exact ih _ _ h
             | (refine ⟨fun h0=>(by rw [mR] at h0; cases h0),En (sB h) fun e w'' he=> ?_⟩
                cases e <;> first | exact ih _ _ he | exact he)
             | exact ⟨fun h0=>(by rw [mR] at h0; cases h0),EH (AP h) fun v w'' he=>ih _ _ he⟩
         | halt x w'=>cases x <;> simp only [iA,rB] at h ⊢ <;> exact h
       · exact absurd h.2 A
     · rw [if_neg hw] at h ⊢;exact ⟨fun f _=>ka r f,ih _ _ h⟩
def bu (P:av) (N:Fm) (c:bP) (Q:bd→(Nat→ag)→ah→Prop) (σ:Nat→ag) (w:ah):Prop :=
 c.wpIn (fe N.r) 0 P (lift N Q) (act N σ) w
def bQ (P:av) (N:Fm) (ops:Array aC) (Q:bd→(Nat→ag)→ah→Prop) (l:List aC) (σ:Nat→ag) (w:ah):Prop :=
 wpList P ops (lift N Q) l (act N σ) w
def gS (K:(Nat→ag)→ah→Prop) (Q:bd→(Nat→ag)→ah→Prop):bd→(Nat→ag)→ah→Prop
 | .normal,σ,w=>K σ w
 | e,σ,w=>Q e σ w
def kR (id:Nat) (Q:bd→(Nat→ag)→ah→Prop):bd→(Nat→ag)→ah→Prop
 | .exit A,σ,w=>if A=id then Q .normal σ w else Q (.exit A) σ w
 | e,σ,w=>Q e σ w
section
variable {P:av} {N:Fm} {Q:bd→(Nat→ag)→ah→Prop} {σ:Nat→ag} {w:ah} {K:(Nat→ag)→ah→Prop}
theorem I9 {Q C:bd→(Nat→ag)→ah→Prop} (h:∀ e σ w,Q e σ w→C e σ w) (e:bd) (a:Act) (w:ah):lift N Q e a w→lift N C e a w:=by
 cases e <;> first | exact fun h=>h.elim | exact fun ⟨σ,ha,A⟩=>⟨σ,ha,h _ _ _ A⟩ | exact fun ⟨σ,ha,A⟩=>⟨σ,ha,fun σ' E=>h _ _ _<|A σ' E⟩
theorem DR {A:bd→(Nat→ag)→ah→Prop} {c:bP} (h:∀ e σ w,Q e σ w→A e σ w) (C:bu P N c Q σ w):bu P N c A σ w:=
 wpIn_mono C (I9 h)
theorem tn (h:K σ w):gS K Q .normal σ w:=h
theorem te (id:Nat) (h:Q (.exit id) σ w):gS K Q (.exit id) σ w:=h
theorem tr (h:Q .ret σ w):gS K Q .ret σ w:=h
theorem bn {id:Nat} (h:Q .normal σ w):kR id Q .normal σ w:=h
theorem be {id:Nat} (h:Q .normal σ w):kR id Q (.exit id) σ w:=by simpa only [kR,if_true] using h
theorem FV {id A:Nat} (C:A≠id) (h:Q (.exit A) σ w):kR id Q (.exit A) σ w:=by simpa only [kR,if_neg C] using h
theorem br {id:Nat} (h:Q .ret σ w):kR id Q .ret σ w:=h
theorem sq {x y:bP} (h:∀ K:(Nat→ag)→ah→Prop,(∀ σ w,bu P N y Q σ w→K σ w)→bu P N x (gS K Q) σ w):bu P N (.seq x y) Q σ w:=by
 refine wpIn_seq<|wpIn_mono (h (fun σ w=>bu P N y Q σ w) fun _ _ h=>h) ?_;intro e a w A;cases e with
 | normal=>obtain ⟨σ,rfl,C⟩:=A; exact C
 | panic c=>exact A
 | outgrown=>exact A
 | _=>obtain ⟨σ,rfl,C⟩:=A; exact ⟨σ,rfl,C⟩
theorem dY {x y:bP} (A:(Nat→ag)→ah→Prop) (h:bu P N x (gS A Q) σ w) (I:∀ σ w,A σ w→bu P N y Q σ w):bu P N (.seq x y) Q σ w:=
 sq fun _ E=>DR (fun e _ _ C=>by cases e <;> first | exact E _ _ (I _ _ C) | exact C) h
theorem ct {c:aY} {x y:bP} (A:ev N σ c= .bool true) (h:bu P N x Q σ w):bu P N (.cond c x y) Q σ w:=
 wpIn_cond_true (by rw [dt]; exact A) h
theorem cf {c:aY} {x y:bP} (A:ev N σ c= .bool false) (h:bu P N y Q σ w):bu P N (.cond c x y) Q σ w:=
 wpIn_cond_false (by rw [dt]; exact A) h
theorem cb {c:aY} {x y:bP} {b:Bool} (A:ev N σ c= .bool b) (E:b=true→bu P N x Q σ w) (C:b=false→bu P N y Q σ w):bu P N (.cond c x y) Q σ w:=by
 cases b
 · exact cf A<|C U
 · exact ct A<|E U
theorem cd {c:aY} {x y:bP} {p:Prop} [Decidable p] (A:ev N σ c= .bool (decide p)) (E:p→bu P N x Q σ w) (C:¬p→bu P N y Q σ w):bu P N (.cond c x y) Q σ w:=by grind [cb]
theorem an {id:Nat} {c:bP} (h:bu P N c (kR id Q) σ w):bu P N (.block id c) Q σ w:=by
 refine wpIn_block<|wpIn_mono h ?_;intro e a w C;cases e with
 | panic c=>exact C
 | outgrown=>exact C
 | exit E=>
   obtain ⟨σ,rfl,A⟩:=C;simp only [kR,Exit.inBlock] at A ⊢;split
   · rename_i e; rw [if_pos e] at A; exact ⟨σ,rfl,A⟩
   · rename_i e; rw [if_neg e] at A; exact ⟨σ,rfl,A⟩
 | _=>obtain ⟨σ,rfl,A⟩:=C; exact ⟨σ,rfl,A⟩
theorem ext {id:Nat} (h:Q (.exit id) σ w):bu P N (.exit id) Q σ w:=wpIn_exit ⟨σ,rfl,h⟩
theorem C5 (h:Q .normal σ w):bu P N .skip Q σ w:=wpIn_skip ⟨σ,rfl,h⟩
theorem rt (h:Q .ret σ w):bu P N .ret Q σ w:=wpIn_ret ⟨σ,rfl,h⟩
theorem fx {c:bP} {v:ag} (i:Nat) (h:σ i=v) (A:bu P N c Q (aX σ i v) w):bu P N c Q σ w:=by rw [ml h] at A; exact A
def Sl (σ:Nat→ag) (L:List (Nat×ag)):Prop :=L.map (fun p=>σ p.1)=L.map (fun p=>p.2)
def pC (σ:Nat→ag):List (Nat×ag)→Nat→ag
 | []=>σ
 | p::L=>aX (pC σ L) p.1 p.2
theorem tQ {σ:Nat→ag} :∀ {L:List (Nat×ag)},Sl σ L→pC σ L=σ
 | [],_=>rfl
 | p::L,h=>by
   have h1:σ p.1=p.2:=(EU h).1;have A:Sl σ L:=(EU h).2;rw [pC,tQ A,ml h1]
theorem bF {c:bP} {L:List (Nat×ag)} (h:Sl σ L) (A:bu P N c Q (pC σ L) w):bu P N c Q σ w:=by rw [tQ h] at A; exact A
theorem lp {c:bP} (L:Nat→(Nat→ag)→ah→Prop) (n:Nat) (h0:L n σ w)
 (h:∀ n σ w,L n σ w→bu P N c (gS (fun σ' w'=> ∃ m,m < n∧L m σ' w') Q) σ w):bu P N (.loop c) Q σ w:=by
 intro b k cs aj hb hr;have key:∀ n σ w,L n σ w→
  ∃ e M w',lift N Q e M w'∧ArrivesIn (Machine.fenced P<|fe N.r) P (lone (b.atR (act N σ) (.code c:: .inLoop c::k)) cs w) b k cs e M w':=by
  intro n
  induction n using Nat.strongRecOn with
  | _ n ih=>
    intro σ w ac;obtain ⟨e,O,J,I,C⟩:=h n σ w ac b (.inLoop c::k) cs aj hb hr;cases e with
    | normal=>
      obtain ⟨A,rfl,m,hm,ad⟩:=I;obtain ⟨ab,V,ak,ai,ae⟩:=ih m hm A J ad;exact ⟨ab,V,ak,ai,.of_steps (StepsIn.trans C<|.one (fenced_calm hb hr U) stepR_inLoop) ae⟩
    | exit id=>obtain ⟨A,rfl,E⟩:=I; exact ⟨.exit id,act N A,J,⟨A,rfl,E⟩,.pass (x:= .inLoop c) rfl (fun _ _=> .inl<|by simp) C⟩
    | goto l=>obtain ⟨A,rfl,E⟩:=I; exact ⟨.goto l,act N A,J,⟨A,rfl,E⟩,.pass (x:= .inLoop c) rfl (fun _ _=> .inl<|by simp) C⟩
    | ret=>obtain ⟨A,rfl,E⟩:=I; exact ⟨.ret,act N A,J,⟨A,rfl,E⟩,.pass (x:= .inLoop c) rfl (fun _ _=> .inl<|by simp) C⟩
    | panic Z=>exact ⟨.panic Z,O,J,I,.pass (x:= .inLoop c) rfl (fun _ _=> .inl<|by simp) C⟩
    | outgrown=>exact I.elim
 obtain ⟨e,M,w',E,C⟩:=key _ σ w h0;exact ⟨e,M,w',E,.of_steps (.one (fenced_calm hb hr U) stepR_loop) C⟩
def bX (P:av) (N:Fm) (o:aC) (σ:Nat→ag) (w:ah) (K:(Nat→ag)→ah→Prop):Prop :=
 gB P o (act N σ) w (fun a w=> ∃ σ,a=act N σ∧K σ w) (fun _ _ _=>False)
theorem Mb {o:aC} {a:Act} {K C:Act→ah→Prop} {Q:bd→Act→ah→Prop} (h:∀ a w,K a w→C a w)
 (r:Result Next) (A:o.upon P a K (fun _ _ _=>False) r):o.upon P a C Q r:=by
 cases r with
 | ok n w'=>
   cases n <;> simp only [iA] at A ⊢ <;>
    first
     | exact h _ _ A
     | exact j3 A (fun e w'' he=>by
      cases e with
      | returned v=>exact h _ _ he
      | panicked c=>exact he.elim
      | outgrown=>obtain ⟨_,_,E⟩:=he; exact E.elim)
     | exact Rows.mono A fun _ _ he=>h _ _ he
 | halt x w'=>cases x <;> simp only [iA] at A ⊢
theorem pD {K:(Nat→ag)→ah→Prop} {A:Act→ah→Prop} {Q:bd→Act→ah→Prop} {o:aC} (h:bX P N o σ w K) (E:∀ σ w,K σ w→A (act N σ) w):o.wp P (act N σ) w A Q:=by
 unfold bX at h;unfold gB at*;exact Mb (fun a w ⟨σ,ha,C⟩=>by subst ha; exact E _ _ C) _ h
theorem DT {K A:(Nat→ag)→ah→Prop} {o:aC} (h:bX P N o σ w K) (E:∀ σ w,K σ w→A σ w):bX P N o σ w A:=
 pD h (fun σ w C=>⟨σ,rfl,E σ w C⟩)
variable {ops:Array aC} {rest:List aC} {d:Nat} {op:Op} {ty:aw} {pos :String} {af:Array bR} {d':Option Nat} {v:ag} {o:aC}
theorem tX (A:kB o (yielded ops (act N σ).tmps)=true) (h:bX P N o σ w (fun σ w=>bQ P N ops Q rest σ w)):bQ P N ops Q (o::rest) σ w:=by
 unfold bQ wpList;rw [if_pos A];exact .inl<|pD h fun _ _ C=>C
theorem gV {K:(Nat→ag)→ah→Prop} {w':ah} (hr:(execOp (ev N σ) o).run P w= .ok (.value v) w') (A:K (dv σ o.dst v) w'):bX P N o σ w K:=by
 unfold bX gB;rw [dt,hr];exact ⟨_,eI ..,A⟩
theorem fl (o:aC) (A:o.guard=none) (y:Nat→Option Bool):kB o y=true :=by simp [kB,A]
def dS (ops:Array aC) (j:Nat):Option Nat:=(ops[j]?).bind (·.dst)
theorem mu {j t:Nat} {want b:Bool} (C:o.guard=some (j,want)) (A:dS ops j=some t) (E:aE t N.n=true) (I:σ t= .bool b):
 kB o (yielded ops (act N σ).tmps)=(b==want):=by
 have h1:yielded ops (act N σ).tmps j=some b:=by
  unfold yielded;unfold dS at A;rw [A];simp only [Fp,jb];rw [if_pos (mC (mD t)<|bM E),I]
 simp only [kB,C,h1];cases b <;> cases want <;> rfl
theorem yo {j t:Nat} {want:Bool} (C:o.guard=some (j,want)) (A:dS ops j=some t) (E:aE t N.n=true) (I:σ t=undef):
 kB o (yielded ops (act N σ).tmps)=false :=by
 have h1:yielded ops (act N σ).tmps j=none:=by
  unfold yielded;unfold dS at A;rw [A];simp only [Fp,jb];rw [if_pos (mC (mD t)<|bM E),I]; rfl
 simp only [kB,C,h1];rfl
theorem p (h:(execOp (ev N σ) ⟨some d,op,ty,pos,af,none⟩).run P w= .ok (.value v) w) (k:bQ P N ops Q rest (aX σ d v) w):
 bQ P N ops Q (⟨some d,op,ty,pos,af,none⟩::rest) σ w:=
 tX (fl _ rfl _) (gV h k)
theorem pg {j t:Nat} {want:Bool} (A:dS ops j=some t) (C:aE t N.n=true) (E:σ t= .bool want)
 (h:(execOp (ev N σ) ⟨some d,op,ty,pos,af,some (j,want)⟩).run P w= .ok (.value v) w) (k:bQ P N ops Q rest (aX σ d v) w):
 bQ P N ops Q (⟨some d,op,ty,pos,af,some (j,want)⟩::rest) σ w:=
 tX (by rw [mu rfl A C E]; cases want <;> rfl) (gV h k)
theorem sk {j t:Nat} {want b:Bool} (A:dS ops j=some t) (C:aE t N.n=true) (E:σ t= .bool b) (hb:(b==want)=false)
 (k:bQ P N ops Q rest (aX σ d undef) w):bQ P N ops Q (⟨some d,op,ty,pos,af,some (j,want)⟩::rest) σ w:=by
 unfold bQ wpList;rw [if_neg (by rw [mu rfl A C E,hb]; simp),eI];exact k
theorem C6 {j t:Nat} {want:Bool} (A:dS ops j=some t) (C:aE t N.n=true) (E:σ t=undef)
 (k:bQ P N ops Q rest (aX σ d undef) w):bQ P N ops Q (⟨some d,op,ty,pos,af,some (j,want)⟩::rest) σ w:=by
 unfold bQ wpList;rw [if_neg (by rw [yo rfl A C E]; simp),eI];exact k
theorem e (h:bX P N ⟨d',op,ty,pos,af,none⟩ σ w (fun σ w=>bQ P N ops Q rest σ w)):bQ P N ops Q (⟨d',op,ty,pos,af,none⟩::rest) σ w:=
 tX (fl _ rfl _) h
theorem eg {j t:Nat} {want:Bool} (A:dS ops j=some t) (C:aE t N.n=true) (E:σ t= .bool want)
 (h:bX P N ⟨d',op,ty,pos,af,some (j,want)⟩ σ w (fun σ w=>bQ P N ops Q rest σ w)):bQ P N ops Q (⟨d',op,ty,pos,af,some (j,want)⟩::rest) σ w:=by grind [tX,mu]
theorem nl (h:Q .normal σ w):bQ P N ops Q [] σ w:=⟨σ,rfl,h⟩
theorem wN:¬LetsOut (lift N Q):=fun ⟨_,_,h⟩=>h
theorem rg {id:Nat} {l:List aC} (hr:kj N.r l=true) (h:bQ P N l.toArray Q l σ w):bu P N (.region id l.toArray false) Q σ w:=by
 refine wpIn_region<|wg wN hr _ _ _ ?_;have h1:=wpOps_eq_wpList (P:=P) (ops:=l.toArray) (Q:=lift N Q) l 0 fun j=>by simp
 rw [List.range_eq_range',eW,h1];exact h
theorem gs {l:List aC} {t:Nat} {q:Prop} [Decidable q] (h:σ t= .bool (decide q)) (E:q→bQ P N ops Q l (aX σ t<|.bool true) w) (C:¬q→bQ P N ops Q l (aX σ t<|.bool false) w):bQ P N ops Q l σ w:=by
 by_cases A:q
 · have :=E A; rwa [ml (by rw [h,decide_eq_true A])] at this
 · have :=C A; rwa [ml (by rw [h,decide_eq_false A])] at this
theorem gb {l:List aC} {t:Nat} {b:Bool} (h:σ t= .bool b) (C:b=true→bQ P N ops Q l (aX σ t<|.bool true) w) (A:b=false→bQ P N ops Q l (aX σ t<|.bool false) w):bQ P N ops Q l σ w:=by
 cases b
 · have :=A rfl; rwa [ml h] at this
 · have :=C rfl; rwa [ml h] at this
def cm (P:av) (N:Fm) (ops:Array aC) (Q:bd→(Nat→ag)→ah→Prop) (S:ah→Prop) (fuel:Nat) (listed:Array Bool) (σ:Nat→ag) (w:ah):Prop :=
 wpAnyH P .any ops (lift N Q) S fuel listed (act N σ) w
variable {S:ah→Prop} {fuel:Nat} {listed:Array Bool}
theorem zi {id:Nat} {l:List aC} (hr:kj N.r l=true) (hm:P.follows .mixedOrders=true) (h:wpAny P .any l.toArray (lift N Q) l.toArray.size (nM l.toArray.size false) (act N σ) w.drew):bu P N (.region id l.toArray true) Q σ w:=by
 refine wpIn_region_draw fun t=>wg wN hr _ _ _ ?_;simp only [Region.schedule,hm,Bool.true_or,if_true];exact wpAny_sound _ t _ _ _ h
theorem bq {id:Nat} {l:List aC} (S:ah→Prop) (hr:kj N.r l=true) (hm:P.follows .mixedOrders=true) (A:S w.drew) (h:cm P N l.toArray Q S l.length (nM l.length false) σ w.drew):bu P N (.region id l.toArray true) Q σ w:=
 zi hr hm (wpAny_of_held _ _ _ _<|by rw [eW]; exact h)
def xi (F:List Nat) (d:Option Nat):Bool:=match d with | some d=> !(F.contains d) | none=>true
def eE (F:List Nat) (ops:Array aC) (listed:Array Bool) (i:Nat):Bool:=
 Region.noSelect ops && Region.free .any ops listed i && (dw .any ops listed).contains i && xi F ((ops[i]?).bind (·.dst))
theorem m6 {d:Option Nat} {v:ag} (A:xi N.F d=true) (c:List PanicEntry) (a:Act) (w:ah):lift N Q (.panic c) (a.put d v) w→lift N Q (.panic c) a w:=by
 rintro ⟨σ,ha,h⟩;cases d with
 | none=>exact ⟨σ,ha,h⟩
 | some d=>
   have L:a.tmps.size=N.n:=by
    have :=congrArg (fun x:Act=>x.tmps.size) ha;simpa [Act.put,act] using this
   have E:a.defers=N.D:=congrArg (fun x:Act=>x.defers) ha;have I:∀ i:Nat,i≠d→a.tmps[i]? =if i < N.n then some (σ i) else none:=fun i hi=>by
    have h1:(a.put (some d) v).tmps[i]? =a.tmps[i]? :=by
     show (a.tmps.setIfInBounds d v)[i]? =_;rw [rj,if_neg (fun e=>hi e.symm)]
    rw [← h1,ha,jb]
   refine ⟨fun i=>if i < N.n then a.tmps.getD i undef else σ i,rU E fun i=> ?_,fun σ' C=>h σ' fun i hi=> ?_⟩
   · rw [jb];by_cases h1:i < N.n
     · rw [if_pos h1,if_pos h1,iV,nL ab]; rfl
     · rw [if_neg h1,tY ab]
   · have J:i≠d:=by
      rintro rfl;simp only [xi,ky,List.contains_eq_mem,decide_eq_false_iff_not] at A;exact A hi
     rw [C i hi];by_cases h1:i < N.n
     · simp only [if_pos h1];rw [iV,I i J,if_pos h1]; rfl
     · simp only [if_neg h1]
theorem hp (i:Nat) (hi:ops[i]? =some ⟨some d,op,ty,pos,af,none⟩) (A:eE N.F ops listed i=true)
 (E:∀ w,S w→(execOp (ev N σ) ⟨some d,op,ty,pos,af,none⟩).run P w= .ok (.value v) w) (C:S w)
 (k:cm P N ops Q S fuel (listed.setIfInBounds i true) (aX σ d v) w):cm P N ops Q S (fuel+1) listed σ w:=by
 simp only [eE,a9] at A;refine wpAnyH_take hi A.1.1.1 A.1.1.2 A.1.2 (fun c a w=>m6 (by have :=A.2; rwa [hi] at this) c a w) (.inl ⟨fl _ rfl _,fun w C=> ?_⟩) C ?_ (v:=v)
 · rw [dt]; exact E w C
 · rw [eI]; exact k
theorem bW (i:Nat) {j t:Nat} {want:Bool} (hi:ops[i]? =some ⟨some d,op,ty,pos,af,some (j,want)⟩) (A:eE N.F ops listed i=true)
 (E:dS ops j=some t) (I:aE t N.n=true) (J:σ t= .bool want)
 (L:∀ w,S w→(execOp (ev N σ) ⟨some d,op,ty,pos,af,some (j,want)⟩).run P w= .ok (.value v) w) (C:S w)
 (k:cm P N ops Q S fuel (listed.setIfInBounds i true) (aX σ d v) w):cm P N ops Q S (fuel+1) listed σ w:=by
 simp only [eE,a9] at A;refine wpAnyH_take hi A.1.1.1 A.1.1.2 A.1.2 (fun c a w=>m6 (by have :=A.2; rwa [hi] at this) c a w) (.inl ⟨by rw [mu U E I J]; cases want <;> rfl,fun w C=> ?_⟩) C ?_ (v:=v)
 · rw [dt]; exact L w C
 · rw [eI]; exact k
theorem sF (i:Nat) {j t:Nat} {want b:Bool} (hi:ops[i]? =some ⟨some d,op,ty,pos,af,some (j,want)⟩) (A:eE N.F ops listed i=true)
 (E:dS ops j=some t) (I:aE t N.n=true) (J:σ t= .bool b) (hb:(b==want)=false) (C:S w)
 (k:cm P N ops Q S fuel (listed.setIfInBounds i true) (aX σ d undef) w):cm P N ops Q S (fuel+1) listed σ w:=by
 simp only [eE,a9] at A;refine wpAnyH_take hi A.1.1.1 A.1.1.2 A.1.2 (fun c a w=>m6 (by have :=A.2; rwa [hi] at this) c a w) (.inr ⟨by rw [mu U E I J,hb],U⟩) C ?_ (v:=undef);rw [eI]; exact k
theorem Iv (i:Nat) {j t:Nat} {want:Bool} (hi:ops[i]? =some ⟨some d,op,ty,pos,af,some (j,want)⟩) (A:eE N.F ops listed i=true)
 (E:dS ops j=some t) (I:aE t N.n=true) (J:σ t=undef) (C:S w)
 (k:cm P N ops Q S fuel (listed.setIfInBounds i true) (aX σ d undef) w):cm P N ops Q S (fuel+1) listed σ w:=by
 simp only [eE,a9] at A;refine wpAnyH_take hi A.1.1.1 A.1.1.2 A.1.2 (fun c a w=>m6 (by have :=A.2; rwa [hi] at this) c a w) (.inr ⟨yo U E I J,U⟩) C ?_ (v:=undef);rw [eI]; exact k
def gO (ops:Array aC) (listed:Array Bool) (i:Nat):Bool:=(dw .any ops listed)== [i]
theorem he (i:Nat) (hi:ops[i]? =some ⟨d',op,ty,pos,af,none⟩) (hr:gO ops listed i=true)
 (h:bX P N ⟨d',op,ty,pos,af,none⟩ σ w (fun σ w=>S w∧cm P N ops Q S fuel (listed.setIfInBounds i true) σ w)):cm P N ops Q S (fuel+1) listed σ w:=by
 refine wpAnyH_all (rs:= [i]) (by simpa [gO] using hr) (by simp) ?_;intro k A;obtain rfl :k=i:=by simpa using A
 unfold wpOp;simp only [hi];rw [if_pos (fl _ rfl _)];exact .inl<|pD h fun _ _ A=>A
theorem Bh (i:Nat) {j t:Nat} {want:Bool} (hi:ops[i]? =some ⟨d',op,ty,pos,af,some (j,want)⟩) (hr:gO ops listed i=true)
 (C:dS ops j=some t) (E:aE t N.n=true) (I:σ t= .bool want)
 (h:bX P N ⟨d',op,ty,pos,af,some (j,want)⟩ σ w (fun σ w=>S w∧cm P N ops Q S fuel (listed.setIfInBounds i true) σ w)):cm P N ops Q S (fuel+1) listed σ w:=by
 refine wpAnyH_all (rs:= [i]) (by simpa [gO] using hr) (by simp) ?_;intro k A;obtain rfl :k=i:=by simpa using A
 unfold wpOp;simp only [hi];rw [if_pos (by rw [mu rfl C E I]; cases want <;> rfl)];exact .inl<|pD h fun _ _ A=>A
theorem hn (hr:(dw .any ops listed).isEmpty=true) (h:Q .normal σ w):cm P N ops Q S fuel listed σ w:=
 wpAnyH_done (by simpa using hr) ⟨σ,rfl,h⟩ fuel
theorem jR {t:Nat} {q:Prop} [Decidable q] (h:σ t= .bool (decide q)) (E:q→cm P N ops Q S fuel listed (aX σ t<|.bool true) w) (C:¬q→cm P N ops Q S fuel listed (aX σ t<|.bool false) w):cm P N ops Q S fuel listed σ w:=by
 by_cases A:q
 · have :=E A; rwa [ml (by rw [h,decide_eq_true A])] at this
 · have :=C A; rwa [ml (by rw [h,decide_eq_false A])] at this
end
def bo (P:av) (f:dU) (args:Array ag) (w:ah) (R:ag→ah→Prop):Prop :=
 Calls P f args w fun e w'=> ∃ v,e= .returned v∧R v w'
theorem bo.mono {P:av} {f:dU} {args:Array ag} {w:ah} {R A:ag→ah→Prop} (h:bo P f args w R) (hr:∀ v w',R v w'→A v w'):bo P f args w A:=
 j3 h fun _ _ ⟨v,he,C⟩=>⟨v,he,hr _ _ C⟩
def du (args:List ag):Nat→ag:=fun i=>args.getD i undef
def fin (P:av) (fn:Func) (N:Fm) (R:ag→ah→Prop):bd→(Nat→ag)→ah→Prop
 | .normal,σ,w=> ∃ v,(results fn (act N σ).tmps).run P w= .ok v w∧R v w
 | .ret,σ,w=> ∃ v,(results fn (act N σ).tmps).run P w= .ok v w∧R v w
 | _,_,_=>False
theorem enter {P:av} {f:dU} {N:Nat} {fn:Func} {c:bP} {args:List ag} {w:ah} {R:ag→ah→Prop} (L:P.funcs[f]? =some fn) (hb:fn.body=some c)
 (J:fn.ntmps=N) (hn:bh args.length N=true) (h:bu P ⟨N,[],[],none⟩ c (fin P fn ⟨N,[],[],none⟩ R) (du args) w):bo P f args.toArray w R:=by
 subst J;refine calls_of_wp L hb ?_;have ha:({tmps:=args.toArray++nM (fn.ntmps - args.toArray.size) undef,defers:= []} :Act)=act ⟨fn.ntmps,[],[],none⟩ (du args):=by
  have M:args.length≤fn.ntmps:=by simpa using hn
  refine rU U fun i=> ?_;rw [jb];simp only [du,cn,eW];by_cases h1:i < args.length
  · rw [D8 (by simpa using h1),if_pos ab];simp [h1]
  · rw [D9 (by simpa using h1)];simp only [eW,Eb];by_cases I:i < fn.ntmps
    · rw [if_pos ab,if_pos I,jt ab]; rfl
    · rw [if_neg ab,if_neg I]
 rw [ha];refine Code.wp_mono ?_<|wpIn_wide.1 h;intro e a w A;cases e with
 | normal=>obtain ⟨σ,rfl,v,hr,E⟩:=A; exact ⟨rfl,v,hr,v,rfl,E⟩
 | ret=>obtain ⟨σ,rfl,v,hr,E⟩:=A; exact ⟨rfl,v,hr,v,rfl,E⟩
 | exit id=>obtain ⟨σ,rfl,C⟩:=A; exact C.elim
 | goto l=>obtain ⟨σ,rfl,C⟩:=A; exact C.elim
 | panic c=>obtain ⟨σ,rfl,C⟩:=A; exact (C σ fun _ _=>rfl).elim
 | outgrown=>exact A.elim
section
variable {P:av} {N:Fm} {σ:Nat→ag} {w:ah} {fn:Func} {R:ag→ah→Prop}
theorem nj (t:Nat):(act N σ).tmps.getD t undef=ev N σ (.tmp t):=by
 rw [← dt]; rfl
theorem f0 (h:fn.results= #[]) (A:R (.tuple #[]) w):fin P fn N R .normal σ w:=⟨_,results_none h _ _ _,A⟩
theorem HM (h:fn.results= #[]) (A:R (.tuple #[]) w):fin P fn N R .ret σ w:=⟨_,results_none h _ _ _,A⟩
theorem f1 {t:Nat} {v:ag} (h:fn.results= #[.tmp t]) (C:ev N σ (.tmp t)=v) (A:R v w):fin P fn N R .ret σ w:=
 ⟨v,by rw [results_tmp h,nj,C],A⟩
theorem f2 {t u:Nat} {v A:ag} (h:fn.results= #[.tmp t,.tmp u]) (E:ev N σ (.tmp t)=v) (hu:ev N σ (.tmp u)=A) (C:R (.tuple #[v,A]) w):fin P fn N R .ret σ w:=
 ⟨_,by rw [results_tmp2 h,nj,nj,E,hu],C⟩
theorem f3 {t u s:Nat} {v A C:ag} (h:fn.results= #[.tmp t,.tmp u,.tmp s]) (J:ev N σ (.tmp t)=v) (hu:ev N σ (.tmp u)=A) (I:ev N σ (.tmp s)=C) (E:R (.tuple #[v,A,C]) w):fin P fn N R .ret σ w:=by
 refine ⟨_,?_,E⟩;simp only [results,h];subst J hu I;simp only [← nj];simp [yQ]
end
attribute [irreducible] bQ bu cm bX
end Go.Hb
namespace Go.Hb
def ay (h:Array Obj) (b off :Nat):Option ag:=
 match h[b]? with
 | some (.cells c _ _)=>c[off]?
 | _=>none
theorem jc (w:ah) (b off :Nat):w.cell? ⟨b,off,none⟩=ay w.heap b off :=by
 unfold EK ay;simp only;split <;> simp_all
theorem bp {h:Array Obj} {b off :Nat} {c:Array ag} {t:aw} {f:Nat×Nat} (hb:h[b]? =some (.cells c t f)):ay h b off =c[off]? :=by
 simp only [ay,hb]
theorem Gq {h:Array Obj} {b off :Nat} {v:ag} (A:ay h b off =some v):b < h.size:=by grind [ay]
structure Md (F:Nat→Prop) (w w':ah):Prop where
 os:w'.os=w.os
 output:w'.output=w.output
 size:w.heap.size≤w'.heap.size
 dL:∀ k,k < w.heap.size→¬F k→w'.heap[k]? =w.heap[k]?
abbrev Wk (w w':ah):Prop :=Md (fun _=>False) w w'
theorem Md.refl (F:Nat→Prop) (w:ah):Md F w w:=⟨rfl,rfl,aQ _,fun _ _ _=>rfl⟩
theorem Md.drew {F:Nat→Prop} {w w':ah} (h:Md F w w'):Md F w w'.drew:=⟨h.os,h.output,h.size,h.dL⟩
theorem Md.mono {F G:Nat→Prop} {w w':ah} (h:Md F w w') (E:∀ k,k < w.heap.size→F k→G k):Md G w w':=
 ⟨h.os,h.output,h.size,fun k A I=>h.dL k A fun C=>I<|E k A C⟩
theorem Md.trans {F:Nat→Prop} {a b c:ah} (h:Md F a b) (h':Md F b c):Md F a c:=
 ⟨h'.os.trans h.os,h'.output.trans h.output,cG h.size h'.size,fun k C A=>(h'.dL k (mC C h.size) A).trans<|h.dL k C A⟩
theorem Md.trans' {F G:Nat→Prop} {a b c:ah} (h:Md F a b) (h':Md G b c) (E:∀ k,k < a.heap.size→G k→F k):Md F a c:=
 ⟨h'.os.trans h.os,h'.output.trans h.output,cG h.size h'.size,
  fun k A C=>(h'.dL k (mC A h.size) fun x=>C<|E k A x).trans (h.dL k A C)⟩
theorem Md.an {F:Nat→Prop} {w w':ah} (h:Md F w w') {k:Nat} {o:Obj} (A:w.heap[k]? =some o) (C:¬F k):w'.heap[k]? =some o:=
 (h.dL k (dq.1 A).1 C).trans A
theorem Md.ay {F:Nat→Prop} {w w':ah} (h:Md F w w') {b off :Nat} {v:ag} (A:Hb.ay w.heap b off =some v) (C:¬F b):Hb.ay w'.heap b off =some v:=by
 have :=h.dL b (Gq A) C;unfold Hb.ay at*;rw [this]; exact A
theorem Wk.ay {w w':ah} (h:Wk w w') {b off :Nat} {v:ag} (A:Hb.ay w.heap b off =some v):Hb.ay w'.heap b off =some v:=Md.ay h A id
theorem Wk.an {w w':ah} (h:Wk w w') {k:Nat} {o:Obj} (A:w.heap[k]? =some o):w'.heap[k]? =some o:=Md.an h A id
structure Nw (w w':ah):Prop where
 md:Wk w w'
 size:w'.heap.size=w.heap.size+1
 one:∃ o,w'= {w with heap:=w.heap.push o}
theorem B7 (w:ah) (o:Obj):Nw w {w with heap:=w.heap.push o} :=
 ⟨⟨rfl,rfl,by simp,fun k A _=>by show (w.heap.push o)[k]? =_; rw [Array.getElem?_push,if_neg ab]⟩,by simp,o,rfl⟩
def db (P:av) (t:aw):Option (Option Nat):=
 match P.underlying t with
 | some (.struct _) | some (.array _ _)=>((P.info? t).map (·.size)).map some
 | some _=>some none
 | none=>none
def mT (P:av) (s f:Nat):Option Nat:=
 match P.underlying s with
 | some (.struct A)=>match A[f]? with
   | some fd=>match P.info? fd.type with
     | some i=>if i.size=0 then none else some fd.offset
     | none=>none
   | none=>none
 | _=>none
def cW (P:av) (t:aw):Option Nat:=
 match P.underlying t with
 | some (.slice e)=>(P.info? e).map (·.size)
 | _=>none
section
variable {P:av} {N:Fm} {σ:Nat→ag} {w:ah} {dst:Option Nat} {ty:aw} {pos :String} {af:Array bR} {g:Option (Nat×Bool)} {x y z:aY}
theorem bA {t:aw} {d:TypeDesc} (h:P.underlying t=some d) (w:ah):(underlying t).run P w= .ok d w:=by
 simp [underlying,h]
theorem dh {t:aw} {i:TypeInfo} (h:P.info? t=some i) (w:ah):(typeInfo t).run P w= .ok i w:=by
 simp [typeInfo,h]
theorem mv:(execOp (ev N σ) ⟨dst,.move x,ty,pos,af,g⟩).run P w= .ok (.value<|ev N σ x) w:=rfl
theorem aT:(execOp (ev N σ) ⟨dst,.assign x,ty,pos,af,g⟩).run P w= .ok (.value<|ev N σ x) w:=rfl
theorem m8 (v:ag) (h:ev N σ x=v):(execOp (ev N σ) ⟨dst,.move x,ty,pos,af,g⟩).run P w= .ok (.value v) w:=by rw [← h]; rfl
theorem zo (v:ag) (h:ev N σ x=v):(execOp (ev N σ) ⟨dst,.assign x,ty,pos,af,g⟩).run P w= .ok (.value v) w:=by rw [← h]; rfl
theorem mg {c:aY} (A:ev N σ c= .bool true):(execOp (ev N σ) ⟨dst,.pick c x y,ty,pos,af,g⟩).run P w= .ok (.value<|ev N σ x) w:=by
 simp [execOp,A,asBool]
theorem oY {c:aY} (A:ev N σ c= .bool false):(execOp (ev N σ) ⟨dst,.pick c x y,ty,pos,af,g⟩).run P w= .ok (.value<|ev N σ y) w:=by
 simp [execOp,A,asBool]
theorem nc {a:bl} (A:ev N σ x= .pointer (some a)):(execOp (ev N σ) ⟨dst,.nilCheck x,ty,pos,af,g⟩).run P w= .ok (.value<|.pointer<|some a) w:=by
 simp [execOp,A]
theorem xt {i:Nat} {vs:Array ag} {v:ag} (C:ev N σ x= .tuple vs) (A:vs[i]? =some v):(execOp (ev N σ) ⟨dst,.extract x i,ty,pos,af,g⟩).run P w= .ok (.value v) w:=by
 simp [execOp,C,Instr.extract,A]
theorem fa {s f n b off :Nat} (A:mT P s f=some n) (I:ev N σ x= .pointer (some ⟨b,off,none⟩)):
 (execOp (ev N σ) ⟨dst,.fieldAddr s x f,ty,pos,af,g⟩).run P w= .ok (.value<|.pointer<|some ⟨b,off+n,none⟩) w:=by
 unfold mT at A;split at A
 · rename_i L hu;split at A
   · rename_i fd E;split at A
     · rename_i i hi;split at A
       · cases A
       · rename_i J;cases A;have C:(⟨b,off,none⟩:bl).add fd.offset=⟨b,off+fd.offset,none⟩:=by unfold ud; split <;> simp_all
         simp [execOp,Instr.fieldAt,bA hu,E,I,nU,fieldPlace,sizeOf,dh hi,J,C]
     · cases A
   · cases A
 · cases A
theorem ld {t b off :Nat} {v:ag} (hu:db P t=some none) (E:ev N σ x= .pointer (some ⟨b,off,none⟩)) (A:ay w.heap b off =some v):
 (execOp (ev N σ) ⟨dst,.load t x,ty,pos,af,g⟩).run P w= .ok (.value v) w:=by
 have C:w.cell? ⟨b,off,none⟩=some v:=by rw [jc]; exact A
 unfold db at hu;cases hd:P.underlying t with
 | none=>rw [hd] at hu; cases hu
 | some d=>
   rw [hd] at hu;cases d <;> first
    | (simp only [fQ] at hu; obtain ⟨_,_,h⟩:=hu; cases h; done)
    | simp [execOp,Ey,E,nU,loadVar,isAgg,bA hd,run_load,C]
theorem eJ (b off j:Nat):(⟨b,off,none⟩:bl).add j=⟨b,off+j,none⟩:=by
 unfold ud; split <;> simp_all
theorem fg {t n b off :Nat} {cs:List ag} (hu:db P t=some (some n)) (J:ev N σ x= .pointer (some ⟨b,off,none⟩)) (I:cs.length=n)
 (C:∀ j,j < n→ay w.heap b (off+j)=cs[j]?):
 (execOp (ev N σ) ⟨dst,.load t x,ty,pos,af,g⟩).run P w= .ok (.value<|.agg cs.toArray) w:=by
 have E:(loadCells ⟨b,off,none⟩ n).run P w= .ok cs.toArray w:=by
  subst I;refine run_loadCells_list (P:=P) w ⟨b,off,none⟩ cs fun j v A=> ?_;rw [eJ,jc];exact (C j (cB.1 A).1).trans A
 unfold db at hu;cases hd:P.underlying t with
 | none=>rw [hd] at hu; cases hu
 | some d=>
   rw [hd] at hu;cases hi:P.info? t with
   | none=>simp [EG,hi] at hd
   | some i=>
     rw [hi] at hu;cases d <;> first
      | (cases hu; done)
      | (simp only [fC,bH] at hu; subst hu
         simp [execOp,Ey,J,nU,loadVar,isAgg,bA hd,sizeOf,dh hi,E])
theorem ia {t n b off len cap:Nat} {k:bw} {i:Int} (he:cW P t=some n) (A:ev N σ x= .slice (some ⟨b,off,none⟩) len cap) (C:ev N σ y= .int k i) (h0:0≤i∧i < len):
 (execOp (ev N σ) ⟨dst,.indexAddr t x y,ty,pos,af,g⟩).run P w= .ok (.value<|.pointer<|some ⟨b,off+i.toNat*n,none⟩) w:=by
 unfold cW at he;cases hd:P.underlying t with
 | none=>rw [hd] at he; cases he
 | some d=>
   rw [hd] at he;cases d <;> first | (cases he; done) | skip
   rename_i e;cases hi:P.info? e with
   | none=>simp [hi] at he
   | some j=>
     simp only [hi,fC,bH] at he;subst he;simp [execOp,Ex,A,C,asIntOf,bA hd,h0.1,h0.2,sizeOf,dh hi,eJ]
def eo (a:Option bl) (cap l n:Nat):Option bl:=if cap=l then a else a.map (·.add (l*n))
theorem xT {t n len cap:Nat} {a:Option bl} {lo hi:Option ag} {l h:Nat} (he:cW P t=some n) (E:ev N σ x= .slice a len cap)
 (hb:(kA true len cap lo hi none).run P w= .ok (l,h,cap) w) (A C:Option aY) (I:A.map (ev N σ)=lo) (J:C.map (ev N σ)=hi):
 (execOp (ev N σ) ⟨dst,.slice t x A C none,ty,pos,af,g⟩).run P w= .ok (.value<|.slice (eo a cap l n) (h - l)<|cap - l) w:=by
 unfold cW at he;cases hd:P.underlying t with
 | none=>rw [hd] at he; cases he
 | some d=>
   rw [hd] at he;cases d <;> first | (cases he; done) | skip
   rename_i e;cases hi':P.info? e with
   | none=>simp [hi'] at he
   | some j=>
     simp only [hi',fC,bH] at he;subst he;simp [execOp,nR,ru,E,I,J,bA hd,hb,sizeOf,dh hi',eo]
theorem xU {t n len cap:Nat} {a:Option bl} {k:bw} {i:Int} (he:cW P t=some n) (C:ev N σ x= .slice a len cap) (E:ev N σ z= .int k i) (h0:0≤i∧i≤cap):
 (execOp (ev N σ) ⟨dst,.slice t x none (some z) none,ty,pos,af,g⟩).run P w= .ok (.value<|.slice a i.toNat cap) w:=by
 have :=xT (dst:=dst) (ty:=ty) (pos :=pos) (af:=af) (g:=g) (w:=w) (lo:=none) (hi:=some<|.int k i) (l:=0) (h:=i.toNat) he C
  (by simp [kA,nS,asIntOf,h0.1,h0.2]) none (some z) rfl (by simp [E])
 rw [this];have A:eo a cap 0 n=a:=by
  unfold eo; split
  · rfl
  · cases a <;> simp [ud]
 rw [A]; rfl
theorem xV {t n len cap:Nat} {a:Option bl} {k:bw} {i:Int} (he:cW P t=some n) (A:ev N σ x= .slice a len cap) (C:ev N σ y= .int k i) (h0:0≤i∧i≤len):
 (execOp (ev N σ) ⟨dst,.slice t x (some y) none none,ty,pos,af,g⟩).run P w= .ok (.value<|.slice (eo a cap i.toNat n) (len - i.toNat)<|cap - i.toNat) w:=
 xT (lo:=some<|.int k i) (hi:=none) he A
  (by simp [kA,nS,asIntOf,h0.1,h0.2]) (some y) none (by simp [C]) rfl
theorem xS {t n len cap:Nat} {a:Option bl} {k A:bw} {i j:Int} (he:cW P t=some n) (E:ev N σ x= .slice a len cap) (I:ev N σ y= .int k i) (J:ev N σ z= .int A j) (h0:0≤i∧i≤j∧j≤cap):
 (execOp (ev N σ) ⟨dst,.slice t x (some y) (some z) none,ty,pos,af,g⟩).run P w= .ok (.value<|.slice (eo a cap i.toNat n) (j.toNat - i.toNat)<|cap - i.toNat) w:=by
 have h1:0≤j:=ab;have C:i≤(j.toNat:Int):=ab;refine xT (lo:=some<|.int k i) (hi:=some<|.int A j) he E ?_ (some y) (some z) (by simp [I])<|by simp [J]
 simp only [kA,nS,asIntOf,iB,kC,gX,rD,h0.1,h1,h0.2.2,C,and_self,if_true]
theorem gU {n:Int} (h: -9223372036854775808≤n∧n≤9223372036854775807):uh.wrap n=n:=IntWalk.i64_in n h
theorem yp {n:Int} (h: -2147483648≤n∧n≤2147483647):IntKind.i32.wrap n=n:=IntWalk.i32_in n h
theorem yu {n:Int} (h:0≤n∧n≤255):IntKind.u8.wrap n=n:=IntWalk.u8_in n h
theorem DU {n:Int} (h:0≤n∧n≤4294967295):IntKind.u32.wrap n=n:=IntWalk.u32_in n h
theorem gz {n:Int} (h:0≤n∧n≤18446744073709551615):IntKind.u64.wrap n=n:=IntWalk.u64_in n h
theorem iv {k:bw} {a b:Int} (h:a=b):a0 k a=a0 k b:=by rw [h]
theorem ad {t E:aw} {k:bw} {a b:Int} (A:ev N σ x= .int k a) (C:ev N σ y= .int k b) (hr:k.wrap (a+b)=a+b):
 (execOp (ev N σ) ⟨dst,.binOp .add t x y E,ty,pos,af,g⟩).run P w= .ok (.value<|.int k<|a+b) w:=by
 simp [execOp,A,C,eqGuard,binOp,rz,hr]
theorem uT {t E:aw} {k:bw} {a b:Int} (v:Int) (A:ev N σ x= .int k a) (C:ev N σ y= .int k b) (hr:k.wrap (a+b)=v):
 (execOp (ev N σ) ⟨dst,.binOp .add t x y E,ty,pos,af,g⟩).run P w= .ok (.value<|.int k v) w:=by
 subst hr; simp [execOp,A,C,eqGuard,binOp,rz]
theorem xF {t E:aw} {k:bw} {a b:Int} (v:Int) (A:ev N σ x= .int k a) (C:ev N σ y= .int k b) (hr:k.wrap (a - b)=v):
 (execOp (ev N σ) ⟨dst,.binOp .sub t x y E,ty,pos,af,g⟩).run P w= .ok (.value<|.int k v) w:=by
 subst hr; simp [execOp,A,C,eqGuard,binOp,rz]
theorem wZ {t E:aw} {k:bw} {a b:Int} (v:Int) (A:ev N σ x= .int k a) (C:ev N σ y= .int k b) (hr:k.wrap (a*b)=v):
 (execOp (ev N σ) ⟨dst,.binOp .mul t x y E,ty,pos,af,g⟩).run P w= .ok (.value<|.int k v) w:=by
 subst hr; simp [execOp,A,C,eqGuard,binOp,rz]
theorem yn {a:Int} {n:Nat} (h:a=n) (hn:n≤9223372036854775807):uh.wrap a=(n:Int):=by rw [h]; exact gU ab
theorem bv {p q:Prop} [Decidable p] [Decidable q] (h:p↔q):bD (decide p)=bD (decide q):=by rw [decide_eq_decide.2 h]
theorem sb {t E:aw} {k:bw} {a b:Int} (A:ev N σ x= .int k a) (C:ev N σ y= .int k b) (hr:k.wrap (a - b)=a - b):
 (execOp (ev N σ) ⟨dst,.binOp .sub t x y E,ty,pos,af,g⟩).run P w= .ok (.value<|.int k<|a - b) w:=by
 simp [execOp,A,C,eqGuard,binOp,rz,hr]
theorem qu {t E:aw} {k:bw} {a b:Int} (A:ev N σ x= .int k a) (C:ev N σ y= .int k b) (h0:0≤a∧0 < b) (hr:k.wrap (a / b)=a / b):
 (execOp (ev N σ) ⟨dst,.binOp .quo t x y E,ty,pos,af,g⟩).run P w= .ok (.value<|.int k<|a / b) w:=by
 have :a.tdiv b=a / b:=EP h0.1;simp [execOp,A,C,eqGuard,binOp,yJ,show b≠0 from by omega,this,hr]
theorem Kh {t E:aw} {k:bw} {a b:Int} (v:Int) (A:ev N σ x= .int k a) (C:ev N σ y= .int k b) (h0:0≤a∧0 < b) (hr:k.wrap (a / b)=v):
 (execOp (ev N σ) ⟨dst,.binOp .quo t x y E,ty,pos,af,g⟩).run P w= .ok (.value<|.int k v) w:=by
 have :a.tdiv b=a / b:=EP h0.1;subst hr; simp [execOp,A,C,eqGuard,binOp,yJ,show b≠0 from by omega,this]
theorem rm {t E:aw} {k:bw} {a b:Int} (A:ev N σ x= .int k a) (C:ev N σ y= .int k b) (h0:0≤a∧0 < b):
 (execOp (ev N σ) ⟨dst,.binOp .rem t x y E,ty,pos,af,g⟩).run P w= .ok (.value<|.int k<|a % b) w:=by
 have :a.tmod b=a % b:=Int.tmod_eq_emod_of_nonneg h0.1;simp [execOp,A,C,eqGuard,binOp,yJ,show b≠0 from by omega,this]
theorem lt {t E:aw} {k:bw} {a b:Int} (A:ev N σ x= .int k a) (C:ev N σ y= .int k b):
 (execOp (ev N σ) ⟨dst,.binOp .lss t x y E,ty,pos,af,g⟩).run P w= .ok (.value<|.bool<|decide (a < b)) w:=by
 simp [execOp,A,C,eqGuard,binOp,pL]
theorem le {t E:aw} {k:bw} {a b:Int} (A:ev N σ x= .int k a) (C:ev N σ y= .int k b):
 (execOp (ev N σ) ⟨dst,.binOp .leq t x y E,ty,pos,af,g⟩).run P w= .ok (.value<|.bool<|decide (a≤b)) w:=by
 simp [execOp,A,C,eqGuard,binOp,pL]
theorem gt {t E:aw} {k:bw} {a b:Int} (A:ev N σ x= .int k a) (C:ev N σ y= .int k b):
 (execOp (ev N σ) ⟨dst,.binOp .gtr t x y E,ty,pos,af,g⟩).run P w= .ok (.value<|.bool<|decide (b < a)) w:=by
 simp [execOp,A,C,eqGuard,binOp,pL]
theorem ge {t E:aw} {k:bw} {a b:Int} (A:ev N σ x= .int k a) (C:ev N σ y= .int k b):
 (execOp (ev N σ) ⟨dst,.binOp .geq t x y E,ty,pos,af,g⟩).run P w= .ok (.value<|.bool<|decide (b≤a)) w:=by
 simp [execOp,A,C,eqGuard,binOp,pL]
theorem AI {t E:aw} {k:bw} {a b:Int} (A:ev N σ x= .int k a) (C:ev N σ y= .int k b):
 (execOp (ev N σ) ⟨dst,.binOp .eql t x y E,ty,pos,af,g⟩).run P w= .ok (.value<|.bool<|decide (a=b)) w:=by
 simp [execOp,A,C,eqGuard,binOp,pL];rw [pI]; simp
theorem B3 {t E:aw} {k:bw} {a b:Int} (A:ev N σ x= .int k a) (C:ev N σ y= .int k b):
 (execOp (ev N σ) ⟨dst,.binOp .neq t x y E,ty,pos,af,g⟩).run P w= .ok (.value<|.bool<|decide (a≠b)) w:=by
 simp [execOp,A,C,eqGuard,binOp,pL];rw [pI]; simp
theorem no {t:aw} {b:Bool} (A:ev N σ x= .bool b):(execOp (ev N σ) ⟨dst,.unOp .not t x,ty,pos,af,g⟩).run P w= .ok (.value<|.bool<|!b) w:=by
 simp [execOp,A,Op.unary]
theorem zw {t I:aw} {k:bw} {a b v:Int} (C:ev N σ x= .int k a) (E:ev N σ y= .int k b) (A:k.wrap (iy k.bits a ||| iy k.bits b).toNat=v):
 (execOp (ev N σ) ⟨dst,.binOp .or t x y I,ty,pos,af,g⟩).run P w= .ok (.value<|.int k v) w:=by
 subst A; simp [execOp,C,E,eqGuard,binOp,Op.intBits]
theorem cR {t I:aw} {k:bw} {a b v:Int} (C:ev N σ x= .int k a) (E:ev N σ y= .int k b) (A:k.wrap (iy k.bits a &&& iy k.bits b).toNat=v):
 (execOp (ev N σ) ⟨dst,.binOp .and t x y I,ty,pos,af,g⟩).run P w= .ok (.value<|.int k v) w:=by
 subst A; simp [execOp,C,E,eqGuard,binOp,Op.intBits]
theorem shr {t I:aw} {k J:bw} {a b v:Int} (C:ev N σ x= .int k a) (E:ev N σ y= .int J b) (h0:0≤b) (A:a.fdiv (2 ^ min b.toNat k.bits)=v):
 (execOp (ev N σ) ⟨dst,.binOp .shr t x y I,ty,pos,af,g⟩).run P w= .ok (.value<|.int k v) w:=by
 have :¬b < 0:=ab;simp [execOp,C,E,eqGuard,binOp,Op.shift,this,A]
theorem shl {t I:aw} {k J:bw} {a b v:Int} (C:ev N σ x= .int k a) (E:ev N σ y= .int J b) (h0:0≤b) (A:k.wrap (a*2 ^ min b.toNat k.bits)=v):
 (execOp (ev N σ) ⟨dst,.binOp .shl t x y I,ty,pos,af,g⟩).run P w= .ok (.value<|.int k v) w:=by
 have :¬b < 0:=ab;simp [execOp,C,E,eqGuard,binOp,Op.shift,this,A]
theorem L6 (m:Nat) (h:m < 256):((eX m).toNat:Int)=(m:Int):=by
 simp [Nat.mod_eq_of_lt h]
theorem cv {t u:aw} {k A:bw} {n:Int} (hu:P.underlying u=some (.int A)) (E:(P.underlying t).isSome=true) (I:ev N σ x= .int k n):
 (execOp (ev N σ) ⟨dst,.convert t u x,ty,pos,af,g⟩).run P w= .ok (.value<|.int A<|A.wrap n) w:=by
 obtain ⟨d,C⟩:=mF.1 E;cases d <;> simp [execOp,I,convert,bA hu,bA C,Conv.intToInt]
theorem GV {t u:aw} {k A:bw} {n v:Int} (hu:P.underlying u=some (.int A)) (C:(P.underlying t).isSome=true) (E:ev N σ x= .int k n) (hr:A.wrap n=v):
 (execOp (ev N σ) ⟨dst,.convert t u x,ty,pos,af,g⟩).run P w= .ok (.value<|.int A v) w:=by
 rw [cv hu C E,hr]
theorem fH {t u:aw} {k A:bw} {n:Int} (hu:P.underlying u=some (.int A)) (C:(P.underlying t).isSome=true) (E:ev N σ x= .int k n) (hr:A.wrap n=n):
 (execOp (ev N σ) ⟨dst,.convert t u x,ty,pos,af,g⟩).run P w= .ok (.value<|.int A n) w:=by
 rw [cv hu C E,hr]
theorem vB (d:Nat) {t e:aw} {a:Option bl} (hu:P.underlying t=some (.pointer e)):(iz (d+1) t (.pointer a)<|.pointer none).run P w= .ok a.isNone w:=by
 cases a <;> simp [iz,bA hu]
theorem HB {t e:aw} {a:Option bl} (hu:P.underlying t=some (.pointer e)):(my t (.pointer a)<|.pointer none).run P w= .ok a.isNone w:=vB 9999 hu
theorem ji {t E e:aw} {a:Option bl} (hu:P.underlying t=some (.pointer e)) (A:ev N σ x= .pointer a) (C:ev N σ y= .pointer none):
 (execOp (ev N σ) ⟨dst,.binOp .eql t x y E,ty,pos,af,g⟩).run P w= .ok (.value<|.bool a.isNone) w:=by
 have h:(binOp .eql t (.pointer a)<|.pointer none).run P w= .ok (.bool a.isNone) w:=by
  simp only [binOp]; simp [HB hu]
 simp [execOp,A,C,eqGuard,h]
theorem AH (d:Nat) {t:aw} {a b:Bool} (hu:P.underlying t=some .bool):(iz (d+1) t (.bool a)<|.bool b).run P w= .ok (a==b) w:=by
 simp [iz,bA hu]
theorem Hz {t:aw} {a b:Bool} (hu:P.underlying t=some .bool):(my t (.bool a)<|.bool b).run P w= .ok (a==b) w:=AH 9999 hu
theorem HA {t E:aw} {a b:Bool} (hu:P.underlying t=some .bool) (A:ev N σ x= .bool a) (C:ev N σ y= .bool b):
 (execOp (ev N σ) ⟨dst,.binOp .eql t x y E,ty,pos,af,g⟩).run P w= .ok (.value<|.bool<|decide (a=b)) w:=by
 have h:(binOp .eql t (.bool a)<|.bool b).run P w= .ok (.bool<|decide (a=b)) w:=by
  simp only [binOp]; simp [Hz hu]; cases a <;> cases b <;> rfl
 simp [execOp,A,C,eqGuard,h]
def str (l:List UInt8):ag:= .string ⟨⟨l⟩⟩
theorem BI {t:aw} {l:List UInt8} {at_:Array aw} (A:P.underlying t=some .string) (ha:at_= #[t]) (C:ev N σ x=str l):
 (execOp (ev N σ) ⟨dst,.call ⟨.builtin .len,#[x],at_⟩,ty,pos,af,g⟩).run P w= .ok (.value<|.int .i64 l.length) w:=by
 subst ha;simp [execOp,resolve,invoke,builtin,yD,bA A,C,str,goInt];rfl
theorem wO {t e:aw} {a:Option bl} {n c:Nat} {at_:Array aw} (A:P.underlying t=some (.slice e)) (ha:at_= #[t]) (C:ev N σ x= .slice a n c):
 (execOp (ev N σ) ⟨dst,.call ⟨.builtin .len,#[x],at_⟩,ty,pos,af,g⟩).run P w= .ok (.value<|.int .i64 n) w:=by
 subst ha;simp [execOp,resolve,invoke,builtin,yD,bA A,C,goInt]
theorem Jg {t k e r:aw} {es:Array MapEntry} {c:Nat} {at_:Array aw} (A:P.underlying t=some (.map k e)) (ha:at_= #[t]) (C:ev N σ x= .map (some r)) (hr:w.heap[r]? =some (.map es c)):
 (execOp (ev N σ) ⟨dst,.call ⟨.builtin .len,#[x],at_⟩,ty,pos,af,g⟩).run P w= .ok (.value<|.int .i64 es.size) w:=by
 subst ha;simp [execOp,resolve,invoke,builtin,yD,bA A,C,goInt,getObj,lC,hr]
theorem mn {k:bw} {a b:Int} {at_:Array aw} (A:ev N σ x= .int k a) (C:ev N σ y= .int k b):
 (execOp (ev N σ) ⟨dst,.call ⟨.builtin .min,#[x,y],at_⟩,ty,pos,af,g⟩).run P w= .ok (.value<|.int k<|min a b) w:=by
 have :(if b < a then b else a)=min a b:=ab;simp [execOp,resolve,invoke,builtin,Builtin.min_,Builtin.min2,A,C,this]
theorem mx {k:bw} {a b:Int} {at_:Array aw} (A:ev N σ x= .int k a) (C:ev N σ y= .int k b):
 (execOp (ev N σ) ⟨dst,.call ⟨.builtin .max,#[x,y],at_⟩,ty,pos,af,g⟩).run P w= .ok (.value<|.int k<|max a b) w:=by
 have :(if b > a then b else a)=max a b:=ab;simp [execOp,resolve,invoke,builtin,Builtin.max_,Builtin.max2,A,C,this]
theorem IH {t:aw} {l:List UInt8} {k:bw} {i:Int} (I:P.underlying t=some .string) (J:ev N σ x=str l) (L:ev N σ y= .int k i) (h0:0≤i∧i < l.length):
 (execOp (ev N σ) ⟨dst,.index t x y,ty,pos,af,g⟩).run P w= .ok (.value<|.int .u8 ((l.getD i.toNat 0).toNat:Int)) w:=by
 have E:(⟨⟨l⟩⟩:ByteArray)[i.toNat]? =some (l.getD i.toNat 0):=by
  have A:i.toNat < l.length:=ab;have C:i.toNat < (⟨⟨l⟩⟩:ByteArray).size:=A;rw [getElem?_pos (⟨⟨l⟩⟩:ByteArray) i.toNat C];simp [cn,A,ByteArray.getElem_eq_getElem_data]
 simp [execOp,Instr.index,J,L,asIntOf,str,bA I,h0.1,E]
theorem xR (l:List UInt8) (a b:Nat):Value.string ((⟨⟨l⟩⟩:ByteArray).extract a b)=str ((l.take b).drop a):=by
 unfold str;congr 1;apply ByteArray.ext;simp [ByteArray.data_extract,List.extract_eq_take_drop,List.drop_take]
theorem sK (n:Nat) {t:aw} {l:List UInt8} {k:bw} (A:P.underlying t=some .string) (C:ev N σ x=str l) (E:ev N σ y= .int k (n:Int)) (h:n < l.length):
 (execOp (ev N σ) ⟨dst,.index t x y,ty,pos,af,g⟩).run P w= .ok (.value<|.int .u8 ((l.getD n 0).toNat:Int)) w:=IH A C E ⟨ab,ab⟩
theorem fV {n:Nat} {t:aw} {l:List UInt8} {k:bw} (A:P.underlying t=some .string) (C:ev N σ x=str l) (E:ev N σ y= .int k (n:Int)) (h:n < l.length):
 (execOp (ev N σ) ⟨dst,.index t x y,ty,pos,af,g⟩).run P w= .ok (.value<|.int .u8 ((l.getD n 0).toNat:Int)) w:=sK n A C E h
theorem mj {t:aw} {l:List UInt8} {k L:bw} {a b:Int} (C:P.underlying t=some .string) (E:ev N σ x=str l) (I:ev N σ y= .int k a) (J:ev N σ z= .int L b) (h0:0≤a∧a≤b∧b≤l.length):
 (execOp (ev N σ) ⟨dst,.slice t x (some y) (some z) none,ty,pos,af,g⟩).run P w= .ok (.value<|str<|(l.take b.toNat).drop a.toNat) w:=by
 have h1:b≤((⟨⟨l⟩⟩:ByteArray).size:Nat):=h0.2.2;have A:0≤b:=ab;have M:a≤(b.toNat:Nat):=ab;simp [execOp,nR,ru,kA,nS,E,I,J,asIntOf,str,bA C,h0.1,h1,A];rw [if_pos ab];exact congrArg (fun v=>rC (ry v) w)<|xR l a.toNat b.toNat
theorem xW {t:aw} {l:List UInt8} {I:bw} {b:Int} (A:P.underlying t=some .string) (C:ev N σ x=str l) (E:ev N σ z= .int I b) (h0:0≤b∧b≤l.length):
 (execOp (ev N σ) ⟨dst,.slice t x none (some z) none,ty,pos,af,g⟩).run P w= .ok (.value<|str<|l.take b.toNat) w:=by
 have h1:b≤((⟨⟨l⟩⟩:ByteArray).size:Nat):=h0.2;have :=xR l 0 b.toNat;simp only [List.drop_zero] at this;simp [execOp,nR,ru,kA,nS,C,E,asIntOf,str,bA A,h0.1,h1];exact EI this
theorem C8 {t:aw} {l:List UInt8} {k:bw} {a:Int} (A:P.underlying t=some .string) (C:ev N σ x=str l) (E:ev N σ y= .int k a) (h0:0≤a∧a≤l.length):
 (execOp (ev N σ) ⟨dst,.slice t x (some y) none none,ty,pos,af,g⟩).run P w= .ok (.value<|str<|l.drop a.toNat) w:=by
 have h1:a≤((⟨⟨l⟩⟩:ByteArray).size:Nat):=h0.2;have :=xR l a.toNat l.length;simp only [List.take_length] at this;simp [execOp,nR,ru,kA,nS,C,E,asIntOf,str,bA A,h0.1,h1];exact EI this
theorem pw (l:List UInt8):(⟨⟨l⟩⟩:ByteArray).toList=l:=Lib.toList_data ⟨⟨l⟩⟩
theorem cc {t I:aw} {l m:List UInt8} (C:ev N σ x=str l) (E:ev N σ y=str m) (h:l.length+m.length≤9223372036854775807):
 (execOp (ev N σ) ⟨dst,.binOp .add t x y I,ty,pos,af,g⟩).run P w= .ok (.value<|str<|l++m) w:=by
 have h1:¬(((⟨⟨l⟩⟩:ByteArray).size+(⟨⟨m⟩⟩:ByteArray).size:Nat):Int) > uh.max:=by
  have :uh.max=9223372036854775807:=aF;rw [this];show ¬((l.length+m.length:Nat):Int) > _;omega
 have A:(⟨⟨l⟩⟩:ByteArray)++(⟨⟨m⟩⟩:ByteArray)=⟨⟨l++m⟩⟩:=by
  apply ByteArray.ext; simp
 simp only [execOp,C,E,str,eqGuard,binOp,nW];rw [if_neg h1,A];rfl
theorem AJ {t E:aw} {l m:List UInt8} (A:ev N σ x=str l) (C:ev N σ y=str m):
 (execOp (ev N σ) ⟨dst,.binOp .eql t x y E,ty,pos,af,g⟩).run P w= .ok (.value<|.bool<|decide (l=m)) w:=by
 simp only [execOp,A,C,str,eqGuard,binOp,nW,pw];show rC (ry<|.bool<|l==m) w=_;rw [show (l==m)=decide (l=m) from by rw [pI]; simp]
theorem B4 {t E:aw} {l m:List UInt8} (A:ev N σ x=str l) (C:ev N σ y=str m):
 (execOp (ev N σ) ⟨dst,.binOp .neq t x y E,ty,pos,af,g⟩).run P w= .ok (.value<|.bool<|decide (l≠m)) w:=by
 simp only [execOp,A,C,str,eqGuard,binOp,nW,pw];show rC (ry<|.bool<|!(l==m)) w=_;rw [show (!(l==m))=decide (l≠m) from by rw [pI]; simp]
def nh (a b:List UInt8):Bool:=yI a b
theorem Le (x y:UInt8) (a b:List UInt8):nh (x::a) (y::b)=(decide (x < y) || (x==y && nh a b)):=rfl
theorem Jm {t E:aw} {l m:List UInt8} (A:ev N σ x=str l) (C:ev N σ y=str m):
 (execOp (ev N σ) ⟨dst,.binOp .lss t x y E,ty,pos,af,g⟩).run P w= .ok (.value<|.bool<|nh l m) w:=by
 simp only [execOp,A,C,str,eqGuard,binOp,nW,pw];rfl
theorem I5 {t E:aw} {l m:List UInt8} (A:ev N σ x=str l) (C:ev N σ y=str m):
 (execOp (ev N σ) ⟨dst,.binOp .leq t x y E,ty,pos,af,g⟩).run P w= .ok (.value<|.bool (nh l m || decide (l=m))) w:=by
 simp only [execOp,A,C,str,eqGuard,binOp,nW,pw];show rC (ry<|.bool (yI l m || l==m)) w=_;rw [show (l==m)=decide (l=m) from by rw [pI]; simp];rfl
theorem Im {t E:aw} {l m:List UInt8} (A:ev N σ x=str l) (C:ev N σ y=str m):
 (execOp (ev N σ) ⟨dst,.binOp .gtr t x y E,ty,pos,af,g⟩).run P w= .ok (.value<|.bool<|!(nh l m || decide (l=m))) w:=by
 simp only [execOp,A,C,str,eqGuard,binOp,nW,pw];show rC (ry<|.bool<|!(yI l m || l==m)) w=_;rw [show (l==m)=decide (l=m) from by rw [pI]; simp];rfl
theorem Ih {t E:aw} {l m:List UInt8} (A:ev N σ x=str l) (C:ev N σ y=str m):
 (execOp (ev N σ) ⟨dst,.binOp .geq t x y E,ty,pos,af,g⟩).run P w= .ok (.value<|.bool<|!nh l m) w:=by
 simp only [execOp,A,C,str,eqGuard,binOp,nW,pw];rfl
theorem mf {fn:Fn} {first captured:Array aY} :(execOp (ev N σ) ⟨dst,.makeFunc fn first captured,ty,pos,af,g⟩).run P w= .ok (.value<|.func fn (first.map<|ev N σ)<|captured.map<|ev N σ) w:=rfl
theorem BY {fn:Fn} {first captured:Array aY} :(execOp (ev N σ) ⟨dst,.makeFunc fn first captured,ty,pos,af,g⟩).run P w= .ok (.value<|.func fn (first.toList.map<|ev N σ).toArray (captured.toList.map<|ev N σ).toArray) w:=by
 rw [mf,← ix,← ix]
end
end Go.Hb
namespace Go.Hb
def aA (h:Array Obj) (b:Nat) (L:List ag):Prop := ∃ e,h[b]? =some (.cells L.toArray e (0,0))
theorem aA.ay {h:Array Obj} {b:Nat} {L:List ag} (hb:aA h b L) (j:Nat):Hb.ay h b j=L[j]? :=by
 obtain ⟨e,hb⟩:=hb;rw [bp hb]; simp
theorem aA.aO {h:Array Obj} {b:Nat} {L:List ag} (hb:aA h b L) (j:Nat):Hb.ay h b (0 +j)=L[j]? :=by
 rw [cH,hb.ay]
theorem Md.B {F:Nat→Prop} {w w':ah} (h:Md F w w') {b:Nat} {L:List ag} (hb:aA w.heap b L) (A:¬F b):aA w'.heap b L:=
 let ⟨e,hb⟩:=hb; ⟨e,h.an hb A⟩
theorem Wk.B {w w':ah} (h:Wk w w') {b:Nat} {L:List ag} (hb:aA w.heap b L):aA w'.heap b L:=Md.B h hb id
theorem aA.lt {h:Array Obj} {b:Nat} {L:List ag} (hb:aA h b L):b < h.size:=by grind [aA]
def bk (a:Option bl):Nat:=match a with | some ad=>ad.block | none=>0
def fo (a:Option bl):Nat:=match a with | some ad=>ad.off | none=>0
structure aV (h:Array Obj) (a:Option bl) (xs:List ag):Prop where
 ok:xs≠[]→a=some ⟨bk a,fo a,none⟩
 ay:∀ j u,xs[j]? =some u→Hb.ay h (bk a) (fo a+j)=some u
theorem aV.nil (h:Array Obj) (a:Option bl):aV h a []:=⟨fun h=>absurd rfl h,fun _ _ hu=>by simp at hu⟩
theorem aV.md {F:Nat→Prop} {w w':ah} {a:Option bl} {xs:List ag} (A:aV w.heap a xs) (h:Md F w w') (C:xs≠[]→¬F (bk a)):aV w'.heap a xs:=
 ⟨A.ok,fun j u hu=>h.ay (A.ay j u hu)<|C<|by rintro rfl; simp at hu⟩
theorem aV.wk {w w':ah} {a:Option bl} {xs:List ag} (A:aV w.heap a xs) (h:Wk w w'):aV w'.heap a xs:=A.md h fun _ x=>x
theorem aV.fL {h:Array Obj} {b:Nat} {L:List ag} (hb:aA h b L):aV h (some ⟨b,0,none⟩) L:=
 ⟨fun _=>rfl,fun j u hu=>by show Hb.ay h b (0 +j)=_; rw [cH,hb.ay]; exact hu⟩
theorem aV.qc {h:Array Obj} {a:Option bl} {xs:List ag} (A:aV h a xs) {i:Nat} {u:ag} (hu:xs[i]? =some u):Hb.ay h (bk a) (fo a+i*1)=some u:=by
 rw [Nat.mul_one]; exact A.ay i u hu
theorem oO {α:Type} {f:α→ag} {l:List α} (h:0 < l.length):l.map f≠[]:=by
 cases l with
 | nil=>simp at h
 | cons x l=>simp
def dT (P:av) (t e size bytes:Nat):Bool:=
 match P.underlying t with
 | some (.slice e')=>e'==e && match P.info? e with
   | some i=>i.size==size && i.bytes==bytes && aE 0 size && match i.zero with
     | some z=>z.cells.size==size
     | none=>false
   | none=>false
 | _=>false
theorem pn {P:av} {t e size bytes:Nat} (h:dT P t e size bytes=true):
 P.underlying t=some (.slice e)∧∃ i z,P.info? e=some i∧i.zero=some z∧i.size=size∧i.bytes=bytes∧z.cells.size=size∧0 < size:=by
 unfold dT at h;split at h
 · rename_i e' hu;simp only [a9,beq_iff_eq] at h;obtain ⟨rfl,h⟩:=h;split at h
   · rename_i i hi;simp only [a9,beq_iff_eq] at h;obtain ⟨⟨⟨h1,A⟩,h3⟩,h4⟩:=h;split at h4
     · rename_i z C;exact ⟨hu,i,z,hi,C,h1,A,by simpa using h4,mC (mD 0)<|bM h3⟩
     · cases h4
   · cases h
 · cases h
def cD (P:av) (t:aw):Option Nat:=(P.info? t).map (·.size)
def zeroOf (P:av) (t:aw):Option (Option<|List ag):=(P.info? t).map fun i=>i.zero.map fun z=>z.cells.toList
def gk (P:av) (f:dU):Prop := ∀ args w,(callFunc f args).run P w= .ok (.enter f args) w
theorem u6 {P:av} {f:dU} {fn:Func} (C:P.funcs[f]? =some fn) (hn:(fn.name== "runtime.NumGoroutine")=false) (hb:fn.body.isNone=false):gk P f:=by
 intro args w;have h1:¬((fn.name== "runtime.NumGoroutine")=true):=by rw [hn]; simp
 have A:¬(fn.body.isNone=true):=by rw [hb]; simp
 simp only [callFunc,iB,run_program,gX,C];rw [if_neg h1,if_neg A];rfl
section
variable {P:av} {N:Fm} {σ:Nat→ag} {w:ah} {dst:Option Nat} {ty:aw} {pos :String} {af:Array bR} {g:Option (Nat×Bool)} {x y z:aY} {K:(Nat→ag)→ah→Prop}
theorem DS {o:aC} {f:dU} {L:List ag} {R:ag→ah→Prop} (C:(execOp (ev N σ) o).run P w= .ok (.enter f L.toArray) w) (hr:bo P f L.toArray w R)
 (k:∀ v w',R v w'→K (dv σ o.dst v) w'):bX P N o σ w K:=by
 unfold bX gB;rw [dt,C];refine j3 hr fun e w' ⟨v,he,A⟩=> ?_;subst he;exact ⟨_,eI ..,k v w' A⟩
theorem cl {f:dU} {args:Array aY} {A:Array aw} {L:List ag} {R:ag→ah→Prop} (E:gk P f) (hr:bo P f L.toArray w R) (C:args.toList.map (ev N σ)=L)
 (k:∀ v w',R v w'→K (dv σ dst v) w'):bX P N ⟨dst,.call ⟨.value (.func f),args,A⟩,ty,pos,af,g⟩ σ w K:=by
 refine DS (f:=f) ?_ hr k;have :args.map (ev N σ)=L.toArray:=by rw [← C,← ix]
 simp [execOp,resolve,ev,lB,invoke,this,E L.toArray w]
theorem zK {f:dU} {fo:aY} {first cap:Array ag} {args:Array aY} {A:Array aw} {L:List ag} {R:ag→ah→Prop} (E:gk P f) (I:ev N σ fo= .func (.func f) first cap)
 (hr:bo P f L.toArray w R) (C:first.toList++args.toList.map (ev N σ)++cap.toList=L)
 (k:∀ v w',R v w'→K (dv σ dst v) w'):bX P N ⟨dst,.call ⟨.value fo,args,A⟩,ty,pos,af,g⟩ σ w K:=by
 refine DS (f:=f) ?_ hr k;have :first++args.map (ev N σ)++cap=L.toArray:=by rw [← C,← ix,← Ec,← Ec]
 simp [execOp,resolve,I,lB,invoke,this,E L.toArray w]
theorem lu {o:aC} {ob:Obj} {v:Nat→ag} (A:(execOp (ev N σ) o).run P w= .ok (.value<|v w.heap.size) {w with heap:=w.heap.push ob})
 (k:∀ b w',b=w.heap.size→Nw w w'→w'.heap[b]? =some ob→K (dv σ o.dst<|v b) w'):bX P N o σ w K:=by grind [gV,B7]
theorem al {e:aw} {C:List ag} (A:zeroOf P e=some (some C)) (k:∀ b w',b=w.heap.size→Nw w w'→aA w'.heap b C→K (dv σ dst<|.pointer<|some ⟨b,0,none⟩) w'):
 bX P N ⟨dst,.alloc e,ty,pos,af,g⟩ σ w K:=by
 refine lu (v:=fun b=> .pointer<|some ⟨b,0,none⟩) (ob:= .cells C.toArray e (0,0)) ?_ fun b w' h1 E I=>k b w' h1 E ⟨e,I⟩;unfold zeroOf at A;simp only [fQ] at A;obtain ⟨i,hi,zv,J,rfl⟩:=A;simp [execOp,ug,zeroValue,dh hi,J,newVar,newRow]
theorem dz {e:aw} {C:List ag} (A:zeroOf P e=some (some C)) (k:∀ b w',b=w.heap.size→Nw w w'→w'.heap[b]? =some (.cells C.toArray e (0,0))→K (dv σ dst<|.pointer<|some ⟨b,0,none⟩) w'):
 bX P N ⟨dst,.alloc e,ty,pos,af,g⟩ σ w K:=by
 refine lu (v:=fun b=> .pointer<|some ⟨b,0,none⟩) (ob:= .cells C.toArray e (0,0)) ?_ k;unfold zeroOf at A;simp only [fQ] at A;obtain ⟨i,hi,zv,E,rfl⟩:=A;simp [execOp,ug,zeroValue,dh hi,E,newVar,newRow]
theorem bx {e:aw} {v:ag} {L:List ag} (I:ev N σ x=v) (E:v.cells.toList=L) (k:∀ b w',b=w.heap.size→Nw w w'→aA w'.heap b L→K (dv σ dst<|.pointer<|some ⟨b,0,none⟩) w'):
 bX P N ⟨dst,.box e x,ty,pos,af,g⟩ σ w K:=by
 subst E;refine lu (v:=fun b=> .pointer<|some ⟨b,0,none⟩) (ob:= .cells v.cells e (0,0)) ?_ fun b w' h1 A C=>k b w' h1 A ⟨e,C⟩;simp [execOp,yE,I,newVar,newRow]
theorem r6 {t e:aw} {size bytes:Nat} (I:dT P t e size bytes=true)
 (k:∀ b w',b=w.heap.size→Nw w w'→(∀ B,B≤b→w'.ownsRow B e size (.slice (some ⟨b,0,none⟩) 0 0) 0 [])→K (dv σ dst<|.slice (some ⟨b,0,none⟩) 0 0) w'):bX P N ⟨dst,.buildSlice t 0 #[],ty,pos,af,g⟩ σ w K:=by
 refine lu (v:=fun b=> .slice (some ⟨b,0,none⟩) 0 0) (ob:= .cells #[] e (0,0)) ?_ fun b w' h1 A C=>k b w' h1 A fun B E=>⟨by simp,.inr ⟨b,0,#[],U,E,C,aQ _,by simp [maxLen],by simp,by simp⟩⟩
 obtain ⟨hu,i,zv,hi,L,h1,A,C,J⟩:=pn I;simp [execOp,rp,bA hu,sizeOf,dh hi,iW,newRow];congr 2;exact Array.eq_empty_of_size_eq_zero<|by simp
theorem F4 {t e:aw} {size bytes:Nat} {v:ag} {L:List ag} (U:dT P t e size bytes=true) (O:bh size 1000=true) (Z:ev N σ x=v) (V:v.cells.size=size)
 (I:v.cells.toList=L) (k:∀ b w',b=w.heap.size→Nw w w'→w'.heap[b]? =some (.cells L.toArray e (0,0))→K (dv σ dst<|.slice (some ⟨b,0,none⟩) 1 1) w'):bX P N ⟨dst,.buildSlice t 1 #[(0,x)],ty,pos,af,g⟩ σ w K:=by
 subst I;refine lu (v:=fun b=> .slice (some ⟨b,0,none⟩) 1 1) (ob:= .cells v.cells e (0,0)) ?_ fun b w' h1 A C=>k b w' h1 A<|by simpa using C
 obtain ⟨hu,i,zv,hi,ac,h1,A,C,ad⟩:=pn U;have ae:size≤1000:=by simpa using O
 have J:iW (fun i=>some (i*size,size)) ((lA size).map (zv.cells[· % zv.cells.size]!)) [(0,v)]=some v.cells:=by
  have E:((lA size).map (zv.cells[· % zv.cells.size]!)).size=size:=by simp
  generalize (lA size).map (zv.cells[· % zv.cells.size]!)=cs at E;simp only [iW,V];rw [if_neg (by rw [E]; simp)];congr 1;have key:∀ (l:List ag) (m:Nat) (cs:Array ag),m+l.length≤cs.size→∀ j,((l.zipIdx m).foldl (fun (cs:Array ag) (c,j)=>cs.setIfInBounds (0 *size+j) c) cs)[j]? =if j < m then cs[j]? else if j < m+l.length then l[j - m]? else cs[j]? :=by
   intro l
   induction l with
   | nil=>intro m cs hm j; simp; intro h1 A; omega
   | cons c l ih=>
     intro m cs hm j;simp only [Fc,iC,dm] at hm ⊢;rw [ih (m+1) _ (by simp; omega)];simp only [pX,cH,rj];by_cases h1:j < m
     · rw [if_pos ab,if_pos h1,if_neg ab]
     · rw [if_neg h1];by_cases A:j=m
       · subst A;rw [if_pos ab,if_pos rfl,if_pos ab,if_pos ab];simp
       · rw [if_neg ab];by_cases C:j < m+1 +l.length
         · rw [if_pos C,if_pos ab];obtain ⟨q,M⟩:∃ q,j - m=q+1:=⟨j - m - 1,ab⟩
           rw [M,iX,show j - (m+1)=q from by omega]
         · rw [if_neg C,if_neg ab,if_neg ab]
  apply D6;intro j;have :=key v.cells.toList 0 cs (by simp; omega) j;rw [show (v.cells.zipIdx.foldl (fun (cs:Array ag) (c,j)=>cs.setIfInBounds (0 *size+j) c) cs)=((v.cells.toList.zipIdx 0).foldl (fun (cs:Array ag) (c,j)=>cs.setIfInBounds (0 *size+j) c) cs) from by
   rw [← Array.foldl_toList]; simp [Array.toList_zipIdx]]
  rw [this];simp only [Nat.not_lt_zero,if_false,cH,Nat.sub_zero,lz,Array.getElem?_toList];split
  · rfl
  · rw [tY ab,tY ab]
 simp only [execOp,rp,iB,bA hu,gX,sizeOf,dh hi,kC,h1,Nat.one_mul,rD,zeroValue,ac,List.map_toArray,fq,List.map_nil,Z,J];rw [if_neg (by rw [show (2:Nat) ^ 24=16777216 from rfl]; omega),if_neg ab];simp [newRow]
theorem zx {t e:aw} {size bytes:Nat} {v:ag} {L:List ag} (J:dT P t e size bytes=true) (I:bh size 1000=true) (O:ev N σ x=v) (M:v.cells.size=size)
 (E:v.cells.toList=L) (k:∀ b w',b=w.heap.size→Nw w w'→aA w'.heap b L→K (dv σ dst<|.slice (some ⟨b,0,none⟩) 1 1) w'):bX P N ⟨dst,.buildSlice t 1 #[(0,x)],ty,pos,af,g⟩ σ w K:=
 F4 J I O M E fun b w' h1 A C=>k b w' h1 A ⟨_,C⟩
theorem m9 {v:ag} (h:v.oneCell'=true):v.cells= #[v]:=by cases v <;> first | rfl | (cases h; done)
theorem AS {loc:Nat→Option (Nat×Nat)} (C:∀ i,loc i=some (i*1,1)):∀ (rest pre A:List ag),A.length=rest.length→rest.all eS=true→
 iW loc (pre++A).toArray ((rest.zipIdx pre.length).map fun q=>(q.2,q.1))=some (pre++rest).toArray
 | [],pre,A,hl,_=>by
   rw [j4 hl]; rfl
 | v::r,pre,A,hl,h1=>by
   cases A with
   | nil=>simp at hl
   | cons z A=>
     rw [pP,a9] at h1;have E:=m9 h1.1;have ih:=AS C r (pre++ [v]) A (by simpa using hl) h1.2;simp only [Fc,fq,iW,C,E];rw [if_neg (by simp)];simp only [bK,mz,List.append_assoc,List.singleton_append] at ih;rw [← ih];simp
theorem F5 {t e bytes n:Nat} {ps:Array (Nat×aY)} {L:List ag} (I:dT P t e 1 bytes=true) (hp:ps.toList.map (fun p=>(p.1,ev N σ p.2))=(L.zipIdx 0).map fun q=>(q.2,q.1)) (h1:L.all eS=true) (hn:L.length=n) (A:(bh n 1000 && aE 0 n)=true)
 (k:∀ b w',b=w.heap.size→Nw w w'→w'.heap[b]? =some (.cells L.toArray e (0,0))→K (dv σ dst<|.slice (some ⟨b,0,none⟩) n n) w'):bX P N ⟨dst,.buildSlice t n ps,ty,pos,af,g⟩ σ w K:=by
 subst hn;refine lu (v:=fun b=> .slice (some ⟨b,0,none⟩) L.length L.length) (ob:= .cells L.toArray e (0,0)) ?_ k;obtain ⟨hu,i,zv,hi,J,C,O,U,V⟩:=pn I;simp only [a9] at A;have Z:L.length≤1000:=by simpa using A.1
 have ac:0 < L.length:=by have :=bM A.2; omega
 have E:iW (fun i=>some (i*1,1)) ((lA<|L.length*1).map (zv.cells[· % zv.cells.size]!)) (ps.toList.map fun p=>(p.1,ev N σ p.2))=some L.toArray:=by
  rw [hp];have M:((lA<|L.length*1).map (zv.cells[· % zv.cells.size]!)).toList.length=L.length:=by simp
  have :=AS (loc:=fun i=>some (i*1,1)) (fun _=>rfl) L [] ((lA<|L.length*1).map (zv.cells[· % zv.cells.size]!)).toList M h1;rw [n3,n3,yB] at this;exact this
 simp only [execOp,rp,iB,bA hu,gX,sizeOf,dh hi,kC,C,rD,zeroValue,J,ix,E];rw [if_neg (by rw [show (2:Nat) ^ 24=16777216 from rfl]; omega),if_neg ab];simp [newRow]
theorem jD {t e:aw} {bytes:Nat} {v:ag} (A:dT P t e 1 bytes=true) (C:ev N σ x=v) (h1:v.oneCell'=true)
 (k:∀ b w',b=w.heap.size→Nw w w'→aA w'.heap b [v]→K (dv σ dst<|.slice (some ⟨b,0,none⟩) 1 1) w'):bX P N ⟨dst,.buildSlice t 1 #[(0,x)],ty,pos,af,g⟩ σ w K:=
 zx A rfl C (by rw [m9 h1]; rfl) (by rw [m9 h1]) k
theorem om {t e:aw} {size bytes:Nat} {L:List ag} (E:dT P t e size bytes=true) (C:bh size 1000=true) (I:ev N σ x= .agg L.toArray) (A:L.length=size)
 (k:∀ b w',b=w.heap.size→Nw w w'→aA w'.heap b L→K (dv σ dst<|.slice (some ⟨b,0,none⟩) 1 1) w'):bX P N ⟨dst,.buildSlice t 1 #[(0,x)],ty,pos,af,g⟩ σ w K:=
 zx E C I (by simpa [pM] using A) (by simp [pM]) k
theorem oo {e:aw} {L:List ag} (A:ev N σ x= .agg L.toArray) (k:∀ b w',b=w.heap.size→Nw w w'→aA w'.heap b L→K (dv σ dst<|.pointer<|some ⟨b,0,none⟩) w'):
 bX P N ⟨dst,.box e x,ty,pos,af,g⟩ σ w K:=bx A (by simp [pM]) k
theorem r7 {e:aw} {L:List ag} (E:ev N σ x= .agg L.toArray) (k:∀ b w',b=w.heap.size→Nw w w'→w'.heap[b]? =some (.cells L.toArray e (0,0))→K (dv σ dst<|.pointer<|some ⟨b,0,none⟩) w'):
 bX P N ⟨dst,.box e x,ty,pos,af,g⟩ σ w K:=by
 refine lu (v:=fun b=> .pointer<|some ⟨b,0,none⟩) (ob:= .cells L.toArray e (0,0)) ?_ fun b w' h1 A C=>k b w' h1 A C;simp [execOp,yE,E,newVar,newRow,pM]
theorem rZ {l:List ag} (h:l.all eS=true):∀ u∈l,u.oneCell'=true :=ES.1 h
theorem cU {t b off :Nat} {e:aw} {L:List ag} {v:ag} (A:cD P t=some 1) (ad:ev N σ x= .pointer (some ⟨b,off,none⟩)) (ae:ev N σ y=v) (h1:v.oneCell'=true) (hb:w.heap[b]? =some (.cells L.toArray e (0,0))) (V:off < L.length)
 (k:∀ w',Md (fun k=>k=b) w w'→w'.heap[b]? =some (.cells (L.set off v).toArray e (0,0))→K σ w'):bX P N ⟨none,.store t x y,ty,pos,af,g⟩ σ w K:=by
 have E:v.cells= #[v]:=by cases v <;> first | rfl | (cases h1; done)
 have I:w.cell? ⟨b,off,none⟩=some L[off]:=by rw [jc,bp hb]; simp [V]
 have J:w.frozen? ⟨b,off,none⟩=false :=by simp only [World.frozen?,show w.heap[b]? =_ from hb]; simp
 unfold cD at A;simp only [fQ] at A;obtain ⟨i,hi,ab⟩:=A;have C:(⟨b,off,none⟩:bl).add 0=⟨b,off,none⟩:=rfl;have Z:(execOp (ev N σ) ⟨none,.store t x y,ty,pos,af,g⟩).run P w= .ok .skip (w.setCell ⟨b,off,none⟩ v):=by
  simp [execOp,yH,ad,ae,nU,storeVar,E,sizeOf,dh hi,ab,storeCells,C,run_store P w _ v _ h1,I,J]
 unfold bX gB;rw [dt,Z];refine ⟨σ,U,k _ ⟨U,U,by simp [EN],fun k _ M=> ?_⟩ ?_⟩
 · exact Below.heap_setCell w _ v k M
 · have O:=(dq.1 hb).1;have ac:w.heap[b]= .cells L.toArray e (0,0):=(dq.1 hb).2;simp only [EN];rw [nL (by simpa using O),Array.getElem_modify];simp [ac,List.setIfInBounds_toArray]
theorem st {t b off :Nat} {L:List ag} {v:ag} (J:cD P t=some 1) (E:ev N σ x= .pointer (some ⟨b,off,none⟩)) (I:ev N σ y=v) (h1:v.oneCell'=true) (hb:aA w.heap b L) (C:off < L.length)
 (k:∀ w',Md (fun k=>k=b) w w'→aA w'.heap b (L.set off v)→K σ w'):bX P N ⟨none,.store t x y,ty,pos,af,g⟩ σ w K:=
 let ⟨_,hb⟩:=hb
 cU J E I h1 hb C fun w' h1 A=>k w' h1 ⟨_,A⟩
theorem dZ {t b off n:Nat} {e:aw} {L vs:List ag} (A:cD P t=some n) (J:ev N σ x= .pointer (some ⟨b,off,none⟩)) (M:ev N σ y= .agg vs.toArray) (hn:vs.length=n) (h1:vs.all eS=true) (hb:w.heap[b]? =some (.cells L.toArray e (0,0))) (O:off+n≤L.length)
 (k:∀ w',Md (fun k=>k=b) w w'→w'.heap[b]? =some (.cells (L.take off++vs++L.drop (off+n)).toArray e (0,0))→K σ w'):bX P N ⟨none,.store t x y,ty,pos,af,g⟩ σ w K:=by
 unfold cD at A;simp only [fQ] at A;obtain ⟨i,hi,I⟩:=A;have bq:=run_storeCells_at P b off e vs 0 L.toArray w hb (by simp; omega)<|rZ h1;have E:(execOp (ev N σ) ⟨none,.store t x y,ty,pos,af,g⟩).run P w= .ok .skip (w.setRow b (L.take off++vs++L.drop (off+n)).toArray):=by
  simp [execOp,yH,J,M,nU,storeVar,pM,sizeOf,dh hi,I,hn,bq]
 unfold bX gB;rw [dt,E];exact ⟨σ,U,k _ ⟨U,U,by simp,fun k _ C=>setRow_other w b k _ C⟩<|setRow_heap w b _ _ e _ hb⟩
theorem q7 {t b off n:Nat} {L vs:List ag} (A:cD P t=some n) (J:ev N σ x= .pointer (some ⟨b,off,none⟩)) (M:ev N σ y= .agg vs.toArray) (hn:vs.length=n) (h1:vs.all eS=true) (hb:aA w.heap b L) (O:off+n≤L.length)
 (k:∀ w',Md (fun k=>k=b) w w'→aA w'.heap b (L.take off++vs++L.drop (off+n))→K σ w'):bX P N ⟨none,.store t x y,ty,pos,af,g⟩ σ w K:=by
 obtain ⟨e,hb⟩:=hb;unfold cD at A;simp only [fQ] at A;obtain ⟨i,hi,I⟩:=A;have bq:=run_storeCells_at P b off e vs 0 L.toArray w hb (by simp; omega)<|rZ h1;have E:(execOp (ev N σ) ⟨none,.store t x y,ty,pos,af,g⟩).run P w= .ok .skip (w.setRow b (L.take off++vs++L.drop (off+n)).toArray):=by
  simp [execOp,yH,J,M,nU,storeVar,pM,sizeOf,dh hi,I,hn,bq]
 unfold bX gB;rw [dt,E];exact ⟨σ,U,k _ ⟨U,U,by simp,fun k _ C=>setRow_other w b k _ C⟩ ⟨e,setRow_heap w b _ _ e _ hb⟩⟩
theorem FP {t ty e:aw} {i:TypeInfo} {zv:ag} {B n m c:Nat} {v V:ag} {xs news:List ag} {ad:bl} {w':ah} (hu:P.underlying t=some (.slice e)) (hi:P.info? e=some i) (U:i.zero=some zv) (al:zv.cells.size=i.size) (aj:0 < i.size)
 (I:w.ownsRow B e i.size v n xs) (E:news.length=m*i.size) (J:∀ j u,news[j]? =some u→w.cell? (ad.add j)=some u) (h1:∀ u∈news,u.oneCell'=true) (L:n+m≤maxLen) (hb:(n+m)*i.bytes≤140737488355328)
 (hr:(j2 #[t,t] ty #[v,.slice (some ad) m c]).run P w= .ok V w'):∀ k,V.ownBlock=some k→v.ownBlock=some k∨w.heap.size≤k:=by
 intro k A;have an:n+m≤9223372036854775807:=by unfold maxLen at L; omega
 rcases I.2 with ⟨rfl,rfl⟩ | ⟨C,cap,cur,rfl,ap,ai,au,ar,ac,av⟩
 · have ak:xs= []:=j4<|by simpa using I.1
   subst ak;obtain ⟨v2,ax,M,Z,_,_⟩:=run_append_own (P:=P) w w.heap.size t ty e i zv i.size i.bytes hu hi U rfl rfl al aj _ 0 [] (eT w w.heap.size e i.size) ad m c news E J h1 L hb (aQ _);rw [hr] at M;cases M;exact .inr (by
    rcases Z.2 with ⟨h,_⟩ | ⟨am,_,_,h,ao,_⟩
    · rw [h] at A; simp [gh] at A
    · rw [h] at A; simp only [gh,bH] at A; omega)
 · by_cases O:n+m≤cap
   · have ae:n*i.size+news.length≤cur.size:=by rw [E,ac,← Nat.add_mul]; exact n5 _ O
     rw [run_append_room (P:=P) w t ty e i hu hi C n cap cur ai ad m c news E J h1 O ae] at hr;cases hr;exact .inl A
   · have holds:∀ j u,xs[j]? =some u→w.cell? ((⟨C,0,none⟩:bl).add j)=some u:=I.cells (g:=C) rfl;rw [run_append_grow (P:=P) w t ty e i zv hu hi U ⟨C,0,none⟩ n cap xs I.1 holds ad m c news E J ab ab (growslice_fits ab hb)] at hr;cases hr;simp only [gh,bH] at A;exact .inr ab
theorem ap {t e size bytes B n m c:Nat} {v:ag} {xs news:List ag} {a:Option bl} (ao:dT P t e size bytes=true) (E:w.ownsRow B e size v n xs) (Z:ev N σ x=v) (ai:B≤w.heap.size)
 (ab:ev N σ y= .slice a m c) (L:aV w.heap a news) (I:news.length=m*size) (h1:news.all eS=true) (hb:(n+m)*bytes≤140737488355328) (av:n+m≤9223372036854775807)
 (k:∀ A w',w'.ownsRow B e size A (n+m) (xs++news)→Md (fun k=>v.ownBlock=some k) w w'→(A= .slice none 0 0↔v= .slice none 0 0∧m=0)→(∀ k,A.ownBlock=some k→v.ownBlock=some k∨w.heap.size≤k)→K (dv σ dst A) w'):
 bX P N ⟨dst,.call ⟨.builtin .append,#[x,y],#[t,t]⟩,ty,pos,af,g⟩ σ w K:=by
 obtain ⟨hu,i,zv,hi,ac,V,J,ad,U⟩:=pn ao;have M:n+m≤maxLen:=by unfold maxLen; omega
 by_cases hm:news= []
 · subst hm;have al:m=0:=by
    rcases Nat.mul_eq_zero.1 (I.symm.trans rfl) with h | h
    · exact h
    · omega
   subst al;have an:(j2 #[t,t] ty #[v,.slice a 0 c]).run P w= .ok v w:=by
    rcases E.2 with ⟨rfl,rfl⟩ | ⟨au,cap,cur,rfl,_,_,hle,_⟩
    · cases a <;> simp [j2,bA hu,sizeOf,dh hi,Ej,uf,loadCells,loadCellsFrom]
    · cases a <;> simp [j2,bA hu,sizeOf,dh hi,Ej,uf,loadCells,loadCellsFrom,hle,storeCells]
   refine gV (w':=w) (v:=v) ?_<|k v w (by simpa using E) (Md.refl _ _) (by simp) fun _ h=> .inl h;simp [execOp,resolve,invoke,builtin,Z,ab,an]
 · have ha:=L.ok hm;have O:∀ j u,news[j]? =some u→w.cell? ((⟨bk a,fo a,none⟩:bl).add j)=some u:=fun j u hu=>by rw [eJ,jc]; exact L.ay j u hu
   obtain ⟨A,w',hr,ae,C,ah⟩:=run_append_own (P:=P) w B t ty e i zv size bytes hu hi ac V J ad U v n xs E ⟨bk a,fo a,none⟩ m c news I O (rZ h1) M hb ai;subst V J;have aj:=FP hu hi ac ad U E I O (rZ h1) M hb hr;refine gV (w':=w') (v:=A) ?_<|k A w' ae ⟨C.os,C.output,C.size,fun k ak am=>C.block k ak fun e=>am e.symm⟩ ah aj;have ar:ev N σ y= .slice (some ⟨bk a,fo a,none⟩) m c:=ab.trans<|congrArg (fun a=>cz a m c) ha;simp [execOp,resolve,invoke,builtin,Z,ar,hr]
theorem bG {t n len cap:Nat} {k:bw} {i:Int} {a:Option bl} (he:cW P t=some n) (A:ev N σ x= .slice a len cap) (C:ev N σ y= .int k i) (h0:0≤i∧i < len) (ha:a=some ⟨bk a,fo a,none⟩):
 (execOp (ev N σ) ⟨dst,.indexAddr t x y,ty,pos,af,g⟩).run P w= .ok (.value<|.pointer<|some ⟨bk a,fo a+i.toNat*n,none⟩) w:=
 ia he (by rw [A]; congr 1) C h0
end
theorem bN {F:Nat→Prop} {w w':ah} {B e size n:Nat} {v:ag} {xs:List ag} (h:w.ownsRow B e size v n xs) (hm:Md F w w') (A:∀ k,v.ownBlock=some k→¬F k):w'.ownsRow B e size v n xs:=by
 refine ⟨h.1,?_⟩;rcases h.2 with hn | ⟨g,cap,cur,rfl,hb,C,rest⟩
 · exact .inl hn
 · exact .inr ⟨g,cap,cur,U,hb,hm.an C (A g U),rest⟩
section
variable {P:av} {N:Fm} {σ:Nat→ag} {w:ah} {dst:Option Nat} {ty:aw} {pos :String} {af:Array bR} {g:Option (Nat×Bool)} {x y z:aY} {K:(Nat→ag)→ah→Prop}
theorem ni {t B e size n cap off j:Nat} {a:Option bl} {xs:List ag} {u:ag} (ad:w.ownsRow B e size (.slice a n cap) n xs) (aj:cD P t=some 1) (ah:ev N σ x= .pointer (some ⟨bk a,off,none⟩)) (ai:ev N σ y=u) (h1:u.oneCell'=true)
 (V:off =fo a+j) (ac:j < n*size)
 (k:∀ w',Md (fun k=>(cz a n cap).ownBlock=some k) w w'→w'.ownsRow B e size (.slice a n cap) n (xs.set j u)→K σ w'):bX P N ⟨none,.store t x y,ty,pos,af,g⟩ σ w K:=by
 obtain ⟨h0,h⟩:=ad;rcases h with ⟨h,rfl⟩ | ⟨A,ak,cur,h,E,O,hle,M,C,ae⟩
 · simp at ac
 · simp only [pN,true_and] at h;obtain ⟨rfl,rfl⟩:=h;have Z:off =j:=by rw [V]; simp [fo]
   subst Z;have hlen:off < cur.toList.length:=by
    have :=n5 size hle;rw [lz,C]; omega
   refine cU (L:=cur.toList) aj ah ai h1 (show w.heap[A]? =_ by simpa using O) hlen fun w' J I=>k w' (J.mono fun k _ ab=>by subst ab; rfl) ⟨by simpa using h0,.inr ⟨A,cap,_,U,E,I,hle,M,by simpa using C,?_⟩⟩;rw [← ae];simp only;rw [List.take_set]
end
theorem xm {w:ah} {B e size n:Nat} {v:ag} {xs:List ag} (h:w.ownsRow B e size v n xs):v.oneCell'=true :=by
 rcases h.2 with ⟨rfl,_⟩ | ⟨g,cap,cur,rfl,_⟩ <;> rfl
theorem cT {w:ah} {B e size n:Nat} {v:ag} {xs:List ag} (h:w.ownsRow B e size v n xs):∃ a cap,v= .slice a n cap:=by
 rcases h.2 with ⟨rfl,rfl⟩ | ⟨g,cap,cur,rfl,_⟩
 · exact ⟨_,_,U⟩
 · exact ⟨_,_,U⟩
theorem bg {w w':ah} {B e size n:Nat} {v:ag} {xs:List ag} (h:w.ownsRow B e size v n xs) (hm:Wk w w'):w'.ownsRow B e size v n xs:=bN h hm fun _ _ x=>x
theorem cy {w:ah} {B e size n:Nat} {v:ag} {xs:List ag} (h:w.ownsRow B e size v n xs) {k:Nat} (A:v.ownBlock=some k):B≤k∧k < w.heap.size:=h.lt k A
theorem Wk.own {w0 w w':ah} {B e size n:Nat} {v:ag} {xs:List ag} (h:Wk w0 w) (A:w.ownsRow B e size v n xs) (hm:Md (fun k=>v.ownBlock=some k) w w') (E:w0.heap.size≤B):Wk w0 w':=
 Md.trans' h hm (fun k I C=>by have :=(cy A C).1; omega)
theorem td {w:ah} {B e size n:Nat} {v:ag} {xs:List ag} (h:w.ownsRow B e size v n xs):∃ a cap,v= .slice a n cap∧aV w.heap a xs∧n≤cap∧(∀ k,v.ownBlock=some k→a=some ⟨k,0,none⟩∧B≤k∧k < w.heap.size)∧(v.ownBlock=none→xs= []):=by
 rcases h.2 with ⟨rfl,rfl⟩ | ⟨g,cap,cur,rfl,hb,C,hle,_,_,E⟩
 · have :xs= []:=j4<|by simpa using h.1
   subst this;exact ⟨none,0,U,aV.nil _ _,aQ _,fun k A=>by simp [gh] at A,fun _=>rfl⟩
 · refine ⟨_,cap,U,⟨fun _=>rfl,fun j u hu=> ?_⟩,hle,fun k A=> ?_,fun A=>by simp [gh] at A⟩
   · show ay w.heap g (0 +j)=_;rw [cH,bp C];rw [← E,iY] at hu;split at hu
     · simpa using hu
     · cases hu
   · simp only [gh,bH] at A; subst A;exact ⟨U,hb,(dq.1 C).1⟩
theorem bU {w:ah} {B e size n cap:Nat} {a:Option bl} {xs:List ag} (h:w.ownsRow B e size (.slice a n cap) n xs):n≤cap∧aV w.heap a xs:=by grind [td]
theorem me {w:ah} {B B' e size n:Nat} {v:ag} {xs:List ag} (h:w.ownsRow B e size v n xs) (C:B'≤B):w.ownsRow B' e size v n xs:=by
 refine ⟨h.1,?_⟩;rcases h.2 with h | ⟨g,cap,cur,h1,A,r⟩
 · exact .inl h
 · exact .inr ⟨g,cap,cur,h1,cG C A,r⟩
section
variable {P:av} {N:Fm} {σ:Nat→ag} {w:ah} {dst:Option Nat} {ty:aw} {pos :String} {af:Array bR} {g:Option (Nat×Bool)} {x y z:aY} {K:(Nat→ag)→ah→Prop}
end
end Go.Hb
namespace Go.Hb
section
variable {P:av} {md:nX} {ops:Array aC} {Q:bd→Act→ah→Prop} {S:ah→Prop} {r:Nat}
def lr (P:av) (md:nX) (ops:Array aC) (Q:bd→Act→ah→Prop) (S:ah→Prop) (r:Nat):Nat→Array Bool→Act→ah→Prop
 | 0,listed,a,w=>dw md ops listed= []∧Q .normal a w
 | fuel+1,listed,a,w=>
   (dw md ops listed= []→Q .normal a w)∧
   ∀ i∈dw md ops listed,wpOp P ops Q i (fun A w'=>((listed.setIfInBounds i true).getD r false =false→S w')∧lr P md ops Q S r fuel (listed.setIfInBounds i true) A w') a w
theorem DP:∀ (fuel:Nat) (listed:Array Bool) (a:Act) (w:ah),lr P md ops Q S r fuel listed a w→wpAny P md ops Q fuel listed a w
 | 0,_,_,_,h=>h
 | fuel+1,_,_,_,h=>⟨h.1,fun i hi=>wpOp_mono (fun A w' h'=>DP fuel _ A w' h'.2)<|h.2 i hi⟩
theorem M1 {i:Nat} {E:aC} {v:ag} (hi:ops[i]? =some E) (aj:∀ (j:Nat) (o:aC) cs b,ops[j]? =some o→o.op≠.select cs b)
 (an:∀ c a w,Q (.panic c) (a.put E.dst v) w→Q (.panic c) a w) (az:∀ o,ops[r]? =some o→∃ x∈o.after,dG md x=true∧x.on=i) (ar:i≠r):
 ∀ (fuel:Nat) (listed:Array Bool) (a:Act) (w:ah),
   (∀ j C,ops[j]? =some C→j≠i→listed.getD j true =false→(∀ x∈C.after,dG md x=true→x.on≠i)→E.apart ops C=true)→
   i∈dw md ops listed→YieldsIf P ops S E v a→S w→listed.getD r false =false→
   lr P md ops Q S r fuel (listed.setIfInBounds i true) (a.put E.dst v) w→lr P md ops Q S r (fuel+1) listed a w:=by
 intro fuel
 induction fuel with
 | zero=>
   intro listed a w _ hr O I _ H;refine ⟨fun h=>(by rw [h] at hr; cases hr),fun j L=> ?_⟩;by_cases A:j=i
   · subst A; exact O.wpOp hi I ⟨fun _=>I,H⟩
   · have :=ready_mono L A;rw [H.1] at this;cases this
 | succ fuel ih=>
   intro listed a w V hr O I ad H;refine ⟨fun h=>(by rw [h] at hr; cases hr),fun j L=> ?_⟩;by_cases A:j=i
   · subst A; exact O.wpOp hi I ⟨fun _=>I,H⟩
   · have h1:=H.2 j<|ready_mono L A;obtain ⟨ac,C,M,ao⟩:=mem_ready.1 L;have ai:∀ x∈C.after,dG md x=true→x.on≠i:=fun x U hb heq=>by
      have h1:=ao x U hb;have h0:=(mem_ready.1 hr).1;rw [heq] at h1;rcases dD i listed.size with h' | h'
      · simp [h'] at h0 h1; rw [h0] at h1; cases h1
      · simp [tY h'] at h1
     have ab:j≠r:=by
      rintro rfl;obtain ⟨x,U,hb,ay⟩:=az C M;exact ai x U hb ay
     have aw:(listed.setIfInBounds j true).getD r false =false :=by rw [getD_set_ne false ab]; exact ad
     have ae:((listed.setIfInBounds i true).setIfInBounds j true).getD r false =false :=by rw [getD_set_ne false ab,getD_set_ne false ar]; exact ad
     have am:=wpOp_putIf M (V j C M A ac ai) (fun cs b=>aj i E cs b hi) (fun cs b=>aj j C cs b M) an O h1;have ap:∀ k ok,ops[k]? =some ok→k≠i→(listed.setIfInBounds j true).getD k true =false→
      (∀ x∈ok.after,dG md x=true→x.on≠i)→E.apart ops ok=true :=fun k ok au av ak ax=>by
      refine V k ok au av ?_ ax;by_cases Z:j=k
      · subst Z; exact ac
      · rw [getD_set_ne true Z] at ak; exact ak
     refine wpOp_mono (fun al w' J=>⟨fun _=>J.2.1 ae,ih (listed.setIfInBounds j true) al w' ap (ready_mono hr<|Ne.symm A) J.1 (J.2.1 ae) aw ?_⟩) am;rw [yA _ _ A];exact J.2.2
end
section
variable {P:av} {N:Fm} {ops:Array aC} {Q:bd→(Nat→ag)→ah→Prop} {σ:Nat→ag} {w:ah} {S:ah→Prop} {r fuel:Nat} {listed:Array Bool}
 {d':Option Nat} {d:Nat} {op:Op} {ty:aw} {pos :String} {af:Array bR} {v:ag}
def cx (P:av) (N:Fm) (ops:Array aC) (Q:bd→(Nat→ag)→ah→Prop) (S:ah→Prop) (r fuel:Nat) (listed:Array Bool) (σ:Nat→ag) (w:ah):Prop :=
 lr P .any ops (lift N Q) S r fuel listed (act N σ) w
theorem kV {id:Nat} {l:List aC} (S:ah→Prop) (r:Nat) (hr:kj N.r l=true) (hm:P.follows .mixedOrders=true) (A:S w.drew) (h:cx P N l.toArray Q S r l.length (nM l.length false) σ w.drew):bu P N (.region id l.toArray true) Q σ w:=by
 exact zi hr hm<|DP _ _ _ _<|by rw [eW]; exact h
def oH (F:List Nat) (ops:Array aC) (listed:Array Bool) (r i:Nat):Bool:=
 eE F ops listed i && !(listed.getD r false) && i !=r && (match ops[r]? with | some o=>o.after.toList.any (fun x=>dG .any x && x.on==i) | none=>false)
theorem lq (i:Nat) (hi:ops[i]? =some ⟨some d,op,ty,pos,af,none⟩) (C:oH N.F ops listed r i=true)
 (O:∀ w,S w→(execOp (ev N σ) ⟨some d,op,ty,pos,af,none⟩).run P w= .ok (.value v) w) (A:S w)
 (k:cx P N ops Q S r fuel (listed.setIfInBounds i true) (aX σ d v) w):cx P N ops Q S r (fuel+1) listed σ w:=by
 simp only [oH,eE,a9,ky,bne_iff_ne,ne_eq] at C;obtain ⟨⟨⟨⟨⟨⟨I,J⟩,hf3⟩,hfF⟩,hf4⟩,hf5⟩,hf6⟩:=C;rw [hi] at hfF;refine M1 hi (yL I) (fun c a w=>m6 hfF c a w) (fun o L=> ?_) hf5 fuel listed _ w (yK hi J) (by simpa using hf3) (.inl ⟨fl _ rfl _,fun w A=> ?_⟩) A hf4 ?_ (v:=v)
 · rw [L] at hf6;simp only [ET,a9,beq_iff_eq] at hf6;obtain ⟨x,M,h1,E⟩:=hf6;exact ⟨x,ua.1 M,h1,E⟩
 · rw [dt]; exact O w A
 · rw [eI]; exact k
theorem By (i:Nat) (hi:ops[i]? =some ⟨d',op,ty,pos,af,none⟩) (hr:gO ops listed i=true)
 (h:bX P N ⟨d',op,ty,pos,af,none⟩ σ w (fun σ w=>((listed.setIfInBounds i true).getD r false =false→S w)∧cx P N ops Q S r fuel (listed.setIfInBounds i true) σ w)):cx P N ops Q S r (fuel+1) listed σ w:=by
 have C:dw .any ops listed= [i]:=by simpa [gO] using hr
 refine ⟨fun h0=>absurd (C ▸ h0) (by simp),fun k A=> ?_⟩;rw [C] at A;obtain rfl :k=i:=by simpa using A
 unfold wpOp;simp only [hi];rw [if_pos (fl _ rfl _)];exact .inl<|pD h fun _ _ A=>A
theorem ei (i:Nat) (hi:ops[i]? =some ⟨d',op,ty,pos,af,none⟩) (hr:gO ops listed i=true)
 (h:bX P N ⟨d',op,ty,pos,af,none⟩ σ w (fun σ w=>S w∧cx P N ops Q S r fuel (listed.setIfInBounds i true) σ w)):cx P N ops Q S r (fuel+1) listed σ w:=by grind [By,DT]
theorem jk (i:Nat) (hi:ops[i]? =some ⟨d',op,ty,pos,af,none⟩) (hr:gO ops listed i=true) (C:(listed.setIfInBounds i true).getD r false =true)
 (h:bX P N ⟨d',op,ty,pos,af,none⟩ σ w (fun σ w=>cx P N ops Q S r fuel (listed.setIfInBounds i true) σ w)):cx P N ops Q S r (fuel+1) listed σ w:=
 By i hi hr (DT h fun _ _ A=>⟨fun h0=>absurd (h0.symm.trans C) c9,A⟩)
theorem jl (hr:(dw .any ops listed).isEmpty=true) (h:Q .normal σ w):cx P N ops Q S r fuel listed σ w:=by
 have A:dw .any ops listed= []:=by simpa using hr
 cases fuel with
 | zero=>exact ⟨A,σ,rfl,h⟩
 | succ fuel=>exact ⟨fun _=>⟨σ,rfl,h⟩,by rw [A]; simp⟩
attribute [irreducible] cx
end
end Go.Hb
namespace Go.Hb
section
variable {P:av} {md:nX} {ops:Array aC} {Q:bd→Act→ah→Prop} {S:ah→Prop} {r:Nat}
inductive mH (md:nX) (ops:Array aC) (i:Nat):Nat→Prop
 | one {r o e} :ops[r]? =some o→e∈o.after→dG md e=true→e.on=i→mH md ops i r
 | more {r o e} :ops[r]? =some o→e∈o.after→dG md e=true→mH md ops i e.on→mH md ops i r
def mG (md:nX) (ops:Array aC) (listed:Array Bool):Prop := ∀ (j:Nat) (o:aC),ops[j]? =some o→listed.getD j false =true→∀ e∈o.after,dG md e=true→listed.getD e.on false =true
theorem Be {listed:Array Bool} {j k:Nat} (h:listed.getD k false =true):(listed.setIfInBounds j true).getD k false =true :=by
 by_cases e:j=k
 · subst e;by_cases A:j < listed.size
   · simp [A]
   · simp [A] at h
 · rw [getD_set_ne false e]; exact h
theorem mG.set {listed:Array Bool} {j:Nat} (h:mG md ops listed) (J:j∈dw md ops listed):mG md ops (listed.setIfInBounds j true):=by
 intro k o A E e he hb;obtain ⟨_,M,L,I⟩:=mem_ready.1 J;by_cases C:j=k
 · subst C;rw [L] at A; cases A;exact Be<|I e he hb
 · rw [getD_set_ne false C] at E;exact Be<|h k o A E e he hb
theorem mH.listed {listed:Array Bool} {i r:Nat} (J:mH md ops i r) (I:mG md ops listed) (ha:∀ o,ops[r]? =some o→∀ e∈o.after,dG md e=true→listed.getD e.on false =true):listed.getD i false =true :=by
 induction J with
 | one h1 A C E=>rw [← E]; exact ha _ h1 _ A C
 | more h1 A C _ ih=>exact ih fun o L e he hb=>I _ o L (ha _ h1 _ A C) e he hb
theorem M0 {i:Nat} {C:aC} {v:ag} (hi:ops[i]? =some C) (al:∀ (j:Nat) (o:aC) cs b,ops[j]? =some o→o.op≠.select cs b)
 (ap:∀ c a w,Q (.panic c) (a.put C.dst v) w→Q (.panic c) a w) (ar:mH md ops i r) (av:i≠r):
 ∀ (fuel:Nat) (listed:Array Bool) (a:Act) (w:ah),mG md ops listed→
   (∀ j E,ops[j]? =some E→j≠i→listed.getD j true =false→(∀ x∈E.after,dG md x=true→x.on≠i)→C.apart ops E=true)→
   i∈dw md ops listed→YieldsIf P ops S C v a→S w→listed.getD r false =false→
   lr P md ops Q S r fuel (listed.setIfInBounds i true) (a.put C.dst v) w→lr P md ops Q S r (fuel+1) listed a w:=by
 intro fuel
 induction fuel with
 | zero=>
   intro listed a w _ _ hr O I _ H;refine ⟨fun h=>(by rw [h] at hr; cases hr),fun j J=> ?_⟩;by_cases A:j=i
   · subst A; exact O.wpOp hi I ⟨fun _=>I,H⟩
   · have :=ready_mono J A;rw [H.1] at this;cases this
 | succ fuel ih=>
   intro listed a w V Z hr O I ai H;refine ⟨fun h=>(by rw [h] at hr; cases hr),fun j J=> ?_⟩;by_cases A:j=i
   · subst A; exact O.wpOp hi I ⟨fun _=>I,H⟩
   · have h1:=H.2 j<|ready_mono J A;obtain ⟨ae,E,M,U⟩:=mem_ready.1 J;have ab:listed.getD i false =false :=by
      have h0:=(mem_ready.1 hr).1;rcases dD i listed.size with h' | h'
      · simpa [h'] using h0
      · simp [h'] at h0
     have aA:∀ x∈E.after,dG md x=true→x.on≠i:=fun x aB hb heq=>by
      have h1:=U x aB hb;rw [heq,ab] at h1; cases h1
     have ad:j≠r:=by
      rintro rfl;have :=ar.listed V fun o ak=>by rw [M] at ak; cases ak; exact U
      rw [ab] at this; cases this
     have ay:(listed.setIfInBounds j true).getD r false =false :=by rw [getD_set_ne false ad]; exact ai
     have aj:((listed.setIfInBounds i true).setIfInBounds j true).getD r false =false :=by rw [getD_set_ne false ad,getD_set_ne false av]; exact ai
     have ao:=wpOp_putIf M (Z j E M A ae aA) (fun cs b=>al i C cs b hi) (fun cs b=>al j E cs b M) ap O h1;have au:∀ k ok,ops[k]? =some ok→k≠i→(listed.setIfInBounds j true).getD k true =false→
      (∀ x∈ok.after,dG md x=true→x.on≠i)→C.apart ops ok=true :=fun k ok aw ax am az=>by
      refine Z k ok aw ax ?_ az;by_cases ac:j=k
      · subst ac; exact ae
      · rw [getD_set_ne true ac] at am; exact am
     refine wpOp_mono (fun an w' L=>⟨fun _=>L.2.1 aj,ih (listed.setIfInBounds j true) an w' (V.set J) au (ready_mono hr<|Ne.symm A) L.1 (L.2.1 aj) ay ?_⟩) ao;rw [yA _ _ A];exact L.2.2
theorem M2 {i:Nat} {C:aC} {v:ag} (hi:ops[i]? =some C) (ae:∀ (j:Nat) (o:aC) cs b,ops[j]? =some o→o.op≠.select cs b)
 (al:∀ c a w,Q (.panic c) (a.put C.dst v) w→Q (.panic c) a w) (O:i≠r):
 ∀ (fuel:Nat) (listed:Array Bool) (a:Act) (w:ah),
   (∀ j E,ops[j]? =some E→j≠i→listed.getD j true =false→(∀ x∈E.after,dG md x=true→x.on≠i)→C.apart ops E=true)→
   i∈dw md ops listed→YieldsIf P ops (fun _=>True) C v a→(listed.getD r false =false→S w)→
   lr P md ops Q S r fuel (listed.setIfInBounds i true) (a.put C.dst v) w→lr P md ops Q S r (fuel+1) listed a w:=by
 intro fuel
 induction fuel with
 | zero=>
   intro listed a w _ hr L M H;refine ⟨fun h=>(by rw [h] at hr; cases hr),fun j J=> ?_⟩;by_cases A:j=i
   · subst A; exact L.wpOp hi trivial ⟨fun h=>M (by rw [getD_set_ne false O] at h; exact h),H⟩
   · have :=ready_mono J A;rw [H.1] at this;cases this
 | succ fuel ih=>
   intro listed a w Z hr L M H;refine ⟨fun h=>(by rw [h] at hr; cases hr),fun j J=> ?_⟩;by_cases A:j=i
   · subst A; exact L.wpOp hi trivial ⟨fun h=>M (by rw [getD_set_ne false O] at h; exact h),H⟩
   · have h1:=H.2 j<|ready_mono J A;obtain ⟨ad,E,U,am⟩:=mem_ready.1 J;have ao:listed.getD i false =false :=by
      have h0:=(mem_ready.1 hr).1;rcases dD i listed.size with h' | h'
      · simpa [h'] using h0
      · simp [h'] at h0
     have av:∀ x∈E.after,dG md x=true→x.on≠i:=fun x aw hb heq=>by
      have h1:=am x aw hb;rw [heq,ao] at h1; cases h1
     have ak:=wpOp_putIf U (Z j E U A ad av) (fun cs b=>ae i C cs b hi) (fun cs b=>ae j E cs b U) al L h1;have an:∀ k ok,ops[k]? =some ok→k≠i→(listed.setIfInBounds j true).getD k true =false→
      (∀ x∈ok.after,dG md x=true→x.on≠i)→C.apart ops ok=true :=fun k ok ap ar ai au=>by
      refine Z k ok ap ar ?_ au;by_cases ac:j=k
      · subst ac; exact ad
      · rw [getD_set_ne true ac] at ai; exact ai
     have V:(listed.setIfInBounds i true).setIfInBounds j true =(listed.setIfInBounds j true).setIfInBounds i true :=yA _ _ fun e=>A e.symm;have ab:(listed.setIfInBounds j true).getD r false =false→((listed.setIfInBounds i true).setIfInBounds j true).getD r false =false :=fun h=>by rw [V,getD_set_ne false O]; exact h
     refine wpOp_mono (fun aj w' I=>⟨fun h=>I.2.1 (ab h),ih (listed.setIfInBounds j true) aj w' an (ready_mono hr<|Ne.symm A) I.1 (fun h=>I.2.1<|ab h) ?_⟩) ak;rw [← V];exact I.2.2
end
section
variable {P:av} {N:Fm} {ops:Array aC} {Q:bd→(Nat→ag)→ah→Prop} {σ:Nat→ag} {w:ah} {S:ah→Prop} {r fuel:Nat} {listed:Array Bool}
 {d:Nat} {op:Op} {ty:aw} {pos :String} {af:Array bR} {v:ag}
def si (ops:Array aC) (i:Nat):Nat→Nat→Bool
 | 0,_=>false
 | f+1,r=>match ops[r]? with | some o=>o.after.toList.any (fun e=>dG .any e && (e.on==i || si ops i f e.on)) | none=>false
theorem Hj {i:Nat} :∀ (f r:Nat),si ops i f r=true→mH .any ops i r:=by
 intro f
 induction f with
 | zero=>intro r h; cases h
 | succ f ih=>
   intro r h;rw [si] at h;split at h
   · rename_i o A;simp only [ET,a9,nN,beq_iff_eq] at h;obtain ⟨e,he,hb,h⟩:=h;rcases h with h | h
     · exact .one A (ua.1 he) hb h
     · exact .more A (ua.1 he) hb<|ih _ h
   · cases h
def vd (ops:Array aC) (listed:Array Bool):Bool:=(iZ ops.size).all fun j=> !listed.getD j false || match ops[j]? with | some o=>o.after.toList.all (fun e=> !dG .any e || listed.getD e.on false) | none=>true
theorem GD (h:vd ops listed=true):mG .any ops listed:=by grind [vd,mG]
def vT (F:List Nat) (ops:Array aC) (listed:Array Bool) (r i:Nat):Bool:=eE F ops listed i && !(listed.getD r false) && i !=r && vd ops listed && si ops i ops.size r
def mV (F:List Nat) (ops:Array aC) (listed:Array Bool) (r i:Nat):Bool:=eE F ops listed i && i !=r
theorem BL (i:Nat) (hi:ops[i]? =some ⟨some d,op,ty,pos,af,none⟩) (C:vT N.F ops listed r i=true)
 (J:∀ w,S w→(execOp (ev N σ) ⟨some d,op,ty,pos,af,none⟩).run P w= .ok (.value v) w) (A:S w)
 (k:cx P N ops Q S r fuel (listed.setIfInBounds i true) (aX σ d v) w):cx P N ops Q S r (fuel+1) listed σ w:=by
 simp only [vT,eE,a9,ky,bne_iff_ne,ne_eq] at C;obtain ⟨⟨⟨⟨⟨⟨⟨E,I⟩,hf3⟩,hfF⟩,hf4⟩,hf5⟩,hf6⟩,hf7⟩:=C;rw [hi] at hfF;unfold cx at*;refine M0 hi (yL E) (fun c a w=>m6 hfF c a w) (Hj _ _ hf7) hf5 fuel listed _ w (GD hf6) (yK hi I) (by simpa using hf3) (.inl ⟨fl _ rfl _,fun w A=> ?_⟩) A hf4 ?_ (v:=v)
 · rw [dt]; exact J w A
 · rw [eI]; exact k
theorem qH (i:Nat) (hi:ops[i]? =some ⟨some d,op,ty,pos,af,none⟩) (A:mV N.F ops listed r i=true)
 (J:∀ w,(execOp (ev N σ) ⟨some d,op,ty,pos,af,none⟩).run P w= .ok (.value v) w) (C:listed.getD r false =false→S w)
 (k:cx P N ops Q S r fuel (listed.setIfInBounds i true) (aX σ d v) w):cx P N ops Q S r (fuel+1) listed σ w:=by
 simp only [mV,eE,a9,bne_iff_ne,ne_eq] at A;obtain ⟨⟨⟨⟨E,I⟩,hf3⟩,hfF⟩,hf5⟩:=A;rw [hi] at hfF;unfold cx at*;refine M2 hi (yL E) (fun c a w=>m6 hfF c a w) hf5 fuel listed _ w (yK hi I) (by simpa using hf3) (.inl ⟨fl _ rfl _,fun w _=> ?_⟩) C ?_ (v:=v)
 · rw [dt]; exact J w
 · rw [eI]; exact k
end
end Go.Hb
namespace Go.Hb
def DD:Nat→Nat→List UInt8
 | 0,n=> [eX n]
 | f+1,n=>if n < 128 then [eX n] else eX (n % 128 +128)::DD f (n / 128)
def L8 (n:Nat):List UInt8:=DD n n
def frame:List (List UInt8)→List UInt8
 | []=> []
 | r::l=>L8 r.length++(r++frame l)
theorem Du {α:Type} (l:List α) (i:Nat) (d:α) (h:i < l.length):l.take (i+1)=l.take i++ [l.getD i d]:=by simp_all
end Go.Hb
namespace Go.Hb
def U8 (l:List UInt8):List ag:=l.map fun b=>a0 .u8 b.toNat
theorem oh (l:List UInt8):(U8 l).length=l.length:=by simp [U8]
theorem rT (a b:List UInt8):U8 (a++b)=U8 a++U8 b:=by simp [U8]
def mL (P:av) (t e u:aw):Bool:=
 dT P t e 1 1 && (match P.underlying e with | some (.int .u8)=>true | _=>false) && (match P.underlying u with | some .string=>true | _=>false) &&
  (match P.info? e with | some i=>(match i.zero with | some (.int .u8 0)=>true | _=>false) | none=>false)
theorem Gi {P:av} {t e u:aw} (h:mL P t e u=true):
 dT P t e 1 1=true∧P.underlying e=some (.int .u8)∧P.underlying u=some .string∧∃ i,P.info? e=some i∧i.zero=some (.int .u8 0):=by grind [mL,dT]
section
variable {P:av} {N:Fm} {σ:Nat→ag} {w:ah} {dst:Option Nat} {ty:aw} {pos :String} {af:Array bR} {g:Option (Nat×Bool)} {x y z:aY} {K:(Nat→ag)→ah→Prop}
theorem foldl_push (l:List UInt8) (r:ByteArray):(l.map fun b=>(b.toNat:Int)).foldl (fun r n=>r.push<|eX n.toNat) r=⟨r.data++l.toArray⟩:=by
 induction l generalizing r with
 | nil=>simp
 | cons b l ih=>
   simp only [fq,iC];rw [ih];apply ByteArray.ext;simp [ByteArray.push]
theorem qi {t e u n c:Nat} {a:Option bl} {l:List UInt8} (h:mL P t e u=true) (O:ev N σ x= .slice a n c) (A:aV w.heap a (U8 l)) (C:l.length=n):
 (execOp (ev N σ) ⟨dst,.convert t u x,ty,pos,af,g⟩).run P w= .ok (.value<|str l) w:=by
 obtain ⟨h1,E,I,_⟩:=Gi h;obtain ⟨hu,_⟩:=pn h1;have J:(Er<|.slice a n c).run P w= .ok (str l) w:=by
  by_cases he:l= []
  · subst he;cases a with
    | none=>simp [Er,str]; rfl
    | some a=>
      subst C;have :=run_bytesToString (P:=P) w a 0 c []<|by simp [loadCells,loadCellsFrom]
      exact this.trans U
  · have ha:=A.ok<|by simpa [U8] using he
    have M:(loadCells ⟨bk a,fo a,none⟩ n).run P w= .ok ((l.map fun b=>(b.toNat:Int)).map<|a0 .u8).toArray w:=by
     subst C;have :=run_loadCells_list (P:=P) w ⟨bk a,fo a,none⟩ (U8 l) fun j v L=>by
      rw [eJ,jc];exact A.ay j v L
     rw [oh] at this;rw [this];simp [U8]
    rw [ha,run_bytesToString w _ n c _ M,foldl_push];simp [str,ByteArray.empty,ByteArray.emptyWithCapacity];rfl
 simp [execOp,O,run_convert_bytes_string w t u e a n c hu E I,J]
theorem yh {at_:Array aw} {v:ag} {a:Option bl} {n c:Nat} (A:ev N σ x= .slice a n c) (h:a=none∨c≠0):
 (execOp (ev N σ) ⟨dst,.call ⟨.builtin .unsafeSliceData,#[x],at_⟩,ty,pos,af,g⟩).run P w= .ok (.value<|.pointer a) w:=by
 have _:=v;have :(Builtin.unsafeSliceData_ at_ ty #[.slice a n c]).run P w= .ok (.pointer a) w:=by
  cases a with
  | none=>exact Lib.run_unsafeSliceData_nil w at_ ty n c
  | some a=>exact Lib.run_unsafeSliceData_row w at_ ty a n c<|h.resolve_left<|by simp
 simp [execOp,resolve,invoke,builtin,A,this]
def ptrTo (P:av) (A e:aw):Bool:=match P.underlying A with | some (.pointer e')=>e'==e && P.cellsOf e==1 | _=>false
theorem Me {I it e B n c:Nat} {a:Option bl} {l:List UInt8} {xs:List ag} (hp:ptrTo P I e=true) (L:ev N σ x= .pointer a) (M:ev N σ y= .int .i64 n) (E:w.ownsRow B e 1 (.slice a n c) n xs)
 (ak:xs=U8 l) (am:n≤9223372036854775807)
 (k:∀ w',Md (fun k=>(cz a n c).ownBlock=some k) w w'→w'.heap.size=w.heap.size→K (dv σ dst<|str l) w'):
 bX P N ⟨dst,.call ⟨.builtin .unsafeString,#[x,y],#[I,it]⟩,ty,pos,af,g⟩ σ w K:=by
 subst ak;have A:l.length=n:=by have :=E.1; simpa [U8] using this
 unfold ptrTo at hp;split at hp
 case h_2=>cases hp
 rename_i e' hu;simp only [a9,beq_iff_eq] at hp;obtain ⟨rfl,O⟩:=hp;by_cases he:l= []
 · subst he;obtain rfl :n=0:=A.symm;refine gV (w':=w) (v:=str []) ?_<|k w (Md.refl _ _) U;simp [execOp,resolve,invoke,builtin,L,M,Lib.run_unsafeString_none];rfl
 · rcases E.2 with ⟨h,h0⟩ | ⟨C,cap,cur,h,_,Z,hle,_,aj,an⟩
   · subst h0; simp only [List.length_eq_zero_iff] at A; exact absurd A he
   · simp only [pN,true_and] at h;obtain ⟨rfl,rfl⟩:=h;have ai:w.shape? C=some (e',cur.size):=by simp [yN,Z]
     have hr:=Lib.run_unsafeString_row (P:=P) w I it ty e' hu O C cur.size ai l he (by rw [A,aj]; omega) ab (fun j u hu=>by
      obtain ⟨ad,al,J,V,_,ac,_⟩:=td E;simp only [pN,true_and] at J;obtain ⟨rfl,rfl⟩:=J;rw [eJ,jc];exact V.ay j _ (by simp [U8,hu]))
     refine gV (w':=w.freeze ⟨C,0,none⟩ l.length) (v:=str l) ?_ (k _ ⟨?_,?_,?_,?_⟩ ?_)
     · simp [execOp,resolve,invoke,builtin,L,M,← A,hr,str]
     · unfold lD; split <;> rfl
     · unfold lD; split <;> rfl
     · unfold lD; split <;> simp
     · intro k ac ae;have ah:k≠C:=fun e=>ae<|by simp [gh,e]
       unfold lD;split
       · rfl
       · simp only [Array.getElem?_modify]; rw [if_neg (fun e=>ah e.symm)]
     · unfold lD; split <;> simp
def np (P:av) (A up e n:Nat):Bool:=
 (match P.underlying A with | some (.pointer e')=>e'==e | _=>false) && (match P.underlying up with | some .unsafePointer=>true | _=>false) && P.cellsOf e==n && aE 0 n && (match P.info? e with | some i=>i.size==n | _=>false)
theorem DF {P:av} {C up e n:Nat} (h:np P C up e n=true):P.underlying C=some (.pointer e)∧P.underlying up=some .unsafePointer∧P.cellsOf e=n∧0 < n∧∃ i,P.info? e=some i∧i.size=n:=by
 simp only [np,a9] at h;obtain ⟨⟨⟨⟨h1,A⟩,h3⟩,h4⟩,h5⟩:=h;refine ⟨?_,?_,by simpa using h3,mC (mD 0) (bM h4),?_⟩
 · split at h1
   · rename_i h; simp only [beq_iff_eq] at h1; rw [h,h1]
   · cases h1
 · split at A
   · rename_i h; exact h
   · cases A
 · split at h5
   · rename_i i hi; exact ⟨i,hi,by simpa using h5⟩
   · cases h5
theorem Dx {A up e n b:Nat} {L:List ag} (h:np P A up e n=true) (O:ev N σ x= .pointer (some ⟨b,0,none⟩)) (hb:w.heap[b]? =some (.cells L.toArray e (0,0))) (E:L.length=n):
 (execOp (ev N σ) ⟨dst,.convert A up x,ty,pos,af,g⟩).run P w= .ok (.value<|.pointer<|some ⟨b,0,none⟩) w:=by
 obtain ⟨h1,C,U,V,i,hi,J⟩:=DF h;have M:w.shape? b=some (e,L.length):=by simp [yN,hb]
 have I:¬n=0:=ab;simp [execOp,O,convert,bA h1,bA C,Et,Es,viewAt,M,cellsIn,E,sizeOf,dh hi,J,I]
theorem A6 {E up e n b:Nat} {L:List ag} (h:np P E up e n=true) (ac:ev N σ x= .pointer (some ⟨b,0,none⟩)) (hb:w.heap[b]? =some (.cells L.toArray e (0,0))) (O:L.length=n):
 (execOp (ev N σ) ⟨dst,.convert up E x,ty,pos,af,g⟩).run P w= .ok (.value<|.pointer<|some ⟨b,0,none⟩) w:=by
 obtain ⟨h1,I,J,M,i,hi,V⟩:=DF h;have Z:w.shape? b=some (e,L.length):=by simp [yN,hb]
 have C:¬n=0:=ab;have U:liesAt P P.depth e (L.length / P.cellsOf e) 0 e 1=true :=by
  have A:P.depth=(2 *(P.types.size+Made.depth)+1)+1:=rfl;rw [A];simp only [liesAt,nN];left;rw [A];simp [rowAt,J,C,O,sameLayout,Nat.div_self M]
 simp [execOp,ac,convert,bA h1,bA I,Et,Es,viewAt,Z,variablesAt,sizeOf,dh hi,V,C,U]
theorem JL {t J e:aw} {a:bl} (hu:P.underlying t=some (.pointer e)) (C:(P.info? e).isSome=true) (E:ev N σ x= .pointer (some a)) (I:ev N σ y= .pointer (some a)):
 (execOp (ev N σ) ⟨dst,.binOp .neq t x y J,ty,pos,af,g⟩).run P w= .ok (.value<|.bool false) w:=by
 obtain ⟨i,hi⟩:=mF.1 C;have he:∀ d,(iz (d+1) t (.pointer<|some a)<|.pointer<|some a).run P w= .ok true w:=by
  intro d;simp [iz,bA hu,sizeOf,dh hi,sameAddr]
 have h:(binOp .neq t (.pointer<|some a)<|.pointer<|some a).run P w= .ok (.bool false) w:=by
  have :=he 9999;simp only [binOp];have A:(my t (.pointer<|some a)<|.pointer<|some a).run P w= .ok true w:=this;simp [A]
 simp [execOp,E,I,eqGuard,h]
theorem GF {f:dU} {args:Array aY} {A:Array aw} {v:ag} (E:∀ v w,(callFunc f #[v]).run P w= .ok (.value v) w) (C:args.toList.map (ev N σ)= [v]):
 (execOp (ev N σ) ⟨dst,.call ⟨.value (.func f),args,A⟩,ty,pos,af,g⟩).run P w= .ok (.value v) w:=by
 have :args.map (ev N σ)= #[v]:=by rw [← ub,ix,C]
 simp [execOp,resolve,ev,lB,invoke,this,E]
structure Bd (T e:aw) (w:ah) (b:Nat) (buf:ag) (l:List UInt8):Prop where
 an:∃ pa,w.heap[b]? =some (.cells [ui pa,buf].toArray T (0,0))∧(pa=none∨pa=some ⟨b,0,none⟩)
 own:w.ownsRow (b+1) e 1 buf l.length (U8 l)
 nil:buf= .slice none 0 0↔l= []
def BF (b:Nat) (A:ag) (k:Nat):Prop :=k=b∨A.ownBlock=some k
end
theorem Bd.lt {T e b:Nat} {w:ah} {A:ag} {l:List UInt8} (h:Bd T e w b A l):b < w.heap.size:=let ⟨_,h,_⟩:=h.an; (dq.1 h).1
theorem Bd.sD {T e b:Nat} {w:ah} {C:ag} {l:List UInt8} (h:Bd T e w b C l) {k:Nat} (A:BF b C k):b≤k∧k < w.heap.size:=by
 rcases A with rfl | A
 · exact ⟨aQ _,h.lt⟩
 · have :=h.own.lt k A; omega
theorem Bd.md {T e b:Nat} {F:Nat→Prop} {w w':ah} {A:ag} {l:List UInt8} (h:Bd T e w b A l) (hm:Md F w w') (C:∀ k,BF b A k→¬F k):Bd T e w' b A l:=by
 obtain ⟨⟨J,h1,E⟩,h3,h4⟩:=h;exact ⟨⟨J,hm.an h1 (C b<|.inl U),E⟩,bN h3 hm (fun k I=>C k<|.inr I),h4⟩
end Go.Hb
namespace Go.Hb
def et (P:av) (t:aw):Option (List (Nat×Nat)×List ag):=
 match P.info? t,P.underlying t with
 | some it,some (.struct fields)=>
   match it.zero,fields.toList.mapM (fun f=>(P.info? f.type).map fun i=>(f.offset,i.size)) with
   | some z,some pl=>some (pl,z.cells.toList)
   | _,_=>none
 | _,_=>none
def qR (pl:List (Nat×Nat)):List ag→List (Nat×ag)→Option (List ag)
 | A,[]=>some A
 | A,(i,v)::r=>match pl[i]? with
   | some (off,s)=>if (s==1 && v.oneCell' && aE off A.length)=true then qR pl (A.set off v) r else none
   | none=>none
theorem Kg {pl:List (Nat×Nat)} {A L:List ag} {ps:List (Nat×ag)} (h:qR pl A ps=some L):iW (pl.toArray[·]?) A.toArray ps=some L.toArray:=by
 induction ps generalizing A with
 | nil=>simp only [qR,bH] at h; subst h; rfl
 | cons p ps ih=>
   obtain ⟨i,v⟩:=p;simp only [qR] at h;split at h
   · rename_i off s I;split at h
     · rename_i C;simp only [a9,beq_iff_eq] at C;obtain ⟨⟨rfl,h1⟩,ho⟩:=C;have M:off < A.length:=bM ho;have J:v.cells= #[v]:=m9 h1;have E:pl.toArray[i]? =some (off,1):=by simpa using I
       simp only [iW,E,J];rw [if_neg (by simp; omega),← ih h];simp
     · cases h
   · cases h
theorem sC {α:Type} {f:α→List ag} {m:Nat} (A:∀ a,(f a).length=m) (l:List α):(l.flatMap f).length=l.length*m:=by
 induction l with
 | nil=>simp
 | cons x l ih=>simp [ih,A,pW,Nat.add_comm]
theorem HY {α:Type} {f:α→List ag} {m:Nat} (A:∀ a,(f a).length=m) {l:List α} {j c:Nat} {a:α} (h:l[j]? =some a) (C:c < m):(l.flatMap f)[j*m+c]? =(f a)[c]? :=by
 induction l generalizing j with
 | nil=>simp at h
 | cons x l ih=>
   cases j with
   | zero=>
     simp only [iD,bH] at h; subst h;rw [pX,cH,pQ,eU (by rw [A]; exact C)]
   | succ j=>
     simp only [iX] at h;rw [pQ,fm (by rw [A,pW]; omega),A,show (j+1)*m+c - m=j*m+c from by rw [pW]; omega];exact ih h
theorem lX {α:Type} {f:α→List ag} {m:Nat} (A:∀ a,(f a).length=m) {h:Array Obj} {a:Option bl} {l:List α} {i:Nat} {e:α} (I:aV h a (l.flatMap f)) (J:l[i]? =some e):∀ j,j < m→Hb.ay h (bk a) (fo a+i*m+j)=(f e)[j]? :=by
 intro j C;have h1:=HY A J C;have E:j < (f e).length:=by rw [A]; exact C
 rw [bt E] at h1 ⊢;rw [hJ]; exact I.ay _ _ h1
theorem oE {α:Type} {f:α→List ag} {m:Nat} (A:∀ a,(f a).length=m) (hm:0 < m) {l:List α} (h:0 < l.length):l.flatMap f≠[]:=by
 intro e;have :=sC A l;rw [e] at this;have :0 < l.length*m:=Nat.mul_pos h hm;simp at*; omega
theorem AZ {α:Type} {f:α→List ag} (A:∀ a,(f a).all eS=true) (l:List α):(l.flatMap f).all eS=true :=by grind
section
variable {P:av} {N:Fm} {σ:Nat→ag} {w:ah} {dst:Option Nat} {ty:aw} {pos :String} {af:Array bR} {g:Option (Nat×Bool)} {x y z:aY} {K:(Nat→ag)→ah→Prop}
theorem eC {t:aw} {parts:Array (Nat×aY)} {pl:List (Nat×Nat)} {A L:List ag} {ps:List (Nat×ag)} (h:et P t=some (pl,A)) (hp:parts.toList.map (fun p=>(p.1,ev N σ p.2))=ps) (C:qR pl A ps=some L):
 (execOp (ev N σ) ⟨dst,.build t parts,ty,pos,af,g⟩).run P w= .ok (.value<|.agg L.toArray) w:=by
 unfold et at h;split at h
 · rename_i it fields hi hu;split at h
   · rename_i z I E hm;simp only [bH,hZ] at h;obtain ⟨rfl,rfl⟩:=h;have hb:P.built t (parts.map fun p=>(p.1,ev N σ p.2)).toList=some L.toArray:=by
      have :=Kg C;simp only [yB] at this;simp only [EF,hi,hu,E,hm,ix,hp]; exact this
     simp [execOp,run_build w t _ _ hb]
   · cases h
 · cases h
theorem FY {t:aw} {parts:Array (Nat×aY)} {pl:List (Nat×Nat)} {A L:List ag} {ps:List (Nat×ag)} (h:et P t=some (pl,A)) (hp:parts.toList.map (fun p=>(p.1,ev N σ p.2))=ps) (C:iW (pl.toArray[·]?) A.toArray ps=some L.toArray):
 (execOp (ev N σ) ⟨dst,.build t parts,ty,pos,af,g⟩).run P w= .ok (.value<|.agg L.toArray) w:=by
 unfold et at h;split at h
 · rename_i it fields hi hu;split at h
   · rename_i z I E hm;simp only [bH,hZ] at h;obtain ⟨rfl,rfl⟩:=h;have hb:P.built t (parts.map fun p=>(p.1,ev N σ p.2)).toList=some L.toArray:=by
      have :=C;simp only [yB] at this;simp only [EF,hi,hu,E,hm,ix,hp]; exact this
     simp [execOp,run_build w t _ _ hb]
   · cases h
 · cases h
end
end Go.Hb
namespace Go.Hb
section
variable {P:av} {N:Fm} {σ:Nat→ag} {w:ah} {dst:Option Nat} {ty:aw} {pos :String} {af:Array bR} {g:Option (Nat×Bool)} {x y z:aY} {K:(Nat→ag)→ah→Prop}
theorem Jp {zv:ag} (h1:zv.oneCell'=true) (n:Nat):madeCells zv.cells n=(dr n zv).toArray:=by
 rw [m9 h1];apply Array.ext
 · simp [madeCells]
 · intro i A C;simp [madeCells,Nat.mod_one]
theorem gr {t e bytes n:Nat} {J I:bw} {zv:ag} (ae:dT P t e 1 bytes=true) (A:zeroOf P e=some (some [zv])) (h1:zv.oneCell'=true) (ah:ev N σ x= .int J n) (ai:ev N σ y= .int I n) (hb:bytes*n≤281474976710656) (C:n≤maxLen)
 (k:∀ b w',b=w.heap.size→Nw w w'→(∀ B,B≤b→w'.ownsRow B e 1 (.slice (some ⟨b,0,none⟩) n n) n (dr n zv))→K (dv σ dst<|.slice (some ⟨b,0,none⟩) n n) w'):bX P N ⟨dst,.makeSlice t x y,ty,pos,af,g⟩ σ w K:=by
 obtain ⟨hu,i,L,hi,E,ad,ac,al,ak⟩:=pn ae;have aj:L.cells= #[zv]:=by
  unfold zeroOf at A;simp only [hi,E,fC,bH] at A;exact ub.1<|by simpa using A
 refine lu (v:=fun b=> .slice (some ⟨b,0,none⟩) n n) (ob:= .cells (dr n zv).toArray e (0,0)) ?_ fun b w' M O V=>k b w' M O fun B Z=>⟨by simp,.inr ⟨b,n,_,U,Z,V,aQ _,C,by simp,by simp⟩⟩
 have hr:=run_make (P:=P) w t e i L hu hi E J I n n ab (Int.le_refl _) (by rw [ac,← Int.natCast_mul]; omega)<|by unfold maxLen at C; omega
 rw [aj,ad,Nat.mul_one,Int.toNat_natCast,show madeCells #[zv] n=(dr n zv).toArray by rw [← Jp h1,m9 h1]] at hr;simp [execOp,ah,ai,hr]
end
end Go.Hb
namespace Go.Hb
section
variable {P:av} {N:Fm} {σ:Nat→ag} {w:ah} {dst:Option Nat} {ty:aw} {pos :String} {af:Array bR} {g:Option (Nat×Bool)} {x y z:aY}
theorem Gz {t n len cap i:Nat} {a:Option bl} {k I:bw} (he:cW P t=some n) (A:ev N σ x= .slice a len cap) (C:ev N σ y= .int k (i:Nat)) (E:ev N σ z= .int I (i:Nat)) (h:i≤cap):
 (execOp (ev N σ) ⟨dst,.slice t x none (some y) (some z),ty,pos,af,g⟩).run P w= .ok (.value<|.slice a i i) w:=by
 have h0:(0:Int)≤(i:Int):=ab;unfold cW at he;cases hd:P.underlying t with
 | none=>rw [hd] at he; cases he
 | some d=>
   rw [hd] at he;cases d <;> first | (cases he; done) | skip
   rename_i e;cases hi':P.info? e with
   | none=>simp [hi'] at he
   | some j=>
     have ha:(if i=0 then a else a.map (·.add 0))=a:=by
      split
      · rfl
      · cases a <;> simp [ud]
     simp only [execOp,nR,ru,A,C,E,fC,Option.map_none,kA,nS,asIntOf];simp [bA hd,dh hi',sizeOf,h0,ha];intro J; omega
end
end Go.Hb
namespace Go.Hb
def uO (h:Array Obj) (b:Nat) (kvs:List (ag×ag)):Prop := ∃ es clock,h[b]? =some (.map es clock)∧es.toList.map (fun e=>(e.key,e.val))=kvs
structure n9 (P:av) (k:aw) (cX:ag→Prop):Prop where
 check:∀ em w v,cX v→(kz em 10000 k v).run P w= .ok () w
 find:∀ w x es,cX x→(∀ e∈es,cX e.key)→
  ((nP k x es).run P w= .ok none w∧∀ e∈es,e.key≠x)∨∃ j e,(nP k x es).run P w= .ok (some (j,e.val)) w∧es[j]? =some e∧e.key=x
theorem Gs {P:av} {k:aw} {em:Bool} {n:Nat} {a:Bool} (A:P.underlying k=some .bool) (w:ah):(kz em (n+1) k<|.bool a).run P w= .ok () w:=by
 simp only [kz,iB,bA A,gX,kC]
theorem zH {P:av} {k:aw} {em:Bool} {n:Nat} {a:List UInt8} (A:P.underlying k=some .string) (w:ah):(kz em (n+1) k<|str a).run P w= .ok () w:=by
 simp only [str,kz,iB,bA A,gX,kC]
def wi (v:ag):Prop := ∃ (f:Bool) (s:List UInt8),v= .agg #[.bool f,str s]
def mK (P:av) (k:aw):Bool:=
 match P.underlying k with
 | some (.struct A)=>match A.toList with
   | [f1,f2]=>f1.name != "_" && f2.name != "_" && f1.offset==0 && f2.offset==1 && !P.stoodInHeld k &&
     (match P.underlying f1.type with | some .bool=>true | _=>false) && (match P.underlying f2.type with | some .string=>true | _=>false)
   | _=>false
 | _=>false
theorem tf {P:av} {t:aw} {cs:Array ag} {o:Nat} {v:ag} {d:TypeDesc} (C:P.underlying t=some d) (A:(match d with | .bool | .string=>true | _=>false)=true) (E:cs[o]? =some v) (w:ah):(part t cs o).run P w= .ok v w:=by
 cases d <;> first | (cases A; done) | simp [part,isAgg,bA C,E]
theorem uY {P:av} {k:aw} (h:mK P k=true):∃ A f1 f2,P.underlying k=some (.struct A)∧A.toList= [f1,f2]∧f1.name≠ "_" ∧f2.name≠ "_" ∧f1.offset=0∧f2.offset=1∧P.stoodInHeld k=false∧P.underlying f1.type=some .bool∧P.underlying f2.type=some .string:=by grind [mK]
theorem HE {P:av} {k:aw} (h:mK P k=true) {f g:Bool} {s t:List UInt8} (w:ah):(my k (.agg #[.bool f,str s])<|.agg #[.bool g,str t]).run P w= .ok (decide (f=g∧s=t)) w:=by
 obtain ⟨M,f1,f2,hu,ab,h1,O,U,V,Z,A,C⟩:=uY h;have E:P.fieldsOf k=M:=by simp [Program.fieldsOf,hu]
 have J:∀ (x:Bool) (y:List UInt8) (w:ah),(part f1.type #[.bool x,str y] f1.offset).run P w= .ok (.bool x) w:=fun x y w=>tf A rfl (by rw [U]; rfl) w;have L:∀ (x:Bool) (y:List UInt8) (w:ah),(part f2.type #[.bool x,str y] f2.offset).run P w= .ok (str y) w:=fun x y w=>tf C rfl (by rw [V]; rfl) w;unfold my;show (iz (9998 +1 +1) k _ _).run P w=_;rw [run_equalIn_struct w (9998 +1) k _ _ (by rw [E]; exact hu) Z,E,ab];simp only [Op.eqFields,iB,rD,J,L,gX,run_equalIn_bool' w 9998 f1.type f g A,h1,O,ne_eq,not_false_eq_true,if_true];by_cases I:f=g
 · subst I;have :(iz (9998 +1) f2.type (str s)<|str t).run P w= .ok (decide (s=t)) w:=by
    rw [str,str,run_equalIn_string w 9998 f2.type _ _ C,El,El];congr 1;by_cases bq:s=t
    · subst bq; simp
    · simp [bq]
   simp only [beq_self_eq_true,Bool.not_true,mw,if_false,this,gX,true_and];by_cases bq:s=t <;> simp [bq]
 · simp [I]
theorem Gt {P:av} {k:aw} {em:Bool} {n:Nat} (h:mK P k=true) {f:Bool} {s:List UInt8} (w:ah):(kz em (n+1 +1) k<|.agg #[.bool f,str s]).run P w= .ok () w:=by
 obtain ⟨U,f1,f2,hu,O,h1,J,L,M,V,A,C⟩:=uY h;have E:∀ (w:ah),(part f1.type #[.bool f,str s] f1.offset).run P w= .ok (.bool f) w:=fun w=>tf A rfl (by rw [L]; rfl) w;have I:∀ (w:ah),(part f2.type #[.bool f,str s] f2.offset).run P w= .ok (str s) w:=fun w=>tf C rfl (by rw [M]; rfl) w;rw [kz];simp only [iB,bA hu,gX];rw [← Array.forIn_toList,O];simp only [List.forIn_cons,List.forIn_nil,iB,E,I,h1,J,ne_eq,not_false_eq_true,if_true,gX,Gs A,zH C,kC]
theorem AU {P:av} {k:aw} (h:mK P k=true) {f:Bool} {s:List UInt8} (w:ah):∀ (es:List MapEntry) (i:Nat),(∀ e∈es,wi e.key)→
 ((nO k (.agg #[.bool f,str s]) es i).run P w= .ok none w∧∀ e∈es,e.key≠.agg #[.bool f,str s])∨∃ j e,(nO k (.agg #[.bool f,str s]) es i).run P w= .ok (some (i+j,e.val)) w∧es[j]? =some e∧e.key= .agg #[.bool f,str s]
 | [],i,_=> .inl ⟨by simp [nO],fun _ h=>by simp at h⟩
 | e::es,i,hk=>by
   obtain ⟨g,t,ha⟩:=hk e<|by simp
   have he:=HE h (f:=f) (g:=g) (s:=s) (t:=t) w;rw [← ha] at he;by_cases A:f=g∧s=t
   · obtain ⟨rfl,rfl⟩:=A;refine .inr ⟨0,e,?_,U,ha⟩;simp [nO,he]
   · have L:e.key≠.agg #[.bool f,str s]:=by
      rw [ha]; intro E; simp [str] at E; exact A ⟨E.1.symm,E.2.symm⟩
     rcases AU (f:=f) (s:=s) h w es (i+1) (fun e he=>hk e<|by simp [he]) with ⟨h1,C⟩ | ⟨j,e',h1,C,J⟩
     · refine .inl ⟨by simp [nO,he,A,h1],fun e' I=> ?_⟩;rcases eb.1 I with rfl | I
       · exact L
       · exact C e' I
     · refine .inr ⟨j+1,e',?_,C,J⟩;simp only [nO,iB,he,A,gX,decide_false,rD,mw,if_false,h1]; rw [show i+1 +j=i+(j+1) from by omega]
theorem IT {P:av} {k:aw} (h:mK P k=true):n9 P k wi where
 check em w v hv:=by obtain ⟨f,s,rfl⟩:=hv; exact Gt (n:=9998) h w
 find w x es hx hes:=by
  obtain ⟨f,s,rfl⟩:=hx;obtain ⟨J,f1,f2,hu,_⟩:=uY h;have I:es≠[]→(nP k (.agg #[.bool f,str s]) es).run P w=(nO k (.agg #[.bool f,str s]) es).run P w:=by
   intro A;cases es with
   | nil=>exact absurd rfl A
   | cons e es=>simp [nP,bA hu,nQ,Instr.sameNow]
  by_cases A:es= []
  · subst A; exact .inl ⟨by simp [nP,bA hu,nQ],fun _ h=>by simp at h⟩
  · rw [I A];rcases AU h w es 0 hes with h1 | ⟨j,e,h1,C,E⟩
    · exact .inl h1
    · exact .inr ⟨j,e,by rw [h1,cH],C,E⟩
def zeroV (P:av) (e:aw):Option ag:=(P.info? e).bind (·.zero)
theorem DV {P:av} {e:aw} {z:ag} (h:zeroV P e=some z) (w:ah):(zeroValue e).run P w= .ok z w:=by
 unfold zeroV at h;simp only [mE] at h;obtain ⟨i,hi,A⟩:=h;simp [zeroValue,dh hi,A]
section
variable {P:av} {N:Fm} {σ:Nat→ag} {w:ah} {dst:Option Nat} {ty:aw} {pos :String} {af:Array bR} {g:Option (Nat×Bool)} {x y z:aY} {K:(Nat→ag)→ah→Prop}
variable {t k e:aw} {cX:ag→Prop} {b:Nat} {kvs:List (ag×ag)} {kx v:ag}
theorem sx {es:Array MapEntry} (h:es.toList.map (fun e=>(e.key,e.val))=kvs) (A:∀ p∈kvs,cX p.1):∀ e∈es.toList,cX e.key:=by grind [e,he,rH]
theorem run_getObj_map {es:Array MapEntry} {c:Nat} (hr:w.heap[b]? =some (.map es c)):(getObj b).run P w= .ok (.map es c) w:=by
 simp [getObj,lC,hr]
theorem JR {kvs:List (ag×ag)} (hn:(kvs.map gE).Nodup) {kx v C:ag} (h1:(kx,v)∈kvs) (A:(kx,C)∈kvs):v=C:=by
 induction kvs with
 | nil=>simp at h1
 | cons p kvs ih=>
   simp only [fq,List.nodup_cons] at hn;rcases eb.1 h1 with h1 | h1
   · rcases eb.1 A with A | A
     · rw [← h1] at A; cases A; rfl
     · rw [← h1] at hn; exact absurd (rH (f:=gE) A) hn.1
   · rcases eb.1 A with A | A
     · rw [← A] at hn; exact absurd (rH (f:=gE) h1) hn.1
     · exact ih hn.2 h1 A
theorem Jd {ok:Bool} (V:P.underlying t=some (.map k e)) (E:n9 P k cX) (hm:uO w.heap b kvs) (O:∀ p∈kvs,cX p.1) (ab:ev N σ x= .map (some b)) (ac:ev N σ y=kx) (hi:cX kx) (hn:(kvs.map gE).Nodup) (C:(kx,v)∈kvs):
 (execOp (ev N σ) ⟨dst,.lookup t x y ok,ty,pos,af,g⟩).run P w= .ok (.value (if ok then .tuple #[v,.bool true] else v)) w:=by
 obtain ⟨es,c,hr,he⟩:=hm;rcases E.find w kx es.toList hi (sx he O) with ⟨_,A⟩ | ⟨j,e',h1,A,J⟩
 · rw [← he] at C;obtain ⟨I,M,L⟩:=List.mem_map.1 C;cases L;exact absurd U<|A I M
 · have Z:(kx,e'.val)∈kvs:=by rw [← he,← J]; exact rH (f:=fun e:MapEntry=>(e.key,e.val))<|j5 A
   have :=JR hn C Z;subst this;cases ok <;> simp [execOp,Ez,bA V,ab,ac,run_getObj_map hr,E.check _ w kx hi,h1]
theorem Je {ok:Bool} {zv:ag} (J:P.underlying t=some (.map k e)) (O:zeroV P e=some zv) (A:n9 P k cX) (hm:uO w.heap b kvs) (I:∀ p∈kvs,cX p.1) (L:ev N σ x= .map (some b)) (M:ev N σ y=kx) (hi:cX kx) (hn:∀ v,(kx,v)∉kvs):
 (execOp (ev N σ) ⟨dst,.lookup t x y ok,ty,pos,af,g⟩).run P w= .ok (.value (if ok then .tuple #[zv,.bool false] else zv)) w:=by
 obtain ⟨es,c,hr,he⟩:=hm;rcases A.find w kx es.toList hi (sx he I) with ⟨h1,_⟩ | ⟨j,e',h1,C,E⟩
 · cases ok <;> simp [execOp,Ez,bA J,L,M,run_getObj_map hr,A.check _ w kx hi,h1,DV O]
 · exact absurd (by rw [← he,← E]; exact rH (f:=fun e:MapEntry=>(e.key,e.val))<|j5 C)<|hn e'.val
end
end Go.Hb
namespace Go.Hb
def tag (w:ah) (k:Nat):Nat:=match w.heap[k]? with | some (.cells _ t _)=>t+2 | some (.map _ _)=>1 | _=>0
theorem q8 {w:ah} {k t:Nat} {cs:Array ag} {z:Nat×Nat} (h:w.heap[k]? =some (.cells cs t z)):tag w k=t+2:=by unfold tag; rw [h]
theorem Dr {w:ah} {B e size n k:Nat} {v:ag} {xs:List ag} (h:w.ownsRow B e size v n xs) (A:v.ownBlock=some k):tag w k=e+2:=by
 rcases h.2 with ⟨rfl,_⟩ | ⟨g,cap,cur,rfl,_,C,_⟩
 · simp [gh] at A
 · simp only [gh,bH] at A; subst A;exact q8 C
def TF (w:ah) (L:List Nat) (F:Nat→Prop):Prop := ∀ k,F k→L.contains (tag w k)=true
theorem TF.no {w:ah} {L:List Nat} {F:Nat→Prop} (h:TF w L F) {k t:Nat} (C:tag w k=t) (A:L.contains t=false):¬F k:=by grind [TF,tag]
theorem TF.eq {w:ah} {L:List Nat} {b t:Nat} (E:tag w b=t) (C:L.contains t=true):TF w L (fun k=>k=b):=fun k A=>by
 subst A; rw [E]; exact C
theorem TF.own {w:ah} {L:List Nat} {B e size n:Nat} {v:ag} {xs:List ag} (h:w.ownsRow B e size v n xs) (C:L.contains (e+2)=true):TF w L (fun k=>v.ownBlock=some k):=fun k A=>by
 rw [Dr h A]; exact C
theorem Md.zr {F:Nat→Prop} {w w':ah} {L:List Nat} {k t:Nat} {cs:Array ag} {z:Nat×Nat} (hm:Md F w w') (hT:TF w L F) (h:w.heap[k]? =some (.cells cs t z)) (A:L.contains (t+2)=false):w'.heap[k]? =some (.cells cs t z):=hm.an h<|hT.no (q8 h) A
theorem mc {F:Nat→Prop} {w w':ah} {L:List Nat} {B e size n:Nat} {v:ag} {xs:List ag} (h:w.ownsRow B e size v n xs) (hm:Md F w w') (hT:TF w L F) (C:L.contains (e+2)=false):w'.ownsRow B e size v n xs:=bN h hm fun _ A=>hT.no (Dr h A) C
end Go.Hb
namespace Go.Hb
inductive TD | no | int (k:bw) | str | bool | ptr | dk (e n:Nat) | st (offs:List Nat)
def kX {α:Type} :List α→Nat→α→α
 | [],_,d=>d
 | a::_,0,_=>a
 | _::l,n+1,d=>kX l n d
def pv (T:List (List TD)) (t:Nat):TD:=kX (kX T (t / 16) []) (t % 16) .no
def dK:bw→Nat
 | .i8=>0 | .i16=>1 | .i32=>2 | .i64=>3 | .u8=>4 | .u16=>5 | .u32=>6 | .u64=>7
theorem mY {a b:bw} (h:aP (dK a) (dK b)=true):a=b:=by
 cases a <;> cases b <;> first | rfl | (cases h)
def sW (P:av) (t:Nat):Nat→List Nat→Bool
 | _,[]=>true
 | f,n::l=>(match mT P t f with | some m=>aP m n | none=>false) && sW P t (f+1) l
def yc (P:av) (t:Nat):TD→Bool
 | .no=>true
 | .int k=>match P.underlying t with | some (.int A)=>aP (dK k) (dK A) | _=>false
 | .str=>match P.underlying t with | some .string=>true | _=>false
 | .bool=>match P.underlying t with | some .bool=>true | _=>false
 | .ptr=>match P.underlying t with | some (.pointer _)=>true | _=>false
 | .dk e n=>match P.underlying t,cW P t with | some (.slice e'),some n'=>aP e e' && aP n n' | _,_=>false
 | .st C=>sW P t 0 C
def tq (P:av):Nat→List TD→Bool
 | _,[]=>true
 | t,d::l=>yc P t d && tq P (t+1) l
def jr (P:av):Nat→List (List TD)→Bool
 | _,[]=>true
 | t,r::l=>tq P t r && jr P (t+16) l
theorem CA {P:av} :∀ {l:List TD} {b j:Nat},tq P b l=true→yc P (b+j) (kX l j .no)=true
 | [],b,j,_=>rfl
 | d::l,b,0,h=>(pH.1 h).1
 | d::l,b,j+1,h=>by
   have :=CA (j:=j) (pH.1 h).2;rw [show b+(j+1)=b+1 +j from by omega]; exact this
theorem Dq {P:av} :∀ {T:List (List TD)} {b i:Nat},jr P b T=true→tq P (b+16 *i) (kX T i [])=true
 | [],b,i,_=>rfl
 | r::T,b,0,h=>(pH.1 h).1
 | r::T,b,i+1,h=>by
   have :=Dq (i:=i) (pH.1 h).2;rw [show b+16 *(i+1)=b+16 +16 *i from by omega]; exact this
theorem yb {P:av} {T:List (List TD)} (h:jr P 0 T=true) (t:Nat):yc P t (pv T t)=true :=by
 have :=CA (j:=t % 16)<|Dq (i:=t / 16) h;rw [show 0 +16 *(t / 16)+t % 16=t from by omega] at this;exact this
theorem B9 {P:av} {t:Nat} :∀ {l:List Nat} {b f n:Nat},sW P t b l=true→l[f]? =some n→mT P t (b+f)=some n
 | [],b,f,n,_,h=>by simp at h
 | m::l,b,0,n,h,hn=>by
   have h1:=(pH.1 h).1;obtain rfl :m=n:=by simpa using hn
   split at h1
   · rename_i A hm; rw [Nat.add_zero,hm,bL h1]
   · cases h1
 | m::l,b,f+1,n,h,hn=>by
   have :=B9 (f:=f) (pH.1 h).2<|by simpa using hn
   rw [show b+(f+1)=b+1 +f from by omega]; exact this
section
variable {P:av} {T:List (List TD)} (hT:jr P 0 T=true) {t:Nat}
include hT
theorem G8 (h:pv T t= .str):P.underlying t=some .string:=by
 have :=yb hT t;rw [h] at this;change (match P.underlying t with | some .string=>true | _=>false)=true at this;split at this
 · assumption
 · cases this
theorem G6 {e n:Nat} (h:pv T t= .dk e n):P.underlying t=some (.slice e)∧cW P t=some n:=by
 have :=yb hT t;rw [h] at this;change (match P.underlying t,cW P t with | some (.slice e'),some n'=>aP e e' && aP n n' | _,_=>false)=true at this;split at this
 · rename_i h1 A;simp only [a9] at this;rw [h1,A,bL this.1,bL this.2]; exact ⟨rfl,rfl⟩
 · cases this
theorem G7 {l:List Nat} {f n:Nat} (h:pv T t= .st l) (hn:l[f]? =some n):mT P t f=some n:=by
 have :=yb hT t;rw [h] at this;have :=B9 (show sW P t 0 l=true from this) hn;rwa [cH] at this
end
def Kx (k:bw) (n:Int):Prop :=match k with
 | .i64=> -9223372036854775808≤n∧n≤9223372036854775807
 | .u8=>0≤n∧n≤255
 | .i32=> -2147483648≤n∧n≤2147483647
 | .u32=>0≤n∧n≤4294967295
 | .u64=>0≤n∧n≤18446744073709551615
 | _=>False
theorem Cz {k:bw} {n:Int} (h:Kx k n):k.wrap n=n:=by
 cases k <;> first | exact gU h | exact yu h | exact yp h | exact DU h | exact gz h | exact h.elim
inductive og | no | v (x:ag) | vc (x:ag) (c:Prop)
def th (k:bw) (n:Int):og:=match k with
 | .i64=> .vc (.int .i64 n)<|-9223372036854775808≤n∧n≤9223372036854775807
 | .u8=> .vc (.int .u8 n)<|0≤n∧n≤255
 | .i32=> .vc (.int .i32 n)<|-2147483648≤n∧n≤2147483647
 | .u32=> .vc (.int .u32 n)<|0≤n∧n≤4294967295
 | .u64=> .vc (.int .u64 n)<|0≤n∧n≤18446744073709551615
 | _=> .no
def vZ (op:BinOp) (k:bw) (a b:Int):og:=match op with
 | .lss=> .v<|.bool<|decide (a < b)
 | .leq=> .v<|.bool<|decide (a≤b)
 | .gtr=> .v<|.bool<|decide (b < a)
 | .geq=> .v<|.bool<|decide (b≤a)
 | .eql=> .v<|.bool<|decide (a=b)
 | .neq=> .v<|.bool<|decide (a≠b)
 | .add=>th k<|a+b
 | .sub=>th k<|a - b
 | _=> .no
def Df (op:BinOp) (l m:List UInt8):og:=match op with
 | .eql=> .v<|.bool<|decide (l=m)
 | .neq=> .v<|.bool<|decide (l≠m)
 | .add=> .vc (str<|l++m)<|l.length+m.length≤9223372036854775807
 | _=> .no
def kd (v:ag):og:=match v with
 | .int k n=> .v<|.int k n
 | .bool b=> .v<|.bool b
 | .string ⟨⟨l⟩⟩=> .v<|str l
 | .pointer a=> .v<|.pointer a
 | .slice a n c=> .v<|.slice a n c
 | .map r=> .v<|.map r
 | .func f a b=> .v<|.func f a b
 | .nilFunc=> .v .nilFunc
 | .iface t v=> .v<|.iface t v
 | .nilIface=> .v .nilIface
 | .agg c=> .v<|.agg c
 | .tuple c=> .v<|.tuple c
 | _=> .no
theorem H8 {v x:ag} (h:kd v= .v x):v=x:=by
 unfold kd at h;split at h <;> cases h <;> rfl
theorem H9 {v x:ag} {c:Prop} (h:kd v= .vc x c):False:=by
 unfold kd at h;split at h <;> cases h
def oU (T:List (List TD)) (N:Fm) (σ:Nat→ag) (o:Op):og:=match o with
 | .move x=>kd<|ev N σ x
 | .assign x=>kd<|ev N σ x
 | .pick c x y=>match ev N σ c with
   | .bool true =>kd<|ev N σ x
   | .bool false =>kd<|ev N σ y
   | _=> .no
 | .nilCheck x=>match ev N σ x with
   | .pointer (some a)=> .v<|.pointer<|some a
   | _=> .no
 | .extract x i=>match ev N σ x with
   | .tuple ⟨vs⟩=>match vs[i]? with
     | some v=> .v v
     | none=> .no
   | _=> .no
 | .fieldAddr s x f=>match ev N σ x,pv T s with
   | .pointer (some ⟨b,off,none⟩),.st l=>match l[f]? with
     | some n=> .v<|.pointer<|some ⟨b,off+n,none⟩
     | none=> .no
   | _,_=> .no
 | .binOp op t x y _=>match ev N σ x,ev N σ y with
   | .int k a,.int k' b=>cond (aP (dK k)<|dK k') (vZ op k a b) .no
   | .string ⟨⟨l⟩⟩,.string ⟨⟨m⟩⟩=>Df op l m
   | _,_=> .no
 | .unOp .not _ x=>match ev N σ x with
   | .bool b=> .v<|.bool<|!b
   | _=> .no
 | .call ⟨.builtin .len,⟨[x]⟩,⟨[t]⟩⟩=>match ev N σ x,pv T t with
   | .string ⟨⟨l⟩⟩,.str=> .v<|.int .i64 l.length
   | .slice a n c,.dk _ _=> .v<|.int .i64 n
   | _,_=> .no
 | _=> .no
def xj (P:av) (N:Fm) (σ:Nat→ag) (o:aC) (w:ah):og→Prop
 | .no=>True
 | .v x=>(execOp (ev N σ) o).run P w= .ok (.value x) w
 | .vc x c=>c→(execOp (ev N σ) o).run P w= .ok (.value x) w
theorem sE {P:av} {N:Fm} {σ:Nat→ag} {o:aC} {w:ah} {v:ag} (h:(execOp (ev N σ) o).run P w= .ok (.value v) w):xj P N σ o w (kd v):=by
 cases hf:kd v with
 | no=>trivial
 | v x=>rw [← H8 hf]; exact h
 | vc x c=>exact (H9 hf).elim
theorem sZ {P:av} {T:List (List TD)} (hT:jr P 0 T=true) {N:Fm} {σ:Nat→ag} (d:Option Nat) (o:Op) (ty:aw) (pos :String) (af:Array bR) (g:Option (Nat×Bool)) (w:ah):xj P N σ ⟨d,o,ty,pos,af,g⟩ w (oU T N σ o):=by
 unfold oU;split
 · exact sE mv
 · exact sE aT
 · split
   · exact sE<|mg<|by assumption
   · exact sE<|oY<|by assumption
   · trivial
 · split
   · exact nc<|by assumption
   · trivial
 · split
   · split
     · exact xt (by assumption)<|by simpa using by assumption
     · trivial
   · trivial
 · split
   · split
     · exact fa (G7 hT (by assumption)<|by assumption)<|by assumption
     · trivial
   · trivial
 · split
   · rename_i k a E b A C;cases hk:aP (dK k) (dK E)
     · trivial
     · obtain rfl :=mY hk;show xj _ _ _ _ _ (vZ _ _ _ _);unfold vZ;split
       · exact lt A C
       · exact le A C
       · exact gt A C
       · exact ge A C
       · exact AI A C
       · exact B3 A C
       · unfold th; split <;> first | trivial | exact fun h=>ad A C<|Cz h
       · unfold th; split <;> first | trivial | exact fun h=>sb A C<|Cz h
       · trivial
   · rename_i l m A C;unfold Df;split
     · exact AJ A C
     · exact B4 A C
     · exact fun h=>cc A C h
     · trivial
   · trivial
 · split
   · exact no<|by assumption
   · trivial
 · split
   · exact BI (G8 hT<|by assumption) U<|by assumption
   · exact wO (G6 hT<|by assumption).1 U<|by assumption
   · trivial
 · trivial
inductive Pt | c (c:bP) | l (ops:Array aC) (l:List aC) | x (e:bd)
inductive Kn | sq (y:bP) | bk (id:Nat)
def ew (P:av) (N:Fm):List Kn→(bd→(Nat→ag)→ah→Prop)→bd→(Nat→ag)→ah→Prop
 | [],Q=>Q
 | .sq y::st,Q=>gS (fun σ w=>bu P N y (ew P N st Q) σ w)<|ew P N st Q
 | .bk id::st,Q=>kR id<|ew P N st Q
@[reducible] def At (P:av) (N:Fm) (Q:bd→(Nat→ag)→ah→Prop) (w:ah) (p:Pt) (st:List Kn) (σ:Nat→ag):Prop :=match p with
 | .c c=>bu P N c (ew P N st Q) σ w
 | .l ops l=>bQ P N ops (ew P N st Q) l σ w
 | .x e=>ew P N st Q e σ w
inductive Out | no | at (p:Pt) (st:List Kn) (σ:Nat→ag) (c:Option Prop)
def andG (c:Prop):Option Prop→Option Prop
 | none=>some c
 | some d=>some<|c∧d
def optG:Option Prop→Prop
 | none=>True
 | some c=>c
theorem r5 {c:Prop} {d:Option Prop} (h:optG (andG c d)):c∧optG d:=by
 cases d
 · exact ⟨h,trivial⟩
 · exact h
inductive FC | no | go (p:Pt) (st:List Kn) (σ:Nat→ag) (c:Option Prop)
def stepG (T:List (List TD)) (N:Fm) (p:Pt) (st:List Kn) (σ:Nat→ag) (c:Option Prop):FC:=match p with
 | .x .normal=>match st with
   | .sq y::st=> .go (.c y) st σ c
   | .bk _::st=> .go (.x .normal) st σ c
   | []=> .no
 | .x .ret=>match st with
   | _::st=> .go (.x .ret) st σ c
   | []=> .no
 | .x (.exit i)=>match st with
   | .sq _::st=> .go (.x<|.exit i) st σ c
   | .bk j::st=>cond (aP i j) (.go (.x .normal) st σ c)<|.go (.x<|.exit i) st σ c
   | []=> .no
 | .x _=> .no
 | .c (.seq x y)=> .go (.c x) (.sq y::st) σ c
 | .c (.block id x)=> .go (.c x) (.bk id::st) σ c
 | .c .skip => .go (.x .normal) st σ c
 | .c .ret=> .go (.x .ret) st σ c
 | .c (.exit i)=> .go (.x<|.exit i) st σ c
 | .c (.region id ⟨l⟩ false)=>cond (kj N.r l) (.go (.l ⟨l⟩ l) st σ c) .no
 | .c (.cond x a b)=>match ev N σ x with
   | .bool true => .go (.c a) st σ c
   | .bool false => .go (.c b) st σ c
   | _=> .no
 | .c _=> .no
 | .l ops []=> .go (.x .normal) st σ c
 | .l ops (⟨some d,o,ty,pos,af,none⟩::r)=>match oU T N σ o with
   | .v x=> .go (.l ops r) st (aX σ d x) c
   | .vc x c'=> .go (.l ops r) st (aX σ d x)<|andG c' c
   | .no=> .no
 | .l ops (⟨some d,o,ty,pos,af,some (j,want)⟩::r)=>match dS ops j with
   | some t=>cond (aE t N.n) (match σ t with
     | .bool b=>cond (b==want) (match oU T N σ o with
       | .v x=> .go (.l ops r) st (aX σ d x) c
       | .vc x c'=> .go (.l ops r) st (aX σ d x)<|andG c' c
       | .no=> .no) (.go (.l ops r) st (aX σ d undef) c)
     | .tuple ⟨[]⟩=> .go (.l ops r) st (aX σ d undef) c
     | _=> .no) .no
   | none=> .no
 | .l ops _=> .no
def gQ (T:List (List TD)) (N:Fm):Nat→Pt→List Kn→(Nat→ag)→Option Prop→Out
 | 0,p,st,σ,c=> .at p st σ c
 | n+1,p,st,σ,c=>match stepG T N p st σ c with
   | .go p st σ c=>gQ T N n p st σ c
   | .no=> .no
section
variable {P:av} {T:List (List TD)} {N:Fm} {Q:bd→(Nat→ag)→ah→Prop} {w:ah} {σ σ':Nat→ag} {p p':Pt} {st st':List Kn} {c c':Option Prop} {n:Nat}
theorem LH (hT:jr P 0 T=true) (h:stepG T N p st σ c= .go p' st' σ' c') (A:optG c') (C:At P N Q w p' st' σ'):optG c∧At P N Q w p st σ:=by
 unfold stepG at h;split at h
 · split at h
   · cases h; exact ⟨A,tn C⟩
   · cases h; exact ⟨A,bn C⟩
   · cases h
 · split at h
   · rename_i k _;cases h; cases k
     · exact ⟨A,tr C⟩
     · exact ⟨A,br C⟩
   · cases h
 · split at h
   · cases h; exact ⟨A,te _ C⟩
   · rename_i i _ j _;cases hij:aP i j
     · rw [hij] at h; cases h;exact ⟨A,FV (fun e=>by rw [e] at hij; simp at hij) C⟩
     · rw [hij] at h; cases h;obtain rfl :=bL hij;exact ⟨A,be C⟩
   · cases h
 · cases h
 · cases h; exact ⟨A,sq fun K U=>DR (fun e σ w O=>by cases e <;> first | exact U _ _ O | exact O) C⟩
 · cases h; exact ⟨A,an C⟩
 · cases h; exact ⟨A,C5 C⟩
 · cases h; exact ⟨A,rt C⟩
 · cases h; exact ⟨A,ext C⟩
 · rename_i id l;cases hr:kj N.r l
   · rw [hr] at h; cases h
   · rw [hr] at h; cases h;exact ⟨A,rg hr C⟩
 · split at h
   · cases h; exact ⟨A,ct (by assumption) C⟩
   · cases h; exact ⟨A,cf (by assumption) C⟩
   · cases h
 · cases h
 · cases h; exact ⟨A,nl C⟩
 · rename_i ops d o ty pos af r;have bJ:=sZ (P:=P) hT (N:=N) (σ:=σ) (some d) o ty pos af none w;split at h
   · rename_i x E;rw [E] at bJ; cases h;exact ⟨A,Hb.p bJ C⟩
   · rename_i x q E;rw [E] at bJ; cases h;obtain ⟨L,M⟩:=r5 A;exact ⟨M,Hb.p (bJ L) C⟩
   · cases h
 · rename_i ops d o ty pos af j want r;have bJ:=sZ (P:=P) hT (N:=N) (σ:=σ) (some d) o ty pos af (some (j,want)) w;split at h
   · rename_i t J;cases hb:aE t N.n
     · rw [hb] at h; cases h
     · rw [hb] at h;simp only [cond_true] at h;split at h
       · rename_i b I;cases hw:(b==want)
         · rw [hw] at h; cases h;exact ⟨A,sk J hb I hw C⟩
         · rw [hw] at h;simp only [cond_true] at h;obtain rfl :b=want:=by simpa using hw
           split at h
           · rename_i x E;rw [E] at bJ; cases h;exact ⟨A,pg J hb I bJ C⟩
           · rename_i x q E;rw [E] at bJ; cases h;obtain ⟨L,M⟩:=r5 A;exact ⟨M,pg J hb I (bJ L) C⟩
           · cases h
       · rename_i I;cases h;exact ⟨A,C6 J hb I C⟩
       · cases h
   · cases h
 · cases h
theorem iS (hT:jr P 0 T=true):∀ (n:Nat) (p:Pt) (st:List Kn) (σ:Nat→ag) (c:Option Prop),gQ T N n p st σ c= .at p' st' σ' c'→optG c'→At P N Q w p' st' σ'→optG c∧At P N Q w p st σ
 | 0,p,st,σ,c,h,hc,hk=>by cases h; exact ⟨hc,hk⟩
 | n+1,p,st,σ,c,h,hc,hk=>by
   simp only [gQ] at h;split at h
   · rename_i C;obtain ⟨h1,A⟩:=iS hT n _ _ _ _ h hc hk;exact LH hT C h1 A
   · cases h
end
inductive Fw | no | at (fuel:Nat) (listed:Array Bool) (σ:Nat→ag) (c:Option Prop)
inductive FA | no | go (σ:Nat→ag) (c:Option Prop)
def Dk (T:List (List TD)) (N:Fm) (g:Bool) (ops:Array aC) (i:Nat) (σ:Nat→ag) (c:Option Prop):FA:=match ops[i]? with
 | some ⟨some d,o,_,_,_,none⟩=>match oU T N σ o with
   | .v x=> .go (aX σ d x) c
   | .vc x c'=> .go (aX σ d x)<|andG c' c
   | .no=> .no
 | some ⟨some d,o,_,_,_,some (j,want)⟩=>cond g (match dS ops j with
   | some t=>cond (aE t N.n) (match σ t with
     | .bool b=>cond (b==want) (match oU T N σ o with
       | .v x=> .go (aX σ d x) c
       | .vc x c'=> .go (aX σ d x)<|andG c' c
       | .no=> .no) (.go (aX σ d undef) c)
     | .tuple ⟨[]⟩=> .go (aX σ d undef) c
     | _=> .no) .no
   | none=> .no) .no
 | _=> .no
def lj (T:List (List TD)) (N:Fm) (g:Bool) (ops:Array aC):List Nat→Nat→Array Bool→(Nat→ag)→Option Prop→Fw
 | [],fuel,listed,σ,c=> .at fuel listed σ c
 | _::_,0,_,_,_=> .no
 | i::is,fuel+1,listed,σ,c=>match Dk T N g ops i σ c with
   | .go σ c=>lj T N g ops is fuel (listed.setIfInBounds i true) σ c
   | .no=> .no
def kK (fr:Array Bool→Nat→Bool):List Nat→Array Bool→Bool
 | [],_=>true
 | i::is,listed=>fr listed i && kK fr is (listed.setIfInBounds i true)
section
variable {P:av} {T:List (List TD)} {N:Fm} {g:Bool} {ops:Array aC} {fr:Array Bool→Nat→Bool} {fuel':Nat} {listed':Array Bool} {σ':Nat→ag} {c':Option Prop} {w:ah}
theorem tz (hT:jr P 0 T=true) (W:Nat→Array Bool→(Nat→ag)→Prop)
 (H1:∀ {i d o ty pos af v fuel listed σ},ops[i]? =some ⟨some d,o,ty,pos,af,none⟩→fr listed i=true→(∀ w,(execOp (ev N σ) ⟨some d,o,ty,pos,af,none⟩).run P w= .ok (.value v) w)→W fuel (listed.setIfInBounds i true) (aX σ d v)→W (fuel+1) listed σ)
 (M:g=true→∀ {i d o ty pos af v fuel listed σ j want t},ops[i]? =some ⟨some d,o,ty,pos,af,some (j,want)⟩→fr listed i=true→dS ops j=some t→aE t N.n=true→σ t= .bool want→(∀ w,(execOp (ev N σ) ⟨some d,o,ty,pos,af,some (j,want)⟩).run P w= .ok (.value v) w)→W fuel (listed.setIfInBounds i true) (aX σ d v)→W (fuel+1) listed σ)
 (V:g=true→∀ {i d o ty pos af fuel listed σ j want t b},ops[i]? =some ⟨some d,o,ty,pos,af,some (j,want)⟩→fr listed i=true→dS ops j=some t→aE t N.n=true→σ t= .bool b→(b==want)=false→W fuel (listed.setIfInBounds i true) (aX σ d undef)→W (fuel+1) listed σ)
 (Z:g=true→∀ {i d o ty pos af fuel listed σ j want t},ops[i]? =some ⟨some d,o,ty,pos,af,some (j,want)⟩→fr listed i=true→dS ops j=some t→aE t N.n=true→σ t=undef→W fuel (listed.setIfInBounds i true) (aX σ d undef)→W (fuel+1) listed σ):
 ∀ (is:List Nat) (fuel:Nat) (listed:Array Bool) (σ:Nat→ag) (c:Option Prop),lj T N g ops is fuel listed σ c= .at fuel' listed' σ' c'→kK fr is listed=true→optG c'→W fuel' listed' σ'→optG c∧W fuel listed σ
 | [],fuel,listed,σ,c,h,_,C,E=>by cases h; exact ⟨C,E⟩
 | i::is,0,listed,σ,c,h,_,C,E=>by cases h
 | i::is,fuel+1,listed,σ,c,h,hf,C,E=>by
   simp only [kK,a9] at hf;simp only [lj] at h;split at h
   · rename_i ab c2 A;obtain ⟨C,E⟩:=tz hT W H1 M V Z is fuel _ _ _ h hf.2 C E;unfold Dk at A;split at A
     · rename_i d o ty pos af hi;have bJ:=fun w=>sZ hT (N:=N) (σ:=σ) (some d) o ty pos af none w;split at A
       · rename_i x I;rw [I] at bJ; cases A;exact ⟨C,H1 hi hf.1 bJ E⟩
       · rename_i x q I;rw [I] at bJ; cases A;obtain ⟨O,U⟩:=r5 C;exact ⟨U,H1 hi hf.1 (fun w=>bJ w O) E⟩
       · cases A
     · rename_i d o ty pos af j want hi;have bJ:=fun w=>sZ hT (N:=N) (σ:=σ) (some d) o ty pos af (some (j,want)) w;cases hg:g
       · rw [hg] at A; cases A
       · rw [hg] at A;simp only [cond_true] at A;split at A
         · rename_i t L;cases hb:aE t N.n
           · rw [hb] at A; cases A
           · rw [hb] at A;simp only [cond_true] at A;split at A
             · rename_i b J;cases hw:(b==want)
               · rw [hw] at A; cases A;exact ⟨C,V hg hi hf.1 L hb J hw E⟩
               · rw [hw] at A;simp only [cond_true] at A;obtain rfl :b=want:=by simpa using hw
                 split at A
                 · rename_i x I;rw [I] at bJ; cases A;exact ⟨C,M hg hi hf.1 L hb J bJ E⟩
                 · rename_i x q I;rw [I] at bJ; cases A;obtain ⟨O,U⟩:=r5 C;exact ⟨U,M hg hi hf.1 L hb J (fun w=>bJ w O) E⟩
                 · cases A
             · rename_i J;cases A;exact ⟨C,Z hg hi hf.1 L hb J E⟩
             · cases A
         · cases A
     · cases A
   · cases h
variable {Q:bd→(Nat→ag)→ah→Prop} {S:ah→Prop} {r fuel:Nat} {listed:Array Bool} {σ:Nat→ag}
theorem Ii (hT:jr P 0 T=true) (is:List Nat) (h:lj T N true ops is fuel listed σ none= .at fuel' listed' σ' c') (J:S w) (k:cm P N ops Q S fuel' listed' σ' w) (M:optG c') (A:kK (eE N.F ops) is listed=true):cm P N ops Q S fuel listed σ w:=
 (tz hT (fun fuel listed σ=>cm P N ops Q S fuel listed σ w) (fun hi A L k=>hp _ hi A (fun w _=>L w) J k) (fun _=>fun hi A C E I L k=>bW _ hi A C E I (fun w _=>L w) J k) (fun _=>fun hi A C E I hb k=>sF _ hi A C E I hb J k) (fun _=>fun hi A C E I k=>Iv _ hi A C E I J k) is fuel listed σ none h A M k).2
theorem Ik (hT:jr P 0 T=true) (is:List Nat) (h:lj T N false ops is fuel listed σ none= .at fuel' listed' σ' c') (C:S w) (k:cx P N ops Q S r fuel' listed' σ' w) (E:optG c') (A:kK (fun l i=>oH N.F ops l r i) is listed=true):cx P N ops Q S r fuel listed σ w:=
 (tz (g:=false) hT (fun fuel listed σ=>cx P N ops Q S r fuel listed σ w) (fun hi A I k=>lq _ hi A (fun w _=>I w) C k) (fun h=>c9 h) (fun h=>c9 h) (fun h=>c9 h) is fuel listed σ none h A E k).2
theorem Ij (hT:jr P 0 T=true) (is:List Nat) (h:lj T N false ops is fuel listed σ none= .at fuel' listed' σ' c') (C:S w) (k:cx P N ops Q S r fuel' listed' σ' w) (E:optG c') (A:kK (fun l i=>mV N.F ops l r i) is listed=true):cx P N ops Q S r fuel listed σ w:=
 (tz (g:=false) hT (fun fuel listed σ=>cx P N ops Q S r fuel listed σ w) (fun hi A I k=>qH _ hi A I (fun _=>C) k) (fun h=>c9 h) (fun h=>c9 h) (fun h=>c9 h) is fuel listed σ none h A E k).2
end
def u5 (P:av) (f:dU):Bool:=match P.funcs[f]? with
 | some fn=> !(fn.name== "runtime.NumGoroutine") && !fn.body.isNone
 | none=>false
theorem Gm {P:av} {f:dU} (h:u5 P f=true):gk P f:=by
 unfold u5 at h;split at h
 · simp only [a9,ky] at h;exact u6 (by assumption) h.1 h.2
 · cases h
section
variable {P:av} {N:Fm} {σ:Nat→ag} {w:ah} {dst:Option Nat} {ty:aw} {pos :String} {af:Array bR} {g:Option (Nat×Bool)} {x y z:aY} {K:(Nat→ag)→ah→Prop}
theorem ba {f:dU} {args:Array aY} {A:Array aw} {L:List ag} {R:ag→ah→Prop} (hr:bo P f L.toArray w R) (C:args.toList.map (ev N σ)=L)
 (k:∀ v w',R v w'→K (dv σ dst v) w') (E:u5 P f=true :=by kernel_rfl):bX P N ⟨dst,.call ⟨.value (.func f),args,A⟩,ty,pos,af,g⟩ σ w K:=cl (Gm E) hr C k
theorem ax {t b off :Nat} {v:ag} (C:ev N σ x= .pointer (some ⟨b,off,none⟩)) (A:ay w.heap b off =some v) (hu:db P t=some none:=by kernel_rfl):
 (execOp (ev N σ) ⟨dst,.load t x,ty,pos,af,g⟩).run P w= .ok (.value v) w:=ld hu C A
theorem cg (n:Nat) {t E:aw} {a b:Int} (A:ev N σ x= .int .i64 a:=by exact U) (C:ev N σ y= .int .i64 b:=by exact U) (h:a+b=(n:Int)∧n≤9223372036854775807:=by omega):
 (execOp (ev N σ) ⟨dst,.binOp .add t x y E,ty,pos,af,g⟩).run P w= .ok (.value<|.int .i64 (n:Int)) w:=uT (n:Int) A C<|yn h.1 h.2
theorem pb (n:Nat) {t E:aw} {a b:Int} (A:ev N σ x= .int .i64 a:=by exact U) (C:ev N σ y= .int .i64 b:=by exact U) (h:a - b=(n:Int)∧n≤9223372036854775807:=by omega):
 (execOp (ev N σ) ⟨dst,.binOp .sub t x y E,ty,pos,af,g⟩).run P w= .ok (.value<|.int .i64 (n:Int)) w:=xF (n:Int) A C<|yn h.1 h.2
variable {ops:Array aC} {Q:bd→(Nat→ag)→ah→Prop} {S:ah→Prop} {r fuel d t b off :Nat} {listed:Array Bool} {v:ag} {W:ah} {l:List aC} {id:Nat}
theorem di (i:Nat) (h:(ops[i]?,ev N σ x)=(some ⟨some d,.load t x,ty,pos,af,none⟩,.pointer (some ⟨b,off,none⟩))) (A:Wk W w) (C:ay W.heap b off =some v) (k:cm P N ops Q (fun w'=>Wk W w') fuel (listed.setIfInBounds i true) (aX σ d v) w)
 (E:eE N.F ops listed i=true :=by kernel_rfl) (hu:db P t=some none:=by kernel_rfl):cm P N ops Q (fun w'=>Wk W w') (fuel+1) listed σ w:=hp i (congrArg gE h) E (fun _ hw=>ld hu (congrArg Prod.snd h)<|hw.ay C) A k
theorem jZ (i:Nat) (h:(ops[i]?,ev N σ x)=(some ⟨some d,.load t x,ty,pos,af,none⟩,.pointer (some ⟨b,off,none⟩))) (A:Wk W w) (C:ay W.heap b off =some v) (k:cx P N ops Q (fun w'=>Wk W w') r fuel (listed.setIfInBounds i true) (aX σ d v) w)
 (E:oH N.F ops listed r i=true :=by kernel_rfl) (hu:db P t=some none:=by kernel_rfl):cx P N ops Q (fun w'=>Wk W w') r (fuel+1) listed σ w:=lq i (congrArg gE h) E (fun _ hw=>ld hu (congrArg Prod.snd h)<|hw.ay C) A k
theorem fJ (h:Wk w w.drew→cm P N l.toArray Q (fun w'=>Wk w w') l.length (nM l.length false) σ w.drew) (hr:kj N.r l=true :=by exact U) (hm:P.follows .mixedOrders=true :=by kernel_rfl):bu P N (.region id l.toArray true) Q σ w:=bq _ hr hm (Md.refl _ _).drew<|h (Md.refl _ _).drew
theorem sR (r:Nat) (h:Wk w w.drew→cx P N l.toArray Q (fun w'=>Wk w w') r l.length (nM l.length false) σ w.drew) (hr:kj N.r l=true :=by exact U) (hm:P.follows .mixedOrders=true :=by kernel_rfl):bu P N (.region id l.toArray true) Q σ w:=kV _ r hr hm (Md.refl _ _).drew<|h (Md.refl _ _).drew
end
end Go.Hb
end
section
namespace Go.Hb
open Go.ChangeShapes Go.WideShapes Go.ChangeAt
theorem Wk.frame {w w':ah} (h:Wk w w') (may:MemPlace→Prop):w.keptBut w' may:=by
 refine ⟨h.os,h.output,fun i hi=> ?_⟩;rw [h.dL i hi id];split <;> simp_all
theorem Wk.same {w w':ah} (h:Wk w w') {p:MemPlace} (hp:p.block < w.heap.size):w.sameAt w' p:=by
 cases p with
 | cell b o=>exact World.cell?_of_block (w:=w)<|h.dL b hp id
 | map b=>exact h.dL b hp id
section
variable {H:Type} {enc:aw×ag→H} {P:av} {W W':ah}
theorem Dz (J:laidOutB P=true) (I:Wk W W'):∀ (C:List aw) (vs:List ag) (E:List (DataW H)) (ps:List MemPlace),C.all (fun t=>P.readableRec t && decide (t < P.types.size))=true→(∀ x∈ps,x.block < W.heap.size)→
 Eu enc P W 0 (fun _=>true) true C vs E ps→Eu enc P W' 0 (fun b=>decide (b < W.heap.size)) true C vs E ps
 | [],[],[],_,_,_,h=>h
 | t::C,v::vs,d::E,_,hp,hlt,⟨p,q,h1,h2,he⟩=>by
   subst he;rw [pP,a9,a9] at hp;exact ⟨p,q,WideElems.Trod_stays J hp.1.1 (of_decide_eq_true hp.1.2) h1 (fun x A=>I.same<|hlt x<|pU _ A) (fun x A=>decide_eq_true<|hlt x<|pU _ A),
    Dz J I C vs E q hp.2 (fun x A=>hlt x<|List.mem_append_right _ A) h2,rfl⟩
 | [],_::_,_,_,_,_,h=>h.elim
 | [],[],_::_,_,_,_,h=>h.elim
 | _::_,[],_,_,_,_,h=>h.elim
 | _::_,_::_,[],_,_,_,h=>h.elim
theorem Ko {f:dU} {fn:Func} {s:ChangeSpec} {args:Array ag} {A gs:List (DataW H)} {before:List MemPlace} {O:aw} (I:DataW.Whole enc P fn.params.toList s.vars false W args.toList A gs before) (M:s.vars= [])
 (C:s.fn H (A++gs)= {results:= [.lit (.bool true)],args:=A}) (hr:fn.resultTypes= #[O]) (hb:P.underlying O=some .bool) (V:laidOutB P=true) (hp:fn.params.toList.all (fun t=>P.readableRec t && decide (t < P.types.size))=true)
 (h:bo P f args W (fun v w'=>v= .bool true∧Wk W w')):Calls P f args W fun e W'=> ∃ v,e= .returned v∧s.post enc P fn false true false false W args v W':=by
 refine j3 h fun e W' ⟨v,he,ab,L⟩=>⟨v,he,?_⟩
 subst ab;have J:=I;obtain ⟨p,q,U,E,rfl,_,_⟩:=I;rw [M] at E;obtain ⟨rfl,rfl⟩:=trodVars_none E;have Z:∀ x∈p,x.block < W.heap.size:=fun x ac=>J.lt x<|by simpa using ac
 refine ⟨_,_,_,[],p,[],J,?_,?_,?_,L.frame _,fun h=>by cases h⟩
 · rw [C,hr];exact trodAll_cons_mk (shut_bool hb _) trodAll_mk0
 · rw [C];exact Dz V L _ _ _ _ hp Z U
 · rw [C,M]; rfl
theorem zF {w:ah} {a:bl} {v:ag} (h:w.cell? a=some v):a=⟨a.block,a.off,none⟩∧ay w.heap a.block a.off=some v:=by
 obtain ⟨b,o,C⟩:=a;unfold EK at h;simp only at h;split at h
 · rename_i c t z hb;split at h
   · cases h
   · rename_i A;cases C with
     | none=>exact ⟨rfl,by rw [bp hb]; exact h⟩
     | some x=>simp at A
 · cases h
theorem Gr {w:ah} {a:bl} {xs:List ag} (h:∀ j u,xs[j]? =some u→w.cell? (a.add j)=some u):aV w.heap (some a) xs:=by
 cases xs with
 | nil=>exact aV.nil _ _
 | cons x xs=>
   have h0:=(zF<|h 0 x rfl).1;have ha:a=⟨a.block,a.off,none⟩:=h0;refine ⟨fun _=>congrArg some ha,fun j u hu=> ?_⟩;have h1:=h j u hu;rw [ha,eJ,jc] at h1;exact h1
end
end Go.Hb
namespace Go.Hb
open Go.Proofs.YtiagknaekaknhaaGreatDoor
theorem F7 {H:Type} {l:List (DataW H)} (A:Rows.uptoSmall H l=true):Rows.uptoBulkAll l≤1048576:=of_decide_eq_true A
end Go.Hb
namespace Go.Hb
open Go.Proofs.YtiagknaekaknhaaGreatDoor Go.ChangeShapes Go.WideShapes Go.ChangeAt
structure rR (P:av) (t:aw) (m:Nat) {X:Type} (R:ah→List ag→X→Prop) (B:X→Nat):Prop where
 cells:P.cellsOf t=m
 op:∀ {H:Type} (enc:aw×ag→H) (W:ah) (fuel:Nat) (cs:List ag) (d:DataW H) (p:List MemPlace),DataW.trod enc P W 0 (fun _=>true) true fuel t cs=some (d,p)→cs.length=m∧∃ x,R W cs x∧B x≤Rows.uptoBulk d
section
variable {P:av} {t t0 t1 e:aw} {m m0 m1:Nat} {X X0 X1:Type} {R:ah→List ag→X→Prop} {B:X→Nat} {R0:ah→List ag→X0→Prop} {B0:X0→Nat} {R1:ah→List ag→X1→Prop} {B1:X1→Nat}
theorem J3 {k:bw} (C:P.underlying t=some (.int k)) (A:P.cellsOf t=1):rR P t 1 (fun _ cs (x:Int)=>cs= [.int k x]∧(Lit.int k x).wf=true) (fun _=>1) where
 cells:=A
 op enc W fuel cs d p h:=by
  obtain ⟨n,rfl,E,hw⟩:=DataW.trod_int C h;cases E;exact ⟨U,n,⟨U,hw⟩,by simp [Rows.uptoBulk]⟩
theorem J5 (C:P.underlying t=some .string) (A:P.cellsOf t=1):rR P t 1 (fun _ cs (x:List UInt8)=>cs= [str x]) (fun x=>x.length+1) where
 cells:=A
 op enc W fuel cs d p h:=by
  obtain ⟨s,rfl,E,hw⟩:=DataW.trod_string C h;cases E;exact ⟨U,s.data.toList,U,by simp [Rows.uptoBulk]⟩
def RS (m:Nat) (R:ah→List ag→X→Prop) (W:ah) (cs:List ag) (xs:List X):Prop :=
 ∃ (a:Option bl) (c:Nat) (L:List (List ag)),cs= [.slice a xs.length c]∧L.length=xs.length∧aV W.heap a L.flatten∧xs.length≤c∧∀ (i:Nat) l x,L[i]? =some l→xs[i]? =some x→l.length=m∧R W l x
theorem H5 {L:List (List ag)} {m:Nat} (h:∀ l∈L,l.length=m):L.flatten.length=L.length*m:=by
 induction L with
 | nil=>simp
 | cons a L ih=>
   rw [nZ,bK,ih (fun l A=>h l<|by simp [A]),h a (by simp),dm,pW]; omega
theorem HZ {L:List (List ag)} {m:Nat} (h:∀ l∈L,l.length=m) {i c:Nat} {l:List ag} (A:L[i]? =some l) (C:c < m):L.flatten[i*m+c]? =l[c]? :=by
 induction L generalizing i with
 | nil=>simp at A
 | cons a L ih=>
   have ha:=h a<|by simp
   cases i with
   | zero=>
     simp only [iD,bH] at A;subst A;rw [nZ,pX,cH,eU ab]
   | succ i=>
     simp only [iX] at A;rw [nZ,fm (by rw [ha,pW]; omega),ha,show (i+1)*m+c - m=i*m+c from by rw [pW]; omega];exact ih (fun l A=>h l<|by simp [A]) A
theorem H0 {L:List (List ag)} {m:Nat} (hm:0 < m) (h:∀ l∈L,l.length=m) {j:Nat} {u:ag} (hu:L.flatten[j]? =some u):∃ l,L[j / m]? =some l∧l[j % m]? =some u:=by
 have A:=(cB.1 hu).1;rw [H5 h] at A;have h1:j / m < L.length:=(Nat.div_lt_iff_lt_mul hm).2 A;refine ⟨L[j / m],bt h1,?_⟩;have :=HZ h (bt h1)<|Nat.mod_lt j hm;rw [uJ,Ff] at this;rw [← this]; exact hu
theorem zy {H:Type} {f:X→Nat} :∀ (xs:List X) (A:List (DataW H)),xs.length=A.length→(∀ (i:Nat) x d,xs[i]? =some x→A[i]? =some d→f x≤Rows.uptoBulk d)→(xs.map f).sum≤Rows.uptoBulkAll A
 | [],_,_,_=>by simp
 | x::xs,[],h,_=>by simp at h
 | x::xs,d::A,h,hf=>by
   have h1:=hf 0 x d rfl rfl;have E:=zy xs A (by simpa using h) fun i y e C he=>hf (i+1) y e (by simpa using C)<|by simpa using he
   simp only [fq,List.sum_cons,Rows.uptoBulkAll]; omega
theorem J4 (he:rR P e m R B) (aA:P.underlying t=some (.slice e)) (ay:P.cellsOf t=1) (hm:0 < m):rR P t 1 (RS m R) (fun xs=>(xs.map B).sum+1) where
 cells:=ay
 op enc W fuel cs d p h:=by
  rcases DataW.trod_slice aA h with ⟨rfl,E⟩ | ⟨a,len,cap,elems,rest,n,_,rfl,E,_,I,_,aC,ak,_,_⟩
  · cases E;exact ⟨U,[],⟨none,0,[],U,U,aV.nil _ _,aQ _,fun i l x I=>by simp at I⟩,by simp [Rows.uptoBulk]⟩
  · cases E;rw [he.cells] at ak;have hex:∀ i,i < len→∃ (l:List ag) (x:X) (y:DataW _×List MemPlace),elems[i]? =some y∧W.cells? 0 (a.add<|i*m) m=some l∧l.length=m∧R W l x∧B x≤Rows.uptoBulk y.1:=by
     intro i hi;have h1:=ak i hi;rw [bt ab,mE] at h1;obtain ⟨l,A,C⟩:=h1;obtain ⟨ac,x,aj,ad⟩:=he.op enc W n l elems[i].1 elems[i].2 C;exact ⟨l,x,elems[i],bt ab,A,ac,aj,ad⟩
    let J:Nat→List ag:=fun i=>if hi:i < len then (hex i hi).choose else []
    let V:(i:Nat)→i < len→X:=fun i hi=>(hex i hi).choose_spec.choose
    have M:∀ i (hi:i < len),∃ (y:DataW _×List MemPlace),elems[i]? =some y∧W.cells? 0 (a.add<|i*m) m=some (J i)∧(J i).length=m∧R W (J i) (V i hi)∧B (V i hi)≤Rows.uptoBulk y.1:=fun i hi=>by
     have :=(hex i hi).choose_spec.choose_spec;simp only [J,dif_pos hi];exact this
    let xs:List X:=(iZ len).attach.map fun q=>V q.1<|List.mem_range.1 q.2
    have ah:xs.length=len:=by simp [xs]
    have an:∀ (i:Nat) x,xs[i]? =some x→∃ hi:i < len,x=V i hi:=fun i x E=>by
     simp only [xs,eV,fQ] at E;obtain ⟨q,O,rfl⟩:=E;have h1:=cB.1 O;obtain ⟨hi,A⟩:=h1;simp only [List.length_attach,ux] at hi;have C:q.1=i:=by rw [← A]; simp
     subst C;exact ⟨hi,U⟩
    let L:List (List ag):=(iZ len).map J
    have av:L.length=len:=by simp [L]
    have ae:∀ (i:Nat) l,L[i]? =some l→i < len∧l=J i:=fun i l I=>by
     simp only [L,eV,fQ] at I;obtain ⟨q,O,rfl⟩:=I;have hi:=(cB.1 O).1;rw [ux] at hi;rw [uu hi] at O;cases O;exact ⟨hi,U⟩
    have aw:∀ l∈L,l.length=m:=fun l I=>by
     obtain ⟨i,hi⟩:=List.mem_iff_getElem?.1 I;obtain ⟨h1,rfl⟩:=ae i l hi;obtain ⟨_,_,_,A,_⟩:=M i h1;exact A
    refine ⟨U,xs,⟨some a,cap,L,by rw [ah],by rw [av,ah],Gr fun j u hu=> ?_,ab,fun i l x I E=> ?_⟩,?_⟩
    · obtain ⟨l,h1,A⟩:=H0 hm aw hu;obtain ⟨C,rfl⟩:=ae _ l h1;obtain ⟨y,_,ac,aj,_⟩:=M _ C;obtain ⟨_,_,ad⟩:=EL ac;have ap:=ad (j % m)<|Nat.mod_lt j hm;have ha:(a.add<|j / m*m).add (j % m)=a.add j:=by
       have ax:∀ (a:bl) (x y:Nat),a.spot=none→(a.add x).add y=a.add (x+y):=by
        intro a x y am;obtain ⟨b,o,s⟩:=a;simp only at am; subst am;rw [eJ,eJ,eJ,hJ]
       have az:a.spot=none:=by
        have h0:=M 0<|Fi (Nat.zero_le _) C;obtain ⟨_,_,ar,_⟩:=h0;obtain ⟨_,_,au⟩:=EL ar;have Z:=au 0 hm;obtain ⟨aD,_,_,aB,_⟩:=M 0<|Fi (Nat.zero_le _) C;rw [bt ab] at Z;simp only [pX] at Z;have ai:=(zF Z).1;have ao:(a.add 0).add 0=a:=rfl;rw [ao] at ai;rw [ai]
       rw [ax a _ _ az,uJ,Ff]
      rw [← ha,ap]; exact A
    · obtain ⟨hi,rfl⟩:=an i x E;obtain ⟨_,rfl⟩:=ae i l I;obtain ⟨_,_,_,A,C,_⟩:=M i hi;exact ⟨A,C⟩
    · have h1:(xs.map B).sum≤Rows.uptoBulkAll (elems.map (·.1)):=zy xs _ (by rw [ah,List.length_map]; omega) fun i x d E al=>by
       obtain ⟨hi,rfl⟩:=an i x E;obtain ⟨y,A,_,_,_,C⟩:=M i hi;rw [eV,A] at al;cases al;exact C
      simp only [Rows.uptoBulk]; omega
end
end Go.Hb
end
section
namespace Go.Hb
open Go.Proofs
def gy:List (List TD):= [
 [.no,.no,.no,.no,.no,.no,.no,.st [0,1,2,3],.st [0,1,2,3],.str,.str,.str,.no,.st [0,1],.st [0,1],.no],
 [.no,.no,.st [0],.st [0],.no,.no,.no,.dk 100 2,.dk 143 2,.no,.st [0,1,2,3],.st [0,1,2,3],.no,.no,.no,.dk 9 1],
 [.no,.no,.no,.no,.no,.no,.no,.no,.dk 77 2,.dk 81 2,.no,.st [0,1,2,3],.st [0,1,2,3],.no,.no,.dk 3 1],
 [.no,.no,.no,.no,.no,.no,.no,.no,.no,.no,.no,.st [0,1,2,3,4],.st [0,1,2,3,4],.dk 64 1,.no,.no],
 [.dk 4 1,.no,.no,.dk 47 1,.st [0,1,2],.st [0,1,2],.no,.no,.no,.st [0,7],.st [0,7],.no,.st [0,1],.st [0,1],.no,.dk 84 2],
 [.st [0,1],.st [0,1],.no,.st [0,1],.st [0,1],.no,.no,.no,.no,.no,.no,.no,.no,.no,.no,.st [0,1,2]],
 [.st [0,1,2],.no,.no,.no,.st [0,1],.no,.no,.no,.st [0,1,2],.st [0,1,2],.no,.no,.no,.st [0,1,2],.no,.no],
 [.st [0],.st [0],.no,.no,.no,.no,.no,.dk 188 1,.dk 186 5,.dk 192 7,.st [0,1,2,3,8,9,10,11,12],.st [0,1,2,3,8,9,10,11,12],.no,.no,.no,.dk 262 2],
 [.st [0,1,2,15],.st [0,1,2,15],.no,.no,.no,.st [0,1,6],.st [0,1,6],.no,.no,.no,.no,.no,.no,.dk 167 2,.st [0,1],.st [0,1]],
 [.no,.no,.no,.no,.no,.no,.dk 5 1,.st [0,1,2,3],.st [0,1,2,3],.no,.no,.st [0,1],.st [0,1],.no,.no,.no],
 [.no,.no,.no,.no,.no,.no,.no,.st [0,1],.no,.no,.no,.no,.no,.no,.no,.no],
 [.no,.no,.no,.st [0,1,2,3,4],.st [0,1,2,3,4],.no,.st [0,13],.st [0,13],.no,.st [0,1,2,3,4],.st [0,1,2,3,4],.no,.dk 117 1,.no,.no,.st [0,1,2,3,4,5,6]],
 [.st [0,1,2,3,4,5,6],.no,.st [0,1,2,3,4,5],.st [0,1,2,3,4,5],.no,.no,.st [0],.st [0],.no,.st [0,1],.st [0,1],.dk 202 2,.no,.no,.no,.no],
 [.no,.no,.no,.no,.no,.st [0,1],.st [0,1],.no,.no,.no,.no,.no,.no,.no,.no,.no],
 [.no,.st [0,1,2],.st [0,1,2],.no,.no,.no,.no,.no,.no,.no,.st [0,1,2],.st [0,1,2],.no,.dk 257 2,.no,.no],
 [.no,.no,.no,.st [0,1,2,3,4,5,6],.st [0,1,2,3,4,5,6],.no,.no,.no,.no,.no,.st [0,1],.st [0,1],.no,.no,.no,.no],
 [.st [0,1],.st [0,1],.no,.st [0,1],.st [0,1],.st [0,1],.st [0,1],.no,.no,.no,.no,.no,.no,.no,.no,.no],
 [.no,.no,.no,.no,.no,.no,.no,.no,.no,.no,.no,.no,.no,.no,.no,.no],
 [.no,.no,.no,.no,.no,.st [0,1,2],.st [0,1,2],.no,.no,.no,.no,.no,.no,.no,.no,.no],
 [.no,.no,.no,.no,.no,.no,.no,.no,.no,.no,.no,.no,.dk 117 1,.no,.no,.no],
 [.st [0,1,2,3,4,5],.st [0,1,2,3,4,5],.no,.no,.no,.st [0,1,2,3,4],.st [0,1,2,3,4],.no,.no,.no,.no,.no,.no,.no,.no,.no],
 [.no,.no,.no,.no,.no,.no,.no,.dk 341 1,.no,.st [0,1,2,3,4,5,6],.st [0,1,2,3,4,5,6],.no,.st [0],.st [0],.no,.no],
 [.no,.no,.no,.no,.dk 52 1,.no,.no,.no,.no,.no,.no,.no,.no,.no,.no,.no],
 [.no,.no,.no,.no,.no,.no,.no,.no,.no,.no,.no,.no,.no,.no,.no,.no],
 [.no,.no,.no,.no,.no,.no,.no,.no,.no,.st [0,1,2,3,4,5,6],.st [0,1,2,3,4,5,6],.no,.no,.dk 402 2,.st [0,1,2],.st [0,1,2]],
 [.no,.st [0,1],.st [0,1],.st [0,1],.st [0,1],.no,.no,.no,.no,.no,.no,.dk 436 4,.st [0],.st [0],.no,.no],
 [.no,.no,.no,.no,.no,.no,.no,.no,.no,.st [0,1,2,3,4],.st [0,1,2,3,4],.no,.no,.st [0,1],.st [0,1],.no],
 [.dk 199 1,.no,.no,.no,.no,.no,.no,.no,.no,.no,.no,.no,.no,.no,.no,.no],
 [.no,.no,.no,.no,.no,.no,.no,.no,.no,.no,.no,.no,.no,.st [0],.st [0],.no],
 [.no,.no,.no,.no,.no,.no,.no,.no,.no,.no,.no,.no,.no,.no,.no,.no],
 [.no,.no,.no,.no,.no,.no,.no,.no,.no,.no,.no,.no,.no,.no,.no,.no],
 [.dk 462 1,.dk 501 2,.st [0,1,2],.st [0,1,2],.st [0,1],.st [0,1],.no,.no,.no,.no,.no,.no,.no,.no,.no,.no],
 [.no,.no,.no,.no,.no,.no,.no,.no,.no,.st [0,1],.st [0,1],.no,.no,.st [0,1,2,3],.st [0,1,2,3],.no],
 [.no,.no,.no,.no,.no,.no,.no,.st [0,1,2,3,4,5,6,7,8,9,10],.st [0,1,2,3,4,5,6,7,8,9,10],.no,.no,.st [0,1],.st [0,1],.st [0],.st [0],.no],
 [.no,.st [0,1,2,3,4],.st [0,1,2,3,4],.dk 550 4,.no,.st [0,1,2,3],.st [0,1,2,3],.no,.no]]
theorem gT:jr ar 0 gy=true :=ai
section
variable {N:Fm} {Q:bd→(Nat→ag)→ah→Prop} {w:ah} {σ σ':Nat→ag} {p':Pt} {st st':List Kn} {c':Option Prop}
theorem bT {x:bP} {A:bP} (n:Nat) (h:gQ gy N n (.c x) [] σ none= .at (.c A) st' σ' c') (k:bu ar N A (ew ar N st' Q) σ' w) (C:optG c':=by first | exact trivial | (simp only [optG,andG]; omega)):bu ar N x Q σ w:=(iS gT n _ _ _ _ h C k).2
theorem aW {x:bP} {C:Array aC} {A:List aC} (n:Nat) (h:gQ gy N n (.c x) [] σ none= .at (.l C A) st' σ' c') (k:bQ ar N C (ew ar N st' Q) A σ' w) (E:optG c':=by first | exact trivial | (simp only [optG,andG]; omega)):bu ar N x Q σ w:=(iS gT n _ _ _ _ h E k).2
theorem jQ {x:bP} {e':bd} (n:Nat) (h:gQ gy N n (.c x) [] σ none= .at (.x e') [] σ' c') (k:Q e' σ' w) (A:optG c':=by first | exact trivial | (simp only [optG,andG]; omega)):bu ar N x Q σ w:=(iS gT n _ _ _ _ h A k).2
theorem bS {x:bP} {A:bP} (n:Nat) (h:gQ gy N n (.c x) st σ none= .at (.c A) st' σ' c') (k:bu ar N A (ew ar N st' Q) σ' w) (C:optG c':=by first | exact trivial | (simp only [optG,andG]; omega)):bu ar N x (ew ar N st Q) σ w:=(iS gT n _ _ _ _ h C k).2
theorem aJ {x:bP} {C:Array aC} {A:List aC} (n:Nat) (h:gQ gy N n (.c x) st σ none= .at (.l C A) st' σ' c') (k:bQ ar N C (ew ar N st' Q) A σ' w) (E:optG c':=by first | exact trivial | (simp only [optG,andG]; omega)):bu ar N x (ew ar N st Q) σ w:=(iS gT n _ _ _ _ h E k).2
theorem aG {x:bP} {e':bd} (n:Nat) (h:gQ gy N n (.c x) st σ none= .at (.x e') [] σ' c') (k:Q e' σ' w) (A:optG c':=by first | exact trivial | (simp only [optG,andG]; omega)):bu ar N x (ew ar N st Q) σ w:=(iS gT n _ _ _ _ h A k).2
theorem aN {ops:Array aC} {l:List aC} {A:bP} (n:Nat) (h:gQ gy N n (.l ops l) st σ none= .at (.c A) st' σ' c') (k:bu ar N A (ew ar N st' Q) σ' w) (C:optG c':=by first | exact trivial | (simp only [optG,andG]; omega)):bQ ar N ops (ew ar N st Q) l σ w:=(iS gT n _ _ _ _ h C k).2
theorem aj {ops:Array aC} {l:List aC} {C:Array aC} {A:List aC} (n:Nat) (h:gQ gy N n (.l ops l) st σ none= .at (.l C A) st' σ' c') (k:bQ ar N C (ew ar N st' Q) A σ' w) (E:optG c':=by first | exact trivial | (simp only [optG,andG]; omega)):bQ ar N ops (ew ar N st Q) l σ w:=(iS gT n _ _ _ _ h E k).2
theorem az {ops:Array aC} {l:List aC} {e':bd} (n:Nat) (h:gQ gy N n (.l ops l) st σ none= .at (.x e') [] σ' c') (k:Q e' σ' w) (A:optG c':=by first | exact trivial | (simp only [optG,andG]; omega)):bQ ar N ops (ew ar N st Q) l σ w:=(iS gT n _ _ _ _ h A k).2
theorem dn {e:bd} {A:bP} (n:Nat) (h:gQ gy N n (.x e) st σ none= .at (.c A) st' σ' c') (k:bu ar N A (ew ar N st' Q) σ' w) (C:optG c':=by first | exact trivial | (simp only [optG,andG]; omega)):ew ar N st Q e σ w:=(iS gT n _ _ _ _ h C k).2
theorem gn {e:bd} {C:Array aC} {A:List aC} (n:Nat) (h:gQ gy N n (.x e) st σ none= .at (.l C A) st' σ' c') (k:bQ ar N C (ew ar N st' Q) A σ' w) (E:optG c':=by first | exact trivial | (simp only [optG,andG]; omega)):ew ar N st Q e σ w:=(iS gT n _ _ _ _ h E k).2
theorem bf {e:bd} {e':bd} (n:Nat) (h:gQ gy N n (.x e) st σ none= .at (.x e') [] σ' c') (k:Q e' σ' w) (A:optG c':=by first | exact trivial | (simp only [optG,andG]; omega)):ew ar N st Q e σ w:=(iS gT n _ _ _ _ h A k).2
variable {ops:Array aC} {S:ah→Prop} {r fuel fuel':Nat} {listed listed':Array Bool}
theorem aH (is:List Nat) (h:lj gy N true ops is fuel listed σ none= .at fuel' listed' σ' c') (A:S w) (k:cm ar N ops Q S fuel' listed' σ' w) (C:optG c':=by first | exact trivial | (simp only [optG,andG]; omega)) (E:kK (eE N.F ops) is listed=true :=by kernel_rfl):cm ar N ops Q S fuel listed σ w:=Ii gT is h A k C E
theorem dJ (is:List Nat) (h:lj gy N false ops is fuel listed σ none= .at fuel' listed' σ' c') (A:S w) (k:cx ar N ops Q S r fuel' listed' σ' w) (C:optG c':=by first | exact trivial | (simp only [optG,andG]; omega)) (E:kK (fun l i=>oH N.F ops l r i) is listed=true :=by kernel_rfl):cx ar N ops Q S r fuel listed σ w:=Ik gT is h A k C E
theorem qA (is:List Nat) (h:lj gy N false ops is fuel listed σ none= .at fuel' listed' σ' c') (A:S w) (k:cx ar N ops Q S r fuel' listed' σ' w) (C:optG c':=by first | exact trivial | (simp only [optG,andG]; omega)) (E:kK (fun l i=>mV N.F ops l r i) is listed=true :=by kernel_rfl):cx ar N ops Q S r fuel listed σ w:=Ij gT is h A k C E
end
end Go.Hb
end
namespace Go.Hb
theorem drop_cons {α:Type} {l:List α} {i:Nat} (d:α) (h:i < l.length):l.drop i=l.getD i d::l.drop (i+1):=by simp_all
def kS (c:UInt8) (l:List UInt8):Int:=if l.idxOf c < l.length then (l.idxOf c:Int) else -1
theorem L5 {h:Array Obj} {a:Option bl} {l:List UInt8} {i:Nat} (A:aV h a (U8 l)) (hi:i < l.length):Hb.ay h (bk a) (fo a+i*1)=some (.int .u8 (l.getD i 0).toNat):=by
 refine A.qc ?_;unfold U8;rw [eV,bt hi,cn,bt hi]; rfl
theorem L7 {l:List UInt8} (h:0 < l.length):U8 l≠[]:=by
 intro e;have :=congrArg List.length e;rw [oh,List.length_nil] at this;omega
theorem Cm {w:ah} {B e:Nat} {v:ag} {l:List UInt8} {x:UInt8} (h:w.ownsRow B e 1 v (l.length+1) (U8 l++ [.int .u8 x.toNat])):w.ownsRow B e 1 v (l++ [x]).length (U8<|l++ [x]):=by
 rw [bK,rT]; exact h
def Tg (w:ah) (B e n:Nat) (v:ag) (xs:List ag):Prop :=
 ∃ a A,v= .slice a n A∧n≤A∧(xs= []∨∃ b cur z,a=some ⟨b,0,none⟩∧B≤b∧w.heap[b]? =some (.cells cur e z)∧∀ (j:Nat) u,xs[j]? =some u→cur[j]? =some u)
theorem Tg.oS {w:ah} {B e size n:Nat} {v:ag} {xs:List ag} (h:w.ownsRow B e size v n xs):Tg w B e n v xs:=by
 have h0:=h;rcases h.2 with ⟨rfl,rfl⟩ | ⟨g,cap,cur,rfl,hb,A,_,_,_,C⟩
 · exact ⟨none,0,U,aQ _,.inl<|j4<|by simpa using h.1⟩
 · refine ⟨_,cap,U,(bU h0).1,.inr ⟨g,cur,_,U,hb,A,fun j u hu=> ?_⟩⟩;rw [← C,iY] at hu;split at hu
   · simpa using hu
   · cases hu
theorem Tg.cells {w:ah} {B e n:Nat} {v:ag} {xs:List ag} (h:Tg w B e n v xs):∃ a A,v= .slice a n A∧aV w.heap a xs:=by
 obtain ⟨a,A,rfl,_,h | ⟨b,cur,z,rfl,_,C,E⟩⟩:=h
 · subst h; exact ⟨a,A,rfl,aV.nil _ _⟩
 · refine ⟨_,A,U,fun _=>rfl,fun j u hu=> ?_⟩;show Hb.ay w.heap b (0 +j)=_;rw [cH,bp C]; exact E j u hu
theorem Tg.qg {w:ah} {B e n A:Nat} {a:Option bl} {xs:List ag} (h:Tg w B e n (.slice a n A) xs):n≤A∧aV w.heap a xs:=by
 obtain ⟨L,c',E,C,O⟩:=id h;obtain ⟨M,c2,I,J⟩:=h.cells;cases E; cases I;exact ⟨C,J⟩
theorem Tg.slice {w:ah} {B e n:Nat} {v:ag} {xs:List ag} (h:Tg w B e n v xs):∃ a A,v= .slice a n A:=let ⟨a,A,hv,_⟩:=h; ⟨a,A,hv⟩
theorem Tg.md {F:Nat→Prop} {w w':ah} {B e n:Nat} {v:ag} {xs:List ag} (h:Tg w B e n v xs) (hm:Md F w w') (I:∀ k,F k→∀ cur z,w.heap[k]?≠some (.cells cur e z)):Tg w' B e n v xs:=by
 obtain ⟨a,C,rfl,E,h | ⟨b,cur,z,rfl,hb,A,L⟩⟩:=h
 · exact ⟨a,C,U,E,.inl h⟩
 · exact ⟨_,C,U,E,.inr ⟨b,cur,z,U,hb,by rw [hm.dL b (dq.1 A).1 (fun J=>I b J cur z A)]; exact A,L⟩⟩
theorem Tg.wk {w w':ah} {B e n:Nat} {v:ag} {xs:List ag} (h:Tg w B e n v xs) (hm:Wk w w'):Tg w' B e n v xs:=h.md hm fun _ A=>A.elim
theorem gP {w:ah} {B e e' size n:Nat} {v:ag} {xs:List ag} (h:w.ownsRow B e size v n xs) (I:e≠e'):∀ k,v.ownBlock=some k→∀ cur z,w.heap[k]?≠some (.cells cur e' z):=by
 intro k C cur z A;rcases h.2 with ⟨rfl,_⟩ | ⟨g,cap,J,rfl,_,E,_⟩
 · simp [gh] at C
 · simp only [gh,bH] at C;subst C;rw [E] at A;simp only [bH,EE] at A;exact I A.2.1
theorem Tg.mono {w:ah} {B B' e n:Nat} {v:ag} {xs:List ag} (h:Tg w B e n v xs) (A:B'≤B):Tg w B' e n v xs:=by grind [Tg]
def fw (b:UInt8):Bool:=decide (33≤b.toNat∧b.toNat≠127)
def fT (w:List UInt8):Bool:=w.all fw
def nq (w:List UInt8):Bool:=decide (1≤w.length∧w.length≤64∧fT w=true)
theorem jP {α:Type} {l:List α} {i:Nat} {d:α} (h:i < l.length):l.getD i d∈l:=by
 rw [cn,bt h]; exact List.getElem_mem h
theorem JC {α:Type} {l:List α} {x:α} (d:α) (h:x∈l):∃ i,i < l.length∧l.getD i d=x:=by
 obtain ⟨i,hi,rfl⟩:=List.mem_iff_getElem.1 h;exact ⟨i,hi,by rw [cn,bt hi]; rfl⟩
theorem zg {α:Type} {f:α→Bool} {l:List α} {i:Nat} (d:α) (h:i < l.length) (h1:f (l.getD i d)=false):l.all f=false :=by
 rw [List.all_eq_false]; exact ⟨_,jP h,by rw [h1]; exact c9⟩
theorem zh {α:Type} {f:α→Bool} {l:List α} (d:α) (h:∀ i,i < l.length→f (l.getD i d)=true):l.all f=true :=by
 rw [ES]; intro x A; obtain ⟨i,hi,rfl⟩:=JC d A; exact h i hi
theorem qf {w:List UInt8} {i:Nat} (h:i < w.length) (h1:fw (w.getD i 0)=false):fT w=false :=zg 0 h h1
theorem r8 {w:List UInt8} (h:∀ i,i < w.length→fw (w.getD i 0)=true):fT w=true :=zh 0 h
def lets (s:List UInt8):List UInt8:=s.foldl (fun a b=>if b∈a then a else a++ [b]) []
def letE (s:List UInt8):List UInt8×Nat:=if s= []∨fT s=false then ([],21) else (lets s,0)
theorem l6 {s:List UInt8} {i:Nat} (h:i < s.length):lets (s.take<|i+1)=if s.getD i 0∈lets (s.take i) then lets (s.take i) else lets (s.take i)++ [s.getD i 0]:=by
 unfold lets;rw [Du s i 0 h,List.foldl_append]; rfl
theorem wG (s:List UInt8):(lets s).length≤s.length:=by
 have key:∀ (s a:List UInt8),(s.foldl (fun a b=>if b∈a then a else a++ [b]) a).length≤a.length+s.length:=by
  intro s
  induction s with
  | nil=>intro a; simp
  | cons b s ih=>
    intro a;rw [iC,dm];split
    · have :=ih a; omega
    · have :=ih (a++ [b]); rw [bK,mz] at this; omega
 have :=key s [];simpa [lets] using this
def marksOf (a:List UInt8):List ag:=(iZ 256).map fun k=> .bool<|decide (eX k∈a)
theorem BU (a:List UInt8):(marksOf a).length=256:=by simp [marksOf]
theorem Jt (a:List UInt8) (b:UInt8):(marksOf a)[b.toNat]? =some (.bool<|decide (b∈a)):=by
 have :=kF b;unfold marksOf;rw [eV,uu ab];simp
theorem Jv (a:List UInt8) (b:UInt8):(marksOf a).set b.toNat (.bool true)=marksOf (a++ [b]):=by
 apply um;intro k;rw [List.getElem?_set,BU];unfold marksOf;rw [eV,eV];by_cases C:k < 256
 · rw [uu C];simp only [fC];have he:(eX k=b)↔b.toNat=k:=by
    constructor
    · rintro rfl; simp; omega
    · rintro rfl; simp
   by_cases h:b.toNat=k
   · have A:=he.2 h;simp [h,C,A]
   · have A:¬eX k=b:=fun e=>h<|he.1 e;simp [h,A]
 · have :(iZ 256)[k]? =none:=jt<|by simp; omega
   have hb:=kF b;rw [this];simp; omega
theorem Ju:marksOf []=dr 256 (.bool false):=by
 unfold marksOf;apply um;intro k;rw [eV,List.getElem?_replicate];by_cases A:k < 256
 · rw [uu A]; simp [A]
 · rw [jt (by simp; omega)]; simp [A]
theorem Bd.new {T e b:Nat} {w:ah} (h:w.heap[b]? =some (.cells [ui none,.slice none 0 0].toArray T (0,0))):Bd T e w b (.slice none 0 0) []:=
 ⟨⟨none,h,.inl rfl⟩,eT _ _ _ _,by simp⟩
theorem Bd.step {T e b:Nat} {w0 w w':ah} {A:ag} {l:List UInt8} (h:Bd T e w b A l) (C:Wk w0 w) (E:Md (BF b A) w w') (hb:w0.heap.size≤b):Wk w0 w':=
 Md.trans' C E fun k J I=>by have :=h.sD I; omega
theorem Bd.LI {T e b:Nat} {w0 w w':ah} {A:ag} {l:List UInt8} (h:Bd T e w b A l) (C:Wk w0 w) (E:Md (fun k=>A.ownBlock=some k) w w') (hb:w0.heap.size≤b):Wk w0 w':=
 Md.trans' C E fun k J I=>by have :=h.sD (.inr I); omega
end Go.Hb
section
namespace Go.Hb
def kI (P:av) (t:aw):Option (Nat×Nat):=
 match P.underlying t with
 | some (.array n e)=>(P.info? e).map fun i=>(n,i.size)
 | _=>none
section
variable {P:av} {N:Fm} {σ:Nat→ag} {w:ah} {dst:Option Nat} {ty:aw} {pos :String} {af:Array bR} {g:Option (Nat×Bool)} {x y:aY}
theorem jj {t n A b off :Nat} {k:bw} {i:Int} (he:kI P t=some (n,A)) (C:ev N σ x= .pointer (some ⟨b,off,none⟩)) (E:ev N σ y= .int k i) (h0:0≤i∧i < n):
 (execOp (ev N σ) ⟨dst,.indexAddr t x y,ty,pos,af,g⟩).run P w= .ok (.value<|.pointer<|some ⟨b,off+i.toNat*A,none⟩) w:=by
 unfold kI at he;cases hd:P.underlying t with
 | none=>rw [hd] at he; cases he
 | some d=>
   rw [hd] at he;cases d <;> first | (cases he; done) | skip
   rename_i m e;cases hi:P.info? e with
   | none=>simp [hi] at he
   | some j=>
     simp only [hi,fC,bH,hZ] at he;obtain ⟨rfl,rfl⟩:=he;simp [execOp,Ex,nU,C,E,asIntOf,bA hd,h0.1,h0.2,sizeOf,dh hi,eJ]
end
theorem Jw {h:Array Obj} {b:Nat} {a:List UInt8} (A:aA h b (marksOf a)) (c:UInt8):Hb.ay h b (0 +((c.toNat:Nat):Int).toNat*1)=some (.bool<|decide (c∈a)):=by
 rw [A.ay,show 0 +((c.toNat:Nat):Int).toNat*1=c.toNat from by omega]; exact Jt a c
theorem Jx {h:Array Obj} {b:Nat} {a:List UInt8} {c:UInt8} (A:aA h b ((marksOf a).set (0 +((c.toNat:Nat):Int).toNat*1)<|.bool true)):aA h b (marksOf<|a++ [c]):=by
 rw [show 0 +((c.toNat:Nat):Int).toNat*1=c.toNat from by omega,Jv] at A; exact A
end Go.Hb
end
section
namespace Go.Hb
section
variable {P:av} {N:Fm} {σ:Nat→ag} {w:ah} {fn:Func} {R:ag→ah→Prop}
theorem Jn {t b off :Nat} {v:ag} (hu:db P t=some none) (A:Hb.ay w.heap b off =some v):(loadVar t ⟨b,off,none⟩).run P w= .ok v w:=by
 have C:w.cell? ⟨b,off,none⟩=some v:=by rw [jc]; exact A
 unfold db at hu;cases hd:P.underlying t with
 | none=>rw [hd] at hu; cases hu
 | some d=>
   rw [hd] at hu;cases d <;> first
    | (simp only [fQ] at hu; obtain ⟨_,_,h⟩:=hu; cases h; done)
    | simp [loadVar,isAgg,bA hd,run_load,C]
theorem Jo {t n b off :Nat} {cs:List ag} (hu:db P t=some (some n)) (I:cs.length=n) (C:∀ j,j < n→Hb.ay w.heap b (off+j)=cs[j]?):(loadVar t ⟨b,off,none⟩).run P w= .ok (.agg cs.toArray) w:=by
 have E:(loadCells ⟨b,off,none⟩ n).run P w= .ok cs.toArray w:=by
  subst I;refine run_loadCells_list (P:=P) w ⟨b,off,none⟩ cs fun j v A=> ?_;rw [eJ,jc];exact (C j (cB.1 A).1).trans A
 unfold db at hu;cases hd:P.underlying t with
 | none=>rw [hd] at hu; cases hu
 | some d=>
   rw [hd] at hu;cases hi:P.info? t with
   | none=>simp [EG,hi] at hd
   | some i=>
     rw [hi] at hu;cases d <;> first
      | (cases hu; done)
      | (simp only [fC,bH] at hu; subst hu
         simp [loadVar,isAgg,bA hd,sizeOf,dh hi,E])
def ib (P:av) (N:Fm) (σ:Nat→ag) (w:ah):ResultVar→ag→Prop
 | .tmp t,v=>ev N σ (.tmp t)=v
 | .cell a t,v=> ∃ ad,ev N σ (.tmp a)= .pointer (some ad)∧(loadVar t ad).run P w= .ok v w
theorem lh {t:Tmp} :ib P N σ w (.tmp t) (ev N σ<|.tmp t):=rfl
theorem jo {a t b off :Nat} {v:ag} (C:ev N σ (.tmp a)= .pointer (some ⟨b,off,none⟩)) (hu:db P t=some none) (A:Hb.ay w.heap b off =some v):ib P N σ w (.cell a t) v:=⟨_,C,Jn hu A⟩
theorem iq {a t n b off :Nat} {cs:List ag} (E:ev N σ (.tmp a)= .pointer (some ⟨b,off,none⟩)) (hu:db P t=some (some n)) (C:cs.length=n) (A:∀ j,j < n→Hb.ay w.heap b (off+j)=cs[j]?):ib P N σ w (.cell a t) (.agg cs.toArray):=⟨_,E,Jo hu C A⟩
def ir (tmps:Array ag):ResultVar→Sem ag
 | .tmp t=>pure<|tmps.getD t undef
 | .cell a t=>do loadVar t (← asAddr (tmps.getD a undef))
theorem gw {r:ResultVar} {v:ag} (h:ib P N σ w r v):(ir (act N σ).tmps r).run P w= .ok v w:=by
 cases r with
 | tmp t=>
   show lC P (pure<|(act N σ).tmps.getD t undef) w=_;rw [nj]; simp only [ib] at h; rw [h]; rfl
 | cell a t=>
   obtain ⟨ad,h1,A⟩:=h;show lC P (do loadVar t (← asAddr ((act N σ).tmps.getD a undef))) w=_;rw [nj,h1];simp [asAddr,A]
theorem CH {tmps:Array ag} {r:ResultVar} {v:ag} (h:fn.results= #[r]) (h1:(ir tmps r).run P w= .ok v w):(results fn tmps).run P w= .ok v w:=by
 have A:(results fn tmps)=(do let vs ← #[r].mapM (ir tmps); pure (if h:vs.size=1 then vs[0] else .tuple vs)):=by
  unfold results; rw [h]; rfl
 rw [A]; simp [yQ,h1]
theorem tu {tmps:Array ag} {r s:ResultVar} {v u:ag} (h:fn.results= #[r,s]) (h1:(ir tmps r).run P w= .ok v w) (A:(ir tmps s).run P w= .ok u w):(results fn tmps).run P w= .ok (.tuple #[v,u]) w:=by
 have C:(results fn tmps)=(do let vs ← #[r,s].mapM (ir tmps); pure (if h:vs.size=1 then vs[0] else .tuple vs)):=by
  unfold results; rw [h]; rfl
 rw [C]; simp [yQ,h1,A]
theorem qx {r:ResultVar} {v:ag} (h:fn.results= #[r]) (h1:ib P N σ w r v) (A:R v w):fin P fn N R .ret σ w:=⟨v,CH h (gw h1),A⟩
theorem sA {r s:ResultVar} {v u:ag} (h:fn.results= #[r,s]) (h1:ib P N σ w r v) (A:ib P N σ w s u) (C:R (.tuple #[v,u]) w):fin P fn N R .ret σ w:=⟨_,tu h (gw h1) (gw A),C⟩
end
end Go.Hb
end
section
namespace Go.Hb
def eQ (P:av) (N:Fm) (c:bP) (B:bd→Act→ah→Prop) (σ:Nat→ag) (w:ah):Prop :=c.wpIn (fe N.r) 0 P B (act N σ) w
def qb (N:Fm) (B:bd→Act→ah→Prop):bd→(Nat→ag)→ah→Prop :=fun e σ w=>B e (act N σ) w
section
variable {P:av} {N:Fm} {B:bd→Act→ah→Prop} {σ:Nat→ag} {w:ah}
theorem cP {x y:bP} (h:eQ P N x (Exit.then (y.wpIn (fe N.r) 0 P B) B) σ w):eQ P N (.seq x y) B σ w:=wpIn_seq h
theorem bC {y:bP} (h:eQ P N y B σ w):qb N (Exit.then (y.wpIn (fe N.r) 0 P B) B) .normal σ w:=h
theorem xo {y:Act→ah→Prop} (h:qb N B .ret σ w):qb N (Exit.then y B) .ret σ w:=h
theorem CI (h:qb N B .ret σ w):eQ P N .ret B σ w:=wpIn_ret h
theorem Ll {x y:bP} (A:(Nat→ag)→ah→Prop) (h:eQ P N x (Exit.then (fun a w=> ∃ σ,a=act N σ∧A σ w) B) σ w) (I:∀ σ w,A σ w→eQ P N y B σ w):eQ P N (.seq x y) B σ w:=by
 refine wpIn_seq<|wpIn_mono h ?_;intro e a w C;cases e with
 | normal=>obtain ⟨σ,rfl,E⟩:=C; exact I _ _ E
 | _=>exact C
theorem zN {A:(Nat→ag)→ah→Prop} (h:A σ w):qb N (Exit.then (fun a w=> ∃ σ,a=act N σ∧A σ w) B) .normal σ w:=⟨σ,rfl,h⟩
theorem K5 {c:bP} {L:List (Nat×ag)} (h:Sl σ L) (A:eQ P N c B (pC σ L) w):eQ P N c B σ w:=by rw [tQ h] at A; exact A
theorem cO {c:bP} (h:bu P N c (qb N B) σ w):eQ P N c B σ w:=by
 unfold bu at h;refine wpIn_mono h ?_;intro e a w A;cases e with
 | panic c=>obtain ⟨σ,rfl,C⟩:=A; exact C σ fun _ _=>rfl
 | outgrown=>exact A.elim
 | _=>obtain ⟨σ,rfl,C⟩:=A; exact C
end
theorem ng (fn:Func) (args:List ag) (F:List Nat) (hn:bh args.length fn.ntmps=true):({tmps:=args.toArray++nM (fn.ntmps - args.toArray.size) undef,defers:= []} :Act)=act ⟨fn.ntmps,[],F,none⟩ (du args):=by
 have C:args.length≤fn.ntmps:=by simpa using hn
 refine rU U fun i=> ?_;rw [jb];simp only [du,cn,eW];by_cases h1:i < args.length
 · rw [D8 (by simpa using h1),if_pos ab];simp [h1]
 · rw [D9 (by simpa using h1)];simp only [eW,Eb];by_cases A:i < fn.ntmps
   · rw [if_pos ab,if_pos A,jt ab]; rfl
   · rw [if_neg ab,if_neg A]
abbrev Bm (P:av) (fn:Func) (R:ag→ah→Prop):bd→Act→ah→Prop :=bodyPostM eR 0 P fn (fun e w'=> ∃ v,e= .returned v∧R v w')
theorem Az {P:av} {f:dU} {N:Nat} {fn:Func} {c:bP} {args:List ag} {w:ah} {R:ag→ah→Prop} (F:List Nat) (C:P.funcs[f]? =some fn) (hb:fn.body=some c)
 (A:fn.ntmps=N) (hn:bh args.length N=true) (h:eQ P ⟨N,[],F,none⟩ c (Bm P fn R) (du args) w):bo P f args.toArray w R:=by
 subst A;refine callsIn_wide.1<|callsIn_of_wp_marks (F:=eR) (n:=0) C hb trivial ?_;rw [ng fn args F hn];exact h
section
variable {P:av} {n:Nat} {F:List Nat} {σ:Nat→ag} {w:ah} {fn:Func} {R:ag→ah→Prop}
theorem IZ {e:bd} (he:e= .ret∨e= .normal) {v:ag} (hr:(results fn (act ⟨n,[],F,none⟩ σ).tmps).run P w= .ok v w) (A:R v w):qb ⟨n,[],F,none⟩ (Bm P fn R) e σ w:=by
 rcases he with rfl | rfl <;> exact ⟨v,hr,v,rfl,A⟩
theorem AN {t:Nat} {v:ag} (h:fn.results= #[.tmp t]) (C:ev ⟨n,[],F,none⟩ σ (.tmp t)=v) (A:R v w):qb ⟨n,[],F,none⟩ (Bm P fn R) .ret σ w:=
 IZ (.inl rfl) (by rw [results_tmp h,nj,C]) A
end
theorem gd {w:ah} {B t size n pp C:Nat} {v:ag} {xs:List ag} {cs:Array ag} {z:Nat×Nat} (h:w.ownsRow B t size v n xs) (hp:w.heap[pp]? =some (.cells cs C z)) (I:t≠C):v.ownBlock≠some pp:=by
 intro A;rcases h.2 with ⟨h1,_⟩ | ⟨g,cap,cur,h1,_,E,_⟩
 · rw [h1] at A; simp [gh] at A
 · rw [h1] at A;simp only [gh,bH] at A;subst A;rw [E] at hp;simp only [bH,EE] at hp;exact I hp.2.1
section
variable {P:av} {N:Fm} {σ:Nat→ag} {w:ah} {dst:Option Nat} {ty:aw} {pos :String} {af:Array bR} {g:Option (Nat×Bool)} {x:aY} {K:(Nat→ag)→ah→Prop}
theorem uZ {e:aw} {v:ag} (A:ev N σ x=v) (h1:v.oneCell'=true) (k:∀ b w',b=w.heap.size→Nw w w'→w'.heap[b]? =some (.cells [v].toArray e (0,0))→K (dv σ dst<|.pointer<|some ⟨b,0,none⟩) w'):
 bX P N ⟨dst,.box e x,ty,pos,af,g⟩ σ w K:=by
 refine lu (v:=fun b=> .pointer<|some ⟨b,0,none⟩) (ob:= .cells [v].toArray e (0,0)) ?_ k;have :=m9 h1;simp [execOp,yE,A,this,newVar,newRow]
end
theorem wW (w:ah) (k:Nat) (o:Obj):Md (fun j=>j=k) w (w.putObj k o):=
 ⟨rfl,rfl,by simp [World.putObj],fun j _ A=>World.putObj_heap_other A⟩
def bY (w w':ah):Prop := ∀ (k:Nat) (o:Obj),w.heap[k]? =some o→((∀ cur e z,o≠.cells cur e z)∧∀ es c,o≠.map es c)→w'.heap[k]? =some o
theorem bY.trans {a b c:ah} (h:bY a b) (h':bY b c):bY a c:=fun k o A hn=>h' k o (h k o A hn) hn
theorem bY.md {F:Nat→Prop} {w w':ah} (hm:Md F w w') (C:∀ k,F k→∃ cur e z,w.heap[k]? =some (.cells cur e z)):bY w w':=fun k o A hn=>by
 rw [hm.dL k (dq.1 A).1 (fun E=>by obtain ⟨c,e,z,h⟩:=C k E; rw [A] at h; exact hn.1 _ _ _<|Option.some.inj h)]; exact A
theorem bY.wk {w w':ah} (hm:Wk w w'):bY w w':=bY.md hm fun _ h=>h.elim
theorem oW {w:ah} {B e size n:Nat} {v:ag} {xs:List ag} (h:w.ownsRow B e size v n xs):∀ k,v.ownBlock=some k→∃ cur e z,w.heap[k]? =some (.cells cur e z):=by
 intro k A;rcases h.2 with ⟨rfl,_⟩ | ⟨g,cap,E,rfl,_,C,_⟩
 · simp [gh] at A
 · simp only [gh,bH] at A; subst A; exact ⟨_,_,_,C⟩
section
variable {F:Nat→Prop} {W W':ah} {B:Nat}
end
theorem za (N:Fm):∀ (l:List (Tmp×ag)) (σ:Nat→ag),l.foldl (fun t p=>t.setIfInBounds p.1 p.2) (act N σ).tmps=(act N<|l.foldl (fun s p=>aX s p.1 p.2) σ).tmps:=by
 intro l
 induction l with
 | nil=>intro σ; rfl
 | cons p l ih=>
   intro σ;rw [iC,iC,← ih];congr 1;have :=congrArg Act.tmps<|eI N σ (some p.1) p.2;exact this
section
variable {P:av} {N:Fm} {ops:Array aC} {Q:bd→(Nat→ag)→ah→Prop} {rest:List aC} {σ:Nat→ag} {w:ah} {d':Option Nat} {d:Nat} {op:Op} {ty:aw} {pos :String} {af:Array bR} {v:ag}
def kv (P:av) (N:Fm) (ops:Array aC) (Q:bd→(Nat→ag)→ah→Prop) (l:List aC) (σ:Nat→ag) (w:ah):Prop :=wpListIn (fe N.r) 0 P ops (lift N Q) l (act N σ) w
theorem Kp {id:Nat} {l:List aC} (h:kv P N l.toArray Q l σ w):bu P N (.region id l.toArray false) Q σ w:=by
 unfold bu; exact wpIn_region_lit h
theorem JM (h:Q .normal σ w):kv P N ops Q [] σ w:=⟨σ,rfl,h⟩
def xd (o:Op):Bool:=match o with | .defer _=>false | _=>true
theorem JQ {o:Op} (h:xd o=true):∀ c,o≠.defer c:=fun c e=>by subst e; cases h
theorem ey (hn:xd op=true) (h:bX P N ⟨d',op,ty,pos,af,none⟩ σ w (fun σ w=>kv P N ops Q rest σ w)):kv P N ops Q (⟨d',op,ty,pos,af,none⟩::rest) σ w:=by
 unfold kv wpListIn;rw [if_pos (fl _ rfl _)];refine ⟨fun f _=>ka _ f,?_⟩;rw [mS,rA _ _ _ (JQ hn)];unfold bX gB at h;generalize (execOp (act N σ).eval ⟨d',op,ty,pos,af,none⟩).run P w=x at h ⊢;cases x with
 | ok n w'=>
   cases n <;> simp only [iA,rB] at h ⊢ <;>
    first
     | (obtain ⟨σ',ha,A⟩:=h; rw [ha]; exact A)
     | (refine ⟨fun h0=>(by rw [mR] at h0; cases h0),En (sB h) fun e w'' he=> ?_⟩
        cases e with
        | returned v=>obtain ⟨σ',ha,A⟩:=he; simp only; rw [ha]; exact A
        | panicked c=>exact he.elim
        | outgrown=>obtain ⟨_,_,C⟩:=he; exact C.elim)
     | (refine ⟨fun h0=>(by rw [mR] at h0; cases h0),EH (AP h) fun v w'' he=> ?_⟩
        obtain ⟨σ',ha,A⟩:=he; rw [ha]; exact A)
 | halt x w'=>cases x <;> simp only [iA] at h
theorem py (hn:xd op=true) (h:(execOp (ev N σ) ⟨some d,op,ty,pos,af,none⟩).run P w= .ok (.value v) w) (k:kv P N ops Q rest (aX σ d v) w):kv P N ops Q (⟨some d,op,ty,pos,af,none⟩::rest) σ w:=
 ey hn (gV h k)
end
end Go.Hb
end
