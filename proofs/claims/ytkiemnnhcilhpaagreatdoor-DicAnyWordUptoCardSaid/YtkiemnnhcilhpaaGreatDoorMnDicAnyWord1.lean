/-
  Walks and plain laws that the law rests on, laid together. No conditions but those that each theorem names.
-/
import Derived.WalkKit
import Derived.OrdersHeld
import Derived.TacticsIn
import Derived.Lib.Strings
import Derived.Lib.UnsafeStr
import Derived.Laws.MakeOwn
import Derived.Laws.StructEq
import Derived.SliceStrings
import Derived.Carry
import Derived.JoinedCond
import Derived.ProofKit
import Derived.OpenShut
import Derived.Test.YtkiemnnhcilhpaaGreatDoorRows
import Derived.Sort.AssemblyPlain
import Derived.RangeFuncFrom
import Derived.RangeFuncLeaves
import Derived.Recover
import Derived.Laws.OwnMore
import Derived.Lib.Bytealg
import Derived.Lib.SliceRun
import Derived.Test.YtkiemnnhcilhpaaGreatDoorChecked
set_option linter.unusedVariables false
section
namespace Go.Hb
open Go.RowKit
structure Fm where
 n:Nat
 D:List Deferred
 F:List Nat
 r:Option Nat
def bY (σ:Nat→Value) (d:Nat) (v:Value):Nat→Value:=fun i=>cond (Nat.beq i d) v (σ i)
def dU (σ:Nat→Value):Option Nat→Value→Nat→Value
 | some d,v=>bY σ d v
 | none,_=>σ
def act (N:Fm) (σ:Nat→Value):Act:=⟨((List.range N.n).map σ).toArray,N.D⟩
def ev (N:Fm) (σ:Nat→Value):Operand→Value
 | .tmp t=>cond (Nat.blt t N.n) (σ t) undef
 | .const v=>v
 | .global g=> .pointer (some ⟨g,0,none⟩)
 | .func f=> .func (.func f) #[] #[]
theorem jo (N:Fm) (σ:Nat→Value) (t:Nat):(act N σ).tmps[t]? =if t < N.n then some (σ t) else none:=by
 simp only [act,List.getElem?_toArray,List.getElem?_map]
 split
 · rename_i h; rw [List.getElem?_range h]; rfl
 · rename_i h; rw [List.getElem?_eq_none (by simpa using h)]; rfl
theorem et (N:Fm) (σ:Nat→Value):(act N σ).eval=ev N σ:=by
 funext x
 cases x with
 | tmp t=>
   simp only [Act.eval,ev,Array.getD_eq_getD_getElem?,jo]
   by_cases h:t < N.n
   · rw [if_pos h,show Nat.blt t N.n=true from by simpa using h]; rfl
   · rw [if_neg h,show Nat.blt t N.n=false from by cases hx:Nat.blt t N.n <;> simp_all [Nat.blt,Nat.ble_eq] <;> omega]; rfl
 | _=>rfl
theorem mU {a b:Act} (hd:a.defers=b.defers) (c:∀ i:Nat,a.tmps[i]? =b.tmps[i]?):a=b:=by
 cases a; cases b
 simp only at hd c
 subst hd
 congr 1
 exact Array.ext_getElem? c
theorem fI (N:Fm) (σ:Nat→Value) (dst:Option Nat) (v:Value):(act N σ).put dst v=act N (dU σ dst v):=by
 cases dst with
 | none=>rfl
 | some d=>
   refine mU rfl fun i=> ?_
   have h0:((act N σ).put (some d) v).tmps=(act N σ).tmps.setIfInBounds d v:=rfl
   rw [h0,Array.getElem?_setIfInBounds,jo,jo]
   have hs:(act N σ).tmps.size=N.n:=by simp [act]
   simp only [dU,bY]
   by_cases a:i=d
   · subst a
     rw [hs]
     have hb:Nat.beq i i=true :=by simp
     by_cases h:i < N.n
     · rw [if_pos rfl,if_pos h,if_pos h,hb]; rfl
     · rw [if_pos rfl,if_neg h,if_neg h]
   · rw [if_neg (fun e=>a e.symm)]
     have hb:Nat.beq i d=false :=by
      cases hx:Nat.beq i d
      · rfl
      · exact absurd (Nat.eq_of_beq_eq_true hx) a
     rw [hb]; rfl
theorem kJ {σ:Nat→Value} {i:Nat} {v:Value} (h:σ i=v):bY σ i v=σ:=by
 funext j
 unfold bY
 cases hx:Nat.beq j i
 · rfl
 · have :=Nat.eq_of_beq_eq_true hx; subst this; exact h.symm
def lift (N:Fm) (Q:Exit→(Nat→Value)→World→Prop):Exit→Act→World→Prop
 | .panic c,a,w=> ∃ σ,a=act N σ∧∀ j,(∀ i∈N.F,j i=σ i)→Q (.panic c) j w
 | .outgrown,_,_=>False
 | e,a,w=> ∃ σ,a=act N σ∧Q e σ w
def fe:Option Nat→Fence
 | none=>Fence.wide
 | some l=>Fence.wide.inRound l
theorem pz (r:Option Nat):(fe r).round=r:=by cases r <;> rfl
theorem nA (r:Option Nat) (f:FuncId):(fe r).fn f:=by cases r <;> trivial
theorem l6 (r:Option Nat):(fe r).depth=none:=by cases r <;> rfl
theorem s7 {r:Option Nat} {n:Nat} {P:Program} {f:FuncId} {args:Array Value} {w:World} {R:Ending→World→Prop} (h:Calls P f args w R):CallsIn (fe r) n P f args w R:=by
 cases r
 · exact callsIn_wide.2 h
 · exact (callsIn_wide (n:=n)).2 h
theorem s8 {r:Option Nat} {n:Nat} {P:Program} {row:String} {args:Array Value} {w:World} {R:Value→World→Prop} (h:Rows P row args w R):RowsIn (fe r) n P row args w R:=fun c cs _=>by
 obtain ⟨v,w',a,hs⟩:=h c cs
 refine ⟨v,w',a,?_⟩
 cases r
 · exact stepsIn_wide.2 hs
 · exact stepsIn_wide.2 hs
def uE (ops:List Oper):Bool:=ops.all fun o=>match o.op with | .defer _=>false | _=>true
def ly (r:Option Nat) (ops:List Oper):Bool:=match r with | none=>true | some _=>uE ops
theorem DL {l:List Oper} (h:uE l=true):∀ o∈l,∀ c,o.op≠.defer c:=fun o a c e=>by
 have :=List.all_eq_true.1 h o a
 rw [e] at this
 cases this
theorem pT {r:Option Nat} {P:Program} {ops:Array Oper} {Q:Exit→Act→World→Prop} (c:¬LetsOut Q) (hr:ly r ops.toList=true):∀ (l:List Nat) (a:Act) (w:World),wpOps P ops Q l a w→wpOpsIn (fe r) 0 P ops Q l a w:=by
 intro l
 induction l with
 | nil=>exact fun _ _ h=>h
 | cons i l ih=>
   intro a w h
   simp only [wpOps] at h
   simp only [wpOpsIn]
   cases ho:ops[i]? with
   | none=>simp only [ho] at h ⊢; exact ih a w h
   | some o=>
     simp only [ho] at h ⊢
     by_cases hw:Region.wanted o (yielded ops a.tmps)=true
     · rw [if_pos hw] at h ⊢
       rcases h with h | h
       · refine ⟨fun f _=>nA r f,?_⟩
         rw [pz]
         have j:o.semAt r a.eval=execOp a.eval o:=by
          cases r with
          | none=>rfl
          | some k=>exact Oper.semAt_eq _ _ _ (DL hr o (Array.mem_toList_iff.2 (Array.mem_of_getElem? ho)))
         rw [j]
         unfold Oper.wp at h
         generalize (execOp a.eval o).run P w=x at h
         cases x with
         | ok n w'=>
           cases n <;> simp only [Oper.upon,Oper.uponIn] at h ⊢ <;>
            first
             | exact ih _ _ h
             | (refine ⟨fun h0=>(by rw [l6] at h0; cases h0),CallsIn.mono (s7 h) fun e w'' he=> ?_⟩
                cases e <;> first | exact ih _ _ he | exact he)
             | exact ⟨fun h0=>(by rw [l6] at h0; cases h0),RowsIn.mono (s8 h) fun v w'' he=>ih _ _ he⟩
         | halt x w'=>cases x <;> simp only [Oper.upon,Oper.uponIn] at h ⊢ <;> exact h
       · exact absurd h.2 c
     · rw [if_neg hw] at h ⊢
       exact ⟨fun f _=>nA r f,ih _ _ h⟩
def bL (P:Program) (N:Fm) (c:Code) (Q:Exit→(Nat→Value)→World→Prop) (σ:Nat→Value) (w:World):Prop :=
 c.wpIn (fe N.r) 0 P (lift N Q) (act N σ) w
def cB (P:Program) (N:Fm) (ops:Array Oper) (Q:Exit→(Nat→Value)→World→Prop) (l:List Oper) (σ:Nat→Value) (w:World):Prop :=
 wpList P ops (lift N Q) l (act N σ) w
def hZ (K:(Nat→Value)→World→Prop) (Q:Exit→(Nat→Value)→World→Prop):Exit→(Nat→Value)→World→Prop
 | .normal,σ,w=>K σ w
 | e,σ,w=>Q e σ w
def j0 (id:Nat) (Q:Exit→(Nat→Value)→World→Prop):Exit→(Nat→Value)→World→Prop
 | .exit a,σ,w=>if a=id then Q .normal σ w else Q (.exit a) σ w
 | e,σ,w=>Q e σ w
section
variable {P:Program} {N:Fm} {Q:Exit→(Nat→Value)→World→Prop} {σ:Nat→Value} {w:World} {K:(Nat→Value)→World→Prop}
theorem Dc {Q i:Exit→(Nat→Value)→World→Prop} (h:∀ e σ w,Q e σ w→i e σ w) (e:Exit) (a:Act) (w:World):lift N Q e a w→lift N i e a w:=by
 cases e <;> first | exact fun h=>h.elim | exact fun ⟨σ,ha,c⟩=>⟨σ,ha,h _ _ _ c⟩ | exact fun ⟨σ,ha,c⟩=>⟨σ,ha,fun p j=>h _ _ _ (c p j)⟩
theorem Gv {a:Exit→(Nat→Value)→World→Prop} {c:Code} (h:∀ e σ w,Q e σ w→a e σ w) (hc:bL P N c Q σ w):bL P N c a σ w:=
 wpIn_mono hc (Dc h)
theorem tn (h:K σ w):hZ K Q .normal σ w:=h
theorem te (id:Nat) (h:Q (.exit id) σ w):hZ K Q (.exit id) σ w:=h
theorem tr (h:Q .ret σ w):hZ K Q .ret σ w:=h
theorem bn {id:Nat} (h:Q .normal σ w):j0 id Q .normal σ w:=h
theorem be {id:Nat} (h:Q .normal σ w):j0 id Q (.exit id) σ w:=by simpa only [j0,if_true] using h
theorem iN {id a:Nat} (hne:a≠id) (h:Q (.exit a) σ w):j0 id Q (.exit a) σ w:=by simpa only [j0,if_neg hne] using h
theorem br {id:Nat} (h:Q .ret σ w):j0 id Q .ret σ w:=h
theorem sq {x y:Code} (h:∀ K:(Nat→Value)→World→Prop,(∀ σ w,bL P N y Q σ w→K σ w)→bL P N x (hZ K Q) σ w):bL P N (.seq x y) Q σ w:=by
 refine wpIn_seq (wpIn_mono (h (fun σ w=>bL P N y Q σ w) (fun _ _ h=>h)) ?_)
 intro e a w hl
 cases e with
 | normal=>obtain ⟨σ,rfl,i⟩:=hl; exact i
 | panic c=>exact hl
 | outgrown=>exact hl
 | _=>obtain ⟨σ,rfl,i⟩:=hl; exact ⟨σ,rfl,i⟩
theorem dm {x y:Code} (a:(Nat→Value)→World→Prop) (h:bL P N x (hZ a Q) σ w) (hk:∀ σ w,a σ w→bL P N y Q σ w):bL P N (.seq x y) Q σ w:=
 sq fun _ i=>Gv (fun e _ _ c=>by cases e <;> first | exact i _ _ (hk _ _ c) | exact c) h
theorem ct {c:Operand} {x y:Code} (hc:ev N σ c= .bool true) (h:bL P N x Q σ w):bL P N (.cond c x y) Q σ w:=
 wpIn_cond_true (by rw [et]; exact hc) h
theorem cf {c:Operand} {x y:Code} (hc:ev N σ c= .bool false) (h:bL P N y Q σ w):bL P N (.cond c x y) Q σ w:=
 wpIn_cond_false (by rw [et]; exact hc) h
theorem cb {c:Operand} {x y:Code} {b:Bool} (hc:ev N σ c= .bool b) (a:b=true→bL P N x Q σ w) (hf:b=false→bL P N y Q σ w):bL P N (.cond c x y) Q σ w:=by
 cases b
 · exact cf hc (hf rfl)
 · exact ct hc (a rfl)
theorem cd {c:Operand} {x y:Code} {p:Prop} [Decidable p] (hc:ev N σ c= .bool (decide p)) (a:p→bL P N x Q σ w) (hf:¬p→bL P N y Q σ w):bL P N (.cond c x y) Q σ w:=
 cb hc (fun h=>a (of_decide_eq_true h)) (fun h=>hf (of_decide_eq_false h))
theorem au {id:Nat} {c:Code} (h:bL P N c (j0 id Q) σ w):bL P N (.block id c) Q σ w:=by
 refine wpIn_block (wpIn_mono h ?_)
 intro e a w hl
 cases e with
 | panic c=>exact hl
 | outgrown=>exact hl
 | exit j=>
   obtain ⟨σ,rfl,i⟩:=hl
   simp only [j0,Exit.inBlock] at i ⊢
   split
   · rename_i e; rw [if_pos e] at i; exact ⟨σ,rfl,i⟩
   · rename_i e; rw [if_neg e] at i; exact ⟨σ,rfl,i⟩
 | _=>obtain ⟨σ,rfl,i⟩:=hl; exact ⟨σ,rfl,i⟩
theorem ext {id:Nat} (h:Q (.exit id) σ w):bL P N (.exit id) Q σ w:=wpIn_exit ⟨σ,rfl,h⟩
theorem aA (h:Q .normal σ w):bL P N .skip Q σ w:=wpIn_skip ⟨σ,rfl,h⟩
theorem rt (h:Q .ret σ w):bL P N .ret Q σ w:=wpIn_ret ⟨σ,rfl,h⟩
theorem fx {c:Code} {v:Value} (i:Nat) (h:σ i=v) (hc:bL P N c Q (bY σ i v) w):bL P N c Q σ w:=by rw [kJ h] at hc; exact hc
theorem lp {c:Code} (q:Nat→(Nat→Value)→World→Prop) (n:Nat) (h0:q n σ w)
 (h:∀ n σ w,q n σ w→bL P N c (hZ (fun Y w'=> ∃ m,m < n∧q m Y w') Q) σ w):bL P N (.loop c) Q σ w:=by
 intro b k cs U hb hr
 have key:∀ n σ w,q n σ w→
  ∃ e s w',lift N Q e s w'∧ArrivesIn (Machine.fenced P (fe N.r)) P (lone (b.atR (act N σ) (.code c:: .inLoop c::k)) cs w) b k cs e s w':=by
  intro n
  induction n using Nat.strongRecOn with
  | _ n ih=>
    intro σ w I
    obtain ⟨e,A,p,hl,i⟩:=h n σ w I b (.inLoop c::k) cs U hb hr
    cases e with
    | normal=>
      obtain ⟨a,rfl,m,hm,J⟩:=hl
      obtain ⟨G,C,V,O,M⟩:=ih m hm a p J
      exact ⟨G,C,V,O,.of_steps (StepsIn.trans i (.one (fenced_calm hb hr rfl) stepR_inLoop)) M⟩
    | exit id=>obtain ⟨a,rfl,j⟩:=hl; exact ⟨.exit id,act N a,p,⟨a,rfl,j⟩,.pass (x:= .inLoop c) rfl (fun _ _=> .inl (by simp)) i⟩
    | goto l=>obtain ⟨a,rfl,j⟩:=hl; exact ⟨.goto l,act N a,p,⟨a,rfl,j⟩,.pass (x:= .inLoop c) rfl (fun _ _=> .inl (by simp)) i⟩
    | ret=>obtain ⟨a,rfl,j⟩:=hl; exact ⟨.ret,act N a,p,⟨a,rfl,j⟩,.pass (x:= .inLoop c) rfl (fun _ _=> .inl (by simp)) i⟩
    | panic E=>exact ⟨.panic E,A,p,hl,.pass (x:= .inLoop c) rfl (fun _ _=> .inl (by simp)) i⟩
    | outgrown=>exact hl.elim
 obtain ⟨e,s,w',j,i⟩:=key _ σ w h0
 exact ⟨e,s,w',j,.of_steps (.one (fenced_calm hb hr rfl) stepR_loop) i⟩
def bD (P:Program) (N:Fm) (o:Oper) (σ:Nat→Value) (w:World) (K:(Nat→Value)→World→Prop):Prop :=
 Oper.wp P o (act N σ) w (fun a w=> ∃ σ,a=act N σ∧K σ w) (fun _ _ _=>False)
theorem Gc {o:Oper} {a:Act} {K i:Act→World→Prop} {Q:Exit→Act→World→Prop} (h:∀ a w,K a w→i a w)
 (r:Result Next) (hh:o.upon P a K (fun _ _ _=>False) r):o.upon P a i Q r:=by
 cases r with
 | ok n w'=>
   cases n <;> simp only [Oper.upon] at hh ⊢ <;>
    first
     | exact h _ _ hh
     | exact Calls.mono hh (fun e w'' he=>by
      cases e with
      | returned v=>exact h _ _ he
      | panicked c=>exact he.elim
      | outgrown=>obtain ⟨_,_,hf⟩:=he; exact hf.elim)
     | exact Rows.mono hh (fun _ _ he=>h _ _ he)
 | halt x w'=>cases x <;> simp only [Oper.upon] at hh ⊢
theorem lM {K:(Nat→Value)→World→Prop} {c:Act→World→Prop} {Q:Exit→Act→World→Prop} {o:Oper} (h:bD P N o σ w K) (hk:∀ σ w,K σ w→c (act N σ) w):o.wp P (act N σ) w c Q:=by
 unfold bD at h
 unfold Oper.wp at*
 exact Gc (fun a w ⟨σ,ha,i⟩=>by subst ha; exact hk _ _ i) _ h
theorem wi {K a:(Nat→Value)→World→Prop} {o:Oper} (h:bD P N o σ w K) (hk:∀ σ w,K σ w→a σ w):bD P N o σ w a:=
 lM h (fun σ w c=>⟨σ,rfl,hk σ w c⟩)
variable {ops:Array Oper} {rest:List Oper} {d:Nat} {op:Op} {ty:TypeId} {pos :String} {af:Array Edge} {d':Option Nat} {v:Value} {o:Oper}
theorem ox (hg:Region.wanted o (yielded ops (act N σ).tmps)=true) (h:bD P N o σ w (fun σ w=>cB P N ops Q rest σ w)):cB P N ops Q (o::rest) σ w:=by
 unfold cB wpList
 rw [if_pos hg]
 exact .inl (lM h (fun _ _ hk=>hk))
theorem iF {K:(Nat→Value)→World→Prop} {w':World} (hr:(execOp (ev N σ) o).run P w= .ok (.value v) w') (hk:K (dU σ o.dst v) w'):bD P N o σ w K:=by
 unfold bD Oper.wp
 rw [et,hr]
 exact ⟨_,fI ..,hk⟩
theorem ff (o:Oper) (hg:o.guard=none) (y:Nat→Option Bool):Region.wanted o y=true :=by simp [Region.wanted,hg]
def iq (ops:Array Oper) (j:Nat):Option Nat:=(ops[j]?).bind (·.dst)
theorem lJ {j t:Nat} {want b:Bool} (hg:o.guard=some (j,want)) (hj:iq ops j=some t) (a:Nat.blt t N.n=true) (hv:σ t= .bool b):
 Region.wanted o (yielded ops (act N σ).tmps)=(b==want):=by
 have h1:yielded ops (act N σ).tmps j=some b:=by
  unfold yielded
  unfold iq at hj
  rw [hj]
  simp only [Option.bind_some,jo]
  rw [if_pos (Nat.lt_of_lt_of_le (Nat.lt_succ_self t) (Nat.le_of_ble_eq_true a)),hv]
 simp only [Region.wanted,hg,h1]
 cases b <;> cases want <;> rfl
theorem Gi {j t:Nat} {want:Bool} (hg:o.guard=some (j,want)) (hj:iq ops j=some t) (a:Nat.blt t N.n=true) (hv:σ t=undef):
 Region.wanted o (yielded ops (act N σ).tmps)=false :=by
 have h1:yielded ops (act N σ).tmps j=none:=by
  unfold yielded
  unfold iq at hj
  rw [hj]
  simp only [Option.bind_some,jo]
  rw [if_pos (Nat.lt_of_lt_of_le (Nat.lt_succ_self t) (Nat.le_of_ble_eq_true a)),hv]; rfl
 simp only [Region.wanted,hg,h1]
 rfl
theorem p (h:(execOp (ev N σ) ⟨some d,op,ty,pos,af,none⟩).run P w= .ok (.value v) w) (k:cB P N ops Q rest (bY σ d v) w):
 cB P N ops Q (⟨some d,op,ty,pos,af,none⟩::rest) σ w:=
 ox (ff _ rfl _) (iF h k)
theorem pg {j t:Nat} {want:Bool} (hj:iq ops j=some t) (a:Nat.blt t N.n=true) (hv:σ t= .bool want)
 (h:(execOp (ev N σ) ⟨some d,op,ty,pos,af,some (j,want)⟩).run P w= .ok (.value v) w) (k:cB P N ops Q rest (bY σ d v) w):
 cB P N ops Q (⟨some d,op,ty,pos,af,some (j,want)⟩::rest) σ w:=
 ox (by rw [lJ rfl hj a hv]; cases want <;> rfl) (iF h k)
theorem sk {j t:Nat} {want b:Bool} (hj:iq ops j=some t) (a:Nat.blt t N.n=true) (hv:σ t= .bool b) (hb:(b==want)=false)
 (k:cB P N ops Q rest (bY σ d undef) w):cB P N ops Q (⟨some d,op,ty,pos,af,some (j,want)⟩::rest) σ w:=by
 unfold cB wpList
 rw [if_neg (by rw [lJ rfl hj a hv,hb]; simp),fI]
 exact k
theorem lD {j t:Nat} {want:Bool} (hj:iq ops j=some t) (a:Nat.blt t N.n=true) (hv:σ t=undef)
 (k:cB P N ops Q rest (bY σ d undef) w):cB P N ops Q (⟨some d,op,ty,pos,af,some (j,want)⟩::rest) σ w:=by
 unfold cB wpList
 rw [if_neg (by rw [Gi rfl hj a hv]; simp),fI]
 exact k
theorem e (h:bD P N ⟨d',op,ty,pos,af,none⟩ σ w (fun σ w=>cB P N ops Q rest σ w)):cB P N ops Q (⟨d',op,ty,pos,af,none⟩::rest) σ w:=
 ox (ff _ rfl _) h
theorem eg {j t:Nat} {want:Bool} (hj:iq ops j=some t) (a:Nat.blt t N.n=true) (hv:σ t= .bool want)
 (h:bD P N ⟨d',op,ty,pos,af,some (j,want)⟩ σ w (fun σ w=>cB P N ops Q rest σ w)):cB P N ops Q (⟨d',op,ty,pos,af,some (j,want)⟩::rest) σ w:=
 ox (by rw [lJ rfl hj a hv]; cases want <;> rfl) h
theorem nl (h:Q .normal σ w):cB P N ops Q [] σ w:=⟨σ,rfl,h⟩
theorem p5:¬LetsOut (lift N Q):=fun ⟨_,_,h⟩=>h
theorem rg {id:Nat} {l:List Oper} (hr:ly N.r l=true) (h:cB P N l.toArray Q l σ w):bL P N (.region id l.toArray false) Q σ w:=by
 refine wpIn_region (pT p5 hr _ _ _ ?_)
 have h1:=wpOps_eq_wpList (P:=P) (ops:=l.toArray) (Q:=lift N Q) l 0 (fun j=>by simp)
 rw [List.range_eq_range',List.size_toArray,h1]
 exact h
theorem gs {l:List Oper} {t:Nat} {q:Prop} [Decidable q] (h:σ t= .bool (decide q)) (c:q→cB P N ops Q l (bY σ t (.bool true)) w) (hf:¬q→cB P N ops Q l (bY σ t (.bool false)) w):cB P N ops Q l σ w:=by
 by_cases a:q
 · have :=c a; rwa [kJ (by rw [h,decide_eq_true a])] at this
 · have :=hf a; rwa [kJ (by rw [h,decide_eq_false a])] at this
theorem gb {l:List Oper} {t:Nat} {b:Bool} (h:σ t= .bool b) (a:b=true→cB P N ops Q l (bY σ t (.bool true)) w) (hf:b=false→cB P N ops Q l (bY σ t (.bool false)) w):cB P N ops Q l σ w:=by
 cases b
 · have :=hf rfl; rwa [kJ h] at this
 · have :=a rfl; rwa [kJ h] at this
def dM (P:Program) (N:Fm) (ops:Array Oper) (Q:Exit→(Nat→Value)→World→Prop) (S:World→Prop) (fuel:Nat) (aC:Array Bool) (σ:Nat→Value) (w:World):Prop :=
 wpAnyH P .any ops (lift N Q) S fuel aC (act N σ) w
variable {S:World→Prop} {fuel:Nat} {aC:Array Bool}
theorem ry {id:Nat} {l:List Oper} (hr:ly N.r l=true) (hm:P.follows .mixedOrders=true) (h:wpAny P .any l.toArray (lift N Q) l.toArray.size (Array.replicate l.toArray.size false) (act N σ) w.drew):bL P N (.region id l.toArray true) Q σ w:=by
 refine wpIn_region_draw fun t=>pT p5 hr _ _ _ ?_
 simp only [Region.schedule,hm,Bool.true_or,if_true]
 exact wpAny_sound _ t _ _ _ h
theorem bF {id:Nat} {l:List Oper} (S:World→Prop) (hr:ly N.r l=true) (hm:P.follows .mixedOrders=true) (a:S w.drew) (h:dM P N l.toArray Q S l.length (Array.replicate l.length false) σ w.drew):bL P N (.region id l.toArray true) Q σ w:=
 ry hr hm (wpAny_of_held _ _ _ _ (by rw [List.size_toArray]; exact h))
def qk (F:List Nat) (d:Option Nat):Bool:=match d with | some d=> !(F.contains d) | none=>true
def gp (F:List Nat) (ops:Array Oper) (aC:Array Bool) (i:Nat):Bool:=
 Region.noSelect ops && Region.free .any ops aC i && (Region.ready .any ops aC).contains i && qk F ((ops[i]?).bind (·.dst))
theorem lr {d:Option Nat} {v:Value} (hd:qk N.F d=true) (c:List PanicEntry) (a:Act) (w:World):lift N Q (.panic c) (a.put d v) w→lift N Q (.panic c) a w:=by
 rintro ⟨σ,ha,h⟩
 cases d with
 | none=>exact ⟨σ,ha,h⟩
 | some d=>
   have hsz:a.tmps.size=N.n:=by
    have :=congrArg (fun x:Act=>x.tmps.size) ha
    simpa [Act.put,act] using this
   have p:a.defers=N.D:=congrArg (fun x:Act=>x.defers) ha
   have q:∀ i:Nat,i≠d→a.tmps[i]? =if i < N.n then some (σ i) else none:=fun i hi=>by
    have h1:(a.put (some d) v).tmps[i]? =a.tmps[i]? :=by
     show (a.tmps.setIfInBounds d v)[i]? =_
     rw [Array.getElem?_setIfInBounds,if_neg (fun e=>hi e.symm)]
    rw [← h1,ha,jo]
   refine ⟨fun i=>if i < N.n then a.tmps.getD i undef else σ i,mU p fun i=> ?_,fun s j=>h s fun i hi=> ?_⟩
   · rw [jo]
     by_cases h1:i < N.n
     · rw [if_pos h1,if_pos h1,Array.getD_eq_getD_getElem?,Array.getElem?_eq_getElem (by omega)]; rfl
     · rw [if_neg h1,Array.getElem?_eq_none (by omega)]
   · have hne:i≠d:=by
      rintro rfl
      simp only [qk,Bool.not_eq_true',List.contains_eq_mem,decide_eq_false_iff_not] at hd
      exact hd hi
     rw [j i hi]
     by_cases h1:i < N.n
     · simp only [if_pos h1]
       rw [Array.getD_eq_getD_getElem?,q i hne,if_pos h1]; rfl
     · simp only [if_neg h1]
theorem hp (i:Nat) (hi:ops[i]? =some ⟨some d,op,ty,pos,af,none⟩) (hf:gp N.F ops aC i=true)
 (hy:∀ w,S w→(execOp (ev N σ) ⟨some d,op,ty,pos,af,none⟩).run P w= .ok (.value v) w) (j:S w)
 (k:dM P N ops Q S fuel (aC.setIfInBounds i true) (bY σ d v) w):dM P N ops Q S (fuel+1) aC σ w:=by
 simp only [gp,Bool.and_eq_true] at hf
 refine wpAnyH_take hi hf.1.1.1 hf.1.1.2 hf.1.2 (fun c a w=>lr (by have :=hf.2; rwa [hi] at this) c a w) (.inl ⟨ff _ rfl _,fun w j=> ?_⟩) j ?_ (v:=v)
 · rw [et]; exact hy w j
 · rw [fI]; exact k
theorem a3 (i:Nat) {j t:Nat} {want:Bool} (hi:ops[i]? =some ⟨some d,op,ty,pos,af,some (j,want)⟩) (hf:gp N.F ops aC i=true)
 (hj:iq ops j=some t) (q:Nat.blt t N.n=true) (hv:σ t= .bool want)
 (hy:∀ w,S w→(execOp (ev N σ) ⟨some d,op,ty,pos,af,some (j,want)⟩).run P w= .ok (.value v) w) (p:S w)
 (k:dM P N ops Q S fuel (aC.setIfInBounds i true) (bY σ d v) w):dM P N ops Q S (fuel+1) aC σ w:=by
 simp only [gp,Bool.and_eq_true] at hf
 refine wpAnyH_take hi hf.1.1.1 hf.1.1.2 hf.1.2 (fun c a w=>lr (by have :=hf.2; rwa [hi] at this) c a w) (.inl ⟨by rw [lJ rfl hj q hv]; cases want <;> rfl,fun w p=> ?_⟩) p ?_ (v:=v)
 · rw [et]; exact hy w p
 · rw [fI]; exact k
theorem aV (i:Nat) {j t:Nat} {want b:Bool} (hi:ops[i]? =some ⟨some d,op,ty,pos,af,some (j,want)⟩) (hf:gp N.F ops aC i=true)
 (hj:iq ops j=some t) (q:Nat.blt t N.n=true) (hv:σ t= .bool b) (hb:(b==want)=false) (p:S w)
 (k:dM P N ops Q S fuel (aC.setIfInBounds i true) (bY σ d undef) w):dM P N ops Q S (fuel+1) aC σ w:=by
 simp only [gp,Bool.and_eq_true] at hf
 refine wpAnyH_take hi hf.1.1.1 hf.1.1.2 hf.1.2 (fun c a w=>lr (by have :=hf.2; rwa [hi] at this) c a w) (.inr ⟨by rw [lJ rfl hj q hv,hb],rfl⟩) p ?_ (v:=undef)
 rw [fI]; exact k
def g9 (ops:Array Oper) (aC:Array Bool) (i:Nat):Bool:=(Region.ready .any ops aC)== [i]
theorem he (i:Nat) (hi:ops[i]? =some ⟨d',op,ty,pos,af,none⟩) (hr:g9 ops aC i=true)
 (h:bD P N ⟨d',op,ty,pos,af,none⟩ σ w (fun σ w=>S w∧dM P N ops Q S fuel (aC.setIfInBounds i true) σ w)):dM P N ops Q S (fuel+1) aC σ w:=by
 refine wpAnyH_all (rs:= [i]) (by simpa [g9] using hr) (by simp) ?_
 intro k hk
 obtain rfl :k=i:=by simpa using hk
 unfold wpOp
 simp only [hi]
 rw [if_pos (ff _ rfl _)]
 exact .inl (lM h (fun _ _ hk=>hk))
theorem iV (i:Nat) {j t:Nat} {want:Bool} (hi:ops[i]? =some ⟨d',op,ty,pos,af,some (j,want)⟩) (hr:g9 ops aC i=true)
 (hj:iq ops j=some t) (a:Nat.blt t N.n=true) (hv:σ t= .bool want)
 (h:bD P N ⟨d',op,ty,pos,af,some (j,want)⟩ σ w (fun σ w=>S w∧dM P N ops Q S fuel (aC.setIfInBounds i true) σ w)):dM P N ops Q S (fuel+1) aC σ w:=by
 refine wpAnyH_all (rs:= [i]) (by simpa [g9] using hr) (by simp) ?_
 intro k hk
 obtain rfl :k=i:=by simpa using hk
 unfold wpOp
 simp only [hi]
 rw [if_pos (by rw [lJ rfl hj a hv]; cases want <;> rfl)]
 exact .inl (lM h (fun _ _ hk=>hk))
theorem hn (hr:(Region.ready .any ops aC).isEmpty=true) (h:Q .normal σ w):dM P N ops Q S fuel aC σ w:=
 wpAnyH_done (by simpa using hr) ⟨σ,rfl,h⟩ fuel
theorem ir {t:Nat} {q:Prop} [Decidable q] (h:σ t= .bool (decide q)) (c:q→dM P N ops Q S fuel aC (bY σ t (.bool true)) w) (hf:¬q→dM P N ops Q S fuel aC (bY σ t (.bool false)) w):dM P N ops Q S fuel aC σ w:=by
 by_cases a:q
 · have :=c a; rwa [kJ (by rw [h,decide_eq_true a])] at this
 · have :=hf a; rwa [kJ (by rw [h,decide_eq_false a])] at this
end
def aT (P:Program) (f:FuncId) (args:Array Value) (w:World) (R:Value→World→Prop):Prop :=
 Calls P f args w fun e w'=> ∃ v,e= .returned v∧R v w'
theorem aT.mono {P:Program} {f:FuncId} {args:Array Value} {w:World} {R R':Value→World→Prop} (h:aT P f args w R) (hr:∀ v w',R v w'→R' v w'):aT P f args w R':=
 Calls.mono h fun _ _ ⟨v,he,a⟩=>⟨v,he,hr _ _ a⟩
def gQ (args:List Value):Nat→Value:=fun i=>args.getD i undef
def fin (P:Program) (fn:Func) (N:Fm) (R:Value→World→Prop):Exit→(Nat→Value)→World→Prop
 | .normal,σ,w=> ∃ v,(results fn (act N σ).tmps).run P w= .ok v w∧R v w
 | .ret,σ,w=> ∃ v,(results fn (act N σ).tmps).run P w= .ok v w∧R v w
 | _,_,_=>False
theorem enter {P:Program} {f:FuncId} {N:Nat} {fn:Func} {c:Code} {args:List Value} {w:World} {R:Value→World→Prop} (hf:P.funcs[f]? =some fn) (hb:fn.body=some c)
 (q:fn.ntmps=N) (hn:Nat.ble args.length N=true) (h:bL P ⟨N,[],[],none⟩ c (fin P fn ⟨N,[],[],none⟩ R) (gQ args) w):aT P f args.toArray w R:=by
 subst q
 refine calls_of_wp hf hb ?_
 have ha:({tmps:=args.toArray++Array.replicate (fn.ntmps - args.toArray.size) undef,defers:= []} :Act)=act ⟨fn.ntmps,[],[],none⟩ (gQ args):=by
  have s:args.length≤fn.ntmps:=by simpa using hn
  refine mU rfl fun i=> ?_
  rw [jo]
  simp only [gQ,List.getD_eq_getElem?_getD,List.size_toArray]
  by_cases h1:i < args.length
  · rw [Array.getElem?_append_left (by simpa using h1),if_pos (by omega)]
    simp [h1]
  · rw [Array.getElem?_append_right (by simpa using h1)]
    simp only [List.size_toArray,Array.getElem?_replicate]
    by_cases h2:i < fn.ntmps
    · rw [if_pos (by omega),if_pos h2,List.getElem?_eq_none (by omega)]; rfl
    · rw [if_neg (by omega),if_neg h2]
 rw [ha]
 refine Code.wp_mono ?_ (wpIn_wide.1 h)
 intro e a w hl
 cases e with
 | normal=>obtain ⟨σ,rfl,v,hr,p⟩:=hl; exact ⟨rfl,v,hr,v,rfl,p⟩
 | ret=>obtain ⟨σ,rfl,v,hr,p⟩:=hl; exact ⟨rfl,v,hr,v,rfl,p⟩
 | exit id=>obtain ⟨σ,rfl,j⟩:=hl; exact j.elim
 | goto l=>obtain ⟨σ,rfl,j⟩:=hl; exact j.elim
 | panic c=>obtain ⟨σ,rfl,j⟩:=hl; exact (j σ fun _ _=>rfl).elim
 | outgrown=>exact hl.elim
section
variable {P:Program} {N:Fm} {σ:Nat→Value} {w:World} {fn:Func} {R:Value→World→Prop}
theorem iD (t:Nat):(act N σ).tmps.getD t undef=ev N σ (.tmp t):=by
 rw [← et]; rfl
theorem f0 (h:fn.results= #[]) (a:R (.tuple #[]) w):fin P fn N R .normal σ w:=⟨_,results_none h _ _ _,a⟩
theorem ny (h:fn.results= #[]) (a:R (.tuple #[]) w):fin P fn N R .ret σ w:=⟨_,results_none h _ _ _,a⟩
theorem f1 {t:Nat} {v:Value} (h:fn.results= #[.tmp t]) (hv:ev N σ (.tmp t)=v) (a:R v w):fin P fn N R .ret σ w:=
 ⟨v,by rw [results_tmp h,iD,hv],a⟩
theorem f2 {t u:Nat} {v v':Value} (h:fn.results= #[.tmp t,.tmp u]) (hv:ev N σ (.tmp t)=v) (hu:ev N σ (.tmp u)=v') (a:R (.tuple #[v,v']) w):fin P fn N R .ret σ w:=
 ⟨_,by rw [results_tmp2 h,iD,iD,hv,hu],a⟩
theorem f3 {t u s:Nat} {v v' a:Value} (h:fn.results= #[.tmp t,.tmp u,.tmp s]) (hv:ev N σ (.tmp t)=v) (hu:ev N σ (.tmp u)=v') (hs:ev N σ (.tmp s)=a) (c:R (.tuple #[v,v',a]) w):fin P fn N R .ret σ w:=by
 refine ⟨_,?_,c⟩
 simp only [results,h]
 subst hv hu hs
 simp only [← iD]
 simp [List.mapM_toArray]
theorem f4 {t u s r:Nat} {v v' a c:Value} (h:fn.results= #[.tmp t,.tmp u,.tmp s,.tmp r]) (hv:ev N σ (.tmp t)=v) (hu:ev N σ (.tmp u)=v') (hs:ev N σ (.tmp s)=a) (hr:ev N σ (.tmp r)=c) (i:R (.tuple #[v,v',a,c]) w):fin P fn N R .ret σ w:=by
 refine ⟨_,?_,i⟩
 simp only [results,h]
 subst hv hu hs hr
 simp only [← iD]
 simp [List.mapM_toArray]
end
attribute [irreducible] cB bL dM bD
end Go.Hb
namespace Go.Hb
open Go.RowKit
def ay (h:Array Obj) (b off :Nat):Option Value:=
 match h[b]? with
 | some (.cells c _ _)=>c[off]?
 | _=>none
theorem g5 (w:World) (b off :Nat):w.cell? ⟨b,off,none⟩=ay w.heap b off :=by
 unfold World.cell? ay
 simp only
 split <;> simp_all
theorem aQ {h:Array Obj} {b off :Nat} {c:Array Value} {t:TypeId} {f:Nat×Nat} (hb:h[b]? =some (.cells c t f)):ay h b off =c[off]? :=by
 simp only [ay,hb]
theorem y7 {h:Array Obj} {b off :Nat} {v:Value} (hc:ay h b off =some v):b < h.size:=by
 unfold ay at hc
 rcases Nat.lt_or_ge b h.size with hlt | a
 · exact hlt
 · simp [Array.getElem?_eq_none a] at hc
structure Md (F:Nat→Prop) (w w':World):Prop where
 os:w'.os=w.os
 output:w'.output=w.output
 size:w.heap.size≤w'.heap.size
 e0:∀ k,k < w.heap.size→¬F k→w'.heap[k]? =w.heap[k]?
abbrev Wk (w w':World):Prop :=Md (fun _=>False) w w'
theorem Md.refl (F:Nat→Prop) (w:World):Md F w w:=⟨rfl,rfl,Nat.le_refl _,fun _ _ _=>rfl⟩
theorem Md.drew {F:Nat→Prop} {w w':World} (h:Md F w w'):Md F w w'.drew:=⟨h.os,h.output,h.size,h.e0⟩
theorem Md.mono {F G:Nat→Prop} {w w':World} (h:Md F w w') (a:∀ k,k < w.heap.size→F k→G k):Md G w w':=
 ⟨h.os,h.output,h.size,fun k hk hg=>h.e0 k hk (fun hf=>hg (a k hk hf))⟩
theorem Md.trans {F:Nat→Prop} {a b c:World} (h:Md F a b) (i:Md F b c):Md F a c:=
 ⟨i.os.trans h.os,i.output.trans h.output,Nat.le_trans h.size i.size,fun k hk hf=>(i.e0 k (Nat.lt_of_lt_of_le hk h.size) hf).trans (h.e0 k hk hf)⟩
theorem Md.trans' {F G:Nat→Prop} {a b c:World} (h:Md F a b) (i:Md G b c) (hg:∀ k,k < a.heap.size→G k→F k):Md F a c:=
 ⟨i.os.trans h.os,i.output.trans h.output,Nat.le_trans h.size i.size,
  fun k hk hf=>(i.e0 k (Nat.lt_of_lt_of_le hk h.size) (fun x=>hf (hg k hk x))).trans (h.e0 k hk hf)⟩
theorem Md.au {F:Nat→Prop} {w w':World} (h:Md F w w') {k:Nat} {o:Obj} (hk:w.heap[k]? =some o) (hf:¬F k):w'.heap[k]? =some o:=
 (h.e0 k (Array.getElem?_eq_some_iff.1 hk).1 hf).trans hk
theorem Md.ay {F:Nat→Prop} {w w':World} (h:Md F w w') {b off :Nat} {v:Value} (hc:Hb.ay w.heap b off =some v) (hf:¬F b):Hb.ay w'.heap b off =some v:=by
 have :=h.e0 b (y7 hc) hf
 unfold Hb.ay at*
 rw [this]; exact hc
theorem Wk.ay {w w':World} (h:Wk w w') {b off :Nat} {v:Value} (hc:Hb.ay w.heap b off =some v):Hb.ay w'.heap b off =some v:=Md.ay h hc id
theorem Wk.au {w w':World} (h:Wk w w') {k:Nat} {o:Obj} (hk:w.heap[k]? =some o):w'.heap[k]? =some o:=Md.au h hk id
structure Nw (w w':World):Prop where
 md:Wk w w'
 size:w'.heap.size=w.heap.size+1
theorem uM (w:World) (o:Obj):Nw w {w with heap:=w.heap.push o} :=
 ⟨⟨rfl,rfl,by simp,fun k hk _=>by show (w.heap.push o)[k]? =_; rw [Array.getElem?_push,if_neg (by omega)]⟩,by simp⟩
def bS (P:Program) (t:TypeId):Option (Option Nat):=
 match P.underlying t with
 | some (.struct _) | some (.array _ _)=>((P.info? t).map (·.size)).map some
 | some _=>some none
 | none=>none
def cw (P:Program) (s f:Nat):Option Nat:=
 match P.underlying s with
 | some (.struct a)=>match a[f]? with
   | some fd=>match P.info? fd.type with
     | some i=>if i.size=0 then none else some fd.offset
     | none=>none
   | none=>none
 | _=>none
def eA (P:Program) (t:TypeId):Option Nat:=
 match P.underlying t with
 | some (.slice e)=>(P.info? e).map (·.size)
 | _=>none
section
variable {P:Program} {N:Fm} {σ:Nat→Value} {w:World} {dst:Option Nat} {ty:TypeId} {pos :String} {af:Array Edge} {g:Option (Nat×Bool)} {x y z:Operand}
theorem bW {t:TypeId} {d:TypeDesc} (h:P.underlying t=some d) (w:World):(underlying t).run P w= .ok d w:=by
 simp [underlying,h]
theorem ek {t:TypeId} {i:TypeInfo} (h:P.info? t=some i) (w:World):(typeInfo t).run P w= .ok i w:=by
 simp [typeInfo,h]
theorem mv:(execOp (ev N σ) ⟨dst,.move x,ty,pos,af,g⟩).run P w= .ok (.value (ev N σ x)) w:=rfl
theorem aw:(execOp (ev N σ) ⟨dst,.assign x,ty,pos,af,g⟩).run P w= .ok (.value (ev N σ x)) w:=rfl
theorem ao (v:Value) (h:ev N σ x=v):(execOp (ev N σ) ⟨dst,.move x,ty,pos,af,g⟩).run P w= .ok (.value v) w:=by rw [← h]; rfl
theorem bw (v:Value) (h:ev N σ x=v):(execOp (ev N σ) ⟨dst,.assign x,ty,pos,af,g⟩).run P w= .ok (.value v) w:=by rw [← h]; rfl
theorem bu {c:Operand} (hc:ev N σ c= .bool true):(execOp (ev N σ) ⟨dst,.pick c x y,ty,pos,af,g⟩).run P w= .ok (.value (ev N σ x)) w:=by
 simp [execOp,hc,asBool]
theorem bc {c:Operand} (hc:ev N σ c= .bool false):(execOp (ev N σ) ⟨dst,.pick c x y,ty,pos,af,g⟩).run P w= .ok (.value (ev N σ y)) w:=by
 simp [execOp,hc,asBool]
theorem nc {a:Addr} (hx:ev N σ x= .pointer (some a)):(execOp (ev N σ) ⟨dst,.nilCheck x,ty,pos,af,g⟩).run P w= .ok (.value (.pointer (some a))) w:=by
 simp [execOp,hx]
theorem xt {i:Nat} {vs:Array Value} {v:Value} (hx:ev N σ x= .tuple vs) (hv:vs[i]? =some v):(execOp (ev N σ) ⟨dst,.extract x i,ty,pos,af,g⟩).run P w= .ok (.value v) w:=by
 simp [execOp,hx,Instr.extract,hv]
theorem fa {s f n b off :Nat} (hf:cw P s f=some n) (hx:ev N σ x= .pointer (some ⟨b,off,none⟩)):
 (execOp (ev N σ) ⟨dst,.fieldAddr s x f,ty,pos,af,g⟩).run P w= .ok (.value (.pointer (some ⟨b,off+n,none⟩))) w:=by
 unfold cw at hf
 split at hf
 · rename_i j hu
   split at hf
   · rename_i fd c
     split at hf
     · rename_i i hi
       split at hf
       · cases hf
       · rename_i hz
         cases hf
         have a:(⟨b,off,none⟩:Addr).add fd.offset=⟨b,off+fd.offset,none⟩:=by unfold Addr.add; split <;> simp_all
         simp [execOp,Instr.fieldAt,bW hu,c,hx,Instr.sureAddr,fieldPlace,sizeOf,ek hi,hz,a]
     · cases hf
   · cases hf
 · cases hf
theorem ld {t b off :Nat} {v:Value} (hu:bS P t=some none) (hx:ev N σ x= .pointer (some ⟨b,off,none⟩)) (hc:ay w.heap b off =some v):
 (execOp (ev N σ) ⟨dst,.load t x,ty,pos,af,g⟩).run P w= .ok (.value v) w:=by
 have a:w.cell? ⟨b,off,none⟩=some v:=by rw [g5]; exact hc
 unfold bS at hu
 cases hd:P.underlying t with
 | none=>rw [hd] at hu; cases hu
 | some d=>
   rw [hd] at hu
   cases d <;> first
    | (simp only [Option.map_eq_some_iff] at hu; obtain ⟨_,_,h⟩:=hu; cases h; done)
    | simp [execOp,Instr.loadAt,hx,Instr.sureAddr,loadVar,isAgg,bW hd,run_load,a]
theorem gd (b off j:Nat):(⟨b,off,none⟩:Addr).add j=⟨b,off+j,none⟩:=by
 unfold Addr.add; split <;> simp_all
theorem dp {t n b off :Nat} {cs:List Value} (hu:bS P t=some (some n)) (hx:ev N σ x= .pointer (some ⟨b,off,none⟩)) (hl:cs.length=n)
 (hc:∀ j,j < n→ay w.heap b (off+j)=cs[j]?):
 (execOp (ev N σ) ⟨dst,.load t x,ty,pos,af,g⟩).run P w= .ok (.value (.agg cs.toArray)) w:=by
 have a:(loadCells ⟨b,off,none⟩ n).run P w= .ok cs.toArray w:=by
  subst hl
  refine run_loadCells_list (P:=P) w ⟨b,off,none⟩ cs fun j v hj=> ?_
  rw [gd,g5]
  exact (hc j (List.getElem?_eq_some_iff.1 hj).1).trans hj
 unfold bS at hu
 cases hd:P.underlying t with
 | none=>rw [hd] at hu; cases hu
 | some d=>
   rw [hd] at hu
   cases hi:P.info? t with
   | none=>simp [Program.underlying,hi] at hd
   | some i=>
     rw [hi] at hu
     cases d <;> first
      | (cases hu; done)
      | (simp only [Option.map_some,Option.some.injEq] at hu; subst hu
         simp [execOp,Instr.loadAt,hx,Instr.sureAddr,loadVar,isAgg,bW hd,sizeOf,ek hi,a])
theorem ia {t n b off len cap:Nat} {k:IntKind} {i:Int} (he:eA P t=some n) (hx:ev N σ x= .slice (some ⟨b,off,none⟩) len cap) (hy:ev N σ y= .int k i) (h0:0≤i∧i < len):
 (execOp (ev N σ) ⟨dst,.indexAddr t x y,ty,pos,af,g⟩).run P w= .ok (.value (.pointer (some ⟨b,off+i.toNat*n,none⟩))) w:=by
 unfold eA at he
 cases hd:P.underlying t with
 | none=>rw [hd] at he; cases he
 | some d=>
   rw [hd] at he
   cases d <;> first | (cases he; done) | skip
   rename_i e
   cases hi:P.info? e with
   | none=>simp [hi] at he
   | some j=>
     simp only [hi,Option.map_some,Option.some.injEq] at he
     subst he
     simp [execOp,Instr.indexAt,hx,hy,asIntOf,bW hd,h0.1,h0.2,sizeOf,ek hi,gd]
def dj (a:Option Addr) (cap l n:Nat):Option Addr:=if cap=l then a else a.map (·.add (l*n))
theorem qD {t n len cap:Nat} {a:Option Addr} {lo hi:Option Value} {l h:Nat} (he:eA P t=some n) (hx:ev N σ x= .slice a len cap)
 (hb:(Instr.sliceBounds true len cap lo hi none).run P w= .ok (l,h,cap) w) (c i:Option Operand) (hy:c.map (ev N σ)=lo) (hz:i.map (ev N σ)=hi):
 (execOp (ev N σ) ⟨dst,.slice t x c i none,ty,pos,af,g⟩).run P w= .ok (.value (.slice (dj a cap l n) (h - l) (cap - l))) w:=by
 unfold eA at he
 cases hd:P.underlying t with
 | none=>rw [hd] at he; cases he
 | some d=>
   rw [hd] at he
   cases d <;> first | (cases he; done) | skip
   rename_i e
   cases hi':P.info? e with
   | none=>simp [hi'] at he
   | some j=>
     simp only [hi',Option.map_some,Option.some.injEq] at he
     subst he
     simp [execOp,Instr.sliceAt,Instr.slice,hx,hy,hz,bW hd,hb,sizeOf,ek hi',dj]
theorem nY {t n len cap:Nat} {a:Option Addr} {k:IntKind} {i:Int} (he:eA P t=some n) (hx:ev N σ x= .slice a len cap) (hz:ev N σ z= .int k i) (h0:0≤i∧i≤cap):
 (execOp (ev N σ) ⟨dst,.slice t x none (some z) none,ty,pos,af,g⟩).run P w= .ok (.value (.slice a i.toNat cap)) w:=by
 have :=qD (dst:=dst) (ty:=ty) (pos :=pos) (af:=af) (g:=g) (w:=w) (lo:=none) (hi:=some (.int k i)) (l:=0) (h:=i.toNat) he hx
  (by simp [Instr.sliceBounds,Instr.sliceBound,asIntOf,h0.1,h0.2]) none (some z) rfl (by simp [hz])
 rw [this]
 have hs:dj a cap 0 n=a:=by
  unfold dj; split
  · rfl
  · cases a <;> simp [Addr.add]
 rw [hs]; rfl
theorem mA {t n len cap:Nat} {a:Option Addr} {k:IntKind} {i:Int} (he:eA P t=some n) (hx:ev N σ x= .slice a len cap) (hy:ev N σ y= .int k i) (h0:0≤i∧i≤len):
 (execOp (ev N σ) ⟨dst,.slice t x (some y) none none,ty,pos,af,g⟩).run P w= .ok (.value (.slice (dj a cap i.toNat n) (len - i.toNat) (cap - i.toNat))) w:=
 qD (lo:=some (.int k i)) (hi:=none) he hx
  (by simp [Instr.sliceBounds,Instr.sliceBound,asIntOf,h0.1,h0.2]) (some y) none (by simp [hy]) rfl
theorem Fp {t n len cap:Nat} {a:Option Addr} {k c:IntKind} {i j:Int} (he:eA P t=some n) (hx:ev N σ x= .slice a len cap) (hy:ev N σ y= .int k i) (hz:ev N σ z= .int c j) (h0:0≤i∧i≤j∧j≤cap):
 (execOp (ev N σ) ⟨dst,.slice t x (some y) (some z) none,ty,pos,af,g⟩).run P w= .ok (.value (.slice (dj a cap i.toNat n) (j.toNat - i.toNat) (cap - i.toNat))) w:=by
 have h1:0≤j:=by omega
 have h2:i≤(j.toNat:Int):=by omega
 refine qD (lo:=some (.int k i)) (hi:=some (.int c j)) he hx ?_ (some y) (some z) (by simp [hy]) (by simp [hz])
 simp only [Instr.sliceBounds,Instr.sliceBound,asIntOf,Sem.run_bind,Sem.run_pure,Result.andThen_ok,Sem.run_ite,h0.1,h1,h0.2.2,h2,and_self,if_true]
theorem bp {n:Int} (h: -9223372036854775808≤n∧n≤9223372036854775807):IntKind.i64.wrap n=n:=IntWalk.i64_in n h
theorem qP {n:Int} (h:0≤n∧n≤255):IntKind.u8.wrap n=n:=IntWalk.u8_in n h
theorem ji {n:Int} (h:0≤n∧n≤18446744073709551615):IntKind.u64.wrap n=n:=IntWalk.u64_in n h
theorem iv {k:IntKind} {a b:Int} (h:a=b):Value.int k a=Value.int k b:=by rw [h]
theorem ad {t c:TypeId} {k:IntKind} {a b:Int} (hx:ev N σ x= .int k a) (hy:ev N σ y= .int k b) (hr:k.wrap (a+b)=a+b):
 (execOp (ev N σ) ⟨dst,.binOp .add t x y c,ty,pos,af,g⟩).run P w= .ok (.value (.int k (a+b))) w:=by
 simp [execOp,hx,hy,eqGuard,binOp,Op.intArith,hr]
theorem a8 {t c:TypeId} {k:IntKind} {a b:Int} (v:Int) (hx:ev N σ x= .int k a) (hy:ev N σ y= .int k b) (hr:k.wrap (a+b)=v):
 (execOp (ev N σ) ⟨dst,.binOp .add t x y c,ty,pos,af,g⟩).run P w= .ok (.value (.int k v)) w:=by
 subst hr; simp [execOp,hx,hy,eqGuard,binOp,Op.intArith]
theorem bK {t c:TypeId} {k:IntKind} {a b:Int} (v:Int) (hx:ev N σ x= .int k a) (hy:ev N σ y= .int k b) (hr:k.wrap (a - b)=v):
 (execOp (ev N σ) ⟨dst,.binOp .sub t x y c,ty,pos,af,g⟩).run P w= .ok (.value (.int k v)) w:=by
 subst hr; simp [execOp,hx,hy,eqGuard,binOp,Op.intArith]
theorem kB {t c:TypeId} {k:IntKind} {a b:Int} (v:Int) (hx:ev N σ x= .int k a) (hy:ev N σ y= .int k b) (hr:k.wrap (a*b)=v):
 (execOp (ev N σ) ⟨dst,.binOp .mul t x y c,ty,pos,af,g⟩).run P w= .ok (.value (.int k v)) w:=by
 subst hr; simp [execOp,hx,hy,eqGuard,binOp,Op.intArith]
theorem aI {a:Int} {n:Nat} (h:a=n) (hn:n≤9223372036854775807):IntKind.i64.wrap a=(n:Int):=by rw [h]; exact bp (by omega)
theorem bv {p q:Prop} [Decidable p] [Decidable q] (h:p↔q):Value.bool (decide p)=Value.bool (decide q):=by rw [decide_eq_decide.2 h]
theorem sb {t c:TypeId} {k:IntKind} {a b:Int} (hx:ev N σ x= .int k a) (hy:ev N σ y= .int k b) (hr:k.wrap (a - b)=a - b):
 (execOp (ev N σ) ⟨dst,.binOp .sub t x y c,ty,pos,af,g⟩).run P w= .ok (.value (.int k (a - b))) w:=by
 simp [execOp,hx,hy,eqGuard,binOp,Op.intArith,hr]
theorem jG {t c:TypeId} {k:IntKind} {a b:Int} (v:Int) (hx:ev N σ x= .int k a) (hy:ev N σ y= .int k b) (h0:0≤a∧0 < b) (hr:k.wrap (a / b)=v):
 (execOp (ev N σ) ⟨dst,.binOp .quo t x y c,ty,pos,af,g⟩).run P w= .ok (.value (.int k v)) w:=by
 have :a.tdiv b=a / b:=Int.tdiv_eq_ediv_of_nonneg h0.1
 subst hr; simp [execOp,hx,hy,eqGuard,binOp,Op.intDiv,show b≠0 from by omega,this]
theorem rm {t c:TypeId} {k:IntKind} {a b:Int} (hx:ev N σ x= .int k a) (hy:ev N σ y= .int k b) (h0:0≤a∧0 < b):
 (execOp (ev N σ) ⟨dst,.binOp .rem t x y c,ty,pos,af,g⟩).run P w= .ok (.value (.int k (a % b))) w:=by
 have :a.tmod b=a % b:=Int.tmod_eq_emod_of_nonneg h0.1
 simp [execOp,hx,hy,eqGuard,binOp,Op.intDiv,show b≠0 from by omega,this]
theorem lt {t c:TypeId} {k:IntKind} {a b:Int} (hx:ev N σ x= .int k a) (hy:ev N σ y= .int k b):
 (execOp (ev N σ) ⟨dst,.binOp .lss t x y c,ty,pos,af,g⟩).run P w= .ok (.value (.bool (decide (a < b)))) w:=by
 simp [execOp,hx,hy,eqGuard,binOp,Op.intCmp]
theorem le {t c:TypeId} {k:IntKind} {a b:Int} (hx:ev N σ x= .int k a) (hy:ev N σ y= .int k b):
 (execOp (ev N σ) ⟨dst,.binOp .leq t x y c,ty,pos,af,g⟩).run P w= .ok (.value (.bool (decide (a≤b)))) w:=by
 simp [execOp,hx,hy,eqGuard,binOp,Op.intCmp]
theorem gt {t c:TypeId} {k:IntKind} {a b:Int} (hx:ev N σ x= .int k a) (hy:ev N σ y= .int k b):
 (execOp (ev N σ) ⟨dst,.binOp .gtr t x y c,ty,pos,af,g⟩).run P w= .ok (.value (.bool (decide (b < a)))) w:=by
 simp [execOp,hx,hy,eqGuard,binOp,Op.intCmp]
theorem ge {t c:TypeId} {k:IntKind} {a b:Int} (hx:ev N σ x= .int k a) (hy:ev N σ y= .int k b):
 (execOp (ev N σ) ⟨dst,.binOp .geq t x y c,ty,pos,af,g⟩).run P w= .ok (.value (.bool (decide (b≤a)))) w:=by
 simp [execOp,hx,hy,eqGuard,binOp,Op.intCmp]
theorem bo {t c:TypeId} {k:IntKind} {a b:Int} (hx:ev N σ x= .int k a) (hy:ev N σ y= .int k b):
 (execOp (ev N σ) ⟨dst,.binOp .eql t x y c,ty,pos,af,g⟩).run P w= .ok (.value (.bool (decide (a=b)))) w:=by
 simp [execOp,hx,hy,eqGuard,binOp,Op.intCmp]
 rw [Bool.eq_iff_iff]; simp
theorem ej {t c:TypeId} {k:IntKind} {a b:Int} (hx:ev N σ x= .int k a) (hy:ev N σ y= .int k b):
 (execOp (ev N σ) ⟨dst,.binOp .neq t x y c,ty,pos,af,g⟩).run P w= .ok (.value (.bool (decide (a≠b)))) w:=by
 simp [execOp,hx,hy,eqGuard,binOp,Op.intCmp]
 rw [Bool.eq_iff_iff]; simp
theorem no {t:TypeId} {b:Bool} (hx:ev N σ x= .bool b):(execOp (ev N σ) ⟨dst,.unOp .not t x,ty,pos,af,g⟩).run P w= .ok (.value (.bool (!b))) w:=by
 simp [execOp,hx,Op.unary]
theorem rE {t c:TypeId} {k:IntKind} {a b v:Int} (hx:ev N σ x= .int k a) (hy:ev N σ y= .int k b) (hv:k.wrap (BitVec.ofInt k.bits a ||| BitVec.ofInt k.bits b).toNat=v):
 (execOp (ev N σ) ⟨dst,.binOp .or t x y c,ty,pos,af,g⟩).run P w= .ok (.value (.int k v)) w:=by
 subst hv; simp [execOp,hx,hy,eqGuard,binOp,Op.intBits]
theorem m4 {t c:TypeId} {k:IntKind} {a b v:Int} (hx:ev N σ x= .int k a) (hy:ev N σ y= .int k b) (hv:k.wrap (BitVec.ofInt k.bits a &&& BitVec.ofInt k.bits b).toNat=v):
 (execOp (ev N σ) ⟨dst,.binOp .and t x y c,ty,pos,af,g⟩).run P w= .ok (.value (.int k v)) w:=by
 subst hv; simp [execOp,hx,hy,eqGuard,binOp,Op.intBits]
theorem shr {t c:TypeId} {k i:IntKind} {a b v:Int} (hx:ev N σ x= .int k a) (hy:ev N σ y= .int i b) (h0:0≤b) (hv:a.fdiv (2 ^ min b.toNat k.bits)=v):
 (execOp (ev N σ) ⟨dst,.binOp .shr t x y c,ty,pos,af,g⟩).run P w= .ok (.value (.int k v)) w:=by
 have :¬b < 0:=by omega
 simp [execOp,hx,hy,eqGuard,binOp,Op.shift,this,hv]
theorem shl {t c:TypeId} {k i:IntKind} {a b v:Int} (hx:ev N σ x= .int k a) (hy:ev N σ y= .int i b) (h0:0≤b) (hv:k.wrap (a*2 ^ min b.toNat k.bits)=v):
 (execOp (ev N σ) ⟨dst,.binOp .shl t x y c,ty,pos,af,g⟩).run P w= .ok (.value (.int k v)) w:=by
 have :¬b < 0:=by omega
 simp [execOp,hx,hy,eqGuard,binOp,Op.shift,this,hv]
theorem F7 (m:Nat):IntKind.u8.wrap (m:Int)=((m % 256:Nat):Int):=by
 rw [IntKind.wrap_u8]; omega
theorem vU (m:Nat) (h:m < 256):((UInt8.ofNat m).toNat:Int)=(m:Int):=by
 simp [Nat.mod_eq_of_lt h]
theorem cv {t u:TypeId} {k a:IntKind} {n:Int} (hu:P.underlying u=some (.int a)) (c:(P.underlying t).isSome=true) (hx:ev N σ x= .int k n):
 (execOp (ev N σ) ⟨dst,.convert t u x,ty,pos,af,g⟩).run P w= .ok (.value (.int a (a.wrap n))) w:=by
 obtain ⟨d,hd⟩:=Option.isSome_iff_exists.1 c
 cases d <;> simp [execOp,hx,convert,bW hu,bW hd,Conv.intToInt]
theorem ik {t u:TypeId} {k a:IntKind} {n v:Int} (hu:P.underlying u=some (.int a)) (c:(P.underlying t).isSome=true) (hx:ev N σ x= .int k n) (hr:a.wrap n=v):
 (execOp (ev N σ) ⟨dst,.convert t u x,ty,pos,af,g⟩).run P w= .ok (.value (.int a v)) w:=by
 rw [cv hu c hx,hr]
theorem o6 {t u:TypeId} {k a:IntKind} {n:Int} (hu:P.underlying u=some (.int a)) (c:(P.underlying t).isSome=true) (hx:ev N σ x= .int k n) (hr:a.wrap n=n):
 (execOp (ev N σ) ⟨dst,.convert t u x,ty,pos,af,g⟩).run P w= .ok (.value (.int a n)) w:=by
 rw [cv hu c hx,hr]
theorem A9 (d:Nat) {t e:TypeId} {a:Option Addr} (hu:P.underlying t=some (.pointer e)):(Op.equalIn (d+1) t (.pointer a) (.pointer none)).run P w= .ok a.isNone w:=by
 cases a <;> simp [Op.equalIn,bW hu]
theorem Ba {t e:TypeId} {a:Option Addr} (hu:P.underlying t=some (.pointer e)):(Op.equal t (.pointer a) (.pointer none)).run P w= .ok a.isNone w:=A9 9999 hu
theorem jv {t c e:TypeId} {a:Option Addr} (hu:P.underlying t=some (.pointer e)) (hx:ev N σ x= .pointer a) (hy:ev N σ y= .pointer none):
 (execOp (ev N σ) ⟨dst,.binOp .eql t x y c,ty,pos,af,g⟩).run P w= .ok (.value (.bool a.isNone)) w:=by
 have h:(binOp .eql t (.pointer a) (.pointer none)).run P w= .ok (.bool a.isNone) w:=by
  simp only [binOp]; simp [Ba hu]
 simp [execOp,hx,hy,eqGuard,h]
def str (l:List UInt8):Value:= .string ⟨⟨l⟩⟩
theorem bV {t:TypeId} {l:List UInt8} {at_:Array TypeId} (a:P.underlying t=some .string) (ha:at_= #[t]) (hx:ev N σ x=str l):
 (execOp (ev N σ) ⟨dst,.call ⟨.builtin .len,#[x],at_⟩,ty,pos,af,g⟩).run P w= .ok (.value (.int .i64 l.length)) w:=by
 subst ha
 simp [execOp,resolve,invoke,builtin,Builtin.len_,bW a,hx,str,goInt]
 rfl
theorem bl {t e:TypeId} {a:Option Addr} {n c:Nat} {at_:Array TypeId} (i:P.underlying t=some (.slice e)) (ha:at_= #[t]) (hx:ev N σ x= .slice a n c):
 (execOp (ev N σ) ⟨dst,.call ⟨.builtin .len,#[x],at_⟩,ty,pos,af,g⟩).run P w= .ok (.value (.int .i64 n)) w:=by
 subst ha
 simp [execOp,resolve,invoke,builtin,Builtin.len_,bW i,hx,goInt]
theorem mn {k:IntKind} {a b:Int} {at_:Array TypeId} (hx:ev N σ x= .int k a) (hy:ev N σ y= .int k b):
 (execOp (ev N σ) ⟨dst,.call ⟨.builtin .min,#[x,y],at_⟩,ty,pos,af,g⟩).run P w= .ok (.value (.int k (min a b))) w:=by
 have :(if b < a then b else a)=min a b:=by omega
 simp [execOp,resolve,invoke,builtin,Builtin.min_,Builtin.min2,hx,hy,this]
theorem CS {t:TypeId} {l:List UInt8} {k:IntKind} {i:Int} (c:P.underlying t=some .string) (hx:ev N σ x=str l) (hy:ev N σ y= .int k i) (h0:0≤i∧i < l.length):
 (execOp (ev N σ) ⟨dst,.index t x y,ty,pos,af,g⟩).run P w= .ok (.value (.int .u8 ((l.getD i.toNat 0).toNat:Int))) w:=by
 have hs:(⟨⟨l⟩⟩:ByteArray)[i.toNat]? =some (l.getD i.toNat 0):=by
  have hlt:i.toNat < l.length:=by omega
  have a:i.toNat < (⟨⟨l⟩⟩:ByteArray).size:=hlt
  rw [getElem?_pos (⟨⟨l⟩⟩:ByteArray) i.toNat a]
  simp [List.getD_eq_getElem?_getD,hlt,ByteArray.getElem_eq_getElem_data]
 simp [execOp,Instr.index,hx,hy,asIntOf,str,bW c,h0.1,hs]
theorem qC (l:List UInt8) (a b:Nat):Value.string ((⟨⟨l⟩⟩:ByteArray).extract a b)=str ((l.take b).drop a):=by
 unfold str
 congr 1
 apply ByteArray.ext
 simp [ByteArray.data_extract,List.extract_eq_take_drop,List.drop_take]
theorem iw (n:Nat) {t:TypeId} {l:List UInt8} {k:IntKind} (a:P.underlying t=some .string) (hx:ev N σ x=str l) (hy:ev N σ y= .int k (n:Int)) (h:n < l.length):
 (execOp (ev N σ) ⟨dst,.index t x y,ty,pos,af,g⟩).run P w= .ok (.value (.int .u8 ((l.getD n 0).toNat:Int))) w:=CS a hx hy ⟨by omega,by omega⟩
theorem eY {n:Nat} {t:TypeId} {l:List UInt8} {k:IntKind} (a:P.underlying t=some .string) (hx:ev N σ x=str l) (hy:ev N σ y= .int k (n:Int)) (h:n < l.length):
 (execOp (ev N σ) ⟨dst,.index t x y,ty,pos,af,g⟩).run P w= .ok (.value (.int .u8 ((l.getD n 0).toNat:Int))) w:=iw n a hx hy h
theorem mB {t:TypeId} {l:List UInt8} {k i:IntKind} {a b:Int} (c:P.underlying t=some .string) (hx:ev N σ x=str l) (hy:ev N σ y= .int k a) (hz:ev N σ z= .int i b) (h0:0≤a∧a≤b∧b≤l.length):
 (execOp (ev N σ) ⟨dst,.slice t x (some y) (some z) none,ty,pos,af,g⟩).run P w= .ok (.value (str ((l.take b.toNat).drop a.toNat))) w:=by
 have h1:b≤((⟨⟨l⟩⟩:ByteArray).size:Nat):=h0.2.2
 have h2:0≤b:=by omega
 have h3:a≤(b.toNat:Nat):=by omega
 simp [execOp,Instr.sliceAt,Instr.slice,Instr.sliceBounds,Instr.sliceBound,hx,hy,hz,asIntOf,str,bW c,h0.1,h1,h2]
 rw [if_pos (by omega)]
 exact congrArg (fun v=>Result.ok (Next.value v) w) (qC l a.toNat b.toNat)
theorem nZ {t:TypeId} {l:List UInt8} {c:IntKind} {b:Int} (a:P.underlying t=some .string) (hx:ev N σ x=str l) (hz:ev N σ z= .int c b) (h0:0≤b∧b≤l.length):
 (execOp (ev N σ) ⟨dst,.slice t x none (some z) none,ty,pos,af,g⟩).run P w= .ok (.value (str (l.take b.toNat))) w:=by
 have h1:b≤((⟨⟨l⟩⟩:ByteArray).size:Nat):=h0.2
 have :=qC l 0 b.toNat
 simp only [List.drop_zero] at this
 simp [execOp,Instr.sliceAt,Instr.slice,Instr.sliceBounds,Instr.sliceBound,hx,hz,asIntOf,str,bW a,h0.1,h1]
 exact Value.string.inj this
theorem j6 {t:TypeId} {l:List UInt8} {k:IntKind} {a:Int} (c:P.underlying t=some .string) (hx:ev N σ x=str l) (hy:ev N σ y= .int k a) (h0:0≤a∧a≤l.length):
 (execOp (ev N σ) ⟨dst,.slice t x (some y) none none,ty,pos,af,g⟩).run P w= .ok (.value (str (l.drop a.toNat))) w:=by
 have h1:a≤((⟨⟨l⟩⟩:ByteArray).size:Nat):=h0.2
 have :=qC l a.toNat l.length
 simp only [List.take_length] at this
 simp [execOp,Instr.sliceAt,Instr.slice,Instr.sliceBounds,Instr.sliceBound,hx,hy,asIntOf,str,bW c,h0.1,h1]
 exact Value.string.inj this
theorem vL (l:List UInt8):(⟨⟨l⟩⟩:ByteArray).toList=l:=Lib.toList_data ⟨⟨l⟩⟩
theorem cc {t a:TypeId} {l m:List UInt8} (hx:ev N σ x=str l) (hy:ev N σ y=str m) (h:l.length+m.length≤9223372036854775807):
 (execOp (ev N σ) ⟨dst,.binOp .add t x y a,ty,pos,af,g⟩).run P w= .ok (.value (str (l++m))) w:=by
 have h1:¬(((⟨⟨l⟩⟩:ByteArray).size+(⟨⟨m⟩⟩:ByteArray).size:Nat):Int) > IntKind.i64.max:=by
  have :IntKind.i64.max=9223372036854775807:=by decide
  rw [this]
  show ¬((l.length+m.length:Nat):Int) > _
  omega
 have h2:(⟨⟨l⟩⟩:ByteArray)++(⟨⟨m⟩⟩:ByteArray)=⟨⟨l++m⟩⟩:=by
  apply ByteArray.ext; simp
 simp only [execOp,hx,hy,str,eqGuard,binOp,Op.stringOp]
 rw [if_neg h1,h2]
 rfl
theorem e7 {t a:TypeId} {l m:List UInt8} (hx:ev N σ x=str l) (hy:ev N σ y=str m):
 (execOp (ev N σ) ⟨dst,.binOp .eql t x y a,ty,pos,af,g⟩).run P w= .ok (.value (.bool (decide (l=m)))) w:=by
 simp only [execOp,hx,hy,str,eqGuard,binOp,Op.stringOp,vL]
 show Result.ok (Next.value (.bool (l==m))) w=_
 rw [show (l==m)=decide (l=m) from by rw [Bool.eq_iff_iff]; simp]
theorem lx {t a:TypeId} {l m:List UInt8} (hx:ev N σ x=str l) (hy:ev N σ y=str m):
 (execOp (ev N σ) ⟨dst,.binOp .neq t x y a,ty,pos,af,g⟩).run P w= .ok (.value (.bool (decide (l≠m)))) w:=by
 simp only [execOp,hx,hy,str,eqGuard,binOp,Op.stringOp,vL]
 show Result.ok (Next.value (.bool (!(l==m)))) w=_
 rw [show (!(l==m))=decide (l≠m) from by rw [Bool.eq_iff_iff]; simp]
theorem mf {fn:Fn} {first captured:Array Operand} :(execOp (ev N σ) ⟨dst,.makeFunc fn first captured,ty,pos,af,g⟩).run P w= .ok (.value (.func fn (first.map (ev N σ)) (captured.map (ev N σ)))) w:=rfl
theorem Dx {fn:Fn} {first captured:Array Operand} :(execOp (ev N σ) ⟨dst,.makeFunc fn first captured,ty,pos,af,g⟩).run P w= .ok (.value (.func fn (first.toList.map (ev N σ)).toArray (captured.toList.map (ev N σ)).toArray)) w:=by
 rw [mf,← Array.toList_map,← Array.toList_map]
end
end Go.Hb
namespace Go.Hb
open Go.RowKit
def a9 (h:Array Obj) (b:Nat) (L:List Value):Prop := ∃ e,h[b]? =some (.cells L.toArray e (0,0))
theorem a9.ay {h:Array Obj} {b:Nat} {L:List Value} (hb:a9 h b L) (j:Nat):Hb.ay h b j=L[j]? :=by
 obtain ⟨e,hb⟩:=hb
 rw [aQ hb]; simp
theorem a9.cC {h:Array Obj} {b:Nat} {L:List Value} (hb:a9 h b L) (j:Nat):Hb.ay h b (0 +j)=L[j]? :=by
 rw [Nat.zero_add,hb.ay]
theorem Md.B {F:Nat→Prop} {w w':World} (h:Md F w w') {b:Nat} {L:List Value} (hb:a9 w.heap b L) (hf:¬F b):a9 w'.heap b L:=
 let ⟨e,hb⟩:=hb; ⟨e,h.au hb hf⟩
theorem Wk.B {w w':World} (h:Wk w w') {b:Nat} {L:List Value} (hb:a9 w.heap b L):a9 w'.heap b L:=Md.B h hb id
theorem a9.lt {h:Array Obj} {b:Nat} {L:List Value} (hb:a9 h b L):b < h.size:=let ⟨_,hb⟩:=hb; (Array.getElem?_eq_some_iff.1 hb).1
def bk (a:Option Addr):Nat:=match a with | some ad=>ad.block | none=>0
def fo (a:Option Addr):Nat:=match a with | some ad=>ad.off | none=>0
structure ak (h:Array Obj) (a:Option Addr) (xs:List Value):Prop where
 ok:xs≠[]→a=some ⟨bk a,fo a,none⟩
 ay:∀ j u,xs[j]? =some u→Hb.ay h (bk a) (fo a+j)=some u
theorem ak.nil (h:Array Obj) (a:Option Addr):ak h a []:=⟨fun h=>absurd rfl h,fun _ _ hu=>by simp at hu⟩
theorem ak.md {F:Nat→Prop} {w w':World} {a:Option Addr} {xs:List Value} (hc:ak w.heap a xs) (h:Md F w w') (hf:xs≠[]→¬F (bk a)):ak w'.heap a xs:=
 ⟨hc.ok,fun j u hu=>h.ay (hc.ay j u hu) (hf (by rintro rfl; simp at hu))⟩
theorem ak.wk {w w':World} {a:Option Addr} {xs:List Value} (hc:ak w.heap a xs) (h:Wk w w'):ak w'.heap a xs:=hc.md h (fun _ x=>x)
theorem ak.take {h:Array Obj} {a:Option Addr} {xs:List Value} (hc:ak h a xs) (n:Nat):ak h a (xs.take n):=
 ⟨fun hne=>hc.ok (by rintro rfl; simp at hne),fun j u hu=>hc.ay j u (by rw [List.getElem?_take] at hu; split at hu; exact hu; cases hu)⟩
theorem ak.ea {h:Array Obj} {b:Nat} {L:List Value} (hb:a9 h b L):ak h (some ⟨b,0,none⟩) L:=
 ⟨fun _=>rfl,fun j u hu=>by show Hb.ay h b (0 +j)=_; rw [Nat.zero_add,hb.ay]; exact hu⟩
theorem ak.gA {h:Array Obj} {a:Option Addr} {xs:List Value} (hc:ak h a xs) {i:Nat} {u:Value} (hu:xs[i]? =some u):Hb.ay h (bk a) (fo a+i*1)=some u:=by
 rw [Nat.mul_one]; exact hc.ay i u hu
def bE (h:Array Obj) (a:Option Addr) (l:List (List UInt8)):Prop :=ak h a (l.map str)
theorem bE.get {h:Array Obj} {a:Option Addr} {l:List (List UInt8)} (hs:bE h a l) {i:Nat} (hi:i < l.length):Hb.ay h (bk a) (fo a+i*1)=some (str (l.getD i [])):=
 ak.gA hs (by simp [List.getD_eq_getElem?_getD,hi])
theorem bE.wk {w w':World} {a:Option Addr} {l:List (List UInt8)} (hs:bE w.heap a l) (h:Wk w w'):bE w'.heap a l:=ak.wk hs h
theorem bG {α:Type} {f:α→Value} {l:List α} (h:0 < l.length):l.map f≠[]:=by
 cases l with
 | nil=>simp at h
 | cons x l=>simp
def gX (k:IntKind) (h:Array Obj) (a:Option Addr) (l:List Int):Prop :=ak h a (l.map (Value.int k))
def eo (P:Program) (t e size bytes:Nat):Bool:=
 match P.underlying t with
 | some (.slice e')=>e'==e && match P.info? e with
   | some i=>i.size==size && i.bytes==bytes && Nat.blt 0 size && match i.zero with
     | some z=>z.cells.size==size
     | none=>false
   | none=>false
 | _=>false
theorem kG {P:Program} {t e size bytes:Nat} (h:eo P t e size bytes=true):
 P.underlying t=some (.slice e)∧∃ i z,P.info? e=some i∧i.zero=some z∧i.size=size∧i.bytes=bytes∧z.cells.size=size∧0 < size:=by
 unfold eo at h
 split at h
 · rename_i e' hu
   simp only [Bool.and_eq_true,beq_iff_eq] at h
   obtain ⟨rfl,h⟩:=h
   split at h
   · rename_i i hi
     simp only [Bool.and_eq_true,beq_iff_eq] at h
     obtain ⟨⟨⟨h1,h2⟩,h3⟩,h4⟩:=h
     split at h4
     · rename_i z hz
       exact ⟨hu,i,z,hi,hz,h1,h2,by simpa using h4,Nat.lt_of_lt_of_le (Nat.lt_succ_self 0) (Nat.le_of_ble_eq_true h3)⟩
     · cases h4
   · cases h
 · cases h
def cE (P:Program) (t:TypeId):Option Nat:=(P.info? t).map (·.size)
def zeroOf (P:Program) (t:TypeId):Option (Option (List Value)):=(P.info? t).map fun i=>i.zero.map fun z=>z.cells.toList
def aM (P:Program) (f:FuncId):Prop := ∀ args w,(callFunc f args).run P w= .ok (.enter f args) w
theorem y6 {P:Program} {f:FuncId} {fn:Func} (hf:P.funcs[f]? =some fn) (hn:(fn.name== "runtime.NumGoroutine")=false) (hb:fn.body.isNone=false):aM P f:=by
 intro args w
 have h1:¬((fn.name== "runtime.NumGoroutine")=true):=by rw [hn]; simp
 have h2:¬(fn.body.isNone=true):=by rw [hb]; simp
 simp only [callFunc,Sem.run_bind,run_program,Result.andThen_ok,hf]
 rw [if_neg h1,if_neg h2]
 rfl
section
variable {P:Program} {N:Fm} {σ:Nat→Value} {w:World} {dst:Option Nat} {ty:TypeId} {pos :String} {af:Array Edge} {g:Option (Nat×Bool)} {x y z:Operand} {K:(Nat→Value)→World→Prop}
theorem Gw {o:Oper} {f:FuncId} {L:List Value} {R:Value→World→Prop} (hrun:(execOp (ev N σ) o).run P w= .ok (.enter f L.toArray) w) (hr:aT P f L.toArray w R)
 (k:∀ v w',R v w'→K (dU σ o.dst v) w'):bD P N o σ w K:=by
 unfold bD Oper.wp
 rw [et,hrun]
 refine Calls.mono hr fun e w' ⟨v,he,a⟩=> ?_
 subst he
 exact ⟨_,fI ..,k v w' a⟩
theorem cl {f:FuncId} {args:Array Operand} {a:Array TypeId} {L:List Value} {R:Value→World→Prop} (hc:aM P f) (hr:aT P f L.toArray w R) (c:args.toList.map (ev N σ)=L)
 (k:∀ v w',R v w'→K (dU σ dst v) w'):bD P N ⟨dst,.call ⟨.value (.func f),args,a⟩,ty,pos,af,g⟩ σ w K:=by
 refine Gw (f:=f) ?_ hr k
 have :args.map (ev N σ)=L.toArray:=by rw [← c,← Array.toList_map]
 simp [execOp,resolve,ev,Deferred.ofValue,invoke,this,hc L.toArray w]
theorem jg {o:Oper} {ob:Obj} {v:Nat→Value} (hrun:(execOp (ev N σ) o).run P w= .ok (.value (v w.heap.size)) {w with heap:=w.heap.push ob})
 (k:∀ b w',b=w.heap.size→Nw w w'→w'.heap[b]? =some ob→K (dU σ o.dst (v b)) w'):bD P N o σ w K:=
 iF hrun (k _ _ rfl (uM w ob) (by simp))
theorem al {e:TypeId} {a:List Value} (hz:zeroOf P e=some (some a)) (k:∀ b w',b=w.heap.size→Nw w w'→a9 w'.heap b a→K (dU σ dst (.pointer (some ⟨b,0,none⟩))) w'):
 bD P N ⟨dst,.alloc e,ty,pos,af,g⟩ σ w K:=by
 refine jg (v:=fun b=> .pointer (some ⟨b,0,none⟩)) (ob:= .cells a.toArray e (0,0)) ?_ (fun b w' h1 h2 h3=>k b w' h1 h2 ⟨e,h3⟩)
 unfold zeroOf at hz
 simp only [Option.map_eq_some_iff] at hz
 obtain ⟨i,hi,zv,c,rfl⟩:=hz
 simp [execOp,Instr.alloc,zeroValue,ek hi,c,newVar,newRow]
theorem fK {e:TypeId} {a:List Value} (hz:zeroOf P e=some (some a)) (k:∀ b w',b=w.heap.size→Nw w w'→w'.heap[b]? =some (.cells a.toArray e (0,0))→K (dU σ dst (.pointer (some ⟨b,0,none⟩))) w'):
 bD P N ⟨dst,.alloc e,ty,pos,af,g⟩ σ w K:=by
 refine jg (v:=fun b=> .pointer (some ⟨b,0,none⟩)) (ob:= .cells a.toArray e (0,0)) ?_ k
 unfold zeroOf at hz
 simp only [Option.map_eq_some_iff] at hz
 obtain ⟨i,hi,zv,c,rfl⟩:=hz
 simp [execOp,Instr.alloc,zeroValue,ek hi,c,newVar,newRow]
theorem bx {e:TypeId} {v:Value} {L:List Value} (hx:ev N σ x=v) (a:v.cells.toList=L) (k:∀ b w',b=w.heap.size→Nw w w'→a9 w'.heap b L→K (dU σ dst (.pointer (some ⟨b,0,none⟩))) w'):
 bD P N ⟨dst,.box e x,ty,pos,af,g⟩ σ w K:=by
 subst a
 refine jg (v:=fun b=> .pointer (some ⟨b,0,none⟩)) (ob:= .cells v.cells e (0,0)) ?_ (fun b w' h1 h2 h3=>k b w' h1 h2 ⟨e,h3⟩)
 simp [execOp,Instr.box,hx,newVar,newRow]
theorem mj {t:TypeId} (k:∀ b w',b=w.heap.size→Nw w w'→w'.heap[b]? =some (.map #[] 0)→K (dU σ dst (.map (some b))) w'):bD P N ⟨dst,.makeMap t none,ty,pos,af,g⟩ σ w K:=by
 refine jg (v:=fun b=> .map (some b)) ?_ k
 simp [execOp,Instr.makeMap]
theorem jU {t e:TypeId} {size bytes:Nat} (c:eo P t e size bytes=true)
 (k:∀ b w',b=w.heap.size→Nw w w'→(∀ B,B≤b→w'.ownsRow B e size (.slice (some ⟨b,0,none⟩) 0 0) 0 [])→K (dU σ dst (.slice (some ⟨b,0,none⟩) 0 0)) w'):bD P N ⟨dst,.buildSlice t 0 #[],ty,pos,af,g⟩ σ w K:=by
 refine jg (v:=fun b=> .slice (some ⟨b,0,none⟩) 0 0) (ob:= .cells #[] e (0,0)) ?_ (fun b w' h1 h2 h3=>k b w' h1 h2 fun B a=>⟨by simp,.inr ⟨b,0,#[],rfl,a,h3,Nat.le_refl _,by simp [maxLen],by simp,by simp⟩⟩)
 obtain ⟨hu,i,zv,hi,hz,h1,h2,h3,h4⟩:=kG c
 simp [execOp,Instr.buildSlice,bW hu,sizeOf,ek hi,Instr.fill,newRow]
 congr 2
 exact Array.eq_empty_of_size_eq_zero (by simp)
theorem xR {t e:TypeId} {size bytes:Nat} {v:Value} {L:List Value} (A:eo P t e size bytes=true) (hs:Nat.ble size 1000=true) (hx:ev N σ x=v) (hv:v.cells.size=size)
 (a:v.cells.toList=L) (k:∀ b w',b=w.heap.size→Nw w w'→w'.heap[b]? =some (.cells L.toArray e (0,0))→K (dU σ dst (.slice (some ⟨b,0,none⟩) 1 1)) w'):bD P N ⟨dst,.buildSlice t 1 #[(0,x)],ty,pos,af,g⟩ σ w K:=by
 subst a
 refine jg (v:=fun b=> .slice (some ⟨b,0,none⟩) 1 1) (ob:= .cells v.cells e (0,0)) ?_ (fun b w' h1 h2 h3=>k b w' h1 h2 (by simpa using h3))
 obtain ⟨hu,i,zv,hi,hz,h1,h2,h3,h4⟩:=kG A
 have C:size≤1000:=by simpa using hs
 have p:Instr.fill (fun i=>some (i*size,size)) ((Array.range size).map (zv.cells[· % zv.cells.size]!)) [(0,v)]=some v.cells:=by
  have hsz:((Array.range size).map (zv.cells[· % zv.cells.size]!)).size=size:=by simp
  generalize (Array.range size).map (zv.cells[· % zv.cells.size]!)=cs at hsz
  simp only [Instr.fill,hv]
  rw [if_neg (by rw [hsz]; simp)]
  congr 1
  have key:∀ (l:List Value) (m:Nat) (cs:Array Value),m+l.length≤cs.size→∀ j,((l.zipIdx m).foldl (fun (cs:Array Value) (c,j)=>cs.setIfInBounds (0 *size+j) c) cs)[j]? =if j < m then cs[j]? else if j < m+l.length then l[j - m]? else cs[j]? :=by
   intro l
   induction l with
   | nil=>intro m cs hm j; simp; intro h1 h2; omega
   | cons c l ih=>
     intro m cs hm j
     simp only [List.zipIdx_cons,List.foldl_cons,List.length_cons] at hm ⊢
     rw [ih (m+1) _ (by simp; omega)]
     simp only [Nat.zero_mul,Nat.zero_add,Array.getElem?_setIfInBounds]
     by_cases h1:j < m
     · rw [if_pos (by omega),if_pos h1,if_neg (by omega)]
     · rw [if_neg h1]
       by_cases h2:j=m
       · subst h2
         rw [if_pos (by omega),if_pos rfl,if_pos (by omega),if_pos (by omega)]
         simp
       · rw [if_neg (by omega)]
         by_cases h3:j < m+1 +l.length
         · rw [if_pos h3,if_pos (by omega)]
           obtain ⟨q,s⟩:∃ q,j - m=q+1:=⟨j - m - 1,by omega⟩
           rw [s,List.getElem?_cons_succ,show j - (m+1)=q from by omega]
         · rw [if_neg h3,if_neg (by omega),if_neg (by omega)]
  apply Array.ext_getElem?
  intro j
  have :=key v.cells.toList 0 cs (by simp; omega) j
  rw [show (v.cells.zipIdx.foldl (fun (cs:Array Value) (c,j)=>cs.setIfInBounds (0 *size+j) c) cs)=((v.cells.toList.zipIdx 0).foldl (fun (cs:Array Value) (c,j)=>cs.setIfInBounds (0 *size+j) c) cs) from by
   rw [← Array.foldl_toList]; simp [Array.toList_zipIdx]]
  rw [this]
  simp only [Nat.not_lt_zero,if_false,Nat.zero_add,Nat.sub_zero,Array.length_toList,Array.getElem?_toList]
  split
  · rfl
  · rw [Array.getElem?_eq_none (by omega),Array.getElem?_eq_none (by omega)]
 simp only [execOp,Instr.buildSlice,Sem.run_bind,bW hu,Result.andThen_ok,sizeOf,ek hi,Sem.run_pure,h1,Nat.one_mul,Sem.run_ite,zeroValue,hz,List.map_toArray,List.map_cons,List.map_nil,hx,p]
 rw [if_neg (by rw [show (2:Nat) ^ 24=16777216 from rfl]; omega),if_neg (by omega)]
 simp [newRow]
theorem rG {t e:TypeId} {size bytes:Nat} {v:Value} {L:List Value} (c:eo P t e size bytes=true) (hs:Nat.ble size 1000=true) (hx:ev N σ x=v) (hv:v.cells.size=size)
 (a:v.cells.toList=L) (k:∀ b w',b=w.heap.size→Nw w w'→a9 w'.heap b L→K (dU σ dst (.slice (some ⟨b,0,none⟩) 1 1)) w'):bD P N ⟨dst,.buildSlice t 1 #[(0,x)],ty,pos,af,g⟩ σ w K:=
 xR c hs hx hv a fun b w' h1 h2 h3=>k b w' h1 h2 ⟨_,h3⟩
theorem j4 {v:Value} (h:v.oneCell'=true):v.cells= #[v]:=by cases v <;> first | rfl | (cases h; done)
theorem ta {loc:Nat→Option (Nat×Nat)} (c:∀ i,loc i=some (i*1,1)):∀ (rest pre a:List Value),a.length=rest.length→rest.all Value.oneCell'=true→
 Instr.fill loc (pre++a).toArray ((rest.zipIdx pre.length).map fun q=>(q.2,q.1))=some (pre++rest).toArray
 | [],pre,a,hl,_=>by
   rw [List.eq_nil_of_length_eq_zero hl]; rfl
 | v::r,pre,a,hl,h1=>by
   cases a with
   | nil=>simp at hl
   | cons z a=>
     rw [List.all_cons,Bool.and_eq_true] at h1
     have hv:=j4 h1.1
     have ih:=ta c r (pre++ [v]) a (by simpa using hl) h1.2
     simp only [List.zipIdx_cons,List.map_cons,Instr.fill,c,hv]
     rw [if_neg (by simp)]
     simp only [List.length_append,List.length_singleton,List.append_assoc,List.singleton_append] at ih
     rw [← ih]
     simp
theorem kY {t e bytes n:Nat} {ps:Array (Nat×Operand)} {L:List Value} (j:eo P t e 1 bytes=true) (hp:ps.toList.map (fun p=>(p.1,ev N σ p.2))=(L.zipIdx 0).map fun q=>(q.2,q.1)) (h1:L.all Value.oneCell'=true) (hn:L.length=n) (hs:(Nat.ble n 1000 && Nat.blt 0 n)=true)
 (k:∀ b w',b=w.heap.size→Nw w w'→w'.heap[b]? =some (.cells L.toArray e (0,0))→K (dU σ dst (.slice (some ⟨b,0,none⟩) n n)) w'):bD P N ⟨dst,.buildSlice t n ps,ty,pos,af,g⟩ σ w K:=by
 subst hn
 refine jg (v:=fun b=> .slice (some ⟨b,0,none⟩) L.length L.length) (ob:= .cells L.toArray e (0,0)) ?_ k
 obtain ⟨hu,i,zv,hi,hz,a,h2,h3,h4⟩:=kG j
 simp only [Bool.and_eq_true] at hs
 have A:L.length≤1000:=by simpa using hs.1
 have C:0 < L.length:=by have :=Nat.le_of_ble_eq_true hs.2; omega
 have c:Instr.fill (fun i=>some (i*1,1)) ((Array.range (L.length*1)).map (zv.cells[· % zv.cells.size]!)) (ps.toList.map (fun p=>(p.1,ev N σ p.2)))=some L.toArray:=by
  rw [hp]
  have s:((Array.range (L.length*1)).map (zv.cells[· % zv.cells.size]!)).toList.length=L.length:=by simp
  have :=ta (loc:=fun i=>some (i*1,1)) (fun _=>rfl) L [] ((Array.range (L.length*1)).map (zv.cells[· % zv.cells.size]!)).toList s h1
  rw [List.nil_append,List.nil_append,Array.toArray_toList] at this
  exact this
 simp only [execOp,Instr.buildSlice,Sem.run_bind,bW hu,Result.andThen_ok,sizeOf,ek hi,Sem.run_pure,a,Sem.run_ite,zeroValue,hz,Array.toList_map,c]
 rw [if_neg (by rw [show (2:Nat) ^ 24=16777216 from rfl]; omega),if_neg (by omega)]
 simp [newRow]
theorem gj {t e:TypeId} {bytes:Nat} {v:Value} (a:eo P t e 1 bytes=true) (hx:ev N σ x=v) (h1:v.oneCell'=true)
 (k:∀ b w',b=w.heap.size→Nw w w'→a9 w'.heap b [v]→K (dU σ dst (.slice (some ⟨b,0,none⟩) 1 1)) w'):bD P N ⟨dst,.buildSlice t 1 #[(0,x)],ty,pos,af,g⟩ σ w K:=
 rG a rfl hx (by rw [j4 h1]; rfl) (by rw [j4 h1]) k
theorem kp {t e:TypeId} {size bytes:Nat} {L:List Value} (a:eo P t e size bytes=true) (hs:Nat.ble size 1000=true) (hx:ev N σ x= .agg L.toArray) (hl:L.length=size)
 (k:∀ b w',b=w.heap.size→Nw w w'→a9 w'.heap b L→K (dU σ dst (.slice (some ⟨b,0,none⟩) 1 1)) w'):bD P N ⟨dst,.buildSlice t 1 #[(0,x)],ty,pos,af,g⟩ σ w K:=
 rG a hs hx (by simpa [Value.cells] using hl) (by simp [Value.cells]) k
theorem ig {e:TypeId} {L:List Value} (hx:ev N σ x= .agg L.toArray) (k:∀ b w',b=w.heap.size→Nw w w'→a9 w'.heap b L→K (dU σ dst (.pointer (some ⟨b,0,none⟩))) w'):
 bD P N ⟨dst,.box e x,ty,pos,af,g⟩ σ w K:=bx hx (by simp [Value.cells]) k
theorem oL {e:TypeId} {L:List Value} (hx:ev N σ x= .agg L.toArray) (k:∀ b w',b=w.heap.size→Nw w w'→w'.heap[b]? =some (.cells L.toArray e (0,0))→K (dU σ dst (.pointer (some ⟨b,0,none⟩))) w'):
 bD P N ⟨dst,.box e x,ty,pos,af,g⟩ σ w K:=by
 refine jg (v:=fun b=> .pointer (some ⟨b,0,none⟩)) (ob:= .cells L.toArray e (0,0)) ?_ (fun b w' h1 h2 h3=>k b w' h1 h2 h3)
 simp [execOp,Instr.box,hx,newVar,newRow,Value.cells]
theorem lT {l:List Value} (h:l.all Value.oneCell'=true):∀ u∈l,u.oneCell'=true :=List.all_eq_true.1 h
theorem c4 {t b off :Nat} {e:TypeId} {L:List Value} {v:Value} (hz:cE P t=some 1) (hx:ev N σ x= .pointer (some ⟨b,off,none⟩)) (hy:ev N σ y=v) (h1:v.oneCell'=true) (hb:w.heap[b]? =some (.cells L.toArray e (0,0))) (j:off < L.length)
 (k:∀ w',Md (fun k=>k=b) w w'→w'.heap[b]? =some (.cells (L.set off v).toArray e (0,0))→K σ w'):bD P N ⟨none,.store t x y,ty,pos,af,g⟩ σ w K:=by
 have hc:v.cells= #[v]:=by cases v <;> first | rfl | (cases h1; done)
 have c:w.cell? ⟨b,off,none⟩=some L[off]:=by rw [g5,aQ hb]; simp [j]
 have hfr:w.frozen? ⟨b,off,none⟩=false :=by simp only [World.frozen?,show w.heap[b]? =_ from hb]; simp
 unfold cE at hz
 simp only [Option.map_eq_some_iff] at hz
 obtain ⟨i,hi,hs⟩:=hz
 have a:(⟨b,off,none⟩:Addr).add 0=⟨b,off,none⟩:=rfl
 have hrun:(execOp (ev N σ) ⟨none,.store t x y,ty,pos,af,g⟩).run P w= .ok .skip (w.setCell ⟨b,off,none⟩ v):=by
  simp [execOp,Instr.storeAt,hx,hy,Instr.sureAddr,storeVar,hc,sizeOf,ek hi,hs,storeCells,a,run_store P w _ v _ h1,c,hfr]
 unfold bD Oper.wp
 rw [et,hrun]
 refine ⟨σ,rfl,k _ ⟨rfl,rfl,by simp [World.setCell],fun k _ hk=> ?_⟩ ?_⟩
 · exact Below.heap_setCell w _ v k hk
 · have hlt:=(Array.getElem?_eq_some_iff.1 hb).1
   have hv:w.heap[b]= .cells L.toArray e (0,0):=(Array.getElem?_eq_some_iff.1 hb).2
   simp only [World.setCell]
   rw [Array.getElem?_eq_getElem (by simpa using hlt),Array.getElem_modify]
   simp [hv,List.setIfInBounds_toArray]
theorem st {t b off :Nat} {L:List Value} {v:Value} (hz:cE P t=some 1) (hx:ev N σ x= .pointer (some ⟨b,off,none⟩)) (hy:ev N σ y=v) (h1:v.oneCell'=true) (hb:a9 w.heap b L) (a:off < L.length)
 (k:∀ w',Md (fun k=>k=b) w w'→a9 w'.heap b (L.set off v)→K σ w'):bD P N ⟨none,.store t x y,ty,pos,af,g⟩ σ w K:=
 let ⟨_,hb⟩:=hb
 c4 hz hx hy h1 hb a fun w' h1 h2=>k w' h1 ⟨_,h2⟩
theorem ga {t b off n:Nat} {e:TypeId} {L vs:List Value} (hz:cE P t=some n) (hx:ev N σ x= .pointer (some ⟨b,off,none⟩)) (hy:ev N σ y= .agg vs.toArray) (hn:vs.length=n) (h1:vs.all Value.oneCell'=true) (hb:w.heap[b]? =some (.cells L.toArray e (0,0))) (a:off+n≤L.length)
 (k:∀ w',Md (fun k=>k=b) w w'→w'.heap[b]? =some (.cells (L.take off++vs++L.drop (off+n)).toArray e (0,0))→K σ w'):bD P N ⟨none,.store t x y,ty,pos,af,g⟩ σ w K:=by
 unfold cE at hz
 simp only [Option.map_eq_some_iff] at hz
 obtain ⟨i,hi,hs⟩:=hz
 have bF:=run_storeCells_at P b off e vs 0 L.toArray w hb (by simp; omega) (lT h1)
 have hrun:(execOp (ev N σ) ⟨none,.store t x y,ty,pos,af,g⟩).run P w= .ok .skip (w.setRow b (L.take off++vs++L.drop (off+n)).toArray):=by
  simp [execOp,Instr.storeAt,hx,hy,Instr.sureAddr,storeVar,Value.cells,sizeOf,ek hi,hs,hn,bF]
 unfold bD Oper.wp
 rw [et,hrun]
 exact ⟨σ,rfl,k _ ⟨rfl,rfl,by simp,fun k _ hk=>setRow_other w b k _ hk⟩ (setRow_heap w b _ _ e _ hb)⟩
theorem b0 {t b off n:Nat} {L vs:List Value} (hz:cE P t=some n) (hx:ev N σ x= .pointer (some ⟨b,off,none⟩)) (hy:ev N σ y= .agg vs.toArray) (hn:vs.length=n) (h1:vs.all Value.oneCell'=true) (hb:a9 w.heap b L) (a:off+n≤L.length)
 (k:∀ w',Md (fun k=>k=b) w w'→a9 w'.heap b (L.take off++vs++L.drop (off+n))→K σ w'):bD P N ⟨none,.store t x y,ty,pos,af,g⟩ σ w K:=by
 obtain ⟨e,hb⟩:=hb
 unfold cE at hz
 simp only [Option.map_eq_some_iff] at hz
 obtain ⟨i,hi,hs⟩:=hz
 have bF:=run_storeCells_at P b off e vs 0 L.toArray w hb (by simp; omega) (lT h1)
 have hrun:(execOp (ev N σ) ⟨none,.store t x y,ty,pos,af,g⟩).run P w= .ok .skip (w.setRow b (L.take off++vs++L.drop (off+n)).toArray):=by
  simp [execOp,Instr.storeAt,hx,hy,Instr.sureAddr,storeVar,Value.cells,sizeOf,ek hi,hs,hn,bF]
 unfold bD Oper.wp
 rw [et,hrun]
 exact ⟨σ,rfl,k _ ⟨rfl,rfl,by simp,fun k _ hk=>setRow_other w b k _ hk⟩ ⟨e,setRow_heap w b _ _ e _ hb⟩⟩
theorem xA {t ty e:TypeId} {i:TypeInfo} {zv:Value} {B n m c:Nat} {v v':Value} {xs news:List Value} {ad:Addr} {w':World} (hu:P.underlying t=some (.slice e)) (hi:P.info? e=some i) (hz:i.zero=some zv) (G:zv.cells.size=i.size) (E:0 < i.size)
 (a:w.ownsRow B e i.size v n xs) (hl:news.length=m*i.size) (p:∀ j u,news[j]? =some u→w.cell? (ad.add j)=some u) (h1:∀ u∈news,u.oneCell'=true) (q:n+m≤maxLen) (hb:(n+m)*i.bytes≤140737488355328)
 (hr:(Builtin.append_ #[t,t] ty #[v,.slice (some ad) m c]).run P w= .ok v' w'):∀ k,v'.ownBlock=some k→v.ownBlock=some k∨w.heap.size≤k:=by
 intro k hk
 have I:n+m≤9223372036854775807:=by unfold maxLen at q; omega
 rcases a.2 with ⟨rfl,rfl⟩ | ⟨gg,cap,cur,rfl,J,hg,O,M,hcs,U⟩
 · have hx:xs= []:=List.eq_nil_of_length_eq_zero (by simpa using a.1)
   subst hx
   obtain ⟨v2,V,s,h2,_,_⟩:=run_append_own (P:=P) w w.heap.size t ty e i zv i.size i.bytes hu hi hz rfl rfl G E _ 0 [] (World.ownsRow_nil w w.heap.size e i.size) ad m c news hl p h1 q hb (Nat.le_refl _)
   rw [hr] at s
   cases s
   exact .inr (by
    rcases h2.2 with ⟨h,_⟩ | ⟨g2,_,_,h,hb2,_⟩
    · rw [h] at hk; simp [Value.ownBlock] at hk
    · rw [h] at hk; simp only [Value.ownBlock,Option.some.injEq] at hk; omega)
 · by_cases A:n+m≤cap
   · have C:n*i.size+news.length≤cur.size:=by rw [hl,hcs,← Nat.add_mul]; exact Nat.mul_le_mul_right _ A
     rw [run_append_room (P:=P) w t ty e i hu hi gg n cap cur hg ad m c news hl p h1 A C] at hr
     cases hr
     exact .inl hk
   · have holds:∀ j u,xs[j]? =some u→w.cell? ((⟨gg,0,none⟩:Addr).add j)=some u:=a.cells (g:=gg) rfl
     rw [run_append_grow (P:=P) w t ty e i zv hu hi hz ⟨gg,0,none⟩ n cap xs a.1 holds ad m c news hl p (by omega) (by omega) (growslice_fits (by omega) hb)] at hr
     cases hr
     simp only [Value.ownBlock,Option.some.injEq] at hk
     exact .inr (by omega)
theorem ap {t e size bytes B n m c:Nat} {v:Value} {xs news:List Value} {a:Option Addr} (G:eo P t e size bytes=true) (p:w.ownsRow B e size v n xs) (hx:ev N σ x=v) (E:B≤w.heap.size)
 (hy:ev N σ y= .slice a m c) (hc:ak w.heap a news) (hl:news.length=m*size) (h1:news.all Value.oneCell'=true) (hb:(n+m)*bytes≤140737488355328) (J:n+m≤9223372036854775807)
 (k:∀ v' w',w'.ownsRow B e size v' (n+m) (xs++news)→Md (fun k=>v.ownBlock=some k) w w'→(v'= .slice none 0 0↔v= .slice none 0 0∧m=0)→(∀ k,v'.ownBlock=some k→v.ownBlock=some k∨w.heap.size≤k)→K (dU σ dst v') w'):
 bD P N ⟨dst,.call ⟨.builtin .append,#[x,y],#[t,t]⟩,ty,pos,af,g⟩ σ w K:=by
 obtain ⟨hu,i,zv,hi,hz,hs,hby,C,A⟩:=kG G
 have q:n+m≤maxLen:=by unfold maxLen; omega
 by_cases hm:news= []
 · subst hm
   have hm0:m=0:=by
    rcases Nat.mul_eq_zero.1 (hl.symm.trans rfl) with h | h
    · exact h
    · omega
   subst hm0
   have hrun:(Builtin.append_ #[t,t] ty #[v,.slice a 0 c]).run P w= .ok v w:=by
    rcases p.2 with ⟨rfl,rfl⟩ | ⟨gg,cap,cur,rfl,_,_,hle,_⟩
    · cases a <;> simp [Builtin.append_,bW hu,sizeOf,ek hi,Builtin.lenOf,Builtin.firstCells,loadCells,loadCellsFrom]
    · cases a <;> simp [Builtin.append_,bW hu,sizeOf,ek hi,Builtin.lenOf,Builtin.firstCells,loadCells,loadCellsFrom,hle,storeCells]
   refine iF (w':=w) (v:=v) ?_ (k v w (by simpa using p) (Md.refl _ _) (by simp) (fun _ h=> .inl h))
   simp [execOp,resolve,invoke,builtin,hx,hy,hrun]
 · have ha:=hc.ok hm
   have s:∀ j u,news[j]? =some u→w.cell? ((⟨bk a,fo a,none⟩:Addr).add j)=some u:=fun j u hu=>by rw [gd,g5]; exact hc.ay j u hu
   obtain ⟨v',w',hr,h2,h3,h4⟩:=run_append_own (P:=P) w B t ty e i zv size bytes hu hi hz hs hby C A v n xs p ⟨bk a,fo a,none⟩ m c news hl s (lT h1) q hb E
   subst hs hby
   have hfr:=xA hu hi hz C A p hl s (lT h1) q hb hr
   refine iF (w':=w') (v:=v') ?_ (k v' w' h2 ⟨h3.os,h3.output,h3.size,fun k hk hne=>h3.block k hk (fun e=>hne e.symm)⟩ h4 hfr)
   have I:ev N σ y= .slice (some ⟨bk a,fo a,none⟩) m c:=hy.trans (congrArg (fun a=>Value.slice a m c) ha)
   simp [execOp,resolve,invoke,builtin,hx,I,hr]
theorem aH {t n len cap:Nat} {k:IntKind} {i:Int} {a:Option Addr} (he:eA P t=some n) (hx:ev N σ x= .slice a len cap) (hy:ev N σ y= .int k i) (h0:0≤i∧i < len) (ha:a=some ⟨bk a,fo a,none⟩):
 (execOp (ev N σ) ⟨dst,.indexAddr t x y,ty,pos,af,g⟩).run P w= .ok (.value (.pointer (some ⟨bk a,fo a+i.toNat*n,none⟩))) w:=
 ia he (by rw [hx]; congr 1) hy h0
end
theorem bA {F:Nat→Prop} {w w':World} {B e size n:Nat} {v:Value} {xs:List Value} (h:w.ownsRow B e size v n xs) (hm:Md F w w') (hf:∀ k,v.ownBlock=some k→¬F k):w'.ownsRow B e size v n xs:=by
 refine ⟨h.1,?_⟩
 rcases h.2 with hn | ⟨g,cap,cur,rfl,hb,a,rest⟩
 · exact .inl hn
 · exact .inr ⟨g,cap,cur,rfl,hb,hm.au a (hf g rfl),rest⟩
section
variable {P:Program} {N:Fm} {σ:Nat→Value} {w:World} {dst:Option Nat} {ty:TypeId} {pos :String} {af:Array Edge} {g:Option (Nat×Bool)} {x y z:Operand} {K:(Nat→Value)→World→Prop}
theorem lE {t B e size n cap off j:Nat} {a:Option Addr} {xs:List Value} {u:Value} (A:w.ownsRow B e size (.slice a n cap) n xs) (hz:cE P t=some 1) (hx:ev N σ x= .pointer (some ⟨bk a,off,none⟩)) (hy:ev N σ y=u) (h1:u.oneCell'=true)
 (hj:off =fo a+j) (hl:j < n*size)
 (k:∀ w',Md (fun k=>(Value.slice a n cap).ownBlock=some k) w w'→w'.ownsRow B e size (.slice a n cap) n (xs.set j u)→K σ w'):bD P N ⟨none,.store t x y,ty,pos,af,g⟩ σ w K:=by
 obtain ⟨h0,h⟩:=A
 rcases h with ⟨h,rfl⟩ | ⟨gg,cp,cur,h,c,hg,hle,q,hsz,C⟩
 · simp at hl
 · simp only [Value.slice.injEq,true_and] at h
   obtain ⟨rfl,rfl⟩:=h
   have s:off =j:=by rw [hj]; simp [fo]
   subst s
   have hlen:off < cur.toList.length:=by
    have :=Nat.mul_le_mul_right size hle
    rw [Array.length_toList,hsz]; omega
   refine c4 (L:=cur.toList) hz hx hy h1 (show w.heap[gg]? =_ by simpa using hg) hlen fun w' p i=>k w' (p.mono (fun k _ hk=>by subst hk; rfl)) ⟨by simpa using h0,.inr ⟨gg,cap,_,rfl,c,i,hle,q,by simpa using hsz,?_⟩⟩
   rw [← C]
   simp only
   rw [List.take_set]
end
theorem dA {w:World} {B e size n:Nat} {v:Value} {xs:List Value} (h:w.ownsRow B e size v n xs):v.oneCell'=true :=by
 rcases h.2 with ⟨rfl,_⟩ | ⟨g,cap,cur,rfl,_⟩ <;> rfl
theorem dw {w:World} {B e size n:Nat} {v:Value} {xs:List Value} (h:w.ownsRow B e size v n xs):∃ a cap,v= .slice a n cap:=by
 rcases h.2 with ⟨rfl,rfl⟩ | ⟨g,cap,cur,rfl,_⟩
 · exact ⟨_,_,rfl⟩
 · exact ⟨_,_,rfl⟩
theorem jb {w:World} {B i e e' size q n p:Nat} {v v':Value} {xs s:List Value} (h:w.ownsRow B e size v n xs) (j:w.ownsRow i e' q v' p s) (hne:e≠e') {k:Nat} (hk:v.ownBlock=some k):v'.ownBlock≠some k:=by
 intro c
 rcases h.2 with ⟨rfl,_⟩ | ⟨g,cap,cur,rfl,_,hg,_⟩
 · simp [Value.ownBlock] at hk
 · rcases j.2 with ⟨rfl,_⟩ | ⟨E,A,C,rfl,_,a,_⟩
   · simp [Value.ownBlock] at c
   · simp only [Value.ownBlock,Option.some.injEq] at hk c
     subst hk c
     rw [hg] at a
     simp only [Option.some.injEq,Obj.cells.injEq] at a
     exact hne a.2.1
theorem aE {w w':World} {B e size n:Nat} {v:Value} {xs:List Value} (h:w.ownsRow B e size v n xs) (hm:Wk w w'):w'.ownsRow B e size v n xs:=bA h hm (fun _ _ x=>x)
theorem cU {w:World} {B e size n:Nat} {v:Value} {xs:List Value} (h:w.ownsRow B e size v n xs) {k:Nat} (hk:v.ownBlock=some k):B≤k∧k < w.heap.size:=h.lt k hk
theorem Wk.own {a w w':World} {B e size n:Nat} {v:Value} {xs:List Value} (h:Wk a w) (c:w.ownsRow B e size v n xs) (hm:Md (fun k=>v.ownBlock=some k) w w') (i:a.heap.size≤B):Wk a w':=
 Md.trans' h hm (fun k hk hv=>by have :=(cU c hv).1; omega)
theorem lz {w:World} {B e size n:Nat} {v:Value} {xs:List Value} (h:w.ownsRow B e size v n xs):∃ a cap,v= .slice a n cap∧ak w.heap a xs∧n≤cap∧(∀ k,v.ownBlock=some k→a=some ⟨k,0,none⟩∧B≤k∧k < w.heap.size)∧(v.ownBlock=none→xs= []):=by
 rcases h.2 with ⟨rfl,rfl⟩ | ⟨g,cap,cur,rfl,hb,c,hle,_,_,i⟩
 · have :xs= []:=List.eq_nil_of_length_eq_zero (by simpa using h.1)
   subst this
   exact ⟨none,0,rfl,ak.nil _ _,Nat.le_refl _,fun k hk=>by simp [Value.ownBlock] at hk,fun _=>rfl⟩
 · refine ⟨_,cap,rfl,⟨fun _=>rfl,fun j u hu=> ?_⟩,hle,fun k hk=> ?_,fun hk=>by simp [Value.ownBlock] at hk⟩
   · show ay w.heap g (0 +j)=_
     rw [Nat.zero_add,aQ c]
     rw [← i,List.getElem?_take] at hu
     split at hu
     · simpa using hu
     · cases hu
   · simp only [Value.ownBlock,Option.some.injEq] at hk; subst hk
     exact ⟨rfl,hb,(Array.getElem?_eq_some_iff.1 c).1⟩
theorem aB {w:World} {B e size n cap:Nat} {a:Option Addr} {xs:List Value} (h:w.ownsRow B e size (.slice a n cap) n xs):n≤cap∧ak w.heap a xs:=by
 obtain ⟨c,i,hv,hc,hle,_⟩:=lz h
 simp only [Value.slice.injEq,true_and] at hv
 obtain ⟨rfl,rfl⟩:=hv
 exact ⟨hle,hc⟩
theorem fX {w:World} {B a e size n:Nat} {v:Value} {xs:List Value} (h:w.ownsRow B e size v n xs) (c:a≤B):w.ownsRow a e size v n xs:=by
 refine ⟨h.1,?_⟩
 rcases h.2 with h | ⟨g,cap,cur,h1,h2,r⟩
 · exact .inl h
 · exact .inr ⟨g,cap,cur,h1,Nat.le_trans c h2,r⟩
theorem ak.drop {h:Array Obj} {a:Option Addr} {xs:List Value} (hc:ak h a xs) {cap k size:Nat} (c:xs.length≤cap*size):ak h (dj a cap k size) (xs.drop (k*size)):=by
 unfold dj
 by_cases hk:cap=k
 · rw [if_pos hk,List.drop_eq_nil_of_le (by rw [← hk]; exact c)]; exact ak.nil _ _
 · rw [if_neg hk]
   by_cases hne:xs= []
   · subst hne; rw [List.drop_nil]; exact ak.nil _ _
   · have ha:=hc.ok hne
     rw [ha]
     simp only [Option.map_some,gd]
     refine ⟨fun _=>rfl,fun j u hu=> ?_⟩
     rw [List.getElem?_drop] at hu
     have :=hc.ay _ _ hu
     show Hb.ay h (bk a) (fo a+k*size+j)=_
     rw [Nat.add_assoc]; exact this
theorem D3 {w:World} {B e size n cap:Nat} {a:Option Addr} {xs:List Value} (h:w.ownsRow B e size (.slice a n cap) n xs) (hne:xs≠[]):B≤bk a∧bk a < w.heap.size:=by
 obtain ⟨c,i,hv,_,_,h1,h2⟩:=lz h
 simp only [Value.slice.injEq,true_and] at hv
 obtain ⟨rfl,rfl⟩:=hv
 cases hk:(Value.slice a n cap).ownBlock with
 | none=>exact absurd (h2 hk) hne
 | some k=>
   obtain ⟨rfl,h3,h4⟩:=h1 k hk
   exact ⟨h3,h4⟩
section
variable {P:Program} {N:Fm} {σ:Nat→Value} {w:World} {dst:Option Nat} {ty:TypeId} {pos :String} {af:Array Edge} {g:Option (Nat×Bool)} {x y z:Operand} {K:(Nat→Value)→World→Prop}
end
end Go.Hb
namespace Go.Hb
open Go.RowKit
section
variable {P:Program} {md:Region.Mode} {ops:Array Oper} {Q:Exit→Act→World→Prop} {S:World→Prop} {r:Nat}
def jL (P:Program) (md:Region.Mode) (ops:Array Oper) (Q:Exit→Act→World→Prop) (S:World→Prop) (r:Nat):Nat→Array Bool→Act→World→Prop
 | 0,aC,a,w=>Region.ready md ops aC= []∧Q .normal a w
 | fuel+1,aC,a,w=>
   (Region.ready md ops aC= []→Q .normal a w)∧
   ∀ i∈Region.ready md ops aC,wpOp P ops Q i (fun c w'=>((aC.setIfInBounds i true).getD r false =false→S w')∧jL P md ops Q S r fuel (aC.setIfInBounds i true) c w') a w
theorem wh:∀ (fuel:Nat) (aC:Array Bool) (a:Act) (w:World),jL P md ops Q S r fuel aC a w→wpAny P md ops Q fuel aC a w
 | 0,_,_,_,h=>h
 | fuel+1,_,_,_,h=>⟨h.1,fun i hi=>wpOp_mono (fun c w' j=>wh fuel _ c w' j.2) (h.2 i hi)⟩
theorem Gt {i:Nat} {s:Oper} {v:Value} (hi:ops[i]? =some s) (U:∀ (j:Nat) (o:Oper) cs b,ops[j]? =some o→o.op≠.select cs b)
 (Z:∀ c a w,Q (.panic c) (a.put s.dst v) w→Q (.panic c) a w) (ah:∀ o,ops[r]? =some o→∃ x∈o.after,Region.binds md x=true∧x.on=i) (ac:i≠r):
 ∀ (fuel:Nat) (aC:Array Bool) (a:Act) (w:World),
   (∀ j q,ops[j]? =some q→j≠i→aC.getD j true =false→(∀ x∈q.after,Region.binds md x=true→x.on≠i)→s.apart ops q=true)→
   i∈Region.ready md ops aC→YieldsIf P ops S s v a→S w→aC.getD r false =false→
   jL P md ops Q S r fuel (aC.setIfInBounds i true) (a.put s.dst v) w→jL P md ops Q S r (fuel+1) aC a w:=by
 intro fuel
 induction fuel with
 | zero=>
   intro aC a w _ hr hy A _ H
   refine ⟨fun h=>(by rw [h] at hr; cases hr),fun j hj=> ?_⟩
   by_cases p:j=i
   · subst p; exact hy.wpOp hi A ⟨fun _=>A,H⟩
   · have :=ready_mono hj p
     rw [H.1] at this
     cases this
 | succ fuel ih=>
   intro aC a w G hr hy A hl H
   refine ⟨fun h=>(by rw [h] at hr; cases hr),fun j hj=> ?_⟩
   by_cases p:j=i
   · subst p; exact hy.wpOp hi A ⟨fun _=>A,H⟩
   · have h1:=H.2 j (ready_mono hj p)
     obtain ⟨M,q,C,aa⟩:=mem_ready.1 hj
     have O:∀ x∈q.after,Region.binds md x=true→x.on≠i:=fun x hx hb heq=>by
      have h1:=aa x hx hb
      have h0:=(mem_ready.1 hr).1
      rw [heq] at h1
      rcases Nat.lt_or_ge i aC.size with E | E
      · simp [E] at h0 h1; rw [h0] at h1; cases h1
      · simp [Array.getElem?_eq_none E] at h1
     have J:j≠r:=by
      rintro rfl
      obtain ⟨x,hx,hb,ag⟩:=ah q C
      exact O x hx hb ag
     have hl2:(aC.setIfInBounds j true).getD r false =false :=by rw [getD_set_ne false J]; exact hl
     have hl3:((aC.setIfInBounds i true).setIfInBounds j true).getD r false =false :=by rw [getD_set_ne false J,getD_set_ne false ac]; exact hl
     have h2:=wpOp_putIf C (G j q C p M O) (fun cs b=>U i s cs b hi) (fun cs b=>U j q cs b C) Z hy h1
     have ab:∀ k ok,ops[k]? =some ok→k≠i→(aC.setIfInBounds j true).getD k true =false→
      (∀ x∈ok.after,Region.binds md x=true→x.on≠i)→s.apart ops ok=true :=fun k ok hk ad V ae=>by
      refine G k ok hk ad ?_ ae
      by_cases I:j=k
      · subst I; exact M
      · rw [getD_set_ne true I] at V; exact V
     refine wpOp_mono (fun Y w' h3=>⟨fun _=>h3.2.1 hl3,ih (aC.setIfInBounds j true) Y w' ab (ready_mono hr (Ne.symm p)) h3.1 (h3.2.1 hl3) hl2 ?_⟩) h2
     rw [Array.setIfInBounds_comm _ _ p]
     exact h3.2.2
end
section
variable {P:Program} {N:Fm} {ops:Array Oper} {Q:Exit→(Nat→Value)→World→Prop} {σ:Nat→Value} {w:World} {S:World→Prop} {r fuel:Nat} {aC:Array Bool}
 {d':Option Nat} {d:Nat} {op:Op} {ty:TypeId} {pos :String} {af:Array Edge} {v:Value}
def dV (P:Program) (N:Fm) (ops:Array Oper) (Q:Exit→(Nat→Value)→World→Prop) (S:World→Prop) (r fuel:Nat) (aC:Array Bool) (σ:Nat→Value) (w:World):Prop :=
 jL P .any ops (lift N Q) S r fuel aC (act N σ) w
theorem da {id:Nat} {l:List Oper} (S:World→Prop) (r:Nat) (hr:ly N.r l=true) (hm:P.follows .mixedOrders=true) (a:S w.drew) (h:dV P N l.toArray Q S r l.length (Array.replicate l.length false) σ w.drew):bL P N (.region id l.toArray true) Q σ w:=by
 exact ry hr hm (wh _ _ _ _ (by rw [List.size_toArray]; exact h))
def tI (F:List Nat) (ops:Array Oper) (aC:Array Bool) (r i:Nat):Bool:=
 gp F ops aC i && !(aC.getD r false) && i !=r && (match ops[r]? with | some o=>o.after.toList.any (fun x=>Region.binds .any x && x.on==i) | none=>false)
theorem lq (i:Nat) (hi:ops[i]? =some ⟨some d,op,ty,pos,af,none⟩) (hf:tI N.F ops aC r i=true)
 (hy:∀ w,S w→(execOp (ev N σ) ⟨some d,op,ty,pos,af,none⟩).run P w= .ok (.value v) w) (j:S w)
 (k:dV P N ops Q S r fuel (aC.setIfInBounds i true) (bY σ d v) w):dV P N ops Q S r (fuel+1) aC σ w:=by
 simp only [tI,gp,Bool.and_eq_true,Bool.not_eq_true',bne_iff_ne,ne_eq] at hf
 obtain ⟨⟨⟨⟨⟨⟨hf1,p⟩,hf3⟩,hfF⟩,hf4⟩,hf5⟩,hf6⟩:=hf
 rw [hi] at hfF
 refine Gt hi (Region.noSelect_spec hf1) (fun c a w=>lr hfF c a w) (fun o q=> ?_) hf5 fuel aC _ w (Region.free_spec hi p) (by simpa using hf3) (.inl ⟨ff _ rfl _,fun w j=> ?_⟩) j hf4 ?_ (v:=v)
 · rw [q] at hf6
   simp only [List.any_eq_true,Bool.and_eq_true,beq_iff_eq] at hf6
   obtain ⟨x,hx,h1,h2⟩:=hf6
   exact ⟨x,Array.mem_toList_iff.1 hx,h1,h2⟩
 · rw [et]; exact hy w j
 · rw [fI]; exact k
theorem uh (i:Nat) (hi:ops[i]? =some ⟨d',op,ty,pos,af,none⟩) (hr:g9 ops aC i=true)
 (h:bD P N ⟨d',op,ty,pos,af,none⟩ σ w (fun σ w=>((aC.setIfInBounds i true).getD r false =false→S w)∧dV P N ops Q S r fuel (aC.setIfInBounds i true) σ w)):dV P N ops Q S r (fuel+1) aC σ w:=by
 have a:Region.ready .any ops aC= [i]:=by simpa [g9] using hr
 refine ⟨fun h0=>absurd (a ▸ h0) (by simp),fun k hk=> ?_⟩
 rw [a] at hk
 obtain rfl :k=i:=by simpa using hk
 unfold wpOp
 simp only [hi]
 rw [if_pos (ff _ rfl _)]
 exact .inl (lM h (fun _ _ hk=>hk))
theorem fM (i:Nat) (hi:ops[i]? =some ⟨d',op,ty,pos,af,none⟩) (hr:g9 ops aC i=true)
 (h:bD P N ⟨d',op,ty,pos,af,none⟩ σ w (fun σ w=>S w∧dV P N ops Q S r fuel (aC.setIfInBounds i true) σ w)):dV P N ops Q S r (fuel+1) aC σ w:=
 uh i hi hr (wi h fun _ _ hk=>⟨fun _=>hk.1,hk.2⟩)
theorem bJ (i:Nat) (hi:ops[i]? =some ⟨d',op,ty,pos,af,none⟩) (hr:g9 ops aC i=true) (hl:(aC.setIfInBounds i true).getD r false =true)
 (h:bD P N ⟨d',op,ty,pos,af,none⟩ σ w (fun σ w=>dV P N ops Q S r fuel (aC.setIfInBounds i true) σ w)):dV P N ops Q S r (fuel+1) aC σ w:=
 uh i hi hr (wi h fun _ _ hk=>⟨fun h0=>absurd (h0.symm.trans hl) Bool.noConfusion,hk⟩)
theorem c9 (hr:(Region.ready .any ops aC).isEmpty=true) (h:Q .normal σ w):dV P N ops Q S r fuel aC σ w:=by
 have a:Region.ready .any ops aC= []:=by simpa using hr
 cases fuel with
 | zero=>exact ⟨a,σ,rfl,h⟩
 | succ fuel=>exact ⟨fun _=>⟨σ,rfl,h⟩,by rw [a]; simp⟩
attribute [irreducible] dV
end
end Go.Hb
namespace Go.Hb
open Go.RowKit
section
variable {P:Program} {md:Region.Mode} {ops:Array Oper} {Q:Exit→Act→World→Prop} {S:World→Prop} {r:Nat}
inductive ka (md:Region.Mode) (ops:Array Oper) (i:Nat):Nat→Prop
 | one {r o e} :ops[r]? =some o→e∈o.after→Region.binds md e=true→e.on=i→ka md ops i r
 | more {r o e} :ops[r]? =some o→e∈o.after→Region.binds md e=true→ka md ops i e.on→ka md ops i r
def kO (md:Region.Mode) (ops:Array Oper) (aC:Array Bool):Prop := ∀ (j:Nat) (o:Oper),ops[j]? =some o→aC.getD j false =true→∀ e∈o.after,Region.binds md e=true→aC.getD e.on false =true
theorem tJ {aC:Array Bool} {j k:Nat} (h:aC.getD k false =true):(aC.setIfInBounds j true).getD k false =true :=by
 by_cases e:j=k
 · subst e
   by_cases hl:j < aC.size
   · simp [hl]
   · simp [hl] at h
 · rw [getD_set_ne false e]; exact h
theorem kO.set {aC:Array Bool} {j:Nat} (h:kO md ops aC) (hj:j∈Region.ready md ops aC):kO md ops (aC.setIfInBounds j true):=by
 intro k o hk hl e he hb
 obtain ⟨_,p,i,c⟩:=mem_ready.1 hj
 by_cases a:j=k
 · subst a
   rw [i] at hk; cases hk
   exact tJ (c e he hb)
 · rw [getD_set_ne false a] at hl
   exact tJ (h k o hk hl e he hb)
theorem ka.aC {aC:Array Bool} {i r:Nat} (hd:ka md ops i r) (hc:kO md ops aC) (ha:∀ o,ops[r]? =some o→∀ e∈o.after,Region.binds md e=true→aC.getD e.on false =true):aC.getD i false =true :=by
 induction hd with
 | one h1 h2 h3 h4=>rw [← h4]; exact ha _ h1 _ h2 h3
 | more h1 h2 h3 _ ih=>exact ih fun o a e he hb=>hc _ o a (ha _ h1 _ h2 h3) e he hb
theorem Gs {i:Nat} {q:Oper} {v:Value} (hi:ops[i]? =some q) (Y:∀ (j:Nat) (o:Oper) cs b,ops[j]? =some o→o.op≠.select cs b)
 (ab:∀ c a w,Q (.panic c) (a.put q.dst v) w→Q (.panic c) a w) (hd:ka md ops i r) (ad:i≠r):
 ∀ (fuel:Nat) (aC:Array Bool) (a:Act) (w:World),kO md ops aC→
   (∀ j s,ops[j]? =some s→j≠i→aC.getD j true =false→(∀ x∈s.after,Region.binds md x=true→x.on≠i)→q.apart ops s=true)→
   i∈Region.ready md ops aC→YieldsIf P ops S q v a→S w→aC.getD r false =false→
   jL P md ops Q S r fuel (aC.setIfInBounds i true) (a.put q.dst v) w→jL P md ops Q S r (fuel+1) aC a w:=by
 intro fuel
 induction fuel with
 | zero=>
   intro aC a w _ _ hr hy A _ H
   refine ⟨fun h=>(by rw [h] at hr; cases hr),fun j hj=> ?_⟩
   by_cases p:j=i
   · subst p; exact hy.wpOp hi A ⟨fun _=>A,H⟩
   · have :=ready_mono hj p
     rw [H.1] at this
     cases this
 | succ fuel ih=>
   intro aC a w hcl I hr hy A hl H
   refine ⟨fun h=>(by rw [h] at hr; cases hr),fun j hj=> ?_⟩
   by_cases p:j=i
   · subst p; exact hy.wpOp hi A ⟨fun _=>A,H⟩
   · have h1:=H.2 j (ready_mono hj p)
     obtain ⟨U,s,C,G⟩:=mem_ready.1 hj
     have J:aC.getD i false =false :=by
      have h0:=(mem_ready.1 hr).1
      rcases Nat.lt_or_ge i aC.size with E | E
      · simpa [E] using h0
      · simp [E] at h0
     have ah:∀ x∈s.after,Region.binds md x=true→x.on≠i:=fun x hx hb heq=>by
      have h1:=G x hx hb
      rw [heq,J] at h1; cases h1
     have O:j≠r:=by
      rintro rfl
      have :=hd.aC hcl (fun o V=>by rw [C] at V; cases V; exact G)
      rw [J] at this; cases this
     have hl2:(aC.setIfInBounds j true).getD r false =false :=by rw [getD_set_ne false O]; exact hl
     have hl3:((aC.setIfInBounds i true).setIfInBounds j true).getD r false =false :=by rw [getD_set_ne false O,getD_set_ne false ad]; exact hl
     have h2:=wpOp_putIf C (I j s C p U ah) (fun cs b=>Y i q cs b hi) (fun cs b=>Y j s cs b C) ab hy h1
     have ac:∀ k ok,ops[k]? =some ok→k≠i→(aC.setIfInBounds j true).getD k true =false→
      (∀ x∈ok.after,Region.binds md x=true→x.on≠i)→q.apart ops ok=true :=fun k ok hk ae Z ag=>by
      refine I k ok hk ae ?_ ag
      by_cases M:j=k
      · subst M; exact U
      · rw [getD_set_ne true M] at Z; exact Z
     refine wpOp_mono (fun aa w' h3=>⟨fun _=>h3.2.1 hl3,ih (aC.setIfInBounds j true) aa w' (hcl.set hj) ac (ready_mono hr (Ne.symm p)) h3.1 (h3.2.1 hl3) hl2 ?_⟩) h2
     rw [Array.setIfInBounds_comm _ _ p]
     exact h3.2.2
theorem Gu {i:Nat} {q:Oper} {v:Value} (hi:ops[i]? =some q) (U:∀ (j:Nat) (o:Oper) cs b,ops[j]? =some o→o.op≠.select cs b)
 (Z:∀ c a w,Q (.panic c) (a.put q.dst v) w→Q (.panic c) a w) (E:i≠r):
 ∀ (fuel:Nat) (aC:Array Bool) (a:Act) (w:World),
   (∀ j s,ops[j]? =some s→j≠i→aC.getD j true =false→(∀ x∈s.after,Region.binds md x=true→x.on≠i)→q.apart ops s=true)→
   i∈Region.ready md ops aC→YieldsIf P ops (fun _=>True) q v a→(aC.getD r false =false→S w)→
   jL P md ops Q S r fuel (aC.setIfInBounds i true) (a.put q.dst v) w→jL P md ops Q S r (fuel+1) aC a w:=by
 intro fuel
 induction fuel with
 | zero=>
   intro aC a w _ hr hy C H
   refine ⟨fun h=>(by rw [h] at hr; cases hr),fun j hj=> ?_⟩
   by_cases p:j=i
   · subst p; exact hy.wpOp hi trivial ⟨fun h=>C (by rw [getD_set_ne false E] at h; exact h),H⟩
   · have :=ready_mono hj p
     rw [H.1] at this
     cases this
 | succ fuel ih=>
   intro aC a w J hr hy C H
   refine ⟨fun h=>(by rw [h] at hr; cases hr),fun j hj=> ?_⟩
   by_cases p:j=i
   · subst p; exact hy.wpOp hi trivial ⟨fun h=>C (by rw [getD_set_ne false E] at h; exact h),H⟩
   · have h1:=H.2 j (ready_mono hj p)
     obtain ⟨O,s,G,aa⟩:=mem_ready.1 hj
     have ac:aC.getD i false =false :=by
      have h0:=(mem_ready.1 hr).1
      rcases Nat.lt_or_ge i aC.size with A | A
      · simpa [A] using h0
      · simp [A] at h0
     have ag:∀ x∈s.after,Region.binds md x=true→x.on≠i:=fun x hx hb heq=>by
      have h1:=aa x hx hb
      rw [heq,ac] at h1; cases h1
     have h2:=wpOp_putIf G (J j s G p O ag) (fun cs b=>U i q cs b hi) (fun cs b=>U j s cs b G) Z hy h1
     have ab:∀ k ok,ops[k]? =some ok→k≠i→(aC.setIfInBounds j true).getD k true =false→
      (∀ x∈ok.after,Region.binds md x=true→x.on≠i)→q.apart ops ok=true :=fun k ok hk ad V ae=>by
      refine J k ok hk ad ?_ ae
      by_cases M:j=k
      · subst M; exact O
      · rw [getD_set_ne true M] at V; exact V
     have I:(aC.setIfInBounds i true).setIfInBounds j true =(aC.setIfInBounds j true).setIfInBounds i true :=Array.setIfInBounds_comm _ _ (fun e=>p e.symm)
     have hg:(aC.setIfInBounds j true).getD r false =false→((aC.setIfInBounds i true).setIfInBounds j true).getD r false =false :=fun h=>by rw [I,getD_set_ne false E]; exact h
     refine wpOp_mono (fun Y w' h3=>⟨fun h=>h3.2.1 (hg h),ih (aC.setIfInBounds j true) Y w' ab (ready_mono hr (Ne.symm p)) h3.1 (fun h=>h3.2.1 (hg h)) ?_⟩) h2
     rw [← I]
     exact h3.2.2
end
section
variable {P:Program} {N:Fm} {ops:Array Oper} {Q:Exit→(Nat→Value)→World→Prop} {σ:Nat→Value} {w:World} {S:World→Prop} {r fuel:Nat} {aC:Array Bool}
 {d:Nat} {op:Op} {ty:TypeId} {pos :String} {af:Array Edge} {v:Value}
def nr (ops:Array Oper) (i:Nat):Nat→Nat→Bool
 | 0,_=>false
 | f+1,r=>match ops[r]? with | some o=>o.after.toList.any (fun e=>Region.binds .any e && (e.on==i || nr ops i f e.on)) | none=>false
theorem AI {i:Nat} :∀ (f r:Nat),nr ops i f r=true→ka .any ops i r:=by
 intro f
 induction f with
 | zero=>intro r h; cases h
 | succ f ih=>
   intro r h
   rw [nr] at h
   split at h
   · rename_i o a
     simp only [List.any_eq_true,Bool.and_eq_true,Bool.or_eq_true,beq_iff_eq] at h
     obtain ⟨e,he,hb,h⟩:=h
     rcases h with h | h
     · exact .one a (Array.mem_toList_iff.1 he) hb h
     · exact .more a (Array.mem_toList_iff.1 he) hb (ih _ h)
   · cases h
def o3 (ops:Array Oper) (aC:Array Bool):Bool:=(List.range ops.size).all fun j=> !aC.getD j false || match ops[j]? with | some o=>o.after.toList.all (fun e=> !Region.binds .any e || aC.getD e.on false) | none=>true
theorem zC (h:o3 ops aC=true):kO .any ops aC:=by
 intro j o hj hl e he hb
 unfold o3 at h
 rw [List.all_eq_true] at h
 have h1:=h j (List.mem_range.2 (Array.getElem?_eq_some_iff.1 hj).1)
 rw [hl,hj] at h1
 simp only [Bool.not_true,Bool.false_or,List.all_eq_true,Bool.or_eq_true,Bool.not_eq_true'] at h1
 rcases h1 e (Array.mem_toList_iff.2 he) with h2 | h2
 · rw [hb] at h2; cases h2
 · exact h2
def pM (F:List Nat) (ops:Array Oper) (aC:Array Bool) (r i:Nat):Bool:=gp F ops aC i && !(aC.getD r false) && i !=r && o3 ops aC && nr ops i ops.size r
def nH (F:List Nat) (ops:Array Oper) (aC:Array Bool) (r i:Nat):Bool:=gp F ops aC i && i !=r
theorem fq (i:Nat) (hi:ops[i]? =some ⟨some d,op,ty,pos,af,none⟩) (hf:pM N.F ops aC r i=true)
 (hy:∀ w,S w→(execOp (ev N σ) ⟨some d,op,ty,pos,af,none⟩).run P w= .ok (.value v) w) (j:S w)
 (k:dV P N ops Q S r fuel (aC.setIfInBounds i true) (bY σ d v) w):dV P N ops Q S r (fuel+1) aC σ w:=by
 simp only [pM,gp,Bool.and_eq_true,Bool.not_eq_true',bne_iff_ne,ne_eq] at hf
 obtain ⟨⟨⟨⟨⟨⟨⟨hf1,p⟩,hf3⟩,hfF⟩,hf4⟩,hf5⟩,hf6⟩,hf7⟩:=hf
 rw [hi] at hfF
 unfold dV at*
 refine Gs hi (Region.noSelect_spec hf1) (fun c a w=>lr hfF c a w) (AI _ _ hf7) hf5 fuel aC _ w (zC hf6) (Region.free_spec hi p) (by simpa using hf3) (.inl ⟨ff _ rfl _,fun w j=> ?_⟩) j hf4 ?_ (v:=v)
 · rw [et]; exact hy w j
 · rw [fI]; exact k
theorem bj (i:Nat) (hi:ops[i]? =some ⟨some d,op,ty,pos,af,none⟩) (hf:nH N.F ops aC r i=true)
 (hy:∀ w,(execOp (ev N σ) ⟨some d,op,ty,pos,af,none⟩).run P w= .ok (.value v) w) (j:aC.getD r false =false→S w)
 (k:dV P N ops Q S r fuel (aC.setIfInBounds i true) (bY σ d v) w):dV P N ops Q S r (fuel+1) aC σ w:=by
 simp only [nH,gp,Bool.and_eq_true,bne_iff_ne,ne_eq] at hf
 obtain ⟨⟨⟨⟨hf1,p⟩,hf3⟩,hfF⟩,hf5⟩:=hf
 rw [hi] at hfF
 unfold dV at*
 refine Gu hi (Region.noSelect_spec hf1) (fun c a w=>lr hfF c a w) hf5 fuel aC _ w (Region.free_spec hi p) (by simpa using hf3) (.inl ⟨ff _ rfl _,fun w _=> ?_⟩) j ?_ (v:=v)
 · rw [et]; exact hy w
 · rw [fI]; exact k
end
end Go.Hb
namespace Go.Hb
def vV:Nat→Nat→List UInt8
 | 0,n=> [UInt8.ofNat n]
 | f+1,n=>if n < 128 then [UInt8.ofNat n] else UInt8.ofNat (n % 128 +128)::vV f (n / 128)
def F9 (n:Nat):List UInt8:=vV n n
def frame:List (List UInt8)→List UInt8
 | []=> []
 | r::l=>F9 r.length++(r++frame l)
theorem gU {α:Type} (l:List α) (i:Nat) (d:α) (h:i < l.length):l.take (i+1)=l.take i++ [l.getD i d]:=by
 rw [List.take_succ_eq_append_getElem h]; simp [List.getD_eq_getElem?_getD,h]
end Go.Hb
namespace Go.Hb
open Go.RowKit
def U8 (l:List UInt8):List Value:=l.map fun b=>Value.int .u8 b.toNat
theorem mT (l:List UInt8):(U8 l).length=l.length:=by simp [U8]
theorem mS (a b:List UInt8):U8 (a++b)=U8 a++U8 b:=by simp [U8]
theorem xa (l:List UInt8):(U8 l).all Value.oneCell'=true :=by
 rw [List.all_eq_true]
 intro u hu
 simp only [U8,List.mem_map] at hu
 obtain ⟨b,_,rfl⟩:=hu
 rfl
def m7 (P:Program) (t e u:TypeId):Bool:=
 eo P t e 1 1 && (match P.underlying e with | some (.int .u8)=>true | _=>false) && (match P.underlying u with | some .string=>true | _=>false) &&
  (match P.info? e with | some i=>(match i.zero with | some (.int .u8 0)=>true | _=>false) | none=>false)
theorem xV {P:Program} {t e u:TypeId} (h:m7 P t e u=true):
 eo P t e 1 1=true∧P.underlying e=some (.int .u8)∧P.underlying u=some .string∧∃ i,P.info? e=some i∧i.zero=some (.int .u8 0):=by
 simp only [m7,Bool.and_eq_true] at h
 obtain ⟨⟨⟨h1,h2⟩,h3⟩,h4⟩:=h
 refine ⟨h1,?_,?_,?_⟩
 · split at h2
   · rename_i h; exact h
   · cases h2
 · split at h3
   · rename_i h; exact h
   · cases h3
 · split at h4
   · rename_i i hi
     split at h4
     · rename_i h; exact ⟨i,hi,h⟩
     · cases h4
   · cases h4
section
variable {P:Program} {N:Fm} {σ:Nat→Value} {w:World} {dst:Option Nat} {ty:TypeId} {pos :String} {af:Array Edge} {g:Option (Nat×Bool)} {x y z:Operand} {K:(Nat→Value)→World→Prop}
theorem foldl_push (l:List UInt8) (r:ByteArray):(l.map fun b=>(b.toNat:Int)).foldl (fun r n=>r.push (UInt8.ofNat n.toNat)) r=⟨r.data++l.toArray⟩:=by
 induction l generalizing r with
 | nil=>simp
 | cons b l ih=>
   simp only [List.map_cons,List.foldl_cons]
   rw [ih]
   apply ByteArray.ext
   simp [ByteArray.push]
theorem nm {t e u n c:Nat} {a:Option Addr} {l:List UInt8} (h:m7 P t e u=true) (hx:ev N σ x= .slice a n c) (hc:ak w.heap a (U8 l)) (hl:l.length=n):
 (execOp (ev N σ) ⟨dst,.convert t u x,ty,pos,af,g⟩).run P w= .ok (.value (str l)) w:=by
 obtain ⟨h1,h2,h3,_⟩:=xV h
 obtain ⟨hu,_⟩:=kG h1
 have i:(Conv.bytesToString (.slice a n c)).run P w= .ok (str l) w:=by
  by_cases he:l= []
  · subst he
    cases a with
    | none=>simp [Conv.bytesToString,str]; rfl
    | some a=>
      subst hl
      have :=run_bytesToString (P:=P) w a 0 c [] (by simp [loadCells,loadCellsFrom])
      exact this.trans rfl
  · have ha:=hc.ok (by simpa [U8] using he)
    have p:(loadCells ⟨bk a,fo a,none⟩ n).run P w= .ok ((l.map fun b=>(b.toNat:Int)).map (Value.int .u8)).toArray w:=by
     subst hl
     have :=run_loadCells_list (P:=P) w ⟨bk a,fo a,none⟩ (U8 l) fun j v hj=>by
      rw [gd,g5]
      exact hc.ay j v hj
     rw [mT] at this
     rw [this]
     simp [U8]
    rw [ha,run_bytesToString w _ n c _ p,foldl_push]
    simp [str,ByteArray.empty,ByteArray.emptyWithCapacity]
    rfl
 simp [execOp,hx,run_convert_bytes_string w t u e a n c hu h2 h3,i]
theorem Gf {at_:Array TypeId} {v:Value} {a:Option Addr} {n c:Nat} (hx:ev N σ x= .slice a n c) (h:a=none∨c≠0):
 (execOp (ev N σ) ⟨dst,.call ⟨.builtin .unsafeSliceData,#[x],at_⟩,ty,pos,af,g⟩).run P w= .ok (.value (.pointer a)) w:=by
 have _:=v
 have :(Builtin.unsafeSliceData_ at_ ty #[.slice a n c]).run P w= .ok (.pointer a) w:=by
  cases a with
  | none=>exact Lib.run_unsafeSliceData_nil w at_ ty n c
  | some a=>exact Lib.run_unsafeSliceData_row w at_ ty a n c (h.resolve_left (by simp))
 simp [execOp,resolve,invoke,builtin,hx,this]
def ptrTo (P:Program) (a e:TypeId):Bool:=match P.underlying a with | some (.pointer e')=>e'==e && P.cellsOf e==1 | _=>false
theorem Gg {p it e B n c:Nat} {a:Option Addr} {l:List UInt8} {xs:List Value} (hp:ptrTo P p e=true) (hx:ev N σ x= .pointer a) (hy:ev N σ y= .int .i64 n) (i:w.ownsRow B e 1 (.slice a n c) n xs)
 (E:xs=U8 l) (G:n≤9223372036854775807)
 (k:∀ w',Md (fun k=>(Value.slice a n c).ownBlock=some k) w w'→w'.heap.size=w.heap.size→K (dU σ dst (str l)) w'):
 bD P N ⟨dst,.call ⟨.builtin .unsafeString,#[x,y],#[p,it]⟩,ty,pos,af,g⟩ σ w K:=by
 subst E
 have hln:l.length=n:=by have :=i.1; simpa [U8] using this
 unfold ptrTo at hp
 split at hp
 case h_2=>cases hp
 rename_i e' hu
 simp only [Bool.and_eq_true,beq_iff_eq] at hp
 obtain ⟨rfl,q⟩:=hp
 by_cases he:l= []
 · subst he
   obtain rfl :n=0:=hln.symm
   refine iF (w':=w) (v:=str []) ?_ (k w (Md.refl _ _) rfl)
   simp [execOp,resolve,invoke,builtin,hx,hy,Lib.run_unsafeString_none]
   rfl
 · rcases i.2 with ⟨h,h0⟩ | ⟨gg,cap,cur,h,_,s,hle,_,hsz,I⟩
   · subst h0; simp only [List.length_eq_zero_iff] at hln; exact absurd hln he
   · simp only [Value.slice.injEq,true_and] at h
     obtain ⟨rfl,rfl⟩:=h
     have C:w.shape? gg=some (e',cur.size):=by simp [World.shape?,s]
     have hr:=Lib.run_unsafeString_row (P:=P) w p it ty e' hu q gg cur.size C l he (by rw [hln,hsz]; omega) (by omega) (fun j u hu=>by
      obtain ⟨ad,cp,hv,hcs,_,hk,_⟩:=lz i
      simp only [Value.slice.injEq,true_and] at hv
      obtain ⟨rfl,rfl⟩:=hv
      rw [gd,g5]
      exact hcs.ay j _ (by simp [U8,hu]))
     refine iF (w':=w.freeze ⟨gg,0,none⟩ l.length) (v:=str l) ?_ (k _ ⟨?_,?_,?_,?_⟩ ?_)
     · simp [execOp,resolve,invoke,builtin,hx,hy,← hln,hr,str]
     · unfold World.freeze; split <;> rfl
     · unfold World.freeze; split <;> rfl
     · unfold World.freeze; split <;> simp
     · intro k hk hne
       have A:k≠gg:=fun e=>hne (by simp [Value.ownBlock,e])
       unfold World.freeze
       split
       · rfl
       · simp only [Array.getElem?_modify]; rw [if_neg (fun e=>A e.symm)]
     · unfold World.freeze; split <;> simp
def mG (P:Program) (a up e n:Nat):Bool:=
 (match P.underlying a with | some (.pointer e')=>e'==e | _=>false) && (match P.underlying up with | some .unsafePointer=>true | _=>false) && P.cellsOf e==n && Nat.blt 0 n && (match P.info? e with | some i=>i.size==n | _=>false)
theorem vX {P:Program} {a up e n:Nat} (h:mG P a up e n=true):P.underlying a=some (.pointer e)∧P.underlying up=some .unsafePointer∧P.cellsOf e=n∧0 < n∧∃ i,P.info? e=some i∧i.size=n:=by
 simp only [mG,Bool.and_eq_true] at h
 obtain ⟨⟨⟨⟨h1,h2⟩,h3⟩,h4⟩,h5⟩:=h
 refine ⟨?_,?_,by simpa using h3,Nat.lt_of_lt_of_le (Nat.lt_succ_self 0) (Nat.le_of_ble_eq_true h4),?_⟩
 · split at h1
   · rename_i h; simp only [beq_iff_eq] at h1; rw [h,h1]
   · cases h1
 · split at h2
   · rename_i h; exact h
   · cases h2
 · split at h5
   · rename_i i hi; exact ⟨i,hi,by simpa using h5⟩
   · cases h5
theorem FT {a up e n b:Nat} {L:List Value} (h:mG P a up e n=true) (hx:ev N σ x= .pointer (some ⟨b,0,none⟩)) (hb:w.heap[b]? =some (.cells L.toArray e (0,0))) (hl:L.length=n):
 (execOp (ev N σ) ⟨dst,.convert a up x,ty,pos,af,g⟩).run P w= .ok (.value (.pointer (some ⟨b,0,none⟩))) w:=by
 obtain ⟨h1,h2,h3,h4,i,hi,hs⟩:=vX h
 have c:w.shape? b=some (e,L.length):=by simp [World.shape?,hb]
 have hne:¬n=0:=by omega
 simp [execOp,hx,convert,bW h1,bW h2,Conv.unsafePointer,Conv.seenAt,viewAt,c,cellsIn,hl,sizeOf,ek hi,hs,hne]
theorem B2 {a up e n b:Nat} {L:List Value} (h:mG P a up e n=true) (hx:ev N σ x= .pointer (some ⟨b,0,none⟩)) (hb:w.heap[b]? =some (.cells L.toArray e (0,0))) (hl:L.length=n):
 (execOp (ev N σ) ⟨dst,.convert up a x,ty,pos,af,g⟩).run P w= .ok (.value (.pointer (some ⟨b,0,none⟩))) w:=by
 obtain ⟨h1,h2,h3,h4,i,hi,hs⟩:=vX h
 have j:w.shape? b=some (e,L.length):=by simp [World.shape?,hb]
 have hne:¬n=0:=by omega
 have c:liesAt P P.depth e (L.length / P.cellsOf e) 0 e 1=true :=by
  have hd:P.depth=(2 *(P.types.size+Made.depth)+1)+1:=rfl
  rw [hd]
  simp only [liesAt,Bool.or_eq_true]
  left
  rw [hd]
  simp [rowAt,h3,hne,hl,sameLayout,Nat.div_self h4]
 simp [execOp,hx,convert,bW h1,bW h2,Conv.unsafePointer,Conv.seenAt,viewAt,j,variablesAt,sizeOf,ek hi,hs,hne,c]
theorem DE {t c e:TypeId} {a:Addr} (hu:P.underlying t=some (.pointer e)) (hs:(P.info? e).isSome=true) (hx:ev N σ x= .pointer (some a)) (hy:ev N σ y= .pointer (some a)):
 (execOp (ev N σ) ⟨dst,.binOp .neq t x y c,ty,pos,af,g⟩).run P w= .ok (.value (.bool false)) w:=by
 obtain ⟨i,hi⟩:=Option.isSome_iff_exists.1 hs
 have he:∀ d,(Op.equalIn (d+1) t (.pointer (some a)) (.pointer (some a))).run P w= .ok true w:=by
  intro d
  simp [Op.equalIn,bW hu,sizeOf,ek hi,sameAddr]
 have h:(binOp .neq t (.pointer (some a)) (.pointer (some a))).run P w= .ok (.bool false) w:=by
  have :=he 9999
  simp only [binOp]
  have h2:(Op.equal t (.pointer (some a)) (.pointer (some a))).run P w= .ok true w:=this
  simp [h2]
 simp [execOp,hx,hy,eqGuard,h]
theorem zN {f:FuncId} {args:Array Operand} {a:Array TypeId} {v:Value} (hc:∀ v w,(callFunc f #[v]).run P w= .ok (.value v) w) (c:args.toList.map (ev N σ)= [v]):
 (execOp (ev N σ) ⟨dst,.call ⟨.value (.func f),args,a⟩,ty,pos,af,g⟩).run P w= .ok (.value v) w:=by
 have :args.map (ev N σ)= #[v]:=by rw [← Array.toList_inj,Array.toList_map,c]
 simp [execOp,resolve,ev,Deferred.ofValue,invoke,this,hc]
structure Bd (T e:TypeId) (w:World) (b:Nat) (buf:Value) (l:List UInt8):Prop where
 au:∃ pa,w.heap[b]? =some (.cells [Value.pointer pa,buf].toArray T (0,0))∧(pa=none∨pa=some ⟨b,0,none⟩)
 own:w.ownsRow (b+1) e 1 buf l.length (U8 l)
 nil:buf= .slice none 0 0↔l= []
def BF (b:Nat) (a:Value) (k:Nat):Prop :=k=b∨a.ownBlock=some k
end
theorem Bd.lt {T e b:Nat} {w:World} {a:Value} {l:List UInt8} (h:Bd T e w b a l):b < w.heap.size:=let ⟨_,h,_⟩:=h.au; (Array.getElem?_eq_some_iff.1 h).1
theorem Bd.eB {T e b:Nat} {w:World} {a:Value} {l:List UInt8} (h:Bd T e w b a l) {k:Nat} (hk:BF b a k):b≤k∧k < w.heap.size:=by
 rcases hk with rfl | hk
 · exact ⟨Nat.le_refl _,h.lt⟩
 · have :=h.own.lt k hk; omega
theorem Bd.md {T e b:Nat} {F:Nat→Prop} {w w':World} {a:Value} {l:List UInt8} (h:Bd T e w b a l) (hm:Md F w w') (hf:∀ k,BF b a k→¬F k):Bd T e w' b a l:=by
 obtain ⟨⟨c,h1,h2⟩,h3,h4⟩:=h
 exact ⟨⟨c,hm.au h1 (hf b (.inl rfl)),h2⟩,bA h3 hm (fun k hk=>hf k (.inr hk)),h4⟩
end Go.Hb
namespace Go.Hb
open Go.RowKit
def gT (P:Program) (t:TypeId):Option (List (Nat×Nat)×List Value):=
 match P.info? t,P.underlying t with
 | some it,some (.struct fields)=>
   match it.zero,fields.toList.mapM (fun f=>(P.info? f.type).map fun i=>(f.offset,i.size)) with
   | some z,some pl=>some (pl,z.cells.toList)
   | _,_=>none
 | _,_=>none
def mq (pl:List (Nat×Nat)):List Value→List (Nat×Value)→Option (List Value)
 | a,[]=>some a
 | a,(i,v)::r=>match pl[i]? with
   | some (off,s)=>if (s==1 && v.oneCell' && Nat.blt off a.length)=true then mq pl (a.set off v) r else none
   | none=>none
theorem Eu {pl:List (Nat×Nat)} {a L:List Value} {ps:List (Nat×Value)} (h:mq pl a ps=some L):Instr.fill (pl.toArray[·]?) a.toArray ps=some L.toArray:=by
 induction ps generalizing a with
 | nil=>simp only [mq,Option.some.injEq] at h; subst h; rfl
 | cons p ps ih=>
   obtain ⟨i,v⟩:=p
   simp only [mq] at h
   split at h
   · rename_i off s hs
     split at h
     · rename_i hc
       simp only [Bool.and_eq_true,beq_iff_eq] at hc
       obtain ⟨⟨rfl,h1⟩,ho⟩:=hc
       have c:off < a.length:=Nat.le_of_ble_eq_true ho
       have hv:v.cells= #[v]:=j4 h1
       have hpl:pl.toArray[i]? =some (off,1):=by simpa using hs
       simp only [Instr.fill,hpl,hv]
       rw [if_neg (by simp; omega),← ih h]
       simp
     · cases h
   · cases h
theorem jX {α:Type} {f:α→List Value} {m:Nat} (hf:∀ a,(f a).length=m) (l:List α):(l.flatMap f).length=l.length*m:=by
 induction l with
 | nil=>simp
 | cons x l ih=>simp [ih,hf,Nat.succ_mul,Nat.add_comm]
theorem pD {α:Type} {f:α→List Value} {m:Nat} (hf:∀ a,(f a).length=m) {l:List α} {j c:Nat} {a:α} (h:l[j]? =some a) (hc:c < m):(l.flatMap f)[j*m+c]? =(f a)[c]? :=by
 induction l generalizing j with
 | nil=>simp at h
 | cons x l ih=>
   cases j with
   | zero=>
     simp only [List.getElem?_cons_zero,Option.some.injEq] at h; subst h
     rw [Nat.zero_mul,Nat.zero_add,List.flatMap_cons,List.getElem?_append_left (by rw [hf]; exact hc)]
   | succ j=>
     simp only [List.getElem?_cons_succ] at h
     rw [List.flatMap_cons,List.getElem?_append_right (by rw [hf,Nat.succ_mul]; omega),hf,show (j+1)*m+c - m=j*m+c from by rw [Nat.succ_mul]; omega]
     exact ih h
theorem im {α:Type} {f:α→List Value} {m:Nat} (hf:∀ a,(f a).length=m) {h:Array Obj} {a:Option Addr} {l:List α} {i:Nat} {e:α} (hc:ak h a (l.flatMap f)) (hl:l[i]? =some e):∀ j,j < m→Hb.ay h (bk a) (fo a+i*m+j)=(f e)[j]? :=by
 intro j hj
 have h1:=pD hf hl hj
 have h2:j < (f e).length:=by rw [hf]; exact hj
 rw [List.getElem?_eq_getElem h2] at h1 ⊢
 rw [Nat.add_assoc]; exact hc.ay _ _ h1
theorem tp {α:Type} {f:α→List Value} {m:Nat} (hf:∀ a,(f a).length=m) (hm:0 < m) {l:List α} (h:0 < l.length):l.flatMap f≠[]:=by
 intro e
 have :=jX hf l
 rw [e] at this
 have :0 < l.length*m:=Nat.mul_pos h hm
 simp at*; omega
theorem tt {α:Type} {f:α→List Value} {m:Nat} (hf:∀ a,(f a).length=m) {l:List α} {j:Nat} (x:α) (h:j < l.length):(l.set j x).flatMap f=(l.flatMap f).take (j*m)++f x++(l.flatMap f).drop (j*m+m):=by
 induction l generalizing j with
 | nil=>simp at h
 | cons y l ih=>
   cases j with
   | zero=>
     simp only [List.set_cons_zero,List.flatMap_cons,Nat.zero_mul,List.take_zero,List.nil_append,Nat.zero_add]
     rw [List.drop_append,List.drop_of_length_le (by rw [hf]; exact Nat.le_refl _),hf]; simp
   | succ j=>
     simp only [List.length_cons] at h
     rw [List.set_cons_succ,List.flatMap_cons,ih (by omega),List.flatMap_cons,List.take_append,List.drop_append,hf,List.take_of_length_le (l:=f y) (by rw [hf,Nat.succ_mul]; omega),List.drop_of_length_le (l:=f y) (by rw [hf,Nat.succ_mul]; omega),
      show (j+1)*m - m=j*m from by rw [Nat.succ_mul]; omega,show (j+1)*m+m - m=j*m+m from by rw [Nat.succ_mul]; omega]
     simp
theorem tq {α:Type} {f:α→List Value} (hf:∀ a,(f a).all Value.oneCell'=true) (l:List α):(l.flatMap f).all Value.oneCell'=true :=by
 simp only [List.all_flatMap,List.all_eq_true]; intro x _; exact List.all_eq_true.1 (hf x)
section
variable {P:Program} {N:Fm} {σ:Nat→Value} {w:World} {dst:Option Nat} {ty:TypeId} {pos :String} {af:Array Edge} {g:Option (Nat×Bool)} {x y z:Operand} {K:(Nat→Value)→World→Prop}
theorem bT {t:TypeId} {parts:Array (Nat×Operand)} {pl:List (Nat×Nat)} {a L:List Value} {ps:List (Nat×Value)} (h:gT P t=some (pl,a)) (hp:parts.toList.map (fun p=>(p.1,ev N σ p.2))=ps) (c:mq pl a ps=some L):
 (execOp (ev N σ) ⟨dst,.build t parts,ty,pos,af,g⟩).run P w= .ok (.value (.agg L.toArray)) w:=by
 unfold gT at h
 split at h
 · rename_i it fields hi hu
   split at h
   · rename_i z i hz hm
     simp only [Option.some.injEq,Prod.mk.injEq] at h
     obtain ⟨rfl,rfl⟩:=h
     have hb:P.built t (parts.map (fun p=>(p.1,ev N σ p.2))).toList=some L.toArray:=by
      have :=Eu c
      simp only [Array.toArray_toList] at this
      simp only [Program.built,hi,hu,hz,hm,Array.toList_map,hp]; exact this
     simp [execOp,run_build w t _ _ hb]
   · cases h
 · cases h
end
end Go.Hb
namespace Go.Hb
open Go.RowKit
section
variable {P:Program} {N:Fm} {σ:Nat→Value} {w:World} {dst:Option Nat} {ty:TypeId} {pos :String} {af:Array Edge} {g:Option (Nat×Bool)} {x y z:Operand} {K:(Nat→Value)→World→Prop}
theorem Dp {zv:Value} (h1:zv.oneCell'=true) (n:Nat):madeCells zv.cells n=(List.replicate n zv).toArray:=by
 rw [j4 h1]
 apply Array.ext
 · simp [madeCells]
 · intro i h2 h3
   simp [madeCells,Nat.mod_one]
theorem DD {t e bytes n:Nat} {p j:IntKind} {zv:Value} (A:eo P t e 1 bytes=true) (a:zeroOf P e=some (some [zv])) (h1:zv.oneCell'=true) (hx:ev N σ x= .int p n) (hy:ev N σ y= .int j n) (hb:bytes*n≤281474976710656) (c:n≤maxLen)
 (k:∀ b w',b=w.heap.size→Nw w w'→(∀ B,B≤b→w'.ownsRow B e 1 (.slice (some ⟨b,0,none⟩) n n) n (List.replicate n zv))→K (dU σ dst (.slice (some ⟨b,0,none⟩) n n)) w'):bD P N ⟨dst,.makeSlice t x y,ty,pos,af,g⟩ σ w K:=by
 obtain ⟨hu,i,q,hi,hz,hs,hby,G,E⟩:=kG A
 have C:q.cells= #[zv]:=by
  unfold zeroOf at a
  simp only [hi,hz,Option.map_some,Option.some.injEq] at a
  exact Array.toList_inj.1 (by simpa using a)
 refine jg (v:=fun b=> .slice (some ⟨b,0,none⟩) n n) (ob:= .cells (List.replicate n zv).toArray e (0,0)) ?_ (fun b w' h2 h3 h4=>k b w' h2 h3 fun B s=>⟨by simp,.inr ⟨b,n,_,rfl,s,h4,Nat.le_refl _,c,by simp,by simp⟩⟩)
 have hr:=run_make (P:=P) w t e i q hu hi hz p j n n (by omega) (Int.le_refl _) (by rw [hby,← Int.natCast_mul]; omega) (by unfold maxLen at c; omega)
 rw [C,hs,Nat.mul_one,Int.toNat_natCast,show madeCells #[zv] n=(List.replicate n zv).toArray by rw [← Dp h1,j4 h1]] at hr
 simp [execOp,hx,hy,hr]
end
end Go.Hb
namespace Go.Hb
section
variable {P:Program} {N:Fm} {σ:Nat→Value} {w:World} {dst:Option Nat} {ty:TypeId} {pos :String} {af:Array Edge} {g:Option (Nat×Bool)} {x y z:Operand}
theorem zp {t n len cap i:Nat} {a:Option Addr} {k c:IntKind} (he:eA P t=some n) (hx:ev N σ x= .slice a len cap) (hy:ev N σ y= .int k (i:Nat)) (hz:ev N σ z= .int c (i:Nat)) (h:i≤cap):
 (execOp (ev N σ) ⟨dst,.slice t x none (some y) (some z),ty,pos,af,g⟩).run P w= .ok (.value (.slice a i i)) w:=by
 have h0:(0:Int)≤(i:Int):=by omega
 unfold eA at he
 cases hd:P.underlying t with
 | none=>rw [hd] at he; cases he
 | some d=>
   rw [hd] at he
   cases d <;> first | (cases he; done) | skip
   rename_i e
   cases hi':P.info? e with
   | none=>simp [hi'] at he
   | some j=>
     have ha:(if i=0 then a else a.map (·.add 0))=a:=by
      split
      · rfl
      · cases a <;> simp [Addr.add]
     simp only [execOp,Instr.sliceAt,Instr.slice,hx,hy,hz,Option.map_some,Option.map_none,Instr.sliceBounds,Instr.sliceBound,asIntOf]
     simp [bW hd,ek hi',sizeOf,h0,ha]
     intro hlt; omega
end
end Go.Hb
namespace Go.Hb
open Go.RowKit
def kf (h:Array Obj) (b:Nat) (kvs:List (Value×Value)):Prop := ∃ es clock,h[b]? =some (.map es clock)∧es.toList.map (fun e=>(e.key,e.val))=kvs
theorem kf.md {F:Nat→Prop} {w w':World} {b:Nat} {kvs:List (Value×Value)} (h:kf w.heap b kvs) (hm:Md F w w') (hf:¬F b):kf w'.heap b kvs:=
 let ⟨es,c,h1,h2⟩:=h; ⟨es,c,hm.au h1 hf,h2⟩
structure mP (P:Program) (k:TypeId) (isK:Value→Prop):Prop where
 check:∀ em w v,isK v→(Instr.checkKey em 10000 k v).run P w= .ok () w
 find:∀ w x es,isK x→(∀ e∈es,isK e.key)→
  ((Instr.findKey k x es).run P w= .ok none w∧∀ e∈es,e.key≠x)∨∃ j e,(Instr.findKey k x es).run P w= .ok (some (j,e.val)) w∧es[j]? =some e∧e.key=x
theorem zc {P:Program} {k:TypeId} {em:Bool} {n:Nat} {a:List UInt8} (hk:P.underlying k=some .string) (w:World):(Instr.checkKey em (n+1) k (str a)).run P w= .ok () w:=by
 simp only [str,Instr.checkKey,Sem.run_bind,bW hk,Result.andThen_ok,Sem.run_pure]
def zeroV (P:Program) (e:TypeId):Option Value:=(P.info? e).bind (·.zero)
theorem oC {P:Program} {e:TypeId} {z:Value} (h:zeroV P e=some z) (w:World):(zeroValue e).run P w= .ok z w:=by
 unfold zeroV at h
 simp only [Option.bind_eq_some_iff] at h
 obtain ⟨i,hi,hz⟩:=h
 simp [zeroValue,ek hi,hz]
section
variable {P:Program} {N:Fm} {σ:Nat→Value} {w:World} {dst:Option Nat} {ty:TypeId} {pos :String} {af:Array Edge} {g:Option (Nat×Bool)} {x y z:Operand} {K:(Nat→Value)→World→Prop}
variable {t k e:TypeId} {isK:Value→Prop} {b:Nat} {kvs:List (Value×Value)} {kx v:Value}
theorem pw {es:Array MapEntry} (h:es.toList.map (fun e=>(e.key,e.val))=kvs) (hk:∀ p∈kvs,isK p.1):∀ e∈es.toList,isK e.key:=fun e he=>hk (e.key,e.val) (by rw [← h]; exact List.mem_map_of_mem he)
theorem run_getObj_map {es:Array MapEntry} {c:Nat} (hr:w.heap[b]? =some (.map es c)):(getObj b).run P w= .ok (.map es c) w:=by
 simp [getObj,Sem.run,hr]
theorem DN {kvs:List (Value×Value)} (hn:(kvs.map Prod.fst).Nodup) {kx v v':Value} (h1:(kx,v)∈kvs) (h2:(kx,v')∈kvs):v=v':=by
 induction kvs with
 | nil=>simp at h1
 | cons p kvs ih=>
   simp only [List.map_cons,List.nodup_cons] at hn
   rcases List.mem_cons.1 h1 with h1 | h1
   · rcases List.mem_cons.1 h2 with h2 | h2
     · rw [← h1] at h2; cases h2; rfl
     · rw [← h1] at hn; exact absurd (List.mem_map_of_mem (f:=Prod.fst) h2) hn.1
   · rcases List.mem_cons.1 h2 with h2 | h2
     · rw [← h2] at hn; exact absurd (List.mem_map_of_mem (f:=Prod.fst) h1) hn.1
     · exact ih hn.2 h1 h2
theorem De {ok:Bool} (s:P.underlying t=some (.map k e)) (a:mP P k isK) (hm:kf w.heap b kvs) (hk:∀ p∈kvs,isK p.1) (hx:ev N σ x= .map (some b)) (hy:ev N σ y=kx) (hi:isK kx) (hn:(kvs.map Prod.fst).Nodup) (hv:(kx,v)∈kvs):
 (execOp (ev N σ) ⟨dst,.lookup t x y ok,ty,pos,af,g⟩).run P w= .ok (.value (if ok then .tuple #[v,.bool true] else v)) w:=by
 obtain ⟨es,c,hr,he⟩:=hm
 rcases a.find w kx es.toList hi (pw he hk) with ⟨_,h2⟩ | ⟨j,e',h1,h2,h3⟩
 · rw [← he] at hv
   obtain ⟨i,q,h4⟩:=List.mem_map.1 hv
   cases h4
   exact absurd rfl (h2 i q)
 · have A:(kx,e'.val)∈kvs:=by rw [← he,← h3]; exact List.mem_map_of_mem (f:=fun e:MapEntry=>(e.key,e.val)) (List.mem_of_getElem? h2)
   have :=DN hn hv A
   subst this
   cases ok <;> simp [execOp,Instr.lookup,bW s,hx,hy,run_getObj_map hr,a.check _ w kx hi,h1]
theorem Df {ok:Bool} {zv:Value} (i:P.underlying t=some (.map k e)) (hz:zeroV P e=some zv) (a:mP P k isK) (hm:kf w.heap b kvs) (hk:∀ p∈kvs,isK p.1) (hx:ev N σ x= .map (some b)) (hy:ev N σ y=kx) (hi:isK kx) (hn:∀ v,(kx,v)∉kvs):
 (execOp (ev N σ) ⟨dst,.lookup t x y ok,ty,pos,af,g⟩).run P w= .ok (.value (if ok then .tuple #[zv,.bool false] else zv)) w:=by
 obtain ⟨es,c,hr,he⟩:=hm
 rcases a.find w kx es.toList hi (pw he hk) with ⟨h1,_⟩ | ⟨j,e',h1,h2,h3⟩
 · cases ok <;> simp [execOp,Instr.lookup,bW i,hx,hy,run_getObj_map hr,a.check _ w kx hi,h1,oC hz]
 · exact absurd (by rw [← he,← h3]; exact List.mem_map_of_mem (f:=fun e:MapEntry=>(e.key,e.val)) (List.mem_of_getElem? h2)) (hn e'.val)
end
end Go.Hb
namespace Go.Hb
open Go.RowKit
def tag (w:World) (k:Nat):Nat:=match w.heap[k]? with | some (.cells _ t _)=>t+2 | some (.map _ _)=>1 | _=>0
theorem cW {w:World} {k t:Nat} {cs:Array Value} {z:Nat×Nat} (h:w.heap[k]? =some (.cells cs t z)):tag w k=t+2:=by unfold tag; rw [h]
theorem FO {w:World} {k:Nat} {kvs:List (Value×Value)} (h:kf w.heap k kvs):tag w k=1:=by
 obtain ⟨es,c,h,_⟩:=h
 unfold tag; rw [h]
theorem vI {w:World} {B e size n k:Nat} {v:Value} {xs:List Value} (h:w.ownsRow B e size v n xs) (hk:v.ownBlock=some k):tag w k=e+2:=by
 rcases h.2 with ⟨rfl,_⟩ | ⟨g,cap,cur,rfl,_,hg,_⟩
 · simp [Value.ownBlock] at hk
 · simp only [Value.ownBlock,Option.some.injEq] at hk; subst hk
   exact cW hg
def TF (w:World) (L:List Nat) (F:Nat→Prop):Prop := ∀ k,F k→L.contains (tag w k)=true
theorem TF.no {w:World} {L:List Nat} {F:Nat→Prop} (h:TF w L F) {k t:Nat} (a:tag w k=t) (hl:L.contains t=false):¬F k:=fun hk=>by
 have :=h k hk
 rw [a,hl] at this; cases this
theorem TF.or {w:World} {L:List Nat} {F G:Nat→Prop} (h:TF w L F) (a:TF w L G):TF w L (fun k=>F k∨G k):=fun k hk=>by
 rcases hk with hk | hk
 · exact h k hk
 · exact a k hk
theorem TF.eq {w:World} {L:List Nat} {b t:Nat} (a:tag w b=t) (hl:L.contains t=true):TF w L (fun k=>k=b):=fun k hk=>by
 subst hk; rw [a]; exact hl
theorem TF.own {w:World} {L:List Nat} {B e size n:Nat} {v:Value} {xs:List Value} (h:w.ownsRow B e size v n xs) (hl:L.contains (e+2)=true):TF w L (fun k=>v.ownBlock=some k):=fun k hk=>by
 rw [vI h hk]; exact hl
theorem Md.g3 {F:Nat→Prop} {w w':World} {L:List Nat} {k t:Nat} {cs:Array Value} {z:Nat×Nat} (hm:Md F w w') (hT:TF w L F) (h:w.heap[k]? =some (.cells cs t z)) (hl:L.contains (t+2)=false):w'.heap[k]? =some (.cells cs t z):=hm.au h (hT.no (cW h) hl)
theorem cg {F:Nat→Prop} {w w':World} {L:List Nat} {B e size n:Nat} {v:Value} {xs:List Value} (h:w.ownsRow B e size v n xs) (hm:Md F w w') (hT:TF w L F) (hl:L.contains (e+2)=false):w'.ownsRow B e size v n xs:=bA h hm (fun _ hk=>hT.no (vI h hk) hl)
theorem Md.tag {F:Nat→Prop} {w w':World} (hm:Md F w w') {k:Nat} (hk:k < w.heap.size) (hf:¬F k):Hb.tag w' k=Hb.tag w k:=by
 unfold Hb.tag; rw [hm.e0 k hk hf]
end Go.Hb
end
section
namespace Go.Hb
def j8 (a:List (List UInt8)):Nat:=(a.map List.length).sum
end Go.Hb
end
section
namespace Go.Hb
open Go.RowKit Go.ChangeShapes Go.WideShapes Go.ChangeAt
theorem Wk.frame {w w':World} (h:Wk w w') (may:MemPlace→Prop):w.keptBut w' may:=by
 refine ⟨h.os,h.output,fun i hi=> ?_⟩
 rw [h.e0 i hi id]
 split <;> simp_all
theorem Wk.same {w w':World} (h:Wk w w') {p:MemPlace} (hp:p.block < w.heap.size):w.sameAt w' p:=by
 cases p with
 | cell b o=>exact World.cell?_of_block (w:=w) (h.e0 b hp id)
 | map b=>exact h.e0 b hp id
section
variable {H:Type} {enc:TypeId×Value→H} {P:Program} {W W':World}
theorem vM (hl:laidOutB P=true) (hk:Wk W W'):∀ (a:List TypeId) (vs:List Value) (c:List (DataW H)) (ps:List MemPlace),a.all (fun t=>P.readableRec t && decide (t < P.types.size))=true→(∀ x∈ps,x.block < W.heap.size)→
 DataW.TrodAll enc P W 0 (fun _=>true) true a vs c ps→DataW.TrodAll enc P W' 0 (fun b=>decide (b < W.heap.size)) true a vs c ps
 | [],[],[],_,_,_,h=>h
 | t::a,v::vs,d::c,_,hp,hlt,⟨p,q,h1,h2,he⟩=>by
   subst he
   rw [List.all_cons,Bool.and_eq_true,Bool.and_eq_true] at hp
   exact ⟨p,q,WideElems.Trod_stays hl hp.1.1 (of_decide_eq_true hp.1.2) h1 (fun x hx=>hk.same (hlt x (List.mem_append_left _ hx))) (fun x hx=>decide_eq_true (hlt x (List.mem_append_left _ hx))),
    vM hl hk a vs c q hp.2 (fun x hx=>hlt x (List.mem_append_right _ hx)) h2,rfl⟩
 | [],_::_,_,_,_,_,h=>h.elim
 | [],[],_::_,_,_,_,h=>h.elim
 | _::_,[],_,_,_,_,h=>h.elim
 | _::_,_::_,[],_,_,_,h=>h.elim
theorem EN {f:FuncId} {fn:Func} {s:ChangeSpec} {args:Array Value} {a gs:List (DataW H)} {before:List MemPlace} {tb:TypeId} (i:DataW.Whole enc P fn.params.toList s.vars false W args.toList a gs before) (hv:s.vars= [])
 (hs:s.fn H (a++gs)= {results:= [.lit (.bool true)],args:=a}) (hr:fn.resultTypes= #[tb]) (hb:P.underlying tb=some .bool) (hl:laidOutB P=true) (hp:fn.params.toList.all (fun t=>P.readableRec t && decide (t < P.types.size))=true)
 (h:aT P f args W (fun v w'=>v= .bool true∧Wk W w')):Calls P f args W fun e W'=> ∃ v,e= .returned v∧s.post enc P fn false true false false W args v W':=by
 refine Calls.mono h fun e W' ⟨v,he,A,hk⟩=>⟨v,he,?_⟩
 subst A
 have hW':=i
 obtain ⟨p,q,j,c,rfl,_,_⟩:=i
 rw [hv] at c
 obtain ⟨rfl,rfl⟩:=trodVars_none c
 have hlt:∀ x∈p,x.block < W.heap.size:=fun x hx=>hW'.lt x (by simpa using hx)
 refine ⟨_,_,_,[],p,[],hW',?_,?_,?_,hk.frame _,fun h=>by cases h⟩
 · rw [hs,hr]
   exact trodAll_cons_mk (shut_bool hb _) trodAll_mk0
 · rw [hs]
   exact vM hl hk _ _ _ _ hp hlt j
 · rw [hs,hv]; rfl
theorem y8 {w:World} {a:Addr} {v:Value} (h:w.cell? a=some v):a=⟨a.block,a.off,none⟩∧ay w.heap a.block a.off=some v:=by
 obtain ⟨b,o,sp⟩:=a
 unfold World.cell? at h
 simp only at h
 split at h
 · rename_i c t z hb
   split at h
   · cases h
   · rename_i hs
     cases sp with
     | none=>exact ⟨rfl,by rw [aQ hb]; exact h⟩
     | some x=>simp at hs
 · cases h
theorem y9 {w:World} {a:Addr} {xs:List Value} (h:∀ j u,xs[j]? =some u→w.cell? (a.add j)=some u):ak w.heap (some a) xs:=by
 cases xs with
 | nil=>exact ak.nil _ _
 | cons x xs=>
   have h0:=(y8 (h 0 x rfl)).1
   have ha:a=⟨a.block,a.off,none⟩:=h0
   refine ⟨fun _=>congrArg some ha,fun j u hu=> ?_⟩
   have h1:=h j u hu
   rw [ha,gd,g5] at h1
   exact h1
theorem DZ {t e:TypeId} {base:Nat} {v:Value} {d:DataW H} {p:List MemPlace} (i:P.underlying t=some (.slice e)) (he:P.underlying e=some .string) (hc:P.cellsOf e=1) (C:Value.okWide P W .any base t v)
 (h:DataW.Trod enc P W 0 (fun _=>true) true t v d p):∃ (ws:(List (List UInt8))) (a:Option Addr) (c:Nat),v= .slice a ws.length c∧bE W.heap a ws∧(d= .nil∧ws= []∨∃ sp,d= .slice (ws.map fun s=> .lit (.string s)) sp):=by
 obtain ⟨E,len,cap,rfl⟩:=okWide_slice i C
 obtain ⟨fuel,hf⟩:=h
 rcases open_strings i he hc hf with ⟨hcs,hx⟩ | ⟨a,I,G,q,hcs,_,hl,hm,hz,hx,A,hsz⟩
 · simp only [Value.cells,List.cons.injEq,Value.slice.injEq,and_true] at hcs
   obtain ⟨rfl,rfl,rfl⟩:=hcs
   cases hx
   exact ⟨[],none,0,rfl,ak.nil _ _,.inl ⟨rfl,rfl⟩⟩
 · simp only [Value.cells,List.cons.injEq,Value.slice.injEq,and_true] at hcs
   obtain ⟨rfl,rfl,rfl⟩:=hcs
   simp only [if_true] at hz
   cases hx
   refine ⟨(q.take len).map (fun s=>s.data.toList),some a,cap,?_,y9 fun j u hu=> ?_,.inr ⟨strs (q.drop len),?_⟩⟩
   · rw [List.length_map,List.length_take,hz,Nat.min_eq_left hl]
   · rw [List.getElem?_map,List.getElem?_map,Option.map_map,Option.map_eq_some_iff] at hu
     obtain ⟨s,hs,rfl⟩:=hu
     rw [List.getElem?_take] at hs
     split at hs
     · have hj:=(List.getElem?_eq_some_iff.1 hs)
       have :=A j hj.1
       rw [this,List.getD_eq_getElem?_getD,hs]; rfl
     · cases hs
   · simp only [strs,List.map_take,List.map_map]; rfl
end
end Go.Hb
namespace Go.Hb
open Go.Proofs.YtkiemnnhcilhpaaGreatDoor
theorem xS {H:Type} {l:List (DataW H)} (hk:Rows.uptoSmall H l=true):Rows.uptoBulkAll l≤1048576:=of_decide_eq_true hk
theorem xT {H:Type} {ws:(List (List UInt8))} {d:DataW H} (h:d= .nil∧ws= []∨∃ sp,d= .slice (ws.map fun s=> .lit (.string s)) sp):ws.length+j8 ws≤Rows.uptoBulk d:=by
 rcases h with ⟨rfl,rfl⟩ | ⟨sp,rfl⟩
 · simp [j8]
 · have key:∀ ws:(List (List UInt8)),Rows.uptoBulkAll (ws.map fun s=>(DataW.lit (.string s):DataW H))=ws.length+j8 ws:=by
    intro ws
    induction ws with
    | nil=>simp [Rows.uptoBulkAll,j8]
    | cons a l ih=>simp only [List.map_cons,Rows.uptoBulkAll,Rows.uptoBulk,ih,j8,List.length_cons,List.sum_cons]; omega
   simp only [Rows.uptoBulk,key]; omega
end Go.Hb
namespace Go.Hb
open Go.Proofs.YtkiemnnhcilhpaaGreatDoor Go.RowKit Go.ChangeShapes Go.WideShapes Go.ChangeAt
section
variable {P:Program} {t t0 t1 e:TypeId} {m m0 m1:Nat} {X X0 X1:Type} {R:World→List Value→X→Prop} {B:X→Nat} {R0:World→List Value→X0→Prop} {B0:X0→Nat} {R1:World→List Value→X1→Prop} {B1:X1→Nat}
end
end Go.Hb
end
section
namespace Go.Hb
theorem drop_cons {α:Type} {l:List α} {i:Nat} (d:α) (h:i < l.length):l.drop i=l.getD i d::l.drop (i+1):=by
 rw [List.drop_eq_getElem_cons h]; simp [List.getD_eq_getElem?_getD,h]
theorem qB {α:Type} {l:List α} {k i:Nat} (d:α) (hk:k≤i) (hi:i < l.length):(l.take (i+1)).drop k=(l.take i).drop k++ [l.getD i d]:=by
 rw [gU l i d hi,List.drop_append_of_le_length (by rw [List.length_take]; omega)]
def jz (b:UInt8):Bool:=b==32 || b==9
theorem nI (b:UInt8):jz b=decide (b.toNat=32∨b.toNat=9):=by
 unfold jz
 have h:∀ x:UInt8,(b==x)=decide (b.toNat=x.toNat):=fun x=>by
  by_cases hb:b=x
  · subst hb; simp
  · have :b.toNat≠x.toNat:=fun h=>hb (UInt8.toNat_inj.1 h)
    simp [hb,this]
 rw [h,h]
 simp [Bool.decide_or]
def bI:List UInt8→List UInt8→List (List UInt8)
 | cur,[]=>if cur= [] then [] else [cur]
 | cur,b::r=>if jz b then (if cur= [] then bI [] r else cur::bI [] r) else bI (cur++ [b]) r
theorem BM:bI [] []= []:=by simp [bI]
theorem tu {cur:List UInt8} (h:cur≠[]):bI cur []= [cur]:=by simp [bI,h]
theorem BK {b:UInt8} {r:List UInt8} (h:jz b=true):bI [] (b::r)=bI [] r:=by simp [bI,h]
theorem BL {cur:List UInt8} {b:UInt8} {r:List UInt8} (h:jz b=true) (hc:cur≠[]):bI cur (b::r)=cur::bI [] r:=by simp [bI,h,hc]
theorem pF {cur:List UInt8} {b:UInt8} {r:List UInt8} (h:jz b=false):bI cur (b::r)=bI (cur++ [b]) r:=by simp [bI,h]
theorem tv:∀ (l cur x:List UInt8),x∈bI cur l→x≠[]∧x.length≤cur.length+l.length:=by
 intro l
 induction l with
 | nil=>
   intro cur x h
   unfold bI at h
   split at h
   · cases h
   · simp only [List.mem_singleton] at h; subst h; exact ⟨by assumption,by simp⟩
 | cons b r ih=>
   intro cur x h
   unfold bI at h
   split at h
   · split at h
     · have :=ih [] x h; simp only [List.length_cons,List.length_nil] at*; exact ⟨this.1,by omega⟩
     · rcases List.mem_cons.1 h with rfl | h
       · exact ⟨by assumption,by simp⟩
       · have :=ih [] x h; simp only [List.length_cons,List.length_nil] at*; exact ⟨this.1,by omega⟩
   · have :=ih _ x h; simp only [List.length_cons,List.length_append,List.length_nil] at*; exact ⟨this.1,by omega⟩
theorem pE:∀ (l cur:List UInt8),(bI cur l).length≤l.length+1:=by
 intro l
 induction l with
 | nil=>intro cur; unfold bI; split <;> simp
 | cons b r ih=>
   intro cur
   unfold bI
   split
   · split
     · have :=ih []; simp only [List.length_cons]; omega
     · have :=ih []; simp only [List.length_cons]; omega
   · have :=ih (cur++ [b]); simp only [List.length_cons]; omega
def fG (l:List UInt8) (i:Nat) (a:Int) (cur:List UInt8):Prop :=(a= -1∧cur= [])∨(∃ k:Nat,a=k∧k < i∧i≤l.length∧cur=(l.take i).drop k)
theorem fG.no {l:List UInt8} {i:Nat} :fG l i (-1) []:= .inl ⟨rfl,rfl⟩
theorem fG.neg {l cur:List UInt8} {i:Nat} {a:Int} (h:fG l i a cur) (hf:a < 0):a= -1∧cur= []:=by
 rcases h with h | ⟨k,rfl,_⟩
 · exact h
 · omega
theorem fG.pos {l cur:List UInt8} {i:Nat} {a:Int} (h:fG l i a cur) (hf:¬a < 0):(0≤a∧a < i)∧cur=(l.take i).drop a.toNat∧cur≠[]:=by
 rcases h with ⟨rfl,_⟩ | ⟨k,rfl,h1,h2,rfl⟩
 · omega
 · refine ⟨by omega,by simp,fun e=> ?_⟩
   have :=congrArg List.length e
   simp only [List.length_drop,List.length_take,List.length_nil] at this
   omega
theorem fG.begin {l:List UInt8} {i:Nat} (hi:i < l.length):fG l (i+1) i [l.getD i 0]:=by
 refine .inr ⟨i,rfl,by omega,by omega,?_⟩
 rw [qB 0 (Nat.le_refl i) hi,List.drop_eq_nil_of_le (by rw [List.length_take]; omega),List.nil_append]
theorem fG.more {l cur:List UInt8} {i:Nat} {a:Int} (h:fG l i a cur) (hf:¬a < 0) (hi:i < l.length):fG l (i+1) a (cur++ [l.getD i 0]):=by
 rcases h with ⟨rfl,_⟩ | ⟨k,rfl,h1,h2,rfl⟩
 · omega
 · exact .inr ⟨k,rfl,by omega,by omega,(qB 0 (by omega) hi).symm⟩
def eO (l:List UInt8):List UInt8:=if 0 < l.length∧l.getD (l.length - 1) 0=13 then l.take (l.length - 1) else l
theorem sV (l:List UInt8):(eO l).length≤l.length:=by unfold eO; split <;> simp
theorem AV {l:List UInt8} (h:0 < l.length) (h1:l.getD (l.length - 1) 0=13):eO l=l.take (l.length - 1):=if_pos ⟨h,h1⟩
theorem pk {l:List UInt8} (h:¬(0 < l.length∧l.getD (l.length - 1) 0=13)):eO l=l:=if_neg h
theorem ui {l:List UInt8} (h:0 < l.length):l.drop (l.length - 1)= [l.getD (l.length - 1) 0]:=by
 rw [drop_cons 0 (by omega),List.drop_eq_nil_of_le (by omega)]
def cR:List UInt8→List UInt8→List (List UInt8)
 | cur,[]=>if cur= [] then [] else [eO cur]
 | cur,b::r=>if b=10 then eO cur::cR [] r else cR (cur++ [b]) r
theorem p8:cR [] []= []:=by simp [cR]
theorem Dh {cur:List UInt8} (h:cur≠[]):cR cur []= [eO cur]:=by simp [cR,h]
theorem ux (cur r:List UInt8):cR cur (10::r)=eO cur::cR [] r:=by simp [cR]
theorem p7 {cur:List UInt8} {b:UInt8} {r:List UInt8} (h:b≠10):cR cur (b::r)=cR (cur++ [b]) r:=by simp [cR,h]
theorem p6:∀ (l cur:List UInt8),(cR cur l).length≤l.length+1:=by
 intro l
 induction l with
 | nil=>intro cur; unfold cR; split <;> simp
 | cons b r ih=>
   intro cur
   unfold cR
   split
   · have :=ih []; simp only [List.length_cons]; omega
   · have :=ih (cur++ [b]); simp only [List.length_cons]; omega
theorem Di (l:List UInt8):(cR [] l).length≤l.length:=by
 cases l with
 | nil=>simp [cR]
 | cons b r=>
   unfold cR
   split
   · have :=p6 r []
     have h2:∀ m:List UInt8,(cR [] m).length≤m.length:=by
      intro m
      induction m with
      | nil=>simp [cR]
      | cons c m ih=>
        unfold cR
        split
        · simp only [List.length_cons]; omega
        · have :=p6 m ([]++ [c]); simp only [List.length_cons]; omega
     have :=h2 r
     simp only [List.length_cons]; omega
   · have :=p6 r ([]++ [b]); simp only [List.length_cons]; omega
theorem Dj:∀ (l cur x:List UInt8),x∈cR cur l→x.length≤cur.length+l.length:=by
 intro l
 induction l with
 | nil=>
   intro cur x h
   unfold cR at h
   split at h
   · cases h
   · simp only [List.mem_singleton] at h; subst h; have :=sV cur; simp only [List.length_nil]; omega
 | cons b r ih=>
   intro cur x h
   unfold cR at h
   split at h
   · rcases List.mem_cons.1 h with rfl | h
     · have :=sV cur; omega
     · have :=ih [] x h; simp only [List.length_cons,List.length_nil] at*; omega
   · have :=ih _ x h; simp only [List.length_cons,List.length_append,List.length_nil] at*; omega
def cG (c:UInt8) (l:List UInt8):Int:=if l.idxOf c < l.length then (l.idxOf c:Int) else -1
theorem ud {c:UInt8} {l:List UInt8} (h:cG c l < 0):¬l.idxOf c < l.length:=fun h1=>by unfold cG at h; rw [if_pos h1] at h; omega
theorem ll {c:UInt8} {l:List UInt8} (h:¬cG c l < 0):cG c l=l.idxOf c∧l.idxOf c < l.length:=by
 unfold cG at*
 by_cases h1:l.idxOf c < l.length
 · exact ⟨if_pos h1,h1⟩
 · rw [if_neg h1] at h; omega
def gE (c:UInt8) (l:List UInt8):List UInt8:=if cG c l < 0 then l else l.take (l.idxOf c)
def ij (c:UInt8) (l:List UInt8):List UInt8:=if cG c l < 0 then [] else l.drop (l.idxOf c+1)
theorem z7 (c:UInt8) (l:List UInt8):(gE c l).length≤l.length:=by unfold gE; split <;> simp; omega
theorem Ab {c:UInt8} {l:List UInt8} (h:l≠[]):(ij c l).length < l.length:=by
 have :=List.length_pos_iff.2 h
 unfold ij; split <;> simp <;> omega
theorem Dg:∀ (l cur:List UInt8),l.idxOf 10 < l.length→cR cur l=eO (cur++l.take (l.idxOf 10))::cR [] (l.drop (l.idxOf 10 +1)):=by
 intro l
 induction l with
 | nil=>intro cur h; simp at h
 | cons b r ih=>
   intro cur h
   by_cases hb:b=10
   · subst hb
     rw [List.idxOf_cons_self,ux,List.take_zero,List.append_nil,Nat.zero_add,List.drop_one,List.tail_cons]
   · have hx:(b::r).idxOf 10=r.idxOf 10 +1:=by rw [List.idxOf_cons,beq_eq_false_iff_ne.2 hb]; rfl
     rw [hx] at h ⊢
     simp only [List.length_cons] at h
     rw [p7 hb,ih _ (by omega),List.take_succ_cons,List.drop_succ_cons,List.append_assoc]
     rfl
theorem Dk:∀ (l cur:List UInt8),¬l.idxOf 10 < l.length→cur++l≠[]→cR cur l= [eO (cur++l)]:=by
 intro l
 induction l with
 | nil=>intro cur _ h; rw [List.append_nil] at h ⊢; exact Dh h
 | cons b r ih=>
   intro cur h h1
   by_cases hb:b=10
   · subst hb; rw [List.idxOf_cons_self] at h; simp at h
   · have hx:(b::r).idxOf 10=r.idxOf 10 +1:=by rw [List.idxOf_cons,beq_eq_false_iff_ne.2 hb]; rfl
     rw [hx] at h
     simp only [List.length_cons] at h
     rw [p7 hb,ih _ (by omega) (by simp),List.append_assoc]
     rfl
theorem Dl {l:List UInt8} (h:l≠[]):cR [] l=eO (gE 10 l)::cR [] (ij 10 l):=by
 by_cases h1:cG 10 l < 0
 · rw [Dk l [] (ud h1) (by simpa using h)]
   unfold gE ij
   rw [if_pos h1,if_pos h1,p8,List.nil_append]
 · rw [Dg l [] (ll h1).2]
   unfold gE ij
   rw [if_neg h1,if_neg h1,List.nil_append]
def dK (s p:List UInt8):List UInt8:=if s.take p.length=p then s.drop p.length else s
def kz:List UInt8:= [239,187,191]
def nL (s:List UInt8):Bool:=decide (s.take 3=kz)
def mF (s:List UInt8):List UInt8:=dK s kz
theorem qI (s:List UInt8):(mF s).length≤s.length:=by unfold mF dK; split <;> simp
theorem Gb {s:List UInt8} (h:nL s=false):mF s=s:=if_neg (of_decide_eq_false h)
theorem Dr (s:List UInt8):nL s=decide (3≤s.length∧(s.getD 0 0).toNat=239∧(s.getD 1 0).toNat=187∧(s.getD 2 0).toNat=191):=by
 unfold nL
 refine decide_eq_decide.2 ?_
 match s with
 | []=>simp [kz]
 | [a]=>simp [kz]
 | [a,b]=>simp [kz]
 | a::b::c::r=>
   have h:∀ (x:UInt8) (n:Nat),n < 256→(x=UInt8.ofNat n↔x.toNat=n):=fun x n hn=>by
    constructor
    · rintro rfl; simp; omega
    · intro h; apply UInt8.toNat_inj.1; simp; omega
   have h1:=h a 239 (by decide)
   have h2:=h b 187 (by decide)
   have h3:=h c 191 (by decide)
   simp only [kz,List.take_succ_cons,List.take_zero,List.cons.injEq,and_true,List.length_cons,List.getD_cons_zero,List.getD_cons_succ]
   constructor
   · rintro ⟨i,j,p⟩; exact ⟨by omega,h1.1 i,h2.1 j,h3.1 p⟩
   · rintro ⟨_,i,j,p⟩; exact ⟨h1.2 i,h2.2 j,h3.2 p⟩
def bC (t:List UInt8):List (List UInt8):=cR [] (mF t)
theorem ky (t:List UInt8):(bC t).length≤t.length:=Nat.le_trans (Di _) (qI t)
theorem ur {t x:List UInt8} (h:x∈bC t):x.length≤t.length:=by
 have :=Dj _ _ _ h
 have :=qI t
 simp only [List.length_nil] at*; omega
def kF (f:List UInt8):Bool:=decide ((f.getD 0 0).toNat=35)
def iy (f:List (List UInt8)):List (List UInt8):=f.takeWhile fun x=> !kF x
def iW (l:List UInt8) (n:Nat):List (Nat×List (List UInt8)):=if iy (bI [] l)= [] then [] else [(n,iy (bI [] l))]
def fD (n:Nat):List (List UInt8)→List (Nat×List (List UInt8))
 | []=> []
 | l::r=>iW l n++fD (n+1) r
def cI (t:List UInt8):List (Nat×List (List UInt8)):=fD 1 (bC t)
theorem nS (l:List UInt8):∀ (ls:List (List UInt8)) (n:Nat),fD n (ls++ [l])=fD n ls++iW l (n+ls.length):=by
 intro ls
 induction ls with
 | nil=>intro n; simp [fD]
 | cons a ls ih=>intro n; rw [List.cons_append,fD,ih,fD,List.length_cons,List.append_assoc,show n+1 +ls.length=n+(ls.length+1) from by omega]
theorem vf:∀ (ls:List (List UInt8)) (n:Nat),(fD n ls).length≤ls.length:=by
 intro ls
 induction ls with
 | nil=>intro n; simp [fD]
 | cons a ls ih=>
   intro n
   have :=ih (n+1)
   unfold fD iW
   rw [List.length_append]
   split <;> simp only [List.length_nil,List.length_cons] <;> omega
theorem vg (t:List UInt8):(cI t).length≤t.length:=Nat.le_trans (vf _ _) (ky t)
theorem ue {f:List (List UInt8)} :∀ {j:Nat},j≤f.length→(∀ i,i < j→kF (f.getD i [])=false)→(j=f.length∨kF (f.getD j [])=true)→iy f=f.take j:=by
 induction f with
 | nil=>intro j hj _ _; rw [List.take_nil]; rfl
 | cons a f ih=>
   intro j hj h1 h2
   cases j with
   | zero=>
     rcases h2 with h2 | h2
     · simp at h2
     · simp only [List.getD_cons_zero] at h2
       simp [iy,h2]
   | succ j=>
     have h0:=h1 0 (by omega)
     simp only [List.getD_cons_zero] at h0
     have :=ih (j:=j) (by simpa using hj) (fun i hi=>by simpa using h1 (i+1) (by omega)) (by simpa using h2)
     unfold iy at*
     rw [List.takeWhile_cons,h0]
     simp only [Bool.not_false,if_true,List.take_succ_cons]
     rw [this]
theorem CU {f:List (List UInt8)} {x:List UInt8} (h:x∈iy f):x∈f:=(List.takeWhile_sublist _).subset h
theorem CT (f:List (List UInt8)):(iy f).length≤f.length:=(List.takeWhile_sublist _).length_le
theorem EV:∀ (ls:List (List UInt8)) (n:Nat) (r:Nat×List (List UInt8)),r∈fD n ls→n≤r.1∧r.1 < n+ls.length∧r.2≠[]∧∃ l∈ls,r.2=iy (bI [] l):=by
 intro ls
 induction ls with
 | nil=>intro n r h; cases h
 | cons a ls ih=>
   intro n r h
   rw [fD] at h
   rcases List.mem_append.1 h with h | h
   · unfold iW at h
     split at h
     · cases h
     · simp only [List.mem_singleton] at h; subst h
       exact ⟨by simp,by simp,by assumption,a,by simp,rfl⟩
   · obtain ⟨h1,h2,h3,l,hl,h4⟩:=ih _ _ h
     exact ⟨by omega,by simp only [List.length_cons]; omega,h3,l,by simp [hl],h4⟩
theorem vj {t:List UInt8} {r:Nat×List (List UInt8)} (h:r∈cI t):1≤r.1∧r.1≤t.length∧r.2≠[]∧r.2.length≤t.length+1∧∀ x∈r.2,x≠[]∧x.length≤t.length:=by
 obtain ⟨h1,h2,h3,l,hl,h4⟩:=EV _ _ _ h
 have hlt:=ky t
 have hll:=ur hl
 refine ⟨h1,by omega,h3,?_,fun x hx=> ?_⟩
 · rw [h4]; have :=CT (bI [] l); have :=pE l []; omega
 · rw [h4] at hx
   have :=tv _ _ _ (CU hx)
   simp only [List.length_nil] at this
   exact ⟨this.1,by omega⟩
def l2 (b:UInt8):Bool:=decide (48≤b.toNat∧b.toNat≤57)
def c6 (s:List UInt8):Nat:=s.foldl (fun n b=>n*10 +(b.toNat - 48)) 0
theorem l1 {s:List UInt8} {i:Nat} (h:i < s.length):c6 (s.take (i+1))=c6 (s.take i)*10 +((s.getD i 0).toNat - 48):=by
 rw [gU s i 0 h]; unfold c6; rw [List.foldl_append]; rfl
theorem BV:∀ (s:List UInt8) (n:Nat),n≤s.foldl (fun n b=>n*10 +(b.toNat - 48)) n:=by
 intro s
 induction s with
 | nil=>intro n; exact Nat.le_refl _
 | cons b s ih=>intro n; refine Nat.le_trans ?_ (ih _); show n≤n*10 +(b.toNat - 48); omega
theorem Ax (s:List UInt8) (i:Nat):c6 (s.take i)≤c6 s:=by
 have :c6 s=(s.drop i).foldl (fun n b=>n*10 +(b.toNat - 48)) (c6 (s.take i)):=by
  unfold c6; rw [← List.foldl_append,List.take_append_drop]
 rw [this]; exact BV _ _
def jY (s:List UInt8):Prop :=s= []∨(1 < s.length∧(s.getD 0 0).toNat=48)
def pf (s:List UInt8):Prop := ∀ i,i < s.length→l2 (s.getD i 0)=true
open Classical in
noncomputable def dv (s:List UInt8) (most:Int):Nat×Int:=if jY s∨¬pf s∨most < c6 s then (0,13) else (c6 s,0)
theorem uJ {s:List UInt8} {most:Int} (h:jY s):dv s most=(0,13):=if_pos (.inl h)
theorem uI {s:List UInt8} {most:Int} {i:Nat} (h:i < s.length) (h1:l2 (s.getD i 0)=false):dv s most=(0,13):=if_pos (.inr (.inl fun hd=>by rw [hd i h] at h1; cases h1))
theorem DP {s:List UInt8} {most:Int} (h:most < c6 s):dv s most=(0,13):=if_pos (.inr (.inr h))
theorem uG {s:List UInt8} {most:Int} (i:Nat) (h:most < c6 (s.take i)):dv s most=(0,13):=DP (by have :=Ax s i; omega)
theorem qe {s:List UInt8} {most:Int} (h:¬jY s) (h1:pf s) (h2:¬most < c6 s):dv s most=(c6 s,0):=if_neg (by rintro (a | a | a) <;> first | exact h a | exact a h1 | exact h2 a)
theorem uH (s:List UInt8) (most:Int):(dv s most=(0,13))∨(dv s most=(c6 s,0)∧(c6 s:Int)≤most):=by
 unfold dv
 split
 · exact .inl rfl
 · rename_i h; exact .inr ⟨rfl,by have :¬most < c6 s:=fun a=>h (.inr (.inr a)); omega⟩
theorem qd (s:List UInt8) (most:Int):(dv s most).2=0→((dv s most).1:Int)≤most:=by
 rcases uH s most with h | ⟨h,h1⟩ <;> rw [h]
 · intro h; cases h
 · intro _; exact h1
theorem sR {b:UInt8} (h:¬(48≤b.toNat∧b.toNat≤57)):l2 b=false :=decide_eq_false h
theorem CP {x:UInt8} :∀ {l:List UInt8} {i:Nat},i < l.length→(∀ j,j < i→l.getD j 0≠x)→l.getD i 0=x→cG x l=(i:Nat):=by
 have key:∀ (l:List UInt8) (i:Nat),i < l.length→(∀ j,j < i→l.getD j 0≠x)→l.getD i 0=x→l.idxOf x=i:=by
  intro l
  induction l with
  | nil=>intro i h; simp at h
  | cons b l ih=>
    intro i h h1 h2
    cases i with
    | zero=>have hb:b=x:=h2
            subst hb; simp
    | succ i=>
      have hb:b≠x:=h1 0 (Nat.succ_pos _)
      rw [List.idxOf_cons,show (b==x)=false from by simpa using hb]
      have :=ih i (by simpa using h) (fun j hj=>h1 (j+1) (by omega)) h2
      rw [this]; rfl
 intro l i h h1 h2
 unfold cG
 rw [key l i h h1 h2,if_pos h]
theorem CQ {x:UInt8} {l:List UInt8} (h:∀ j,j < l.length→l.getD j 0≠x):cG x l= -1:=by
 unfold cG
 rw [if_neg]
 intro h1
 have hm:=List.idxOf_lt_length_iff.1 h1
 obtain ⟨j,hj,e⟩:=List.mem_iff_getElem.1 hm
 exact h j hj (by rw [List.getD_eq_getElem?_getD,List.getElem?_eq_getElem hj]; exact e)
end Go.Hb
end
section
namespace Go.Hb
open Go.RowKit
theorem ot {h:Array Obj} {a:Option Addr} {l:List UInt8} {i:Nat} (hc:ak h a (U8 l)) (hi:i < l.length):Hb.ay h (bk a) (fo a+i*1)=some (.int .u8 (l.getD i 0).toNat):=by
 refine hc.gA ?_
 unfold U8
 rw [List.getElem?_map,List.getElem?_eq_getElem hi,List.getD_eq_getElem?_getD,List.getElem?_eq_getElem hi]; rfl
theorem ou {l:List UInt8} (h:0 < l.length):U8 l≠[]:=by
 intro e
 have :=congrArg List.length e
 rw [mT,List.length_nil] at this
 omega
theorem qq {w:World} {B e:Nat} {v:Value} {l:List UInt8} {x:UInt8} (h:w.ownsRow B e 1 v (l.length+1) (U8 l++ [.int .u8 x.toNat])):w.ownsRow B e 1 v (l++ [x]).length (U8 (l++ [x])):=by
 rw [List.length_append,mS]; exact h
theorem nQ {w:World} {B e:Nat} {v:Value} {l:List (List UInt8)} {x:List UInt8} (h:w.ownsRow B e 1 v (l.length+1) (l.map str++ [str x])):w.ownsRow B e 1 v (l++ [x]).length ((l++ [x]).map str):=by
 rw [List.length_append,List.map_append]; exact h
abbrev Rw:Type :=Nat×List (List UInt8)
def nW (q:Nat×Value):List Value:= [.int .i64 q.1,q.2]
def gO (l:List (Nat×Value)):List Value:=l.flatMap nW
theorem E6 (a b:List (Nat×Value)):gO (a++b)=gO a++gO b:=by simp [gO]
theorem vo (l:List (Nat×Value)):(gO l).length=l.length*2:=jX (f:=nW) (m:=2) (fun _=>rfl) l
theorem nU {l:List (Nat×Value)} (h:0 < l.length):gO l≠[]:=tp (f:=nW) (m:=2) (fun _=>rfl) (by decide) h
theorem nV {h:Array Obj} {ad:Option Addr} {vs:List (Nat×Value)} {i:Nat} {q:Nat×Value} (hc:ak h ad (gO vs)) (a:vs[i]? =some q):∀ j,j < 2→Hb.ay h (bk ad) (fo ad+i*2 +j)= [Value.int .i64 q.1,q.2][j]? :=
 im (f:=nW) (m:=2) (fun _=>rfl) hc a
def Tg (w:World) (B e n:Nat) (v:Value) (xs:List Value):Prop :=
 ∃ a cp,v= .slice a n cp∧n≤cp∧(xs= []∨∃ b cur z,a=some ⟨b,0,none⟩∧B≤b∧w.heap[b]? =some (.cells cur e z)∧∀ (j:Nat) u,xs[j]? =some u→cur[j]? =some u)
theorem Tg.fW {w:World} {B e size n:Nat} {v:Value} {xs:List Value} (h:w.ownsRow B e size v n xs):Tg w B e n v xs:=by
 have h0:=h
 rcases h.2 with ⟨rfl,rfl⟩ | ⟨g,cap,cur,rfl,hb,hg,_,_,_,a⟩
 · exact ⟨none,0,rfl,Nat.le_refl _,.inl (List.eq_nil_of_length_eq_zero (by simpa using h.1))⟩
 · refine ⟨_,cap,rfl,(aB h0).1,.inr ⟨g,cur,_,rfl,hb,hg,fun j u hu=> ?_⟩⟩
   rw [← a,List.getElem?_take] at hu
   split at hu
   · simpa using hu
   · cases hu
theorem Tg.cells {w:World} {B e n:Nat} {v:Value} {xs:List Value} (h:Tg w B e n v xs):∃ a cp,v= .slice a n cp∧ak w.heap a xs:=by
 obtain ⟨a,cp,rfl,_,h | ⟨b,cur,z,rfl,_,hg,hx⟩⟩:=h
 · subst h; exact ⟨a,cp,rfl,ak.nil _ _⟩
 · refine ⟨_,cp,rfl,fun _=>rfl,fun j u hu=> ?_⟩
   show Hb.ay w.heap b (0 +j)=_
   rw [Nat.zero_add,aQ hg]; exact hx j u hu
theorem Tg.bN {w:World} {B e n cp:Nat} {a:Option Addr} {xs:List Value} (h:Tg w B e n (.slice a n cp) xs):n≤cp∧ak w.heap a xs:=by
 obtain ⟨j,q,hv,hc,hx⟩:=id h
 obtain ⟨p,c2,c,i⟩:=h.cells
 cases hv; cases c
 exact ⟨hc,i⟩
theorem Tg.slice {w:World} {B e n:Nat} {v:Value} {xs:List Value} (h:Tg w B e n v xs):∃ a cp,v= .slice a n cp:=let ⟨a,cp,hv,_⟩:=h; ⟨a,cp,hv⟩
theorem Tg.md {F:Nat→Prop} {w w':World} {B e n:Nat} {v:Value} {xs:List Value} (h:Tg w B e n v xs) (hm:Md F w w') (c:∀ k,F k→∀ cur z,w.heap[k]?≠some (.cells cur e z)):Tg w' B e n v xs:=by
 obtain ⟨a,cp,rfl,hc,h | ⟨b,cur,z,rfl,hb,hg,hx⟩⟩:=h
 · exact ⟨a,cp,rfl,hc,.inl h⟩
 · exact ⟨_,cp,rfl,hc,.inr ⟨b,cur,z,rfl,hb,by rw [hm.e0 b (Array.getElem?_eq_some_iff.1 hg).1 (fun hk=>c b hk cur z hg)]; exact hg,hx⟩⟩
theorem Tg.wk {w w':World} {B e n:Nat} {v:Value} {xs:List Value} (h:Tg w B e n v xs) (hm:Wk w w'):Tg w' B e n v xs:=h.md hm fun _ hk=>hk.elim
theorem Tg.clip {w:World} {B e n k cp c:Nat} {a:Option Addr} {xs:List Value} (h:Tg w B e n (.slice a n cp) xs) (hk:k≤c):Tg w B e k (.slice a k c) (xs.take k):=by
 obtain ⟨i,p,hv,_,hx⟩:=h
 simp only [Value.slice.injEq,true_and] at hv
 obtain ⟨rfl,rfl⟩:=hv
 refine ⟨a,c,rfl,hk,?_⟩
 rcases hx with rfl | ⟨b,cur,z,ha,hb,hg,hx⟩
 · exact .inl List.take_nil
 · exact .inr ⟨b,cur,z,ha,hb,hg,fun j u hu=>hx j u (by rw [List.getElem?_take] at hu; split at hu; exact hu; cases hu)⟩
theorem fc {w:World} {B e e' size n:Nat} {v:Value} {xs:List Value} (h:w.ownsRow B e size v n xs) (hne:e≠e'):∀ k,v.ownBlock=some k→∀ cur z,w.heap[k]?≠some (.cells cur e' z):=by
 intro k hk cur z hg
 rcases h.2 with ⟨rfl,_⟩ | ⟨g,cap,c,rfl,_,a,_⟩
 · simp [Value.ownBlock] at hk
 · simp only [Value.ownBlock,Option.some.injEq] at hk
   subst hk
   rw [a] at hg
   simp only [Option.some.injEq,Obj.cells.injEq] at hg
   exact hne hg.2.1
theorem ez {w:World} {b e e':Nat} {cs:Array Value} {y:Nat×Nat} (h:w.heap[b]? =some (.cells cs e y)) (hne:e≠e'):∀ k,k=b→∀ cur z,w.heap[k]?≠some (.cells cur e' z):=by
 rintro k rfl cur z hg
 rw [h] at hg
 simp only [Option.some.injEq,Obj.cells.injEq] at hg
 exact hne hg.2.1
def ep (w:World) (B e:Nat) (vs:List (Nat×Value)) (rs:List Rw):Prop :=vs.length=rs.length∧∀ (i:Nat) q r,vs[i]? =some q→rs[i]? =some r→q.1=r.1∧Tg w B e r.2.length q.2 (r.2.map str)
theorem ep.nil (w:World) (B e:Nat):ep w B e [] []:=⟨rfl,fun i q r a=>by simp at a⟩
theorem ep.md {F:Nat→Prop} {w w':World} {B e:Nat} {vs:List (Nat×Value)} {rs:List Rw} (h:ep w B e vs rs) (hm:Md F w w') (a:∀ k,F k→∀ cur z,w.heap[k]?≠some (.cells cur e z)):ep w' B e vs rs:=
 ⟨h.1,fun i q r h1 h2=>⟨(h.2 i q r h1 h2).1,(h.2 i q r h1 h2).2.md hm a⟩⟩
theorem ep.wk {w w':World} {B e:Nat} {vs:List (Nat×Value)} {rs:List Rw} (h:ep w B e vs rs) (hm:Wk w w'):ep w' B e vs rs:=h.md hm fun _ hk=>hk.elim
theorem ep.snoc {w:World} {B e n:Nat} {vs:List (Nat×Value)} {rs:List Rw} {v:Value} {r:List (List UInt8)} (ha:ep w B e vs rs) (a:Tg w B e r.length v (r.map str)):ep w B e (vs++ [(n,v)]) (rs++ [(n,r)]):=by
 refine ⟨by rw [List.length_append,List.length_append,ha.1]; rfl,fun i c p h1 h2=> ?_⟩
 have hl:=ha.1
 by_cases hi:i < vs.length
 · rw [List.getElem?_append_left hi] at h1
   rw [List.getElem?_append_left (by omega)] at h2
   exact ha.2 i c p h1 h2
 · rw [List.getElem?_append_right (by omega)] at h1
   rw [List.getElem?_append_right (by omega),← hl] at h2
   cases hj:i - vs.length with
   | zero=>rw [hj] at h1 h2; cases h1; cases h2; exact ⟨rfl,a⟩
   | succ j=>rw [hj] at h1; simp at h1
theorem Tg.mono {w:World} {B c e n:Nat} {v:Value} {xs:List Value} (h:Tg w B e n v xs) (i:c≤B):Tg w c e n v xs:=by
 obtain ⟨a,cp,hv,hc,hx⟩:=h
 exact ⟨a,cp,hv,hc,hx.imp id fun ⟨b,cur,z,h1,h2,h3⟩=>⟨b,cur,z,h1,Nat.le_trans i h2,h3⟩⟩
theorem ep.mono {w:World} {B a e:Nat} {vs:List (Nat×Value)} {rs:List Rw} (h:ep w B e vs rs) (c:a≤B):ep w a e vs rs:=⟨h.1,fun i q r h1 h2=>⟨(h.2 i q r h1 h2).1,(h.2 i q r h1 h2).2.mono c⟩⟩
end Go.Hb
end
section
set_option linter.unusedSectionVars false
namespace Go.Hb
open Go.RowKit
open Go.Sort (swp insInner insOuter insertionSort siftDown heapBuild heapPop heapSort scanUp scanDown partLoop partEqLoop partition partitionEqual scanSorted shiftDown shiftUp partialIns partialInsertionSort reverseLoop reverseRange choosePivot breakPatterns breakStep pdq Hint)
def LE {α:Type} (f:α→Value) (d:Array α):List Value:=d.toList.map f
section
variable {α:Type} [Inhabited α] {f:α→Value}
theorem mg (d:Array α):(LE f d).length=d.size:=by simp [LE]
theorem a7 {d:Array α} (h:0 < d.size):LE f d≠[]:=by
 intro e; have :=congrArg List.length e; rw [mg,List.length_nil] at this; omega
theorem uj {d:Array α} {i:Nat} (h:i < d.size):(LE f d)[i]? =some (f d[i]!):=by
 unfold LE
 rw [List.getElem?_map,Array.getElem?_toList,Array.getElem?_eq_getElem h,getElem!_pos d i h]; rfl
theorem bq {h:Array Obj} {a:Option Addr} {d:Array α} {i:Nat} (hc:ak h a (LE f d)) (hi:i < d.size):Hb.ay h (bk a) (fo a+i*1)=some (f d[i]!):=hc.gA (uj hi)
theorem C4 (d:Array α) (i:Nat) (v:α):(LE f d).set i (f v)=LE f (d.setIfInBounds i v):=by
 unfold LE; rw [Array.toList_setIfInBounds,List.map_set]
theorem cY {w:World} {B e n:Nat} {v:Value} {d:Array α} (h:w.ownsRow B e 1 v n (LE f d)):d.size=n:=by
 have :=h.1; rw [mg] at this; omega
end
section
variable {P:Program} {N:Fm} {σ:Nat→Value} {w:World} {ty:TypeId} {pos :String} {af:Array Edge} {g:Option (Nat×Bool)} {x y:Operand} {K:(Nat→Value)→World→Prop}
theorem dq {α:Type} [Inhabited α] {f:α→Value} {t B e n cap:Nat} {a:Option Addr} {d:Array α} {u:α} (i:Nat) (c:w.ownsRow B e 1 (.slice a n cap) n (LE f d)) (hz:cE P t=some 1) (hx:ev N σ x= .pointer (some ⟨bk a,fo a+i*1,none⟩)) (hy:ev N σ y=f u) (h1:(f u).oneCell'=true)
 (hl:i < n) (k:∀ w',Md (fun k=>(Value.slice a n cap).ownBlock=some k) w w'→w'.ownsRow B e 1 (.slice a n cap) n (LE f (d.setIfInBounds i u))→K σ w'):bD P N ⟨none,.store t x y,ty,pos,af,g⟩ σ w K:=
 lE c hz hx hy h1 (j:=i) (by omega) (by omega) fun w' h1 h2=>k w' h1 (by rw [← C4]; exact h2)
end
section
variable {α:Type} [Inhabited α] {lt:α→α→Bool} {d:Array α}
theorem CH {a j:Nat} (h:a < j) (h1:lt d[j]! d[j - 1]! =true):insInner lt a j d=insInner lt a (j - 1) (swp d j (j - 1)):=by
 cases j with
 | zero=>omega
 | succ j=>simp only [Nat.add_sub_cancel] at*; rw [insInner,if_pos (by simp [h1]; omega)]
theorem CJ {a j:Nat} (h:¬a < j):insInner lt a j d=d:=by
 cases j with
 | zero=>rfl
 | succ j=>rw [insInner,if_neg (by simp; omega)]
theorem CI {a j:Nat} (h1:lt d[j]! d[j - 1]! =false):insInner lt a j d=d:=by
 cases j with
 | zero=>rfl
 | succ j=>simp only [Nat.add_sub_cancel] at*; rw [insInner,if_neg (by simp [h1])]
theorem tZ {a b i:Nat} (h:i < b):insOuter lt a b i d=insOuter lt a b (i+1) (insInner lt a i d):=by rw [insOuter,if_pos h]
theorem CG {a b i:Nat} (h:¬i < b):insOuter lt a b i d=d:=by rw [insOuter,if_neg h]
theorem Fj {hi first r:Nat} (h:¬2 *r+1 < hi):siftDown lt hi first r d=d:=by rw [siftDown,dif_pos (by omega)]
theorem Fk {hi first r:Nat} (h:2 *r+1 +1 < hi) (h1:lt d[first+(2 *r+1)]! d[first+(2 *r+1)+1]! =true):
 siftDown lt hi first r d=if (!lt d[first+r]! d[first+(2 *r+2)]!)=true then d else siftDown lt hi first (2 *r+2) (swp d (first+r) (first+(2 *r+2))):=by
 rw [siftDown,dif_neg (by omega),if_pos (by simp [h1]; omega),dif_pos (by omega)]
theorem vy {hi first r:Nat} (h0:2 *r+1 < hi) (h:¬2 *r+1 +1 < hi∨lt d[first+(2 *r+1)]! d[first+(2 *r+1)+1]! =false):
 siftDown lt hi first r d=if (!lt d[first+r]! d[first+(2 *r+1)]!)=true then d else siftDown lt hi first (2 *r+1) (swp d (first+r) (first+(2 *r+1))):=by
 rw [siftDown,dif_neg (by omega),if_neg (by rcases h with h | h <;> simp [h] <;> omega)]
theorem Ca {hi first k:Nat} (h:0 < k):heapBuild lt hi first k d=heapBuild lt hi first (k - 1) (siftDown lt hi first (k - 1) d):=by
 cases k with
 | zero=>omega
 | succ k=>rfl
theorem Cb {hi first :Nat} :heapBuild lt hi first 0 d=d:=rfl
theorem Cv {first k:Nat} (h:0 < k):heapPop lt first k d=heapPop lt first (k - 1) (siftDown lt (k - 1) first 0 (swp d first (first+(k - 1)))):=by
 cases k with
 | zero=>omega
 | succ k=>rfl
theorem qJ {p:α→Bool} {i j:Nat} (h:i≤j) (h1:p d[i]! =true):scanUp p d j i=scanUp p d j (i+1):=by
 rw [scanUp]; simp [h,h1]
theorem lH {p:α→Bool} {i j:Nat} (h:¬i≤j∨p d[i]! =false):scanUp p d j i=i:=by
 rw [scanUp]; rcases h with h | h <;> simp [h]
theorem ph {p:α→Bool} {i j:Nat} (h0:0 < j) (h:i≤j) (h1:p d[j]! =true):scanDown p d i j=scanDown p d i (j - 1):=by
 cases j with
 | zero=>omega
 | succ j=>rw [scanDown]; simp [h,h1]
theorem k5 {p:α→Bool} {i j:Nat} (h:¬i≤j∨p d[j]! =false):scanDown p d i j=j:=by
 cases j with
 | zero=>rfl
 | succ j=>rw [scanDown]; rcases h with h | h <;> simp [h]
theorem FB {b i:Nat} (h:i < b) (h1:lt d[i]! d[i - 1]! =false):scanSorted lt d b i=scanSorted lt d b (i+1):=by
 rw [scanSorted]; simp [h,h1]
theorem vE {b i:Nat} (h:¬i < b∨lt d[i]! d[i - 1]! =true):scanSorted lt d b i=i:=by
 rw [scanSorted]; rcases h with h | h <;> simp [h]
theorem E7 {j:Nat} (h:0 < j) (h1:lt d[j]! d[j - 1]! =true):shiftDown lt j d=shiftDown lt (j - 1) (swp d j (j - 1)):=by
 cases j with
 | zero=>omega
 | succ j=>simp only [Nat.add_sub_cancel] at*; rw [shiftDown]; simp [h1]
theorem vp {j:Nat} (h:¬0 < j∨lt d[j]! d[j - 1]! =false):shiftDown lt j d=d:=by
 cases j with
 | zero=>rfl
 | succ j=>simp only [Nat.add_sub_cancel] at*; rw [shiftDown]; rcases h with h | h <;> first | omega | simp [h]
theorem FJ {b j:Nat} (h:j < b) (h1:lt d[j]! d[j - 1]! =true):shiftUp lt b j d=shiftUp lt b (j+1) (swp d j (j - 1)):=by
 rw [shiftUp]; simp [h,h1]
theorem vH {b j:Nat} (h:¬j < b∨lt d[j]! d[j - 1]! =false):shiftUp lt b j d=d:=by
 rw [shiftUp]; rcases h with h | h <;> simp [h]
theorem EO {i j:Nat} (h:i < j):reverseLoop i j d=reverseLoop (i+1) (j - 1) (swp d i j):=by rw [reverseLoop,if_pos h]
theorem EP {i j:Nat} (h:¬i < j):reverseLoop i j d=d:=by rw [reverseLoop,if_neg h]
theorem uZ {a i j i2 c:Nat} (h1:scanUp (fun x=>lt x d[a]!) d j i=i2) (h2:scanDown (fun x=> !lt x d[a]!) d i2 j=c) (hi:i≤i2) (hj:c≤j):
 partLoop lt a i j d=if i2 > c then (c,d) else if (c - 1)+1 - (i2+1) < j+1 - i then partLoop lt a (i2+1) (c - 1) (swp d i2 c) else (c,d):=by
 rw [partLoop]; simp only [h1,h2]; split <;> first | rfl | (split <;> rfl)
theorem uV {a i j i2 c:Nat} (h1:scanUp (fun x=> !lt d[a]! x) d j i=i2) (h2:scanDown (fun x=>lt d[a]! x) d i2 j=c):
 partEqLoop lt a i j d=if i2 > c then (i2,d) else if (c - 1)+1 - (i2+1) < j+1 - i then partEqLoop lt a (i2+1) (c - 1) (swp d i2 c) else (i2,d):=by
 rw [partEqLoop]; simp only [h1,h2]; split <;> first | rfl | (split <;> rfl)
end
def a4 (x y:Nat):Bool:=decide (x < y)
theorem mh:Go.Sort.SWO a4:=⟨fun x=>by simp [a4],fun x y z=>by simp only [a4,decide_eq_true_eq]; omega,fun x y z=>by simp only [a4,decide_eq_false_iff_not]; omega⟩
def az (n:Nat):Value:= .int .u16 n
section
variable {P:Program} {N:Fm} {σ:Nat→Value} {w:World} {dst:Option Nat} {ty:TypeId} {pos :String} {af:Array Edge} {g:Option (Nat×Bool)} {x y:Operand}
theorem oM {t c:TypeId} {k:IntKind} {a b v:Int} (hx:ev N σ x= .int k a) (hy:ev N σ y= .int k b) (hv:k.wrap (BitVec.ofInt k.bits a ^^^ BitVec.ofInt k.bits b).toNat=v):
 (execOp (ev N σ) ⟨dst,.binOp .xor t x y c,ty,pos,af,g⟩).run P w= .ok (.value (.int k v)) w:=by
 subst hv; simp [execOp,hx,hy,eqGuard,binOp,Op.intBits]
end
theorem vS (x:Int):0≤IntKind.u64.wrap x∧IntKind.u64.wrap x < 18446744073709551616:=by
 have h:IntKind.u64.wrap x=x % 18446744073709551616:=by
  simp [IntKind.wrap,IntKind.bits,IntKind.signed]
 rw [h]; omega
theorem xv (r:Int) (m:Nat) (hm:0 < m∧m≤1099511627776):∃ o:Nat,o≤m - 1∧IntKind.u64.wrap (BitVec.ofInt IntKind.u64.bits r &&& BitVec.ofInt IntKind.u64.bits ((m:Int) - 1)).toNat=(o:Int):=by
 refine ⟨(BitVec.ofInt IntKind.u64.bits r &&& BitVec.ofInt IntKind.u64.bits ((m:Int) - 1)).toNat,?_,?_⟩
 · rw [BitVec.toNat_and]
   refine Nat.le_trans Nat.and_le_right ?_
   have h1:(m:Int) - 1=((m - 1:Nat):Int):=by omega
   rw [h1,BitVec.toNat_ofInt]
   have h2:(IntKind.u64.bits:Nat)=64:=rfl
   rw [h2]
   omega
 · exact ji (by have :=(BitVec.ofInt IntKind.u64.bits r &&& BitVec.ofInt IntKind.u64.bits ((m:Int) - 1)).isLt; have h2:(IntKind.u64.bits:Nat)=64:=rfl; rw [h2] at this ⊢; omega)
def fC (n:Nat):Nat:=if n=0 then 0 else Nat.log2 n+1
theorem um:∀ n:Fin 256,n.val≠0→n.val < 2 ^ fC n.val∧2 ^ fC n.val≤2 *n.val∧fC n.val≤8:=by decide+kernel
theorem nJ {n:Nat} (h:n < 256):fC n≤8:=by
 rcases Nat.eq_zero_or_pos n with rfl | h0
 · decide
 · exact (um ⟨n,h⟩ (by simp; omega)).2.2
theorem C9 {n:Nat} (h:n < 256) (h0:0 < n):n < 2 ^ fC n∧2 ^ fC n≤2 *n:=by
 have :=um ⟨n,h⟩ (by simp; omega)
 exact ⟨this.1,this.2.1⟩
end Go.Hb
end
section
namespace Go.Hb
def dO:List Nat→List Nat
 | []=> []
 | [x]=> [x]
 | x::y::l=>if x=y then dO (y::l) else x::dO (y::l)
theorem Ao (x y:Nat):∀ l:List Nat,dO (l++ [x,y])=if x=y then dO (l++ [x]) else dO (l++ [x])++ [y]:=by
 intro l
 induction l with
 | nil=>by_cases h:x=y <;> simp [dO,h]
 | cons a l ih=>
   cases l with
   | nil=>by_cases h:a=x <;> by_cases h2:x=y <;> simp_all [dO]
   | cons b l=>
     simp only [List.cons_append] at ih ⊢
     rw [dO,ih,dO]
     by_cases h:a=b <;> by_cases h2:x=y <;> simp [h,h2]
theorem sJ (x:Nat):∀ l:List Nat,x∈dO l↔x∈l:=by
 intro l
 induction l with
 | nil=>simp [dO]
 | cons a l ih=>
   cases l with
   | nil=>simp [dO]
   | cons b l=>
     rw [dO]
     by_cases h:a=b
     · subst h; rw [if_pos rfl,ih]; simp
     · rw [if_neg h,List.mem_cons,ih,List.mem_cons (a:=x) (b:=a)]
theorem An:∀ l:List Nat,l.Pairwise (·≤·)→(dO l).Pairwise (· < ·):=by
 intro l
 induction l with
 | nil=>intro _; exact List.Pairwise.nil
 | cons a l ih=>
   intro h
   cases l with
   | nil=>simp [dO]
   | cons b l=>
     rw [List.pairwise_cons] at h
     rw [dO]
     by_cases h1:a=b
     · rw [if_pos h1]; exact ih h.2
     · rw [if_neg h1,List.pairwise_cons]
       refine ⟨fun y hy=> ?_,ih h.2⟩
       have hy:=(sJ y _).1 hy
       have h2:=h.1 b (by simp)
       rcases List.mem_cons.1 hy with rfl | hy
       · omega
       · have :=(List.pairwise_cons.1 h.2).1 y hy; omega
theorem ET:∀ l m:List Nat,l.Pairwise (· < ·)→m.Pairwise (· < ·)→(∀ x,x∈l↔x∈m)→l=m:=by
 intro l
 induction l with
 | nil=>
   intro m _ _ h
   cases m with
   | nil=>rfl
   | cons y m=>have :=(h y).2 (by simp); cases this
 | cons a l ih=>
   intro m hl hm h
   cases m with
   | nil=>have :=(h a).1 (by simp); cases this
   | cons y m=>
     rw [List.pairwise_cons] at hl hm
     have e:a=y:=by
      have h1:=(h a).1 (by simp)
      have h2:=(h y).2 (by simp)
      rcases List.mem_cons.1 h1 with h1 | h1
      · exact h1
      · rcases List.mem_cons.1 h2 with h2 | h2
        · exact h2.symm
        · have :=hl.1 y h2; have :=hm.1 a h1; omega
     subst e
     congr 1
     refine ih m hl.2 hm.2 fun x=> ?_
     constructor
     · intro hx
       have :=hl.1 x hx
       rcases List.mem_cons.1 ((h x).1 (List.mem_cons_of_mem _ hx)) with h1 | h1
       · omega
       · exact h1
     · intro hx
       have :=hm.1 x hx
       rcases List.mem_cons.1 ((h x).2 (List.mem_cons_of_mem _ hx)) with h1 | h1
       · omega
       · exact h1
def gG (x:Nat):List Nat→List Nat
 | []=> [x]
 | y::l=>if x < y then x::y::l else if x=y then y::l else y::gG x l
def fV (l:List Nat):List Nat:=l.foldr gG []
theorem tY (x y:Nat):∀ l:List Nat,y∈gG x l↔y=x∨y∈l:=by
 intro l
 induction l with
 | nil=>simp [gG]
 | cons a l ih=>
   rw [gG]
   split
   · simp
   · split
     · rename_i h; subst h; simp
     · rw [List.mem_cons,ih,List.mem_cons]
       constructor <;> (rintro (h | h | h) <;> simp [h])
theorem CF (x:Nat):∀ l:List Nat,l.Pairwise (· < ·)→(gG x l).Pairwise (· < ·):=by
 intro l
 induction l with
 | nil=>intro _; simp [gG]
 | cons a l ih=>
   intro h
   rw [gG]
   rw [List.pairwise_cons] at h
   split
   · rename_i hx
     rw [List.pairwise_cons,List.pairwise_cons]
     exact ⟨fun y hy=>by rcases List.mem_cons.1 hy with rfl | hy; exact hx; have :=h.1 y hy; omega,h⟩
   · split
     · rw [List.pairwise_cons]; exact h
     · rw [List.pairwise_cons]
       exact ⟨fun y hy=>by rcases (tY x y l).1 hy with rfl | hy; omega; exact h.1 y hy,ih h.2⟩
theorem DT (x:Nat):∀ l:List Nat,x∈fV l↔x∈l:=by
 intro l
 induction l with
 | nil=>simp [fV]
 | cons a l ih=>show x∈gG a (fV l)↔_; rw [tY,ih,List.mem_cons]
theorem uO:∀ l:List Nat,(fV l).Pairwise (· < ·):=by
 intro l
 induction l with
 | nil=>exact List.Pairwise.nil
 | cons a l ih=>exact CF a _ ih
theorem uP {l m:List Nat} (hm:m.Pairwise (· < ·)) (h:∀ x,x∈m↔x∈l):m=fV l:=ET _ _ hm (uO l) fun x=>by rw [h,DT]
theorem DU {l:List Nat} (h:l.Pairwise (· < ·)):fV l=l:=(uP h fun _=>Iff.rfl).symm
theorem CE (x:Nat):∀ l:List Nat,(gG x l).length≤l.length+1:=by
 intro l
 induction l with
 | nil=>simp [gG]
 | cons a l ih=>rw [gG]; split <;> (try split) <;> simp only [List.length_cons] <;> omega
theorem DS:∀ l:List Nat,(fV l).length≤l.length:=by
 intro l
 induction l with
 | nil=>simp [fV]
 | cons a l ih=>have :=CE a (fV l); show (gG a (fV l)).length≤_; simp only [List.length_cons]; omega
theorem lG (d:Array Nat):d.toList.length=d.size:=by simp
theorem mE (d:Array Nat) (i:Nat):d.toList.getD i 0=d[i]! :=by
 rw [List.getD_eq_getElem?_getD,Array.getElem?_toList]
 by_cases h:i < d.size
 · rw [Array.getElem?_eq_getElem h,getElem!_pos d i h]; rfl
 · rw [Array.getElem?_eq_none (by omega),getElem!_neg d i h]; rfl
theorem od {d:Array Nat} {i:Nat} (h:i < d.size):d.toList.take (i+1)=d.toList.take i++ [d[i]!]:=by
 rw [gU d.toList i 0 (by simpa using h),mE]
theorem nq {d:Array Nat} {q:Nat} (h1:1≤q) (h:q < d.size):dO (d.toList.take (q+1))=if d[q - 1]! =d[q]! then dO (d.toList.take q) else dO (d.toList.take q)++ [d[q]!]:=by
 obtain ⟨q,rfl⟩:∃ k,q=k+1:=⟨q - 1,by omega⟩
 rw [od h,od (by omega),List.append_assoc,Nat.add_sub_cancel]
 exact Ao _ _ _
theorem Ft {d:Array Nat} (h:Go.Sort.SortedIn a4 0 d.size d):d.toList.Pairwise (·≤·):=by
 rw [List.pairwise_iff_getElem]
 intro i j hi hj a
 have :=h i j (Nat.zero_le _) a (by simpa using hj)
 rw [← mE,← mE,List.getD_eq_getElem?_getD,List.getD_eq_getElem?_getD,List.getElem?_eq_getElem hi,List.getElem?_eq_getElem hj] at this
 simp only [a4,decide_eq_false_iff_not,Option.getD_some] at this
 omega
theorem Fq {l:List Nat} {d:Array Nat} (hp:Go.Sort.PermIn 0 l.length l.toArray d) (hs:Go.Sort.SortedIn a4 0 l.length d):dO d.toList=fV l:=by
 have hsz:d.size=l.length:=by rw [hp.1]; simp
 have a:d.toList.Perm l:=by
  have :=hp.2.2
  rw [show (d.extract 0 l.length).toList=d.toList from by rw [Array.toList_extract]; simp [List.take_of_length_le (show d.toList.length≤l.length by simp [hsz])]] at this
  simpa using this
 exact uP (An _ (Ft (by rw [hsz]; exact hs))) fun x=>by rw [sJ]; exact a.mem_iff
theorem nu {d d2:Array Nat} {k j:Nat} (h:d.toList.drop k=d2.toList.drop k) (hk:k≤j):d[j]! =d2[j]! :=by
 have :=congrArg (fun l=>l.getD (j - k) 0) h
 simp only [List.getD_eq_getElem?_getD,List.getElem?_drop,show k+(j - k)=j from by omega] at this
 rw [← mE,← mE]; simpa [List.getD_eq_getElem?_getD] using this
theorem set_drop {d:Array Nat} {k m v:Nat} (h:k < m):(d.setIfInBounds k v).toList.drop m=d.toList.drop m:=by
 rw [Array.toList_setIfInBounds,List.drop_set,if_pos h]
theorem qz {d:Array Nat} {k v:Nat} (h:k < d.size):(d.setIfInBounds k v).toList.take (k+1)=d.toList.take k++ [v]:=by
 rw [Array.toList_setIfInBounds,List.set_eq_take_append_cons_drop,if_pos (by simpa using h),List.take_append,List.length_take,Array.length_toList,Nat.min_eq_left (by omega),Nat.add_sub_cancel_left,List.take_of_length_le (by rw [List.length_take]; omega)]
 rfl
theorem pZ {h:Array Obj} {a:Option Addr} {d:Array Nat} {i j:Nat} {f:Nat→Value} (hc:ak h a ((LE f d).drop i)) (hi:i+j < d.size):Hb.ay h (bk a) (fo a+j*1)=some (f d[i+j]!):=by
 refine hc.gA ?_
 rw [List.getElem?_drop]; exact uj hi
theorem p4 {d:Array Nat} {i:Nat} {f:Nat→Value} (h:i < d.size):(LE f d).drop i≠[]:=by
 intro e; have :=congrArg List.length e; rw [List.length_drop,mg,List.length_nil] at this; omega
def eE (b:UInt8):Bool:=decide (33≤b.toNat∧b.toNat≤126∧b.toNat≠47∧b.toNat≠44∧b.toNat≠35)
noncomputable def c8 (kind:Nat) (s:List UInt8):Nat:=
 if kind=1 then (if s.length=1∧eE (s.getD 0 0)=true then (s.getD 0 0).toNat else 0)
 else if kind=2 then (if s.length=2∧eE (s.getD 0 0)=true∧eE (s.getD 1 0)=true then 256 *(s.getD 0 0).toNat+(s.getD 1 0).toNat else 0)
 else (dv s 65535).1
def eb (c:UInt8):List UInt8→List UInt8→List (List UInt8)
 | acc,[]=> [acc]
 | acc,b::l=>if b=c then acc::eb c [] l else eb c (acc++ [b]) l
theorem Fy (c:UInt8):∀ (l acc:List UInt8),(eb c acc l).length≤l.length+1:=by
 intro l
 induction l with
 | nil=>intro acc; simp [eb]
 | cons b l ih=>
   intro acc; rw [eb]; split
   · have :=ih []; simp only [List.length_cons]; omega
   · have :=ih (acc++ [b]); simp only [List.length_cons]; omega
theorem Fz (c:UInt8):∀ (l acc x:List UInt8),x∈eb c acc l→x.length≤acc.length+l.length:=by
 intro l
 induction l with
 | nil=>intro acc x h; simp only [eb,List.mem_singleton] at h; subst h; simp
 | cons b l ih=>
   intro acc x h
   rw [eb] at h
   split at h
   · rcases List.mem_cons.1 h with rfl | h
     · simp
     · have :=ih [] x h; simp only [List.length_nil,List.length_cons] at*; omega
   · have :=ih _ x h; rw [List.length_append,List.length_singleton] at this; simp only [List.length_cons]; omega
def js (k:Nat):Nat→List UInt8→List (List UInt8)
 | 0,_=> []
 | f+1,s=>if s= [] then [] else s.take k::js k f (s.drop k)
def chunks (k:Nat) (s:List UInt8):List (List UInt8):=js k s.length s
theorem ze {k:Nat} (hk:0 < k):∀ (f g:Nat) (s:List UInt8),s.length≤f→s.length≤g→js k f s=js k g s:=by
 intro f
 induction f with
 | zero=>intro g s h _; obtain rfl :=List.eq_nil_of_length_eq_zero (by omega :s.length=0); cases g <;> simp [js]
 | succ f ih=>
   intro g s h1 h2
   cases g with
   | zero=>obtain rfl :=List.eq_nil_of_length_eq_zero (by omega :s.length=0); simp [js]
   | succ g=>
     rw [js,js]
     by_cases hs:s= []
     · simp [hs]
     · have hl:=List.length_pos_iff.2 hs
       rw [if_neg hs,if_neg hs,ih g (s.drop k) (by rw [List.length_drop]; omega) (by rw [List.length_drop]; omega)]
theorem oZ (k:Nat):chunks k []= []:=rfl
theorem oY {k:Nat} {s:List UInt8} (hk:0 < k) (hs:s≠[]):chunks k s=s.take k::chunks k (s.drop k):=by
 have hl:=List.length_pos_iff.2 hs
 unfold chunks
 obtain ⟨m,hm⟩:∃ m,s.length=m+1:=⟨s.length - 1,by omega⟩
 rw [hm,js,if_neg hs,ze hk m (s.drop k).length (s.drop k) (by rw [List.length_drop]; omega) (Nat.le_refl _)]
theorem zh {k:Nat} (hk:0 < k):∀ (n:Nat) (s:List UInt8),s.length≤n→(chunks k s).length≤s.length:=by
 intro n
 induction n with
 | zero=>intro s h; obtain rfl :=List.eq_nil_of_length_eq_zero (by omega :s.length=0); simp [oZ]
 | succ n ih=>
   intro s h
   by_cases hs:s= []
   · subst hs; simp [oZ]
   · have hl:=List.length_pos_iff.2 hs
     rw [oY hk hs,List.length_cons]
     have :=ih (s.drop k) (by rw [List.length_drop]; omega)
     rw [List.length_drop] at this; omega
theorem zi {k:Nat} (hk:0 < k):∀ (n:Nat) (s x:List UInt8),s.length≤n→x∈chunks k s→x.length≤s.length:=by
 intro n
 induction n with
 | zero=>intro s x h hx; obtain rfl :=List.eq_nil_of_length_eq_zero (by omega :s.length=0); cases hx
 | succ n ih=>
   intro s x h hx
   by_cases hs:s= []
   · subst hs; cases hx
   · have hl:=List.length_pos_iff.2 hs
     rw [oY hk hs] at hx
     rcases List.mem_cons.1 hx with rfl | hx
     · rw [List.length_take]; omega
     · have :=ih (s.drop k) x (by rw [List.length_drop]; omega) hx
       rw [List.length_drop] at this; omega
def cV (kind:Nat) (s:List UInt8):List (List UInt8):=if kind=3 then eb 44 [] s else chunks kind s
theorem El {kind:Nat} {s:List UInt8} (hk:0 < kind):(cV kind s).length≤s.length+1:=by
 unfold cV; split
 · exact Fy _ _ _
 · have :=zh hk s.length s (Nat.le_refl _); omega
theorem Em {kind:Nat} {s x:List UInt8} (hk:0 < kind) (h:x∈cV kind s):x.length≤s.length:=by
 unfold cV at h; split at h
 · have :=Fz _ _ _ _ h; simpa using this
 · exact zi hk _ _ _ (Nat.le_refl _) h
noncomputable def dt (kind:Nat) (s:List UInt8):List Nat×Nat:=
 if s= [] then ([],31) else if ∃ x∈cV kind s,c8 kind x=0 then ([],31) else if 64 < (cV kind s).length then ([],32) else (fV ((cV kind s).map (c8 kind)),0)
noncomputable def eJ (kind:Nat) (s:List UInt8):Nat×Nat:=if c8 kind s=0 then (0,31) else (c8 kind s,0)
theorem lN {n:Int} (h:0≤n∧n≤65535):IntKind.u16.wrap n=n:=IntWalk.u16_in n h
theorem Fe {x:Nat} (h:x < 256):IntKind.u16.wrap ((x:Int)*2 ^ min (8:Int).toNat IntKind.u16.bits)=((256 *x:Nat):Int):=by
 have h2:((x:Int)*2 ^ min (8:Int).toNat IntKind.u16.bits)=((256 *x:Nat):Int):=by
  show (x:Int)*256=_
  omega
 rw [h2]; exact lN (by omega)
theorem D2 {x y:Nat} (h:x < 256) (hy:y < 256):IntKind.u16.wrap (BitVec.ofInt IntKind.u16.bits ((256 *x:Nat):Int) ||| BitVec.ofInt IntKind.u16.bits ((y:Nat):Int)).toNat=((256 *x+y:Nat):Int):=by
 have h1:(BitVec.ofInt IntKind.u16.bits ((256 *x:Nat):Int) ||| BitVec.ofInt IntKind.u16.bits ((y:Nat):Int)).toNat=256 *x+y:=by
  have hb:(IntKind.u16.bits:Nat)=16:=rfl
  rw [BitVec.toNat_or,BitVec.toNat_ofInt,BitVec.toNat_ofInt,hb]
  have a:(((256 *x:Nat):Int) % ((2 ^ 16:Nat):Int)).toNat=2 ^ 8 *x:=by omega
  have c:(((y:Nat):Int) % ((2 ^ 16:Nat):Int)).toNat=y:=by omega
  rw [a,c,← Nat.two_pow_add_eq_or_of_lt (show y < 2 ^ 8 by omega)]
 rw [h1]; exact lN (by omega)
theorem DO (s:List UInt8):(dv s 65535).1≤65535:=by
 unfold dv; split
 · exact Nat.zero_le _
 · simp only; omega
theorem zg (s:List UInt8) (i k:Nat):(s.take (min ((i+k:Nat):Int) (s.length:Int)).toNat).drop (i:Int).toNat=(s.drop i).take k:=by
 rw [Int.toNat_natCast,show (min ((i+k:Nat):Int) (s.length:Int)).toNat=min (i+k) s.length from by omega,List.drop_take]
 by_cases h:i+k≤s.length
 · rw [Nat.min_eq_left h,Nat.add_sub_cancel_left]
 · rw [Nat.min_eq_right (by omega),List.take_of_length_le (by rw [List.length_drop]; omega),List.take_of_length_le (by rw [List.length_drop]; omega)]
theorem vC (c:UInt8):∀ (l acc:List UInt8),l.idxOf c < l.length→eb c acc l=(acc++l.take (l.idxOf c))::eb c [] (l.drop (l.idxOf c+1)):=by
 intro l
 induction l with
 | nil=>intro acc h; simp at h
 | cons b l ih=>
   intro acc h
   rw [eb]
   by_cases hb:b=c
   · subst hb; rw [if_pos rfl]; simp
   · rw [if_neg hb]
     have hi:(b::l).idxOf c=l.idxOf c+1:=by rw [List.idxOf_cons,show (b==c)=false from by simpa using hb]; rfl
     rw [hi] at h ⊢
     simp only [List.length_cons] at h
     rw [ih _ (by omega)]
     simp [List.append_assoc]
theorem FA (c:UInt8):∀ (l acc:List UInt8),¬c∈l→eb c acc l= [acc++l]:=by
 intro l
 induction l with
 | nil=>intro acc _; simp [eb]
 | cons b l ih=>
   intro acc h
   rw [List.mem_cons,not_or] at h
   rw [eb,if_neg (fun e=>h.1 e.symm),ih _ h.2]; simp
theorem qE (c:UInt8):∀ (l acc:List UInt8),(eb c acc l).length=l.count c+1:=by
 intro l
 induction l with
 | nil=>intro acc; simp [eb]
 | cons b l ih=>
   intro acc
   rw [eb]
   by_cases hb:b=c
   · subst hb; rw [if_pos rfl,List.length_cons,ih]; simp
   · rw [if_neg hb,ih,List.count_cons_of_ne hb]
theorem Ad {c:UInt8} {l:List UInt8} (h:l.idxOf c < l.length):(l.drop (l.idxOf c+1)).count c+1=l.count c:=by
 have h1:=qE c l []
 rw [vC c l [] h,List.length_cons,qE] at h1
 omega
def mO (n:Nat):Value:= .int .i64 n
end Go.Hb
end
section
namespace Go.Hb
def dX (b:UInt8):Bool:=decide (33≤b.toNat∧b.toNat≠127)
def dB (w:List UInt8):Bool:=w.all dX
def eX (w:List UInt8):Bool:=decide (1≤w.length∧w.length≤64∧dB w=true)
theorem du {α:Type} {l:List α} {i:Nat} {d:α} (h:i < l.length):l.getD i d∈l:=by
 rw [List.getD_eq_getElem?_getD,List.getElem?_eq_getElem h]; exact List.getElem_mem h
theorem mi {α:Type} {l:List α} {x:α} (d:α) (h:x∈l):∃ i,i < l.length∧l.getD i d=x:=by
 obtain ⟨i,hi,rfl⟩:=List.mem_iff_getElem.1 h
 exact ⟨i,hi,by rw [List.getD_eq_getElem?_getD,List.getElem?_eq_getElem hi]; rfl⟩
theorem rl {α:Type} {f:α→Bool} {l:List α} {i:Nat} (d:α) (h:i < l.length) (h1:f (l.getD i d)=false):l.all f=false :=by
 rw [List.all_eq_false]; exact ⟨_,du h,by rw [h1]; exact Bool.noConfusion⟩
theorem rp {α:Type} {f:α→Bool} {l:List α} (d:α) (h:∀ i,i < l.length→f (l.getD i d)=true):l.all f=true :=by
 rw [List.all_eq_true]; intro x hx; obtain ⟨i,hi,rfl⟩:=mi d hx; exact h i hi
theorem kZ {w:List UInt8} {i:Nat} (h:i < w.length) (h1:dX (w.getD i 0)=false):dB w=false :=rl 0 h h1
theorem lW {w:List UInt8} (h:∀ i,i < w.length→dX (w.getD i 0)=true):dB w=true :=rp 0 h
theorem xX (b:UInt8):dB [b]=dX b:=by unfold dB; simp
def fS (b:UInt8):Bool:=decide (b.toNat=92∨b.toNat=47∨b.toNat=35)
abbrev gY:Type :=List UInt8×List UInt8×Bool×Nat
def Ex (r:gY):Value:= .tuple #[str r.1,str r.2.1,.bool r.2.2.1,.int .i64 r.2.2.2]
def ec:List UInt8→List UInt8→gY
 | acc,[]=>(acc,[],false,0)
 | acc,[b]=>if b.toNat=47 then (acc,[],true,0) else if b.toNat=92 then ([],[],false,20) else (acc++ [b],[],false,0)
 | acc,b::c::l=>if b.toNat=47 then (acc,c::l,true,0) else if b.toNat=92 then (if fS c=true then ec (acc++ [c]) l else ([],[],false,20)) else ec (acc++ [b]) (c::l)
theorem mJ (acc:List UInt8):ec acc []=(acc,[],false,0):=by simp [ec]
theorem wq {acc l:List UInt8} {b:UInt8} (h:b.toNat=47):ec acc (b::l)=(acc,l,true,0):=by
 cases l <;> simp [ec,h]
theorem wm {acc:List UInt8} {b:UInt8} (h:b.toNat=92):ec acc [b]=([],[],false,20):=by simp [ec,h]
theorem wo {acc l:List UInt8} {b c:UInt8} (h:b.toNat=92) (hc:fS c=false):ec acc (b::c::l)=([],[],false,20):=by simp [ec,h,hc]
theorem qM {acc l:List UInt8} {b c:UInt8} (h:b.toNat=92) (hc:fS c=true):ec acc (b::c::l)=ec (acc++ [c]) l:=by simp [ec,h,hc]
theorem qN {acc l:List UInt8} {b:UInt8} (h:¬b.toNat=47) (h1:¬b.toNat=92):ec acc (b::l)=ec (acc++ [b]) l:=by
 cases l <;> simp [ec,h,h1]
theorem Gx (n:Nat):∀ (l acc:List UInt8),l.length≤n→(ec acc l).1.length≤acc.length+l.length∧(ec acc l).2.1.length≤l.length:=by
 induction n with
 | zero=>intro l acc h; obtain rfl :=List.eq_nil_of_length_eq_zero (by omega :l.length=0); rw [mJ]; exact ⟨by simp,by simp⟩
 | succ n ih=>
   intro l acc h
   cases l with
   | nil=>rw [mJ]; exact ⟨by simp,by simp⟩
   | cons b l=>
     simp only [List.length_cons] at h ⊢
     by_cases h1:b.toNat=47
     · rw [wq h1]; exact ⟨by simp only; omega,by simp only; omega⟩
     · by_cases h2:b.toNat=92
       · cases l with
         | nil=>rw [wm h2]; exact ⟨by simp,by simp⟩
         | cons c l=>
           simp only [List.length_cons] at h ⊢
           cases hc:fS c
           · rw [wo h2 hc]; exact ⟨by simp,by simp⟩
           · rw [qM h2 hc]
             have :=ih l (acc++ [c]) (by omega)
             rw [List.length_append,List.length_singleton] at this
             omega
       · rw [qN h1 h2]
         have :=ih l (acc++ [b]) (by omega)
         rw [List.length_append,List.length_singleton] at this
         omega
def aW (f:List UInt8):gY:=ec [] f
theorem oz (f:List UInt8):(aW f).1.length≤f.length∧(aW f).2.1.length≤f.length:=by
 have :=Gx f.length f [] (Nat.le_refl _)
 simpa [aW] using this
def bP (w:List UInt8):List UInt8:=w.flatMap fun b=>if fS b=true then [92,b] else [b]
theorem wx {w:List UInt8} {i:Nat} (h:i < w.length):bP (w.take (i+1))=bP (w.take i)++(if fS (w.getD i 0)=true then [92,w.getD i 0] else [w.getD i 0]):=by
 rw [gU w i 0 h]; simp [bP]
theorem oB (w:List UInt8):(bP w).length≤2 *w.length:=by
 induction w with
 | nil=>simp [bP]
 | cons b w ih=>
   have h:bP (b::w)=(if fS b=true then [92,b] else [b])++bP w:=rfl
   rw [h,List.length_append,List.length_cons]
   split <;> simp only [List.length_cons,List.length_nil] <;> omega
def lets (s:List UInt8):List UInt8:=s.foldl (fun a b=>if b∈a then a else a++ [b]) []
def letE (s:List UInt8):List UInt8×Nat:=if s= []∨dB s=false then ([],21) else (lets s,0)
theorem nK {s:List UInt8} {i:Nat} (h:i < s.length):lets (s.take (i+1))=if s.getD i 0∈lets (s.take i) then lets (s.take i) else lets (s.take i)++ [s.getD i 0]:=by
 unfold lets
 rw [gU s i 0 h,List.foldl_append]; rfl
theorem uq (s:List UInt8):(lets s).length≤s.length:=by
 have key:∀ (s a:List UInt8),(s.foldl (fun a b=>if b∈a then a else a++ [b]) a).length≤a.length+s.length:=by
  intro s
  induction s with
  | nil=>intro a; simp
  | cons b s ih=>
    intro a
    rw [List.foldl_cons,List.length_cons]
    split
    · have :=ih a; omega
    · have :=ih (a++ [b]); rw [List.length_append,List.length_singleton] at this; omega
 have :=key s []
 simpa [lets] using this
def marksOf (a:List UInt8):List Value:=(List.range 256).map fun k=> .bool (decide (UInt8.ofNat k∈a))
theorem uz (a:List UInt8):(marksOf a).length=256:=by simp [marksOf]
theorem Ds (a:List UInt8) (b:UInt8):(marksOf a)[b.toNat]? =some (.bool (decide (b∈a))):=by
 have :=UInt8.toNat_lt b
 unfold marksOf
 rw [List.getElem?_map,List.getElem?_range (by omega)]
 simp
theorem Du (a:List UInt8) (b:UInt8):(marksOf a).set b.toNat (.bool true)=marksOf (a++ [b]):=by
 apply List.ext_getElem?
 intro k
 rw [List.getElem?_set,uz]
 unfold marksOf
 rw [List.getElem?_map,List.getElem?_map]
 by_cases hk:k < 256
 · rw [List.getElem?_range hk]
   simp only [Option.map_some]
   have he:(UInt8.ofNat k=b)↔b.toNat=k:=by
    constructor
    · rintro rfl; simp; omega
    · rintro rfl; simp
   by_cases h:b.toNat=k
   · have h2:=he.2 h
     simp [h,hk,h2]
   · have h2:¬UInt8.ofNat k=b:=fun e=>h (he.1 e)
     simp [h,h2]
 · have :(List.range 256)[k]? =none:=List.getElem?_eq_none (by simp; omega)
   have hb:=UInt8.toNat_lt b
   rw [this]
   simp; omega
theorem Dt:marksOf []=List.replicate 256 (.bool false):=by
 unfold marksOf
 apply List.ext_getElem?
 intro k
 rw [List.getElem?_map,List.getElem?_replicate]
 by_cases hk:k < 256
 · rw [List.getElem?_range hk]; simp [hk]
 · rw [List.getElem?_eq_none (by simp; omega)]; simp [hk]
theorem Bd.new {T e b:Nat} {w:World} (h:w.heap[b]? =some (.cells [Value.pointer none,.slice none 0 0].toArray T (0,0))):Bd T e w b (.slice none 0 0) []:=
 ⟨⟨none,h,.inl rfl⟩,World.ownsRow_nil _ _ _ _,by simp⟩
theorem Bd.step {T e b:Nat} {a w w':World} {c:Value} {l:List UInt8} (h:Bd T e w b c l) (i:Wk a w) (j:Md (BF b c) w w') (hb:a.heap.size≤b):Wk a w':=
 Md.trans' i j fun k hk hf=>by have :=h.eB hf; omega
theorem Bd.oa {T e b:Nat} {a w w':World} {c:Value} {l:List UInt8} (h:Bd T e w b c l) (i:Wk a w) (j:Md (fun k=>c.ownBlock=some k) w w') (hb:a.heap.size≤b):Wk a w':=
 Md.trans' i j fun k hk hf=>by have :=h.eB (.inr hf); omega
end Go.Hb
end
section
set_option linter.unusedSimpArgs false
namespace Go.Hb
def jS (g:Nat→Bool):Nat→Nat
 | 0=>0
 | n+1=>jS g n ||| (if g n=true then 2 ^ n else 0)
theorem xJ (g:Nat→Bool):∀ n,jS g n < 2 ^ n:=by
 intro n
 induction n with
 | zero=>exact Nat.zero_lt_one
 | succ n ih=>
   rw [jS]
   refine Nat.or_lt_two_pow (Nat.lt_trans ih (Nat.pow_lt_pow_right (by decide) (Nat.lt_succ_self n))) ?_
   split
   · exact Nat.pow_lt_pow_right (by decide) (Nat.lt_succ_self n)
   · exact Nat.two_pow_pos _
theorem lU (g:Nat→Bool) (j:Nat):∀ n,(jS g n).testBit j=(decide (j < n) && g j):=by
 intro n
 induction n with
 | zero=>simp [jS]
 | succ n ih=>
   rw [jS,Nat.testBit_or,ih]
   by_cases hj:j=n
   · subst hj
     cases h:g j <;> simp [Nat.testBit_two_pow_self]
   · have a:(if g n=true then 2 ^ n else 0).testBit j=false :=by
      split
      · rw [Nat.testBit_two_pow]; simp; omega
      · simp
     rw [a,Bool.or_false]
     congr 1
     exact decide_eq_decide.2 (by omega)
theorem m5 {g:Nat→Bool} {x:Nat} (hx:x < 2 ^ 64) (h:∀ j,j < 64→x.testBit j=g j):x=jS g 64:=by
 refine Nat.eq_of_testBit_eq fun j=> ?_
 rw [lU]
 by_cases hj:j < 64
 · rw [h j hj,decide_eq_true hj,Bool.true_and]
 · rw [decide_eq_false hj,Bool.false_and]
   exact Nat.testBit_lt_two_pow (Nat.lt_of_lt_of_le hx (Nat.pow_le_pow_right (by decide) (by omega)))
def cj (f:UInt8→Bool) (k:Nat):Nat:=jS (fun j=>f (UInt8.ofNat (64 *k+j))) 64
def bU (f:UInt8→Bool):List Value:= [.int .u64 (cj f 0),.int .u64 (cj f 1),.int .u64 (cj f 2),.int .u64 (cj f 3)]
theorem lL (f:UInt8→Bool) (k:Nat):cj f k < 18446744073709551616:=xJ _ 64
theorem nj (f:UInt8→Bool):(bU f).length=4:=rfl
theorem sv (f:UInt8→Bool):(bU f).all Value.oneCell'=true :=rfl
theorem o4 (f:UInt8→Bool) {k:Nat} (h:k < 4):(bU f)[k]? =some (.int .u64 (cj f k)):=by
 match k,h with
 | 0,_=>rfl
 | 1,_=>rfl
 | 2,_=>rfl
 | 3,_=>rfl
theorem o5:bU (fun _=>false)= [.int .u64 0,.int .u64 0,.int .u64 0,.int .u64 0]:=by
 have :∀ k,cj (fun _=>false) k=0:=fun k=>(m5 (x:=0) (by decide) (fun j _=>by simp)).symm
 unfold bU; simp only [this]; rfl
theorem oN (b:UInt8) {k j:Nat} (hk:k < 4) (hj:j < 64):UInt8.ofNat (64 *k+j)=b↔k=b.toNat / 64∧j=b.toNat % 64:=by
 have hb:=UInt8.toNat_lt b
 constructor
 · rintro rfl
   simp only [UInt8.toNat_ofNat']
   omega
 · rintro ⟨h1,h2⟩
   refine UInt8.toNat_inj.1 ?_
   simp only [UInt8.toNat_ofNat']
   omega
theorem Gr (f:UInt8→Bool) (b:UInt8) {k:Nat} (hk:k < 4):cj (fun x=>f x || decide (x=b)) k=if k=b.toNat / 64 then cj f k ||| 2 ^ (b.toNat % 64) else cj f k:=by
 split
 · rename_i h
   refine (m5 (Nat.or_lt_two_pow (lL f k) (Nat.pow_lt_pow_right (by decide) (by omega))) fun j hj=> ?_).symm
   rw [Nat.testBit_or,Nat.testBit_two_pow]
   have h1:(cj f k).testBit j=f (UInt8.ofNat (64 *k+j)):=by unfold cj; rw [lU,decide_eq_true hj,Bool.true_and]
   rw [h1]
   congr 1
   exact decide_eq_decide.2 (by rw [oN b hk hj]; omega)
 · rename_i h
   refine (m5 (lL f k) fun j hj=> ?_).symm
   have h1:(cj f k).testBit j=f (UInt8.ofNat (64 *k+j)):=by unfold cj; rw [lU,decide_eq_true hj,Bool.true_and]
   show _=(f (UInt8.ofNat (64 *k+j)) || decide (UInt8.ofNat (64 *k+j)=b))
   rw [h1,decide_eq_false (by rw [oN b hk hj]; omega),Bool.or_false]
theorem zK (f:UInt8→Bool) (b:UInt8):(bU f).set (b.toNat / 64) (.int .u64 ((cj f (b.toNat / 64) ||| 2 ^ (b.toNat % 64):Nat):Int))=bU (fun x=>f x || decide (x=b)):=by
 have hb:=UInt8.toNat_lt b
 apply List.ext_getElem?
 intro k
 rw [List.getElem?_set,nj]
 by_cases hk:k < 4
 · rw [o4 _ hk,o4 _ hk,Gr f b hk]
   by_cases h:b.toNat / 64=k
   · subst h; simp [show b.toNat / 64 < 4 by omega]
   · rw [if_neg h,if_neg (fun e=>h e.symm)]
 · rw [List.getElem?_eq_none (by rw [nj]; omega),List.getElem?_eq_none (by rw [nj]; omega)]
   simp; omega
theorem Gq (f:UInt8→Bool) (b:UInt8):decide ((((cj f (b.toNat / 64) / 2 ^ (b.toNat % 64)) % 2:Nat):Int)=1)=f b:=by
 have hb:=UInt8.toNat_lt b
 have h1:(cj f (b.toNat / 64)).testBit (b.toNat % 64)=f b:=by
  unfold cj
  rw [lU,decide_eq_true (Nat.mod_lt _ (by decide)),Bool.true_and,(oN b (k:=b.toNat / 64) (j:=b.toNat % 64) (by omega) (Nat.mod_lt _ (by decide))).2 ⟨rfl,rfl⟩]
 rw [← h1,Nat.testBit_eq_decide_div_mod_eq]
 exact decide_eq_decide.2 (by omega)
theorem rv (b:UInt8):IntKind.u8.wrap (BitVec.ofInt IntKind.u8.bits (b.toNat:Int) &&& BitVec.ofInt IntKind.u8.bits 63).toNat=((b.toNat % 64:Nat):Int):=by
 have h:∀ r:Fin 256,IntKind.u8.wrap (BitVec.ofInt IntKind.u8.bits ((r.val:Nat):Int) &&& BitVec.ofInt IntKind.u8.bits 63).toNat=((r.val % 64:Nat):Int):=by decide+kernel
 exact h ⟨b.toNat,UInt8.toNat_lt b⟩
theorem vw (b:UInt8):(b.toNat:Int).fdiv (2 ^ min (6:Int).toNat IntKind.u8.bits)=((b.toNat / 64:Nat):Int):=by
 have h:∀ r:Fin 256,((r.val:Nat):Int).fdiv (2 ^ min (6:Int).toNat IntKind.u8.bits)=((r.val / 64:Nat):Int):=by decide+kernel
 exact h ⟨b.toNat,UInt8.toNat_lt b⟩
theorem Fc {m:Nat} (h:m < 64):IntKind.u64.wrap ((1:Int)*2 ^ min ((m:Nat):Int).toNat IntKind.u64.bits)=((2 ^ m:Nat):Int):=by
 have h2:(IntKind.u64.bits:Nat)=64:=rfl
 rw [Int.toNat_natCast,h2,Nat.min_eq_left (by omega),Int.one_mul]
 have h3:(2:Nat) ^ m < 2 ^ 64:=Nat.pow_lt_pow_right (by decide) h
 have h4:((2:Int) ^ m)=((2 ^ m:Nat):Int):=by simp
 rw [h4]
 obtain ⟨x,hx⟩:∃ x:Nat,2 ^ m=x:=⟨_,rfl⟩
 rw [hx] at h3 ⊢; exact ji (by omega)
theorem D1 {x y:Nat} (hx:x < 2 ^ 64) (hy:y < 2 ^ 64):IntKind.u64.wrap (BitVec.ofInt IntKind.u64.bits (x:Int) ||| BitVec.ofInt IntKind.u64.bits (y:Int)).toNat=((x ||| y:Nat):Int):=by
 have hb:(IntKind.u64.bits:Nat)=64:=rfl
 have h1:(BitVec.ofInt IntKind.u64.bits (x:Int) ||| BitVec.ofInt IntKind.u64.bits (y:Int)).toNat=x ||| y:=by
  rw [BitVec.toNat_or,BitVec.toNat_ofInt,BitVec.toNat_ofInt,hb]
  congr 1 <;> omega
 rw [h1]
 have :=Nat.or_lt_two_pow hx hy
 obtain ⟨z,hz⟩:∃ z:Nat,x ||| y=z:=⟨_,rfl⟩
 rw [hz] at this ⊢; exact ji (by omega)
theorem Fi (x:Nat) {m:Nat} (h:m < 64):(x:Int).fdiv (2 ^ min ((m:Nat):Int).toNat IntKind.u64.bits)=((x / 2 ^ m:Nat):Int):=by
 have h2:(IntKind.u64.bits:Nat)=64:=rfl
 rw [Int.toNat_natCast,h2,Nat.min_eq_left (by omega)]
 rw [show ((2:Int) ^ m)=((2 ^ m:Nat):Int) by simp,Int.fdiv_eq_ediv_of_nonneg _ (Int.natCast_nonneg _)]; rfl
theorem xu {x:Nat} (hx:x < 2 ^ 64):IntKind.u64.wrap (BitVec.ofInt IntKind.u64.bits (x:Int) &&& BitVec.ofInt IntKind.u64.bits 1).toNat=((x % 2:Nat):Int):=by
 have hb:(IntKind.u64.bits:Nat)=64:=rfl
 have h1:(BitVec.ofInt IntKind.u64.bits (x:Int) &&& BitVec.ofInt IntKind.u64.bits 1).toNat=x % 2:=by
  rw [BitVec.toNat_and,BitVec.toNat_ofInt,BitVec.toNat_ofInt,hb,show ((x:Int) % ((2 ^ 64:Nat):Int)).toNat=x by omega]
  exact Nat.and_one_is_mod x
 rw [h1]; exact ji (by omega)
section
variable {P:Program} {N:Fm} {σ:Nat→Value} {w:World} {dst:Option Nat} {ty:TypeId} {pos :String} {af:Array Edge} {g:Option (Nat×Bool)} {x:Operand}
theorem nk {t:TypeId} {k:Nat} {f:UInt8→Bool} (hx:ev N σ x= .int .u64 (cj f k)):(execOp (ev N σ) ⟨dst,.unOp .xor t x,ty,pos,af,g⟩).run P w= .ok (.value (.int .u64 (cj (fun y=> !f y) k))) w:=by
 have hl:=lL f k
 have h1:IntKind.u64.wrap (BitVec.ofInt IntKind.u64.bits IntKind.u64.max ^^^ BitVec.ofInt IntKind.u64.bits (cj f k:Int)).toNat=(cj (fun y=> !f y) k:Int):=by
  have hb:(IntKind.u64.bits:Nat)=64:=rfl
  have h2:(BitVec.ofInt IntKind.u64.bits IntKind.u64.max ^^^ BitVec.ofInt IntKind.u64.bits (cj f k:Int)).toNat=cj (fun y=> !f y) k:=by
   rw [BitVec.toNat_xor,BitVec.toNat_ofInt,BitVec.toNat_ofInt,hb,show (IntKind.u64.max % ((2 ^ 64:Nat):Int)).toNat=2 ^ 64 - 1 from by decide,show ((cj f k:Int) % ((2 ^ 64:Nat):Int)).toNat=cj f k by omega]
   refine m5 (Nat.xor_lt_two_pow (by decide) hl) fun j hj=> ?_
   rw [Nat.testBit_xor,Nat.testBit_two_pow_sub_one,decide_eq_true hj,Bool.true_xor]
   congr 1
   unfold cj; rw [lU,decide_eq_true hj,Bool.true_and]
  rw [h2]; have :=lL (fun y=> !f y) k; exact ji (by omega)
 have h3:(Op.intBits .xor IntKind.u64 IntKind.u64.max (cj f k:Int)).run P w= .ok (.int .u64 (cj (fun y=> !f y) k)) w:=by
  simp only [Op.intBits]
  rw [← h1]; rfl
 have h4:(Op.unary .xor (.int IntKind.u64 (cj f k:Int))).run P w= .ok (.int .u64 (cj (fun y=> !f y) k)) w:=by
  simp only [Op.unary]
  exact h3
 simp [execOp,hx,h4]
end
def ee (t:List UInt8) (b:UInt8):Bool:=
 if t.length=1 then decide (t.getD 0 0=46∨t.getD 0 0=b)
 else if t.getD 1 0=94 then !decide (b∈(t.take (t.length - 1)).drop 2)
 else decide (b∈(t.take (t.length - 1)).drop 1)
def fw:List UInt8→Option (List UInt8×List UInt8)
 | []=>none
 | b::l=>if b=91 then (if l.idxOf 93 < l.length∧l.idxOf 93≠0∧¬(l.idxOf 93=1∧l.getD 0 0=94) then some (b::l.take (l.idxOf 93 +1),l.drop (l.idxOf 93 +1)) else none) else some ([b],l)
theorem sj {s t r:List UInt8} (h:fw s=some (t,r)):r.length < s.length:=by
 cases s with
 | nil=>cases h
 | cons b l=>
   simp only [fw] at h
   split at h
   · split at h
     · simp only [Option.some.injEq,Prod.mk.injEq] at h
       obtain ⟨_,rfl⟩:=h
       rw [List.length_drop,List.length_cons]; omega
     · cases h
   · simp only [Option.some.injEq,Prod.mk.injEq] at h
     obtain ⟨_,rfl⟩:=h
     simp
def iQ:Nat→List UInt8→Option (List (List UInt8))
 | 0,s=>if s= [] then some [] else none
 | f+1,s=>if s= [] then some [] else match fw s with
   | none=>none
   | some (t,r)=>(iQ f r).map (t:: ·)
theorem z6:∀ (f g:Nat) (s:List UInt8),s.length≤f→s.length≤g→iQ f s=iQ g s:=by
 intro f
 induction f with
 | zero=>intro g s h _; obtain rfl :=List.eq_nil_of_length_eq_zero (by omega :s.length=0); cases g <;> simp [iQ]
 | succ f ih=>
   intro g s h1 h2
   cases g with
   | zero=>obtain rfl :=List.eq_nil_of_length_eq_zero (by omega :s.length=0); simp [iQ]
   | succ g=>
     rw [iQ,iQ]
     split
     · rfl
     · cases hc:fw s with
       | none=>rfl
       | some q=>
         obtain ⟨t,r⟩:=q
         have :=sj hc
         simp only
         rw [ih g r (by omega) (by omega)]
def gD (s:List UInt8):Option (List (List UInt8)):=iQ s.length s
theorem z3:gD []=some []:=rfl
theorem z5 {s t r:List UInt8} (h:fw s=some (t,r)):gD s=(gD r).map (t:: ·):=by
 have hl:=sj h
 unfold gD
 obtain ⟨m,hm⟩:∃ m,s.length=m+1:=⟨s.length - 1,by omega⟩
 have hs:s≠[]:=fun e=>by rw [e] at hm; simp at hm
 rw [hm,iQ,if_neg hs,h]
 simp only
 rw [z6 m r.length r (by omega) (Nat.le_refl _)]
theorem z4 {s:List UInt8} (hs:s≠[]) (h:fw s=none):gD s=none:=by
 unfold gD
 have hl:=List.length_pos_iff.2 hs
 obtain ⟨m,hm⟩:∃ m,s.length=m+1:=⟨s.length - 1,by omega⟩
 rw [hm,iQ,if_neg hs,h]
def dC (s:List UInt8):List (List UInt8)×Nat:=
 if s= []∨512 < s.length then ([],40) else if s= [46] then ([],0) else match gD s with
  | none=>([],41)
  | some xs=>if 16 < xs.length then ([],42) else (xs,0)
def fP (s:List UInt8) (i:Nat) (dn:List (List UInt8)):Prop :=gD s=(gD (s.drop i)).map (dn++ ·)
theorem fP.start (s:List UInt8):fP s 0 []:=by
 unfold fP; rw [List.drop_zero]; cases gD s <;> simp
theorem fP.step {s t r:List UInt8} {i j:Nat} {dn:List (List UInt8)} (h:fP s i dn) (hc:fw (s.drop i)=some (t,r)) (hr:r=s.drop j):fP s j (dn++ [t]):=by
 subst hr
 unfold fP at*
 rw [h,z5 hc]
 cases gD (s.drop j) <;> simp
theorem fP.bad {s:List UInt8} {i:Nat} {dn:List (List UInt8)} (h:fP s i dn) (hi:i < s.length) (hc:fw (s.drop i)=none):gD s=none:=by
 unfold fP at h
 rw [h,z4 (fun e=>by have :=congrArg List.length e; rw [List.length_drop,List.length_nil] at this; omega) hc]; rfl
theorem fP.done {s:List UInt8} {i:Nat} {dn:List (List UInt8)} (h:fP s i dn) (hi:s.length≤i):gD s=some dn:=by
 unfold fP at h
 rw [h,List.drop_eq_nil_of_le hi,z3]; simp
theorem zk {b:UInt8} {l:List UInt8} (h:b≠91):fw (b::l)=some ([b],l):=by simp [fw,h]
theorem zl {b:UInt8} {l:List UInt8} (hb:b=91) (h:l.idxOf 93 < l.length) (h1:l.idxOf 93≠0) (h2:¬(l.idxOf 93=1∧l.getD 0 0=94)):fw (b::l)=some (b::l.take (l.idxOf 93 +1),l.drop (l.idxOf 93 +1)):=by
 simp only [fw]; rw [if_pos hb,if_pos ⟨h,h1,h2⟩]
theorem zj {b:UInt8} {l:List UInt8} (hb:b=91) (h:¬(l.idxOf 93 < l.length∧l.idxOf 93≠0∧¬(l.idxOf 93=1∧l.getD 0 0=94))):fw (b::l)=none:=by
 simp only [fw]; rw [if_pos hb,if_neg h]
def jr (f:UInt8→Bool) (i:Nat):List UInt8:=((List.range i).map UInt8.ofNat).filter f
def bytesOf (f:UInt8→Bool):List UInt8:=jr f 256
theorem rH (f:UInt8→Bool) (i:Nat):jr f (i+1)=jr f i++(if f (UInt8.ofNat i)=true then [UInt8.ofNat i] else []):=by
 unfold jr
 rw [List.range_succ,List.map_append,List.filter_append]
 congr 1
 cases h:f (UInt8.ofNat i) <;> simp [h]
theorem lV (f:UInt8→Bool) (i:Nat):(jr f i).length≤i:=by
 unfold jr
 refine Nat.le_trans (List.length_filter_le _ _) ?_
 simp
theorem xW (f:UInt8→Bool):(bytesOf f).Nodup:=by
 unfold bytesOf jr
 refine List.Nodup.sublist List.filter_sublist ?_
 rw [List.nodup_iff_pairwise_ne,List.pairwise_map]
 refine List.Pairwise.imp_of_mem ?_ (List.nodup_iff_pairwise_ne.1 List.nodup_range)
 intro a b ha hb c e
 have h1:=List.mem_range.1 ha
 have h2:=List.mem_range.1 hb
 have :=congrArg UInt8.toNat e
 simp only [UInt8.toNat_ofNat'] at this
 omega
def gP (f:UInt8→Bool):List UInt8:=
 if (bytesOf f).length=256 then [46]
 else if (bytesOf f).length=1∧(bytesOf f).getD 0 0≠46∧(bytesOf f).getD 0 0≠91 then bytesOf f
 else if f 93=true then [91,94]++bytesOf (fun b=> !f b)++ [93]
 else [91]++((bytesOf f).filter (fun b=>decide (b≠94))++(if 94∈bytesOf f then [94] else []))++ [93]
def lB (ps:List (List UInt8)):List UInt8:=if ps= [] then [46] else ps.flatMap fun t=>gP (ee t)
theorem Fg (f:UInt8→Bool):(gP f).length≤300:=by
 have h1:=lV f 256
 have h2:=lV (fun b=> !f b) 256
 unfold gP
 split
 · simp
 · split
   · unfold bytesOf; omega
   · split
     · simp only [List.length_append,List.length_cons,List.length_nil]; unfold bytesOf; omega
     · have h3:=List.length_filter_le (fun b=>decide (b≠94)) (bytesOf f)
       have h4:(if 94∈bytesOf f then [(94:UInt8)] else []).length≤1:=by split <;> simp
       simp only [List.length_append,List.length_cons,List.length_nil]
       have h5:(bytesOf f).length≤256:=h1
       omega
theorem Cx {l:List UInt8} (hn:l.Nodup) {c:UInt8} (h:l.idxOf c < l.length):l.take (l.idxOf c)++l.drop (l.idxOf c+1)=l.filter (fun b=>decide (b≠c)):=by
 induction l with
 | nil=>simp at h
 | cons b l ih=>
   rw [List.nodup_cons] at hn
   by_cases hb:b=c
   · subst hb
     simp only [List.idxOf_cons_self,List.take_zero,List.nil_append,Nat.zero_add,List.drop_succ_cons,List.drop_zero]
     rw [List.filter_cons_of_neg (by simp)]
     exact (List.filter_eq_self.2 fun x hx=>by simp; rintro rfl; exact hn.1 hx).symm
   · have e:(b::l).idxOf c=l.idxOf c+1:=by rw [List.idxOf_cons,show (b==c)=false from by simpa using hb]; rfl
     rw [e] at h ⊢
     simp only [List.length_cons] at h
     rw [List.take_succ_cons,List.drop_succ_cons,List.cons_append,ih hn.2 (by omega),List.filter_cons_of_pos (by simpa using hb)]
theorem uF {l:List UInt8} {c:UInt8} (h:¬c∈l):l.filter (fun b=>decide (b≠c))=l:=
 List.filter_eq_self.2 fun x hx=>by simp; rintro rfl; exact h hx
def gB (ps:List (List UInt8)):List Value:=ps.flatMap fun t=>bU (ee t)
theorem zH (a b:List (List UInt8)):gB (a++b)=gB a++gB b:=by simp [gB]
end Go.Hb
end
section
namespace Go.Hb
abbrev Tx:Type :=List UInt8
structure cX where
 flag:Nat
 kind:Nat
 gC:Bool
 first :Nat
 count:Nat
structure eI where
 kind:Nat
 flag:Nat
 gC:Bool
 strip:Tx
 add:Tx
 cond:Tx
 next :List Nat
 line:Nat
structure aG where
 kind:Nat
 lY:Tx
 tr:Tx
 sp:List Nat
 least:Nat
 bH:List (Tx×Tx)
 aliases:List (List Nat)
 a6:List cX
 rules:List eI
def eU:Tx:= [70,76,65,71]
def eZ:Tx:= [83,69,84]
def e9:Tx:= [84,82,89]
def fp:Tx:= [78,69,69,68,65,70,70,73,88]
def fA:Tx:= [70,79,82,66,73,68,68,69,78,87,79,82,68]
def fL:Tx:= [75,69,69,80,67,65,83,69]
def fT:Tx:= [67,79,77,80,79,85,78,68,70,76,65,71]
def gr:Tx:= [78,79,83,85,71,71,69,83,84]
def gI:Tx:= [67,79,77,80,79,85,78,68,77,73,78]
def e8:Tx:= [82,69,80]
def eT:Tx:= [65,70]
def eV:Tx:= [80,70,88]
def bO:Tx:= [83,70,88]
def pX:Tx:= [115,104,111,114,116]
def pV:Tx:= [108,111,110,103]
def pW:Tx:= [110,117,109]
def dE:List Tx:= [fp,fA,fL,fT,gr]
def width (k:Tx):Nat:=if k∈dE∨k=eU∨k=eZ∨k=e9∨k=gI∨k=e8∨k=eT then 2 else if k=eV∨k=bO then 4 else 0
def eQ (w:Tx):Nat:=if w= []∨dB w=false then 21 else if 32 < w.length then 22 else 0
def dR (none:Bool) (fd:Tx):Except Nat Tx:=
 if none=true∧fd= [48] then .ok []
 else if (aW fd).2.2.2≠0 then .error (aW fd).2.2.2
 else if (aW fd).2.2.1=true then .error 114
 else if eQ (aW fd).1≠0 then .error (eQ (aW fd).1)
 else .ok (aW fd).1
def dy (cs:List cX) (x:Nat):Option cX:=cs.find? fun c=>decide (c.flag=x)
def cQ (f:aG) (x:Nat):Bool:=decide (x∈f.sp) || (dy f.a6 x).isSome
noncomputable def eS (f:aG) (s:Tx):Except Nat Nat:=
 if (eJ f.kind s).2≠0 then .error (eJ f.kind s).2 else if cQ f (eJ f.kind s).1=true then .error 115 else .ok (eJ f.kind s).1
noncomputable def iU (kind:Nat) (s:Tx):Except Nat (List Nat):=if (dt kind s).2≠0 then .error (dt kind s).2 else .ok (dt kind s).1
noncomputable def cH (s:Tx) (most:Int):Except Nat Nat:=if (dv s most).2≠0 then .error 13 else .ok (dv s most).1
noncomputable def eh (kind:Nat) (al:List (List Nat)) (s:Tx):Except Nat (List Nat):=
 if al= [] then iU kind s
 else match cH s al.length with
  | .error _=> .error 13
  | .ok n=>if n=0 then .error 13 else .ok (al.getD (n - 1) [])
noncomputable def iZ (kind:Nat) (al:List (List Nat)) (a:Nat) (r:gY):Except Nat (List Nat):=
 if r.2.2.1=true then (if a=1 then .error 118 else eh kind al r.2.1) else .ok []
def iP (row:List Tx):Except Nat Tx:=
 if row.length=5 then (if dB (row.getD 4 [])=false then .error 21 else if (dC (row.getD 4 [])).2≠0 then .error (dC (row.getD 4 [])).2 else .ok (lB (dC (row.getD 4 [])).1)) else .ok [46]
def iL (r:gY):Except Nat Tx:=if r.2.2.2≠0 then .error r.2.2.2 else if r.1= [48] then .ok [] else if eQ r.1≠0 then .error (eQ r.1) else .ok r.1
noncomputable def gN (kind:Nat) (al:List (List Nat)) (c:cX) (ln:Nat) (row:List Tx):Except Nat eI:=
 if row.length≠4∧row.length≠5 then .error 111
 else match dR true (row.getD 2 []) with
  | .error e=> .error e
  | .ok st=>match iL (aW (row.getD 3 [])) with
    | .error e=> .error e
    | .ok ad=>match iZ kind al c.kind (aW (row.getD 3 [])) with
      | .error e=> .error e
      | .ok nx=>match iP row with
        | .error e=> .error e
        | .ok cd=> .ok ⟨c.kind,c.flag,c.gC,st,ad,cd,nx,ln⟩
def hU (ln:Nat) (row:List Tx):Except Nat (Tx×Tx):=
 if row.length≠3 then .error 111
 else match dR false (row.getD 1 []) with
  | .error e=> .error e
  | .ok a=>match dR true (row.getD 2 []) with
    | .error e=> .error e
    | .ok b=> .ok (a,b)
noncomputable def jq (kind:Nat) (ln:Nat) (row:List Tx):Except Nat (List Nat):=if row.length≠2 then .error 111 else iU kind (row.getD 1 [])
def group {α:Type} (hd:List Tx) (rd:Nat→List Tx→Except Nat α) (eof:Nat):Nat→List Rw→Except (Nat×Nat) (List α×List Rw)
 | 0,rows=> .ok ([],rows)
 | _+1,[]=> .error (eof,116)
 | n+1,(ln,row)::rows=>if row.take hd.length≠hd then .error (ln,116) else match rd ln row with
   | .error e=> .error (ln,e)
   | .ok x=>match group hd rd eof n rows with
     | .error e=> .error e
     | .ok r=> .ok (x::r.1,r.2)
def fU (s:Tx):Nat:=if s=pX then 1 else if s=pV then 2 else if s=pW then 3 else 0
def ordered (hs:List Tx):Bool:= !hs.any fun h=>decide (h∈dE∨h=eT∨h=eV∨h=bO)
noncomputable def eN (eof:Nat) (f:aG) (rows:List Rw) (ln:Nat) (row:List Tx):Except (Nat×Nat) (aG×List Rw):=
 match eS f (row.getD 1 []) with
 | .error e=> .error (ln,e)
 | .ok x=>if row.getD 2 []≠[89]∧row.getD 2 []≠[78] then .error (ln,114)
   else match cH (row.getD 3 []) 1024 with
    | .error e=> .error (ln,e)
    | .ok n=>if 1024 < f.rules.length+n then .error (ln,117)
      else match group [row.getD 0 [],row.getD 1 []] (gN f.kind f.aliases ⟨x,if row.getD 0 []=bO then 2 else 1,decide (row.getD 2 []= [89]),f.rules.length,n⟩) eof n rows with
       | .error e=> .error e
       | .ok r=> .ok ({f with a6:=f.a6++ [⟨x,if row.getD 0 []=bO then 2 else 1,decide (row.getD 2 []= [89]),f.rules.length,n⟩],rules:=f.rules++r.1},r.2)
noncomputable def fZ (f:aG) (rows:List Rw) (ln:Nat) (row:List Tx):Except (Nat×Nat) (aG×List Rw):=
 match eS f (row.getD 1 []) with
 | .error e=> .error (ln,e)
 | .ok x=> .ok ({f with sp:=f.sp.set (dE.idxOf (row.getD 0 [])) x},rows)
def gJ (f:aG) (hs:List Tx) (rows:List Rw) (ln:Nat) (row:List Tx):Except (Nat×Nat) (aG×List Rw):=
 if ordered hs=false then .error (ln,113) else if fU (row.getD 1 [])=0 then .error (ln,114) else .ok ({f with kind:=fU (row.getD 1 [])},rows)
def jH (f:aG) (rows:List Rw) (ln:Nat) (row:List Tx):Except (Nat×Nat) (aG×List Rw):=
 if dB (row.getD 1 [])=false then .error (ln,21) else .ok ({f with lY:=row.getD 1 []},rows)
def jJ (f:aG) (rows:List Rw) (ln:Nat) (row:List Tx):Except (Nat×Nat) (aG×List Rw):=
 if (letE (row.getD 1 [])).2≠0 then .error (ln,(letE (row.getD 1 [])).2) else .ok ({f with tr:=(letE (row.getD 1 [])).1},rows)
noncomputable def gK (f:aG) (rows:List Rw) (ln:Nat) (row:List Tx):Except (Nat×Nat) (aG×List Rw):=
 match cH (row.getD 1 []) 64 with
 | .error e=> .error (ln,e)
 | .ok n=>if n=0 then .error (ln,13) else .ok ({f with least:=n},rows)
noncomputable def gM (eof:Nat) (f:aG) (rows:List Rw) (ln:Nat) (row:List Tx):Except (Nat×Nat) (aG×List Rw):=
 match cH (row.getD 1 []) 256 with
 | .error e=> .error (ln,e)
 | .ok n=>match group [e8] hU eof n rows with
   | .error e=> .error e
   | .ok r=> .ok ({f with bH:=f.bH++r.1},r.2)
noncomputable def gh (eof:Nat) (f:aG) (hs:List Tx) (rows:List Rw) (ln:Nat) (row:List Tx):Except (Nat×Nat) (aG×List Rw):=
 if eV∈hs∨bO∈hs then .error (ln,113)
 else match cH (row.getD 1 []) 1024 with
  | .error e=> .error (ln,e)
  | .ok n=>match group [eT] (jq f.kind) eof n rows with
    | .error e=> .error e
    | .ok r=> .ok ({f with aliases:=f.aliases++r.1},r.2)
noncomputable def bh (eof:Nat) (f:aG) (hs:List Tx) (rows:List Rw) (ln:Nat) (row:List Tx):Except (Nat×Nat) (aG×List Rw):=
 if row.getD 0 []∈dE then fZ f rows ln row
 else if row.getD 0 []=eU then gJ f hs rows ln row
 else if row.getD 0 []=eZ then jH f rows ln row
 else if row.getD 0 []=e9 then jJ f rows ln row
 else if row.getD 0 []=gI then gK f rows ln row
 else if row.getD 0 []=e8 then gM eof f rows ln row
 else if row.getD 0 []=eT then gh eof f hs rows ln row
 else eN eof f rows ln row
noncomputable def fu (eof:Nat):Nat→aG→List Tx→List Rw→Except (Nat×Nat) aG
 | 0,f,_,rows=>if rows= [] then .ok f else .error (0,0)
 | _+1,f,_,[]=> .ok f
 | k+1,f,hs,(ln,row)::rows=>
   if width (row.getD 0 [])=0 then .error (ln,110)
   else if row.length≠width (row.getD 0 []) then .error (ln,111)
   else if width (row.getD 0 [])=2∧row.getD 0 []∈hs then .error (ln,112)
   else match bh eof f hs rows ln row with
    | .error e=> .error e
    | .ok r=>fu eof k r.1 (hs++ [row.getD 0 []]) r.2
def g8 (f:aG) (x:Nat):Bool:=decide (x=f.sp.getD 0 0) || (match dy f.a6 x with | some c=>decide (c.kind=2) | none=>false)
def iM (f:aG) (r:eI):Bool:=r.next.any fun x=> !g8 f x
def dW:aG:=⟨1,[],[],[0,0,0,0,0],3,[],[],[],[]⟩
noncomputable def fR (t:Tx):Except (Nat×Nat) aG:=
 if 65536 < t.length then .error (0,10)
 else match fu ((bC t).length+1) (cI t).length dW [] (cI t) with
  | .error e=> .error e
  | .ok f=>match f.rules.find? (iM f) with
    | some r=> .error (r.line,118)
    | none=> .ok f
theorem pQ {α:Type} {hd:List Tx} {rd:Nat→List Tx→Except Nat α} {eof:Nat} :∀ (n:Nat) (rows:List Rw) (r:List α×List Rw),group hd rd eof n rows= .ok r→r.2.length≤rows.length∧r.1.length=n∧∀ q∈r.2,q∈rows:=by
 intro n
 induction n with
 | zero=>intro rows r h; simp only [group,Except.ok.injEq] at h; subst h; exact ⟨Nat.le_refl _,rfl,fun q a=>a⟩
 | succ n ih=>
   intro rows r h
   cases rows with
   | nil=>simp [group] at h
   | cons q rows=>
     obtain ⟨ln,row⟩:=q
     simp only [group] at h
     split at h
     · cases h
     · cases hr:rd ln row with
       | error e=>rw [hr] at h; cases h
       | ok x=>
         rw [hr] at h
         simp only at h
         cases hg:group hd rd eof n rows with
         | error e=>rw [hg] at h; cases h
         | ok c=>
           rw [hg] at h
           simp only [Except.ok.injEq] at h
           subst h
           have :=ih rows c hg
           refine ⟨by simp only [List.length_cons]; omega,by simp only [List.length_cons]; omega,fun q a=>List.mem_cons_of_mem _ (this.2.2 q a)⟩
def ed {α:Type} (hd:List Tx) (rd:Nat→List Tx→Except Nat α) (eof:Nat) (T:Except (Nat×Nat) (List α×List Rw)) (xs:List α) (n:Nat) (rows:List Rw):Prop :=
 T=match group hd rd eof n rows with
  | .error e=> .error e
  | .ok r=> .ok (xs++r.1,r.2)
theorem ed.start {α:Type} {hd:List Tx} {rd:Nat→List Tx→Except Nat α} {eof n:Nat} {rows:List Rw} :ed hd rd eof (group hd rd eof n rows) [] n rows:=by
 unfold ed; cases group hd rd eof n rows <;> rfl
section
variable {α:Type} {hd:List Tx} {rd:Nat→List Tx→Except Nat α} {eof n:Nat} {T:Except (Nat×Nat) (List α×List Rw)} {xs:List α} {rows:List Rw} {ln:Nat} {row:List Tx}
theorem ed.ends (h:ed hd rd eof T xs n []) (hn:0 < n):T= .error (eof,116):=by
 obtain ⟨m,rfl⟩:∃ m,n=m+1:=⟨n - 1,by omega⟩
 exact h
theorem ed.other (h:ed hd rd eof T xs n ((ln,row)::rows)) (hn:0 < n) (hr:row.take hd.length≠hd):T= .error (ln,116):=by
 obtain ⟨m,rfl⟩:∃ m,n=m+1:=⟨n - 1,by omega⟩
 unfold ed at h; simp only [group] at h; rw [if_pos hr] at h; exact h
theorem ed.bad {e:Nat} (h:ed hd rd eof T xs n ((ln,row)::rows)) (hn:0 < n) (hr:row.take hd.length=hd) (he:rd ln row= .error e):T= .error (ln,e):=by
 obtain ⟨m,rfl⟩:∃ m,n=m+1:=⟨n - 1,by omega⟩
 unfold ed at h; simp only [group] at h; rw [if_neg (fun h2=>h2 hr),he] at h; exact h
theorem ed.step {x:α} (h:ed hd rd eof T xs n ((ln,row)::rows)) (hn:0 < n) (hr:row.take hd.length=hd) (he:rd ln row= .ok x):ed hd rd eof T (xs++ [x]) (n - 1) rows:=by
 obtain ⟨m,rfl⟩:∃ m,n=m+1:=⟨n - 1,by omega⟩
 unfold ed at h ⊢; simp only [group] at h; rw [if_neg (fun h2=>h2 hr),he] at h
 simp only [Nat.add_sub_cancel] at h ⊢
 rw [h]
 cases group hd rd eof m rows with
 | error e=>rfl
 | ok r=>simp only [List.append_assoc]; rfl
theorem ed.done (h:ed hd rd eof T xs 0 rows):T= .ok (xs,rows):=by
 unfold ed at h; simpa [group] using h
end
end Go.Hb
end
