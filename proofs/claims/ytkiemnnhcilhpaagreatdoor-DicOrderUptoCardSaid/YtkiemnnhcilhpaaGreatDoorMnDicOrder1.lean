/-
  Walks and plain laws that the law rests on, laid together. No conditions but those that each theorem names.
-/
import Derived.WalkKit
import Derived.OrdersHeld
import Derived.TacticsIn
import Derived.Lib.Strings
import Derived.Lib.UnsafeStr
import Derived.Laws.MakeOwn
import Derived.Laws.StructEq
import Derived.SliceStrings
import Derived.Carry
import Derived.JoinedCond
import Derived.ProofKit
import Derived.OpenShut
import Derived.Test.YtkiemnnhcilhpaaGreatDoorRows
import Derived.Sort.AssemblyPlain
import Derived.RangeFuncFrom
import Derived.RangeFuncLeaves
import Derived.Recover
import Derived.Laws.OwnMore
import Derived.Lib.Bytealg
import Derived.Lib.SliceRun
import Derived.Test.YtkiemnnhcilhpaaGreatDoorChecked
set_option linter.unusedVariables false
section
namespace Go.Hb
theorem aa {p:Prop} (h:p:=by omega):p:=h
theorem ab {p:Prop} (h:p:=by kernel_rfl):p:=h
theorem ao {p:Prop} (h:p:=by decide):p:=h
theorem U {α:Sort _} {a:α} :a=a:=rfl
end Go.Hb
end
section
namespace Go.Hb
open Go.RowKit
structure Fm where
 n:Nat
 D:List Deferred
 F:List Nat
 r:Option Nat
def cw (σ:Nat→Value) (d:Nat) (v:Value):Nat→Value:=fun i=>cond (Nat.beq i d) v (σ i)
def eb (σ:Nat→Value):Option Nat→Value→Nat→Value
 | some d,v=>cw σ d v
 | none,_=>σ
def act (N:Fm) (σ:Nat→Value):Act:=⟨((List.range N.n).map σ).toArray,N.D⟩
def ev (N:Fm) (σ:Nat→Value):Operand→Value
 | .tmp t=>cond (Nat.blt t N.n) (σ t) undef
 | .const v=>v
 | .global g=> .pointer (some ⟨g,0,none⟩)
 | .func f=> .func (.func f) #[] #[]
theorem j0 (N:Fm) (σ:Nat→Value) (t:Nat):(act N σ).tmps[t]? =if t < N.n then some (σ t) else none:=by
 simp only [act,List.getElem?_toArray,List.getElem?_map]
 split
 · rename_i h; rw [List.getElem?_range h]; rfl
 · rename_i h; rw [List.getElem?_eq_none (by simpa using h)]; rfl
theorem eL (N:Fm) (σ:Nat→Value):(act N σ).eval=ev N σ:=by
 funext x
 cases x with
 | tmp t=>
   simp only [Act.eval,ev,Array.getD_eq_getD_getElem?,j0]
   by_cases h:t < N.n
   · rw [if_pos h,show Nat.blt t N.n=true from by simpa using h]; rfl
   · rw [if_neg h,show Nat.blt t N.n=false from by cases hx:Nat.blt t N.n <;> simp_all [Nat.blt,Nat.ble_eq] <;> omega]; rfl
 | _=>rfl
theorem nS {a b:Act} (hd:a.defers=b.defers) (c:∀ i:Nat,a.tmps[i]? =b.tmps[i]?):a=b:=by
 cases a; cases b
 simp only at hd c
 subst hd
 congr 1
 exact Array.ext_getElem? c
theorem gv (N:Fm) (σ:Nat→Value) (dst:Option Nat) (v:Value):(act N σ).put dst v=act N (eb σ dst v):=by
 cases dst with
 | none=>rfl
 | some d=>
   refine nS U fun i=> ?_
   have j:((act N σ).put (some d) v).tmps=(act N σ).tmps.setIfInBounds d v:=rfl
   rw [j,Array.getElem?_setIfInBounds,j0,j0]
   have hs:(act N σ).tmps.size=N.n:=by simp [act]
   simp only [eb,cw]
   by_cases c:i=d
   · subst c
     rw [hs]
     have a:Nat.beq i i=true :=by simp
     by_cases h:i < N.n
     · rw [if_pos rfl,if_pos h,if_pos h,a]; rfl
     · rw [if_pos rfl,if_neg h,if_neg h]
   · rw [if_neg (fun e=>c e.symm)]
     have a:Nat.beq i d=false :=by
      cases hx:Nat.beq i d
      · rfl
      · exact absurd (Nat.eq_of_beq_eq_true hx) c
     rw [a]; rfl
theorem ko {σ:Nat→Value} {i:Nat} {v:Value} (h:σ i=v):cw σ i v=σ:=by
 funext j
 unfold cw
 cases hx:Nat.beq j i
 · rfl
 · have :=Nat.eq_of_beq_eq_true hx; subst this; exact h.symm
def lift (N:Fm) (Q:Exit→(Nat→Value)→World→Prop):Exit→Act→World→Prop
 | .panic c,a,w=> ∃ σ,a=act N σ∧∀ j,(∀ i∈N.F,j i=σ i)→Q (.panic c) j w
 | .outgrown,_,_=>False
 | e,a,w=> ∃ σ,a=act N σ∧Q e σ w
def fe:Option Nat→Fence
 | none=>Fence.wide
 | some l=>Fence.wide.inRound l
theorem qB (r:Option Nat):(fe r).round=r:=by cases r <;> rfl
theorem oC (r:Option Nat) (f:FuncId):(fe r).fn f:=by cases r <;> trivial
theorem mV (r:Option Nat):(fe r).depth=none:=by cases r <;> rfl
theorem uC {r:Option Nat} {n:Nat} {P:Program} {f:FuncId} {args:Array Value} {w:World} {R:Ending→World→Prop} (h:Calls P f args w R):CallsIn (fe r) n P f args w R:=by
 cases r
 · exact callsIn_wide.2 h
 · exact (callsIn_wide (n:=n)).2 h
theorem uD {r:Option Nat} {n:Nat} {P:Program} {row:String} {args:Array Value} {w:World} {R:Value→World→Prop} (h:Rows P row args w R):RowsIn (fe r) n P row args w R:=fun c cs _=>by
 obtain ⟨v,w',a,hs⟩:=h c cs
 refine ⟨v,w',a,?_⟩
 cases r
 · exact stepsIn_wide.2 hs
 · exact stepsIn_wide.2 hs
def vX (ops:List Oper):Bool:=ops.all fun o=>match o.op with | .defer _=>false | _=>true
def l6 (r:Option Nat) (ops:List Oper):Bool:=match r with | none=>true | some _=>vX ops
theorem Ff {l:List Oper} (h:vX l=true):∀ o∈l,∀ c,o.op≠.defer c:=fun o a c e=>by
 have :=List.all_eq_true.1 h o a
 rw [e] at this
 cases this
theorem qX {r:Option Nat} {P:Program} {ops:Array Oper} {Q:Exit→Act→World→Prop} (p:¬LetsOut Q) (q:l6 r ops.toList=true):∀ (l:List Nat) (a:Act) (w:World),wpOps P ops Q l a w→wpOpsIn (fe r) 0 P ops Q l a w:=by
 intro l
 induction l with
 | nil=>exact fun _ _ h=>h
 | cons i l j=>
   intro a w h
   simp only [wpOps] at h
   simp only [wpOpsIn]
   cases ho:ops[i]? with
   | none=>simp only [ho] at h ⊢; exact j a w h
   | some o=>
     simp only [ho] at h ⊢
     by_cases hw:Region.wanted o (yielded ops a.tmps)=true
     · rw [if_pos hw] at h ⊢
       rcases h with h | h
       · refine ⟨fun f _=>oC r f,?_⟩
         rw [qB]
         have s:o.semAt r a.eval=execOp a.eval o:=by
          cases r with
          | none=>rfl
          | some k=>exact Oper.semAt_eq _ _ _ (Ff q o (Array.mem_toList_iff.2 (Array.mem_of_getElem? ho)))
         rw [s]
         unfold Oper.wp at h
         generalize (execOp a.eval o).run P w=x at h
         cases x with
         | ok n w'=>
           cases n <;> simp only [Oper.upon,Oper.uponIn] at h ⊢ <;>
            first
             | exact j _ _ h
             | (refine ⟨fun c=>(by rw [mV] at c; cases c),CallsIn.mono (uC h) fun e w'' he=> ?_⟩
                cases e <;> first | exact j _ _ he | exact he)
             | exact ⟨fun c=>(by rw [mV] at c; cases c),RowsIn.mono (uD h) fun v w'' he=>j _ _ he⟩
         | halt x w'=>cases x <;> simp only [Oper.upon,Oper.uponIn] at h ⊢ <;> exact h
       · exact absurd h.2 p
     · rw [if_neg hw] at h ⊢
       exact ⟨fun f _=>oC r f,j _ _ h⟩
def ca (P:Program) (N:Fm) (c:Code) (Q:Exit→(Nat→Value)→World→Prop) (σ:Nat→Value) (w:World):Prop :=
 c.wpIn (fe N.r) 0 P (lift N Q) (act N σ) w
def cW (P:Program) (N:Fm) (ops:Array Oper) (Q:Exit→(Nat→Value)→World→Prop) (l:List Oper) (σ:Nat→Value) (w:World):Prop :=
 wpList P ops (lift N Q) l (act N σ) w
def iV (K:(Nat→Value)→World→Prop) (Q:Exit→(Nat→Value)→World→Prop):Exit→(Nat→Value)→World→Prop
 | .normal,σ,w=>K σ w
 | e,σ,w=>Q e σ w
def kH (id:Nat) (Q:Exit→(Nat→Value)→World→Prop):Exit→(Nat→Value)→World→Prop
 | .exit a,σ,w=>if a=id then Q .normal σ w else Q (.exit a) σ w
 | e,σ,w=>Q e σ w
section
variable {P:Program} {N:Fm} {Q:Exit→(Nat→Value)→World→Prop} {σ:Nat→Value} {w:World} {K:(Nat→Value)→World→Prop}
theorem Ey {Q j:Exit→(Nat→Value)→World→Prop} (h:∀ e σ w,Q e σ w→j e σ w) (e:Exit) (a:Act) (w:World):lift N Q e a w→lift N j e a w:=by
 cases e <;> first | exact fun h=>h.elim | exact fun ⟨σ,c,i⟩=>⟨σ,c,h _ _ _ i⟩ | exact fun ⟨σ,c,i⟩=>⟨σ,c,fun q p=>h _ _ _ (i q p)⟩
theorem Ia {a:Exit→(Nat→Value)→World→Prop} {c:Code} (h:∀ e σ w,Q e σ w→a e σ w) (i:ca P N c Q σ w):ca P N c a σ w:=
 wpIn_mono i (Ey h)
theorem tn (h:K σ w):iV K Q .normal σ w:=h
theorem te (id:Nat) (h:Q (.exit id) σ w):iV K Q (.exit id) σ w:=h
theorem tr (h:Q .ret σ w):iV K Q .ret σ w:=h
theorem bn {id:Nat} (h:Q .normal σ w):kH id Q .normal σ w:=h
theorem be {id:Nat} (h:Q .normal σ w):kH id Q (.exit id) σ w:=by simpa only [kH,if_true] using h
theorem jo {id a:Nat} (c:a≠id) (h:Q (.exit a) σ w):kH id Q (.exit a) σ w:=by simpa only [kH,if_neg c] using h
theorem br {id:Nat} (h:Q .ret σ w):kH id Q .ret σ w:=h
theorem sq {x y:Code} (h:∀ K:(Nat→Value)→World→Prop,(∀ σ w,ca P N y Q σ w→K σ w)→ca P N x (iV K Q) σ w):ca P N (.seq x y) Q σ w:=by
 refine wpIn_seq (wpIn_mono (h (fun σ w=>ca P N y Q σ w) (fun _ _ h=>h)) ?_)
 intro e a w i
 cases e with
 | normal=>obtain ⟨σ,rfl,j⟩:=i; exact j
 | panic c=>exact i
 | outgrown=>exact i
 | _=>obtain ⟨σ,rfl,j⟩:=i; exact ⟨σ,rfl,j⟩
theorem dA {x y:Code} (a:(Nat→Value)→World→Prop) (h:ca P N x (iV a Q) σ w) (hk:∀ σ w,a σ w→ca P N y Q σ w):ca P N (.seq x y) Q σ w:=
 sq fun _ i=>Ia (fun e _ _ c=>by cases e <;> first | exact i _ _ (hk _ _ c) | exact c) h
theorem ct {c:Operand} {x y:Code} (a:ev N σ c= .bool true) (h:ca P N x Q σ w):ca P N (.cond c x y) Q σ w:=
 wpIn_cond_true (by rw [eL]; exact a) h
theorem cf {c:Operand} {x y:Code} (a:ev N σ c= .bool false) (h:ca P N y Q σ w):ca P N (.cond c x y) Q σ w:=
 wpIn_cond_false (by rw [eL]; exact a) h
theorem cb {c:Operand} {x y:Code} {b:Bool} (a:ev N σ c= .bool b) (j:b=true→ca P N x Q σ w) (i:b=false→ca P N y Q σ w):ca P N (.cond c x y) Q σ w:=by
 cases b
 · exact cf a (i U)
 · exact ct a (j U)
theorem cd {c:Operand} {x y:Code} {p:Prop} [Decidable p] (a:ev N σ c= .bool (decide p)) (j:p→ca P N x Q σ w) (i:¬p→ca P N y Q σ w):ca P N (.cond c x y) Q σ w:=
 cb a (fun h=>j (of_decide_eq_true h)) (fun h=>i (of_decide_eq_false h))
theorem aC {id:Nat} {c:Code} (h:ca P N c (kH id Q) σ w):ca P N (.block id c) Q σ w:=by
 refine wpIn_block (wpIn_mono h ?_)
 intro e a w j
 cases e with
 | panic c=>exact j
 | outgrown=>exact j
 | exit p=>
   obtain ⟨σ,rfl,i⟩:=j
   simp only [kH,Exit.inBlock] at i ⊢
   split
   · rename_i e; rw [if_pos e] at i; exact ⟨σ,rfl,i⟩
   · rename_i e; rw [if_neg e] at i; exact ⟨σ,rfl,i⟩
 | _=>obtain ⟨σ,rfl,i⟩:=j; exact ⟨σ,rfl,i⟩
theorem ext {id:Nat} (h:Q (.exit id) σ w):ca P N (.exit id) Q σ w:=wpIn_exit ⟨σ,rfl,h⟩
theorem aH (h:Q .normal σ w):ca P N .skip Q σ w:=wpIn_skip ⟨σ,rfl,h⟩
theorem rt (h:Q .ret σ w):ca P N .ret Q σ w:=wpIn_ret ⟨σ,rfl,h⟩
theorem fx {c:Code} {v:Value} (i:Nat) (h:σ i=v) (a:ca P N c Q (cw σ i v) w):ca P N c Q σ w:=by rw [ko h] at a; exact a
theorem lp {c:Code} (s:Nat→(Nat→Value)→World→Prop) (n:Nat) (O:s n σ w)
 (h:∀ n σ w,s n σ w→ca P N c (iV (fun ae w'=> ∃ m,m < n∧s m ae w') Q) σ w):ca P N (.loop c) Q σ w:=by
 intro b k cs ab C E
 have key:∀ n σ w,s n σ w→
  ∃ e A w',lift N Q e A w'∧ArrivesIn (Machine.fenced P (fe N.r)) P (lone (b.atR (act N σ) (.code c:: .inLoop c::k)) cs w) b k cs e A w':=by
  intro n
  induction n using Nat.strongRecOn with
  | _ n ac=>
    intro σ w V
    obtain ⟨e,G,q,p,i⟩:=h n σ w V b (.inLoop c::k) cs ab C E
    cases e with
    | normal=>
      obtain ⟨a,rfl,m,hm,Y⟩:=p
      obtain ⟨M,I,ad,aa,Z⟩:=ac m hm a q Y
      exact ⟨M,I,ad,aa,.of_steps (StepsIn.trans i (.one (fenced_calm C E U) stepR_inLoop)) Z⟩
    | exit id=>obtain ⟨a,rfl,j⟩:=p; exact ⟨.exit id,act N a,q,⟨a,rfl,j⟩,.pass (x:= .inLoop c) rfl (fun _ _=> .inl (by simp)) i⟩
    | goto l=>obtain ⟨a,rfl,j⟩:=p; exact ⟨.goto l,act N a,q,⟨a,rfl,j⟩,.pass (x:= .inLoop c) rfl (fun _ _=> .inl (by simp)) i⟩
    | ret=>obtain ⟨a,rfl,j⟩:=p; exact ⟨.ret,act N a,q,⟨a,rfl,j⟩,.pass (x:= .inLoop c) rfl (fun _ _=> .inl (by simp)) i⟩
    | panic J=>exact ⟨.panic J,G,q,p,.pass (x:= .inLoop c) rfl (fun _ _=> .inl (by simp)) i⟩
    | outgrown=>exact p.elim
 obtain ⟨e,A,w',j,i⟩:=key _ σ w O
 exact ⟨e,A,w',j,.of_steps (.one (fenced_calm C E U) stepR_loop) i⟩
def bP (P:Program) (N:Fm) (o:Oper) (σ:Nat→Value) (w:World) (K:(Nat→Value)→World→Prop):Prop :=
 Oper.wp P o (act N σ) w (fun a w=> ∃ σ,a=act N σ∧K σ w) (fun _ _ _=>False)
theorem HS {o:Oper} {a:Act} {K j:Act→World→Prop} {Q:Exit→Act→World→Prop} (h:∀ a w,K a w→j a w)
 (r:Result Next) (i:o.upon P a K (fun _ _ _=>False) r):o.upon P a j Q r:=by
 cases r with
 | ok n w'=>
   cases n <;> simp only [Oper.upon] at i ⊢ <;>
    first
     | exact h _ _ i
     | exact Calls.mono i (fun e w'' he=>by
      cases e with
      | returned v=>exact h _ _ he
      | panicked c=>exact he.elim
      | outgrown=>obtain ⟨_,_,p⟩:=he; exact p.elim)
     | exact Rows.mono i (fun _ _ he=>h _ _ he)
 | halt x w'=>cases x <;> simp only [Oper.upon] at i ⊢
theorem mr {K:(Nat→Value)→World→Prop} {c:Act→World→Prop} {Q:Exit→Act→World→Prop} {o:Oper} (h:bP P N o σ w K) (hk:∀ σ w,K σ w→c (act N σ) w):o.wp P (act N σ) w c Q:=by
 unfold bP at h
 unfold Oper.wp at*
 exact HS (fun a w ⟨σ,j,i⟩=>by subst j; exact hk _ _ i) _ h
theorem x6 {K a:(Nat→Value)→World→Prop} {o:Oper} (h:bP P N o σ w K) (hk:∀ σ w,K σ w→a σ w):bP P N o σ w a:=
 mr h (fun σ w c=>⟨σ,rfl,hk σ w c⟩)
variable {ops:Array Oper} {rest:List Oper} {d:Nat} {op:Op} {ty:TypeId} {pos :String} {af:Array Edge} {d':Option Nat} {v:Value} {o:Oper}
theorem pI (a:Region.wanted o (yielded ops (act N σ).tmps)=true) (h:bP P N o σ w (fun σ w=>cW P N ops Q rest σ w)):cW P N ops Q (o::rest) σ w:=by
 unfold cW wpList
 rw [if_pos a]
 exact .inl (mr h (fun _ _ hk=>hk))
theorem jh {K:(Nat→Value)→World→Prop} {w':World} (a:(execOp (ev N σ) o).run P w= .ok (.value v) w') (hk:K (eb σ o.dst v) w'):bP P N o σ w K:=by
 unfold bP Oper.wp
 rw [eL,a]
 exact ⟨_,gv ..,hk⟩
theorem fO (o:Oper) (a:o.guard=none) (y:Nat→Option Bool):Region.wanted o y=true :=by simp [Region.wanted,a]
def jd (ops:Array Oper) (j:Nat):Option Nat:=(ops[j]?).bind (·.dst)
theorem mm {j t:Nat} {want b:Bool} (c:o.guard=some (j,want)) (a:jd ops j=some t) (i:Nat.blt t N.n=true) (p:σ t= .bool b):
 Region.wanted o (yielded ops (act N σ).tmps)=(b==want):=by
 have h1:yielded ops (act N σ).tmps j=some b:=by
  unfold yielded
  unfold jd at a
  rw [a]
  simp only [Option.bind_some,j0]
  rw [if_pos (Nat.lt_of_lt_of_le (Nat.lt_succ_self t) (Nat.le_of_ble_eq_true i)),p]
 simp only [Region.wanted,c,h1]
 cases b <;> cases want <;> rfl
theorem HX {j t:Nat} {want:Bool} (c:o.guard=some (j,want)) (a:jd ops j=some t) (i:Nat.blt t N.n=true) (p:σ t=undef):
 Region.wanted o (yielded ops (act N σ).tmps)=false :=by
 have h1:yielded ops (act N σ).tmps j=none:=by
  unfold yielded
  unfold jd at a
  rw [a]
  simp only [Option.bind_some,j0]
  rw [if_pos (Nat.lt_of_lt_of_le (Nat.lt_succ_self t) (Nat.le_of_ble_eq_true i)),p]; rfl
 simp only [Region.wanted,c,h1]
 rfl
theorem p (h:(execOp (ev N σ) ⟨some d,op,ty,pos,af,none⟩).run P w= .ok (.value v) w) (k:cW P N ops Q rest (cw σ d v) w):
 cW P N ops Q (⟨some d,op,ty,pos,af,none⟩::rest) σ w:=
 pI (fO _ rfl _) (jh h k)
theorem pg {j t:Nat} {want:Bool} (a:jd ops j=some t) (c:Nat.blt t N.n=true) (i:σ t= .bool want)
 (h:(execOp (ev N σ) ⟨some d,op,ty,pos,af,some (j,want)⟩).run P w= .ok (.value v) w) (k:cW P N ops Q rest (cw σ d v) w):
 cW P N ops Q (⟨some d,op,ty,pos,af,some (j,want)⟩::rest) σ w:=
 pI (by rw [mm rfl a c i]; cases want <;> rfl) (jh h k)
theorem sk {j t:Nat} {want b:Bool} (c:jd ops j=some t) (i:Nat.blt t N.n=true) (p:σ t= .bool b) (a:(b==want)=false)
 (k:cW P N ops Q rest (cw σ d undef) w):cW P N ops Q (⟨some d,op,ty,pos,af,some (j,want)⟩::rest) σ w:=by
 unfold cW wpList
 rw [if_neg (by rw [mm rfl c i p,a]; simp),gv]
 exact k
theorem ma {j t:Nat} {want:Bool} (a:jd ops j=some t) (c:Nat.blt t N.n=true) (i:σ t=undef)
 (k:cW P N ops Q rest (cw σ d undef) w):cW P N ops Q (⟨some d,op,ty,pos,af,some (j,want)⟩::rest) σ w:=by
 unfold cW wpList
 rw [if_neg (by rw [HX rfl a c i]; simp),gv]
 exact k
theorem e (h:bP P N ⟨d',op,ty,pos,af,none⟩ σ w (fun σ w=>cW P N ops Q rest σ w)):cW P N ops Q (⟨d',op,ty,pos,af,none⟩::rest) σ w:=
 pI (fO _ rfl _) h
theorem eg {j t:Nat} {want:Bool} (a:jd ops j=some t) (c:Nat.blt t N.n=true) (i:σ t= .bool want)
 (h:bP P N ⟨d',op,ty,pos,af,some (j,want)⟩ σ w (fun σ w=>cW P N ops Q rest σ w)):cW P N ops Q (⟨d',op,ty,pos,af,some (j,want)⟩::rest) σ w:=
 pI (by rw [mm rfl a c i]; cases want <;> rfl) h
theorem nl (h:Q .normal σ w):cW P N ops Q [] σ w:=⟨σ,rfl,h⟩
theorem ra:¬LetsOut (lift N Q):=fun ⟨_,_,h⟩=>h
theorem rg {id:Nat} {l:List Oper} (a:l6 N.r l=true) (h:cW P N l.toArray Q l σ w):ca P N (.region id l.toArray false) Q σ w:=by
 refine wpIn_region (qX ra a _ _ _ ?_)
 have h1:=wpOps_eq_wpList (P:=P) (ops:=l.toArray) (Q:=lift N Q) l 0 (fun j=>by simp)
 rw [List.range_eq_range',List.size_toArray,h1]
 exact h
theorem gs {l:List Oper} {t:Nat} {q:Prop} [Decidable q] (h:σ t= .bool (decide q)) (i:q→cW P N ops Q l (cw σ t (.bool true)) w) (c:¬q→cW P N ops Q l (cw σ t (.bool false)) w):cW P N ops Q l σ w:=by
 by_cases a:q
 · have :=i a; rwa [ko (by rw [h,decide_eq_true a])] at this
 · have :=c a; rwa [ko (by rw [h,decide_eq_false a])] at this
theorem gb {l:List Oper} {t:Nat} {b:Bool} (h:σ t= .bool b) (c:b=true→cW P N ops Q l (cw σ t (.bool true)) w) (a:b=false→cW P N ops Q l (cw σ t (.bool false)) w):cW P N ops Q l σ w:=by
 cases b
 · have :=a rfl; rwa [ko h] at this
 · have :=c rfl; rwa [ko h] at this
def dN (P:Program) (N:Fm) (ops:Array Oper) (Q:Exit→(Nat→Value)→World→Prop) (S:World→Prop) (fuel:Nat) (aR:Array Bool) (σ:Nat→Value) (w:World):Prop :=
 wpAnyH P .any ops (lift N Q) S fuel aR (act N σ) w
variable {S:World→Prop} {fuel:Nat} {aR:Array Bool}
theorem sM {id:Nat} {l:List Oper} (a:l6 N.r l=true) (hm:P.follows .mixedOrders=true) (h:wpAny P .any l.toArray (lift N Q) l.toArray.size (Array.replicate l.toArray.size false) (act N σ) w.drew):ca P N (.region id l.toArray true) Q σ w:=by
 refine wpIn_region_draw fun t=>qX ra a _ _ _ ?_
 simp only [Region.schedule,hm,Bool.true_or,if_true]
 exact wpAny_sound _ t _ _ _ h
theorem bS {id:Nat} {l:List Oper} (S:World→Prop) (a:l6 N.r l=true) (hm:P.follows .mixedOrders=true) (c:S w.drew) (h:dN P N l.toArray Q S l.length (Array.replicate l.length false) σ w.drew):ca P N (.region id l.toArray true) Q σ w:=
 sM a hm (wpAny_of_held _ _ _ _ (by rw [List.size_toArray]; exact h))
def rA (F:List Nat) (d:Option Nat):Bool:=match d with | some d=> !(F.contains d) | none=>true
def gU (F:List Nat) (ops:Array Oper) (aR:Array Bool) (i:Nat):Bool:=
 Region.noSelect ops && Region.free .any ops aR i && (Region.ready .any ops aR).contains i && rA F ((ops[i]?).bind (·.dst))
theorem l0 {d:Option Nat} {v:Value} (hd:rA N.F d=true) (c:List PanicEntry) (a:Act) (w:World):lift N Q (.panic c) (a.put d v) w→lift N Q (.panic c) a w:=by
 rintro ⟨σ,j,h⟩
 cases d with
 | none=>exact ⟨σ,j,h⟩
 | some d=>
   have E:a.tmps.size=N.n:=by
    have :=congrArg (fun x:Act=>x.tmps.size) j
    simpa [Act.put,act] using this
   have q:a.defers=N.D:=congrArg (fun x:Act=>x.defers) j
   have s:∀ i:Nat,i≠d→a.tmps[i]? =if i < N.n then some (σ i) else none:=fun i hi=>by
    have h1:(a.put (some d) v).tmps[i]? =a.tmps[i]? :=by
     show (a.tmps.setIfInBounds d v)[i]? =_
     rw [Array.getElem?_setIfInBounds,if_neg (fun e=>hi e.symm)]
    rw [← h1,j,j0]
   refine ⟨fun i=>if i < N.n then a.tmps.getD i undef else σ i,nS q fun i=> ?_,fun C p=>h C fun i hi=> ?_⟩
   · rw [j0]
     by_cases h1:i < N.n
     · rw [if_pos h1,if_pos h1,Array.getD_eq_getD_getElem?,Array.getElem?_eq_getElem aa]; rfl
     · rw [if_neg h1,Array.getElem?_eq_none aa]
   · have A:i≠d:=by
      rintro rfl
      simp only [rA,Bool.not_eq_true',List.contains_eq_mem,decide_eq_false_iff_not] at hd
      exact hd hi
     rw [p i hi]
     by_cases h1:i < N.n
     · simp only [if_pos h1]
       rw [Array.getD_eq_getD_getElem?,s i A,if_pos h1]; rfl
     · simp only [if_neg h1]
theorem hp (i:Nat) (hi:ops[i]? =some ⟨some d,op,ty,pos,af,none⟩) (j:gU N.F ops aR i=true)
 (q:∀ w,S w→(execOp (ev N σ) ⟨some d,op,ty,pos,af,none⟩).run P w= .ok (.value v) w) (p:S w)
 (k:dN P N ops Q S fuel (aR.setIfInBounds i true) (cw σ d v) w):dN P N ops Q S (fuel+1) aR σ w:=by
 simp only [gU,Bool.and_eq_true] at j
 refine wpAnyH_take hi j.1.1.1 j.1.1.2 j.1.2 (fun c a w=>l0 (by have :=j.2; rwa [hi] at this) c a w) (.inl ⟨fO _ rfl _,fun w p=> ?_⟩) p ?_ (v:=v)
 · rw [eL]; exact q w p
 · rw [gv]; exact k
theorem aW (i:Nat) {j t:Nat} {want:Bool} (hi:ops[i]? =some ⟨some d,op,ty,pos,af,some (j,want)⟩) (p:gU N.F ops aR i=true)
 (s:jd ops j=some t) (A:Nat.blt t N.n=true) (C:σ t= .bool want)
 (E:∀ w,S w→(execOp (ev N σ) ⟨some d,op,ty,pos,af,some (j,want)⟩).run P w= .ok (.value v) w) (q:S w)
 (k:dN P N ops Q S fuel (aR.setIfInBounds i true) (cw σ d v) w):dN P N ops Q S (fuel+1) aR σ w:=by
 simp only [gU,Bool.and_eq_true] at p
 refine wpAnyH_take hi p.1.1.1 p.1.1.2 p.1.2 (fun c a w=>l0 (by have :=p.2; rwa [hi] at this) c a w) (.inl ⟨by rw [mm U s A C]; cases want <;> rfl,fun w q=> ?_⟩) q ?_ (v:=v)
 · rw [eL]; exact E w q
 · rw [gv]; exact k
theorem aX (i:Nat) {j t:Nat} {want b:Bool} (hi:ops[i]? =some ⟨some d,op,ty,pos,af,some (j,want)⟩) (p:gU N.F ops aR i=true)
 (A:jd ops j=some t) (C:Nat.blt t N.n=true) (E:σ t= .bool b) (s:(b==want)=false) (q:S w)
 (k:dN P N ops Q S fuel (aR.setIfInBounds i true) (cw σ d undef) w):dN P N ops Q S (fuel+1) aR σ w:=by
 simp only [gU,Bool.and_eq_true] at p
 refine wpAnyH_take hi p.1.1.1 p.1.1.2 p.1.2 (fun c a w=>l0 (by have :=p.2; rwa [hi] at this) c a w) (.inr ⟨by rw [mm U A C E,s],U⟩) q ?_ (v:=undef)
 rw [gv]; exact k
def iQ (ops:Array Oper) (aR:Array Bool) (i:Nat):Bool:=(Region.ready .any ops aR)== [i]
theorem he (i:Nat) (hi:ops[i]? =some ⟨d',op,ty,pos,af,none⟩) (a:iQ ops aR i=true)
 (h:bP P N ⟨d',op,ty,pos,af,none⟩ σ w (fun σ w=>S w∧dN P N ops Q S fuel (aR.setIfInBounds i true) σ w)):dN P N ops Q S (fuel+1) aR σ w:=by
 refine wpAnyH_all (rs:= [i]) (by simpa [iQ] using a) (by simp) ?_
 intro k hk
 obtain rfl :k=i:=by simpa using hk
 unfold wpOp
 simp only [hi]
 rw [if_pos (fO _ rfl _)]
 exact .inl (mr h (fun _ _ hk=>hk))
theorem gW (i:Nat) {j t:Nat} {want:Bool} (hi:ops[i]? =some ⟨d',op,ty,pos,af,some (j,want)⟩) (c:iQ ops aR i=true)
 (a:jd ops j=some t) (p:Nat.blt t N.n=true) (q:σ t= .bool want)
 (h:bP P N ⟨d',op,ty,pos,af,some (j,want)⟩ σ w (fun σ w=>S w∧dN P N ops Q S fuel (aR.setIfInBounds i true) σ w)):dN P N ops Q S (fuel+1) aR σ w:=by
 refine wpAnyH_all (rs:= [i]) (by simpa [iQ] using c) (by simp) ?_
 intro k hk
 obtain rfl :k=i:=by simpa using hk
 unfold wpOp
 simp only [hi]
 rw [if_pos (by rw [mm rfl a p q]; cases want <;> rfl)]
 exact .inl (mr h (fun _ _ hk=>hk))
theorem hn (a:(Region.ready .any ops aR).isEmpty=true) (h:Q .normal σ w):dN P N ops Q S fuel aR σ w:=
 wpAnyH_done (by simpa using a) ⟨σ,rfl,h⟩ fuel
theorem gI {t:Nat} {q:Prop} [Decidable q] (h:σ t= .bool (decide q)) (i:q→dN P N ops Q S fuel aR (cw σ t (.bool true)) w) (c:¬q→dN P N ops Q S fuel aR (cw σ t (.bool false)) w):dN P N ops Q S fuel aR σ w:=by
 by_cases a:q
 · have :=i a; rwa [ko (by rw [h,decide_eq_true a])] at this
 · have :=c a; rwa [ko (by rw [h,decide_eq_false a])] at this
theorem vq {t:Nat} {b:Bool} (h:σ t= .bool b) (c:b=true→dN P N ops Q S fuel aR (cw σ t (.bool true)) w) (a:b=false→dN P N ops Q S fuel aR (cw σ t (.bool false)) w):dN P N ops Q S fuel aR σ w:=by
 cases b
 · have :=a rfl; rwa [ko h] at this
 · have :=c rfl; rwa [ko h] at this
end
def a3 (P:Program) (f:FuncId) (args:Array Value) (w:World) (R:Value→World→Prop):Prop :=
 Calls P f args w fun e w'=> ∃ v,e= .returned v∧R v w'
theorem a3.mono {P:Program} {f:FuncId} {args:Array Value} {w:World} {R R':Value→World→Prop} (h:a3 P f args w R) (c:∀ v w',R v w'→R' v w'):a3 P f args w R':=
 Calls.mono h fun _ _ ⟨v,he,a⟩=>⟨v,he,c _ _ a⟩
def iz (args:List Value):Nat→Value:=fun i=>args.getD i undef
def fin (P:Program) (fn:Func) (N:Fm) (R:Value→World→Prop):Exit→(Nat→Value)→World→Prop
 | .normal,σ,w=> ∃ v,(results fn (act N σ).tmps).run P w= .ok v w∧R v w
 | .ret,σ,w=> ∃ v,(results fn (act N σ).tmps).run P w= .ok v w∧R v w
 | _,_,_=>False
theorem enter {P:Program} {f:FuncId} {N:Nat} {fn:Func} {c:Code} {args:List Value} {w:World} {R:Value→World→Prop} (G:P.funcs[f]? =some fn) (E:fn.body=some c)
 (A:fn.ntmps=N) (hn:Nat.ble args.length N=true) (h:ca P ⟨N,[],[],none⟩ c (fin P fn ⟨N,[],[],none⟩ R) (iz args) w):a3 P f args.toArray w R:=by
 subst A
 refine calls_of_wp G E ?_
 have C:({tmps:=args.toArray++Array.replicate (fn.ntmps - args.toArray.size) undef,defers:= []} :Act)=act ⟨fn.ntmps,[],[],none⟩ (iz args):=by
  have I:args.length≤fn.ntmps:=by simpa using hn
  refine nS U fun i=> ?_
  rw [j0]
  simp only [iz,List.getD_eq_getElem?_getD,List.size_toArray]
  by_cases h1:i < args.length
  · rw [Array.getElem?_append_left (by simpa using h1),if_pos aa]
    simp [h1]
  · rw [Array.getElem?_append_right (by simpa using h1)]
    simp only [List.size_toArray,Array.getElem?_replicate]
    by_cases h2:i < fn.ntmps
    · rw [if_pos aa,if_pos h2,List.getElem?_eq_none aa]; rfl
    · rw [if_neg aa,if_neg h2]
 rw [C]
 refine Code.wp_mono ?_ (wpIn_wide.1 h)
 intro e a w j
 cases e with
 | normal=>obtain ⟨σ,rfl,v,s,q⟩:=j; exact ⟨rfl,v,s,v,rfl,q⟩
 | ret=>obtain ⟨σ,rfl,v,s,q⟩:=j; exact ⟨rfl,v,s,v,rfl,q⟩
 | exit id=>obtain ⟨σ,rfl,p⟩:=j; exact p.elim
 | goto l=>obtain ⟨σ,rfl,p⟩:=j; exact p.elim
 | panic c=>obtain ⟨σ,rfl,p⟩:=j; exact (p σ fun _ _=>rfl).elim
 | outgrown=>exact j.elim
section
variable {P:Program} {N:Fm} {σ:Nat→Value} {w:World} {fn:Func} {R:Value→World→Prop}
theorem jg (t:Nat):(act N σ).tmps.getD t undef=ev N σ (.tmp t):=by
 rw [← eL]; rfl
theorem f0 (h:fn.results= #[]) (a:R (.tuple #[]) w):fin P fn N R .normal σ w:=⟨_,results_none h _ _ _,a⟩
theorem oA (h:fn.results= #[]) (a:R (.tuple #[]) w):fin P fn N R .ret σ w:=⟨_,results_none h _ _ _,a⟩
theorem f1 {t:Nat} {v:Value} (h:fn.results= #[.tmp t]) (c:ev N σ (.tmp t)=v) (a:R v w):fin P fn N R .ret σ w:=
 ⟨v,by rw [results_tmp h,jg,c],a⟩
theorem f2 {t u:Nat} {v a:Value} (h:fn.results= #[.tmp t,.tmp u]) (i:ev N σ (.tmp t)=v) (hu:ev N σ (.tmp u)=a) (c:R (.tuple #[v,a]) w):fin P fn N R .ret σ w:=
 ⟨_,by rw [results_tmp2 h,jg,jg,i,hu],c⟩
theorem f3 {t u s:Nat} {v a c:Value} (h:fn.results= #[.tmp t,.tmp u,.tmp s]) (j:ev N σ (.tmp t)=v) (hu:ev N σ (.tmp u)=a) (hs:ev N σ (.tmp s)=c) (i:R (.tuple #[v,a,c]) w):fin P fn N R .ret σ w:=by
 refine ⟨_,?_,i⟩
 simp only [results,h]
 subst j hu hs
 simp only [← jg]
 simp [List.mapM_toArray]
theorem f4 {t u s r:Nat} {v a c i:Value} (h:fn.results= #[.tmp t,.tmp u,.tmp s,.tmp r]) (q:ev N σ (.tmp t)=v) (hu:ev N σ (.tmp u)=a) (hs:ev N σ (.tmp s)=c) (p:ev N σ (.tmp r)=i) (j:R (.tuple #[v,a,c,i]) w):fin P fn N R .ret σ w:=by
 refine ⟨_,?_,j⟩
 simp only [results,h]
 subst q hu hs p
 simp only [← jg]
 simp [List.mapM_toArray]
end
attribute [irreducible] cW ca dN bP
end Go.Hb
namespace Go.Hb
open Go.RowKit
def aG (h:Array Obj) (b off :Nat):Option Value:=
 match h[b]? with
 | some (.cells c _ _)=>c[off]?
 | _=>none
theorem iZ (w:World) (b off :Nat):w.cell? ⟨b,off,none⟩=aG w.heap b off :=by
 unfold World.cell? aG
 simp only
 split <;> simp_all
theorem a4 {h:Array Obj} {b off :Nat} {c:Array Value} {t:TypeId} {f:Nat×Nat} (a:h[b]? =some (.cells c t f)):aG h b off =c[off]? :=by
 simp only [aG,a]
theorem Aq {h:Array Obj} {b off :Nat} {v:Value} (a:aG h b off =some v):b < h.size:=by
 unfold aG at a
 rcases Nat.lt_or_ge b h.size with i | c
 · exact i
 · simp [Array.getElem?_eq_none c] at a
structure Md (F:Nat→Prop) (w w':World):Prop where
 os:w'.os=w.os
 output:w'.output=w.output
 size:w.heap.size≤w'.heap.size
 fE:∀ k,k < w.heap.size→¬F k→w'.heap[k]? =w.heap[k]?
abbrev Wk (w w':World):Prop :=Md (fun _=>False) w w'
theorem Md.refl (F:Nat→Prop) (w:World):Md F w w:=⟨rfl,rfl,Nat.le_refl _,fun _ _ _=>rfl⟩
theorem Md.drew {F:Nat→Prop} {w w':World} (h:Md F w w'):Md F w w'.drew:=⟨h.os,h.output,h.size,h.fE⟩
theorem Md.mono {F G:Nat→Prop} {w w':World} (h:Md F w w') (c:∀ k,k < w.heap.size→F k→G k):Md G w w':=
 ⟨h.os,h.output,h.size,fun k hk i=>h.fE k hk (fun a=>i (c k hk a))⟩
theorem Md.trans {F:Nat→Prop} {a b c:World} (h:Md F a b) (i:Md F b c):Md F a c:=
 ⟨i.os.trans h.os,i.output.trans h.output,Nat.le_trans h.size i.size,fun k hk j=>(i.fE k (Nat.lt_of_lt_of_le hk h.size) j).trans (h.fE k hk j)⟩
theorem Md.trans' {F G:Nat→Prop} {a b c:World} (h:Md F a b) (i:Md G b c) (p:∀ k,k < a.heap.size→G k→F k):Md F a c:=
 ⟨i.os.trans h.os,i.output.trans h.output,Nat.le_trans h.size i.size,
  fun k hk j=>(i.fE k (Nat.lt_of_lt_of_le hk h.size) (fun x=>j (p k hk x))).trans (h.fE k hk j)⟩
theorem Md.aC {F:Nat→Prop} {w w':World} (h:Md F w w') {k:Nat} {o:Obj} (hk:w.heap[k]? =some o) (a:¬F k):w'.heap[k]? =some o:=
 (h.fE k (Array.getElem?_eq_some_iff.1 hk).1 a).trans hk
theorem Md.aG {F:Nat→Prop} {w w':World} (h:Md F w w') {b off :Nat} {v:Value} (a:Hb.aG w.heap b off =some v) (c:¬F b):Hb.aG w'.heap b off =some v:=by
 have :=h.fE b (Aq a) c
 unfold Hb.aG at*
 rw [this]; exact a
theorem Wk.aG {w w':World} (h:Wk w w') {b off :Nat} {v:Value} (a:Hb.aG w.heap b off =some v):Hb.aG w'.heap b off =some v:=Md.aG h a id
theorem Wk.aC {w w':World} (h:Wk w w') {k:Nat} {o:Obj} (hk:w.heap[k]? =some o):w'.heap[k]? =some o:=Md.aC h hk id
structure Nw (w w':World):Prop where
 md:Wk w w'
 size:w'.heap.size=w.heap.size+1
theorem wj (w:World) (o:Obj):Nw w {w with heap:=w.heap.push o} :=
 ⟨⟨rfl,rfl,by simp,fun k hk _=>by show (w.heap.push o)[k]? =_; rw [Array.getElem?_push,if_neg aa]⟩,by simp⟩
def cj (P:Program) (t:TypeId):Option (Option Nat):=
 match P.underlying t with
 | some (.struct _) | some (.array _ _)=>((P.info? t).map (·.size)).map some
 | some _=>some none
 | none=>none
def cz (P:Program) (s f:Nat):Option Nat:=
 match P.underlying s with
 | some (.struct a)=>match a[f]? with
   | some fd=>match P.info? fd.type with
     | some i=>if i.size=0 then none else some fd.offset
     | none=>none
   | none=>none
 | _=>none
def eH (P:Program) (t:TypeId):Option Nat:=
 match P.underlying t with
 | some (.slice e)=>(P.info? e).map (·.size)
 | _=>none
section
variable {P:Program} {N:Fm} {σ:Nat→Value} {w:World} {dst:Option Nat} {ty:TypeId} {pos :String} {af:Array Edge} {g:Option (Nat×Bool)} {x y z:Operand}
theorem cG {t:TypeId} {d:TypeDesc} (h:P.underlying t=some d) (w:World):(underlying t).run P w= .ok d w:=by
 simp [underlying,h]
theorem eK {t:TypeId} {i:TypeInfo} (h:P.info? t=some i) (w:World):(typeInfo t).run P w= .ok i w:=by
 simp [typeInfo,h]
theorem mv:(execOp (ev N σ) ⟨dst,.move x,ty,pos,af,g⟩).run P w= .ok (.value (ev N σ x)) w:=rfl
theorem aA:(execOp (ev N σ) ⟨dst,.assign x,ty,pos,af,g⟩).run P w= .ok (.value (ev N σ x)) w:=rfl
theorem aB (v:Value) (h:ev N σ x=v):(execOp (ev N σ) ⟨dst,.move x,ty,pos,af,g⟩).run P w= .ok (.value v) w:=by rw [← h]; rfl
theorem bG (v:Value) (h:ev N σ x=v):(execOp (ev N σ) ⟨dst,.assign x,ty,pos,af,g⟩).run P w= .ok (.value v) w:=by rw [← h]; rfl
theorem bE {c:Operand} (a:ev N σ c= .bool true):(execOp (ev N σ) ⟨dst,.pick c x y,ty,pos,af,g⟩).run P w= .ok (.value (ev N σ x)) w:=by
 simp [execOp,a,asBool]
theorem bj {c:Operand} (a:ev N σ c= .bool false):(execOp (ev N σ) ⟨dst,.pick c x y,ty,pos,af,g⟩).run P w= .ok (.value (ev N σ y)) w:=by
 simp [execOp,a,asBool]
theorem nc {a:Addr} (c:ev N σ x= .pointer (some a)):(execOp (ev N σ) ⟨dst,.nilCheck x,ty,pos,af,g⟩).run P w= .ok (.value (.pointer (some a))) w:=by
 simp [execOp,c]
theorem xt {i:Nat} {vs:Array Value} {v:Value} (c:ev N σ x= .tuple vs) (a:vs[i]? =some v):(execOp (ev N σ) ⟨dst,.extract x i,ty,pos,af,g⟩).run P w= .ok (.value v) w:=by
 simp [execOp,c,Instr.extract,a]
theorem fa {s f n b off :Nat} (a:cz P s f=some n) (p:ev N σ x= .pointer (some ⟨b,off,none⟩)):
 (execOp (ev N σ) ⟨dst,.fieldAddr s x f,ty,pos,af,g⟩).run P w= .ok (.value (.pointer (some ⟨b,off+n,none⟩))) w:=by
 unfold cz at a
 split at a
 · rename_i A hu
   split at a
   · rename_i fd j
     split at a
     · rename_i i hi
       split at a
       · cases a
       · rename_i q
         cases a
         have c:(⟨b,off,none⟩:Addr).add fd.offset=⟨b,off+fd.offset,none⟩:=by unfold Addr.add; split <;> simp_all
         simp [execOp,Instr.fieldAt,cG hu,j,p,Instr.sureAddr,fieldPlace,sizeOf,eK hi,q,c]
     · cases a
   · cases a
 · cases a
theorem ld {t b off :Nat} {v:Value} (hu:cj P t=some none) (i:ev N σ x= .pointer (some ⟨b,off,none⟩)) (a:aG w.heap b off =some v):
 (execOp (ev N σ) ⟨dst,.load t x,ty,pos,af,g⟩).run P w= .ok (.value v) w:=by
 have c:w.cell? ⟨b,off,none⟩=some v:=by rw [iZ]; exact a
 unfold cj at hu
 cases hd:P.underlying t with
 | none=>rw [hd] at hu; cases hu
 | some d=>
   rw [hd] at hu
   cases d <;> first
    | (simp only [Option.map_eq_some_iff] at hu; obtain ⟨_,_,h⟩:=hu; cases h; done)
    | simp [execOp,Instr.loadAt,i,Instr.sureAddr,loadVar,isAgg,cG hd,run_load,c]
theorem hZ (b off j:Nat):(⟨b,off,none⟩:Addr).add j=⟨b,off+j,none⟩:=by
 unfold Addr.add; split <;> simp_all
theorem cC {t n b off :Nat} {cs:List Value} (hu:cj P t=some (some n)) (s:ev N σ x= .pointer (some ⟨b,off,none⟩)) (q:cs.length=n)
 (c:∀ j,j < n→aG w.heap b (off+j)=cs[j]?):
 (execOp (ev N σ) ⟨dst,.load t x,ty,pos,af,g⟩).run P w= .ok (.value (.agg cs.toArray)) w:=by
 have p:(loadCells ⟨b,off,none⟩ n).run P w= .ok cs.toArray w:=by
  subst q
  refine run_loadCells_list (P:=P) w ⟨b,off,none⟩ cs fun j v a=> ?_
  rw [hZ,iZ]
  exact (c j (List.getElem?_eq_some_iff.1 a).1).trans a
 unfold cj at hu
 cases hd:P.underlying t with
 | none=>rw [hd] at hu; cases hu
 | some d=>
   rw [hd] at hu
   cases hi:P.info? t with
   | none=>simp [Program.underlying,hi] at hd
   | some i=>
     rw [hi] at hu
     cases d <;> first
      | (cases hu; done)
      | (simp only [Option.map_some,Option.some.injEq] at hu; subst hu
         simp [execOp,Instr.loadAt,s,Instr.sureAddr,loadVar,isAgg,cG hd,sizeOf,eK hi,p])
theorem ia {t n b off len cap:Nat} {k:IntKind} {i:Int} (he:eH P t=some n) (c:ev N σ x= .slice (some ⟨b,off,none⟩) len cap) (p:ev N σ y= .int k i) (a:0≤i∧i < len):
 (execOp (ev N σ) ⟨dst,.indexAddr t x y,ty,pos,af,g⟩).run P w= .ok (.value (.pointer (some ⟨b,off+i.toNat*n,none⟩))) w:=by
 unfold eH at he
 cases hd:P.underlying t with
 | none=>rw [hd] at he; cases he
 | some d=>
   rw [hd] at he
   cases d <;> first | (cases he; done) | skip
   rename_i e
   cases hi:P.info? e with
   | none=>simp [hi] at he
   | some j=>
     simp only [hi,Option.map_some,Option.some.injEq] at he
     subst he
     simp [execOp,Instr.indexAt,c,p,asIntOf,cG hd,a.1,a.2,sizeOf,eK hi,hZ]
def dz (a:Option Addr) (cap l n:Nat):Option Addr:=if cap=l then a else a.map (·.add (l*n))
theorem rU {t n len cap:Nat} {a:Option Addr} {lo hi:Option Value} {l h:Nat} (he:eH P t=some n) (q:ev N σ x= .slice a len cap)
 (p:(Instr.sliceBounds true len cap lo hi none).run P w= .ok (l,h,cap) w) (c i:Option Operand) (s:c.map (ev N σ)=lo) (A:i.map (ev N σ)=hi):
 (execOp (ev N σ) ⟨dst,.slice t x c i none,ty,pos,af,g⟩).run P w= .ok (.value (.slice (dz a cap l n) (h - l) (cap - l))) w:=by
 unfold eH at he
 cases hd:P.underlying t with
 | none=>rw [hd] at he; cases he
 | some d=>
   rw [hd] at he
   cases d <;> first | (cases he; done) | skip
   rename_i e
   cases hi':P.info? e with
   | none=>simp [hi'] at he
   | some j=>
     simp only [hi',Option.map_some,Option.some.injEq] at he
     subst he
     simp [execOp,Instr.sliceAt,Instr.slice,q,s,A,cG hd,p,sizeOf,eK hi',dz]
theorem nr {t n len cap:Nat} {a:Option Addr} {k:IntKind} {i:Int} (he:eH P t=some n) (j:ev N σ x= .slice a len cap) (p:ev N σ z= .int k i) (c:0≤i∧i≤cap):
 (execOp (ev N σ) ⟨dst,.slice t x none (some z) none,ty,pos,af,g⟩).run P w= .ok (.value (.slice a i.toNat cap)) w:=by
 have :=rU (dst:=dst) (ty:=ty) (pos :=pos) (af:=af) (g:=g) (w:=w) (lo:=none) (hi:=some (.int k i)) (l:=0) (h:=i.toNat) he j
  (by simp [Instr.sliceBounds,Instr.sliceBound,asIntOf,c.1,c.2]) none (some z) rfl (by simp [p])
 rw [this]
 have hs:dz a cap 0 n=a:=by
  unfold dz; split
  · rfl
  · cases a <;> simp [Addr.add]
 rw [hs]; rfl
theorem me {t n len cap:Nat} {a:Option Addr} {k:IntKind} {i:Int} (he:eH P t=some n) (j:ev N σ x= .slice a len cap) (p:ev N σ y= .int k i) (c:0≤i∧i≤len):
 (execOp (ev N σ) ⟨dst,.slice t x (some y) none none,ty,pos,af,g⟩).run P w= .ok (.value (.slice (dz a cap i.toNat n) (len - i.toNat) (cap - i.toNat))) w:=
 rU (lo:=some (.int k i)) (hi:=none) he j
  (by simp [Instr.sliceBounds,Instr.sliceBound,asIntOf,c.1,c.2]) (some y) none (by simp [p]) rfl
theorem G2 {t n len cap:Nat} {a:Option Addr} {k p:IntKind} {i j:Int} (he:eH P t=some n) (q:ev N σ x= .slice a len cap) (s:ev N σ y= .int k i) (A:ev N σ z= .int p j) (c:0≤i∧i≤j∧j≤cap):
 (execOp (ev N σ) ⟨dst,.slice t x (some y) (some z) none,ty,pos,af,g⟩).run P w= .ok (.value (.slice (dz a cap i.toNat n) (j.toNat - i.toNat) (cap - i.toNat))) w:=by
 have h1:0≤j:=aa
 have h2:i≤(j.toNat:Int):=aa
 refine rU (lo:=some (.int k i)) (hi:=some (.int p j)) he q ?_ (some y) (some z) (by simp [s]) (by simp [A])
 simp only [Instr.sliceBounds,Instr.sliceBound,asIntOf,Sem.run_bind,Sem.run_pure,Result.andThen_ok,Sem.run_ite,c.1,h1,c.2.2,h2,and_self,if_true]
theorem bu {n:Int} (h: -9223372036854775808≤n∧n≤9223372036854775807):IntKind.i64.wrap n=n:=IntWalk.i64_in n h
theorem sc {n:Int} (h:0≤n∧n≤255):IntKind.u8.wrap n=n:=IntWalk.u8_in n h
theorem jT {n:Int} (h:0≤n∧n≤18446744073709551615):IntKind.u64.wrap n=n:=IntWalk.u64_in n h
theorem iv {k:IntKind} {a b:Int} (h:a=b):Value.int k a=Value.int k b:=by rw [h]
theorem ad {t p:TypeId} {k:IntKind} {a b:Int} (i:ev N σ x= .int k a) (j:ev N σ y= .int k b) (c:k.wrap (a+b)=a+b):
 (execOp (ev N σ) ⟨dst,.binOp .add t x y p,ty,pos,af,g⟩).run P w= .ok (.value (.int k (a+b))) w:=by
 simp [execOp,i,j,eqGuard,binOp,Op.intArith,c]
theorem bm {t p:TypeId} {k:IntKind} {a b:Int} (v:Int) (i:ev N σ x= .int k a) (j:ev N σ y= .int k b) (c:k.wrap (a+b)=v):
 (execOp (ev N σ) ⟨dst,.binOp .add t x y p,ty,pos,af,g⟩).run P w= .ok (.value (.int k v)) w:=by
 subst c; simp [execOp,i,j,eqGuard,binOp,Op.intArith]
theorem bZ {t p:TypeId} {k:IntKind} {a b:Int} (v:Int) (i:ev N σ x= .int k a) (j:ev N σ y= .int k b) (c:k.wrap (a - b)=v):
 (execOp (ev N σ) ⟨dst,.binOp .sub t x y p,ty,pos,af,g⟩).run P w= .ok (.value (.int k v)) w:=by
 subst c; simp [execOp,i,j,eqGuard,binOp,Op.intArith]
theorem ll {t p:TypeId} {k:IntKind} {a b:Int} (v:Int) (i:ev N σ x= .int k a) (j:ev N σ y= .int k b) (c:k.wrap (a*b)=v):
 (execOp (ev N σ) ⟨dst,.binOp .mul t x y p,ty,pos,af,g⟩).run P w= .ok (.value (.int k v)) w:=by
 subst c; simp [execOp,i,j,eqGuard,binOp,Op.intArith]
theorem aU {a:Int} {n:Nat} (h:a=n) (hn:n≤9223372036854775807):IntKind.i64.wrap a=(n:Int):=by rw [h]; exact bu aa
theorem bv {p q:Prop} [Decidable p] [Decidable q] (h:p↔q):Value.bool (decide p)=Value.bool (decide q):=by rw [decide_eq_decide.2 h]
theorem sb {t p:TypeId} {k:IntKind} {a b:Int} (i:ev N σ x= .int k a) (j:ev N σ y= .int k b) (c:k.wrap (a - b)=a - b):
 (execOp (ev N σ) ⟨dst,.binOp .sub t x y p,ty,pos,af,g⟩).run P w= .ok (.value (.int k (a - b))) w:=by
 simp [execOp,i,j,eqGuard,binOp,Op.intArith,c]
theorem kj {t q:TypeId} {k:IntKind} {a b:Int} (v:Int) (j:ev N σ x= .int k a) (p:ev N σ y= .int k b) (c:0≤a∧0 < b) (i:k.wrap (a / b)=v):
 (execOp (ev N σ) ⟨dst,.binOp .quo t x y q,ty,pos,af,g⟩).run P w= .ok (.value (.int k v)) w:=by
 have :a.tdiv b=a / b:=Int.tdiv_eq_ediv_of_nonneg c.1
 subst i; simp [execOp,j,p,eqGuard,binOp,Op.intDiv,show b≠0 from by omega,this]
theorem rm {t p:TypeId} {k:IntKind} {a b:Int} (i:ev N σ x= .int k a) (j:ev N σ y= .int k b) (c:0≤a∧0 < b):
 (execOp (ev N σ) ⟨dst,.binOp .rem t x y p,ty,pos,af,g⟩).run P w= .ok (.value (.int k (a % b))) w:=by
 have :a.tmod b=a % b:=Int.tmod_eq_emod_of_nonneg c.1
 simp [execOp,i,j,eqGuard,binOp,Op.intDiv,show b≠0 from by omega,this]
theorem lt {t j:TypeId} {k:IntKind} {a b:Int} (c:ev N σ x= .int k a) (i:ev N σ y= .int k b):
 (execOp (ev N σ) ⟨dst,.binOp .lss t x y j,ty,pos,af,g⟩).run P w= .ok (.value (.bool (decide (a < b)))) w:=by
 simp [execOp,c,i,eqGuard,binOp,Op.intCmp]
theorem le {t j:TypeId} {k:IntKind} {a b:Int} (c:ev N σ x= .int k a) (i:ev N σ y= .int k b):
 (execOp (ev N σ) ⟨dst,.binOp .leq t x y j,ty,pos,af,g⟩).run P w= .ok (.value (.bool (decide (a≤b)))) w:=by
 simp [execOp,c,i,eqGuard,binOp,Op.intCmp]
theorem gt {t j:TypeId} {k:IntKind} {a b:Int} (c:ev N σ x= .int k a) (i:ev N σ y= .int k b):
 (execOp (ev N σ) ⟨dst,.binOp .gtr t x y j,ty,pos,af,g⟩).run P w= .ok (.value (.bool (decide (b < a)))) w:=by
 simp [execOp,c,i,eqGuard,binOp,Op.intCmp]
theorem ge {t j:TypeId} {k:IntKind} {a b:Int} (c:ev N σ x= .int k a) (i:ev N σ y= .int k b):
 (execOp (ev N σ) ⟨dst,.binOp .geq t x y j,ty,pos,af,g⟩).run P w= .ok (.value (.bool (decide (b≤a)))) w:=by
 simp [execOp,c,i,eqGuard,binOp,Op.intCmp]
theorem bp {t j:TypeId} {k:IntKind} {a b:Int} (c:ev N σ x= .int k a) (i:ev N σ y= .int k b):
 (execOp (ev N σ) ⟨dst,.binOp .eql t x y j,ty,pos,af,g⟩).run P w= .ok (.value (.bool (decide (a=b)))) w:=by
 simp [execOp,c,i,eqGuard,binOp,Op.intCmp]
 rw [Bool.eq_iff_iff]; simp
theorem dF {t j:TypeId} {k:IntKind} {a b:Int} (c:ev N σ x= .int k a) (i:ev N σ y= .int k b):
 (execOp (ev N σ) ⟨dst,.binOp .neq t x y j,ty,pos,af,g⟩).run P w= .ok (.value (.bool (decide (a≠b)))) w:=by
 simp [execOp,c,i,eqGuard,binOp,Op.intCmp]
 rw [Bool.eq_iff_iff]; simp
theorem no {t:TypeId} {b:Bool} (a:ev N σ x= .bool b):(execOp (ev N σ) ⟨dst,.unOp .not t x,ty,pos,af,g⟩).run P w= .ok (.value (.bool (!b))) w:=by
 simp [execOp,a,Op.unary]
theorem sS {t p:TypeId} {k:IntKind} {a b v:Int} (i:ev N σ x= .int k a) (j:ev N σ y= .int k b) (c:k.wrap (BitVec.ofInt k.bits a ||| BitVec.ofInt k.bits b).toNat=v):
 (execOp (ev N σ) ⟨dst,.binOp .or t x y p,ty,pos,af,g⟩).run P w= .ok (.value (.int k v)) w:=by
 subst c; simp [execOp,i,j,eqGuard,binOp,Op.intBits]
theorem n0 {t p:TypeId} {k:IntKind} {a b v:Int} (i:ev N σ x= .int k a) (j:ev N σ y= .int k b) (c:k.wrap (BitVec.ofInt k.bits a &&& BitVec.ofInt k.bits b).toNat=v):
 (execOp (ev N σ) ⟨dst,.binOp .and t x y p,ty,pos,af,g⟩).run P w= .ok (.value (.int k v)) w:=by
 subst c; simp [execOp,i,j,eqGuard,binOp,Op.intBits]
theorem shr {t p:TypeId} {k q:IntKind} {a b v:Int} (i:ev N σ x= .int k a) (j:ev N σ y= .int q b) (s:0≤b) (c:a.fdiv (2 ^ min b.toNat k.bits)=v):
 (execOp (ev N σ) ⟨dst,.binOp .shr t x y p,ty,pos,af,g⟩).run P w= .ok (.value (.int k v)) w:=by
 have :¬b < 0:=aa
 simp [execOp,i,j,eqGuard,binOp,Op.shift,this,c]
theorem shl {t p:TypeId} {k q:IntKind} {a b v:Int} (i:ev N σ x= .int k a) (j:ev N σ y= .int q b) (s:0≤b) (c:k.wrap (a*2 ^ min b.toNat k.bits)=v):
 (execOp (ev N σ) ⟨dst,.binOp .shl t x y p,ty,pos,af,g⟩).run P w= .ok (.value (.int k v)) w:=by
 have :¬b < 0:=aa
 simp [execOp,i,j,eqGuard,binOp,Op.shift,this,c]
theorem HN (m:Nat):IntKind.u8.wrap (m:Int)=((m % 256:Nat):Int):=by
 rw [IntKind.wrap_u8]; omega
theorem xS (m:Nat) (h:m < 256):((UInt8.ofNat m).toNat:Int)=(m:Int):=by
 simp [Nat.mod_eq_of_lt h]
theorem cv {t u:TypeId} {k a:IntKind} {n:Int} (hu:P.underlying u=some (.int a)) (c:(P.underlying t).isSome=true) (i:ev N σ x= .int k n):
 (execOp (ev N σ) ⟨dst,.convert t u x,ty,pos,af,g⟩).run P w= .ok (.value (.int a (a.wrap n))) w:=by
 obtain ⟨d,hd⟩:=Option.isSome_iff_exists.1 c
 cases d <;> simp [execOp,i,convert,cG hu,cG hd,Conv.intToInt]
theorem jb {t u:TypeId} {k a:IntKind} {n v:Int} (hu:P.underlying u=some (.int a)) (i:(P.underlying t).isSome=true) (j:ev N σ x= .int k n) (c:a.wrap n=v):
 (execOp (ev N σ) ⟨dst,.convert t u x,ty,pos,af,g⟩).run P w= .ok (.value (.int a v)) w:=by
 rw [cv hu i j,c]
theorem ql {t u:TypeId} {k a:IntKind} {n:Int} (hu:P.underlying u=some (.int a)) (i:(P.underlying t).isSome=true) (j:ev N σ x= .int k n) (c:a.wrap n=n):
 (execOp (ev N σ) ⟨dst,.convert t u x,ty,pos,af,g⟩).run P w= .ok (.value (.int a n)) w:=by
 rw [cv hu i j,c]
theorem Cr (d:Nat) {t e:TypeId} {a:Option Addr} (hu:P.underlying t=some (.pointer e)):(Op.equalIn (d+1) t (.pointer a) (.pointer none)).run P w= .ok a.isNone w:=by
 cases a <;> simp [Op.equalIn,cG hu]
theorem Cs {t e:TypeId} {a:Option Addr} (hu:P.underlying t=some (.pointer e)):(Op.equal t (.pointer a) (.pointer none)).run P w= .ok a.isNone w:=Cr 9999 hu
theorem jc {t j e:TypeId} {a:Option Addr} (hu:P.underlying t=some (.pointer e)) (c:ev N σ x= .pointer a) (i:ev N σ y= .pointer none):
 (execOp (ev N σ) ⟨dst,.binOp .eql t x y j,ty,pos,af,g⟩).run P w= .ok (.value (.bool a.isNone)) w:=by
 have h:(binOp .eql t (.pointer a) (.pointer none)).run P w= .ok (.bool a.isNone) w:=by
  simp only [binOp]; simp [Cs hu]
 simp [execOp,c,i,eqGuard,h]
def str (l:List UInt8):Value:= .string ⟨⟨l⟩⟩
theorem cA {t:TypeId} {l:List UInt8} {at_:Array TypeId} (c:P.underlying t=some .string) (a:at_= #[t]) (i:ev N σ x=str l):
 (execOp (ev N σ) ⟨dst,.call ⟨.builtin .len,#[x],at_⟩,ty,pos,af,g⟩).run P w= .ok (.value (.int .i64 l.length)) w:=by
 subst a
 simp [execOp,resolve,invoke,builtin,Builtin.len_,cG c,i,str,goInt]
 rfl
theorem bo {t e:TypeId} {a:Option Addr} {n c:Nat} {at_:Array TypeId} (j:P.underlying t=some (.slice e)) (i:at_= #[t]) (p:ev N σ x= .slice a n c):
 (execOp (ev N σ) ⟨dst,.call ⟨.builtin .len,#[x],at_⟩,ty,pos,af,g⟩).run P w= .ok (.value (.int .i64 n)) w:=by
 subst i
 simp [execOp,resolve,invoke,builtin,Builtin.len_,cG j,p,goInt]
theorem mn {k:IntKind} {a b:Int} {at_:Array TypeId} (c:ev N σ x= .int k a) (i:ev N σ y= .int k b):
 (execOp (ev N σ) ⟨dst,.call ⟨.builtin .min,#[x,y],at_⟩,ty,pos,af,g⟩).run P w= .ok (.value (.int k (min a b))) w:=by
 have :(if b < a then b else a)=min a b:=aa
 simp [execOp,resolve,invoke,builtin,Builtin.min_,Builtin.min2,c,i,this]
theorem mx {k:IntKind} {a b:Int} {at_:Array TypeId} (c:ev N σ x= .int k a) (i:ev N σ y= .int k b):
 (execOp (ev N σ) ⟨dst,.call ⟨.builtin .max,#[x,y],at_⟩,ty,pos,af,g⟩).run P w= .ok (.value (.int k (max a b))) w:=by
 have :(if b > a then b else a)=max a b:=aa
 simp [execOp,resolve,invoke,builtin,Builtin.max_,Builtin.max2,c,i,this]
theorem Eb {t:TypeId} {l:List UInt8} {k:IntKind} {i:Int} (p:P.underlying t=some .string) (q:ev N σ x=str l) (s:ev N σ y= .int k i) (c:0≤i∧i < l.length):
 (execOp (ev N σ) ⟨dst,.index t x y,ty,pos,af,g⟩).run P w= .ok (.value (.int .u8 ((l.getD i.toNat 0).toNat:Int))) w:=by
 have hs:(⟨⟨l⟩⟩:ByteArray)[i.toNat]? =some (l.getD i.toNat 0):=by
  have a:i.toNat < l.length:=aa
  have j:i.toNat < (⟨⟨l⟩⟩:ByteArray).size:=a
  rw [getElem?_pos (⟨⟨l⟩⟩:ByteArray) i.toNat j]
  simp [List.getD_eq_getElem?_getD,a,ByteArray.getElem_eq_getElem_data]
 simp [execOp,Instr.index,q,s,asIntOf,str,cG p,c.1,hs]
theorem rT (l:List UInt8) (a b:Nat):Value.string ((⟨⟨l⟩⟩:ByteArray).extract a b)=str ((l.take b).drop a):=by
 unfold str
 congr 1
 apply ByteArray.ext
 simp [ByteArray.data_extract,List.extract_eq_take_drop,List.drop_take]
theorem gJ (n:Nat) {t:TypeId} {l:List UInt8} {k:IntKind} (a:P.underlying t=some .string) (c:ev N σ x=str l) (i:ev N σ y= .int k (n:Int)) (h:n < l.length):
 (execOp (ev N σ) ⟨dst,.index t x y,ty,pos,af,g⟩).run P w= .ok (.value (.int .u8 ((l.getD n 0).toNat:Int))) w:=Eb a c i ⟨aa,aa⟩
theorem e7 {n:Nat} {t:TypeId} {l:List UInt8} {k:IntKind} (a:P.underlying t=some .string) (c:ev N σ x=str l) (i:ev N σ y= .int k (n:Int)) (h:n < l.length):
 (execOp (ev N σ) ⟨dst,.index t x y,ty,pos,af,g⟩).run P w= .ok (.value (.int .u8 ((l.getD n 0).toNat:Int))) w:=gJ n a c i h
theorem kL {t:TypeId} {l:List UInt8} {k s:IntKind} {a b:Int} (i:P.underlying t=some .string) (j:ev N σ x=str l) (p:ev N σ y= .int k a) (q:ev N σ z= .int s b) (c:0≤a∧a≤b∧b≤l.length):
 (execOp (ev N σ) ⟨dst,.slice t x (some y) (some z) none,ty,pos,af,g⟩).run P w= .ok (.value (str ((l.take b.toNat).drop a.toNat))) w:=by
 have h1:b≤((⟨⟨l⟩⟩:ByteArray).size:Nat):=c.2.2
 have h2:0≤b:=aa
 have h3:a≤(b.toNat:Nat):=aa
 simp [execOp,Instr.sliceAt,Instr.slice,Instr.sliceBounds,Instr.sliceBound,j,p,q,asIntOf,str,cG i,c.1,h1,h2]
 rw [if_pos aa]
 exact congrArg (fun v=>Result.ok (Next.value v) w) (rT l a.toNat b.toNat)
theorem pc {t:TypeId} {l:List UInt8} {p:IntKind} {b:Int} (c:P.underlying t=some .string) (i:ev N σ x=str l) (j:ev N σ z= .int p b) (a:0≤b∧b≤l.length):
 (execOp (ev N σ) ⟨dst,.slice t x none (some z) none,ty,pos,af,g⟩).run P w= .ok (.value (str (l.take b.toNat))) w:=by
 have h1:b≤((⟨⟨l⟩⟩:ByteArray).size:Nat):=a.2
 have :=rT l 0 b.toNat
 simp only [List.drop_zero] at this
 simp [execOp,Instr.sliceAt,Instr.slice,Instr.sliceBounds,Instr.sliceBound,i,j,asIntOf,str,cG c,a.1,h1]
 exact Value.string.inj this
theorem km {t:TypeId} {l:List UInt8} {k:IntKind} {a:Int} (i:P.underlying t=some .string) (j:ev N σ x=str l) (p:ev N σ y= .int k a) (c:0≤a∧a≤l.length):
 (execOp (ev N σ) ⟨dst,.slice t x (some y) none none,ty,pos,af,g⟩).run P w= .ok (.value (str (l.drop a.toNat))) w:=by
 have h1:a≤((⟨⟨l⟩⟩:ByteArray).size:Nat):=c.2
 have :=rT l a.toNat l.length
 simp only [List.take_length] at this
 simp [execOp,Instr.sliceAt,Instr.slice,Instr.sliceBounds,Instr.sliceBound,j,p,asIntOf,str,cG i,c.1,h1]
 exact Value.string.inj this
theorem xJ (l:List UInt8):(⟨⟨l⟩⟩:ByteArray).toList=l:=Lib.toList_data ⟨⟨l⟩⟩
theorem cc {t i:TypeId} {l m:List UInt8} (a:ev N σ x=str l) (c:ev N σ y=str m) (h:l.length+m.length≤9223372036854775807):
 (execOp (ev N σ) ⟨dst,.binOp .add t x y i,ty,pos,af,g⟩).run P w= .ok (.value (str (l++m))) w:=by
 have h1:¬(((⟨⟨l⟩⟩:ByteArray).size+(⟨⟨m⟩⟩:ByteArray).size:Nat):Int) > IntKind.i64.max:=by
  have :IntKind.i64.max=9223372036854775807:=ao
  rw [this]
  show ¬((l.length+m.length:Nat):Int) > _
  omega
 have h2:(⟨⟨l⟩⟩:ByteArray)++(⟨⟨m⟩⟩:ByteArray)=⟨⟨l++m⟩⟩:=by
  apply ByteArray.ext; simp
 simp only [execOp,a,c,str,eqGuard,binOp,Op.stringOp]
 rw [if_neg h1,h2]
 rfl
theorem fJ {t i:TypeId} {l m:List UInt8} (a:ev N σ x=str l) (c:ev N σ y=str m):
 (execOp (ev N σ) ⟨dst,.binOp .eql t x y i,ty,pos,af,g⟩).run P w= .ok (.value (.bool (decide (l=m)))) w:=by
 simp only [execOp,a,c,str,eqGuard,binOp,Op.stringOp,xJ]
 show Result.ok (Next.value (.bool (l==m))) w=_
 rw [show (l==m)=decide (l=m) from by rw [Bool.eq_iff_iff]; simp]
theorem l5 {t i:TypeId} {l m:List UInt8} (a:ev N σ x=str l) (c:ev N σ y=str m):
 (execOp (ev N σ) ⟨dst,.binOp .neq t x y i,ty,pos,af,g⟩).run P w= .ok (.value (.bool (decide (l≠m)))) w:=by
 simp only [execOp,a,c,str,eqGuard,binOp,Op.stringOp,xJ]
 show Result.ok (Next.value (.bool (!(l==m)))) w=_
 rw [show (!(l==m))=decide (l≠m) from by rw [Bool.eq_iff_iff]; simp]
theorem mf {fn:Fn} {first captured:Array Operand} :(execOp (ev N σ) ⟨dst,.makeFunc fn first captured,ty,pos,af,g⟩).run P w= .ok (.value (.func fn (first.map (ev N σ)) (captured.map (ev N σ)))) w:=rfl
theorem E0 {fn:Fn} {first captured:Array Operand} :(execOp (ev N σ) ⟨dst,.makeFunc fn first captured,ty,pos,af,g⟩).run P w= .ok (.value (.func fn (first.toList.map (ev N σ)).toArray (captured.toList.map (ev N σ)).toArray)) w:=by
 rw [mf,← Array.toList_map,← Array.toList_map]
end
end Go.Hb
namespace Go.Hb
open Go.RowKit
def bl (h:Array Obj) (b:Nat) (L:List Value):Prop := ∃ e,h[b]? =some (.cells L.toArray e (0,0))
theorem bl.aG {h:Array Obj} {b:Nat} {L:List Value} (a:bl h b L) (j:Nat):Hb.aG h b j=L[j]? :=by
 obtain ⟨e,a⟩:=a
 rw [a4 a]; simp
theorem bl.bI {h:Array Obj} {b:Nat} {L:List Value} (a:bl h b L) (j:Nat):Hb.aG h b (0 +j)=L[j]? :=by
 rw [Nat.zero_add,a.aG]
theorem Md.B {F:Nat→Prop} {w w':World} (h:Md F w w') {b:Nat} {L:List Value} (a:bl w.heap b L) (c:¬F b):bl w'.heap b L:=
 let ⟨e,a⟩:=a; ⟨e,h.aC a c⟩
theorem Wk.B {w w':World} (h:Wk w w') {b:Nat} {L:List Value} (a:bl w.heap b L):bl w'.heap b L:=Md.B h a id
theorem bl.lt {h:Array Obj} {b:Nat} {L:List Value} (a:bl h b L):b < h.size:=let ⟨_,a⟩:=a; (Array.getElem?_eq_some_iff.1 a).1
def bk (a:Option Addr):Nat:=match a with | some ad=>ad.block | none=>0
def fo (a:Option Addr):Nat:=match a with | some ad=>ad.off | none=>0
structure aw (h:Array Obj) (a:Option Addr) (xs:List Value):Prop where
 ok:xs≠[]→a=some ⟨bk a,fo a,none⟩
 aG:∀ j u,xs[j]? =some u→Hb.aG h (bk a) (fo a+j)=some u
theorem aw.nil (h:Array Obj) (a:Option Addr):aw h a []:=⟨fun h=>absurd rfl h,fun _ _ hu=>by simp at hu⟩
theorem aw.md {F:Nat→Prop} {w w':World} {a:Option Addr} {xs:List Value} (c:aw w.heap a xs) (h:Md F w w') (i:xs≠[]→¬F (bk a)):aw w'.heap a xs:=
 ⟨c.ok,fun j u hu=>h.aG (c.aG j u hu) (i (by rintro rfl; simp at hu))⟩
theorem aw.wk {w w':World} {a:Option Addr} {xs:List Value} (c:aw w.heap a xs) (h:Wk w w'):aw w'.heap a xs:=c.md h (fun _ x=>x)
theorem aw.take {h:Array Obj} {a:Option Addr} {xs:List Value} (c:aw h a xs) (n:Nat):aw h a (xs.take n):=
 ⟨fun i=>c.ok (by rintro rfl; simp at i),fun j u hu=>c.aG j u (by rw [List.getElem?_take] at hu; split at hu; exact hu; cases hu)⟩
theorem aw.dj {h:Array Obj} {b:Nat} {L:List Value} (a:bl h b L):aw h (some ⟨b,0,none⟩) L:=
 ⟨fun _=>rfl,fun j u hu=>by show Hb.aG h b (0 +j)=_; rw [Nat.zero_add,a.aG]; exact hu⟩
theorem aw.h8 {h:Array Obj} {a:Option Addr} {xs:List Value} (c:aw h a xs) {i:Nat} {u:Value} (hu:xs[i]? =some u):Hb.aG h (bk a) (fo a+i*1)=some u:=by
 rw [Nat.mul_one]; exact c.aG i u hu
def bM (h:Array Obj) (a:Option Addr) (l:List (List UInt8)):Prop :=aw h a (l.map str)
theorem bM.get {h:Array Obj} {a:Option Addr} {l:List (List UInt8)} (hs:bM h a l) {i:Nat} (hi:i < l.length):Hb.aG h (bk a) (fo a+i*1)=some (str (l.getD i [])):=
 aw.h8 hs (by simp [List.getD_eq_getElem?_getD,hi])
theorem bM.wk {w w':World} {a:Option Addr} {l:List (List UInt8)} (hs:bM w.heap a l) (h:Wk w w'):bM w'.heap a l:=aw.wk hs h
theorem bL {α:Type} {f:α→Value} {l:List α} (h:0 < l.length):l.map f≠[]:=by
 cases l with
 | nil=>simp at h
 | cons x l=>simp
def iG (k:IntKind) (h:Array Obj) (a:Option Addr) (l:List Int):Prop :=aw h a (l.map (Value.int k))
def eo (P:Program) (t e size bytes:Nat):Bool:=
 match P.underlying t with
 | some (.slice a)=>a==e && match P.info? e with
   | some i=>i.size==size && i.bytes==bytes && Nat.blt 0 size && match i.zero with
     | some z=>z.cells.size==size
     | none=>false
   | none=>false
 | _=>false
theorem ly {P:Program} {t e size bytes:Nat} (h:eo P t e size bytes=true):
 P.underlying t=some (.slice e)∧∃ i z,P.info? e=some i∧i.zero=some z∧i.size=size∧i.bytes=bytes∧z.cells.size=size∧0 < size:=by
 unfold eo at h
 split at h
 · rename_i c hu
   simp only [Bool.and_eq_true,beq_iff_eq] at h
   obtain ⟨rfl,h⟩:=h
   split at h
   · rename_i i hi
     simp only [Bool.and_eq_true,beq_iff_eq] at h
     obtain ⟨⟨⟨h1,h2⟩,h3⟩,h4⟩:=h
     split at h4
     · rename_i z a
       exact ⟨hu,i,z,hi,a,h1,h2,by simpa using h4,Nat.lt_of_lt_of_le (Nat.lt_succ_self 0) (Nat.le_of_ble_eq_true h3)⟩
     · cases h4
   · cases h
 · cases h
def cU (P:Program) (t:TypeId):Option Nat:=(P.info? t).map (·.size)
def zeroOf (P:Program) (t:TypeId):Option (Option (List Value)):=(P.info? t).map fun i=>i.zero.map fun z=>z.cells.toList
def aY (P:Program) (f:FuncId):Prop := ∀ args w,(callFunc f args).run P w= .ok (.enter f args) w
theorem Ap {P:Program} {f:FuncId} {fn:Func} (c:P.funcs[f]? =some fn) (hn:(fn.name== "runtime.NumGoroutine")=false) (a:fn.body.isNone=false):aY P f:=by
 intro args w
 have h1:¬((fn.name== "runtime.NumGoroutine")=true):=by rw [hn]; simp
 have h2:¬(fn.body.isNone=true):=by rw [a]; simp
 simp only [callFunc,Sem.run_bind,run_program,Result.andThen_ok,c]
 rw [if_neg h1,if_neg h2]
 rfl
section
variable {P:Program} {N:Fm} {σ:Nat→Value} {w:World} {dst:Option Nat} {ty:TypeId} {pos :String} {af:Array Edge} {g:Option (Nat×Bool)} {x y z:Operand} {K:(Nat→Value)→World→Prop}
theorem Ib {o:Oper} {f:FuncId} {L:List Value} {R:Value→World→Prop} (i:(execOp (ev N σ) o).run P w= .ok (.enter f L.toArray) w) (c:a3 P f L.toArray w R)
 (k:∀ v w',R v w'→K (eb σ o.dst v) w'):bP P N o σ w K:=by
 unfold bP Oper.wp
 rw [eL,i]
 refine Calls.mono c fun e w' ⟨v,he,a⟩=> ?_
 subst he
 exact ⟨_,gv ..,k v w' a⟩
theorem cl {f:FuncId} {args:Array Operand} {a:Array TypeId} {L:List Value} {R:Value→World→Prop} (i:aY P f) (j:a3 P f L.toArray w R) (c:args.toList.map (ev N σ)=L)
 (k:∀ v w',R v w'→K (eb σ dst v) w'):bP P N ⟨dst,.call ⟨.value (.func f),args,a⟩,ty,pos,af,g⟩ σ w K:=by
 refine Ib (f:=f) ?_ j k
 have :args.map (ev N σ)=L.toArray:=by rw [← c,← Array.toList_map]
 simp [execOp,resolve,ev,Deferred.ofValue,invoke,this,i L.toArray w]
theorem jR {o:Oper} {ob:Obj} {v:Nat→Value} (a:(execOp (ev N σ) o).run P w= .ok (.value (v w.heap.size)) {w with heap:=w.heap.push ob})
 (k:∀ b w',b=w.heap.size→Nw w w'→w'.heap[b]? =some ob→K (eb σ o.dst (v b)) w'):bP P N o σ w K:=
 jh a (k _ _ rfl (wj w ob) (by simp))
theorem al {e:TypeId} {c:List Value} (a:zeroOf P e=some (some c)) (k:∀ b w',b=w.heap.size→Nw w w'→bl w'.heap b c→K (eb σ dst (.pointer (some ⟨b,0,none⟩))) w'):
 bP P N ⟨dst,.alloc e,ty,pos,af,g⟩ σ w K:=by
 refine jR (v:=fun b=> .pointer (some ⟨b,0,none⟩)) (ob:= .cells c.toArray e (0,0)) ?_ (fun b w' h1 h2 h3=>k b w' h1 h2 ⟨e,h3⟩)
 unfold zeroOf at a
 simp only [Option.map_eq_some_iff] at a
 obtain ⟨i,hi,zv,j,rfl⟩:=a
 simp [execOp,Instr.alloc,zeroValue,eK hi,j,newVar,newRow]
theorem fC {e:TypeId} {c:List Value} (a:zeroOf P e=some (some c)) (k:∀ b w',b=w.heap.size→Nw w w'→w'.heap[b]? =some (.cells c.toArray e (0,0))→K (eb σ dst (.pointer (some ⟨b,0,none⟩))) w'):
 bP P N ⟨dst,.alloc e,ty,pos,af,g⟩ σ w K:=by
 refine jR (v:=fun b=> .pointer (some ⟨b,0,none⟩)) (ob:= .cells c.toArray e (0,0)) ?_ k
 unfold zeroOf at a
 simp only [Option.map_eq_some_iff] at a
 obtain ⟨i,hi,zv,j,rfl⟩:=a
 simp [execOp,Instr.alloc,zeroValue,eK hi,j,newVar,newRow]
theorem bx {e:TypeId} {v:Value} {L:List Value} (c:ev N σ x=v) (a:v.cells.toList=L) (k:∀ b w',b=w.heap.size→Nw w w'→bl w'.heap b L→K (eb σ dst (.pointer (some ⟨b,0,none⟩))) w'):
 bP P N ⟨dst,.box e x,ty,pos,af,g⟩ σ w K:=by
 subst a
 refine jR (v:=fun b=> .pointer (some ⟨b,0,none⟩)) (ob:= .cells v.cells e (0,0)) ?_ (fun b w' h1 h2 h3=>k b w' h1 h2 ⟨e,h3⟩)
 simp [execOp,Instr.box,c,newVar,newRow]
theorem na {t:TypeId} (k:∀ b w',b=w.heap.size→Nw w w'→w'.heap[b]? =some (.map #[] 0)→K (eb σ dst (.map (some b))) w'):bP P N ⟨dst,.makeMap t none,ty,pos,af,g⟩ σ w K:=by
 refine jR (v:=fun b=> .map (some b)) ?_ k
 simp [execOp,Instr.makeMap]
theorem jq {t e:TypeId} {size bytes:Nat} (c:eo P t e size bytes=true)
 (k:∀ b w',b=w.heap.size→Nw w w'→(∀ B,B≤b→w'.ownsRow B e size (.slice (some ⟨b,0,none⟩) 0 0) 0 [])→K (eb σ dst (.slice (some ⟨b,0,none⟩) 0 0)) w'):bP P N ⟨dst,.buildSlice t 0 #[],ty,pos,af,g⟩ σ w K:=by
 refine jR (v:=fun b=> .slice (some ⟨b,0,none⟩) 0 0) (ob:= .cells #[] e (0,0)) ?_ (fun b w' h1 h2 h3=>k b w' h1 h2 fun B a=>⟨by simp,.inr ⟨b,0,#[],U,a,h3,Nat.le_refl _,by simp [maxLen],by simp,by simp⟩⟩)
 obtain ⟨hu,i,zv,hi,j,h1,h2,h3,h4⟩:=ly c
 simp [execOp,Instr.buildSlice,cG hu,sizeOf,eK hi,Instr.fill,newRow]
 congr 2
 exact Array.eq_empty_of_size_eq_zero (by simp)
theorem sU {t e:TypeId} {size bytes:Nat} {v:Value} {L:List Value} (C:eo P t e size bytes=true) (hs:Nat.ble size 1000=true) (G:ev N σ x=v) (E:v.cells.size=size)
 (p:v.cells.toList=L) (k:∀ b w',b=w.heap.size→Nw w w'→w'.heap[b]? =some (.cells L.toArray e (0,0))→K (eb σ dst (.slice (some ⟨b,0,none⟩) 1 1)) w'):bP P N ⟨dst,.buildSlice t 1 #[(0,x)],ty,pos,af,g⟩ σ w K:=by
 subst p
 refine jR (v:=fun b=> .slice (some ⟨b,0,none⟩) 1 1) (ob:= .cells v.cells e (0,0)) ?_ (fun b w' h1 h2 h3=>k b w' h1 h2 (by simpa using h3))
 obtain ⟨hu,i,zv,hi,I,h1,h2,h3,h4⟩:=ly C
 have M:size≤1000:=by simpa using hs
 have s:Instr.fill (fun i=>some (i*size,size)) ((Array.range size).map (zv.cells[· % zv.cells.size]!)) [(0,v)]=some v.cells:=by
  have a:((Array.range size).map (zv.cells[· % zv.cells.size]!)).size=size:=by simp
  generalize (Array.range size).map (zv.cells[· % zv.cells.size]!)=cs at a
  simp only [Instr.fill,E]
  rw [if_neg (by rw [a]; simp)]
  congr 1
  have key:∀ (l:List Value) (m:Nat) (cs:Array Value),m+l.length≤cs.size→∀ j,((l.zipIdx m).foldl (fun (cs:Array Value) (c,j)=>cs.setIfInBounds (0 *size+j) c) cs)[j]? =if j < m then cs[j]? else if j < m+l.length then l[j - m]? else cs[j]? :=by
   intro l
   induction l with
   | nil=>intro m cs hm j; simp; intro h1 h2; omega
   | cons c l J=>
     intro m cs hm j
     simp only [List.zipIdx_cons,List.foldl_cons,List.length_cons] at hm ⊢
     rw [J (m+1) _ (by simp; omega)]
     simp only [Nat.zero_mul,Nat.zero_add,Array.getElem?_setIfInBounds]
     by_cases h1:j < m
     · rw [if_pos aa,if_pos h1,if_neg aa]
     · rw [if_neg h1]
       by_cases h2:j=m
       · subst h2
         rw [if_pos aa,if_pos rfl,if_pos aa,if_pos aa]
         simp
       · rw [if_neg aa]
         by_cases h3:j < m+1 +l.length
         · rw [if_pos h3,if_pos aa]
           obtain ⟨q,A⟩:∃ q,j - m=q+1:=⟨j - m - 1,aa⟩
           rw [A,List.getElem?_cons_succ,show j - (m+1)=q from by omega]
         · rw [if_neg h3,if_neg aa,if_neg aa]
  apply Array.ext_getElem?
  intro j
  have :=key v.cells.toList 0 cs (by simp; omega) j
  rw [show (v.cells.zipIdx.foldl (fun (cs:Array Value) (c,j)=>cs.setIfInBounds (0 *size+j) c) cs)=((v.cells.toList.zipIdx 0).foldl (fun (cs:Array Value) (c,j)=>cs.setIfInBounds (0 *size+j) c) cs) from by
   rw [← Array.foldl_toList]; simp [Array.toList_zipIdx]]
  rw [this]
  simp only [Nat.not_lt_zero,if_false,Nat.zero_add,Nat.sub_zero,Array.length_toList,Array.getElem?_toList]
  split
  · rfl
  · rw [Array.getElem?_eq_none aa,Array.getElem?_eq_none aa]
 simp only [execOp,Instr.buildSlice,Sem.run_bind,cG hu,Result.andThen_ok,sizeOf,eK hi,Sem.run_pure,h1,Nat.one_mul,Sem.run_ite,zeroValue,I,List.map_toArray,List.map_cons,List.map_nil,G,s]
 rw [if_neg (by rw [show (2:Nat) ^ 24=16777216 from rfl]; omega),if_neg aa]
 simp [newRow]
theorem sV {t e:TypeId} {size bytes:Nat} {v:Value} {L:List Value} (c:eo P t e size bytes=true) (hs:Nat.ble size 1000=true) (j:ev N σ x=v) (i:v.cells.size=size)
 (a:v.cells.toList=L) (k:∀ b w',b=w.heap.size→Nw w w'→bl w'.heap b L→K (eb σ dst (.slice (some ⟨b,0,none⟩) 1 1)) w'):bP P N ⟨dst,.buildSlice t 1 #[(0,x)],ty,pos,af,g⟩ σ w K:=
 sU c hs j i a fun b w' h1 h2 h3=>k b w' h1 h2 ⟨_,h3⟩
theorem jG {v:Value} (h:v.oneCell'=true):v.cells= #[v]:=by cases v <;> first | rfl | (cases h; done)
theorem uF {loc:Nat→Option (Nat×Nat)} (c:∀ i,loc i=some (i*1,1)):∀ (rest pre a:List Value),a.length=rest.length→rest.all Value.oneCell'=true→
 Instr.fill loc (pre++a).toArray ((rest.zipIdx pre.length).map fun q=>(q.2,q.1))=some (pre++rest).toArray
 | [],pre,a,hl,_=>by
   rw [List.eq_nil_of_length_eq_zero hl]; rfl
 | v::r,pre,a,hl,h1=>by
   cases a with
   | nil=>simp at hl
   | cons z a=>
     rw [List.all_cons,Bool.and_eq_true] at h1
     have p:=jG h1.1
     have j:=uF c r (pre++ [v]) a (by simpa using hl) h1.2
     simp only [List.zipIdx_cons,List.map_cons,Instr.fill,c,p]
     rw [if_neg (by simp)]
     simp only [List.length_append,List.length_singleton,List.append_assoc,List.singleton_append] at j
     rw [← j]
     simp
theorem lM {t e bytes n:Nat} {ps:Array (Nat×Operand)} {L:List Value} (j:eo P t e 1 bytes=true) (hp:ps.toList.map (fun p=>(p.1,ev N σ p.2))=(L.zipIdx 0).map fun q=>(q.2,q.1)) (h1:L.all Value.oneCell'=true) (hn:L.length=n) (hs:(Nat.ble n 1000 && Nat.blt 0 n)=true)
 (k:∀ b w',b=w.heap.size→Nw w w'→w'.heap[b]? =some (.cells L.toArray e (0,0))→K (eb σ dst (.slice (some ⟨b,0,none⟩) n n)) w'):bP P N ⟨dst,.buildSlice t n ps,ty,pos,af,g⟩ σ w K:=by
 subst hn
 refine jR (v:=fun b=> .slice (some ⟨b,0,none⟩) L.length L.length) (ob:= .cells L.toArray e (0,0)) ?_ k
 obtain ⟨hu,i,zv,hi,s,a,h2,h3,h4⟩:=ly j
 simp only [Bool.and_eq_true] at hs
 have C:L.length≤1000:=by simpa using hs.1
 have E:0 < L.length:=by have :=Nat.le_of_ble_eq_true hs.2; omega
 have c:Instr.fill (fun i=>some (i*1,1)) ((Array.range (L.length*1)).map (zv.cells[· % zv.cells.size]!)) (ps.toList.map (fun p=>(p.1,ev N σ p.2)))=some L.toArray:=by
  rw [hp]
  have A:((Array.range (L.length*1)).map (zv.cells[· % zv.cells.size]!)).toList.length=L.length:=by simp
  have :=uF (loc:=fun i=>some (i*1,1)) (fun _=>rfl) L [] ((Array.range (L.length*1)).map (zv.cells[· % zv.cells.size]!)).toList A h1
  rw [List.nil_append,List.nil_append,Array.toArray_toList] at this
  exact this
 simp only [execOp,Instr.buildSlice,Sem.run_bind,cG hu,Result.andThen_ok,sizeOf,eK hi,Sem.run_pure,a,Sem.run_ite,zeroValue,s,Array.toList_map,c]
 rw [if_neg (by rw [show (2:Nat) ^ 24=16777216 from rfl]; omega),if_neg aa]
 simp [newRow]
theorem eY {t e:TypeId} {bytes:Nat} {v:Value} (a:eo P t e 1 bytes=true) (c:ev N σ x=v) (h1:v.oneCell'=true)
 (k:∀ b w',b=w.heap.size→Nw w w'→bl w'.heap b [v]→K (eb σ dst (.slice (some ⟨b,0,none⟩) 1 1)) w'):bP P N ⟨dst,.buildSlice t 1 #[(0,x)],ty,pos,af,g⟩ σ w K:=
 sV a rfl c (by rw [jG h1]; rfl) (by rw [jG h1]) k
theorem j4 {t e:TypeId} {size bytes:Nat} {L:List Value} (c:eo P t e size bytes=true) (hs:Nat.ble size 1000=true) (i:ev N σ x= .agg L.toArray) (a:L.length=size)
 (k:∀ b w',b=w.heap.size→Nw w w'→bl w'.heap b L→K (eb σ dst (.slice (some ⟨b,0,none⟩) 1 1)) w'):bP P N ⟨dst,.buildSlice t 1 #[(0,x)],ty,pos,af,g⟩ σ w K:=
 sV c hs i (by simpa [Value.cells] using a) (by simp [Value.cells]) k
theorem gx {e:TypeId} {L:List Value} (a:ev N σ x= .agg L.toArray) (k:∀ b w',b=w.heap.size→Nw w w'→bl w'.heap b L→K (eb σ dst (.pointer (some ⟨b,0,none⟩))) w'):
 bP P N ⟨dst,.box e x,ty,pos,af,g⟩ σ w K:=bx a (by simp [Value.cells]) k
theorem pU {e:TypeId} {L:List Value} (a:ev N σ x= .agg L.toArray) (k:∀ b w',b=w.heap.size→Nw w w'→w'.heap[b]? =some (.cells L.toArray e (0,0))→K (eb σ dst (.pointer (some ⟨b,0,none⟩))) w'):
 bP P N ⟨dst,.box e x,ty,pos,af,g⟩ σ w K:=by
 refine jR (v:=fun b=> .pointer (some ⟨b,0,none⟩)) (ob:= .cells L.toArray e (0,0)) ?_ (fun b w' h1 h2 h3=>k b w' h1 h2 h3)
 simp [execOp,Instr.box,a,newVar,newRow,Value.cells]
theorem y8 {t e:TypeId} {bytes:Nat} {v:Value} (p:eo P t e 1 bytes=true) (q:ev N σ x=v) (h1:v.oneCell'=true)
 (k:∀ b w',b=w.heap.size→Nw w w'→(∀ B,B≤b→w'.ownsRow B e 1 (.slice (some ⟨b,0,none⟩) 1 1) 1 [v])→K (eb σ dst (.slice (some ⟨b,0,none⟩) 1 1)) w'):bP P N ⟨dst,.buildSlice t 1 #[(0,x)],ty,pos,af,g⟩ σ w K:=
 sU (L:= [v]) p rfl q (by rw [jG h1]; rfl) (by rw [jG h1]) fun b w' j i a=>k b w' j i fun B c=>⟨rfl,.inr ⟨b,1,#[v],rfl,c,a,Nat.le_refl _,by simp [maxLen],rfl,rfl⟩⟩
theorem mE {l:List Value} (h:l.all Value.oneCell'=true):∀ u∈l,u.oneCell'=true :=List.all_eq_true.1 h
theorem dp {t b off :Nat} {e:TypeId} {L:List Value} {v:Value} (c:cU P t=some 1) (I:ev N σ x= .pointer (some ⟨b,off,none⟩)) (J:ev N σ y=v) (h1:v.oneCell'=true) (a:w.heap[b]? =some (.cells L.toArray e (0,0))) (C:off < L.length)
 (k:∀ w',Md (fun k=>k=b) w w'→w'.heap[b]? =some (.cells (L.set off v).toArray e (0,0))→K σ w'):bP P N ⟨none,.store t x y,ty,pos,af,g⟩ σ w K:=by
 have p:v.cells= #[v]:=by cases v <;> first | rfl | (cases h1; done)
 have q:w.cell? ⟨b,off,none⟩=some L[off]:=by rw [iZ,a4 a]; simp [C]
 have s:w.frozen? ⟨b,off,none⟩=false :=by simp only [World.frozen?,show w.heap[b]? =_ from a]; simp
 unfold cU at c
 simp only [Option.map_eq_some_iff] at c
 obtain ⟨i,hi,hs⟩:=c
 have j:(⟨b,off,none⟩:Addr).add 0=⟨b,off,none⟩:=rfl
 have E:(execOp (ev N σ) ⟨none,.store t x y,ty,pos,af,g⟩).run P w= .ok .skip (w.setCell ⟨b,off,none⟩ v):=by
  simp [execOp,Instr.storeAt,I,J,Instr.sureAddr,storeVar,p,sizeOf,eK hi,hs,storeCells,j,run_store P w _ v _ h1,q,s]
 unfold bP Oper.wp
 rw [eL,E]
 refine ⟨σ,U,k _ ⟨U,U,by simp [World.setCell],fun k _ hk=> ?_⟩ ?_⟩
 · exact Below.heap_setCell w _ v k hk
 · have A:=(Array.getElem?_eq_some_iff.1 a).1
   have G:w.heap[b]= .cells L.toArray e (0,0):=(Array.getElem?_eq_some_iff.1 a).2
   simp only [World.setCell]
   rw [Array.getElem?_eq_getElem (by simpa using A),Array.getElem_modify]
   simp [G,List.setIfInBounds_toArray]
theorem st {t b off :Nat} {L:List Value} {v:Value} (p:cU P t=some 1) (i:ev N σ x= .pointer (some ⟨b,off,none⟩)) (j:ev N σ y=v) (h1:v.oneCell'=true) (a:bl w.heap b L) (c:off < L.length)
 (k:∀ w',Md (fun k=>k=b) w w'→bl w'.heap b (L.set off v)→K σ w'):bP P N ⟨none,.store t x y,ty,pos,af,g⟩ σ w K:=
 let ⟨_,a⟩:=a
 dp p i j h1 a c fun w' h1 h2=>k w' h1 ⟨_,h2⟩
theorem fy {t b off n:Nat} {e:TypeId} {L vs:List Value} (a:cU P t=some n) (p:ev N σ x= .pointer (some ⟨b,off,none⟩)) (q:ev N σ y= .agg vs.toArray) (hn:vs.length=n) (h1:vs.all Value.oneCell'=true) (c:w.heap[b]? =some (.cells L.toArray e (0,0))) (s:off+n≤L.length)
 (k:∀ w',Md (fun k=>k=b) w w'→w'.heap[b]? =some (.cells (L.take off++vs++L.drop (off+n)).toArray e (0,0))→K σ w'):bP P N ⟨none,.store t x y,ty,pos,af,g⟩ σ w K:=by
 unfold cU at a
 simp only [Option.map_eq_some_iff] at a
 obtain ⟨i,hi,hs⟩:=a
 have bS:=run_storeCells_at P b off e vs 0 L.toArray w c (by simp; omega) (mE h1)
 have j:(execOp (ev N σ) ⟨none,.store t x y,ty,pos,af,g⟩).run P w= .ok .skip (w.setRow b (L.take off++vs++L.drop (off+n)).toArray):=by
  simp [execOp,Instr.storeAt,p,q,Instr.sureAddr,storeVar,Value.cells,sizeOf,eK hi,hs,hn,bS]
 unfold bP Oper.wp
 rw [eL,j]
 exact ⟨σ,U,k _ ⟨U,U,by simp,fun k _ hk=>setRow_other w b k _ hk⟩ (setRow_heap w b _ _ e _ c)⟩
theorem b8 {t b off n:Nat} {L vs:List Value} (c:cU P t=some n) (p:ev N σ x= .pointer (some ⟨b,off,none⟩)) (q:ev N σ y= .agg vs.toArray) (hn:vs.length=n) (h1:vs.all Value.oneCell'=true) (a:bl w.heap b L) (s:off+n≤L.length)
 (k:∀ w',Md (fun k=>k=b) w w'→bl w'.heap b (L.take off++vs++L.drop (off+n))→K σ w'):bP P N ⟨none,.store t x y,ty,pos,af,g⟩ σ w K:=by
 obtain ⟨e,a⟩:=a
 unfold cU at c
 simp only [Option.map_eq_some_iff] at c
 obtain ⟨i,hi,hs⟩:=c
 have bS:=run_storeCells_at P b off e vs 0 L.toArray w a (by simp; omega) (mE h1)
 have j:(execOp (ev N σ) ⟨none,.store t x y,ty,pos,af,g⟩).run P w= .ok .skip (w.setRow b (L.take off++vs++L.drop (off+n)).toArray):=by
  simp [execOp,Instr.storeAt,p,q,Instr.sureAddr,storeVar,Value.cells,sizeOf,eK hi,hs,hn,bS]
 unfold bP Oper.wp
 rw [eL,j]
 exact ⟨σ,U,k _ ⟨U,U,by simp,fun k _ hk=>setRow_other w b k _ hk⟩ ⟨e,setRow_heap w b _ _ e _ a⟩⟩
theorem yN {t ty e:TypeId} {i:TypeInfo} {zv:Value} {B n m c:Nat} {v M:Value} {xs news:List Value} {ad:Addr} {w':World} (hu:P.underlying t=some (.slice e)) (hi:P.info? e=some i) (J:i.zero=some zv) (ab:zv.cells.size=i.size) (Y:0 < i.size)
 (s:w.ownsRow B e i.size v n xs) (q:news.length=m*i.size) (A:∀ j u,news[j]? =some u→w.cell? (ad.add j)=some u) (h1:∀ u∈news,u.oneCell'=true) (E:n+m≤maxLen) (C:(n+m)*i.bytes≤140737488355328)
 (a:(Builtin.append_ #[t,t] ty #[v,.slice (some ad) m c]).run P w= .ok M w'):∀ k,M.ownBlock=some k→v.ownBlock=some k∨w.heap.size≤k:=by
 intro k hk
 have ae:n+m≤9223372036854775807:=by unfold maxLen at E; omega
 rcases s.2 with ⟨rfl,rfl⟩ | ⟨p,cap,cur,rfl,ah,V,aj,ai,O,ak⟩
 · have Z:xs= []:=List.eq_nil_of_length_eq_zero (by simpa using s.1)
   subst Z
   obtain ⟨v2,al,G,h2,_,_⟩:=run_append_own (P:=P) w w.heap.size t ty e i zv i.size i.bytes hu hi J rfl rfl ab Y _ 0 [] (World.ownsRow_nil w w.heap.size e i.size) ad m c news q A h1 E C (Nat.le_refl _)
   rw [a] at G
   cases G
   exact .inr (by
    rcases h2.2 with ⟨h,_⟩ | ⟨ac,_,_,h,ag,_⟩
    · rw [h] at hk; simp [Value.ownBlock] at hk
    · rw [h] at hk; simp only [Value.ownBlock,Option.some.injEq] at hk; omega)
 · by_cases I:n+m≤cap
   · have U:n*i.size+news.length≤cur.size:=by rw [q,O,← Nat.add_mul]; exact Nat.mul_le_mul_right _ I
     rw [run_append_room (P:=P) w t ty e i hu hi p n cap cur V ad m c news q A h1 I U] at a
     cases a
     exact .inl hk
   · have holds:∀ j u,xs[j]? =some u→w.cell? ((⟨p,0,none⟩:Addr).add j)=some u:=s.cells (g:=p) rfl
     rw [run_append_grow (P:=P) w t ty e i zv hu hi J ⟨p,0,none⟩ n cap xs s.1 holds ad m c news q A aa aa (growslice_fits aa C)] at a
     cases a
     simp only [Value.ownBlock,Option.some.injEq] at hk
     exact .inr aa
theorem ap {t e size bytes B n m c:Nat} {v:Value} {xs news:List Value} {a:Option Addr} (ag:eo P t e size bytes=true) (q:w.ownsRow B e size v n xs) (O:ev N σ x=v) (Z:B≤w.heap.size)
 (U:ev N σ y= .slice a m c) (E:aw w.heap a news) (s:news.length=m*size) (h1:news.all Value.oneCell'=true) (A:(n+m)*bytes≤140737488355328) (aj:n+m≤9223372036854775807)
 (k:∀ p w',w'.ownsRow B e size p (n+m) (xs++news)→Md (fun k=>v.ownBlock=some k) w w'→(p= .slice none 0 0↔v= .slice none 0 0∧m=0)→(∀ k,p.ownBlock=some k→v.ownBlock=some k∨w.heap.size≤k)→K (eb σ dst p) w'):
 bP P N ⟨dst,.call ⟨.builtin .append,#[x,y],#[t,t]⟩,ty,pos,af,g⟩ σ w K:=by
 obtain ⟨hu,i,zv,hi,V,hs,C,Y,J⟩:=ly ag
 have G:n+m≤maxLen:=by unfold maxLen; omega
 by_cases hm:news= []
 · subst hm
   have ac:m=0:=by
    rcases Nat.mul_eq_zero.1 (s.symm.trans rfl) with h | h
    · exact h
    · omega
   subst ac
   have ae:(Builtin.append_ #[t,t] ty #[v,.slice a 0 c]).run P w= .ok v w:=by
    rcases q.2 with ⟨rfl,rfl⟩ | ⟨ai,cap,cur,rfl,_,_,hle,_⟩
    · cases a <;> simp [Builtin.append_,cG hu,sizeOf,eK hi,Builtin.lenOf,Builtin.firstCells,loadCells,loadCellsFrom]
    · cases a <;> simp [Builtin.append_,cG hu,sizeOf,eK hi,Builtin.lenOf,Builtin.firstCells,loadCells,loadCellsFrom,hle,storeCells]
   refine jh (w':=w) (v:=v) ?_ (k v w (by simpa using q) (Md.refl _ _) (by simp) (fun _ h=> .inl h))
   simp [execOp,resolve,invoke,builtin,O,U,ae]
 · have aa:=E.ok hm
   have I:∀ j u,news[j]? =some u→w.cell? ((⟨bk a,fo a,none⟩:Addr).add j)=some u:=fun j u hu=>by rw [hZ,iZ]; exact E.aG j u hu
   obtain ⟨p,w',M,h2,h3,h4⟩:=run_append_own (P:=P) w B t ty e i zv size bytes hu hi V hs C Y J v n xs q ⟨bk a,fo a,none⟩ m c news s I (mE h1) G A Z
   subst hs C
   have ab:=yN hu hi V Y J q s I (mE h1) G A M
   refine jh (w':=w') (v:=p) ?_ (k p w' h2 ⟨h3.os,h3.output,h3.size,fun k hk ad=>h3.block k hk (fun e=>ad e.symm)⟩ h4 ab)
   have ah:ev N σ y= .slice (some ⟨bk a,fo a,none⟩) m c:=U.trans (congrArg (fun a=>Value.slice a m c) aa)
   simp [execOp,resolve,invoke,builtin,O,ah,M]
theorem aQ {t n len cap:Nat} {k:IntKind} {i:Int} {a:Option Addr} (he:eH P t=some n) (j:ev N σ x= .slice a len cap) (p:ev N σ y= .int k i) (c:0≤i∧i < len) (q:a=some ⟨bk a,fo a,none⟩):
 (execOp (ev N σ) ⟨dst,.indexAddr t x y,ty,pos,af,g⟩).run P w= .ok (.value (.pointer (some ⟨bk a,fo a+i.toNat*n,none⟩))) w:=
 ia he (by rw [j]; congr 1) p c
end
theorem bK {F:Nat→Prop} {w w':World} {B e size n:Nat} {v:Value} {xs:List Value} (h:w.ownsRow B e size v n xs) (hm:Md F w w') (c:∀ k,v.ownBlock=some k→¬F k):w'.ownsRow B e size v n xs:=by
 refine ⟨h.1,?_⟩
 rcases h.2 with hn | ⟨g,cap,cur,rfl,a,i,rest⟩
 · exact .inl hn
 · exact .inr ⟨g,cap,cur,U,a,hm.aC i (c g U),rest⟩
section
variable {P:Program} {N:Fm} {σ:Nat→Value} {w:World} {dst:Option Nat} {ty:TypeId} {pos :String} {af:Array Edge} {g:Option (Nat×Bool)} {x y z:Operand} {K:(Nat→Value)→World→Prop}
theorem kM {t B e size n cap off j:Nat} {a:Option Addr} {xs:List Value} {u:Value} (M:w.ownsRow B e size (.slice a n cap) n xs) (Z:cU P t=some 1) (V:ev N σ x= .pointer (some ⟨bk a,off,none⟩)) (Y:ev N σ y=u) (h1:u.oneCell'=true)
 (G:off =fo a+j) (J:j < n*size)
 (k:∀ w',Md (fun k=>(Value.slice a n cap).ownBlock=some k) w w'→w'.ownsRow B e size (.slice a n cap) n (xs.set j u)→K σ w'):bP P N ⟨none,.store t x y,ty,pos,af,g⟩ σ w K:=by
 obtain ⟨p,h⟩:=M
 rcases h with ⟨h,rfl⟩ | ⟨c,aa,cur,h,q,E,hle,C,i,O⟩
 · simp at J
 · simp only [Value.slice.injEq,true_and] at h
   obtain ⟨rfl,rfl⟩:=h
   have I:off =j:=by rw [G]; simp [fo]
   subst I
   have hlen:off < cur.toList.length:=by
    have :=Nat.mul_le_mul_right size hle
    rw [Array.length_toList,i]; omega
   refine dp (L:=cur.toList) Z V Y h1 (show w.heap[c]? =_ by simpa using E) hlen fun w' A s=>k w' (A.mono (fun k _ hk=>by subst hk; rfl)) ⟨by simpa using p,.inr ⟨c,cap,_,U,q,s,hle,C,by simpa using i,?_⟩⟩
   rw [← O]
   simp only
   rw [List.take_set]
end
theorem dR {w:World} {B e size n:Nat} {v:Value} {xs:List Value} (h:w.ownsRow B e size v n xs):v.oneCell'=true :=by
 rcases h.2 with ⟨rfl,_⟩ | ⟨g,cap,cur,rfl,_⟩ <;> rfl
theorem cE {w:World} {B e size n:Nat} {v:Value} {xs:List Value} (h:w.ownsRow B e size v n xs):∃ a cap,v= .slice a n cap:=by
 rcases h.2 with ⟨rfl,rfl⟩ | ⟨g,cap,cur,rfl,_⟩
 · exact ⟨_,_,U⟩
 · exact ⟨_,_,U⟩
theorem ir {w:World} {B p e i size E n C:Nat} {v j:Value} {xs G:List Value} (h:w.ownsRow B e size v n xs) (q:w.ownsRow p i E j C G) (A:e≠i) {k:Nat} (hk:v.ownBlock=some k):j.ownBlock≠some k:=by
 intro c
 rcases h.2 with ⟨rfl,_⟩ | ⟨g,cap,cur,rfl,_,s,_⟩
 · simp [Value.ownBlock] at hk
 · rcases q.2 with ⟨rfl,_⟩ | ⟨M,I,J,rfl,_,a,_⟩
   · simp [Value.ownBlock] at c
   · simp only [Value.ownBlock,Option.some.injEq] at hk c
     subst hk c
     rw [s] at a
     simp only [Option.some.injEq,Obj.cells.injEq] at a
     exact A a.2.1
theorem aE {w w':World} {B e size n:Nat} {v:Value} {xs:List Value} (h:w.ownsRow B e size v n xs) (hm:Wk w w'):w'.ownsRow B e size v n xs:=bK h hm (fun _ _ x=>x)
theorem c4 {w:World} {B e size n:Nat} {v:Value} {xs:List Value} (h:w.ownsRow B e size v n xs) {k:Nat} (hk:v.ownBlock=some k):B≤k∧k < w.heap.size:=h.lt k hk
theorem Wk.own {a w w':World} {B e size n:Nat} {v:Value} {xs:List Value} (h:Wk a w) (c:w.ownsRow B e size v n xs) (hm:Md (fun k=>v.ownBlock=some k) w w') (j:a.heap.size≤B):Wk a w':=
 Md.trans' h hm (fun k hk i=>by have :=(c4 c i).1; omega)
theorem l7 {w:World} {B e size n:Nat} {v:Value} {xs:List Value} (h:w.ownsRow B e size v n xs):∃ a cap,v= .slice a n cap∧aw w.heap a xs∧n≤cap∧(∀ k,v.ownBlock=some k→a=some ⟨k,0,none⟩∧B≤k∧k < w.heap.size)∧(v.ownBlock=none→xs= []):=by
 rcases h.2 with ⟨rfl,rfl⟩ | ⟨g,cap,cur,rfl,i,c,hle,_,_,p⟩
 · have :xs= []:=List.eq_nil_of_length_eq_zero (by simpa using h.1)
   subst this
   exact ⟨none,0,U,aw.nil _ _,Nat.le_refl _,fun k hk=>by simp [Value.ownBlock] at hk,fun _=>rfl⟩
 · refine ⟨_,cap,U,⟨fun _=>rfl,fun j u hu=> ?_⟩,hle,fun k hk=> ?_,fun hk=>by simp [Value.ownBlock] at hk⟩
   · show aG w.heap g (0 +j)=_
     rw [Nat.zero_add,a4 c]
     rw [← p,List.getElem?_take] at hu
     split at hu
     · simpa using hu
     · cases hu
   · simp only [Value.ownBlock,Option.some.injEq] at hk; subst hk
     exact ⟨U,i,(Array.getElem?_eq_some_iff.1 c).1⟩
theorem aJ {w:World} {B e size n cap:Nat} {a:Option Addr} {xs:List Value} (h:w.ownsRow B e size (.slice a n cap) n xs):n≤cap∧aw w.heap a xs:=by
 obtain ⟨j,p,c,i,hle,_⟩:=l7 h
 simp only [Value.slice.injEq,true_and] at c
 obtain ⟨rfl,rfl⟩:=c
 exact ⟨hle,i⟩
theorem ga {w:World} {B a e size n:Nat} {v:Value} {xs:List Value} (h:w.ownsRow B e size v n xs) (c:a≤B):w.ownsRow a e size v n xs:=by
 refine ⟨h.1,?_⟩
 rcases h.2 with h | ⟨g,cap,cur,h1,h2,r⟩
 · exact .inl h
 · exact .inr ⟨g,cap,cur,h1,Nat.le_trans c h2,r⟩
theorem aw.drop {h:Array Obj} {a:Option Addr} {xs:List Value} (c:aw h a xs) {cap k size:Nat} (q:xs.length≤cap*size):aw h (dz a cap k size) (xs.drop (k*size)):=by
 unfold dz
 by_cases hk:cap=k
 · rw [if_pos hk,List.drop_eq_nil_of_le (by rw [← hk]; exact q)]; exact aw.nil _ _
 · rw [if_neg hk]
   by_cases i:xs= []
   · subst i; rw [List.drop_nil]; exact aw.nil _ _
   · have p:=c.ok i
     rw [p]
     simp only [Option.map_some,hZ]
     refine ⟨fun _=>rfl,fun j u hu=> ?_⟩
     rw [List.getElem?_drop] at hu
     have :=c.aG _ _ hu
     show Hb.aG h (bk a) (fo a+k*size+j)=_
     rw [Nat.add_assoc]; exact this
theorem FI {w:World} {B e size n cap:Nat} {a:Option Addr} {xs:List Value} (h:w.ownsRow B e size (.slice a n cap) n xs) (i:xs≠[]):B≤bk a∧bk a < w.heap.size:=by
 obtain ⟨j,p,c,_,_,h1,h2⟩:=l7 h
 simp only [Value.slice.injEq,true_and] at c
 obtain ⟨rfl,rfl⟩:=c
 cases hk:(Value.slice a n cap).ownBlock with
 | none=>exact absurd (h2 hk) i
 | some k=>
   obtain ⟨rfl,h3,h4⟩:=h1 k hk
   exact ⟨h3,h4⟩
section
variable {P:Program} {N:Fm} {σ:Nat→Value} {w:World} {dst:Option Nat} {ty:TypeId} {pos :String} {af:Array Edge} {g:Option (Nat×Bool)} {x y z:Operand} {K:(Nat→Value)→World→Prop}
end
end Go.Hb
namespace Go.Hb
open Go.RowKit
section
variable {P:Program} {md:Region.Mode} {ops:Array Oper} {Q:Exit→Act→World→Prop} {S:World→Prop} {r:Nat}
def kq (P:Program) (md:Region.Mode) (ops:Array Oper) (Q:Exit→Act→World→Prop) (S:World→Prop) (r:Nat):Nat→Array Bool→Act→World→Prop
 | 0,aR,a,w=>Region.ready md ops aR= []∧Q .normal a w
 | fuel+1,aR,a,w=>
   (Region.ready md ops aR= []→Q .normal a w)∧
   ∀ i∈Region.ready md ops aR,wpOp P ops Q i (fun c w'=>((aR.setIfInBounds i true).getD r false =false→S w')∧kq P md ops Q S r fuel (aR.setIfInBounds i true) c w') a w
theorem x5:∀ (fuel:Nat) (aR:Array Bool) (a:Act) (w:World),kq P md ops Q S r fuel aR a w→wpAny P md ops Q fuel aR a w
 | 0,_,_,_,h=>h
 | fuel+1,_,_,_,h=>⟨h.1,fun i hi=>wpOp_mono (fun c w' j=>x5 fuel _ c w' j.2) (h.2 i hi)⟩
theorem H8 {i:Nat} {A:Oper} {v:Value} (hi:ops[i]? =some A) (ae:∀ (j:Nat) (o:Oper) cs b,ops[j]? =some o→o.op≠.select cs b)
 (ai:∀ c a w,Q (.panic c) (a.put A.dst v) w→Q (.panic c) a w) (aq:∀ o,ops[r]? =some o→∃ x∈o.after,Region.binds md x=true∧x.on=i) (al:i≠r):
 ∀ (fuel:Nat) (aR:Array Bool) (a:Act) (w:World),
   (∀ j q,ops[j]? =some q→j≠i→aR.getD j true =false→(∀ x∈q.after,Region.binds md x=true→x.on≠i)→A.apart ops q=true)→
   i∈Region.ready md ops aR→YieldsIf P ops S A v a→S w→aR.getD r false =false→
   kq P md ops Q S r fuel (aR.setIfInBounds i true) (a.put A.dst v) w→kq P md ops Q S r (fuel+1) aR a w:=by
 intro fuel
 induction fuel with
 | zero=>
   intro aR a w _ s I C _ H
   refine ⟨fun h=>(by rw [h] at s; cases s),fun j E=> ?_⟩
   by_cases p:j=i
   · subst p; exact I.wpOp hi C ⟨fun _=>C,H⟩
   · have :=ready_mono E p
     rw [H.1] at this
     cases this
 | succ fuel ar=>
   intro aR a w V s I C ab H
   refine ⟨fun h=>(by rw [h] at s; cases s),fun j E=> ?_⟩
   by_cases p:j=i
   · subst p; exact I.wpOp hi C ⟨fun _=>C,H⟩
   · have h1:=H.2 j (ready_mono E p)
     obtain ⟨aa,q,G,aj⟩:=mem_ready.1 E
     have ad:∀ x∈q.after,Region.binds md x=true→x.on≠i:=fun x O M heq=>by
      have h1:=aj x O M
      have U:=(mem_ready.1 s).1
      rw [heq] at h1
      rcases Nat.lt_or_ge i aR.size with J | J
      · simp [J] at U h1; rw [U] at h1; cases h1
      · simp [Array.getElem?_eq_none J] at h1
     have Z:j≠r:=by
      rintro rfl
      obtain ⟨x,O,M,ap⟩:=aq q G
      exact ad x O M ap
     have an:(aR.setIfInBounds j true).getD r false =false :=by rw [getD_set_ne false Z]; exact ab
     have ac:((aR.setIfInBounds i true).setIfInBounds j true).getD r false =false :=by rw [getD_set_ne false Z,getD_set_ne false al]; exact ab
     have h2:=wpOp_putIf G (V j q G p aa ad) (fun cs b=>ae i A cs b hi) (fun cs b=>ae j q cs b G) ai I h1
     have ak:∀ k ok,ops[k]? =some ok→k≠i→(aR.setIfInBounds j true).getD k true =false→
      (∀ x∈ok.after,Region.binds md x=true→x.on≠i)→A.apart ops ok=true :=fun k ok hk am ag ao=>by
      refine V k ok hk am ?_ ao
      by_cases Y:j=k
      · subst Y; exact aa
      · rw [getD_set_ne true Y] at ag; exact ag
     refine wpOp_mono (fun ah w' h3=>⟨fun _=>h3.2.1 ac,ar (aR.setIfInBounds j true) ah w' ak (ready_mono s (Ne.symm p)) h3.1 (h3.2.1 ac) an ?_⟩) h2
     rw [Array.setIfInBounds_comm _ _ p]
     exact h3.2.2
end
section
variable {P:Program} {N:Fm} {ops:Array Oper} {Q:Exit→(Nat→Value)→World→Prop} {σ:Nat→Value} {w:World} {S:World→Prop} {r fuel:Nat} {aR:Array Bool}
 {d':Option Nat} {d:Nat} {op:Op} {ty:TypeId} {pos :String} {af:Array Edge} {v:Value}
def et (P:Program) (N:Fm) (ops:Array Oper) (Q:Exit→(Nat→Value)→World→Prop) (S:World→Prop) (r fuel:Nat) (aR:Array Bool) (σ:Nat→Value) (w:World):Prop :=
 kq P .any ops (lift N Q) S r fuel aR (act N σ) w
theorem dy {id:Nat} {l:List Oper} (S:World→Prop) (r:Nat) (a:l6 N.r l=true) (hm:P.follows .mixedOrders=true) (c:S w.drew) (h:et P N l.toArray Q S r l.length (Array.replicate l.length false) σ w.drew):ca P N (.region id l.toArray true) Q σ w:=by
 exact sM a hm (x5 _ _ _ _ (by rw [List.size_toArray]; exact h))
def vb (F:List Nat) (ops:Array Oper) (aR:Array Bool) (r i:Nat):Bool:=
 gU F ops aR i && !(aR.getD r false) && i !=r && (match ops[r]? with | some o=>o.after.toList.any (fun x=>Region.binds .any x && x.on==i) | none=>false)
theorem lq (i:Nat) (hi:ops[i]? =some ⟨some d,op,ty,pos,af,none⟩) (p:vb N.F ops aR r i=true)
 (E:∀ w,S w→(execOp (ev N σ) ⟨some d,op,ty,pos,af,none⟩).run P w= .ok (.value v) w) (j:S w)
 (k:et P N ops Q S r fuel (aR.setIfInBounds i true) (cw σ d v) w):et P N ops Q S r (fuel+1) aR σ w:=by
 simp only [vb,gU,Bool.and_eq_true,Bool.not_eq_true',bne_iff_ne,ne_eq] at p
 obtain ⟨⟨⟨⟨⟨⟨q,s⟩,hf3⟩,hfF⟩,hf4⟩,hf5⟩,hf6⟩:=p
 rw [hi] at hfF
 refine H8 hi (Region.noSelect_spec q) (fun c a w=>l0 hfF c a w) (fun o A=> ?_) hf5 fuel aR _ w (Region.free_spec hi s) (by simpa using hf3) (.inl ⟨fO _ rfl _,fun w j=> ?_⟩) j hf4 ?_ (v:=v)
 · rw [A] at hf6
   simp only [List.any_eq_true,Bool.and_eq_true,beq_iff_eq] at hf6
   obtain ⟨x,C,h1,h2⟩:=hf6
   exact ⟨x,Array.mem_toList_iff.1 C,h1,h2⟩
 · rw [eL]; exact E w j
 · rw [gv]; exact k
theorem vJ (i:Nat) (hi:ops[i]? =some ⟨d',op,ty,pos,af,none⟩) (j:iQ ops aR i=true)
 (h:bP P N ⟨d',op,ty,pos,af,none⟩ σ w (fun σ w=>((aR.setIfInBounds i true).getD r false =false→S w)∧et P N ops Q S r fuel (aR.setIfInBounds i true) σ w)):et P N ops Q S r (fuel+1) aR σ w:=by
 have a:Region.ready .any ops aR= [i]:=by simpa [iQ] using j
 refine ⟨fun c=>absurd (a ▸ c) (by simp),fun k hk=> ?_⟩
 rw [a] at hk
 obtain rfl :k=i:=by simpa using hk
 unfold wpOp
 simp only [hi]
 rw [if_pos (fO _ rfl _)]
 exact .inl (mr h (fun _ _ hk=>hk))
theorem gA (i:Nat) (hi:ops[i]? =some ⟨d',op,ty,pos,af,none⟩) (a:iQ ops aR i=true)
 (h:bP P N ⟨d',op,ty,pos,af,none⟩ σ w (fun σ w=>S w∧et P N ops Q S r fuel (aR.setIfInBounds i true) σ w)):et P N ops Q S r (fuel+1) aR σ w:=
 vJ i hi a (x6 h fun _ _ hk=>⟨fun _=>hk.1,hk.2⟩)
theorem bV (i:Nat) (hi:ops[i]? =some ⟨d',op,ty,pos,af,none⟩) (j:iQ ops aR i=true) (c:(aR.setIfInBounds i true).getD r false =true)
 (h:bP P N ⟨d',op,ty,pos,af,none⟩ σ w (fun σ w=>et P N ops Q S r fuel (aR.setIfInBounds i true) σ w)):et P N ops Q S r (fuel+1) aR σ w:=
 vJ i hi j (x6 h fun _ _ hk=>⟨fun a=>absurd (a.symm.trans c) Bool.noConfusion,hk⟩)
theorem dx (c:(Region.ready .any ops aR).isEmpty=true) (h:Q .normal σ w):et P N ops Q S r fuel aR σ w:=by
 have a:Region.ready .any ops aR= []:=by simpa using c
 cases fuel with
 | zero=>exact ⟨a,σ,rfl,h⟩
 | succ fuel=>exact ⟨fun _=>⟨σ,rfl,h⟩,by rw [a]; simp⟩
attribute [irreducible] et
end
end Go.Hb
namespace Go.Hb
open Go.RowKit
section
variable {P:Program} {md:Region.Mode} {ops:Array Oper} {Q:Exit→Act→World→Prop} {S:World→Prop} {r:Nat}
inductive kQ (md:Region.Mode) (ops:Array Oper) (i:Nat):Nat→Prop
 | one {r o e} :ops[r]? =some o→e∈o.after→Region.binds md e=true→e.on=i→kQ md ops i r
 | more {r o e} :ops[r]? =some o→e∈o.after→Region.binds md e=true→kQ md ops i e.on→kQ md ops i r
def lC (md:Region.Mode) (ops:Array Oper) (aR:Array Bool):Prop := ∀ (j:Nat) (o:Oper),ops[j]? =some o→aR.getD j false =true→∀ e∈o.after,Region.binds md e=true→aR.getD e.on false =true
theorem vc {aR:Array Bool} {j k:Nat} (h:aR.getD k false =true):(aR.setIfInBounds j true).getD k false =true :=by
 by_cases e:j=k
 · subst e
   by_cases a:j < aR.size
   · simp [a]
   · simp [a] at h
 · rw [getD_set_ne false e]; exact h
theorem lC.set {aR:Array Bool} {j:Nat} (h:lC md ops aR) (q:j∈Region.ready md ops aR):lC md ops (aR.setIfInBounds j true):=by
 intro k o hk i e he c
 obtain ⟨_,A,s,p⟩:=mem_ready.1 q
 by_cases a:j=k
 · subst a
   rw [s] at hk; cases hk
   exact vc (p e he c)
 · rw [getD_set_ne false a] at i
   exact vc (h k o hk i e he c)
theorem kQ.aR {aR:Array Bool} {i r:Nat} (hd:kQ md ops i r) (j:lC md ops aR) (a:∀ o,ops[r]? =some o→∀ e∈o.after,Region.binds md e=true→aR.getD e.on false =true):aR.getD i false =true :=by
 induction hd with
 | one h1 h2 h3 h4=>rw [← h4]; exact a _ h1 _ h2 h3
 | more h1 h2 h3 _ q=>exact q fun o p e he c=>j _ o p (a _ h1 _ h2 h3) e he c
theorem H7 {i:Nat} {s:Oper} {v:Value} (hi:ops[i]? =some s) (ag:∀ (j:Nat) (o:Oper) cs b,ops[j]? =some o→o.op≠.select cs b)
 (aj:∀ c a w,Q (.panic c) (a.put s.dst v) w→Q (.panic c) a w) (hd:kQ md ops i r) (am:i≠r):
 ∀ (fuel:Nat) (aR:Array Bool) (a:Act) (w:World),lC md ops aR→
   (∀ j A,ops[j]? =some A→j≠i→aR.getD j true =false→(∀ x∈A.after,Region.binds md x=true→x.on≠i)→s.apart ops A=true)→
   i∈Region.ready md ops aR→YieldsIf P ops S s v a→S w→aR.getD r false =false→
   kq P md ops Q S r fuel (aR.setIfInBounds i true) (a.put s.dst v) w→kq P md ops Q S r (fuel+1) aR a w:=by
 intro fuel
 induction fuel with
 | zero=>
   intro aR a w _ _ q I C _ H
   refine ⟨fun h=>(by rw [h] at q; cases q),fun j E=> ?_⟩
   by_cases p:j=i
   · subst p; exact I.wpOp hi C ⟨fun _=>C,H⟩
   · have :=ready_mono E p
     rw [H.1] at this
     cases this
 | succ fuel au=>
   intro aR a w U V q I C ac H
   refine ⟨fun h=>(by rw [h] at q; cases q),fun j E=> ?_⟩
   by_cases p:j=i
   · subst p; exact I.wpOp hi C ⟨fun _=>C,H⟩
   · have h1:=H.2 j (ready_mono E p)
     obtain ⟨ab,A,G,O⟩:=mem_ready.1 E
     have Y:aR.getD i false =false :=by
      have M:=(mem_ready.1 q).1
      rcases Nat.lt_or_ge i aR.size with J | J
      · simpa [J] using M
      · simp [J] at M
     have aq:∀ x∈A.after,Region.binds md x=true→x.on≠i:=fun x ar ak heq=>by
      have h1:=O x ar ak
      rw [heq,Y] at h1; cases h1
     have aa:j≠r:=by
      rintro rfl
      have :=hd.aR U (fun o ae=>by rw [G] at ae; cases ae; exact O)
      rw [Y] at this; cases this
     have ao:(aR.setIfInBounds j true).getD r false =false :=by rw [getD_set_ne false aa]; exact ac
     have ad:((aR.setIfInBounds i true).setIfInBounds j true).getD r false =false :=by rw [getD_set_ne false aa,getD_set_ne false am]; exact ac
     have h2:=wpOp_putIf G (V j A G p ab aq) (fun cs b=>ag i s cs b hi) (fun cs b=>ag j A cs b G) aj I h1
     have al:∀ k ok,ops[k]? =some ok→k≠i→(aR.setIfInBounds j true).getD k true =false→
      (∀ x∈ok.after,Region.binds md x=true→x.on≠i)→s.apart ops ok=true :=fun k ok hk an ah ap=>by
      refine V k ok hk an ?_ ap
      by_cases Z:j=k
      · subst Z; exact ab
      · rw [getD_set_ne true Z] at ah; exact ah
     refine wpOp_mono (fun ai w' h3=>⟨fun _=>h3.2.1 ad,au (aR.setIfInBounds j true) ai w' (U.set E) al (ready_mono q (Ne.symm p)) h3.1 (h3.2.1 ad) ao ?_⟩) h2
     rw [Array.setIfInBounds_comm _ _ p]
     exact h3.2.2
theorem H9 {i:Nat} {s:Oper} {v:Value} (hi:ops[i]? =some s) (ab:∀ (j:Nat) (o:Oper) cs b,ops[j]? =some o→o.op≠.select cs b)
 (ae:∀ c a w,Q (.panic c) (a.put s.dst v) w→Q (.panic c) a w) (J:i≠r):
 ∀ (fuel:Nat) (aR:Array Bool) (a:Act) (w:World),
   (∀ j A,ops[j]? =some A→j≠i→aR.getD j true =false→(∀ x∈A.after,Region.binds md x=true→x.on≠i)→s.apart ops A=true)→
   i∈Region.ready md ops aR→YieldsIf P ops (fun _=>True) s v a→(aR.getD r false =false→S w)→
   kq P md ops Q S r fuel (aR.setIfInBounds i true) (a.put s.dst v) w→kq P md ops Q S r (fuel+1) aR a w:=by
 intro fuel
 induction fuel with
 | zero=>
   intro aR a w _ q E I H
   refine ⟨fun h=>(by rw [h] at q; cases q),fun j C=> ?_⟩
   by_cases p:j=i
   · subst p; exact E.wpOp hi trivial ⟨fun h=>I (by rw [getD_set_ne false J] at h; exact h),H⟩
   · have :=ready_mono C p
     rw [H.1] at this
     cases this
 | succ fuel ao=>
   intro aR a w V q E I H
   refine ⟨fun h=>(by rw [h] at q; cases q),fun j C=> ?_⟩
   by_cases p:j=i
   · subst p; exact E.wpOp hi trivial ⟨fun h=>I (by rw [getD_set_ne false J] at h; exact h),H⟩
   · have h1:=H.2 j (ready_mono C p)
     obtain ⟨aa,A,M,ag⟩:=mem_ready.1 C
     have aj:aR.getD i false =false :=by
      have O:=(mem_ready.1 q).1
      rcases Nat.lt_or_ge i aR.size with G | G
      · simpa [G] using O
      · simp [G] at O
     have am:∀ x∈A.after,Region.binds md x=true→x.on≠i:=fun x an ah heq=>by
      have h1:=ag x an ah
      rw [heq,aj] at h1; cases h1
     have h2:=wpOp_putIf M (V j A M p aa am) (fun cs b=>ab i s cs b hi) (fun cs b=>ab j A cs b M) ae E h1
     have ai:∀ k ok,ops[k]? =some ok→k≠i→(aR.setIfInBounds j true).getD k true =false→
      (∀ x∈ok.after,Region.binds md x=true→x.on≠i)→s.apart ops ok=true :=fun k ok hk ak ac al=>by
      refine V k ok hk ak ?_ al
      by_cases Z:j=k
      · subst Z; exact aa
      · rw [getD_set_ne true Z] at ac; exact ac
     have U:(aR.setIfInBounds i true).setIfInBounds j true =(aR.setIfInBounds j true).setIfInBounds i true :=Array.setIfInBounds_comm _ _ (fun e=>p e.symm)
     have Y:(aR.setIfInBounds j true).getD r false =false→((aR.setIfInBounds i true).setIfInBounds j true).getD r false =false :=fun h=>by rw [U,getD_set_ne false J]; exact h
     refine wpOp_mono (fun ad w' h3=>⟨fun h=>h3.2.1 (Y h),ao (aR.setIfInBounds j true) ad w' ai (ready_mono q (Ne.symm p)) h3.1 (fun h=>h3.2.1 (Y h)) ?_⟩) h2
     rw [← U]
     exact h3.2.2
end
section
variable {P:Program} {N:Fm} {ops:Array Oper} {Q:Exit→(Nat→Value)→World→Prop} {σ:Nat→Value} {w:World} {S:World→Prop} {r fuel:Nat} {aR:Array Bool}
 {d:Nat} {op:Op} {ty:TypeId} {pos :String} {af:Array Edge} {v:Value}
def oq (ops:Array Oper) (i:Nat):Nat→Nat→Bool
 | 0,_=>false
 | f+1,r=>match ops[r]? with | some o=>o.after.toList.any (fun e=>Region.binds .any e && (e.on==i || oq ops i f e.on)) | none=>false
theorem BZ {i:Nat} :∀ (f r:Nat),oq ops i f r=true→kQ .any ops i r:=by
 intro f
 induction f with
 | zero=>intro r h; cases h
 | succ f j=>
   intro r h
   rw [oq] at h
   split at h
   · rename_i o c
     simp only [List.any_eq_true,Bool.and_eq_true,Bool.or_eq_true,beq_iff_eq] at h
     obtain ⟨e,he,a,h⟩:=h
     rcases h with h | h
     · exact .one c (Array.mem_toList_iff.1 he) a h
     · exact .more c (Array.mem_toList_iff.1 he) a (j _ h)
   · cases h
def qi (ops:Array Oper) (aR:Array Bool):Bool:=(List.range ops.size).all fun j=> !aR.getD j false || match ops[j]? with | some o=>o.after.toList.all (fun e=> !Region.binds .any e || aR.getD e.on false) | none=>true
theorem AS (h:qi ops aR=true):lC .any ops aR:=by
 intro j o a i e he c
 unfold qi at h
 rw [List.all_eq_true] at h
 have h1:=h j (List.mem_range.2 (Array.getElem?_eq_some_iff.1 a).1)
 rw [i,a] at h1
 simp only [Bool.not_true,Bool.false_or,List.all_eq_true,Bool.or_eq_true,Bool.not_eq_true'] at h1
 rcases h1 e (Array.mem_toList_iff.2 he) with h2 | h2
 · rw [c] at h2; cases h2
 · exact h2
def qO (F:List Nat) (ops:Array Oper) (aR:Array Bool) (r i:Nat):Bool:=gU F ops aR i && !(aR.getD r false) && i !=r && qi ops aR && oq ops i ops.size r
def oL (F:List Nat) (ops:Array Oper) (aR:Array Bool) (r i:Nat):Bool:=gU F ops aR i && i !=r
theorem fZ (i:Nat) (hi:ops[i]? =some ⟨some d,op,ty,pos,af,none⟩) (p:qO N.F ops aR r i=true)
 (A:∀ w,S w→(execOp (ev N σ) ⟨some d,op,ty,pos,af,none⟩).run P w= .ok (.value v) w) (j:S w)
 (k:et P N ops Q S r fuel (aR.setIfInBounds i true) (cw σ d v) w):et P N ops Q S r (fuel+1) aR σ w:=by
 simp only [qO,gU,Bool.and_eq_true,Bool.not_eq_true',bne_iff_ne,ne_eq] at p
 obtain ⟨⟨⟨⟨⟨⟨⟨q,s⟩,hf3⟩,hfF⟩,hf4⟩,hf5⟩,hf6⟩,hf7⟩:=p
 rw [hi] at hfF
 unfold et at*
 refine H7 hi (Region.noSelect_spec q) (fun c a w=>l0 hfF c a w) (BZ _ _ hf7) hf5 fuel aR _ w (AS hf6) (Region.free_spec hi s) (by simpa using hf3) (.inl ⟨fO _ rfl _,fun w j=> ?_⟩) j hf4 ?_ (v:=v)
 · rw [eL]; exact A w j
 · rw [gv]; exact k
theorem bD (i:Nat) (hi:ops[i]? =some ⟨some d,op,ty,pos,af,none⟩) (j:oL N.F ops aR r i=true)
 (A:∀ w,(execOp (ev N σ) ⟨some d,op,ty,pos,af,none⟩).run P w= .ok (.value v) w) (p:aR.getD r false =false→S w)
 (k:et P N ops Q S r fuel (aR.setIfInBounds i true) (cw σ d v) w):et P N ops Q S r (fuel+1) aR σ w:=by
 simp only [oL,gU,Bool.and_eq_true,bne_iff_ne,ne_eq] at j
 obtain ⟨⟨⟨⟨q,s⟩,hf3⟩,hfF⟩,hf5⟩:=j
 rw [hi] at hfF
 unfold et at*
 refine H9 hi (Region.noSelect_spec q) (fun c a w=>l0 hfF c a w) hf5 fuel aR _ w (Region.free_spec hi s) (by simpa using hf3) (.inl ⟨fO _ rfl _,fun w _=> ?_⟩) p ?_ (v:=v)
 · rw [eL]; exact A w
 · rw [gv]; exact k
end
end Go.Hb
namespace Go.Hb
def xT:Nat→Nat→List UInt8
 | 0,n=> [UInt8.ofNat n]
 | f+1,n=>if n < 128 then [UInt8.ofNat n] else UInt8.ofNat (n % 128 +128)::xT f (n / 128)
def HP (n:Nat):List UInt8:=xT n n
def frame:List (List UInt8)→List UInt8
 | []=> []
 | r::l=>HP r.length++(r++frame l)
theorem eT {α:Type} (l:List α) (i:Nat) (d:α) (h:i < l.length):l.take (i+1)=l.take i++ [l.getD i d]:=by
 rw [List.take_succ_eq_append_getElem h]; simp [List.getD_eq_getElem?_getD,h]
end Go.Hb
namespace Go.Hb
open Go.RowKit
def U8 (l:List UInt8):List Value:=l.map fun b=>Value.int .u8 b.toNat
theorem nR (l:List UInt8):(U8 l).length=l.length:=by simp [U8]
theorem nQ (a b:List UInt8):U8 (a++b)=U8 a++U8 b:=by simp [U8]
theorem yr (l:List UInt8):(U8 l).all Value.oneCell'=true :=by
 rw [List.all_eq_true]
 intro u hu
 simp only [U8,List.mem_map] at hu
 obtain ⟨b,_,rfl⟩:=hu
 rfl
def n3 (P:Program) (t e u:TypeId):Bool:=
 eo P t e 1 1 && (match P.underlying e with | some (.int .u8)=>true | _=>false) && (match P.underlying u with | some .string=>true | _=>false) &&
  (match P.info? e with | some i=>(match i.zero with | some (.int .u8 0)=>true | _=>false) | none=>false)
theorem zb {P:Program} {t e u:TypeId} (h:n3 P t e u=true):
 eo P t e 1 1=true∧P.underlying e=some (.int .u8)∧P.underlying u=some .string∧∃ i,P.info? e=some i∧i.zero=some (.int .u8 0):=by
 simp only [n3,Bool.and_eq_true] at h
 obtain ⟨⟨⟨h1,h2⟩,h3⟩,h4⟩:=h
 refine ⟨h1,?_,?_,?_⟩
 · split at h2
   · rename_i h; exact h
   · cases h2
 · split at h3
   · rename_i h; exact h
   · cases h3
 · split at h4
   · rename_i i hi
     split at h4
     · rename_i h; exact ⟨i,hi,h⟩
     · cases h4
   · cases h4
section
variable {P:Program} {N:Fm} {σ:Nat→Value} {w:World} {dst:Option Nat} {ty:TypeId} {pos :String} {af:Array Edge} {g:Option (Nat×Bool)} {x y z:Operand} {K:(Nat→Value)→World→Prop}
theorem foldl_push (l:List UInt8) (r:ByteArray):(l.map fun b=>(b.toNat:Int)).foldl (fun r n=>r.push (UInt8.ofNat n.toNat)) r=⟨r.data++l.toArray⟩:=by
 induction l generalizing r with
 | nil=>simp
 | cons b l a=>
   simp only [List.map_cons,List.foldl_cons]
   rw [a]
   apply ByteArray.ext
   simp [ByteArray.push]
theorem k8 {t e u n c:Nat} {a:Option Addr} {l:List UInt8} (h:n3 P t e u=true) (E:ev N σ x= .slice a n c) (i:aw w.heap a (U8 l)) (p:l.length=n):
 (execOp (ev N σ) ⟨dst,.convert t u x,ty,pos,af,g⟩).run P w= .ok (.value (str l)) w:=by
 obtain ⟨h1,h2,h3,_⟩:=zb h
 obtain ⟨hu,_⟩:=ly h1
 have s:(Conv.bytesToString (.slice a n c)).run P w= .ok (str l) w:=by
  by_cases he:l= []
  · subst he
    cases a with
    | none=>simp [Conv.bytesToString,str]; rfl
    | some a=>
      subst p
      have :=run_bytesToString (P:=P) w a 0 c [] (by simp [loadCells,loadCellsFrom])
      exact this.trans U
  · have q:=i.ok (by simpa [U8] using he)
    have C:(loadCells ⟨bk a,fo a,none⟩ n).run P w= .ok ((l.map fun b=>(b.toNat:Int)).map (Value.int .u8)).toArray w:=by
     subst p
     have :=run_loadCells_list (P:=P) w ⟨bk a,fo a,none⟩ (U8 l) fun j v A=>by
      rw [hZ,iZ]
      exact i.aG j v A
     rw [nR] at this
     rw [this]
     simp [U8]
    rw [q,run_bytesToString w _ n c _ C,foldl_push]
    simp [str,ByteArray.empty,ByteArray.emptyWithCapacity]
    rfl
 simp [execOp,E,run_convert_bytes_string w t u e a n c hu h2 h3,s]
theorem HV {at_:Array TypeId} {v:Value} {a:Option Addr} {n c:Nat} (i:ev N σ x= .slice a n c) (h:a=none∨c≠0):
 (execOp (ev N σ) ⟨dst,.call ⟨.builtin .unsafeSliceData,#[x],at_⟩,ty,pos,af,g⟩).run P w= .ok (.value (.pointer a)) w:=by
 have _:=v
 have :(Builtin.unsafeSliceData_ at_ ty #[.slice a n c]).run P w= .ok (.pointer a) w:=by
  cases a with
  | none=>exact Lib.run_unsafeSliceData_nil w at_ ty n c
  | some a=>exact Lib.run_unsafeSliceData_row w at_ ty a n c (h.resolve_left (by simp))
 simp [execOp,resolve,invoke,builtin,i,this]
def ptrTo (P:Program) (c e:TypeId):Bool:=match P.underlying c with | some (.pointer a)=>a==e && P.cellsOf e==1 | _=>false
theorem HW {s it e B n c:Nat} {a:Option Addr} {l:List UInt8} {xs:List Value} (hp:ptrTo P s e=true) (E:ev N σ x= .pointer a) (G:ev N σ y= .int .i64 n) (q:w.ownsRow B e 1 (.slice a n c) n xs)
 (ae:xs=U8 l) (ah:n≤9223372036854775807)
 (k:∀ w',Md (fun k=>(Value.slice a n c).ownBlock=some k) w w'→w'.heap.size=w.heap.size→K (eb σ dst (str l)) w'):
 bP P N ⟨dst,.call ⟨.builtin .unsafeString,#[x,y],#[s,it]⟩,ty,pos,af,g⟩ σ w K:=by
 subst ae
 have i:l.length=n:=by have :=q.1; simpa [U8] using this
 unfold ptrTo at hp
 split at hp
 case h_2=>cases hp
 rename_i A hu
 simp only [Bool.and_eq_true,beq_iff_eq] at hp
 obtain ⟨rfl,J⟩:=hp
 by_cases he:l= []
 · subst he
   obtain rfl :n=0:=i.symm
   refine jh (w':=w) (v:=str []) ?_ (k w (Md.refl _ _) U)
   simp [execOp,resolve,invoke,builtin,E,G,Lib.run_unsafeString_none]
   rfl
 · rcases q.2 with ⟨h,I⟩ | ⟨p,cap,cur,h,_,O,hle,_,ac,ai⟩
   · subst I; simp only [List.length_eq_zero_iff] at i; exact absurd i he
   · simp only [Value.slice.injEq,true_and] at h
     obtain ⟨rfl,rfl⟩:=h
     have ab:w.shape? p=some (A,cur.size):=by simp [World.shape?,O]
     have Z:=Lib.run_unsafeString_row (P:=P) w s it ty A hu J p cur.size ab l he (by rw [i,ac]; omega) aa (fun j u hu=>by
      obtain ⟨ad,ag,C,M,_,hk,_⟩:=l7 q
      simp only [Value.slice.injEq,true_and] at C
      obtain ⟨rfl,rfl⟩:=C
      rw [hZ,iZ]
      exact M.aG j _ (by simp [U8,hu]))
     refine jh (w':=w.freeze ⟨p,0,none⟩ l.length) (v:=str l) ?_ (k _ ⟨?_,?_,?_,?_⟩ ?_)
     · simp [execOp,resolve,invoke,builtin,E,G,← i,Z,str]
     · unfold World.freeze; split <;> rfl
     · unfold World.freeze; split <;> rfl
     · unfold World.freeze; split <;> simp
     · intro k hk V
       have Y:k≠p:=fun e=>V (by simp [Value.ownBlock,e])
       unfold World.freeze
       split
       · rfl
       · simp only [Array.getElem?_modify]; rw [if_neg (fun e=>Y e.symm)]
     · unfold World.freeze; split <;> simp
def nD (P:Program) (c up e n:Nat):Bool:=
 (match P.underlying c with | some (.pointer a)=>a==e | _=>false) && (match P.underlying up with | some .unsafePointer=>true | _=>false) && P.cellsOf e==n && Nat.blt 0 n && (match P.info? e with | some i=>i.size==n | _=>false)
theorem xW {P:Program} {a up e n:Nat} (h:nD P a up e n=true):P.underlying a=some (.pointer e)∧P.underlying up=some .unsafePointer∧P.cellsOf e=n∧0 < n∧∃ i,P.info? e=some i∧i.size=n:=by
 simp only [nD,Bool.and_eq_true] at h
 obtain ⟨⟨⟨⟨h1,h2⟩,h3⟩,h4⟩,h5⟩:=h
 refine ⟨?_,?_,by simpa using h3,Nat.lt_of_lt_of_le (Nat.lt_succ_self 0) (Nat.le_of_ble_eq_true h4),?_⟩
 · split at h1
   · rename_i h; simp only [beq_iff_eq] at h1; rw [h,h1]
   · cases h1
 · split at h2
   · rename_i h; exact h
   · cases h2
 · split at h5
   · rename_i i hi; exact ⟨i,hi,by simpa using h5⟩
   · cases h5
theorem Hy {a up e n b:Nat} {L:List Value} (h:nD P a up e n=true) (s:ev N σ x= .pointer (some ⟨b,0,none⟩)) (c:w.heap[b]? =some (.cells L.toArray e (0,0))) (j:L.length=n):
 (execOp (ev N σ) ⟨dst,.convert a up x,ty,pos,af,g⟩).run P w= .ok (.value (.pointer (some ⟨b,0,none⟩))) w:=by
 obtain ⟨h1,h2,h3,h4,i,hi,hs⟩:=xW h
 have q:w.shape? b=some (e,L.length):=by simp [World.shape?,c]
 have p:¬n=0:=aa
 simp [execOp,s,convert,cG h1,cG h2,Conv.unsafePointer,Conv.seenAt,viewAt,q,cellsIn,j,sizeOf,eK hi,hs,p]
theorem Dh {c up e n b:Nat} {L:List Value} (h:nD P c up e n=true) (A:ev N σ x= .pointer (some ⟨b,0,none⟩)) (j:w.heap[b]? =some (.cells L.toArray e (0,0))) (p:L.length=n):
 (execOp (ev N σ) ⟨dst,.convert up c x,ty,pos,af,g⟩).run P w= .ok (.value (.pointer (some ⟨b,0,none⟩))) w:=by
 obtain ⟨h1,h2,h3,h4,i,hi,hs⟩:=xW h
 have s:w.shape? b=some (e,L.length):=by simp [World.shape?,j]
 have a:¬n=0:=aa
 have q:liesAt P P.depth e (L.length / P.cellsOf e) 0 e 1=true :=by
  have hd:P.depth=(2 *(P.types.size+Made.depth)+1)+1:=rfl
  rw [hd]
  simp only [liesAt,Bool.or_eq_true]
  left
  rw [hd]
  simp [rowAt,h3,a,p,sameLayout,Nat.div_self h4]
 simp [execOp,A,convert,cG h1,cG h2,Conv.unsafePointer,Conv.seenAt,viewAt,s,variablesAt,sizeOf,eK hi,hs,a,q]
theorem E7 {t p e:TypeId} {a:Addr} (hu:P.underlying t=some (.pointer e)) (hs:(P.info? e).isSome=true) (c:ev N σ x= .pointer (some a)) (j:ev N σ y= .pointer (some a)):
 (execOp (ev N σ) ⟨dst,.binOp .neq t x y p,ty,pos,af,g⟩).run P w= .ok (.value (.bool false)) w:=by
 obtain ⟨i,hi⟩:=Option.isSome_iff_exists.1 hs
 have he:∀ d,(Op.equalIn (d+1) t (.pointer (some a)) (.pointer (some a))).run P w= .ok true w:=by
  intro d
  simp [Op.equalIn,cG hu,sizeOf,eK hi,sameAddr]
 have h:(binOp .neq t (.pointer (some a)) (.pointer (some a))).run P w= .ok (.bool false) w:=by
  have :=he 9999
  simp only [binOp]
  have h2:(Op.equal t (.pointer (some a)) (.pointer (some a))).run P w= .ok true w:=this
  simp [h2]
 simp [execOp,c,j,eqGuard,h]
theorem A1 {f:FuncId} {args:Array Operand} {a:Array TypeId} {v:Value} (i:∀ v w,(callFunc f #[v]).run P w= .ok (.value v) w) (c:args.toList.map (ev N σ)= [v]):
 (execOp (ev N σ) ⟨dst,.call ⟨.value (.func f),args,a⟩,ty,pos,af,g⟩).run P w= .ok (.value v) w:=by
 have :args.map (ev N σ)= #[v]:=by rw [← Array.toList_inj,Array.toList_map,c]
 simp [execOp,resolve,ev,Deferred.ofValue,invoke,this,i]
structure Bd (T e:TypeId) (w:World) (b:Nat) (buf:Value) (l:List UInt8):Prop where
 aC:∃ pa,w.heap[b]? =some (.cells [Value.pointer pa,buf].toArray T (0,0))∧(pa=none∨pa=some ⟨b,0,none⟩)
 own:w.ownsRow (b+1) e 1 buf l.length (U8 l)
 nil:buf= .slice none 0 0↔l= []
def BF (b:Nat) (a:Value) (k:Nat):Prop :=k=b∨a.ownBlock=some k
end
theorem Bd.lt {T e b:Nat} {w:World} {a:Value} {l:List UInt8} (h:Bd T e w b a l):b < w.heap.size:=let ⟨_,h,_⟩:=h.aC; (Array.getElem?_eq_some_iff.1 h).1
theorem Bd.eO {T e b:Nat} {w:World} {a:Value} {l:List UInt8} (h:Bd T e w b a l) {k:Nat} (hk:BF b a k):b≤k∧k < w.heap.size:=by
 rcases hk with rfl | hk
 · exact ⟨Nat.le_refl _,h.lt⟩
 · have :=h.own.lt k hk; omega
theorem Bd.md {T e b:Nat} {F:Nat→Prop} {w w':World} {a:Value} {l:List UInt8} (h:Bd T e w b a l) (hm:Md F w w') (c:∀ k,BF b a k→¬F k):Bd T e w' b a l:=by
 obtain ⟨⟨i,h1,h2⟩,h3,h4⟩:=h
 exact ⟨⟨i,hm.aC h1 (c b (.inl U)),h2⟩,bK h3 hm (fun k hk=>c k (.inr hk)),h4⟩
end Go.Hb
namespace Go.Hb
open Go.RowKit
def g7 (P:Program) (t:TypeId):Option (List (Nat×Nat)×List Value):=
 match P.info? t,P.underlying t with
 | some it,some (.struct fields)=>
   match it.zero,fields.toList.mapM (fun f=>(P.info? f.type).map fun i=>(f.offset,i.size)) with
   | some z,some pl=>some (pl,z.cells.toList)
   | _,_=>none
 | _,_=>none
def ng (pl:List (Nat×Nat)):List Value→List (Nat×Value)→Option (List Value)
 | a,[]=>some a
 | a,(i,v)::r=>match pl[i]? with
   | some (off,s)=>if (s==1 && v.oneCell' && Nat.blt off a.length)=true then ng pl (a.set off v) r else none
   | none=>none
theorem Ga {pl:List (Nat×Nat)} {a L:List Value} {ps:List (Nat×Value)} (h:ng pl a ps=some L):Instr.fill (pl.toArray[·]?) a.toArray ps=some L.toArray:=by
 induction ps generalizing a with
 | nil=>simp only [ng,Option.some.injEq] at h; subst h; rfl
 | cons p ps A=>
   obtain ⟨i,v⟩:=p
   simp only [ng] at h
   split at h
   · rename_i off s hs
     split at h
     · rename_i c
       simp only [Bool.and_eq_true,beq_iff_eq] at c
       obtain ⟨⟨rfl,h1⟩,ho⟩:=c
       have C:off < a.length:=Nat.le_of_ble_eq_true ho
       have q:v.cells= #[v]:=jG h1
       have j:pl.toArray[i]? =some (off,1):=by simpa using hs
       simp only [Instr.fill,j,q]
       rw [if_neg (by simp; omega),← A h]
       simp
     · cases h
   · cases h
theorem kD {α:Type} {f:α→List Value} {m:Nat} (c:∀ a,(f a).length=m) (l:List α):(l.flatMap f).length=l.length*m:=by
 induction l with
 | nil=>simp
 | cons x l i=>simp [i,c,Nat.succ_mul,Nat.add_comm]
theorem qE {α:Type} {f:α→List Value} {m:Nat} (i:∀ a,(f a).length=m) {l:List α} {j c:Nat} {a:α} (h:l[j]? =some a) (p:c < m):(l.flatMap f)[j*m+c]? =(f a)[c]? :=by
 induction l generalizing j with
 | nil=>simp at h
 | cons x l q=>
   cases j with
   | zero=>
     simp only [List.getElem?_cons_zero,Option.some.injEq] at h; subst h
     rw [Nat.zero_mul,Nat.zero_add,List.flatMap_cons,List.getElem?_append_left (by rw [i]; exact p)]
   | succ j=>
     simp only [List.getElem?_cons_succ] at h
     rw [List.flatMap_cons,List.getElem?_append_right (by rw [i,Nat.succ_mul]; omega),i,show (j+1)*m+c - m=j*m+c from by rw [Nat.succ_mul]; omega]
     exact q h
theorem fX {α:Type} {f:α→List Value} {m:Nat} (c:∀ a,(f a).length=m) {h:Array Obj} {a:Option Addr} {l:List α} {i:Nat} {e:α} (q:aw h a (l.flatMap f)) (s:l[i]? =some e):∀ j,j < m→Hb.aG h (bk a) (fo a+i*m+j)=(f e)[j]? :=by
 intro j p
 have h1:=qE c s p
 have h2:j < (f e).length:=by rw [c]; exact p
 rw [List.getElem?_eq_getElem h2] at h1 ⊢
 rw [Nat.add_assoc]; exact q.aG _ _ h1
theorem uN {α:Type} {f:α→List Value} {m:Nat} (c:∀ a,(f a).length=m) (hm:0 < m) {l:List α} (h:0 < l.length):l.flatMap f≠[]:=by
 intro e
 have :=kD c l
 rw [e] at this
 have :0 < l.length*m:=Nat.mul_pos h hm
 simp at*; omega
theorem uP {α:Type} {f:α→List Value} {m:Nat} (c:∀ a,(f a).length=m) {l:List α} {j:Nat} (x:α) (h:j < l.length):(l.set j x).flatMap f=(l.flatMap f).take (j*m)++f x++(l.flatMap f).drop (j*m+m):=by
 induction l generalizing j with
 | nil=>simp at h
 | cons y l i=>
   cases j with
   | zero=>
     simp only [List.set_cons_zero,List.flatMap_cons,Nat.zero_mul,List.take_zero,List.nil_append,Nat.zero_add]
     rw [List.drop_append,List.drop_of_length_le (by rw [c]; exact Nat.le_refl _),c]; simp
   | succ j=>
     simp only [List.length_cons] at h
     rw [List.set_cons_succ,List.flatMap_cons,i aa,List.flatMap_cons,List.take_append,List.drop_append,c,List.take_of_length_le (l:=f y) (by rw [c,Nat.succ_mul]; omega),List.drop_of_length_le (l:=f y) (by rw [c,Nat.succ_mul]; omega),
      show (j+1)*m - m=j*m from by rw [Nat.succ_mul]; omega,show (j+1)*m+m - m=j*m+m from by rw [Nat.succ_mul]; omega]
     simp
theorem uO {α:Type} {f:α→List Value} (c:∀ a,(f a).all Value.oneCell'=true) (l:List α):(l.flatMap f).all Value.oneCell'=true :=by
 simp only [List.all_flatMap,List.all_eq_true]; intro x _; exact List.all_eq_true.1 (c x)
section
variable {P:Program} {N:Fm} {σ:Nat→Value} {w:World} {dst:Option Nat} {ty:TypeId} {pos :String} {af:Array Edge} {g:Option (Nat×Bool)} {x y z:Operand} {K:(Nat→Value)→World→Prop}
theorem bU {t:TypeId} {parts:Array (Nat×Operand)} {pl:List (Nat×Nat)} {a L:List Value} {ps:List (Nat×Value)} (h:g7 P t=some (pl,a)) (hp:parts.toList.map (fun p=>(p.1,ev N σ p.2))=ps) (c:ng pl a ps=some L):
 (execOp (ev N σ) ⟨dst,.build t parts,ty,pos,af,g⟩).run P w= .ok (.value (.agg L.toArray)) w:=by
 unfold g7 at h
 split at h
 · rename_i it fields hi hu
   split at h
   · rename_i z q j hm
     simp only [Option.some.injEq,Prod.mk.injEq] at h
     obtain ⟨rfl,rfl⟩:=h
     have i:P.built t (parts.map (fun p=>(p.1,ev N σ p.2))).toList=some L.toArray:=by
      have :=Ga c
      simp only [Array.toArray_toList] at this
      simp only [Program.built,hi,hu,j,hm,Array.toList_map,hp]; exact this
     simp [execOp,run_build w t _ _ i]
   · cases h
 · cases h
end
end Go.Hb
namespace Go.Hb
open Go.RowKit
section
variable {P:Program} {N:Fm} {σ:Nat→Value} {w:World} {dst:Option Nat} {ty:TypeId} {pos :String} {af:Array Edge} {g:Option (Nat×Bool)} {x y z:Operand} {K:(Nat→Value)→World→Prop}
theorem EP {zv:Value} (h1:zv.oneCell'=true) (n:Nat):madeCells zv.cells n=(List.replicate n zv).toArray:=by
 rw [jG h1]
 apply Array.ext
 · simp [madeCells]
 · intro i h2 h3
   simp [madeCells,Nat.mod_one]
theorem E6 {t e bytes n:Nat} {s q:IntKind} {zv:Value} (G:eo P t e 1 bytes=true) (a:zeroOf P e=some (some [zv])) (h1:zv.oneCell'=true) (I:ev N σ x= .int s n) (J:ev N σ y= .int q n) (O:bytes*n≤281474976710656) (c:n≤maxLen)
 (k:∀ b w',b=w.heap.size→Nw w w'→(∀ B,B≤b→w'.ownsRow B e 1 (.slice (some ⟨b,0,none⟩) n n) n (List.replicate n zv))→K (eb σ dst (.slice (some ⟨b,0,none⟩) n n)) w'):bP P N ⟨dst,.makeSlice t x y,ty,pos,af,g⟩ σ w K:=by
 obtain ⟨hu,i,A,hi,p,hs,E,Y,V⟩:=ly G
 have M:A.cells= #[zv]:=by
  unfold zeroOf at a
  simp only [hi,p,Option.map_some,Option.some.injEq] at a
  exact Array.toList_inj.1 (by simpa using a)
 refine jR (v:=fun b=> .slice (some ⟨b,0,none⟩) n n) (ob:= .cells (List.replicate n zv).toArray e (0,0)) ?_ (fun b w' h2 h3 h4=>k b w' h2 h3 fun B C=>⟨by simp,.inr ⟨b,n,_,U,C,h4,Nat.le_refl _,c,by simp,by simp⟩⟩)
 have j:=run_make (P:=P) w t e i A hu hi p s q n n aa (Int.le_refl _) (by rw [E,← Int.natCast_mul]; omega) (by unfold maxLen at c; omega)
 rw [M,hs,Nat.mul_one,Int.toNat_natCast,show madeCells #[zv] n=(List.replicate n zv).toArray by rw [← EP h1,jG h1]] at j
 simp [execOp,I,J,j]
end
end Go.Hb
namespace Go.Hb
section
variable {P:Program} {N:Fm} {σ:Nat→Value} {w:World} {dst:Option Nat} {ty:TypeId} {pos :String} {af:Array Edge} {g:Option (Nat×Bool)} {x y z:Operand}
theorem AH {t n len cap i:Nat} {a:Option Addr} {k C:IntKind} (he:eH P t=some n) (q:ev N σ x= .slice a len cap) (s:ev N σ y= .int k (i:Nat)) (A:ev N σ z= .int C (i:Nat)) (h:i≤cap):
 (execOp (ev N σ) ⟨dst,.slice t x none (some y) (some z),ty,pos,af,g⟩).run P w= .ok (.value (.slice a i i)) w:=by
 have c:(0:Int)≤(i:Int):=aa
 unfold eH at he
 cases hd:P.underlying t with
 | none=>rw [hd] at he; cases he
 | some d=>
   rw [hd] at he
   cases d <;> first | (cases he; done) | skip
   rename_i e
   cases hi':P.info? e with
   | none=>simp [hi'] at he
   | some j=>
     have p:(if i=0 then a else a.map (·.add 0))=a:=by
      split
      · rfl
      · cases a <;> simp [Addr.add]
     simp only [execOp,Instr.sliceAt,Instr.slice,q,s,A,Option.map_some,Option.map_none,Instr.sliceBounds,Instr.sliceBound,asIntOf]
     simp [cG hd,eK hi',sizeOf,c,p]
     intro E; omega
end
end Go.Hb
namespace Go.Hb
open Go.RowKit
def kT (h:Array Obj) (b:Nat) (kvs:List (Value×Value)):Prop := ∃ es clock,h[b]? =some (.map es clock)∧es.toList.map (fun e=>(e.key,e.val))=kvs
theorem kT.md {F:Nat→Prop} {w w':World} {b:Nat} {kvs:List (Value×Value)} (h:kT w.heap b kvs) (hm:Md F w w') (a:¬F b):kT w'.heap b kvs:=
 let ⟨es,c,h1,h2⟩:=h; ⟨es,c,hm.aC h1 a,h2⟩
structure nN (P:Program) (k:TypeId) (isK:Value→Prop):Prop where
 check:∀ em w v,isK v→(Instr.checkKey em 10000 k v).run P w= .ok () w
 find:∀ w x es,isK x→(∀ e∈es,isK e.key)→
  ((Instr.findKey k x es).run P w= .ok none w∧∀ e∈es,e.key≠x)∨∃ j e,(Instr.findKey k x es).run P w= .ok (some (j,e.val)) w∧es[j]? =some e∧e.key=x
theorem At {P:Program} {k:TypeId} {em:Bool} {n:Nat} {a:List UInt8} (hk:P.underlying k=some .string) (w:World):(Instr.checkKey em (n+1) k (str a)).run P w= .ok () w:=by
 simp only [str,Instr.checkKey,Sem.run_bind,cG hk,Result.andThen_ok,Sem.run_pure]
def zeroV (P:Program) (e:TypeId):Option Value:=(P.info? e).bind (·.zero)
theorem pL {P:Program} {e:TypeId} {z:Value} (h:zeroV P e=some z) (w:World):(zeroValue e).run P w= .ok z w:=by
 unfold zeroV at h
 simp only [Option.bind_eq_some_iff] at h
 obtain ⟨i,hi,a⟩:=h
 simp [zeroValue,eK hi,a]
section
variable {P:Program} {N:Fm} {σ:Nat→Value} {w:World} {dst:Option Nat} {ty:TypeId} {pos :String} {af:Array Edge} {g:Option (Nat×Bool)} {x y z:Operand} {K:(Nat→Value)→World→Prop}
variable {t k e:TypeId} {isK:Value→Prop} {b:Nat} {kvs:List (Value×Value)} {kx v:Value}
theorem qA {es:Array MapEntry} (h:es.toList.map (fun e=>(e.key,e.val))=kvs) (hk:∀ p∈kvs,isK p.1):∀ e∈es.toList,isK e.key:=fun e he=>hk (e.key,e.val) (by rw [← h]; exact List.mem_map_of_mem he)
theorem run_getObj_map {es:Array MapEntry} {c:Nat} (a:w.heap[b]? =some (.map es c)):(getObj b).run P w= .ok (.map es c) w:=by
 simp [getObj,Sem.run,a]
theorem Fh {kvs:List (Value×Value)} (hn:(kvs.map Prod.fst).Nodup) {kx v a:Value} (h1:(kx,v)∈kvs) (h2:(kx,a)∈kvs):v=a:=by
 induction kvs with
 | nil=>simp at h1
 | cons p kvs c=>
   simp only [List.map_cons,List.nodup_cons] at hn
   rcases List.mem_cons.1 h1 with h1 | h1
   · rcases List.mem_cons.1 h2 with h2 | h2
     · rw [← h1] at h2; cases h2; rfl
     · rw [← h1] at hn; exact absurd (List.mem_map_of_mem (f:=Prod.fst) h2) hn.1
   · rcases List.mem_cons.1 h2 with h2 | h2
     · rw [← h2] at hn; exact absurd (List.mem_map_of_mem (f:=Prod.fst) h1) hn.1
     · exact c hn.2 h1 h2
theorem ED {ok:Bool} (E:P.underlying t=some (.map k e)) (i:nN P k isK) (hm:kT w.heap b kvs) (hk:∀ p∈kvs,isK p.1) (I:ev N σ x= .map (some b)) (J:ev N σ y=kx) (hi:isK kx) (hn:(kvs.map Prod.fst).Nodup) (a:(kx,v)∈kvs):
 (execOp (ev N σ) ⟨dst,.lookup t x y ok,ty,pos,af,g⟩).run P w= .ok (.value (if ok then .tuple #[v,.bool true] else v)) w:=by
 obtain ⟨es,c,C,he⟩:=hm
 rcases i.find w kx es.toList hi (qA he hk) with ⟨_,h2⟩ | ⟨j,q,h1,h2,h3⟩
 · rw [← he] at a
   obtain ⟨s,A,h4⟩:=List.mem_map.1 a
   cases h4
   exact absurd U (h2 s A)
 · have G:(kx,q.val)∈kvs:=by rw [← he,← h3]; exact List.mem_map_of_mem (f:=fun e:MapEntry=>(e.key,e.val)) (List.mem_of_getElem? h2)
   have :=Fh hn a G
   subst this
   cases ok <;> simp [execOp,Instr.lookup,cG E,I,J,run_getObj_map C,i.check _ w kx hi,h1]
theorem EE {ok:Bool} {zv:Value} (s:P.underlying t=some (.map k e)) (E:zeroV P e=some zv) (a:nN P k isK) (hm:kT w.heap b kvs) (hk:∀ p∈kvs,isK p.1) (A:ev N σ x= .map (some b)) (C:ev N σ y=kx) (hi:isK kx) (hn:∀ v,(kx,v)∉kvs):
 (execOp (ev N σ) ⟨dst,.lookup t x y ok,ty,pos,af,g⟩).run P w= .ok (.value (if ok then .tuple #[zv,.bool false] else zv)) w:=by
 obtain ⟨es,c,q,he⟩:=hm
 rcases a.find w kx es.toList hi (qA he hk) with ⟨h1,_⟩ | ⟨j,i,h1,h2,h3⟩
 · cases ok <;> simp [execOp,Instr.lookup,cG s,A,C,run_getObj_map q,a.check _ w kx hi,h1,pL E]
 · exact absurd (by rw [← he,← h3]; exact List.mem_map_of_mem (f:=fun e:MapEntry=>(e.key,e.val)) (List.mem_of_getElem? h2)) (hn i.val)
end
end Go.Hb
namespace Go.Hb
open Go.RowKit
def tag (w:World) (k:Nat):Nat:=match w.heap[k]? with | some (.cells _ t _)=>t+2 | some (.map _ _)=>1 | _=>0
theorem c5 {w:World} {k t:Nat} {cs:Array Value} {z:Nat×Nat} (h:w.heap[k]? =some (.cells cs t z)):tag w k=t+2:=by unfold tag; rw [h]
theorem Hu {w:World} {k:Nat} {kvs:List (Value×Value)} (h:kT w.heap k kvs):tag w k=1:=by
 obtain ⟨es,c,h,_⟩:=h
 unfold tag; rw [h]
theorem xG {w:World} {B e size n k:Nat} {v:Value} {xs:List Value} (h:w.ownsRow B e size v n xs) (hk:v.ownBlock=some k):tag w k=e+2:=by
 rcases h.2 with ⟨rfl,_⟩ | ⟨g,cap,cur,rfl,_,a,_⟩
 · simp [Value.ownBlock] at hk
 · simp only [Value.ownBlock,Option.some.injEq] at hk; subst hk
   exact c5 a
def TF (w:World) (L:List Nat) (F:Nat→Prop):Prop := ∀ k,F k→L.contains (tag w k)=true
theorem TF.no {w:World} {L:List Nat} {F:Nat→Prop} (h:TF w L F) {k t:Nat} (c:tag w k=t) (a:L.contains t=false):¬F k:=fun hk=>by
 have :=h k hk
 rw [c,a] at this; cases this
theorem TF.or {w:World} {L:List Nat} {F G:Nat→Prop} (h:TF w L F) (a:TF w L G):TF w L (fun k=>F k∨G k):=fun k hk=>by
 rcases hk with hk | hk
 · exact h k hk
 · exact a k hk
theorem TF.eq {w:World} {L:List Nat} {b t:Nat} (c:tag w b=t) (a:L.contains t=true):TF w L (fun k=>k=b):=fun k hk=>by
 subst hk; rw [c]; exact a
theorem TF.own {w:World} {L:List Nat} {B e size n:Nat} {v:Value} {xs:List Value} (h:w.ownsRow B e size v n xs) (a:L.contains (e+2)=true):TF w L (fun k=>v.ownBlock=some k):=fun k hk=>by
 rw [xG h hk]; exact a
theorem Md.iK {F:Nat→Prop} {w w':World} {L:List Nat} {k t:Nat} {cs:Array Value} {z:Nat×Nat} (hm:Md F w w') (a:TF w L F) (h:w.heap[k]? =some (.cells cs t z)) (c:L.contains (t+2)=false):w'.heap[k]? =some (.cells cs t z):=hm.aC h (a.no (c5 h) c)
theorem cJ {F:Nat→Prop} {w w':World} {L:List Nat} {B e size n:Nat} {v:Value} {xs:List Value} (h:w.ownsRow B e size v n xs) (hm:Md F w w') (a:TF w L F) (c:L.contains (e+2)=false):w'.ownsRow B e size v n xs:=bK h hm (fun _ hk=>a.no (xG h hk) c)
theorem Md.tag {F:Nat→Prop} {w w':World} (hm:Md F w w') {k:Nat} (hk:k < w.heap.size) (a:¬F k):Hb.tag w' k=Hb.tag w k:=by
 unfold Hb.tag; rw [hm.fE k hk a]
end Go.Hb
end
section
namespace Go.Hb
open Go.RowKit Go.ChangeShapes Go.WideShapes Go.ChangeAt
theorem Wk.frame {w w':World} (h:Wk w w') (may:MemPlace→Prop):w.keptBut w' may:=by
 refine ⟨h.os,h.output,fun i hi=> ?_⟩
 rw [h.fE i hi id]
 split <;> simp_all
theorem Wk.same {w w':World} (h:Wk w w') {p:MemPlace} (hp:p.block < w.heap.size):w.sameAt w' p:=by
 cases p with
 | cell b o=>exact World.cell?_of_block (w:=w) (h.fE b hp id)
 | map b=>exact h.fE b hp id
section
variable {H:Type} {enc:TypeId×Value→H} {P:Program} {W W':World}
theorem xK (j:laidOutB P=true) (hk:Wk W W'):∀ (c:List TypeId) (vs:List Value) (i:List (DataW H)) (ps:List MemPlace),c.all (fun t=>P.readableRec t && decide (t < P.types.size))=true→(∀ x∈ps,x.block < W.heap.size)→
 DataW.TrodAll enc P W 0 (fun _=>true) true c vs i ps→DataW.TrodAll enc P W' 0 (fun b=>decide (b < W.heap.size)) true c vs i ps
 | [],[],[],_,_,_,h=>h
 | t::c,v::vs,d::i,_,hp,hlt,⟨p,q,h1,h2,he⟩=>by
   subst he
   rw [List.all_cons,Bool.and_eq_true,Bool.and_eq_true] at hp
   exact ⟨p,q,WideElems.Trod_stays j hp.1.1 (of_decide_eq_true hp.1.2) h1 (fun x a=>hk.same (hlt x (List.mem_append_left _ a))) (fun x a=>decide_eq_true (hlt x (List.mem_append_left _ a))),
    xK j hk c vs i q hp.2 (fun x a=>hlt x (List.mem_append_right _ a)) h2,rfl⟩
 | [],_::_,_,_,_,_,h=>h.elim
 | [],[],_::_,_,_,_,h=>h.elim
 | _::_,[],_,_,_,_,h=>h.elim
 | _::_,_::_,[],_,_,_,h=>h.elim
theorem Gt {f:FuncId} {fn:Func} {s:ChangeSpec} {args:Array Value} {a gs:List (DataW H)} {before:List MemPlace} {tb:TypeId} (i:DataW.Whole enc P fn.params.toList s.vars false W args.toList a gs before) (A:s.vars= [])
 (hs:s.fn H (a++gs)= {results:= [.lit (.bool true)],args:=a}) (J:fn.resultTypes= #[tb]) (E:P.underlying tb=some .bool) (G:laidOutB P=true) (hp:fn.params.toList.all (fun t=>P.readableRec t && decide (t < P.types.size))=true)
 (h:a3 P f args W (fun v w'=>v= .bool true∧Wk W w')):Calls P f args W fun e W'=> ∃ v,e= .returned v∧s.post enc P fn false true false false W args v W':=by
 refine Calls.mono h fun e W' ⟨v,he,M,hk⟩=>⟨v,he,?_⟩
 subst M
 have j:=i
 obtain ⟨p,q,C,c,rfl,_,_⟩:=i
 rw [A] at c
 obtain ⟨rfl,rfl⟩:=trodVars_none c
 have I:∀ x∈p,x.block < W.heap.size:=fun x O=>j.lt x (by simpa using O)
 refine ⟨_,_,_,[],p,[],j,?_,?_,?_,hk.frame _,fun h=>by cases h⟩
 · rw [hs,J]
   exact trodAll_cons_mk (shut_bool E _) trodAll_mk0
 · rw [hs]
   exact xK G hk _ _ _ _ hp I C
 · rw [hs,A]; rfl
end
end Go.Hb
namespace Go.Hb
open Go.Proofs.YtkiemnnhcilhpaaGreatDoor
theorem y9 {H:Type} {l:List (DataW H)} (hk:Rows.uptoSmall H l=true):Rows.uptoBulkAll l≤1048576:=of_decide_eq_true hk
end Go.Hb
namespace Go.Hb
open Go.Proofs.YtkiemnnhcilhpaaGreatDoor Go.RowKit Go.ChangeShapes Go.WideShapes Go.ChangeAt
structure kU (P:Program) (t:TypeId) (m:Nat) {X:Type} (R:World→List Value→X→Prop) (B:X→Nat):Prop where
 cells:P.cellsOf t=m
 op:∀ {H:Type} (enc:TypeId×Value→H) (W:World) (fuel:Nat) (cs:List Value) (d:DataW H) (p:List MemPlace),DataW.trod enc P W 0 (fun _=>true) true fuel t cs=some (d,p)→cs.length=m∧∃ x,R W cs x∧B x≤Rows.uptoBulk d
section
variable {P:Program} {t t0 t1 e:TypeId} {m m0 m1:Nat} {X X0 X1:Type} {R:World→List Value→X→Prop} {B:X→Nat} {R0:World→List Value→X0→Prop} {B0:X0→Nat} {R1:World→List Value→X1→Prop} {B1:X1→Nat}
theorem wy {k:IntKind} (c:P.underlying t=some (.int k)) (a:P.cellsOf t=1):kU P t 1 (fun _ cs (x:Int)=>cs= [.int k x]∧(Lit.int k x).wf=true) (fun _=>1) where
 cells:=a
 op enc W fuel cs d p h:=by
  obtain ⟨n,rfl,i,hw⟩:=DataW.trod_int c h
  cases i
  exact ⟨U,n,⟨U,hw⟩,by simp [Rows.uptoBulk]⟩
theorem wz (c:P.underlying t=some .string) (a:P.cellsOf t=1):kU P t 1 (fun _ cs (x:List UInt8)=>cs= [str x]) (fun x=>x.length+1) where
 cells:=a
 op enc W fuel cs d p h:=by
  obtain ⟨s,rfl,i,hw⟩:=DataW.trod_string c h
  cases i
  exact ⟨U,s.data.toList,U,by simp [Rows.uptoBulk]⟩
theorem HE {H:Type} {enc:TypeId×Value→H} {W:World} {f0 f1 f2 f3:Field} {fuel:Nat} {cs:List Value} {x:DataW H×List MemPlace} (s:P.underlying t=some (.struct #[f0,f1,f2,f3])) (h:DataW.trod enc P W 0 (fun _=>true) true fuel t cs=some x):
 ∃ a c i j n,x=(.agg [a.1,c.1,i.1,j.1],a.2++(c.2++(i.2++j.2)))∧cs.length=P.cellsOf t∧DataW.trod enc P W 0 (fun _=>true) true n f0.type ((cs.drop f0.offset).take (P.cellsOf f0.type))=some a∧DataW.trod enc P W 0 (fun _=>true) true n f1.type ((cs.drop f1.offset).take (P.cellsOf f1.type))=some c∧
   DataW.trod enc P W 0 (fun _=>true) true n f2.type ((cs.drop f2.offset).take (P.cellsOf f2.type))=some i∧DataW.trod enc P W 0 (fun _=>true) true n f3.type ((cs.drop f3.offset).take (P.cellsOf f3.type))=some j:=by
 obtain ⟨xs,n,_,rfl,q,hlen,p⟩:=DataW.trod_struct s h
 match xs,hlen with
 | [a,c,i,j],_=>exact ⟨a,c,i,j,n,by simp,q,by simpa using p 0 f0 rfl,by simpa using p 1 f1 rfl,by simpa using p 2 f2 rfl,by simpa using p 3 f3 rfl⟩
theorem Fy {t2 t3:TypeId} {j q:Type} {C:World→List Value→j→Prop} {s:j→Nat} {E:World→List Value→q→Prop} {A:q→Nat} (O:kU P t0 1 R0 B0) (h1:kU P t1 1 R1 B1) (h2:kU P t2 1 C s) (h3:kU P t3 1 E A) {f0 f1 f2 f3:Field}
 (ad:P.underlying t=some (.struct #[f0,f1,f2,f3])) (Z:f0.type=t0) (aa:f1.type=t1) (ab:f2.type=t2) (ac:f3.type=t3) (ak:f0.offset=0) (al:f1.offset=1) (am:f2.offset=2) (an:f3.offset=3) (V:P.cellsOf t=4):
 kU P t 4 (fun W cs (x:X0×X1×j×q)=> ∃ a c i u3,cs= [a,c,i,u3]∧R0 W [a] x.1∧R1 W [c] x.2.1∧C W [i] x.2.2.1∧E W [u3] x.2.2.2) (fun x=>B0 x.1+B1 x.2.1+s x.2.2.1+A x.2.2.2+1) where
 cells:=V
 op enc W fuel cs d p h:=by
  obtain ⟨ay,az,aA,aB,n,ae,Y,G,I,J,M⟩:=HE ad h
  cases ae
  rw [V] at Y
  match cs,Y with
  | [a,c,i,u3],_=>
    rw [Z,ak,O.cells] at G
    rw [aa,al,h1.cells] at I
    rw [ab,am,h2.cells] at J
    rw [ac,an,h3.cells] at M
    obtain ⟨_,ao,ag,au⟩:=O.op enc W n _ _ _ G
    obtain ⟨_,ap,ah,av⟩:=h1.op enc W n _ _ _ I
    obtain ⟨_,aq,ai,aw⟩:=h2.op enc W n _ _ _ J
    obtain ⟨_,ar,aj,ax⟩:=h3.op enc W n _ _ _ M
    refine ⟨U,(ao,ap,aq,ar),⟨a,c,i,u3,U,ag,ah,ai,aj⟩,?_⟩
    simp only [Rows.uptoBulk,Rows.uptoBulkAll]; omega
end
end Go.Hb
end
section
namespace Go.Hb
theorem drop_cons {α:Type} {l:List α} {i:Nat} (d:α) (h:i < l.length):l.drop i=l.getD i d::l.drop (i+1):=by
 rw [List.drop_eq_getElem_cons h]; simp [List.getD_eq_getElem?_getD,h]
theorem o8 {α:Type} {l:List α} {k i:Nat} (d:α) (hk:k≤i) (hi:i < l.length):(l.take (i+1)).drop k=(l.take i).drop k++ [l.getD i d]:=by
 rw [eT l i d hi,List.drop_append_of_le_length (by rw [List.length_take]; omega)]
def gy (b:UInt8):Bool:=b==32 || b==9
theorem kf (b:UInt8):gy b=decide (b.toNat=32∨b.toNat=9):=by
 unfold gy
 have h:∀ x:UInt8,(b==x)=decide (b.toNat=x.toNat):=fun x=>by
  by_cases a:b=x
  · subst a; simp
  · have :b.toNat≠x.toNat:=fun h=>a (UInt8.toNat_inj.1 h)
    simp [a,this]
 rw [h,h]
 simp [Bool.decide_or]
def bg:List UInt8→List UInt8→List (List UInt8)
 | cur,[]=>if cur= [] then [] else [cur]
 | cur,b::r=>if gy b then (if cur= [] then bg [] r else cur::bg [] r) else bg (cur++ [b]) r
theorem qH:bg [] []= []:=by simp [bg]
theorem qG {cur:List UInt8} (h:cur≠[]):bg cur []= [cur]:=by simp [bg,h]
theorem oD {b:UInt8} {r:List UInt8} (h:gy b=true):bg [] (b::r)=bg [] r:=by simp [bg,h]
theorem uQ {cur:List UInt8} {b:UInt8} {r:List UInt8} (h:gy b=true) (a:cur≠[]):bg cur (b::r)=cur::bg [] r:=by simp [bg,h,a]
theorem oF {cur:List UInt8} {b:UInt8} {r:List UInt8} (h:gy b=false):bg cur (b::r)=bg (cur++ [b]) r:=by simp [bg,h]
theorem oE:∀ (l cur x:List UInt8),x∈bg cur l→x≠[]∧x.length≤cur.length+l.length:=by
 intro l
 induction l with
 | nil=>
   intro cur x h
   unfold bg at h
   split at h
   · cases h
   · simp only [List.mem_singleton] at h; subst h; exact ⟨by assumption,by simp⟩
 | cons b r a=>
   intro cur x h
   unfold bg at h
   split at h
   · split at h
     · have :=a [] x h; simp only [List.length_cons,List.length_nil] at*; exact ⟨this.1,aa⟩
     · rcases List.mem_cons.1 h with rfl | h
       · exact ⟨by assumption,by simp⟩
       · have :=a [] x h; simp only [List.length_cons,List.length_nil] at*; exact ⟨this.1,aa⟩
   · have :=a _ x h; simp only [List.length_cons,List.length_append,List.length_nil] at*; exact ⟨this.1,aa⟩
theorem mW:∀ (l cur:List UInt8),(bg cur l).length≤l.length+1:=by
 intro l
 induction l with
 | nil=>intro cur; unfold bg; split <;> simp
 | cons b r a=>
   intro cur
   unfold bg
   split
   · split
     · have :=a []; simp only [List.length_cons]; omega
     · have :=a []; simp only [List.length_cons]; omega
   · have :=a (cur++ [b]); simp only [List.length_cons]; omega
theorem qF {cur l:List UInt8} {i:Nat} (a:cur≠[]) (h:l.length≤i∨gy (l.getD i 0)=true):bg cur (l.drop i)=cur::bg [] (l.drop i):=by
 by_cases hi:i < l.length
 · have c:=h.resolve_left aa
   rw [drop_cons 0 hi,uQ c a,oD c]
 · rw [List.drop_eq_nil_of_le aa,qG a,qH]
def gr (l:List UInt8) (i:Nat) (a:Int) (cur:List UInt8):Prop :=(a= -1∧cur= [])∨(∃ k:Nat,a=k∧k < i∧i≤l.length∧cur=(l.take i).drop k)
theorem gr.no {l:List UInt8} {i:Nat} :gr l i (-1) []:= .inl ⟨rfl,rfl⟩
theorem gr.neg {l cur:List UInt8} {i:Nat} {a:Int} (h:gr l i a cur) (c:a < 0):a= -1∧cur= []:=by
 rcases h with h | ⟨k,rfl,_⟩
 · exact h
 · omega
theorem gr.pos {l cur:List UInt8} {i:Nat} {a:Int} (h:gr l i a cur) (c:¬a < 0):(0≤a∧a < i)∧cur=(l.take i).drop a.toNat∧cur≠[]:=by
 rcases h with ⟨rfl,_⟩ | ⟨k,rfl,h1,h2,rfl⟩
 · omega
 · refine ⟨aa,by simp,fun e=> ?_⟩
   have :=congrArg List.length e
   simp only [List.length_drop,List.length_take,List.length_nil] at this
   omega
theorem gr.begin {l:List UInt8} {i:Nat} (hi:i < l.length):gr l (i+1) i [l.getD i 0]:=by
 refine .inr ⟨i,U,aa,aa,?_⟩
 rw [o8 0 (Nat.le_refl i) hi,List.drop_eq_nil_of_le (by rw [List.length_take]; omega),List.nil_append]
theorem gr.more {l cur:List UInt8} {i:Nat} {a:Int} (h:gr l i a cur) (c:¬a < 0) (hi:i < l.length):gr l (i+1) a (cur++ [l.getD i 0]):=by
 rcases h with ⟨rfl,_⟩ | ⟨k,rfl,h1,h2,rfl⟩
 · omega
 · exact .inr ⟨k,U,aa,aa,(o8 0 aa hi).symm⟩
def ew (l:List UInt8):List UInt8:=if 0 < l.length∧l.getD (l.length - 1) 0=13 then l.take (l.length - 1) else l
theorem uj (l:List UInt8):(ew l).length≤l.length:=by unfold ew; split <;> simp
theorem qv {l:List UInt8} (h:0 < l.length) (h1:l.getD (l.length - 1) 0=13):ew l=l.take (l.length - 1):=if_pos ⟨h,h1⟩
theorem qu {l:List UInt8} (h:¬(0 < l.length∧l.getD (l.length - 1) 0=13)):ew l=l:=if_neg h
theorem vK {l:List UInt8} (h:0 < l.length):l.drop (l.length - 1)= [l.getD (l.length - 1) 0]:=by
 rw [drop_cons 0 aa,List.drop_eq_nil_of_le aa]
def cI:List UInt8→List UInt8→List (List UInt8)
 | cur,[]=>if cur= [] then [] else [ew cur]
 | cur,b::r=>if b=10 then ew cur::cI [] r else cI (cur++ [b]) r
theorem oR:cI [] []= []:=by simp [cI]
theorem vS {cur:List UInt8} (h:cur≠[]):cI cur []= [ew cur]:=by simp [cI,h]
theorem ri (cur r:List UInt8):cI cur (10::r)=ew cur::cI [] r:=by simp [cI]
theorem oQ {cur:List UInt8} {b:UInt8} {r:List UInt8} (h:b≠10):cI cur (b::r)=cI (cur++ [b]) r:=by simp [cI,h]
theorem rh:∀ (l cur:List UInt8),(cI cur l).length≤l.length+1:=by
 intro l
 induction l with
 | nil=>intro cur; unfold cI; split <;> simp
 | cons b r a=>
   intro cur
   unfold cI
   split
   · have :=a []; simp only [List.length_cons]; omega
   · have :=a (cur++ [b]); simp only [List.length_cons]; omega
theorem EH (l:List UInt8):(cI [] l).length≤l.length:=by
 cases l with
 | nil=>simp [cI]
 | cons b r=>
   unfold cI
   split
   · have :=rh r []
     have h2:∀ m:List UInt8,(cI [] m).length≤m.length:=by
      intro m
      induction m with
      | nil=>simp [cI]
      | cons c m a=>
        unfold cI
        split
        · simp only [List.length_cons]; omega
        · have :=rh m ([]++ [c]); simp only [List.length_cons]; omega
     have :=h2 r
     simp only [List.length_cons]; omega
   · have :=rh r ([]++ [b]); simp only [List.length_cons]; omega
theorem EJ:∀ (l cur x:List UInt8),x∈cI cur l→x.length≤cur.length+l.length:=by
 intro l
 induction l with
 | nil=>
   intro cur x h
   unfold cI at h
   split at h
   · cases h
   · simp only [List.mem_singleton] at h; subst h; have :=uj cur; simp only [List.length_nil]; omega
 | cons b r a=>
   intro cur x h
   unfold cI at h
   split at h
   · rcases List.mem_cons.1 h with rfl | h
     · have :=uj cur; omega
     · have :=a [] x h; simp only [List.length_cons,List.length_nil] at*; omega
   · have :=a _ x h; simp only [List.length_cons,List.length_append,List.length_nil] at*; omega
def cX (c:UInt8) (l:List UInt8):Int:=if l.idxOf c < l.length then (l.idxOf c:Int) else -1
theorem vD {c:UInt8} {l:List UInt8} (h:cX c l < 0):¬l.idxOf c < l.length:=fun h1=>by unfold cX at h; rw [if_pos h1] at h; omega
theorem lZ {c:UInt8} {l:List UInt8} (h:¬cX c l < 0):cX c l=l.idxOf c∧l.idxOf c < l.length:=by
 unfold cX at*
 by_cases h1:l.idxOf c < l.length
 · exact ⟨if_pos h1,h1⟩
 · rw [if_neg h1] at h; omega
def ij (c:UInt8) (l:List UInt8):List UInt8:=if cX c l < 0 then l else l.take (l.idxOf c)
def ja (c:UInt8) (l:List UInt8):List UInt8:=if cX c l < 0 then [] else l.drop (l.idxOf c+1)
theorem Bn (c:UInt8) (l:List UInt8):(ij c l).length≤l.length:=by unfold ij; split <;> simp; omega
theorem Bs {c:UInt8} {l:List UInt8} (h:l≠[]):(ja c l).length < l.length:=by
 have :=List.length_pos_iff.2 h
 unfold ja; split <;> simp <;> omega
theorem EF:∀ (l cur:List UInt8),l.idxOf 10 < l.length→cI cur l=ew (cur++l.take (l.idxOf 10))::cI [] (l.drop (l.idxOf 10 +1)):=by
 intro l
 induction l with
 | nil=>intro cur h; simp at h
 | cons b r i=>
   intro cur h
   by_cases a:b=10
   · subst a
     rw [List.idxOf_cons_self,ri,List.take_zero,List.append_nil,Nat.zero_add,List.drop_one,List.tail_cons]
   · have c:(b::r).idxOf 10=r.idxOf 10 +1:=by rw [List.idxOf_cons,beq_eq_false_iff_ne.2 a]; rfl
     rw [c] at h ⊢
     simp only [List.length_cons] at h
     rw [oQ a,i _ aa,List.take_succ_cons,List.drop_succ_cons,List.append_assoc]
     rfl
theorem EL:∀ (l cur:List UInt8),¬l.idxOf 10 < l.length→cur++l≠[]→cI cur l= [ew (cur++l)]:=by
 intro l
 induction l with
 | nil=>intro cur _ h; rw [List.append_nil] at h ⊢; exact vS h
 | cons b r i=>
   intro cur h h1
   by_cases a:b=10
   · subst a; rw [List.idxOf_cons_self] at h; simp at h
   · have c:(b::r).idxOf 10=r.idxOf 10 +1:=by rw [List.idxOf_cons,beq_eq_false_iff_ne.2 a]; rfl
     rw [c] at h
     simp only [List.length_cons] at h
     rw [oQ a,i _ aa (by simp),List.append_assoc]
     rfl
theorem EM {l:List UInt8} (h:l≠[]):cI [] l=ew (ij 10 l)::cI [] (ja 10 l):=by
 by_cases h1:cX 10 l < 0
 · rw [EL l [] (vD h1) (by simpa using h)]
   unfold ij ja
   rw [if_pos h1,if_pos h1,oR,List.nil_append]
 · rw [EF l [] (lZ h1).2]
   unfold ij ja
   rw [if_neg h1,if_neg h1,List.nil_append]
def dZ (s p:List UInt8):List UInt8:=if s.take p.length=p then s.drop p.length else s
def kI:List UInt8:= [239,187,191]
def jz (s:List UInt8):Bool:=decide (s.take 3=kI)
def gq (s:List UInt8):List UInt8:=dZ s kI
theorem pG (s:List UInt8):(gq s).length≤s.length:=by unfold gq dZ; split <;> simp
theorem HR {s:List UInt8} (h:jz s=true):gq s=s.drop 3:=if_pos (of_decide_eq_true h)
theorem xV {s:List UInt8} (h:jz s=false):gq s=s:=if_neg (of_decide_eq_false h)
theorem ES {s:List UInt8} (h:jz s=true):3≤s.length:=by
 have h1:=congrArg List.length (of_decide_eq_true h)
 rw [List.length_take] at h1
 have :kI.length=3:=rfl
 omega
theorem m8 (s:List UInt8):jz s=decide (3≤s.length∧(s.getD 0 0).toNat=239∧(s.getD 1 0).toNat=187∧(s.getD 2 0).toNat=191):=by
 unfold jz
 refine decide_eq_decide.2 ?_
 match s with
 | []=>simp [kI]
 | [a]=>simp [kI]
 | [a,b]=>simp [kI]
 | a::b::c::r=>
   have h:∀ (x:UInt8) (n:Nat),n < 256→(x=UInt8.ofNat n↔x.toNat=n):=fun x n hn=>by
    constructor
    · rintro rfl; simp; omega
    · intro h; apply UInt8.toNat_inj.1; simp; omega
   have h1:=h a 239 ao
   have h2:=h b 187 ao
   have h3:=h c 191 ao
   simp only [kI,List.take_succ_cons,List.take_zero,List.cons.injEq,and_true,List.length_cons,List.getD_cons_zero,List.getD_cons_succ]
   constructor
   · rintro ⟨i,j,p⟩; exact ⟨aa,h1.1 i,h2.1 j,h3.1 p⟩
   · rintro ⟨_,i,j,p⟩; exact ⟨h1.2 i,h2.2 j,h3.2 p⟩
def a7 (t:List UInt8):List (List UInt8):=cI [] (gq t)
theorem kh (t:List UInt8):(a7 t).length≤t.length:=Nat.le_trans (EH _) (pG t)
theorem rf {t x:List UInt8} (h:x∈a7 t):x.length≤t.length:=by
 have :=EJ _ _ _ h
 have :=pG t
 simp only [List.length_nil] at*; omega
def kJ (f:List UInt8):Bool:=decide ((f.getD 0 0).toNat=35)
def gL (f:List (List UInt8)):List (List UInt8):=f.takeWhile fun x=> !kJ x
def fM (l:List UInt8) (n:Nat):List (Nat×List (List UInt8)):=if gL (bg [] l)= [] then [] else [(n,gL (bg [] l))]
def fN (n:Nat):List (List UInt8)→List (Nat×List (List UInt8))
 | []=> []
 | l::r=>fM l n++fN (n+1) r
def bY (t:List UInt8):List (Nat×List (List UInt8)):=fN 1 (a7 t)
theorem iS (l:List UInt8):∀ (ls:List (List UInt8)) (n:Nat),fN n (ls++ [l])=fN n ls++fM l (n+ls.length):=by
 intro ls
 induction ls with
 | nil=>intro n; simp [fN]
 | cons a ls c=>intro n; rw [List.cons_append,fN,c,fN,List.length_cons,List.append_assoc,show n+1 +ls.length=n+(ls.length+1) from by omega]
theorem rL:∀ (ls:List (List UInt8)) (n:Nat),(fN n ls).length≤ls.length:=by
 intro ls
 induction ls with
 | nil=>intro n; simp [fN]
 | cons a ls c=>
   intro n
   have :=c (n+1)
   unfold fN fM
   rw [List.length_append]
   split <;> simp only [List.length_nil,List.length_cons] <;> omega
theorem xg (t:List UInt8):(bY t).length≤t.length:=Nat.le_trans (rL _ _) (kh t)
theorem oN {f:List (List UInt8)} :∀ {j:Nat},j≤f.length→(∀ i,i < j→kJ (f.getD i [])=false)→(j=f.length∨kJ (f.getD j [])=true)→gL f=f.take j:=by
 induction f with
 | nil=>intro j p _ _; rw [List.take_nil]; rfl
 | cons a f q=>
   intro j p h1 h2
   cases j with
   | zero=>
     rcases h2 with h2 | h2
     · simp at h2
     · simp only [List.getD_cons_zero] at h2
       simp [gL,h2]
   | succ j=>
     have c:=h1 0 aa
     simp only [List.getD_cons_zero] at c
     have :=q (j:=j) (by simpa using p) (fun i hi=>by simpa using h1 (i+1) aa) (by simpa using h2)
     unfold gL at*
     rw [List.takeWhile_cons,c]
     simp only [Bool.not_false,if_true,List.take_succ_cons]
     rw [this]
theorem vG {f:List (List UInt8)} {x:List UInt8} (h:x∈gL f):x∈f:=(List.takeWhile_sublist _).subset h
theorem Ee (f:List (List UInt8)):(gL f).length≤f.length:=(List.takeWhile_sublist _).length_le
theorem xf:∀ (ls:List (List UInt8)) (n:Nat) (r:Nat×List (List UInt8)),r∈fN n ls→n≤r.1∧r.1 < n+ls.length∧r.2≠[]∧∃ l∈ls,r.2=gL (bg [] l):=by
 intro ls
 induction ls with
 | nil=>intro n r h; cases h
 | cons a ls i=>
   intro n r h
   rw [fN] at h
   rcases List.mem_append.1 h with h | h
   · unfold fM at h
     split at h
     · cases h
     · simp only [List.mem_singleton] at h; subst h
       exact ⟨by simp,by simp,by assumption,a,by simp,U⟩
   · obtain ⟨h1,h2,h3,l,c,h4⟩:=i _ _ h
     exact ⟨aa,by simp only [List.length_cons]; omega,h3,l,by simp [c],h4⟩
theorem o4 {t:List UInt8} {r:Nat×List (List UInt8)} (h:r∈bY t):1≤r.1∧r.1≤t.length∧r.2≠[]∧r.2.length≤t.length+1∧∀ x∈r.2,x≠[]∧x.length≤t.length:=by
 obtain ⟨h1,h2,h3,l,c,h4⟩:=xf _ _ _ h
 have j:=kh t
 have i:=rf c
 refine ⟨h1,aa,h3,?_,fun x a=> ?_⟩
 · rw [h4]; have :=Ee (bg [] l); have :=mW l []; omega
 · rw [h4] at a
   have :=oE _ _ _ (vG a)
   simp only [List.length_nil] at this
   exact ⟨this.1,aa⟩
def mS (b:UInt8):Bool:=decide (48≤b.toNat∧b.toNat≤57)
def dt (s:List UInt8):Nat:=s.foldl (fun n b=>n*10 +(b.toNat - 48)) 0
theorem mP {s:List UInt8} {i:Nat} (h:i < s.length):dt (s.take (i+1))=dt (s.take i)*10 +((s.getD i 0).toNat - 48):=by
 rw [eT s i 0 h]; unfold dt; rw [List.foldl_append]; rfl
theorem Dc:∀ (s:List UInt8) (n:Nat),n≤s.foldl (fun n b=>n*10 +(b.toNat - 48)) n:=by
 intro s
 induction s with
 | nil=>intro n; exact Nat.le_refl _
 | cons b s a=>intro n; refine Nat.le_trans ?_ (a _); show n≤n*10 +(b.toNat - 48); omega
theorem BP (s:List UInt8) (i:Nat):dt (s.take i)≤dt s:=by
 have :dt s=(s.drop i).foldl (fun n b=>n*10 +(b.toNat - 48)) (dt (s.take i)):=by
  unfold dt; rw [← List.foldl_append,List.take_append_drop]
 rw [this]; exact Dc _ _
def kF (s:List UInt8):Prop :=s= []∨(1 < s.length∧(s.getD 0 0).toNat=48)
def qq (s:List UInt8):Prop := ∀ i,i < s.length→mS (s.getD i 0)=true
open Classical in
noncomputable def dI (s:List UInt8) (most:Int):Nat×Int:=if kF s∨¬qq s∨most < dt s then (0,13) else (dt s,0)
theorem wg {s:List UInt8} {most:Int} (h:kF s):dI s most=(0,13):=if_pos (.inl h)
theorem wc {s:List UInt8} {most:Int} {i:Nat} (h:i < s.length) (h1:mS (s.getD i 0)=false):dI s most=(0,13):=if_pos (.inr (.inl fun hd=>by rw [hd i h] at h1; cases h1))
theorem Fj {s:List UInt8} {most:Int} (h:most < dt s):dI s most=(0,13):=if_pos (.inr (.inr h))
theorem vZ {s:List UInt8} {most:Int} (i:Nat) (h:most < dt (s.take i)):dI s most=(0,13):=Fj (by have :=BP s i; omega)
theorem rp {s:List UInt8} {most:Int} (h:¬kF s) (h1:qq s) (h2:¬most < dt s):dI s most=(dt s,0):=if_neg (by rintro (a | a | a) <;> first | exact h a | exact a h1 | exact h2 a)
theorem wa (s:List UInt8) (most:Int):(dI s most=(0,13))∨(dI s most=(dt s,0)∧(dt s:Int)≤most):=by
 unfold dI
 split
 · exact .inl U
 · rename_i h; exact .inr ⟨rfl,by have :¬most < dt s:=fun a=>h (.inr (.inr a)); omega⟩
theorem oT (s:List UInt8) (most:Int):(dI s most).2=0→((dI s most).1:Int)≤most:=by
 rcases wa s most with h | ⟨h,h1⟩ <;> rw [h]
 · intro h; cases h
 · intro _; exact h1
theorem ug {b:UInt8} (h:¬(48≤b.toNat∧b.toNat≤57)):mS b=false :=decide_eq_false h
theorem D8 {x:UInt8} :∀ {l:List UInt8} {i:Nat},i < l.length→(∀ j,j < i→l.getD j 0≠x)→l.getD i 0=x→cX x l=(i:Nat):=by
 have key:∀ (l:List UInt8) (i:Nat),i < l.length→(∀ j,j < i→l.getD j 0≠x)→l.getD i 0=x→l.idxOf x=i:=by
  intro l
  induction l with
  | nil=>intro i h; simp at h
  | cons b l c=>
    intro i h h1 h2
    cases i with
    | zero=>have a:b=x:=h2
            subst a; simp
    | succ i=>
      have a:b≠x:=h1 0 (Nat.succ_pos _)
      rw [List.idxOf_cons,show (b==x)=false from by simpa using a]
      have :=c i (by simpa using h) (fun j p=>h1 (j+1) aa) h2
      rw [this]; rfl
 intro l i h h1 h2
 unfold cX
 rw [key l i h h1 h2,if_pos h]
theorem D9 {x:UInt8} {l:List UInt8} (h:∀ j,j < l.length→l.getD j 0≠x):cX x l= -1:=by
 unfold cX
 rw [if_neg]
 intro h1
 have hm:=List.idxOf_lt_length_iff.1 h1
 obtain ⟨j,a,e⟩:=List.mem_iff_getElem.1 hm
 exact h j a (by rw [List.getD_eq_getElem?_getD,List.getElem?_eq_getElem a]; exact e)
end Go.Hb
end
section
namespace Go.Hb
open Go.RowKit
theorem nB {h:Array Obj} {a:Option Addr} {l:List UInt8} {i:Nat} (c:aw h a (U8 l)) (hi:i < l.length):Hb.aG h (bk a) (fo a+i*1)=some (.int .u8 (l.getD i 0).toNat):=by
 refine c.h8 ?_
 unfold U8
 rw [List.getElem?_map,List.getElem?_eq_getElem hi,List.getD_eq_getElem?_getD,List.getElem?_eq_getElem hi]; rfl
theorem HM {h:Array Obj} {a:Option Addr} {l:List UInt8} (c:aw h a (U8 l)) (n:Nat):aw h a (U8 (l.take n)):=by
 have :=c.take n
 unfold U8 at*
 rwa [List.map_take]
theorem nC {l:List UInt8} (h:0 < l.length):U8 l≠[]:=by
 intro e
 have :=congrArg List.length e
 rw [nR,List.length_nil] at this
 omega
theorem oY {w:World} {B e:Nat} {v:Value} {l:List UInt8} {x:UInt8} (h:w.ownsRow B e 1 v (l.length+1) (U8 l++ [.int .u8 x.toNat])):w.ownsRow B e 1 v (l++ [x]).length (U8 (l++ [x])):=by
 rw [List.length_append,nQ]; exact h
theorem jJ {w:World} {B e:Nat} {v:Value} {l:List (List UInt8)} {x:List UInt8} (h:w.ownsRow B e 1 v (l.length+1) (l.map str++ [str x])):w.ownsRow B e 1 v (l++ [x]).length ((l++ [x]).map str):=by
 rw [List.length_append,List.map_append]; exact h
abbrev Rw:Type :=Nat×List (List UInt8)
def o6 (q:Nat×Value):List Value:= [.int .i64 q.1,q.2]
def gB (l:List (Nat×Value)):List Value:=l.flatMap o6
theorem rP (a b:List (Nat×Value)):gB (a++b)=gB a++gB b:=by simp [gB]
theorem rQ (l:List (Nat×Value)):(gB l).length=l.length*2:=kD (f:=o6) (m:=2) (fun _=>rfl) l
theorem nn {l:List (Nat×Value)} (h:0 < l.length):gB l≠[]:=uN (f:=o6) (m:=2) (fun _=>rfl) ao h
theorem np {h:Array Obj} {ad:Option Addr} {vs:List (Nat×Value)} {i:Nat} {q:Nat×Value} (a:aw h ad (gB vs)) (c:vs[i]? =some q):∀ j,j < 2→Hb.aG h (bk ad) (fo ad+i*2 +j)= [Value.int .i64 q.1,q.2][j]? :=
 fX (f:=o6) (m:=2) (fun _=>rfl) a c
def Tg (w:World) (B e n:Nat) (v:Value) (xs:List Value):Prop :=
 ∃ a c,v= .slice a n c∧n≤c∧(xs= []∨∃ b cur z,a=some ⟨b,0,none⟩∧B≤b∧w.heap[b]? =some (.cells cur e z)∧∀ (j:Nat) u,xs[j]? =some u→cur[j]? =some u)
theorem Tg.gl {w:World} {B e size n:Nat} {v:Value} {xs:List Value} (h:w.ownsRow B e size v n xs):Tg w B e n v xs:=by
 have a:=h
 rcases h.2 with ⟨rfl,rfl⟩ | ⟨g,cap,cur,rfl,c,i,_,_,_,p⟩
 · exact ⟨none,0,U,Nat.le_refl _,.inl (List.eq_nil_of_length_eq_zero (by simpa using h.1))⟩
 · refine ⟨_,cap,U,(aJ a).1,.inr ⟨g,cur,_,U,c,i,fun j u hu=> ?_⟩⟩
   rw [← p,List.getElem?_take] at hu
   split at hu
   · simpa using hu
   · cases hu
theorem Tg.cells {w:World} {B e n:Nat} {v:Value} {xs:List Value} (h:Tg w B e n v xs):∃ a c,v= .slice a n c∧aw w.heap a xs:=by
 obtain ⟨a,c,rfl,_,h | ⟨b,cur,z,rfl,_,i,p⟩⟩:=h
 · subst h; exact ⟨a,c,rfl,aw.nil _ _⟩
 · refine ⟨_,c,U,fun _=>rfl,fun j u hu=> ?_⟩
   show Hb.aG w.heap b (0 +j)=_
   rw [Nat.zero_add,a4 i]; exact p j u hu
theorem Tg.bN {w:World} {B e n c:Nat} {a:Option Addr} {xs:List Value} (h:Tg w B e n (.slice a n c) xs):n≤c∧aw w.heap a xs:=by
 obtain ⟨s,C,j,i,E⟩:=id h
 obtain ⟨A,c2,p,q⟩:=h.cells
 cases j; cases p
 exact ⟨i,q⟩
theorem Tg.slice {w:World} {B e n:Nat} {v:Value} {xs:List Value} (h:Tg w B e n v xs):∃ a c,v= .slice a n c:=let ⟨a,c,hv,_⟩:=h; ⟨a,c,hv⟩
theorem Tg.md {F:Nat→Prop} {w w':World} {B e n:Nat} {v:Value} {xs:List Value} (h:Tg w B e n v xs) (hm:Md F w w') (p:∀ k,F k→∀ cur z,w.heap[k]?≠some (.cells cur e z)):Tg w' B e n v xs:=by
 obtain ⟨a,i,rfl,j,h | ⟨b,cur,z,rfl,q,c,s⟩⟩:=h
 · exact ⟨a,i,U,j,.inl h⟩
 · exact ⟨_,i,U,j,.inr ⟨b,cur,z,U,q,by rw [hm.fE b (Array.getElem?_eq_some_iff.1 c).1 (fun hk=>p b hk cur z c)]; exact c,s⟩⟩
theorem Tg.wk {w w':World} {B e n:Nat} {v:Value} {xs:List Value} (h:Tg w B e n v xs) (hm:Wk w w'):Tg w' B e n v xs:=h.md hm fun _ hk=>hk.elim
theorem Tg.clip {w:World} {B e n k q c:Nat} {a:Option Addr} {xs:List Value} (h:Tg w B e n (.slice a n q) xs) (hk:k≤c):Tg w B e k (.slice a k c) (xs.take k):=by
 obtain ⟨E,G,p,_,i⟩:=h
 simp only [Value.slice.injEq,true_and] at p
 obtain ⟨rfl,rfl⟩:=p
 refine ⟨a,c,U,hk,?_⟩
 rcases i with rfl | ⟨b,cur,z,s,A,C,i⟩
 · exact .inl List.take_nil
 · exact .inr ⟨b,cur,z,s,A,C,fun j u hu=>i j u (by rw [List.getElem?_take] at hu; split at hu; exact hu; cases hu)⟩
theorem e9 {w:World} {B e c size n:Nat} {v:Value} {xs:List Value} (h:w.ownsRow B e size v n xs) (j:e≠c):∀ k,v.ownBlock=some k→∀ cur z,w.heap[k]?≠some (.cells cur c z):=by
 intro k hk cur z a
 rcases h.2 with ⟨rfl,_⟩ | ⟨g,cap,p,rfl,_,i,_⟩
 · simp [Value.ownBlock] at hk
 · simp only [Value.ownBlock,Option.some.injEq] at hk
   subst hk
   rw [i] at a
   simp only [Option.some.injEq,Obj.cells.injEq] at a
   exact j a.2.1
theorem eG {w:World} {b e c:Nat} {cs:Array Value} {y:Nat×Nat} (h:w.heap[b]? =some (.cells cs e y)) (i:e≠c):∀ k,k=b→∀ cur z,w.heap[k]?≠some (.cells cur c z):=by
 rintro k rfl cur z a
 rw [h] at a
 simp only [Option.some.injEq,Obj.cells.injEq] at a
 exact i a.2.1
def ec (w:World) (B e:Nat) (vs:List (Nat×Value)) (rs:List Rw):Prop :=vs.length=rs.length∧∀ (i:Nat) q r,vs[i]? =some q→rs[i]? =some r→q.1=r.1∧Tg w B e r.2.length q.2 (r.2.map str)
theorem ec.nil (w:World) (B e:Nat):ec w B e [] []:=⟨rfl,fun i q r a=>by simp at a⟩
theorem ec.md {F:Nat→Prop} {w w':World} {B e:Nat} {vs:List (Nat×Value)} {rs:List Rw} (h:ec w B e vs rs) (hm:Md F w w') (a:∀ k,F k→∀ cur z,w.heap[k]?≠some (.cells cur e z)):ec w' B e vs rs:=
 ⟨h.1,fun i q r h1 h2=>⟨(h.2 i q r h1 h2).1,(h.2 i q r h1 h2).2.md hm a⟩⟩
theorem ec.wk {w w':World} {B e:Nat} {vs:List (Nat×Value)} {rs:List Rw} (h:ec w B e vs rs) (hm:Wk w w'):ec w' B e vs rs:=h.md hm fun _ hk=>hk.elim
theorem ec.snoc {w:World} {B e n:Nat} {vs:List (Nat×Value)} {rs:List Rw} {v:Value} {r:List (List UInt8)} (a:ec w B e vs rs) (p:Tg w B e r.length v (r.map str)):ec w B e (vs++ [(n,v)]) (rs++ [(n,r)]):=by
 refine ⟨by rw [List.length_append,List.length_append,a.1]; rfl,fun i q s h1 h2=> ?_⟩
 have c:=a.1
 by_cases hi:i < vs.length
 · rw [List.getElem?_append_left hi] at h1
   rw [List.getElem?_append_left aa] at h2
   exact a.2 i q s h1 h2
 · rw [List.getElem?_append_right aa] at h1
   rw [List.getElem?_append_right aa,← c] at h2
   cases hj:i - vs.length with
   | zero=>rw [hj] at h1 h2; cases h1; cases h2; exact ⟨rfl,p⟩
   | succ j=>rw [hj] at h1; simp at h1
theorem Tg.mono {w:World} {B c e n:Nat} {v:Value} {xs:List Value} (h:Tg w B e n v xs) (j:c≤B):Tg w c e n v xs:=by
 obtain ⟨a,i,q,p,s⟩:=h
 exact ⟨a,i,q,p,s.imp id fun ⟨b,cur,z,h1,h2,h3⟩=>⟨b,cur,z,h1,Nat.le_trans j h2,h3⟩⟩
theorem ec.mono {w:World} {B a e:Nat} {vs:List (Nat×Value)} {rs:List Rw} (h:ec w B e vs rs) (c:a≤B):ec w a e vs rs:=⟨h.1,fun i q r h1 h2=>⟨(h.2 i q r h1 h2).1,(h.2 i q r h1 h2).2.mono c⟩⟩
end Go.Hb
end
section
set_option linter.unusedSectionVars false
namespace Go.Hb
open Go.RowKit
open Go.Sort (swp insInner insOuter insertionSort siftDown heapBuild heapPop heapSort scanUp scanDown partLoop partEqLoop partition partitionEqual scanSorted shiftDown shiftUp partialIns partialInsertionSort reverseLoop reverseRange choosePivot breakPatterns breakStep pdq Hint)
def LE {α:Type} (f:α→Value) (d:Array α):List Value:=d.toList.map f
section
variable {α:Type} [Inhabited α] {f:α→Value}
theorem m6 (d:Array α):(LE f d).length=d.size:=by simp [LE]
theorem bh {d:Array α} (h:0 < d.size):LE f d≠[]:=by
 intro e; have :=congrArg List.length e; rw [m6,List.length_nil] at this; omega
theorem vL {d:Array α} {i:Nat} (h:i < d.size):(LE f d)[i]? =some (f d[i]!):=by
 unfold LE
 rw [List.getElem?_map,Array.getElem?_toList,Array.getElem?_eq_getElem h,getElem!_pos d i h]; rfl
theorem bJ {h:Array Obj} {a:Option Addr} {d:Array α} {i:Nat} (c:aw h a (LE f d)) (hi:i < d.size):Hb.aG h (bk a) (fo a+i*1)=some (f d[i]!):=c.h8 (vL hi)
theorem Ep (d:Array α) (i:Nat) (v:α):(LE f d).set i (f v)=LE f (d.setIfInBounds i v):=by
 unfold LE; rw [Array.toList_setIfInBounds,List.map_set]
theorem di {w:World} {B e n:Nat} {v:Value} {d:Array α} (h:w.ownsRow B e 1 v n (LE f d)):d.size=n:=by
 have :=h.1; rw [m6] at this; omega
end
section
variable {P:Program} {N:Fm} {σ:Nat→Value} {w:World} {ty:TypeId} {pos :String} {af:Array Edge} {g:Option (Nat×Bool)} {x y:Operand} {K:(Nat→Value)→World→Prop}
theorem dJ {α:Type} [Inhabited α] {f:α→Value} {t B e n cap:Nat} {a:Option Addr} {d:Array α} {u:α} (i:Nat) (c:w.ownsRow B e 1 (.slice a n cap) n (LE f d)) (s:cU P t=some 1) (p:ev N σ x= .pointer (some ⟨bk a,fo a+i*1,none⟩)) (q:ev N σ y=f u) (h1:(f u).oneCell'=true)
 (A:i < n) (k:∀ w',Md (fun k=>(Value.slice a n cap).ownBlock=some k) w w'→w'.ownsRow B e 1 (.slice a n cap) n (LE f (d.setIfInBounds i u))→K σ w'):bP P N ⟨none,.store t x y,ty,pos,af,g⟩ σ w K:=
 kM c s p q h1 (j:=i) aa aa fun w' h1 h2=>k w' h1 (by rw [← Ep]; exact h2)
end
section
variable {α:Type} [Inhabited α] {lt:α→α→Bool} {d:Array α}
theorem DY {a j:Nat} (h:a < j) (h1:lt d[j]! d[j - 1]! =true):insInner lt a j d=insInner lt a (j - 1) (swp d j (j - 1)):=by
 cases j with
 | zero=>omega
 | succ j=>simp only [Nat.add_sub_cancel] at*; rw [insInner,if_pos (by simp [h1]; omega)]
theorem D0 {a j:Nat} (h:¬a < j):insInner lt a j d=d:=by
 cases j with
 | zero=>rfl
 | succ j=>rw [insInner,if_neg (by simp; omega)]
theorem DZ {a j:Nat} (h1:lt d[j]! d[j - 1]! =false):insInner lt a j d=d:=by
 cases j with
 | zero=>rfl
 | succ j=>simp only [Nat.add_sub_cancel] at*; rw [insInner,if_neg (by simp [h1])]
theorem vA {a b i:Nat} (h:i < b):insOuter lt a b i d=insOuter lt a b (i+1) (insInner lt a i d):=by rw [insOuter,if_pos h]
theorem DX {a b i:Nat} (h:¬i < b):insOuter lt a b i d=d:=by rw [insOuter,if_neg h]
theorem GY {hi first r:Nat} (h:¬2 *r+1 < hi):siftDown lt hi first r d=d:=by rw [siftDown,dif_pos aa]
theorem GZ {hi first r:Nat} (h:2 *r+1 +1 < hi) (h1:lt d[first+(2 *r+1)]! d[first+(2 *r+1)+1]! =true):
 siftDown lt hi first r d=if (!lt d[first+r]! d[first+(2 *r+2)]!)=true then d else siftDown lt hi first (2 *r+2) (swp d (first+r) (first+(2 *r+2))):=by
 rw [siftDown,dif_neg aa,if_pos (by simp [h1]; omega),dif_pos aa]
theorem xu {hi first r:Nat} (a:2 *r+1 < hi) (h:¬2 *r+1 +1 < hi∨lt d[first+(2 *r+1)]! d[first+(2 *r+1)+1]! =false):
 siftDown lt hi first r d=if (!lt d[first+r]! d[first+(2 *r+1)]!)=true then d else siftDown lt hi first (2 *r+1) (swp d (first+r) (first+(2 *r+1))):=by
 rw [siftDown,dif_neg aa,if_neg (by rcases h with h | h <;> simp [h] <;> omega)]
theorem Dq {hi first k:Nat} (h:0 < k):heapBuild lt hi first k d=heapBuild lt hi first (k - 1) (siftDown lt hi first (k - 1) d):=by
 cases k with
 | zero=>omega
 | succ k=>rfl
theorem Dr {hi first :Nat} :heapBuild lt hi first 0 d=d:=rfl
theorem DM {first k:Nat} (h:0 < k):heapPop lt first k d=heapPop lt first (k - 1) (siftDown lt (k - 1) first 0 (swp d first (first+(k - 1)))):=by
 cases k with
 | zero=>omega
 | succ k=>rfl
theorem r5 {p:α→Bool} {i j:Nat} (h:i≤j) (h1:p d[i]! =true):scanUp p d j i=scanUp p d j (i+1):=by
 rw [scanUp]; simp [h,h1]
theorem mj {p:α→Bool} {i j:Nat} (h:¬i≤j∨p d[i]! =false):scanUp p d j i=i:=by
 rw [scanUp]; rcases h with h | h <;> simp [h]
theorem qs {p:α→Bool} {i j:Nat} (a:0 < j) (h:i≤j) (h1:p d[j]! =true):scanDown p d i j=scanDown p d i (j - 1):=by
 cases j with
 | zero=>omega
 | succ j=>rw [scanDown]; simp [h,h1]
theorem lO {p:α→Bool} {i j:Nat} (h:¬i≤j∨p d[j]! =false):scanDown p d i j=j:=by
 cases j with
 | zero=>rfl
 | succ j=>rw [scanDown]; rcases h with h | h <;> simp [h]
theorem Hd {b i:Nat} (h:i < b) (h1:lt d[i]! d[i - 1]! =false):scanSorted lt d b i=scanSorted lt d b (i+1):=by
 rw [scanSorted]; simp [h,h1]
theorem xA {b i:Nat} (h:¬i < b∨lt d[i]! d[i - 1]! =true):scanSorted lt d b i=i:=by
 rw [scanSorted]; rcases h with h | h <;> simp [h]
theorem GM {j:Nat} (h:0 < j) (h1:lt d[j]! d[j - 1]! =true):shiftDown lt j d=shiftDown lt (j - 1) (swp d j (j - 1)):=by
 cases j with
 | zero=>omega
 | succ j=>simp only [Nat.add_sub_cancel] at*; rw [shiftDown]; simp [h1]
theorem xm {j:Nat} (h:¬0 < j∨lt d[j]! d[j - 1]! =false):shiftDown lt j d=d:=by
 cases j with
 | zero=>rfl
 | succ j=>simp only [Nat.add_sub_cancel] at*; rw [shiftDown]; rcases h with h | h <;> first | omega | simp [h]
theorem Hl {b j:Nat} (h:j < b) (h1:lt d[j]! d[j - 1]! =true):shiftUp lt b j d=shiftUp lt b (j+1) (swp d j (j - 1)):=by
 rw [shiftUp]; simp [h,h1]
theorem xE {b j:Nat} (h:¬j < b∨lt d[j]! d[j - 1]! =false):shiftUp lt b j d=d:=by
 rw [shiftUp]; rcases h with h | h <;> simp [h]
theorem Gu {i j:Nat} (h:i < j):reverseLoop i j d=reverseLoop (i+1) (j - 1) (swp d i j):=by rw [reverseLoop,if_pos h]
theorem Gv {i j:Nat} (h:¬i < j):reverseLoop i j d=d:=by rw [reverseLoop,if_neg h]
theorem wW {a i j i2 c:Nat} (h1:scanUp (fun x=>lt x d[a]!) d j i=i2) (h2:scanDown (fun x=> !lt x d[a]!) d i2 j=c) (hi:i≤i2) (p:c≤j):
 partLoop lt a i j d=if i2 > c then (c,d) else if (c - 1)+1 - (i2+1) < j+1 - i then partLoop lt a (i2+1) (c - 1) (swp d i2 c) else (c,d):=by
 rw [partLoop]; simp only [h1,h2]; split <;> first | rfl | (split <;> rfl)
theorem wS {a i j i2 c:Nat} (h1:scanUp (fun x=> !lt d[a]! x) d j i=i2) (h2:scanDown (fun x=>lt d[a]! x) d i2 j=c):
 partEqLoop lt a i j d=if i2 > c then (i2,d) else if (c - 1)+1 - (i2+1) < j+1 - i then partEqLoop lt a (i2+1) (c - 1) (swp d i2 c) else (i2,d):=by
 rw [partEqLoop]; simp only [h1,h2]; split <;> first | rfl | (split <;> rfl)
end
def bd (x y:Nat):Bool:=decide (x < y)
theorem m7:Go.Sort.SWO bd:=⟨fun x=>by simp [bd],fun x y z=>by simp only [bd,decide_eq_true_eq]; omega,fun x y z=>by simp only [bd,decide_eq_false_iff_not]; omega⟩
def aI (n:Nat):Value:= .int .u16 n
section
variable {P:Program} {N:Fm} {σ:Nat→Value} {w:World} {dst:Option Nat} {ty:TypeId} {pos :String} {af:Array Edge} {g:Option (Nat×Bool)} {x y:Operand}
theorem pV {t p:TypeId} {k:IntKind} {a b v:Int} (i:ev N σ x= .int k a) (j:ev N σ y= .int k b) (c:k.wrap (BitVec.ofInt k.bits a ^^^ BitVec.ofInt k.bits b).toNat=v):
 (execOp (ev N σ) ⟨dst,.binOp .xor t x y p,ty,pos,af,g⟩).run P w= .ok (.value (.int k v)) w:=by
 subst c; simp [execOp,i,j,eqGuard,binOp,Op.intBits]
end
theorem xQ (x:Int):0≤IntKind.u64.wrap x∧IntKind.u64.wrap x < 18446744073709551616:=by
 have h:IntKind.u64.wrap x=x % 18446744073709551616:=by
  simp [IntKind.wrap,IntKind.bits,IntKind.signed]
 rw [h]; omega
theorem yM (r:Int) (m:Nat) (hm:0 < m∧m≤1099511627776):∃ o:Nat,o≤m - 1∧IntKind.u64.wrap (BitVec.ofInt IntKind.u64.bits r &&& BitVec.ofInt IntKind.u64.bits ((m:Int) - 1)).toNat=(o:Int):=by
 refine ⟨(BitVec.ofInt IntKind.u64.bits r &&& BitVec.ofInt IntKind.u64.bits ((m:Int) - 1)).toNat,?_,?_⟩
 · rw [BitVec.toNat_and]
   refine Nat.le_trans Nat.and_le_right ?_
   have h1:(m:Int) - 1=((m - 1:Nat):Int):=aa
   rw [h1,BitVec.toNat_ofInt]
   have h2:(IntKind.u64.bits:Nat)=64:=rfl
   rw [h2]
   omega
 · exact jT (by have :=(BitVec.ofInt IntKind.u64.bits r &&& BitVec.ofInt IntKind.u64.bits ((m:Int) - 1)).isLt; have h2:(IntKind.u64.bits:Nat)=64:=U; rw [h2] at this ⊢; omega)
def gk (n:Nat):Nat:=if n=0 then 0 else Nat.log2 n+1
theorem vN:∀ n:Fin 256,n.val≠0→n.val < 2 ^ gk n.val∧2 ^ gk n.val≤2 *n.val∧gk n.val≤8:=by decide+kernel
theorem oO {n:Nat} (h:n < 256):gk n≤8:=by
 rcases Nat.eq_zero_or_pos n with rfl | a
 · decide
 · exact (vN ⟨n,h⟩ (by simp; omega)).2.2
theorem Ev {n:Nat} (h:n < 256) (a:0 < n):n < 2 ^ gk n∧2 ^ gk n≤2 *n:=by
 have :=vN ⟨n,h⟩ (by simp; omega)
 exact ⟨this.1,this.2.1⟩
end Go.Hb
end
section
namespace Go.Hb
def ee:List Nat→List Nat
 | []=> []
 | [x]=> [x]
 | x::y::l=>if x=y then ee (y::l) else x::ee (y::l)
theorem BH (x y:Nat):∀ l:List Nat,ee (l++ [x,y])=if x=y then ee (l++ [x]) else ee (l++ [x])++ [y]:=by
 intro l
 induction l with
 | nil=>by_cases h:x=y <;> simp [ee,h]
 | cons a l c=>
   cases l with
   | nil=>by_cases h:a=x <;> by_cases h2:x=y <;> simp_all [ee]
   | cons b l=>
     simp only [List.cons_append] at c ⊢
     rw [ee,c,ee]
     by_cases h:a=b <;> by_cases h2:x=y <;> simp [h,h2]
theorem tV (x:Nat):∀ l:List Nat,x∈ee l↔x∈l:=by
 intro l
 induction l with
 | nil=>simp [ee]
 | cons a l c=>
   cases l with
   | nil=>simp [ee]
   | cons b l=>
     rw [ee]
     by_cases h:a=b
     · subst h; rw [if_pos rfl,c]; simp
     · rw [if_neg h,List.mem_cons,c,List.mem_cons (a:=x) (b:=a)]
theorem BG:∀ l:List Nat,l.Pairwise (·≤·)→(ee l).Pairwise (· < ·):=by
 intro l
 induction l with
 | nil=>intro _; exact List.Pairwise.nil
 | cons a l i=>
   intro h
   cases l with
   | nil=>simp [ee]
   | cons b l=>
     rw [List.pairwise_cons] at h
     rw [ee]
     by_cases h1:a=b
     · rw [if_pos h1]; exact i h.2
     · rw [if_neg h1,List.pairwise_cons]
       refine ⟨fun y c=> ?_,i h.2⟩
       have c:=(tV y _).1 c
       have h2:=h.1 b (by simp)
       rcases List.mem_cons.1 c with rfl | c
       · omega
       · have :=(List.pairwise_cons.1 h.2).1 y c; omega
theorem Gz:∀ l m:List Nat,l.Pairwise (· < ·)→m.Pairwise (· < ·)→(∀ x,x∈l↔x∈m)→l=m:=by
 intro l
 induction l with
 | nil=>
   intro m _ _ h
   cases m with
   | nil=>rfl
   | cons y m=>have :=(h y).2 (by simp); cases this
 | cons a l j=>
   intro m i hm h
   cases m with
   | nil=>have :=(h a).1 (by simp); cases this
   | cons y m=>
     rw [List.pairwise_cons] at i hm
     have e:a=y:=by
      have h1:=(h a).1 (by simp)
      have h2:=(h y).2 (by simp)
      rcases List.mem_cons.1 h1 with h1 | h1
      · exact h1
      · rcases List.mem_cons.1 h2 with h2 | h2
        · exact h2.symm
        · have :=i.1 y h2; have :=hm.1 a h1; omega
     subst e
     congr 1
     refine j m i.2 hm.2 fun x=> ?_
     constructor
     · intro c
       have :=i.1 x c
       rcases List.mem_cons.1 ((h x).1 (List.mem_cons_of_mem _ c)) with h1 | h1
       · omega
       · exact h1
     · intro c
       have :=hm.1 x c
       rcases List.mem_cons.1 ((h x).2 (List.mem_cons_of_mem _ c)) with h1 | h1
       · omega
       · exact h1
def il (x:Nat):List Nat→List Nat
 | []=> [x]
 | y::l=>if x < y then x::y::l else if x=y then y::l else y::il x l
def gN (l:List Nat):List Nat:=l.foldr il []
theorem vz (x y:Nat):∀ l:List Nat,y∈il x l↔y=x∨y∈l:=by
 intro l
 induction l with
 | nil=>simp [il]
 | cons a l c=>
   rw [il]
   split
   · simp
   · split
     · rename_i h; subst h; simp
     · rw [List.mem_cons,c,List.mem_cons]
       constructor <;> (rintro (h | h | h) <;> simp [h])
theorem DW (x:Nat):∀ l:List Nat,l.Pairwise (· < ·)→(il x l).Pairwise (· < ·):=by
 intro l
 induction l with
 | nil=>intro _; simp [il]
 | cons a l j=>
   intro h
   rw [il]
   rw [List.pairwise_cons] at h
   split
   · rename_i i
     rw [List.pairwise_cons,List.pairwise_cons]
     exact ⟨fun y c=>by rcases List.mem_cons.1 c with rfl | c; exact i; have :=h.1 y c; omega,h⟩
   · split
     · rw [List.pairwise_cons]; exact h
     · rw [List.pairwise_cons]
       exact ⟨fun y c=>by rcases (vz x y l).1 c with rfl | c; omega; exact h.1 y c,j h.2⟩
theorem wo (x:Nat):∀ l:List Nat,x∈gN l↔x∈l:=by
 intro l
 induction l with
 | nil=>simp [gN]
 | cons a l c=>show x∈il a (gN l)↔_; rw [vz,c,List.mem_cons]
theorem wq:∀ l:List Nat,(gN l).Pairwise (· < ·):=by
 intro l
 induction l with
 | nil=>exact List.Pairwise.nil
 | cons a l c=>exact DW a _ c
theorem wu {l m:List Nat} (hm:m.Pairwise (· < ·)) (h:∀ x,x∈m↔x∈l):m=gN l:=Gz _ _ hm (wq l) fun x=>by rw [h,wo]
theorem Fs {l:List Nat} (h:l.Pairwise (· < ·)):gN l=l:=(wu h fun _=>Iff.rfl).symm
theorem DV (x:Nat):∀ l:List Nat,(il x l).length≤l.length+1:=by
 intro l
 induction l with
 | nil=>simp [il]
 | cons a l c=>rw [il]; split <;> (try split) <;> simp only [List.length_cons] <;> omega
theorem Fq:∀ l:List Nat,(gN l).length≤l.length:=by
 intro l
 induction l with
 | nil=>simp [gN]
 | cons a l c=>have :=DV a (gN l); show (il a (gN l)).length≤_; simp only [List.length_cons]; omega
theorem mi (d:Array Nat):d.toList.length=d.size:=by simp
theorem nw (d:Array Nat) (i:Nat):d.toList.getD i 0=d[i]! :=by
 rw [List.getD_eq_getElem?_getD,Array.getElem?_toList]
 by_cases h:i < d.size
 · rw [Array.getElem?_eq_getElem h,getElem!_pos d i h]; rfl
 · rw [Array.getElem?_eq_none aa,getElem!_neg d i h]; rfl
theorem pB {d:Array Nat} {i:Nat} (h:i < d.size):d.toList.take (i+1)=d.toList.take i++ [d[i]!]:=by
 rw [eT d.toList i 0 (by simpa using h),nw]
theorem oo {d:Array Nat} {q:Nat} (h1:1≤q) (h:q < d.size):ee (d.toList.take (q+1))=if d[q - 1]! =d[q]! then ee (d.toList.take q) else ee (d.toList.take q)++ [d[q]!]:=by
 obtain ⟨q,rfl⟩:∃ k,q=k+1:=⟨q - 1,aa⟩
 rw [pB h,pB aa,List.append_assoc,Nat.add_sub_cancel]
 exact BH _ _ _
theorem G5 {d:Array Nat} (h:Go.Sort.SortedIn bd 0 d.size d):d.toList.Pairwise (·≤·):=by
 rw [List.pairwise_iff_getElem]
 intro i j hi a c
 have :=h i j (Nat.zero_le _) c (by simpa using a)
 rw [← nw,← nw,List.getD_eq_getElem?_getD,List.getD_eq_getElem?_getD,List.getElem?_eq_getElem hi,List.getElem?_eq_getElem a] at this
 simp only [bd,decide_eq_false_iff_not,Option.getD_some] at this
 omega
theorem G3 {l:List Nat} {d:Array Nat} (hp:Go.Sort.PermIn 0 l.length l.toArray d) (hs:Go.Sort.SortedIn bd 0 l.length d):ee d.toList=gN l:=by
 have a:d.size=l.length:=by rw [hp.1]; simp
 have c:d.toList.Perm l:=by
  have :=hp.2.2
  rw [show (d.extract 0 l.length).toList=d.toList from by rw [Array.toList_extract]; simp [List.take_of_length_le (show d.toList.length≤l.length by simp [a])]] at this
  simpa using this
 exact wu (BG _ (G5 (by rw [a]; exact hs))) fun x=>by rw [tV]; exact c.mem_iff
theorem ow {d d2:Array Nat} {k j:Nat} (h:d.toList.drop k=d2.toList.drop k) (hk:k≤j):d[j]! =d2[j]! :=by
 have :=congrArg (fun l=>l.getD (j - k) 0) h
 simp only [List.getD_eq_getElem?_getD,List.getElem?_drop,show k+(j - k)=j from by omega] at this
 rw [← nw,← nw]; simpa [List.getD_eq_getElem?_getD] using this
theorem set_drop {d:Array Nat} {k m v:Nat} (h:k < m):(d.setIfInBounds k v).toList.drop m=d.toList.drop m:=by
 rw [Array.toList_setIfInBounds,List.drop_set,if_pos h]
theorem rR {d:Array Nat} {k v:Nat} (h:k < d.size):(d.setIfInBounds k v).toList.take (k+1)=d.toList.take k++ [v]:=by
 rw [Array.toList_setIfInBounds,List.set_eq_take_append_cons_drop,if_pos (by simpa using h),List.take_append,List.length_take,Array.length_toList,Nat.min_eq_left aa,Nat.add_sub_cancel_left,List.take_of_length_le (by rw [List.length_take]; omega)]
 rfl
theorem q8 {h:Array Obj} {a:Option Addr} {d:Array Nat} {i j:Nat} {f:Nat→Value} (c:aw h a ((LE f d).drop i)) (hi:i+j < d.size):Hb.aG h (bk a) (fo a+j*1)=some (f d[i+j]!):=by
 refine c.h8 ?_
 rw [List.getElem?_drop]; exact vL hi
theorem q9 {d:Array Nat} {i:Nat} {f:Nat→Value} (h:i < d.size):(LE f d).drop i≠[]:=by
 intro e; have :=congrArg List.length e; rw [List.length_drop,m6,List.length_nil] at this; omega
def eS (b:UInt8):Bool:=decide (33≤b.toNat∧b.toNat≤126∧b.toNat≠47∧b.toNat≠44∧b.toNat≠35)
noncomputable def dd (kind:Nat) (s:List UInt8):Nat:=
 if kind=1 then (if s.length=1∧eS (s.getD 0 0)=true then (s.getD 0 0).toNat else 0)
 else if kind=2 then (if s.length=2∧eS (s.getD 0 0)=true∧eS (s.getD 1 0)=true then 256 *(s.getD 0 0).toNat+(s.getD 1 0).toNat else 0)
 else (dI s 65535).1
def eC (c:UInt8):List UInt8→List UInt8→List (List UInt8)
 | acc,[]=> [acc]
 | acc,b::l=>if b=c then acc::eC c [] l else eC c (acc++ [b]) l
theorem G9 (c:UInt8):∀ (l acc:List UInt8),(eC c acc l).length≤l.length+1:=by
 intro l
 induction l with
 | nil=>intro acc; simp [eC]
 | cons b l a=>
   intro acc; rw [eC]; split
   · have :=a []; simp only [List.length_cons]; omega
   · have :=a (acc++ [b]); simp only [List.length_cons]; omega
theorem Ha (c:UInt8):∀ (l acc x:List UInt8),x∈eC c acc l→x.length≤acc.length+l.length:=by
 intro l
 induction l with
 | nil=>intro acc x h; simp only [eC,List.mem_singleton] at h; subst h; simp
 | cons b l a=>
   intro acc x h
   rw [eC] at h
   split at h
   · rcases List.mem_cons.1 h with rfl | h
     · simp
     · have :=a [] x h; simp only [List.length_nil,List.length_cons] at*; omega
   · have :=a _ x h; rw [List.length_append,List.length_singleton] at this; simp only [List.length_cons]; omega
def j6 (k:Nat):Nat→List UInt8→List (List UInt8)
 | 0,_=> []
 | f+1,s=>if s= [] then [] else s.take k::j6 k f (s.drop k)
def chunks (k:Nat) (s:List UInt8):List (List UInt8):=j6 k s.length s
theorem Av {k:Nat} (hk:0 < k):∀ (f g:Nat) (s:List UInt8),s.length≤f→s.length≤g→j6 k f s=j6 k g s:=by
 intro f
 induction f with
 | zero=>intro g s h _; obtain rfl :=List.eq_nil_of_length_eq_zero (by omega :s.length=0); cases g <;> simp [j6]
 | succ f a=>
   intro g s h1 h2
   cases g with
   | zero=>obtain rfl :=List.eq_nil_of_length_eq_zero (by omega :s.length=0); simp [j6]
   | succ g=>
     rw [j6,j6]
     by_cases hs:s= []
     · simp [hs]
     · have c:=List.length_pos_iff.2 hs
       rw [if_neg hs,if_neg hs,a g (s.drop k) (by rw [List.length_drop]; omega) (by rw [List.length_drop]; omega)]
theorem qg (k:Nat):chunks k []= []:=rfl
theorem qf {k:Nat} {s:List UInt8} (hk:0 < k) (hs:s≠[]):chunks k s=s.take k::chunks k (s.drop k):=by
 have a:=List.length_pos_iff.2 hs
 unfold chunks
 obtain ⟨m,hm⟩:∃ m,s.length=m+1:=⟨s.length - 1,aa⟩
 rw [hm,j6,if_neg hs,Av hk m (s.drop k).length (s.drop k) (by rw [List.length_drop]; omega) (Nat.le_refl _)]
theorem Ay {k:Nat} (hk:0 < k):∀ (n:Nat) (s:List UInt8),s.length≤n→(chunks k s).length≤s.length:=by
 intro n
 induction n with
 | zero=>intro s h; obtain rfl :=List.eq_nil_of_length_eq_zero (by omega :s.length=0); simp [qg]
 | succ n a=>
   intro s h
   by_cases hs:s= []
   · subst hs; simp [qg]
   · have c:=List.length_pos_iff.2 hs
     rw [qf hk hs,List.length_cons]
     have :=a (s.drop k) (by rw [List.length_drop]; omega)
     rw [List.length_drop] at this; omega
theorem Az {k:Nat} (hk:0 < k):∀ (n:Nat) (s x:List UInt8),s.length≤n→x∈chunks k s→x.length≤s.length:=by
 intro n
 induction n with
 | zero=>intro s x h a; obtain rfl :=List.eq_nil_of_length_eq_zero (by omega :s.length=0); cases a
 | succ n c=>
   intro s x h a
   by_cases hs:s= []
   · subst hs; cases a
   · have i:=List.length_pos_iff.2 hs
     rw [qf hk hs] at a
     rcases List.mem_cons.1 a with rfl | a
     · rw [List.length_take]; omega
     · have :=c (s.drop k) x (by rw [List.length_drop]; omega) a
       rw [List.length_drop] at this; omega
def da (kind:Nat) (s:List UInt8):List (List UInt8):=if kind=3 then eC 44 [] s else chunks kind s
theorem F2 {kind:Nat} {s:List UInt8} (hk:0 < kind):(da kind s).length≤s.length+1:=by
 unfold da; split
 · exact G9 _ _ _
 · have :=Ay hk s.length s (Nat.le_refl _); omega
theorem F3 {kind:Nat} {s x:List UInt8} (hk:0 < kind) (h:x∈da kind s):x.length≤s.length:=by
 unfold da at h; split at h
 · have :=Ha _ _ _ _ h; simpa using this
 · exact Az hk _ _ _ (Nat.le_refl _) h
noncomputable def dH (kind:Nat) (s:List UInt8):List Nat×Nat:=
 if s= [] then ([],31) else if ∃ x∈da kind s,dd kind x=0 then ([],31) else if 64 < (da kind s).length then ([],32) else (gN ((da kind s).map (dd kind)),0)
noncomputable def e6 (kind:Nat) (s:List UInt8):Nat×Nat:=if dd kind s=0 then (0,31) else (dd kind s,0)
theorem CP (kind:Nat) (s:List UInt8):dd kind s < 65536:=by
 unfold dd
 have a:=UInt8.toNat_lt (s.getD 0 0)
 have h1:=UInt8.toNat_lt (s.getD 1 0)
 split
 · split <;> omega
 · split
   · split <;> omega
   · unfold dI; split
     · exact Nat.zero_lt_succ _
     · rename_i h; simp only; omega
theorem mu {n:Int} (h:0≤n∧n≤65535):IntKind.u16.wrap n=n:=IntWalk.u16_in n h
theorem GS {x:Nat} (h:x < 256):IntKind.u16.wrap ((x:Int)*2 ^ min (8:Int).toNat IntKind.u16.bits)=((256 *x:Nat):Int):=by
 have h2:((x:Int)*2 ^ min (8:Int).toNat IntKind.u16.bits)=((256 *x:Nat):Int):=by
  show (x:Int)*256=_
  omega
 rw [h2]; exact mu aa
theorem FB {x y:Nat} (h:x < 256) (j:y < 256):IntKind.u16.wrap (BitVec.ofInt IntKind.u16.bits ((256 *x:Nat):Int) ||| BitVec.ofInt IntKind.u16.bits ((y:Nat):Int)).toNat=((256 *x+y:Nat):Int):=by
 have h1:(BitVec.ofInt IntKind.u16.bits ((256 *x:Nat):Int) ||| BitVec.ofInt IntKind.u16.bits ((y:Nat):Int)).toNat=256 *x+y:=by
  have i:(IntKind.u16.bits:Nat)=16:=rfl
  rw [BitVec.toNat_or,BitVec.toNat_ofInt,BitVec.toNat_ofInt,i]
  have a:(((256 *x:Nat):Int) % ((2 ^ 16:Nat):Int)).toNat=2 ^ 8 *x:=aa
  have c:(((y:Nat):Int) % ((2 ^ 16:Nat):Int)).toNat=y:=aa
  rw [a,c,← Nat.two_pow_add_eq_or_of_lt (show y < 2 ^ 8 by omega)]
 rw [h1]; exact mu aa
theorem Fi (s:List UInt8):(dI s 65535).1≤65535:=by
 unfold dI; split
 · exact Nat.zero_le _
 · simp only; omega
theorem Ax (s:List UInt8) (i k:Nat):(s.take (min ((i+k:Nat):Int) (s.length:Int)).toNat).drop (i:Int).toNat=(s.drop i).take k:=by
 rw [Int.toNat_natCast,show (min ((i+k:Nat):Int) (s.length:Int)).toNat=min (i+k) s.length from by omega,List.drop_take]
 by_cases h:i+k≤s.length
 · rw [Nat.min_eq_left h,Nat.add_sub_cancel_left]
 · rw [Nat.min_eq_right aa,List.take_of_length_le (by rw [List.length_drop]; omega),List.take_of_length_le (by rw [List.length_drop]; omega)]
theorem xy (c:UInt8):∀ (l acc:List UInt8),l.idxOf c < l.length→eC c acc l=(acc++l.take (l.idxOf c))::eC c [] (l.drop (l.idxOf c+1)):=by
 intro l
 induction l with
 | nil=>intro acc h; simp at h
 | cons b l i=>
   intro acc h
   rw [eC]
   by_cases a:b=c
   · subst a; rw [if_pos rfl]; simp
   · rw [if_neg a]
     have hi:(b::l).idxOf c=l.idxOf c+1:=by rw [List.idxOf_cons,show (b==c)=false from by simpa using a]; rfl
     rw [hi] at h ⊢
     simp only [List.length_cons] at h
     rw [i _ aa]
     simp [List.append_assoc]
theorem Hc (c:UInt8):∀ (l acc:List UInt8),¬c∈l→eC c acc l= [acc++l]:=by
 intro l
 induction l with
 | nil=>intro acc _; simp [eC]
 | cons b l a=>
   intro acc h
   rw [List.mem_cons,not_or] at h
   rw [eC,if_neg (fun e=>h.1 e.symm),a _ h.2]; simp
theorem rV (c:UInt8):∀ (l acc:List UInt8),(eC c acc l).length=l.count c+1:=by
 intro l
 induction l with
 | nil=>intro acc; simp [eC]
 | cons b l i=>
   intro acc
   rw [eC]
   by_cases a:b=c
   · subst a; rw [if_pos rfl,List.length_cons,i]; simp
   · rw [if_neg a,i,List.count_cons_of_ne a]
theorem Bu {c:UInt8} {l:List UInt8} (h:l.idxOf c < l.length):(l.drop (l.idxOf c+1)).count c+1=l.count c:=by
 have h1:=rV c l []
 rw [xy c l [] h,List.length_cons,rV] at h1
 omega
def nM (n:Nat):Value:= .int .i64 n
end Go.Hb
end
section
namespace Go.Hb
def e5 (b:UInt8):Bool:=decide (33≤b.toNat∧b.toNat≠127)
def eF (w:List UInt8):Bool:=w.all e5
def kp (w:List UInt8):Bool:=decide (1≤w.length∧w.length≤64∧eF w=true)
theorem dK {α:Type} {l:List α} {i:Nat} {d:α} (h:i < l.length):l.getD i d∈l:=by
 rw [List.getD_eq_getElem?_getD,List.getElem?_eq_getElem h]; exact List.getElem_mem h
theorem m9 {α:Type} {l:List α} {x:α} (d:α) (h:x∈l):∃ i,i < l.length∧l.getD i d=x:=by
 obtain ⟨i,hi,rfl⟩:=List.mem_iff_getElem.1 h
 exact ⟨i,hi,by rw [List.getD_eq_getElem?_getD,List.getElem?_eq_getElem hi]; rfl⟩
theorem sH {α:Type} {f:α→Bool} {l:List α} {i:Nat} (d:α) (h:i < l.length) (h1:f (l.getD i d)=false):l.all f=false :=by
 rw [List.all_eq_false]; exact ⟨_,dK h,by rw [h1]; exact Bool.noConfusion⟩
theorem sI {α:Type} {f:α→Bool} {l:List α} (d:α) (h:∀ i,i < l.length→f (l.getD i d)=true):l.all f=true :=by
 rw [List.all_eq_true]; intro x a; obtain ⟨i,hi,rfl⟩:=m9 d a; exact h i hi
theorem n4 {w:List UInt8} {i:Nat} (h:i < w.length) (h1:e5 (w.getD i 0)=false):eF w=false :=sH 0 h h1
theorem n5 {w:List UInt8} (h:∀ i,i < w.length→e5 (w.getD i 0)=true):eF w=true :=sI 0 h
theorem zd (b:UInt8):eF [b]=e5 b:=by unfold eF; simp
def lg (b:UInt8):Bool:=decide (b.toNat=92∨b.toNat=47∨b.toNat=35)
abbrev iH:Type :=List UInt8×List UInt8×Bool×Nat
def Gc (r:iH):Value:= .tuple #[str r.1,str r.2.1,.bool r.2.2.1,.int .i64 r.2.2.2]
def fA:List UInt8→List UInt8→iH
 | acc,[]=>(acc,[],false,0)
 | acc,[b]=>if b.toNat=47 then (acc,[],true,0) else if b.toNat=92 then ([],[],false,20) else (acc++ [b],[],false,0)
 | acc,b::c::l=>if b.toNat=47 then (acc,c::l,true,0) else if b.toNat=92 then (if lg c=true then fA (acc++ [c]) l else ([],[],false,20)) else fA (acc++ [b]) (c::l)
theorem r8 (acc:List UInt8):fA acc []=(acc,[],false,0):=by simp [fA]
theorem yc {acc l:List UInt8} {b:UInt8} (h:b.toNat=47):fA acc (b::l)=(acc,l,true,0):=by
 cases l <;> simp [fA,h]
theorem x9 {acc:List UInt8} {b:UInt8} (h:b.toNat=92):fA acc [b]=([],[],false,20):=by simp [fA,h]
theorem ya {acc l:List UInt8} {b c:UInt8} (h:b.toNat=92) (a:lg c=false):fA acc (b::c::l)=([],[],false,20):=by simp [fA,h,a]
theorem x8 {acc l:List UInt8} {b c:UInt8} (h:b.toNat=92) (a:lg c=true):fA acc (b::c::l)=fA (acc++ [c]) l:=by simp [fA,h,a]
theorem yb {acc l:List UInt8} {b:UInt8} (h:¬b.toNat=47) (h1:¬b.toNat=92):fA acc (b::l)=fA (acc++ [b]) l:=by
 cases l <;> simp [fA,h,h1]
theorem Ic (n:Nat):∀ (l acc:List UInt8),l.length≤n→(fA acc l).1.length≤acc.length+l.length∧(fA acc l).2.1.length≤l.length:=by
 induction n with
 | zero=>intro l acc h; obtain rfl :=List.eq_nil_of_length_eq_zero (by omega :l.length=0); rw [r8]; exact ⟨by simp,by simp⟩
 | succ n a=>
   intro l acc h
   cases l with
   | nil=>rw [r8]; exact ⟨by simp,by simp⟩
   | cons b l=>
     simp only [List.length_cons] at h ⊢
     by_cases h1:b.toNat=47
     · rw [yc h1]; exact ⟨by simp only; omega,by simp only; omega⟩
     · by_cases h2:b.toNat=92
       · cases l with
         | nil=>rw [x9 h2]; exact ⟨by simp,by simp⟩
         | cons c l=>
           simp only [List.length_cons] at h ⊢
           cases hc:lg c
           · rw [ya h2 hc]; exact ⟨by simp,by simp⟩
           · rw [x8 h2 hc]
             have :=a l (acc++ [c]) aa
             rw [List.length_append,List.length_singleton] at this
             omega
       · rw [yb h1 h2]
         have :=a l (acc++ [b]) aa
         rw [List.length_append,List.length_singleton] at this
         omega
def a8 (f:List UInt8):iH:=fA [] f
theorem pK (f:List UInt8):(a8 f).1.length≤f.length∧(a8 f).2.1.length≤f.length:=by
 have :=Ic f.length f [] (Nat.le_refl _)
 simpa [a8] using this
def lets (s:List UInt8):List UInt8:=s.foldl (fun a b=>if b∈a then a else a++ [b]) []
def letE (s:List UInt8):List UInt8×Nat:=if s= []∨eF s=false then ([],21) else (lets s,0)
theorem oP {s:List UInt8} {i:Nat} (h:i < s.length):lets (s.take (i+1))=if s.getD i 0∈lets (s.take i) then lets (s.take i) else lets (s.take i)++ [s.getD i 0]:=by
 unfold lets
 rw [eT s i 0 h,List.foldl_append]; rfl
theorem vP (s:List UInt8):(lets s).length≤s.length:=by
 have key:∀ (s a:List UInt8),(s.foldl (fun a b=>if b∈a then a else a++ [b]) a).length≤a.length+s.length:=by
  intro s
  induction s with
  | nil=>intro a; simp
  | cons b s c=>
    intro a
    rw [List.foldl_cons,List.length_cons]
    split
    · have :=c a; omega
    · have :=c (a++ [b]); rw [List.length_append,List.length_singleton] at this; omega
 have :=key s []
 simpa [lets] using this
def marksOf (a:List UInt8):List Value:=(List.range 256).map fun k=> .bool (decide (UInt8.ofNat k∈a))
theorem vT (a:List UInt8):(marksOf a).length=256:=by simp [marksOf]
theorem EV (a:List UInt8) (b:UInt8):(marksOf a)[b.toNat]? =some (.bool (decide (b∈a))):=by
 have :=UInt8.toNat_lt b
 unfold marksOf
 rw [List.getElem?_map,List.getElem?_range aa]
 simp
theorem EX (a:List UInt8) (b:UInt8):(marksOf a).set b.toNat (.bool true)=marksOf (a++ [b]):=by
 apply List.ext_getElem?
 intro k
 rw [List.getElem?_set,vT]
 unfold marksOf
 rw [List.getElem?_map,List.getElem?_map]
 by_cases hk:k < 256
 · rw [List.getElem?_range hk]
   simp only [Option.map_some]
   have he:(UInt8.ofNat k=b)↔b.toNat=k:=by
    constructor
    · rintro rfl; simp; omega
    · rintro rfl; simp
   by_cases h:b.toNat=k
   · have h2:=he.2 h
     simp [h,hk,h2]
   · have h2:¬UInt8.ofNat k=b:=fun e=>h (he.1 e)
     simp [h,h2]
 · have :(List.range 256)[k]? =none:=List.getElem?_eq_none (by simp; omega)
   have c:=UInt8.toNat_lt b
   rw [this]
   simp; omega
theorem EW:marksOf []=List.replicate 256 (.bool false):=by
 unfold marksOf
 apply List.ext_getElem?
 intro k
 rw [List.getElem?_map,List.getElem?_replicate]
 by_cases hk:k < 256
 · rw [List.getElem?_range hk]; simp [hk]
 · rw [List.getElem?_eq_none (by simp; omega)]; simp [hk]
theorem Bd.new {T e b:Nat} {w:World} (h:w.heap[b]? =some (.cells [Value.pointer none,.slice none 0 0].toArray T (0,0))):Bd T e w b (.slice none 0 0) []:=
 ⟨⟨none,h,.inl rfl⟩,World.ownsRow_nil _ _ _ _,by simp⟩
theorem Bd.step {T e b:Nat} {a w w':World} {c:Value} {l:List UInt8} (h:Bd T e w b c l) (i:Wk a w) (j:Md (BF b c) w w') (q:a.heap.size≤b):Wk a w':=
 Md.trans' i j fun k hk p=>by have :=h.eO p; omega
theorem Bd.rX {T e b:Nat} {a w w':World} {c:Value} {l:List UInt8} (h:Bd T e w b c l) (i:Wk a w) (j:Md (fun k=>c.ownBlock=some k) w w') (q:a.heap.size≤b):Wk a w':=
 Md.trans' i j fun k hk p=>by have :=h.eO (.inr p); omega
end Go.Hb
end
section
set_option linter.unusedSimpArgs false
namespace Go.Hb
def kA (g:Nat→Bool):Nat→Nat
 | 0=>0
 | n+1=>kA g n ||| (if g n=true then 2 ^ n else 0)
theorem yW (g:Nat→Bool):∀ n,kA g n < 2 ^ n:=by
 intro n
 induction n with
 | zero=>exact Nat.zero_lt_one
 | succ n a=>
   rw [kA]
   refine Nat.or_lt_two_pow (Nat.lt_trans a (Nat.pow_lt_pow_right ao (Nat.lt_succ_self n))) ?_
   split
   · exact Nat.pow_lt_pow_right ao (Nat.lt_succ_self n)
   · exact Nat.two_pow_pos _
theorem mF (g:Nat→Bool) (j:Nat):∀ n,(kA g n).testBit j=(decide (j < n) && g j):=by
 intro n
 induction n with
 | zero=>simp [kA]
 | succ n i=>
   rw [kA,Nat.testBit_or,i]
   by_cases c:j=n
   · subst c
     cases h:g j <;> simp [Nat.testBit_two_pow_self]
   · have a:(if g n=true then 2 ^ n else 0).testBit j=false :=by
      split
      · rw [Nat.testBit_two_pow]; simp; omega
      · simp
     rw [a,Bool.or_false]
     congr 1
     exact decide_eq_decide.2 aa
theorem n2 {g:Nat→Bool} {x:Nat} (c:x < 2 ^ 64) (h:∀ j,j < 64→x.testBit j=g j):x=kA g 64:=by
 refine Nat.eq_of_testBit_eq fun j=> ?_
 rw [mF]
 by_cases a:j < 64
 · rw [h j a,decide_eq_true a,Bool.true_and]
 · rw [decide_eq_false a,Bool.false_and]
   exact Nat.testBit_lt_two_pow (Nat.lt_of_lt_of_le c (Nat.pow_le_pow_right ao aa))
def cM (f:UInt8→Bool) (k:Nat):Nat:=kA (fun j=>f (UInt8.ofNat (64 *k+j))) 64
def cB (f:UInt8→Bool):List Value:= [.int .u64 (cM f 0),.int .u64 (cM f 1),.int .u64 (cM f 2),.int .u64 (cM f 3)]
theorem mq (f:UInt8→Bool) (k:Nat):cM f k < 18446744073709551616:=yW _ 64
theorem oe (f:UInt8→Bool):(cB f).length=4:=rfl
theorem tJ (f:UInt8→Bool):(cB f).all Value.oneCell'=true :=rfl
theorem qj (f:UInt8→Bool) {k:Nat} (h:k < 4):(cB f)[k]? =some (.int .u64 (cM f k)):=by
 match k,h with
 | 0,_=>rfl
 | 1,_=>rfl
 | 2,_=>rfl
 | 3,_=>rfl
theorem qk:cB (fun _=>false)= [.int .u64 0,.int .u64 0,.int .u64 0,.int .u64 0]:=by
 have :∀ k,cM (fun _=>false) k=0:=fun k=>(n2 (x:=0) ao (fun j _=>by simp)).symm
 unfold cB; simp only [this]; rfl
theorem pW (b:UInt8) {k j:Nat} (hk:k < 4) (c:j < 64):UInt8.ofNat (64 *k+j)=b↔k=b.toNat / 64∧j=b.toNat % 64:=by
 have a:=UInt8.toNat_lt b
 constructor
 · rintro rfl
   simp only [UInt8.toNat_ofNat']
   omega
 · rintro ⟨h1,h2⟩
   refine UInt8.toNat_inj.1 ?_
   simp only [UInt8.toNat_ofNat']
   omega
theorem H6 (f:UInt8→Bool) (b:UInt8) {k:Nat} (hk:k < 4):cM (fun x=>f x || decide (x=b)) k=if k=b.toNat / 64 then cM f k ||| 2 ^ (b.toNat % 64) else cM f k:=by
 split
 · rename_i h
   refine (n2 (Nat.or_lt_two_pow (mq f k) (Nat.pow_lt_pow_right ao aa)) fun j a=> ?_).symm
   rw [Nat.testBit_or,Nat.testBit_two_pow]
   have h1:(cM f k).testBit j=f (UInt8.ofNat (64 *k+j)):=by unfold cM; rw [mF,decide_eq_true a,Bool.true_and]
   rw [h1]
   congr 1
   exact decide_eq_decide.2 (by rw [pW b hk a]; omega)
 · rename_i h
   refine (n2 (mq f k) fun j a=> ?_).symm
   have h1:(cM f k).testBit j=f (UInt8.ofNat (64 *k+j)):=by unfold cM; rw [mF,decide_eq_true a,Bool.true_and]
   show _=(f (UInt8.ofNat (64 *k+j)) || decide (UInt8.ofNat (64 *k+j)=b))
   rw [h1,decide_eq_false (by rw [pW b hk a]; omega),Bool.or_false]
theorem AY (f:UInt8→Bool) (b:UInt8):(cB f).set (b.toNat / 64) (.int .u64 ((cM f (b.toNat / 64) ||| 2 ^ (b.toNat % 64):Nat):Int))=cB (fun x=>f x || decide (x=b)):=by
 have a:=UInt8.toNat_lt b
 apply List.ext_getElem?
 intro k
 rw [List.getElem?_set,oe]
 by_cases hk:k < 4
 · rw [qj _ hk,qj _ hk,H6 f b hk]
   by_cases h:b.toNat / 64=k
   · subst h; simp [show b.toNat / 64 < 4 by omega]
   · rw [if_neg h,if_neg (fun e=>h e.symm)]
 · rw [List.getElem?_eq_none (by rw [oe]; omega),List.getElem?_eq_none (by rw [oe]; omega)]
   simp; omega
theorem H5 (f:UInt8→Bool) (b:UInt8):decide ((((cM f (b.toNat / 64) / 2 ^ (b.toNat % 64)) % 2:Nat):Int)=1)=f b:=by
 have a:=UInt8.toNat_lt b
 have h1:(cM f (b.toNat / 64)).testBit (b.toNat % 64)=f b:=by
  unfold cM
  rw [mF,decide_eq_true (Nat.mod_lt _ ao),Bool.true_and,(pW b (k:=b.toNat / 64) (j:=b.toNat % 64) aa (Nat.mod_lt _ ao)).2 ⟨rfl,rfl⟩]
 rw [← h1,Nat.testBit_eq_decide_div_mod_eq]
 exact decide_eq_decide.2 aa
theorem sL (b:UInt8):IntKind.u8.wrap (BitVec.ofInt IntKind.u8.bits (b.toNat:Int) &&& BitVec.ofInt IntKind.u8.bits 63).toNat=((b.toNat % 64:Nat):Int):=by
 have h:∀ r:Fin 256,IntKind.u8.wrap (BitVec.ofInt IntKind.u8.bits ((r.val:Nat):Int) &&& BitVec.ofInt IntKind.u8.bits 63).toNat=((r.val % 64:Nat):Int):=by decide+kernel
 exact h ⟨b.toNat,UInt8.toNat_lt b⟩
theorem xr (b:UInt8):(b.toNat:Int).fdiv (2 ^ min (6:Int).toNat IntKind.u8.bits)=((b.toNat / 64:Nat):Int):=by
 have h:∀ r:Fin 256,((r.val:Nat):Int).fdiv (2 ^ min (6:Int).toNat IntKind.u8.bits)=((r.val / 64:Nat):Int):=by decide+kernel
 exact h ⟨b.toNat,UInt8.toNat_lt b⟩
theorem GR {m:Nat} (h:m < 64):IntKind.u64.wrap ((1:Int)*2 ^ min ((m:Nat):Int).toNat IntKind.u64.bits)=((2 ^ m:Nat):Int):=by
 have h2:(IntKind.u64.bits:Nat)=64:=rfl
 rw [Int.toNat_natCast,h2,Nat.min_eq_left aa,Int.one_mul]
 have h3:(2:Nat) ^ m < 2 ^ 64:=Nat.pow_lt_pow_right ao h
 have h4:((2:Int) ^ m)=((2 ^ m:Nat):Int):=by simp
 rw [h4]
 obtain ⟨x,a⟩:∃ x:Nat,2 ^ m=x:=⟨_,rfl⟩
 rw [a] at h3 ⊢; exact jT aa
theorem FA {x y:Nat} (c:x < 2 ^ 64) (i:y < 2 ^ 64):IntKind.u64.wrap (BitVec.ofInt IntKind.u64.bits (x:Int) ||| BitVec.ofInt IntKind.u64.bits (y:Int)).toNat=((x ||| y:Nat):Int):=by
 have a:(IntKind.u64.bits:Nat)=64:=rfl
 have h1:(BitVec.ofInt IntKind.u64.bits (x:Int) ||| BitVec.ofInt IntKind.u64.bits (y:Int)).toNat=x ||| y:=by
  rw [BitVec.toNat_or,BitVec.toNat_ofInt,BitVec.toNat_ofInt,a]
  congr 1 <;> omega
 rw [h1]
 have :=Nat.or_lt_two_pow c i
 obtain ⟨z,j⟩:∃ z:Nat,x ||| y=z:=⟨_,rfl⟩
 rw [j] at this ⊢; exact jT aa
theorem GX (x:Nat) {m:Nat} (h:m < 64):(x:Int).fdiv (2 ^ min ((m:Nat):Int).toNat IntKind.u64.bits)=((x / 2 ^ m:Nat):Int):=by
 have h2:(IntKind.u64.bits:Nat)=64:=rfl
 rw [Int.toNat_natCast,h2,Nat.min_eq_left aa]
 rw [show ((2:Int) ^ m)=((2 ^ m:Nat):Int) by simp,Int.fdiv_eq_ediv_of_nonneg _ (Int.natCast_nonneg _)]; rfl
theorem yL {x:Nat} (c:x < 2 ^ 64):IntKind.u64.wrap (BitVec.ofInt IntKind.u64.bits (x:Int) &&& BitVec.ofInt IntKind.u64.bits 1).toNat=((x % 2:Nat):Int):=by
 have a:(IntKind.u64.bits:Nat)=64:=rfl
 have h1:(BitVec.ofInt IntKind.u64.bits (x:Int) &&& BitVec.ofInt IntKind.u64.bits 1).toNat=x % 2:=by
  rw [BitVec.toNat_and,BitVec.toNat_ofInt,BitVec.toNat_ofInt,a,show ((x:Int) % ((2 ^ 64:Nat):Int)).toNat=x by omega]
  exact Nat.and_one_is_mod x
 rw [h1]; exact jT aa
section
variable {P:Program} {N:Fm} {σ:Nat→Value} {w:World} {dst:Option Nat} {ty:TypeId} {pos :String} {af:Array Edge} {g:Option (Nat×Bool)} {x:Operand}
theorem og {t:TypeId} {k:Nat} {f:UInt8→Bool} (p:ev N σ x= .int .u64 (cM f k)):(execOp (ev N σ) ⟨dst,.unOp .xor t x,ty,pos,af,g⟩).run P w= .ok (.value (.int .u64 (cM (fun y=> !f y) k))) w:=by
 have i:=mq f k
 have h1:IntKind.u64.wrap (BitVec.ofInt IntKind.u64.bits IntKind.u64.max ^^^ BitVec.ofInt IntKind.u64.bits (cM f k:Int)).toNat=(cM (fun y=> !f y) k:Int):=by
  have c:(IntKind.u64.bits:Nat)=64:=rfl
  have h2:(BitVec.ofInt IntKind.u64.bits IntKind.u64.max ^^^ BitVec.ofInt IntKind.u64.bits (cM f k:Int)).toNat=cM (fun y=> !f y) k:=by
   rw [BitVec.toNat_xor,BitVec.toNat_ofInt,BitVec.toNat_ofInt,c,show (IntKind.u64.max % ((2 ^ 64:Nat):Int)).toNat=2 ^ 64 - 1 from by decide,show ((cM f k:Int) % ((2 ^ 64:Nat):Int)).toNat=cM f k by omega]
   refine n2 (Nat.xor_lt_two_pow ao i) fun j a=> ?_
   rw [Nat.testBit_xor,Nat.testBit_two_pow_sub_one,decide_eq_true a,Bool.true_xor]
   congr 1
   unfold cM; rw [mF,decide_eq_true a,Bool.true_and]
  rw [h2]; have :=mq (fun y=> !f y) k; exact jT aa
 have h3:(Op.intBits .xor IntKind.u64 IntKind.u64.max (cM f k:Int)).run P w= .ok (.int .u64 (cM (fun y=> !f y) k)) w:=by
  simp only [Op.intBits]
  rw [← h1]; rfl
 have h4:(Op.unary .xor (.int IntKind.u64 (cM f k:Int))).run P w= .ok (.int .u64 (cM (fun y=> !f y) k)) w:=by
  simp only [Op.unary]
  exact h3
 simp [execOp,p,h4]
end
def eE (t:List UInt8) (b:UInt8):Bool:=
 if t.length=1 then decide (t.getD 0 0=46∨t.getD 0 0=b)
 else if t.getD 1 0=94 then !decide (b∈(t.take (t.length - 1)).drop 2)
 else decide (b∈(t.take (t.length - 1)).drop 1)
def gi:List UInt8→Option (List UInt8×List UInt8)
 | []=>none
 | b::l=>if b=91 then (if l.idxOf 93 < l.length∧l.idxOf 93≠0∧¬(l.idxOf 93=1∧l.getD 0 0=94) then some (b::l.take (l.idxOf 93 +1),l.drop (l.idxOf 93 +1)) else none) else some ([b],l)
theorem tF {s t r:List UInt8} (h:gi s=some (t,r)):r.length < s.length:=by
 cases s with
 | nil=>cases h
 | cons b l=>
   simp only [gi] at h
   split at h
   · split at h
     · simp only [Option.some.injEq,Prod.mk.injEq] at h
       obtain ⟨_,rfl⟩:=h
       rw [List.length_drop,List.length_cons]; omega
     · cases h
   · simp only [Option.some.injEq,Prod.mk.injEq] at h
     obtain ⟨_,rfl⟩:=h
     simp
def jt:Nat→List UInt8→Option (List (List UInt8))
 | 0,s=>if s= [] then some [] else none
 | f+1,s=>if s= [] then some [] else match gi s with
   | none=>none
   | some (t,r)=>(jt f r).map (t:: ·)
theorem Bl:∀ (f g:Nat) (s:List UInt8),s.length≤f→s.length≤g→jt f s=jt g s:=by
 intro f
 induction f with
 | zero=>intro g s h _; obtain rfl :=List.eq_nil_of_length_eq_zero (by omega :s.length=0); cases g <;> simp [jt]
 | succ f a=>
   intro g s h1 h2
   cases g with
   | zero=>obtain rfl :=List.eq_nil_of_length_eq_zero (by omega :s.length=0); simp [jt]
   | succ g=>
     rw [jt,jt]
     split
     · rfl
     · cases hc:gi s with
       | none=>rfl
       | some q=>
         obtain ⟨t,r⟩:=q
         have :=tF hc
         simp only
         rw [a g r aa aa]
def ig (s:List UInt8):Option (List (List UInt8)):=jt s.length s
theorem Bi:ig []=some []:=rfl
theorem Bk {s t r:List UInt8} (h:gi s=some (t,r)):ig s=(ig r).map (t:: ·):=by
 have a:=tF h
 unfold ig
 obtain ⟨m,hm⟩:∃ m,s.length=m+1:=⟨s.length - 1,aa⟩
 have hs:s≠[]:=fun e=>by rw [e] at hm; simp at hm
 rw [hm,jt,if_neg hs,h]
 simp only
 rw [Bl m r.length r aa (Nat.le_refl _)]
theorem Bj {s:List UInt8} (hs:s≠[]) (h:gi s=none):ig s=none:=by
 unfold ig
 have a:=List.length_pos_iff.2 hs
 obtain ⟨m,hm⟩:∃ m,s.length=m+1:=⟨s.length - 1,aa⟩
 rw [hm,jt,if_neg hs,h]
def dT (s:List UInt8):List (List UInt8)×Nat:=
 if s= []∨512 < s.length then ([],40) else if s= [46] then ([],0) else match ig s with
  | none=>([],41)
  | some xs=>if 16 < xs.length then ([],42) else (xs,0)
def gF (s:List UInt8) (i:Nat) (a:List (List UInt8)):Prop :=ig s=(ig (s.drop i)).map (a++ ·)
theorem gF.start (s:List UInt8):gF s 0 []:=by
 unfold gF; rw [List.drop_zero]; cases ig s <;> simp
theorem gF.step {s t r:List UInt8} {i j:Nat} {a:List (List UInt8)} (h:gF s i a) (c:gi (s.drop i)=some (t,r)) (p:r=s.drop j):gF s j (a++ [t]):=by
 subst p
 unfold gF at*
 rw [h,Bk c]
 cases ig (s.drop j) <;> simp
theorem gF.bad {s:List UInt8} {i:Nat} {a:List (List UInt8)} (h:gF s i a) (hi:i < s.length) (c:gi (s.drop i)=none):ig s=none:=by
 unfold gF at h
 rw [h,Bj (fun e=>by have :=congrArg List.length e; rw [List.length_drop,List.length_nil] at this; omega) c]; rfl
theorem gF.done {s:List UInt8} {i:Nat} {a:List (List UInt8)} (h:gF s i a) (hi:s.length≤i):ig s=some a:=by
 unfold gF at h
 rw [h,List.drop_eq_nil_of_le hi,Bi]; simp
theorem AB {b:UInt8} {l:List UInt8} (h:b≠91):gi (b::l)=some ([b],l):=by simp [gi,h]
theorem AD {b:UInt8} {l:List UInt8} (a:b=91) (h:l.idxOf 93 < l.length) (h1:l.idxOf 93≠0) (h2:¬(l.idxOf 93=1∧l.getD 0 0=94)):gi (b::l)=some (b::l.take (l.idxOf 93 +1),l.drop (l.idxOf 93 +1)):=by
 simp only [gi]; rw [if_pos a,if_pos ⟨h,h1,h2⟩]
theorem AA {b:UInt8} {l:List UInt8} (a:b=91) (h:¬(l.idxOf 93 < l.length∧l.idxOf 93≠0∧¬(l.idxOf 93=1∧l.getD 0 0=94))):gi (b::l)=none:=by
 simp only [gi]; rw [if_pos a,if_neg h]
def j5 (f:UInt8→Bool) (i:Nat):List UInt8:=((List.range i).map UInt8.ofNat).filter f
def bytesOf (f:UInt8→Bool):List UInt8:=j5 f 256
theorem sW (f:UInt8→Bool) (i:Nat):j5 f (i+1)=j5 f i++(if f (UInt8.ofNat i)=true then [UInt8.ofNat i] else []):=by
 unfold j5
 rw [List.range_succ,List.map_append,List.filter_append]
 congr 1
 cases h:f (UInt8.ofNat i) <;> simp [h]
theorem mG (f:UInt8→Bool) (i:Nat):(j5 f i).length≤i:=by
 unfold j5
 refine Nat.le_trans (List.length_filter_le _ _) ?_
 simp
theorem zc (f:UInt8→Bool):(bytesOf f).Nodup:=by
 unfold bytesOf j5
 refine List.Nodup.sublist List.filter_sublist ?_
 rw [List.nodup_iff_pairwise_ne,List.pairwise_map]
 refine List.Pairwise.imp_of_mem ?_ (List.nodup_iff_pairwise_ne.1 List.nodup_range)
 intro a b c i j e
 have h1:=List.mem_range.1 c
 have h2:=List.mem_range.1 i
 have :=congrArg UInt8.toNat e
 simp only [UInt8.toNat_ofNat'] at this
 omega
def iy (f:UInt8→Bool):List UInt8:=
 if (bytesOf f).length=256 then [46]
 else if (bytesOf f).length=1∧(bytesOf f).getD 0 0≠46∧(bytesOf f).getD 0 0≠91 then bytesOf f
 else if f 93=true then [91,94]++bytesOf (fun b=> !f b)++ [93]
 else [91]++((bytesOf f).filter (fun b=>decide (b≠94))++(if 94∈bytesOf f then [94] else []))++ [93]
def l9 (ps:List (List UInt8)):List UInt8:=if ps= [] then [46] else ps.flatMap fun t=>iy (eE t)
theorem GV (f:UInt8→Bool):(iy f).length≤300:=by
 have h1:=mG f 256
 have h2:=mG (fun b=> !f b) 256
 unfold iy
 split
 · simp
 · split
   · unfold bytesOf; omega
   · split
     · simp only [List.length_append,List.length_cons,List.length_nil]; unfold bytesOf; omega
     · have h3:=List.length_filter_le (fun b=>decide (b≠94)) (bytesOf f)
       have h4:(if 94∈bytesOf f then [(94:UInt8)] else []).length≤1:=by split <;> simp
       simp only [List.length_append,List.length_cons,List.length_nil]
       have h5:(bytesOf f).length≤256:=h1
       omega
theorem DO {l:List UInt8} (hn:l.Nodup) {c:UInt8} (h:l.idxOf c < l.length):l.take (l.idxOf c)++l.drop (l.idxOf c+1)=l.filter (fun b=>decide (b≠c)):=by
 induction l with
 | nil=>simp at h
 | cons b l j=>
   rw [List.nodup_cons] at hn
   by_cases a:b=c
   · subst a
     simp only [List.idxOf_cons_self,List.take_zero,List.nil_append,Nat.zero_add,List.drop_succ_cons,List.drop_zero]
     rw [List.filter_cons_of_neg (by simp)]
     exact (List.filter_eq_self.2 fun x i=>by simp; rintro rfl; exact hn.1 i).symm
   · have e:(b::l).idxOf c=l.idxOf c+1:=by rw [List.idxOf_cons,show (b==c)=false from by simpa using a]; rfl
     rw [e] at h ⊢
     simp only [List.length_cons] at h
     rw [List.take_succ_cons,List.drop_succ_cons,List.cons_append,j hn.2 aa,List.filter_cons_of_pos (by simpa using a)]
theorem vY {l:List UInt8} {c:UInt8} (h:¬c∈l):l.filter (fun b=>decide (b≠c))=l:=
 List.filter_eq_self.2 fun x a=>by simp; rintro rfl; exact h a
def ib (ps:List (List UInt8)):List Value:=ps.flatMap fun t=>cB (eE t)
theorem AV (a b:List (List UInt8)):ib (a++b)=ib a++ib b:=by simp [ib]
end Go.Hb
end
