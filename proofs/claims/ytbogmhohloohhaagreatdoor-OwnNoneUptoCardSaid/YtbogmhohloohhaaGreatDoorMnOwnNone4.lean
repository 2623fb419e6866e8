/-
  Walks and plain laws that the law rests on, laid together. No conditions but those that each theorem names.
-/
import Derived.Test.YtbogmhohloohhaaGreatDoorMnOwnNone3
set_option linter.unusedVariables false
set_option maxRecDepth 100000000
set_option maxHeartbeats 1000000
open Array renaming getElem?_eq_some_iff→bu
open Bool renaming noConfusion→cz
open Go renaming Addr→aB,Value→ab,World→ae
open Go.Calls renaming mono→ik
open Go.Proofs.Tryz renaming prog→ao
open Go.Value renaming bool→dh,func→jV,int→oA,oneCell'→iS,ownBlock→cJ,pointer→oB,slice→dD
open Go.Value.slice renaming injEq→jW
open Go.World renaming ownsRow→eX,ownsRow_nil→lf
open List renaming append_assoc→oD,eq_nil_of_length_eq_zero→im,getElem?_eq_getElem→cK,getElem?_eq_some_iff→bZ,length_append→cn,length_cons→cr,length_mergeSort→wz,length_singleton→lj,length_take→dW,map_cons→cx,mem_append→dL,mem_cons→cU,mem_iff_getElem?→oH,mem_singleton→iq,nodup_nil→wM,not_mem_nil→rk,sum_cons→rl,take_length→wP,toArray→bB
open List.cons renaming injEq→fQ
open Nat renaming add_assoc→eo,blt→aq,le_refl→aI,le_trans→bK,mul_one→oK
open Option.some renaming inj→di,injEq→aQ
open Prod renaming fst→bC
open Go.Proofs.Tryz
open Go.Proofs

section
namespace Go.Hb
open Go.RowKit
abbrev gK:Type :=Int×List (List UInt8)×List UInt8
def cA:gK:=(0,[],[])
structure ls (h:Array Obj) (a:Option aB) (ops:List gK):Prop where
 ok:0 < ops.length→a=some ⟨bk a,fo a,none⟩
 st:∀ i,i < ops.length→∃ wa wc,(∀ j,j < 3→aK h (bk a) (fo a+i*3 +j)= [oA .i64 (ops.getD i cA).1,.slice wa (ops.getD i cA).2.1.length wc,str (ops.getD i cA).2.2][j]?)∧dH h wa (ops.getD i cA).2.1
theorem BR {h:Array Obj} {b o:Nat} {u v x:ab} (h0:aK h b (o+0)=some u) (A:aK h b (o+1)=some v) (C:aK h b (o+2)=some x):∀ j,j < 3→aK h b (o+j)= [u,v,x][j]? :=by
 intro j E
 match j,E with
 | 0,_=>exact h0
 | 1,_=>exact A
 | 2,_=>exact C
theorem ls.wk {w w':ae} {a:Option aB} {ops:List gK} (h:ls w.heap a ops) (hm:Wk w w'):ls w'.heap a ops:=
 ⟨h.ok,fun i hi=>by
  obtain ⟨E,I,A,C⟩:=h.st i hi;exact ⟨E,I,BR (hm.aK<|A 0 ag) (hm.aK<|A 1 ag) (hm.aK<|A 2 ag),C.wk hm⟩⟩
def fl (x:gK):Nat:=1 +((x.2.1.map fun y=>y.length+1).sum+1)+(x.2.2.length+1)+1
theorem uS {X:Type} {f:X→Nat} :∀ {l:List X} {i:Nat} (d:X),i < l.length→f (l.getD i d)≤(l.map f).sum
 | x::l,0,d,_=>by simp
 | x::l,i+1,d,h=>by
   have :=uS (f:=f) (l:=l) (i:=i) d<|by simpa using h
   simp only [List.getD_cons_succ,cx,rl]; omega
theorem uT {X:Type} {f:X→Nat} (A:∀ x,1≤f x):∀ (l:List X),l.length≤(l.map f).sum
 | []=>Nat.zero_le _
 | x::l=>by
   have :=uT A l;have :=A x;simp only [cr,cx,rl]; omega
theorem Cg (l:List (List UInt8)):l.length≤(l.map fun y=>y.length+1).sum∧∀ x∈l,x.length≤(l.map fun y=>y.length+1).sum:=by
 induction l with
 | nil=>exact ⟨Nat.zero_le _,fun x A=>by simp at A⟩
 | cons y l ih=>
   simp only [cr,cx,rl];refine ⟨ag,fun x A=> ?_⟩;rcases cU.1 A with rfl | A
   · omega
   · have :=ih.2 x A; omega
theorem As {ops:List gK} {i:Nat} (h:i < ops.length):(ops.getD i cA).2.1.length≤(ops.map fl).sum∧(ops.getD i cA).2.2.length≤(ops.map fl).sum∧∀ x∈(ops.getD i cA).2.1,x.length≤(ops.map fl).sum:=by
 have C:=uS (f:=fl) cA h;have A:=Cg (ops.getD i cA).2.1;unfold fl at C;refine ⟨?_,?_,fun x E=> ?_⟩
 · have :=A.1;unfold fl; omega
 · unfold fl; omega
 · have :=A.2 x E;unfold fl; omega
theorem Au (ops:List gK):ops.length≤(ops.map fl).sum:=uT (fun x=>by unfold fl; omega) ops
theorem Bu {W:ae} {v:ab} {ops:List gK} (h:RS 3 (fun W cs (x:gK)=> ∃ E I J,cs= [E,I,J]∧([E]= [.int .i64 x.1]∧(Lit.int .i64 x.1).wf=true)∧RS 1 (fun _ cs (x:List UInt8)=>cs= [str x]) W [I] x.2.1∧[J]= [str x.2.2]) W [v] ops):
 ∃ a c,v= .slice a ops.length c∧ls W.heap a ops:=by
 obtain ⟨a,c,L,ac,am,Z,al,C⟩:=h;simp only [fQ,and_true] at ac;refine ⟨a,c,ac,⟨fun h0=> ?_,fun i hi=> ?_⟩⟩
 · refine aZ.ok Z fun e=> ?_;have hlen:=sN (L:=L) (m:=3) fun l hm=>by
    obtain ⟨i,hi⟩:=oH.1 hm;have :=(bZ.1 hi).1;exact (C i l _ hi<|cK ag).1
   rw [e] at hlen;simp only [List.length_nil] at hlen;omega
 · have hm:∀ l∈L,l.length=3:=fun l hm=>by
    obtain ⟨i,hi⟩:=oH.1 hm;have :=(bZ.1 hi).1;exact (C i l _ hi<|cK ag).1
   have V:L[i]? =some (L[i]'ag):=cK ag;have ak:ops[i]? =some (ops.getD i cA):=by rw [List.getD_eq_getElem?_getD,cK hi]; rfl
   obtain ⟨_,E,I,J,e,⟨h0,_⟩,h1,h2⟩:=C i _ _ V ak;obtain ⟨M,O,ad,ai,_⟩:=BL h1;simp only [fQ,and_true] at h0 h2;rw [h0,ad,h2] at e;have aj:∀ c,c < 3→aK W.heap (bk a) (fo a+i*3 +c)= [oA .i64 (ops.getD i cA).1,.slice M (ops.getD i cA).2.1.length O,str (ops.getD i cA).2.2][c]? :=fun c aa=>by
    have A:=sM hm V aa;rw [e] at A;have ah:∃ u,[oA .i64 (ops.getD i cA).1,.slice M (ops.getD i cA).2.1.length O,str (ops.getD i cA).2.2][c]? =some u:=by
     rw [cK (by simpa using aa)]; exact ⟨_,rfl⟩
    obtain ⟨u,hu⟩:=ah;rw [hu] at A ⊢;have U:=Z.oV A;rw [oK,← eo] at U;exact U
   exact ⟨M,O,aj,ai⟩
end Go.Hb
end
section
namespace Go.Hb
open Go Go.RowKit Go.ChangeShapes
theorem Bf {P:Program} {n:String} {W:ae} {g:Nat} {cs:Array ab} (C:P.globalNamed n=some g) (A:W.var? P n=some cs):∃ e z,W.heap[g]? =some (.cells cs e z):=by
 unfold World.var? at A;rw [C] at A;simp only [Option.bind_some] at A;split at A
 · rename_i c e z h;cases A;exact ⟨e,z,h⟩
 · cases A
theorem eT {P:Program} {n nm:String} {text:List UInt8} {r:List (String×DataW Unit)} {W:ae} {g:Nat} {L E te I:TypeId} {ms:Array (String×TypeId)} {f:Field}
 (h:laidMet P ((n,.iface nm (.ptr<|.agg [.lit (.string text)]))::r) W)
 (A:P.globalNamed n=some g) (ag:(P.globals[g]?).map (·.type)=some L) (hi:P.underlying L=some (.interface ms)) (ac:∀ u,P.typeName? 3 u=some nm→u=E)
 (hp:P.underlying E=some (.pointer te)) (he:P.underlying te=some (.struct #[f])) (aa:f.type=I) (Z:f.offset=0) (ad:P.underlying I=some .string) (O:P.cellsOf te=1) (V:P.cellsOf I=1):
 ∃ (a:aB) (e:Nat),a.spot=none∧W.heap[g]? =some (.cells #[.iface E (.pointer<|some a)] e (0,0)):=by
 obtain ⟨a,s,J,U,_,_⟩:=laid_sentinel h A ag hi ac hp he aa Z ad O V;obtain ⟨e,z,hw⟩:=Bf A J;obtain ⟨ps,⟨g0,t0,aj,f0,am,an,ab,al,ah,ak,_,M⟩,_,hrows⟩:=h;obtain rfl :=di<|A.symm.trans ab;subst M;have ai:=di<|J.symm.trans ah;subst ai;obtain ⟨⟨c,t,C⟩,_⟩:=hrows g 0<|by simp [MemPlace.row]
 rw [hw] at C;simp only [aQ,Obj.cells.injEq] at C;obtain ⟨_,_,rfl⟩:=C;exact ⟨a,e,World.cell?_spot U,hw⟩
theorem bL.nil {T:Nat} {w:ae} :bL T [] w:=fun g h=>by cases h
theorem bL.cons {T g:Nat} {l:List Nat} {w:ae} (h:∃ (a:aB) (e:Nat),a.spot=none∧w.heap[g]? =some (.cells #[.iface T (.pointer<|some a)] e (0,0))) (C:bL T l w):bL T (g::l) w:=fun k A=>by
 rcases cU.1 A with rfl | A
 · exact h
 · exact C k A
theorem bL.sub {T:Nat} {l m:List Nat} {w:ae} (h:bL T l w) (C:∀ g∈m,g∈l):bL T m w:=fun g A=>h g<|C g A
end Go.Hb
end
section
namespace Go.Hb
abbrev eb (n:Nat):ab:= .int .i64 (n:Nat)
abbrev aM (b:Nat):ab:= .pointer<|some ⟨b,0,none⟩
variable {P:Program} {N:Fm} {ops:Array Oper} {Q:Exit→(Nat→ab)→ae→Prop} {σ:Nat→ab} {w:ae} {S:ae→Prop} {r fuel:Nat} {listed:Array Bool} {d:Nat} {op:Op} {ty:TypeId} {pos :String} {af:Array Edge} {v:ab}
theorem sY (i:Nat) (hi:ops[i]? =some ⟨some d,op,ty,pos,af,none⟩) (E:∀ w,S w→(execOp (ev N σ) ⟨some d,op,ty,pos,af,none⟩).run P w= .ok (.value v) w) (A:S w) (k:bY P N ops Q S fuel (listed.setIfInBounds i true) (aG σ d v) w) (C:da N.F ops listed i=true :=by kernel_rfl):bY P N ops Q S (fuel+1) listed σ w:=hp i hi C E A k
theorem pT (i:Nat) (hi:ops[i]? =some ⟨some d,op,ty,pos,af,none⟩) (E:∀ w,S w→(execOp (ev N σ) ⟨some d,op,ty,pos,af,none⟩).run P w= .ok (.value v) w) (A:S w) (k:bq P N ops Q S r fuel (listed.setIfInBounds i true) (aG σ d v) w) (C:pB N.F ops listed r i=true :=by kernel_rfl):bq P N ops Q S r (fuel+1) listed σ w:=zZ i hi C E A k
theorem z1 (i:Nat) (hi:ops[i]? =some ⟨some d,op,ty,pos,af,none⟩) (E:∀ w,(execOp (ev N σ) ⟨some d,op,ty,pos,af,none⟩).run P w= .ok (.value v) w) (A:listed.getD r false =false→S w) (k:bq P N ops Q S r fuel (listed.setIfInBounds i true) (aG σ d v) w) (C:jn N.F ops listed r i=true :=by kernel_rfl):bq P N ops Q S r (fuel+1) listed σ w:=ns i hi C E A k
theorem lG (i:Nat) (hi:ops[i]? =some ⟨some d,op,ty,pos,af,none⟩) (E:∀ {w},(execOp (ev N σ) ⟨some d,op,ty,pos,af,none⟩).run P w= .ok (.value v) w) (A:S w) (k:bY P N ops Q S fuel (listed.setIfInBounds i true) (aG σ d v) w) (C:da N.F ops listed i=true :=by kernel_rfl):bY P N ops Q S (fuel+1) listed σ w:=hp i hi C (fun _ _=>E) A k
theorem CE (i:Nat) (hi:ops[i]? =some ⟨some d,op,ty,pos,af,none⟩) (E:∀ {w},(execOp (ev N σ) ⟨some d,op,ty,pos,af,none⟩).run P w= .ok (.value v) w) (A:S w) (k:bq P N ops Q S r fuel (listed.setIfInBounds i true) (aG σ d v) w) (C:kl N.F ops listed r i=true :=by kernel_rfl):bq P N ops Q S r (fuel+1) listed σ w:=lq i hi C (fun _ _=>E) A k
theorem pU (i:Nat) (hi:ops[i]? =some ⟨some d,op,ty,pos,af,none⟩) (E:∀ {w},(execOp (ev N σ) ⟨some d,op,ty,pos,af,none⟩).run P w= .ok (.value v) w) (A:S w) (k:bq P N ops Q S r fuel (listed.setIfInBounds i true) (aG σ d v) w) (C:jn N.F ops listed r i=true :=by kernel_rfl):bq P N ops Q S r (fuel+1) listed σ w:=ns i hi C (fun _=>E) (fun _=>A) k
theorem pI {x:Operand} (i:Nat) (hi:ops[i]? =some ⟨some d,.move x,ty,pos,af,none⟩) (v:ab) (A:S w) (k:bY P N ops Q S fuel (listed.setIfInBounds i true) (aG σ d v) w) (E:ev N σ x=v:=by exact U) (C:da N.F ops listed i=true :=by kernel_rfl):bY P N ops Q S (fuel+1) listed σ w:=hp i hi C (fun _ _=>nC v E) A k
theorem CD {x:Operand} (i:Nat) (hi:ops[i]? =some ⟨some d,.move x,ty,pos,af,none⟩) (v:ab) (A:S w) (k:bq P N ops Q S r fuel (listed.setIfInBounds i true) (aG σ d v) w) (E:ev N σ x=v:=by exact U) (C:jn N.F ops listed r i=true :=by kernel_rfl):bq P N ops Q S r (fuel+1) listed σ w:=ns i hi C (fun _=>nC v E) (fun _=>A) k
theorem o5 {P:Program} {f:FuncId} {fn:Func} (A:P.funcs[f]? =some fn) (hn:(fn.name== "runtime.NumGoroutine")=false :=by kernel_rfl) (hb:fn.body.isNone=false :=by kernel_rfl):fT P f:=o4 A hn hb
section
variable {rest:List Oper} {x:Operand} {K:(Nat→ab)→ae→Prop} {l:List Oper} {id:Nat} {y z:Code} {j t:Nat} {want b:Bool} {fn:Func} {R:ab→ae→Prop}
theorem CH (h:∀ {K:(Nat→ab)→ae→Prop},(∀ {σ w},aJ P N y Q σ w→eU K Q .normal σ w)→aJ P N z (eU K Q) σ w):aJ P N (.seq z y) Q σ w:=sq fun K A=>h fun hw=>A _ _ hw
theorem CI (h:∀ {K:(Nat→ab)→ae→Prop},(∀ {σ w},aJ P N y Q σ w→eU K Q .normal σ w)→bf P N l.toArray (eU K Q) l σ w) (hr:gY N.r l=true :=by exact U):aJ P N (.seq (.region id l.toArray false) y) Q σ w:=sq fun K A=>rg hr<|h fun hw=>A _ _ hw
theorem CA (h:Q .normal (aG σ d<|ev N σ x) w):bf P N ops Q [⟨some d,.assign x,ty,pos,af,none⟩] σ w:=p aF<|nl h
theorem gv {id:Nat} (h:Q (.exit id) σ w):eU K Q (.exit id) σ w:=h
theorem CF (h:(cG ops j,aq t N.n,σ t,b==want)=(some t,true,.bool b,false)) (k:bf P N ops Q rest (aG σ d undef) w):bf P N ops Q (⟨some d,op,ty,pos,af,some (j,want)⟩::rest) σ w:=sk (congrArg bC h) (congrArg (·.2.1) h) (congrArg (·.2.2.1) h) (congrArg (·.2.2.2) h) k
theorem CG (h:(cG ops j,aq t N.n,σ t)=(some t,true,undef)) (k:bf P N ops Q rest (aG σ d undef) w):bf P N ops Q (⟨some d,op,ty,pos,af,some (j,want)⟩::rest) σ w:=uJ (congrArg bC h) (congrArg (·.2.1) h) (congrArg (·.2.2) h) k
theorem fq (h:(cG ops j,aq t N.n,σ t)=(some t,true,.bool want)) (A:(execOp (ev N σ) ⟨some d,op,ty,pos,af,some (j,want)⟩).run P w= .ok (.value v) w) (k:bf P N ops Q rest (aG σ d v) w):bf P N ops Q (⟨some d,op,ty,pos,af,some (j,want)⟩::rest) σ w:=pg (congrArg bC h) (congrArg (·.2.1) h) (congrArg (·.2.2) h) A k
theorem CC (i:Nat) (h:(ops[i]?,cG ops j,aq t N.n,σ t,b==want)=(some ⟨some d,op,ty,pos,af,some (j,want)⟩,some t,true,.bool b,false)) (A:S w) (k:bY P N ops Q S fuel (listed.setIfInBounds i true) (aG σ d undef) w) (C:da N.F ops listed i=true :=by kernel_rfl):bY P N ops Q S (fuel+1) listed σ w:=ta i (congrArg bC h) C (congrArg (·.2.1) h) (congrArg (·.2.2.1) h) (congrArg (·.2.2.2.1) h) (congrArg (·.2.2.2.2) h) A k
theorem CB (i:Nat) (h:(ops[i]?,cG ops j,aq t N.n,σ t)=(some ⟨some d,op,ty,pos,af,some (j,want)⟩,some t,true,.bool want)) (E:∀ w,S w→(execOp (ev N σ) ⟨some d,op,ty,pos,af,some (j,want)⟩).run P w= .ok (.value v) w) (A:S w) (k:bY P N ops Q S fuel (listed.setIfInBounds i true) (aG σ d v) w) (C:da N.F ops listed i=true :=by kernel_rfl):bY P N ops Q S (fuel+1) listed σ w:=sZ i (congrArg bC h) C (congrArg (·.2.1) h) (congrArg (·.2.2.1) h) (congrArg (·.2.2.2) h) E A k
theorem ba (h:(fn.results,ev N σ (.tmp t))=(#[.tmp t],v)) (A:R v w):fin P fn N R .ret σ w:=f1 (congrArg bC h) (congrArg Prod.snd h) A
theorem uk (v:ab) (h:bf P N ops Q rest (aG σ d v) w) (A:ev N σ x=v:=by exact U):bf P N ops Q (⟨some d,.move x,ty,pos,af,none⟩::rest) σ w:=p (nC v A) h
end
end Go.Hb
end
namespace Go.Hb.fU
theorem xw:cP ao 33=some (some 3):=ah
theorem xW:iy ao 67 5 9=true :=ah
theorem xZ:fT ao 49:=o5 func49
theorem x4:fT ao 50:=o5 func50
theorem x5:fT ao 53:=o5 func53
theorem rZ:∀ v w,(callFunc 89 #[v]).run ao w= .ok (.value v) w:=fun v w=>ah
theorem yA:dj ao 31=some 1:=ah
theorem yB:dj ao 33=some 3:=ah
theorem yC:dj ao 61=some 1:=ah
theorem r6:dj ao 62=some 1:=ah
theorem yD:dj ao 66=some 1:=ah
theorem r8:dj ao 67=some 1:=ah
theorem yU:cC ao 22=some 3:=ah
theorem pq:cC ao 31=some 1:=ah
theorem lD:cC ao 62=some 1:=ah
theorem zw:(ao.info? 69).isSome=true :=ah
theorem zA:∀ (l:List UInt8) (c:UInt8) (w:ae),(callFunc 256 #[str l,.int .u8 c.toNat]).run ao w= .ok (.value<|.int .i64<|gS c l) w:=A7 func256 ah ah ah ah
theorem gj:fV ao 9 bP:=pO ah
theorem AI:ptrTo ao 139 5=true :=ah
theorem lZ:eG ao 31 9 1 16=true :=ah
theorem qF:eG ao 62 1 1 8=true :=ah
theorem uL:eG ao 67 5 1 1=true :=ah
theorem Bw:jE ao 51=some ([(0,1),(1,1),(2,1),(3,1),(4,1)],[.int .i64 0,.int .i64 0,.int .i64 0,.int .i64 0,.int .i64 0]):=ah
theorem Bx:jE ao 64=some ([(0,1),(1,1),(2,1)],[.pointer none,.map none,.slice none 0 0]):=ah
theorem u3:ao.underlying 24=some (.pointer 60):=ah
theorem eV:ao.underlying 29=some (.pointer 64):=ah
theorem dT:ao.underlying 61=some (.map 9 3):=ah
theorem BV:ao.underlying 62=some (.slice 1):=ah
theorem u4:ao.underlying 66=some (.pointer 69):=ah
theorem u9:ao.underlying 9=some (.string):=ah
theorem u7:jG ao 66 209 69 2=true :=ah
theorem wide:ao.follows .mixedOrders=true :=ah
theorem Cw:zeroOf ao 33=some (some [.int .i64 0,.slice none 0 0,.string ⟨⟨[]⟩⟩]):=ah
theorem Cx:zeroOf ao 61=some (some [.map none]):=ah
theorem vp:zeroOf ao 69=some (some [.pointer none,.slice none 0 0]):=ah
theorem Cy:zeroV ao 1=some (.nilFunc):=ah
theorem mg:zeroV ao 3=some (.int .i64 0):=ah
end Go.Hb.fU
section
namespace Go.Hb
open Go.Hb.fU
theorem rW (b:Nat) (A:Option aB) (E:ab) (w:ae) (hb:w.heap[b]? =some (.cells [oB A,E].toArray 69 (0,0))) (hp:A=none∨A=some ⟨b,0,none⟩):
 aO ao 54 (bB [aM b]) w (fun v w'=>v= .tuple #[]∧w'.heap[b]? =some (.cells [oB (some ⟨b,0,none⟩),E].toArray 69 (0,0))∧Md (fun k=>k=b) w w'):=by
 refine enter func54 U ntmps54 U<|bc 5 U<|p (bj U<|(dQ hb).trans U)<|p (fh u4 U U)<|aY 2 U<|cb U (fun C=> ?_) fun C=> ?_;obtain rfl :A=none:=by simpa using C
 exact bE 3 U<|p (uV u7 U hb U)<|p (yr rZ U)<|p (sQ u7 U hb U)<|az 2 U<|e<|l9 yD U U U hb (by simp) fun L J I=>bg 1 U<|f0 U<|⟨U,I,J⟩
 obtain rfl :A=some ⟨b,0,none⟩:=hp.resolve_left<|by rintro rfl; simp at C
 exact bE 5 U<|p (bj U<|(dQ hb).trans U)<|az 1 U<|p (Ah u4 zw U U)<|bg 4 U<|f0 U<|⟨U,hb,Md.refl _ _⟩
theorem mc (b:Nat) (C:ab) (l:List UInt8) (c:UInt8) (w:ae) (hb:Bd 69 5 w b C l) (aA:l.length≤70368744177664):
 aO ao 24 (bB [aM b,.int .u8 c.toNat]) w (fun v w'=>v= .nilIface∧∃ L,Bd 69 5 w' b L (l++ [c])∧Md (BF b C) w w'∧∀ k,BF b L k→BF b C k∨w.heap.size≤k):=by
 obtain ⟨⟨au,aa,aq⟩,hown,hnil⟩:=hb;have aB:b < w.heap.size:=(bu.1 aa).1;have ac:∀ k,C.ownBlock=some k→k≠b∧k < w.heap.size:=fun k A=>by have :=hown.lt k A; exact ⟨ag,this.2⟩
 refine enter func24 U ntmps24 U<|bc 8 U<|e<|aR (rW b au C w aa aq) U ?_;rintro v6 aG ⟨_,Z,I⟩;have an:=ed hown I fun k A=>(ac k A).1;have aC:=I.size;refine az 8 U<|p (bj U<|(dQ Z).trans U)<|az 1 U<|e<|mO uL U U fun av aD ay E ai=>e<|ap uL (fL an E.md) U (by have :=E.size; omega) U (aZ.lO ai) (U) (U) ag ag fun ad aE J O ar am=> ?_;have al:=O.ak (Wk.ak E.md Z) fun h=>(ac b h).1 rfl;refine az 2 U<|e<|l9 r8 U U (by obtain ⟨a,c,h,_⟩:=lV J; exact congrArg iS h) al (by simp) fun aF V aj=>bg 8 U<|ba U ?_;have ah:∀ k,ad.ownBlock=some k→k≠b:=fun k A=>by have :=J.lt k A; omega
 refine ⟨U,ad,⟨⟨_,aj,.inr U⟩,?_,?_⟩,?_,?_⟩;rw [cn,rB]; exact ed J V fun k A=>ah k A;rw [ar]; simp;refine Md.trans' (Md.trans' (Md.trans' (I.mono fun k _ h=> .inl h) E.md fun _ _ h=>h.elim) O fun k _ h=> .inr h) V fun k _ h=> .inl h;rintro k (rfl | A);exact .inl<|.inl U;by_cases h:C.ownBlock=some k;exact .inl<|.inr h;have :=am k A; have aw:=I.size; have ax:=E.md.size; exact .inr<|by rcases this with M | M; exact absurd M h; omega
theorem Co (b:Nat) (C:ab) (l m:List UInt8) (w:ae) (hb:Bd 69 5 w b C l) (ar:l.length+m.length≤70368744177664):
 aO ao 25 (bB [aM b,str m]) w (fun v w'=>v= .tuple #[.int .i64 m.length,.nilIface]∧∃ J,Bd 69 5 w' b J (l++m)∧Md (BF b C) w w'∧∀ k,BF b J k→BF b C k∨w.heap.size≤k):=by
 obtain ⟨⟨ap,Z,am⟩,hown,hnil⟩:=hb;have au:b < w.heap.size:=(bu.1 Z).1;have aa:∀ k,C.ownBlock=some k→k≠b∧k < w.heap.size:=fun k A=>by have :=hown.lt k A; exact ⟨ag,this.2⟩
 refine enter func25 U ntmps25 U<|bc 9 U<|e<|aR (rW b ap C w Z am) U ?_;rintro aw aA ⟨_,V,E⟩;have al:=ed hown E fun k A=>(aa k A).1;have av:=E.size;refine az 8 U<|p (bj U<|(dQ V).trans U)<|az 1 U<|e<|xB xW (al) U ag U ag fun ac ax I M an aj=> ?_;have ai:=M.ak V fun h=>(aa b h).1 rfl;refine az 2 U<|e<|l9 r8 U U (by obtain ⟨a,c,h,_⟩:=lV I; exact congrArg iS h) ai (by simp) fun ay O ah=>bg 11 U<|f2 U U U ?_;have ad:∀ k,ac.ownBlock=some k→k≠b:=fun k A=>by have :=I.lt k A; omega
 refine ⟨U,ac,⟨⟨_,ah,.inr U⟩,?_,?_⟩,?_,?_⟩;rw [cn,rB]; exact ed I O fun k A=>ad k A;rw [an,hnil]; simp;exact Md.trans' (Md.trans' (E.mono fun k _ h=> .inl h) M fun k _ h=> .inr h) O fun k _ h=> .inl h;rintro k (rfl | A);exact .inl<|.inl U;by_cases h:C.ownBlock=some k;exact .inl<|.inr h;have :=aj k A; have aq:=E.size; exact .inr<|by rcases this with L | L; exact absurd L h; omega
theorem uR (b:Nat) (I:ab) (l:List UInt8) (w:ae) (hb:Bd 69 5 w b I l) (aa:l.length≤70368744177664):
 aO ao 27 (bB [aM b]) w (fun v w'=>v=str l∧Md (fun k=>I.ownBlock=some k) w w'):=by
 obtain ⟨⟨ai,J,ac⟩,hown,hnil⟩:=hb;obtain ⟨a,c,rfl,O,hle,V,Z⟩:=lV hown;refine enter func27 U ntmps27 U<|iE 6 U ?_;have A:(fun w'=>Md (fun k=>(dD a l.length c).ownBlock=some k) w w') w.drew:=(Md.refl _ _).drew;refine bh (fun w'=>Md (fun k=>(dD a l.length c).ownBlock=some k) w w') U wide A<|pF [0,1,2] U A<|sY 3 U (fun w' C=>bj U<|C.aK ((dQ J).trans U) fun h=>by have :=hown.lt _ h; omega) A<|pF [5,6,7] U A<|sY 8 U (fun w' C=>bj U<|C.aK ((dQ J).trans U) fun h=>by have :=hown.lt _ h; omega) A<|pF [9] U A ?_;refine lG 4 U (qR (v:= .nilFunc) U (by
  by_cases h:l= []
  have :=hnil.2 h; simp only [jW] at this; exact .inl this.1;right; have :0 < l.length:=List.length_pos_iff.2 h; omega)) A ?_
 refine he 10 U ah<|B8 AI U U hown U ag fun M L ad=> ?_;have E:(fun w'=>Md (fun k=>(dD a l.length c).ownBlock=some k) w w') M:=A.trans' L fun _ _ h=>h;refine ⟨E,?_⟩;exact lG 11 U (aF) E<|hn ah<|gi 2 U<|ba U<|⟨U,E⟩
end Go.Hb
end
section
namespace Go.Hb
open Go.Hb.fU
theorem fi (b:UInt8):ki b=decide ((b.toNat:Int)=92∨(b.toNat:Int)=47∨(b.toNat:Int)=35):=by
 unfold ki; exact decide_eq_decide.2 ag
theorem sL (b:UInt8):gd b=decide (32 < (b.toNat:Int)∧(b.toNat:Int)≠127):=by
 unfold gd; exact decide_eq_decide.2 ag
theorem za {b:UInt8} (h:¬(32 < (b.toNat:Int)∧(b.toNat:Int)≠127)):gd b=false :=by rw [sL]; exact decide_eq_false h
theorem zb (b:UInt8) (w:ae):
 aO ao 85 (bB [.int .u8 b.toNat]) w (fun v w'=>v= .bool (gd b)∧Wk w w'):=by
 refine enter func85 U ntmps85 U<|bc 10 U<|gs (t:=5) U (fun A=> ?_) fun A=> ?_;exact bg 7 U<|ba U<|⟨by show dh (decide _)=_; rw [sL]; exact bv (by constructor <;> intro h <;> first | exact ⟨ag,h⟩ | exact h.2),Md.refl _ _⟩
 exact az 3 U<|p aF<|bg 3 U<|ba U<|⟨by show dh false =_; rw [za ag],Md.refl _ _⟩
theorem Aa (b:UInt8) (w:ae):
 aO ao 55 (bB [.int .u8 b.toNat]) w (fun v w'=>v= .bool (ki b)∧Wk w w'):=by
 refine enter func55 U ntmps55 U<|iE 19 U<|cd U (fun A=> ?_) fun A=> ?_;refine eD 2 U<|cd U (fun A=> ?_) fun A=> ?_;refine bO 8 U<|ba U ?_
 first | exact ⟨by show dh true =_; rw [fi,decide_eq_true ag],Md.refl _ _⟩ | exact ⟨by show dh false =_; rw [fi,decide_eq_false ag],Md.refl _ _⟩
 refine bO 9 U<|ba U ?_
 first | exact ⟨by show dh true =_; rw [fi,decide_eq_true ag],Md.refl _ _⟩ | exact ⟨by show dh false =_; rw [fi,decide_eq_false ag],Md.refl _ _⟩
 refine eD 6 U<|cd U (fun A=> ?_) fun A=> ?_;refine eD 2 U<|cd U (fun A=> ?_) fun A=> ?_;refine bO 8 U<|ba U ?_
 first | exact ⟨by show dh true =_; rw [fi,decide_eq_true ag],Md.refl _ _⟩ | exact ⟨by show dh false =_; rw [fi,decide_eq_false ag],Md.refl _ _⟩
 refine bO 9 U<|ba U ?_
 first | exact ⟨by show dh true =_; rw [fi,decide_eq_true ag],Md.refl _ _⟩ | exact ⟨by show dh false =_; rw [fi,decide_eq_false ag],Md.refl _ _⟩
 refine eD 5 U<|cd U (fun A=> ?_) fun A=> ?_;refine bO 8 U<|ba U ?_
 first | exact ⟨by show dh true =_; rw [fi,decide_eq_true ag],Md.refl _ _⟩ | exact ⟨by show dh false =_; rw [fi,decide_eq_false ag],Md.refl _ _⟩
 refine bO 9 U<|ba U ?_
 first | exact ⟨by show dh true =_; rw [fi,decide_eq_true ag],Md.refl _ _⟩ | exact ⟨by show dh false =_; rw [fi,decide_eq_false ag],Md.refl _ _⟩
theorem Ca (s:List UInt8) (w:ae) (ac:s.length≤1048576):
 aO ao 47 (bB [str s]) w (fun v w'=>v= .bool (fv s)∧Wk w w'):=by
 refine enter func47 U ntmps47 U<|bc 11 U<|gs (t:=6) U (fun E=> ?_) fun E=> ?_;exact bg 14 U<|ba U<|⟨by show dh false =_; unfold fv; rw [decide_eq_false (by rw [E]; simp)],Md.refl _ _⟩
 refine aY 6 U<|cd U (fun Z=> ?_) fun Z=> ?_;exact bO 7 U<|ba U<|⟨by show dh false =_; unfold fv; rw [decide_eq_false ag],Md.refl _ _⟩
 refine eD 11 U<|lp (fun J V O=> ∃ (i:Nat),(i≤s.length∧1≤s.length∧s.length≤64)∧(∀ j,j < i→gd (s.getD j 0)=true)∧(Wk w O)∧(Sl V [(0,str s),(12,.int .i64 s.length),(13,.int .i64 i)])∧(s.length - i=J)) _ ⟨0,(⟨ag,by rcases Nat.eq_zero_or_pos s.length with h | h <;> first | exact absurd (List.length_eq_zero_iff.1 h) E | exact h,ag⟩),(fun j M=>by omega),(Md.refl _ _),U,U⟩ ?_;rintro J V O ⟨i,hi,hp,A,ab,rfl⟩;refine fj ab<|iE 6 U<|cd U (fun aa=> ?_) fun aa=> ?_;refine bE 14 U<|p (ni u9 U U ag)<|e<|aR (zb (s.getD i 0) _) U ?_;rintro ad ah ⟨rfl,L⟩;refine aY 3 U<|cb U (fun C=> ?_) fun C=> ?_;have I:gd (s.getD i 0)=false :=by simpa using C
 exact bO 8 U<|tr<|gi 2 U<|ba U<|⟨by show dh false =_; unfold fv; rw [xX (i:=i) ag I,decide_eq_false (by simp)],Md.trans A L⟩
 have I:gd (s.getD i 0)=true :=by simpa using C
 exact bO 7 U<|tn<|⟨_,ag,i+1,ag,(fun j M=>by rcases Nat.lt_or_ge j i with h | h <;> first | exact hp j h | (rw [show j=i by omega]; exact I)),(Md.trans A L),U,U⟩
 exact bO 2 U<|gv<|gi 8 U<|ba U<|⟨by show dh true =_; unfold fv; rw [xY (fun j M=>hp j ag),decide_eq_true ⟨hi.2.1,hi.2.2,U⟩],A⟩
theorem Cp (s:List UInt8) (w:ae) (aF:s.length≤1048576):
 aO ao 26 (bB [str s]) w (fun v w'=>v=str (dC s)∧Wk w w'):=by
 refine enter func26 U ntmps26 U<|bc 7 U<|e<|oT vp fun A aP aB av al=>aY 11 U<|lp (fun ac ah aa=> ∃ (i:Nat) (C:ab),(i≤s.length)∧(Bd 69 5 aa A C<|dC<|s.take i)∧(Wk w aa)∧(Sl ah [(0,str s),(3,aM A),(6,.int .i64 s.length),(7,.int .i64 i)])∧(s.length - i=ac)) _ ⟨0,.slice none 0 0,ag,(Bd.new al),av.md,U,U⟩ ?_;rintro ac ah aa ⟨i,C,hi,J,M,ay,rfl⟩;refine fj ay<|iE 6 U<|cd U (fun aw=> ?_) fun aw=> ?_;refine eD 10 U ?_;refine uM (fun ai Z=> ∃ (I:ab) (E:List UInt8),(E.length≤2 *i+1)∧(Bd 69 5 Z A I E)∧(Wk w Z)∧(E++ [s.getD i 0]=dC (s.take<|i+1))∧(Sl ai [(0,str s),(3,aM A),(4,.int .i64 i),(6,.int .i64 s.length),(7,.int .i64 i)])) ?_ ?_;refine bc 4 U<|p (ni u9 U U ag)<|e<|aR (Aa (s.getD i 0) _) U ?_;rintro aG aJ ⟨rfl,O⟩;have L:=J.md O fun _ _ h=>h;have aA:=od<|s.take i;rw [dW] at aA;refine aY 2 U<|cb U (fun V=> ?_) fun V=> ?_;refine bE 1 U<|e<|aR (mc A C (dC<|s.take i) (92) _ L ag) U ?_;rintro aH aK ⟨rfl,aj,am,aq,aC⟩;exact bg 1 U<|tn<|⟨aj,dC (s.take i)++ [92],(by rw [cn,lj]; omega),am,(L.step (Md.trans M O) aq ag),(by rw [vo ag,if_pos V,oD]; rfl),U⟩
 exact bO 1 U<|tn<|⟨C,dC (s.take i),ag,L,(Md.trans M O),(by rw [vo ag,if_neg (by rw [V]; exact cz)]),U⟩
 rintro ai Z ⟨I,E,aE,ad,ap,ax,az⟩;refine fj az<|bE 3 U<|p (ni u9 U U ag)<|e<|aR (mc A I (E) (s.getD i 0) _ ad ag) U ?_;rintro aI aL ⟨rfl,ak,an,ar,aD⟩;exact bg 7 U<|tn<|⟨_,ag,i+1,ak,ag,(by rw [← ax]; exact an),(ad.step ap ar ag),U,U⟩
 refine bO 2 U<|gv<|lF 4 U<|e<|aR (uR A C (dC<|s.take i) _ J<|by have :=od (s.take i); rw [dW] at this; omega) U ?_;rintro v20 aN ⟨rfl,au⟩;exact bg 4 U<|ba U<|⟨by show str (dC<|s.take i)=_; rw [show s.take i=s from List.take_of_length_le ag],J.uQ M au ag⟩
end Go.Hb
end
namespace Go.Hb
def AS:Go.Shelf.Ren:=⟨fun n=>if n=125 then 88 else if n=128 then 139 else if n=129 then 140 else if n=190 then 52 else if n=258 then 87 else if n=302 then 130 else if n=303 then 131 else if n=304 then 132 else if n=305 then 133 else if n=306 then 134 else if n=307 then 135 else if n=308 then 136 else if n=309 then 137 else if n=310 then 138 else if n=329 then 186 else if n=330 then 187 else if n=333 then 185 else if n=334 then 188 else if n=335 then 189 else if n=336 then 190 else if n=344 then 228 else 0,fun n=>if n=0 then 0 else if n=3 then 3 else if n=4 then 4 else if n=5 then 5 else if n=9 then 9 else if n=31 then 31 else if n=46 then 208 else if n=51 then 286 else if n=53 then 127 else if n=131 then 134 else if n=182 then 279 else if n=183 then 280 else if n=218 then 340 else if n=222 then 343 else if n=228 then 382 else if n=229 then 383 else 0,fun n=>n⟩
theorem tw:Go.Proofs.Lays.n190 ao AS where
 mixed:=ah
 f125:=ah
 f128:=ah
 f129:=ah
 f190:=ah
 f258:=ah
 f302:=ah
 f303:=ah
 f304:=ah
 f305:=ah
 f306:=ah
 f307:=ah
 f308:=ah
 f309:=ah
 f310:=ah
 f329:=ah
 f330:=ah
 f333:=ah
 f334:=ah
 f335:=ah
 f336:=ah
 f344:=ah
 t0:=ah
 a0:=fun _=>ah
 z0:=fun _=>ah
 v0:=fun _=>ah
 t3:=ah
 a3:=fun _=>ah
 z3:=fun _=>ah
 v3:=fun _=>ah
 t4:=ah
 a4:=fun _=>ah
 z4:=fun _=>ah
 v4:=fun _=>ah
 t5:=ah
 a5:=fun _=>ah
 z5:=fun _=>ah
 v5:=fun _=>ah
 t9:=ah
 a9:=fun _=>ah
 z9:=fun _=>ah
 v9:=fun _=>ah
 t31:=ah
 a31:=fun _=>ah
 z31:=fun _=>ah
 v31:=fun _=>ah
 t46:=ah
 a46:=fun _=>ah
 z46:=fun _=>ah
 v46:=fun _=>ah
 t51:=ah
 a51:=fun _=>ah
 z51:=fun _=>ah
 v51:=fun _=>ah
 t53:=ah
 a53:=fun _=>ah
 z53:=fun _=>ah
 v53:=fun _=>ah
 t131:=ah
 a131:=fun _=>ah
 z131:=fun _=>ah
 v131:=fun _=>ah
 t182:=ah
 a182:=fun _=>ah
 z182:=fun _=>ah
 v182:=fun _=>ah
 t183:=ah
 a183:=fun _=>ah
 z183:=fun _=>ah
 v183:=fun _=>ah
 t218:=ah
 a218:=fun _=>ah
 z218:=fun _=>ah
 v218:=fun _=>ah
 t222:=ah
 a222:=fun _=>ah
 z222:=fun _=>ah
 v222:=fun _=>ah
 t228:=ah
 a228:=fun _=>ah
 z228:=fun _=>ah
 v228:=fun _=>ah
 t229:=ah
 a229:=fun _=>ah
 z229:=fun _=>ah
 v229:=fun _=>ah
theorem Bs (B n:Nat) (v:ab) (A:List (List UInt8)) (w:ae) (I:eX w B 9 1 v n (A.map str)) (aa:A.length < 4611686018427387904):
 aO ao 52 [v].toArray w (fun ah w'=>ah= .tuple #[]∧eX w' B 9 1 v n ((A.mergeSort fun x y=>decide (x≤y)).map str)∧Md (fun k=>v.ownBlock=some k) w w'):=by
 have hn:A.length=n:=by have :=I.1; simpa using this
 have hlen:(A.mergeSort fun x y=>decide (x≤y)).length=A.length:=wz _;rcases I.2 with ⟨rfl,ai⟩ | ⟨g,cap,cur,rfl,V,E,L,M,O,J⟩
 · have ad:A= []:=im ag;subst ad;refine ik (Any.slices_Sort_string_none tw none 0 w) ?_;rintro e w' ⟨rfl,rfl⟩;exact ⟨_,U,U,by rw [List.mergeSort_nil]; exact I,Md.refl _ _⟩
 · subst hn;rw [oK] at J;refine ik (calls_of_every_depth fun D=>AnyS.slices_Sort_string_alone tw D g 0 cap A w (holds_of_block E J) (bu.1 E).1 aa) ?_;rintro e w' ⟨rfl,m,os,rfl⟩;have C:=grownBy_sorted (w:=w) (g:=g) (n:=m) (os:=os) (A.mergeSort fun x y=>decide (x≤y)).toArray;refine ⟨_,U,U,ownsRow_sorted hlen V E L M O,⟨C.os,C.output,C.size,fun k Z ac=>C.block k Z fun he=>ac ?_⟩⟩;simp only [cJ]; exact he.symm
end Go.Hb
section
namespace Go.Hb.j6
open Go.Hb.fU
theorem Ai (w:ae):
 aO ao 8 (bB [.pointer none]) w (fun v w'=>v= .pointer none∧Wk w w'):=by
 exact enter func8 U ntmps8 U<|bc 9 U<|p (fh u3 U U)<|aY 2 U<|ct (U)<|bO 7 U<|ba U<|⟨U,Md.refl _ _⟩
theorem Aj (C:aB) (w:ae):
 aO ao 8 (bB [.pointer (some C)]) w (fun v w'=> ∃ A bs,v=aM A∧w.heap.size≤A∧w.heap.size≤bs∧A≠bs∧bz w'.heap A [.pointer (some C),.map (some bs),.slice none 0 0]∧aU w'.heap bs bP (mT fun _=>none)∧Wk w w'):=by
 refine enter func8 U ntmps8 U<|bc 9 U<|p (fh u3 U U)<|aY 2 U<|cf (U)<|bE 5 U<|e<|tS fun E ad Z J O=> ?_;have ab:=J.size;refine p (rL (ps:= [(0,.pointer (some C)),(1,.map (some E))]) (L:= [.pointer (some C),.map (some E),.slice none 0 0]) Bx U<|U)<|e<|xV U fun M ah aa I V=> ?_;have ac:=I.size;exact bg 4 U<|ba U<|⟨M,E,U,ag,ag,ag,V,by rw [pZ]; exact (aU.nil O).wk I.md,Md.trans J.md I.md⟩
theorem AH (x:List UInt8) (n C:Int) (A:Nat) (w:ae) (E:bz w.heap A [.int .i64 C]):
 aO ao 49 (bB [str x,.int .i64 n,aM A]) w (fun v w'=>v= .bool (decide (n=C))∧Wk w w'):=by
 exact enter func49 U ntmps49 U<|bc 8 U<|p (bj U<|E.bF 0)<|bg 5 U<|ba U<|⟨U,Md.refl _ _⟩
theorem yI (C J:Nat) (q:List UInt8→Option Int) (A:Int) (w:ae) (O:aU w.heap C bP (mT q)) (ac:bz w.heap J [.int .i64 A]):
 aO ao 48 (bB [.map (some C),.func (.func 49) #[] #[aM J]]) w (fun v w'=>v= .tuple #[]∧aU w'.heap C bP (mT<|dy A q)∧Md (fun k=>k=C) w w'):=by
 have aJ:J≠C:=fun h=>by subst h; exact O.dm ac.choose_spec
 have a0:=ac.lt;have a1:=O.lt;refine enter func48 U ntmps48 U<|bc 2 U<|p mv<|e<|nP dT O U fun ay a7 left a2 M aF aN aR av=> ?_;have a4:=M.size;refine aY 3 U<|lp (fun al aA L=> ∃ (I:List (ab×ab)),(Lf q I)∧(dG L.heap ay C I)∧(aU L.heap C bP<|mT<|dx I q<|dy A q)∧(bz L.heap J [.int .i64 A])∧(Md (fun k=>k=C) w L)∧(Sl aA [(0,.map (some C)),(1,.func (.func 49) #[] #[aM J]),(7,aM ay)])∧(I.length=al)) _ ⟨left,(Lf.start aN aR av),aF,(by rw [pd av (fun x aT=>by simp [dy,aT])]; exact O.wk M.md),(Wk.B M.md ac),(M.md.mono fun _ _ h=>h.elim),U,U⟩ ?_;rintro al aA L ⟨I,aG,aD,aj,aI,an,aS,rfl⟩;refine fj aS<|bc 2 U<|e<|nE aD U fun aZ a5 V aX aB aC=>p (nF U)<|aY 3 U<|cb U (fun ah=> ?_) fun ah=> ?_;obtain ⟨aw,aa,Z⟩:=aC ah;have aQ:=aw.length_eq;simp only [cr] at aQ;obtain ⟨x,n,rfl,ax,ap,a3,aK,ar⟩:=aG.step aw;have au:=aj.md aa fun h=>by omega
 have ad:=aa.B aI fun h=>by omega
 have am:=an.trans' aa fun k aL h=>by omega
 refine bE 5 U<|p (mX Z U)<|az 11 U<|e<|rV xZ U (AH x n A J aX ad) U ?_;rintro a6 aV ⟨rfl,E⟩;refine aY 2 U<|cb U (fun ai=> ?_) fun ai=> ?_;have hn:n=A:=by simpa using ai
 refine bE 3 U<|e<|sc (kx:=str x) dT gj (au.wk E) U U ⟨x,U⟩ fun aW aq aH aE=> ?_;have ak:aU aW.heap C bP (mT<|dx V q<|dy A q):=by
  rw [ar,show dy A q x=none from by simp [dy,ax,hn],← tM];exact aH
 exact bg 2 U<|tn<|⟨_,ag,V,ap,(aE _ _ _ rfl (Z.md E id id)),ak,(aq.B (Wk.B E ad) aJ),((am.trans' E fun _ _ h=>h.elim).trans' aq fun k aL h=>h),U,U⟩
 have hn:¬n=A:=by simpa using ai
 have ak:aU aV.heap C bP (mT<|dx V q<|dy A q):=by
  rw [ar,show dy A q x=q x from by simp [dy,ax,hn],show (fun y=>if y=x then q x else dx I q (dy A q) y)=dx I q (dy A q) from by
   funext y;by_cases h:y=x;subst h; rw [if_pos rfl,aK];rw [if_neg h]]
  exact au.wk E
 exact bO 2 U<|tn<|⟨_,ag,V,ap,(Z.kq.md E id id),ak,(Wk.B E ad),(am.trans' E fun _ _ h=>h.elim),U,U⟩
 obtain ⟨aP,rfl⟩:=aB ah;exact bO 2 U<|gv<|gi 1 U<|f0 U<|⟨U,by rw [aP,pc] at aj; exact aj,an⟩
theorem B4 {G:Nat→Prop} {w w':ae} (h:Md G w.drew w'):Md G w w':=⟨h.os,h.output,h.size,h.bW⟩
theorem lU {w:ae} {B e size n k:Nat} {v:ab} {xs:List ab} (h:eX w B e size v n xs) (A:v.ownBlock=some k):∃ cur z,w.heap[k]? =some (.cells cur e z):=by
 rcases h.2 with ⟨rfl,_⟩ | ⟨g,cap,cur,rfl,_,C,_⟩
 · simp [cJ] at A
 · simp only [cJ,aQ] at A;subst A;exact ⟨_,_,C⟩
structure du (w:ae) (B bl bs:Nat) (vb:ab) (ca:aB) (g:List UInt8→Option Int) (n:Nat) (hist:List (List UInt8→Option Int)) (cs:List ab):Prop where
 obj:bz w.heap bl [.pointer (some ca),.map (some bs),vb]
 dg:aU w.heap bs bP (mT g)
 fY:bV g n
 nB:n≤500
 nz:∀ x,g x≠some 0
 lo:B≤bl∧B≤bs
 back:eX w B 1 1 vb cs.length cs
 iM:vb.ownBlock≠some bl
 bk:c8 (fun v q=> ∃ wb lb wm,v= .func (.func 50) #[] #[.pointer (some ⟨wb,0,none⟩),.pointer (some ⟨lb,0,none⟩)]∧wb≠bl∧lb≠bl∧wm≠bs∧vb.ownBlock≠some wb∧vb.ownBlock≠some lb∧
  bz w.heap wb [.map (some wm)]∧bz w.heap lb [.pointer (some ⟨bl,0,none⟩)]∧aU w.heap wm bP (mT q)) cs hist
def ln (A bs:Nat) (C:ab) (k:Nat):Prop :=k=A∨k=bs∨C.ownBlock=some k
def jc (B C bs:Nat) (E:ab) (J:aB) (g:List UInt8→Option Int) (M:List (List UInt8→Option Int)) (A:Int) (l:List (List UInt8)) (w:ae):ab→ae→Prop :=fun v w'=>((∃ x∈l,fv x=false)∧v= .int .i64 21∧Wk w w')∨((∀ x∈l,fv x=true)∧∃ m,bV (dc g l) m∧((500 < m∧v= .int .i64 280∧Wk w w')∨(m≤500∧v= .int .i64 0∧
 ((bV (bS A g l) 0∧Wk w w')∨(∃ I L,(∃ x o,bS A g l x=some o)∧du w' B C bs I J (dn A (bS A g l) g) m (M++ [bS A g l]) L∧Md (ln C bs E) w w'∧(∀ k,I.ownBlock=some k→E.ownBlock=some k∨w.heap.size≤k))))))
theorem du.wk {w w':ae} {B A bs:Nat} {I:ab} {C:aB} {g:List UInt8→Option Int} {n:Nat} {E:List (List UInt8→Option Int)} {cs:List ab} (h:du w B A bs I C g n E cs) (hm:Wk w w'):du w' B A bs I C g n E cs where
 obj:=Wk.B hm h.obj
 dg:=h.dg.wk hm
 fY:=h.fY
 nB:=h.nB
 nz:=h.nz
 lo:=h.lo
 back:=fL h.back hm
 iM:=h.iM
 bk:=h.bk.imp fun v q ⟨ag,ad,ah,J,L,M,O,U,V,Z,aa,ac⟩=>⟨ag,ad,ah,J,L,M,O,U,V,Wk.B hm Z,Wk.B hm aa,ac.wk hm⟩
theorem uH (B Z bs:Nat) (cz:ab) (bT:aB) (g:List UInt8→Option Int) (n:Nat) (cm:List (List UInt8→Option Int)) (cs:List ab) (E:Int) (l:List (List UInt8)) (a5:Option aB) (bR:Nat) (w:ae) (A:du w B Z bs cz bT g n cm cs) (O:dH w.heap a5 l) (hw:E≠0) (eg:l.length≤1048576) (dw:∀ x∈l,x.length≤1048576) (ef:cs.length≤1048576):
 aO ao 21 (bB [aM Z,.int .i64 E,.slice a5 l.length bR]) w (jc B Z bs cz bT g cm E l w):=by
 obtain ⟨J,L,rfl⟩:=qi A.back;have dt:=A.lo;have eh:=A.nB;have bD:Z≠bs:=fun h=>by subst h; exact A.dg.dm A.obj.choose_spec
 have d9:=A.obj.lt;have ea:=A.dg.lt;refine enter func21 U ntmps21 U<|bc 2 U<|e<|mP U U fun I eC d5 b6 cJ=> ?_;have em:=b6.size;refine e<|mP U U fun aN a2 d6 bl cL=> ?_;have ep:=bl.size;have cP:Wk w a2:=b6.md.trans bl.md;have ce:bz a2.heap I [aM Z]:=Wk.B bl.md cJ;refine az 6 U<|p (bj U<|ce.bF 0)<|p (fh eV U U)<|aY 2 U<|cf (U)<|bE 4 U<|e<|tS fun C eB d4 b5 cH=> ?_;have ek:=b5.size;refine e<|al Cx fun M dY d7 bn cM=> ?_;have ev:=bn.size;refine e<|st yC U U (U) (cM) (by simp) fun aa bi cK=> ?_;have cO:Wk a2 dY:=b5.md.trans bn.md;have bd:Wk a2 aa:=cO.trans' bi fun k V h=>by omega
 have a9:Wk w aa:=cP.trans bd;have en:=bi.size;have bt:bz aa.heap I [aM Z]:=Wk.B bd ce;have ci:bz aa.heap aN [.int .i64 E]:=Wk.B bd cL;have aX:bz aa.heap M [.map (some C)]:=cK;have dC:aU aa.heap C bP (mT<|cZ g []):=by
  rw [Cd,pZ];exact ((aU.nil cH).wk bn.md).md bi fun h=>by omega
 have d3:=O.wk a9;refine az 10 U<|p mv<|aY 5 U<|lp (fun aA cD ay=> ∃ (i m:Nat),(i≤l.length)∧(m≤i)∧(∀ x∈l.take i,fv x=true)∧(bV (dc g<|l.take i)<|n+m)∧(Md (fun k=>k=C) aa ay)∧(aU ay.heap C bP<|mT<|cZ g<|l.take i)∧(Sl cD [(3,aM I),(4,aM aN),(7,aM M),(8,eb m),(17,.slice a5 l.length bR),(18,eb (l.length)),(19,eb i)])∧(l.length - i=aA)) _ ⟨0,0,ag,ag,(fun x an=>by simp at an),(by rw [List.take_zero,Bb]; exact A.fY),(Md.refl _ _),dC,U,U⟩ ?_;rintro aA cD ay ⟨i,m,hi,hm,aH,am,aq,bA,dI,rfl⟩;refine fj dI ?_;have aC:Wk w ay:=a9.trans' aq fun k V h=>by omega
 have ey:=aq.size;refine iE 6 U<|cd U (fun dj=> ?_) fun dj=> ?_;refine eD 5 U ?_;have dO:(l.getD i []).length≤1048576:=sU dw ag;have av:l.take (i+1)=l.take i++ [l.getD i []]:=qK l i [] ag;refine bE 1 U<|p (lH pq U U ag<|aZ.ok (O.wk aC)<|p5 ag)<|p (bj U<|dH.get (i:=i) (O.wk aC) ag)<|az 7 U<|e<|aR (Ca (l.getD i []) ay dO) U ?_;rintro v24 cA ⟨rfl,bb⟩;have aS:Md (fun k=>k=C) aa cA:=aq.trans<|bb.mono fun _ _ h=>h.elim;have bf:=aC.trans bb;have bC:=bA.wk bb;have ch:=aS.B aX fun h=>by omega
 have c6:=aS.B bt fun h=>by omega
 have b8:=A.wk bf;refine aY 3 U<|cb U (fun br=> ?_) fun br=> ?_;have bI:fv (l.getD i [])=false :=by simpa using br
 exact bO 9 U<|tr<|gi 2 U<|ba U<|.inl ⟨⟨_,pE (show i < l.length by omega),bI⟩,U,bf⟩;have bI:fv (l.getD i [])=true :=by simpa using br
 have bH:∀ x∈l.take (i+1),fv x=true :=fun x an=>by
  rw [av,dL,iq] at an;rcases an with an | rfl;exact aH x an;exact bI
 refine bE 4 U<|p (bj U<|ch.bF 0)<|az 1 U<|p (zX dT mg gj (bC.jv) U U (⟨_,U⟩) (vf g (l.take i)<|l.getD i [])<|Ce g (l.take i)<|l.getD i [])<|p mv<|aY 12 U<|cb U (fun bu=> ?_) fun bu=> ?_;have cv:l.getD i []∉l.take i:=by simpa using bu
 refine eD 1 U<|tK 8 fun ai=>kF 0 U ai (ch.bF 0)<|lE [1] U ai<|kF 2 U ai (c6.bF 0)<|lE [3,4] U ai<|kF 5 U ai (b8.obj.bF 1)<|lE [6] U ai<|lq 7 U ah (fun w' O=>nq dT mg gj (er.md (b8.dg.jv) O id) U U (⟨_,U⟩)<|pY g<|l.getD i []) ai<|np 8 U ah ah<|qO (kx:=str<|l.getD i []) (v:= .int .i64<|(g<|l.getD i []).getD 0) dT gj (bC.wk ai) U U U ⟨_,U⟩ fun bK cX aW=> ?_;have b2:Md (fun k=>k=C) cA bK:=(ai.mono fun _ _ h=>h.elim).trans cX;rw [← Cc cv,← av] at aW;have bh:Md (fun k=>k=C) aa bK:=aS.trans b2;have de:=bh.B aX fun h=>by omega
 have d2:Wk w bK:=bf.trans' b2 fun k V h=>by omega
 refine nr ah<|lF 3 U<|p (bj U<|de.bF 0)<|az 1 U<|p (nq dT mg gj (aW.jv) U U (⟨_,U⟩)<|vf g (l.take<|i+1)<|l.getD i [])<|aY 3 U<|cd U (fun ck=> ?_) fun ck=> ?_;have bw:g (l.getD i [])=none:=by
  have h0:(if l.getD i []∈l.take (i+1) then (g<|l.getD i []).getD 0 else 0)=0:=ag;rw [if_pos (by rw [av]; simp)] at h0;cases hg:g (l.getD i []) with
  | none=>rfl
  | some o=>rw [hg] at h0; simp only [Option.getD_some] at h0; subst h0; exact absurd hg<|A.nz _
 exact bE 2 U<|p (gL<|m+1)<|az 5 U<|p (gL<|i+1)<|bg 2 U<|tn<|⟨_,ag,i+1,m+1,ag,ag,bH,(by rw [av,← eo]; exact Ba am cv bw),bh,aW,U,U⟩
 have bw:∃ o,g (l.getD i [])=some o:=by
  cases hg:g (l.getD i []) with
  | some o=>exact ⟨o,rfl⟩
  | none=>exfalso; apply ck; rw [hg]; simp
 exact bE 4 U<|p (gL<|i+1)<|bg 2 U<|tn<|⟨_,ag,i+1,m,ag,ag,bH,(by rw [av]; exact uA am<|.inr bw),bh,aW,U,U⟩
 have cw:l.getD i []∈l.take i:=by simpa using bu
 exact bE 4 U<|p (gL<|i+1)<|bg 2 U<|tn<|⟨_,ag,i+1,m,ag,ag,bH,(by rw [av]; exact uA am<|.inl cw),aS,(by rw [av,Cf cw]; exact bC),U,U⟩
 refine bO 2 U<|gv<|pG 4 U ?_;obtain rfl :i=l.length:=ag;rw [wP] at aH am bA;have dE:=bA;have b9:=A.wk aC;have c9:=aq.B bt fun h=>by omega
 have dh:=aq.B aX fun h=>by omega
 have dd:=aq.B ci fun h=>by omega
 refine bE 1 U<|p (bj U<|c9.bF 0)<|az 2 U<|p (bj U<|b9.obj.bF 1)<|p (tG dT U U b9.dg A.fY)<|az 1 U<|p (gL<|n+m)<|aY 3 U<|cd U (fun dk=> ?_) fun dk=> ?_;exact bO 7 U<|ba U<|.inr ⟨aH,n+m,am,.inl ⟨ag,U,aC⟩⟩;refine bE 4 U<|p (bj U<|dh.bF 0)<|p ny<|e<|aR (yI C aN (cZ g l) E ay dE dd) U ?_;rintro v59 aK ⟨rfl,a1,c1⟩;have aD:Md (fun k=>k=C) aa aK:=aq.trans c1;have aQ:Wk w aK:=a9.trans' aD fun k V h=>by omega
 have bq:=aD.B aX fun h=>by omega
 have cg:=aD.B bt fun h=>by omega
 have da:=aD.B ci fun h=>by omega
 have aV:=A.wk aQ;have eq:=aQ.size;have es:=aD.size;obtain ⟨bU,d1,_,a0⟩:=a1.fY;refine az 5 U<|p (bj U<|bq.bF 0)<|p (tG dT U U a1 a0)<|aY 3 U<|cd U (fun dl=> ?_) fun dl=> ?_;have bx:bU.size=0:=ag;rw [bx] at a0;exact bO 7 U<|ba U<|.inr ⟨aH,n+m,am,.inr ⟨ag,U,.inl ⟨a0,aQ⟩⟩⟩;have bx:bU.size≠0:=ag;refine bE 5 U<|p (bj U<|bq.bF 0)<|e<|nP dT a1 U fun aJ eF left ei bm cS dq dy co=> ?_;have eu:=bm.size;refine aY 3 U<|lp (fun aA cE a3=> ∃ (aI:List (ab×ab)),(Lf (bS E g l) aI)∧(dG a3.heap aJ C aI)∧(aU a3.heap bs bP<|mT<|dx aI g<|dn E (bS E g l) g)∧(Md (fun k=>k=bs∨k=aJ) aK a3)∧(Sl cE [(3,aM I),(4,aM aN),(7,aM M),(64,aM aJ)])∧(aI.length=aA)) _ ⟨left,(Lf.start dq dy co),cS,(by rw [pd (a:=g) (b:=dn E (bS E g l) g) co (fun x an=>(AK an).symm)]; exact aV.dg.wk bm.md),(bm.md.mono fun _ _ h=>h.elim),U,U⟩ ?_;rintro aA cE a3 ⟨aI,cU,cT,bG,ad,dJ,rfl⟩;refine fj dJ<|bc 2 U<|e<|nE cT U fun dZ ez cx aj cF cG=>p (nF U)<|aY 3 U<|cb U (fun bp=> ?_) fun bp=> ?_;obtain ⟨ct,b4,b1⟩:=cG bp;have ds:=ct.length_eq;simp only [cr] at ds;obtain ⟨x,o,rfl,dF,cV,ej,ee,dp⟩:=cU.step ct;have aT:Md (fun k=>k=bs∨k=aJ) aK aj:=ad.trans<|b4.mono fun k _ h=> .inr h;have dM:=bG.md b4 fun h=>by omega
 have c7:=aT.B cg fun h=>by omega
 have db:=aT.B da fun h=>by omega
 have dA:=aT.B aV.obj fun h=>by have :=bD; omega
 refine bE 5 U<|p (mX b1 U)<|aY 4 U<|tK 6 fun au=>kF 0 U au (c7.bF 0)<|lE [1,2] U au<|kF 3 U au (dA.bF 1)<|lE [4] U au<|kF 5 U au (db.bF 0)<|np 6 U ah ah<|qO (kx:=str x) (v:= .int .i64 E) dT gj (dM.wk au) U U U ⟨_,U⟩ fun bL cY c2=> ?_;have b3:Md (fun k=>k=bs) aj bL:=(au.mono fun _ _ h=>h.elim).trans cY;have c0:Md (fun k=>k=bs∨k=aJ) aK bL:=aT.trans<|b3.mono fun k _ h=> .inl h;have cR:=b1.kq.md b3 (fun h=>by omega) fun h=>by omega
 have dK:aU bL.heap bs bP (mT<|dx cx g<|dn E (bS E g l) g):=by
  rw [dp,AM dF,← nu];exact c2
 exact nr ah<|gi 1 U<|tn<|⟨_,ag,cx,cV,cR,dK,c0,U,U⟩
 obtain ⟨dr,rfl⟩:=cF bp;refine bO 2 U<|gv<|pG 3 U ?_;rw [dr,pc] at bG;have bv:=ad.B cg fun h=>by omega
 have cq:=ad.B aV.obj fun h=>by have :=bD; omega
 have cu:¬(dD J cs.length L).ownBlock=some I:=fun h=>by have :=(jy A.back h).2; omega
 have di:eX aj B 1 1 (.slice J cs.length L) cs.length cs:=ed aV.back ad (fun k V h=>by
  rcases h with h | h;subst h; obtain ⟨cur,z,aG⟩:=lU A.back V; exact A.dg.dm aG;have :=(jy A.back V).2; omega)
 have ax:(fun w'=>Md (fun q=>(dD J cs.length L).ownBlock=some q) aj w') aj.drew:=(Md.refl _ _).drew;refine pV (fun w'=>Md (fun q=>(dD J cs.length L).ownBlock=some q) aj w') 10 U wide ax<|pT 0 U (fun w' O=>bj U<|(O.B bv cu).bF 0) ax<|pT 1 U (fun w' O=>bj U<|(O.B bv cu).bF 0) ax<|na [2,3] U ax<|pT 4 U (fun w' O=>bj U<|(O.B cq A.iM).bF 2) ax<|pU 5 U (ny) ax<|tB 6 U ah<|mO qF U U fun d0 cB d8 b7 cN=> ?_;have ew:=b7.size;have ac:Wk aj cB:=B4 b7.md;have ex:=ac.size;have ca:(fun w'=>Md (fun q=>(dD J cs.length L).ownBlock=some q) aj w') cB:=Md.mono ac fun _ _ h=>h.elim;refine ⟨ca,?_⟩;refine tB 7 U ah<|ap qF (fL di ac) U (by have :=ad.size; omega) U (aZ.lO cN) (U) (U) ag ag fun eA cC cp ak dP aF=> ?_;have dP:=ak.size;have dB:=ak.B (Wk.B ac cq) A.iM;obtain ⟨aL,aP,rfl⟩:=qi cp;have cc:(fun w'=>Md (fun q=>(dD J cs.length L).ownBlock=some q) aj w') cC:=ca.trans' ak fun _ _ h=>h;refine ⟨cc,?_⟩;refine na [8,9] U cc<|np 10 U ah ah<|st r6 U U (U) (dB) (by simp) fun a4 ar cI=> ?_
 skip
 refine nr ah<|gi 7 U<|ba U ?_;have et:=ad.size;have el:=ar.size;have dz:eX cC B 1 1 (.slice aL (cs.length+1) aP) (cs++ [jV (.func 50) #[] #[aM M,aM I]]).length (cs++ [jV (.func 50) #[] #[aM M,aM I]]):=by rw [cn]; exact cp
 have hT:Md (ln Z bs<|.slice J cs.length L) w a4:=((((aQ.mono fun _ _ h=>h.elim).trans' ad (fun k V h=>by
  rcases h with h | h;exact .inr<|.inl h;omega)).trans' ac (fun _ _ h=>h.elim)).trans' ak (fun k V h=> .inr<|.inr h)).trans' ar (fun k V h=> .inl h)
 have dv:=fun k h=>(jy (k:=k) A.back h).2;have dN:¬(dD J cs.length L).ownBlock=some bs:=fun h=>by obtain ⟨cur,z,aG⟩:=lU A.back h; exact A.dg.dm aG
 have aE:∀ b,b=I∨b=M∨b=C→¬(dD aL (cs.length+1) aP).ownBlock=some b∧¬(dD J cs.length L).ownBlock=some b:=fun b hb=>by
  have aw:¬(dD J cs.length L).ownBlock=some b:=fun h=>by have :=dv b h; omega
  refine ⟨fun h=> ?_,aw⟩;rcases aF b h with h | h;exact aw h;omega
 have c4:bz a4.heap I [aM Z]:=ar.B (ak.B (Wk.B ac bv) (aE I<|.inl rfl).2) fun h=>by omega
 have c5:bz a4.heap M [.map (some C)]:=ar.B (ak.B (Wk.B ac<|ad.B bq fun h=>by omega) (aE M<|.inr<|.inl rfl).2) fun h=>by omega
 have c3:aU a4.heap C bP (mT<|bS E g l):=(((a1.md ad fun h=>by omega).wk ac).md ak (aE C<|.inr<|.inr rfl).2).md ar fun h=>by omega
 refine .inr ⟨aH,n+m,am,.inr ⟨ag,U,.inr ⟨.slice aL (cs.length+1) aP,cs++ [jV (.func 50) #[] #[aM M,aM I]],bV.pos a0 bx,⟨cI,((bG.wk ac).md ak dN).md ar (fun h=>bD h.symm),AN hw am,ag,AL hw A.nz,dt,ed dz ar (fun k V h=> ?_),fun h=> ?_,c8.snoc ⟨M,I,C,U,ag,ag,ag,(aE M<|.inr<|.inl U).1,(aE I<|.inl U).1,c5,c4,c3⟩<|c8.imp (fun v q hb=> ?_) A.bk⟩,hT,fun k h=> ?_⟩⟩⟩;subst h;rcases aF k V with h | h;exact A.iM h;omega;rcases aF Z h with h | h;exact A.iM h;omega;obtain ⟨bM,bJ,bN,aw,bW,bX,bY,bZ,b0,a6,a7,a8⟩:=hb;have dQ:=a6.lt;have dR:=a7.lt;have dS:bM≠bs:=fun h=>by subst h; exact A.dg.dm a6.choose_spec
 have dV:bJ≠bs:=fun h=>by subst h; exact A.dg.dm a7.choose_spec
 have dW:bN≠Z:=fun h=>by subst h; exact a8.dm A.obj.choose_spec
 have dX:¬(dD J cs.length L).ownBlock=some bN:=fun h=>by obtain ⟨cur,z,aG⟩:=lU A.back h; exact a8.dm aG
 have cy:∀ b,b < w.heap.size→¬(dD J cs.length L).ownBlock=some b→¬(dD aL (cs.length+1) aP).ownBlock=some b:=fun b hb aw h=>by
  rcases aF b h with h | h;exact aw h;omega
 exact ⟨bM,bJ,bN,aw,bW,bX,bY,cy bM dQ bZ,cy bJ dR b0,hT.B a6 (fun h=>by rcases h with h | h | h; exact bW h; exact dS h; exact bZ h),hT.B a7 (fun h=>by rcases h with h | h | h; exact bX h; exact dV h; exact b0 h),a8.md hT fun h=>by rcases h with h | h | h; exact dW h; exact bY h; exact dX h⟩;rcases aF k h with h | h;exact .inl h;exact .inr ag
end Go.Hb.j6
end
section
namespace Go.Hb
open Go.Hb.fU
open Go.Hb.j6
theorem uD (J:Int) (I:ab) (w:ae):
 aO ao 21 (bB [.pointer none,.int .i64 J,I]) w (fun v w'=>v= .int .i64 1∧Wk w w'):=by
 refine enter func21 U ntmps21 U<|bc 2 U<|e<|mP U U fun L ad V C E=> ?_;have aa:=C.size;refine e<|mP U U fun M ag Z A O=> ?_;have ac:=A.size;exact az 6 U<|p (bj U<|(Wk.B A.md E).bF 0)<|p (fh eV U U)<|aY 2 U<|ct (U)<|bO 7 U<|ba U<|⟨U,Md.trans C.md A.md⟩
theorem xr (A:ab) (w:ae):
 aO ao 9 (bB [.pointer none,A]) w (fun v w'=>v= .int .i64 1∧Wk w w'):=by
 refine enter func9 U ntmps9 U<|bc 8 U<|uk (A)<|e<|aR (uD 1 A w) U ?_;rintro E I ⟨rfl,C⟩;exact bg 4 U<|ba U<|⟨U,C⟩
theorem xJ (A:ab) (w:ae):
 aO ao 11 (bB [.pointer none,A]) w (fun v w'=>v= .int .i64 1∧Wk w w'):=by
 refine enter func11 U ntmps11 U<|bc 8 U<|uk (A)<|e<|aR (uD (-1) A w) U ?_;rintro E I ⟨rfl,C⟩;exact bg 4 U<|ba U<|⟨U,C⟩
theorem BZ (w:ae):
 aO ao 13 (bB [.pointer none]) w (fun v w'=>v= .bool false∧Wk w w'):=by
 refine enter func13 U ntmps13 U<|bc 9 U<|p (fh eV U U)<|az 1 U<|gb (t:=6) U (fun A=> ?_) fun h=>absurd ((U).symm.trans h) cz;exact bg 17 U<|ba U<|⟨U,Md.refl _ _⟩
theorem zU (w:ae):
 aO ao 14 (bB [.pointer none]) w (fun v w'=>v= .int .i64 0∧Wk w w'):=by
 exact enter func14 U ntmps14 U<|bc 9 U<|p (fh eV U U)<|aY 2 U<|ct (U)<|bO 7 U<|ba U<|⟨U,Md.refl _ _⟩
theorem BP (w:ae):
 aO ao 12 (bB [.pointer none]) w (fun v w'=>v=str []∧Wk w w'):=by
 exact enter func12 U ntmps12 U<|bc 9 U<|p (fh eV U U)<|aY 2 U<|ct (U)<|bO 7 U<|ba U<|⟨U,Md.refl _ _⟩
theorem sX (x:List UInt8) (w:ae):
 aO ao 15 (bB [.pointer none,str x]) w (fun v w'=>v= .int .i64 0∧Wk w w'):=by
 exact enter func15 U ntmps15 U<|bc 9 U<|p (fh eV U U)<|aY 2 U<|ct (U)<|bO 7 U<|ba U<|⟨U,Md.refl _ _⟩
theorem yg (x:List UInt8) (w:ae):
 aO ao 16 (bB [.pointer none,str x]) w (fun v w'=>v= .bool false∧Wk w w'):=by
 refine enter func16 U ntmps16 U<|bc 10 U<|e<|aR (sX x w) U ?_;rintro J L ⟨rfl,A⟩;exact aY 9 U<|cd U (fun h=>absurd h bH) fun E=>eD 6 U<|cd U (fun h=>absurd h bH) fun C=>bE 6 U<|p (nD eV U U)<|az 1 U<|gb (t:=14) U (fun h=>absurd (h.symm.trans<|U) cz) fun I=>az 7 U<|p aF<|bg 3 U<|ba U<|⟨U,A⟩
theorem xu (B A bs:Nat) (J:ab) (E:aB) (g:List UInt8→Option Int) (n:Nat) (I:List (List UInt8→Option Int)) (cs:List ab) (l:List (List UInt8)) (C:Option aB) (L:Nat) (w:ae) (M:du w B A bs J E g n I cs) (V:dH w.heap C l) (aa:l.length≤1048576) (ac:∀ x∈l,x.length≤1048576) (Z:cs.length≤1048576):
 aO ao 9 (bB [aM A,.slice C l.length L]) w (jc B A bs J E g I 1 l w):=by
 exact enter func9 U ntmps9 U<|bc 9 U<|e<|aR (uH B A bs J E g n I cs 1 l C L w M V bH aa ac Z) U fun ad ag O=>p aF<|bg 3 U<|ba U<|O
theorem xK (B A bs:Nat) (J:ab) (E:aB) (g:List UInt8→Option Int) (n:Nat) (I:List (List UInt8→Option Int)) (cs:List ab) (l:List (List UInt8)) (C:Option aB) (L:Nat) (w:ae) (M:du w B A bs J E g n I cs) (V:dH w.heap C l) (aa:l.length≤1048576) (ac:∀ x∈l,x.length≤1048576) (Z:cs.length≤1048576):
 aO ao 11 (bB [aM A,.slice C l.length L]) w (jc B A bs J E g I (-1) l w):=by
 exact enter func11 U ntmps11 U<|bc 9 U<|e<|aR (uH B A bs J E g n I cs (-1) l C L w M V bH aa ac Z) U fun ad ag O=>p aF<|bg 3 U<|ba U<|O
theorem pH (B A bs:Nat) (J:ab) (E:aB) (g:List UInt8→Option Int) (n:Nat) (I:List (List UInt8→Option Int)) (cs:List ab) (x:List UInt8) (w:ae) (C:du w B A bs J E g n I cs):
 aO ao 15 (bB [aM A,str x]) w (fun v w'=>v= .int .i64 ((g x).getD 0)∧Wk w w'):=by
 exact enter func15 U ntmps15 U<|bc 9 U<|p (fh eV U U)<|aY 2 U<|cf (U)<|bE 7 U<|p (bj U<|C.obj.bF 1)<|az 1 U<|p (nq dT mg gj (C.dg.jv) U U (⟨_,U⟩)<|pY g x)<|bg 4 U<|ba U<|⟨U,Md.refl _ _⟩
theorem yh (B A bs:Nat) (I:ab) (C:aB) (g:List UInt8→Option Int) (n:Nat) (E:List (List UInt8→Option Int)) (cs:List ab) (x:List UInt8) (w:ae) (L:du w B A bs I C g n E cs) (M:g x=some 1):
 aO ao 16 (bB [aM A,str x]) w (fun v w'=>v= .bool true∧Wk w w'):=by
 refine enter func16 U ntmps16 U<|bc 10 U<|e<|aR (pH B A bs I C g n E cs x w L) U ?_;rintro V Z ⟨rfl,J⟩;refine aY 9 U<|cd U (fun O=> ?_) fun h=>absurd (by rw [M]; rfl) h;exact bO 8 U<|ba U<|⟨U,J⟩
theorem yf (B A bs:Nat) (J:ab) (C:aB) (g:List UInt8→Option Int) (n:Nat) (I:List (List UInt8→Option Int)) (cs:List ab) (x:List UInt8) (w:ae) (M:du w B A bs J C g n I cs) (E:g x=some (-1)):
 aO ao 16 (bB [aM A,str x]) w (fun v w'=>v= .bool false∧Wk w w'):=by
 refine enter func16 U ntmps16 U<|bc 10 U<|e<|aR (pH B A bs J C g n I cs x w M) U ?_;rintro Z aa ⟨rfl,L⟩;refine aY 9 U<|cd U (fun h=>absurd h<|by rw [E]; decide) fun V=>eD 6 U<|cd U (fun O=> ?_) fun h=>absurd (by rw [E]; rfl) h;exact bO 8 U<|ba U<|⟨U,L⟩
end Go.Hb
end
section
namespace Go.Hb
open Go.Hb.fU
open Go.Hb.j6
theorem AE {w:ae} {B e n C i:Nat} {a:Option aB} {l:List ab} (h:w.ownsRow B e 1 (.slice a n C) n l) (hi:i≤n) (hn:0 < n):w.ownsRow B e 1 (.slice a i C) i (l.take i):=by
 have V:l.length=n:=by have :=h.1; simpa using this
 rcases h.2 with ⟨A,O⟩ | ⟨g,cap,cur,A,I,L,hle,J,M,E⟩
 · simp only [jW] at A; omega
 · simp only [jW] at A;obtain ⟨rfl,_,rfl⟩:=A;refine ⟨by rw [dW]; omega,.inr ⟨g,C,cur,U,I,L,ag,J,M,?_⟩⟩;rw [oK] at E ⊢;rw [← E,List.take_take,Nat.min_eq_left hi]
theorem AB {w:ae} {B e n A j:Nat} {a:Option aB} {l:List ab} (h:w.ownsRow B e 1 (.slice a n A) n l):aZ w.heap (bT a A j 1) (l.drop j):=by
 have C:=(jx h).2.drop (cap:=A) (k:=j) (size:=1)<|by have E:=h.1; have I:=(jx h).1; omega
 rwa [oK] at C
theorem yK (l:List ab) (i j:Nat) (B n E C:Nat) (w:ae) (I:eX w B 1 1 (.slice (some ⟨C,0,none⟩) n E) n l) (ac:i < j∧j≤n) (ai:n≤1048577) (J:(l.drop j).all iS=true):
 aO ao 28 (bB [.slice (some ⟨C,0,none⟩) n E,eb i,eb j]) w (fun v w'=>v= .slice (some ⟨C,0,none⟩) (i+(n - j)) E∧eX w' B 1 1 (.slice (some ⟨C,0,none⟩) (i+(n - j)) E) (i+(n - j)) (l.take i++l.drop j)∧Md (fun q=>q=C) w w'):=by
 have ad:l.length=n:=by have :=I.1; simpa using this
 have aa:=(jx I).1;refine enter func28 U ntmps28 U<|bc 12 U<|p (uK lD U U U U ag)<|aY 10 U<|cd U (fun h=>absurd h ag) fun Z=>eD 10 U ?_;have A:(fun w'=>Wk w w') w.drew:=(Md.refl _ _).drew;exact pV (fun w'=>Wk w w') 6 U wide A<|na [0,1] U A<|pU 2 U (qE lD U U ag) A<|na [3,4] U A<|pU 5 U (nX lD U U ag) A<|np 6 U ah ah<|xD (B:=B) (xs:=l.take i) (news:=l.drop j) (n:=i) (m:=n - j) qF (AE (fL I A) ag ag) U U (show aZ _ (bT (some ⟨C,0,none⟩) E j 1) (l.drop j) from AB<|fL I A) (by unfold bT; split <;> simp) (by rw [List.length_drop]; omega) J ag fun aj L O=>z1 7 U (fun _=>aF) (fun h=>cz<|(show true =_ from by kernel_rfl).trans h)<|nr ah<|lF 7 U<|p (nW lD U U U ag)<|e<|yq BV Cy U O (by simp) U ag fun ak M V=>bg 9 U<|ba U<|⟨U,V,Md.trans (A.mono fun _ _ h=>h.elim)<|Md.trans L<|M.mono fun q _ h=>by simpa [cJ] using h.symm⟩
theorem xI (au M aa ac bs:Nat) (aN:aB) (a2:ab) (q g:List UInt8→Option Int) (w:ae) (aK:bz w.heap au [.map (some aa)]) (am:bz w.heap M [aM ac]) (ap:bz w.heap ac [.pointer (some aN),.map (some bs),a2]) (aH:aU w.heap aa bP (mT q)) (nb:aU w.heap bs bP (mT g)) (aE:aa≠bs):
 aO ao 50 (bB [aM au,aM M]) w (fun v w'=>v= .tuple #[]∧aU w'.heap bs bP (mT<|dw q g)∧Md (fun k=>k=bs) w w'):=by
 have bd:=aK.lt;have bf:=am.lt;have bh:=ap.lt;have bi:=aH.lt;have bl:=nb.lt;have bm:M≠bs:=fun h=>by subst h; exact nb.dm am.choose_spec
 have bn:ac≠bs:=fun h=>by subst h; exact nb.dm ap.choose_spec
 refine enter func50 U ntmps50 U<|bc 2 U<|p (bj U<|aK.bF 0)<|e<|nP dT aH U fun A V left a8 E aS aV aZ aC=> ?_;have ba:=E.size;refine aY 3 U<|lp (fun av aL Z=> ∃ (I:List (ab×ab)),(Lf q I)∧(dG Z.heap A aa I)∧(aU Z.heap bs bP<|mT<|dx I g<|dw q g)∧(Md (fun k=>k=bs∨k=A) V Z)∧(Sl aL [(0,aM au),(1,aM M),(5,aM A)])∧(I.length=av)) _ ⟨left,(Lf.start aV aZ aC),aS,(by rw [pd (a:=g) (b:=dw q g) aC (fun x a1=>by simp [dw,a1])]; exact nb.wk E.md),(Md.refl _ _),U,U⟩ ?_;rintro av aL Z ⟨I,aT,aR,aq,aw,a0,rfl⟩;refine fj a0<|bc 2 U<|e<|nE aR U fun a4 bb O a3 aP aQ=>p (nF U)<|aY 3 U<|cb U (fun ak=> ?_) fun ak=> ?_;obtain ⟨aG,ay,ad⟩:=aQ ak;have aX:=aG.length_eq;simp only [cr] at aX;obtain ⟨x,o,rfl,aI,ax,a9,a6,aA⟩:=aT.step aG;have L:Md (fun k=>k=bs∨k=A) V a3:=aw.trans<|ay.mono fun k _ h=> .inr h;have aD:=L.B (Wk.B E.md am) fun h=>by omega
 have aF:=L.B (Wk.B E.md ap) fun h=>by omega
 have aJ:=aq.md ay fun h=>by omega
 refine bE 5 U<|p (mX ad U)<|aY 12 U<|cd U (fun al=> ?_) fun al=> ?_;have an:o=0:=by simpa using al
 refine bE 1 U<|p (bj U<|aD.bF 0)<|az 2 U<|p (bj U<|aF.bF 1)<|az 1 U<|e<|sc (kx:=str x) dT gj aJ U U ⟨x,U⟩ fun J C aj a5=> ?_;have ah:=(ad.kq).md C (fun h=>by omega) fun h=>aE h;have ai:Md (fun k=>k=bs∨k=A) V J:=L.trans<|C.mono fun k _ h=> .inl h;have ar:aU J.heap bs bP (mT<|dx O g<|dw q g):=by
  rw [aA,show dw q g x=none from by simp [dw,aI,an],← tM];exact aj
 exact bg 2 U<|tn<|⟨_,ag,O,ax,ah,ar,ai,U,U⟩
 have an:o≠0:=by simpa using al
 refine bE 1 U<|p (bj U<|aD.bF 0)<|az 2 U<|p (bj U<|aF.bF 1)<|az 2 U<|e<|qO (kx:=str x) (v:= .int .i64 o) dT gj aJ U U U ⟨x,U⟩ fun J C aj=> ?_;have ah:=(ad.kq).md C (fun h=>by omega) fun h=>aE h;have ai:Md (fun k=>k=bs∨k=A) V J:=L.trans<|C.mono fun k _ h=> .inl h;have ar:aU J.heap bs bP (mT<|dx O g<|dw q g):=by
  rw [aA,show dw q g x=some o from by simp [dw,aI,an],← nu];exact aj
 exact bg 2 U<|tn<|⟨_,ag,O,ax,ah,ar,ai,U,U⟩
 obtain ⟨aW,rfl⟩:=aP ak;exact bO 2 U<|gv<|gi 1 U<|f0 U<|⟨U,by rw [aW,pc] at aq; exact aq,(E.md.mono fun _ _ h=>h.elim).trans' aw fun k a7 h=>by rcases h with h | h; exact h; omega⟩
theorem B3 (B E bs:Nat) (ad:ab) (ah:aB) (g q:List UInt8→Option Int) (n m:Nat) (ax:List (List UInt8→Option Int)) (cs:List ab) (w:ae) (C:du w B E bs ad ah g n (ax++ [q]) cs) (hm:bV (dw q g) m) (aN:m≤500) (aL:cs.length≤1048577):
 aO ao 13 (bB [aM E]) w (fun v w'=>v= .bool true∧∃ aC aD,du w' B E bs aC ah (dw q g) m ax aD∧Md (ln E bs ad) w w'∧(∀ k,aC.ownBlock=some k→ad.ownBlock=some k)):=by
 obtain ⟨A,v0,rfl,aI,aH⟩:=c8.pop C.bk;obtain ⟨L,J,Z,rfl,i1,i2,i3,i4,i5,i6,i7,i8⟩:=aH;have aK:(A++ [jV (.func 50) #[] #[aM L,aM J]]).length=A.length+1:=by simp
 have M:=C.back;rw [aK] at M aL;obtain ⟨I,O,rfl⟩:∃ I O,ad= .slice (some ⟨I,0,none⟩) (A.length+1) O:=by
  rcases M.2 with ⟨_,ai⟩ | ⟨g2,cap,cur,aa,_⟩;omega;exact ⟨g2,cap,aa⟩
 have av:I≠E:=fun h=>C.iM<|by rw [h]; rfl
 have aw:I≠bs:=fun h=>by obtain ⟨cur,z,ac⟩:=lU M rfl; rw [h] at ac; exact C.dg.dm ac
 refine enter func13 U ntmps13 U<|bc 8 U<|p mv<|p (fh eV U U)<|az 1 U<|gb (t:=6) U (fun h=>absurd (h.symm.trans<|U) cz) fun a2=>fq U mv<|az 2 U<|fq U (bj U<|C.obj.bF 2)<|aY 5 U<|cd U (fun h=>absurd h ag) fun a1=>bE 4 U<|p mv<|az 2 U<|p (bj U<|C.obj.bF 2)<|az 1 U<|p (Bc<|A.length)<|az 5 U<|p mv<|az 2 U<|p (bj U<|C.obj.bF 2)<|az 1 U<|p (lH lD U U ag<|aZ.ok ((jx M).2)<|by simp)<|p (bj U<|aZ.oV (jx M).2 (i:=A.length) (u:=jV (.func 50) #[] #[aM L,aM J])<|by simp)<|e<|rV x4 U (xI L J Z E bs ah _ q g w i6 i7 C.obj i8 C.dg i3) U ?_;rintro a3 aX ⟨rfl,aS,ak⟩;have aA:=ak.B C.obj fun h=>by have :=C.dg; subst h; exact this.dm C.obj.choose_spec
 have aJ:=ed M ak fun k V h=>aw<|by simp only [cJ,aQ] at V; omega
 refine az 4 U<|p mv<|p mv<|az 2 U<|p (bj U<|aA.bF 2)<|az 2 U<|p (gL<|A.length+1)<|e<|aR (yK _ A.length (A.length+1) B (A.length+1) O I aX aJ ag ag<|by simp) U ?_;rintro a4 a5 ⟨rfl,ay,al⟩;have aP:=al.B aA fun h=>av h.symm;refine az 2 U<|e<|st r6 U U (U) (aP) (by simp) fun a0 am aG=> ?_
 skip
 refine bg 8 U<|ba U ?_;have hT:Md (ln E bs<|.slice (some ⟨I,0,none⟩) (A.length+1) O) w a0:=((ak.mono fun k _ h=> .inr<|.inl h).trans' al fun k V h=> .inr<|.inr<|by rw [h]; rfl).trans' am fun k V h=> .inl h;rw [show A.length+(A.length+1 - (A.length+1))=A.length by omega] at*;have aE:(A++ [jV (.func 50) #[] #[aM L,aM J]]).take A.length++(A++ [jV (.func 50) #[] #[aM L,aM J]]).drop (A.length+1)=A:=by simp
 rw [aE] at ay;refine ⟨U,.slice (some ⟨I,0,none⟩) A.length O,A,⟨aG,(aS.md al fun h=>aw h.symm).md am (fun h=>by have :=C.dg; subst h; exact this.dm C.obj.choose_spec),hm,aN,xH C.nz,C.lo,ed ay am (fun k V h=>av<|by simp only [cJ,aQ] at V; omega),fun h=>C.iM h,c8.imp (fun v q hb=> ?_) aI⟩,hT,fun k h=>h⟩;obtain ⟨L,J,Z,aF,an,ap,aa,ai,aq,ar,au,aj⟩:=hb;have aT:L≠bs:=fun h=>by subst h; exact C.dg.dm ar.choose_spec
 have aU:J≠bs:=fun h=>by subst h; exact C.dg.dm au.choose_spec
 have aV:Z≠E:=fun h=>by subst h; exact aj.dm C.obj.choose_spec
 have aW:¬(dD (some ⟨I,0,none⟩) (A.length+1) O).ownBlock=some Z:=fun h=>by obtain ⟨cur,z,ac⟩:=lU M h; exact aj.dm ac
 exact ⟨L,J,Z,aF,an,ap,aa,ai,aq,hT.B ar (fun h=>by rcases h with h | h | h; exact an h; exact aT h; exact ai h),hT.B au (fun h=>by rcases h with h | h | h; exact ap h; exact aU h; exact aq h),aj.md hT fun h=>by rcases h with h | h | h; exact aV h; exact aa h; exact aW h⟩
end Go.Hb
end
section
namespace Go.Hb.oP
open Go.Hb.fU
open Go.Hb.j6
def mJ (g:List UInt8→Option Int) (pre:List (List UInt8)) (x:List UInt8):Prop :=(pre++ [x]).Nodup∧∀ y∈pre++ [x],∃ o,g y=some o
def gJ (bk A:Nat) (es:Array MapEntry) (c:Nat) (W:ae):Prop :=W.heap[bk]? =some (.cells [Value.map (some A)].toArray 61 (0,0))∧W.heap[A]? =some (.map es c)
theorem dY.fix {h A:Array Obj} {r b:Nat} {left :List (ab×ab)} {C:ab×ab} (hm:dY h r b left C) (hr:∀ o,h[r]? =some o→((∀ cur e z,o≠.cells cur e z)∧∀ es c,o≠.map es c)→A[r]? =some o) (hb:A[b]? =h[b]?):dY A r b left C:=by
 obtain ⟨es,c,seen,e,E,I,J⟩:=hm;exact ⟨es,c,seen,e,hr _ E ⟨(fun _ _ _ h=>by cases h),fun _ _ h=>by cases h⟩,hb.trans I,J⟩
theorem dG.nc {h:Array Obj} {r b:Nat} {left :List (ab×ab)} (hm:dG h r b left) (cur:Array ab) (e:TypeId) (z:Nat×Nat):h[r]?≠some (.cells cur e z):=by
 obtain ⟨es,c,seen,C,A,_⟩:=hm;rw [A]; intro h; cases h
theorem zM (A:Nat) (w:ae):
 aO ao 23 (bB [.map (some A)]) w (fun v w'=> ∃ b,v= .func (.func 53) #[] #[aM b]∧w.heap.size≤b∧w'.heap[b]? =some (.cells [Value.map (some A)].toArray 61 (0,0))∧Wk w w'):=by
 exact enter func23 U ntmps23 U<|bc 2 U<|e<|rN U U fun C L J I E=>az 5 U<|p ny<|bg 4 U<|ba U<|⟨C,U,ag,E,I.md⟩
theorem zJ (bk L:Nat) (es:Array MapEntry) (c:Nat) (g:List UInt8→Option Int) (aF:ep es.toList c) (aG:dX es.toList bP (mT g)) (l:Nat) (C:List (List UInt8)→ae→Prop) (w:ae) (h0:C [] w) (V:∀ pre W,C pre W→gJ bk L es c W) (bh:∀ pre E ai (ah:Nat→Prop),C pre E→Md ah E ai→(∀ k,ah k→w.heap.size≤k∧∀ cur e z,E.heap[k]?≠some (.cells cur e z))→C pre ai) (A:∀ pre x E,mJ g pre x→C pre E→YieldAt Fence.wide 0 ao l #[str x] E fun e W'=>e= .returned (.bool true)∧dP E W'∧C (pre++ [x]) W'):
 aO ao 53 (bB [.func (.yield l) #[] #[],aM bk]) w (fun v w'=> ∃ xs,e9 g xs∧C xs w'):=by
 have ar:=V _ _ h0;have ax:aU w.heap L bP (mT g):=⟨es,c,ar.2,aF,aG⟩
 have a0:=ax.lt;refine enter func53 U ntmps53 U<|bc 2 U<|p (bj U<|(dQ ar.1).trans U)<|e<|nP dT ax U fun ac a7 left a3 aq aH aL aQ aw=> ?_;have a4:=aq.size;refine aY 3 U<|lp (fun aj aA ad=> ∃ (I:List (ab×ab)) (pre:List (List UInt8)),(Lf g I)∧(dG ad.heap ac L I)∧(C pre ad)∧(pre.Nodup)∧(∀ y,(∃ o,g y=some o)↔y∈pre∨str y∈I.map bC)∧(∀ y∈pre,str y∉I.map bC)∧(Sl aA [(0,.func (.yield l) #[] #[]),(5,aM ac)])∧(I.length=aj)) _ ⟨left,[],(Lf.start aL aQ aw),aH,(bh [] _ _ (fun _=>False) h0 aq.md fun _ h=>h.elim),wM,(zL aw),(fun y A=>by simp at A),U,U⟩ ?_;rintro aj aA ad ⟨I,pre,ap,al,am,ay,Z,au,aS,rfl⟩;refine fj aS<|bc 2 U<|e<|nE al U fun aZ a5 aa aX aD aE=>p (nF U)<|aY 3 U<|cb U (fun O=> ?_) fun O=> ?_;obtain ⟨J,aJ,ak⟩:=aE O;have aP:=J.length_eq;simp only [cr] at aP;obtain ⟨x,o,rfl,aR,aI,aV,a1,a2⟩:=ap.step J;have av:∀ y,str y∈I.map bC↔y=x∨str y∈aa.map bC:=fun y=>by
  rw [(J.map bC).mem_iff];simp only [cx,cU];exact ⟨fun h=>h.imp jD id,fun h=>h.imp (fun h=>by rw [h]) id⟩
 have aT:str x∉aa.map bC:=by
  have h:=(J.map bC).nodup_iff.1 ap.nd;simp only [cx,List.nodup_cons] at h;exact h.1
 have an:C pre aX:=bh pre _ _ (fun k=>k=ac) am aJ fun k aK=>⟨ag,fun cur e z=>by rw [aK]; exact dG.nc al cur e z⟩
 have aW:x∉pre:=fun h=>au x h aV;have az:mJ g pre x:=⟨List.nodup_append.2 ⟨ay,by simp,fun a ha b hb=>by simp at hb; subst hb; intro h; subst h; exact aW ha⟩,fun y A=>by
  rw [dL,iq] at A;rcases A with A | rfl;exact (Z y).2<|.inl A;exact ⟨o,aR⟩⟩
 refine bE 5 U<|p (mX ak U)<|aY 5 U<|AY<|py U (nC (.func (.yield l) #[] #[]) U)<|py U mv<|Cv U U (A pre x _ az an) fun a6 M=> ?_;refine py U (no U)<|Ak ?_;exact pG 1 U<|cf (U)<|bO 2 U<|tn<|⟨_,ag,aa,pre++ [x],aI,((dY.fix ak (fun o aB aC=>M.1 _ o aB aC)<|(V _ _ M.2).2.trans (V _ _ an).2.symm).kq),M.2,az.1,(fun y=>by rw [Z,av,dL,iq,or_assoc]),(fun y A=>by rw [dL,iq] at A; rcases A with A | rfl; exact (fun h=>au y A<|(av y).2<|.inr h); exact aT),U,U⟩
 obtain ⟨aN,rfl⟩:=aD O;exact bO 2 U<|gv<|gi 1 U<|f0 U<|⟨pre,⟨ay,fun y=>by rw [Z y,aN]; simp⟩,am⟩
theorem zK (bk A:Nat) (es:Array MapEntry) (c:Nat) (g:List UInt8→Option Int) (E:ep es.toList c) (I:dX es.toList bP (mT g)):ru ao 53 #[.pointer (some ⟨bk,0,none⟩)] (fun x:List UInt8=> #[str x]) (mJ g) (e9 g) (gJ bk A es c):=
 fun l C W h0 J bh M=>ik (zJ bk A es c g E I l C W h0 J bh M) fun e w' ⟨v,he,L⟩=>⟨⟨v,he⟩,L⟩
theorem xF (bk M:Nat) (es:Array MapEntry) (c:Nat) (g:List UInt8→Option Int) (n:Nat) (aG:ep es.toList c) (aM:dX es.toList bP (mT g)) (aN:bV g n) (a1:n≤1048576) (w:ae) (ad:gJ bk M es c w):
 aO ao 86 (bB [.slice none 0 0,.func (.func 53) #[] #[.pointer (some ⟨bk,0,none⟩)]]) w (fun v w'=> ∃ xs,e9 g xs∧eX w' w.heap.size 9 1 (v) (xs).length ((xs).map str)∧Wk w w'):=by
 have aX:=(bu.1 ad.2).1;refine yR [] func86 U ntmps86 U ?_;refine nY<|pR<|bc 1 U<|e<|rN U U fun av aj aW J aD=> ?_;have a4:=J.size;have a2:av < aj.heap.size:=ag;have aH:gJ bk M es c aj:=⟨J.md.ak ad.1,J.md.ak ad.2⟩
 refine bg 2 U<|bQ<|nY<|nY<|pR<|sW 3 U<|bQ ?_;apply A3 (fun x:List UInt8=> #[str x]) (mJ g) (e9 g) (gJ bk M es c) (fun pre L=> ∃ v,L.heap[av]? =some (.cells [v].toArray 31 (0,0))∧eX L aj.heap.size 9 1 (v) (pre).length ((pre).map str)∧gJ bk M es c L∧aj.heap.size≤L.heap.size∧Wk w L) rfl x5 (fun _=>rfl) (zK bk M es c g aG aM) (⟨.slice none 0 0,aD,lf _ _ _ _,aH,aI _,J.md⟩) (fun _ _ ⟨_,_,_,h,_⟩=>h) (fun pre A C F ⟨v,ac,az,aw,aB,aA⟩ hm aa=>⟨v,uO ac hm aa,BA az hm aa,⟨uO aw.1 hm aa,hm.ak aw.2 fun h=>by have :=(aa M h).1; omega⟩,bK aB hm.size,BB aA hm J.md.size aa⟩);intro l x L K ab;exact sW 3 U<|tn<|ab;intro l pre x L ay am;obtain ⟨v,ah,I,ai,au,al⟩:=am;have aQ:(pre++ [x]).length≤n:=aN.le ay.1 ay.2;simp only [cn,lj] at aQ;refine bc 2 U<|p (bj U<|(dQ ah).trans U)<|p mv<|e<|mO lZ U U fun aU aR an E aC=> ?_;have aJ:Wk w aR:=Md.trans al E.md;have an:=E.md.ak ah;refine e<|ap lZ (fL I E.md) U (bK au E.md.size) U (aZ.lO aC) (U) (U) ag ag fun v11 aS ar V a3 aY=> ?_;have aK:=Wk.own aJ (fL I E.md) V J.md.size;have ax:gJ bk M es c aS:=⟨V.ak (E.md.ak ai.1) (fun h=>qg (fL I E.md) (E.md.ak ai.1) bH h),V.ak (E.md.ak ai.2) fun h=>by have :=jy (fL I E.md) h; omega⟩
 have aq:=V.ak an fun h=>qg (fL I E.md) an bH h;refine e<|l9 yA U U (AG ar) aq (by simp) fun aT Z aE=> ?_;have aL:Wk w aT:=Md.trans' aK Z fun k O h=>by omega
 exact bg 2 U<|⟨(dP.wk E.md).trans ((dP.md V<|qh<|fL I E.md).trans<|dP.md Z fun k O=>⟨_,_,_,O ▸ aq⟩),v11,aE,ed (by rw [List.map_append,cn]; exact ar) Z (fun k O h=>qg ar aq bH<|h ▸ O),⟨Z.ak ax.1 (fun h=>by have :=(bu.1 ad.1).1; omega),Z.ak ax.2 fun h=>by omega⟩,bK au (bK E.md.size<|bK V.size Z.size),aL⟩
 intro D L xs aP aV am ab;obtain ⟨v,ah,I,ai,au,al⟩:=am;have a0:=(bu.1 ab).1;refine bQ<|nY<|pR<|bc 1 U<|p (bj U<|(dQ ah).trans U)<|p aF<|bg 1 U<|bQ<|A6<|y4 U U ab ?_;exact ⟨xs,aP,AF (ed I (p3 _ _ _) fun k O h=>by obtain ⟨c,e,z,ac⟩:=qh I k O; rw [h,ab] at ac; cases ac) J.md.size,Md.trans' al (p3 _ _ _) fun k O h=>by have :=J.md.size; omega⟩
theorem yv (bk A:Nat) (es:Array MapEntry) (c:Nat) (g:List UInt8→Option Int) (n:Nat) (C:ep es.toList c) (I:dX es.toList bP (mT g)) (L:bV g n) (M:n≤1048576) (w:ae) (E:gJ bk A es c w):
 aO ao 51 (bB [.func (.func 53) #[] #[aM bk]]) w (fun v w'=> ∃ xs,e9 g xs∧eX w' w.heap.size 9 1 (v) (xs).length ((xs).map str)∧Wk w w'):=by
 exact enter func51 U ntmps51 U<|bc 8 U<|e<|aR (xF bk A es c g n C I L M w E) U fun v4 O J=>p aF<|bg 3 U<|ba U<|J
theorem Bt (bk C:Nat) (es:Array MapEntry) (c:Nat) (g:List UInt8→Option Int) (n:Nat) (O:ep es.toList c) (aa:dX es.toList bP (mT g)) (J:bV g n) (ad:n≤1048576) (w:ae) (V:gJ bk C es c w):
 aO ao 22 (bB [.func (.func 53) #[] #[aM bk]]) w (fun v w'=> ∃ xs,e9 g xs∧(xs.Pairwise fun a b=>a≤b)∧eX w' w.heap.size 9 1 (v) (xs).length ((xs).map str)∧Wk w w'):=by
 refine enter func22 U ntmps22 U<|bc 7 U<|p mv<|e<|aR (yv bk C es c g n O aa J ad w V) U ?_;rintro v5 aj ⟨xs,A,L,Z⟩;have ak:xs.length≤n:=J.le A.1 fun x ai=>(A.2 x).1 ai;refine p aF<|az 4 U<|p mv<|e<|aR (Bs w.heap.size xs.length v5 xs aj L ag) U ?_;rintro al am ⟨rfl,ah,ab⟩;refine az 4 U<|p mv<|p aF<|bg 3 U<|ba U ?_;have M:=List.mergeSort_perm xs fun x y=>decide (x≤y);refine ⟨xs.mergeSort fun x y=>decide (x≤y),⟨M.nodup_iff.2 A.1,fun y=>by rw [M.mem_iff,A.2]⟩,?_,by rw [wz]; exact ah,Wk.own Z L ab<|aI _⟩;have h:=List.pairwise_mergeSort (le:=fun x y:List UInt8=>decide (x≤y)) (fun a b c E I=> ?_) (fun a b=> ?_) xs;exact h.imp fun ac=>by simpa using ac
 simp only [decide_eq_true_iff] at E I ⊢; exact List.le_trans E I;simp only [Bool.or_eq_true,decide_eq_true_iff]; exact List.le_total a b
end Go.Hb.oP
end
section
namespace Go.Hb
open Go.Hb.fU
open Go.Hb.j6 Go.Hb.oP
theorem BQ (B aa bs:Nat) (bJ:ab) (aV:aB) (g:List UInt8→Option Int) (n:Nat) (bx:List (List UInt8→Option Int)) (cs:List ab) (w:ae) (J:du w B aa bs bJ aV g n bx cs) (bA:∀ x o,g x=some o→x.length≤64):
 aO ao 12 (bB [aM aa]) w (fun v w'=> ∃ xs,e9 g xs∧(xs.Pairwise fun a b=>a≤b)∧v=str (ei g xs)∧Wk w w'):=by
 obtain ⟨es,c,bC,a5,bf⟩:=J.dg;have bT:=J.nB;refine enter func12 U ntmps12 U<|bc 8 U<|p mv<|p (fh eV U U)<|aY 2 U<|cf (U)<|bE 4 U<|e<|oT vp fun A aN bR aj a0=> ?_;have b1:=aj.size;have bp:=J.wk aj.md;refine az 5 U<|p mv<|az 2 U<|p (bj U<|bp.obj.bF 1)<|e<|aR (zM bs aN) U ?_;rintro v12 bK ⟨bk,rfl,bS,bz,aq⟩;have bY:=aq.size;refine e<|aR (Bt bk bs es c g n a5 bf J.fY ag bK ⟨bz,aq.ak<|aj.md.ak bC⟩) U ?_;rintro b5 C ⟨xs,am,bI,M,aC⟩;obtain ⟨au,aw,rfl⟩:=qi M;have bZ:=aC.size;have bX:xs.length≤n:=J.fY.le am.1 fun x O=>(am.2 x).1 O;have aL:∀ x∈xs,x.length≤64:=fun x O=>let ⟨o,ho⟩:=(am.2 x).1 O; bA x o ho
 have aD:Wk aN C:=Md.trans aq aC;have a6:Wk w C:=Md.trans aj.md aD;have aX:Bd 69 5 C A (.slice none 0 0) []:=(Bd.new a0).md aD fun _ _ h=>h;refine aY 5 U<|lp (fun ax aP an=> ∃ (i:Nat) (I:ab),(i≤xs.length)∧(Bd 69 5 an A I<|ei g<|xs.take i)∧(Wk w an)∧(Md (fun k=>k=A) C an)∧(∀ k,BF A I k→k=A∨C.heap.size≤k)∧(Sl aP [(0,aM aa),(3,aM A),(13,.slice au xs.length aw),(14,eb (xs.length)),(15,eb i)])∧(xs.length - i=ax)) _ ⟨0,.slice none 0 0,ag,aX,a6,(Md.refl _ _),(fun k h=> .inl<|h.resolve_right fun h=>by simp [cJ] at h),U,U⟩ ?_;rintro ax aP an ⟨i,I,hi,ap,ai,L,al,bD,rfl⟩;refine fj bD ?_;have b4:=L.size;have ad:=ap;have bU:(ei g<|xs.take i).length≤65000:=by
  have aW:=uZ (g:=g) (xs:=xs.take i) fun x O=>aL x<|List.mem_of_mem_take O;rw [dW] at aW;omega
 refine iE 6 U<|cd U (fun bq=> ?_) fun bq=> ?_;refine eD 5 U ?_;have aI:=J.wk ai;have bW:(xs.getD i []).length≤64:=sU aL ag;have bV:=od<|xs.getD i [];refine bE 1 U<|p (lH pq U U ag<|aZ.ok ((jx<|ed M L fun k E h=>by have :=jy M E; omega).2)<|p5 ag)<|p (bj U<|dH.get (i:=i) (jx<|ed M L fun k E h=>by have :=jy M E; omega).2 ag)<|aY 3 U ?_;refine uM (fun aQ Z=> ∃ (ac:ab) (V:UInt8),(V=if 0 < (g<|xs.getD i []).getD 0 then 43 else 45)∧(Bd 69 5 Z A ac<|ei g (xs.take i)++ [V])∧(Wk w Z)∧(Md (fun k=>k=A) C Z)∧(∀ k,BF A ac k→k=A∨C.heap.size≤k)∧(Sl aQ [(0,aM aa),(3,aM A),(5,str (xs.getD i [])),(13,.slice au xs.length aw),(14,eb (xs.length)),(15,eb i)])) ?_ ?_;refine bc 5 U<|p (bj U<|aI.obj.bF 1)<|az 1 U<|p (nq dT mg gj (aI.dg.jv) U U (⟨_,U⟩)<|pY g<|xs.getD i [])<|aY 3 U<|cd U (fun br=> ?_) fun br=> ?_;refine bE 1 U<|e<|aR (mc A I (ei g<|xs.take i) (43) _ ad<|by first | omega | (simp only [cn,lj]; omega)) U ?_;rintro b6 bL ⟨rfl,aS,a1,aE,bt⟩;have a7:=ad.step ai aE ag;have bh:Md (fun k=>k=A) C bL:=L.trans' aE fun k E h=>(al k h).resolve_right ag;exact bg 1 U<|tn<|⟨aS,43,(by rw [if_pos ag]),a1,a7,bh,(fun k h=>(bt k h).elim (al k) fun h=> .inr ag),U⟩
 refine bE 1 U<|e<|aR (mc A I (ei g<|xs.take i) (45) _ ad<|by first | omega | (simp only [cn,lj]; omega)) U ?_;rintro b7 bM ⟨rfl,aT,a2,aF,bu⟩;have a8:=ad.step ai aF ag;have bi:Md (fun k=>k=A) C bM:=L.trans' aF fun k E h=>(al k h).resolve_right ag;exact bg 1 U<|tn<|⟨aT,45,(by rw [if_neg ag]),a2,a8,bi,(fun k h=>(bu k h).elim (al k) fun h=> .inr ag),U⟩
 rintro aQ Z ⟨ac,V,bH,a4,bd,aH,aK,bG⟩;refine fj bG<|bE 3 U<|e<|aR (Cp (xs.getD i []) Z ag) U ?_;rintro b8 ca ⟨rfl,ah⟩;have ay:=a4.md ah fun _ _ h=>h;refine e<|aR (Co A ac (ei g (xs.take i)++ [V]) (dC<|xs.getD i []) _ ay<|by rw [cn,lj]; omega) U ?_;rintro v30 bN ⟨rfl,av,aA,ar,bv⟩;have a9:=ay.step (Md.trans bd ah) ar ag;have bl:Md (fun k=>k=A) C bN:=(aH.trans' ah fun _ _ h=>h.elim).trans' ar fun k E h=>(aK k h).resolve_right ag;have b0:=ah.size;have b3:=aH.size;have b2:=ar.size;refine az 3 U<|e<|aR (mc A av (ei g (xs.take i)++ [V]++dC (xs.getD i [])) (10) _ aA<|by first | omega | (simp only [cn,lj]; omega)) U ?_;rintro v31 bP ⟨rfl,aU,a3,aG,bw⟩;have bb:=aA.step a9 aG ag;have aJ:∀ k,BF A av k→k=A∨C.heap.size≤k:=fun k h=>(bv k h).elim (aK k) fun h=> .inr ag;have bm:Md (fun k=>k=A) C bP:=bl.trans' aG fun k E h=>(aJ k h).resolve_right ag;exact az 4 U<|p (gL<|i+1)<|bg 2 U<|tn<|⟨_,ag,i+1,aU,ag,(by rw [BU ag]; unfold iL; rw [← bH,List.append_cons,← oD]; exact a3),bb,bm,(fun k h=>(bw k h).elim (aJ k) fun h=> .inr ag),U,U⟩
 refine bO 2 U<|gv<|lF 4 U<|e<|aR (uR A I (ei g<|xs.take i) _ ap ag) U ?_;rintro b9 cb ⟨rfl,bn⟩;refine bg 4 U<|ba U ?_;obtain rfl :i=xs.length:=ag;rw [wP];exact ⟨xs,am,bI,U,ap.uQ ai bn ag⟩
end Go.Hb
end
namespace Go.Hb.lr
def jq:List UInt8:= [72,66,75,49,3,0,0,4,2,99,1,2,97,2,2,116,3,1,1,0,1,0,1,0]
def jA:List Nat:= [0,2,3,4,5,6,7,9,10,11,12,13,14]
def lG (E:Nat→Nat):Hp:=⟨sH 17 482 E jA,34⟩
noncomputable def pr (E:Nat→Nat):Rs:=eC ao 17 (x2 89 256) 100000<|.cl 19 [.str [],.str [49,10,99,97,116,10],.agg [.int .i64 9,.int .i64 2,.int .i64 1048576,.int .i64 1024,.int .i64 1024]]<|lG E
noncomputable def m7 (E:Nat→Nat):Rs:=eC ao 17 (x2 89 256) 100000<|.cl 7 [.str jq]<|lG E
def qq:Rs→Bool
 | .rv (.bo [.str l,.cQ]) _=>eB l jq
 | _=>false
def qt:Rs→Bool
 | .rv (.bool true) _=>true
 | _=>false
noncomputable def qu:Rs→Bool
 | .rv (.bo [.ptr b 0,.cQ]) h=>qt<|eC ao 17 (x2 89 256) 100000<|.cl 18 [.ptr b 0,.str [99,97,116]] h
 | _=>false
theorem yZ (E:Nat→Nat):qu (m7 E)=true :=ah
end Go.Hb.lr
section
namespace Go.Hb
open Go.Hb.lr
theorem yV (E:Nat→Nat):qq (pr E)=true :=ah
end Go.Hb
end
section
namespace Go.Hb.ry
open Go.Hb.fU
open Go.Hb.lr
theorem xk:eK ao 17 (x2 89 256):=Cq rZ zA
theorem ck:dN ao:=yu ah
theorem AT {R:Rs} (h:qq R=true):∃ A,R= .rv (.bo [.str jq,.cQ]) A:=by
 unfold qq at h;split at h
 · rename_i l A;rw [kh,decide_eq_true_iff] at h;subst h;exact ⟨A,U⟩
 · cases h
theorem yW (E:Nat→Nat):∃ A,pr E= .rv (.bo [.str jq,.cQ]) A:=AT<|yV E
theorem AU {R:Rs} (h:qt R=true):∃ A,R= .rv (.bool true) A:=by
 unfold qt at h;split at h
 · exact ⟨_,U⟩
 · cases h
theorem AW {R:Rs} (h:qu R=true):∃ b A,R= .rv (.bo [.ptr b 0,.cQ]) A∧∃ C,eC ao 17 (x2 89 256) 100000 (.cl 18 [.ptr b 0,.str [99,97,116]] A)= .rv (.bool true) C:=by
 unfold qu at h;split at h
 · exact ⟨_,_,U,AU h⟩
 · cases h
theorem y3 (E:Nat→Nat):∃ b A,m7 E= .rv (.bo [.ptr b 0,.cQ]) A∧∃ C,eC ao 17 (x2 89 256) 100000 (.cl 18 [.ptr b 0,.str [99,97,116]] A)= .rv (.bool true) C:=AW<|yZ E
theorem lY:∀ g∈jA,g < 17:=bH
theorem yt (w:ae) (I:bL 482 jA w):aO ao 19 #[str [],str [49,10,99,97,116,10],.agg #[.int .i64 9,.int .i64 2,.int .i64 1048576,.int .i64 1024,.int .i64 1024]] w (fun v w'=>v= .tuple #[str jq,.nilIface]∧Wk w w'):=by
 obtain ⟨E,r,hr⟩:=HR.nT (P:=ao) (G:=17) (T:=482) lY bH I;obtain ⟨C,he⟩:=yW E;unfold pr at he;have L:=pv xk ck wide he;obtain ⟨O,J⟩:=L;refine (J C.nx r w [str [],str [49,10,99,97,116,10],.agg #[.int .i64 9,.int .i64 2,.int .i64 1048576,.int .i64 1024,.int .i64 1024]] (aI _) (hr _)<|by simp only [den,ar]).mono fun v w' M=> ?_;obtain ⟨r',A,st⟩:=M;refine ⟨?_,st.wk lY bH⟩;simp only [den,ar,aQ] at A;exact A.symm
structure iZ (B:Nat) (w:ae) (a:aB):Prop where
 ex:∃ (E:Nat→Nat) (b:Nat) (h:Hp) (r:Rn) (q:Loc),m7 E= .rv (.bo [.ptr b 0,.cQ]) h∧(∃ h2,eC ao 17 (x2 89 256) 100000 (.cl 18 [.ptr b 0,.str [99,97,116]] h)= .rv (.bool true) h2)∧r b=some q∧a=⟨q.ak,q.sh,none⟩∧(∀ k,Fr 17 r h k→B≤k)∧∀ T,HR ao 17 r T h w
theorem zY (w:ae) (L:bL 482 jA w):aO ao 7 #[str jq] w (fun v w'=> ∃ a,v= .tuple #[.pointer (some a),.nilIface]∧iZ w.heap.size w' a∧Wk w w'):=by
 obtain ⟨E,r,hr⟩:=HR.nT (P:=ao) (G:=17) (T:=482) lY bH L;obtain ⟨b,C,he,V⟩:=y3 E;have J:=he;unfold m7 at J;have aa:=pv xk ck wide J;obtain ⟨ad,M⟩:=aa;refine (M C.nx r w [str jq] (aI _) (hr _)<|by simp only [den,ar]).mono fun v w' ab=> ?_;obtain ⟨r',A,st⟩:=ab;cases hb:r' b with
 | none=>simp only [den,ar,hb] at A; cases A
 | some q=>
   simp only [den,ar,hb,aQ] at A;refine ⟨⟨q.ak,q.sh,none⟩,A.symm,⟨E,b,C,r',q,he,V,hb,U,(fun k O=>Nat.le_of_not_lt fun Z=>by
    obtain ⟨i,o,ag,g1,g2,_⟩:=st.cH 17 (aI _) k Z O;obtain ⟨hm,_⟩:=kI bH g2;have :=lY i hm;omega),fun T=>⟨st.hr.live,st.hr.inj,fun i I ac=> ?_,st.hr.dz,st.hr.base⟩⟩,st.wk lY bH⟩
   rw [st.out i I];exact (hr<|i+1).new i (bK st.nx I)<|Nat.lt_succ_self i
theorem xL {B:Nat} (w:ae) (a:aB) (I:iZ B w a):aO ao 18 #[.pointer (some a),str [99,97,116]] w (fun v w'=>v= .bool true∧Md (fun k=>B≤k) w w'):=by
 obtain ⟨E,b,h,r,q,he,M,hb,rfl,L,hr⟩:=I;obtain ⟨C,iF⟩:=M;have O:=pv xk ck wide iF;obtain ⟨V,J⟩:=O;refine (J C.nx r w [.pointer (some ⟨q.ak,q.sh,none⟩),str [99,97,116]] (aI _) (hr _)<|by simp only [den,ar,hb,Nat.add_zero]).mono fun v w' U=> ?_;obtain ⟨r',A,st⟩:=U;simp only [den,aQ] at A;exact ⟨A.symm,st.md.mono fun k _ h=>L k h⟩
end Go.Hb.ry
end
section
namespace Go.Hb.rz
open Go.Hb.fU
open Go.Hb.j6 Go.Hb.oP Go.Hb.lr Go.Hb.ry
def cR:List UInt8:= [99,97,116]
def db:List UInt8:= [100,111,103]
def dq:List UInt8:= [101,109,117]
noncomputable def gA:List UInt8→Option Int:=dn 1 (bS 1 (fun _=>none) [db,dq]) fun _=>none
noncomputable def gB:List UInt8→Option Int:=dn (-1) (bS (-1) gA [cR]) gA
theorem iC (x:List UInt8):gA x=if x=db∨x=dq then some 1 else none:=by
 unfold gA dn bS dy cZ;by_cases h:x=db∨x=dq <;> simp [h]
theorem km (x:List UInt8):gB x=if x=cR then some (-1) else gA x:=by
 unfold gB dn bS dy cZ;by_cases h:x=cR
 · have :gA x=none:=by rw [iC,h]; decide
   simp [h];rw [← h,this]; simp
 · simp [h]
theorem sR {x:List UInt8} {o:Int} (h:gA x=some o):x∈[db,dq]:=by
 rw [iC] at h;split at h
 · rename_i A; simpa using A
 · cases h
theorem sS {x:List UInt8} :(∃ o,gB x=some o)↔x∈[cR,db,dq]:=by
 rw [km];constructor
 · rintro ⟨o,h⟩;split at h
   · rename_i A; simp [A]
   · have :=sR h; simp only [cU] at this ⊢; exact .inr this
 · intro h;by_cases A:x=cR
   · rw [if_pos A]; exact ⟨_,rfl⟩
   · rw [if_neg A,iC,if_pos (by simp only [cU,rk,or_false] at h; exact h.resolve_left A)]; exact ⟨_,rfl⟩
theorem zh:∀ x o,gB x=some o→x.length≤64:=fun x o h=>by
 have :=sS.1 ⟨o,h⟩;simp only [cU,rk,or_false] at this;rcases this with rfl | rfl | rfl <;> decide
theorem zg {xs:List (List UInt8)} (h:e9 gB xs) (A:xs.Pairwise fun a b=>a≤b):xs= [cR,db,dq]:=
 y8 h ⟨bH,fun y=>sS.symm⟩ A bH
theorem zi:ei gB [cR,db,dq]= [45,99,97,116,10,43,100,111,103,10,43,101,109,117,10]:=by
 have A:gB cR=some (-1):=by rw [km,if_pos rfl]
 have C:gB db=some 1:=by rw [km,if_neg bH,iC,if_pos (.inl rfl)]
 have E:gB dq=some 1:=by rw [km,if_neg bH,iC,if_pos (.inr rfl)]
 show iL gB cR++(iL gB db++(iL gB dq++ []))=_;unfold iL;rw [A,C,E];rfl
theorem A8 {m:Nat} (h:bV (dc (fun _=>none) [db,dq]) m):m≤500:=by
 have :=h.ge (l:= [db,dq]) fun x ⟨o,A⟩=>by
  unfold dc at A;split at A
  · assumption
  · cases A
 exact bK this bH
theorem A9 {m:Nat} (h:bV (dc gA [cR]) m):m≤500:=by
 have :=h.ge (l:= [cR,db,dq]) fun x ⟨o,A⟩=>by
  unfold dc at A;split at A
  · rename_i C; simp only [cU,rk,or_false] at C ⊢; exact .inl C
  · have :=sR A; simp only [cU] at this ⊢; exact .inr this
 exact bK this bH
theorem yi:∃ x o,bS 1 (fun _=>none) [db,dq] x=some o:=⟨db,0,by unfold bS dy cZ; simp⟩
theorem yj:∃ x o,bS (-1) gA [cR] x=some o:=⟨cR,0,by
 have :gA cR=none:=by rw [iC]; decide
 unfold bS dy cZ; simp [this]⟩
theorem jc.go {B E bs:Nat} {L:ab} {M:aB} {g:List UInt8→Option Int} {O:List (List UInt8→Option Int)} {A:Int} {l:List (List UInt8)} {w w':ae} {v:ab} (h:jc B E bs L M g O A l w v w') (ai:∀ x∈l,fv x=true) (hm:∀ m,bV (dc g l) m→m≤500) (J:∃ x o,bS A g l x=some o):
 v= .int .i64 0∧∃ m C I,du w' B E bs C M (dn A (bS A g l) g) m (O++ [bS A g l]) I∧Md (ln E bs L) w w'∧(∀ k,C.ownBlock=some k→L.ownBlock=some k∨w.heap.size≤k):=by
 rcases h with ⟨⟨x,aj,V⟩,_⟩ | ⟨_,m,ah,h⟩
 · rw [ai x aj] at V; cases V
 · rcases h with ⟨h,_⟩ | ⟨_,rfl,h⟩
   · have :=hm m ah; omega
   · rcases h with ⟨h,_⟩ | ⟨C,I,_,Z,aa,ac⟩
     · obtain ⟨ks,_,ad,ag⟩:=h;have :=im ad;subst this;obtain ⟨x,o,J⟩:=J;exact absurd ((ag<|str x).1<|(lM _ _).2 ⟨x,o,U,J⟩)<|by simp
     · exact ⟨U,m,C,I,Z,aa,ac⟩
theorem iZ.wk {B:Nat} {w w':ae} {a:aB} (h:iZ B w a) (hm:Wk w w'):iZ B w' a:=by
 obtain ⟨E,b,h,r,q,he,C,hb,rfl,A,hr⟩:=h;exact ⟨E,b,h,r,q,he,C,hb,U,A,fun T=>(hr T).bW hm fun _ _ _ _ _ h=>h⟩
theorem yb (B C bs:Nat) (O:ab) (E:aB) (g:List UInt8→Option Int) (n:Nat) (M:List (List UInt8→Option Int)) (cs:List ab) (x:List UInt8) (R:ae→ab→ae→Prop) (w:ae) (J:du w B C bs O E g n M cs) (L:g x=none) (V:∀ A,Wk w A→aO ao 18 #[.pointer (some E),str x] A (R A)):
 aO ao 16 (bB [aM C,str x]) w (fun v w'=> ∃ A,Wk w A∧R A v w'):=by
 refine enter func16 U ntmps16 U<|bc 10 U<|e<|aR (pH B C bs O E g n M cs x w J) U ?_;rintro ah aa ⟨rfl,I⟩;refine aY 9 U<|cd U (fun h=>absurd h<|by rw [L]; decide) fun ad=>eD 6 U<|cd U (fun h=>absurd h<|by rw [L]; decide) fun ac=>bE 6 U<|p (nD eV U U)<|az 1 U<|gb (t:=14) U (fun ag=> ?_) fun h=>absurd ((U).symm.trans h) cz;exact az 3 U<|fq U (bj U<|(J.wk I).obj.bF 0)<|az 1 U<|eg U U U<|aR (V aa I) U fun v20 ai Z=>p (qk U)<|p aF<|bg 3 U<|ba U<|⟨_,I,Z⟩
theorem uY (ws:List (List UInt8)) (A:Option aB) (E:Nat) (w:ae) (L:dH w.heap A ws) (V:ws.length≤137438953472):
 aO ao 10 (bB [.slice A ws.length E]) w (fun v w'=>Wk w w'∧eX w' w.heap.size 9 1 v ws.length (ws.map str)):=by
 refine enter func10 U ntmps10 U<|bc 8 U<|e<|ap lZ (lf w w.heap.size 9 1) U ag U (L) (by simp) (by rw [List.all_map]; exact List.all_eq_true.2 fun _ _=>rfl) ag ag fun v4 M C J Z O=> ?_;have I:Wk w M:=J.mono fun k _ h=>absurd (show (none:Option Nat)=some k from h)<|by simp
 refine p aF<|bg 3 U<|ba U ?_;rw [Nat.zero_add,List.nil_append] at C;exact ⟨I,C⟩
theorem Cb (w:ae) (aD:bL 482 jA w):
 aO ao 6 (bB []) w (fun v w'=>v= .bool true∧Wk w w'):=by
 refine enter func6 U ntmps6 U<|bc 7 U<|p (rL (ps:= [(0,.int .i64 9),(1,.int .i64 2),(2,.int .i64 1048576),(3,.int .i64 1024),(4,.int .i64 1024)]) (L:= [.int .i64 9,.int .i64 2,.int .i64 1048576,.int .i64 1024,.int .i64 1024]) Bw U<|U)<|e<|aR (yt w aD) U ?_;rintro b0 aI ⟨rfl,ai⟩;have a4:=aD.mono ai fun _ _ h=>h;refine p mv<|az 3 U<|p aF<|az 5 U<|e<|aR (zY aI a4) U ?_;rintro bP A ⟨C,rfl,aL,ar⟩;have bO:=ai.size;have bG:=ar.size;refine p mv<|az 2 U<|p aF<|p aF<|az 4 U<|p mv<|e<|aR (Aj C A) U ?_;rintro bR bj ⟨E,bs,rfl,bf,bh,bF,a5,a6,au⟩;have aV:du bj A.heap.size E bs (.slice none 0 0) C (fun _=>none) 0 [] []:=⟨a5,a6,⟨[],wM,rfl,fun k=>⟨fun ⟨v,h⟩=>(by rw [pZ] at h; cases h),fun h=>by simp at h⟩⟩,ag,fun x h=>(by cases h),⟨bf,bh⟩,lf _ _ _ _,(fun h=>by simp [cJ] at h),trivial⟩
 have bI:=au.size;refine p aF<|az 4 U<|p mv<|p (nD eV U U)<|az 1 U<|gb (t:=20) U (fun bt=> ?_) fun h=>absurd ((U).symm.trans h) cz;refine fq U mv<|eg U U U<|xT (L:= [str db,str dq]) lZ U U U U fun ab an bp aj aM=> ?_;have bJ:=aj.size;have aW:=aV.wk aj.md;have a2:dH an.heap (some ⟨ab,0,none⟩) [db,dq]:=aZ.lO (show bz an.heap ab ([db,dq].map str) from ⟨_,aM⟩);refine eg U U U<|aR (xu A.heap.size E bs (.slice none 0 0) C (fun _=>none) 0 [] [] [db,dq] (some ⟨ab,0,none⟩) 2 an aW a2 bH bH bH) U fun bT aG a0=> ?_;obtain ⟨rfl,Z,am,ad,I,aQ,a7⟩:=jc.go a0 bH (fun m h=>A8 h) yi;have I:du aG A.heap.size E bs am C gA Z [bS 1 (fun _=>none) [db,dq]] ad:=I;have av:Wk A aG:=(au.trans aj.md).trans' aQ (fun k al h=>by
  rcases h with h | h | h;omega;omega;simp [cJ] at h)
 have bK:=av.size;have bD:ad.length=1:=(c8.len I.bk).trans rfl;have aE:∀ k,am.ownBlock=some k→A.heap.size≤k:=fun k h=>by
  rcases a7 k h with h | h;simp [cJ] at h;omega
 refine az 3 U<|gs (t:=26) U (fun bu=> ?_) fun h=>absurd U h;refine fq U mv<|eg U U U<|mO lZ U U fun ac ap bq ak aN=> ?_;have bM:=ak.size;have aX:=I.wk ak.md;have a3:dH ap.heap (some ⟨ac,0,none⟩) [cR]:=aZ.lO (show bz ap.heap ac ([cR].map str) from aN);refine eg U U U<|aR (xK A.heap.size E bs am C gA Z _ ad [cR] (some ⟨ac,0,none⟩) 1 ap aX a3 bH bH ag) U fun bU aq a1=> ?_;obtain ⟨rfl,V,O,J,M,aS,a8⟩:=jc.go a1 bH (fun m h=>A9 h) yj;have M:du aq A.heap.size E bs O C gB V ([bS 1 (fun _=>none) [db,dq]]++ [bS (-1) gA [cR]]) J:=M;have aw:Wk A aq:=(av.trans ak.md).trans' aS (fun k al h=>by
  rcases h with h | h | h;omega;omega;have :=aE k h; omega)
 have bN:=aw.size;have bE:J.length=2:=(c8.len M.bk).trans rfl;have bd:∀ k,O.ownBlock=some k→A.heap.size≤k:=fun k h=>by
  rcases a8 k h with h | h;exact aE k h;omega
 refine az 3 U<|gs (t:=32) U (fun bv=> ?_) fun h=>absurd U h;refine fq U mv<|eg U U U<|aR (yf A.heap.size E bs O C gB V _ J cR aq M<|by rw [km,if_pos U]) U ?_;rintro bV bl ⟨rfl,ah⟩;refine az 3 U<|gb (t:=37) U (fun bw=> ?_) fun h=>absurd ((U).symm.trans h) cz;refine fq U mv<|eg U U U<|aR (yh A.heap.size E bs O C gB V _ J db bl (M.wk ah)<|by rw [km,if_neg bH,iC,if_pos (.inl U)]) U ?_;rintro bW bm ⟨rfl,ax⟩;have aB:=(M.wk ah).wk ax;refine az 2 U<|gb (t:=41) U (fun bx=> ?_) fun h=>absurd ((U).symm.trans h) cz;refine fq U mv<|eg U U U<|aR (BQ A.heap.size E bs O C gB V _ J bm aB zh) U ?_;rintro bX bn ⟨xs,a9,bb,rfl,ay⟩;obtain rfl :=zg a9 bb;rw [zi] at*;have aY:=aB.wk ay;refine az 3 U<|gs (t:=46) U (fun bA=> ?_) fun h=>absurd U h;refine fq U mv<|eg U U U<|aR (B3 A.heap.size E bs O C gB (bS (-1) gA [cR]) V Z _ J bn aY (by rw [show dw (bS (-1) gA [cR]) gB=gA from rK I.nz]; exact I.fY) I.nB ag) U ?_;rintro bY aH ⟨rfl,bi,aJ,aC,aT,br⟩;rw [show dw (bS (-1) gA [cR]) gB=gA from rK I.nz] at aC;have aA:Wk A aH:=(((aw.trans ah).trans ax).trans ay).trans' aT (fun k al h=>by
  rcases h with h | h | h;omega;omega;have :=bd k h; omega)
 refine az 2 U<|gb (t:=50) U (fun bC=> ?_) fun h=>absurd ((U).symm.trans h) cz;refine fq U mv<|eg U U U<|aR (yb A.heap.size E bs bi C gA Z _ aJ cR (fun aa v w'=>v= .bool true∧Md (fun k=>aI.heap.size≤k) aa w') aH aC (by rw [iC]; decide) fun aa aK=>xL aa C<|iZ.wk (iZ.wk aL aA) aK) U ?_;rintro bZ b1 ⟨aa,aP,rfl,aU⟩;exact bg 5 U<|ba U<|⟨U,((ai.trans<|ar.trans aA).trans aP).trans' aU fun k al h=>by omega⟩
theorem Ao (ops:List gK) (a:Option aB) (cap:Nat) (w:ae) (aJ:bL 482 jA w) (ap:ls w.heap a ops) (a2:(ops.map fl).sum≤1048576):
 aO ao 4 (bB [.slice a ops.length cap]) w (fun v w'=>v= .bool true∧Wk w w'):=by
 have bi:=Au ops;refine enter func4 U ntmps4 U<|bc 8 U<|e<|aR (Cb w aJ) U ?_;rintro bu a0 ⟨rfl,aG⟩;refine az 2 U<|gb (t:=10) U (fun h=>absurd (h.symm.trans<|U) cz) fun a4=>eg U U U<|aR (Ai a0) U ?_;rintro v11 bv ⟨rfl,aC⟩;refine fq U (nD eV U U)<|aY 3 U<|cf (U)<|bE 10 U<|p mv<|aY 5 U<|lp (fun A aq Z=> ∃ (i:Nat),(i≤ops.length)∧(Wk w Z)∧(Sl aq [(3,.pointer none),(14,.slice a ops.length cap),(15,eb (ops.length)),(16,eb i)])∧(ops.length - i=A)) _ ⟨0,ag,(aG.trans aC),U,U⟩ ?_;rintro A aq Z ⟨i,hi,C,aM,rfl⟩;refine fj aM<|iE 6 U<|cd U (fun aK=> ?_) fun aK=> ?_;refine eD 5 U ?_;obtain ⟨J,L,av,I⟩:=(ap.wk C).st i ag;have bl:=As (ops:=ops) (i:=i) ag;refine bE 1 U<|p (lH yU U U ag<|(ap.wk C).ok ag)<|p (tA xw U (U)<|av)<|e<|oT Cw fun au bw a1 aI ay=>e<|BC yB U U U U ay (by simp) fun V aH aA=> ?_;have ac:bz V.heap au [oA .i64 (ops.getD i cA).1,.slice J (ops.getD i cA).2.1.length L,str (ops.getD i cA).2.2]:=⟨_,aA⟩
 have O:Wk Z V:=Md.trans' aI.md aH fun k bd h=>by omega
 have bm:=O.size;refine az 7 U<|p (bj U<|ac.bF 1)<|e<|aR (uY _ J L V (I.wk O) ag) U ?_;rintro bn aP ⟨ad,bf⟩;refine e<|aR (xr _ aP) U ?_;rintro v24 aQ ⟨rfl,ah⟩;have ai:=(O.trans ad).trans ah;have ab:=Wk.B (ad.trans ah) ac;refine az 2 U<|gs (t:=26) U (fun h=>absurd h fun h=>h U) fun a5=>az 2 U<|fq U (bj U<|ab.bF 1)<|eg U U U<|aR (uY _ J L aQ (I.wk ai) ag) U ?_;rintro v30 aS ⟨aj,bh⟩;refine eg U U U<|aR (xJ _ aS) U ?_;rintro v31 aT ⟨rfl,ak⟩;have aD:=(ai.trans aj).trans ak;have aw:=Wk.B (aj.trans ak) ab;refine az 3 U<|gs (t:=34) U (fun h=>absurd h fun h=>h U) fun a6=>az 1 U<|eg U U U<|aR (BZ aT) U ?_;rintro bp aU ⟨rfl,al⟩;refine az 2 U<|gb (t:=38) U (fun h=>absurd (h.symm.trans<|U) cz) fun a7=>az 1 U<|eg U U U<|aR (zU aU) U ?_;rintro v40 aV ⟨rfl,am⟩;refine az 3 U<|gs (t:=43) U (fun h=>absurd h fun h=>h U) fun a8=>az 1 U<|eg U U U<|aR (BP aV) U ?_;rintro bq aW ⟨rfl,an⟩;have M:=((aD.trans al).trans am).trans an;have ax:=Wk.B ((al.trans am).trans an) aw;refine aY 4 U<|cd U (fun h=>absurd h fun h=>h U) fun a3=>bE 5 U<|p (bj U<|ax.bF 1)<|aY 5 U<|lp (fun A ar aa=> ∃ (j:Nat),(j≤(ops.getD i cA).2.1.length)∧(Wk aW aa)∧(Sl ar [(3,.pointer none),(14,.slice a ops.length cap),(15,eb (ops.length)),(16,eb i),(49,.slice J (ops.getD i cA).2.1.length L),(50,eb ((ops.getD i cA).2.1.length)),(51,eb j)])∧((ops.getD i cA).2.1.length - j=A)) _ ⟨0,ag,(Md.refl _ _),U,U⟩ ?_;rintro A ar aa ⟨j,bb,E,aN,rfl⟩;refine fj aN<|iE 6 U<|cd U (fun aL=> ?_) fun aL=> ?_;refine bE 6 U<|p (lH pq U U ag<|aZ.ok (I.wk<|M.trans E)<|p5 ag)<|p (bj U<|dH.get (i:=j) (I.wk<|M.trans E) ag)<|az 7 U<|e<|aR (sX ((ops.getD i cA).2.1.getD j []) aa) U ?_;rintro br aX ⟨rfl,aE⟩;refine az 2 U<|gs (t:=59) U (fun h=>absurd h fun h=>h U) fun a9=>az 2 U<|eg U U U<|aR (yg ((ops.getD i cA).2.1.getD j []) aX) U ?_;rintro bt bx ⟨rfl,aF⟩;exact aY 3 U<|cf (U)<|bE 4 U<|p (gL<|j+1)<|bg 2 U<|tn<|⟨_,ag,j+1,ag,((E.trans aE).trans aF),U,U⟩
 exact bO 2 U<|gv<|lF 4 U<|p (gL<|i+1)<|bg 2 U<|tn<|⟨_,ag,i+1,ag,((C.trans M).trans E),U,U⟩
 exact bO 2 U<|gv<|gi 8 U<|ba U<|⟨U,C⟩
end Go.Hb.rz
end
