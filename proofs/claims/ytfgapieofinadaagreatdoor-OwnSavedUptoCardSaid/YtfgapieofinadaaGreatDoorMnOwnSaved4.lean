/-
  Walks and plain laws that the law rests on, laid together. No conditions but those that each theorem names.
-/
import Derived.Test.YtfgapieofinadaaGreatDoorMnOwnSaved3
set_option linter.unusedVariables false
set_option maxRecDepth 100000000
set_option maxHeartbeats 1000000
open Array renaming getElem?_eq_some_iff→bJ
open BitVec renaming ofInt→iw,ofInt_natCast→Dn,toNat_ofNat→Dp
open Bool renaming and_eq_true→bf,noConfusion→dd
open Classical renaming not_not→tY
open Go renaming Addr→aG,Operand→aO,Program→an,TypeId→ak,Value→ag,World→ah
open Go.Calls renaming mono→gO
open Go.IntKind renaming u64→nN,u8→px
open Go.Proofs.Tryz renaming prog→aj
open Go.Value renaming bool→bO,func→nR,int→bT,oneCell'→kH,ownBlock→cR,pointer→uf,slice→fC,tuple→mq
open Go.Value.slice renaming injEq→kI
open Go.World renaming ownsRow→dM,ownsRow_nil→iz
open List renaming append_assoc→gQ,drop_eq_nil_of_le→lB,drop_take→D6,eq_nil_of_length_eq_zero→jx,foldlM_append→Ea,foldlM_cons→yu,foldlM_nil→yv,getD_cons_zero→mr,getD_eq_getElem?_getD→cn,getElem?_append_left→eW,getElem?_append_right→eI,getElem?_drop→iX,getElem?_eq_getElem→bR,getElem?_eq_some_iff→cB,getElem?_map→eJ,getElem_take→uq,length_append→bB,length_cons→bA,length_drop→gS,length_mergeSort→Ee,length_set→yz,length_singleton→fE,length_take→bW,map_cons→dq,mem_append→fl,mem_cons→dr,mem_iff_getElem?→Em,mem_singleton→gU,nodup_nil→uw,not_mem_nil→rh,pairwise_iff_getElem→Ep,replicate→eB,sum_cons→ri,takeWhile_cons→Et,take_add_one→Ev,take_length→ux,take_of_length_le→rj,take_succ_eq_append_getElem→Ey,toArray→bc
open List.cons renaming injEq→iA
open Nat renaming add_assoc→fT,add_zero→j2,blt→av,le_refl→aT,le_trans→bS,lt_or_ge→dW,min_eq_left→uy,mod_eq_of_lt→yD,mul_comm→rp,mul_le_mul_left→EE,mul_one→pE,pow_le_pow_right→uA,pow_succ→uB,zero_add→cr
open Option renaming bind_eq_bind→yF,bind_eq_some_iff→ry,getD_some→gV,isSome_iff_exists→rz,map_eq_some_iff→fU,pure_def→yG,toList_some→EI
open Option.some renaming inj→eX,injEq→bp
open Prod renaming fst→cg
open Prod.mk renaming injEq→kK
open UInt8 renaming toNat_lt→pJ
open Go.Proofs.Tryz
open Go.RowKit Go.Proofs

namespace Go.Hb
abbrev kM:Type :=Int×List (List UInt8)×List UInt8
def dj:kM:=(0,[],[])
structure pN (h:Array Obj) (a:Option aG) (ops:List kM):Prop where
 ok:0 < ops.length→a=some ⟨bk a,fo a,none⟩
 st:∀ i,i < ops.length→∃ wa wc,(∀ j,j < 3→ay h (bk a) (fo a+i*3 +j)= [bT .i64 (ops.getD i dj).1,.slice wa (ops.getD i dj).2.1.length wc,str (ops.getD i dj).2.2][j]?)∧dN h wa (ops.getD i dj).2.1∧(ops.getD i dj).2.1.length≤wc
theorem CI {h:Array Obj} {b o:Nat} {u v x:ag} (h0:ay h b (o+0)=some u) (A:ay h b (o+1)=some v) (C:ay h b (o+2)=some x):∀ j,j < 3→ay h b (o+j)= [u,v,x][j]? :=by
 intro j E
 match j,E with
 | 0,_=>exact h0
 | 1,_=>exact A
 | 2,_=>exact C
theorem pN.wk {w w':ah} {a:Option aG} {ops:List kM} (h:pN w.heap a ops) (hm:Wk w w'):pN w'.heap a ops:=
 ⟨h.ok,fun i hi=>by
  obtain ⟨I,J,A,C,E⟩:=h.st i hi;exact ⟨I,J,CI (hm.ay<|A 0 ab) (hm.ay<|A 1 ab) (hm.ay<|A 2 ab),C.wk hm,E⟩⟩
def jo (x:kM):Nat:=1 +((x.2.1.map fun y=>y.length+1).sum+1)+(x.2.2.length+1)+1
theorem CB {X:Type} {f:X→Nat} :∀ {l:List X} {i:Nat} (d:X),i < l.length→f (l.getD i d)≤(l.map f).sum
 | x::l,0,d,_=>by simp
 | x::l,i+1,d,h=>by
   have :=CB (f:=f) (l:=l) (i:=i) d<|by simpa using h
   simp only [List.getD_cons_succ,dq,ri]; omega
theorem CC {X:Type} {f:X→Nat} (A:∀ x,1≤f x):∀ (l:List X),l.length≤(l.map f).sum
 | []=>Nat.zero_le _
 | x::l=>by
   have :=CC A l;have :=A x;simp only [bA,dq,ri]; omega
theorem M8 (l:List (List UInt8)):l.length≤(l.map fun y=>y.length+1).sum∧∀ x∈l,x.length≤(l.map fun y=>y.length+1).sum:=by
 induction l with
 | nil=>exact ⟨Nat.zero_le _,fun x A=>by simp at A⟩
 | cons y l ih=>
   simp only [bA,dq,ri];refine ⟨ab,fun x A=> ?_⟩;rcases dr.1 A with rfl | A
   · omega
   · have :=ih.2 x A; omega
theorem J9 {ops:List kM} {i:Nat} (h:i < ops.length):(ops.getD i dj).2.1.length≤(ops.map jo).sum∧(ops.getD i dj).2.2.length≤(ops.map jo).sum∧∀ x∈(ops.getD i dj).2.1,x.length≤(ops.map jo).sum:=by
 have C:=CB (f:=jo) dj h;have A:=M8 (ops.getD i dj).2.1;unfold jo at C;refine ⟨?_,?_,fun x E=> ?_⟩
 · have :=A.1;unfold jo; omega
 · unfold jo; omega
 · have :=A.2 x E;unfold jo; omega
theorem Ka (ops:List kM):ops.length≤(ops.map jo).sum:=CC (fun x=>by unfold jo; omega) ops
theorem LS {W:ah} {v:ag} {ops:List kM} (h:RS 3 (fun W cs (x:kM)=> ∃ E I J,cs= [E,I,J]∧([E]= [.int .i64 x.1]∧(Lit.int .i64 x.1).wf=true)∧RS 1 (fun _ cs (x:List UInt8)=>cs= [str x]) W [I] x.2.1∧[J]= [str x.2.2]) W [v] ops):
 ∃ a c,v= .slice a ops.length c∧pN W.heap a ops:=by
 obtain ⟨a,c,L,ac,an,Z,am,C⟩:=h;simp only [iA,and_true] at ac;refine ⟨a,c,ac,⟨fun h0=> ?_,fun i hi=> ?_⟩⟩
 · refine bo.ok Z fun e=> ?_;have hlen:=Al (L:=L) (m:=3) fun l hm=>by
    obtain ⟨i,hi⟩:=Em.1 hm;have :=(cB.1 hi).1;exact (C i l _ hi<|bR ab).1
   rw [e] at hlen;simp only [List.length_nil] at hlen;omega
 · have hm:∀ l∈L,l.length=3:=fun l hm=>by
    obtain ⟨i,hi⟩:=Em.1 hm;have :=(cB.1 hi).1;exact (C i l _ hi<|bR ab).1
   have V:L[i]? =some (L[i]'ab):=bR ab;have al:ops[i]? =some (ops.getD i dj):=by rw [cn,bR hi]; rfl
   obtain ⟨_,E,I,J,e,⟨h0,_⟩,h1,h2⟩:=C i _ _ V al;obtain ⟨M,O,ad,ai,aj⟩:=Ml h1;simp only [iA,and_true] at h0 h2;rw [h0,ad,h2] at e;have ak:∀ c,c < 3→ay W.heap (bk a) (fo a+i*3 +c)= [bT .i64 (ops.getD i dj).1,.slice M (ops.getD i dj).2.1.length O,str (ops.getD i dj).2.2][c]? :=fun c aa=>by
    have A:=Ak hm V aa;rw [e] at A;have ae:∃ u,[bT .i64 (ops.getD i dj).1,.slice M (ops.getD i dj).2.1.length O,str (ops.getD i dj).2.2][c]? =some u:=by
     rw [bR (by simpa using aa)]; exact ⟨_,rfl⟩
    obtain ⟨u,hu⟩:=ae;rw [hu] at A ⊢;have U:=Z.uM A;rw [pE,← fT] at U;exact U
   exact ⟨M,O,ak,ai,aj⟩
end Go.Hb
section
namespace Go.Hb
abbrev Tl:=List<|List UInt8
def vJ:Tl→List (UInt8×Tl)
 | []=> []
 | []::ts=>vJ ts
 | (c::t)::ts=>match vJ ts with
   | []=> [(c,[t])]
   | (c',g)::r=>if c=c' then (c,t::g)::r else (c,[t])::(c',g)::r
def IP (A:Tl):Bool:=match A with | []::_=>true | _=>false
def G6 (A:Tl):Tl:=match A with | []::r=>r | r=>r
structure VS where
 known:List Tl
 ky:List (Bool×List (UInt8×Nat))
def VS.add (s:VS) (A:Tl):VS:=⟨s.known++ [A],s.ky++ [(false,[])]⟩
end Go.Hb
namespace Go.Hb
end Go.Hb
namespace Go.Hb
abbrev EN:=Bool×List (UInt8×Nat)
end Go.Hb
namespace Go.Hb
end Go.Hb
namespace Go.Hb
def Hl (A:List Tl) (p:UInt8×Tl):UInt8×Nat:=(p.1,A.idxOf p.2+1)
def enc (A:List Tl) (L:Tl):EN:=(IP L,(vJ<|G6 L).map (Hl A))
end Go.Hb
namespace Go.Hb
def nm (A:List Tl) (i:Nat):Tl:=A.getD (i - 1) []
end Go.Hb
namespace Go.Hb
end Go.Hb
namespace Go.Hb
end Go.Hb
end
section
namespace Go.Hb
end Go.Hb
namespace Go.Hb
section
variable {P:an} {N:Fm} {σ:Nat→ag} {w:ah} {dst:Option Nat} {ty:ak} {pos :String} {af:Array Edge} {g:Option (Nat×Bool)} {x y z:aO}
end
end Go.Hb
namespace Go.Hb
abbrev bC:Type :=Bool×List (UInt8×Int)
def dI:bC:=(false,[])
abbrev bj (a:List bC) (n:Nat):bC:=a.getD n dI
def iE (l:List (UInt8×Int)):Prop :=l.Pairwise fun x y=>x.1.toNat < y.1.toNat
instance (l:List (UInt8×Int)):Decidable (iE l):=by unfold iE; infer_instance
def jl (a:List bC) (p:bC):Bool:=decide (p.2≠[]) || p.1 || decide (a.length=1)
def vs (a:List bC):Nat→Nat×List Nat→Int→Option (Nat×List Nat)
 | 0,_,_=>none
 | f+1,(nx,mk),n=>
   if n≠nx then (if 0≤n∧n < nx∧mk.getD n.toNat 0=2 then some (nx,mk) else none)
   else if a.length≤nx then none
   else if iE (bj a nx).2∧jl a (bj a nx)=true then
    ((bj a nx).2.foldlM (fun s e=>vs a f s e.2) (nx+1,mk.set nx 1)).map fun s=>(s.1,s.2.set nx 2)
   else none
def shaped (a:List bC):Bool:=decide (0 < a.length) && decide (a.length≤1048576) && match vs a (a.length+1) (0,eB a.length 0) 0 with
 | some s=>decide (s.1=a.length)
 | none=>false
section
variable {a:List bC}
theorem MX:∀ (f:Nat) {nx A:Nat} {mk mk':List Nat} {n:Int},vs a f (nx,mk) n=some (A,mk')→nx≤A∧mk'.length=mk.length:=by
 intro f
 induction f with
 | zero=>intro nx A mk mk' n h; cases h
 | succ f ih=>
   intro nx A mk mk' n h;have C:∀ (es:List (UInt8×Int)) (nx A:Nat) (mk mk':List Nat),es.foldlM (fun s e=>vs a f s e.2) (nx,mk)=some (A,mk')→nx≤A∧mk'.length=mk.length:=by
    intro es
    induction es with
    | nil=>intro nx A mk mk' h; simp only [yv,yG,bp,kK] at h; obtain ⟨rfl,rfl⟩:=h; exact ⟨aT _,rfl⟩
    | cons e es E=>
      intro nx A mk mk' h;simp only [yu,yF,ry] at h;obtain ⟨⟨I,m1⟩,h1,h2⟩:=h;have g1:=ih h1;have g2:=E _ _ _ _ h2;exact ⟨ab,ab⟩
   rw [vs] at h;split at h
   · split at h
     · cases h; exact ⟨aT _,rfl⟩
     · cases h
   · split at h
     · cases h
     · split at h
       · simp only [fU] at h;obtain ⟨⟨I,m1⟩,h1,h2⟩:=h;simp only [kK] at h2;obtain ⟨rfl,rfl⟩:=h2;have :=C _ _ _ _ _ h1;simp only [yz] at this ⊢;exact ⟨ab,this.2⟩
       · cases h
def lg (a:List bC):Nat→Nat→List (List UInt8)
 | 0,_=> []
 | f+1,n=>(if (bj a n).1=true then [[]] else [])++(bj a n).2.flatMap fun e=>(lg a f e.2.toNat).map (e.1:: ·)
def Nj (a:List bC) (n:Nat):List (List UInt8):=lg a a.length n
variable {l:List Nat}
theorem xW {f nx:Nat} {mk:List Nat} {n:Int} (h:n≠nx):vs a (f+1) (nx,mk) n=if 0≤n∧n < nx∧mk.getD n.toNat 0=2 then some (nx,mk) else none:=by rw [vs,if_pos h]
theorem MZ {f nx:Nat} {mk:List Nat} {n:Int} (h:n=nx) (A:a.length≤nx):vs a (f+1) (nx,mk) n=none:=by rw [vs,if_neg (fun e=>e h),if_pos A]
theorem xV {f nx:Nat} {mk:List Nat} {n:Int} (h:n=nx) (A:nx < a.length) (C:¬(iE (bj a nx).2∧jl a (bj a nx)=true)):vs a (f+1) (nx,mk) n=none:=by grind [vs]
theorem C4 {f nx:Nat} {mk:List Nat} {n:Int} (h:n=nx) (A:nx < a.length) (C:iE (bj a nx).2) (E:jl a (bj a nx)=true):
 vs a (f+1) (nx,mk) n=((bj a nx).2.foldlM (fun s e=>vs a f s e.2) (nx+1,mk.set nx 1)).map fun s=>(s.1,s.2.set nx 2):=by grind [vs]
theorem M0:∀ (f:Nat) {nx A:Nat} {mk mk':List Nat} {n:Int},vs a f (nx,mk) n=some (A,mk')→nx≤a.length→A≤a.length:=by
 intro f
 induction f with
 | zero=>intro nx A mk mk' n h; cases h
 | succ f ih=>
   intro nx A mk mk' n h hle;have C:∀ (es:List (UInt8×Int)) (nx A:Nat) (mk mk':List Nat),es.foldlM (fun s e=>vs a f s e.2) (nx,mk)=some (A,mk')→nx≤a.length→A≤a.length:=by
    intro es
    induction es with
    | nil=>intro nx A mk mk' h; simp only [yv,yG,bp,kK] at h; obtain ⟨rfl,rfl⟩:=h; exact id
    | cons e es E=>
      intro nx A mk mk' h hle;simp only [yu,yF,ry] at h;obtain ⟨⟨I,m1⟩,h1,h2⟩:=h;exact E _ _ _ _ h2<|ih h1 hle
   rw [vs] at h;split at h
   · split at h
     · cases h; exact hle
     · cases h
   · split at h
     · cases h
     · split at h
       · simp only [fU] at h;obtain ⟨⟨I,m1⟩,h1,h2⟩:=h;simp only [kK] at h2;obtain ⟨rfl,rfl⟩:=h2;exact C _ _ _ _ _ h1 ab
       · cases h
def gM (a:List bC) (f nx:Nat) (mk:List Nat) (es:List (UInt8×Int)):Option (Nat×List Nat):=es.foldlM (fun s e=>vs a f s e.2) (nx,mk)
theorem M2 {f nx:Nat} {mk:List Nat} {es:List (UInt8×Int)} {e:UInt8×Int} {s:Nat×List Nat} (h:gM a f nx mk es=some s):gM a f nx mk (es++ [e])=vs a f s e.2:=by
 unfold gM at*;rw [Ea,h];simp
theorem M1 {f nx:Nat} {mk:List Nat} {es es':List (UInt8×Int)} (h:gM a f nx mk es=none):gM a f nx mk (es++es')=none:=by grind [gM,Ea]
theorem C5 {f nx:Nat} {mk:List Nat} {es:List (UInt8×Int)} {s:Nat×List Nat} (h:gM a f nx mk es=some s) (hle:nx≤a.length):nx≤s.1∧s.2.length=mk.length∧s.1≤a.length:=by
 unfold gM at h
 induction es generalizing nx mk with
 | nil=>simp only [yv,yG,bp] at h; subst h; exact ⟨aT _,rfl,hle⟩
 | cons e es ih=>
   simp only [yu,yF,ry] at h;obtain ⟨⟨A,m1⟩,h1,h2⟩:=h;have g1:=MX f h1;have g2:=ih h2<|M0 f h1 hle;exact ⟨ab,ab,g2.2.2⟩
theorem BU {es:List (UInt8×Int)} {k:Nat} {e:UInt8×Int} (h:iE (es.take k)) (he:es[k]? =some e) (hp:∀ p,0 < k→es[k - 1]? =some p→p.1.toNat < e.1.toNat):iE (es.take<|k+1):=by
 obtain ⟨L,rfl⟩:=cB.1 he;rw [Ey L];unfold iE at*;refine List.pairwise_append.2 ⟨h,by simp,fun x M y C=> ?_⟩;rw [gU] at C; subst C;obtain ⟨j,J,rfl⟩:=List.mem_iff_getElem.1 M;simp only [bW] at J;have E:=hp es[k - 1] ab<|bR ab;rcases dW j (k - 1) with A | A
 · have I:=Ep.1 h j (k - 1) (by rw [bW]; omega) (by rw [bW]; omega) A;rw [uq,uq] at I;rw [uq]; omega
 · have :j=k - 1:=ab;subst this;rw [uq]; exact E
theorem J1 {es:List (UInt8×Int)} {k:Nat} {e p:UInt8×Int} (h0:0 < k) (he:es[k]? =some e) (hp:es[k - 1]? =some p) (h:e.1.toNat≤p.1.toNat):¬iE es:=fun hr=>by
 obtain ⟨A,rfl⟩:=cB.1 he;obtain ⟨C,rfl⟩:=cB.1 hp;have :=Ep.1 hr (k - 1) k C A ab;omega
theorem MW {f nx:Nat} {mk:List Nat} {s:Nat×List Nat} (A:nx < a.length) (hr:iE (bj a nx).2) (C:gM a f (nx+1) (mk.set nx 1) (bj a nx).2=some s):vs a (f+1) (nx,mk) (nx:Int)=if jl a (bj a nx)=true then some (s.1,s.2.set nx 2) else none:=by
 by_cases h:jl a (bj a nx)=true
 · rw [C4 rfl A hr h,if_pos h];unfold gM at C;rw [C]; rfl
 · rw [xV rfl A (fun e=>h e.2),if_neg h]
theorem C3 {f nx k:Nat} {mk:List Nat} (C:nx < a.length) (h:gM a f (nx+1) (mk.set nx 1) ((bj a nx).2.take k)=none):vs a (f+1) (nx,mk) (nx:Int)=none:=by
 by_cases A:iE (bj a nx).2∧jl a (bj a nx)=true
 · rw [C4 rfl C A.1 A.2];have :=M1 (es':=(bj a nx).2.drop k) h;rw [List.take_append_drop] at this;unfold gM at this;rw [this]; rfl
 · exact xV U C A
theorem MY {f nx:Nat} {mk:List Nat} (A:nx < a.length) (h:¬iE (bj a nx).2):vs a (f+1) (nx,mk) (nx:Int)=none:=xV rfl A (fun e=>h e.1)
theorem tI {f nx k:Nat} {mk:List Nat} {es:List (UInt8×Int)} {e:UInt8×Int} {s:Nat×List Nat} (h:gM a f nx mk (es.take k)=some s) (he:es[k]? =some e):gM a f nx mk (es.take<|k+1)=vs a f s e.2:=by
 obtain ⟨A,rfl⟩:=cB.1 he;rw [Ey A];exact M2 h
theorem Jj {q:bC} (h:0 < q.2.length):jl a q=true :=by grind [jl]
theorem Ji {q:bC} (h:q.1=true):jl a q=true :=by
 unfold jl; rw [h,Bool.or_true,Bool.true_or]
theorem Jh {q:bC} (h:¬0 < q.2.length) (A:q.1=false):jl a q=decide (a.length=1):=by grind [jl,jx]
theorem Ci (h:¬(0 < a.length∧a.length≤1048576)):shaped a=false :=by grind [shaped]
theorem LK (h:vs a (a.length+1) (0,eB a.length 0) 0=none):shaped a=false :=by
 unfold shaped; rw [h,Bool.and_false]
theorem Cj {s:Nat×List Nat} (A:0 < a.length) (C:a.length≤1048576) (h:vs a (a.length+1) (0,eB a.length 0) 0=some s):shaped a=decide (s.1=a.length):=by grind [shaped]
def eO (a:List bC) (i:Nat):Nat:=min (Nj a i).length 1099511627777
end
end Go.Hb
namespace Go.Hb
structure lK (h:Array Obj) (ea:Option aG) (es:List (UInt8×Int)):Prop where
 ok:0 < es.length→ea=some ⟨bk ea,fo ea,none⟩
 b:∀ k e,es[k]? =some e→ay h (bk ea) (fo ea+k*2 +0)=some (.int .u8 e.1.toNat)
 to:∀ k e,es[k]? =some e→ay h (bk ea) (fo ea+k*2 +1)=some (.int .i64 e.2)
theorem lK.wk {w w':ah} {A:Option aG} {es:List (UInt8×Int)} (h:lK w.heap A es) (hm:Wk w w'):lK w'.heap A es:=⟨h.ok,fun k e he=>hm.ay (h.b k e he),fun k e he=>hm.ay<|h.to k e he⟩
theorem xJ {h:Array Obj} {b o:Nat} {u v:ag} (h0:ay h b (o+0)=some u) (A:ay h b (o+1)=some v):∀ j,j < 2→ay h b (o+j)= [u,v][j]? :=by grind
theorem lK.two {h:Array Obj} {A:Option aG} {es:List (UInt8×Int)} (C:lK h A es) {k:Nat} {e:UInt8×Int} (he:es[k]? =some e):∀ j,j < 2→ay h (bk A) (fo A+k*2 +j)= [bT .u8 e.1.toNat,.int .i64 e.2][j]? :=xJ (C.b k e he)<|C.to k e he
structure gC (h:Array Obj) (aa:Option aG) (a:List bC):Prop where
 ok:0 < a.length→aa=some ⟨bk aa,fo aa,none⟩
 st:∀ i,i < a.length→∃ ea ec,ay h (bk aa) (fo aa+i*2 +0)=some (.bool (bj a i).1)∧ay h (bk aa) (fo aa+i*2 +1)=some (.slice ea (bj a i).2.length ec)∧lK h ea (bj a i).2
theorem gC.wk {w w':ah} {A:Option aG} {a:List bC} (h:gC w.heap A a) (hm:Wk w w'):gC w'.heap A a:=
 ⟨h.ok,fun i hi=>by
  obtain ⟨C,E,I,J,L⟩:=h.st i hi;exact ⟨C,E,hm.ay I,hm.ay J,L.wk hm⟩⟩
theorem gC.two {h:Array Obj} {C:Option aG} {a:List bC} (M:gC h C a) {i:Nat} (hi:i < a.length):∃ A E,(∀ j,j < 2→ay h (bk C) (fo C+i*2 +j)= [bO (bj a i).1,.slice A (bj a i).2.length E][j]?)∧lK h A (bj a i).2:=by
 obtain ⟨A,E,I,J,L⟩:=M.st i hi;exact ⟨A,E,xJ I J,L⟩
theorem Kq {w:ah} {B e size n b:Nat} {xs:List ag} (h:w.ownsRow B e size (.slice (some ⟨b,0,none⟩) n n) n xs):aI w.heap b xs:=by
 rcases h.2 with ⟨hn,_⟩ | ⟨g,cap,cur,C,_,E,_,_,I,A⟩
 · cases hn
 · simp only [kI,bp,Addr.mk.injEq,and_true,true_and] at C;obtain ⟨rfl,rfl⟩:=C;rw [rj (by rw [Array.length_toList,I]; exact aT _)] at A;exact ⟨_,by rw [← A]; simpa using E⟩
theorem tE {w w':ah} {b o:Nat} {u v:ag} (hm:Wk w w') (h:∀ j,j < 2→ay w.heap b (o+j)= [u,v][j]?):∀ j,j < 2→ay w'.heap b (o+j)= [u,v][j]? :=xJ (hm.ay<|h 0 ab)<|hm.ay<|h 1 ab
theorem Md.oh {F:Nat→Prop} {w w':ah} (h:Md F w.drew w'):Md F w w':=⟨h.os,h.output,h.size,h.cP⟩
def jE (n:Nat):ag:= .int .u8 n
theorem Fv {h:Array Obj} {b:Nat} {f:Nat→ag} {mk:List Nat} {i:Nat} (hb:aI h b (mk.map f)) (hi:i < mk.length):ay h b (0 +i*1)=some (f<|mk.getD i 0):=by
 rw [pE,cr,hb.ay,eJ,cn,bR hi]; rfl
end Go.Hb
namespace Go.Hb
abbrev Nr:Type :=List UInt8×Nat
end Go.Hb
namespace Go.Hb
section
variable {P:an} {N:Fm} {σ:Nat→ag} {w:ah} {ty:ak} {pos :String} {af:Array Edge} {g:Option (Nat×Bool)} {x y:aO} {K:(Nat→ag)→ah→Prop}
end
end Go.Hb
namespace Go.Hb
def Ca (l:List Nr) (c d:Nat):List Nr:=(l.drop c).take<|d - c
end Go.Hb
namespace Go.Hb
end Go.Hb
end
section
namespace Go.Hb
def fw:List UInt8→Nat
 | []=>0
 | b::l=>b.toNat % 128 +128 *fw l
theorem vV:∀ (l m:List UInt8),fw (l++m)=fw l+128 ^ l.length*fw m
 | [],m=>by simp [fw]
 | b::l,m=>by
   rw [List.cons_append,fw,fw,vV l m,bA,uB,Nat.mul_add,← Nat.mul_assoc,rp 128 (128 ^ l.length)]; omega
theorem sA:∀ (l:List UInt8),fw l < 128 ^ l.length
 | []=>by simp [fw]
 | b::l=>by
   have :=sA l;rw [fw,bA,uB]; omega
def fL (l:List UInt8):Nat:=((l.take 10).takeWhile fun b=>decide (128≤b.toNat)).length
theorem CN {f:UInt8→Bool} :∀ {l:List UInt8} {k:Nat},(∀ j,j < k→j < l.length∧f (l.getD j 0)=true)→(l.length≤k∨f (l.getD k 0)=false)→(l.takeWhile f).length=k
 | [],k,h,_=>by
   cases k with
   | zero=>rfl
   | succ k=>have :=(h 0 ab).1; simp at this
 | b::l,0,_,A=>by
   rcases A with A | A
   · simp at A
   · simp only [mr] at A;rw [Et,A]; rfl
 | b::l,k+1,h1,A=>by
   have h0:=(h1 0 ab).2;simp only [mr] at h0;rw [Et,h0,if_pos rfl,bA,CN (k:=k) (fun j C=>by have :=h1 (j+1) ab; simpa using this) (by simpa using A)]
theorem CG {l:List UInt8} {n j:Nat} (h:j < n):(l.take n).getD j 0=l.getD j 0:=by
 rw [cn,List.getElem?_take_of_lt h,cn]
theorem zN {l:List UInt8} {n j:Nat} :(l.drop n).getD j 0=l.getD (n+j) 0:=by
 rw [cn,iX,cn]
theorem kZ {s:List UInt8} {a k:Nat} (L:k≤10) (h:∀ j,j < k→a+j < s.length∧128≤(s.getD (a+j) 0).toNat) (A:k=10∨s.length≤a+k∨(s.getD (a+k) 0).toNat < 128):fL (s.drop a)=k:=by
 unfold fL;refine CN (fun j E=> ?_) ?_
 · obtain ⟨I,C⟩:=h j E;refine ⟨by rw [bW,gS]; omega,?_⟩;rw [CG ab,zN];exact decide_eq_true C
 · rcases A with A | A | A
   · exact .inl<|by rw [bW]; omega
   · exact .inl<|by rw [bW,gS]; omega
   · by_cases J:k=10
     · exact .inl<|by rw [bW]; omega
     · refine .inr ?_;rw [CG ab,zN];exact decide_eq_false ab
def bE (s:List UInt8) (a:Nat):Except Nat (Nat×Nat):=
 if fL (s.drop a)=10 then .error 61 else if s.length≤a+fL (s.drop a) then .error 60
 else if (fL (s.drop a)=9∧1 < (s.getD (a+fL (s.drop a)) 0).toNat)∨(0 < fL (s.drop a)∧(s.getD (a+fL (s.drop a)) 0).toNat=0) then .error 61
 else .ok (fw ((s.drop a).take<|fL (s.drop a)+1),a+fL (s.drop a)+1)
section
variable {s:List UInt8} {a k n p:Nat}
theorem K9 (h:fL (s.drop a)=10):bE s a= .error 61:=by unfold bE; rw [if_pos h]
theorem B3 (h:fL (s.drop a)=k) (A:k≠10) (C:s.length≤a+k):bE s a= .error 60:=by unfold bE; rw [h,if_neg A,if_pos C]
theorem xf (h:fL (s.drop a)=k) (C:k≠10) (E:a+k < s.length) (A:(k=9∧1 < (s.getD (a+k) 0).toNat)∨(0 < k∧(s.getD (a+k) 0).toNat=0)):bE s a= .error 61:=by
 unfold bE; rw [h,if_neg C,if_neg ab,if_pos A]
theorem xg (h:fL (s.drop a)=k) (C:k≠10) (E:a+k < s.length) (A:¬((k=9∧1 < (s.getD (a+k) 0).toNat)∨(0 < k∧(s.getD (a+k) 0).toNat=0))):bE s a= .ok (fw ((s.drop a).take<|k+1),a+k+1):=by
 unfold bE; rw [h,if_neg C,if_neg ab,if_neg A]
theorem kr (h:bE s a= .ok (n,p)):a < p∧p≤s.length∧n < 18446744073709551616:=by
 unfold bE at h;split at h
 · cases h
 · split at h
   · cases h
   · split at h
     · cases h
     · rename_i M O U;simp only [Except.ok.injEq,kK] at h;obtain ⟨rfl,rfl⟩:=h;refine ⟨ab,ab,?_⟩;have aa:fL (s.drop a)≤10:=by
        unfold fL;exact bS (List.takeWhile_sublist _).length_le<|by rw [bW]; omega
       generalize Z:fL (s.drop a)=k at*;have L:=sA<|(s.drop a).take<|k+1;have hlen:((s.drop a).take<|k+1).length=k+1:=by rw [bW,gS]; omega
       by_cases J:k=9
       · subst J;rw [show (9:Nat)+1=10 from rfl,Ev,vV];have A:=sA<|(s.drop a).take 9;have E:((s.drop a).take 9).length=9:=by rw [bW,gS]; omega
         rw [E] at A ⊢;have I:(s.drop a)[9]? =some (s.getD (a+9) 0):=by
          rw [iX,cn,bR ab]; rfl
         rw [I];simp only [EI,fw];have V:(s.getD (a+9) 0).toNat≤1:=ab;have C:(128:Nat) ^ 9=9223372036854775808:=aW;rw [C] at A ⊢;omega
       · rw [hlen] at L;have :(128:Nat) ^ (k+1)≤128 ^ 9:=uA aW ab;have C:(128:Nat) ^ 9=9223372036854775808:=aW;omega
end
def cU {α:Type} (f:Nat→Except Nat (α×Nat)):Nat→Nat→Except Nat (List α×Nat)
 | 0,a=> .ok ([],a)
 | k+1,a=>match cU f k a with
   | .error e=> .error e
   | .ok (l,p)=>match f p with
     | .error e=> .error e
     | .ok (x,q)=> .ok (l++ [x],q)
section
variable {α:Type} {f:Nat→Except Nat (α×Nat)} {k n a p q e:Nat} {l:List α} {x:α}
theorem sr (h:cU f k a= .ok (l,p)) (A:f p= .ok (x,q)):cU f (k+1) a= .ok (l++ [x],q):=by rw [cU,h]; simp only [A]
theorem mY (h:cU f k a= .ok (l,p)) (C:f p= .error e) (hn:k < n):cU f n a= .error e:=by
 have A:cU f (k+1) a= .error e:=by rw [cU,h]; simp only [C]
 obtain ⟨d,rfl⟩:∃ d,n=k+1 +d:=⟨n - (k+1),ab⟩
 clear hn
 induction d with
 | zero=>exact A
 | succ d ih=>rw [← fT,cU,ih]
theorem jO:∀ {k:Nat} {l:List α} {p:Nat},cU f k a= .ok (l,p)→l.length=k
 | 0,l,p,h=>by cases h; rfl
 | k+1,l,p,h=>by
   rw [cU] at h;split at h
   · cases h
   · rename_i C p2 A;split at h
     · cases h
     · cases h;rw [bB,jO A]; rfl
theorem oA {R:Nat→Prop} {S:α→Prop} (E:∀ p x q,R p→f p= .ok (x,q)→R q∧S x):∀ {k:Nat} {l:List α} {p:Nat},R a→cU f k a= .ok (l,p)→R p∧∀ x∈l,S x
 | 0,l,p,ha,h=>by cases h; exact ⟨ha,fun x C=>by simp at C⟩
 | k+1,l,p,ha,h=>by
   rw [cU] at h;split at h
   · cases h
   · rename_i U p2 I;obtain ⟨J,L⟩:=oA E ha I;split at h
     · cases h
     · rename_i x q C;cases h;obtain ⟨M,O⟩:=E _ _ _ J C;refine ⟨M,fun y A=> ?_⟩;rcases fl.1 A with A | A
       · exact L y A
       · rw [gU.1 A]; exact O
end
def dy (s:List UInt8) (a:Nat):Except Nat (List UInt8×Nat):=match bE s a with
 | .error e=> .error e
 | .ok (n,p)=>if 255 < n then .error 62 else if s.length < p+n then .error 60 else .ok ((s.drop p).take n,p+n)
def iq (s:List UInt8) (a:Nat):Except Nat ((List UInt8×List UInt8)×Nat):=match dy s a with
 | .error e=> .error e
 | .ok (f,p)=>match dy s p with
   | .error e=> .error e
   | .ok (t,q)=> .ok ((f,t),q)
def fJ (s:List UInt8) (n a:Nat):Except Nat ((UInt8×Int)×Nat):=if s.length≤a then .error 60 else match bE s (a+1) with
 | .error e=> .error e
 | .ok (t,p)=>if n≤t then .error 190 else .ok ((s.getD a 0,(t:Int)),p)
def fQ (s:List UInt8) (n a:Nat):Except Nat (bC×Nat):=match bE s a with
 | .error e=> .error e
 | .ok (v,p)=>if 256 < v / 2 then .error 190 else match cU (fJ s n) (v / 2) p with
   | .error e=> .error e
   | .ok (es,q)=> .ok ((decide (v % 2=1),es),q)
def ez (s:List UInt8) (a:Nat):Except Nat (List bC×Nat):=match bE s a with
 | .error e=> .error e
 | .ok (n,p)=>if n=0∨1048576 < n then .error 190 else match cU (fQ s n) n p with
   | .error e=> .error e
   | .ok (l,q)=>if shaped l=true then .ok (l,q) else .error 190
def iV (r:List UInt8×List UInt8):Bool:=decide (r.1≠[]) && (jb r.1 && decide (r.1.length≤32)) && (jb r.2 && decide (r.2.length≤32))
def gK (n:Nat) (t:List UInt8) (rs:List (List UInt8×List UInt8)):Bool:=decide (1≤n∧n≤64∧rs.length≤256) && (decide (t= []) || decide (letE t=(t,0))) && rs.all iV
structure eY where
 least:Nat
 tr:List UInt8
 qE:List (List UInt8×List UInt8)
 jV:List (List bC)
def gd:List UInt8:= [72,66,75,49]
def jc (s:List UInt8) (n:Nat) (t:List UInt8) (rs:List (List UInt8×List UInt8)) (a:Nat):Except Nat eY:=
 if gK n t rs=true then match cU (ez s) 4 a with
  | .error e=> .error e
  | .ok (l,p)=>if p=s.length then .ok ⟨n,t,rs,l⟩ else .error 202
 else .error 201
def dx (s:List UInt8):Except Nat eY:=
 if s.take 4=gd then match bE s 4 with
  | .error e=> .error e
  | .ok (n,p1)=>match dy s p1 with
    | .error e=> .error e
    | .ok (t,p2)=>match bE s p2 with
      | .error e=> .error e
      | .ok (m,p3)=>if 256 < m then .error 201 else match cU (iq s) m p3 with
        | .error e=> .error e
        | .ok (rs,p4)=>jc s (if n≤64 then n else 0) t rs p4
 else .error 200
section
variable {s:List UInt8} {a n p:Nat}
theorem ou {f:List UInt8} (h:dy s a= .ok (f,p)):a < p∧p≤s.length∧f.length≤255:=by
 unfold dy at h;split at h
 · cases h
 · rename_i n q A;obtain ⟨C,E,_⟩:=kr A;split at h
   · cases h
   · split at h
     · cases h
     · cases h;exact ⟨ab,ab,by rw [bW]; omega⟩
theorem K0 {r:List UInt8×List UInt8} (h:iq s a= .ok (r,p)):a < p∧p≤s.length∧r.1.length≤255∧r.2.length≤255:=by
 unfold iq at h;split at h
 · cases h
 · rename_i f q I;obtain ⟨L,M,A⟩:=ou I;split at h
   · cases h
   · rename_i t U J;obtain ⟨O,C,E⟩:=ou J;cases h;exact ⟨ab,C,A,E⟩
theorem Hj {e:UInt8×Int} (h:fJ s n a= .ok (e,p)):a < p∧p≤s.length∧0≤e.2∧e.2 < n:=by
 unfold fJ at h;split at h
 · cases h
 · split at h
   · cases h
   · rename_i t q C;obtain ⟨E,A,_⟩:=kr C;split at h
     · cases h
     · cases h;exact ⟨ab,A,by show (0:Int)≤(t:Int); omega,by show (t:Int) < n; omega⟩
theorem xC {x:bC} (h:fQ s n a= .ok (x,p)):a < p∧p≤s.length∧x.2.length≤256∧∀ e∈x.2,0≤e.2∧e.2 < n:=by
 unfold fQ at h;split at h
 · cases h
 · rename_i v q I;obtain ⟨L,C,_⟩:=kr I;split at h
   · cases h
   · split at h
     · cases h
     · rename_i es U A;have O:=jO A;obtain ⟨⟨M,E⟩,h5⟩:=oA (R:=fun p=>q≤p∧p≤s.length) (S:=fun e:UInt8×Int=>0≤e.2∧e.2 < n) (fun p x q' hr J=>by
        obtain ⟨g1,g2,g3⟩:=Hj J;exact ⟨⟨ab,g2⟩,g3⟩) ⟨aT _,C⟩ A
       cases h;exact ⟨ab,E,by show es.length≤256; omega,h5⟩
theorem B9 {l:List bC} (h:ez s a= .ok (l,p)):a < p∧p≤s.length∧shaped l=true∧l.length≤1048576∧∀ x∈l,x.2.length≤256∧∀ e∈x.2,0≤e.2∧e.2 < l.length:=by
 unfold ez at h;split at h
 · cases h
 · rename_i n q J;obtain ⟨O,C,_⟩:=kr J;split at h
   · cases h
   · split at h
     · cases h
     · rename_i V Z A;have I:=jO A;obtain ⟨⟨U,E⟩,h5⟩:=oA (R:=fun p=>q≤p∧p≤s.length) (S:=fun x:bC=>x.2.length≤256∧∀ e∈x.2,0≤e.2∧e.2 < n) (fun p x q' hr M=>by
        obtain ⟨g1,g2,g3⟩:=xC M;exact ⟨⟨ab,g2⟩,g3⟩) ⟨aT _,C⟩ A
       split at h
       · cases h;rename_i L;exact ⟨ab,E,L,ab,by rw [I]; exact h5⟩
       · cases h
structure eY.Is (s:List UInt8) (b:eY):Prop where
 least:1≤b.least∧b.least≤64
 NO:b.qE.length≤256
 qE:∀ r∈b.qE,r.1≠[]∧r.1.length≤32∧r.2.length≤32
 tr:b.tr.length≤255
 J3:b.jV.length=4
 jV:∀ l∈b.jV,shaped l=true∧l.length≤1048576∧∀ x∈l,x.2.length≤256∧∀ e∈x.2,0≤e.2∧e.2 < l.length
theorem GS {b:eY} (h:dx s= .ok b):b.Is s:=by
 unfold dx at h;split at h
 · split at h
   · cases h
   · rename_i n p1 J;split at h
     · cases h
     · rename_i t p2 E;split at h
       · cases h
       · rename_i m p3 L;split at h
         · cases h
         · split at h
           · cases h
           · rename_i rs p4 M;generalize (if n≤64 then n else 0)=n0 at h;unfold jc at h;split at h
             · rename_i A;split at h
               · cases h
               · rename_i l p5 C;split at h
                 · cases h;unfold gK at A;simp only [bf,decide_eq_true_eq,List.all_eq_true] at A;obtain ⟨⟨⟨g1,g2,g3⟩,_⟩,g4⟩:=A;refine ⟨⟨g1,g2⟩,g3,fun r hr=> ?_,(ou E).2.2,jO C,(oA (R:=fun _=>True) (fun p x q _ I=>⟨trivial,(B9 I).2.2⟩) trivial C).2⟩;have :=g4 r hr;unfold iV at this;simp only [bf,decide_eq_true_eq] at this;exact ⟨this.1.1,this.1.2.2,this.2.2⟩
                 · cases h
             · cases h
 · cases h
end
end Go.Hb
end
section
namespace Go.Hb
def c8 (f:List (List UInt8)):Nat:=((f.getD 0 []).getD 0 0).toNat
def dm (f:List (List UInt8)):rD:=ju<|(f.getD 0 []).drop 1
def dZ (f:List (List UInt8)):Except Nat (List UInt8×Int):=
 if f.length≠1 then .error 111 else if c8 f≠43∧c8 f≠45 then .error 281 else
 if (dm f).2.2.2≠0 then .error (dm f).2.2.2 else if (dm f).2.2.1=true then .error 114 else if cJ (dm f).1=false then .error 21 else .ok ((dm f).1,if c8 f=43 then 1 else -1)
theorem Ht {f:List (List UInt8)} (h:f.length≠1):dZ f= .error 111:=if_pos h
theorem Hv {f:List (List UInt8)} (h:f.length=1) (A:c8 f≠43) (C:c8 f≠45):dZ f= .error 281:=(if_neg fun e=>e h).trans<|if_pos ⟨A,C⟩
theorem rX {f:List (List UInt8)} (h:f.length=1) (A:c8 f=43∨c8 f=45):dZ f=if (dm f).2.2.2≠0 then .error (dm f).2.2.2 else if (dm f).2.2.1=true then .error 114 else if cJ (dm f).1=false then .error 21 else .ok ((dm f).1,if c8 f=43 then 1 else -1):=(if_neg fun e=>e h).trans<|if_neg ab
theorem Hs {f:List (List UInt8)} (h:f.length=1) (A:c8 f=43∨c8 f=45) (C:(dm f).2.2.2≠0):dZ f= .error (dm f).2.2.2:=(rX h A).trans<|if_pos C
theorem Hr {f:List (List UInt8)} (h:f.length=1) (A:c8 f=43∨c8 f=45) (C:(dm f).2.2.2=0) (E:(dm f).2.2.1=true):dZ f= .error 114:=(rX h A).trans<|(if_neg fun e=>e C).trans<|if_pos E
theorem Ho {f:List (List UInt8)} (h:f.length=1) (A:c8 f=43∨c8 f=45) (C:(dm f).2.2.2=0) (E:(dm f).2.2.1=false) (I:cJ (dm f).1=false):dZ f= .error 21:=
 (rX h A).trans ((if_neg fun e=>e C).trans<|(if_neg<|by rw [E]; decide).trans<|if_pos I)
theorem vl {f:List (List UInt8)} (h:f.length=1) (A:c8 f=43∨c8 f=45) (C:(dm f).2.2.2=0) (E:(dm f).2.2.1=false) (I:cJ (dm f).1=true):dZ f= .ok ((dm f).1,if c8 f=43 then 1 else -1):=
 (rX h A).trans ((if_neg fun e=>e C).trans<|(if_neg<|by rw [E]; decide).trans<|if_neg<|by rw [I]; decide)
theorem Hw {f:List (List UInt8)} {x:List UInt8} {o:Int} (h:dZ f= .ok (x,o)):cJ x=true∧((o=1∧c8 f=43)∨(o= -1∧c8 f≠43))∧f.length=1:=by
 unfold dZ at h
 repeat' split at h
 all_goals first | cases h | skip
 · rename_i E I J L A C;exact ⟨by simpa using A,.inl ⟨U,C⟩,ab⟩
 · rename_i E I J L A C;exact ⟨by simpa using A,.inr ⟨U,C⟩,ab⟩
theorem Ng:∀ (l acc:List UInt8),(dA acc l).2.2.2=0∨(dA acc l).2.2.2=20:=by
 intro l
 induction hn:l.length using Nat.strongRecOn generalizing l with
 | _ n ih=>
   intro acc
   match l with
   | []=>exact .inl rfl
   | b::l=>
     by_cases h:b.toNat=47
     · rw [yb h]; exact .inl rfl
     · by_cases A:b.toNat=92
       · match l with
         | []=>rw [x9 A]; exact .inr rfl
         | c::l=>
           cases hc:iK c with
           | false =>rw [ya A hc]; exact .inr rfl
           | true =>rw [tM A hc]; exact ih l.length (by simp only [bA] at hn; omega) l rfl _
       · rw [tN h A]; exact ih l.length (by simp only [bA] at hn; omega) l rfl _
theorem Hu {f:List (List UInt8)} {e:Nat} (h:dZ f= .error e):e≠0∧e≤281:=by
 have :=Ng ((f.getD 0 []).drop 1) [];unfold dZ at h
 repeat' split at h
 all_goals first | (cases h; done) | (cases h; omega) | skip
 rename_i C E A;cases h;exact ⟨A,by unfold dm ju; omega⟩
def ew (rs:List (Nat×List (List UInt8))):Nat→Except (Nat×Nat) (List UInt8→Option Int)
 | 0=> .ok fun _=>none
 | k+1=>match ew rs k with
   | .error e=> .error e
   | .ok g=>match dZ (rs.getD k (0,[])).2 with
     | .error e=> .error ((rs.getD k (0,[])).1,e)
     | .ok (x,o)=>if g x≠none then .error ((rs.getD k (0,[])).1,112) else if k=500 then .error ((rs.getD k (0,[])).1,280) else .ok fun y=>if y=x then some o else g y
def oP (t:List UInt8):Except (Nat×Nat) (List UInt8→Option Int):=if 65536 < t.length then .error (0,10) else ew (ee t) (ee t).length
section
variable {rs:List (Nat×List (List UInt8))} {k:Nat} {g:List UInt8→Option Int} {x:List UInt8} {o:Int} {e:Nat}
theorem Km (h:ew rs k= .ok g) (A:dZ (rs.getD k (0,[])).2= .error e):ew rs (k+1)= .error ((rs.getD k (0,[])).1,e):=by rw [ew,h]; simp only [A]
theorem Kp (h:ew rs k= .ok g) (A:dZ (rs.getD k (0,[])).2= .ok (x,o)) (C:g x≠none):ew rs (k+1)= .error ((rs.getD k (0,[])).1,112):=by rw [ew,h]; simp only [A]; rw [if_pos C]
theorem Ko (h:ew rs k= .ok g) (A:dZ (rs.getD k (0,[])).2= .ok (x,o)) (C:g x=none) (E:k=500):ew rs (k+1)= .error ((rs.getD k (0,[])).1,280):=by
 rw [ew,h]; simp only [A]; rw [if_neg fun e=>e C,if_pos E]
theorem BG (h:ew rs k= .ok g) (A:dZ (rs.getD k (0,[])).2= .ok (x,o)) (C:g x=none) (E:k≠500):ew rs (k+1)= .ok fun y=>if y=x then some o else g y:=by
 rw [ew,h]; simp only [A]; rw [if_neg fun e=>e C,if_neg E]
theorem BE {q:Nat×Nat} (h:ew rs k= .error q):∀ {n:Nat},k≤n→ew rs n= .error q
 | 0,hn=>by obtain rfl :k=0:=ab
            exact h
 | n+1,hn=>by
   rcases Nat.eq_or_lt_of_le hn with rfl | hn
   · exact h
   · rw [ew,BE h (n:=n) ab]
theorem BH:∀ {k:Nat} {g:List UInt8→Option Int},ew rs k= .ok g→fm g∧cC g k∧k≤500
 | 0,g,h=>by cases h; exact ⟨fm.nil,by unfold cC; rw [oE]; exact eM.nil,ab⟩
 | k+1,g,h=>by
   rw [ew] at h;split at h
   · cases h
   · rename_i g0 h0;split at h
     · cases h
     · rename_i x o E;obtain ⟨i1,i2,i3⟩:=BH h0;obtain ⟨v1,v2,v3⟩:=Hw E;split at h
       · cases h
       · rename_i C;have C:=tY.1 C;split at h
         · cases h
         · cases h;refine ⟨⟨fun y p A=> ?_,fun y p A=> ?_⟩,by unfold cC; rw [← oF]; exact eM.new i2 (by rw [gF,C]; rfl),ab⟩
           · split at A
             · cases A; omega
             · exact i1.val y p A
           · split at A
             · rename_i e; rw [e]; exact v1
             · exact i1.wd y p A
end
def gI (g:List UInt8→Option Int) (xs:List (List UInt8)) (i:Nat):List UInt8→Option Int:=fun x=>if x∈xs.take i then g x else none
theorem Io {g:List UInt8→Option Int} {xs:List (List UInt8)} :gI g xs 0=fun _=>none:=by
 funext x; simp [gI]
theorem Il {g:List UInt8→Option Int} {xs:List (List UInt8)} {i:Nat} (hn:xs.Nodup) (hi:i < xs.length):gI g xs i (xs.getD i [])=none:=by
 refine if_neg fun h=> ?_;obtain ⟨j,A,e⟩:=List.mem_take_iff_getElem.1 h;rw [cn,bR hi] at e;have :=(List.getElem_inj hn).1 (show xs[j]=xs[i] from e);omega
theorem Im {g:List UInt8→Option Int} {xs:List (List UInt8)} {i:Nat} {o:Int} (hi:i < xs.length) (h:g (xs.getD i [])=some o):(fun y=>if y=xs.getD i [] then some o else gI g xs i y)=gI g xs (i+1):=by
 funext y;unfold gI;rw [o7 xs i [] hi];by_cases A:y=xs.getD i []
 · rw [if_pos A,A,if_pos (by simp),h]
 · simp only [fl,gU,A,or_false,if_false]
theorem Ik {g:List UInt8→Option Int} {xs:List (List UInt8)} (C:e7 g xs):gI g xs xs.length=g:=by
 funext x;unfold gI;rw [ux];by_cases A:x∈xs
 · rw [if_pos A]
 · rw [if_neg A];cases h:g x with
   | none=>rfl
   | some o=>exact absurd ((C.2 x).2 ⟨o,h⟩) A
theorem KU {g:List UInt8→Option Int} {xs:List (List UInt8)} (A:∀ x∈xs,cJ x=true) {i:Nat} (hi:i < xs.length):(ee<|dv g xs).getD i (0,[])=(1 +i,[dY g (xs.getD i [])]):=by
 rw [cn,CQ A,eJ,List.getElem?_zipIdx,bR hi,cn,bR hi]; rfl
theorem KV {g:List UInt8→Option Int} {xs:List (List UInt8)} (A:∀ x∈xs,cJ x=true):(ee<|dv g xs).length=xs.length:=by
 rw [CQ A,List.length_map,List.length_zipIdx]
theorem Hq {g:List UInt8→Option Int} {x:List UInt8} {o:Int} (h:g x=some o) (E:o=1∨o= -1) (C:cJ x=true):dZ [dY g x]= .ok (x,o):=by
 have hw:dm [dY g x]=(x,[],false,0):=Nn x;have A:c8 [dY g x]=if 0 < o then 43 else 45:=by
  show (if 0 < (g x).getD 0 then (43:UInt8) else 45).toNat=_;rw [h,gV];split <;> rfl
 rcases E with rfl | rfl
 · exact (vl U (.inl A) (by rw [hw]) (by rw [hw])<|by rw [hw]; exact C).trans<|by rw [hw,A]; rfl
 · exact (vl U (.inr A) (by rw [hw]) (by rw [hw])<|by rw [hw]; exact C).trans<|by rw [hw,A]; rfl
theorem Kj {g:List UInt8→Option Int} {xs:List (List UInt8)} (C:e7 g xs) (J:fm g) (L:xs.length≤500):oP (dv g xs)= .ok g:=by
 have E:∀ x∈xs,cJ x=true :=fun x I=>by
  obtain ⟨o,A⟩:=(C.2 x).1 I;exact J.wd x o A
 have M:=tF (g:=g) (xs:=xs) fun x I=>(of_decide_eq_true<|E x I).2.1;have key:∀ i,i≤xs.length→ew (ee<|dv g xs) i= .ok (gI g xs i):=by
  intro i
  induction i with
  | zero=>intro _; rw [Io]; rfl
  | succ i ih=>
    intro hi;obtain ⟨o,A⟩:=(C.2<|xs.getD i []).1<|iM ab;have hr:=KU (g:=g) E (i:=i) ab;rw [BG (ih ab) (x:=xs.getD i []) (o:=o) (by rw [hr]; exact Hq A (J.val _ _ A)<|E _<|iM ab) (Il C.1 ab) ab,Im ab A]
 unfold oP;rw [if_neg ab,KV E,key _ (aT _),Ik C]
end Go.Hb
end
section
namespace Go.Hb
open Go Go.ChangeShapes
theorem Lu {P:an} {n:String} {W:ah} {g:Nat} {cs:Array ag} (C:P.globalNamed n=some g) (A:W.var? P n=some cs):∃ e z,W.heap[g]? =some (.cells cs e z):=by
 unfold World.var? at A;rw [C] at A;simp only [Option.bind_some] at A;split at A
 · rename_i c e z h;cases A;exact ⟨e,z,h⟩
 · cases A
theorem iU {P:an} {n nm:String} {text:List UInt8} {r:List (String×DataW Unit)} {W:ah} {g:Nat} {L E te I:ak} {ms:Array (String×ak)} {f:Field}
 (h:laidMet P ((n,.iface nm (.ptr<|.agg [.lit (.string text)]))::r) W)
 (A:P.globalNamed n=some g) (ae:(P.globals[g]?).map (·.type)=some L) (hi:P.underlying L=some (.interface ms)) (ac:∀ u,P.typeName? 3 u=some nm→u=E)
 (hp:P.underlying E=some (.pointer te)) (he:P.underlying te=some (.struct #[f])) (aa:f.type=I) (Z:f.offset=0) (ad:P.underlying I=some .string) (O:P.cellsOf te=1) (V:P.cellsOf I=1):
 ∃ (a:aG) (e:Nat),a.spot=none∧W.heap[g]? =some (.cells #[.iface E (.pointer<|some a)] e (0,0)):=by
 obtain ⟨a,s,J,U,_,_⟩:=laid_sentinel h A ae hi ac hp he aa Z ad O V;obtain ⟨e,z,hw⟩:=Lu A J;obtain ⟨ps,⟨g0,t0,aj,f0,ao,ap,ab,am,ag,al,_,M⟩,_,hrows⟩:=h;obtain rfl :=eX<|A.symm.trans ab;subst M;have ai:=eX<|J.symm.trans ag;subst ai;obtain ⟨⟨c,t,C⟩,_⟩:=hrows g 0<|by simp [MemPlace.row]
 rw [hw] at C;simp only [bp,Obj.cells.injEq] at C;obtain ⟨_,_,rfl⟩:=C;exact ⟨a,e,World.cell?_spot U,hw⟩
theorem cY.nil {T:Nat} {w:ah} :cY T [] w:=fun g h=>by cases h
theorem cY.cons {T g:Nat} {l:List Nat} {w:ah} (h:∃ (a:aG) (e:Nat),a.spot=none∧w.heap[g]? =some (.cells #[.iface T (.pointer<|some a)] e (0,0))) (C:cY T l w):cY T (g::l) w:=fun k A=>by
 rcases dr.1 A with rfl | A
 · exact h
 · exact C k A
theorem cY.sub {T:Nat} {l m:List Nat} {w:ah} (h:cY T l w) (C:∀ g∈m,g∈l):cY T m w:=fun g A=>h g<|C g A
end Go.Hb
end
section
namespace Go.Hb
abbrev bL (n:Nat):ag:= .int .i64 (n:Nat)
abbrev aH (b:Nat):ag:= .pointer<|some ⟨b,0,none⟩
variable {P:an} {N:Fm} {ops:Array Oper} {Q:Exit→(Nat→ag)→ah→Prop} {σ:Nat→ag} {w:ah} {S:ah→Prop} {r fuel:Nat} {listed:Array Bool} {d:Nat} {op:Op} {ty:ak} {pos :String} {af:Array Edge} {v:ag}
theorem p6 (i:Nat) (hi:ops[i]? =some ⟨some d,op,ty,pos,af,none⟩) (E:∀ w,S w→(execOp (ev N σ) ⟨some d,op,ty,pos,af,none⟩).run P w= .ok (.value v) w) (A:S w) (k:cm P N ops Q S fuel (listed.setIfInBounds i true) (aY σ d v) w) (C:et N.F ops listed i=true :=by kernel_rfl):cm P N ops Q S (fuel+1) listed σ w:=hp i hi C E A k
theorem wh (i:Nat) (hi:ops[i]? =some ⟨some d,op,ty,pos,af,none⟩) (E:∀ w,S w→(execOp (ev N σ) ⟨some d,op,ty,pos,af,none⟩).run P w= .ok (.value v) w) (A:S w) (k:bV P N ops Q S r fuel (listed.setIfInBounds i true) (aY σ d v) w) (C:vE N.F ops listed r i=true :=by kernel_rfl):bV P N ops Q S r (fuel+1) listed σ w:=A6 i hi C E A k
theorem JD (i:Nat) (hi:ops[i]? =some ⟨some d,op,ty,pos,af,none⟩) (E:∀ w,(execOp (ev N σ) ⟨some d,op,ty,pos,af,none⟩).run P w= .ok (.value v) w) (A:listed.getD r false =false→S w) (k:bV P N ops Q S r fuel (listed.setIfInBounds i true) (aY σ d v) w) (C:mQ N.F ops listed r i=true :=by kernel_rfl):bV P N ops Q S r (fuel+1) listed σ w:=qh i hi C E A k
theorem iN (i:Nat) (hi:ops[i]? =some ⟨some d,op,ty,pos,af,none⟩) (E:∀ {w},(execOp (ev N σ) ⟨some d,op,ty,pos,af,none⟩).run P w= .ok (.value v) w) (A:S w) (k:cm P N ops Q S fuel (listed.setIfInBounds i true) (aY σ d v) w) (C:et N.F ops listed i=true :=by kernel_rfl):cm P N ops Q S (fuel+1) listed σ w:=hp i hi C (fun _ _=>E) A k
theorem JC (i:Nat) (hi:ops[i]? =some ⟨some d,op,ty,pos,af,none⟩) (E:∀ {w},(execOp (ev N σ) ⟨some d,op,ty,pos,af,none⟩).run P w= .ok (.value v) w) (A:S w) (k:bV P N ops Q S r fuel (listed.setIfInBounds i true) (aY σ d v) w) (C:ov N.F ops listed r i=true :=by kernel_rfl):bV P N ops Q S r (fuel+1) listed σ w:=lq i hi C (fun _ _=>E) A k
theorem wi (i:Nat) (hi:ops[i]? =some ⟨some d,op,ty,pos,af,none⟩) (E:∀ {w},(execOp (ev N σ) ⟨some d,op,ty,pos,af,none⟩).run P w= .ok (.value v) w) (A:S w) (k:bV P N ops Q S r fuel (listed.setIfInBounds i true) (aY σ d v) w) (C:mQ N.F ops listed r i=true :=by kernel_rfl):bV P N ops Q S r (fuel+1) listed σ w:=qh i hi C (fun _=>E) (fun _=>A) k
theorem vL {x:aO} (i:Nat) (hi:ops[i]? =some ⟨some d,.move x,ty,pos,af,none⟩) (v:ag) (A:S w) (k:cm P N ops Q S fuel (listed.setIfInBounds i true) (aY σ d v) w) (E:ev N σ x=v:=by exact U) (C:et N.F ops listed i=true :=by kernel_rfl):cm P N ops Q S (fuel+1) listed σ w:=hp i hi C (fun _ _=>nf v E) A k
theorem NN {x:aO} (i:Nat) (hi:ops[i]? =some ⟨some d,.move x,ty,pos,af,none⟩) (v:ag) (A:S w) (k:bV P N ops Q S r fuel (listed.setIfInBounds i true) (aY σ d v) w) (E:ev N σ x=v:=by exact U) (C:mQ N.F ops listed r i=true :=by kernel_rfl):bV P N ops Q S r (fuel+1) listed σ w:=qh i hi C (fun _=>nf v E) (fun _=>A) k
theorem jG {P:an} {f:FuncId} {fn:Func} (A:P.funcs[f]? =some fn) (hn:(fn.name== "runtime.NumGoroutine")=false :=by kernel_rfl) (hb:fn.body.isNone=false :=by kernel_rfl):eL P f:=uW A hn hb
section
variable {rest:List Oper} {x:aO} {K:(Nat→ag)→ah→Prop} {l:List Oper} {id:Nat} {y z:Code} {j t:Nat} {want b:Bool} {fn:Func} {R:ag→ah→Prop}
theorem NR (h:∀ {K:(Nat→ag)→ah→Prop},(∀ {σ w},bg P N y Q σ w→gi K Q .normal σ w)→bg P N z (gi K Q) σ w):bg P N (.seq z y) Q σ w:=sq fun K A=>h fun hw=>A _ _ hw
theorem NS (h:∀ {K:(Nat→ag)→ah→Prop},(∀ {σ w},bg P N y Q σ w→gi K Q .normal σ w)→bK P N l.toArray (gi K Q) l σ w) (hr:km N.r l=true :=by exact U):bg P N (.seq (.region id l.toArray false) y) Q σ w:=sq fun K A=>rg hr<|h fun hw=>A _ _ hw
theorem NL (h:Q .normal (aY σ d<|ev N σ x) w):bK P N ops Q [⟨some d,.assign x,ty,pos,af,none⟩] σ w:=p aE<|nl h
theorem eH {id:Nat} (h:Q (.exit id) σ w):gi K Q (.exit id) σ w:=h
theorem NP (h:(dL ops j,av t N.n,σ t,b==want)=(some t,true,.bool b,false)) (k:bK P N ops Q rest (aY σ d undef) w):bK P N ops Q (⟨some d,op,ty,pos,af,some (j,want)⟩::rest) σ w:=sk (congrArg cg h) (congrArg (·.2.1) h) (congrArg (·.2.2.1) h) (congrArg (·.2.2.2) h) k
theorem NQ (h:(dL ops j,av t N.n,σ t)=(some t,true,undef)) (k:bK P N ops Q rest (aY σ d undef) w):bK P N ops Q (⟨some d,op,ty,pos,af,some (j,want)⟩::rest) σ w:=Co (congrArg cg h) (congrArg (·.2.1) h) (congrArg (·.2.2) h) k
theorem bU (h:(dL ops j,av t N.n,σ t)=(some t,true,.bool want)) (A:(execOp (ev N σ) ⟨some d,op,ty,pos,af,some (j,want)⟩).run P w= .ok (.value v) w) (k:bK P N ops Q rest (aY σ d v) w):bK P N ops Q (⟨some d,op,ty,pos,af,some (j,want)⟩::rest) σ w:=pg (congrArg cg h) (congrArg (·.2.1) h) (congrArg (·.2.2) h) A k
theorem NM (i:Nat) (h:(ops[i]?,dL ops j,av t N.n,σ t,b==want)=(some ⟨some d,op,ty,pos,af,some (j,want)⟩,some t,true,.bool b,false)) (A:S w) (k:cm P N ops Q S fuel (listed.setIfInBounds i true) (aY σ d undef) w) (C:et N.F ops listed i=true :=by kernel_rfl):cm P N ops Q S (fuel+1) listed σ w:=Az i (congrArg cg h) C (congrArg (·.2.1) h) (congrArg (·.2.2.1) h) (congrArg (·.2.2.2.1) h) (congrArg (·.2.2.2.2) h) A k
theorem mU (i:Nat) (h:(ops[i]?,dL ops j,av t N.n,σ t)=(some ⟨some d,op,ty,pos,af,some (j,want)⟩,some t,true,.bool want)) (E:∀ w,S w→(execOp (ev N σ) ⟨some d,op,ty,pos,af,some (j,want)⟩).run P w= .ok (.value v) w) (A:S w) (k:cm P N ops Q S fuel (listed.setIfInBounds i true) (aY σ d v) w) (C:et N.F ops listed i=true :=by kernel_rfl):cm P N ops Q S (fuel+1) listed σ w:=Ay i (congrArg cg h) C (congrArg (·.2.1) h) (congrArg (·.2.2.1) h) (congrArg (·.2.2.2) h) E A k
theorem aJ (h:(fn.results,ev N σ (.tmp t))=(#[.tmp t],v)) (A:R v w):fin P fn N R .ret σ w:=f1 (congrArg cg h) (congrArg Prod.snd h) A
theorem wU (v:ag) (h:bK P N ops Q rest (aY σ d v) w) (A:ev N σ x=v:=by exact U):bK P N ops Q (⟨some d,.move x,ty,pos,af,none⟩::rest) σ w:=p (nf v A) h
end
end Go.Hb
end
namespace Go.Hb.ek
theorem E1:c9 aj 181=some (some 2):=ai
theorem yP:c9 aj 195=some (some 2):=ai
theorem yQ:c9 aj 244=some (some 2):=ai
theorem E2:c9 aj 29=some (some 3):=ai
theorem yR:c9 aj 33=some none:=ai
theorem rF:c9 aj 35=some (some 3):=ai
theorem E3:c9 aj 79=some (some 2):=ai
theorem pO:c9 aj 92=some (some 7):=ai
theorem yZ:lO aj 340=some (256,1):=ai
theorem y4:lO aj 90=some (4,1):=ai
theorem FG:lP aj 100 5 9=true :=ai
theorem FH:eL aj 112:=jG func112
theorem ze:eL aj 123:=jG func123
theorem FI:eL aj 132:=jG func132
theorem FJ:eL aj 69:=jG func69
theorem n8:eL aj 70:=jG func70
theorem uU:eL aj 71:=jG func71
theorem jF:eL aj 72:=jG func72
theorem FK:eL aj 74:=jG func74
theorem FL:eL aj 76:=jG func76
theorem FM:eL aj 77:=jG func77
theorem FN:eL aj 80:=jG func80
theorem zz:∀ v w,(callFunc 129 #[v]).run aj w= .ok (.value v) w:=fun v w=>ai
theorem zA:cO aj 100=some 1:=ai
theorem Gp:cO aj 181=some 2:=ai
theorem Gq:cO aj 193=some 1:=ai
theorem zB:cO aj 195=some 2:=ai
theorem Gr:cO aj 244=some 2:=ai
theorem Gs:cO aj 27=some 1:=ai
theorem Gt:cO aj 29=some 3:=ai
theorem pR:cO aj 3=some 1:=ai
theorem vh:cO aj 33=some 1:=ai
theorem rQ:cO aj 35=some 3:=ai
theorem Gu:cO aj 4=some 1:=ai
theorem zC:cO aj 5=some 1:=ai
theorem Gv:cO aj 75=some 1:=ai
theorem Gw:cO aj 79=some 2:=ai
theorem Gx:cO aj 82=some 1:=ai
theorem zD:cO aj 83=some 1:=ai
theorem Gy:cO aj 88=some 1:=ai
theorem Gz:cO aj 89=some 1:=ai
theorem GA:cO aj 9=some 1:=ai
theorem rR:cO aj 92=some 7:=ai
theorem GB:cO aj 99=some 1:=ai
theorem vq:dh aj 100=some 1:=ai
theorem rZ:dh aj 193=some 2:=ai
theorem HC:dh aj 22=some 3:=ai
theorem mM:dh aj 27=some 1:=ai
theorem HE:dh aj 75=some 2:=ai
theorem pX:dh aj 83=some 1:=ai
theorem HF:dh aj 88=some 2:=ai
theorem r6:dh aj 89=some 2:=ai
theorem IM:(aj.info? 102).isSome=true :=ai
theorem AF:∀ (l:List UInt8) (c:UInt8) (w:ah),(callFunc 294 #[str l,.int .u8 c.toNat]).run aj w= .ok (.value<|.int .i64<|dQ c l) w:=Lc func294 ai ai ai ai
theorem jj:j3 aj 9 cT:=vS ai
theorem sM:kg aj 33=true :=ai
theorem Kw:ptrTo aj 189 5=true :=ai
theorem xz:eU aj 100 5 1 1=true :=ai
theorem Cr:eU aj 193 244 2 16=true :=ai
theorem ku:eU aj 27 9 1 16=true :=ai
theorem Ct:eU aj 75 79 2 32=true :=ai
theorem xA:eU aj 83 1 1 8=true :=ai
theorem Cu:eU aj 88 181 2 32=true :=ai
theorem Cv:eU aj 89 195 2 32=true :=ai
theorem LW:fB aj 178=some ([(0,1),(1,1)],[.string ⟨⟨[]⟩⟩,.int .i64 0]):=ai
theorem LX:fB aj 181=some ([(0,1),(1,1)],[.string ⟨⟨[]⟩⟩,.string ⟨⟨[]⟩⟩]):=ai
theorem LY:fB aj 195=some ([(0,1),(1,1)],[.bool false,.slice none 0 0]):=ai
theorem LZ:fB aj 244=some ([(0,1),(1,1)],[.int .u8 0,.int .i64 0]):=ai
theorem L0:fB aj 333=some ([(0,1),(1,1),(2,1)],[.slice none 0 0,.int .i64 0,.slice none 0 0]):=ai
theorem tA:fB aj 35=some ([(0,1),(1,1),(2,1)],[.int .i64 0,.int .i64 0,.int .i64 0]):=ai
theorem L1:fB aj 55=some ([(0,1),(1,1),(2,1),(3,1),(4,1)],[.int .i64 0,.int .i64 0,.int .i64 0,.int .i64 0,.int .i64 0]):=ai
theorem L3:fB aj 79=some ([(0,1),(1,1)],[.int .i64 0,.slice none 0 0]):=ai
theorem L4:fB aj 85=some ([(0,1),(1,1),(2,1)],[.pointer none,.map none,.slice none 0 0]):=ai
theorem Cw:fB aj 92=some ([(0,1),(1,1),(2,1),(3,4)],[.int .i64 0,.string ⟨⟨[]⟩⟩,.slice none 0 0,.slice none 0 0,.slice none 0 0,.slice none 0 0,.slice none 0 0]):=ai
theorem L5:fB aj 96=some ([(0,7),(7,1)],[.int .i64 0,.string ⟨⟨[]⟩⟩,.slice none 0 0,.slice none 0 0,.slice none 0 0,.slice none 0 0,.slice none 0 0,.string ⟨⟨[]⟩⟩]):=ai
theorem MC:aj.underlying 150=some (.int .u64):=ai
theorem CS:aj.underlying 190=some (.pointer 195):=ai
theorem u3:aj.underlying 3=some (.int .i64):=ai
theorem u32:aj.underlying 32=some (.pointer 85):=ai
theorem u4:aj.underlying 4=some (.bool):=ai
theorem pc:aj.underlying 40=some (.pointer 96):=ai
theorem eV:aj.underlying 82=some (.map 9 3):=ai
theorem MD:aj.underlying 83=some (.slice 1):=ai
theorem u9:aj.underlying 9=some (.string):=ai
theorem CV:aj.underlying 99=some (.pointer 102):=ai
theorem CX:ny aj 99 269 102 2=true :=ai
theorem xR:(aj.underlying 150).isSome=true :=ai
theorem MO:(aj.underlying 5).isSome=true :=ai
theorem wide:aj.follows .mixedOrders=true :=ai
theorem tQ:zeroOf aj 102=some (some [.pointer none,.slice none 0 0]):=ai
theorem Ny:zeroOf aj 181=some (some [.string ⟨⟨[]⟩⟩,.string ⟨⟨[]⟩⟩]):=ai
theorem Dg:zeroOf aj 195=some (some [.bool false,.slice none 0 0]):=ai
theorem Nz:zeroOf aj 244=some (some [.int .u8 0,.int .i64 0]):=ai
theorem NA:zeroOf aj 29=some (some [.int .i64 0,.slice none 0 0,.string ⟨⟨[]⟩⟩]):=ai
theorem NB:zeroOf aj 3=some (some [.int .i64 0]):=ai
theorem NC:zeroOf aj 33=some (some [.int .i64 0]):=ai
theorem Dh:zeroOf aj 35=some (some [.int .i64 0,.int .i64 0,.int .i64 0]):=ai
theorem ND:zeroOf aj 75=some (some [.slice none 0 0]):=ai
theorem NF:zeroOf aj 79=some (some [.int .i64 0,.slice none 0 0]):=ai
theorem NG:zeroOf aj 82=some (some [.map none]):=ai
theorem Di:zeroOf aj 92=some (some [.int .i64 0,.string ⟨⟨[]⟩⟩,.slice none 0 0,.slice none 0 0,.slice none 0 0,.slice none 0 0,.slice none 0 0]):=ai
theorem NH:zeroOf aj 340=some (some<|eB 256<|.bool false):=ai
theorem NI:zeroV aj 1=some (.nilFunc):=ai
theorem pf:zeroV aj 3=some (.int .i64 0):=ai
theorem NJ:zeroV aj 33=some (.int .i64 0):=ai
end Go.Hb.ek
section
namespace Go.Hb
open Go.Hb.ek
theorem zu (b:Nat) (A:Option aG) (E:ag) (w:ah) (hb:w.heap[b]? =some (.cells [uf A,E].toArray 102 (0,0))) (hp:A=none∨A=some ⟨b,0,none⟩):
 aR aj 81 (bc [aH b]) w (fun v w'=>v= .tuple #[]∧w'.heap[b]? =some (.cells [uf (some ⟨b,0,none⟩),E].toArray 102 (0,0))∧Md (fun k=>k=b) w w'):=by
 refine enter func81 U ntmps81 U<|aP 5 U<|p (aM U<|(dg hb).trans U)<|p (fY CV U U)<|aC 2 U<|cb U (fun C=> ?_) fun C=> ?_;obtain rfl :A=none:=by simpa using C
 exact aB 3 U<|p (CK CX U hb U)<|p (Ga zz U)<|p (Aq CX U hb U)<|ao 2 U<|e<|fP GB U U U hb (by simp) fun L J I=>au 1 U<|f0 U<|⟨U,I,J⟩
 obtain rfl :A=some ⟨b,0,none⟩:=hp.resolve_left<|by rintro rfl; simp at C
 exact aB 5 U<|p (aM U<|(dg hb).trans U)<|ao 1 U<|p (JS CV IM U U)<|au 4 U<|f0 U<|⟨U,hb,Md.refl _ _⟩
theorem nE (b:Nat) (C:ag) (l:List UInt8) (c:UInt8) (w:ah) (hb:Bd 102 5 w b C l) (aC:l.length≤70368744177664):
 aR aj 36 (bc [aH b,.int .u8 c.toNat]) w (fun v w'=>v= .nilIface∧∃ L,Bd 102 5 w' b L (l++ [c])∧Md (BF b C) w w'∧∀ k,BF b L k→BF b C k∨w.heap.size≤k):=by
 obtain ⟨⟨aw,aa,ar⟩,hown,hnil⟩:=hb;have aD:b < w.heap.size:=(bJ.1 aa).1;have ac:∀ k,C.ownBlock=some k→k≠b∧k < w.heap.size:=fun k A=>by have :=hown.lt k A; exact ⟨ab,this.2⟩
 refine enter func36 U ntmps36 U<|aP 8 U<|e<|az (zu b aw C w aa ar) U ?_;rintro v6 aK ⟨_,Z,I⟩;have an:=da hown I fun k A=>(ac k A).1;have aE:=I.size;refine ao 8 U<|p (aM U<|(dg Z).trans U)<|ao 1 U<|e<|n7 xz U U fun ax aF aB E ai=>e<|ap xz (cE an E.md) U (by have :=E.size; omega) U (bo.jT ai) (U) (U) ab ab fun ad aG J O av am=> ?_;have al:=O.aq (Wk.aq E.md Z) fun h=>(ac b h).1 rfl;refine ao 2 U<|e<|fP zA U U (by obtain ⟨a,c,h,_⟩:=qA J; exact congrArg kH h) al (by simp) fun aI V ak=>au 8 U<|aJ U ?_;have ae:∀ k,ad.ownBlock=some k→k≠b:=fun k A=>by have :=J.lt k A; omega
 refine ⟨U,ad,⟨⟨_,ak,.inr U⟩,?_,?_⟩,?_,?_⟩;rw [bB,yM]; exact da J V fun k A=>ae k A;rw [av]; simp;refine Md.trans' (Md.trans' (Md.trans' (I.mono fun k _ h=> .inl h) E.md fun _ _ h=>h.elim) O fun k _ h=> .inr h) V fun k _ h=> .inl h;rintro k (rfl | A);exact .inl<|.inl U;by_cases h:C.ownBlock=some k;exact .inl<|.inr h;have :=am k A; have ay:=I.size; have aA:=E.md.size; exact .inr<|by rcases this with M | M; exact absurd M h; omega
theorem No (b:Nat) (C:ag) (l m:List UInt8) (w:ah) (hb:Bd 102 5 w b C l) (av:l.length+m.length≤70368744177664):
 aR aj 37 (bc [aH b,str m]) w (fun v w'=>v= .tuple #[.int .i64 m.length,.nilIface]∧∃ J,Bd 102 5 w' b J (l++m)∧Md (BF b C) w w'∧∀ k,BF b J k→BF b C k∨w.heap.size≤k):=by
 obtain ⟨⟨ap,Z,am⟩,hown,hnil⟩:=hb;have aw:b < w.heap.size:=(bJ.1 Z).1;have aa:∀ k,C.ownBlock=some k→k≠b∧k < w.heap.size:=fun k A=>by have :=hown.lt k A; exact ⟨ab,this.2⟩
 refine enter func37 U ntmps37 U<|aP 9 U<|e<|az (zu b ap C w Z am) U ?_;rintro ay aC ⟨_,V,E⟩;have al:=da hown E fun k A=>(aa k A).1;have ax:=E.size;refine ao 8 U<|p (aM U<|(dg V).trans U)<|ao 1 U<|e<|Fc FG (al) U ab U ab fun ac aA I M an ak=> ?_;have ai:=M.aq V fun h=>(aa b h).1 rfl;refine ao 2 U<|e<|fP zA U U (by obtain ⟨a,c,h,_⟩:=qA I; exact congrArg kH h) ai (by simp) fun aB O ae=>au 11 U<|f2 U U U ?_;have ad:∀ k,ac.ownBlock=some k→k≠b:=fun k A=>by have :=I.lt k A; omega
 refine ⟨U,ac,⟨⟨_,ae,.inr U⟩,?_,?_⟩,?_,?_⟩;rw [bB,yM]; exact da I O fun k A=>ad k A;rw [an,hnil]; simp;exact Md.trans' (Md.trans' (E.mono fun k _ h=> .inl h) M fun k _ h=> .inr h) O fun k _ h=> .inl h;rintro k (rfl | A);exact .inl<|.inl U;by_cases h:C.ownBlock=some k;exact .inl<|.inr h;have :=ak k A; have ar:=E.size; exact .inr<|by rcases this with L | L; exact absurd L h; omega
theorem qM (b:Nat) (I:ag) (l:List UInt8) (w:ah) (hb:Bd 102 5 w b I l) (aa:l.length≤70368744177664):
 aR aj 39 (bc [aH b]) w (fun v w'=>v=str l∧Md (fun k=>I.ownBlock=some k) w w'):=by
 obtain ⟨⟨ae,J,ac⟩,hown,hnil⟩:=hb;obtain ⟨a,c,rfl,O,hle,V,Z⟩:=qA hown;refine enter func39 U ntmps39 U<|cS 6 U ?_;have A:(fun w'=>Md (fun k=>(fC a l.length c).ownBlock=some k) w w') w.drew:=(Md.refl _ _).drew;refine bD (fun w'=>Md (fun k=>(fC a l.length c).ownBlock=some k) w w') U wide A<|cD [0,1,2] U A<|p6 3 U (fun w' C=>aM U<|C.ay ((dg J).trans U) fun h=>by have :=hown.lt _ h; omega) A<|cD [5,6,7] U A<|p6 8 U (fun w' C=>aM U<|C.ay ((dg J).trans U) fun h=>by have :=hown.lt _ h; omega) A<|cD [9] U A ?_;refine iN 4 U (xS (v:= .nilFunc) U (by
  by_cases h:l= []
  have :=hnil.2 h; simp only [kI] at this; exact .inl this.1;right; have :0 < l.length:=List.length_pos_iff.2 h; omega)) A ?_
 refine he 10 U ai<|MP Kw U U hown U ab fun M L ad=> ?_;have E:(fun w'=>Md (fun k=>(fC a l.length c).ownBlock=some k) w w') M:=A.trans' L fun _ _ h=>h;refine ⟨E,?_⟩;exact iN 11 U (aE) E<|hn ai<|bG 2 U<|aJ U<|⟨U,E⟩
end Go.Hb
end
section
namespace Go.Hb
open Go.Hb.ek
theorem jg (b:UInt8):iK b=decide ((b.toNat:Int)=92∨(b.toNat:Int)=47∨(b.toNat:Int)=35):=by
 unfold iK; exact decide_eq_decide.2 ab
theorem Ai (b:UInt8):fZ b=decide (32 < (b.toNat:Int)∧(b.toNat:Int)≠127):=by
 unfold fZ; exact decide_eq_decide.2 ab
theorem HY {b:UInt8} (h:¬(32 < (b.toNat:Int)∧(b.toNat:Int)≠127)):fZ b=false :=by rw [Ai]; exact decide_eq_false h
theorem Aj (b:UInt8) (w:ah):
 aR aj 117 (bc [.int .u8 b.toNat]) w (fun v w'=>v= .bool (fZ b)∧Wk w w'):=by
 refine enter func117 U ntmps117 U<|aP 10 U<|gs (t:=5) U (fun A=> ?_) fun A=> ?_;exact au 7 U<|aJ U<|⟨by show bO (decide _)=_; rw [Ai]; exact bv (by constructor <;> intro h <;> first | exact ⟨ab,h⟩ | exact h.2),Md.refl _ _⟩
 exact ao 3 U<|p aE<|au 3 U<|aJ U<|⟨by show bO false =_; rw [HY ab],Md.refl _ _⟩
theorem Bg (b:UInt8) (w:ah):
 aR aj 82 (bc [.int .u8 b.toNat]) w (fun v w'=>v= .bool (iK b)∧Wk w w'):=by
 refine enter func82 U ntmps82 U<|cS 19 U<|cd U (fun A=> ?_) fun A=> ?_;refine cx 2 U<|cd U (fun A=> ?_) fun A=> ?_;refine aK 8 U<|aJ U ?_
 first | exact ⟨by show bO true =_; rw [jg,decide_eq_true ab],Md.refl _ _⟩ | exact ⟨by show bO false =_; rw [jg,decide_eq_false ab],Md.refl _ _⟩
 refine aK 9 U<|aJ U ?_
 first | exact ⟨by show bO true =_; rw [jg,decide_eq_true ab],Md.refl _ _⟩ | exact ⟨by show bO false =_; rw [jg,decide_eq_false ab],Md.refl _ _⟩
 refine cx 6 U<|cd U (fun A=> ?_) fun A=> ?_;refine cx 2 U<|cd U (fun A=> ?_) fun A=> ?_;refine aK 8 U<|aJ U ?_
 first | exact ⟨by show bO true =_; rw [jg,decide_eq_true ab],Md.refl _ _⟩ | exact ⟨by show bO false =_; rw [jg,decide_eq_false ab],Md.refl _ _⟩
 refine aK 9 U<|aJ U ?_
 first | exact ⟨by show bO true =_; rw [jg,decide_eq_true ab],Md.refl _ _⟩ | exact ⟨by show bO false =_; rw [jg,decide_eq_false ab],Md.refl _ _⟩
 refine cx 5 U<|cd U (fun A=> ?_) fun A=> ?_;refine aK 8 U<|aJ U ?_
 first | exact ⟨by show bO true =_; rw [jg,decide_eq_true ab],Md.refl _ _⟩ | exact ⟨by show bO false =_; rw [jg,decide_eq_false ab],Md.refl _ _⟩
 refine aK 9 U<|aJ U ?_
 first | exact ⟨by show bO true =_; rw [jg,decide_eq_true ab],Md.refl _ _⟩ | exact ⟨by show bO false =_; rw [jg,decide_eq_false ab],Md.refl _ _⟩
theorem xU (s:List UInt8) (w:ah) (ad:s.length≤1048576):
 aR aj 65 (bc [str s]) w (fun v w'=>v= .bool (cJ s)∧Wk w w'):=by
 refine enter func65 U ntmps65 U<|aP 11 U<|gs (t:=6) U (fun E=> ?_) fun E=> ?_;exact au 14 U<|aJ U<|⟨by show bO false =_; unfold cJ; rw [decide_eq_false (by rw [E]; simp)],Md.refl _ _⟩
 refine aC 6 U<|cd U (fun Z=> ?_) fun Z=> ?_;exact aK 7 U<|aJ U<|⟨by show bO false =_; unfold cJ; rw [decide_eq_false ab],Md.refl _ _⟩
 refine cx 11 U<|lp (fun J V O=> ∃ (i:Nat),(i≤s.length∧1≤s.length∧s.length≤64)∧(∀ j,j < i→fZ (s.getD j 0)=true)∧(Wk w O)∧(Sl V [(0,str s),(12,.int .i64 s.length),(13,.int .i64 i)])∧(s.length - i=J)) _ ⟨0,(⟨ab,by rcases Nat.eq_zero_or_pos s.length with h | h <;> first | exact absurd (List.length_eq_zero_iff.1 h) E | exact h,ab⟩),(fun j M=>by omega),(Md.refl _ _),U,U⟩ ?_;rintro J V O ⟨i,hi,hp,A,ac,rfl⟩;refine cH ac<|cS 6 U<|cd U (fun aa=> ?_) fun aa=> ?_;refine aB 14 U<|p (ga u9 U U ab)<|e<|az (Aj (s.getD i 0) _) U ?_;rintro ae ag ⟨rfl,L⟩;refine aC 3 U<|cb U (fun C=> ?_) fun C=> ?_;have I:fZ (s.getD i 0)=false :=by simpa using C
 exact aK 8 U<|tr<|bG 2 U<|aJ U<|⟨by show bO false =_; unfold cJ; rw [uS (i:=i) ab I,decide_eq_false (by simp)],Md.trans A L⟩
 have I:fZ (s.getD i 0)=true :=by simpa using C
 exact aK 7 U<|tn<|⟨_,ab,i+1,ab,(fun j M=>by rcases dW j i with h | h <;> first | exact hp j h | (rw [show j=i by omega]; exact I)),(Md.trans A L),U,U⟩
 exact aK 2 U<|eH<|bG 8 U<|aJ U<|⟨by show bO true =_; unfold cJ; rw [uT (fun j M=>hp j ab),decide_eq_true ⟨hi.2.1,hi.2.2,U⟩],A⟩
theorem Ns (s:List UInt8) (w:ah) (aM:s.length≤1048576):
 aR aj 38 (bc [str s]) w (fun v w'=>v=str (dw s)∧Wk w w'):=by
 refine enter func38 U ntmps38 U<|aP 7 U<|e<|fI tQ fun A aW aF aw am=>aC 11 U<|lp (fun ac ae aa=> ∃ (i:Nat) (C:ag),(i≤s.length)∧(Bd 102 5 aa A C<|dw<|s.take i)∧(Wk w aa)∧(Sl ae [(0,str s),(3,aH A),(6,.int .i64 s.length),(7,.int .i64 i)])∧(s.length - i=ac)) _ ⟨0,.slice none 0 0,ab,(Bd.new am),aw.md,U,U⟩ ?_;rintro ac ae aa ⟨i,C,hi,J,M,aA,rfl⟩;refine cH aA<|cS 6 U<|cd U (fun ax=> ?_) fun ax=> ?_;refine cx 10 U ?_;refine lu (fun ai Z=> ∃ (I:ag) (E:List UInt8),(E.length≤2 *i+1)∧(Bd 102 5 Z A I E)∧(Wk w Z)∧(E++ [s.getD i 0]=dw (s.take<|i+1))∧(Sl ai [(0,str s),(3,aH A),(4,.int .i64 i),(6,.int .i64 s.length),(7,.int .i64 i)])) ?_ ?_;refine aP 4 U<|p (ga u9 U U ab)<|e<|az (Bg (s.getD i 0) _) U ?_;rintro aN aS ⟨rfl,O⟩;have L:=J.md O fun _ _ h=>h;have aE:=tP<|s.take i;rw [bW] at aE;refine aC 2 U<|cb U (fun V=> ?_) fun V=> ?_;refine aB 1 U<|e<|az (nE A C (dw<|s.take i) (92) _ L ab) U ?_;rintro aO aT ⟨rfl,ak,an,aq,aG⟩;exact au 1 U<|tn<|⟨ak,dw (s.take i)++ [92],(by rw [bB,fE]; omega),an,(L.step (Md.trans M O) aq ab),(by rw [De ab,if_pos V,gQ]; rfl),U⟩
 exact aK 1 U<|tn<|⟨C,dw (s.take i),ab,L,(Md.trans M O),(by rw [De ab,if_neg (by rw [V]; exact dd)]),U⟩
 rintro ai Z ⟨I,E,aL,ad,ap,ay,aD⟩;refine cH aD<|aB 3 U<|p (ga u9 U U ab)<|e<|az (nE A I (E) (s.getD i 0) _ ad ab) U ?_;rintro aQ aU ⟨rfl,al,ao,ar,aI⟩;exact au 7 U<|tn<|⟨_,ab,i+1,al,ab,(by rw [← ay]; exact ao),(ad.step ap ar ab),U,U⟩
 refine aK 2 U<|eH<|kV 4 U<|e<|az (qM A C (dw<|s.take i) _ J<|by have :=tP (s.take i); rw [bW] at this; omega) U ?_;rintro v20 aV ⟨rfl,av⟩;exact au 4 U<|aJ U<|⟨by show str (dw<|s.take i)=_; rw [show s.take i=s from rj ab],J.qK M av ab⟩
theorem Nl (s:List UInt8) (w:ah) (aQ:s.length≤1048576):
 aR aj 64 (bc [str s]) w (fun v w'=>v=KC (ju s)∧Wk w w'):=by
 refine enter func64 U ntmps64 U<|aP 10 U<|e<|fI tQ fun A aY aM ax an=>aC 9 U<|lp (fun ac ak M=> ∃ (i:Nat) (acc:List UInt8) (C:ag),(i≤s.length∧acc.length≤i)∧(Bd 102 5 M A C acc)∧(Wk w M)∧(dA acc (s.drop i)=ju s)∧(Sl ak [(0,str s),(6,aH A),(7,.int .i64 i)])∧(s.length - i=ac)) _ ⟨0,[],.slice none 0 0,(by simp),(Bd.new an),ax.md,U,U,U⟩ ?_;rintro ac ak M ⟨i,acc,C,hi,E,I,J,aI,rfl⟩;refine cH aI<|cS 9 U<|cd U (fun aA=> ?_) fun aA=> ?_;refine aB 8 U<|p (ga u9 U U ab)<|aC 3 U ?_;refine lu (fun al aa=> ∃ (k:Nat),(k < s.length∧i≤k∧k≤i+1)∧(Bd 102 5 aa A C acc)∧(Wk w aa)∧(dA (acc++ [s.getD k 0]) (s.drop<|k+1)=ju s)∧(Sl al [(0,str s),(6,aH A),(7,.int .i64 k)])) ?_ ?_;refine cS 13 U<|cd U (fun aD=> ?_) fun aD=> ?_;have ay:(s.getD i 0).toNat=47:=ab;refine cx 7 U ?_;have L:(fun w'=>True) M.drew:=trivial;refine bD (fun w'=>True) U wide L<|cD [1,2] U L<|iN 3 U (cK<|i+1) L<|iN 4 U (nu u9 U U ab) L<|he 0 U ai<|az (qM A C acc _ (E.md (Md.refl (fun _=>False) _).drew fun _ _ h=>h) ab) U ?_;rintro v21 aL ⟨rfl,ar⟩;have ae:(fun w'=>True) aL:=trivial;refine ⟨ae,?_⟩;refine cD [5,6,7,8] U ae<|hn ai<|bG 6 U<|tr<|bG 3 U<|tr<|bG 2 U<|f4 U U U U U ?_
 skip
 exact ⟨by rw [← J,drop_cons 0 (by omega :i < s.length),yb ay]; rfl,E.qK I (Md.trans (Md.refl _ _).drew ar) ab⟩;refine cx 8 U<|cd U (fun aE=> ?_) fun aE=> ?_;have V:(s.getD i 0).toNat=92:=ab;refine aB 9 U<|p (cK<|i+1)<|ao 10 U<|gs (t:=32) U (fun aG=> ?_) fun aG=> ?_;exact au 19 U<|tr<|bG 3 U<|tr<|bG 2 U<|f4 U U U U U<|⟨by rw [← J,drop_cons 0 (by omega :i < s.length),lB ab,x9 V]; rfl,I⟩
 refine ao 2 U<|bU U (ga u9 U U ab)<|eg U U U<|az (Bg (s.getD (i+1) 0) _) U ?_;rintro aS aV ⟨rfl,O⟩;refine aC 4 U<|cb U (fun Z=> ?_) fun Z=> ?_;exact aK 10 U<|tr<|bG 3 U<|tr<|bG 2 U<|f4 U U U U U<|⟨by rw [← J,drop_cons 0 (by omega :i < s.length),drop_cons 0 (by omega :i+1 < s.length),ya V (by simpa using Z)]; rfl,Md.trans I O⟩
 exact aK 2 U<|tn<|⟨i+1,ab,(E.md O fun _ _ h=>h),(Md.trans I O),(by rw [← J,drop_cons 0 (by omega :i < s.length),drop_cons 0 (by omega :i+1 < s.length),tM V (by simpa using Z)]),U⟩
 exact aK 8 U<|tn<|⟨i,ab,E,I,(by rw [← J,drop_cons 0 (by omega :i < s.length),tN ab ab]),U⟩
 rintro al aa ⟨k,aO,ad,aq,aF,aJ⟩;refine cH aJ<|aB 4 U<|p (ga u9 U U ab)<|e<|az (nE A C (acc) (s.getD k 0) _ ad ab) U ?_;rintro aT aW ⟨rfl,am,ap,av,aN⟩;exact au 11 U<|tn<|⟨_,ab,k+1,acc++ [s.getD k 0],am,(by rw [bB,fE]; omega),ap,(ad.step aq av ab),aF,U,U⟩
 refine aK 2 U<|eH<|kV 4 U<|e<|az (qM A C acc _ E ab) U ?_;rintro aU aX ⟨rfl,aw⟩;exact au 7 U<|f4 U U U U U<|⟨by rw [← J,lB ab,tO]; rfl,E.qK I aw ab⟩
theorem Jp (s:List UInt8) (w:ah) (a2:s.length≤1048576):
 aR aj 124 (bc [str s]) w (fun v w'=>v= .tuple #[str (letE s).1,.int .i64 (letE s).2]∧Wk w w'):=by
 refine enter func124 U ntmps124 U<|aP 8 U<|e<|al NH fun O aV aX J ap=> ?_;have aF:aI aV.heap O (marksOf []):=by rw [JJ]; exact ap
 refine aC 9 U<|cd U (fun ak=> ?_) fun ak=> ?_;exact aK 8 U<|f2 U U U<|⟨by show mq #[str [],.int .i64 21]=_; unfold letE; rw [if_pos (.inl ak)]; rfl,J.md⟩
 refine aB 4 U<|e<|fI tQ fun I a9 aZ ax aG=>aC 11 U ?_;have aY:=ap.lt;refine lp (fun an aA M=> ∃ (i:Nat) (A:ag),(i≤s.length)∧(∀ j,j < i→fZ (s.getD j 0)=true)∧(aI M.heap O<|marksOf<|lets<|s.take i)∧(Bd 102 5 M I A<|lets<|s.take i)∧(Wk w M)∧(Sl aA [(0,str s),(4,aH O),(5,aH I),(10,.int .i64 s.length),(11,.int .i64 i)])∧(s.length - i=an)) _ ⟨0,.slice none 0 0,ab,(fun j am=>by omega),(ax.md.B aF),(Bd.new aG),(Md.trans J.md ax.md),U,U⟩ ?_;rintro an aA M ⟨i,A,hi,hp,aw,Z,ad,aT,rfl⟩;refine cH aT ?_;have aS:=AX<|s.take i;rw [bW] at aS;have a0:=aw.lt;refine cS 6 U<|cd U (fun aQ=> ?_) fun aQ=> ?_;refine aB 15 U<|p (ga u9 U U ab)<|e<|az (Aj (s.getD i 0) _) U ?_;rintro a4 aU ⟨rfl,C⟩;refine aC 3 U<|cb U (fun ae=> ?_) fun ae=> ?_;have L:fZ (s.getD i 0)=false :=by simpa using ae
 exact aK 10 U<|tr<|bG 2 U<|f2 U U U<|⟨by show mq #[str [],.int .i64 21]=_; unfold letE; rw [if_pos (.inr<|uS ab L)]; rfl,Md.trans ad C⟩
 have L:fZ (s.getD i 0)=true :=by simpa using ae
 have aq:Wk w aU:=Md.trans ad C;have V:=C.B aw;have ac:=Z.md C fun _ _ h=>h;have a3:=C.size;refine aB 6 U<|p (ga u9 U U ab)<|p (p7 yZ U U<|by have :=pJ (s.getD i 0); omega)<|p (aM U<|JL V _)<|aC 3 U<|cb U (fun ai=> ?_) fun ai=> ?_;have E:¬s.getD i 0∈lets (s.take i):=of_decide_eq_false<|by simpa using ai
 refine aB 4 U<|p (ga u9 U U ab)<|p (p7 yZ U U<|by have :=pJ (s.getD i 0); omega)<|e<|st Gu U U (U) (V) (by rw [Bh]; have :=pJ (s.getD i 0); omega) fun aW ar aE=> ?_;have aO:=JM aE;have aL:Wk w aW:=Md.trans' aq ar fun k ay h=>by omega
 have aa:=ac.md ar fun k ay h=>by have :=ac.se ay; omega
 refine ao 5 U<|p (ga u9 U U ab)<|e<|az (nE I A (lets<|s.take i) (s.getD i 0) _ aa ab) U ?_;rintro a5 a7 ⟨rfl,aD,aJ,av,a1⟩;exact au 7 U<|tn<|⟨_,ab,i+1,aD,ab,(fun j am=>by rcases dW j i with h | h <;> first | exact hp j h | (rw [show j=i by omega]; exact L)),(by rw [sD ab,if_neg E]; exact av.B aO fun h=>by have :=aa.se h; omega),(by rw [sD ab,if_neg E]; exact aJ),(aa.step aL av<|by have :=J.md.size; omega),U,U⟩
 have E:s.getD i 0∈lets (s.take i):=by simpa using ai
 exact aK 7 U<|tn<|⟨_,ab,i+1,A,ab,(fun j am=>by rcases dW j i with h | h <;> first | exact hp j h | (rw [show j=i by omega]; exact L)),(by rw [sD ab,if_pos E]; exact V),(by rw [sD ab,if_pos E]; exact ac),aq,U,U⟩
 refine aK 2 U<|eH<|kV 4 U<|e<|az (qM I A (lets<|s.take i) _ Z<|by have :=AX (s.take i); rw [bW] at this; omega) U ?_;rintro a6 a8 ⟨rfl,aN⟩;exact au 5 U<|f2 U U U<|⟨by show mq #[str (lets<|s.take i),.int .i64 0]=_; unfold letE; rw [if_neg (by rw [uT (fun j am=>hp j ab)]; exact fun h=>h.elim ak dd),show s.take i=s from rj ab]; rfl,Z.qK ad aN<|by have :=J.md.size; omega⟩
end Go.Hb
end
namespace Go.Hb
def KF:Go.Shelf.Ren:=⟨fun n=>if n=125 then 128 else if n=128 then 180 else if n=129 then 181 else if n=190 then 79 else if n=258 then 127 else if n=302 then 171 else if n=303 then 172 else if n=304 then 173 else if n=305 then 174 else if n=306 then 175 else if n=307 then 176 else if n=308 then 177 else if n=309 then 178 else if n=310 then 179 else if n=329 then 226 else if n=330 then 227 else if n=333 then 225 else if n=334 then 228 else if n=335 then 229 else if n=336 then 230 else if n=344 then 270 else 0,fun n=>if n=0 then 0 else if n=3 then 3 else if n=4 then 4 else if n=5 then 5 else if n=9 then 9 else if n=31 then 27 else if n=46 then 268 else if n=51 then 349 else if n=53 then 150 else if n=131 then 184 else if n=182 then 342 else if n=183 then 343 else if n=218 then 404 else if n=222 then 407 else if n=228 then 446 else if n=229 then 447 else 0,fun n=>n⟩
theorem AS:Go.Proofs.Lays.n190 aj KF where
 mixed:=ai
 f125:=ai
 f128:=ai
 f129:=ai
 f190:=ai
 f258:=ai
 f302:=ai
 f303:=ai
 f304:=ai
 f305:=ai
 f306:=ai
 f307:=ai
 f308:=ai
 f309:=ai
 f310:=ai
 f329:=ai
 f330:=ai
 f333:=ai
 f334:=ai
 f335:=ai
 f336:=ai
 f344:=ai
 t0:=ai
 a0:=fun _=>ai
 z0:=fun _=>ai
 v0:=fun _=>ai
 t3:=ai
 a3:=fun _=>ai
 z3:=fun _=>ai
 v3:=fun _=>ai
 t4:=ai
 a4:=fun _=>ai
 z4:=fun _=>ai
 v4:=fun _=>ai
 t5:=ai
 a5:=fun _=>ai
 z5:=fun _=>ai
 v5:=fun _=>ai
 t9:=ai
 a9:=fun _=>ai
 z9:=fun _=>ai
 v9:=fun _=>ai
 t31:=ai
 a31:=fun _=>ai
 z31:=fun _=>ai
 v31:=fun _=>ai
 t46:=ai
 a46:=fun _=>ai
 z46:=fun _=>ai
 v46:=fun _=>ai
 t51:=ai
 a51:=fun _=>ai
 z51:=fun _=>ai
 v51:=fun _=>ai
 t53:=ai
 a53:=fun _=>ai
 z53:=fun _=>ai
 v53:=fun _=>ai
 t131:=ai
 a131:=fun _=>ai
 z131:=fun _=>ai
 v131:=fun _=>ai
 t182:=ai
 a182:=fun _=>ai
 z182:=fun _=>ai
 v182:=fun _=>ai
 t183:=ai
 a183:=fun _=>ai
 z183:=fun _=>ai
 v183:=fun _=>ai
 t218:=ai
 a218:=fun _=>ai
 z218:=fun _=>ai
 v218:=fun _=>ai
 t222:=ai
 a222:=fun _=>ai
 z222:=fun _=>ai
 v222:=fun _=>ai
 t228:=ai
 a228:=fun _=>ai
 z228:=fun _=>ai
 v228:=fun _=>ai
 t229:=ai
 a229:=fun _=>ai
 z229:=fun _=>ai
 v229:=fun _=>ai
theorem LQ (B n:Nat) (v:ag) (A:List (List UInt8)) (w:ah) (I:dM w B 9 1 v n (A.map str)) (aa:A.length < 4611686018427387904):
 aR aj 79 [v].toArray w (fun ae w'=>ae= .tuple #[]∧dM w' B 9 1 v n ((A.mergeSort fun x y=>decide (x≤y)).map str)∧Md (fun k=>v.ownBlock=some k) w w'):=by
 have hn:A.length=n:=by have :=I.1; simpa using this
 have hlen:(A.mergeSort fun x y=>decide (x≤y)).length=A.length:=Ee _;rcases I.2 with ⟨rfl,ai⟩ | ⟨g,cap,cur,rfl,V,E,L,M,O,J⟩
 · have ad:A= []:=jx ab;subst ad;refine gO (Any.slices_Sort_string_none AS none 0 w) ?_;rintro e w' ⟨rfl,rfl⟩;exact ⟨_,U,U,by rw [List.mergeSort_nil]; exact I,Md.refl _ _⟩
 · subst hn;rw [pE] at J;refine gO (calls_of_every_depth fun D=>AnyS.slices_Sort_string_alone AS D g 0 cap A w (holds_of_block E J) (bJ.1 E).1 aa) ?_;rintro e w' ⟨rfl,m,os,rfl⟩;have C:=grownBy_sorted (w:=w) (g:=g) (n:=m) (os:=os) (A.mergeSort fun x y=>decide (x≤y)).toArray;refine ⟨_,U,U,ownsRow_sorted hlen V E L M O,⟨C.os,C.output,C.size,fun k Z ac=>C.block k Z fun he=>ac ?_⟩⟩;simp only [cR]; exact he.symm
end Go.Hb
section
namespace Go.Hb.j5
open Go.Hb.ek
theorem JT (w:ah):
 aR aj 12 (bc [.pointer none]) w (fun v w'=>v= .pointer none∧Wk w w'):=by
 exact enter func12 U ntmps12 U<|aP 9 U<|p (fY pc U U)<|aC 2 U<|ct (U)<|aK 7 U<|aJ U<|⟨U,Md.refl _ _⟩
theorem Bp (C:aG) (w:ah):
 aR aj 12 (bc [.pointer (some C)]) w (fun v w'=> ∃ A bs,v=aH A∧w.heap.size≤A∧w.heap.size≤bs∧A≠bs∧aI w'.heap A [.pointer (some C),.map (some bs),.slice none 0 0]∧bN w'.heap bs cT (mT fun _=>none)∧Wk w w'):=by
 refine enter func12 U ntmps12 U<|aP 9 U<|p (fY pc U U)<|aC 2 U<|cf (U)<|aB 5 U<|e<|Bi fun E ae Z J O=> ?_;have ac:=J.size;refine p (hH (ps:= [(0,.pointer (some C)),(1,.map (some E))]) (L:= [.pointer (some C),.map (some E),.slice none 0 0]) L4 U<|U)<|e<|rL U fun M ag aa I V=> ?_;have ad:=I.size;exact au 4 U<|aJ U<|⟨M,E,U,ab,ab,ab,V,by rw [oE]; exact (bN.nil O).wk I.md,Md.trans J.md I.md⟩
theorem Kv (x:List UInt8) (n C:Int) (A:Nat) (w:ah) (E:aI w.heap A [.int .i64 C]):
 aR aj 76 (bc [str x,.int .i64 n,aH A]) w (fun v w'=>v= .bool (decide (n=C))∧Wk w w'):=by
 exact enter func76 U ntmps76 U<|aP 8 U<|p (aM U<|E.bd 0)<|au 5 U<|aJ U<|⟨U,Md.refl _ _⟩
theorem GZ (C J:Nat) (q:List UInt8→Option Int) (A:Int) (w:ah) (O:bN w.heap C cT (mT q)) (ac:aI w.heap J [.int .i64 A]):
 aR aj 75 (bc [.map (some C),.func (.func 76) #[] #[aH J]]) w (fun v w'=>v= .tuple #[]∧bN w'.heap C cT (mT<|eQ A q)∧Md (fun k=>k=C) w w'):=by
 have aQ:J≠C:=fun h=>by subst h; exact O.eE ac.choose_spec
 have a4:=ac.lt;have a5:=O.lt;refine enter func75 U ntmps75 U<|aP 2 U<|p mv<|e<|tf eV O U fun aA bb left a6 M aL aU aX ax=> ?_;have a8:=M.size;refine aC 3 U<|lp (fun am aD L=> ∃ (I:List (ag×ag)),(Lf q I)∧(fH L.heap aA C I)∧(bN L.heap C cT<|mT<|fq I q<|eQ A q)∧(aI L.heap J [.int .i64 A])∧(Md (fun k=>k=C) w L)∧(Sl aD [(0,.map (some C)),(1,.func (.func 76) #[] #[aH J]),(7,aH aA)])∧(I.length=am)) _ ⟨left,(Lf.start aU aX ax),aL,(by rw [vf ax (fun x aZ=>by simp [eQ,aZ])]; exact O.wk M.md),(Wk.B M.md ac),(M.md.mono fun _ _ h=>h.elim),U,U⟩ ?_;rintro am aD L ⟨I,aM,aG,ak,aO,ap,aY,rfl⟩;refine cH aY<|aP 2 U<|e<|sO aG U fun a3 a9 V a2 aE aF=>p (sP U)<|aC 3 U<|cb U (fun ae=> ?_) fun ae=> ?_;obtain ⟨ay,aa,Z⟩:=aF ae;have aW:=ay.length_eq;simp only [bA] at aW;obtain ⟨x,n,rfl,az,aq,a7,aS,av⟩:=aM.step ay;have aw:=ak.md aa fun h=>by omega
 have ad:=aa.B aO fun h=>by omega
 have an:=ap.trans' aa fun k aT h=>by omega
 refine aB 5 U<|p (rW Z U)<|ao 11 U<|e<|u6 FL U (Kv x n A J a2 ad) U ?_;rintro ba a0 ⟨rfl,E⟩;refine aC 2 U<|cb U (fun ai=> ?_) fun ai=> ?_;have hn:n=A:=by simpa using ai
 refine aB 3 U<|e<|zI (kx:=str x) eV jj (aw.wk E) U U ⟨x,U⟩ fun a1 ar aN aJ=> ?_;have al:bN a1.heap C cT (mT<|fq V q<|eQ A q):=by
  rw [av,show eQ A q x=none from by simp [eQ,az,hn],← A8];exact aN
 exact au 2 U<|tn<|⟨_,ab,V,aq,(aJ _ _ _ rfl (Z.md E id id)),al,(ar.B (Wk.B E ad) aQ),((an.trans' E fun _ _ h=>h.elim).trans' ar fun k aT h=>h),U,U⟩
 have hn:¬n=A:=by simpa using ai
 have al:bN a0.heap C cT (mT<|fq V q<|eQ A q):=by
  rw [av,show eQ A q x=q x from by simp [eQ,az,hn],show (fun y=>if y=x then q x else fq I q (eQ A q) y)=fq I q (eQ A q) from by
   funext y;by_cases h:y=x;subst h; rw [if_pos rfl,aS];rw [if_neg h]]
  exact aw.wk E
 exact aK 2 U<|tn<|⟨_,ab,V,aq,(Z.oI.md E id id),al,(Wk.B E ad),(an.trans' E fun _ _ h=>h.elim),U,U⟩
 obtain ⟨aV,rfl⟩:=aE ae;exact aK 2 U<|eH<|bG 1 U<|f0 U<|⟨U,by rw [aV,vd] at ak; exact ak,ap⟩
theorem MJ {G:Nat→Prop} {w w':ah} (h:Md G w.drew w'):Md G w w':=⟨h.os,h.output,h.size,h.cP⟩
theorem qz {w:ah} {B e size n k:Nat} {v:ag} {xs:List ag} (h:dM w B e size v n xs) (A:v.ownBlock=some k):∃ cur z,w.heap[k]? =some (.cells cur e z):=by
 rcases h.2 with ⟨rfl,_⟩ | ⟨g,cap,cur,rfl,_,C,_⟩
 · simp [cR] at A
 · simp only [cR,bp] at A;subst A;exact ⟨_,_,C⟩
structure bX (w:ah) (B bl bs:Nat) (vb:ag) (ca:aG) (g:List UInt8→Option Int) (n:Nat) (hist:List (List UInt8→Option Int)) (cs:List ag):Prop where
 obj:aI w.heap bl [.pointer (some ca),.map (some bs),vb]
 db:bN w.heap bs cT (mT g)
 eO:cC g n
 nB:n≤500
 nz:∀ x,g x≠some 0
 lo:B≤bl∧B≤bs
 back:dM w B 1 1 vb cs.length cs
 jW:vb.ownBlock≠some bl
 bk:dC (fun v q=> ∃ wb lb wm,v= .func (.func 77) #[] #[.pointer (some ⟨wb,0,none⟩),.pointer (some ⟨lb,0,none⟩)]∧wb≠bl∧lb≠bl∧wm≠bs∧vb.ownBlock≠some wb∧vb.ownBlock≠some lb∧
  aI w.heap wb [.map (some wm)]∧aI w.heap lb [.pointer (some ⟨bl,0,none⟩)]∧bN w.heap wm cT (mT q)) cs hist
def iZ (A bs:Nat) (C:ag) (k:Nat):Prop :=k=A∨k=bs∨C.ownBlock=some k
def jB (B C bs:Nat) (E:ag) (J:aG) (g:List UInt8→Option Int) (M:List (List UInt8→Option Int)) (A:Int) (l:List (List UInt8)) (w:ah):ag→ah→Prop :=fun v w'=>((∃ x∈l,cJ x=false)∧v= .int .i64 21∧Wk w w')∨((∀ x∈l,cJ x=true)∧∃ m,cC (eG g l) m∧((500 < m∧v= .int .i64 280∧Wk w w')∨(m≤500∧v= .int .i64 0∧
 ((cC (cy A g l) 0∧Wk w w')∨(∃ I L,(∃ x o,cy A g l x=some o)∧bX w' B C bs I J (dT A (cy A g l) g) m (M++ [cy A g l]) L∧Md (iZ C bs E) w w'∧(∀ k,I.ownBlock=some k→E.ownBlock=some k∨w.heap.size≤k))))))
theorem bX.wk {w w':ah} {B A bs:Nat} {I:ag} {C:aG} {g:List UInt8→Option Int} {n:Nat} {E:List (List UInt8→Option Int)} {cs:List ag} (h:bX w B A bs I C g n E cs) (hm:Wk w w'):bX w' B A bs I C g n E cs where
 obj:=Wk.B hm h.obj
 db:=h.db.wk hm
 eO:=h.eO
 nB:=h.nB
 nz:=h.nz
 lo:=h.lo
 back:=cE h.back hm
 jW:=h.jW
 bk:=h.bk.imp fun v q ⟨ad,ac,ae,J,L,M,O,U,V,Z,aa,ab⟩=>⟨ad,ac,ae,J,L,M,O,U,V,Wk.B hm Z,Wk.B hm aa,ab.wk hm⟩
theorem Cg (B Z bs:Nat) (cA:ag) (bU:aG) (g:List UInt8→Option Int) (n:Nat) (cn:List (List UInt8→Option Int)) (cs:List ag) (E:Int) (l:List (List UInt8)) (ba:Option aG) (bT:Nat) (w:ah) (A:bX w B Z bs cA bU g n cn cs) (O:dN w.heap ba l) (hw:E≠0) (ef:l.length≤1048576) (dy:∀ x∈l,x.length≤1048576) (ee:cs.length≤1048576):
 aR aj 32 (bc [aH Z,.int .i64 E,.slice ba l.length bT]) w (jB B Z bs cA bU g cn E l w):=by
 obtain ⟨J,L,rfl⟩:=iQ A.back;have dw:=A.lo;have eg:=A.nB;have bI:Z≠bs:=fun h=>by subst h; exact A.db.eE A.obj.choose_spec
 have ea:=A.obj.lt;have ec:=A.db.lt;refine enter func32 U ntmps32 U<|aP 2 U<|e<|zb U U fun I eB d6 b8 cP=> ?_;have el:=b8.size;refine e<|zb U U fun aX a7 d7 bp cR=> ?_;have en:=bp.size;have cY:Wk w a7:=b8.md.trans bp.md;have ch:aI a7.heap I [aH Z]:=Wk.B bp.md cP;refine ao 6 U<|p (aM U<|ch.bd 0)<|p (fY u32 U U)<|aC 2 U<|cf (U)<|aB 4 U<|e<|Bi fun C eA d5 b7 cN=> ?_;have ej:=b7.size;refine e<|al NG fun M dZ d8 br cU=> ?_;have et:=br.size;refine e<|st Gx U U (U) (cU) (by simp) fun aa bn cQ=> ?_;have cX:Wk a7 dZ:=b7.md.trans br.md;have bj:Wk a7 aa:=cX.trans' bn fun k V h=>by omega
 have bh:Wk w aa:=cY.trans bj;have em:=bn.size;have bw:aI aa.heap I [aH Z]:=Wk.B bj ch;have ck:aI aa.heap aX [.int .i64 E]:=Wk.B bj cR;have a4:aI aa.heap M [.map (some C)]:=cQ;have dE:bN aa.heap C cT (mT<|dU g []):=by
  rw [M5,oE];exact ((bN.nil cN).wk br.md).md bn fun h=>by omega
 have d4:=O.wk bh;refine ao 10 U<|p mv<|aC 5 U<|lp (fun aE cG aD=> ∃ (i m:Nat),(i≤l.length)∧(m≤i)∧(∀ x∈l.take i,cJ x=true)∧(cC (eG g<|l.take i)<|n+m)∧(Md (fun k=>k=C) aa aD)∧(bN aD.heap C cT<|mT<|dU g<|l.take i)∧(Sl cG [(3,aH I),(4,aH aX),(7,aH M),(8,bL m),(17,.slice ba l.length bT),(18,bL (l.length)),(19,bL i)])∧(l.length - i=aE)) _ ⟨0,0,ab,ab,(fun x aq=>by simp at aq),(by rw [List.take_zero,Ll]; exact A.eO),(Md.refl _ _),dE,U,U⟩ ?_;rintro aE cG aD ⟨i,m,hi,hm,aS,an,ar,bE,dI,rfl⟩;refine cH dI ?_;have aF:Wk w aD:=bh.trans' ar fun k V h=>by omega
 have ex:=ar.size;refine cS 6 U<|cd U (fun dp=> ?_) fun dp=> ?_;refine cx 5 U ?_;have dP:(l.getD i []).length≤1048576:=Av dy ab;have ax:l.take (i+1)=l.take i++ [l.getD i []]:=o7 l i [] ab;refine aB 1 U<|p (fv mM U U ab<|bo.ok (O.wk aF)<|oJ ab)<|p (aM U<|dN.get (i:=i) (O.wk aF) ab)<|ao 7 U<|e<|az (xU (l.getD i []) aD dP) U ?_;rintro v24 cB ⟨rfl,bi⟩;have a0:Md (fun k=>k=C) aa cB:=ar.trans<|bi.mono fun _ _ h=>h.elim;have bl:=aF.trans bi;have bH:=bE.wk bi;have cj:=a0.B a4 fun h=>by omega
 have de:=a0.B bw fun h=>by omega
 have ca:=A.wk bl;refine aC 3 U<|cb U (fun bv=> ?_) fun bv=> ?_;have bM:cJ (l.getD i [])=false :=by simpa using bv
 exact aK 9 U<|tr<|bG 2 U<|aJ U<|.inl ⟨⟨_,iM (show i < l.length by omega),bM⟩,U,bl⟩;have bM:cJ (l.getD i [])=true :=by simpa using bv
 have bK:∀ x∈l.take (i+1),cJ x=true :=fun x aq=>by
  rw [ax,fl,gU] at aq;rcases aq with aq | rfl;exact aS x aq;exact bM
 refine aB 4 U<|p (aM U<|cj.bd 0)<|ao 1 U<|p (Js eV pf jj (bH.ma) U U (⟨_,U⟩) (C6 g (l.take i)<|l.getD i [])<|M6 g (l.take i)<|l.getD i [])<|p mv<|aC 12 U<|cb U (fun bx=> ?_) fun bx=> ?_;have cu:l.getD i []∉l.take i:=by simpa using bx
 refine cx 1 U<|wj 8 fun ae=>nh 0 U ae (cj.bd 0)<|lX [1] U ae<|nh 2 U ae (de.bd 0)<|lX [3,4] U ae<|nh 5 U ae (ca.obj.bd 1)<|lX [6] U ae<|lq 7 U ai (fun w' O=>qg eV pf jj (gY.md (ca.db.ma) O id) U U (⟨_,U⟩)<|sI g<|l.getD i []) ae<|oC 8 U ai ai<|tH (kx:=str<|l.getD i []) (v:= .int .i64<|(g<|l.getD i []).getD 0) eV jj (bH.wk ae) U U U ⟨_,U⟩ fun bP c4 a3=> ?_;have b4:Md (fun k=>k=C) cB bP:=(ae.mono fun _ _ h=>h.elim).trans c4;rw [← M4 cu,← ax] at a3;have bm:Md (fun k=>k=C) aa bP:=a0.trans b4;have dl:=bm.B a4 fun h=>by omega
 have d3:Wk w bP:=bl.trans' b4 fun k V h=>by omega
 refine oD ai<|kV 3 U<|p (aM U<|dl.bd 0)<|ao 1 U<|p (qg eV pf jj (a3.ma) U U (⟨_,U⟩)<|C6 g (l.take<|i+1)<|l.getD i [])<|aC 3 U<|cd U (fun cm=> ?_) fun cm=> ?_;have bC:g (l.getD i [])=none:=by
  have h0:(if l.getD i []∈l.take (i+1) then (g<|l.getD i []).getD 0 else 0)=0:=ab;rw [if_pos (by rw [ax]; simp)] at h0;cases hg:g (l.getD i []) with
  | none=>rfl
  | some o=>rw [hg] at h0; simp only [gV] at h0; subst h0; exact absurd hg<|A.nz _
 exact aB 2 U<|p (cK<|m+1)<|ao 5 U<|p (cK<|i+1)<|au 2 U<|tn<|⟨_,ab,i+1,m+1,ab,ab,bK,(by rw [ax,← fT]; exact Lk an cu bC),bm,a3,U,U⟩
 have bC:∃ o,g (l.getD i [])=some o:=by
  cases hg:g (l.getD i []) with
  | some o=>exact ⟨o,rfl⟩
  | none=>exfalso; apply cm; rw [hg]; simp
 exact aB 4 U<|p (cK<|i+1)<|au 2 U<|tn<|⟨_,ab,i+1,m,ab,ab,bK,(by rw [ax]; exact B6 an<|.inr bC),bm,a3,U,U⟩
 have cv:l.getD i []∈l.take i:=by simpa using bx
 exact aB 4 U<|p (cK<|i+1)<|au 2 U<|tn<|⟨_,ab,i+1,m,ab,ab,bK,(by rw [ax]; exact B6 an<|.inl cv),a0,(by rw [ax,M7 cv]; exact bH),U,U⟩
 refine aK 2 U<|eH<|ji 4 U ?_;obtain rfl :i=l.length:=ab;rw [ux] at aS an bE;have dG:=bE;have cc:=A.wk aF;have dh:=ar.B bw fun h=>by omega
 have dm:=ar.B a4 fun h=>by omega
 have dk:=ar.B ck fun h=>by omega
 refine aB 1 U<|p (aM U<|dh.bd 0)<|ao 2 U<|p (aM U<|cc.obj.bd 1)<|p (sF eV U U cc.db A.eO)<|ao 1 U<|p (cK<|n+m)<|aC 3 U<|cd U (fun dq=> ?_) fun dq=> ?_;exact aK 7 U<|aJ U<|.inr ⟨aS,n+m,an,.inl ⟨ab,U,aF⟩⟩;refine aB 4 U<|p (aM U<|dm.bd 0)<|p oG<|e<|az (GZ C aX (dU g l) E aD dG dk) U ?_;rintro v59 aV ⟨rfl,a6,c7⟩;have aL:Md (fun k=>k=C) aa aV:=ar.trans c7;have aZ:Wk w aV:=bh.trans' aL fun k V h=>by omega
 have bu:=aL.B a4 fun h=>by omega
 have ci:=aL.B bw fun h=>by omega
 have di:=aL.B ck fun h=>by omega
 have a2:=A.wk aZ;have eo:=aZ.size;have ep:=aL.size;obtain ⟨bV,d2,_,a5⟩:=a6.eO;refine ao 5 U<|p (aM U<|bu.bd 0)<|p (sF eV U U a6 a5)<|aC 3 U<|cd U (fun dr=> ?_) fun dr=> ?_;have bD:bV.size=0:=ab;rw [bD] at a5;exact aK 7 U<|aJ U<|.inr ⟨aS,n+m,an,.inr ⟨ab,U,.inl ⟨a5,aZ⟩⟩⟩;have bD:bV.size≠0:=ab;refine aB 5 U<|p (aM U<|bu.bd 0)<|e<|tf eV a6 U fun aU eC left eh bq c0 dt dz co=> ?_;have er:=bq.size;refine aC 3 U<|lp (fun aE cI a8=> ∃ (aT:List (ag×ag)),(Lf (cy E g l) aT)∧(fH a8.heap aU C aT)∧(bN a8.heap bs cT<|mT<|fq aT g<|dT E (cy E g l) g)∧(Md (fun k=>k=bs∨k=aU) aV a8)∧(Sl cI [(3,aH I),(4,aH aX),(7,aH M),(64,aH aU)])∧(aT.length=aE)) _ ⟨left,(Lf.start dt dz co),c0,(by rw [vf (a:=g) (b:=dT E (cy E g l) g) co (fun x aq=>(Ky aq).symm)]; exact a2.db.wk bq.md),(bq.md.mono fun _ _ h=>h.elim),U,U⟩ ?_;rintro aE cI a8 ⟨aT,c2,c1,bJ,ad,dJ,rfl⟩;refine cH dJ<|aP 2 U<|e<|sO c1 U fun d0 ey cw ak cL cM=>p (sP U)<|aC 3 U<|cb U (fun bt=> ?_) fun bt=> ?_;obtain ⟨cr,b6,b3⟩:=cM bt;have dv:=cr.length_eq;simp only [bA] at dv;obtain ⟨x,o,rfl,dH,c3,ei,ed,ds⟩:=c2.step cr;have a1:Md (fun k=>k=bs∨k=aU) aV ak:=ad.trans<|b6.mono fun k _ h=> .inr h;have dL:=bJ.md b6 fun h=>by omega
 have dg:=a1.B ci fun h=>by omega
 have dj:=a1.B di fun h=>by omega
 have dB:=a1.B a2.obj fun h=>by have :=bI; omega
 refine aB 5 U<|p (rW b3 U)<|aC 4 U<|wj 6 fun aw=>nh 0 U aw (dg.bd 0)<|lX [1,2] U aw<|nh 3 U aw (dB.bd 1)<|lX [4] U aw<|nh 5 U aw (dj.bd 0)<|oC 6 U ai ai<|tH (kx:=str x) (v:= .int .i64 E) eV jj (dL.wk aw) U U U ⟨_,U⟩ fun bQ c5 c8=> ?_;have b5:Md (fun k=>k=bs) ak bQ:=(aw.mono fun _ _ h=>h.elim).trans c5;have c6:Md (fun k=>k=bs∨k=aU) aV bQ:=a1.trans<|b5.mono fun k _ h=> .inl h;have cZ:=b3.oI.md b5 (fun h=>by omega) fun h=>by omega
 have dK:bN bQ.heap bs cT (mT<|fq cw g<|dT E (cy E g l) g):=by
  rw [ds,BP dH,← oF];exact c8
 exact oD ai<|bG 1 U<|tn<|⟨_,ab,cw,c3,cZ,dK,c6,U,U⟩
 obtain ⟨du,rfl⟩:=cL bt;refine aK 2 U<|eH<|ji 3 U ?_;rw [du,vd] at bJ;have bz:=ad.B ci fun h=>by omega
 have cq:=ad.B a2.obj fun h=>by have :=bI; omega
 have ct:¬(fC J cs.length L).ownBlock=some I:=fun h=>by have :=(dF A.back h).2; omega
 have dn:dM ak B 1 1 (.slice J cs.length L) cs.length cs:=da a2.back ad (fun k V h=>by
  rcases h with h | h;subst h; obtain ⟨cur,z,aQ⟩:=qz A.back V; exact A.db.eE aQ;have :=(dF A.back V).2; omega)
 have aA:(fun w'=>Md (fun q=>(fC J cs.length L).ownBlock=some q) ak w') ak.drew:=(Md.refl _ _).drew;refine sG (fun w'=>Md (fun q=>(fC J cs.length L).ownBlock=some q) ak w') 10 U wide aA<|wh 0 U (fun w' O=>aM U<|(O.B bz ct).bd 0) aA<|wh 1 U (fun w' O=>aM U<|(O.B bz ct).bd 0) aA<|mR [2,3] U aA<|wh 4 U (fun w' O=>aM U<|(O.B cq A.jW).bd 2) aA<|wi 5 U (oG) aA<|sC 6 U ai<|n7 xA U U fun d1 cD d9 b9 cV=> ?_;have ev:=b9.size;have ac:Wk ak cD:=MJ b9.md;have ew:=ac.size;have ce:(fun w'=>Md (fun q=>(fC J cs.length L).ownBlock=some q) ak w') cD:=Md.mono ac fun _ _ h=>h.elim;refine ⟨ce,?_⟩;refine sC 7 U ai<|ap xA (cE dn ac) U (by have :=ad.size; omega) U (bo.jT cV) (U) (U) ab ab fun ez cF cp am dQ aO=> ?_;have dQ:=am.size;have dD:=am.B (Wk.B ac cq) A.jW;obtain ⟨aW,aY,rfl⟩:=iQ cp;have cg:(fun w'=>Md (fun q=>(fC J cs.length L).ownBlock=some q) ak w') cF:=ce.trans' am fun _ _ h=>h;refine ⟨cg,?_⟩;refine mR [8,9] U cg<|oC 10 U ai ai<|st zD U U (U) (dD) (by simp) fun a9 av cO=> ?_
 skip
 refine oD ai<|bG 7 U<|aJ U ?_;have eq:=ad.size;have ek:=av.size;have dA:dM cF B 1 1 (.slice aW (cs.length+1) aY) (cs++ [nR (.func 77) #[] #[aH M,aH I]]).length (cs++ [nR (.func 77) #[] #[aH M,aH I]]):=by rw [bB]; exact cp
 have hT:Md (iZ Z bs<|.slice J cs.length L) w a9:=((((aZ.mono fun _ _ h=>h.elim).trans' ad (fun k V h=>by
  rcases h with h | h;exact .inr<|.inl h;omega)).trans' ac (fun _ _ h=>h.elim)).trans' am (fun k V h=> .inr<|.inr h)).trans' av (fun k V h=> .inl h)
 have dx:=fun k h=>(dF (k:=k) A.back h).2;have dO:¬(fC J cs.length L).ownBlock=some bs:=fun h=>by obtain ⟨cur,z,aQ⟩:=qz A.back h; exact A.db.eE aQ
 have aN:∀ b,b=I∨b=M∨b=C→¬(fC aW (cs.length+1) aY).ownBlock=some b∧¬(fC J cs.length L).ownBlock=some b:=fun b hb=>by
  have ay:¬(fC J cs.length L).ownBlock=some b:=fun h=>by have :=dx b h; omega
  refine ⟨fun h=> ?_,ay⟩;rcases aO b h with h | h;exact ay h;omega
 have dc:aI a9.heap I [aH Z]:=av.B (am.B (Wk.B ac bz) (aN I<|.inl rfl).2) fun h=>by omega
 have dd:aI a9.heap M [.map (some C)]:=av.B (am.B (Wk.B ac<|ad.B bu fun h=>by omega) (aN M<|.inr<|.inl rfl).2) fun h=>by omega
 have c9:bN a9.heap C cT (mT<|cy E g l):=(((a6.md ad fun h=>by omega).wk ac).md am (aN C<|.inr<|.inr rfl).2).md av fun h=>by omega
 refine .inr ⟨aS,n+m,an,.inr ⟨ab,U,.inr ⟨.slice aW (cs.length+1) aY,cs++ [nR (.func 77) #[] #[aH M,aH I]],cC.pos a5 bD,⟨cO,((bJ.wk ac).md am dO).md av (fun h=>bI h.symm),KA hw an,ab,Kz hw A.nz,dw,da dA av (fun k V h=> ?_),fun h=> ?_,dC.snoc ⟨M,I,C,U,ab,ab,ab,(aN M<|.inr<|.inl U).1,(aN I<|.inl U).1,dd,dc,c9⟩<|dC.imp (fun v q hb=> ?_) A.bk⟩,hT,fun k h=> ?_⟩⟩⟩;subst h;rcases aO k V with h | h;exact A.jW h;omega;rcases aO Z h with h | h;exact A.jW h;omega;obtain ⟨bR,bO,bS,ay,bW,bZ,b0,b1,b2,bb,bf,bg⟩:=hb;have dR:=bb.lt;have dS:=bf.lt;have dV:bR≠bs:=fun h=>by subst h; exact A.db.eE bb.choose_spec
 have dW:bO≠bs:=fun h=>by subst h; exact A.db.eE bf.choose_spec
 have dX:bS≠Z:=fun h=>by subst h; exact bg.eE A.obj.choose_spec
 have dY:¬(fC J cs.length L).ownBlock=some bS:=fun h=>by obtain ⟨cur,z,aQ⟩:=qz A.back h; exact bg.eE aQ
 have cz:∀ b,b < w.heap.size→¬(fC J cs.length L).ownBlock=some b→¬(fC aW (cs.length+1) aY).ownBlock=some b:=fun b hb ay h=>by
  rcases aO b h with h | h;exact ay h;omega
 exact ⟨bR,bO,bS,ay,bW,bZ,b0,cz bR dR b1,cz bO dS b2,hT.B bb (fun h=>by rcases h with h | h | h; exact bW h; exact dV h; exact b1 h),hT.B bf (fun h=>by rcases h with h | h | h; exact bZ h; exact dW h; exact b2 h),bg.md hT fun h=>by rcases h with h | h | h; exact dX h; exact b0 h; exact dY h⟩;rcases aO k h with h | h;exact .inl h;exact .inr ab
end Go.Hb.j5
end
section
namespace Go.Hb
open Go.Hb.ek
open Go.Hb.j5
theorem yN (B A bs:Nat) (J:ag) (E:aG) (g:List UInt8→Option Int) (n:Nat) (I:List (List UInt8→Option Int)) (cs:List ag) (l:List (List UInt8)) (C:Option aG) (L:Nat) (w:ah) (M:bX w B A bs J E g n I cs) (V:dN w.heap C l) (aa:l.length≤1048576) (ab:∀ x∈l,x.length≤1048576) (Z:cs.length≤1048576):
 aR aj 14 (bc [aH A,.slice C l.length L]) w (jB B A bs J E g I 1 l w):=by
 exact enter func14 U ntmps14 U<|aP 9 U<|e<|az (Cg B A bs J E g n I cs 1 l C L w M V aW aa ab Z) U fun ac ad O=>p aE<|au 3 U<|aJ U<|O
theorem y7 (B A bs:Nat) (J:ag) (E:aG) (g:List UInt8→Option Int) (n:Nat) (I:List (List UInt8→Option Int)) (cs:List ag) (l:List (List UInt8)) (C:Option aG) (L:Nat) (w:ah) (M:bX w B A bs J E g n I cs) (V:dN w.heap C l) (aa:l.length≤1048576) (ab:∀ x∈l,x.length≤1048576) (Z:cs.length≤1048576):
 aR aj 15 (bc [aH A,.slice C l.length L]) w (jB B A bs J E g I (-1) l w):=by
 exact enter func15 U ntmps15 U<|aP 9 U<|e<|az (Cg B A bs J E g n I cs (-1) l C L w M V aW aa ab Z) U fun ac ad O=>p aE<|au 3 U<|aJ U<|O
theorem ke (B A bs:Nat) (J:ag) (E:aG) (g:List UInt8→Option Int) (n:Nat) (I:List (List UInt8→Option Int)) (cs:List ag) (x:List UInt8) (w:ah) (C:bX w B A bs J E g n I cs):
 aR aj 19 (bc [aH A,str x]) w (fun v w'=>v= .int .i64 ((g x).getD 0)∧Wk w w'):=by
 exact enter func19 U ntmps19 U<|aP 9 U<|p (fY u32 U U)<|aC 2 U<|cf (U)<|aB 7 U<|p (aM U<|C.obj.bd 1)<|ao 1 U<|p (qg eV pf jj (C.db.ma) U U (⟨_,U⟩)<|sI g x)<|au 4 U<|aJ U<|⟨U,Md.refl _ _⟩
theorem AW (B C bs:Nat) (J:ag) (E:aG) (g:List UInt8→Option Int) (n:Nat) (I:List (List UInt8→Option Int)) (cs:List ag) (w:ah) (A:bX w B C bs J E g n I cs):
 aR aj 18 (bc [aH C]) w (fun v w'=>v=bL n∧Wk w w'):=by
 exact enter func18 U ntmps18 U<|aP 9 U<|p (fY u32 U U)<|aC 2 U<|cf (U)<|aB 7 U<|p (aM U<|A.obj.bd 1)<|p (sF eV U U A.db A.eO)<|au 4 U<|aJ U<|⟨U,Md.refl _ _⟩
theorem FZ (B A bs:Nat) (I:ag) (C:aG) (g:List UInt8→Option Int) (n:Nat) (E:List (List UInt8→Option Int)) (cs:List ag) (x:List UInt8) (w:ah) (L:bX w B A bs I C g n E cs) (M:g x=some 1):
 aR aj 20 (bc [aH A,str x]) w (fun v w'=>v= .bool true∧Wk w w'):=by
 refine enter func20 U ntmps20 U<|aP 10 U<|e<|az (ke B A bs I C g n E cs x w L) U ?_;rintro V Z ⟨rfl,J⟩;refine aC 9 U<|cd U (fun O=> ?_) fun h=>absurd (by rw [M]; rfl) h;exact aK 8 U<|aJ U<|⟨U,J⟩
theorem FY (B A bs:Nat) (J:ag) (C:aG) (g:List UInt8→Option Int) (n:Nat) (I:List (List UInt8→Option Int)) (cs:List ag) (x:List UInt8) (w:ah) (M:bX w B A bs J C g n I cs) (E:g x=some (-1)):
 aR aj 20 (bc [aH A,str x]) w (fun v w'=>v= .bool false∧Wk w w'):=by
 refine enter func20 U ntmps20 U<|aP 10 U<|e<|az (ke B A bs J C g n I cs x w M) U ?_;rintro Z aa ⟨rfl,L⟩;refine aC 9 U<|cd U (fun h=>absurd h<|by rw [E]; decide) fun V=>cx 6 U<|cd U (fun O=> ?_) fun h=>absurd (by rw [E]; rfl) h;exact aK 8 U<|aJ U<|⟨U,L⟩
end Go.Hb
end
section
namespace Go.Hb
open Go.Hb.ek
open Go.Hb.j5
theorem Ks {w:ah} {B e n C i:Nat} {a:Option aG} {l:List ag} (h:w.ownsRow B e 1 (.slice a n C) n l) (hi:i≤n) (hn:0 < n):w.ownsRow B e 1 (.slice a i C) i (l.take i):=by
 have V:l.length=n:=by have :=h.1; simpa using this
 rcases h.2 with ⟨A,O⟩ | ⟨g,cap,cur,A,I,L,hle,J,M,E⟩
 · simp only [kI] at A; omega
 · simp only [kI] at A;obtain ⟨rfl,_,rfl⟩:=A;refine ⟨by rw [bW]; omega,.inr ⟨g,C,cur,U,I,L,ab,J,M,?_⟩⟩;rw [pE] at E ⊢;rw [← E,List.take_take,uy hi]
theorem Kr {w:ah} {B e n A j:Nat} {a:Option aG} {l:List ag} (h:w.ownsRow B e 1 (.slice a n A) n l):bo w.heap (dc a A j 1) (l.drop j):=by
 have C:=(fO h).2.drop (cap:=A) (k:=j) (size:=1)<|by have E:=h.1; have I:=(fO h).1; omega
 rwa [pE] at C
theorem G1 (l:List ag) (i j:Nat) (B n E C:Nat) (w:ah) (I:dM w B 1 1 (.slice (some ⟨C,0,none⟩) n E) n l) (ac:i < j∧j≤n) (ae:n≤1048577) (J:(l.drop j).all kH=true):
 aR aj 33 (bc [.slice (some ⟨C,0,none⟩) n E,bL i,bL j]) w (fun v w'=>v= .slice (some ⟨C,0,none⟩) (i+(n - j)) E∧dM w' B 1 1 (.slice (some ⟨C,0,none⟩) (i+(n - j)) E) (i+(n - j)) (l.take i++l.drop j)∧Md (fun q=>q=C) w w'):=by
 have ad:l.length=n:=by have :=I.1; simpa using this
 have aa:=(fO I).1;refine enter func33 U ntmps33 U<|aP 12 U<|p (Cp pX U U U U ab)<|aC 10 U<|cd U (fun h=>absurd h ab) fun Z=>cx 10 U ?_;have A:(fun w'=>Wk w w') w.drew:=(Md.refl _ _).drew;exact sG (fun w'=>Wk w w') 6 U wide A<|mR [0,1] U A<|wi 2 U (xy pX U U ab) A<|mR [3,4] U A<|wi 5 U (tw pX U U ab) A<|oC 6 U ai ai<|Ff (B:=B) (xs:=l.take i) (news:=l.drop j) (n:=i) (m:=n - j) xA (Ks (cE I A) ab ab) U U (show bo _ (dc (some ⟨C,0,none⟩) E j 1) (l.drop j) from Kr<|cE I A) (by unfold dc; split <;> simp) (by rw [gS]; omega) J ab fun ak L O=>JD 7 U (fun _=>aE) (fun h=>dd<|(show true =_ from by kernel_rfl).trans h)<|oD ai<|kV 7 U<|p (tv pX U U U ab)<|e<|F9 MD NI U O (by simp) U ab fun al M V=>au 9 U<|aJ U<|⟨U,V,Md.trans (A.mono fun _ _ h=>h.elim)<|Md.trans L<|M.mono fun q _ h=>by simpa [cR] using h.symm⟩
theorem Fl (aw M aa ac bs:Nat) (aV:aG) (a7:ag) (q g:List UInt8→Option Int) (w:ah) (aT:aI w.heap aw [.map (some aa)]) (an:aI w.heap M [aH ac]) (aq:aI w.heap ac [.pointer (some aV),.map (some bs),a7]) (aO:bN w.heap aa cT (mT q)) (mS:bN w.heap bs cT (mT g)) (aJ:aa≠bs):
 aR aj 77 (bc [aH aw,aH M]) w (fun v w'=>v= .tuple #[]∧bN w'.heap bs cT (mT<|eN q g)∧Md (fun k=>k=bs) w w'):=by
 have bl:=aT.lt;have bm:=an.lt;have bn:=aq.lt;have bo:=aO.lt;have bp:=mS.lt;have bq:M≠bs:=fun h=>by subst h; exact mS.eE an.choose_spec
 have br:ac≠bs:=fun h=>by subst h; exact mS.eE aq.choose_spec
 refine enter func77 U ntmps77 U<|aP 2 U<|p (aM U<|aT.bd 0)<|e<|tf eV aO U fun A V left bg E aZ a1 a4 aE=> ?_;have bi:=E.size;refine aC 3 U<|lp (fun ax aU Z=> ∃ (I:List (ag×ag)),(Lf q I)∧(fH Z.heap A aa I)∧(bN Z.heap bs cT<|mT<|fq I g<|eN q g)∧(Md (fun k=>k=bs∨k=A) V Z)∧(Sl aU [(0,aH aw),(1,aH M),(5,aH A)])∧(I.length=ax)) _ ⟨left,(Lf.start a1 a4 aE),aZ,(by rw [vf (a:=g) (b:=eN q g) aE (fun x a6=>by simp [eN,a6])]; exact mS.wk E.md),(Md.refl _ _),U,U⟩ ?_;rintro ax aU Z ⟨I,a0,aY,ar,ay,a5,rfl⟩;refine cH a5<|aP 2 U<|e<|sO aY U fun a9 bj O a8 aW aX=>p (sP U)<|aC 3 U<|cb U (fun al=> ?_) fun al=> ?_;obtain ⟨aN,aA,ad⟩:=aX al;have a3:=aN.length_eq;simp only [bA] at a3;obtain ⟨x,o,rfl,aQ,az,bh,bb,aD⟩:=a0.step aN;have L:Md (fun k=>k=bs∨k=A) V a8:=ay.trans<|aA.mono fun k _ h=> .inr h;have aF:=L.B (Wk.B E.md an) fun h=>by omega
 have aL:=L.B (Wk.B E.md aq) fun h=>by omega
 have aS:=ar.md aA fun h=>by omega
 refine aB 5 U<|p (rW ad U)<|aC 12 U<|cd U (fun am=> ?_) fun am=> ?_;have ap:o=0:=by simpa using am
 refine aB 1 U<|p (aM U<|aF.bd 0)<|ao 2 U<|p (aM U<|aL.bd 1)<|ao 1 U<|e<|zI (kx:=str x) eV jj aS U U ⟨x,U⟩ fun J C ak ba=> ?_;have ae:=(ad.oI).md C (fun h=>by omega) fun h=>aJ h;have ai:Md (fun k=>k=bs∨k=A) V J:=L.trans<|C.mono fun k _ h=> .inl h;have av:bN J.heap bs cT (mT<|fq O g<|eN q g):=by
  rw [aD,show eN q g x=none from by simp [eN,aQ,ap],← A8];exact ak
 exact au 2 U<|tn<|⟨_,ab,O,az,ae,av,ai,U,U⟩
 have ap:o≠0:=by simpa using am
 refine aB 1 U<|p (aM U<|aF.bd 0)<|ao 2 U<|p (aM U<|aL.bd 1)<|ao 2 U<|e<|tH (kx:=str x) (v:= .int .i64 o) eV jj aS U U U ⟨x,U⟩ fun J C ak=> ?_;have ae:=(ad.oI).md C (fun h=>by omega) fun h=>aJ h;have ai:Md (fun k=>k=bs∨k=A) V J:=L.trans<|C.mono fun k _ h=> .inl h;have av:bN J.heap bs cT (mT<|fq O g<|eN q g):=by
  rw [aD,show eN q g x=some o from by simp [eN,aQ,ap],← oF];exact ak
 exact au 2 U<|tn<|⟨_,ab,O,az,ae,av,ai,U,U⟩
 obtain ⟨a2,rfl⟩:=aW al;exact aK 2 U<|eH<|bG 1 U<|f0 U<|⟨U,by rw [a2,vd] at ar; exact ar,(E.md.mono fun _ _ h=>h.elim).trans' ay fun k bf h=>by rcases h with h | h; exact h; omega⟩
theorem CY (B A bs:Nat) (I:ag) (E:aG) (g:List UInt8→Option Int) (n:Nat) (w:ah) (C:bX w B A bs I E g n [] []):
 aR aj 16 (bc [aH A]) w (fun v w'=>v= .bool false∧Wk w w'):=by
 obtain ⟨J,L,rfl⟩:=iQ C.back;refine enter func16 U ntmps16 U<|aP 9 U<|p (fY u32 U U)<|ao 1 U<|gb (t:=6) U (fun h=>absurd (h.symm.trans<|U) dd) fun O=>ao 3 U<|bU U (aM U<|C.obj.bd 2)<|aC 5 U<|cd U (fun M=> ?_) fun h=>absurd U h;exact aK 7 U<|aJ U<|⟨U,Md.refl _ _⟩
theorem CZ (B E bs:Nat) (ad:ag) (ae:aG) (g q:List UInt8→Option Int) (n m:Nat) (aA:List (List UInt8→Option Int)) (cs:List ag) (w:ah) (C:bX w B E bs ad ae g n (aA++ [q]) cs) (hm:cC (eN q g) m) (aV:m≤500) (aU:cs.length≤1048577):
 aR aj 16 (bc [aH E]) w (fun v w'=>v= .bool true∧∃ aF aI,bX w' B E bs aF ae (eN q g) m aA aI∧Md (iZ E bs ad) w w'∧(∀ k,aF.ownBlock=some k→ad.ownBlock=some k)):=by
 obtain ⟨A,v0,rfl,aQ,aO⟩:=dC.pop C.bk;obtain ⟨L,J,Z,rfl,i1,i2,i3,i4,i5,i6,i7,i8⟩:=aO;have aT:(A++ [nR (.func 77) #[] #[aH L,aH J]]).length=A.length+1:=by simp
 have M:=C.back;rw [aT] at M aU;obtain ⟨I,O,rfl⟩:∃ I O,ad= .slice (some ⟨I,0,none⟩) (A.length+1) O:=by
  rcases M.2 with ⟨_,ai⟩ | ⟨g2,cap,cur,aa,_⟩;omega;exact ⟨g2,cap,aa⟩
 have ax:I≠E:=fun h=>C.jW<|by rw [h]; rfl
 have ay:I≠bs:=fun h=>by obtain ⟨cur,z,ac⟩:=qz M rfl; rw [h] at ac; exact C.db.eE ac
 refine enter func16 U ntmps16 U<|aP 8 U<|p mv<|p (fY u32 U U)<|ao 1 U<|gb (t:=6) U (fun h=>absurd (h.symm.trans<|U) dd) fun a5=>bU U mv<|ao 2 U<|bU U (aM U<|C.obj.bd 2)<|aC 5 U<|cd U (fun h=>absurd h ab) fun a4=>aB 4 U<|p mv<|ao 2 U<|p (aM U<|C.obj.bd 2)<|ao 1 U<|p (xi<|A.length)<|ao 5 U<|p mv<|ao 2 U<|p (aM U<|C.obj.bd 2)<|ao 1 U<|p (fv pX U U ab<|bo.ok ((fO M).2)<|by simp)<|p (aM U<|bo.uM (fO M).2 (i:=A.length) (u:=nR (.func 77) #[] #[aH L,aH J])<|by simp)<|e<|u6 FM U (Fl L J Z E bs ae _ q g w i6 i7 C.obj i8 C.db i3) U ?_;rintro a6 a2 ⟨rfl,aX,al⟩;have aE:=al.B C.obj fun h=>by have :=C.db; subst h; exact this.eE C.obj.choose_spec
 have aS:=da M al fun k V h=>ay<|by simp only [cR,bp] at V; omega
 refine ao 4 U<|p mv<|p mv<|ao 2 U<|p (aM U<|aE.bd 2)<|ao 2 U<|p (cK<|A.length+1)<|e<|az (G1 _ A.length (A.length+1) B (A.length+1) O I a2 aS ab ab<|by simp) U ?_;rintro a7 a8 ⟨rfl,aD,am⟩;have aW:=am.B aE fun h=>ax h.symm;refine ao 2 U<|e<|st zD U U (U) (aW) (by simp) fun a3 an aN=> ?_
 skip
 refine au 8 U<|aJ U ?_;have hT:Md (iZ E bs<|.slice (some ⟨I,0,none⟩) (A.length+1) O) w a3:=((al.mono fun k _ h=> .inr<|.inl h).trans' am fun k V h=> .inr<|.inr<|by rw [h]; rfl).trans' an fun k V h=> .inl h;rw [show A.length+(A.length+1 - (A.length+1))=A.length by omega] at*;have aK:(A++ [nR (.func 77) #[] #[aH L,aH J]]).take A.length++(A++ [nR (.func 77) #[] #[aH L,aH J]]).drop (A.length+1)=A:=by simp
 rw [aK] at aD;refine ⟨U,.slice (some ⟨I,0,none⟩) A.length O,A,⟨aN,(aX.md am fun h=>ay h.symm).md an (fun h=>by have :=C.db; subst h; exact this.eE C.obj.choose_spec),hm,aV,Fk C.nz,C.lo,da aD an (fun k V h=>ax<|by simp only [cR,bp] at V; omega),fun h=>C.jW h,dC.imp (fun v q hb=> ?_) aQ⟩,hT,fun k h=>h⟩;obtain ⟨L,J,Z,aL,ap,aq,aa,ai,ar,av,aw,ak⟩:=hb;have aY:L≠bs:=fun h=>by subst h; exact C.db.eE av.choose_spec
 have aZ:J≠bs:=fun h=>by subst h; exact C.db.eE aw.choose_spec
 have a0:Z≠E:=fun h=>by subst h; exact ak.eE C.obj.choose_spec
 have a1:¬(fC (some ⟨I,0,none⟩) (A.length+1) O).ownBlock=some Z:=fun h=>by obtain ⟨cur,z,ac⟩:=qz M h; exact ak.eE ac
 exact ⟨L,J,Z,aL,ap,aq,aa,ai,ar,hT.B av (fun h=>by rcases h with h | h | h; exact ap h; exact aY h; exact ai h),hT.B aw (fun h=>by rcases h with h | h | h; exact aq h; exact aZ h; exact ar h),ak.md hT fun h=>by rcases h with h | h | h; exact a0 h; exact aa h; exact a1 h⟩
end Go.Hb
end
section
namespace Go.Hb.pM
open Go.Hb.ek
open Go.Hb.j5
def rA (g:List UInt8→Option Int) (pre:List (List UInt8)) (x:List UInt8):Prop :=(pre++ [x]).Nodup∧∀ y∈pre++ [x],∃ o,g y=some o
def kL (bk A:Nat) (es:Array MapEntry) (c:Nat) (W:ah):Prop :=W.heap[bk]? =some (.cells [Value.map (some A)].toArray 82 (0,0))∧W.heap[A]? =some (.map es c)
theorem gy.fix {h A:Array Obj} {r b:Nat} {left :List (ag×ag)} {C:ag×ag} (hm:gy h r b left C) (hr:∀ o,h[r]? =some o→((∀ cur e z,o≠.cells cur e z)∧∀ es c,o≠.map es c)→A[r]? =some o) (hb:A[b]? =h[b]?):gy A r b left C:=by
 obtain ⟨es,c,seen,e,E,I,J⟩:=hm;exact ⟨es,c,seen,e,hr _ E ⟨(fun _ _ _ h=>by cases h),fun _ _ h=>by cases h⟩,hb.trans I,J⟩
theorem fH.nc {h:Array Obj} {r b:Nat} {left :List (ag×ag)} (hm:fH h r b left) (cur:Array ag) (e:ak) (z:Nat×Nat):h[r]?≠some (.cells cur e z):=by
 obtain ⟨es,c,seen,C,A,_⟩:=hm;rw [A]; intro h; cases h
theorem Jb (A:Nat) (w:ah):
 aR aj 35 (bc [.map (some A)]) w (fun v w'=> ∃ b,v= .func (.func 80) #[] #[aH b]∧w.heap.size≤b∧w'.heap[b]? =some (.cells [Value.map (some A)].toArray 82 (0,0))∧Wk w w'):=by
 exact enter func35 U ntmps35 U<|aP 2 U<|e<|rK U U fun C L J I E=>ao 5 U<|p oG<|au 4 U<|aJ U<|⟨C,U,ab,E,I.md⟩
theorem I8 (bk L:Nat) (es:Array MapEntry) (c:Nat) (g:List UInt8→Option Int) (aI:gX es.toList c) (aJ:gw es.toList cT (mT g)) (l:Nat) (C:List (List UInt8)→ah→Prop) (w:ah) (h0:C [] w) (V:∀ pre W,C pre W→kL bk L es c W) (bD:∀ pre E ai (ae:Nat→Prop),C pre E→Md ae E ai→(∀ k,ae k→w.heap.size≤k∧∀ cur e z,E.heap[k]?≠some (.cells cur e z))→C pre ai) (A:∀ pre x E,rA g pre x→C pre E→YieldAt Fence.wide 0 aj l #[str x] E fun e W'=>e= .returned (.bool true)∧eo E W'∧C (pre++ [x]) W'):
 aR aj 80 (bc [.func (.yield l) #[] #[],aH bk]) w (fun v w'=> ∃ xs,e7 g xs∧C xs w'):=by
 have ar:=V _ _ h0;have ax:bN w.heap L cT (mT g):=⟨es,c,ar.2,aI,aJ⟩
 have a3:=ax.lt;refine enter func80 U ntmps80 U<|aP 2 U<|p (aM U<|(dg ar.1).trans U)<|e<|tf eV ax U fun ac ba left a6 aq aL aS aV aw=> ?_;have a7:=aq.size;refine aC 3 U<|lp (fun ak aA ad=> ∃ (I:List (ag×ag)) (pre:List (List UInt8)),(Lf g I)∧(fH ad.heap ac L I)∧(C pre ad)∧(pre.Nodup)∧(∀ y,(∃ o,g y=some o)↔y∈pre∨str y∈I.map cg)∧(∀ y∈pre,str y∉I.map cg)∧(Sl aA [(0,.func (.yield l) #[] #[]),(5,aH ac)])∧(I.length=ak)) _ ⟨left,[],(Lf.start aS aV aw),aL,(bD [] _ _ (fun _=>False) h0 aq.md fun _ h=>h.elim),uw,(Ja aw),(fun y A=>by simp at A),U,U⟩ ?_;rintro ak aA ad ⟨I,pre,ap,am,an,ay,Z,au,aX,rfl⟩;refine cH aX<|aP 2 U<|e<|sO am U fun a2 a8 aa a1 aF aG=>p (sP U)<|aC 3 U<|cb U (fun O=> ?_) fun O=> ?_;obtain ⟨J,aO,al⟩:=aG O;have aU:=J.length_eq;simp only [bA] at aU;obtain ⟨x,o,rfl,aW,aN,aZ,a4,a5⟩:=ap.step J;have av:∀ y,str y∈I.map cg↔y=x∨str y∈aa.map cg:=fun y=>by
  rw [(J.map cg).mem_iff];simp only [dq,dr];exact ⟨fun h=>h.imp nv id,fun h=>h.imp (fun h=>by rw [h]) id⟩
 have aY:str x∉aa.map cg:=by
  have h:=(J.map cg).nodup_iff.1 ap.nd;simp only [dq,List.nodup_cons] at h;exact h.1
 have ao:C pre a1:=bD pre _ _ (fun k=>k=ac) an aO fun k aQ=>⟨ab,fun cur e z=>by rw [aQ]; exact fH.nc am cur e z⟩
 have a0:x∉pre:=fun h=>au x h aZ;have az:rA g pre x:=⟨List.nodup_append.2 ⟨ay,by simp,fun a ha b hb=>by simp at hb; subst hb; intro h; subst h; exact a0 ha⟩,fun y A=>by
  rw [fl,gU] at A;rcases A with A | rfl;exact (Z y).2<|.inl A;exact ⟨o,aW⟩⟩
 refine aB 5 U<|p (rW al U)<|aC 5 U<|BT<|py U (nf (.func (.yield l) #[] #[]) U)<|py U mv<|Df U U (A pre x _ az ao) fun a9 M=> ?_;refine py U (no U)<|Bq ?_;exact ji 1 U<|cf (U)<|aK 2 U<|tn<|⟨_,ab,aa,pre++ [x],aN,((gy.fix al (fun o aD aE=>M.1 _ o aD aE)<|(V _ _ M.2).2.trans (V _ _ ao).2.symm).oI),M.2,az.1,(fun y=>by rw [Z,av,fl,gU,or_assoc]),(fun y A=>by rw [fl,gU] at A; rcases A with A | rfl; exact (fun h=>au y A<|(av y).2<|.inr h); exact aY),U,U⟩
 obtain ⟨aT,rfl⟩:=aF O;exact aK 2 U<|eH<|bG 1 U<|f0 U<|⟨pre,⟨ay,fun y=>by rw [Z y,aT]; simp⟩,an⟩
theorem I9 (bk A:Nat) (es:Array MapEntry) (c:Nat) (g:List UInt8→Option Int) (E:gX es.toList c) (I:gw es.toList cT (mT g)):yI aj 80 #[.pointer (some ⟨bk,0,none⟩)] (fun x:List UInt8=> #[str x]) (rA g) (e7 g) (kL bk A es c):=
 fun l C W h0 J bD M=>gO (I8 bk A es c g E I l C W h0 J bD M) fun e w' ⟨v,he,L⟩=>⟨⟨v,he⟩,L⟩
theorem Fh (bk M:Nat) (es:Array MapEntry) (c:Nat) (g:List UInt8→Option Int) (n:Nat) (aH:gX es.toList c) (aN:gw es.toList cT (mT g)) (aO:cC g n) (a4:n≤1048576) (w:ah) (ae:kL bk M es c w):
 aR aj 126 (bc [.slice none 0 0,.func (.func 80) #[] #[.pointer (some ⟨bk,0,none⟩)]]) w (fun v w'=> ∃ xs,e7 g xs∧dM w' w.heap.size 9 1 (v) (xs).length ((xs).map str)∧Wk w w'):=by
 have a1:=(bJ.1 ae.2).1;refine zT [] func126 U ntmps126 U ?_;refine du<|dE<|aP 1 U<|e<|rK U U fun aw ak a0 J aF=> ?_;have a7:=J.size;have a5:aw < ak.heap.size:=ab;have aI:kL bk M es c ak:=⟨J.md.aq ae.1,J.md.aq ae.2⟩
 refine au 2 U<|bF<|du<|du<|dE<|jh 3 U<|bF ?_;apply KP (fun x:List UInt8=> #[str x]) (rA g) (e7 g) (kL bk M es c) (fun pre L=> ∃ v,L.heap[aw]? =some (.cells [v].toArray 27 (0,0))∧dM L ak.heap.size 9 1 (v) (pre).length ((pre).map str)∧kL bk M es c L∧ak.heap.size≤L.heap.size∧Wk w L) rfl FN (fun _=>rfl) (I9 bk M es c g aH aN) (⟨.slice none 0 0,aF,iz _ _ _ _,aI,aT _,J.md⟩) (fun _ _ ⟨_,_,_,h,_⟩=>h) (fun pre A C F ⟨v,ad,aA,ax,aC,aB⟩ hm aa=>⟨v,tB ad hm aa,Cy aA hm aa,⟨tB ax.1 hm aa,hm.aq ax.2 fun h=>by have :=(aa M h).1; omega⟩,bS aC hm.size,Cz aB hm J.md.size aa⟩);intro l x L K ac;exact jh 3 U<|tn<|ac;intro l pre x L az am;obtain ⟨v,ag,I,ai,av,al⟩:=am;have aS:(pre++ [x]).length≤n:=aO.le az.1 az.2;simp only [bB,fE] at aS;refine aP 2 U<|p (aM U<|(dg ag).trans U)<|p mv<|e<|n7 ku U U fun aY aU an E aD=> ?_;have aJ:Wk w aU:=Md.trans al E.md;have an:=E.md.aq ag;refine e<|ap ku (cE I E.md) U (bS av E.md.size) U (bo.jT aD) (U) (U) ab ab fun v11 aV ar V a6 a2=> ?_;have aK:=Wk.own aJ (cE I E.md) V J.md.size;have ay:kL bk M es c aV:=⟨V.aq (E.md.aq ai.1) (fun h=>oQ (cE I E.md) (E.md.aq ai.1) aW h),V.aq (E.md.aq ai.2) fun h=>by have :=dF (cE I E.md) h; omega⟩
 have ao:=V.aq an fun h=>oQ (cE I E.md) an aW h;refine e<|fP Gs U U (BI ar) ao (by simp) fun aX Z aG=> ?_;have aL:Wk w aX:=Md.trans' aK Z fun k O h=>by omega
 exact au 2 U<|⟨(eo.wk E.md).trans ((eo.md V<|qB<|cE I E.md).trans<|eo.md Z fun k O=>⟨_,_,_,O ▸ ao⟩),v11,aG,da (by rw [List.map_append,bB]; exact ar) Z (fun k O h=>oQ ar ao aW<|h ▸ O),⟨Z.aq ay.1 (fun h=>by have :=(bJ.1 ae.1).1; omega),Z.aq ay.2 fun h=>by omega⟩,bS av (bS E.md.size<|bS V.size Z.size),aL⟩
 intro D L xs aQ aZ am ac;obtain ⟨v,ag,I,ai,av,al⟩:=am;have a3:=(bJ.1 ac).1;refine bF<|du<|dE<|aP 1 U<|p (aM U<|(dg ag).trans U)<|p aE<|au 1 U<|bF<|xe<|HM U U ac ?_;exact ⟨xs,aQ,sW (da I (na _ _ _) fun k O h=>by obtain ⟨c,e,z,ad⟩:=qB I k O; rw [h,ac] at ad; cases ad) J.md.size,Md.trans' al (na _ _ _) fun k O h=>by have :=J.md.size; omega⟩
theorem Gf (bk A:Nat) (es:Array MapEntry) (c:Nat) (g:List UInt8→Option Int) (n:Nat) (C:gX es.toList c) (I:gw es.toList cT (mT g)) (L:cC g n) (M:n≤1048576) (w:ah) (E:kL bk A es c w):
 aR aj 78 (bc [.func (.func 80) #[] #[aH bk]]) w (fun v w'=> ∃ xs,e7 g xs∧dM w' w.heap.size 9 1 (v) (xs).length ((xs).map str)∧Wk w w'):=by
 exact enter func78 U ntmps78 U<|aP 8 U<|e<|az (Fh bk A es c g n C I L M w E) U fun v4 O J=>p aE<|au 3 U<|aJ U<|J
theorem LR (bk C:Nat) (es:Array MapEntry) (c:Nat) (g:List UInt8→Option Int) (n:Nat) (O:gX es.toList c) (aa:gw es.toList cT (mT g)) (J:cC g n) (ae:n≤1048576) (w:ah) (V:kL bk C es c w):
 aR aj 34 (bc [.func (.func 80) #[] #[aH bk]]) w (fun v w'=> ∃ xs,e7 g xs∧(xs.Pairwise fun a b=>a≤b)∧dM w' w.heap.size 9 1 (v) (xs).length ((xs).map str)∧Wk w w'):=by
 refine enter func34 U ntmps34 U<|aP 7 U<|p mv<|e<|az (Gf bk C es c g n O aa J ae w V) U ?_;rintro v5 ak ⟨xs,A,L,Z⟩;have al:xs.length≤n:=J.le A.1 fun x ai=>(A.2 x).1 ai;refine p aE<|ao 4 U<|p mv<|e<|az (LQ w.heap.size xs.length v5 xs ak L ab) U ?_;rintro am an ⟨rfl,ag,ac⟩;refine ao 4 U<|p mv<|p aE<|au 3 U<|aJ U ?_;have M:=List.mergeSort_perm xs fun x y=>decide (x≤y);refine ⟨xs.mergeSort fun x y=>decide (x≤y),⟨M.nodup_iff.2 A.1,fun y=>by rw [M.mem_iff,A.2]⟩,?_,by rw [Ee]; exact ag,Wk.own Z L ac<|aT _⟩;have h:=List.pairwise_mergeSort (le:=fun x y:List UInt8=>decide (x≤y)) (fun a b c E I=> ?_) (fun a b=> ?_) xs;exact h.imp fun ad=>by simpa using ad
 simp only [decide_eq_true_iff] at E I ⊢; exact List.le_trans E I;simp only [Bool.or_eq_true,decide_eq_true_iff]; exact List.le_total a b
end Go.Hb.pM
end
section
namespace Go.Hb
open Go.Hb.ek
open Go.Hb.j5 Go.Hb.pM
theorem tC (B aa bs:Nat) (bM:ag) (a2:aG) (g:List UInt8→Option Int) (n:Nat) (bC:List (List UInt8→Option Int)) (cs:List ag) (w:ah) (J:bX w B aa bs bM a2 g n bC cs) (bE:∀ x o,g x=some o→x.length≤64):
 aR aj 17 (bc [aH aa]) w (fun v w'=> ∃ xs,e7 g xs∧(xs.Pairwise fun a b=>a≤b)∧v=str (dv g xs)∧Wk w w'):=by
 obtain ⟨es,c,bG,ba,bl⟩:=J.db;have bU:=J.nB;refine enter func17 U ntmps17 U<|aP 8 U<|p mv<|p (fY u32 U U)<|aC 2 U<|cf (U)<|aB 4 U<|e<|fI tQ fun A aW bS ak a5=> ?_;have b5:=ak.size;have bt:=J.wk ak.md;refine ao 5 U<|p mv<|ao 2 U<|p (aM U<|bt.obj.bd 1)<|e<|az (Jb bs aW) U ?_;rintro v12 bN ⟨bk,rfl,bT,bD,ar⟩;have b2:=ar.size;refine e<|az (LR bk bs es c g n ba bl J.eO ab bN ⟨bD,ar.aq<|ak.md.aq bG⟩) U ?_;rintro b9 C ⟨xs,am,bK,M,aF⟩;obtain ⟨aw,ay,rfl⟩:=iQ M;have b3:=aF.size;have b1:xs.length≤n:=J.eO.le am.1 fun x O=>(am.2 x).1 O;have aV:∀ x∈xs,x.length≤64:=fun x O=>let ⟨o,ho⟩:=(am.2 x).1 O; bE x o ho
 have aI:Wk aW C:=Md.trans ar aF;have bb:Wk w C:=Md.trans ak.md aI;have a4:Bd 102 5 C A (.slice none 0 0) []:=(Bd.new a5).md aI fun _ _ h=>h;refine aC 5 U<|lp (fun aA aX an=> ∃ (i:Nat) (I:ag),(i≤xs.length)∧(Bd 102 5 an A I<|dv g<|xs.take i)∧(Wk w an)∧(Md (fun k=>k=A) C an)∧(∀ k,BF A I k→k=A∨C.heap.size≤k)∧(Sl aX [(0,aH aa),(3,aH A),(13,.slice aw xs.length ay),(14,bL (xs.length)),(15,bL i)])∧(xs.length - i=aA)) _ ⟨0,.slice none 0 0,ab,a4,bb,(Md.refl _ _),(fun k h=> .inl<|h.resolve_right fun h=>by simp [cR] at h),U,U⟩ ?_;rintro aA aX an ⟨i,I,hi,ap,ai,L,al,bH,rfl⟩;refine cH bH ?_;have b8:=L.size;have ad:=ap;have bV:(dv g<|xs.take i).length≤65000:=by
  have a3:=tF (g:=g) (xs:=xs.take i) fun x O=>aV x<|List.mem_of_mem_take O;rw [bW] at a3;omega
 refine cS 6 U<|cd U (fun bu=> ?_) fun bu=> ?_;refine cx 5 U ?_;have aS:=J.wk ai;have b0:(xs.getD i []).length≤64:=Av aV ab;have bZ:=tP<|xs.getD i [];refine aB 1 U<|p (fv mM U U ab<|bo.ok ((fO<|da M L fun k E h=>by have :=dF M E; omega).2)<|oJ ab)<|p (aM U<|dN.get (i:=i) (fO<|da M L fun k E h=>by have :=dF M E; omega).2 ab)<|aC 3 U ?_;refine lu (fun aY Z=> ∃ (ac:ag) (V:UInt8),(V=if 0 < (g<|xs.getD i []).getD 0 then 43 else 45)∧(Bd 102 5 Z A ac<|dv g (xs.take i)++ [V])∧(Wk w Z)∧(Md (fun k=>k=A) C Z)∧(∀ k,BF A ac k→k=A∨C.heap.size≤k)∧(Sl aY [(0,aH aa),(3,aH A),(5,str (xs.getD i [])),(13,.slice aw xs.length ay),(14,bL (xs.length)),(15,bL i)])) ?_ ?_;refine aP 5 U<|p (aM U<|aS.obj.bd 1)<|ao 1 U<|p (qg eV pf jj (aS.db.ma) U U (⟨_,U⟩)<|sI g<|xs.getD i [])<|aC 3 U<|cd U (fun bv=> ?_) fun bv=> ?_;refine aB 1 U<|e<|az (nE A I (dv g<|xs.take i) (43) _ ad<|by first | omega | (simp only [bB,fE]; omega)) U ?_;rintro ca bO ⟨rfl,aZ,a6,aL,bw⟩;have bf:=ad.step ai aL ab;have bm:Md (fun k=>k=A) C bO:=L.trans' aL fun k E h=>(al k h).resolve_right ab;exact au 1 U<|tn<|⟨aZ,43,(by rw [if_pos ab]),a6,bf,bm,(fun k h=>(bw k h).elim (al k) fun h=> .inr ab),U⟩
 refine aB 1 U<|e<|az (nE A I (dv g<|xs.take i) (45) _ ad<|by first | omega | (simp only [bB,fE]; omega)) U ?_;rintro cb bP ⟨rfl,a0,a7,aN,bx⟩;have bg:=ad.step ai aN ab;have bn:Md (fun k=>k=A) C bP:=L.trans' aN fun k E h=>(al k h).resolve_right ab;exact au 1 U<|tn<|⟨a0,45,(by rw [if_neg ab]),a7,bg,bn,(fun k h=>(bx k h).elim (al k) fun h=> .inr ab),U⟩
 rintro aY Z ⟨ac,V,bJ,a9,bj,aQ,aU,bI⟩;refine cH bI<|aB 3 U<|e<|az (Ns (xs.getD i []) Z ab) U ?_;rintro cc cg ⟨rfl,ae⟩;have aD:=a9.md ae fun _ _ h=>h;refine e<|az (No A ac (dv g (xs.take i)++ [V]) (dw<|xs.getD i []) _ aD<|by rw [bB,fE]; omega) U ?_;rintro v30 bQ ⟨rfl,ax,aE,av,bz⟩;have bh:=aD.step (Md.trans bj ae) av ab;have bp:Md (fun k=>k=A) C bQ:=(aQ.trans' ae fun _ _ h=>h.elim).trans' av fun k E h=>(aU k h).resolve_right ab;have b4:=ae.size;have b7:=aQ.size;have b6:=av.size;refine ao 3 U<|e<|az (nE A ax (dv g (xs.take i)++ [V]++dw (xs.getD i [])) (10) _ aE<|by first | omega | (simp only [bB,fE]; omega)) U ?_;rintro v31 bR ⟨rfl,a1,a8,aO,bA⟩;have bi:=aE.step bh aO ab;have aT:∀ k,BF A ax k→k=A∨C.heap.size≤k:=fun k h=>(bz k h).elim (aU k) fun h=> .inr ab;have bq:Md (fun k=>k=A) C bR:=bp.trans' aO fun k E h=>(aT k h).resolve_right ab;exact ao 4 U<|p (cK<|i+1)<|au 2 U<|tn<|⟨_,ab,i+1,a1,ab,(by rw [MB ab]; unfold lr; rw [← bJ,List.append_cons,← gQ]; exact a8),bi,bq,(fun k h=>(bA k h).elim (aT k) fun h=> .inr ab),U,U⟩
 refine aK 2 U<|eH<|kV 4 U<|e<|az (qM A I (dv g<|xs.take i) _ ap ab) U ?_;rintro ce ch ⟨rfl,br⟩;refine au 4 U<|aJ U ?_;obtain rfl :i=xs.length:=ab;rw [ux];exact ⟨xs,am,bK,U,ap.qK ai br ab⟩
end Go.Hb
end
namespace Go.Hb.mE
def mX:List UInt8:= [72,66,75,49,3,0,0,4,2,99,1,2,97,2,2,116,3,1,1,0,1,0,1,0]
def np:List Nat:= [0,2,3,4,5,6,7,9,10,11,12,13,14]
def iN (E:Nat→Nat):Hp:=⟨sH 17 544 E np,34⟩
noncomputable def vt (E:Nat→Nat):Rs:=ik aj 17 (x2 129 294) 100000<|.cl 22 [.str [],.str [49,10,99,97,116,10],.agg [.int .i64 9,.int .i64 2,.int .i64 1048576,.int .i64 1024,.int .i64 1024]]<|iN E
noncomputable def r9 (E:Nat→Nat):Rs:=ik aj 17 (x2 129 294) 100000<|.cl 11 [.str mX]<|iN E
def wY:Rs→Bool
 | .rv (.bY [.str l,.eb]) _=>ij l mX
 | _=>false
def xa:Rs→Bool
 | .rv (.bool true) _=>true
 | _=>false
noncomputable def xc:Rs→Bool
 | .rv (.bY [.ptr b 0,.eb]) h=>xa<|ik aj 17 (x2 129 294) 100000<|.cl 21 [.ptr b 0,.str [99,97,116]] h
 | _=>false
theorem HK (E:Nat→Nat):xc (r9 E)=true :=ai
end Go.Hb.mE
section
namespace Go.Hb
open Go.Hb.mE
theorem HG (E:Nat→Nat):wY (vt E)=true :=ai
end Go.Hb
end
section
namespace Go.Hb.rB
open Go.Hb.ek
open Go.Hb.mE
theorem xk:iF aj 17 (x2 129 294):=Nt zz AF
theorem ck:fW aj:=Ge ai
theorem KG {R:Rs} (h:wY R=true):∃ A,R= .rv (.bY [.str mX,.eb]) A:=by
 unfold wY at h;split at h
 · rename_i l A;rw [oo,decide_eq_true_iff] at h;subst h;exact ⟨A,U⟩
 · cases h
theorem HH (E:Nat→Nat):∃ A,vt E= .rv (.bY [.str mX,.eb]) A:=KG<|HG E
theorem KH {R:Rs} (h:xa R=true):∃ A,R= .rv (.bool true) A:=by
 unfold xa at h;split at h
 · exact ⟨_,U⟩
 · cases h
theorem KI {R:Rs} (h:xc R=true):∃ b A,R= .rv (.bY [.ptr b 0,.eb]) A∧∃ C,ik aj 17 (x2 129 294) 100000 (.cl 21 [.ptr b 0,.str [99,97,116]] A)= .rv (.bool true) C:=by
 unfold xc at h;split at h
 · exact ⟨_,_,U,KH h⟩
 · cases h
theorem HL (E:Nat→Nat):∃ b A,r9 E= .rv (.bY [.ptr b 0,.eb]) A∧∃ C,ik aj 17 (x2 129 294) 100000 (.cl 21 [.ptr b 0,.str [99,97,116]] A)= .rv (.bool true) C:=KI<|HK E
theorem qF:∀ g∈np,g < 17:=aW
theorem Gc (w:ah) (I:cY 544 np w):aR aj 22 #[str [],str [49,10,99,97,116,10],.agg #[.int .i64 9,.int .i64 2,.int .i64 1048576,.int .i64 1024,.int .i64 1024]] w (fun v w'=>v= .tuple #[str mX,.nilIface]∧Wk w w'):=by
 obtain ⟨E,r,hr⟩:=HR.tq (P:=aj) (G:=17) (T:=544) qF aW I;obtain ⟨C,he⟩:=HH E;unfold vt at he;have L:=vu xk ck wide he;obtain ⟨O,J⟩:=L;refine (J C.nx r w [str [],str [49,10,99,97,116,10],.agg #[.int .i64 9,.int .i64 2,.int .i64 1048576,.int .i64 1024,.int .i64 1024]] (aT _) (hr _)<|by simp only [den,ax]).mono fun v w' M=> ?_;obtain ⟨r',A,st⟩:=M;refine ⟨?_,st.wk qF aW⟩;simp only [den,ax,bp] at A;exact A.symm
structure mA (B:Nat) (w:ah) (a:aG):Prop where
 ex:∃ (E:Nat→Nat) (b:Nat) (h:Hp) (r:Rn) (q:Loc),r9 E= .rv (.bY [.ptr b 0,.eb]) h∧(∃ h2,ik aj 17 (x2 129 294) 100000 (.cl 21 [.ptr b 0,.str [99,97,116]] h)= .rv (.bool true) h2)∧r b=some q∧a=⟨q.aq,q.sh,none⟩∧(∀ k,Fr 17 r h k→B≤k)∧∀ T,HR aj 17 r T h w
theorem JB (w:ah) (L:cY 544 np w):aR aj 11 #[str mX] w (fun v w'=> ∃ a,v= .tuple #[.pointer (some a),.nilIface]∧mA w.heap.size w' a∧Wk w w'):=by
 obtain ⟨E,r,hr⟩:=HR.tq (P:=aj) (G:=17) (T:=544) qF aW L;obtain ⟨b,C,he,V⟩:=HL E;have J:=he;unfold r9 at J;have aa:=vu xk ck wide J;obtain ⟨ad,M⟩:=aa;refine (M C.nx r w [str mX] (aT _) (hr _)<|by simp only [den,ax]).mono fun v w' ab=> ?_;obtain ⟨r',A,st⟩:=ab;cases hb:r' b with
 | none=>simp only [den,ax,hb] at A; cases A
 | some q=>
   simp only [den,ax,hb,bp] at A;refine ⟨⟨q.aq,q.sh,none⟩,A.symm,⟨E,b,C,r',q,he,V,hb,U,(fun k O=>Nat.le_of_not_lt fun Z=>by
    obtain ⟨i,o,ae,g1,g2,_⟩:=st.dR 17 (aT _) k Z O;obtain ⟨hm,_⟩:=oZ aW g2;have :=qF i hm;omega),fun T=>⟨st.hr.live,st.hr.inj,fun i I ac=> ?_,st.hr.fu,st.hr.base⟩⟩,st.wk qF aW⟩
   rw [st.out i I];exact (hr<|i+1).new i (bS st.nx I)<|Nat.lt_succ_self i
theorem Fo {B:Nat} (w:ah) (a:aG) (I:mA B w a):aR aj 21 #[.pointer (some a),str [99,97,116]] w (fun v w'=>v= .bool true∧Md (fun k=>B≤k) w w'):=by
 obtain ⟨E,b,h,r,q,he,M,hb,rfl,L,hr⟩:=I;obtain ⟨C,lY⟩:=M;have O:=vu xk ck wide lY;obtain ⟨V,J⟩:=O;refine (J C.nx r w [.pointer (some ⟨q.aq,q.sh,none⟩),str [99,97,116]] (aT _) (hr _)<|by simp only [den,ax,hb,j2]).mono fun v w' U=> ?_;obtain ⟨r',A,st⟩:=U;simp only [den,bp] at A;exact ⟨A.symm,st.md.mono fun k _ h=>L k h⟩
end Go.Hb.rB
end
section
namespace Go.Hb.uG
open Go.Hb.ek
open Go.Hb.j5 Go.Hb.pM Go.Hb.mE Go.Hb.rB
def ef:List UInt8:= [99,97,116]
def eF:List UInt8:= [100,111,103]
def fh:List UInt8:= [101,109,117]
noncomputable def gA:List UInt8→Option Int:=dT 1 (cy 1 (fun _=>none) [eF,fh]) fun _=>none
noncomputable def gB:List UInt8→Option Int:=dT (-1) (cy (-1) gA [ef]) gA
theorem lU (x:List UInt8):gA x=if x=eF∨x=fh then some 1 else none:=by
 unfold gA dT cy eQ dU;by_cases h:x=eF∨x=fh <;> simp [h]
theorem ow (x:List UInt8):gB x=if x=ef then some (-1) else gA x:=by
 unfold gB dT cy eQ dU;by_cases h:x=ef
 · have :gA x=none:=by rw [lU,h]; decide
   simp [h];rw [← h,this]; simp
 · simp [h]
theorem Ar {x:List UInt8} {o:Int} (h:gA x=some o):x∈[eF,fh]:=by
 rw [lU] at h;split at h
 · rename_i A; simpa using A
 · cases h
theorem As {x:List UInt8} :(∃ o,gB x=some o)↔x∈[ef,eF,fh]:=by
 rw [ow];constructor
 · rintro ⟨o,h⟩;split at h
   · rename_i A; simp [A]
   · have :=Ar h; simp only [dr] at this ⊢; exact .inr this
 · intro h;by_cases A:x=ef
   · rw [if_pos A]; exact ⟨_,rfl⟩
   · rw [if_neg A,lU,if_pos (by simp only [dr,rh,or_false] at h; exact h.resolve_left A)]; exact ⟨_,rfl⟩
theorem Ii:∀ x o,gB x=some o→x.length≤64:=fun x o h=>by
 have :=As.1 ⟨o,h⟩;simp only [dr,rh,or_false] at this;rcases this with rfl | rfl | rfl <;> decide
theorem Ih {xs:List (List UInt8)} (h:e7 gB xs) (A:xs.Pairwise fun a b=>a≤b):xs= [ef,eF,fh]:=
 Af h ⟨aW,fun y=>As.symm⟩ A aW
theorem Ij:dv gB [ef,eF,fh]= [45,99,97,116,10,43,100,111,103,10,43,101,109,117,10]:=by
 have A:gB ef=some (-1):=by rw [ow,if_pos rfl]
 have C:gB eF=some 1:=by rw [ow,if_neg aW,lU,if_pos (.inl rfl)]
 have E:gB fh=some 1:=by rw [ow,if_neg aW,lU,if_pos (.inr rfl)]
 show lr gB ef++(lr gB eF++(lr gB fh++ []))=_;unfold lr;rw [A,C,E];rfl
theorem Li {m:Nat} (h:cC (eG (fun _=>none) [eF,fh]) m):m≤500:=by
 have :=h.ge (l:= [eF,fh]) fun x ⟨o,A⟩=>by
  unfold eG at A;split at A
  · assumption
  · cases A
 exact bS this aW
theorem Lj {m:Nat} (h:cC (eG gA [ef]) m):m≤500:=by
 have :=h.ge (l:= [ef,eF,fh]) fun x ⟨o,A⟩=>by
  unfold eG at A;split at A
  · rename_i C; simp only [dr,rh,or_false] at C ⊢; exact .inl C
  · have :=Ar A; simp only [dr] at this ⊢; exact .inr this
 exact bS this aW
theorem F0:∃ x o,cy 1 (fun _=>none) [eF,fh] x=some o:=⟨eF,0,by unfold cy eQ dU; simp⟩
theorem F2:∃ x o,cy (-1) gA [ef] x=some o:=⟨ef,0,by
 have :gA ef=none:=by rw [lU]; decide
 unfold cy eQ dU; simp [this]⟩
theorem jB.go {B E bs:Nat} {L:ag} {M:aG} {g:List UInt8→Option Int} {O:List (List UInt8→Option Int)} {A:Int} {l:List (List UInt8)} {w w':ah} {v:ag} (h:jB B E bs L M g O A l w v w') (ai:∀ x∈l,cJ x=true) (hm:∀ m,cC (eG g l) m→m≤500) (J:∃ x o,cy A g l x=some o):
 v= .int .i64 0∧∃ m C I,bX w' B E bs C M (dT A (cy A g l) g) m (O++ [cy A g l]) I∧Md (iZ E bs L) w w'∧(∀ k,C.ownBlock=some k→L.ownBlock=some k∨w.heap.size≤k):=by
 rcases h with ⟨⟨x,aj,V⟩,_⟩ | ⟨_,m,ae,h⟩
 · rw [ai x aj] at V; cases V
 · rcases h with ⟨h,_⟩ | ⟨_,rfl,h⟩
   · have :=hm m ae; omega
   · rcases h with ⟨h,_⟩ | ⟨C,I,_,Z,aa,ab⟩
     · obtain ⟨ks,_,ac,ad⟩:=h;have :=jx ac;subst this;obtain ⟨x,o,J⟩:=J;exact absurd ((ad<|str x).1<|(qi _ _).2 ⟨x,o,U,J⟩)<|by simp
     · exact ⟨U,m,C,I,Z,aa,ab⟩
theorem mA.wk {B:Nat} {w w':ah} {a:aG} (h:mA B w a) (hm:Wk w w'):mA B w' a:=by
 obtain ⟨E,b,h,r,q,he,C,hb,rfl,A,hr⟩:=h;exact ⟨E,b,h,r,q,he,C,hb,U,A,fun T=>(hr T).cP hm fun _ _ _ _ _ h=>h⟩
theorem FU (B C bs:Nat) (O:ag) (E:aG) (g:List UInt8→Option Int) (n:Nat) (M:List (List UInt8→Option Int)) (cs:List ag) (x:List UInt8) (R:ah→ag→ah→Prop) (w:ah) (J:bX w B C bs O E g n M cs) (L:g x=none) (V:∀ A,Wk w A→aR aj 21 #[.pointer (some E),str x] A (R A)):
 aR aj 20 (bc [aH C,str x]) w (fun v w'=> ∃ A,Wk w A∧R A v w'):=by
 refine enter func20 U ntmps20 U<|aP 10 U<|e<|az (ke B C bs O E g n M cs x w J) U ?_;rintro ae aa ⟨rfl,I⟩;refine aC 9 U<|cd U (fun h=>absurd h<|by rw [L]; decide) fun ac=>cx 6 U<|cd U (fun h=>absurd h<|by rw [L]; decide) fun ab=>aB 6 U<|p (qp u32 U U)<|ao 1 U<|gb (t:=14) U (fun ad=> ?_) fun h=>absurd ((U).symm.trans h) dd;exact ao 3 U<|bU U (aM U<|(J.wk I).obj.bd 0)<|ao 1 U<|eg U U U<|az (V aa I) U fun v20 ai Z=>p (ta U)<|p aE<|au 3 U<|aJ U<|⟨_,I,Z⟩
theorem M3 (w:ah) (aG:cY 544 np w):
 aR aj 6 (bc []) w (fun v w'=>v= .bool true∧Wk w w'):=by
 refine enter func6 U ntmps6 U<|aP 7 U<|p (hH (ps:= [(0,.int .i64 9),(1,.int .i64 2),(2,.int .i64 1048576),(3,.int .i64 1024),(4,.int .i64 1024)]) (L:= [.int .i64 9,.int .i64 2,.int .i64 1048576,.int .i64 1024,.int .i64 1024]) L1 U<|U)<|e<|az (Gc w aG) U ?_;rintro b0 aM ⟨rfl,ai⟩;have a8:=aG.mono ai fun _ _ h=>h;refine p mv<|ao 3 U<|p aE<|ao 5 U<|e<|az (JB aM a8) U ?_;rintro bO A ⟨C,rfl,aQ,av⟩;have bN:=ai.size;have bH:=av.size;refine p mv<|ao 2 U<|p aE<|p aE<|ao 4 U<|p mv<|e<|az (Bp C A) U ?_;rintro bP bm ⟨E,bs,rfl,bi,bj,bG,a9,ba,aw⟩;have a0:bX bm A.heap.size E bs (.slice none 0 0) C (fun _=>none) 0 [] []:=⟨a9,ba,⟨[],uw,rfl,fun k=>⟨fun ⟨v,h⟩=>(by rw [oE] at h; cases h),fun h=>by simp at h⟩⟩,ab,fun x h=>(by cases h),⟨bi,bj⟩,iz _ _ _ _,(fun h=>by simp [cR] at h),trivial⟩
 have bI:=aw.size;refine p aE<|ao 4 U<|p mv<|p (qp u32 U U)<|ao 1 U<|gb (t:=20) U (fun bv=> ?_) fun h=>absurd ((U).symm.trans h) dd;refine bU U mv<|eg U U U<|FD (L:= [str eF,str fh]) ku U U U U fun ac ap br ak aS=> ?_;have bJ:=ak.size;have a1:=a0.wk ak.md;have a6:dN ap.heap (some ⟨ac,0,none⟩) [eF,fh]:=bo.jT (show aI ap.heap ac ([eF,fh].map str) from ⟨_,aS⟩);refine eg U U U<|az (yN A.heap.size E bs (.slice none 0 0) C (fun _=>none) 0 [] [] [eF,fh] (some ⟨ac,0,none⟩) 2 ap a1 a6 aW aW aW) U fun bQ aK a4=> ?_;obtain ⟨rfl,Z,an,ae,I,aV,bb⟩:=jB.go a4 aW (fun m h=>Li h) F0;have I:bX aK A.heap.size E bs an C gA Z [cy 1 (fun _=>none) [eF,fh]] ae:=I;have ax:Wk A aK:=(aw.trans ak.md).trans' aV (fun k am h=>by
  rcases h with h | h | h;omega;omega;simp [cR] at h)
 have bK:=ax.size;have bD:ae.length=1:=(dC.len I.bk).trans rfl;have aH:∀ k,an.ownBlock=some k→A.heap.size≤k:=fun k h=>by
  rcases bb k h with h | h;simp [cR] at h;omega
 refine ao 3 U<|gs (t:=26) U (fun bw=> ?_) fun h=>absurd U h;refine bU U mv<|eg U U U<|n7 ku U U fun ad aq bt al aT=> ?_;have bL:=al.size;have a2:=I.wk al.md;have a7:dN aq.heap (some ⟨ad,0,none⟩) [ef]:=bo.jT (show aI aq.heap ad ([ef].map str) from aT);refine eg U U U<|az (y7 A.heap.size E bs an C gA Z _ ae [ef] (some ⟨ad,0,none⟩) 1 aq a2 a7 aW aW ab) U fun bR ar a5=> ?_;obtain ⟨rfl,V,O,J,M,aX,bd⟩:=jB.go a5 aW (fun m h=>Lj h) F2;have M:bX ar A.heap.size E bs O C gB V ([cy 1 (fun _=>none) [eF,fh]]++ [cy (-1) gA [ef]]) J:=M;have ay:Wk A ar:=(ax.trans al.md).trans' aX (fun k am h=>by
  rcases h with h | h | h;omega;omega;have :=aH k h; omega)
 have bM:=ay.size;have bE:J.length=2:=(dC.len M.bk).trans rfl;have bh:∀ k,O.ownBlock=some k→A.heap.size≤k:=fun k h=>by
  rcases bd k h with h | h;exact aH k h;omega
 refine ao 3 U<|gs (t:=32) U (fun bx=> ?_) fun h=>absurd U h;refine bU U mv<|eg U U U<|az (FY A.heap.size E bs O C gB V _ J ef ar M<|by rw [ow,if_pos U]) U ?_;rintro bS bn ⟨rfl,ag⟩;refine ao 3 U<|gb (t:=37) U (fun bz=> ?_) fun h=>absurd ((U).symm.trans h) dd;refine bU U mv<|eg U U U<|az (FZ A.heap.size E bs O C gB V _ J eF bn (M.wk ag)<|by rw [ow,if_neg aW,lU,if_pos (.inl U)]) U ?_;rintro bT bp ⟨rfl,aA⟩;have aD:=(M.wk ag).wk aA;refine ao 2 U<|gb (t:=41) U (fun bA=> ?_) fun h=>absurd ((U).symm.trans h) dd;refine bU U mv<|eg U U U<|az (tC A.heap.size E bs O C gB V _ J bp aD Ii) U ?_;rintro bV bq ⟨xs,bf,bg,rfl,aB⟩;obtain rfl :=Ih bf bg;rw [Ij] at*;have a3:=aD.wk aB;refine ao 3 U<|gs (t:=46) U (fun bB=> ?_) fun h=>absurd U h;refine bU U mv<|eg U U U<|az (CZ A.heap.size E bs O C gB (cy (-1) gA [ef]) V Z _ J bq a3 (by rw [show eN (cy (-1) gA [ef]) gB=gA from uN I.nz]; exact I.eO) I.nB ab) U ?_;rintro bW aL ⟨rfl,bl,aN,aF,aY,bu⟩;rw [show eN (cy (-1) gA [ef]) gB=gA from uN I.nz] at aF;have aC:Wk A aL:=(((ay.trans ag).trans aA).trans aB).trans' aY (fun k am h=>by
  rcases h with h | h | h;omega;omega;have :=bh k h; omega)
 refine ao 2 U<|gb (t:=50) U (fun bC=> ?_) fun h=>absurd ((U).symm.trans h) dd;refine bU U mv<|eg U U U<|az (FU A.heap.size E bs bl C gA Z _ aN ef (fun aa v w'=>v= .bool true∧Md (fun k=>aM.heap.size≤k) aa w') aL aF (by rw [lU]; decide) fun aa aO=>Fo aa C<|mA.wk (mA.wk aQ aC) aO) U ?_;rintro bZ b1 ⟨aa,aU,rfl,aZ⟩;exact au 5 U<|aJ U<|⟨U,((ai.trans<|av.trans aC).trans aU).trans' aZ fun k am h=>by omega⟩
end Go.Hb.uG
end
section
namespace Go.Hb
open Go.Hb.ek
def kU (e:Int):List PanicEntry:= [{v:= .iface 33 (.int .i64 e),recovered:=false}]
def K5:Except Nat (Nat×Nat)→Nat
 | .ok (n,_)=>n
 | .error _=>0
def K6:Except Nat (Nat×Nat)→Nat
 | .ok (_,p)=>p
 | .error _=>0
def oX:Except Nat (Nat×Nat)→Nat
 | .ok _=>0
 | .error e=>e
def K7 (r:Except Nat (Nat×Nat)):ag:= .tuple #[.int .u64 (K5 r:Nat),.int .i64 (K6 r:Nat),.int .i64 (oX r:Nat)]
theorem BZ {s:List UInt8} {a e:Nat} (h:bE s a= .error e):e=60∨e=61:=by
 unfold bE at h;split at h
 · cases h; exact .inr rfl
 · split at h
   · cases h; exact .inl rfl
   · split at h
     · cases h; exact .inr rfl
     · cases h
theorem La {s:List UInt8} {a:Nat} (h:((oX (bE s a):Nat):Int)=0):∃ n p,bE s a= .ok (n,p):=by
 cases hX:bE s a with
 | ok x=>exact ⟨x.1,x.2,rfl⟩
 | error e=>
   rw [hX] at h;have :=BZ hX;simp only [oX] at h; omega
theorem K8 {s:List UInt8} {a:Nat} (h:¬((oX (bE s a):Nat):Int)=0):bE s a= .error (oX<|bE s a):=by
 cases hX:bE s a with
 | ok x=>rw [hX] at h; simp [oX] at h
 | error e=>rfl
theorem LO {s:List UInt8} {a n:Nat} :(s.take<|a+n).drop a=(s.drop a).take n:=by rw [D6,Nat.add_sub_cancel_left]
theorem Ic {s:List UInt8} {a e:Nat} (h:bE s a= .error e):dy s a= .error e:=by unfold dy; rw [h]
theorem Ie {s:List UInt8} {a n p:Nat} (h:bE s a= .ok (n,p)) (hn:255 < n):dy s a= .error 62:=by unfold dy; rw [h]; exact if_pos hn
theorem If {s:List UInt8} {a n p:Nat} (h:bE s a= .ok (n,p)) (hn:¬255 < n) (hp:s.length < p+n):dy s a= .error 60:=by unfold dy; rw [h]; simp only; rw [if_neg hn,if_pos hp]
theorem Ig {s:List UInt8} {a n p:Nat} (h:bE s a= .ok (n,p)) (hn:¬255 < n) (hp:¬s.length < p+n):dy s a= .ok ((s.drop p).take n,p+n):=by unfold dy; rw [h]; simp only; rw [if_neg hn,if_neg hp]
theorem Fb:∀ r:Fin 256,px.wrap (iw px.bits ((r.val:Nat):Int) &&& iw px.bits 127).toNat=((r.val % 128:Nat):Int):=by decide+kernel
theorem Fa (b:UInt8):px.wrap (iw px.bits (b.toNat:Int) &&& iw px.bits 127).toNat=((b.toNat % 128:Nat):Int):=Fb ⟨b.toNat,pJ b⟩
theorem BK (i:Nat):(128:Nat) ^ i=2 ^ (7 *i):=by rw [Nat.pow_mul]
theorem LM {x i:Nat} (hi:i≤9):nN.wrap (((x:Nat):Int)*2 ^ min ((7 *i:Nat):Int).toNat nN.bits)=((x*128 ^ i % 18446744073709551616:Nat):Int):=by
 have A:(nN.bits:Nat)=64:=rfl;rw [Int.toNat_natCast,A,uy ab,IntKind.wrap_u64,BK];generalize 7 *i=m;rw [show ((x:Nat):Int)*2 ^ m=((x*2 ^ m:Nat):Int) by simp];omega
theorem Kl {n x i:Nat} (hi:i≤9) (hn:n < 128 ^ i):nN.wrap (iw nN.bits (n:Int) ||| iw nN.bits ((x*128 ^ i % 18446744073709551616:Nat):Int)).toNat=((n+x*128 ^ i % 18446744073709551616:Nat):Int):=by
 have C:(nN.bits:Nat)=64:=rfl;rw [BK] at hn ⊢;have I:x*2 ^ (7 *i) % 18446744073709551616=2 ^ (7 *i)*(x % 2 ^ (64 - 7 *i)):=by
  rw [show (18446744073709551616:Nat)=2 ^ (7 *i)*2 ^ (64 - 7 *i) by rw [← Nat.pow_add,show 7 *i+(64 - 7 *i)=64 by omega],rp x,Nat.mul_mod_mul_left]
 rw [I,C,Dn,Dn,BitVec.toNat_or,Dp,Dp];have A:x % 2 ^ (64 - 7 *i) < 2 ^ (64 - 7 *i):=Nat.mod_lt _<|Nat.two_pow_pos _;generalize x % 2 ^ (64 - 7 *i)=z at A;have hle:(2:Nat) ^ (7 *i)≤2 ^ 64:=uA aW ab;have hmul:2 ^ (7 *i)*z+n < 2 ^ 64:=by
  have E:2 ^ (7 *i)*(z+1)≤2 ^ (7 *i)*2 ^ (64 - 7 *i):=EE _ A;rw [← Nat.pow_add,show 7 *i+(64 - 7 *i)=64 by omega,Nat.mul_succ] at E;omega
 rw [yD ab,yD (show 2 ^ (7 *i)*z < 2 ^ 64 by omega),Nat.or_comm,← Nat.two_pow_add_eq_or_of_lt hn,pd ab,Nat.add_comm]
theorem sB {s:List UInt8} {a i n:Nat} (hi:i≤9) (ha:a+i < s.length) (hn:n=fw ((s.drop a).take i)) (hb:i≤8∨(s.getD (a+i) 0).toNat≤1):n+(s.getD (a+i) 0).toNat % 128 *128 ^ i % 18446744073709551616=fw ((s.drop a).take<|i+1):=by
 have E:((s.drop a).take i).length=i:=by rw [bW,gS]; omega
 have I:(s.drop a)[i]? =some (s.getD (a+i) 0):=by
  rw [iX,cn,bR ab]; rfl
 rw [Ev,I,EI,vV,E,hn,fw,fw,Nat.mul_zero,j2];congr 1;have hm:(s.getD (a+i) 0).toNat % 128 < 128:=Nat.mod_lt _ aW;have A:i≤8∨(s.getD (a+i) 0).toNat % 128≤1:=hb.imp id fun h=>ab;generalize (s.getD (a+i) 0).toNat % 128=x at hm A ⊢;rw [rp,yD];have M:(128:Nat) ^ 9=9223372036854775808:=aW;rcases A with hb | hb
 · have J:128 ^ i*x < 128 ^ i*128:=Nat.mul_lt_mul_of_pos_left hm<|Nat.pow_pos aW;have L:(128:Nat) ^ i*128=128 ^ (i+1):=rfl;have C:(128:Nat) ^ (i+1)≤128 ^ 9:=uA aW ab;omega
 · have C:(128:Nat) ^ i≤128 ^ 9:=uA aW ab;have O:128 ^ i*x≤128 ^ i*1:=EE _ hb;omega
theorem Lb (s:List UInt8) (a:Nat) (w:ah) (ap:s.length≤1048576) (ha:a≤s.length):
 aR aj 122 (bc [str s,bL a]) w (fun v w'=>v=K7 (bE s a)∧Wk w w'):=by
 refine enter func122 U ntmps122 U<|aP 13 U<|gs (t:=11) U (fun h=>absurd h ab) fun an=>aC 7 U<|cd U (fun ac=> ?_) fun ac=> ?_;exact aK 9 U<|f3 U U U U<|⟨by rw [B3 (k:=0) (kZ ab (fun j O=>by omega)<|.inr<|.inl ab) ab ab]; rfl,Md.refl _ _⟩
 refine cx 9 U<|lp (fun L Z V=> ∃ (i n:Nat),(i≤10)∧(∀ j,j < i→a+j < s.length∧128≤(s.getD (a+j) 0).toNat)∧(i≤9→n=fw ((s.drop a).take i))∧(Wk w V)∧(Sl Z [(0,str s),(1,bL a),(4,.int .u64 (n:Nat)),(17,bL i)])∧(10 - i=L)) _ ⟨0,0,ab,(fun j O=>by omega),(fun _=>rfl),(Md.refl _ _),U,U⟩ ?_;rintro L Z V ⟨i,n,hi,E,hn,C,am,rfl⟩;refine cH am<|cS 6 U<|cd U (fun ad=> ?_) fun ad=> ?_;refine cx 21 U<|cd U (fun ae=> ?_) fun ae=> ?_;exact aK 11 U<|tr<|bG 2 U<|f3 U U U U<|⟨by rw [B3 (k:=i) (kZ ab E<|.inr<|.inl ab) ab ab]; rfl,C⟩
 refine aB 7 U<|p (cK<|a+i)<|p (ga u9 U U ab)<|aC 4 U ?_;have al:n < 128 ^ i:=by
  have M:=sA<|(s.drop a).take i;rw [← hn ab] at M;have aa:((s.drop a).take i).length=i:=by rw [bW,gS]; omega
  rwa [aa] at M
 refine aB 3 U<|p (cM U U<|Fa _)<|p (rP MC MO U<|pd ab)<|ao 1 U<|p (Bj ((7 *i:Nat):Int) U U<|xX ab ab)<|p (shl U U ab<|LM ab)<|p (y8 U U<|Kl ab al)<|aC 12 U<|cd U (fun ag=> ?_) fun ag=> ?_;have ak:∀ j,j < i+1→a+j < s.length∧128≤(s.getD (a+j) 0).toNat:=fun j O=>by
  rcases dW j i with h | h;exact E j h;obtain rfl :j=i:=ab;exact ⟨ab,ab⟩
 exact aB 6 U<|p (cK<|i+1)<|au 2 U<|tn<|⟨_,ab,i+1,n+(s.getD (a+i) 0).toNat % 128 *128 ^ i % 18446744073709551616,ab,ak,(fun h=>sB ab ab (hn ab)<|.inl ab),C,U,U⟩
 refine aB 6 U<|gs (t:=45) U (fun ai=> ?_) fun ai=> ?_;refine aC 6 U<|cd U (fun I=> ?_) fun I=> ?_;refine cx 2 U<|cd U (fun I=> ?_) fun I=> ?_;refine aK 12 U<|tr<|bG 2 U<|f3 U U U U ?_;have A:=kZ (s:=s) (a:=a) (k:=i) ab E<|.inr<|.inr ab;exact ⟨by rw [xf A ab ab ab]; rfl,C⟩;refine aB 8 U<|p (cK<|a+i)<|p (cK<|a+i+1)<|au 8 U<|tr<|bG 2 U<|f3 U U U U ?_;exfalso; omega;refine aB 4 U<|gs (t:=51) U (fun J=> ?_) fun J=> ?_;refine aC 6 U<|cd U (fun I=> ?_) fun I=> ?_;refine aK 12 U<|tr<|bG 2 U<|f3 U U U U ?_;have A:=kZ (s:=s) (a:=a) (k:=i) ab E<|.inr<|.inr ab;exact ⟨by rw [xf A ab ab ab]; rfl,C⟩;refine aB 8 U<|p (cK<|a+i)<|p (cK<|a+i+1)<|au 8 U<|tr<|bG 2 U<|f3 U U U U ?_;have A:=kZ (s:=s) (a:=a) (k:=i) ab E<|.inr<|.inr ab;exact ⟨by rw [xg A ab ab ab,← sB ab ab (hn ab) ab]; rfl,C⟩;refine ao 3 U<|p aE<|ao 11 U<|p (cK<|a+i)<|p (cK<|a+i+1)<|au 8 U<|tr<|bG 2 U<|f3 U U U U ?_;exfalso; omega;refine ao 3 U<|p aE<|ao 7 U<|gs (t:=51) U (fun J=> ?_) fun J=> ?_;refine aC 6 U<|cd U (fun I=> ?_) fun I=> ?_;refine aK 12 U<|tr<|bG 2 U<|f3 U U U U ?_;have A:=kZ (s:=s) (a:=a) (k:=i) ab E<|.inr<|.inr ab;exact ⟨by rw [xf A ab ab ab]; rfl,C⟩;refine aB 8 U<|p (cK<|a+i)<|p (cK<|a+i+1)<|au 8 U<|tr<|bG 2 U<|f3 U U U U ?_;have A:=kZ (s:=s) (a:=a) (k:=i) ab E<|.inr<|.inr ab;exact ⟨by rw [xg A ab ab ab,← sB ab ab (hn ab) ab]; rfl,C⟩;refine ao 3 U<|p aE<|ao 11 U<|p (cK<|a+i)<|p (cK<|a+i+1)<|au 8 U<|tr<|bG 2 U<|f3 U U U U ?_;have A:=kZ (s:=s) (a:=a) (k:=i) ab E<|.inr<|.inr ab;exact ⟨by rw [xg A ab ab ab,← sB ab ab (hn ab) ab]; rfl,C⟩;refine aK 2 U<|eH<|bG 10 U<|f3 U U U U ?_;obtain rfl :i=10:=ab;exact ⟨by rw [K9 (kZ ab E<|.inl U)]; rfl,C⟩
theorem jS (C:ag) (b:Bool) (e:Int) (w:ah):
 mF aj 72 (bc [C,.bool b,.int .i64 e]) w (fun v w'=>v=mq #[]∧b=true∧w'=w) (fun c w'=>c=kU e∧b=false∧w'=w):=by
 refine pV func72 U ntmps72 U<|cS 6 U<|cb U (fun A=> ?_) fun A=> ?_;exact aB 2 U<|p (wA sM U)<|Ku U fun σ' E=>⟨U,by simpa using A,U⟩
 refine aK 1 U<|pZ<|f0 U ?_;exact ⟨U,by simpa using A,U⟩
theorem oK (rb:Nat) (s:List UInt8) (a:Nat) (w:ah) (E:aI w.heap rb [str s,.int .i64 (a:Nat)]) (ab:s.length≤1048576) (ha:a≤s.length):
 mF aj 70 (bc [.pointer (some ⟨rb,0,none⟩)]) w (fun v w'=> ∃ n p,bE s a= .ok (n,p)∧v= .int .u64 (n:Nat)∧aI w'.heap rb [str s,.int .i64 (p:Nat)]∧Md (fun k=>k=rb) w w') (fun c w'=> ∃ e,bE s a= .error e∧c=kU e∧Md (fun k=>k=rb) w w'):=by
 refine pV func70 U ntmps70 U<|cS 6 U<|mV fun C=>cD [0,1,2] U C<|il 3 U C (E.bd 0)<|cD [4,5,6] U C<|il 7 U C (E.bd 1)<|he 8 U ai<|az (Lb s a w.drew ab ha) U ?_;rintro ag L ⟨rfl,A⟩;have A:=Md.oh A;have J:(fun w'=>Wk w w') L:=A;refine ⟨J,?_⟩;refine hp 9 U ai (fun _ _=>mv) J<|cD [10,11,12,13,14,15] U J<|hn ai<|kV 7 U<|eP U (eh jF (jS _ _ _ L) U fun ak al Z=> ?_) fun c w' I σ' ae=>⟨_,K8 (of_decide_eq_false I.2.1),I.1,by rw [I.2.2]; exact A.mono fun _ _ h=>h.elim⟩
 obtain ⟨rfl,ac,rfl⟩:=Z;obtain ⟨n,ad,aa⟩:=La<|of_decide_eq_true ac;have M:=Wk.B A E;refine ao 8 U<|e<|st pR U U (U) (M) (by simp) fun am V O=>au 9 U<|pZ<|f1 U U ?_;rw [aa] at*;exact ⟨n,ad,U,U,O,Md.trans (A.mono fun _ _ h=>h.elim) V⟩
theorem CH (rb:Nat) (s:List UInt8) (a n:Nat) (w:ah) (I:aI w.heap rb [str s,.int .i64 (a:Nat)]) (al:s.length≤1048576) (ha:a≤s.length) (ak:n≤1048576):
 mF aj 123 (bc [.pointer (some ⟨rb,0,none⟩),.int .i64 (n:Nat)]) w (fun v w'=>a+n≤s.length∧v=str ((s.drop a).take n)∧aI w'.heap rb [str s,.int .i64 ((a+n:Nat):Int)]∧Md (fun k=>k=rb) w w') (fun c w'=>s.length < a+n∧c=kU 60∧Md (fun k=>k=rb) w w'):=by
 refine pV func123 U ntmps123 U<|cS 6 U<|mV fun C=>cD [0,1,2,3,4] U C<|il 5 U C (I.bd 0)<|cD [6,7,8,9] U C<|il 10 U C (I.bd 1)<|cD [11,12] U C<|ID 13 U ai U (eh jF (jS _ _ _ w.drew) U fun am M ad=> ?_) fun c w' J σ' ag=>⟨by have :=of_decide_eq_false J.2.1; omega,J.1,by rw [J.2.2]; exact (Md.refl _ _).drew⟩
 obtain ⟨rfl,V,L⟩:=ad;have V:=of_decide_eq_true V;have O:aI M.heap rb [str s,.int .i64 (a:Nat)]:=by rw [L]; exact I
 have aa:Md (fun k=>k=rb) w M:=by rw [L]; exact (Md.refl _ _).drew
 have ae:(fun w'=>Wk w w') M:=by rw [L]; exact (Md.refl _ _).drew
 refine ⟨ae,?_⟩;refine hn ai<|kV 6 U<|p (aM U<|O.bd 1)<|ao 1 U<|p (cK<|a+n)<|ao 2 U<|e<|st pR U U (U) (O) (by simp) fun an ac Z=> ?_;have E:=Z;exact aC 3 U<|mV fun A=>cD [0,1,2] U A<|il 3 U A (E.bd 0)<|cD [4,5,6] U A<|il 7 U A (E.bd 1)<|cD [8] U A<|hp 9 U ai (fun _ _=>xi<|a) A<|cD [10,11,12] U A<|il 13 U A (E.bd 1)<|hp 14 U ai (fun _ _=>tz u9 U U U ab) A<|cD [15] U A<|hn ai<|bG 2 U<|pZ<|f1 U U<|⟨ab,by rw [← LO]; rfl,E,(aa.trans ac).drew⟩
theorem vD (rb:Nat) (s:List UInt8) (a:Nat) (w:ah) (M:aI w.heap rb [str s,.int .i64 (a:Nat)]) (J:s.length≤1048576) (ha:a≤s.length):
 mF aj 71 (bc [.pointer (some ⟨rb,0,none⟩)]) w (fun v w'=> ∃ f p,dy s a= .ok (f,p)∧v=str f∧aI w'.heap rb [str s,.int .i64 (p:Nat)]∧Md (fun k=>k=rb) w w') (fun c w'=> ∃ e,dy s a= .error e∧c=kU e∧Md (fun k=>k=rb) w w'):=by
 refine pV func71 U ntmps71 U<|aP 8 U<|eP U (eh n8 (oK rb s a w M J ha) U fun v5 ai ad=> ?_) fun c w' A σ' I=>by obtain ⟨e,he,ag,Z⟩:=A; exact ⟨e,Ic he,ag,Z⟩
 obtain ⟨n,q,C,rfl,V,E⟩:=ad;obtain ⟨al,am,an⟩:=kr C;refine ao 8 U<|eP U (eh jF (jS _ _ _ ai) U fun v9 ak ae=> ?_) fun c w' A σ' I=>⟨62,Ie C (by have :=of_decide_eq_false A.2.1; omega),A.1,by rw [A.2.2]; exact E⟩
 obtain ⟨rfl,L,rfl⟩:=ae;have L:=of_decide_eq_true L;refine ao 6 U<|p (rP u3 xR U<|nA ab)<|eP U (eh ze (CH rb s q n ak V J ab ab) U fun aq ar ac=> ?_) fun c w' A σ' I=>⟨60,If C ab A.1,A.2.1,E.trans A.2.2⟩
 obtain ⟨ap,rfl,O,aa⟩:=ac;exact au 4 U<|pZ<|f1 U U<|⟨_,_,Ig C ab ab,U,O,E.trans aa⟩
theorem CJ {s:List UInt8} {i:Nat} (h:i < s.length):(s.take<|i+1).drop i= [s.getD i 0]:=by
 rw [D6,show i+1 - i=1 by omega,drop_cons 0 h]; rfl
theorem MS (b:UInt8):cJ [b]=fZ b:=by
 unfold cJ jb;cases h:fZ b <;> simp [h]
def j8:List UInt8×List UInt8:=([],[])
def mg (r:List UInt8×List UInt8):List ag:= [str r.1,str r.2]
theorem K3 {h:Array Obj} {a:Option aG} {rs:List (List UInt8×List UInt8)} {i:Nat} (A:bo h a (rs.flatMap mg)) (hi:i < rs.length):∀ j,j < 2→Hb.ay h (bk a) (fo a+i*2 +j)= [str (rs.getD i j8).1,str (rs.getD i j8).2][j]? :=
 pY (f:=mg) (m:=2) (fun _=>rfl) A (by rw [cn,bR hi]; rfl)
theorem K4 {rs:List (List UInt8×List UInt8)} (h:0 < rs.length):rs.flatMap mg≠[]:=sd (f:=mg) (m:=2) (fun _=>rfl) aW h
variable {ls:Nat} {t:List UInt8} {rs:List (List UInt8×List UInt8)}
theorem nT {b:Bool} (h:(!b)=true):b=false :=by cases b; rfl; cases h
theorem xn (h:ls < 1∨64 < ls∨256 < rs.length):gK ls t rs=false :=by
 unfold gK;rw [decide_eq_false ab]; rfl
theorem Cc (h:t≠[]) (A:letE t≠(t,0)):gK ls t rs=false :=by
 unfold gK;rw [decide_eq_false h,decide_eq_false A]; simp
theorem xo {i:Nat} (h:i < rs.length) (A:iV (rs.getD i j8)=false):gK ls t rs=false :=by
 unfold gK;rw [yS j8 h A]; simp
theorem Ly (h:¬(ls < 1∨64 < ls∨256 < rs.length)) (A:t= []∨letE t=(t,0)) (C:∀ i,i < rs.length→iV (rs.getD i j8)=true):gK ls t rs=true :=by
 unfold gK;rw [decide_eq_true ab,yT j8 C];rcases A with A | A <;> simp [A]
theorem Lz {r:List UInt8×List UInt8} (h:r.1= []):iV r=false :=by unfold iV; simp [h]
theorem LA {r:List UInt8×List UInt8} (h:(jb r.1 && decide (r.1.length≤32))=false):iV r=false :=by unfold iV; rw [h]; simp
theorem LB {r:List UInt8×List UInt8} (h:(jb r.2 && decide (r.2.length≤32))=false):iV r=false :=by unfold iV; rw [h]; simp
theorem LC {r:List UInt8×List UInt8} (h0:r.1≠[]) (h:(jb r.1 && decide (r.1.length≤32))=true) (A:(jb r.2 && decide (r.2.length≤32))=true):iV r=true :=by unfold iV; rw [h,A,decide_eq_true h0]; rfl
theorem BL (x:List UInt8) (m:Nat) (w:ah) (ac:x.length≤1048576):
 aR aj 125 (bc [str x,bL m]) w (fun v w'=>v= .bool (jb x && decide (x.length≤m))∧Wk w w'):=by
 refine enter func125 U ntmps125 U<|cS 14 U<|lp (fun I V E=> ∃ (i:Nat),(i≤x.length)∧(∀ j,j < i→fZ (x.getD j 0)=true)∧(Wk w E)∧(Sl V [(0,str x),(1,bL m),(7,bL (x.length)),(8,bL i)])∧(x.length - i=I)) _ ⟨0,ab,(fun j M=>by omega),(Md.refl _ _),U,U⟩ ?_;rintro I V E ⟨i,hi,O,A,aa,rfl⟩;refine cH aa<|cS 6 U<|cd U (fun Z=> ?_) fun Z=> ?_;refine aB 15 U<|p (cK<|i+1)<|p (tz u9 U U U ab)<|e<|az (xU ((x.take<|i+1).drop i) E<|by rw [CJ ab]; simp) U fun ad ae L=> ?_;rw [CJ ab,MS] at L;obtain ⟨rfl,J⟩:=L;refine aC 3 U<|cb U (fun C=> ?_) fun C=> ?_;exact aK 8 U<|tr<|bG 2 U<|aJ U<|⟨by rw [uS (i:=i) ab (by simpa using C)]; rfl,A.trans J⟩
 exact aB 4 U<|p (cK<|i+1)<|au 2 U<|tn<|⟨_,ab,i+1,ab,(fun j M=>by rcases dW j i with h | h <;> first | exact O j h | (rw [show j=i by omega]; simpa using C)),(A.trans J),U,U⟩
 exact aK 2 U<|eH<|bG 12 U<|aJ U<|⟨by rw [uT (fun j M=>O j ab),Bool.true_and]; exact bv ab,A⟩
theorem LD (ls:Nat) (t:List UInt8) (rs:List (List UInt8×List UInt8)) (V:Option aG) (rc:Nat) (v3 v4 v5 v6:ag) (w:ah) (aq:bo w.heap V (rs.flatMap mg)) (a7:ls≤64) (ba:t.length≤1048576) (a8:rs.length≤1048576) (aX:∀ r∈rs,r.1.length≤1048576∧r.2.length≤1048576):
 aR aj 73 (bc [.agg #[bL ls,str t,.slice V rs.length rc,v3,v4,v5,v6]]) w (fun v w'=>v= .bool (gK ls t rs)∧Wk w w'):=by
 refine enter func73 U ntmps73 U<|aP 2 U<|e<|rL U fun an a2 a4 M C=>ao 7 U<|p (aM U<|C.bd 0)<|ao 2 U<|gs (t:=10) U (fun aV=> ?_) fun aV=> ?_;exact ao 4 U<|p mv<|au 15 U<|aJ U<|⟨(congrArg bO<|xn (t:=t) (rs:=rs)<|.inl (show ls < 1 by omega)).symm,M.md⟩
 refine ao 1 U<|bU U (aM U<|C.bd 0)<|ao 3 U<|gs (t:=15) U (fun aW=> ?_) fun aW=> ?_;exact au 15 U<|aJ U<|⟨(congrArg bO<|xn (t:=t) (rs:=rs)<|.inr<|.inl (show 64 < ls by omega)).symm,M.md⟩
 refine ao 1 U<|bU U (aM U<|C.bd 2)<|aC 5 U<|cd U (fun aT=> ?_) fun aT=> ?_;exact aK 7 U<|aJ U<|⟨(congrArg bO<|xn<|.inr<|.inr (show 256 < rs.length by omega)).symm,M.md⟩
 refine cx 2 U ?_;refine lu (fun ay al=> ∃ (a1:Unit),(t= []∨letE t=(t,0))∧(Wk w al)∧(aI al.heap an [bL ls,str t,.slice V rs.length rc,v3,v4,v5,v6])∧(Sl ay [(1,aH an)])) ?_ ?_;refine aP 3 U<|p (aM U<|C.bd 1)<|e<|az (Jp t a2 ab) U ?_;rintro v24 bb ⟨rfl,ar⟩;have I:=M.md.trans ar;have E:=Wk.B ar C;refine p mv<|ao 9 U<|p (aM U<|E.bd 1)<|ao 2 U<|gs (t:=30) U (fun O=> ?_) fun O=> ?_;refine ao 3 U<|gs (t:=33) U (fun ad=> ?_) fun ad=> ?_;exact ao 5 U<|p (ta U)<|au 9 U<|tr<|aJ U<|⟨(congrArg bO<|Cc O fun h=>by rw [h] at ad; exact ad U).symm,I⟩
 refine ao 2 U<|bU U (aM U<|E.bd 1)<|aC 5 U<|cd U (fun aa=> ?_) fun aa=> ?_;exact aK 6 U<|tr<|aJ U<|⟨(congrArg bO<|Cc O fun h=>aa<|by rw [h]).symm,I⟩
 exact aK 1 U<|tn<|⟨(),(.inr<|Prod.ext (tY.1 aa)<|by show (letE t).2=0; omega),I,E,U⟩
 exact au 13 U<|tn<|⟨(),(.inl<|tY.1 O),I,E,U⟩
 rintro ay al ⟨a1,a0,aO,aN,aY⟩;refine cH aY<|aB 4 U<|p (aM U<|aN.bd 2)<|aC 5 U<|lp (fun ap aA am=> ∃ (i:Nat),(i≤rs.length)∧(∀ j,j < i→iV (rs.getD j j8)=true)∧(Wk w am)∧(Sl aA [(41,.slice V rs.length rc),(42,bL (rs.length)),(43,bL i)])∧(rs.length - i=ap)) _ ⟨0,ab,(fun j aw=>by omega),aO,U,U⟩ ?_;rintro ap aA am ⟨i,hi,ax,A,aZ,rfl⟩;refine cH aZ<|cS 6 U<|cd U (fun aU=> ?_) fun aU=> ?_;refine aB 6 U<|p (fv HF U U ab<|bo.ok (aq.wk A)<|K4 ab)<|p (jk E1 U (U)<|K3 (aq.wk A) ab)<|e<|fI Ny fun aD bg a5 aS aF=>e<|ir Gp U U U U aF (by simp) fun ak aQ aL=> ?_;have Z:aI ak.heap aD [str (rs.getD i j8).1,str (rs.getD i j8).2]:=⟨_,aL⟩
 have L:Wk am ak:=Md.trans' aS.md aQ fun k a6 h=>by omega
 have a9:=aX _<|iM (d:=j8) (show i < rs.length by omega);refine ao 5 U<|p (aM U<|Z.bd 0)<|ao 2 U<|gs (t:=50) U (fun ae=> ?_) fun ae=> ?_;exact ao 5 U<|p mv<|au 16 U<|tr<|bG 2 U<|aJ U<|⟨(congrArg bO<|xo (show i < rs.length by omega)<|Lz ae).symm,A.trans L⟩
 refine ao 1 U<|bU U (aM U<|Z.bd 0)<|eg U U U<|az (BL _ 32 ak ab) U ?_;rintro v53 a3 ⟨rfl,J⟩;have aE:=Wk.B J Z;refine ao 3 U<|gb (t:=56) U (fun ai=> ?_) fun ai=> ?_;exact au 16 U<|tr<|bG 2 U<|aJ U<|⟨(congrArg bO<|xo (show i < rs.length by omega)<|LA<|nT ai).symm,(A.trans L).trans J⟩
 refine ao 1 U<|bU U (aM U<|aE.bd 1)<|eg U U U<|az (BL _ 32 a3 ab) U ?_;rintro v59 bf ⟨rfl,av⟩;refine aC 4 U<|cb U (fun ac=> ?_) fun ac=> ?_;exact aK 8 U<|tr<|bG 2 U<|aJ U<|⟨(congrArg bO<|xo (show i < rs.length by omega)<|LB<|nT ac).symm,((A.trans L).trans J).trans av⟩
 exact aB 4 U<|p (cK<|i+1)<|au 2 U<|tn<|⟨_,ab,i+1,ab,(fun j aw=>by rcases dW j i with h | h <;> first | exact ax j h | (rw [show j=i by omega]; exact LC ae (by simpa using ai)<|by simpa using ac)),(((A.trans L).trans J).trans av),U,U⟩
 exact aK 2 U<|eH<|bG 8 U<|aJ U<|⟨(congrArg bO<|Ly ab a0 fun j aw=>ax j ab).symm,A⟩
end Go.Hb
end
section
namespace Go.Hb
open Go.Hb.ek
structure iD (f:Nat→ag) (w:ah) (pA ms:Nat) (aa:Option aG) (n cA nx:Nat) (mk:List Nat):Prop where
 aq:aI w.heap pA [.slice aa n cA,.int .i64 nx,.slice (some ⟨ms,0,none⟩) n n]
 k9:aI w.heap ms (mk.map f)
 ne:pA≠ms
theorem iD.drew {f:Nat→ag} {w:ah} {E ms:Nat} {A:Option aG} {n C nx:Nat} {mk:List Nat} (h:iD f w E ms A n C nx mk):iD f w.drew E ms A n C nx mk:=⟨h.aq,h.k9,h.ne⟩
theorem Bf {f:Nat→ag} {mk:List Nat} {i x:Nat} :(mk.map f).set (0 +i*1) (f x)=(mk.set i x).map f:=by rw [List.map_set,cr,pE]
section
variable {a:List bC} {f nx:Nat} {mk:List Nat} {n:Int}
theorem C2 (h:n≠nx) (A:¬(0≤n∧n < nx)):vs a (f+1) (nx,mk) n=none:=by
 rw [xW h,if_neg (fun e=>A ⟨e.1,e.2.1⟩)]
theorem MU (h:n≠nx) (h0:0≤n) (C:n < nx):(vs a (f+1) (nx,mk) n).isSome=decide (((mk.getD n.toNat 0:Nat):Int)=2):=by
 rw [xW h];by_cases A:mk.getD n.toNat 0=2
 · rw [if_pos ⟨h0,C,A⟩,decide_eq_true ab]; rfl
 · rw [if_neg (fun e=>A e.2.2),decide_eq_false ab]; rfl
theorem MV {s:Nat×List Nat} (h:n≠nx) (A:vs a (f+1) (nx,mk) n=some s):s=(nx,mk):=by
 rw [xW h] at A;split at A
 · cases A; rfl
 · cases A
end
set_option maxHeartbeats 1000000 in
theorem MR (f:Nat) (a:List bC) (O:Option aG) (aa E ms:Nat) (w0:ah) (nx:Nat) (mk:List Nat) (n:Int) (w:ah) (bl:gC w0.heap O a) (cp:w0.heap.size≤E) (hm:w0.heap.size≤ms) (a0:Wk w0 w) (I:iD jE w E ms O a.length aa nx mk) (cm:mk.length=a.length) (co:nx≤a.length) (ck:a.length < f+nx) (hb:a.length≤1048576) (bW:∀ i,i < a.length→(bj a i).2.length≤1073741824):
 aR aj 164 (bc [aH E,.int .i64 n]) w (fun v w'=>v= .bool (vs a f (nx,mk) n).isSome∧Md (fun q=>q=E∨q=ms) w w'∧∀ s,vs a f (nx,mk) n=some s→iD jE w' E ms O a.length aa s.1 s.2):=by
 induction f generalizing nx mk n w with
 | zero=>omega
 | succ f ih=>
   have a2:∀ k,k < w0.heap.size→(k=E∨k=ms)→False:=fun k aY cc=>ab;have cq:=I.aq.lt;have cn:=I.k9.lt;have am:=I.ne;obtain ⟨ca,bQ⟩:=I.aq;refine enter func164 U ntmps164 U<|aP 12 U<|p (aM U<|I.aq.ay 1)<|aC 3 U<|cd U (fun ar=> ?_) fun ar=> ?_;refine aB 5 U<|gs (t:=16) U (fun bZ=> ?_) fun bZ=> ?_;refine ao 4 U<|bU U (aM U<|I.aq.ay 1)<|ao 3 U<|gs (t:=24) U (fun b0=> ?_) fun b0=> ?_;refine ao 3 U<|bU U (aM U<|I.aq.ay 2)<|ao 1 U<|bU U (ia vq U U ab)<|bU U (aM U (show _=some (bT .u8 ((mk.getD n.toNat 0:Nat):Int)) from Fv I.k9 (i:=n.toNat) ab))<|au 7 U<|aJ U ?_;refine ⟨congrArg bO (MU ar ab ab).symm,Md.refl _ _,fun s A=>by rw [MV ar A]; exact I⟩;refine ao 9 U<|p aE<|au 4 U<|aJ U ?_;rw [C2 ar ab];exact ⟨U,Md.refl _ _,fun s A=>by cases A⟩;refine ao 7 U<|p mv<|ao 9 U<|p aE<|au 4 U<|aJ U ?_;rw [C2 ar ab];exact ⟨U,Md.refl _ _,fun s A=>by cases A⟩;obtain rfl :n=(nx:Int):=tY.1 ar;refine aB 9 U<|p (aM U<|I.aq.ay 0)<|aC 4 U<|cd U (fun bS=> ?_) fun bS=> ?_;refine aK 7 U<|aJ U ?_;rw [MZ rfl ab];exact ⟨U,Md.refl _ _,fun s A=>by cases A⟩;refine aB 7 U<|p (aM U<|I.aq.ay 1)<|p (cK<|nx+1)<|ao 2 U<|e<|fP pR U U U bQ (by simp) fun b7 bq bA=> ?_;have bn:aI b7.heap E [.slice O a.length aa,.int .i64 ((nx+1:Nat):Int),.slice (some ⟨ms,0,none⟩) a.length a.length]:=⟨_,bA⟩
   have b4:=bq.B I.k9 fun e=>am e.symm;obtain ⟨em,bN⟩:=b4;refine ao 7 U<|p (aM U<|bn.ay 2)<|ao 1 U<|p (ia vq U U ab)<|e<|fP zC U U U bN (by simp; omega) fun aQ br bB=> ?_;have b5:aI aQ.heap ms ((mk.set nx 1).map jE):=by rw [← Bf]; exact ⟨_,bB⟩
   have a3:iD jE aQ E ms O a.length aa (nx+1) (mk.set nx 1):=⟨br.B bn am,b5,am⟩
   have a7:Md (fun q=>q=E∨q=ms) w aQ:=Md.trans (bq.mono fun k _ h=> .inl h)<|br.mono fun k _ h=> .inr h;have a1:Wk w0 aQ:=Md.trans' a0 a7 a2;obtain ⟨ae,ag,bv,aA⟩:=bl.two (i:=nx) ab;have cf:=aA.wk a1;refine ao 7 U<|p (aM U<|a3.aq.ay 0)<|ao 1 U<|p (fv r6 U U ab<|bl.ok ab)<|p (jk yP U (U)<|tE a1 bv)<|e<|fI Dg fun ad cs ci bM bE=>e<|ir zB U U U U bE (by simp) fun bh bK bH=> ?_;have bo:aI bh.heap ad [bO (bj a nx).1,.slice ae (bj a nx).2.length ag]:=⟨_,bH⟩
   have aT:Wk aQ bh:=Md.trans' bM.md bK fun k bt h=>by omega
   have bI:iD jE bh E ms O a.length aa (nx+1) (mk.set nx 1):=⟨aT.B a3.aq,aT.B a3.k9,am⟩
   have ce:=a7.size;refine ao 6 U<|p (aM U<|bo.ay 1)<|aC 5 U<|lp (fun bi bu av=> ∃ (k M:Nat) (J:List Nat),(k≤(bj a nx).2.length)∧(gM a f (nx+1) (mk.set nx 1) ((bj a nx).2.take k)=some (M,J))∧(iE<|(bj a nx).2.take k)∧(Wk w0 av)∧(Md (fun q=>q=E∨q=ms) w av)∧(iD jE av E ms O a.length aa M J)∧(aI (av).heap ad [bO (bj a nx).1,.slice ae (bj a nx).2.length ag])∧(Sl bu [(0,aH E),(1,.int .i64 (nx:Int)),(5,aH ad),(62,.slice ae (bj a nx).2.length ag),(63,.int .i64 (bj a nx).2.length),(64,.int .i64 k)])∧((bj a nx).2.length - k=bi)) _ ⟨0,nx+1,mk.set nx 1,ab,U,List.Pairwise.nil,(Md.trans a1 aT),(Md.trans' a7 aT fun k _ h=>h.elim),bI,bo,U,U⟩ ?_;rintro bi bu av ⟨k,M,J,bt,ac,aX,aU,a5,aD,ap,b6,rfl⟩;refine cH b6<|cS 6 U<|cd U (fun bV=> ?_) fun bV=> ?_;refine cx 5 U ?_;have cj:=bW nx ab;obtain ⟨⟨c,z⟩,hek⟩:∃ e,(bj a nx).2[k]? =some e:=⟨_,bR ab⟩
   obtain ⟨⟨aS,b8⟩,hep⟩:∃ e,(bj a nx).2[k - 1]? =some e:=⟨_,bR ab⟩
   have a9:=C5 ac ab;simp only [yz] at a9;refine aB 2 U<|p (fv rZ U U ab<|aA.ok ab)<|p (jk yQ U (U)<|tE aU<|aA.two hek)<|e<|fI Nz fun aw cr ch bL bw=>ao 1 U<|e<|ir Gr U U U U bw (by simp) fun aO bJ bx=> ?_;have aZ:aI aO.heap aw [bT .u8 c.toNat,.int .i64 z]:=⟨_,bx⟩
   have L:Wk av aO:=Md.trans' bL.md bJ fun k bt h=>by omega
   have bp:iD jE aO E ms O a.length aa M J:=⟨L.B aD.aq,L.B aD.k9,am⟩
   have a6:Md (fun q=>q=E∨q=ms) w aO:=Md.trans' a5 L fun k _ h=>h.elim;have cg:=a5.size;refine aC 3 U ?_;have C:(fun w'=>Wk w0 w'∧aI w'.heap ad [bO (bj a nx).1,.slice ae (bj a nx).2.length ag]∧aI w'.heap aw [bT .u8 c.toNat,.int .i64 z]) aO.drew:=⟨(Md.trans aU L).drew,L.B ap,aZ⟩
   refine bD (fun w'=>Wk w0 w'∧aI w'.heap ad [bO (bj a nx).1,.slice ae (bj a nx).2.length ag]∧aI w'.heap aw [bT .u8 c.toNat,.int .i64 z]) U wide C<|cD [0,1,2] U C<|mS (t:=71) U (fun b1=> ?_) fun b1=> ?_;refine cD [3] U C<|mU 4 U (fun w' Z=>aM U<|Z.2.1.ay 1) C<|cD [5] U C<|mU 6 U (fun _ _=>xi<|k - 1) C<|mU 7 U (fun _ _=>fv rZ U U ab<|aA.ok ab) C<|cD [8] U C<|mU 9 U (fun w' Z=>aM U (show _=some (bT .u8 (aS.toNat:Int)) from (aA.wk Z.1).b (k - 1) (aS,b8) hep)) C<|cD [10] U C<|mU 11 U (fun w' Z=>aM U<|Z.2.2.ay 0) C<|cD [12,13,14] U C<|mS (t:=83) U (fun b2=> ?_) fun b2=> ?_;refine cD [15,16,17,18,19,20] U C<|hn ai<|bG 10 U<|tr<|bG 2 U<|aJ U ?_;rw [MY ab (J1 ab hek hep<|by show c.toNat≤aS.toNat; omega)];exact ⟨U,a6.drew,fun s A=>by cases A⟩;refine cD [15,16] U C<|mU 17 U (fun w' Z=>aM U<|Z.2.2.ay 1) C<|Ax 18 U ai U U U<|az (ih M J z _ (Md.trans aU L).drew (iD.drew bp) ab ab ab) U ?_;rintro v87 an ⟨rfl,V,bd⟩;have ak:Md (fun q=>q=E∨q=ms) w an:=Md.trans a6<|Md.oh V;have ax:Wk w0 an:=Md.trans' a0 ak a2;have aF:(fun w'=>Wk w0 w'∧aI w'.heap ad [bO (bj a nx).1,.slice ae (bj a nx).2.length ag]∧aI w'.heap aw [bT .u8 c.toNat,.int .i64 z]) an:=⟨ax,V.B (L.B ap) (fun e=>by omega),V.B aZ fun e=>by omega⟩
   refine ⟨aF,?_⟩;refine cD [19,20] U aF<|hn ai<|ji 1 U<|cb U (fun al=> ?_) fun al=> ?_;have ba:vs a f (M,J) z=none:=by simpa using al
   refine aK 8 U<|tr<|bG 2 U<|aJ U ?_;rw [C3 (k:=k+1) ab (by rw [tI ac hek]; exact ba)];exact ⟨U,ak,fun s A=>by cases A⟩;obtain ⟨aN,aL⟩:∃ s,vs a f (M,J) z=some s:=rz.1<|by simpa using al
   exact aK 7 U<|tn<|⟨_,ab,k+1,aN.1,aN.2,ab,(by rw [tI ac hek]; exact aL),(BU aX hek fun q h0 bb=>by rw [hep] at bb; cases bb; show aS.toNat < c.toNat; omega),ax,ak,(bd _ aL),(V.B (L.B ap) fun e=>by omega),U,U⟩
   refine cD [3,4,5,6,7,8,9,10,11,12,13] U C<|iN 14 U (mv) C<|cD [15,16] U C<|mU 17 U (fun w' Z=>aM U<|Z.2.2.ay 1) C<|Ax 18 U ai U U U<|az (ih M J z _ (Md.trans aU L).drew (iD.drew bp) ab ab ab) U ?_;rintro v87 an ⟨rfl,V,bd⟩;have ak:Md (fun q=>q=E∨q=ms) w an:=Md.trans a6<|Md.oh V;have ax:Wk w0 an:=Md.trans' a0 ak a2;have aF:(fun w'=>Wk w0 w'∧aI w'.heap ad [bO (bj a nx).1,.slice ae (bj a nx).2.length ag]∧aI w'.heap aw [bT .u8 c.toNat,.int .i64 z]) an:=⟨ax,V.B (L.B ap) (fun e=>by omega),V.B aZ fun e=>by omega⟩
   refine ⟨aF,?_⟩;refine cD [19,20] U aF<|hn ai<|ji 1 U<|cb U (fun al=> ?_) fun al=> ?_;have ba:vs a f (M,J) z=none:=by simpa using al
   refine aK 8 U<|tr<|bG 2 U<|aJ U ?_;rw [C3 (k:=k+1) ab (by rw [tI ac hek]; exact ba)];exact ⟨U,ak,fun s A=>by cases A⟩;obtain ⟨aN,aL⟩:∃ s,vs a f (M,J) z=some s:=rz.1<|by simpa using al
   exact aK 7 U<|tn<|⟨_,ab,k+1,aN.1,aN.2,ab,(by rw [tI ac hek]; exact aL),(BU aX hek fun q h0 bb=>by omega),ax,ak,(bd _ aL),(V.B (L.B ap) fun e=>by omega),U,U⟩
   refine aK 2 U<|eH<|ji 3 U ?_;obtain ⟨b9,bP⟩:=aD.k9;rw [show k=(bj a nx).2.length by omega,ux] at ac aX;have a9:=C5 ac ab;simp only [yz] at a9;have bf:=MW ab aX ac;refine aB 4 U<|p (aM U<|aD.aq.ay 2)<|ao 1 U<|p (ia vq U U ab)<|e<|fP zC U U U bP (by simp; omega) fun bg a4 bz=> ?_;have b3:aI bg.heap ms ((J.set nx 2).map jE):=by rw [← Bf]; exact ⟨_,bz⟩
   have aV:iD jE bg E ms O a.length aa M (J.set nx 2):=⟨a4.B aD.aq am,b3,am⟩
   have aW:Md (fun q=>q=E∨q=ms) w bg:=Md.trans a5<|a4.mono fun k _ h=> .inr h;have bm:=a4.B ap fun e=>by omega
   refine ao 5 U<|p (aM U<|bm.ay 1)<|ao 3 U<|gs (t:=101) U (fun bX=> ?_) fun bX=> ?_;refine ao 3 U<|p mv<|ao 7 U<|p aE<|au 3 U<|aJ U ?_;rw [bf,if_pos (Jj ab)];exact ⟨U,aW,fun s A=>by cases A; exact aV⟩;refine ao 1 U<|bU U (aM U<|bm.ay 0)<|ao 2 U<|gb (t:=105) U (fun a8=> ?_) fun a8=> ?_;refine ao 7 U<|p aE<|au 3 U<|aJ U ?_;rw [bf,if_pos (Ji a8)];exact ⟨U,aW,fun s A=>by cases A; exact aV⟩;refine ao 3 U<|bU U (aM U<|aV.aq.ay 0)<|au 7 U<|aJ U ?_;rw [bf,Jh ab a8];by_cases aY:a.length=1;rw [if_pos (decide_eq_true aY)];exact ⟨congrArg bO (decide_eq_true ab),aW,fun s A=>by cases A; exact aV⟩;rw [if_neg (by simpa using aY)];exact ⟨congrArg bO (decide_eq_false ab),aW,fun s A=>by cases A⟩
def tt (a:List bC):Int:=if shaped a=true then 0 else 190
theorem qH {a:List bC} (h:shaped a=false):tt a=190:=if_neg<|by rw [h]; exact dd
theorem Ch {a:List bC} (h:shaped a=true):tt a=0:=if_pos h
set_option maxHeartbeats 1000000 in
theorem LJ (a:List bC) (A:Option aG) (E:Nat) (w:ah) (ad:gC w.heap A a) (aA:a.length≤140737488355328) (ap:∀ i,i < a.length→(bj a i).2.length≤1073741824):
 aR aj 103 (bc [.slice A a.length E]) w (fun v w'=>v= .int .i64 (tt a)∧Wk w w'):=by
 refine enter func103 U ntmps103 U<|aP 12 U<|gs (t:=7) U (fun ar=> ?_) fun ar=> ?_;exact au 14 U<|aJ U<|⟨iv (qH<|Ci ab).symm,Md.refl _ _⟩
 refine aC 6 U<|cd U (fun am=> ?_) fun am=> ?_;exact aK 7 U<|aJ U<|⟨iv (qH<|Ci ab).symm,Md.refl _ _⟩
 refine aB 7 U<|e<|k9 (zv:= .int .u8 0) xz U U U U ab (by unfold maxLen; omega) fun C ax aE J av=> ?_;have ag:aI ax.heap C ((eB a.length 0).map jE):=by rw [List.map_replicate]; exact Kq<|av _<|aT _
 refine p (hH (ps:= [(0,.slice A a.length E),(2,.slice (some ⟨C,0,none⟩) a.length a.length)]) (L:= [.slice A a.length E,.int .i64 0,.slice (some ⟨C,0,none⟩) a.length a.length]) L0 U<|U)<|e<|rL U fun V ac aD aa ae=> ?_;have ak:iD jE ac V C A a.length E 0 (eB a.length 0):=⟨ae,aa.md.B ag,by have :=J.size; omega⟩
 have Z:Wk w ac:=Md.trans J.md aa.md;have aH:=J.md.size;refine ao 7 U<|e<|az (MR (a.length+1) a A E V C w 0 (eB a.length 0) 0 _ ad ab ab Z ak (by simp) ab ab ab ap) U ?_;rintro aN aw ⟨rfl,al,bD⟩;have I:Wk w aw:=Md.trans' Z al fun k aF h=>by omega
 refine ao 2 U<|gb (t:=21) U (fun M=> ?_) fun M=> ?_;have hn:vs a (a.length+1) (0,eB a.length 0) 0=none:=by simpa using M
 exact au 18 U<|aJ U<|⟨iv (qH<|LK hn).symm,I⟩
 obtain ⟨aL,O⟩:∃ s,vs a (a.length+1) (0,eB a.length 0) 0=some s:=rz.1<|by simpa using M
 have ai:=bD _ O;refine ao 3 U<|bU U (aM U<|ai.aq.ay 1)<|aC 6 U<|cd U (fun an=> ?_) fun an=> ?_;exact aK 7 U<|aJ U<|⟨iv (qH<|by rw [Cj ab ab O]; exact decide_eq_false ab).symm,I⟩
 exact aK 8 U<|aJ U<|⟨iv (Ch<|by rw [Cj ab ab O]; exact decide_eq_true ab).symm,I⟩
end Go.Hb
end
section
namespace Go.Hb.pK
open Go.Hb.ek
theorem Mr {s:List UInt8} {i:Nat} (h:i < s.length):(s.drop i).take 1= [s.getD i 0]:=by
 rw [drop_cons 0 h]; rfl
def qG (l:List (Bool×ag)):List ag:=l.flatMap fun q=> [.bool q.1,q.2]
def mL (l:List (UInt8×Int)):List ag:=l.flatMap fun e=> [.int .u8 e.1.toNat,.int .i64 e.2]
theorem Tg.wy {F:Nat→Prop} {w w':ah} {B e n:Nat} {v:ag} {xs:List ag} (h:Tg w B e n v xs) (hm:Md F w w') (I:∀ k,F k→B≤k→∀ cur z,w.heap[k]?≠some (.cells cur e z)):Tg w' B e n v xs:=by
 obtain ⟨a,C,rfl,E,h | ⟨b,cur,z,rfl,hb,A,L⟩⟩:=h
 · exact ⟨a,C,U,E,.inl h⟩
 · exact ⟨_,C,U,E,.inr ⟨b,cur,z,U,hb,by rw [hm.cP b (bJ.1 A).1 (fun J=>I b J hb cur z A)]; exact A,L⟩⟩
theorem JY {w:ah} {k:Nat} (h:w.heap.size≤k) (cur:Array ag) (e:Nat) (z:Nat×Nat):w.heap[k]?≠some (.cells cur e z):=by
 rw [Array.getElem?_eq_none h]; intro h; cases h
def gv (w:ah) (B:Nat) (A:List (Bool×ag)) (l:List bC):Prop :=A.length=l.length∧∀ (i:Nat) q e,A[i]? =some q→l[i]? =some e→q.1=e.1∧Tg w B 244 e.2.length q.2 (mL e.2)
theorem gv.nil (w:ah) (B:Nat):gv w B [] []:=⟨rfl,fun i q r A=>by simp at A⟩
theorem gv.md {F:Nat→Prop} {w w':ah} {B:Nat} {E:List (Bool×ag)} {l:List bC} (h:gv w B E l) (hm:Md F w w') (I:∀ k,F k→B≤k→∀ cur z,w.heap[k]?≠some (.cells cur 244 z)):gv w' B E l:=
 ⟨h.1,fun i q r A C=>⟨(h.2 i q r A C).1,Tg.wy (h.2 i q r A C).2 hm I⟩⟩
theorem gv.wk {w w':ah} {B:Nat} {A:List (Bool×ag)} {l:List bC} (h:gv w B A l) (hm:Wk w w'):gv w' B A l:=h.md hm fun _ C=>C.elim
theorem gv.snoc {w:ah} {B:Nat} {E:List (Bool×ag)} {l:List bC} {v:ag} {e:bC} (ha:gv w B E l) (J:Tg w B 244 e.2.length v (mL e.2)):gv w B (E++ [(e.1,v)]) (l++ [e]):=by
 refine ⟨by rw [bB,bB,ha.1]; rfl,fun i q' r' A C=> ?_⟩;have I:=ha.1;by_cases hi:i < E.length
 · rw [eW hi] at A;rw [eW ab] at C;exact ha.2 i q' r' A C
 · rw [eI ab] at A;rw [eI ab,← I] at C;cases hj:i - E.length with
   | zero=>rw [hj] at A C; cases A; cases C; exact ⟨rfl,J⟩
   | succ j=>rw [hj] at A; simp at A
def fV (w:ah) (B:Nat) (v:ag) (l:List bC):Prop := ∃ A,Tg w B 195 l.length v (qG A)∧gv w B A l
theorem fV.md {F:Nat→Prop} {w w':ah} {B:Nat} {v:ag} {l:List bC} (h:fV w B v l) (hm:Md F w w') (C:∀ k,F k→B≤k→∀ cur z,w.heap[k]?≠some (.cells cur 195 z)∧w.heap[k]?≠some (.cells cur 244 z)):fV w' B v l:=by
 obtain ⟨J,E,I⟩:=h;exact ⟨J,Tg.wy E hm fun k A hb cur z=>(C k A hb cur z).1,I.md hm fun k A hb cur z=>(C k A hb cur z).2⟩
theorem fV.wk {w w':ah} {B:Nat} {v:ag} {l:List bC} (h:fV w B v l) (hm:Wk w w'):fV w' B v l:=h.md hm fun _ A=>A.elim
theorem fV.mono {w:ah} {B B':Nat} {v:ag} {l:List bC} (h:fV w B v l) (C:B'≤B):fV w B' v l:=by
 obtain ⟨L,I,J,A⟩:=h;exact ⟨L,I.mono C,J,fun i q e E he=>⟨(A i q e E he).1,(A i q e E he).2.mono C⟩⟩
theorem fV.qL {w:ah} {B:Nat} {v:ag} {l:List bC} (h:fV w B v l):∃ A cc,v= .slice A l.length cc∧l.length≤cc∧gC w.heap A l:=by
 obtain ⟨O,E,ae,aa⟩:=h;obtain ⟨A,cc,rfl⟩:=E.slice;obtain ⟨ac,I⟩:=E.zj;refine ⟨A,cc,U,ac,fun h0=>bo.ok I (sd (f:=fun q:Bool×ag=> [bO q.1,q.2]) (m:=2) (fun _=>rfl) aW ab),fun i hi=> ?_⟩;have L:O[i]? =some (O[i]'ab):=bR ab;have ad:l[i]? =some (bj l i):=by
  unfold bj;rw [cn,bR hi]; rfl
 obtain ⟨g1,g2⟩:=aa i _ _ L ad;obtain ⟨V,Z,M⟩:=g2.slice;have g3:=g2;rw [M] at g3;obtain ⟨_,C⟩:=g3.zj;have J:=pY (f:=fun q:Bool×ag=> [bO q.1,q.2]) (m:=2) (fun _=>rfl) I L;refine ⟨V,Z,by rw [J 0 ab,g1]; rfl,by rw [J 1 ab,M]; rfl,fun h0=>bo.ok C (sd (f:=fun e:UInt8×Int=> [bT .u8 e.1.toNat,.int .i64 e.2]) (m:=2) (fun _=>rfl) aW h0),fun k e he=> ?_,fun k e he=> ?_⟩
 · exact pY (f:=fun e:UInt8×Int=> [bT .u8 e.1.toNat,.int .i64 e.2]) (m:=2) (fun _=>rfl) C he 0 ab
 · exact pY (f:=fun e:UInt8×Int=> [bT .u8 e.1.toNat,.int .i64 e.2]) (m:=2) (fun _=>rfl) C he 1 ab
theorem LG (A:List (Bool×ag)) (q:Bool×ag):qG (A++ [q])=qG A++ [.bool q.1,q.2]:=by simp [qG]
theorem He (es:List (UInt8×Int)) (e:UInt8×Int):mL (es++ [e])=mL es++ [.int .u8 e.1.toNat,.int .i64 e.2]:=by simp [mL]
section
variable {s:List UInt8} {n a e t p v k:Nat} {es:List (UInt8×Int)} {l:List bC}
theorem Hf (h:s.length≤a):fJ s n a= .error 60:=by unfold fJ; rw [if_pos h]
theorem Hg (h:¬s.length≤a) (A:bE s (a+1)= .error e):fJ s n a= .error e:=by unfold fJ; rw [if_neg h,A]
theorem Hh (h:¬s.length≤a) (A:bE s (a+1)= .ok (t,p)) (C:n≤t):fJ s n a= .error 190:=by unfold fJ; rw [if_neg h,A]; exact if_pos C
theorem Hi (h:¬s.length≤a) (A:bE s (a+1)= .ok (t,p)) (C:¬n≤t):fJ s n a= .ok ((s.getD a 0,(t:Int)),p):=by unfold fJ; rw [if_neg h,A]; exact if_neg C
theorem L8 (h:bE s a= .error e):fQ s n a= .error e:=by unfold fQ; rw [h]
theorem L9 (h:bE s a= .ok (v,p)) (A:256 < v / 2):fQ s n a= .error 190:=by unfold fQ; rw [h]; exact if_pos A
theorem Ma (h:bE s a= .ok (v,p)) (A:¬256 < v / 2) (C:cU (fJ s n) (v / 2) p= .error e):fQ s n a= .error e:=by unfold fQ; rw [h]; simp only; rw [if_neg A,C]
theorem Mb (h:bE s a= .ok (v,p)) (A:¬256 < v / 2) (C:cU (fJ s n) (v / 2) p= .ok (es,t)):fQ s n a= .ok ((decide (v % 2=1),es),t):=by unfold fQ; rw [h]; simp only; rw [if_neg A,C]
theorem Lm (h:bE s a= .error e):ez s a= .error e:=by unfold ez; rw [h]
theorem B8 (h:bE s a= .ok (n,p)) (A:n=0∨1048576 < n):ez s a= .error 190:=by unfold ez; rw [h]; exact if_pos A
theorem xj (h:bE s a= .ok (n,p)) (A:¬(n=0∨1048576 < n)) (C:cU (fQ s n) n p= .error e):ez s a= .error e:=by unfold ez; rw [h]; simp only; rw [if_neg A,C]
theorem Ln (h:bE s a= .ok (n,p)) (A:¬(n=0∨1048576 < n)) (C:cU (fQ s n) n p= .ok (l,t)) (E:shaped l=false):ez s a= .error 190:=by unfold ez; rw [h]; simp only; rw [if_neg A,C]; simp only; rw [E]; rfl
theorem Lo (h:bE s a= .ok (n,p)) (A:¬(n=0∨1048576 < n)) (C:cU (fQ s n) n p= .ok (l,t)) (E:shaped l=true):ez s a= .ok (l,t):=by unfold ez; rw [h]; simp only; rw [if_neg A,C]; simp only; rw [E]; rfl
end
theorem Lt (rb:Nat) (s:List UInt8) (a:Nat) (w:ah) (a4:aI w.heap rb [str s,.int .i64 (a:Nat)]) (aN:s.length≤1048576) (ha:a≤s.length):
 mF aj 74 (bc [.pointer (some ⟨rb,0,none⟩)]) w (fun v w'=> ∃ l p,ez s a= .ok (l,p)∧fV w' w.heap.size v l∧aI w'.heap rb [str s,.int .i64 (p:Nat)]∧Md (fun k=>k=rb) w w') (fun c w'=> ∃ e,ez s a= .error e∧c=kU e∧Md (fun k=>k=rb) w w'):=by
 have c8:=a4.lt;refine pV func74 U ntmps74 U<|aP 7 U<|p mv<|eP U (eh n8 (oK rb s (a) w a4 aN<|ha) U fun v10 bp bW=> ?_) fun c w' A σ' M=>by obtain ⟨e,he,ar,am⟩:=A; exact ⟨e,Lm he,ar,am⟩
 obtain ⟨n,a0,V,rfl,bx,aS⟩:=bW;obtain ⟨cR,cY,c1⟩:=kr V;refine aC 3 U ?_;refine lu (fun bq a1=> ∃ (cw:Unit),(¬(n=0∨1048576 < n))∧(aI a1.heap rb [str s,.int .i64 (a0:Nat)])∧(Md (fun k=>k=rb) w a1)∧(Sl bq [(0,.pointer (some ⟨rb,0,none⟩)),(3,.int .u64 (n:Nat))])) ?_ ?_;refine aP 1 U<|p mv<|ao 3 U<|gs (t:=14) U (fun b9=> ?_) fun b9=> ?_;refine ao 3 U<|eP U (eh jF (jS _ _ _ bp) U fun cy cA aV=> ?_) fun c w' A σ' M=>⟨190,B8 V (by have :=of_decide_eq_false A.2.1; omega),A.1,by rw [A.2.2]; exact aS⟩
 obtain ⟨rfl,bm,rfl⟩:=aV;have bm:=of_decide_eq_true bm;exact au 1 U<|tn<|⟨(),ab,bx,aS,U⟩
 refine ao 3 U<|eP U (eh jF (jS _ _ _ bp) U fun cy cA aV=> ?_) fun c w' A σ' M=>⟨190,B8 V ab,A.1,by rw [A.2.2]; exact aS⟩
 exact absurd aV.2.1 aW;rintro bq a1 ⟨cw,av,bP,bV,ch⟩;refine cH ch<|cx 13 U<|lp (fun ak br J=> ∃ (k:Nat) (l:List bC) (ae:List (Bool×ag)) (aa:ag) (q:Nat),(k≤n)∧(cU (fQ s n) k a0= .ok (l,q))∧(q≤s.length)∧(dM J w.heap.size 195 2 aa ae.length<|qG ae)∧(gv J w.heap.size ae l)∧(aI J.heap rb [str s,.int .i64 (q:Nat)])∧(Md (fun k=>k=rb) w J)∧(Sl br [(0,.pointer (some ⟨rb,0,none⟩)),(3,.int .u64 (n:Nat)),(4,aa),(19,.int .u64 (n:Nat)),(20,.int .u64 (k:Nat))])∧(n - k=ak)) _ ⟨0,[],[],.slice none 0 0,a0,ab,U,ab,(iz _ _ _ _),(gv.nil _ _),bP,bV,U,U⟩ ?_;rintro ak br J ⟨k,l,ae,aa,q,C,I,c6,aL,bD,a5,ad,ci,rfl⟩;refine cH ci<|cS 6 U<|cd U (fun b6=> ?_) fun b6=> ?_;refine aB 7 U<|eP U (eh n8 (oK rb s (q) J a5 aN ab) U fun dl cB bX=> ?_) fun c w' A σ' M=>by obtain ⟨e,he,ar,am⟩:=A; exact ⟨e,xj V av (mY I (L8 he) ab),ar,ad.trans am⟩
 obtain ⟨v0,p1,aH,rfl,bA,aD⟩:=bX;obtain ⟨cT,cZ,c2⟩:=kr aH;refine ao 7 U<|p (qu U U ab<|pd ab)<|ao 1 U<|eP U (eh jF (jS _ _ _ cB) U fun v28 cC bZ=> ?_) fun c w' A σ' M=>⟨190,xj V av (mY I (L9 aH<|by have :=of_decide_eq_false A.2.1; omega) ab),A.1,by rw [A.2.2]; exact ad.trans aD⟩
 obtain ⟨rfl,cq,rfl⟩:=bZ;have bi:¬256 < v0 / 2:=by have :=of_decide_eq_true cq; omega
 have bU:=ad.trans aD;refine ao 5 U<|p (rm U U ab)<|ao 1 U<|p (hH (ps:= [(0,.bool (decide ((v0:Int) % 2=1)))]) (L:= [.bool (decide ((v0:Int) % 2=1)),.slice none 0 0]) LY U<|U)<|e<|fI Dg fun ac dw cN bg bK=> ?_;have dh:=bg.size;refine e<|ir zB U U U U bK (by simp) fun ai bf bM=> ?_;have bN:aI ai.heap ac [.bool (decide ((v0:Int) % 2=1)),.slice none 0 0]:=⟨_,bM⟩
 have ay:Wk cC ai:=bg.md.trans' bf fun k C h=>by omega
 have bO:=Wk.B ay bA;have dk:=ad.size;have dc:=aD.size;have di:=ay.size;have dj:=bf.size;have bT:Md (fun k=>k=rb) w ai:=bU.trans<|ay.mono fun _ _ h=>h.elim;refine ao 6 U<|p (qu U U ab<|pd ab)<|aC 4 U<|lp (fun ak bt Z=> ∃ (j:Nat) (es:List (UInt8×Int)) (aR:ag) (E:Nat),(j≤v0 / 2)∧(cU (fJ s n) j p1= .ok (es,E))∧(E≤s.length)∧(dM Z ai.heap.size 244 2 aR es.length<|mL es)∧(aI Z.heap rb [str s,.int .i64 (E:Nat)])∧(aI Z.heap ac [.bool (decide ((v0:Int) % 2=1)),aR])∧(Md (fun k=>k=rb∨k=ac) ai Z)∧(Sl bt [(0,.pointer (some ⟨rb,0,none⟩)),(3,.int .u64 (n:Nat)),(4,aa),(5,.int .u64 (v0:Nat)),(6,.pointer (some ⟨ac,0,none⟩)),(19,.int .u64 (n:Nat)),(20,.int .u64 (k:Nat)),(34,.int .u64 ((v0 / 2:Nat):Int)),(35,.int .u64 (j:Nat))])∧(v0 / 2 - j=ak)) _ ⟨0,[],.slice none 0 0,p1,ab,U,ab,(iz _ _ _ _),bO,bN,(Md.refl _ _),U,U⟩ ?_;rintro ak bt Z ⟨j,es,aR,E,cX,aJ,c7,aw,a6,a7,al,cj,rfl⟩;refine cH cj ?_;have cP:=jO aJ;have aY:∀ e,fJ s n E= .error e→j < v0 / 2→ez s a= .error e:=fun e he ca=>xj V av<|mY I (Ma aH bi<|mY aJ he ca) ab;have aA:Md (fun k=>k=rb) w Z:=bT.trans' al fun k C h=>by rcases h with h | h; exact h; omega
 refine cS 6 U<|cd U (fun b7=> ?_) fun b7=> ?_;refine aB 7 U<|eP U (eh ze (CH rb s E 1 Z a6 aN ab ab) U fun dm cD b0=> ?_) fun c w' A σ' M=>⟨60,aY _ (Hf ab) ab,A.2.1,aA.trans A.2.2⟩
 obtain ⟨db,bj,bE,aU⟩:=b0;rw [Mr ab] at bj;subst bj;refine p (qe 0 u9 U U<|by simp)<|ao 6 U<|eP U (eh n8 (oK rb s (E+1) cD bE aN ab) U fun dn cF b1=> ?_) fun c w' A σ' M=>by obtain ⟨e,he,ar,am⟩:=A; exact ⟨e,aY _ (Hg ab he) ab,ar,(aA.trans aU).trans am⟩
 obtain ⟨to,cv,aX,rfl,bG,bb⟩:=b1;obtain ⟨cV,c0,c3⟩:=kr aX;refine ao 9 U<|eP U (eh jF (jS _ _ _ cF) U fun v46 ds b2=> ?_) fun c w' A σ' M=>⟨190,aY _ (Hh ab aX<|by have :=of_decide_eq_false A.2.1; omega) ab,A.1,by rw [A.2.2]; exact (aA.trans aU).trans bb⟩
 obtain ⟨rfl,cr,rfl⟩:=b2;have cp:¬n≤to:=by have :=of_decide_eq_true cr; omega
 have aF:=aU.trans bb;have a8:=aF.B a7 fun h=>by omega
 have cu:=al.size;have dd:=aF.size;refine ao 4 U<|p (aM U<|a8.bd 1)<|ao 2 U<|p (rP u3 xR U<|nA ab)<|p (hH (ps:= [(0,.int .u8 (s.getD E 0).toNat),(1,.int .i64 (to:Nat))]) (L:= [.int .u8 (s.getD E 0).toNat,.int .i64 (to:Nat)]) LZ U<|U)<|e<|rJ Cr U U U fun cJ dt cL aq bH=> ?_;have de:=aq.size;have cg:=cE (da aw aF fun k C h=>by have :=dF aw C; omega) aq.md;refine e<|ap Cr (cg) U ab U (bo.jT bH) (U) (U) ab ab fun dp du bh aG cs b8=> ?_;have cs:=aG.size;have aO:∀ k,aR.ownBlock=some k→ai.heap.size≤k:=fun k h=>(dF aw h).1;have bR:=aG.B (Wk.B aq.md a8) fun h=>by have :=aO ac h; omega
 have bI:=aG.B (Wk.B aq.md bG) fun h=>by have :=aO rb h; omega
 obtain ⟨bu,bw,rfl⟩:=iQ bh;refine ao 1 U<|e<|st Gq U U (U) (bR) (by simp) fun dy aT bz=> ?_;have bQ:=aT.B bI fun h=>by omega
 exact au 7 U<|tn<|⟨_,ab,j+1,es++ [(s.getD E 0,(to:Int))],.slice bu (es.length+1) bw,cv,ab,(sr aJ<|Hi ab aX cp),ab,(by rw [bB,He]; exact da bh aT fun k C h=>by rcases b8 k C with a3 | a3; exact absurd (aO k a3) ab; omega),bQ,bz,((((al.trans<|aF.mono fun _ _ h=> .inl h).trans<|aq.md.mono fun _ _ h=>h.elim).trans' aG fun k C h=>by have :=aO k h; omega).trans<|aT.mono fun _ _ h=> .inr h),U,U⟩
 refine aK 2 U<|te _<|ji 2 U ?_;obtain ⟨a2,ce,rfl⟩:=iQ aw;obtain rfl :j=v0 / 2:=ab;have c4:=jO I;have c9:=bD.1;have co:=Mb aH bi aJ;have cu:=al.size;have a9:Md (fun k=>k=rb∨k=ac) J Z:=((aD.mono fun k _ h=> .inl h).trans<|ay.mono fun _ _ h=>h.elim).trans al;have aZ:=da aL a9 fun k C h=>by have :=dF aL C; omega
 have cn:=bD.md a9 (fun k C hb=>by
  rcases C with C | C;omega;exact fun cur z=>JY ab cur _ z)
 refine aB 1 U<|p (nf (aa) U)<|p (jk yP U (U) fun j _=>a7.bd j)<|e<|rJ Cv U U U fun cK dv cM O bJ=> ?_;have dg:=O.size;refine e<|ap Cv (cE aZ O.md) U ab U (bo.jT bJ) (U) (U) ab ab fun cz cG cf an ct cQ=> ?_;have ct:=an.size;have bl:∀ k,aa.ownBlock=some k→w.heap.size≤k:=fun k h=>(dF aL h).1;have bL:=an.B (Wk.B O.md a6) fun h=>by have :=bl rb h; omega
 have b5:Tg cG w.heap.size 244 es.length (.slice a2 es.length ce) (mL es):=Tg.wy (((Tg.wO aw).mono ab).wk O.md) an fun k C _=>sX (cE aZ O.md) aW k C;have cm:=(cn.wk O.md).md an fun k C _=>sX (cE aZ O.md) aW k C;exact p aE<|au 7 U<|tn<|⟨_,ab,k+1,l++ [(decide (v0 % 2=1),es)],ae++ [(decide ((v0:Int) % 2=1),.slice a2 es.length ce)],cz,E,ab,(sr I co),ab,(by rw [bB,LG]; exact cf),(by rw [show decide ((v0:Int) % 2=1)=decide (v0 % 2=1) from decide_eq_decide.2 ab] at*; exact gv.snoc (e:=(decide (v0 % 2=1),es)) cm b5),bL,((aA.trans<|O.md.mono fun _ _ h=>h.elim).trans' an fun k C h=>by have :=bl k h; omega),U,U⟩
 refine aK 2 U<|te _<|ji 3 U ?_;obtain rfl :k=n:=ab;have ba:fV J w.heap.size aa l:=⟨ae,by have h:=Tg.wO aL; rw [bD.1] at h; exact h,bD⟩
 obtain ⟨bv,cc,rfl,cO,b4⟩:=ba.qL;have c5:=jO I;have cb:∀ x∈l,x.2.length≤256:=fun x aQ=>(oA (R:=fun p=>p≤s.length) (S:=fun x:bC=>x.2.length≤256) (fun p x q' hr aQ=>⟨(xC aQ).2.1,(xC aQ).2.2.1⟩) ab I).2 x aQ;refine aB 3 U<|e<|az (LJ l bv cc J b4 ab fun i hi=>bS (cb _<|iM (d:=dI) hi) aW) U ?_;rintro dq cI ⟨rfl,ax⟩;refine ao 1 U ?_;refine eP U (eh jF (jS _ _ _ cI) U fun dr dx b3=> ?_) (fun c w' A σ' M=>⟨190,Ln V av I (by
  cases h:shaped l;rfl;exact absurd (show tt l=0 from Ch h) (of_decide_eq_false A.2.1)),A.1,by rw [A.2.2]; exact ad.trans (ax.mono fun _ _ h=>h.elim)⟩)
 obtain ⟨rfl,bn,rfl⟩:=b3;have ck:shaped l=true :=by
  cases h:shaped l;rw [qH h] at bn; exact absurd (of_decide_eq_true bn) aW;rfl
 exact au 9 U<|pZ<|f1 U U<|⟨l,q,Lo V av I ck,ba.wk ax,Wk.B ax a5,ad.trans<|ax.mono fun _ _ h=>h.elim⟩
end Go.Hb.pK
end
