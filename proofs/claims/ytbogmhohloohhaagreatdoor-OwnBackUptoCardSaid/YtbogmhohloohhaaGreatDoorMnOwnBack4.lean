/-
  Walks and plain laws that the law rests on, laid together. No conditions but those that each theorem names.
-/
import Derived.Test.YtbogmhohloohhaaGreatDoorMnOwnBack3
set_option linter.unusedVariables false
set_option maxRecDepth 100000000
set_option maxHeartbeats 1000000
open Array renaming getElem?_eq_some_iff→bI
open BitVec renaming ofInt→gw,ofInt_natCast→AZ,toNat_ofNat→A0
open Bool renaming noConfusion→dn
open Classical renaming not_not→vD
open Go renaming Addr→aD,Operand→az,Program→ak,TypeId→aj,Value→ab,World→ah
open Go.Calls renaming mono→gy
open Go.IntKind renaming u64→mw,u8→nU
open Go.Proofs.Tryz renaming prog→an
open Go.Value renaming bool→bM,func→mA,int→cW,oneCell'→jC,ownBlock→cG,pointer→rN,slice→eJ,tuple→rO
open Go.Value.slice renaming injEq→kV
open Go.World renaming ownsRow→dN,ownsRow_nil→jD
open List renaming append_assoc→kX,drop_take→BG,eq_nil_of_length_eq_zero→iU,foldlM_append→BK,foldlM_cons→vO,foldlM_nil→vP,getD_cons_zero→rT,getD_eq_getElem?_getD→cH,getElem?_append_left→fy,getElem?_append_right→fA,getElem?_drop→gV,getElem?_eq_getElem→bW,getElem?_eq_some_iff→cy,getElem_take→rV,length_append→bK,length_cons→bZ,length_drop→gX,length_mergeSort→BP,length_set→vR,length_singleton→gY,length_take→cm,map_cons→da,mem_append→eL,mem_cons→db,mem_iff_getElem?→rY,mem_singleton→iW,nodup_nil→r9,not_mem_nil→pD,pairwise_iff_getElem→BX,replicate→dT,sum_cons→vU,takeWhile_cons→B4,take_add_one→B5,take_length→vV,take_of_length_le→pE,take_succ_eq_append_getElem→B7,toArray→bC
open List.cons renaming injEq→iT
open Nat renaming add_assoc→eY,add_zero→iX,blt→au,le_refl→aO,le_trans→bX,lt_or_ge→dU,min_eq_left→sa,mod_eq_of_lt→vY,mul_comm→pH,mul_le_mul_left→Cd,mul_one→nZ,pow_le_pow_right→sd,pow_succ→se,zero_add→bS
open Option renaming bind_eq_bind→wg,bind_eq_some_iff→pK,isSome_iff_exists→pL,map_eq_some_iff→fB,pure_def→wh,toList_some→Ci
open Option.some renaming inj→et,injEq→aY
open Prod renaming fst→bN
open Prod.mk renaming injEq→jG
open UInt8 renaming toNat_lt→n9
open Go.Proofs.Tryz
open Go.RowKit Go.Proofs

namespace Go.Hb
abbrev jI:Type :=Int×List (List UInt8)×List UInt8
def dW:jI:=(0,[],[])
structure oc (h:Array Obj) (a:Option aD) (ops:List jI):Prop where
 ok:0 < ops.length→a=some ⟨bk a,fo a,none⟩
 st:∀ i,i < ops.length→∃ wa wc,(∀ j,j < 3→ay h (bk a) (fo a+i*3 +j)= [cW .i64 (ops.getD i dW).1,.slice wa (ops.getD i dW).2.1.length wc,str (ops.getD i dW).2.2][j]?)∧eD h wa (ops.getD i dW).2.1
theorem II {h:Array Obj} {b o:Nat} {u v x:ab} (h0:ay h b (o+0)=some u) (A:ay h b (o+1)=some v) (C:ay h b (o+2)=some x):∀ j,j < 3→ay h b (o+j)= [u,v,x][j]? :=by
 intro j E
 match j,E with
 | 0,_=>exact h0
 | 1,_=>exact A
 | 2,_=>exact C
theorem oc.wk {w w':ah} {a:Option aD} {ops:List jI} (h:oc w.heap a ops) (hm:Wk w w'):oc w'.heap a ops:=
 ⟨h.ok,fun i hi=>by
  obtain ⟨E,I,A,C⟩:=h.st i hi;exact ⟨E,I,II (hm.ay<|A 0 ag) (hm.ay<|A 1 ag) (hm.ay<|A 2 ag),C.wk hm⟩⟩
def il (x:jI):Nat:=1 +((x.2.1.map fun y=>y.length+1).sum+1)+(x.2.2.length+1)+1
theorem Ae {X:Type} {f:X→Nat} :∀ {l:List X} {i:Nat} (d:X),i < l.length→f (l.getD i d)≤(l.map f).sum
 | x::l,0,d,_=>by simp
 | x::l,i+1,d,h=>by
   have :=Ae (f:=f) (l:=l) (i:=i) d<|by simpa using h
   simp only [List.getD_cons_succ,da,vU]; omega
theorem Af {X:Type} {f:X→Nat} (A:∀ x,1≤f x):∀ (l:List X),l.length≤(l.map f).sum
 | []=>Nat.zero_le _
 | x::l=>by
   have :=Af A l;have :=A x;simp only [bZ,da,vU]; omega
theorem Jq (l:List (List UInt8)):l.length≤(l.map fun y=>y.length+1).sum∧∀ x∈l,x.length≤(l.map fun y=>y.length+1).sum:=by
 induction l with
 | nil=>exact ⟨Nat.zero_le _,fun x A=>by simp at A⟩
 | cons y l ih=>
   simp only [bZ,da,vU];refine ⟨ag,fun x A=> ?_⟩;rcases db.1 A with rfl | A
   · omega
   · have :=ih.2 x A; omega
theorem GC {ops:List jI} {i:Nat} (h:i < ops.length):(ops.getD i dW).2.1.length≤(ops.map il).sum∧(ops.getD i dW).2.2.length≤(ops.map il).sum∧∀ x∈(ops.getD i dW).2.1,x.length≤(ops.map il).sum:=by
 have C:=Ae (f:=il) dW h;have A:=Jq (ops.getD i dW).2.1;unfold il at C;refine ⟨?_,?_,fun x E=> ?_⟩
 · have :=A.1;unfold il; omega
 · unfold il; omega
 · have :=A.2 x E;unfold il; omega
theorem GD (ops:List jI):ops.length≤(ops.map il).sum:=Af (fun x=>by unfold il; omega) ops
theorem Ic {W:ah} {v:ab} {ops:List jI} (h:RS 3 (fun W cs (x:jI)=> ∃ E I J,cs= [E,I,J]∧([E]= [.int .i64 x.1]∧(Lit.int .i64 x.1).wf=true)∧RS 1 (fun _ cs (x:List UInt8)=>cs= [str x]) W [I] x.2.1∧[J]= [str x.2.2]) W [v] ops):
 ∃ a c,v= .slice a ops.length c∧oc W.heap a ops:=by
 obtain ⟨a,c,L,ac,am,Z,al,C⟩:=h;simp only [iT,and_true] at ac;refine ⟨a,c,ac,⟨fun h0=> ?_,fun i hi=> ?_⟩⟩
 · refine bh.ok Z fun e=> ?_;have hlen:=yg (L:=L) (m:=3) fun l hm=>by
    obtain ⟨i,hi⟩:=rY.1 hm;have :=(cy.1 hi).1;exact (C i l _ hi<|bW ag).1
   rw [e] at hlen;simp only [List.length_nil] at hlen;omega
 · have hm:∀ l∈L,l.length=3:=fun l hm=>by
    obtain ⟨i,hi⟩:=rY.1 hm;have :=(cy.1 hi).1;exact (C i l _ hi<|bW ag).1
   have V:L[i]? =some (L[i]'ag):=bW ag;have ak:ops[i]? =some (ops.getD i dW):=by rw [cH,bW hi]; rfl
   obtain ⟨_,E,I,J,e,⟨h0,_⟩,h1,h2⟩:=C i _ _ V ak;obtain ⟨M,O,ad,ai,_⟩:=IF h1;simp only [iT,and_true] at h0 h2;rw [h0,ad,h2] at e;have aj:∀ c,c < 3→ay W.heap (bk a) (fo a+i*3 +c)= [cW .i64 (ops.getD i dW).1,.slice M (ops.getD i dW).2.1.length O,str (ops.getD i dW).2.2][c]? :=fun c aa=>by
    have A:=yf hm V aa;rw [e] at A;have ae:∃ u,[cW .i64 (ops.getD i dW).1,.slice M (ops.getD i dW).2.1.length O,str (ops.getD i dW).2.2][c]? =some u:=by
     rw [bW (by simpa using aa)]; exact ⟨_,rfl⟩
    obtain ⟨u,hu⟩:=ae;rw [hu] at A ⊢;have U:=Z.sw A;rw [nZ,← eY] at U;exact U
   exact ⟨M,O,aj,ai⟩
end Go.Hb
section
namespace Go.Hb
abbrev Tl:=List<|List UInt8
def tw:Tl→List (UInt8×Tl)
 | []=> []
 | []::ts=>tw ts
 | (c::t)::ts=>match tw ts with
   | []=> [(c,[t])]
   | (c',g)::r=>if c=c' then (c,t::g)::r else (c,[t])::(c',g)::r
def Fp (A:Tl):Bool:=match A with | []::_=>true | _=>false
def Eg (A:Tl):Tl:=match A with | []::r=>r | r=>r
structure VS where
 known:List Tl
 ju:List (Bool×List (UInt8×Nat))
def VS.add (s:VS) (A:Tl):VS:=⟨s.known++ [A],s.ju++ [(false,[])]⟩
end Go.Hb
namespace Go.Hb
end Go.Hb
namespace Go.Hb
abbrev Cp:=Bool×List (UInt8×Nat)
end Go.Hb
namespace Go.Hb
end Go.Hb
namespace Go.Hb
def Er (A:List Tl) (p:UInt8×Tl):UInt8×Nat:=(p.1,A.idxOf p.2+1)
def enc (A:List Tl) (L:Tl):Cp:=(Fp L,(tw<|Eg L).map (Er A))
end Go.Hb
namespace Go.Hb
def nm (A:List Tl) (i:Nat):Tl:=A.getD (i - 1) []
end Go.Hb
namespace Go.Hb
end Go.Hb
namespace Go.Hb
end Go.Hb
end
section
namespace Go.Hb
end Go.Hb
namespace Go.Hb
section
variable {P:ak} {N:Fm} {σ:Nat→ab} {w:ah} {dst:Option Nat} {ty:aj} {pos :String} {af:Array Edge} {g:Option (Nat×Bool)} {x y z:az}
end
end Go.Hb
namespace Go.Hb
abbrev bH:Type :=Bool×List (UInt8×Int)
def dI:bH:=(false,[])
abbrev bA (a:List bH) (n:Nat):bH:=a.getD n dI
def gG (l:List (UInt8×Int)):Prop :=l.Pairwise fun x y=>x.1.toNat < y.1.toNat
instance (l:List (UInt8×Int)):Decidable (gG l):=by unfold gG; infer_instance
def ig (a:List bH) (p:bH):Bool:=decide (p.2≠[]) || p.1 || decide (a.length=1)
def vs (a:List bH):Nat→Nat×List Nat→Int→Option (Nat×List Nat)
 | 0,_,_=>none
 | f+1,(nx,mk),n=>
   if n≠nx then (if 0≤n∧n < nx∧mk.getD n.toNat 0=2 then some (nx,mk) else none)
   else if a.length≤nx then none
   else if gG (bA a nx).2∧ig a (bA a nx)=true then
    ((bA a nx).2.foldlM (fun s e=>vs a f s e.2) (nx+1,mk.set nx 1)).map fun s=>(s.1,s.2.set nx 2)
   else none
def shaped (a:List bH):Bool:=decide (0 < a.length) && decide (a.length≤1048576) && match vs a (a.length+1) (0,dT a.length 0) 0 with
 | some s=>decide (s.1=a.length)
 | none=>false
section
variable {a:List bH}
theorem Jf:∀ (f:Nat) {nx A:Nat} {mk mk':List Nat} {n:Int},vs a f (nx,mk) n=some (A,mk')→nx≤A∧mk'.length=mk.length:=by
 intro f
 induction f with
 | zero=>intro nx A mk mk' n h; cases h
 | succ f ih=>
   intro nx A mk mk' n h;have C:∀ (es:List (UInt8×Int)) (nx A:Nat) (mk mk':List Nat),es.foldlM (fun s e=>vs a f s e.2) (nx,mk)=some (A,mk')→nx≤A∧mk'.length=mk.length:=by
    intro es
    induction es with
    | nil=>intro nx A mk mk' h; simp only [vP,wh,aY,jG] at h; obtain ⟨rfl,rfl⟩:=h; exact ⟨aO _,rfl⟩
    | cons e es E=>
      intro nx A mk mk' h;simp only [vO,wg,pK] at h;obtain ⟨⟨I,m1⟩,h1,h2⟩:=h;have g1:=ih h1;have g2:=E _ _ _ _ h2;exact ⟨ag,ag⟩
   rw [vs] at h;split at h
   · split at h
     · cases h; exact ⟨aO _,rfl⟩
     · cases h
   · split at h
     · cases h
     · split at h
       · simp only [fB] at h;obtain ⟨⟨I,m1⟩,h1,h2⟩:=h;simp only [jG] at h2;obtain ⟨rfl,rfl⟩:=h2;have :=C _ _ _ _ _ h1;simp only [vR] at this ⊢;exact ⟨ag,this.2⟩
       · cases h
def lg (a:List bH):Nat→Nat→List (List UInt8)
 | 0,_=> []
 | f+1,n=>(if (bA a n).1=true then [[]] else [])++(bA a n).2.flatMap fun e=>(lg a f e.2.toNat).map (e.1:: ·)
def JB (a:List bH) (n:Nat):List (List UInt8):=lg a a.length n
variable {l:List Nat}
theorem vm {f nx:Nat} {mk:List Nat} {n:Int} (h:n≠nx):vs a (f+1) (nx,mk) n=if 0≤n∧n < nx∧mk.getD n.toNat 0=2 then some (nx,mk) else none:=by rw [vs,if_pos h]
theorem Jh {f nx:Nat} {mk:List Nat} {n:Int} (h:n=nx) (A:a.length≤nx):vs a (f+1) (nx,mk) n=none:=by rw [vs,if_neg (fun e=>e h),if_pos A]
theorem vl {f nx:Nat} {mk:List Nat} {n:Int} (h:n=nx) (A:nx < a.length) (C:¬(gG (bA a nx).2∧ig a (bA a nx)=true)):vs a (f+1) (nx,mk) n=none:=by grind [vs]
theorem AG {f nx:Nat} {mk:List Nat} {n:Int} (h:n=nx) (A:nx < a.length) (C:gG (bA a nx).2) (E:ig a (bA a nx)=true):
 vs a (f+1) (nx,mk) n=((bA a nx).2.foldlM (fun s e=>vs a f s e.2) (nx+1,mk.set nx 1)).map fun s=>(s.1,s.2.set nx 2):=by grind [vs]
theorem Ji:∀ (f:Nat) {nx A:Nat} {mk mk':List Nat} {n:Int},vs a f (nx,mk) n=some (A,mk')→nx≤a.length→A≤a.length:=by
 intro f
 induction f with
 | zero=>intro nx A mk mk' n h; cases h
 | succ f ih=>
   intro nx A mk mk' n h hle;have C:∀ (es:List (UInt8×Int)) (nx A:Nat) (mk mk':List Nat),es.foldlM (fun s e=>vs a f s e.2) (nx,mk)=some (A,mk')→nx≤a.length→A≤a.length:=by
    intro es
    induction es with
    | nil=>intro nx A mk mk' h; simp only [vP,wh,aY,jG] at h; obtain ⟨rfl,rfl⟩:=h; exact id
    | cons e es E=>
      intro nx A mk mk' h hle;simp only [vO,wg,pK] at h;obtain ⟨⟨I,m1⟩,h1,h2⟩:=h;exact E _ _ _ _ h2<|ih h1 hle
   rw [vs] at h;split at h
   · split at h
     · cases h; exact hle
     · cases h
   · split at h
     · cases h
     · split at h
       · simp only [fB] at h;obtain ⟨⟨I,m1⟩,h1,h2⟩:=h;simp only [jG] at h2;obtain ⟨rfl,rfl⟩:=h2;exact C _ _ _ _ _ h1 ag
       · cases h
def fP (a:List bH) (f nx:Nat) (mk:List Nat) (es:List (UInt8×Int)):Option (Nat×List Nat):=es.foldlM (fun s e=>vs a f s e.2) (nx,mk)
theorem Jk {f nx:Nat} {mk:List Nat} {es:List (UInt8×Int)} {e:UInt8×Int} {s:Nat×List Nat} (h:fP a f nx mk es=some s):fP a f nx mk (es++ [e])=vs a f s e.2:=by
 unfold fP at*;rw [BK,h];simp
theorem Jj {f nx:Nat} {mk:List Nat} {es es':List (UInt8×Int)} (h:fP a f nx mk es=none):fP a f nx mk (es++es')=none:=by grind [fP,BK]
theorem AH {f nx:Nat} {mk:List Nat} {es:List (UInt8×Int)} {s:Nat×List Nat} (h:fP a f nx mk es=some s) (hle:nx≤a.length):nx≤s.1∧s.2.length=mk.length∧s.1≤a.length:=by
 unfold fP at h
 induction es generalizing nx mk with
 | nil=>simp only [vP,wh,aY] at h; subst h; exact ⟨aO _,rfl,hle⟩
 | cons e es ih=>
   simp only [vO,wg,pK] at h;obtain ⟨⟨A,m1⟩,h1,h2⟩:=h;have g1:=Jf f h1;have g2:=ih h2<|Ji f h1 hle;exact ⟨ag,ag,g2.2.2⟩
theorem zB {es:List (UInt8×Int)} {k:Nat} {e:UInt8×Int} (h:gG (es.take k)) (he:es[k]? =some e) (hp:∀ p,0 < k→es[k - 1]? =some p→p.1.toNat < e.1.toNat):gG (es.take<|k+1):=by
 obtain ⟨L,rfl⟩:=cy.1 he;rw [B7 L];unfold gG at*;refine List.pairwise_append.2 ⟨h,by simp,fun x M y C=> ?_⟩;rw [iW] at C; subst C;obtain ⟨j,J,rfl⟩:=List.mem_iff_getElem.1 M;simp only [cm] at J;have E:=hp es[k - 1] ag<|bW ag;rcases dU j (k - 1) with A | A
 · have I:=BX.1 h j (k - 1) (by rw [cm]; omega) (by rw [cm]; omega) A;rw [rV,rV] at I;rw [rV]; omega
 · have :j=k - 1:=ag;subst this;rw [rV]; exact E
theorem Gy {es:List (UInt8×Int)} {k:Nat} {e p:UInt8×Int} (h0:0 < k) (he:es[k]? =some e) (hp:es[k - 1]? =some p) (h:e.1.toNat≤p.1.toNat):¬gG es:=fun hr=>by
 obtain ⟨A,rfl⟩:=cy.1 he;obtain ⟨C,rfl⟩:=cy.1 hp;have :=BX.1 hr (k - 1) k C A ag;omega
theorem Je {f nx:Nat} {mk:List Nat} {s:Nat×List Nat} (A:nx < a.length) (hr:gG (bA a nx).2) (C:fP a f (nx+1) (mk.set nx 1) (bA a nx).2=some s):vs a (f+1) (nx,mk) (nx:Int)=if ig a (bA a nx)=true then some (s.1,s.2.set nx 2) else none:=by
 by_cases h:ig a (bA a nx)=true
 · rw [AG rfl A hr h,if_pos h];unfold fP at C;rw [C]; rfl
 · rw [vl rfl A (fun e=>h e.2),if_neg h]
theorem AF {f nx k:Nat} {mk:List Nat} (C:nx < a.length) (h:fP a f (nx+1) (mk.set nx 1) ((bA a nx).2.take k)=none):vs a (f+1) (nx,mk) (nx:Int)=none:=by
 by_cases A:gG (bA a nx).2∧ig a (bA a nx)=true
 · rw [AG rfl C A.1 A.2];have :=Jj (es':=(bA a nx).2.drop k) h;rw [List.take_append_drop] at this;unfold fP at this;rw [this]; rfl
 · exact vl U C A
theorem Jg {f nx:Nat} {mk:List Nat} (A:nx < a.length) (h:¬gG (bA a nx).2):vs a (f+1) (nx,mk) (nx:Int)=none:=vl rfl A (fun e=>h e.1)
theorem rn {f nx k:Nat} {mk:List Nat} {es:List (UInt8×Int)} {e:UInt8×Int} {s:Nat×List Nat} (h:fP a f nx mk (es.take k)=some s) (he:es[k]? =some e):fP a f nx mk (es.take<|k+1)=vs a f s e.2:=by
 obtain ⟨A,rfl⟩:=cy.1 he;rw [B7 A];exact Jk h
theorem FO {q:bH} (h:0 < q.2.length):ig a q=true :=by grind [ig]
theorem FN {q:bH} (h:q.1=true):ig a q=true :=by
 unfold ig; rw [h,Bool.or_true,Bool.true_or]
theorem FM {q:bH} (h:¬0 < q.2.length) (A:q.1=false):ig a q=decide (a.length=1):=by grind [ig,iU]
theorem zU (h:¬(0 < a.length∧a.length≤1048576)):shaped a=false :=by grind [shaped]
theorem HZ (h:vs a (a.length+1) (0,dT a.length 0) 0=none):shaped a=false :=by
 unfold shaped; rw [h,Bool.and_false]
theorem zV {s:Nat×List Nat} (A:0 < a.length) (C:a.length≤1048576) (h:vs a (a.length+1) (0,dT a.length 0) 0=some s):shaped a=decide (s.1=a.length):=by grind [shaped]
def fG (a:List bH) (i:Nat):Nat:=min (JB a i).length 1099511627777
end
end Go.Hb
namespace Go.Hb
structure ll (h:Array Obj) (ea:Option aD) (es:List (UInt8×Int)):Prop where
 ok:0 < es.length→ea=some ⟨bk ea,fo ea,none⟩
 b:∀ k e,es[k]? =some e→ay h (bk ea) (fo ea+k*2 +0)=some (.int .u8 e.1.toNat)
 to:∀ k e,es[k]? =some e→ay h (bk ea) (fo ea+k*2 +1)=some (.int .i64 e.2)
theorem ll.wk {w w':ah} {A:Option aD} {es:List (UInt8×Int)} (h:ll w.heap A es) (hm:Wk w w'):ll w'.heap A es:=⟨h.ok,fun k e he=>hm.ay (h.b k e he),fun k e he=>hm.ay<|h.to k e he⟩
theorem u6 {h:Array Obj} {b o:Nat} {u v:ab} (h0:ay h b (o+0)=some u) (A:ay h b (o+1)=some v):∀ j,j < 2→ay h b (o+j)= [u,v][j]? :=by grind
theorem ll.two {h:Array Obj} {A:Option aD} {es:List (UInt8×Int)} (C:ll h A es) {k:Nat} {e:UInt8×Int} (he:es[k]? =some e):∀ j,j < 2→ay h (bk A) (fo A+k*2 +j)= [cW .u8 e.1.toNat,.int .i64 e.2][j]? :=u6 (C.b k e he)<|C.to k e he
structure od (h:Array Obj) (aa:Option aD) (a:List bH):Prop where
 ok:0 < a.length→aa=some ⟨bk aa,fo aa,none⟩
 st:∀ i,i < a.length→∃ ea ec,ay h (bk aa) (fo aa+i*2 +0)=some (.bool (bA a i).1)∧ay h (bk aa) (fo aa+i*2 +1)=some (.slice ea (bA a i).2.length ec)∧ll h ea (bA a i).2
theorem od.two {h:Array Obj} {C:Option aD} {a:List bH} (M:od h C a) {i:Nat} (hi:i < a.length):∃ A E,(∀ j,j < 2→ay h (bk C) (fo C+i*2 +j)= [bM (bA a i).1,.slice A (bA a i).2.length E][j]?)∧ll h A (bA a i).2:=by
 obtain ⟨A,E,I,J,L⟩:=M.st i hi;exact ⟨A,E,u6 I J,L⟩
theorem GN {w:ah} {B e size n b:Nat} {xs:List ab} (h:w.ownsRow B e size (.slice (some ⟨b,0,none⟩) n n) n xs):aC w.heap b xs:=by
 rcases h.2 with ⟨hn,_⟩ | ⟨g,cap,cur,C,_,E,_,_,I,A⟩
 · cases hn
 · simp only [kV,aY,Addr.mk.injEq,and_true,true_and] at C;obtain ⟨rfl,rfl⟩:=C;rw [pE (by rw [Array.length_toList,I]; exact aO _)] at A;exact ⟨_,by rw [← A]; simpa using E⟩
theorem Ar {w w':ah} {b o:Nat} {u v:ab} (hm:Wk w w') (h:∀ j,j < 2→ay w.heap b (o+j)= [u,v][j]?):∀ j,j < 2→ay w'.heap b (o+j)= [u,v][j]? :=u6 (hm.ay<|h 0 ag)<|hm.ay<|h 1 ag
theorem Md.mU {F:Nat→Prop} {w w':ah} (h:Md F w.drew w'):Md F w w':=⟨h.os,h.output,h.size,h.cD⟩
def iC (n:Nat):ab:= .int .u8 n
theorem CX {h:Array Obj} {b:Nat} {f:Nat→ab} {mk:List Nat} {i:Nat} (hb:aC h b (mk.map f)) (hi:i < mk.length):ay h b (0 +i*1)=some (f<|mk.getD i 0):=by
 rw [nZ,bS,hb.ay,List.getElem?_map,cH,bW hi]; rfl
end Go.Hb
namespace Go.Hb
abbrev Nr:Type :=List UInt8×Nat
end Go.Hb
namespace Go.Hb
section
variable {P:ak} {N:Fm} {σ:Nat→ab} {w:ah} {ty:aj} {pos :String} {af:Array Edge} {g:Option (Nat×Bool)} {x y:az} {K:(Nat→ab)→ah→Prop}
end
end Go.Hb
namespace Go.Hb
def zM (l:List Nr) (c d:Nat):List Nr:=(l.drop c).take<|d - c
end Go.Hb
namespace Go.Hb
end Go.Hb
end
section
namespace Go.Hb
def eG:List UInt8→Nat
 | []=>0
 | b::l=>b.toNat % 128 +128 *eG l
theorem tM:∀ (l m:List UInt8),eG (l++m)=eG l+128 ^ l.length*eG m
 | [],m=>by simp [eG]
 | b::l,m=>by
   rw [List.cons_append,eG,eG,tM l m,bZ,se,Nat.mul_add,← Nat.mul_assoc,pH 128 (128 ^ l.length)]; omega
theorem qw:∀ (l:List UInt8),eG l < 128 ^ l.length
 | []=>by simp [eG]
 | b::l=>by
   have :=qw l;rw [eG,bZ,se]; omega
def eS (l:List UInt8):Nat:=((l.take 10).takeWhile fun b=>decide (128≤b.toNat)).length
theorem Ap {f:UInt8→Bool} :∀ {l:List UInt8} {k:Nat},(∀ j,j < k→j < l.length∧f (l.getD j 0)=true)→(l.length≤k∨f (l.getD k 0)=false)→(l.takeWhile f).length=k
 | [],k,h,_=>by
   cases k with
   | zero=>rfl
   | succ k=>have :=(h 0 ag).1; simp at this
 | b::l,0,_,A=>by
   rcases A with A | A
   · simp at A
   · simp only [rT] at A;rw [B4,A]; rfl
 | b::l,k+1,h1,A=>by
   have h0:=(h1 0 ag).2;simp only [rT] at h0;rw [B4,h0,if_pos rfl,bZ,Ap (k:=k) (fun j C=>by have :=h1 (j+1) ag; simpa using this) (by simpa using A)]
theorem Aj {l:List UInt8} {n j:Nat} (h:j < n):(l.take n).getD j 0=l.getD j 0:=by
 rw [cH,List.getElem?_take_of_lt h,cH]
theorem xK {l:List UInt8} {n j:Nat} :(l.drop n).getD j 0=l.getD (n+j) 0:=by
 rw [cH,gV,cH]
theorem j0 {s:List UInt8} {a k:Nat} (L:k≤10) (h:∀ j,j < k→a+j < s.length∧128≤(s.getD (a+j) 0).toNat) (A:k=10∨s.length≤a+k∨(s.getD (a+k) 0).toNat < 128):eS (s.drop a)=k:=by
 unfold eS;refine Ap (fun j E=> ?_) ?_
 · obtain ⟨I,C⟩:=h j E;refine ⟨by rw [cm,gX]; omega,?_⟩;rw [Aj ag,xK];exact decide_eq_true C
 · rcases A with A | A | A
   · exact .inl<|by rw [cm]; omega
   · exact .inl<|by rw [cm,gX]; omega
   · by_cases J:k=10
     · exact .inl<|by rw [cm]; omega
     · refine .inr ?_;rw [Aj ag,xK];exact decide_eq_false ag
def bo (s:List UInt8) (a:Nat):Except Nat (Nat×Nat):=
 if eS (s.drop a)=10 then .error 61 else if s.length≤a+eS (s.drop a) then .error 60
 else if (eS (s.drop a)=9∧1 < (s.getD (a+eS (s.drop a)) 0).toNat)∨(0 < eS (s.drop a)∧(s.getD (a+eS (s.drop a)) 0).toNat=0) then .error 61
 else .ok (eG ((s.drop a).take<|eS (s.drop a)+1),a+eS (s.drop a)+1)
section
variable {s:List UInt8} {a k n p:Nat}
theorem Ht (h:eS (s.drop a)=10):bo s a= .error 61:=by unfold bo; rw [if_pos h]
theorem zG (h:eS (s.drop a)=k) (A:k≠10) (C:s.length≤a+k):bo s a= .error 60:=by unfold bo; rw [h,if_neg A,if_pos C]
theorem uB (h:eS (s.drop a)=k) (C:k≠10) (E:a+k < s.length) (A:(k=9∧1 < (s.getD (a+k) 0).toNat)∨(0 < k∧(s.getD (a+k) 0).toNat=0)):bo s a= .error 61:=by
 unfold bo; rw [h,if_neg C,if_neg ag,if_pos A]
theorem uC (h:eS (s.drop a)=k) (C:k≠10) (E:a+k < s.length) (A:¬((k=9∧1 < (s.getD (a+k) 0).toNat)∨(0 < k∧(s.getD (a+k) 0).toNat=0))):bo s a= .ok (eG ((s.drop a).take<|k+1),a+k+1):=by
 unfold bo; rw [h,if_neg C,if_neg ag,if_neg A]
theorem jt (h:bo s a= .ok (n,p)):a < p∧p≤s.length∧n < 18446744073709551616:=by
 unfold bo at h;split at h
 · cases h
 · split at h
   · cases h
   · split at h
     · cases h
     · rename_i M O U;simp only [Except.ok.injEq,jG] at h;obtain ⟨rfl,rfl⟩:=h;refine ⟨ag,ag,?_⟩;have aa:eS (s.drop a)≤10:=by
        unfold eS;exact bX (List.takeWhile_sublist _).length_le<|by rw [cm]; omega
       generalize Z:eS (s.drop a)=k at*;have L:=qw<|(s.drop a).take<|k+1;have hlen:((s.drop a).take<|k+1).length=k+1:=by rw [cm,gX]; omega
       by_cases J:k=9
       · subst J;rw [show (9:Nat)+1=10 from rfl,B5,tM];have A:=qw<|(s.drop a).take 9;have E:((s.drop a).take 9).length=9:=by rw [cm,gX]; omega
         rw [E] at A ⊢;have I:(s.drop a)[9]? =some (s.getD (a+9) 0):=by
          rw [gV,cH,bW ag]; rfl
         rw [I];simp only [Ci,eG];have V:(s.getD (a+9) 0).toNat≤1:=ag;have C:(128:Nat) ^ 9=9223372036854775808:=aP;rw [C] at A ⊢;omega
       · rw [hlen] at L;have :(128:Nat) ^ (k+1)≤128 ^ 9:=sd aP ag;have C:(128:Nat) ^ 9=9223372036854775808:=aP;omega
end
def cr {α:Type} (f:Nat→Except Nat (α×Nat)):Nat→Nat→Except Nat (List α×Nat)
 | 0,a=> .ok ([],a)
 | k+1,a=>match cr f k a with
   | .error e=> .error e
   | .ok (l,p)=>match f p with
     | .error e=> .error e
     | .ok (x,q)=> .ok (l++ [x],q)
section
variable {α:Type} {f:Nat→Except Nat (α×Nat)} {k n a p q e:Nat} {l:List α} {x:α}
theorem qs (h:cr f k a= .ok (l,p)) (A:f p= .ok (x,q)):cr f (k+1) a= .ok (l++ [x],q):=by rw [cr,h]; simp only [A]
theorem lL (h:cr f k a= .ok (l,p)) (C:f p= .error e) (hn:k < n):cr f n a= .error e:=by
 have A:cr f (k+1) a= .error e:=by rw [cr,h]; simp only [C]
 obtain ⟨d,rfl⟩:∃ d,n=k+1 +d:=⟨n - (k+1),ag⟩
 clear hn
 induction d with
 | zero=>exact A
 | succ d ih=>rw [← eY,cr,ih]
theorem ji:∀ {k:Nat} {l:List α} {p:Nat},cr f k a= .ok (l,p)→l.length=k
 | 0,l,p,h=>by cases h; rfl
 | k+1,l,p,h=>by
   rw [cr] at h;split at h
   · cases h
   · rename_i C p2 A;split at h
     · cases h
     · cases h;rw [bK,ji A]; rfl
theorem oG {R:Nat→Prop} {S:α→Prop} (E:∀ p x q,R p→f p= .ok (x,q)→R q∧S x):∀ {k:Nat} {l:List α} {p:Nat},R a→cr f k a= .ok (l,p)→R p∧∀ x∈l,S x
 | 0,l,p,ha,h=>by cases h; exact ⟨ha,fun x C=>by simp at C⟩
 | k+1,l,p,ha,h=>by
   rw [cr] at h;split at h
   · cases h
   · rename_i U p2 I;obtain ⟨J,L⟩:=oG E ha I;split at h
     · cases h
     · rename_i x q C;cases h;obtain ⟨M,O⟩:=E _ _ _ J C;refine ⟨M,fun y A=> ?_⟩;rcases eL.1 A with A | A
       · exact L y A
       · rw [iW.1 A]; exact O
end
def cZ (s:List UInt8) (a:Nat):Except Nat (List UInt8×Nat):=match bo s a with
 | .error e=> .error e
 | .ok (n,p)=>if 255 < n then .error 62 else if s.length < p+n then .error 60 else .ok ((s.drop p).take n,p+n)
def gq (s:List UInt8) (a:Nat):Except Nat ((List UInt8×List UInt8)×Nat):=match cZ s a with
 | .error e=> .error e
 | .ok (f,p)=>match cZ s p with
   | .error e=> .error e
   | .ok (t,q)=> .ok ((f,t),q)
def eQ (s:List UInt8) (n a:Nat):Except Nat ((UInt8×Int)×Nat):=if s.length≤a then .error 60 else match bo s (a+1) with
 | .error e=> .error e
 | .ok (t,p)=>if n≤t then .error 190 else .ok ((s.getD a 0,(t:Int)),p)
def eV (s:List UInt8) (n a:Nat):Except Nat (bH×Nat):=match bo s a with
 | .error e=> .error e
 | .ok (v,p)=>if 256 < v / 2 then .error 190 else match cr (eQ s n) (v / 2) p with
   | .error e=> .error e
   | .ok (es,q)=> .ok ((decide (v % 2=1),es),q)
def dS (s:List UInt8) (a:Nat):Except Nat (List bH×Nat):=match bo s a with
 | .error e=> .error e
 | .ok (n,p)=>if n=0∨1048576 < n then .error 190 else match cr (eV s n) n p with
   | .error e=> .error e
   | .ok (l,q)=>if shaped l=true then .ok (l,q) else .error 190
def ir (r:List UInt8×List UInt8):Bool:=decide (r.1≠[]) && (hZ r.1 && decide (r.1.length≤32)) && (hZ r.2 && decide (r.2.length≤32))
def gr (n:Nat) (t:List UInt8) (rs:List (List UInt8×List UInt8)):Bool:=decide (1≤n∧n≤64∧rs.length≤256) && (decide (t= []) || decide (letE t=(t,0))) && rs.all ir
structure oa where
 least:Nat
 tr:List UInt8
 zA:List (List UInt8×List UInt8)
 HH:List (List bH)
def fj:List UInt8:= [72,66,75,49]
def iE (s:List UInt8) (n:Nat) (t:List UInt8) (rs:List (List UInt8×List UInt8)) (a:Nat):Except Nat oa:=
 if gr n t rs=true then match cr (dS s) 4 a with
  | .error e=> .error e
  | .ok (l,p)=>if p=s.length then .ok ⟨n,t,rs,l⟩ else .error 202
 else .error 201
def du (s:List UInt8):Except Nat oa:=
 if s.take 4=fj then match bo s 4 with
  | .error e=> .error e
  | .ok (n,p1)=>match cZ s p1 with
    | .error e=> .error e
    | .ok (t,p2)=>match bo s p2 with
      | .error e=> .error e
      | .ok (m,p3)=>if 256 < m then .error 201 else match cr (gq s) m p3 with
        | .error e=> .error e
        | .ok (rs,p4)=>iE s (if n≤64 then n else 0) t rs p4
 else .error 200
section
variable {s:List UInt8} {a n p:Nat}
theorem oz {f:List UInt8} (h:cZ s a= .ok (f,p)):a < p∧p≤s.length∧f.length≤255:=by
 unfold cZ at h;split at h
 · cases h
 · rename_i n q A;obtain ⟨C,E,_⟩:=jt A;split at h
   · cases h
   · split at h
     · cases h
     · cases h;exact ⟨ag,ag,by rw [cm]; omega⟩
theorem Hj {r:List UInt8×List UInt8} (h:gq s a= .ok (r,p)):a < p∧p≤s.length∧r.1.length≤255∧r.2.length≤255:=by
 unfold gq at h;split at h
 · cases h
 · rename_i f q I;obtain ⟨L,M,A⟩:=oz I;split at h
   · cases h
   · rename_i t U J;obtain ⟨O,C,E⟩:=oz J;cases h;exact ⟨ag,C,A,E⟩
theorem Eo {e:UInt8×Int} (h:eQ s n a= .ok (e,p)):a < p∧p≤s.length∧0≤e.2∧e.2 < n:=by
 unfold eQ at h;split at h
 · cases h
 · split at h
   · cases h
   · rename_i t q C;obtain ⟨E,A,_⟩:=jt C;split at h
     · cases h
     · cases h;exact ⟨ag,A,by show (0:Int)≤(t:Int); omega,by show (t:Int) < n; omega⟩
theorem uT {x:bH} (h:eV s n a= .ok (x,p)):a < p∧p≤s.length∧x.2.length≤256∧∀ e∈x.2,0≤e.2∧e.2 < n:=by
 unfold eV at h;split at h
 · cases h
 · rename_i v q I;obtain ⟨L,C,_⟩:=jt I;split at h
   · cases h
   · split at h
     · cases h
     · rename_i es U A;have O:=ji A;obtain ⟨⟨M,E⟩,h5⟩:=oG (R:=fun p=>q≤p∧p≤s.length) (S:=fun e:UInt8×Int=>0≤e.2∧e.2 < n) (fun p x q' hr J=>by
        obtain ⟨g1,g2,g3⟩:=Eo J;exact ⟨⟨ag,g2⟩,g3⟩) ⟨aO _,C⟩ A
       cases h;exact ⟨ag,E,by show es.length≤256; omega,h5⟩
theorem HF {l:List bH} (h:dS s a= .ok (l,p)):a < p∧p≤s.length∧shaped l=true∧l.length≤1048576∧∀ x∈l,x.2.length≤256∧∀ e∈x.2,0≤e.2∧e.2 < l.length:=by
 unfold dS at h;split at h
 · cases h
 · rename_i n q J;obtain ⟨O,C,_⟩:=jt J;split at h
   · cases h
   · split at h
     · cases h
     · rename_i V Z A;have I:=ji A;obtain ⟨⟨U,E⟩,h5⟩:=oG (R:=fun p=>q≤p∧p≤s.length) (S:=fun x:bH=>x.2.length≤256∧∀ e∈x.2,0≤e.2∧e.2 < n) (fun p x q' hr M=>by
        obtain ⟨g1,g2,g3⟩:=uT M;exact ⟨⟨ag,g2⟩,g3⟩) ⟨aO _,C⟩ A
       split at h
       · cases h;rename_i L;exact ⟨ag,E,L,ag,by rw [I]; exact h5⟩
       · cases h
end
end Go.Hb
end
section
namespace Go.Hb
open Go Go.ChangeShapes
theorem HJ {P:ak} {n:String} {W:ah} {g:Nat} {cs:Array ab} (C:P.globalNamed n=some g) (A:W.var? P n=some cs):∃ e z,W.heap[g]? =some (.cells cs e z):=by
 unfold World.var? at A;rw [C] at A;simp only [Option.bind_some] at A;split at A
 · rename_i c e z h;cases A;exact ⟨e,z,h⟩
 · cases A
theorem gS {P:ak} {n nm:String} {text:List UInt8} {r:List (String×DataW Unit)} {W:ah} {g:Nat} {L E te I:aj} {ms:Array (String×aj)} {f:Field}
 (h:laidMet P ((n,.iface nm (.ptr<|.agg [.lit (.string text)]))::r) W)
 (A:P.globalNamed n=some g) (ae:(P.globals[g]?).map (·.type)=some L) (hi:P.underlying L=some (.interface ms)) (ac:∀ u,P.typeName? 3 u=some nm→u=E)
 (hp:P.underlying E=some (.pointer te)) (he:P.underlying te=some (.struct #[f])) (aa:f.type=I) (Z:f.offset=0) (ad:P.underlying I=some .string) (O:P.cellsOf te=1) (V:P.cellsOf I=1):
 ∃ (a:aD) (e:Nat),a.spot=none∧W.heap[g]? =some (.cells #[.iface E (.pointer<|some a)] e (0,0)):=by
 obtain ⟨a,s,J,U,_,_⟩:=laid_sentinel h A ae hi ac hp he aa Z ad O V;obtain ⟨e,z,hw⟩:=HJ A J;obtain ⟨ps,⟨g0,t0,al,f0,ao,ap,ab,an,ag,am,_,M⟩,_,hrows⟩:=h;obtain rfl :=et<|A.symm.trans ab;subst M;have ai:=et<|J.symm.trans ag;subst ai;obtain ⟨⟨c,t,C⟩,_⟩:=hrows g 0<|by simp [MemPlace.row]
 rw [hw] at C;simp only [aY,Obj.cells.injEq] at C;obtain ⟨_,_,rfl⟩:=C;exact ⟨a,e,World.cell?_spot U,hw⟩
theorem cz.nil {T:Nat} {w:ah} :cz T [] w:=fun g h=>by cases h
theorem cz.cons {T g:Nat} {l:List Nat} {w:ah} (h:∃ (a:aD) (e:Nat),a.spot=none∧w.heap[g]? =some (.cells #[.iface T (.pointer<|some a)] e (0,0))) (C:cz T l w):cz T (g::l) w:=fun k A=>by
 rcases db.1 A with rfl | A
 · exact h
 · exact C k A
theorem cz.sub {T:Nat} {l m:List Nat} {w:ah} (h:cz T l w) (C:∀ g∈m,g∈l):cz T m w:=fun g A=>h g<|C g A
end Go.Hb
end
section
namespace Go.Hb
abbrev dj (n:Nat):ab:= .int .i64 (n:Nat)
abbrev aJ (b:Nat):ab:= .pointer<|some ⟨b,0,none⟩
variable {P:ak} {N:Fm} {ops:Array Oper} {Q:Exit→(Nat→ab)→ah→Prop} {σ:Nat→ab} {w:ah} {S:ah→Prop} {r fuel:Nat} {listed:Array Bool} {d:Nat} {op:Op} {ty:aj} {pos :String} {af:Array Edge} {v:ab}
theorem tB (i:Nat) (hi:ops[i]? =some ⟨some d,op,ty,pos,af,none⟩) (E:∀ w,S w→(execOp (ev N σ) ⟨some d,op,ty,pos,af,none⟩).run P w= .ok (.value v) w) (A:S w) (k:bR P N ops Q S fuel (listed.setIfInBounds i true) (aI σ d v) w) (C:dQ N.F ops listed i=true :=by kernel_rfl):bR P N ops Q S (fuel+1) listed σ w:=hp i hi C E A k
theorem tQ (i:Nat) (hi:ops[i]? =some ⟨some d,op,ty,pos,af,none⟩) (E:∀ w,S w→(execOp (ev N σ) ⟨some d,op,ty,pos,af,none⟩).run P w= .ok (.value v) w) (A:S w) (k:bJ P N ops Q S r fuel (listed.setIfInBounds i true) (aI σ d v) w) (C:tt N.F ops listed r i=true :=by kernel_rfl):bJ P N ops Q S r (fuel+1) listed σ w:=yO i hi C E A k
theorem F7 (i:Nat) (hi:ops[i]? =some ⟨some d,op,ty,pos,af,none⟩) (E:∀ w,(execOp (ev N σ) ⟨some d,op,ty,pos,af,none⟩).run P w= .ok (.value v) w) (A:listed.getD r false =false→S w) (k:bJ P N ops Q S r fuel (listed.setIfInBounds i true) (aI σ d v) w) (C:lF N.F ops listed r i=true :=by kernel_rfl):bJ P N ops Q S r (fuel+1) listed σ w:=oK i hi C E A k
theorem lI (i:Nat) (hi:ops[i]? =some ⟨some d,op,ty,pos,af,none⟩) (E:∀ {w},(execOp (ev N σ) ⟨some d,op,ty,pos,af,none⟩).run P w= .ok (.value v) w) (A:S w) (k:bR P N ops Q S fuel (listed.setIfInBounds i true) (aI σ d v) w) (C:dQ N.F ops listed i=true :=by kernel_rfl):bR P N ops Q S (fuel+1) listed σ w:=hp i hi C (fun _ _=>E) A k
theorem JZ (i:Nat) (hi:ops[i]? =some ⟨some d,op,ty,pos,af,none⟩) (E:∀ {w},(execOp (ev N σ) ⟨some d,op,ty,pos,af,none⟩).run P w= .ok (.value v) w) (A:S w) (k:bJ P N ops Q S r fuel (listed.setIfInBounds i true) (aI σ d v) w) (C:mZ N.F ops listed r i=true :=by kernel_rfl):bJ P N ops Q S r (fuel+1) listed σ w:=lq i hi C (fun _ _=>E) A k
theorem tR (i:Nat) (hi:ops[i]? =some ⟨some d,op,ty,pos,af,none⟩) (E:∀ {w},(execOp (ev N σ) ⟨some d,op,ty,pos,af,none⟩).run P w= .ok (.value v) w) (A:S w) (k:bJ P N ops Q S r fuel (listed.setIfInBounds i true) (aI σ d v) w) (C:lF N.F ops listed r i=true :=by kernel_rfl):bJ P N ops Q S r (fuel+1) listed σ w:=oK i hi C (fun _=>E) (fun _=>A) k
theorem oB {x:az} (i:Nat) (hi:ops[i]? =some ⟨some d,.move x,ty,pos,af,none⟩) (v:ab) (A:S w) (k:bR P N ops Q S fuel (listed.setIfInBounds i true) (aI σ d v) w) (E:ev N σ x=v:=by exact U) (C:dQ N.F ops listed i=true :=by kernel_rfl):bR P N ops Q S (fuel+1) listed σ w:=hp i hi C (fun _ _=>oN v E) A k
theorem JY {x:az} (i:Nat) (hi:ops[i]? =some ⟨some d,.move x,ty,pos,af,none⟩) (v:ab) (A:S w) (k:bJ P N ops Q S r fuel (listed.setIfInBounds i true) (aI σ d v) w) (E:ev N σ x=v:=by exact U) (C:lF N.F ops listed r i=true :=by kernel_rfl):bJ P N ops Q S r (fuel+1) listed σ w:=oK i hi C (fun _=>oN v E) (fun _=>A) k
theorem jK {P:ak} {f:FuncId} {fn:Func} (A:P.funcs[f]? =some fn) (hn:(fn.name== "runtime.NumGoroutine")=false :=by kernel_rfl) (hb:fn.body.isNone=false :=by kernel_rfl):eN P f:=sL A hn hb
section
variable {rest:List Oper} {x:az} {K:(Nat→ab)→ah→Prop} {l:List Oper} {id:Nat} {y z:Code} {j t:Nat} {want b:Bool} {fn:Func} {R:ab→ah→Prop}
theorem J3 (h:∀ {K:(Nat→ab)→ah→Prop},(∀ {σ w},ba P N y Q σ w→fN K Q .normal σ w)→ba P N z (fN K Q) σ w):ba P N (.seq z y) Q σ w:=sq fun K A=>h fun hw=>A _ _ hw
theorem J4 (h:∀ {K:(Nat→ab)→ah→Prop},(∀ {σ w},ba P N y Q σ w→fN K Q .normal σ w)→bz P N l.toArray (fN K Q) l σ w) (hr:jo N.r l=true :=by exact U):ba P N (.seq (.region id l.toArray false) y) Q σ w:=sq fun K A=>rg hr<|h fun hw=>A _ _ hw
theorem JW (h:Q .normal (aI σ d<|ev N σ x) w):bz P N ops Q [⟨some d,.assign x,ty,pos,af,none⟩] σ w:=p aE<|nl h
theorem fm {id:Nat} (h:Q (.exit id) σ w):fN K Q (.exit id) σ w:=h
theorem J1 (h:(di ops j,au t N.n,σ t,b==want)=(some t,true,.bool b,false)) (k:bz P N ops Q rest (aI σ d undef) w):bz P N ops Q (⟨some d,op,ty,pos,af,some (j,want)⟩::rest) σ w:=sk (congrArg bN h) (congrArg (·.2.1) h) (congrArg (·.2.2.1) h) (congrArg (·.2.2.2) h) k
theorem J2 (h:(di ops j,au t N.n,σ t)=(some t,true,undef)) (k:bz P N ops Q rest (aI σ d undef) w):bz P N ops Q (⟨some d,op,ty,pos,af,some (j,want)⟩::rest) σ w:=zY (congrArg bN h) (congrArg (·.2.1) h) (congrArg (·.2.2) h) k
theorem cS (h:(di ops j,au t N.n,σ t)=(some t,true,.bool want)) (A:(execOp (ev N σ) ⟨some d,op,ty,pos,af,some (j,want)⟩).run P w= .ok (.value v) w) (k:bz P N ops Q rest (aI σ d v) w):bz P N ops Q (⟨some d,op,ty,pos,af,some (j,want)⟩::rest) σ w:=pg (congrArg bN h) (congrArg (·.2.1) h) (congrArg (·.2.2) h) A k
theorem JX (i:Nat) (h:(ops[i]?,di ops j,au t N.n,σ t,b==want)=(some ⟨some d,op,ty,pos,af,some (j,want)⟩,some t,true,.bool b,false)) (A:S w) (k:bR P N ops Q S fuel (listed.setIfInBounds i true) (aI σ d undef) w) (C:dQ N.F ops listed i=true :=by kernel_rfl):bR P N ops Q S (fuel+1) listed σ w:=yr i (congrArg bN h) C (congrArg (·.2.1) h) (congrArg (·.2.2.1) h) (congrArg (·.2.2.2.1) h) (congrArg (·.2.2.2.2) h) A k
theorem kG (i:Nat) (h:(ops[i]?,di ops j,au t N.n,σ t)=(some ⟨some d,op,ty,pos,af,some (j,want)⟩,some t,true,.bool want)) (E:∀ w,S w→(execOp (ev N σ) ⟨some d,op,ty,pos,af,some (j,want)⟩).run P w= .ok (.value v) w) (A:S w) (k:bR P N ops Q S fuel (listed.setIfInBounds i true) (aI σ d v) w) (C:dQ N.F ops listed i=true :=by kernel_rfl):bR P N ops Q S (fuel+1) listed σ w:=yq i (congrArg bN h) C (congrArg (·.2.1) h) (congrArg (·.2.2.1) h) (congrArg (·.2.2.2) h) E A k
theorem aW (h:(fn.results,ev N σ (.tmp t))=(#[.tmp t],v)) (A:R v w):fin P fn N R .ret σ w:=f1 (congrArg bN h) (congrArg Prod.snd h) A
theorem J0 (v:ab) (h:bz P N ops Q rest (aI σ d v) w) (A:ev N σ x=v:=by exact U):bz P N ops Q (⟨some d,.move x,ty,pos,af,none⟩::rest) σ w:=p (oN v A) h
end
end Go.Hb
end
namespace Go.Hb.fD
theorem CA:cM an 131=some (some 2):=ai
theorem wA:cM an 151=some (some 2):=ai
theorem CB:cM an 200=some (some 2):=ai
theorem CC:cM an 33=some (some 3):=ai
theorem wD:cM an 34=some none:=ai
theorem oe:cM an 56=some (some 7):=ai
theorem wO:kr an 277=some (256,1):=ai
theorem CM:kr an 54=some (4,1):=ai
theorem C2:ku an 67 5 9=true :=ai
theorem C3:eN an 41:=jK func41
theorem mN:eN an 42:=jK func42
theorem sJ:eN an 43:=jK func43
theorem iD:eN an 44:=jK func44
theorem C4:eN an 46:=jK func46
theorem C5:eN an 49:=jK func49
theorem C6:eN an 50:=jK func50
theorem C7:eN an 53:=jK func53
theorem xd:eN an 82:=jK func82
theorem xw:∀ v w,(callFunc 89 #[v]).run an w= .ok (.value v) w:=fun v w=>ai
theorem DC:cE an 131=some 2:=ai
theorem DD:cE an 149=some 1:=ai
theorem xx:cE an 151=some 2:=ai
theorem DE:cE an 200=some 2:=ai
theorem pV:cE an 3=some 1:=ai
theorem DF:cE an 31=some 1:=ai
theorem DG:cE an 33=some 3:=ai
theorem sU:cE an 34=some 1:=ai
theorem DH:cE an 4=some 1:=ai
theorem xy:cE an 5=some 1:=ai
theorem DI:cE an 52=some 1:=ai
theorem DJ:cE an 53=some 1:=ai
theorem pW:cE an 56=some 7:=ai
theorem DK:cE an 61=some 1:=ai
theorem xz:cE an 62=some 1:=ai
theorem DL:cE an 66=some 1:=ai
theorem xA:cE an 67=some 1:=ai
theorem DM:cE an 9=some 1:=ai
theorem xV:cO an 149=some 2:=ai
theorem Ex:cO an 22=some 3:=ai
theorem p9:cO an 31=some 1:=ai
theorem Ey:cO an 52=some 2:=ai
theorem Ez:cO an 53=some 2:=ai
theorem ox:cO an 62=some 1:=ai
theorem ta:cO an 67=some 1:=ai
theorem Fl:(an.info? 69).isSome=true :=ai
theorem Fu:∀ (l:List UInt8) (c:UInt8) (w:ah),(callFunc 256 #[str l,.int .u8 c.toNat]).run an w= .ok (.value<|.int .i64<|jV c l) w:=Hw func256 ai ai ai ai
theorem jj:iY an 9 cn:=tJ ai
theorem qH:jk an 34=true :=ai
theorem GW:ptrTo an 139 5=true :=ai
theorem z6:ez an 149 200 2 16=true :=ai
theorem kQ:ez an 31 9 1 16=true :=ai
theorem z7:ez an 52 131 2 32=true :=ai
theorem z8:ez an 53 151 2 32=true :=ai
theorem uQ:ez an 62 1 1 8=true :=ai
theorem uR:ez an 67 5 1 1=true :=ai
theorem Ig:fl an 126=some ([(0,1),(1,1)],[.string ⟨⟨[]⟩⟩,.int .i64 0]):=ai
theorem Ih:fl an 131=some ([(0,1),(1,1)],[.string ⟨⟨[]⟩⟩,.string ⟨⟨[]⟩⟩]):=ai
theorem Ii:fl an 151=some ([(0,1),(1,1)],[.bool false,.slice none 0 0]):=ai
theorem Ij:fl an 200=some ([(0,1),(1,1)],[.int .u8 0,.int .i64 0]):=ai
theorem Ik:fl an 276=some ([(0,1),(1,1),(2,1)],[.slice none 0 0,.int .i64 0,.slice none 0 0]):=ai
theorem Il:fl an 51=some ([(0,1),(1,1),(2,1),(3,1),(4,1)],[.int .i64 0,.int .i64 0,.int .i64 0,.int .i64 0,.int .i64 0]):=ai
theorem Aa:fl an 56=some ([(0,1),(1,1),(2,1),(3,4)],[.int .i64 0,.string ⟨⟨[]⟩⟩,.slice none 0 0,.slice none 0 0,.slice none 0 0,.slice none 0 0,.slice none 0 0]):=ai
theorem Im:fl an 60=some ([(0,7),(7,1)],[.int .i64 0,.string ⟨⟨[]⟩⟩,.slice none 0 0,.slice none 0 0,.slice none 0 0,.slice none 0 0,.slice none 0 0,.string ⟨⟨[]⟩⟩]):=ai
theorem Io:fl an 64=some ([(0,1),(1,1),(2,1)],[.pointer none,.map none,.slice none 0 0]):=ai
theorem IU:an.underlying 127=some (.int .u64):=ai
theorem rk:an.underlying 24=some (.pointer 60):=ai
theorem jv:an.underlying 29=some (.pointer 64):=ai
theorem u3:an.underlying 3=some (.int .i64):=ai
theorem u4:an.underlying 4=some (.bool):=ai
theorem eW:an.underlying 61=some (.map 9 3):=ai
theorem IV:an.underlying 62=some (.slice 1):=ai
theorem Av:an.underlying 66=some (.pointer 69):=ai
theorem u9:an.underlying 9=some (.string):=ai
theorem Ay:ma an 66 209 69 2=true :=ai
theorem vi:(an.underlying 127).isSome=true :=ai
theorem I6:(an.underlying 5).isSome=true :=ai
theorem wide:an.follows .mixedOrders=true :=ai
theorem JM:zeroOf an 131=some (some [.string ⟨⟨[]⟩⟩,.string ⟨⟨[]⟩⟩]):=ai
theorem AT:zeroOf an 151=some (some [.bool false,.slice none 0 0]):=ai
theorem JN:zeroOf an 200=some (some [.int .u8 0,.int .i64 0]):=ai
theorem JO:zeroOf an 33=some (some [.int .i64 0,.slice none 0 0,.string ⟨⟨[]⟩⟩]):=ai
theorem JP:zeroOf an 34=some (some [.int .i64 0]):=ai
theorem AU:zeroOf an 56=some (some [.int .i64 0,.string ⟨⟨[]⟩⟩,.slice none 0 0,.slice none 0 0,.slice none 0 0,.slice none 0 0,.slice none 0 0]):=ai
theorem JQ:zeroOf an 61=some (some [.map none]):=ai
theorem vA:zeroOf an 69=some (some [.pointer none,.slice none 0 0]):=ai
theorem JR:zeroOf an 277=some (some<|dT 256<|.bool false):=ai
theorem JS:zeroV an 1=some (.nilFunc):=ai
theorem o9:zeroV an 3=some (.int .i64 0):=ai
theorem JT:zeroV an 34=some (.int .i64 0):=ai
end Go.Hb.fD
section
namespace Go.Hb
open Go.Hb.fD
theorem xp (b:Nat) (A:Option aD) (E:ab) (w:ah) (hb:w.heap[b]? =some (.cells [rN A,E].toArray 69 (0,0))) (hp:A=none∨A=some ⟨b,0,none⟩):
 bf an 54 (bC [aJ b]) w (fun v w'=>v= .tuple #[]∧w'.heap[b]? =some (.cells [rN (some ⟨b,0,none⟩),E].toArray 69 (0,0))∧Md (fun k=>k=b) w w'):=by
 refine enter func54 U ntmps54 U<|bd 5 U<|p (aH U<|(dd hb).trans U)<|p (gL Av U U)<|aQ 2 U<|cb U (fun C=> ?_) fun C=> ?_;obtain rfl :A=none:=by simpa using C
 exact aM 3 U<|p (Am Ay U hb U)<|p (Dt xw U)<|p (yi Ay U hb U)<|ar 2 U<|e<|fM DL U U U hb (by simp) fun L J I=>aA 1 U<|f0 U<|⟨U,I,J⟩
 obtain rfl :A=some ⟨b,0,none⟩:=hp.resolve_left<|by rintro rfl; simp at C
 exact aM 5 U<|p (aH U<|(dd hb).trans U)<|ar 1 U<|p (Gp Av Fl U U)<|aA 4 U<|f0 U<|⟨U,hb,Md.refl _ _⟩
theorem nK (b:Nat) (C:ab) (l:List UInt8) (c:UInt8) (w:ah) (hb:Bd 69 5 w b C l) (aB:l.length≤70368744177664):
 bf an 24 (bC [aJ b,.int .u8 c.toNat]) w (fun v w'=>v= .nilIface∧∃ L,Bd 69 5 w' b L (l++ [c])∧Md (BF b C) w w'∧∀ k,BF b L k→BF b C k∨w.heap.size≤k):=by
 obtain ⟨⟨av,aa,aq⟩,hown,hnil⟩:=hb;have aC:b < w.heap.size:=(bI.1 aa).1;have ac:∀ k,C.ownBlock=some k→k≠b∧k < w.heap.size:=fun k A=>by have :=hown.lt k A; exact ⟨ag,this.2⟩
 refine enter func24 U ntmps24 U<|bd 8 U<|e<|aZ (xp b av C w aa aq) U ?_;rintro v6 aI ⟨_,Z,I⟩;have am:=cR hown I fun k A=>(ac k A).1;have aD:=I.size;refine ar 8 U<|p (aH U<|(dd Z).trans U)<|ar 1 U<|e<|oh uR U U fun aw aE az E ai=>e<|ap uR (dk am E.md) U (by have :=E.size; omega) U (bh.j3 ai) (U) (U) ag ag fun ad aF J O au al=> ?_;have ak:=O.ao (Wk.ao E.md Z) fun h=>(ac b h).1 rfl;refine ar 2 U<|e<|fM xA U U (by obtain ⟨a,c,h,_⟩:=oU J; exact congrArg jC h) ak (by simp) fun aG V aj=>aA 8 U<|aW U ?_;have ae:∀ k,ad.ownBlock=some k→k≠b:=fun k A=>by have :=J.lt k A; omega
 refine ⟨U,ad,⟨⟨_,aj,.inr U⟩,?_,?_⟩,?_,?_⟩;rw [bK,wv]; exact cR J V fun k A=>ae k A;rw [au]; simp;refine Md.trans' (Md.trans' (Md.trans' (I.mono fun k _ h=> .inl h) E.md fun _ _ h=>h.elim) O fun k _ h=> .inr h) V fun k _ h=> .inl h;rintro k (rfl | A);exact .inl<|.inl U;by_cases h:C.ownBlock=some k;exact .inl<|.inr h;have :=al k A; have ax:=I.size; have ay:=E.md.size; exact .inr<|by rcases this with M | M; exact absurd M h; omega
theorem JD (b:Nat) (C:ab) (l m:List UInt8) (w:ah) (hb:Bd 69 5 w b C l) (au:l.length+m.length≤70368744177664):
 bf an 25 (bC [aJ b,str m]) w (fun v w'=>v= .tuple #[.int .i64 m.length,.nilIface]∧∃ J,Bd 69 5 w' b J (l++m)∧Md (BF b C) w w'∧∀ k,BF b J k→BF b C k∨w.heap.size≤k):=by
 obtain ⟨⟨ap,Z,al⟩,hown,hnil⟩:=hb;have av:b < w.heap.size:=(bI.1 Z).1;have aa:∀ k,C.ownBlock=some k→k≠b∧k < w.heap.size:=fun k A=>by have :=hown.lt k A; exact ⟨ag,this.2⟩
 refine enter func25 U ntmps25 U<|bd 9 U<|e<|aZ (xp b ap C w Z al) U ?_;rintro ax aB ⟨_,V,E⟩;have ak:=cR hown E fun k A=>(aa k A).1;have aw:=E.size;refine ar 8 U<|p (aH U<|(dd V).trans U)<|ar 1 U<|e<|CH C2 (ak) U ag U ag fun ac ay I M am aj=> ?_;have ai:=M.ao V fun h=>(aa b h).1 rfl;refine ar 2 U<|e<|fM xA U U (by obtain ⟨a,c,h,_⟩:=oU I; exact congrArg jC h) ai (by simp) fun az O ae=>aA 11 U<|f2 U U U ?_;have ad:∀ k,ac.ownBlock=some k→k≠b:=fun k A=>by have :=I.lt k A; omega
 refine ⟨U,ac,⟨⟨_,ae,.inr U⟩,?_,?_⟩,?_,?_⟩;rw [bK,wv]; exact cR I O fun k A=>ad k A;rw [am,hnil]; simp;exact Md.trans' (Md.trans' (E.mono fun k _ h=> .inl h) M fun k _ h=> .inr h) O fun k _ h=> .inl h;rintro k (rfl | A);exact .inl<|.inl U;by_cases h:C.ownBlock=some k;exact .inl<|.inr h;have :=aj k A; have aq:=E.size; exact .inr<|by rcases this with L | L; exact absurd L h; omega
theorem uX (b:Nat) (I:ab) (l:List UInt8) (w:ah) (hb:Bd 69 5 w b I l) (aa:l.length≤70368744177664):
 bf an 27 (bC [aJ b]) w (fun v w'=>v=str l∧Md (fun k=>I.ownBlock=some k) w w'):=by
 obtain ⟨⟨ae,J,ac⟩,hown,hnil⟩:=hb;obtain ⟨a,c,rfl,O,hle,V,Z⟩:=oU hown;refine enter func27 U ntmps27 U<|dD 6 U ?_;have A:(fun w'=>Md (fun k=>(eJ a l.length c).ownBlock=some k) w w') w.drew:=(Md.refl _ _).drew;refine bu (fun w'=>Md (fun k=>(eJ a l.length c).ownBlock=some k) w w') U wide A<|cI [0,1,2] U A<|tB 3 U (fun w' C=>aH U<|C.ay ((dd J).trans U) fun h=>by have :=hown.lt _ h; omega) A<|cI [5,6,7] U A<|tB 8 U (fun w' C=>aH U<|C.ay ((dd J).trans U) fun h=>by have :=hown.lt _ h; omega) A<|cI [9] U A ?_;refine lI 4 U (vj (v:= .nilFunc) U (by
  by_cases h:l= []
  have :=hnil.2 h; simp only [kV] at this; exact .inl this.1;right; have :0 < l.length:=List.length_pos_iff.2 h; omega)) A ?_
 refine he 10 U ai<|I7 GW U U hown U ag fun M L ad=> ?_;have E:(fun w'=>Md (fun k=>(eJ a l.length c).ownBlock=some k) w w') M:=A.trans' L fun _ _ h=>h;refine ⟨E,?_⟩;exact lI 11 U (aE) E<|hn ai<|cg 2 U<|aW U<|⟨U,E⟩
end Go.Hb
end
section
namespace Go.Hb
open Go.Hb.fD
theorem ie (b:UInt8):jd b=decide ((b.toNat:Int)=92∨(b.toNat:Int)=47∨(b.toNat:Int)=35):=by
 unfold jd; exact decide_eq_decide.2 ag
theorem yd (b:UInt8):fi b=decide (32 < (b.toNat:Int)∧(b.toNat:Int)≠127):=by
 unfold fi; exact decide_eq_decide.2 ag
theorem EO {b:UInt8} (h:¬(32 < (b.toNat:Int)∧(b.toNat:Int)≠127)):fi b=false :=by rw [yd]; exact decide_eq_false h
theorem ye (b:UInt8) (w:ah):
 bf an 85 (bC [.int .u8 b.toNat]) w (fun v w'=>v= .bool (fi b)∧Wk w w'):=by
 refine enter func85 U ntmps85 U<|bd 10 U<|gs (t:=5) U (fun A=> ?_) fun A=> ?_;exact aA 7 U<|aW U<|⟨by show bM (decide _)=_; rw [yd]; exact bv (by constructor <;> intro h <;> first | exact ⟨ag,h⟩ | exact h.2),Md.refl _ _⟩
 exact ar 3 U<|p aE<|aA 3 U<|aW U<|⟨by show bM false =_; rw [EO ag],Md.refl _ _⟩
theorem Gc (b:UInt8) (w:ah):
 bf an 55 (bC [.int .u8 b.toNat]) w (fun v w'=>v= .bool (jd b)∧Wk w w'):=by
 refine enter func55 U ntmps55 U<|dD 19 U<|cd U (fun A=> ?_) fun A=> ?_;refine dY 2 U<|cd U (fun A=> ?_) fun A=> ?_;refine bg 8 U<|aW U ?_
 first | exact ⟨by show bM true =_; rw [ie,decide_eq_true ag],Md.refl _ _⟩ | exact ⟨by show bM false =_; rw [ie,decide_eq_false ag],Md.refl _ _⟩
 refine bg 9 U<|aW U ?_
 first | exact ⟨by show bM true =_; rw [ie,decide_eq_true ag],Md.refl _ _⟩ | exact ⟨by show bM false =_; rw [ie,decide_eq_false ag],Md.refl _ _⟩
 refine dY 6 U<|cd U (fun A=> ?_) fun A=> ?_;refine dY 2 U<|cd U (fun A=> ?_) fun A=> ?_;refine bg 8 U<|aW U ?_
 first | exact ⟨by show bM true =_; rw [ie,decide_eq_true ag],Md.refl _ _⟩ | exact ⟨by show bM false =_; rw [ie,decide_eq_false ag],Md.refl _ _⟩
 refine bg 9 U<|aW U ?_
 first | exact ⟨by show bM true =_; rw [ie,decide_eq_true ag],Md.refl _ _⟩ | exact ⟨by show bM false =_; rw [ie,decide_eq_false ag],Md.refl _ _⟩
 refine dY 5 U<|cd U (fun A=> ?_) fun A=> ?_;refine bg 8 U<|aW U ?_
 first | exact ⟨by show bM true =_; rw [ie,decide_eq_true ag],Md.refl _ _⟩ | exact ⟨by show bM false =_; rw [ie,decide_eq_false ag],Md.refl _ _⟩
 refine bg 9 U<|aW U ?_
 first | exact ⟨by show bM true =_; rw [ie,decide_eq_true ag],Md.refl _ _⟩ | exact ⟨by show bM false =_; rw [ie,decide_eq_false ag],Md.refl _ _⟩
theorem AB (s:List UInt8) (w:ah) (ac:s.length≤1048576):
 bf an 47 (bC [str s]) w (fun v w'=>v= .bool (dK s)∧Wk w w'):=by
 refine enter func47 U ntmps47 U<|bd 11 U<|gs (t:=6) U (fun E=> ?_) fun E=> ?_;exact aA 14 U<|aW U<|⟨by show bM false =_; unfold dK; rw [decide_eq_false (by rw [E]; simp)],Md.refl _ _⟩
 refine aQ 6 U<|cd U (fun Z=> ?_) fun Z=> ?_;exact bg 7 U<|aW U<|⟨by show bM false =_; unfold dK; rw [decide_eq_false ag],Md.refl _ _⟩
 refine dY 11 U<|lp (fun J V O=> ∃ (i:Nat),(i≤s.length∧1≤s.length∧s.length≤64)∧(∀ j,j < i→fi (s.getD j 0)=true)∧(Wk w O)∧(Sl V [(0,str s),(12,.int .i64 s.length),(13,.int .i64 i)])∧(s.length - i=J)) _ ⟨0,(⟨ag,by rcases Nat.eq_zero_or_pos s.length with h | h <;> first | exact absurd (List.length_eq_zero_iff.1 h) E | exact h,ag⟩),(fun j M=>by omega),(Md.refl _ _),U,U⟩ ?_;rintro J V O ⟨i,hi,hp,A,ab,rfl⟩;refine dw ab<|dD 6 U<|cd U (fun aa=> ?_) fun aa=> ?_;refine aM 14 U<|p (jW u9 U U ag)<|e<|aZ (ye (s.getD i 0) _) U ?_;rintro ad ae ⟨rfl,L⟩;refine aQ 3 U<|cb U (fun C=> ?_) fun C=> ?_;have I:fi (s.getD i 0)=false :=by simpa using C
 exact bg 8 U<|tr<|cg 2 U<|aW U<|⟨by show bM false =_; unfold dK; rw [sG (i:=i) ag I,decide_eq_false (by simp)],Md.trans A L⟩
 have I:fi (s.getD i 0)=true :=by simpa using C
 exact bg 7 U<|tn<|⟨_,ag,i+1,ag,(fun j M=>by rcases dU j i with h | h <;> first | exact hp j h | (rw [show j=i by omega]; exact I)),(Md.trans A L),U,U⟩
 exact bg 2 U<|fm<|cg 8 U<|aW U<|⟨by show bM true =_; unfold dK; rw [sI (fun j M=>hp j ag),decide_eq_true ⟨hi.2.1,hi.2.2,U⟩],A⟩
theorem JG (s:List UInt8) (w:ah) (aG:s.length≤1048576):
 bf an 26 (bC [str s]) w (fun v w'=>v=str (cU s)∧Wk w w'):=by
 refine enter func26 U ntmps26 U<|bd 7 U<|e<|iA vA fun A aR aC av al=>aQ 11 U<|lp (fun ac ae aa=> ∃ (i:Nat) (C:ab),(i≤s.length)∧(Bd 69 5 aa A C<|cU<|s.take i)∧(Wk w aa)∧(Sl ae [(0,str s),(3,aJ A),(6,.int .i64 s.length),(7,.int .i64 i)])∧(s.length - i=ac)) _ ⟨0,.slice none 0 0,ag,(Bd.new al),av.md,U,U⟩ ?_;rintro ac ae aa ⟨i,C,hi,J,M,ay,rfl⟩;refine dw ay<|dD 6 U<|cd U (fun aw=> ?_) fun aw=> ?_;refine dY 10 U ?_;refine o3 (fun ai Z=> ∃ (I:ab) (E:List UInt8),(E.length≤2 *i+1)∧(Bd 69 5 Z A I E)∧(Wk w Z)∧(E++ [s.getD i 0]=cU (s.take<|i+1))∧(Sl ai [(0,str s),(3,aJ A),(4,.int .i64 i),(6,.int .i64 s.length),(7,.int .i64 i)])) ?_ ?_;refine bd 4 U<|p (jW u9 U U ag)<|e<|aZ (Gc (s.getD i 0) _) U ?_;rintro aH aL ⟨rfl,O⟩;have L:=J.md O fun _ _ h=>h;have aB:=ry<|s.take i;rw [cm] at aB;refine aQ 2 U<|cb U (fun V=> ?_) fun V=> ?_;refine aM 1 U<|e<|aZ (nK A C (cU<|s.take i) (92) _ L ag) U ?_;rintro aI aN ⟨rfl,aj,am,aq,aD⟩;exact aA 1 U<|tn<|⟨aj,cU (s.take i)++ [92],(by rw [bK,gY]; omega),am,(L.step (Md.trans M O) aq ag),(by rw [AS ag,if_pos V,kX]; rfl),U⟩
 exact bg 1 U<|tn<|⟨C,cU (s.take i),ag,L,(Md.trans M O),(by rw [AS ag,if_neg (by rw [V]; exact dn)]),U⟩
 rintro ai Z ⟨I,E,aF,ad,ap,ax,az⟩;refine dw az<|aM 3 U<|p (jW u9 U U ag)<|e<|aZ (nK A I (E) (s.getD i 0) _ ad ag) U ?_;rintro aK aO ⟨rfl,ak,ao,ar,aE⟩;exact aA 7 U<|tn<|⟨_,ag,i+1,ak,ag,(by rw [← ax]; exact ao),(ad.step ap ar ag),U,U⟩
 refine bg 2 U<|fm<|kD 4 U<|e<|aZ (uX A C (cU<|s.take i) _ J<|by have :=ry (s.take i); rw [cm] at this; omega) U ?_;rintro v20 aP ⟨rfl,au⟩;exact aA 4 U<|aW U<|⟨by show str (cU<|s.take i)=_; rw [show s.take i=s from pE ag],J.uU M au ag⟩
theorem FW (s:List UInt8) (w:ah) (aY:s.length≤1048576):
 bf an 83 (bC [str s]) w (fun v w'=>v= .tuple #[str (letE s).1,.int .i64 (letE s).2]∧Wk w w'):=by
 refine enter func83 U ntmps83 U<|bd 8 U<|e<|al JR fun O aR aT J ao=> ?_;have aD:aC aR.heap O (marksOf []):=by rw [Gf]; exact ao
 refine aQ 9 U<|cd U (fun aj=> ?_) fun aj=> ?_;exact bg 8 U<|f2 U U U<|⟨by show rO #[str [],.int .i64 21]=_; unfold letE; rw [if_pos (.inl aj)]; rfl,J.md⟩
 refine aM 4 U<|e<|iA vA fun I a6 aV aw aE=>aQ 11 U ?_;have aU:=ao.lt;refine lp (fun am ay M=> ∃ (i:Nat) (A:ab),(i≤s.length)∧(∀ j,j < i→fi (s.getD j 0)=true)∧(aC M.heap O<|marksOf<|lets<|s.take i)∧(Bd 69 5 M I A<|lets<|s.take i)∧(Wk w M)∧(Sl ay [(0,str s),(4,aJ O),(5,aJ I),(10,.int .i64 s.length),(11,.int .i64 i)])∧(s.length - i=am)) _ ⟨0,.slice none 0 0,ag,(fun j ak=>by omega),(aw.md.B aD),(Bd.new aE),(Md.trans J.md aw.md),U,U⟩ ?_;rintro am ay M ⟨i,A,hi,hp,av,Z,ad,aO,rfl⟩;refine dw aO ?_;have aN:=yH<|s.take i;rw [cm] at aN;have aW:=av.lt;refine dD 6 U<|cd U (fun aL=> ?_) fun aL=> ?_;refine aM 15 U<|p (jW u9 U U ag)<|e<|aZ (ye (s.getD i 0) _) U ?_;rintro a1 aP ⟨rfl,C⟩;refine aQ 3 U<|cb U (fun ae=> ?_) fun ae=> ?_;have L:fi (s.getD i 0)=false :=by simpa using ae
 exact bg 10 U<|tr<|cg 2 U<|f2 U U U<|⟨by show rO #[str [],.int .i64 21]=_; unfold letE; rw [if_pos (.inr<|sG ag L)]; rfl,Md.trans ad C⟩
 have L:fi (s.getD i 0)=true :=by simpa using ae
 have ap:Wk w aP:=Md.trans ad C;have V:=C.B av;have ac:=Z.md C fun _ _ h=>h;have a0:=C.size;refine aM 6 U<|p (jW u9 U U ag)<|p (qn wO U U<|by have :=n9 (s.getD i 0); omega)<|p (aH U<|Gh V _)<|aQ 3 U<|cb U (fun ai=> ?_) fun ai=> ?_;have E:¬s.getD i 0∈lets (s.take i):=of_decide_eq_false<|by simpa using ai
 refine aM 4 U<|p (jW u9 U U ag)<|p (qn wO U U<|by have :=n9 (s.getD i 0); omega)<|e<|st DH U U (U) (V) (by rw [yZ]; have :=n9 (s.getD i 0); omega) fun aS aq aB=> ?_;have aK:=Gi aB;have aG:Wk w aS:=Md.trans' ap aq fun k ax h=>by omega
 have aa:=ac.md aq fun k ax h=>by have :=ac.qh ax; omega
 refine ar 5 U<|p (jW u9 U U ag)<|e<|aZ (nK I A (lets<|s.take i) (s.getD i 0) _ aa ag) U ?_;rintro a2 a4 ⟨rfl,az,aF,au,aX⟩;exact aA 7 U<|tn<|⟨_,ag,i+1,az,ag,(fun j ak=>by rcases dU j i with h | h <;> first | exact hp j h | (rw [show j=i by omega]; exact L)),(by rw [qz ag,if_neg E]; exact au.B aK fun h=>by have :=aa.qh h; omega),(by rw [qz ag,if_neg E]; exact aF),(aa.step aG au<|by have :=J.md.size; omega),U,U⟩
 have E:s.getD i 0∈lets (s.take i):=by simpa using ai
 exact bg 7 U<|tn<|⟨_,ag,i+1,A,ag,(fun j ak=>by rcases dU j i with h | h <;> first | exact hp j h | (rw [show j=i by omega]; exact L)),(by rw [qz ag,if_pos E]; exact V),(by rw [qz ag,if_pos E]; exact ac),ap,U,U⟩
 refine bg 2 U<|fm<|kD 4 U<|e<|aZ (uX I A (lets<|s.take i) _ Z<|by have :=yH (s.take i); rw [cm] at this; omega) U ?_;rintro a3 a5 ⟨rfl,aI⟩;exact aA 5 U<|f2 U U U<|⟨by show rO #[str (lets<|s.take i),.int .i64 0]=_; unfold letE; rw [if_neg (by rw [sI (fun j ak=>hp j ag)]; exact fun h=>h.elim aj dn),show s.take i=s from pE ag]; rfl,Z.uU ad aI<|by have :=J.md.size; omega⟩
end Go.Hb
end
namespace Go.Hb
def G4:Go.Shelf.Ren:=⟨fun n=>if n=125 then 88 else if n=128 then 139 else if n=129 then 140 else if n=190 then 52 else if n=258 then 87 else if n=302 then 130 else if n=303 then 131 else if n=304 then 132 else if n=305 then 133 else if n=306 then 134 else if n=307 then 135 else if n=308 then 136 else if n=309 then 137 else if n=310 then 138 else if n=329 then 186 else if n=330 then 187 else if n=333 then 185 else if n=334 then 188 else if n=335 then 189 else if n=336 then 190 else if n=344 then 228 else 0,fun n=>if n=0 then 0 else if n=3 then 3 else if n=4 then 4 else if n=5 then 5 else if n=9 then 9 else if n=31 then 31 else if n=46 then 208 else if n=51 then 286 else if n=53 then 127 else if n=131 then 134 else if n=182 then 279 else if n=183 then 280 else if n=218 then 340 else if n=222 then 343 else if n=228 then 382 else if n=229 then 383 else 0,fun n=>n⟩
theorem yF:Go.Proofs.Lays.n190 an G4 where
 mixed:=ai
 f125:=ai
 f128:=ai
 f129:=ai
 f190:=ai
 f258:=ai
 f302:=ai
 f303:=ai
 f304:=ai
 f305:=ai
 f306:=ai
 f307:=ai
 f308:=ai
 f309:=ai
 f310:=ai
 f329:=ai
 f330:=ai
 f333:=ai
 f334:=ai
 f335:=ai
 f336:=ai
 f344:=ai
 t0:=ai
 a0:=fun _=>ai
 z0:=fun _=>ai
 v0:=fun _=>ai
 t3:=ai
 a3:=fun _=>ai
 z3:=fun _=>ai
 v3:=fun _=>ai
 t4:=ai
 a4:=fun _=>ai
 z4:=fun _=>ai
 v4:=fun _=>ai
 t5:=ai
 a5:=fun _=>ai
 z5:=fun _=>ai
 v5:=fun _=>ai
 t9:=ai
 a9:=fun _=>ai
 z9:=fun _=>ai
 v9:=fun _=>ai
 t31:=ai
 a31:=fun _=>ai
 z31:=fun _=>ai
 v31:=fun _=>ai
 t46:=ai
 a46:=fun _=>ai
 z46:=fun _=>ai
 v46:=fun _=>ai
 t51:=ai
 a51:=fun _=>ai
 z51:=fun _=>ai
 v51:=fun _=>ai
 t53:=ai
 a53:=fun _=>ai
 z53:=fun _=>ai
 v53:=fun _=>ai
 t131:=ai
 a131:=fun _=>ai
 z131:=fun _=>ai
 v131:=fun _=>ai
 t182:=ai
 a182:=fun _=>ai
 z182:=fun _=>ai
 v182:=fun _=>ai
 t183:=ai
 a183:=fun _=>ai
 z183:=fun _=>ai
 v183:=fun _=>ai
 t218:=ai
 a218:=fun _=>ai
 z218:=fun _=>ai
 v218:=fun _=>ai
 t222:=ai
 a222:=fun _=>ai
 z222:=fun _=>ai
 v222:=fun _=>ai
 t228:=ai
 a228:=fun _=>ai
 z228:=fun _=>ai
 v228:=fun _=>ai
 t229:=ai
 a229:=fun _=>ai
 z229:=fun _=>ai
 v229:=fun _=>ai
theorem Ia (B n:Nat) (v:ab) (A:List (List UInt8)) (w:ah) (I:dN w B 9 1 v n (A.map str)) (aa:A.length < 4611686018427387904):
 bf an 52 [v].toArray w (fun ae w'=>ae= .tuple #[]∧dN w' B 9 1 v n ((A.mergeSort fun x y=>decide (x≤y)).map str)∧Md (fun k=>v.ownBlock=some k) w w'):=by
 have hn:A.length=n:=by have :=I.1; simpa using this
 have hlen:(A.mergeSort fun x y=>decide (x≤y)).length=A.length:=BP _;rcases I.2 with ⟨rfl,ai⟩ | ⟨g,cap,cur,rfl,V,E,L,M,O,J⟩
 · have ad:A= []:=iU ag;subst ad;refine gy (Any.slices_Sort_string_none yF none 0 w) ?_;rintro e w' ⟨rfl,rfl⟩;exact ⟨_,U,U,by rw [List.mergeSort_nil]; exact I,Md.refl _ _⟩
 · subst hn;rw [nZ] at J;refine gy (calls_of_every_depth fun D=>AnyS.slices_Sort_string_alone yF D g 0 cap A w (holds_of_block E J) (bI.1 E).1 aa) ?_;rintro e w' ⟨rfl,m,os,rfl⟩;have C:=grownBy_sorted (w:=w) (g:=g) (n:=m) (os:=os) (A.mergeSort fun x y=>decide (x≤y)).toArray;refine ⟨_,U,U,ownsRow_sorted hlen V E L M O,⟨C.os,C.output,C.size,fun k Z ac=>C.block k Z fun he=>ac ?_⟩⟩;simp only [cG]; exact he.symm
end Go.Hb
section
namespace Go.Hb.ln
open Go.Hb.fD
theorem Gr (w:ah):
 bf an 8 (bC [.pointer none]) w (fun v w'=>v= .pointer none∧Wk w w'):=by
 exact enter func8 U ntmps8 U<|bd 9 U<|p (gL rk U U)<|aQ 2 U<|ct (U)<|bg 7 U<|aW U<|⟨U,Md.refl _ _⟩
theorem za (C:aD) (w:ah):
 bf an 8 (bC [.pointer (some C)]) w (fun v w'=> ∃ A bs,v=aJ A∧w.heap.size≤A∧w.heap.size≤bs∧A≠bs∧aC w'.heap A [.pointer (some C),.map (some bs),.slice none 0 0]∧bD w'.heap bs cn (mT fun _=>none)∧Wk w w'):=by
 refine enter func8 U ntmps8 U<|bd 9 U<|p (gL rk U U)<|aQ 2 U<|cf (U)<|aM 5 U<|e<|y4 fun E ad Z J O=> ?_;have ab:=J.size;refine p (jJ (ps:= [(0,.pointer (some C)),(1,.map (some E))]) (L:= [.pointer (some C),.map (some E),.slice none 0 0]) Io U<|U)<|e<|sF U fun M ae aa I V=> ?_;have ac:=I.size;exact aA 4 U<|aW U<|⟨M,E,U,ag,ag,ag,V,by rw [oL]; exact (bD.nil O).wk I.md,Md.trans J.md I.md⟩
theorem GV (x:List UInt8) (n C:Int) (A:Nat) (w:ah) (E:aC w.heap A [.int .i64 C]):
 bf an 49 (bC [str x,.int .i64 n,aJ A]) w (fun v w'=>v= .bool (decide (n=C))∧Wk w w'):=by
 exact enter func49 U ntmps49 U<|bd 8 U<|p (aH U<|E.bj 0)<|aA 5 U<|aW U<|⟨U,Md.refl _ _⟩
theorem D9 (C J:Nat) (q:List UInt8→Option Int) (A:Int) (w:ah) (O:bD w.heap C cn (mT q)) (ac:aC w.heap J [.int .i64 A]):
 bf an 48 (bC [.map (some C),.func (.func 49) #[] #[aJ J]]) w (fun v w'=>v= .tuple #[]∧bD w'.heap C cn (mT<|eh A q)∧Md (fun k=>k=C) w w'):=by
 have aN:J≠C:=fun h=>by subst h; exact O.eo ac.choose_spec
 have a1:=ac.lt;have a2:=O.lt;refine enter func48 U ntmps48 U<|bd 2 U<|p mv<|e<|qW eW O U fun az a8 left a3 M aH aR aU aw=> ?_;have a5:=M.size;refine aQ 3 U<|lp (fun al aB L=> ∃ (I:List (ab×ab)),(Lf q I)∧(eO L.heap az C I)∧(bD L.heap C cn<|mT<|eE I q<|eh A q)∧(aC L.heap J [.int .i64 A])∧(Md (fun k=>k=C) w L)∧(Sl aB [(0,.map (some C)),(1,.func (.func 49) #[] #[aJ J]),(7,aJ az)])∧(I.length=al)) _ ⟨left,(Lf.start aR aU aw),aH,(by rw [sS aw (fun x aW=>by simp [eh,aW])]; exact O.wk M.md),(Wk.B M.md ac),(M.md.mono fun _ _ h=>h.elim),U,U⟩ ?_;rintro al aB L ⟨I,aI,aF,aj,aL,ao,aV,rfl⟩;refine dw aV<|bd 2 U<|e<|qK aF U fun a0 a6 V aZ aD aE=>p (qL U)<|aQ 3 U<|cb U (fun ae=> ?_) fun ae=> ?_;obtain ⟨ax,aa,Z⟩:=aE ae;have aT:=ax.length_eq;simp only [bZ] at aT;obtain ⟨x,n,rfl,ay,ap,a4,aO,au⟩:=aI.step ax;have av:=aj.md aa fun h=>by omega
 have ad:=aa.B aL fun h=>by omega
 have am:=ao.trans' aa fun k aP h=>by omega
 refine aM 5 U<|p (p7 Z U)<|ar 11 U<|e<|xo C5 U (GV x n A J aZ ad) U ?_;rintro a7 aX ⟨rfl,E⟩;refine aQ 2 U<|cb U (fun ai=> ?_) fun ai=> ?_;have hn:n=A:=by simpa using ai
 refine aM 3 U<|e<|xF (kx:=str x) eW jj (av.wk E) U U ⟨x,U⟩ fun aY aq aK aG=> ?_;have ak:bD aY.heap C cn (mT<|eE V q<|eh A q):=by
  rw [au,show eh A q x=none from by simp [eh,ay,hn],← yR];exact aK
 exact aA 2 U<|tn<|⟨_,ag,V,ap,(aG _ _ _ rfl (Z.md E id id)),ak,(aq.B (Wk.B E ad) aN),((am.trans' E fun _ _ h=>h.elim).trans' aq fun k aP h=>h),U,U⟩
 have hn:¬n=A:=by simpa using ai
 have ak:bD aX.heap C cn (mT<|eE V q<|eh A q):=by
  rw [au,show eh A q x=q x from by simp [eh,ay,hn],show (fun y=>if y=x then q x else eE I q (eh A q) y)=eE I q (eh A q) from by
   funext y;by_cases h:y=x;subst h; rw [if_pos rfl,aO];rw [if_neg h]]
  exact av.wk E
 exact bg 2 U<|tn<|⟨_,ag,V,ap,(Z.nh.md E id id),ak,(Wk.B E ad),(am.trans' E fun _ _ h=>h.elim),U,U⟩
 obtain ⟨aS,rfl⟩:=aD ae;exact bg 2 U<|fm<|cg 1 U<|f0 U<|⟨U,by rw [aS,sR] at aj; exact aj,ao⟩
theorem I2 {G:Nat→Prop} {w w':ah} (h:Md G w.drew w'):Md G w w':=⟨h.os,h.output,h.size,h.cD⟩
theorem oT {w:ah} {B e size n k:Nat} {v:ab} {xs:List ab} (h:dN w B e size v n xs) (A:v.ownBlock=some k):∃ cur z,w.heap[k]? =some (.cells cur e z):=by
 rcases h.2 with ⟨rfl,_⟩ | ⟨g,cap,cur,rfl,_,C,_⟩
 · simp [cG] at A
 · simp only [cG,aY] at A;subst A;exact ⟨_,_,C⟩
structure bP (w:ah) (B bl bs:Nat) (vb:ab) (ca:aD) (g:List UInt8→Option Int) (n:Nat) (hist:List (List UInt8→Option Int)) (cs:List ab):Prop where
 obj:aC w.heap bl [.pointer (some ca),.map (some bs),vb]
 dm:bD w.heap bs cn (mT g)
 fG:bT g n
 nB:n≤500
 nz:∀ x,g x≠some 0
 lo:B≤bl∧B≤bs
 back:dN w B 1 1 vb cs.length cs
 kb:vb.ownBlock≠some bl
 bk:dc (fun v q=> ∃ wb lb wm,v= .func (.func 50) #[] #[.pointer (some ⟨wb,0,none⟩),.pointer (some ⟨lb,0,none⟩)]∧wb≠bl∧lb≠bl∧wm≠bs∧vb.ownBlock≠some wb∧vb.ownBlock≠some lb∧
  aC w.heap wb [.map (some wm)]∧aC w.heap lb [.pointer (some ⟨bl,0,none⟩)]∧bD w.heap wm cn (mT q)) cs hist
def fY (A bs:Nat) (C:ab) (k:Nat):Prop :=k=A∨k=bs∨C.ownBlock=some k
def iz (B C bs:Nat) (E:ab) (J:aD) (g:List UInt8→Option Int) (M:List (List UInt8→Option Int)) (A:Int) (l:List (List UInt8)) (w:ah):ab→ah→Prop :=fun v w'=>((∃ x∈l,dK x=false)∧v= .int .i64 21∧Wk w w')∨((∀ x∈l,dK x=true)∧∃ m,bT (eb g l) m∧((500 < m∧v= .int .i64 280∧Wk w w')∨(m≤500∧v= .int .i64 0∧
 ((bT (bU A g l) 0∧Wk w w')∨(∃ I L,(∃ x o,bU A g l x=some o)∧bP w' B C bs I J (dz A (bU A g l) g) m (M++ [bU A g l]) L∧Md (fY C bs E) w w'∧(∀ k,I.ownBlock=some k→E.ownBlock=some k∨w.heap.size≤k))))))
theorem bP.wk {w w':ah} {B A bs:Nat} {I:ab} {C:aD} {g:List UInt8→Option Int} {n:Nat} {E:List (List UInt8→Option Int)} {cs:List ab} (h:bP w B A bs I C g n E cs) (hm:Wk w w'):bP w' B A bs I C g n E cs where
 obj:=Wk.B hm h.obj
 dm:=h.dm.wk hm
 fG:=h.fG
 nB:=h.nB
 nz:=h.nz
 lo:=h.lo
 back:=dk h.back hm
 kb:=h.kb
 bk:=h.bk.imp fun v q ⟨ae,ad,ag,J,L,M,O,U,V,Z,aa,ac⟩=>⟨ae,ad,ag,J,L,M,O,U,V,Wk.B hm Z,Wk.B hm aa,ac.wk hm⟩
theorem zS (B Z bs:Nat) (cA:ab) (bV:aD) (g:List UInt8→Option Int) (n:Nat) (cp:List (List UInt8→Option Int)) (cs:List ab) (E:Int) (l:List (List UInt8)) (a7:Option aD) (bS:Nat) (w:ah) (A:bP w B Z bs cA bV g n cp cs) (O:eD w.heap a7 l) (hw:E≠0) (eg:l.length≤1048576) (dv:∀ x∈l,x.length≤1048576) (ef:cs.length≤1048576):
 bf an 21 (bC [aJ Z,.int .i64 E,.slice a7 l.length bS]) w (iz B Z bs cA bV g cp E l w):=by
 obtain ⟨J,L,rfl⟩:=iP A.back;have dt:=A.lo;have eh:=A.nB;have bG:Z≠bs:=fun h=>by subst h; exact A.dm.eo A.obj.choose_spec
 have ec:=A.obj.lt;have ed:=A.dm.lt;refine enter func21 U ntmps21 U<|bd 2 U<|e<|wY U U fun I eC d7 b8 cK=> ?_;have em:=b8.size;refine e<|wY U U fun aS a4 d8 bo cM=> ?_;have ep:=bo.size;have cQ:Wk w a4:=b8.md.trans bo.md;have ci:aC a4.heap I [aJ Z]:=Wk.B bo.md cK;refine ar 6 U<|p (aH U<|ci.bj 0)<|p (gL jv U U)<|aQ 2 U<|cf (U)<|aM 4 U<|e<|y4 fun C eB d6 b7 cI=> ?_;have ek:=b7.size;refine e<|al JQ fun M d0 d9 bq cN=> ?_;have ev:=bq.size;refine e<|st DK U U (U) (cN) (by simp) fun aa bn cL=> ?_;have cP:Wk a4 d0:=b7.md.trans bq.md;have bi:Wk a4 aa:=cP.trans' bn fun k V h=>by omega
 have bb:Wk w aa:=cQ.trans bi;have en:=bn.size;have bv:aC aa.heap I [aJ Z]:=Wk.B bi ci;have cm:aC aa.heap aS [.int .i64 E]:=Wk.B bi cM;have a1:aC aa.heap M [.map (some C)]:=cL;have dG:bD aa.heap C cn (mT<|dA g []):=by
  rw [Jn,oL];exact ((bD.nil cI).wk bq.md).md bn fun h=>by omega
 have d5:=O.wk bb;refine ar 10 U<|p mv<|aQ 5 U<|lp (fun aB cE az=> ∃ (i m:Nat),(i≤l.length)∧(m≤i)∧(∀ x∈l.take i,dK x=true)∧(bT (eb g<|l.take i)<|n+m)∧(Md (fun k=>k=C) aa az)∧(bD az.heap C cn<|mT<|dA g<|l.take i)∧(Sl cE [(3,aJ I),(4,aJ aS),(7,aJ M),(8,dj m),(17,.slice a7 l.length bS),(18,dj (l.length)),(19,dj i)])∧(l.length - i=aB)) _ ⟨0,0,ag,ag,(fun x ao=>by simp at ao),(by rw [List.take_zero,HA]; exact A.fG),(Md.refl _ _),dG,U,U⟩ ?_;rintro aB cE az ⟨i,m,hi,hm,aL,am,aq,bB,dJ,rfl⟩;refine dw dJ ?_;have aE:Wk w az:=bb.trans' aq fun k V h=>by omega
 have ey:=aq.size;refine dD 6 U<|cd U (fun di=> ?_) fun di=> ?_;refine dY 5 U ?_;have dQ:(l.getD i []).length≤1048576:=yo dv ag;have aw:l.take (i+1)=l.take i++ [l.getD i []]:=rh l i [] ag;refine aM 1 U<|p (jh p9 U U ag<|bh.ok (O.wk aE)<|qJ ag)<|p (aH U<|eD.get (i:=i) (O.wk aE) ag)<|ar 7 U<|e<|aZ (AB (l.getD i []) az dQ) U ?_;rintro v24 cB ⟨rfl,bc⟩;have aV:Md (fun k=>k=C) aa cB:=aq.trans<|bc.mono fun _ _ h=>h.elim;have bl:=aE.trans bc;have bF:=bB.wk bc;have ck:=aV.B a1 fun h=>by omega
 have c6:=aV.B bv fun h=>by omega
 have ca:=A.wk bl;refine aQ 3 U<|cb U (fun bu=> ?_) fun bu=> ?_;have bJ:dK (l.getD i [])=false :=by simpa using bu
 exact bg 9 U<|tr<|cg 2 U<|aW U<|.inl ⟨⟨_,m9 (show i < l.length by omega),bJ⟩,U,bl⟩;have bJ:dK (l.getD i [])=true :=by simpa using bu
 have bI:∀ x∈l.take (i+1),dK x=true :=fun x ao=>by
  rw [aw,eL,iW] at ao;rcases ao with ao | rfl;exact aL x ao;exact bJ
 refine aM 4 U<|p (aH U<|ck.bj 0)<|ar 1 U<|p (FZ eW o9 jj (bF.lQ) U U (⟨_,U⟩) (AI g (l.take i)<|l.getD i [])<|Jo g (l.take i)<|l.getD i [])<|p mv<|aQ 12 U<|cb U (fun bw=> ?_) fun bw=> ?_;have cw:l.getD i []∉l.take i:=by simpa using bw
 refine dY 1 U<|yP 8 fun ae=>nu 0 U ae (ck.bj 0)<|oA [1] U ae<|nu 2 U ae (c6.bj 0)<|oA [3,4] U ae<|nu 5 U ae (ca.obj.bj 1)<|oA [6] U ae<|lq 7 U ai (fun w' O=>qA eW o9 jj (fX.md (ca.dm.lQ) O id) U U (⟨_,U⟩)<|tU g<|l.getD i []) ae<|oI 8 U ai ai<|vd (kx:=str<|l.getD i []) (v:= .int .i64<|(g<|l.getD i []).getD 0) eW jj (bF.wk ae) U U U ⟨_,U⟩ fun bN cX a0=> ?_;have b4:Md (fun k=>k=C) cB bN:=(ae.mono fun _ _ h=>h.elim).trans cX;rw [← Jm cw,← aw] at a0;have bm:Md (fun k=>k=C) aa bN:=aV.trans b4;have de:=bm.B a1 fun h=>by omega
 have d4:Wk w bN:=bl.trans' b4 fun k V h=>by omega
 refine oJ ai<|kD 3 U<|p (aH U<|de.bj 0)<|ar 1 U<|p (qA eW o9 jj (a0.lQ) U U (⟨_,U⟩)<|AI g (l.take<|i+1)<|l.getD i [])<|aQ 3 U<|cd U (fun co=> ?_) fun co=> ?_;have bz:g (l.getD i [])=none:=by
  have h0:(if l.getD i []∈l.take (i+1) then (g<|l.getD i []).getD 0 else 0)=0:=ag;rw [if_pos (by rw [aw]; simp)] at h0;cases hg:g (l.getD i []) with
  | none=>rfl
  | some o=>rw [hg] at h0; simp only [Option.getD_some] at h0; subst h0; exact absurd hg<|A.nz _
 exact aM 2 U<|p (cY<|m+1)<|ar 5 U<|p (cY<|i+1)<|aA 2 U<|tn<|⟨_,ag,i+1,m+1,ag,ag,bI,(by rw [aw,← eY]; exact Hz am cw bz),bm,a0,U,U⟩
 have bz:∃ o,g (l.getD i [])=some o:=by
  cases hg:g (l.getD i []) with
  | some o=>exact ⟨o,rfl⟩
  | none=>exfalso; apply co; rw [hg]; simp
 exact aM 4 U<|p (cY<|i+1)<|aA 2 U<|tn<|⟨_,ag,i+1,m,ag,ag,bI,(by rw [aw]; exact zJ am<|.inr bz),bm,a0,U,U⟩
 have cx:l.getD i []∈l.take i:=by simpa using bw
 exact aM 4 U<|p (cY<|i+1)<|aA 2 U<|tn<|⟨_,ag,i+1,m,ag,ag,bI,(by rw [aw]; exact zJ am<|.inl cx),aV,(by rw [aw,Jp cx]; exact bF),U,U⟩
 refine bg 2 U<|fm<|iK 4 U ?_;obtain rfl :i=l.length:=ag;rw [vV] at aL am bB;have dH:=bB;have cc:=A.wk aE;have c9:=aq.B bv fun h=>by omega
 have dg:=aq.B a1 fun h=>by omega
 have dd:=aq.B cm fun h=>by omega
 refine aM 1 U<|p (aH U<|c9.bj 0)<|ar 2 U<|p (aH U<|cc.obj.bj 1)<|p (tO eW U U cc.dm A.fG)<|ar 1 U<|p (cY<|n+m)<|aQ 3 U<|cd U (fun dl=> ?_) fun dl=> ?_;exact bg 7 U<|aW U<|.inr ⟨aL,n+m,am,.inl ⟨ag,U,aE⟩⟩;refine aM 4 U<|p (aH U<|dg.bj 0)<|p qG<|e<|aZ (D9 C aS (dA g l) E az dH dd) U ?_;rintro v59 aP ⟨rfl,a3,c1⟩;have aF:Md (fun k=>k=C) aa aP:=aq.trans c1;have aU:Wk w aP:=bb.trans' aF fun k V h=>by omega
 have bt:=aF.B a1 fun h=>by omega
 have cj:=aF.B bv fun h=>by omega
 have da:=aF.B cm fun h=>by omega
 have aY:=A.wk aU;have eq:=aU.size;have er:=aF.size;obtain ⟨bW,d3,_,a2⟩:=a3.fG;refine ar 5 U<|p (aH U<|bt.bj 0)<|p (tO eW U U a3 a2)<|aQ 3 U<|cd U (fun dn=> ?_) fun dn=> ?_;have bA:bW.size=0:=ag;rw [bA] at a2;exact bg 7 U<|aW U<|.inr ⟨aL,n+m,am,.inr ⟨ag,U,.inl ⟨a2,aU⟩⟩⟩;have bA:bW.size≠0:=ag;refine aM 5 U<|p (aH U<|bt.bj 0)<|e<|qW eW a3 U fun aO eF left ei bp cT dq dx cq=> ?_;have eu:=bp.size;refine aQ 3 U<|lp (fun aB cF a5=> ∃ (aN:List (ab×ab)),(Lf (bU E g l) aN)∧(eO a5.heap aO C aN)∧(bD a5.heap bs cn<|mT<|eE aN g<|dz E (bU E g l) g)∧(Md (fun k=>k=bs∨k=aO) aP a5)∧(Sl cF [(3,aJ I),(4,aJ aS),(7,aJ M),(64,aJ aO)])∧(aN.length=aB)) _ ⟨left,(Lf.start dq dx cq),cT,(by rw [sS (a:=g) (b:=dz E (bU E g l) g) cq (fun x ao=>(GY ao).symm)]; exact aY.dm.wk bp.md),(bp.md.mono fun _ _ h=>h.elim),U,U⟩ ?_;rintro aB cF a5 ⟨aN,cV,cU,bH,ad,dL,rfl⟩;refine dw dL<|bd 2 U<|e<|qK cU U fun d1 ez cy aj cG cH=>p (qL U)<|aQ 3 U<|cb U (fun br=> ?_) fun br=> ?_;obtain ⟨cu,b6,b3⟩:=cH br;have ds:=cu.length_eq;simp only [bZ] at ds;obtain ⟨x,o,rfl,dI,cW,ej,ee,dp⟩:=cV.step cu;have aX:Md (fun k=>k=bs∨k=aO) aP aj:=ad.trans<|b6.mono fun k _ h=> .inr h;have dO:=bH.md b6 fun h=>by omega
 have c7:=aX.B cj fun h=>by omega
 have db:=aX.B da fun h=>by omega
 have dB:=aX.B aY.obj fun h=>by have :=bG; omega
 refine aM 5 U<|p (p7 b3 U)<|aQ 4 U<|yP 6 fun av=>nu 0 U av (c7.bj 0)<|oA [1,2] U av<|nu 3 U av (dB.bj 1)<|oA [4] U av<|nu 5 U av (db.bj 0)<|oI 6 U ai ai<|vd (kx:=str x) (v:= .int .i64 E) eW jj (dO.wk av) U U U ⟨_,U⟩ fun bO cZ c2=> ?_;have b5:Md (fun k=>k=bs) aj bO:=(av.mono fun _ _ h=>h.elim).trans cZ;have c0:Md (fun k=>k=bs∨k=aO) aP bO:=aX.trans<|b5.mono fun k _ h=> .inl h;have cS:=b3.nh.md b5 (fun h=>by omega) fun h=>by omega
 have dM:bD bO.heap bs cn (mT<|eE cy g<|dz E (bU E g l) g):=by
  rw [dp,zw dI,← qD];exact c2
 exact oJ ai<|cg 1 U<|tn<|⟨_,ag,cy,cW,cS,dM,c0,U,U⟩
 obtain ⟨dr,rfl⟩:=cG br;refine bg 2 U<|fm<|iK 3 U ?_;rw [dr,sR] at bH;have bx:=ad.B cj fun h=>by omega
 have ct:=ad.B aY.obj fun h=>by have :=bG; omega
 have cv:¬(eJ J cs.length L).ownBlock=some I:=fun h=>by have :=(dF A.back h).2; omega
 have dh:dN aj B 1 1 (.slice J cs.length L) cs.length cs:=cR aY.back ad (fun k V h=>by
  rcases h with h | h;subst h; obtain ⟨cur,z,aK⟩:=oT A.back V; exact A.dm.eo aK;have :=(dF A.back V).2; omega)
 have ay:(fun w'=>Md (fun q=>(eJ J cs.length L).ownBlock=some q) aj w') aj.drew:=(Md.refl _ _).drew;refine qB (fun w'=>Md (fun q=>(eJ J cs.length L).ownBlock=some q) aj w') 10 U wide ay<|tQ 0 U (fun w' O=>aH U<|(O.B bx cv).bj 0) ay<|tQ 1 U (fun w' O=>aH U<|(O.B bx cv).bj 0) ay<|lH [2,3] U ay<|tQ 4 U (fun w' O=>aH U<|(O.B ct A.kb).bj 2) ay<|tR 5 U (qG) ay<|qy 6 U ai<|oh uQ U U fun d2 cC ea b9 cO=> ?_;have ew:=b9.size;have ac:Wk aj cC:=I2 b9.md;have ex:=ac.size;have ce:(fun w'=>Md (fun q=>(eJ J cs.length L).ownBlock=some q) aj w') cC:=Md.mono ac fun _ _ h=>h.elim;refine ⟨ce,?_⟩;refine qy 7 U ai<|ap uQ (dk dh ac) U (by have :=ad.size; omega) U (bh.j3 cO) (U) (U) ag ag fun eA cD cr ak dS aI=> ?_;have dS:=ak.size;have dC:=ak.B (Wk.B ac ct) A.kb;obtain ⟨aR,aT,rfl⟩:=iP cr;have ch:(fun w'=>Md (fun q=>(eJ J cs.length L).ownBlock=some q) aj w') cD:=ce.trans' ak fun _ _ h=>h;refine ⟨ch,?_⟩;refine lH [8,9] U ch<|oI 10 U ai ai<|st xz U U (U) (dC) (by simp) fun a6 au cJ=> ?_
 skip
 refine oJ ai<|cg 7 U<|aW U ?_;have et:=ad.size;have el:=au.size;have dy:dN cD B 1 1 (.slice aR (cs.length+1) aT) (cs++ [mA (.func 50) #[] #[aJ M,aJ I]]).length (cs++ [mA (.func 50) #[] #[aJ M,aJ I]]):=by rw [bK]; exact cr
 have hT:Md (fY Z bs<|.slice J cs.length L) w a6:=((((aU.mono fun _ _ h=>h.elim).trans' ad (fun k V h=>by
  rcases h with h | h;exact .inr<|.inl h;omega)).trans' ac (fun _ _ h=>h.elim)).trans' ak (fun k V h=> .inr<|.inr h)).trans' au (fun k V h=> .inl h)
 have du:=fun k h=>(dF (k:=k) A.back h).2;have dP:¬(eJ J cs.length L).ownBlock=some bs:=fun h=>by obtain ⟨cur,z,aK⟩:=oT A.back h; exact A.dm.eo aK
 have aG:∀ b,b=I∨b=M∨b=C→¬(eJ aR (cs.length+1) aT).ownBlock=some b∧¬(eJ J cs.length L).ownBlock=some b:=fun b hb=>by
  have ax:¬(eJ J cs.length L).ownBlock=some b:=fun h=>by have :=du b h; omega
  refine ⟨fun h=> ?_,ax⟩;rcases aI b h with h | h;exact ax h;omega
 have c4:aC a6.heap I [aJ Z]:=au.B (ak.B (Wk.B ac bx) (aG I<|.inl rfl).2) fun h=>by omega
 have c5:aC a6.heap M [.map (some C)]:=au.B (ak.B (Wk.B ac<|ad.B bt fun h=>by omega) (aG M<|.inr<|.inl rfl).2) fun h=>by omega
 have c3:bD a6.heap C cn (mT<|bU E g l):=(((a3.md ad fun h=>by omega).wk ac).md ak (aG C<|.inr<|.inr rfl).2).md au fun h=>by omega
 refine .inr ⟨aL,n+m,am,.inr ⟨ag,U,.inr ⟨.slice aR (cs.length+1) aT,cs++ [mA (.func 50) #[] #[aJ M,aJ I]],bT.pos a2 bA,⟨cJ,((bH.wk ac).md ak dP).md au (fun h=>bG h.symm),G0 hw am,ag,GZ hw A.nz,dt,cR dy au (fun k V h=> ?_),fun h=> ?_,dc.snoc ⟨M,I,C,U,ag,ag,ag,(aG M<|.inr<|.inl U).1,(aG I<|.inl U).1,c5,c4,c3⟩<|dc.imp (fun v q hb=> ?_) A.bk⟩,hT,fun k h=> ?_⟩⟩⟩;subst h;rcases aI k V with h | h;exact A.kb h;omega;rcases aI Z h with h | h;exact A.kb h;omega;obtain ⟨bQ,bM,bR,ax,bX,bY,b0,b1,b2,a8,a9,ba⟩:=hb;have dT:=a8.lt;have dU:=a9.lt;have dV:bQ≠bs:=fun h=>by subst h; exact A.dm.eo a8.choose_spec
 have dW:bM≠bs:=fun h=>by subst h; exact A.dm.eo a9.choose_spec
 have dX:bR≠Z:=fun h=>by subst h; exact ba.eo A.obj.choose_spec
 have dZ:¬(eJ J cs.length L).ownBlock=some bR:=fun h=>by obtain ⟨cur,z,aK⟩:=oT A.back h; exact ba.eo aK
 have cz:∀ b,b < w.heap.size→¬(eJ J cs.length L).ownBlock=some b→¬(eJ aR (cs.length+1) aT).ownBlock=some b:=fun b hb ax h=>by
  rcases aI b h with h | h;exact ax h;omega
 exact ⟨bQ,bM,bR,ax,bX,bY,b0,cz bQ dT b1,cz bM dU b2,hT.B a8 (fun h=>by rcases h with h | h | h; exact bX h; exact dV h; exact b1 h),hT.B a9 (fun h=>by rcases h with h | h | h; exact bY h; exact dW h; exact b2 h),ba.md hT fun h=>by rcases h with h | h | h; exact dX h; exact b0 h; exact dZ h⟩;rcases aI k h with h | h;exact .inl h;exact .inr ag
end Go.Hb.ln
end
section
namespace Go.Hb
open Go.Hb.fD
open Go.Hb.ln
theorem wy (B A bs:Nat) (J:ab) (E:aD) (g:List UInt8→Option Int) (n:Nat) (I:List (List UInt8→Option Int)) (cs:List ab) (l:List (List UInt8)) (C:Option aD) (L:Nat) (w:ah) (M:bP w B A bs J E g n I cs) (V:eD w.heap C l) (aa:l.length≤1048576) (ac:∀ x∈l,x.length≤1048576) (Z:cs.length≤1048576):
 bf an 9 (bC [aJ A,.slice C l.length L]) w (iz B A bs J E g I 1 l w):=by
 exact enter func9 U ntmps9 U<|bd 9 U<|e<|aZ (zS B A bs J E g n I cs 1 l C L w M V aP aa ac Z) U fun ad ae O=>p aE<|aA 3 U<|aW U<|O
theorem wS (B A bs:Nat) (J:ab) (E:aD) (g:List UInt8→Option Int) (n:Nat) (I:List (List UInt8→Option Int)) (cs:List ab) (l:List (List UInt8)) (C:Option aD) (L:Nat) (w:ah) (M:bP w B A bs J E g n I cs) (V:eD w.heap C l) (aa:l.length≤1048576) (ac:∀ x∈l,x.length≤1048576) (Z:cs.length≤1048576):
 bf an 11 (bC [aJ A,.slice C l.length L]) w (iz B A bs J E g I (-1) l w):=by
 exact enter func11 U ntmps11 U<|bd 9 U<|e<|aZ (zS B A bs J E g n I cs (-1) l C L w M V aP aa ac Z) U fun ad ae O=>p aE<|aA 3 U<|aW U<|O
theorem tz (B A bs:Nat) (J:ab) (E:aD) (g:List UInt8→Option Int) (n:Nat) (I:List (List UInt8→Option Int)) (cs:List ab) (x:List UInt8) (w:ah) (C:bP w B A bs J E g n I cs):
 bf an 15 (bC [aJ A,str x]) w (fun v w'=>v= .int .i64 ((g x).getD 0)∧Wk w w'):=by
 exact enter func15 U ntmps15 U<|bd 9 U<|p (gL jv U U)<|aQ 2 U<|cf (U)<|aM 7 U<|p (aH U<|C.obj.bj 1)<|ar 1 U<|p (qA eW o9 jj (C.dm.lQ) U U (⟨_,U⟩)<|tU g x)<|aA 4 U<|aW U<|⟨U,Md.refl _ _⟩
theorem FT (B C bs:Nat) (J:ab) (E:aD) (g:List UInt8→Option Int) (n:Nat) (I:List (List UInt8→Option Int)) (cs:List ab) (w:ah) (A:bP w B C bs J E g n I cs):
 bf an 14 (bC [aJ C]) w (fun v w'=>v=dj n∧Wk w w'):=by
 exact enter func14 U ntmps14 U<|bd 9 U<|p (gL jv U U)<|aQ 2 U<|cf (U)<|aM 7 U<|p (aH U<|A.obj.bj 1)<|p (tO eW U U A.dm A.fG)<|aA 4 U<|aW U<|⟨U,Md.refl _ _⟩
theorem Di (B A bs:Nat) (I:ab) (C:aD) (g:List UInt8→Option Int) (n:Nat) (E:List (List UInt8→Option Int)) (cs:List ab) (x:List UInt8) (w:ah) (L:bP w B A bs I C g n E cs) (M:g x=some 1):
 bf an 16 (bC [aJ A,str x]) w (fun v w'=>v= .bool true∧Wk w w'):=by
 refine enter func16 U ntmps16 U<|bd 10 U<|e<|aZ (tz B A bs I C g n E cs x w L) U ?_;rintro V Z ⟨rfl,J⟩;refine aQ 9 U<|cd U (fun O=> ?_) fun h=>absurd (by rw [M]; rfl) h;exact bg 8 U<|aW U<|⟨U,J⟩
theorem Dh (B A bs:Nat) (J:ab) (C:aD) (g:List UInt8→Option Int) (n:Nat) (I:List (List UInt8→Option Int)) (cs:List ab) (x:List UInt8) (w:ah) (M:bP w B A bs J C g n I cs) (E:g x=some (-1)):
 bf an 16 (bC [aJ A,str x]) w (fun v w'=>v= .bool false∧Wk w w'):=by
 refine enter func16 U ntmps16 U<|bd 10 U<|e<|aZ (tz B A bs J C g n I cs x w M) U ?_;rintro Z aa ⟨rfl,L⟩;refine aQ 9 U<|cd U (fun h=>absurd h<|by rw [E]; decide) fun V=>dY 6 U<|cd U (fun O=> ?_) fun h=>absurd (by rw [E]; rfl) h;exact bg 8 U<|aW U<|⟨U,L⟩
end Go.Hb
end
section
namespace Go.Hb
open Go.Hb.fD
open Go.Hb.ln
theorem GP {w:ah} {B e n C i:Nat} {a:Option aD} {l:List ab} (h:w.ownsRow B e 1 (.slice a n C) n l) (hi:i≤n) (hn:0 < n):w.ownsRow B e 1 (.slice a i C) i (l.take i):=by
 have V:l.length=n:=by have :=h.1; simpa using this
 rcases h.2 with ⟨A,O⟩ | ⟨g,cap,cur,A,I,L,hle,J,M,E⟩
 · simp only [kV] at A; omega
 · simp only [kV] at A;obtain ⟨rfl,_,rfl⟩:=A;refine ⟨by rw [cm]; omega,.inr ⟨g,C,cur,U,I,L,ag,J,M,?_⟩⟩;rw [nZ] at E ⊢;rw [← E,List.take_take,sa hi]
theorem GO {w:ah} {B e n A j:Nat} {a:Option aD} {l:List ab} (h:w.ownsRow B e 1 (.slice a n A) n l):bh w.heap (cF a A j 1) (l.drop j):=by
 have C:=(fk h).2.drop (cap:=A) (k:=j) (size:=1)<|by have E:=h.1; have I:=(fk h).1; omega
 rwa [nZ] at C
theorem Eb (l:List ab) (i j:Nat) (B n E C:Nat) (w:ah) (I:dN w B 1 1 (.slice (some ⟨C,0,none⟩) n E) n l) (ac:i < j∧j≤n) (ae:n≤1048577) (J:(l.drop j).all jC=true):
 bf an 28 (bC [.slice (some ⟨C,0,none⟩) n E,dj i,dj j]) w (fun v w'=>v= .slice (some ⟨C,0,none⟩) (i+(n - j)) E∧dN w' B 1 1 (.slice (some ⟨C,0,none⟩) (i+(n - j)) E) (i+(n - j)) (l.take i++l.drop j)∧Md (fun q=>q=C) w w'):=by
 have ad:l.length=n:=by have :=I.1; simpa using this
 have aa:=(fk I).1;refine enter func28 U ntmps28 U<|bd 12 U<|p (zZ ox U U U U ag)<|aQ 10 U<|cd U (fun h=>absurd h ag) fun Z=>dY 10 U ?_;have A:(fun w'=>Wk w w') w.drew:=(Md.refl _ _).drew;exact qB (fun w'=>Wk w w') 6 U wide A<|lH [0,1] U A<|tR 2 U (uO ox U U ag) A<|lH [3,4] U A<|tR 5 U (re ox U U ag) A<|oI 6 U ai ai<|CJ (B:=B) (xs:=l.take i) (news:=l.drop j) (n:=i) (m:=n - j) uQ (GP (dk I A) ag ag) U U (show bh _ (cF (some ⟨C,0,none⟩) E j 1) (l.drop j) from GO<|dk I A) (by unfold cF; split <;> simp) (by rw [gX]; omega) J ag fun aj L O=>F7 7 U (fun _=>aE) (fun h=>dn<|(show true =_ from by kernel_rfl).trans h)<|oJ ai<|kD 7 U<|p (q9 ox U U U ag)<|e<|Ds IV JS U O (by simp) U ag fun ak M V=>aA 9 U<|aW U<|⟨U,V,Md.trans (A.mono fun _ _ h=>h.elim)<|Md.trans L<|M.mono fun q _ h=>by simpa [cG] using h.symm⟩
theorem CP (av M aa ac bs:Nat) (aS:aD) (a4:ab) (q g:List UInt8→Option Int) (w:ah) (aP:aC w.heap av [.map (some aa)]) (am:aC w.heap M [aJ ac]) (ap:aC w.heap ac [.pointer (some aS),.map (some bs),a4]) (aL:bD w.heap aa cn (mT q)) (kF:bD w.heap bs cn (mT g)) (aG:aa≠bs):
 bf an 50 (bC [aJ av,aJ M]) w (fun v w'=>v= .tuple #[]∧bD w'.heap bs cn (mT<|ef q g)∧Md (fun k=>k=bs) w w'):=by
 have bi:=aP.lt;have bl:=am.lt;have bm:=ap.lt;have bn:=aL.lt;have bo:=kF.lt;have bp:M≠bs:=fun h=>by subst h; exact kF.eo am.choose_spec
 have bq:ac≠bs:=fun h=>by subst h; exact kF.eo ap.choose_spec
 refine enter func50 U ntmps50 U<|bd 2 U<|p (aH U<|aP.bj 0)<|e<|qW eW aL U fun A V left ba E aW aY a1 aE=> ?_;have bc:=E.size;refine aQ 3 U<|lp (fun aw aR Z=> ∃ (I:List (ab×ab)),(Lf q I)∧(eO Z.heap A aa I)∧(bD Z.heap bs cn<|mT<|eE I g<|ef q g)∧(Md (fun k=>k=bs∨k=A) V Z)∧(Sl aR [(0,aJ av),(1,aJ M),(5,aJ A)])∧(I.length=aw)) _ ⟨left,(Lf.start aY a1 aE),aW,(by rw [sS (a:=g) (b:=ef q g) aE (fun x a3=>by simp [ef,a3])]; exact kF.wk E.md),(Md.refl _ _),U,U⟩ ?_;rintro aw aR Z ⟨I,aX,aV,aq,ax,a2,rfl⟩;refine dw a2<|bd 2 U<|e<|qK aV U fun a6 bh O a5 aT aU=>p (qL U)<|aQ 3 U<|cb U (fun ak=> ?_) fun ak=> ?_;obtain ⟨aK,az,ad⟩:=aU ak;have a0:=aK.length_eq;simp only [bZ] at a0;obtain ⟨x,o,rfl,aN,ay,bb,a8,aB⟩:=aX.step aK;have L:Md (fun k=>k=bs∨k=A) V a5:=ax.trans<|az.mono fun k _ h=> .inr h;have aF:=L.B (Wk.B E.md am) fun h=>by omega
 have aI:=L.B (Wk.B E.md ap) fun h=>by omega
 have aO:=aq.md az fun h=>by omega
 refine aM 5 U<|p (p7 ad U)<|aQ 12 U<|cd U (fun al=> ?_) fun al=> ?_;have ao:o=0:=by simpa using al
 refine aM 1 U<|p (aH U<|aF.bj 0)<|ar 2 U<|p (aH U<|aI.bj 1)<|ar 1 U<|e<|xF (kx:=str x) eW jj aO U U ⟨x,U⟩ fun J C aj a7=> ?_;have ae:=(ad.nh).md C (fun h=>by omega) fun h=>aG h;have ai:Md (fun k=>k=bs∨k=A) V J:=L.trans<|C.mono fun k _ h=> .inl h;have au:bD J.heap bs cn (mT<|eE O g<|ef q g):=by
  rw [aB,show ef q g x=none from by simp [ef,aN,ao],← yR];exact aj
 exact aA 2 U<|tn<|⟨_,ag,O,ay,ae,au,ai,U,U⟩
 have ao:o≠0:=by simpa using al
 refine aM 1 U<|p (aH U<|aF.bj 0)<|ar 2 U<|p (aH U<|aI.bj 1)<|ar 2 U<|e<|vd (kx:=str x) (v:= .int .i64 o) eW jj aO U U U ⟨x,U⟩ fun J C aj=> ?_;have ae:=(ad.nh).md C (fun h=>by omega) fun h=>aG h;have ai:Md (fun k=>k=bs∨k=A) V J:=L.trans<|C.mono fun k _ h=> .inl h;have au:bD J.heap bs cn (mT<|eE O g<|ef q g):=by
  rw [aB,show ef q g x=some o from by simp [ef,aN,ao],← qD];exact aj
 exact aA 2 U<|tn<|⟨_,ag,O,ay,ae,au,ai,U,U⟩
 obtain ⟨aZ,rfl⟩:=aT ak;exact bg 2 U<|fm<|cg 1 U<|f0 U<|⟨U,by rw [aZ,sR] at aq; exact aq,(E.md.mono fun _ _ h=>h.elim).trans' ax fun k a9 h=>by rcases h with h | h; exact h; omega⟩
theorem IZ (B A bs:Nat) (I:ab) (E:aD) (g:List UInt8→Option Int) (n:Nat) (w:ah) (C:bP w B A bs I E g n [] []):
 bf an 13 (bC [aJ A]) w (fun v w'=>v= .bool false∧Wk w w'):=by
 obtain ⟨J,L,rfl⟩:=iP C.back;refine enter func13 U ntmps13 U<|bd 9 U<|p (gL jv U U)<|ar 1 U<|gb (t:=6) U (fun h=>absurd (h.symm.trans<|U) dn) fun O=>ar 3 U<|cS U (aH U<|C.obj.bj 2)<|aQ 5 U<|cd U (fun M=> ?_) fun h=>absurd U h;exact bg 7 U<|aW U<|⟨U,Md.refl _ _⟩
theorem Az (B E bs:Nat) (ad:ab) (ae:aD) (g q:List UInt8→Option Int) (n m:Nat) (ay:List (List UInt8→Option Int)) (cs:List ab) (w:ah) (C:bP w B E bs ad ae g n (ay++ [q]) cs) (hm:bT (ef q g) m) (aR:m≤500) (aP:cs.length≤1048577):
 bf an 13 (bC [aJ E]) w (fun v w'=>v= .bool true∧∃ aC aE,bP w' B E bs aC ae (ef q g) m ay aE∧Md (fY E bs ad) w w'∧(∀ k,aC.ownBlock=some k→ad.ownBlock=some k)):=by
 obtain ⟨A,v0,rfl,aL,aK⟩:=dc.pop C.bk;obtain ⟨L,J,Z,rfl,i1,i2,i3,i4,i5,i6,i7,i8⟩:=aK;have aO:(A++ [mA (.func 50) #[] #[aJ L,aJ J]]).length=A.length+1:=by simp
 have M:=C.back;rw [aO] at M aP;obtain ⟨I,O,rfl⟩:∃ I O,ad= .slice (some ⟨I,0,none⟩) (A.length+1) O:=by
  rcases M.2 with ⟨_,ai⟩ | ⟨g2,cap,cur,aa,_⟩;omega;exact ⟨g2,cap,aa⟩
 have aw:I≠E:=fun h=>C.kb<|by rw [h]; rfl
 have ax:I≠bs:=fun h=>by obtain ⟨cur,z,ac⟩:=oT M rfl; rw [h] at ac; exact C.dm.eo ac
 refine enter func13 U ntmps13 U<|bd 8 U<|p mv<|p (gL jv U U)<|ar 1 U<|gb (t:=6) U (fun h=>absurd (h.symm.trans<|U) dn) fun a4=>cS U mv<|ar 2 U<|cS U (aH U<|C.obj.bj 2)<|aQ 5 U<|cd U (fun h=>absurd h ag) fun a3=>aM 4 U<|p mv<|ar 2 U<|p (aH U<|C.obj.bj 2)<|ar 1 U<|p (q4<|A.length)<|ar 5 U<|p mv<|ar 2 U<|p (aH U<|C.obj.bj 2)<|ar 1 U<|p (jh ox U U ag<|bh.ok ((fk M).2)<|by simp)<|p (aH U<|bh.sw (fk M).2 (i:=A.length) (u:=mA (.func 50) #[] #[aJ L,aJ J])<|by simp)<|e<|xo C6 U (CP L J Z E bs ae _ q g w i6 i7 C.obj i8 C.dm i3) U ?_;rintro a5 a1 ⟨rfl,aT,ak⟩;have aB:=ak.B C.obj fun h=>by have :=C.dm; subst h; exact this.eo C.obj.choose_spec
 have aN:=cR M ak fun k V h=>ax<|by simp only [cG,aY] at V; omega
 refine ar 4 U<|p mv<|p mv<|ar 2 U<|p (aH U<|aB.bj 2)<|ar 2 U<|p (cY<|A.length+1)<|e<|aZ (Eb _ A.length (A.length+1) B (A.length+1) O I a1 aN ag ag<|by simp) U ?_;rintro a6 a7 ⟨rfl,az,al⟩;have aS:=al.B aB fun h=>aw h.symm;refine ar 2 U<|e<|st xz U U (U) (aS) (by simp) fun a2 am aI=> ?_
 skip
 refine aA 8 U<|aW U ?_;have hT:Md (fY E bs<|.slice (some ⟨I,0,none⟩) (A.length+1) O) w a2:=((ak.mono fun k _ h=> .inr<|.inl h).trans' al fun k V h=> .inr<|.inr<|by rw [h]; rfl).trans' am fun k V h=> .inl h;rw [show A.length+(A.length+1 - (A.length+1))=A.length by omega] at*;have aF:(A++ [mA (.func 50) #[] #[aJ L,aJ J]]).take A.length++(A++ [mA (.func 50) #[] #[aJ L,aJ J]]).drop (A.length+1)=A:=by simp
 rw [aF] at az;refine ⟨U,.slice (some ⟨I,0,none⟩) A.length O,A,⟨aI,(aT.md al fun h=>ax h.symm).md am (fun h=>by have :=C.dm; subst h; exact this.eo C.obj.choose_spec),hm,aR,CO C.nz,C.lo,cR az am (fun k V h=>aw<|by simp only [cG,aY] at V; omega),fun h=>C.kb h,dc.imp (fun v q hb=> ?_) aL⟩,hT,fun k h=>h⟩;obtain ⟨L,J,Z,aG,ao,ap,aa,ai,aq,au,av,aj⟩:=hb;have aU:L≠bs:=fun h=>by subst h; exact C.dm.eo au.choose_spec
 have aV:J≠bs:=fun h=>by subst h; exact C.dm.eo av.choose_spec
 have aX:Z≠E:=fun h=>by subst h; exact aj.eo C.obj.choose_spec
 have a0:¬(eJ (some ⟨I,0,none⟩) (A.length+1) O).ownBlock=some Z:=fun h=>by obtain ⟨cur,z,ac⟩:=oT M h; exact aj.eo ac
 exact ⟨L,J,Z,aG,ao,ap,aa,ai,aq,hT.B au (fun h=>by rcases h with h | h | h; exact ao h; exact aU h; exact ai h),hT.B av (fun h=>by rcases h with h | h | h; exact ap h; exact aV h; exact aq h),aj.md hT fun h=>by rcases h with h | h | h; exact aX h; exact aa h; exact a0 h⟩
end Go.Hb
end
section
namespace Go.Hb.pN
open Go.Hb.fD
open Go.Hb.ln
def pM (g:List UInt8→Option Int) (pre:List (List UInt8)) (x:List UInt8):Prop :=(pre++ [x]).Nodup∧∀ y∈pre++ [x],∃ o,g y=some o
def jH (bk A:Nat) (es:Array MapEntry) (c:Nat) (W:ah):Prop :=W.heap[bk]? =some (.cells [Value.map (some A)].toArray 61 (0,0))∧W.heap[A]? =some (.map es c)
theorem fF.fix {h A:Array Obj} {r b:Nat} {left :List (ab×ab)} {C:ab×ab} (hm:fF h r b left C) (hr:∀ o,h[r]? =some o→((∀ cur e z,o≠.cells cur e z)∧∀ es c,o≠.map es c)→A[r]? =some o) (hb:A[b]? =h[b]?):fF A r b left C:=by
 obtain ⟨es,c,seen,e,E,I,J⟩:=hm;exact ⟨es,c,seen,e,hr _ E ⟨(fun _ _ _ h=>by cases h),fun _ _ h=>by cases h⟩,hb.trans I,J⟩
theorem eO.nc {h:Array Obj} {r b:Nat} {left :List (ab×ab)} (hm:eO h r b left) (cur:Array ab) (e:aj) (z:Nat×Nat):h[r]?≠some (.cells cur e z):=by
 obtain ⟨es,c,seen,C,A,_⟩:=hm;rw [A]; intro h; cases h
theorem FG (A:Nat) (w:ah):
 bf an 23 (bC [.map (some A)]) w (fun v w'=> ∃ b,v= .func (.func 53) #[] #[aJ b]∧w.heap.size≤b∧w'.heap[b]? =some (.cells [Value.map (some A)].toArray 61 (0,0))∧Wk w w'):=by
 exact enter func23 U ntmps23 U<|bd 2 U<|e<|wZ U U fun C L J I E=>ar 5 U<|p qG<|aA 4 U<|aW U<|⟨C,U,ag,E,I.md⟩
theorem FD (bk L:Nat) (es:Array MapEntry) (c:Nat) (g:List UInt8→Option Int) (aF:fW es.toList c) (aG:fE es.toList cn (mT g)) (l:Nat) (C:List (List UInt8)→ah→Prop) (w:ah) (h0:C [] w) (V:∀ pre W,C pre W→jH bk L es c W) (bu:∀ pre E ai (ae:Nat→Prop),C pre E→Md ae E ai→(∀ k,ae k→w.heap.size≤k∧∀ cur e z,E.heap[k]?≠some (.cells cur e z))→C pre ai) (A:∀ pre x E,pM g pre x→C pre E→YieldAt Fence.wide 0 an l #[str x] E fun e W'=>e= .returned (.bool true)∧fc E W'∧C (pre++ [x]) W'):
 bf an 53 (bC [.func (.yield l) #[] #[],aJ bk]) w (fun v w'=> ∃ xs,dr g xs∧C xs w'):=by
 have ar:=V _ _ h0;have ax:bD w.heap L cn (mT g):=⟨es,c,ar.2,aF,aG⟩
 have a0:=ax.lt;refine enter func53 U ntmps53 U<|bd 2 U<|p (aH U<|(dd ar.1).trans U)<|e<|qW eW ax U fun ac a7 left a3 aq aI aO aS aw=> ?_;have a4:=aq.size;refine aQ 3 U<|lp (fun aj aA ad=> ∃ (I:List (ab×ab)) (pre:List (List UInt8)),(Lf g I)∧(eO ad.heap ac L I)∧(C pre ad)∧(pre.Nodup)∧(∀ y,(∃ o,g y=some o)↔y∈pre∨str y∈I.map bN)∧(∀ y∈pre,str y∉I.map bN)∧(Sl aA [(0,.func (.yield l) #[] #[]),(5,aJ ac)])∧(I.length=aj)) _ ⟨left,[],(Lf.start aO aS aw),aI,(bu [] _ _ (fun _=>False) h0 aq.md fun _ h=>h.elim),r9,(FF aw),(fun y A=>by simp at A),U,U⟩ ?_;rintro aj aA ad ⟨I,pre,ap,al,am,ay,Z,au,aU,rfl⟩;refine dw aU<|bd 2 U<|e<|qK al U fun aZ a5 aa aY aD aE=>p (qL U)<|aQ 3 U<|cb U (fun O=> ?_) fun O=> ?_;obtain ⟨J,aL,ak⟩:=aE O;have aR:=J.length_eq;simp only [bZ] at aR;obtain ⟨x,o,rfl,aT,aK,aW,a1,a2⟩:=ap.step J;have av:∀ y,str y∈I.map bN↔y=x∨str y∈aa.map bN:=fun y=>by
  rw [(J.map bN).mem_iff];simp only [da,db];exact ⟨fun h=>h.imp lZ id,fun h=>h.imp (fun h=>by rw [h]) id⟩
 have aV:str x∉aa.map bN:=by
  have h:=(J.map bN).nodup_iff.1 ap.nd;simp only [da,List.nodup_cons] at h;exact h.1
 have ao:C pre aY:=bu pre _ _ (fun k=>k=ac) am aL fun k aN=>⟨ag,fun cur e z=>by rw [aN]; exact eO.nc al cur e z⟩
 have aX:x∉pre:=fun h=>au x h aW;have az:pM g pre x:=⟨List.nodup_append.2 ⟨ay,by simp,fun a ha b hb=>by simp at hb; subst hb; intro h; subst h; exact aX ha⟩,fun y A=>by
  rw [eL,iW] at A;rcases A with A | rfl;exact (Z y).2<|.inl A;exact ⟨o,aT⟩⟩
 refine aM 5 U<|p (p7 ak U)<|aQ 5 U<|G9<|py U (oN (.func (.yield l) #[] #[]) U)<|py U mv<|JL U U (A pre x _ az ao) fun a6 M=> ?_;refine py U (no U)<|Gt ?_;exact iK 1 U<|cf (U)<|bg 2 U<|tn<|⟨_,ag,aa,pre++ [x],aK,((fF.fix ak (fun o aB aC=>M.1 _ o aB aC)<|(V _ _ M.2).2.trans (V _ _ ao).2.symm).nh),M.2,az.1,(fun y=>by rw [Z,av,eL,iW,or_assoc]),(fun y A=>by rw [eL,iW] at A; rcases A with A | rfl; exact (fun h=>au y A<|(av y).2<|.inr h); exact aV),U,U⟩
 obtain ⟨aP,rfl⟩:=aD O;exact bg 2 U<|fm<|cg 1 U<|f0 U<|⟨pre,⟨ay,fun y=>by rw [Z y,aP]; simp⟩,am⟩
theorem FE (bk A:Nat) (es:Array MapEntry) (c:Nat) (g:List UInt8→Option Int) (E:fW es.toList c) (I:fE es.toList cn (mT g)):wi an 53 #[.pointer (some ⟨bk,0,none⟩)] (fun x:List UInt8=> #[str x]) (pM g) (dr g) (jH bk A es c):=
 fun l C W h0 J bu M=>gy (FD bk A es c g E I l C W h0 J bu M) fun e w' ⟨v,he,L⟩=>⟨⟨v,he⟩,L⟩
theorem CL (bk M:Nat) (es:Array MapEntry) (c:Nat) (g:List UInt8→Option Int) (n:Nat) (aI:fW es.toList c) (aN:fE es.toList cn (mT g)) (aQ:bT g n) (a2:n≤1048576) (w:ah) (ad:jH bk M es c w):
 bf an 86 (bC [.slice none 0 0,.func (.func 53) #[] #[.pointer (some ⟨bk,0,none⟩)]]) w (fun v w'=> ∃ xs,dr g xs∧dN w' w.heap.size 9 1 (v) (xs).length ((xs).map str)∧Wk w w'):=by
 have aZ:=(bI.1 ad.2).1;refine Eu [] func86 U ntmps86 U ?_;refine ed<|ej<|bd 1 U<|e<|wZ U U fun av aj aY J aF=> ?_;have a5:=J.size;have a3:av < aj.heap.size:=ag;have aJ:jH bk M es c aj:=⟨J.md.ao ad.1,J.md.ao ad.2⟩
 refine aA 2 U<|bE<|ed<|ed<|ej<|lG 3 U<|bE ?_;apply Hf (fun x:List UInt8=> #[str x]) (pM g) (dr g) (jH bk M es c) (fun pre L=> ∃ v,L.heap[av]? =some (.cells [v].toArray 31 (0,0))∧dN L aj.heap.size 9 1 (v) (pre).length ((pre).map str)∧jH bk M es c L∧aj.heap.size≤L.heap.size∧Wk w L) rfl C7 (fun _=>rfl) (FE bk M es c g aI aN) (⟨.slice none 0 0,aF,jD _ _ _ _,aJ,aO _,J.md⟩) (fun _ _ ⟨_,_,_,h,_⟩=>h) (fun pre A C F ⟨v,ac,az,aw,aC,aB⟩ hm aa=>⟨v,Ac ac hm aa,Iw az hm aa,⟨Ac aw.1 hm aa,hm.ao aw.2 fun h=>by have :=(aa M h).1; omega⟩,bX aC hm.size,Ix aB hm J.md.size aa⟩);intro l x L K ab;exact lG 3 U<|tn<|ab;intro l pre x L ay al;obtain ⟨v,ae,I,ai,au,ak⟩:=al;have aS:(pre++ [x]).length≤n:=aQ.le ay.1 ay.2;simp only [bK,gY] at aS;refine bd 2 U<|p (aH U<|(dd ae).trans U)<|p mv<|e<|oh kQ U U fun aW aT am E aD=> ?_;have aK:Wk w aT:=Md.trans ak E.md;have am:=E.md.ao ae;refine e<|ap kQ (dk I E.md) U (bX au E.md.size) U (bh.j3 aD) (U) (U) ag ag fun v11 aU ar V a4 a0=> ?_;have aL:=Wk.own aK (dk I E.md) V J.md.size;have ax:jH bk M es c aU:=⟨V.ao (E.md.ao ai.1) (fun h=>uk (dk I E.md) (E.md.ao ai.1) aP h),V.ao (E.md.ao ai.2) fun h=>by have :=dF (dk I E.md) h; omega⟩
 have aq:=V.ao am fun h=>uk (dk I E.md) am aP h;refine e<|fM DF U U (GS ar) aq (by simp) fun aV Z aG=> ?_;have aM:Wk w aV:=Md.trans' aL Z fun k O h=>by omega
 exact aA 2 U<|⟨(fc.wk E.md).trans ((fc.md V<|um<|dk I E.md).trans<|fc.md Z fun k O=>⟨_,_,_,O ▸ aq⟩),v11,aG,cR (by rw [List.map_append,bK]; exact ar) Z (fun k O h=>uk ar aq aP<|h ▸ O),⟨Z.ao ax.1 (fun h=>by have :=(bI.1 ad.1).1; omega),Z.ao ax.2 fun h=>by omega⟩,bX au (bX E.md.size<|bX V.size Z.size),aM⟩
 intro D L xs aR aX al ab;obtain ⟨v,ae,I,ai,au,ak⟩:=al;have a1:=(bI.1 ab).1;refine bE<|ed<|ej<|bd 1 U<|p (aH U<|(dd ae).trans U)<|p aE<|aA 1 U<|bE<|zE<|EG U U ab ?_;exact ⟨xs,aR,GR (cR I (tY _ _ _) fun k O h=>by obtain ⟨c,e,z,ac⟩:=um I k O; rw [h,ab] at ac; cases ac) J.md.size,Md.trans' ak (tY _ _ _) fun k O h=>by have :=J.md.size; omega⟩
theorem Dx (bk A:Nat) (es:Array MapEntry) (c:Nat) (g:List UInt8→Option Int) (n:Nat) (C:fW es.toList c) (I:fE es.toList cn (mT g)) (L:bT g n) (M:n≤1048576) (w:ah) (E:jH bk A es c w):
 bf an 51 (bC [.func (.func 53) #[] #[aJ bk]]) w (fun v w'=> ∃ xs,dr g xs∧dN w' w.heap.size 9 1 (v) (xs).length ((xs).map str)∧Wk w w'):=by
 exact enter func51 U ntmps51 U<|bd 8 U<|e<|aZ (CL bk A es c g n C I L M w E) U fun v4 O J=>p aE<|aA 3 U<|aW U<|J
theorem Ib (bk C:Nat) (es:Array MapEntry) (c:Nat) (g:List UInt8→Option Int) (n:Nat) (O:fW es.toList c) (aa:fE es.toList cn (mT g)) (J:bT g n) (ad:n≤1048576) (w:ah) (V:jH bk C es c w):
 bf an 22 (bC [.func (.func 53) #[] #[aJ bk]]) w (fun v w'=> ∃ xs,dr g xs∧(xs.Pairwise fun a b=>a≤b)∧dN w' w.heap.size 9 1 (v) (xs).length ((xs).map str)∧Wk w w'):=by
 refine enter func22 U ntmps22 U<|bd 7 U<|p mv<|e<|aZ (Dx bk C es c g n O aa J ad w V) U ?_;rintro v5 aj ⟨xs,A,L,Z⟩;have ak:xs.length≤n:=J.le A.1 fun x ai=>(A.2 x).1 ai;refine p aE<|ar 4 U<|p mv<|e<|aZ (Ia w.heap.size xs.length v5 xs aj L ag) U ?_;rintro al am ⟨rfl,ae,ab⟩;refine ar 4 U<|p mv<|p aE<|aA 3 U<|aW U ?_;have M:=List.mergeSort_perm xs fun x y=>decide (x≤y);refine ⟨xs.mergeSort fun x y=>decide (x≤y),⟨M.nodup_iff.2 A.1,fun y=>by rw [M.mem_iff,A.2]⟩,?_,by rw [BP]; exact ae,Wk.own Z L ab<|aO _⟩;have h:=List.pairwise_mergeSort (le:=fun x y:List UInt8=>decide (x≤y)) (fun a b c E I=> ?_) (fun a b=> ?_) xs;exact h.imp fun ac=>by simpa using ac
 simp only [decide_eq_true_iff] at E I ⊢; exact List.le_trans E I;simp only [Bool.or_eq_true,decide_eq_true_iff]; exact List.le_total a b
end Go.Hb.pN
end
section
namespace Go.Hb
open Go.Hb.fD
open Go.Hb.ln Go.Hb.pN
theorem ri (B aa bs:Nat) (bM:ab) (aY:aD) (g:List UInt8→Option Int) (n:Nat) (bA:List (List UInt8→Option Int)) (cs:List ab) (w:ah) (J:bP w B aa bs bM aY g n bA cs) (bD:∀ x o,g x=some o→x.length≤64):
 bf an 12 (bC [aJ aa]) w (fun v w'=> ∃ xs,dr g xs∧(xs.Pairwise fun a b=>a≤b)∧v=str (dJ g xs)∧Wk w w'):=by
 obtain ⟨es,c,bF,a7,bl⟩:=J.dm;have bV:=J.nB;refine enter func12 U ntmps12 U<|bd 8 U<|p mv<|p (gL jv U U)<|aQ 2 U<|cf (U)<|aM 4 U<|e<|iA vA fun A aR bT aj a2=> ?_;have b3:=aj.size;have br:=J.wk aj.md;refine ar 5 U<|p mv<|ar 2 U<|p (aH U<|br.obj.bj 1)<|e<|aZ (FG bs aR) U ?_;rintro v12 bN ⟨bk,rfl,bU,bB,aq⟩;have b0:=aq.size;refine e<|aZ (Ib bk bs es c g n a7 bl J.fG ag bN ⟨bB,aq.ao<|aj.md.ao bF⟩) U ?_;rintro b7 C ⟨xs,al,bJ,M,aC⟩;obtain ⟨av,ax,rfl⟩:=iP M;have b1:=aC.size;have bZ:xs.length≤n:=J.fG.le al.1 fun x O=>(al.2 x).1 O;have aP:∀ x∈xs,x.length≤64:=fun x O=>let ⟨o,ho⟩:=(al.2 x).1 O; bD x o ho
 have aE:Wk aR C:=Md.trans aq aC;have a8:Wk w C:=Md.trans aj.md aE;have a1:Bd 69 5 C A (.slice none 0 0) []:=(Bd.new a2).md aE fun _ _ h=>h;refine aQ 5 U<|lp (fun ay aS am=> ∃ (i:Nat) (I:ab),(i≤xs.length)∧(Bd 69 5 am A I<|dJ g<|xs.take i)∧(Wk w am)∧(Md (fun k=>k=A) C am)∧(∀ k,BF A I k→k=A∨C.heap.size≤k)∧(Sl aS [(0,aJ aa),(3,aJ A),(13,.slice av xs.length ax),(14,dj (xs.length)),(15,dj i)])∧(xs.length - i=ay)) _ ⟨0,.slice none 0 0,ag,a1,a8,(Md.refl _ _),(fun k h=> .inl<|h.resolve_right fun h=>by simp [cG] at h),U,U⟩ ?_;rintro ay aS am ⟨i,I,hi,ap,ai,L,ak,bG,rfl⟩;refine dw bG ?_;have b6:=L.size;have ad:=ap;have bW:(dJ g<|xs.take i).length≤65000:=by
  have a0:=As (g:=g) (xs:=xs.take i) fun x O=>aP x<|List.mem_of_mem_take O;rw [cm] at a0;omega
 refine dD 6 U<|cd U (fun bt=> ?_) fun bt=> ?_;refine dY 5 U ?_;have aL:=J.wk ai;have bY:(xs.getD i []).length≤64:=yo aP ag;have bX:=ry<|xs.getD i [];refine aM 1 U<|p (jh p9 U U ag<|bh.ok ((fk<|cR M L fun k E h=>by have :=dF M E; omega).2)<|qJ ag)<|p (aH U<|eD.get (i:=i) (fk<|cR M L fun k E h=>by have :=dF M E; omega).2 ag)<|aQ 3 U ?_;refine o3 (fun aT Z=> ∃ (ac:ab) (V:UInt8),(V=if 0 < (g<|xs.getD i []).getD 0 then 43 else 45)∧(Bd 69 5 Z A ac<|dJ g (xs.take i)++ [V])∧(Wk w Z)∧(Md (fun k=>k=A) C Z)∧(∀ k,BF A ac k→k=A∨C.heap.size≤k)∧(Sl aT [(0,aJ aa),(3,aJ A),(5,str (xs.getD i [])),(13,.slice av xs.length ax),(14,dj (xs.length)),(15,dj i)])) ?_ ?_;refine bd 5 U<|p (aH U<|aL.obj.bj 1)<|ar 1 U<|p (qA eW o9 jj (aL.dm.lQ) U U (⟨_,U⟩)<|tU g<|xs.getD i [])<|aQ 3 U<|cd U (fun bu=> ?_) fun bu=> ?_;refine aM 1 U<|e<|aZ (nK A I (dJ g<|xs.take i) (43) _ ad<|by first | omega | (simp only [bK,gY]; omega)) U ?_;rintro b8 bO ⟨rfl,aU,a3,aF,bv⟩;have a9:=ad.step ai aF ag;have bm:Md (fun k=>k=A) C bO:=L.trans' aF fun k E h=>(ak k h).resolve_right ag;exact aA 1 U<|tn<|⟨aU,43,(by rw [if_pos ag]),a3,a9,bm,(fun k h=>(bv k h).elim (ak k) fun h=> .inr ag),U⟩
 refine aM 1 U<|e<|aZ (nK A I (dJ g<|xs.take i) (45) _ ad<|by first | omega | (simp only [bK,gY]; omega)) U ?_;rintro b9 bQ ⟨rfl,aV,a4,aG,bw⟩;have ba:=ad.step ai aG ag;have bn:Md (fun k=>k=A) C bQ:=L.trans' aG fun k E h=>(ak k h).resolve_right ag;exact aA 1 U<|tn<|⟨aV,45,(by rw [if_neg ag]),a4,ba,bn,(fun k h=>(bw k h).elim (ak k) fun h=> .inr ag),U⟩
 rintro aT Z ⟨ac,V,bI,a6,bi,aK,aO,bH⟩;refine dw bH<|aM 3 U<|e<|aZ (JG (xs.getD i []) Z ag) U ?_;rintro ca cc ⟨rfl,ae⟩;have az:=a6.md ae fun _ _ h=>h;refine e<|aZ (JD A ac (dJ g (xs.take i)++ [V]) (cU<|xs.getD i []) _ az<|by rw [bK,gY]; omega) U ?_;rintro v30 bR ⟨rfl,aw,aB,au,bx⟩;have bb:=az.step (Md.trans bi ae) au ag;have bo:Md (fun k=>k=A) C bR:=(aK.trans' ae fun _ _ h=>h.elim).trans' au fun k E h=>(aO k h).resolve_right ag;have b2:=ae.size;have b5:=aK.size;have b4:=au.size;refine ar 3 U<|e<|aZ (nK A aw (dJ g (xs.take i)++ [V]++cU (xs.getD i [])) (10) _ aB<|by first | omega | (simp only [bK,gY]; omega)) U ?_;rintro v31 bS ⟨rfl,aX,a5,aI,bz⟩;have bc:=aB.step bb aI ag;have aN:∀ k,BF A aw k→k=A∨C.heap.size≤k:=fun k h=>(bx k h).elim (aO k) fun h=> .inr ag;have bp:Md (fun k=>k=A) C bS:=bo.trans' aI fun k E h=>(aN k h).resolve_right ag;exact ar 4 U<|p (cY<|i+1)<|aA 2 U<|tn<|⟨_,ag,i+1,aX,ag,(by rw [IS ag]; unfold j9; rw [← bI,List.append_cons,← kX]; exact a5),bc,bp,(fun k h=>(bz k h).elim (aN k) fun h=> .inr ag),U,U⟩
 refine bg 2 U<|fm<|kD 4 U<|e<|aZ (uX A I (dJ g<|xs.take i) _ ap ag) U ?_;rintro cb ce ⟨rfl,bq⟩;refine aA 4 U<|aW U ?_;obtain rfl :i=xs.length:=ag;rw [vV];exact ⟨xs,al,bJ,U,ap.uU ai bq ag⟩
end Go.Hb
end
namespace Go.Hb.mK
def lK:List UInt8:= [72,66,75,49,3,0,0,4,2,99,1,2,97,2,2,116,3,1,1,0,1,0,1,0]
def lU:List Nat:= [0,2,3,4,5,6,7,9,10,11,12,13,14]
def lI (E:Nat→Nat):Hp:=⟨sH 17 482 E lU,34⟩
noncomputable def tc (E:Nat→Nat):Rs:=gk an 17 (x2 89 256) 100000<|.cl 19 [.str [],.str [49,10,99,97,116,10],.agg [.int .i64 9,.int .i64 2,.int .i64 1048576,.int .i64 1024,.int .i64 1024]]<|lI E
noncomputable def qc (E:Nat→Nat):Rs:=gk an 17 (x2 89 256) 100000<|.cl 7 [.str lK]<|lI E
def uv:Rs→Bool
 | .rv (.bL [.str l,.dE]) _=>gj l lK
 | _=>false
def ux:Rs→Bool
 | .rv (.bool true) _=>true
 | _=>false
noncomputable def uy:Rs→Bool
 | .rv (.bL [.ptr b 0,.dE]) h=>ux<|gk an 17 (x2 89 256) 100000<|.cl 18 [.ptr b 0,.str [99,97,116]] h
 | _=>false
theorem EE (E:Nat→Nat):uy (qc E)=true :=ai
end Go.Hb.mK
section
namespace Go.Hb
open Go.Hb.mK
theorem EA (E:Nat→Nat):uv (tc E)=true :=ai
end Go.Hb
end
section
namespace Go.Hb.sm
open Go.Hb.fD
open Go.Hb.mK
theorem xk:gH an 17 (x2 89 256):=JH xw Fu
theorem ck:e7 an:=Dw ai
theorem G5 {R:Rs} (h:uv R=true):∃ A,R= .rv (.bL [.str lK,.dE]) A:=by
 unfold uv at h;split at h
 · rename_i l A;rw [mX,decide_eq_true_iff] at h;subst h;exact ⟨A,U⟩
 · cases h
theorem EB (E:Nat→Nat):∃ A,tc E= .rv (.bL [.str lK,.dE]) A:=G5<|EA E
theorem G6 {R:Rs} (h:ux R=true):∃ A,R= .rv (.bool true) A:=by
 unfold ux at h;split at h
 · exact ⟨_,U⟩
 · cases h
theorem G7 {R:Rs} (h:uy R=true):∃ b A,R= .rv (.bL [.ptr b 0,.dE]) A∧∃ C,gk an 17 (x2 89 256) 100000 (.cl 18 [.ptr b 0,.str [99,97,116]] A)= .rv (.bool true) C:=by
 unfold uy at h;split at h
 · exact ⟨_,_,U,G6 h⟩
 · cases h
theorem EF (E:Nat→Nat):∃ b A,qc E= .rv (.bL [.ptr b 0,.dE]) A∧∃ C,gk an 17 (x2 89 256) 100000 (.cl 18 [.ptr b 0,.str [99,97,116]] A)= .rv (.bool true) C:=G7<|EE E
theorem oX:∀ g∈lU,g < 17:=aP
theorem Du (w:ah) (I:cz 482 lU w):bf an 19 #[str [],str [49,10,99,97,116,10],.agg #[.int .i64 9,.int .i64 2,.int .i64 1048576,.int .i64 1024,.int .i64 1024]] w (fun v w'=>v= .tuple #[str lK,.nilIface]∧Wk w w'):=by
 obtain ⟨E,r,hr⟩:=HR.q6 (P:=an) (G:=17) (T:=482) oX aP I;obtain ⟨C,he⟩:=EB E;unfold tc at he;have L:=td xk ck wide he;obtain ⟨O,J⟩:=L;refine (J C.nx r w [str [],str [49,10,99,97,116,10],.agg #[.int .i64 9,.int .i64 2,.int .i64 1048576,.int .i64 1024,.int .i64 1024]] (aO _) (hr _)<|by simp only [den,av]).mono fun v w' M=> ?_;obtain ⟨r',A,st⟩:=M;refine ⟨?_,st.wk oX aP⟩;simp only [den,av,aY] at A;exact A.symm
structure lh (B:Nat) (w:ah) (a:aD):Prop where
 ex:∃ (E:Nat→Nat) (b:Nat) (h:Hp) (r:Rn) (q:Loc),qc E= .rv (.bL [.ptr b 0,.dE]) h∧(∃ h2,gk an 17 (x2 89 256) 100000 (.cl 18 [.ptr b 0,.str [99,97,116]] h)= .rv (.bool true) h2)∧r b=some q∧a=⟨q.ao,q.sh,none⟩∧(∀ k,Fr 17 r h k→B≤k)∧∀ T,HR an 17 r T h w
theorem F6 (w:ah) (L:cz 482 lU w):bf an 7 #[str lK] w (fun v w'=> ∃ a,v= .tuple #[.pointer (some a),.nilIface]∧lh w.heap.size w' a∧Wk w w'):=by
 obtain ⟨E,r,hr⟩:=HR.q6 (P:=an) (G:=17) (T:=482) oX aP L;obtain ⟨b,C,he,V⟩:=EF E;have J:=he;unfold qc at J;have aa:=td xk ck wide J;obtain ⟨ad,M⟩:=aa;refine (M C.nx r w [str lK] (aO _) (hr _)<|by simp only [den,av]).mono fun v w' ab=> ?_;obtain ⟨r',A,st⟩:=ab;cases hb:r' b with
 | none=>simp only [den,av,hb] at A; cases A
 | some q=>
   simp only [den,av,hb,aY] at A;refine ⟨⟨q.ao,q.sh,none⟩,A.symm,⟨E,b,C,r',q,he,V,hb,U,(fun k O=>Nat.le_of_not_lt fun Z=>by
    obtain ⟨i,o,ae,g1,g2,_⟩:=st.dx 17 (aO _) k Z O;obtain ⟨hm,_⟩:=nC aP g2;have :=oX i hm;omega),fun T=>⟨st.hr.live,st.hr.inj,fun i I ac=> ?_,st.hr.eF,st.hr.base⟩⟩,st.wk oX aP⟩
   rw [st.out i I];exact (hr<|i+1).new i (bX st.nx I)<|Nat.lt_succ_self i
theorem CR {B:Nat} (w:ah) (a:aD) (I:lh B w a):bf an 18 #[.pointer (some a),str [99,97,116]] w (fun v w'=>v= .bool true∧Md (fun k=>B≤k) w w'):=by
 obtain ⟨E,b,h,r,q,he,M,hb,rfl,L,hr⟩:=I;obtain ⟨C,kE⟩:=M;have O:=td xk ck wide kE;obtain ⟨V,J⟩:=O;refine (J C.nx r w [.pointer (some ⟨q.ao,q.sh,none⟩),str [99,97,116]] (aO _) (hr _)<|by simp only [den,av,hb,iX]).mono fun v w' U=> ?_;obtain ⟨r',A,st⟩:=U;simp only [den,aY] at A;exact ⟨A.symm,st.md.mono fun k _ h=>L k h⟩
end Go.Hb.sm
end
section
namespace Go.Hb.wj
open Go.Hb.fD
open Go.Hb.ln Go.Hb.pN Go.Hb.mK Go.Hb.sm
def dH:List UInt8:= [99,97,116]
def dZ:List UInt8:= [100,111,103]
def ew:List UInt8:= [101,109,117]
noncomputable def gA:List UInt8→Option Int:=dz 1 (bU 1 (fun _=>none) [dZ,ew]) fun _=>none
noncomputable def gB:List UInt8→Option Int:=dz (-1) (bU (-1) gA [dH]) gA
theorem kB (x:List UInt8):gA x=if x=dZ∨x=ew then some 1 else none:=by
 unfold gA dz bU eh dA;by_cases h:x=dZ∨x=ew <;> simp [h]
theorem m7 (x:List UInt8):gB x=if x=dH then some (-1) else gA x:=by
 unfold gB dz bU eh dA;by_cases h:x=dH
 · have :gA x=none:=by rw [kB,h]; decide
   simp [h];rw [← h,this]; simp
 · simp [h]
theorem yj {x:List UInt8} {o:Int} (h:gA x=some o):x∈[dZ,ew]:=by
 rw [kB] at h;split at h
 · rename_i A; simpa using A
 · cases h
theorem ym {x:List UInt8} :(∃ o,gB x=some o)↔x∈[dH,dZ,ew]:=by
 rw [m7];constructor
 · rintro ⟨o,h⟩;split at h
   · rename_i A; simp [A]
   · have :=yj h; simp only [db] at this ⊢; exact .inr this
 · intro h;by_cases A:x=dH
   · rw [if_pos A]; exact ⟨_,rfl⟩
   · rw [if_neg A,kB,if_pos (by simp only [db,pD,or_false] at h; exact h.resolve_left A)]; exact ⟨_,rfl⟩
theorem E2:∀ x o,gB x=some o→x.length≤64:=fun x o h=>by
 have :=ym.1 ⟨o,h⟩;simp only [db,pD,or_false] at this;rcases this with rfl | rfl | rfl <;> decide
theorem E1 {xs:List (List UInt8)} (h:dr gB xs) (A:xs.Pairwise fun a b=>a≤b):xs= [dH,dZ,ew]:=
 ya h ⟨aP,fun y=>ym.symm⟩ A aP
theorem E3:dJ gB [dH,dZ,ew]= [45,99,97,116,10,43,100,111,103,10,43,101,109,117,10]:=by
 have A:gB dH=some (-1):=by rw [m7,if_pos rfl]
 have C:gB dZ=some 1:=by rw [m7,if_neg aP,kB,if_pos (.inl rfl)]
 have E:gB ew=some 1:=by rw [m7,if_neg aP,kB,if_pos (.inr rfl)]
 show j9 gB dH++(j9 gB dZ++(j9 gB ew++ []))=_;unfold j9;rw [A,C,E];rfl
theorem Hx {m:Nat} (h:bT (eb (fun _=>none) [dZ,ew]) m):m≤500:=by
 have :=h.ge (l:= [dZ,ew]) fun x ⟨o,A⟩=>by
  unfold eb at A;split at A
  · assumption
  · cases A
 exact bX this aP
theorem Hy {m:Nat} (h:bT (eb gA [dH]) m):m≤500:=by
 have :=h.ge (l:= [dH,dZ,ew]) fun x ⟨o,A⟩=>by
  unfold eb at A;split at A
  · rename_i C; simp only [db,pD,or_false] at C ⊢; exact .inl C
  · have :=yj A; simp only [db] at this ⊢; exact .inr this
 exact bX this aP
theorem Dj:∃ x o,bU 1 (fun _=>none) [dZ,ew] x=some o:=⟨dZ,0,by unfold bU eh dA; simp⟩
theorem Dk:∃ x o,bU (-1) gA [dH] x=some o:=⟨dH,0,by
 have :gA dH=none:=by rw [kB]; decide
 unfold bU eh dA; simp [this]⟩
theorem iz.go {B E bs:Nat} {L:ab} {M:aD} {g:List UInt8→Option Int} {O:List (List UInt8→Option Int)} {A:Int} {l:List (List UInt8)} {w w':ah} {v:ab} (h:iz B E bs L M g O A l w v w') (ai:∀ x∈l,dK x=true) (hm:∀ m,bT (eb g l) m→m≤500) (J:∃ x o,bU A g l x=some o):
 v= .int .i64 0∧∃ m C I,bP w' B E bs C M (dz A (bU A g l) g) m (O++ [bU A g l]) I∧Md (fY E bs L) w w'∧(∀ k,C.ownBlock=some k→L.ownBlock=some k∨w.heap.size≤k):=by
 rcases h with ⟨⟨x,aj,V⟩,_⟩ | ⟨_,m,ag,h⟩
 · rw [ai x aj] at V; cases V
 · rcases h with ⟨h,_⟩ | ⟨_,rfl,h⟩
   · have :=hm m ag; omega
   · rcases h with ⟨h,_⟩ | ⟨C,I,_,Z,aa,ac⟩
     · obtain ⟨ks,_,ad,ae⟩:=h;have :=iU ad;subst this;obtain ⟨x,o,J⟩:=J;exact absurd ((ae<|str x).1<|(kJ _ _).2 ⟨x,o,U,J⟩)<|by simp
     · exact ⟨U,m,C,I,Z,aa,ac⟩
theorem lh.wk {B:Nat} {w w':ah} {a:aD} (h:lh B w a) (hm:Wk w w'):lh B w' a:=by
 obtain ⟨E,b,h,r,q,he,C,hb,rfl,A,hr⟩:=h;exact ⟨E,b,h,r,q,he,C,hb,U,A,fun T=>(hr T).cD hm fun _ _ _ _ _ h=>h⟩
theorem Dd (B C bs:Nat) (O:ab) (E:aD) (g:List UInt8→Option Int) (n:Nat) (M:List (List UInt8→Option Int)) (cs:List ab) (x:List UInt8) (R:ah→ab→ah→Prop) (w:ah) (J:bP w B C bs O E g n M cs) (L:g x=none) (V:∀ A,Wk w A→bf an 18 #[.pointer (some E),str x] A (R A)):
 bf an 16 (bC [aJ C,str x]) w (fun v w'=> ∃ A,Wk w A∧R A v w'):=by
 refine enter func16 U ntmps16 U<|bd 10 U<|e<|aZ (tz B C bs O E g n M cs x w J) U ?_;rintro ag aa ⟨rfl,I⟩;refine aQ 9 U<|cd U (fun h=>absurd h<|by rw [L]; decide) fun ad=>dY 6 U<|cd U (fun h=>absurd h<|by rw [L]; decide) fun ac=>aM 6 U<|p (y8 jv U U)<|ar 1 U<|gb (t:=14) U (fun ae=> ?_) fun h=>absurd ((U).symm.trans h) dn;exact ar 3 U<|cS U (aH U<|(J.wk I).obj.bj 0)<|ar 1 U<|eg U U U<|aZ (V aa I) U fun v20 ai Z=>p (qT U)<|p aE<|aA 3 U<|aW U<|⟨_,I,Z⟩
theorem Aq (ws:List (List UInt8)) (A:Option aD) (E:Nat) (w:ah) (L:eD w.heap A ws) (V:ws.length≤137438953472):
 bf an 10 (bC [.slice A ws.length E]) w (fun v w'=>Wk w w'∧dN w' w.heap.size 9 1 v ws.length (ws.map str)):=by
 refine enter func10 U ntmps10 U<|bd 8 U<|e<|ap kQ (jD w w.heap.size 9 1) U ag U (L) (by simp) (by rw [List.all_map]; exact List.all_eq_true.2 fun _ _=>rfl) ag ag fun v4 M C J Z O=> ?_;have I:Wk w M:=J.mono fun k _ h=>absurd (show (none:Option Nat)=some k from h)<|by simp
 refine p aE<|aA 3 U<|aW U ?_;rw [bS,List.nil_append] at C;exact ⟨I,C⟩
theorem Jl (w:ah) (aG:cz 482 lU w):
 bf an 6 (bC []) w (fun v w'=>v= .bool true∧Wk w w'):=by
 refine enter func6 U ntmps6 U<|bd 7 U<|p (jJ (ps:= [(0,.int .i64 9),(1,.int .i64 2),(2,.int .i64 1048576),(3,.int .i64 1024),(4,.int .i64 1024)]) (L:= [.int .i64 9,.int .i64 2,.int .i64 1048576,.int .i64 1024,.int .i64 1024]) Il U<|U)<|e<|aZ (Du w aG) U ?_;rintro b0 aK ⟨rfl,ai⟩;have a6:=aG.mono ai fun _ _ h=>h;refine p mv<|ar 3 U<|p aE<|ar 5 U<|e<|aZ (F6 aK a6) U ?_;rintro bQ A ⟨C,rfl,aN,au⟩;have bO:=ai.size;have bH:=au.size;refine p mv<|ar 2 U<|p aE<|p aE<|ar 4 U<|p mv<|e<|aZ (za C A) U ?_;rintro bR bm ⟨E,bs,rfl,bi,bj,bG,a7,a8,av⟩;have aX:bP bm A.heap.size E bs (.slice none 0 0) C (fun _=>none) 0 [] []:=⟨a7,a8,⟨[],r9,rfl,fun k=>⟨fun ⟨v,h⟩=>(by rw [oL] at h; cases h),fun h=>by simp at h⟩⟩,ag,fun x h=>(by cases h),⟨bi,bj⟩,jD _ _ _ _,(fun h=>by simp [cG] at h),trivial⟩
 have bI:=av.size;refine p aE<|ar 4 U<|p mv<|p (y8 jv U U)<|ar 1 U<|gb (t:=20) U (fun bu=> ?_) fun h=>absurd ((U).symm.trans h) dn;refine cS U mv<|eg U U U<|C0 (L:= [str dZ,str ew]) kQ U U U U fun ab ao bq aj aO=> ?_;have bJ:=aj.size;have aY:=aX.wk aj.md;have a4:eD ao.heap (some ⟨ab,0,none⟩) [dZ,ew]:=bh.j3 (show aC ao.heap ab ([dZ,ew].map str) from ⟨_,aO⟩);refine eg U U U<|aZ (wy A.heap.size E bs (.slice none 0 0) C (fun _=>none) 0 [] [] [dZ,ew] (some ⟨ab,0,none⟩) 2 ao aY a4 aP aP aP) U fun bS aI a2=> ?_;obtain ⟨rfl,Z,am,ad,I,aS,a9⟩:=iz.go a2 aP (fun m h=>Hx h) Dj;have I:bP aI A.heap.size E bs am C gA Z [bU 1 (fun _=>none) [dZ,ew]] ad:=I;have aw:Wk A aI:=(av.trans aj.md).trans' aS (fun k al h=>by
  rcases h with h | h | h;omega;omega;simp [cG] at h)
 have bK:=aw.size;have bD:ad.length=1:=(dc.len I.bk).trans rfl;have aH:∀ k,am.ownBlock=some k→A.heap.size≤k:=fun k h=>by
  rcases a9 k h with h | h;simp [cG] at h;omega
 refine ar 3 U<|gs (t:=26) U (fun bv=> ?_) fun h=>absurd U h;refine cS U mv<|eg U U U<|oh kQ U U fun ac ap br ak aQ=> ?_;have bM:=ak.size;have a0:=I.wk ak.md;have a5:eD ap.heap (some ⟨ac,0,none⟩) [dH]:=bh.j3 (show aC ap.heap ac ([dH].map str) from aQ);refine eg U U U<|aZ (wS A.heap.size E bs am C gA Z _ ad [dH] (some ⟨ac,0,none⟩) 1 ap a0 a5 aP aP ag) U fun bT aq a3=> ?_;obtain ⟨rfl,V,O,J,M,aT,ba⟩:=iz.go a3 aP (fun m h=>Hy h) Dk;have M:bP aq A.heap.size E bs O C gB V ([bU 1 (fun _=>none) [dZ,ew]]++ [bU (-1) gA [dH]]) J:=M;have ax:Wk A aq:=(aw.trans ak.md).trans' aT (fun k al h=>by
  rcases h with h | h | h;omega;omega;have :=aH k h; omega)
 have bN:=ax.size;have bF:J.length=2:=(dc.len M.bk).trans rfl;have bg:∀ k,O.ownBlock=some k→A.heap.size≤k:=fun k h=>by
  rcases ba k h with h | h;exact aH k h;omega
 refine ar 3 U<|gs (t:=32) U (fun bw=> ?_) fun h=>absurd U h;refine cS U mv<|eg U U U<|aZ (Dh A.heap.size E bs O C gB V _ J dH aq M<|by rw [m7,if_pos U]) U ?_;rintro bV bn ⟨rfl,ae⟩;refine ar 3 U<|gb (t:=37) U (fun bx=> ?_) fun h=>absurd ((U).symm.trans h) dn;refine cS U mv<|eg U U U<|aZ (Di A.heap.size E bs O C gB V _ J dZ bn (M.wk ae)<|by rw [m7,if_neg aP,kB,if_pos (.inl U)]) U ?_;rintro bW bo ⟨rfl,ay⟩;have aD:=(M.wk ae).wk ay;refine ar 2 U<|gb (t:=41) U (fun bz=> ?_) fun h=>absurd ((U).symm.trans h) dn;refine cS U mv<|eg U U U<|aZ (ri A.heap.size E bs O C gB V _ J bo aD E2) U ?_;rintro bX bp ⟨xs,bb,bc,rfl,az⟩;obtain rfl :=E1 bb bc;rw [E3] at*;have a1:=aD.wk az;refine ar 3 U<|gs (t:=46) U (fun bA=> ?_) fun h=>absurd U h;refine cS U mv<|eg U U U<|aZ (Az A.heap.size E bs O C gB (bU (-1) gA [dH]) V Z _ J bp a1 (by rw [show ef (bU (-1) gA [dH]) gB=gA from sA I.nz]; exact I.fG) I.nB ag) U ?_;rintro bY aJ ⟨rfl,bl,aL,aF,aU,bt⟩;rw [show ef (bU (-1) gA [dH]) gB=gA from sA I.nz] at aF;have aB:Wk A aJ:=(((ax.trans ae).trans ay).trans az).trans' aU (fun k al h=>by
  rcases h with h | h | h;omega;omega;have :=bg k h; omega)
 refine ar 2 U<|gb (t:=50) U (fun bB=> ?_) fun h=>absurd ((U).symm.trans h) dn;refine cS U mv<|eg U U U<|aZ (Dd A.heap.size E bs bl C gA Z _ aL dH (fun aa v w'=>v= .bool true∧Md (fun k=>aK.heap.size≤k) aa w') aJ aF (by rw [kB]; decide) fun aa aM=>CR aa C<|lh.wk (lh.wk aN aB) aM) U ?_;rintro bZ b1 ⟨aa,aR,rfl,aV⟩;exact aA 5 U<|aW U<|⟨U,((ai.trans<|au.trans aB).trans aR).trans' aV fun k al h=>by omega⟩
end Go.Hb.wj
end
section
namespace Go.Hb
open Go.Hb.fD
def jS (e:Int):List PanicEntry:= [{v:= .iface 34 (.int .i64 e),recovered:=false}]
def Ho:Except Nat (Nat×Nat)→Nat
 | .ok (n,_)=>n
 | .error _=>0
def Hq:Except Nat (Nat×Nat)→Nat
 | .ok (_,p)=>p
 | .error _=>0
def ny:Except Nat (Nat×Nat)→Nat
 | .ok _=>0
 | .error e=>e
def Hr (r:Except Nat (Nat×Nat)):ab:= .tuple #[.int .u64 (Ho r:Nat),.int .i64 (Hq r:Nat),.int .i64 (ny r:Nat)]
theorem zF {s:List UInt8} {a e:Nat} (h:bo s a= .error e):e=60∨e=61:=by
 unfold bo at h;split at h
 · cases h; exact .inr rfl
 · split at h
   · cases h; exact .inl rfl
   · split at h
     · cases h; exact .inr rfl
     · cases h
theorem Hu {s:List UInt8} {a:Nat} (h:((ny (bo s a):Nat):Int)=0):∃ n p,bo s a= .ok (n,p):=by
 cases hX:bo s a with
 | ok x=>exact ⟨x.1,x.2,rfl⟩
 | error e=>
   rw [hX] at h;have :=zF hX;simp only [ny] at h; omega
theorem Hs {s:List UInt8} {a:Nat} (h:¬((ny (bo s a):Nat):Int)=0):bo s a= .error (ny<|bo s a):=by
 cases hX:bo s a with
 | ok x=>rw [hX] at h; simp [ny] at h
 | error e=>rfl
theorem H7 {s:List UInt8} {a n:Nat} :(s.take<|a+n).drop a=(s.drop a).take n:=by rw [BG,Nat.add_sub_cancel_left]
theorem EW {s:List UInt8} {a e:Nat} (h:bo s a= .error e):cZ s a= .error e:=by unfold cZ; rw [h]
theorem EY {s:List UInt8} {a n p:Nat} (h:bo s a= .ok (n,p)) (hn:255 < n):cZ s a= .error 62:=by unfold cZ; rw [h]; exact if_pos hn
theorem EZ {s:List UInt8} {a n p:Nat} (h:bo s a= .ok (n,p)) (hn:¬255 < n) (hp:s.length < p+n):cZ s a= .error 60:=by unfold cZ; rw [h]; simp only; rw [if_neg hn,if_pos hp]
theorem E0 {s:List UInt8} {a n p:Nat} (h:bo s a= .ok (n,p)) (hn:¬255 < n) (hp:¬s.length < p+n):cZ s a= .ok ((s.drop p).take n,p+n):=by unfold cZ; rw [h]; simp only; rw [if_neg hn,if_neg hp]
theorem CG:∀ r:Fin 256,nU.wrap (gw nU.bits ((r.val:Nat):Int) &&& gw nU.bits 127).toNat=((r.val % 128:Nat):Int):=by decide+kernel
theorem CF (b:UInt8):nU.wrap (gw nU.bits (b.toNat:Int) &&& gw nU.bits 127).toNat=((b.toNat % 128:Nat):Int):=CG ⟨b.toNat,n9 b⟩
theorem zo (i:Nat):(128:Nat) ^ i=2 ^ (7 *i):=by rw [Nat.pow_mul]
theorem H5 {x i:Nat} (hi:i≤9):mw.wrap (((x:Nat):Int)*2 ^ min ((7 *i:Nat):Int).toNat mw.bits)=((x*128 ^ i % 18446744073709551616:Nat):Int):=by
 have A:(mw.bits:Nat)=64:=rfl;rw [Int.toNat_natCast,A,sa ag,IntKind.wrap_u64,zo];generalize 7 *i=m;rw [show ((x:Nat):Int)*2 ^ m=((x*2 ^ m:Nat):Int) by simp];omega
theorem GM {n x i:Nat} (hi:i≤9) (hn:n < 128 ^ i):mw.wrap (gw mw.bits (n:Int) ||| gw mw.bits ((x*128 ^ i % 18446744073709551616:Nat):Int)).toNat=((n+x*128 ^ i % 18446744073709551616:Nat):Int):=by
 have C:(mw.bits:Nat)=64:=rfl;rw [zo] at hn ⊢;have I:x*2 ^ (7 *i) % 18446744073709551616=2 ^ (7 *i)*(x % 2 ^ (64 - 7 *i)):=by
  rw [show (18446744073709551616:Nat)=2 ^ (7 *i)*2 ^ (64 - 7 *i) by rw [← Nat.pow_add,show 7 *i+(64 - 7 *i)=64 by omega],pH x,Nat.mul_mod_mul_left]
 rw [I,C,AZ,AZ,BitVec.toNat_or,A0,A0];have A:x % 2 ^ (64 - 7 *i) < 2 ^ (64 - 7 *i):=Nat.mod_lt _<|Nat.two_pow_pos _;generalize x % 2 ^ (64 - 7 *i)=z at A;have hle:(2:Nat) ^ (7 *i)≤2 ^ 64:=sd aP ag;have hmul:2 ^ (7 *i)*z+n < 2 ^ 64:=by
  have E:2 ^ (7 *i)*(z+1)≤2 ^ (7 *i)*2 ^ (64 - 7 *i):=Cd _ A;rw [← Nat.pow_add,show 7 *i+(64 - 7 *i)=64 by omega,Nat.mul_succ] at E;omega
 rw [vY ag,vY (show 2 ^ (7 *i)*z < 2 ^ 64 by omega),Nat.or_comm,← Nat.two_pow_add_eq_or_of_lt hn,nL ag,Nat.add_comm]
theorem qx {s:List UInt8} {a i n:Nat} (hi:i≤9) (ha:a+i < s.length) (hn:n=eG ((s.drop a).take i)) (hb:i≤8∨(s.getD (a+i) 0).toNat≤1):n+(s.getD (a+i) 0).toNat % 128 *128 ^ i % 18446744073709551616=eG ((s.drop a).take<|i+1):=by
 have E:((s.drop a).take i).length=i:=by rw [cm,gX]; omega
 have I:(s.drop a)[i]? =some (s.getD (a+i) 0):=by
  rw [gV,cH,bW ag]; rfl
 rw [B5,I,Ci,tM,E,hn,eG,eG,Nat.mul_zero,iX];congr 1;have hm:(s.getD (a+i) 0).toNat % 128 < 128:=Nat.mod_lt _ aP;have A:i≤8∨(s.getD (a+i) 0).toNat % 128≤1:=hb.imp id fun h=>ag;generalize (s.getD (a+i) 0).toNat % 128=x at hm A ⊢;rw [pH,vY];have M:(128:Nat) ^ 9=9223372036854775808:=aP;rcases A with hb | hb
 · have J:128 ^ i*x < 128 ^ i*128:=Nat.mul_lt_mul_of_pos_left hm<|Nat.pow_pos aP;have L:(128:Nat) ^ i*128=128 ^ (i+1):=rfl;have C:(128:Nat) ^ (i+1)≤128 ^ 9:=sd aP ag;omega
 · have C:(128:Nat) ^ i≤128 ^ 9:=sd aP ag;have O:128 ^ i*x≤128 ^ i*1:=Cd _ hb;omega
theorem Hv (s:List UInt8) (a:Nat) (w:ah) (ao:s.length≤1048576) (ha:a≤s.length):
 bf an 81 (bC [str s,dj a]) w (fun v w'=>v=Hr (bo s a)∧Wk w w'):=by
 refine enter func81 U ntmps81 U<|bd 13 U<|gs (t:=11) U (fun h=>absurd h ag) fun am=>aQ 7 U<|cd U (fun ab=> ?_) fun ab=> ?_;exact bg 9 U<|f3 U U U U<|⟨by rw [zG (k:=0) (j0 ag (fun j O=>by omega)<|.inr<|.inl ag) ag ag]; rfl,Md.refl _ _⟩
 refine dY 9 U<|lp (fun L Z V=> ∃ (i n:Nat),(i≤10)∧(∀ j,j < i→a+j < s.length∧128≤(s.getD (a+j) 0).toNat)∧(i≤9→n=eG ((s.drop a).take i))∧(Wk w V)∧(Sl Z [(0,str s),(1,dj a),(4,.int .u64 (n:Nat)),(17,dj i)])∧(10 - i=L)) _ ⟨0,0,ag,(fun j O=>by omega),(fun _=>rfl),(Md.refl _ _),U,U⟩ ?_;rintro L Z V ⟨i,n,hi,E,hn,C,al,rfl⟩;refine dw al<|dD 6 U<|cd U (fun ac=> ?_) fun ac=> ?_;refine dY 21 U<|cd U (fun ad=> ?_) fun ad=> ?_;exact bg 11 U<|tr<|cg 2 U<|f3 U U U U<|⟨by rw [zG (k:=i) (j0 ag E<|.inr<|.inl ag) ag ag]; rfl,C⟩
 refine aM 7 U<|p (cY<|a+i)<|p (jW u9 U U ag)<|aQ 4 U ?_;have ak:n < 128 ^ i:=by
  have M:=qw<|(s.drop a).take i;rw [← hn ag] at M;have aa:((s.drop a).take i).length=i:=by rw [cm,gX]; omega
  rwa [aa] at M
 refine aM 3 U<|p (b9 U U<|CF _)<|p (pU IU I6 U<|nL ag)<|ar 1 U<|p (y5 ((7 *i:Nat):Int) U U<|vn ag ag)<|p (shl U U ag<|H5 ag)<|p (wU U U<|GM ag ak)<|aQ 12 U<|cd U (fun ae=> ?_) fun ae=> ?_;have aj:∀ j,j < i+1→a+j < s.length∧128≤(s.getD (a+j) 0).toNat:=fun j O=>by
  rcases dU j i with h | h;exact E j h;obtain rfl :j=i:=ag;exact ⟨ag,ag⟩
 exact aM 6 U<|p (cY<|i+1)<|aA 2 U<|tn<|⟨_,ag,i+1,n+(s.getD (a+i) 0).toNat % 128 *128 ^ i % 18446744073709551616,ag,aj,(fun h=>qx ag ag (hn ag)<|.inl ag),C,U,U⟩
 refine aM 6 U<|gs (t:=45) U (fun ai=> ?_) fun ai=> ?_;refine aQ 6 U<|cd U (fun I=> ?_) fun I=> ?_;refine dY 2 U<|cd U (fun I=> ?_) fun I=> ?_;refine bg 12 U<|tr<|cg 2 U<|f3 U U U U ?_;have A:=j0 (s:=s) (a:=a) (k:=i) ag E<|.inr<|.inr ag;exact ⟨by rw [uB A ag ag ag]; rfl,C⟩;refine aM 8 U<|p (cY<|a+i)<|p (cY<|a+i+1)<|aA 8 U<|tr<|cg 2 U<|f3 U U U U ?_;exfalso; omega;refine aM 4 U<|gs (t:=51) U (fun J=> ?_) fun J=> ?_;refine aQ 6 U<|cd U (fun I=> ?_) fun I=> ?_;refine bg 12 U<|tr<|cg 2 U<|f3 U U U U ?_;have A:=j0 (s:=s) (a:=a) (k:=i) ag E<|.inr<|.inr ag;exact ⟨by rw [uB A ag ag ag]; rfl,C⟩;refine aM 8 U<|p (cY<|a+i)<|p (cY<|a+i+1)<|aA 8 U<|tr<|cg 2 U<|f3 U U U U ?_;have A:=j0 (s:=s) (a:=a) (k:=i) ag E<|.inr<|.inr ag;exact ⟨by rw [uC A ag ag ag,← qx ag ag (hn ag) ag]; rfl,C⟩;refine ar 3 U<|p aE<|ar 11 U<|p (cY<|a+i)<|p (cY<|a+i+1)<|aA 8 U<|tr<|cg 2 U<|f3 U U U U ?_;exfalso; omega;refine ar 3 U<|p aE<|ar 7 U<|gs (t:=51) U (fun J=> ?_) fun J=> ?_;refine aQ 6 U<|cd U (fun I=> ?_) fun I=> ?_;refine bg 12 U<|tr<|cg 2 U<|f3 U U U U ?_;have A:=j0 (s:=s) (a:=a) (k:=i) ag E<|.inr<|.inr ag;exact ⟨by rw [uB A ag ag ag]; rfl,C⟩;refine aM 8 U<|p (cY<|a+i)<|p (cY<|a+i+1)<|aA 8 U<|tr<|cg 2 U<|f3 U U U U ?_;have A:=j0 (s:=s) (a:=a) (k:=i) ag E<|.inr<|.inr ag;exact ⟨by rw [uC A ag ag ag,← qx ag ag (hn ag) ag]; rfl,C⟩;refine ar 3 U<|p aE<|ar 11 U<|p (cY<|a+i)<|p (cY<|a+i+1)<|aA 8 U<|tr<|cg 2 U<|f3 U U U U ?_;have A:=j0 (s:=s) (a:=a) (k:=i) ag E<|.inr<|.inr ag;exact ⟨by rw [uC A ag ag ag,← qx ag ag (hn ag) ag]; rfl,C⟩;refine bg 2 U<|fm<|cg 10 U<|f3 U U U U ?_;obtain rfl :i=10:=ag;exact ⟨by rw [Ht (j0 ag E<|.inl U)]; rfl,C⟩
theorem iN (C:ab) (b:Bool) (e:Int) (w:ah):
 lr an 44 (bC [C,.bool b,.int .i64 e]) w (fun v w'=>v=rO #[]∧b=true∧w'=w) (fun c w'=>c=jS e∧b=false∧w'=w):=by
 refine ov func44 U ntmps44 U<|dD 6 U<|cb U (fun A=> ?_) fun A=> ?_;exact aM 2 U<|p (ua qH U)<|GU U fun σ' E=>⟨U,by simpa using A,U⟩
 refine bg 1 U<|oy<|f0 U ?_;exact ⟨U,by simpa using A,U⟩
theorem ni (rb:Nat) (s:List UInt8) (a:Nat) (w:ah) (E:aC w.heap rb [str s,.int .i64 (a:Nat)]) (ab:s.length≤1048576) (ha:a≤s.length):
 lr an 42 (bC [.pointer (some ⟨rb,0,none⟩)]) w (fun v w'=> ∃ n p,bo s a= .ok (n,p)∧v= .int .u64 (n:Nat)∧aC w'.heap rb [str s,.int .i64 (p:Nat)]∧Md (fun k=>k=rb) w w') (fun c w'=> ∃ e,bo s a= .error e∧c=jS e∧Md (fun k=>k=rb) w w'):=by
 refine ov func42 U ntmps42 U<|dD 6 U<|tC fun C=>cI [0,1,2] U C<|jT 3 U C (E.bj 0)<|cI [4,5,6] U C<|jT 7 U C (E.bj 1)<|he 8 U ai<|aZ (Hv s a w.drew ab ha) U ?_;rintro ag L ⟨rfl,A⟩;have A:=Md.mU A;have J:(fun w'=>Wk w w') L:=A;refine ⟨J,?_⟩;refine hp 9 U ai (fun _ _=>mv) J<|cI [10,11,12,13,14,15] U J<|hn ai<|kD 7 U<|eP U (dL iD (iN _ _ _ L) U fun aj ak Z=> ?_) fun c w' I σ' ae=>⟨_,Hs (of_decide_eq_false I.2.1),I.1,by rw [I.2.2]; exact A.mono fun _ _ h=>h.elim⟩
 obtain ⟨rfl,ac,rfl⟩:=Z;obtain ⟨n,ad,aa⟩:=Hu<|of_decide_eq_true ac;have M:=Wk.B A E;refine ar 8 U<|e<|st pV U U (U) (M) (by simp) fun al V O=>aA 9 U<|oy<|f1 U U ?_;rw [aa] at*;exact ⟨n,ad,U,U,O,Md.trans (A.mono fun _ _ h=>h.elim) V⟩
theorem Ak (rb:Nat) (s:List UInt8) (a n:Nat) (w:ah) (I:aC w.heap rb [str s,.int .i64 (a:Nat)]) (ak:s.length≤1048576) (ha:a≤s.length) (aj:n≤1048576):
 lr an 82 (bC [.pointer (some ⟨rb,0,none⟩),.int .i64 (n:Nat)]) w (fun v w'=>a+n≤s.length∧v=str ((s.drop a).take n)∧aC w'.heap rb [str s,.int .i64 ((a+n:Nat):Int)]∧Md (fun k=>k=rb) w w') (fun c w'=>s.length < a+n∧c=jS 60∧Md (fun k=>k=rb) w w'):=by
 refine ov func82 U ntmps82 U<|dD 6 U<|tC fun C=>cI [0,1,2,3,4] U C<|jT 5 U C (I.bj 0)<|cI [6,7,8,9] U C<|jT 10 U C (I.bj 1)<|cI [11,12] U C<|Fh 13 U ai U (dL iD (iN _ _ _ w.drew) U fun al M ac=> ?_) fun c w' J σ' ae=>⟨by have :=of_decide_eq_false J.2.1; omega,J.1,by rw [J.2.2]; exact (Md.refl _ _).drew⟩
 obtain ⟨rfl,V,L⟩:=ac;have V:=of_decide_eq_true V;have O:aC M.heap rb [str s,.int .i64 (a:Nat)]:=by rw [L]; exact I
 have aa:Md (fun k=>k=rb) w M:=by rw [L]; exact (Md.refl _ _).drew
 have ad:(fun w'=>Wk w w') M:=by rw [L]; exact (Md.refl _ _).drew
 refine ⟨ad,?_⟩;refine hn ai<|kD 6 U<|p (aH U<|O.bj 1)<|ar 1 U<|p (cY<|a+n)<|ar 2 U<|e<|st pV U U (U) (O) (by simp) fun am ab Z=> ?_;have E:=Z;exact aQ 3 U<|tC fun A=>cI [0,1,2] U A<|jT 3 U A (E.bj 0)<|cI [4,5,6] U A<|jT 7 U A (E.bj 1)<|cI [8] U A<|hp 9 U ai (fun _ _=>q4<|a) A<|cI [10,11,12] U A<|jT 13 U A (E.bj 1)<|hp 14 U ai (fun _ _=>uP u9 U U U ag) A<|cI [15] U A<|hn ai<|cg 2 U<|oy<|f1 U U<|⟨ag,by rw [← H7]; rfl,E,(aa.trans ab).drew⟩
theorem tq (rb:Nat) (s:List UInt8) (a:Nat) (w:ah) (M:aC w.heap rb [str s,.int .i64 (a:Nat)]) (J:s.length≤1048576) (ha:a≤s.length):
 lr an 43 (bC [.pointer (some ⟨rb,0,none⟩)]) w (fun v w'=> ∃ f p,cZ s a= .ok (f,p)∧v=str f∧aC w'.heap rb [str s,.int .i64 (p:Nat)]∧Md (fun k=>k=rb) w w') (fun c w'=> ∃ e,cZ s a= .error e∧c=jS e∧Md (fun k=>k=rb) w w'):=by
 refine ov func43 U ntmps43 U<|bd 8 U<|eP U (dL mN (ni rb s a w M J ha) U fun v5 ai ac=> ?_) fun c w' A σ' I=>by obtain ⟨e,he,ae,Z⟩:=A; exact ⟨e,EW he,ae,Z⟩
 obtain ⟨n,q,C,rfl,V,E⟩:=ac;obtain ⟨ak,al,am⟩:=jt C;refine ar 8 U<|eP U (dL iD (iN _ _ _ ai) U fun v9 aj ad=> ?_) fun c w' A σ' I=>⟨62,EY C (by have :=of_decide_eq_false A.2.1; omega),A.1,by rw [A.2.2]; exact E⟩
 obtain ⟨rfl,L,rfl⟩:=ad;have L:=of_decide_eq_true L;refine ar 6 U<|p (pU u3 vi U<|mc ag)<|eP U (dL xd (Ak rb s q n aj V J ag ag) U fun ap aq ab=> ?_) fun c w' A σ' I=>⟨60,EZ C ag A.1,A.2.1,E.trans A.2.2⟩
 obtain ⟨ao,rfl,O,aa⟩:=ab;exact aA 4 U<|oy<|f1 U U<|⟨_,_,E0 C ag ag,U,O,E.trans aa⟩
theorem Al {s:List UInt8} {i:Nat} (h:i < s.length):(s.take<|i+1).drop i= [s.getD i 0]:=by
 rw [BG,show i+1 - i=1 by omega,drop_cons 0 h]; rfl
theorem Ja (b:UInt8):dK [b]=fi b:=by
 unfold dK hZ;cases h:fi b <;> simp [h]
def jb:List UInt8×List UInt8:=([],[])
def kO (r:List UInt8×List UInt8):List ab:= [str r.1,str r.2]
theorem Hl {h:Array Obj} {a:Option aD} {rs:List (List UInt8×List UInt8)} {i:Nat} (A:bh h a (rs.flatMap kO)) (hi:i < rs.length):∀ j,j < 2→Hb.ay h (bk a) (fo a+i*2 +j)= [str (rs.getD i jb).1,str (rs.getD i jb).2][j]? :=
 qg (f:=kO) (m:=2) (fun _=>rfl) A (by rw [cH,bW hi]; rfl)
theorem Hm {rs:List (List UInt8×List UInt8)} (h:0 < rs.length):rs.flatMap kO≠[]:=tj (f:=kO) (m:=2) (fun _=>rfl) aP h
variable {ls:Nat} {t:List UInt8} {rs:List (List UInt8×List UInt8)}
theorem nT {b:Bool} (h:(!b)=true):b=false :=by cases b; rfl; cases h
theorem uG (h:ls < 1∨64 < ls∨256 < rs.length):gr ls t rs=false :=by
 unfold gr;rw [decide_eq_false ag]; rfl
theorem zO (h:t≠[]) (A:letE t≠(t,0)):gr ls t rs=false :=by
 unfold gr;rw [decide_eq_false h,decide_eq_false A]; simp
theorem uH {i:Nat} (h:i < rs.length) (A:ir (rs.getD i jb)=false):gr ls t rs=false :=by
 unfold gr;rw [wE jb h A]; simp
theorem HN (h:¬(ls < 1∨64 < ls∨256 < rs.length)) (A:t= []∨letE t=(t,0)) (C:∀ i,i < rs.length→ir (rs.getD i jb)=true):gr ls t rs=true :=by
 unfold gr;rw [decide_eq_true ag,wF jb C];rcases A with A | A <;> simp [A]
theorem HO {r:List UInt8×List UInt8} (h:r.1= []):ir r=false :=by unfold ir; simp [h]
theorem HP {r:List UInt8×List UInt8} (h:(hZ r.1 && decide (r.1.length≤32))=false):ir r=false :=by unfold ir; rw [h]; simp
theorem HQ {r:List UInt8×List UInt8} (h:(hZ r.2 && decide (r.2.length≤32))=false):ir r=false :=by unfold ir; rw [h]; simp
theorem HS {r:List UInt8×List UInt8} (h0:r.1≠[]) (h:(hZ r.1 && decide (r.1.length≤32))=true) (A:(hZ r.2 && decide (r.2.length≤32))=true):ir r=true :=by unfold ir; rw [h,A,decide_eq_true h0]; rfl
theorem zr (x:List UInt8) (m:Nat) (w:ah) (ab:x.length≤1048576):
 bf an 84 (bC [str x,dj m]) w (fun v w'=>v= .bool (hZ x && decide (x.length≤m))∧Wk w w'):=by
 refine enter func84 U ntmps84 U<|dD 14 U<|lp (fun I V E=> ∃ (i:Nat),(i≤x.length)∧(∀ j,j < i→fi (x.getD j 0)=true)∧(Wk w E)∧(Sl V [(0,str x),(1,dj m),(7,dj (x.length)),(8,dj i)])∧(x.length - i=I)) _ ⟨0,ag,(fun j M=>by omega),(Md.refl _ _),U,U⟩ ?_;rintro I V E ⟨i,hi,O,A,aa,rfl⟩;refine dw aa<|dD 6 U<|cd U (fun Z=> ?_) fun Z=> ?_;refine aM 15 U<|p (cY<|i+1)<|p (uP u9 U U U ag)<|e<|aZ (AB ((x.take<|i+1).drop i) E<|by rw [Al ag]; simp) U fun ac ad L=> ?_;rw [Al ag,Ja] at L;obtain ⟨rfl,J⟩:=L;refine aQ 3 U<|cb U (fun C=> ?_) fun C=> ?_;exact bg 8 U<|tr<|cg 2 U<|aW U<|⟨by rw [sG (i:=i) ag (by simpa using C)]; rfl,A.trans J⟩
 exact aM 4 U<|p (cY<|i+1)<|aA 2 U<|tn<|⟨_,ag,i+1,ag,(fun j M=>by rcases dU j i with h | h <;> first | exact O j h | (rw [show j=i by omega]; simpa using C)),(A.trans J),U,U⟩
 exact bg 2 U<|fm<|cg 12 U<|aW U<|⟨by rw [sI (fun j M=>O j ag),Bool.true_and]; exact bv ag,A⟩
theorem HT (ls:Nat) (t:List UInt8) (rs:List (List UInt8×List UInt8)) (V:Option aD) (rc:Nat) (v3 v4 v5 v6:ab) (w:ah) (ap:bh w.heap V (rs.flatMap kO)) (a4:ls≤64) (a7:t.length≤1048576) (a5:rs.length≤1048576) (aS:∀ r∈rs,r.1.length≤1048576∧r.2.length≤1048576):
 bf an 45 (bC [.agg #[dj ls,str t,.slice V rs.length rc,v3,v4,v5,v6]]) w (fun v w'=>v= .bool (gr ls t rs)∧Wk w w'):=by
 refine enter func45 U ntmps45 U<|bd 2 U<|e<|sF U fun am aY a1 M C=>ar 7 U<|p (aH U<|C.bj 0)<|ar 2 U<|gs (t:=10) U (fun aP=> ?_) fun aP=> ?_;exact ar 4 U<|p mv<|aA 15 U<|aW U<|⟨(congrArg bM<|uG (t:=t) (rs:=rs)<|.inl (show ls < 1 by omega)).symm,M.md⟩
 refine ar 1 U<|cS U (aH U<|C.bj 0)<|ar 3 U<|gs (t:=15) U (fun aR=> ?_) fun aR=> ?_;exact aA 15 U<|aW U<|⟨(congrArg bM<|uG (t:=t) (rs:=rs)<|.inr<|.inl (show 64 < ls by omega)).symm,M.md⟩
 refine ar 1 U<|cS U (aH U<|C.bj 2)<|aQ 5 U<|cd U (fun aN=> ?_) fun aN=> ?_;exact bg 7 U<|aW U<|⟨(congrArg bM<|uG<|.inr<|.inr (show 256 < rs.length by omega)).symm,M.md⟩
 refine dY 2 U ?_;refine o3 (fun ax ak=> ∃ (aX:Unit),(t= []∨letE t=(t,0))∧(Wk w ak)∧(aC ak.heap am [dj ls,str t,.slice V rs.length rc,v3,v4,v5,v6])∧(Sl ax [(1,aJ am)])) ?_ ?_;refine bd 3 U<|p (aH U<|C.bj 1)<|e<|aZ (FW t aY ag) U ?_;rintro v24 a8 ⟨rfl,aq⟩;have I:=M.md.trans aq;have E:=Wk.B aq C;refine p mv<|ar 9 U<|p (aH U<|E.bj 1)<|ar 2 U<|gs (t:=30) U (fun O=> ?_) fun O=> ?_;refine ar 3 U<|gs (t:=33) U (fun ad=> ?_) fun ad=> ?_;exact ar 5 U<|p (qT U)<|aA 9 U<|tr<|aW U<|⟨(congrArg bM<|zO O fun h=>by rw [h] at ad; exact ad U).symm,I⟩
 refine ar 2 U<|cS U (aH U<|E.bj 1)<|aQ 5 U<|cd U (fun aa=> ?_) fun aa=> ?_;exact bg 6 U<|tr<|aW U<|⟨(congrArg bM<|zO O fun h=>aa<|by rw [h]).symm,I⟩
 exact bg 1 U<|tn<|⟨(),(.inr<|Prod.ext (vD.1 aa)<|by show (letE t).2=0; omega),I,E,U⟩
 exact aA 13 U<|tn<|⟨(),(.inl<|vD.1 O),I,E,U⟩
 rintro ax ak ⟨aX,aV,aI,aG,aT⟩;refine dw aT<|aM 4 U<|p (aH U<|aG.bj 2)<|aQ 5 U<|lp (fun ao ay al=> ∃ (i:Nat),(i≤rs.length)∧(∀ j,j < i→ir (rs.getD j jb)=true)∧(Wk w al)∧(Sl ay [(41,.slice V rs.length rc),(42,dj (rs.length)),(43,dj i)])∧(rs.length - i=ao)) _ ⟨0,ag,(fun j av=>by omega),aI,U,U⟩ ?_;rintro ao ay al ⟨i,hi,aw,A,aU,rfl⟩;refine dw aU<|dD 6 U<|cd U (fun aO=> ?_) fun aO=> ?_;refine aM 6 U<|p (jh Ey U U ag<|bh.ok (ap.wk A)<|Hm ag)<|p (jZ CA U (U)<|Hl (ap.wk A) ag)<|e<|iA JM fun az ba a2 aL aE=>e<|ka DC U U U U aE (by simp) fun aj aK aF=> ?_;have Z:aC aj.heap az [str (rs.getD i jb).1,str (rs.getD i jb).2]:=⟨_,aF⟩
 have L:Wk al aj:=Md.trans' aL.md aK fun k a3 h=>by omega
 have a6:=aS _<|m9 (d:=jb) (show i < rs.length by omega);refine ar 5 U<|p (aH U<|Z.bj 0)<|ar 2 U<|gs (t:=50) U (fun ae=> ?_) fun ae=> ?_;exact ar 5 U<|p mv<|aA 16 U<|tr<|cg 2 U<|aW U<|⟨(congrArg bM<|uH (show i < rs.length by omega)<|HO ae).symm,A.trans L⟩
 refine ar 1 U<|cS U (aH U<|Z.bj 0)<|eg U U U<|aZ (zr _ 32 aj ag) U ?_;rintro v53 a0 ⟨rfl,J⟩;have aB:=Wk.B J Z;refine ar 3 U<|gb (t:=56) U (fun ai=> ?_) fun ai=> ?_;exact aA 16 U<|tr<|cg 2 U<|aW U<|⟨(congrArg bM<|uH (show i < rs.length by omega)<|HP<|nT ai).symm,(A.trans L).trans J⟩
 refine ar 1 U<|cS U (aH U<|aB.bj 1)<|eg U U U<|aZ (zr _ 32 a0 ag) U ?_;rintro v59 a9 ⟨rfl,au⟩;refine aQ 4 U<|cb U (fun ac=> ?_) fun ac=> ?_;exact bg 8 U<|tr<|cg 2 U<|aW U<|⟨(congrArg bM<|uH (show i < rs.length by omega)<|HQ<|nT ac).symm,((A.trans L).trans J).trans au⟩
 exact aM 4 U<|p (cY<|i+1)<|aA 2 U<|tn<|⟨_,ag,i+1,ag,(fun j av=>by rcases dU j i with h | h <;> first | exact aw j h | (rw [show j=i by omega]; exact HS ae (by simpa using ai)<|by simpa using ac)),(((A.trans L).trans J).trans au),U,U⟩
 exact bg 2 U<|fm<|cg 8 U<|aW U<|⟨(congrArg bM<|HN ag aV fun j av=>aw j ag).symm,A⟩
end Go.Hb
end
section
namespace Go.Hb
open Go.Hb.fD
structure gF (f:Nat→ab) (w:ah) (pA ms:Nat) (aa:Option aD) (n cA nx:Nat) (mk:List Nat):Prop where
 ao:aC w.heap pA [.slice aa n cA,.int .i64 nx,.slice (some ⟨ms,0,none⟩) n n]
 j1:aC w.heap ms (mk.map f)
 ne:pA≠ms
theorem gF.drew {f:Nat→ab} {w:ah} {E ms:Nat} {A:Option aD} {n C nx:Nat} {mk:List Nat} (h:gF f w E ms A n C nx mk):gF f w.drew E ms A n C nx mk:=⟨h.ao,h.j1,h.ne⟩
theorem yY {f:Nat→ab} {mk:List Nat} {i x:Nat} :(mk.map f).set (0 +i*1) (f x)=(mk.set i x).map f:=by rw [List.map_set,bS,nZ]
section
variable {a:List bH} {f nx:Nat} {mk:List Nat} {n:Int}
theorem AE (h:n≠nx) (A:¬(0≤n∧n < nx)):vs a (f+1) (nx,mk) n=none:=by
 rw [vm h,if_neg (fun e=>A ⟨e.1,e.2.1⟩)]
theorem Jc (h:n≠nx) (h0:0≤n) (C:n < nx):(vs a (f+1) (nx,mk) n).isSome=decide (((mk.getD n.toNat 0:Nat):Int)=2):=by
 rw [vm h];by_cases A:mk.getD n.toNat 0=2
 · rw [if_pos ⟨h0,C,A⟩,decide_eq_true ag]; rfl
 · rw [if_neg (fun e=>A e.2.2),decide_eq_false ag]; rfl
theorem Jd {s:Nat×List Nat} (h:n≠nx) (A:vs a (f+1) (nx,mk) n=some s):s=(nx,mk):=by
 rw [vm h] at A;split at A
 · cases A; rfl
 · cases A
end
set_option maxHeartbeats 1000000 in
theorem I9 (f:Nat) (a:List bH) (O:Option aD) (aa E ms:Nat) (w0:ah) (nx:Nat) (mk:List Nat) (n:Int) (w:ah) (bi:od w0.heap O a) (cn:w0.heap.size≤E) (hm:w0.heap.size≤ms) (aV:Wk w0 w) (I:gF iC w E ms O a.length aa nx mk) (cj:mk.length=a.length) (cm:nx≤a.length) (ci:a.length < f+nx) (hb:a.length≤1048576) (bT:∀ i,i < a.length→(bA a i).2.length≤1073741824):
 bf an 129 (bC [aJ E,.int .i64 n]) w (fun v w'=>v= .bool (vs a f (nx,mk) n).isSome∧Md (fun q=>q=E∨q=ms) w w'∧∀ s,vs a f (nx,mk) n=some s→gF iC w' E ms O a.length aa s.1 s.2):=by
 induction f generalizing nx mk n w with
 | zero=>omega
 | succ f ih=>
   have aY:∀ k,k < w0.heap.size→(k=E∨k=ms)→False:=fun k aT b8=>ag;have co:=I.ao.lt;have ck:=I.j1.lt;have al:=I.ne;obtain ⟨b7,bQ⟩:=I.ao;refine enter func129 U ntmps129 U<|bd 12 U<|p (aH U<|I.ao.ay 1)<|aQ 3 U<|cd U (fun aq=> ?_) fun aq=> ?_;refine aM 5 U<|gs (t:=16) U (fun bV=> ?_) fun bV=> ?_;refine ar 4 U<|cS U (aH U<|I.ao.ay 1)<|ar 3 U<|gs (t:=24) U (fun bX=> ?_) fun bX=> ?_;refine ar 3 U<|cS U (aH U<|I.ao.ay 2)<|ar 1 U<|cS U (ia ta U U ag)<|cS U (aH U (show _=some (cW .u8 ((mk.getD n.toNat 0:Nat):Int)) from CX I.j1 (i:=n.toNat) ag))<|aA 7 U<|aW U ?_;refine ⟨congrArg bM (Jc aq ag ag).symm,Md.refl _ _,fun s A=>by rw [Jd aq A]; exact I⟩;refine ar 9 U<|p aE<|aA 4 U<|aW U ?_;rw [AE aq ag];exact ⟨U,Md.refl _ _,fun s A=>by cases A⟩;refine ar 7 U<|p mv<|ar 9 U<|p aE<|aA 4 U<|aW U ?_;rw [AE aq ag];exact ⟨U,Md.refl _ _,fun s A=>by cases A⟩;obtain rfl :n=(nx:Int):=vD.1 aq;refine aM 9 U<|p (aH U<|I.ao.ay 0)<|aQ 4 U<|cd U (fun bR=> ?_) fun bR=> ?_;refine bg 7 U<|aW U ?_;rw [Jh rfl ag];exact ⟨U,Md.refl _ _,fun s A=>by cases A⟩;refine aM 7 U<|p (aH U<|I.ao.ay 1)<|p (cY<|nx+1)<|ar 2 U<|e<|fM pV U U U bQ (by simp) fun b4 bo bz=> ?_;have bl:aC b4.heap E [.slice O a.length aa,.int .i64 ((nx+1:Nat):Int),.slice (some ⟨ms,0,none⟩) a.length a.length]:=⟨_,bz⟩
   have b1:=bo.B I.j1 fun e=>al e.symm;obtain ⟨em,bO⟩:=b1;refine ar 7 U<|p (aH U<|bl.ay 2)<|ar 1 U<|p (ia ta U U ag)<|e<|fM xy U U U bO (by simp; omega) fun aK bp bB=> ?_;have b2:aC aK.heap ms ((mk.set nx 1).map iC):=by rw [← yY]; exact ⟨_,bB⟩
   have a0:gF iC aK E ms O a.length aa (nx+1) (mk.set nx 1):=⟨bp.B bl al,b2,al⟩
   have a4:Md (fun q=>q=E∨q=ms) w aK:=Md.trans (bo.mono fun k _ h=> .inl h)<|bp.mono fun k _ h=> .inr h;have aX:Wk w0 aK:=Md.trans' aV a4 aY;obtain ⟨ad,ae,bt,ax⟩:=bi.two (i:=nx) ag;have ca:=ax.wk aX;refine ar 7 U<|p (aH U<|a0.ao.ay 0)<|ar 1 U<|p (jh Ez U U ag<|bi.ok ag)<|p (jZ wA U (U)<|Ar aX bt)<|e<|iA AT fun ac cq cf bN bD=>e<|ka xx U U U U bD (by simp) fun bc bJ bF=> ?_;have bm:aC bc.heap ac [bM (bA a nx).1,.slice ad (bA a nx).2.length ae]:=⟨_,bF⟩
   have aN:Wk aK bc:=Md.trans' bN.md bJ fun k bq h=>by omega
   have bG:gF iC bc E ms O a.length aa (nx+1) (mk.set nx 1):=⟨aN.B a0.ao,aN.B a0.j1,al⟩
   have b9:=a4.size;refine ar 6 U<|p (aH U<|bm.ay 1)<|aQ 5 U<|lp (fun bh br au=> ∃ (k M:Nat) (J:List Nat),(k≤(bA a nx).2.length)∧(fP a f (nx+1) (mk.set nx 1) ((bA a nx).2.take k)=some (M,J))∧(gG<|(bA a nx).2.take k)∧(Wk w0 au)∧(Md (fun q=>q=E∨q=ms) w au)∧(gF iC au E ms O a.length aa M J)∧(aC (au).heap ac [bM (bA a nx).1,.slice ad (bA a nx).2.length ae])∧(Sl br [(0,aJ E),(1,.int .i64 (nx:Int)),(5,aJ ac),(62,.slice ad (bA a nx).2.length ae),(63,.int .i64 (bA a nx).2.length),(64,.int .i64 k)])∧((bA a nx).2.length - k=bh)) _ ⟨0,nx+1,mk.set nx 1,ag,U,List.Pairwise.nil,(Md.trans aX aN),(Md.trans' a4 aN fun k _ h=>h.elim),bG,bm,U,U⟩ ?_;rintro bh br au ⟨k,M,J,bq,ab,aS,aO,a2,az,ap,b3,rfl⟩;refine dw b3<|dD 6 U<|cd U (fun bS=> ?_) fun bS=> ?_;refine dY 5 U ?_;have ch:=bT nx ag;obtain ⟨⟨c,z⟩,hek⟩:∃ e,(bA a nx).2[k]? =some e:=⟨_,bW ag⟩
   obtain ⟨⟨aL,b5⟩,hep⟩:∃ e,(bA a nx).2[k - 1]? =some e:=⟨_,bW ag⟩
   have a6:=AH ab ag;simp only [vR] at a6;refine aM 2 U<|p (jh xV U U ag<|ax.ok ag)<|p (jZ CB U (U)<|Ar aO<|ax.two hek)<|e<|iA JN fun av cp ce bK bv=>ar 1 U<|e<|ka DE U U U U bv (by simp) fun aI bI bw=> ?_;have aU:aC aI.heap av [cW .u8 c.toNat,.int .i64 z]:=⟨_,bw⟩
   have L:Wk au aI:=Md.trans' bK.md bI fun k bq h=>by omega
   have bn:gF iC aI E ms O a.length aa M J:=⟨L.B az.ao,L.B az.j1,al⟩
   have a3:Md (fun q=>q=E∨q=ms) w aI:=Md.trans' a2 L fun k _ h=>h.elim;have cc:=a2.size;refine aQ 3 U ?_;have C:(fun w'=>Wk w0 w'∧aC w'.heap ac [bM (bA a nx).1,.slice ad (bA a nx).2.length ae]∧aC w'.heap av [cW .u8 c.toNat,.int .i64 z]) aI.drew:=⟨(Md.trans aO L).drew,L.B ap,aU⟩
   refine bu (fun w'=>Wk w0 w'∧aC w'.heap ac [bM (bA a nx).1,.slice ad (bA a nx).2.length ae]∧aC w'.heap av [cW .u8 c.toNat,.int .i64 z]) U wide C<|cI [0,1,2] U C<|kF (t:=71) U (fun bY=> ?_) fun bY=> ?_;refine cI [3] U C<|kG 4 U (fun w' Z=>aH U<|Z.2.1.ay 1) C<|cI [5] U C<|kG 6 U (fun _ _=>q4<|k - 1) C<|kG 7 U (fun _ _=>jh xV U U ag<|ax.ok ag) C<|cI [8] U C<|kG 9 U (fun w' Z=>aH U (show _=some (cW .u8 (aL.toNat:Int)) from (ax.wk Z.1).b (k - 1) (aL,b5) hep)) C<|cI [10] U C<|kG 11 U (fun w' Z=>aH U<|Z.2.2.ay 0) C<|cI [12,13,14] U C<|kF (t:=83) U (fun bZ=> ?_) fun bZ=> ?_;refine cI [15,16,17,18,19,20] U C<|hn ai<|cg 10 U<|tr<|cg 2 U<|aW U ?_;rw [Jg ag (Gy ag hek hep<|by show c.toNat≤aL.toNat; omega)];exact ⟨U,a3.drew,fun s A=>by cases A⟩;refine cI [15,16] U C<|kG 17 U (fun w' Z=>aH U<|Z.2.2.ay 1) C<|tA 18 U ai U U U<|aZ (ih M J z _ (Md.trans aO L).drew (gF.drew bn) ag ag ag) U ?_;rintro v87 am ⟨rfl,V,a9⟩;have aj:Md (fun q=>q=E∨q=ms) w am:=Md.trans a3<|Md.mU V;have aw:Wk w0 am:=Md.trans' aV aj aY;have aB:(fun w'=>Wk w0 w'∧aC w'.heap ac [bM (bA a nx).1,.slice ad (bA a nx).2.length ae]∧aC w'.heap av [cW .u8 c.toNat,.int .i64 z]) am:=⟨aw,V.B (L.B ap) (fun e=>by omega),V.B aU fun e=>by omega⟩
   refine ⟨aB,?_⟩;refine cI [19,20] U aB<|hn ai<|iK 1 U<|cb U (fun ak=> ?_) fun ak=> ?_;have a7:vs a f (M,J) z=none:=by simpa using ak
   refine bg 8 U<|tr<|cg 2 U<|aW U ?_;rw [AF (k:=k+1) ag (by rw [rn ab hek]; exact a7)];exact ⟨U,aj,fun s A=>by cases A⟩;obtain ⟨aG,aF⟩:∃ s,vs a f (M,J) z=some s:=pL.1<|by simpa using ak
   exact bg 7 U<|tn<|⟨_,ag,k+1,aG.1,aG.2,ag,(by rw [rn ab hek]; exact aF),(zB aS hek fun q h0 a8=>by rw [hep] at a8; cases a8; show aL.toNat < c.toNat; omega),aw,aj,(a9 _ aF),(V.B (L.B ap) fun e=>by omega),U,U⟩
   refine cI [3,4,5,6,7,8,9,10,11,12,13] U C<|lI 14 U (mv) C<|cI [15,16] U C<|kG 17 U (fun w' Z=>aH U<|Z.2.2.ay 1) C<|tA 18 U ai U U U<|aZ (ih M J z _ (Md.trans aO L).drew (gF.drew bn) ag ag ag) U ?_;rintro v87 am ⟨rfl,V,a9⟩;have aj:Md (fun q=>q=E∨q=ms) w am:=Md.trans a3<|Md.mU V;have aw:Wk w0 am:=Md.trans' aV aj aY;have aB:(fun w'=>Wk w0 w'∧aC w'.heap ac [bM (bA a nx).1,.slice ad (bA a nx).2.length ae]∧aC w'.heap av [cW .u8 c.toNat,.int .i64 z]) am:=⟨aw,V.B (L.B ap) (fun e=>by omega),V.B aU fun e=>by omega⟩
   refine ⟨aB,?_⟩;refine cI [19,20] U aB<|hn ai<|iK 1 U<|cb U (fun ak=> ?_) fun ak=> ?_;have a7:vs a f (M,J) z=none:=by simpa using ak
   refine bg 8 U<|tr<|cg 2 U<|aW U ?_;rw [AF (k:=k+1) ag (by rw [rn ab hek]; exact a7)];exact ⟨U,aj,fun s A=>by cases A⟩;obtain ⟨aG,aF⟩:∃ s,vs a f (M,J) z=some s:=pL.1<|by simpa using ak
   exact bg 7 U<|tn<|⟨_,ag,k+1,aG.1,aG.2,ag,(by rw [rn ab hek]; exact aF),(zB aS hek fun q h0 a8=>by omega),aw,aj,(a9 _ aF),(V.B (L.B ap) fun e=>by omega),U,U⟩
   refine bg 2 U<|fm<|iK 3 U ?_;obtain ⟨b6,bP⟩:=az.j1;rw [show k=(bA a nx).2.length by omega,vV] at ab aS;have a6:=AH ab ag;simp only [vR] at a6;have ba:=Je ag aS ab;refine aM 4 U<|p (aH U<|az.ao.ay 2)<|ar 1 U<|p (ia ta U U ag)<|e<|fM xy U U U bP (by simp; omega) fun bb a1 bx=> ?_;have b0:aC bb.heap ms ((J.set nx 2).map iC):=by rw [← yY]; exact ⟨_,bx⟩
   have aP:gF iC bb E ms O a.length aa M (J.set nx 2):=⟨a1.B az.ao al,b0,al⟩
   have aR:Md (fun q=>q=E∨q=ms) w bb:=Md.trans a2<|a1.mono fun k _ h=> .inr h;have bj:=a1.B ap fun e=>by omega
   refine ar 5 U<|p (aH U<|bj.ay 1)<|ar 3 U<|gs (t:=101) U (fun bU=> ?_) fun bU=> ?_;refine ar 3 U<|p mv<|ar 7 U<|p aE<|aA 3 U<|aW U ?_;rw [ba,if_pos (FO ag)];exact ⟨U,aR,fun s A=>by cases A; exact aP⟩;refine ar 1 U<|cS U (aH U<|bj.ay 0)<|ar 2 U<|gb (t:=105) U (fun a5=> ?_) fun a5=> ?_;refine ar 7 U<|p aE<|aA 3 U<|aW U ?_;rw [ba,if_pos (FN a5)];exact ⟨U,aR,fun s A=>by cases A; exact aP⟩;refine ar 3 U<|cS U (aH U<|aP.ao.ay 0)<|aA 7 U<|aW U ?_;rw [ba,FM ag a5];by_cases aT:a.length=1;rw [if_pos (decide_eq_true aT)];exact ⟨congrArg bM (decide_eq_true ag),aR,fun s A=>by cases A; exact aP⟩;rw [if_neg (by simpa using aT)];exact ⟨congrArg bM (decide_eq_false ag),aR,fun s A=>by cases A⟩
def q7 (a:List bH):Int:=if shaped a=true then 0 else 190
theorem oZ {a:List bH} (h:shaped a=false):q7 a=190:=if_neg<|by rw [h]; exact dn
theorem zT {a:List bH} (h:shaped a=true):q7 a=0:=if_pos h
set_option maxHeartbeats 1000000 in
theorem HY (a:List bH) (A:Option aD) (E:Nat) (w:ah) (ac:od w.heap A a) (ax:a.length≤140737488355328) (ap:∀ i,i < a.length→(bA a i).2.length≤1073741824):
 bf an 79 (bC [.slice A a.length E]) w (fun v w'=>v= .int .i64 (q7 a)∧Wk w w'):=by
 refine enter func79 U ntmps79 U<|bd 12 U<|gs (t:=7) U (fun aq=> ?_) fun aq=> ?_;exact aA 14 U<|aW U<|⟨iv (oZ<|zU ag).symm,Md.refl _ _⟩
 refine aQ 6 U<|cd U (fun al=> ?_) fun al=> ?_;exact bg 7 U<|aW U<|⟨iv (oZ<|zU ag).symm,Md.refl _ _⟩
 refine aM 7 U<|e<|j1 (zv:= .int .u8 0) uR U U U U ag (by unfold maxLen; omega) fun C aw aB J au=> ?_;have ae:aC aw.heap C ((dT a.length 0).map iC):=by rw [List.map_replicate]; exact GN<|au _<|aO _
 refine p (jJ (ps:= [(0,.slice A a.length E),(2,.slice (some ⟨C,0,none⟩) a.length a.length)]) (L:= [.slice A a.length E,.int .i64 0,.slice (some ⟨C,0,none⟩) a.length a.length]) Ik U<|U)<|e<|sF U fun V ab az aa ad=> ?_;have aj:gF iC ab V C A a.length E 0 (dT a.length 0):=⟨ad,aa.md.B ae,by have :=J.size; omega⟩
 have Z:Wk w ab:=Md.trans J.md aa.md;have aF:=J.md.size;refine ar 7 U<|e<|aZ (I9 (a.length+1) a A E V C w 0 (dT a.length 0) 0 _ ac ag ag Z aj (by simp) ag ag ag ap) U ?_;rintro aI av ⟨rfl,ak,bu⟩;have I:Wk w av:=Md.trans' Z ak fun k aE h=>by omega
 refine ar 2 U<|gb (t:=21) U (fun M=> ?_) fun M=> ?_;have hn:vs a (a.length+1) (0,dT a.length 0) 0=none:=by simpa using M
 exact aA 18 U<|aW U<|⟨iv (oZ<|HZ hn).symm,I⟩
 obtain ⟨aG,O⟩:∃ s,vs a (a.length+1) (0,dT a.length 0) 0=some s:=pL.1<|by simpa using M
 have ai:=bu _ O;refine ar 3 U<|cS U (aH U<|ai.ao.ay 1)<|aQ 6 U<|cd U (fun am=> ?_) fun am=> ?_;exact bg 7 U<|aW U<|⟨iv (oZ<|by rw [zV ag ag O]; exact decide_eq_false ag).symm,I⟩
 exact bg 8 U<|aW U<|⟨iv (zT<|by rw [zV ag ag O]; exact decide_eq_true ag).symm,I⟩
end Go.Hb
end
section
namespace Go.Hb.sj
open Go.Hb.fD
theorem IJ {s:List UInt8} {i:Nat} (h:i < s.length):(s.drop i).take 1= [s.getD i 0]:=by
 rw [drop_cons 0 h]; rfl
def oY (l:List (Bool×ab)):List ab:=l.flatMap fun q=> [.bool q.1,q.2]
def lA (l:List (UInt8×Int)):List ab:=l.flatMap fun e=> [.int .u8 e.1.toNat,.int .i64 e.2]
theorem Tg.tX {F:Nat→Prop} {w w':ah} {B e n:Nat} {v:ab} {xs:List ab} (h:Tg w B e n v xs) (hm:Md F w w') (I:∀ k,F k→B≤k→∀ cur z,w.heap[k]?≠some (.cells cur e z)):Tg w' B e n v xs:=by
 obtain ⟨a,C,rfl,E,h | ⟨b,cur,z,rfl,hb,A,L⟩⟩:=h
 · exact ⟨a,C,U,E,.inl h⟩
 · exact ⟨_,C,U,E,.inr ⟨b,cur,z,U,hb,by rw [hm.cD b (bI.1 A).1 (fun J=>I b J hb cur z A)]; exact A,L⟩⟩
theorem Gv {w:ah} {k:Nat} (h:w.heap.size≤k) (cur:Array ab) (e:Nat) (z:Nat×Nat):w.heap[k]?≠some (.cells cur e z):=by
 rw [Array.getElem?_eq_none h]; intro h; cases h
def fC (w:ah) (B:Nat) (A:List (Bool×ab)) (l:List bH):Prop :=A.length=l.length∧∀ (i:Nat) q e,A[i]? =some q→l[i]? =some e→q.1=e.1∧Tg w B 200 e.2.length q.2 (lA e.2)
theorem fC.nil (w:ah) (B:Nat):fC w B [] []:=⟨rfl,fun i q r A=>by simp at A⟩
theorem fC.md {F:Nat→Prop} {w w':ah} {B:Nat} {E:List (Bool×ab)} {l:List bH} (h:fC w B E l) (hm:Md F w w') (I:∀ k,F k→B≤k→∀ cur z,w.heap[k]?≠some (.cells cur 200 z)):fC w' B E l:=
 ⟨h.1,fun i q r A C=>⟨(h.2 i q r A C).1,Tg.tX (h.2 i q r A C).2 hm I⟩⟩
theorem fC.wk {w w':ah} {B:Nat} {A:List (Bool×ab)} {l:List bH} (h:fC w B A l) (hm:Wk w w'):fC w' B A l:=h.md hm fun _ C=>C.elim
theorem fC.snoc {w:ah} {B:Nat} {E:List (Bool×ab)} {l:List bH} {v:ab} {e:bH} (ha:fC w B E l) (J:Tg w B 200 e.2.length v (lA e.2)):fC w B (E++ [(e.1,v)]) (l++ [e]):=by
 refine ⟨by rw [bK,bK,ha.1]; rfl,fun i q' r' A C=> ?_⟩;have I:=ha.1;by_cases hi:i < E.length
 · rw [fy hi] at A;rw [fy ag] at C;exact ha.2 i q' r' A C
 · rw [fA ag] at A;rw [fA ag,← I] at C;cases hj:i - E.length with
   | zero=>rw [hj] at A C; cases A; cases C; exact ⟨rfl,J⟩
   | succ j=>rw [hj] at A; simp at A
def eZ (w:ah) (B:Nat) (v:ab) (l:List bH):Prop := ∃ A,Tg w B 151 l.length v (oY A)∧fC w B A l
theorem eZ.md {F:Nat→Prop} {w w':ah} {B:Nat} {v:ab} {l:List bH} (h:eZ w B v l) (hm:Md F w w') (C:∀ k,F k→B≤k→∀ cur z,w.heap[k]?≠some (.cells cur 151 z)∧w.heap[k]?≠some (.cells cur 200 z)):eZ w' B v l:=by
 obtain ⟨J,E,I⟩:=h;exact ⟨J,Tg.tX E hm fun k A hb cur z=>(C k A hb cur z).1,I.md hm fun k A hb cur z=>(C k A hb cur z).2⟩
theorem eZ.wk {w w':ah} {B:Nat} {v:ab} {l:List bH} (h:eZ w B v l) (hm:Wk w w'):eZ w' B v l:=h.md hm fun _ A=>A.elim
theorem eZ.mono {w:ah} {B B':Nat} {v:ab} {l:List bH} (h:eZ w B v l) (C:B'≤B):eZ w B' v l:=by
 obtain ⟨L,I,J,A⟩:=h;exact ⟨L,I.mono C,J,fun i q e E he=>⟨(A i q e E he).1,(A i q e E he).2.mono C⟩⟩
theorem eZ.rf {w:ah} {B:Nat} {v:ab} {l:List bH} (h:eZ w B v l):∃ A cc,v= .slice A l.length cc∧l.length≤cc∧od w.heap A l:=by
 obtain ⟨O,E,ae,aa⟩:=h;obtain ⟨A,cc,rfl⟩:=E.slice;obtain ⟨ac,I⟩:=E.xi;refine ⟨A,cc,U,ac,fun h0=>bh.ok I (tj (f:=fun q:Bool×ab=> [bM q.1,q.2]) (m:=2) (fun _=>rfl) aP ag),fun i hi=> ?_⟩;have L:O[i]? =some (O[i]'ag):=bW ag;have ad:l[i]? =some (bA l i):=by
  unfold bA;rw [cH,bW hi]; rfl
 obtain ⟨g1,g2⟩:=aa i _ _ L ad;obtain ⟨V,Z,M⟩:=g2.slice;have g3:=g2;rw [M] at g3;obtain ⟨_,C⟩:=g3.xi;have J:=qg (f:=fun q:Bool×ab=> [bM q.1,q.2]) (m:=2) (fun _=>rfl) I L;refine ⟨V,Z,by rw [J 0 ag,g1]; rfl,by rw [J 1 ag,M]; rfl,fun h0=>bh.ok C (tj (f:=fun e:UInt8×Int=> [cW .u8 e.1.toNat,.int .i64 e.2]) (m:=2) (fun _=>rfl) aP h0),fun k e he=> ?_,fun k e he=> ?_⟩
 · exact qg (f:=fun e:UInt8×Int=> [cW .u8 e.1.toNat,.int .i64 e.2]) (m:=2) (fun _=>rfl) C he 0 ag
 · exact qg (f:=fun e:UInt8×Int=> [cW .u8 e.1.toNat,.int .i64 e.2]) (m:=2) (fun _=>rfl) C he 1 ag
theorem HV (A:List (Bool×ab)) (q:Bool×ab):oY (A++ [q])=oY A++ [.bool q.1,q.2]:=by simp [oY]
theorem Ej (es:List (UInt8×Int)) (e:UInt8×Int):lA (es++ [e])=lA es++ [.int .u8 e.1.toNat,.int .i64 e.2]:=by simp [lA]
section
variable {s:List UInt8} {n a e t p v k:Nat} {es:List (UInt8×Int)} {l:List bH}
theorem Ek (h:s.length≤a):eQ s n a= .error 60:=by unfold eQ; rw [if_pos h]
theorem El (h:¬s.length≤a) (A:bo s (a+1)= .error e):eQ s n a= .error e:=by unfold eQ; rw [if_neg h,A]
theorem Em (h:¬s.length≤a) (A:bo s (a+1)= .ok (t,p)) (C:n≤t):eQ s n a= .error 190:=by unfold eQ; rw [if_neg h,A]; exact if_pos C
theorem En (h:¬s.length≤a) (A:bo s (a+1)= .ok (t,p)) (C:¬n≤t):eQ s n a= .ok ((s.getD a 0,(t:Int)),p):=by unfold eQ; rw [if_neg h,A]; exact if_neg C
theorem Ir (h:bo s a= .error e):eV s n a= .error e:=by unfold eV; rw [h]
theorem Is (h:bo s a= .ok (v,p)) (A:256 < v / 2):eV s n a= .error 190:=by unfold eV; rw [h]; exact if_pos A
theorem It (h:bo s a= .ok (v,p)) (A:¬256 < v / 2) (C:cr (eQ s n) (v / 2) p= .error e):eV s n a= .error e:=by unfold eV; rw [h]; simp only; rw [if_neg A,C]
theorem Iu (h:bo s a= .ok (v,p)) (A:¬256 < v / 2) (C:cr (eQ s n) (v / 2) p= .ok (es,t)):eV s n a= .ok ((decide (v % 2=1),es),t):=by unfold eV; rw [h]; simp only; rw [if_neg A,C]
theorem HB (h:bo s a= .error e):dS s a= .error e:=by unfold dS; rw [h]
theorem zL (h:bo s a= .ok (n,p)) (A:n=0∨1048576 < n):dS s a= .error 190:=by unfold dS; rw [h]; exact if_pos A
theorem uD (h:bo s a= .ok (n,p)) (A:¬(n=0∨1048576 < n)) (C:cr (eV s n) n p= .error e):dS s a= .error e:=by unfold dS; rw [h]; simp only; rw [if_neg A,C]
theorem HC (h:bo s a= .ok (n,p)) (A:¬(n=0∨1048576 < n)) (C:cr (eV s n) n p= .ok (l,t)) (E:shaped l=false):dS s a= .error 190:=by unfold dS; rw [h]; simp only; rw [if_neg A,C]; simp only; rw [E]; rfl
theorem HE (h:bo s a= .ok (n,p)) (A:¬(n=0∨1048576 < n)) (C:cr (eV s n) n p= .ok (l,t)) (E:shaped l=true):dS s a= .ok (l,t):=by unfold dS; rw [h]; simp only; rw [if_neg A,C]; simp only; rw [E]; rfl
end
theorem HI (rb:Nat) (s:List UInt8) (a:Nat) (w:ah) (a2:aC w.heap rb [str s,.int .i64 (a:Nat)]) (aJ:s.length≤1048576) (ha:a≤s.length):
 lr an 46 (bC [.pointer (some ⟨rb,0,none⟩)]) w (fun v w'=> ∃ l p,dS s a= .ok (l,p)∧eZ w' w.heap.size v l∧aC w'.heap rb [str s,.int .i64 (p:Nat)]∧Md (fun k=>k=rb) w w') (fun c w'=> ∃ e,dS s a= .error e∧c=jS e∧Md (fun k=>k=rb) w w'):=by
 have c4:=a2.lt;refine ov func46 U ntmps46 U<|bd 7 U<|p mv<|eP U (dL mN (ni rb s (a) w a2 aJ<|ha) U fun v10 bo bW=> ?_) fun c w' A σ' M=>by obtain ⟨e,he,aq,al⟩:=A; exact ⟨e,HB he,aq,al⟩
 obtain ⟨n,aX,V,rfl,bx,aO⟩:=bW;obtain ⟨cP,cU,cX⟩:=jt V;refine aQ 3 U ?_;refine o3 (fun bp aY=> ∃ (cx:Unit),(¬(n=0∨1048576 < n))∧(aC aY.heap rb [str s,.int .i64 (aX:Nat)])∧(Md (fun k=>k=rb) w aY)∧(Sl bp [(0,.pointer (some ⟨rb,0,none⟩)),(3,.int .u64 (n:Nat))])) ?_ ?_;refine bd 1 U<|p mv<|ar 3 U<|gs (t:=14) U (fun b9=> ?_) fun b9=> ?_;refine ar 3 U<|eP U (dL iD (iN _ _ _ bo) U fun cy cA aT=> ?_) fun c w' A σ' M=>⟨190,zL V (by have :=of_decide_eq_false A.2.1; omega),A.1,by rw [A.2.2]; exact aO⟩
 obtain ⟨rfl,bm,rfl⟩:=aT;have bm:=of_decide_eq_true bm;exact aA 1 U<|tn<|⟨(),ag,bx,aO,U⟩
 refine ar 3 U<|eP U (dL iD (iN _ _ _ bo) U fun cy cA aT=> ?_) fun c w' A σ' M=>⟨190,zL V ag,A.1,by rw [A.2.2]; exact aO⟩
 exact absurd aT.2.1 aP;rintro bp aY ⟨cx,au,bQ,bV,ch⟩;refine dw ch<|dY 13 U<|lp (fun aj bq J=> ∃ (k:Nat) (l:List bH) (ae:List (Bool×ab)) (aa:ab) (q:Nat),(k≤n)∧(cr (eV s n) k aX= .ok (l,q))∧(q≤s.length)∧(dN J w.heap.size 151 2 aa ae.length<|oY ae)∧(fC J w.heap.size ae l)∧(aC J.heap rb [str s,.int .i64 (q:Nat)])∧(Md (fun k=>k=rb) w J)∧(Sl bq [(0,.pointer (some ⟨rb,0,none⟩)),(3,.int .u64 (n:Nat)),(4,aa),(19,.int .u64 (n:Nat)),(20,.int .u64 (k:Nat))])∧(n - k=aj)) _ ⟨0,[],[],.slice none 0 0,aX,ag,U,ag,(jD _ _ _ _),(fC.nil _ _),bQ,bV,U,U⟩ ?_;rintro aj bq J ⟨k,l,ae,aa,q,C,I,c2,aI,bu,a3,ad,ci,rfl⟩;refine dw ci<|dD 6 U<|cd U (fun b6=> ?_) fun b6=> ?_;refine aM 7 U<|eP U (dL mN (ni rb s (q) J a3 aJ ag) U fun dh cB bY=> ?_) fun c w' A σ' M=>by obtain ⟨e,he,aq,al⟩:=A; exact ⟨e,uD V au (lL I (Ir he) ag),aq,ad.trans al⟩
 obtain ⟨v0,p1,aF,rfl,bA,az⟩:=bY;obtain ⟨cQ,cV,cY⟩:=jt aF;refine ar 7 U<|p (qu U U ag<|nL ag)<|ar 1 U<|eP U (dL iD (iN _ _ _ cB) U fun v28 cC bZ=> ?_) fun c w' A σ' M=>⟨190,uD V au (lL I (Is aF<|by have :=of_decide_eq_false A.2.1; omega) ag),A.1,by rw [A.2.2]; exact ad.trans az⟩
 obtain ⟨rfl,cq,rfl⟩:=bZ;have bf:¬256 < v0 / 2:=by have :=of_decide_eq_true cq; omega
 have bU:=ad.trans az;refine ar 5 U<|p (rm U U ag)<|ar 1 U<|p (jJ (ps:= [(0,.bool (decide ((v0:Int) % 2=1)))]) (L:= [.bool (decide ((v0:Int) % 2=1)),.slice none 0 0]) Ii U<|U)<|e<|iA AT fun ac dt cL bb bJ=> ?_;have dc:=bb.size;refine e<|ka xx U U U U bJ (by simp) fun ai ba bN=> ?_;have bO:aC ai.heap ac [.bool (decide ((v0:Int) % 2=1)),.slice none 0 0]:=⟨_,bN⟩
 have ax:Wk cC ai:=bb.md.trans' ba fun k C h=>by omega
 have bP:=Wk.B ax bA;have dg:=ad.size;have c7:=az.size;have dd:=ax.size;have de:=ba.size;have bT:Md (fun k=>k=rb) w ai:=bU.trans<|ax.mono fun _ _ h=>h.elim;refine ar 6 U<|p (qu U U ag<|nL ag)<|aQ 4 U<|lp (fun aj br Z=> ∃ (j:Nat) (es:List (UInt8×Int)) (aN:ab) (E:Nat),(j≤v0 / 2)∧(cr (eQ s n) j p1= .ok (es,E))∧(E≤s.length)∧(dN Z ai.heap.size 200 2 aN es.length<|lA es)∧(aC Z.heap rb [str s,.int .i64 (E:Nat)])∧(aC Z.heap ac [.bool (decide ((v0:Int) % 2=1)),aN])∧(Md (fun k=>k=rb∨k=ac) ai Z)∧(Sl br [(0,.pointer (some ⟨rb,0,none⟩)),(3,.int .u64 (n:Nat)),(4,aa),(5,.int .u64 (v0:Nat)),(6,.pointer (some ⟨ac,0,none⟩)),(19,.int .u64 (n:Nat)),(20,.int .u64 (k:Nat)),(34,.int .u64 ((v0 / 2:Nat):Int)),(35,.int .u64 (j:Nat))])∧(v0 / 2 - j=aj)) _ ⟨0,[],.slice none 0 0,p1,ag,U,ag,(jD _ _ _ _),bP,bO,(Md.refl _ _),U,U⟩ ?_;rintro aj br Z ⟨j,es,aN,E,cT,aG,c3,av,a4,a5,ak,cj,rfl⟩;refine dw cj ?_;have cN:=ji aG;have aV:∀ e,eQ s n E= .error e→j < v0 / 2→dS s a= .error e:=fun e he ca=>uD V au<|lL I (It aF bf<|lL aG he ca) ag;have ay:Md (fun k=>k=rb) w Z:=bT.trans' ak fun k C h=>by rcases h with h | h; exact h; omega
 refine dD 6 U<|cd U (fun b7=> ?_) fun b7=> ?_;refine aM 7 U<|eP U (dL xd (Ak rb s E 1 Z a4 aJ ag ag) U fun di cD b0=> ?_) fun c w' A σ' M=>⟨60,aV _ (Ek ag) ag,A.2.1,ay.trans A.2.2⟩
 obtain ⟨c6,bi,bB,aS⟩:=b0;rw [IJ ag] at bi;subst bi;refine p (yv 0 u9 U U<|by simp)<|ar 6 U<|eP U (dL mN (ni rb s (E+1) cD bB aJ ag) U fun dj cE b1=> ?_) fun c w' A σ' M=>by obtain ⟨e,he,aq,al⟩:=A; exact ⟨e,aV _ (El ag he) ag,aq,(ay.trans aS).trans al⟩
 obtain ⟨to,cw,aU,rfl,bD,a9⟩:=b1;obtain ⟨cS,cW,cZ⟩:=jt aU;refine ar 9 U<|eP U (dL iD (iN _ _ _ cE) U fun v46 dp b2=> ?_) fun c w' A σ' M=>⟨190,aV _ (Em ag aU<|by have :=of_decide_eq_false A.2.1; omega) ag,A.1,by rw [A.2.2]; exact (ay.trans aS).trans a9⟩
 obtain ⟨rfl,cs,rfl⟩:=b2;have cp:¬n≤to:=by have :=of_decide_eq_true cs; omega
 have aB:=aS.trans a9;have a6:=aB.B a5 fun h=>by omega
 have cv:=ak.size;have c9:=aB.size;refine ar 4 U<|p (aH U<|a6.bj 1)<|ar 2 U<|p (pU u3 vi U<|mc ag)<|p (jJ (ps:= [(0,.int .u8 (s.getD E 0).toNat),(1,.int .i64 (to:Nat))]) (L:= [.int .u8 (s.getD E 0).toNat,.int .i64 (to:Nat)]) Ij U<|U)<|e<|sE z6 U U U fun cH dq cJ ao bF=> ?_;have da:=ao.size;have cg:=dk (cR av aB fun k C h=>by have :=dF av C; omega) ao.md;refine e<|ap z6 (cg) U ag U (bh.j3 bF) (U) (U) ag ag fun dl dr bc aD ct b8=> ?_;have ct:=aD.size;have aK:∀ k,aN.ownBlock=some k→ai.heap.size≤k:=fun k h=>(dF av h).1;have bS:=aD.B (Wk.B ao.md a6) fun h=>by have :=aK ac h; omega
 have bG:=aD.B (Wk.B ao.md bD) fun h=>by have :=aK rb h; omega
 obtain ⟨bt,bw,rfl⟩:=iP bc;refine ar 1 U<|e<|st DD U U (U) (bS) (by simp) fun dv aR bz=> ?_;have bR:=aR.B bG fun h=>by omega
 exact aA 7 U<|tn<|⟨_,ag,j+1,es++ [(s.getD E 0,(to:Int))],.slice bt (es.length+1) bw,cw,ag,(qs aG<|En ag aU cp),ag,(by rw [bK,Ej]; exact cR bc aR fun k C h=>by rcases b8 k C with a1 | a1; exact absurd (aK k a1) ag; omega),bR,bz,((((ak.trans<|aB.mono fun _ _ h=> .inl h).trans<|ao.md.mono fun _ _ h=>h.elim).trans' aD fun k C h=>by have :=aK k h; omega).trans<|aR.mono fun _ _ h=> .inr h),U,U⟩
 refine bg 2 U<|te _<|iK 2 U ?_;obtain ⟨a0,ce,rfl⟩:=iP av;obtain rfl :j=v0 / 2:=ag;have c0:=ji I;have c5:=bu.1;have co:=Iu aF bf aG;have cv:=ak.size;have a7:Md (fun k=>k=rb∨k=ac) J Z:=((az.mono fun k _ h=> .inl h).trans<|ax.mono fun _ _ h=>h.elim).trans ak;have aW:=cR aI a7 fun k C h=>by have :=dF aI C; omega
 have cn:=bu.md a7 (fun k C hb=>by
  rcases C with C | C;omega;exact fun cur z=>Gv ag cur _ z)
 refine aM 1 U<|p (oN (aa) U)<|p (jZ wA U (U) fun j _=>a5.bj j)<|e<|sE z8 U U U fun cI ds cK O bI=> ?_;have db:=O.size;refine e<|ap z8 (dk aW O.md) U ag U (bh.j3 bI) (U) (U) ag ag fun cz cF cf am cu cO=> ?_;have cu:=am.size;have bl:∀ k,aa.ownBlock=some k→w.heap.size≤k:=fun k h=>(dF aI h).1;have bM:=am.B (Wk.B O.md a4) fun h=>by have :=bl rb h; omega
 have b5:Tg cF w.heap.size 200 es.length (.slice a0 es.length ce) (lA es):=Tg.tX (((Tg.zd av).mono ag).wk O.md) am fun k C _=>uo (dk aW O.md) aP k C;have cm:=(cn.wk O.md).md am fun k C _=>uo (dk aW O.md) aP k C;exact p aE<|aA 7 U<|tn<|⟨_,ag,k+1,l++ [(decide (v0 % 2=1),es)],ae++ [(decide ((v0:Int) % 2=1),.slice a0 es.length ce)],cz,E,ag,(qs I co),ag,(by rw [bK,HV]; exact cf),(by rw [show decide ((v0:Int) % 2=1)=decide (v0 % 2=1) from decide_eq_decide.2 ag] at*; exact fC.snoc (e:=(decide (v0 % 2=1),es)) cm b5),bM,((ay.trans<|O.md.mono fun _ _ h=>h.elim).trans' am fun k C h=>by have :=bl k h; omega),U,U⟩
 refine bg 2 U<|te _<|iK 3 U ?_;obtain rfl :k=n:=ag;have a8:eZ J w.heap.size aa l:=⟨ae,by have h:=Tg.zd aI; rw [bu.1] at h; exact h,bu⟩
 obtain ⟨bv,cc,rfl,cM,b4⟩:=a8.rf;have c1:=ji I;have cb:∀ x∈l,x.2.length≤256:=fun x aL=>(oG (R:=fun p=>p≤s.length) (S:=fun x:bH=>x.2.length≤256) (fun p x q' hr aL=>⟨(uT aL).2.1,(uT aL).2.2.1⟩) ag I).2 x aL;refine aM 3 U<|e<|aZ (HY l bv cc J b4 ag fun i hi=>bX (cb _<|m9 (d:=dI) hi) aP) U ?_;rintro dm cG ⟨rfl,aw⟩;refine ar 1 U ?_;refine eP U (dL iD (iN _ _ _ cG) U fun dn du b3=> ?_) (fun c w' A σ' M=>⟨190,HC V au I (by
  cases h:shaped l;rfl;exact absurd (show q7 l=0 from zT h) (of_decide_eq_false A.2.1)),A.1,by rw [A.2.2]; exact ad.trans (aw.mono fun _ _ h=>h.elim)⟩)
 obtain ⟨rfl,bn,rfl⟩:=b3;have ck:shaped l=true :=by
  cases h:shaped l;rw [oZ h] at bn; exact absurd (of_decide_eq_true bn) aP;rfl
 exact aA 9 U<|oy<|f1 U U<|⟨l,q,HE V au I ck,a8.wk aw,Wk.B aw a3,ad.trans<|aw.mono fun _ _ h=>h.elim⟩
end Go.Hb.sj
end
