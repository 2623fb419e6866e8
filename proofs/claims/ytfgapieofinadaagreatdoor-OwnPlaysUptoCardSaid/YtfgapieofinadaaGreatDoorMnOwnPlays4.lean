/-
  Walks and plain laws that the law rests on, laid together. No conditions but those that each theorem names.
-/
import Derived.Test.YtfgapieofinadaaGreatDoorMnOwnPlays3
set_option linter.unusedVariables false
set_option maxRecDepth 100000000
set_option maxHeartbeats 1000000
open Array renaming getElem?_eq_some_iff→cx
open BitVec renaming ofInt→j1,ofInt_natCast→Il,toNat_ofNat→Im
open Bool renaming and_eq_true→bP,noConfusion→dS,or_eq_true→lO
open Classical renaming not_not→mJ
open Go renaming Addr→aW,Operand→bu,Program→av,TypeId→au,Value→ah,World→ai
open Go.Calls renaming mono→jy
open Go.IntKind renaming u64→qp,u8→sK
open Go.Proofs.Tryz renaming prog→aq
open Go.Value renaming bool→bB,func→qw,int→bh,oneCell'→lh,ownBlock→dL,pointer→cZ,slice→ff,tuple→kB
open Go.Value.slice renaming injEq→mO
open Go.World renaming ownsRow→b9,ownsRow_nil→eL
open List renaming append_assoc→iF,drop_eq_nil_of_le→iY,drop_take→I4,eq_nil_of_length_eq_zero→j5,filter_nil→I7,foldlM_append→Ja,foldlM_cons→uT,foldlM_nil→uU,getD_cons_zero→oP,getD_eq_getElem?_getD→cQ,getElem?_drop→kD,getElem?_eq_getElem→cr,getElem?_eq_some_iff→dt,getElem?_map→gy,getElem_take→yv,length_append→bo,length_cons→cg,length_drop→gh,length_mergeSort→Jd,length_set→qz,length_singleton→dE,length_take→bY,map_cons→eS,map_replicate→Jg,mem_append→dz,mem_cons→ej,mem_filter→yy,mem_iff_getElem→Jk,mem_iff_getElem?→Jl,mem_singleton→fv,nodup_append→yB,nodup_nil→yC,not_mem_nil→B6,pairwise_cons→yD,pairwise_iff_getElem→Jn,replicate→eM,sum_cons→B7,takeWhile_cons→Jr,take_add_one→Jt,take_length→yE,take_of_length_le→ja,take_succ_eq_append_getElem→Jv,toArray→bd
open List.cons renaming injEq→j4
open Nat renaming add_assoc→iG,add_zero→lT,blt→ba,le_refl→bf,le_trans→cR,lt_or_ge→dM,min_eq_left→sQ,mod_eq_of_lt→Ca,mul_comm→u7,mul_le_mul_left→JB,mul_one→nN,pow_le_pow_right→sR,pow_succ→yH,zero_add→du
open Option renaming bind_eq_bind→vg,bind_eq_some_iff→qC,getD_some→jD,isSome_iff_exists→oV,map_eq_some_iff→il,pure_def→vh,toList_some→JF
open Option.some renaming inj→gJ,injEq→bR
open Prod renaming fst→dj
open Prod.mk renaming injEq→kF
open UInt8 renaming lt_irrefl→Cb,toNat_lt→oW
open Go.Proofs.Tryz
open Go.RowKit Go.Proofs

namespace Go.Hb
abbrev mS:Type :=Int×List (List UInt8)×List UInt8
def eW:mS:=(0,[],[])
structure sZ (h:Array Obj) (a:Option aW) (ops:List mS):Prop where
 ok:0 < ops.length→a=some ⟨bk a,fo a,none⟩
 st:∀ i,i < ops.length→∃ wa wc,(∀ j,j < 3→aH h (bk a) (fo a+i*3 +j)= [bh .i64 (ops.getD i eW).1,.slice wa (ops.getD i eW).2.1.length wc,str (ops.getD i eW).2.2][j]?)∧bN h wa (ops.getD i eW).2.1∧(ops.getD i eW).2.1.length≤wc
theorem Hv {h:Array Obj} {b o:Nat} {u v x:ah} (h0:aH h b (o+0)=some u) (A:aH h b (o+1)=some v) (C:aH h b (o+2)=some x):∀ j,j < 3→aH h b (o+j)= [u,v,x][j]? :=by
 intro j E
 match j,E with
 | 0,_=>exact h0
 | 1,_=>exact A
 | 2,_=>exact C
theorem sZ.wk {w w':ai} {a:Option aW} {ops:List mS} (h:sZ w.heap a ops) (hm:Wk w w'):sZ w'.heap a ops:=
 ⟨h.ok,fun i hi=>by
  obtain ⟨I,J,A,C,E⟩:=h.st i hi;exact ⟨I,J,Hv (hm.aH<|A 0 ag) (hm.aH<|A 1 ag) (hm.aH<|A 2 ag),C.wk hm,E⟩⟩
def kT (x:mS):Nat:=1 +((x.2.1.map fun y=>y.length+1).sum+1)+(x.2.2.length+1)+1
theorem Hn {X:Type} {f:X→Nat} :∀ {l:List X} {i:Nat} (d:X),i < l.length→f (l.getD i d)≤(l.map f).sum
 | x::l,0,d,_=>by simp
 | x::l,i+1,d,h=>by
   have :=Hn (f:=f) (l:=l) (i:=i) d<|by simpa using h
   simp only [List.getD_cons_succ,eS,B7]; omega
theorem Ho {X:Type} {f:X→Nat} (A:∀ x,1≤f x):∀ (l:List X),l.length≤(l.map f).sum
 | []=>Nat.zero_le _
 | x::l=>by
   have :=Ho A l;have :=A x;simp only [cg,eS,B7]; omega
theorem Rq (l:List (List UInt8)):l.length≤(l.map fun y=>y.length+1).sum∧∀ x∈l,x.length≤(l.map fun y=>y.length+1).sum:=by
 induction l with
 | nil=>exact ⟨Nat.zero_le _,fun x A=>by simp at A⟩
 | cons y l ih=>
   simp only [cg,eS,B7];refine ⟨ag,fun x A=> ?_⟩;rcases ej.1 A with rfl | A
   · omega
   · have :=ih.2 x A; omega
theorem Oo {ops:List mS} {i:Nat} (h:i < ops.length):(ops.getD i eW).2.1.length≤(ops.map kT).sum∧(ops.getD i eW).2.2.length≤(ops.map kT).sum∧∀ x∈(ops.getD i eW).2.1,x.length≤(ops.map kT).sum:=by
 have C:=Hn (f:=kT) eW h;have A:=Rq (ops.getD i eW).2.1;unfold kT at C;refine ⟨?_,?_,fun x E=> ?_⟩
 · have :=A.1;unfold kT; omega
 · unfold kT; omega
 · have :=A.2 x E;unfold kT; omega
theorem Oq (ops:List mS):ops.length≤(ops.map kT).sum:=Ho (fun x=>by unfold kT; omega) ops
theorem P5 {W:ai} {v:ah} {ops:List mS} (h:RS 3 (fun W cs (x:mS)=> ∃ E I J,cs= [E,I,J]∧([E]= [.int .i64 x.1]∧(Lit.int .i64 x.1).wf=true)∧RS 1 (fun _ cs (x:List UInt8)=>cs= [str x]) W [I] x.2.1∧[J]= [str x.2.2]) W [v] ops):
 ∃ a c,v= .slice a ops.length c∧sZ W.heap a ops:=by
 obtain ⟨a,c,L,ab,an,Z,am,C⟩:=h;simp only [j4,and_true] at ab;refine ⟨a,c,ab,⟨fun h0=> ?_,fun i hi=> ?_⟩⟩
 · refine aT.ok Z fun e=> ?_;have hlen:=Eh (L:=L) (m:=3) fun l hm=>by
    obtain ⟨i,hi⟩:=Jl.1 hm;have :=(dt.1 hi).1;exact (C i l _ hi<|cr ag).1
   rw [e] at hlen;simp only [List.length_nil] at hlen;omega
 · have hm:∀ l∈L,l.length=3:=fun l hm=>by
    obtain ⟨i,hi⟩:=Jl.1 hm;have :=(dt.1 hi).1;exact (C i l _ hi<|cr ag).1
   have V:L[i]? =some (L[i]'ag):=cr ag;have al:ops[i]? =some (ops.getD i eW):=by rw [cQ,cr hi]; rfl
   obtain ⟨_,E,I,J,e,⟨h0,_⟩,h1,h2⟩:=C i _ _ V al;obtain ⟨M,O,ac,ae,aj⟩:=Qy h1;simp only [j4,and_true] at h0 h2;rw [h0,ac,h2] at e;have ak:∀ c,c < 3→aH W.heap (bk a) (fo a+i*3 +c)= [bh .i64 (ops.getD i eW).1,.slice M (ops.getD i eW).2.1.length O,str (ops.getD i eW).2.2][c]? :=fun c aa=>by
    have A:=Eg hm V aa;rw [e] at A;have ad:∃ u,[bh .i64 (ops.getD i eW).1,.slice M (ops.getD i eW).2.1.length O,str (ops.getD i eW).2.2][c]? =some u:=by
     rw [cr (by simpa using aa)]; exact ⟨_,rfl⟩
    obtain ⟨u,hu⟩:=ad;rw [hu] at A ⊢;have U:=Z.vE A;rw [nN,← iG] at U;exact U
   exact ⟨M,O,ak,ae,aj⟩
end Go.Hb
section
namespace Go.Hb
abbrev Tl:=List<|List UInt8
def zQ:Tl→List (UInt8×Tl)
 | []=> []
 | []::ts=>zQ ts
 | (c::t)::ts=>match zQ ts with
   | []=> [(c,[t])]
   | (c',g)::r=>if c=c' then (c,t::g)::r else (c,[t])::(c',g)::r
def M0 (A:Tl):Bool:=match A with | []::_=>true | _=>false
def LP (A:Tl):Tl:=match A with | []::r=>r | r=>r
structure VS where
 known:List Tl
 fP:List (Bool×List (UInt8×Nat))
def VS.add (s:VS) (A:Tl):VS:=⟨s.known++ [A],s.fP++ [(false,[])]⟩
end Go.Hb
namespace Go.Hb
theorem Ew {α:Type} {l:List α} {i:Nat} (d:α) (h:i < l.length):l.getD i d=l[i]:=by grind
end Go.Hb
namespace Go.Hb
abbrev JI:=Bool×List (UInt8×Nat)
end Go.Hb
namespace Go.Hb
end Go.Hb
namespace Go.Hb
def LZ (A:List Tl) (p:UInt8×Tl):UInt8×Nat:=(p.1,A.idxOf p.2+1)
def enc (A:List Tl) (L:Tl):JI:=(M0 L,(zQ<|LP L).map (LZ A))
end Go.Hb
namespace Go.Hb
def nm (A:List Tl) (i:Nat):Tl:=A.getD (i - 1) []
end Go.Hb
namespace Go.Hb
end Go.Hb
namespace Go.Hb
theorem xQ {l:Tl} (h:l.Pairwise (fun x y=>cn x y=true)):l.Nodup:=h.imp fun {a b} A he=>by rw [he,uk] at A; cases A
theorem uz:∀ {l C:Tl},l.Pairwise (fun x y=>cn x y=true)→C.Pairwise (fun x y=>cn x y=true)→(∀ x,x∈l↔x∈C)→l=C
 | [],[],_,_,_=>rfl
 | [],y::C,_,_,h=>absurd ((h y).2<|by simp)<|by simp
 | x::l,[],_,_,h=>absurd ((h x).1<|by simp)<|by simp
 | x::l,y::C,h1,h2,h=>by
   rw [yD] at h1 h2;have e:x=y:=by
    rcases ej.1 ((h x).1<|by simp) with e | L
    · exact e
    · rcases ej.1 ((h y).2<|by simp) with e | M
      · exact e.symm
      · have J:=h1.1 y M;have I:=h2.1 x L;rw [PY J] at I; cases I
   subst e;rw [uz h1.2 h2.2 fun z=> ?_];constructor
   · intro A;rcases ej.1 ((h z).1<|by simp [A]) with e | E
     · subst e; have :=h1.1 z A; rw [uk] at this; cases this
     · exact E
   · intro A;rcases ej.1 ((h z).2<|by simp [A]) with e | E
     · subst e; have :=h2.1 z A; rw [uk] at this; cases this
     · exact E
def od (x:List UInt8):Tl→Tl
 | []=> [x]
 | y::l=>if cn x y then x::y::l else if x=y then y::l else y::od x l
def bQ (l:Tl):Tl:=l.foldr od []
theorem Ar {x y:List UInt8} :∀ {l:Tl},y∈od x l↔y=x∨y∈l
 | []=>by simp [od]
 | z::l=>by
   simp only [od];split
   · simp
   · split
     · rename_i h; subst h; simp
     · simp only [ej,Ar (l:=l)];constructor
       · rintro (h | h | h)
         · exact .inr<|.inl h
         · exact .inl h
         · exact .inr<|.inr h
       · rintro (h | h | h)
         · exact .inr<|.inl h
         · exact .inl h
         · exact .inr<|.inr h
theorem EG {x:List UInt8} :∀ {l:Tl},l.Pairwise (fun x y=>cn x y=true)→(od x l).Pairwise (fun x y=>cn x y=true)
 | [],_=>List.pairwise_singleton _ _
 | y::l,h=>by
   simp only [od];have I:=yD.1 h;split
   · rename_i E;refine yD.2 ⟨fun z A=> ?_,h⟩;rcases ej.1 A with rfl | A
     · exact E
     · exact pW E<|I.1 z A
   · rename_i E;split
     · exact h
     · rename_i he;refine yD.2 ⟨fun z A=> ?_,EG I.2⟩;rcases Ar.1 A with rfl | A
       · rcases GZ z y with C | C | C
         · exact absurd C E
         · exact absurd C he
         · exact C
       · exact I.1 z A
theorem iT (l:Tl):(bQ l).Pairwise (fun x y=>cn x y=true):=by
 induction l with
 | nil=>exact List.Pairwise.nil
 | cons x l ih=>exact EG ih
theorem iz {x:List UInt8} {l:Tl} :x∈bQ l↔x∈l:=by
 induction l with
 | nil=>rfl
 | cons y l ih=>
   show x∈od y (bQ l)↔_;rw [Ar,ih,ej]
theorem PK {l m:Tl} (h:m.Pairwise (fun x y=>cn x y=true)) (hm:∀ x,x∈m↔x∈l):m=bQ l:=uz h (iT l) fun x=>(hm x).trans iz.symm
theorem oD (l:Tl):(bQ l).length≤l.length:=List.Nodup.length_le_of_subset (xQ<|iT l) fun _ A=>iz.1 A
theorem HP {l:Tl} {x:List UInt8} (h:l.Pairwise (fun x y=>cn x y=true)) (A:∀ t∈l,cn t x=true):(l++ [x]).Pairwise (fun x y=>cn x y=true):=by grind
theorem As {l:Tl} {i:Nat} (hi:i < l.length) {x:List UInt8} :x∈l.take (i+1)↔x∈l.take i∨x=l.getD i []:=by
 rw [ie l i [] hi]; simp
theorem EC {l:Tl} {w:List UInt8} {p:Nat} (I:∀ i,i < p→cn (l.getD i []) w=true) (J:∀ i,p≤i→i < l.length→cn (l.getD i []) w=false) (hu:l.Pairwise (fun x y=>cn x y=true)):w∈l↔p < l.length∧l.getD p []=w:=by
 constructor
 · intro hm;obtain ⟨j,E,he⟩:=Jk.1 hm;have C:l.getD j []=w:=by rw [Ew [] E]; exact he
   rcases Nat.lt_trichotomy j p with h | h | h
   · have :=I j h; rw [C,uk] at this; cases this
   · subst h; exact ⟨E,C⟩
   · have A:=rO hu h E;rw [C,J p (bf _) ag] at A; cases A
 · rintro ⟨A,L⟩;rw [← L,Ew [] A]; exact List.getElem_mem A
structure MG (la lb:Tl) (i j:Nat) (m:Tl):Prop where
 up:m.Pairwise (fun x y=>cn x y=true)
 mem:∀ x,x∈m↔x∈la.take i∨x∈lb.take j
 ma:∀ x∈m,i < la.length→cn x (la.getD i [])=true
 mb:∀ x∈m,j < lb.length→cn x (lb.getD j [])=true
 len:m.length≤i+j
theorem MG.zero (la lb:Tl):MG la lb 0 0 []:=⟨List.Pairwise.nil,fun x=>by simp,fun x h=>by simp at h,fun x h=>by simp at h,by simp⟩
theorem MG.a {la lb m:Tl} {i j:Nat} (h:MG la lb i j m) (J:la.Pairwise (fun x y=>cn x y=true)) (hi:i < la.length) (hb:j < lb.length→cn (la.getD i []) (lb.getD j [])=true):MG la lb (i+1) j (m++ [la.getD i []]):=by
 refine ⟨HP h.up (fun t I=>h.ma t I hi),fun x=> ?_,fun x A C=> ?_,fun x A C=> ?_,by have :=h.len; simp; omega⟩
 · rw [dz,h.mem,As hi,fv];constructor
   · rintro ((h | h) | h)
     · exact .inl<|.inl h
     · exact .inr h
     · exact .inl<|.inr h
   · rintro ((h | h) | h)
     · exact .inl<|.inl h
     · exact .inr h
     · exact .inl<|.inr h
 · have E:=rO J (show i < i+1 by omega) C;rcases dz.1 A with A | A
   · exact pW (h.ma x A hi) E
   · simp only [fv] at A; subst A; exact E
 · rcases dz.1 A with A | A
   · exact h.mb x A C
   · simp only [fv] at A; subst A; exact hb C
theorem MG.b {la lb m:Tl} {i i2 j:Nat} (h:MG la lb i j m) (Z:la.Pairwise (fun x y=>cn x y=true)) (aa:lb.Pairwise (fun x y=>cn x y=true)) (O:j < lb.length) (U:i < la.length→cn (la.getD i []) (lb.getD j [])=false)
 (J:(i2=i∧(i < la.length→la.getD i []≠lb.getD j []))∨(i2=i+1∧i < la.length∧la.getD i []=lb.getD j [])):MG la lb i2 (j+1) (m++ [lb.getD j []]):=by
 refine ⟨HP h.up (fun t V=>h.mb t V O),fun x=> ?_,fun x A E=> ?_,fun x A E=> ?_,by have :=h.len; simp; rcases J with J | J <;> omega⟩
 · rw [dz,h.mem,As O,fv];rcases J with ⟨rfl,_⟩ | ⟨rfl,L,M⟩
   · exact or_assoc
   · rw [As L,M];constructor
     · rintro ((h | h) | h)
       · exact .inl<|.inl h
       · exact .inr<|.inl h
       · exact .inr<|.inr h
     · rintro ((h | h) | h | h)
       · exact .inl<|.inl h
       · exact .inr h
       · exact .inl<|.inr h
       · exact .inr h
 · rcases J with ⟨rfl,L⟩ | ⟨rfl,L,M⟩
   · rcases dz.1 A with A | A
     · exact h.ma x A E
     · simp only [fv] at A; subst A;rcases GZ (lb.getD j []) (la.getD i2 []) with C | C | C
       · exact C
       · exact absurd C.symm<|L E
       · rw [U E] at C; cases C
   · have I:=rO Z (show i < i+1 by omega) E;rcases dz.1 A with A | A
     · exact pW (h.ma x A L) I
     · simp only [fv] at A; subst A; rw [← M]; exact I
 · have I:=rO aa (show j < j+1 by omega) E;rcases dz.1 A with A | A
   · exact pW (h.mb x A O) I
   · simp only [fv] at A; subst A; exact I
theorem MG.done {la lb m:Tl} {i j:Nat} (h:MG la lb i j m) (hi:la.length≤i) (A:lb.length≤j):m=bQ (la++lb):=
 PK h.up fun x=>by rw [h.mem,ja hi,ja A,dz]
end Go.Hb
end
section
namespace Go.Hb
end Go.Hb
namespace Go.Hb
section
variable {P:av} {N:Fm} {σ:Nat→ah} {w:ai} {dst:Option Nat} {ty:au} {pos :String} {af:Array Edge} {g:Option (Nat×Bool)} {x y z:bu}
end
end Go.Hb
namespace Go.Hb
abbrev bH:Type :=Bool×List (UInt8×Int)
def dI:bH:=(false,[])
abbrev bp (a:List bH) (n:Nat):bH:=a.getD n dI
def jI (l:List (UInt8×Int)):Prop :=l.Pairwise fun x y=>x.1.toNat < y.1.toNat
instance (l:List (UInt8×Int)):Decidable (jI l):=by unfold jI; infer_instance
def jW (a:List bH) (p:bH):Bool:=decide (p.2≠[]) || p.1 || decide (a.length=1)
def vs (a:List bH):Nat→Nat×List Nat→Int→Option (Nat×List Nat)
 | 0,_,_=>none
 | f+1,(nx,mk),n=>
   if n≠nx then (if 0≤n∧n < nx∧mk.getD n.toNat 0=2 then some (nx,mk) else none)
   else if a.length≤nx then none
   else if jI (bp a nx).2∧jW a (bp a nx)=true then
    ((bp a nx).2.foldlM (fun s e=>vs a f s e.2) (nx+1,mk.set nx 1)).map fun s=>(s.1,s.2.set nx 2)
   else none
def shaped (a:List bH):Bool:=decide (0 < a.length) && decide (a.length≤1048576) && match vs a (a.length+1) (0,eM a.length 0) 0 with
 | some s=>decide (s.1=a.length)
 | none=>false
section
variable {a:List bH}
theorem HV:∀ (f:Nat) {nx A:Nat} {mk mk':List Nat} {n:Int},vs a f (nx,mk) n=some (A,mk')→nx≤A∧mk'.length=mk.length:=by
 intro f
 induction f with
 | zero=>intro nx A mk mk' n h; cases h
 | succ f ih=>
   intro nx A mk mk' n h;have C:∀ (es:List (UInt8×Int)) (nx A:Nat) (mk mk':List Nat),es.foldlM (fun s e=>vs a f s e.2) (nx,mk)=some (A,mk')→nx≤A∧mk'.length=mk.length:=by
    intro es
    induction es with
    | nil=>intro nx A mk mk' h; simp only [uU,vh,bR,kF] at h; obtain ⟨rfl,rfl⟩:=h; exact ⟨bf _,rfl⟩
    | cons e es E=>
      intro nx A mk mk' h;simp only [uT,vg,qC] at h;obtain ⟨⟨I,m1⟩,h1,h2⟩:=h;have g1:=ih h1;have g2:=E _ _ _ _ h2;exact ⟨ag,ag⟩
   rw [vs] at h;split at h
   · split at h
     · cases h; exact ⟨bf _,rfl⟩
     · cases h
   · split at h
     · cases h
     · split at h
       · simp only [il] at h;obtain ⟨⟨I,m1⟩,h1,h2⟩:=h;simp only [kF] at h2;obtain ⟨rfl,rfl⟩:=h2;have :=C _ _ _ _ _ h1;simp only [qz] at this ⊢;exact ⟨ag,this.2⟩
       · cases h
def lg (a:List bH):Nat→Nat→List (List UInt8)
 | 0,_=> []
 | f+1,n=>(if (bp a n).1=true then [[]] else [])++(bp a n).2.flatMap fun e=>(lg a f e.2.toNat).map (e.1:: ·)
def RB (a:List bH) (n:Nat):List (List UInt8):=lg a a.length n
variable {l:List Nat}
theorem By {f nx:Nat} {mk:List Nat} {n:Int} (h:n≠nx):vs a (f+1) (nx,mk) n=if 0≤n∧n < nx∧mk.getD n.toNat 0=2 then some (nx,mk) else none:=by rw [vs,if_pos h]
theorem HX {f nx:Nat} {mk:List Nat} {n:Int} (h:n=nx) (A:a.length≤nx):vs a (f+1) (nx,mk) n=none:=by rw [vs,if_neg (fun e=>e h),if_pos A]
theorem xR {f nx:Nat} {mk:List Nat} {n:Int} (h:n=nx) (A:nx < a.length) (C:¬(jI (bp a nx).2∧jW a (bp a nx)=true)):vs a (f+1) (nx,mk) n=none:=by grind [vs]
theorem HU {f nx:Nat} {mk:List Nat} {n:Int} (h:n=nx) (A:nx < a.length) (C:jI (bp a nx).2) (E:jW a (bp a nx)=true):
 vs a (f+1) (nx,mk) n=((bp a nx).2.foldlM (fun s e=>vs a f s e.2) (nx+1,mk.set nx 1)).map fun s=>(s.1,s.2.set nx 2):=by grind [vs]
theorem Re:∀ (f:Nat) {nx A:Nat} {mk mk':List Nat} {n:Int},vs a f (nx,mk) n=some (A,mk')→nx≤a.length→A≤a.length:=by
 intro f
 induction f with
 | zero=>intro nx A mk mk' n h; cases h
 | succ f ih=>
   intro nx A mk mk' n h hle;have C:∀ (es:List (UInt8×Int)) (nx A:Nat) (mk mk':List Nat),es.foldlM (fun s e=>vs a f s e.2) (nx,mk)=some (A,mk')→nx≤a.length→A≤a.length:=by
    intro es
    induction es with
    | nil=>intro nx A mk mk' h; simp only [uU,vh,bR,kF] at h; obtain ⟨rfl,rfl⟩:=h; exact id
    | cons e es E=>
      intro nx A mk mk' h hle;simp only [uT,vg,qC] at h;obtain ⟨⟨I,m1⟩,h1,h2⟩:=h;exact E _ _ _ _ h2<|ih h1 hle
   rw [vs] at h;split at h
   · split at h
     · cases h; exact hle
     · cases h
   · split at h
     · cases h
     · split at h
       · simp only [il] at h;obtain ⟨⟨I,m1⟩,h1,h2⟩:=h;simp only [kF] at h2;obtain ⟨rfl,rfl⟩:=h2;exact C _ _ _ _ _ h1 ag
       · cases h
def ig (a:List bH) (f nx:Nat) (mk:List Nat) (es:List (UInt8×Int)):Option (Nat×List Nat):=es.foldlM (fun s e=>vs a f s e.2) (nx,mk)
theorem Rh {f nx:Nat} {mk:List Nat} {es:List (UInt8×Int)} {e:UInt8×Int} {s:Nat×List Nat} (h:ig a f nx mk es=some s):ig a f nx mk (es++ [e])=vs a f s e.2:=by
 unfold ig at*;rw [Ja,h];simp
theorem Rg {f nx:Nat} {mk:List Nat} {es es':List (UInt8×Int)} (h:ig a f nx mk es=none):ig a f nx mk (es++es')=none:=by grind [ig,Ja]
theorem xT {f nx:Nat} {mk:List Nat} {es:List (UInt8×Int)} {s:Nat×List Nat} (h:ig a f nx mk es=some s) (hle:nx≤a.length):nx≤s.1∧s.2.length=mk.length∧s.1≤a.length:=by
 unfold ig at h
 induction es generalizing nx mk with
 | nil=>simp only [uU,vh,bR] at h; subst h; exact ⟨bf _,rfl,hle⟩
 | cons e es ih=>
   simp only [uT,vg,qC] at h;obtain ⟨⟨A,m1⟩,h1,h2⟩:=h;have g1:=HV f h1;have g2:=ih h2<|Re f h1 hle;exact ⟨ag,ag,g2.2.2⟩
theorem xo {es:List (UInt8×Int)} {k:Nat} {e:UInt8×Int} (h:jI (es.take k)) (he:es[k]? =some e) (hp:∀ p,0 < k→es[k - 1]? =some p→p.1.toNat < e.1.toNat):jI (es.take<|k+1):=by
 obtain ⟨L,rfl⟩:=dt.1 he;rw [Jv L];unfold jI at*;refine List.pairwise_append.2 ⟨h,by simp,fun x M y C=> ?_⟩;rw [fv] at C; subst C;obtain ⟨j,J,rfl⟩:=Jk.1 M;simp only [bY] at J;have E:=hp es[k - 1] ag<|cr ag;rcases dM j (k - 1) with A | A
 · have I:=Jn.1 h j (k - 1) (by rw [bY]; omega) (by rw [bY]; omega) A;rw [yv,yv] at I;rw [yv]; omega
 · have :j=k - 1:=ag;subst this;rw [yv]; exact E
theorem FC {es:List (UInt8×Int)} {k:Nat} {e p:UInt8×Int} (h0:0 < k) (he:es[k]? =some e) (hp:es[k - 1]? =some p) (h:e.1.toNat≤p.1.toNat):¬jI es:=fun hr=>by
 obtain ⟨A,rfl⟩:=dt.1 he;obtain ⟨C,rfl⟩:=dt.1 hp;have :=Jn.1 hr (k - 1) k C A ag;omega
theorem HT {f nx:Nat} {mk:List Nat} {s:Nat×List Nat} (A:nx < a.length) (hr:jI (bp a nx).2) (C:ig a f (nx+1) (mk.set nx 1) (bp a nx).2=some s):vs a (f+1) (nx,mk) (nx:Int)=if jW a (bp a nx)=true then some (s.1,s.2.set nx 2) else none:=by
 by_cases h:jW a (bp a nx)=true
 · rw [HU rfl A hr h,if_pos h];unfold ig at C;rw [C]; rfl
 · rw [xR rfl A (fun e=>h e.2),if_neg h]
theorem xS {f nx k:Nat} {mk:List Nat} (C:nx < a.length) (h:ig a f (nx+1) (mk.set nx 1) ((bp a nx).2.take k)=none):vs a (f+1) (nx,mk) (nx:Int)=none:=by
 by_cases A:jI (bp a nx).2∧jW a (bp a nx)=true
 · rw [HU rfl C A.1 A.2];have :=Rg (es':=(bp a nx).2.drop k) h;rw [List.take_append_drop] at this;unfold ig at this;rw [this]; rfl
 · exact xR U C A
theorem HW {f nx:Nat} {mk:List Nat} (A:nx < a.length) (h:¬jI (bp a nx).2):vs a (f+1) (nx,mk) (nx:Int)=none:=xR rfl A (fun e=>h e.1)
theorem Rc {f nx:Nat} {mk:List Nat} (A:nx < a.length) (h:jW a (bp a nx)=false):vs a (f+1) (nx,mk) (nx:Int)=none:=xR rfl A (fun e=>by rw [h] at e; exact dS e.2)
theorem oJ {f nx k:Nat} {mk:List Nat} {es:List (UInt8×Int)} {e:UInt8×Int} {s:Nat×List Nat} (h:ig a f nx mk (es.take k)=some s) (he:es[k]? =some e):ig a f nx mk (es.take<|k+1)=vs a f s e.2:=by
 obtain ⟨A,rfl⟩:=dt.1 he;rw [Jv A];exact Rh h
theorem E1 {q:bH} (h:0 < q.2.length):jW a q=true :=by grind [jW]
theorem E0 {q:bH} (h:q.1=true):jW a q=true :=by
 unfold jW; rw [h,Bool.or_true,Bool.true_or]
theorem z8 {q:bH} (h:¬0 < q.2.length) (A:q.1=false):jW a q=decide (a.length=1):=by grind [jW,j5]
theorem getD_set_ne (mk:List Nat) {i j:Nat} (x:Nat) (h:i≠j):(mk.set i x).getD j 0=mk.getD j 0:=by grind
theorem Rf:∀ (f:Nat) {nx A:Nat} {mk mk':List Nat} {n:Int},vs a f (nx,mk) n=some (A,mk')→(∀ i,nx≤i→mk.getD i 0=0)→∀ i,A≤i→mk'.getD i 0=0:=by
 intro f
 induction f with
 | zero=>intro nx A mk mk' n h; cases h
 | succ f ih=>
   intro nx A mk mk' n h C;have E:∀ (es:List (UInt8×Int)) (nx A:Nat) (mk mk':List Nat),es.foldlM (fun s e=>vs a f s e.2) (nx,mk)=some (A,mk')→(∀ i,nx≤i→mk.getD i 0=0)→nx≤A∧∀ i,A≤i→mk'.getD i 0=0:=by
    intro es
    induction es with
    | nil=>intro nx A mk mk' h; simp only [uU,vh,bR,kF] at h; obtain ⟨rfl,rfl⟩:=h; exact fun h=>⟨bf _,h⟩
    | cons e es I=>
      intro nx A mk mk' h C;simp only [uT,vg,qC] at h;obtain ⟨⟨J,m1⟩,h1,h2⟩:=h;have g:=I _ _ _ _ h2<|ih h1 C;exact ⟨cR (HV f h1).1 g.1,g.2⟩
   rw [vs] at h;split at h
   · split at h
     · cases h; exact C
     · cases h
   · split at h
     · cases h
     · split at h
       · simp only [il] at h;obtain ⟨⟨J,m1⟩,h1,h2⟩:=h;simp only [kF] at h2;obtain ⟨rfl,rfl⟩:=h2;obtain ⟨g1,g2⟩:=E _ _ _ _ _ h1 fun i hi=>by rw [getD_set_ne _ _ ag]; exact C i ag
         exact fun i hi=>by rw [getD_set_ne _ _ ag]; exact g2 i hi
       · cases h
theorem Ri {f nx:Nat} {mk:List Nat} {es:List (UInt8×Int)} {s:Nat×List Nat} (h:ig a f nx mk es=some s) (A:∀ i,nx≤i→mk.getD i 0=0):∀ i,s.1≤i→s.2.getD i 0=0:=by
 unfold ig at h
 induction es generalizing nx mk with
 | nil=>simp only [uU,vh,bR] at h; subst h; exact A
 | cons e es ih=>
   simp only [uT,vg,qC] at h;obtain ⟨⟨C,m1⟩,h1,h2⟩:=h;exact ih h2<|Rf f h1 A
theorem xC (h:¬(0 < a.length∧a.length≤1048576)):shaped a=false :=by grind [shaped]
theorem GR (h:vs a (a.length+1) (0,eM a.length 0) 0=none):shaped a=false :=by
 unfold shaped; rw [h,Bool.and_false]
theorem xD {s:Nat×List Nat} (A:0 < a.length) (C:a.length≤1048576) (h:vs a (a.length+1) (0,eM a.length 0) 0=some s):shaped a=decide (s.1=a.length):=by grind [shaped]
def eV (a:List bH) (i:Nat):Nat:=min (RB a i).length 1099511627777
end
end Go.Hb
namespace Go.Hb
structure nQ (h:Array Obj) (ea:Option aW) (es:List (UInt8×Int)):Prop where
 ok:0 < es.length→ea=some ⟨bk ea,fo ea,none⟩
 b:∀ k e,es[k]? =some e→aH h (bk ea) (fo ea+k*2 +0)=some (.int .u8 e.1.toNat)
 to:∀ k e,es[k]? =some e→aH h (bk ea) (fo ea+k*2 +1)=some (.int .i64 e.2)
theorem nQ.wk {w w':ai} {A:Option aW} {es:List (UInt8×Int)} (h:nQ w.heap A es) (hm:Wk w w'):nQ w'.heap A es:=⟨h.ok,fun k e he=>hm.aH (h.b k e he),fun k e he=>hm.aH<|h.to k e he⟩
theorem xL {h:Array Obj} {b o:Nat} {u v:ah} (h0:aH h b (o+0)=some u) (A:aH h b (o+1)=some v):∀ j,j < 2→aH h b (o+j)= [u,v][j]? :=by grind
theorem nQ.two {h:Array Obj} {A:Option aW} {es:List (UInt8×Int)} (C:nQ h A es) {k:Nat} {e:UInt8×Int} (he:es[k]? =some e):∀ j,j < 2→aH h (bk A) (fo A+k*2 +j)= [bh .u8 e.1.toNat,.int .i64 e.2][j]? :=xL (C.b k e he)<|C.to k e he
structure gj (h:Array Obj) (aa:Option aW) (a:List bH):Prop where
 ok:0 < a.length→aa=some ⟨bk aa,fo aa,none⟩
 st:∀ i,i < a.length→∃ ea ec,aH h (bk aa) (fo aa+i*2 +0)=some (.bool (bp a i).1)∧aH h (bk aa) (fo aa+i*2 +1)=some (.slice ea (bp a i).2.length ec)∧nQ h ea (bp a i).2
theorem gj.wk {w w':ai} {A:Option aW} {a:List bH} (h:gj w.heap A a) (hm:Wk w w'):gj w'.heap A a:=
 ⟨h.ok,fun i hi=>by
  obtain ⟨C,E,I,J,L⟩:=h.st i hi;exact ⟨C,E,hm.aH I,hm.aH J,L.wk hm⟩⟩
theorem gj.two {h:Array Obj} {C:Option aW} {a:List bH} (M:gj h C a) {i:Nat} (hi:i < a.length):∃ A E,(∀ j,j < 2→aH h (bk C) (fo C+i*2 +j)= [bB (bp a i).1,.slice A (bp a i).2.length E][j]?)∧nQ h A (bp a i).2:=by
 obtain ⟨A,E,I,J,L⟩:=M.st i hi;exact ⟨A,E,xL I J,L⟩
theorem FZ {w:ai} {B e size n b:Nat} {xs:List ah} (h:w.ownsRow B e size (.slice (some ⟨b,0,none⟩) n n) n xs):aD w.heap b xs:=by
 rcases h.2 with ⟨hn,_⟩ | ⟨g,cap,cur,C,_,E,_,_,I,A⟩
 · cases hn
 · simp only [mO,bR,Addr.mk.injEq,and_true,true_and] at C;obtain ⟨rfl,rfl⟩:=C;rw [ja (by rw [Array.length_toList,I]; exact bf _)] at A;exact ⟨_,by rw [← A]; simpa using E⟩
theorem mF {w w':ai} {b o:Nat} {u v:ah} (hm:Wk w w') (h:∀ j,j < 2→aH w.heap b (o+j)= [u,v][j]?):∀ j,j < 2→aH w'.heap b (o+j)= [u,v][j]? :=xL (hm.aH<|h 0 ag)<|hm.aH<|h 1 ag
theorem Md.gM {F:Nat→Prop} {w w':ai} (h:Md F w.drew w'):Md F w w':=⟨h.os,h.output,h.size,h.dC⟩
def lr (n:Nat):ah:= .int .u8 n
theorem CH {h:Array Obj} {b:Nat} {f:Nat→ah} {mk:List Nat} {i:Nat} (hb:aD h b (mk.map f)) (hi:i < mk.length):aH h b (0 +i*1)=some (f<|mk.getD i 0):=by
 rw [nN,du,hb.aH,gy,cQ,cr hi]; rfl
end Go.Hb
namespace Go.Hb
abbrev Nr:Type :=List UInt8×Nat
end Go.Hb
namespace Go.Hb
section
variable {P:av} {N:Fm} {σ:Nat→ah} {w:ai} {ty:au} {pos :String} {af:Array Edge} {g:Option (Nat×Bool)} {x y:bu} {K:(Nat→ah)→ai→Prop}
end
end Go.Hb
namespace Go.Hb
def GG (l:List Nr) (c d:Nat):List Nr:=(l.drop c).take<|d - c
end Go.Hb
namespace Go.Hb
end Go.Hb
end
section
namespace Go.Hb
def e7:List UInt8→Nat
 | []=>0
 | b::l=>b.toNat % 128 +128 *e7 l
theorem Aa:∀ (l m:List UInt8),e7 (l++m)=e7 l+128 ^ l.length*e7 m
 | [],m=>by simp [e7]
 | b::l,m=>by
   rw [List.cons_append,e7,e7,Aa l m,cg,yH,Nat.mul_add,← Nat.mul_assoc,u7 128 (128 ^ l.length)]; omega
theorem wG:∀ (l:List UInt8),e7 l < 128 ^ l.length
 | []=>by simp [e7]
 | b::l=>by
   have :=wG l;rw [e7,cg,yH]; omega
def ix (l:List UInt8):Nat:=((l.take 10).takeWhile fun b=>decide (128≤b.toNat)).length
theorem HA {f:UInt8→Bool} :∀ {l:List UInt8} {k:Nat},(∀ j,j < k→j < l.length∧f (l.getD j 0)=true)→(l.length≤k∨f (l.getD k 0)=false)→(l.takeWhile f).length=k
 | [],k,h,_=>by
   cases k with
   | zero=>rfl
   | succ k=>have :=(h 0 ag).1; simp at this
 | b::l,0,_,A=>by
   rcases A with A | A
   · simp at A
   · simp only [oP] at A;rw [Jr,A]; rfl
 | b::l,k+1,h1,A=>by
   have h0:=(h1 0 ag).2;simp only [oP] at h0;rw [Jr,h0,if_pos rfl,cg,HA (k:=k) (fun j C=>by have :=h1 (j+1) ag; simpa using this) (by simpa using A)]
theorem Ht {l:List UInt8} {n j:Nat} (h:j < n):(l.take n).getD j 0=l.getD j 0:=by
 rw [cQ,List.getElem?_take_of_lt h,cQ]
theorem Dv {l:List UInt8} {n j:Nat} :(l.drop n).getD j 0=l.getD (n+j) 0:=by
 rw [cQ,kD,cQ]
theorem lI {s:List UInt8} {a k:Nat} (L:k≤10) (h:∀ j,j < k→a+j < s.length∧128≤(s.getD (a+j) 0).toNat) (A:k=10∨s.length≤a+k∨(s.getD (a+k) 0).toNat < 128):ix (s.drop a)=k:=by
 unfold ix;refine HA (fun j E=> ?_) ?_
 · obtain ⟨I,C⟩:=h j E;refine ⟨by rw [bY,gh]; omega,?_⟩;rw [Ht ag,Dv];exact decide_eq_true C
 · rcases A with A | A | A
   · exact .inl<|by rw [bY]; omega
   · exact .inl<|by rw [bY,gh]; omega
   · by_cases J:k=10
     · exact .inl<|by rw [bY]; omega
     · refine .inr ?_;rw [Ht ag,Dv];exact decide_eq_false ag
def bJ (s:List UInt8) (a:Nat):Except Nat (Nat×Nat):=
 if ix (s.drop a)=10 then .error 61 else if s.length≤a+ix (s.drop a) then .error 60
 else if (ix (s.drop a)=9∧1 < (s.getD (a+ix (s.drop a)) 0).toNat)∨(0 < ix (s.drop a)∧(s.getD (a+ix (s.drop a)) 0).toNat=0) then .error 61
 else .ok (e7 ((s.drop a).take<|ix (s.drop a)+1),a+ix (s.drop a)+1)
section
variable {s:List UInt8} {a k n p:Nat}
theorem Gw (h:ix (s.drop a)=10):bJ s a= .error 61:=by unfold bJ; rw [if_pos h]
theorem xw (h:ix (s.drop a)=k) (A:k≠10) (C:s.length≤a+k):bJ s a= .error 60:=by unfold bJ; rw [h,if_neg A,if_pos C]
theorem rS (h:ix (s.drop a)=k) (C:k≠10) (E:a+k < s.length) (A:(k=9∧1 < (s.getD (a+k) 0).toNat)∨(0 < k∧(s.getD (a+k) 0).toNat=0)):bJ s a= .error 61:=by
 unfold bJ; rw [h,if_neg C,if_neg ag,if_pos A]
theorem xu (h:ix (s.drop a)=k) (C:k≠10) (E:a+k < s.length) (A:¬((k=9∧1 < (s.getD (a+k) 0).toNat)∨(0 < k∧(s.getD (a+k) 0).toNat=0))):bJ s a= .ok (e7 ((s.drop a).take<|k+1),a+k+1):=by
 unfold bJ; rw [h,if_neg C,if_neg ag,if_neg A]
theorem kY (h:bJ s a= .ok (n,p)):a < p∧p≤s.length∧n < 18446744073709551616:=by
 unfold bJ at h;split at h
 · cases h
 · split at h
   · cases h
   · split at h
     · cases h
     · rename_i M O U;simp only [Except.ok.injEq,kF] at h;obtain ⟨rfl,rfl⟩:=h;refine ⟨ag,ag,?_⟩;have aa:ix (s.drop a)≤10:=by
        unfold ix;exact cR (List.takeWhile_sublist _).length_le<|by rw [bY]; omega
       generalize Z:ix (s.drop a)=k at*;have L:=wG<|(s.drop a).take<|k+1;have hlen:((s.drop a).take<|k+1).length=k+1:=by rw [bY,gh]; omega
       by_cases J:k=9
       · subst J;rw [show (9:Nat)+1=10 from rfl,Jt,Aa];have A:=wG<|(s.drop a).take 9;have E:((s.drop a).take 9).length=9:=by rw [bY,gh]; omega
         rw [E] at A ⊢;have I:(s.drop a)[9]? =some (s.getD (a+9) 0):=by
          rw [kD,cQ,cr ag]; rfl
         rw [I];simp only [JF,e7];have V:(s.getD (a+9) 0).toNat≤1:=ag;have C:(128:Nat) ^ 9=9223372036854775808:=aJ;rw [C] at A ⊢;omega
       · rw [hlen] at L;have :(128:Nat) ^ (k+1)≤128 ^ 9:=sR aJ ag;have C:(128:Nat) ^ 9=9223372036854775808:=aJ;omega
end
def cY {α:Type} (f:Nat→Except Nat (α×Nat)):Nat→Nat→Except Nat (List α×Nat)
 | 0,a=> .ok ([],a)
 | k+1,a=>match cY f k a with
   | .error e=> .error e
   | .ok (l,p)=>match f p with
     | .error e=> .error e
     | .ok (x,q)=> .ok (l++ [x],q)
section
variable {α:Type} {f:Nat→Except Nat (α×Nat)} {k n a p q e:Nat} {l:List α} {x:α}
theorem og (h:cY f k a= .ok (l,p)) (A:f p= .ok (x,q)):cY f (k+1) a= .ok (l++ [x],q):=by rw [cY,h]; simp only [A]
theorem jV (h:cY f k a= .ok (l,p)) (C:f p= .error e) (hn:k < n):cY f n a= .error e:=by
 have A:cY f (k+1) a= .error e:=by rw [cY,h]; simp only [C]
 obtain ⟨d,rfl⟩:∃ d,n=k+1 +d:=⟨n - (k+1),ag⟩
 clear hn
 induction d with
 | zero=>exact A
 | succ d ih=>rw [← iG,cY,ih]
theorem kj:∀ {k:Nat} {l:List α} {p:Nat},cY f k a= .ok (l,p)→l.length=k
 | 0,l,p,h=>by cases h; rfl
 | k+1,l,p,h=>by
   rw [cY] at h;split at h
   · cases h
   · rename_i C p2 A;split at h
     · cases h
     · cases h;rw [bo,kj A]; rfl
theorem pF {R:Nat→Prop} {S:α→Prop} (E:∀ p x q,R p→f p= .ok (x,q)→R q∧S x):∀ {k:Nat} {l:List α} {p:Nat},R a→cY f k a= .ok (l,p)→R p∧∀ x∈l,S x
 | 0,l,p,ha,h=>by cases h; exact ⟨ha,fun x C=>by simp at C⟩
 | k+1,l,p,ha,h=>by
   rw [cY] at h;split at h
   · cases h
   · rename_i U p2 I;obtain ⟨J,L⟩:=pF E ha I;split at h
     · cases h
     · rename_i x q C;cases h;obtain ⟨M,O⟩:=E _ _ _ J C;refine ⟨M,fun y A=> ?_⟩;rcases dz.1 A with A | A
       · exact L y A
       · rw [fv.1 A]; exact O
end
def dJ (s:List UInt8) (a:Nat):Except Nat (List UInt8×Nat):=match bJ s a with
 | .error e=> .error e
 | .ok (n,p)=>if 255 < n then .error 62 else if s.length < p+n then .error 60 else .ok ((s.drop p).take n,p+n)
def iR (s:List UInt8) (a:Nat):Except Nat ((List UInt8×List UInt8)×Nat):=match dJ s a with
 | .error e=> .error e
 | .ok (f,p)=>match dJ s p with
   | .error e=> .error e
   | .ok (t,q)=> .ok ((f,t),q)
def fL (s:List UInt8) (n a:Nat):Except Nat ((UInt8×Int)×Nat):=if s.length≤a then .error 60 else match bJ s (a+1) with
 | .error e=> .error e
 | .ok (t,p)=>if n≤t then .error 190 else .ok ((s.getD a 0,(t:Int)),p)
def gS (s:List UInt8) (n a:Nat):Except Nat (bH×Nat):=match bJ s a with
 | .error e=> .error e
 | .ok (v,p)=>if 256 < v / 2 then .error 190 else match cY (fL s n) (v / 2) p with
   | .error e=> .error e
   | .ok (es,q)=> .ok ((decide (v % 2=1),es),q)
def dy (s:List UInt8) (a:Nat):Except Nat (List bH×Nat):=match bJ s a with
 | .error e=> .error e
 | .ok (n,p)=>if n=0∨1048576 < n then .error 190 else match cY (gS s n) n p with
   | .error e=> .error e
   | .ok (l,q)=>if shaped l=true then .ok (l,q) else .error 190
def ju (r:List UInt8×List UInt8):Bool:=decide (r.1≠[]) && (gK r.1 && decide (r.1.length≤32)) && (gK r.2 && decide (r.2.length≤32))
def fO (n:Nat) (t:List UInt8) (rs:List (List UInt8×List UInt8)):Bool:=decide (1≤n∧n≤64∧rs.length≤256) && (decide (t= []) || decide (letE t=(t,0))) && rs.all ju
structure eU where
 least:Nat
 tr:List UInt8
 kV:List (List UInt8×List UInt8)
 jt:List (List bH)
def gu:List UInt8:= [72,66,75,49]
def iu (s:List UInt8) (n:Nat) (t:List UInt8) (rs:List (List UInt8×List UInt8)) (a:Nat):Except Nat eU:=
 if fO n t rs=true then match cY (dy s) 4 a with
  | .error e=> .error e
  | .ok (l,p)=>if p=s.length then .ok ⟨n,t,rs,l⟩ else .error 202
 else .error 201
def cD (s:List UInt8):Except Nat eU:=
 if s.take 4=gu then match bJ s 4 with
  | .error e=> .error e
  | .ok (n,p1)=>match dJ s p1 with
    | .error e=> .error e
    | .ok (t,p2)=>match bJ s p2 with
      | .error e=> .error e
      | .ok (m,p3)=>if 256 < m then .error 201 else match cY (iR s) m p3 with
        | .error e=> .error e
        | .ok (rs,p4)=>iu s (if n≤64 then n else 0) t rs p4
 else .error 200
section
variable {s:List UInt8} {a n p:Nat}
theorem q6 {f:List UInt8} (h:dJ s a= .ok (f,p)):a < p∧p≤s.length∧f.length≤255:=by
 unfold dJ at h;split at h
 · cases h
 · rename_i n q A;obtain ⟨C,E,_⟩:=kY A;split at h
   · cases h
   · split at h
     · cases h
     · cases h;exact ⟨ag,ag,by rw [bY]; omega⟩
theorem Pb {r:List UInt8×List UInt8} (h:iR s a= .ok (r,p)):a < p∧p≤s.length∧r.1.length≤255∧r.2.length≤255:=by
 unfold iR at h;split at h
 · cases h
 · rename_i f q I;obtain ⟨L,M,A⟩:=q6 I;split at h
   · cases h
   · rename_i t U J;obtain ⟨O,C,E⟩:=q6 J;cases h;exact ⟨ag,C,A,E⟩
theorem LX {e:UInt8×Int} (h:fL s n a= .ok (e,p)):a < p∧p≤s.length∧0≤e.2∧e.2 < n:=by
 unfold fL at h;split at h
 · cases h
 · split at h
   · cases h
   · rename_i t q C;obtain ⟨E,A,_⟩:=kY C;split at h
     · cases h
     · cases h;exact ⟨ag,A,by show (0:Int)≤(t:Int); omega,by show (t:Int) < n; omega⟩
theorem uu {x:bH} (h:gS s n a= .ok (x,p)):a < p∧p≤s.length∧x.2.length≤256∧∀ e∈x.2,0≤e.2∧e.2 < n:=by
 unfold gS at h;split at h
 · cases h
 · rename_i v q I;obtain ⟨L,C,_⟩:=kY I;split at h
   · cases h
   · split at h
     · cases h
     · rename_i es U A;have O:=kj A;obtain ⟨⟨M,E⟩,h5⟩:=pF (R:=fun p=>q≤p∧p≤s.length) (S:=fun e:UInt8×Int=>0≤e.2∧e.2 < n) (fun p x q' hr J=>by
        obtain ⟨g1,g2,g3⟩:=LX J;exact ⟨⟨ag,g2⟩,g3⟩) ⟨bf _,C⟩ A
       cases h;exact ⟨ag,E,by show es.length≤256; omega,h5⟩
theorem GF {l:List bH} (h:dy s a= .ok (l,p)):a < p∧p≤s.length∧shaped l=true∧l.length≤1048576∧∀ x∈l,x.2.length≤256∧∀ e∈x.2,0≤e.2∧e.2 < l.length:=by
 unfold dy at h;split at h
 · cases h
 · rename_i n q J;obtain ⟨O,C,_⟩:=kY J;split at h
   · cases h
   · split at h
     · cases h
     · rename_i V Z A;have I:=kj A;obtain ⟨⟨U,E⟩,h5⟩:=pF (R:=fun p=>q≤p∧p≤s.length) (S:=fun x:bH=>x.2.length≤256∧∀ e∈x.2,0≤e.2∧e.2 < n) (fun p x q' hr M=>by
        obtain ⟨g1,g2,g3⟩:=uu M;exact ⟨⟨ag,g2⟩,g3⟩) ⟨bf _,C⟩ A
       split at h
       · cases h;rename_i L;exact ⟨ag,E,L,ag,by rw [I]; exact h5⟩
       · cases h
structure eU.Is (s:List UInt8) (b:eU):Prop where
 least:1≤b.least∧b.least≤64
 R5:b.kV.length≤256
 kV:∀ r∈b.kV,r.1≠[]∧r.1.length≤32∧r.2.length≤32
 tr:b.tr.length≤255
 FD:b.jt.length=4
 jt:∀ l∈b.jt,shaped l=true∧l.length≤1048576∧∀ x∈l,x.2.length≤256∧∀ e∈x.2,0≤e.2∧e.2 < l.length
theorem Dm {b:eU} (h:cD s= .ok b):b.Is s:=by
 unfold cD at h;split at h
 · split at h
   · cases h
   · rename_i n p1 J;split at h
     · cases h
     · rename_i t p2 E;split at h
       · cases h
       · rename_i m p3 L;split at h
         · cases h
         · split at h
           · cases h
           · rename_i rs p4 M;generalize (if n≤64 then n else 0)=n0 at h;unfold iu at h;split at h
             · rename_i A;split at h
               · cases h
               · rename_i l p5 C;split at h
                 · cases h;unfold fO at A;simp only [bP,decide_eq_true_eq,List.all_eq_true] at A;obtain ⟨⟨⟨g1,g2,g3⟩,_⟩,g4⟩:=A;refine ⟨⟨g1,g2⟩,g3,fun r hr=> ?_,(q6 E).2.2,kj C,(pF (R:=fun _=>True) (fun p x q _ I=>⟨trivial,(GF I).2.2⟩) trivial C).2⟩;have :=g4 r hr;unfold ju at this;simp only [bP,decide_eq_true_eq] at this;exact ⟨this.1.1,this.1.2.2,this.2.2⟩
                 · cases h
             · cases h
 · cases h
end
end Go.Hb
end
section
namespace Go.Hb
def dm (f:List (List UInt8)):Nat:=((f.getD 0 []).getD 0 0).toNat
def dR (f:List (List UInt8)):vw:=iC<|(f.getD 0 []).drop 1
def eN (f:List (List UInt8)):Except Nat (List UInt8×Int):=
 if f.length≠1 then .error 111 else if dm f≠43∧dm f≠45 then .error 281 else
 if (dR f).2.2.2≠0 then .error (dR f).2.2.2 else if (dR f).2.2.1=true then .error 114 else if dK (dR f).1=false then .error 21 else .ok ((dR f).1,if dm f=43 then 1 else -1)
theorem DK {f:List (List UInt8)} (h:f.length≠1):eN f= .error 111:=if_pos h
theorem DM {f:List (List UInt8)} (h:f.length=1) (A:dm f≠43) (C:dm f≠45):eN f= .error 281:=(if_neg fun e=>e h).trans<|if_pos ⟨A,C⟩
theorem vT {f:List (List UInt8)} (h:f.length=1) (A:dm f=43∨dm f=45):eN f=if (dR f).2.2.2≠0 then .error (dR f).2.2.2 else if (dR f).2.2.1=true then .error 114 else if dK (dR f).1=false then .error 21 else .ok ((dR f).1,if dm f=43 then 1 else -1):=(if_neg fun e=>e h).trans<|if_neg ag
theorem DJ {f:List (List UInt8)} (h:f.length=1) (A:dm f=43∨dm f=45) (C:(dR f).2.2.2≠0):eN f= .error (dR f).2.2.2:=(vT h A).trans<|if_pos C
theorem DI {f:List (List UInt8)} (h:f.length=1) (A:dm f=43∨dm f=45) (C:(dR f).2.2.2=0) (E:(dR f).2.2.1=true):eN f= .error 114:=(vT h A).trans<|(if_neg fun e=>e C).trans<|if_pos E
theorem DH {f:List (List UInt8)} (h:f.length=1) (A:dm f=43∨dm f=45) (C:(dR f).2.2.2=0) (E:(dR f).2.2.1=false) (I:dK (dR f).1=false):eN f= .error 21:=
 (vT h A).trans ((if_neg fun e=>e C).trans<|(if_neg<|by rw [E]; decide).trans<|if_pos I)
theorem DL {f:List (List UInt8)} (h:f.length=1) (A:dm f=43∨dm f=45) (C:(dR f).2.2.2=0) (E:(dR f).2.2.1=false) (I:dK (dR f).1=true):eN f= .ok ((dR f).1,if dm f=43 then 1 else -1):=
 (vT h A).trans ((if_neg fun e=>e C).trans<|(if_neg<|by rw [E]; decide).trans<|if_neg<|by rw [I]; decide)
theorem DN {f:List (List UInt8)} {x:List UInt8} {o:Int} (h:eN f= .ok (x,o)):dK x=true∧((o=1∧dm f=43)∨(o= -1∧dm f≠43))∧f.length=1:=by
 unfold eN at h
 repeat' split at h
 all_goals first | cases h | skip
 · rename_i E I J L A C;exact ⟨by simpa using A,.inl ⟨U,C⟩,ag⟩
 · rename_i E I J L A C;exact ⟨by simpa using A,.inr ⟨U,C⟩,ag⟩
theorem Rz:∀ (l acc:List UInt8),(fq acc l).2.2.2=0∨(fq acc l).2.2.2=20:=by
 intro l
 induction hn:l.length using Nat.strongRecOn generalizing l with
 | _ n ih=>
   intro acc
   match l with
   | []=>exact .inl rfl
   | b::l=>
     by_cases h:b.toNat=47
     · rw [x8 h]; exact .inl rfl
     · by_cases A:b.toNat=92
       · match l with
         | []=>rw [xX A]; exact .inr rfl
         | c::l=>
           cases hc:jS c with
           | false =>rw [xY A hc]; exact .inr rfl
           | true =>rw [su A hc]; exact ih l.length (by simp only [cg] at hn; omega) l rfl _
       · rw [xZ h A]; exact ih l.length (by simp only [cg] at hn; omega) l rfl _
theorem zq {f:List (List UInt8)} {e:Nat} (h:eN f= .error e):e≠0∧e≤281:=by
 have :=Rz ((f.getD 0 []).drop 1) [];unfold eN at h
 repeat' split at h
 all_goals first | (cases h; done) | (cases h; omega) | skip
 rename_i C E A;cases h;exact ⟨A,by unfold dR iC; omega⟩
def fE (rs:List (Nat×List (List UInt8))):Nat→Except (Nat×Nat) (List UInt8→Option Int)
 | 0=> .ok fun _=>none
 | k+1=>match fE rs k with
   | .error e=> .error e
   | .ok g=>match eN (rs.getD k (0,[])).2 with
     | .error e=> .error ((rs.getD k (0,[])).1,e)
     | .ok (x,o)=>if g x≠none then .error ((rs.getD k (0,[])).1,112) else if k=500 then .error ((rs.getD k (0,[])).1,280) else .ok fun y=>if y=x then some o else g y
def hZ (t:List UInt8):Except (Nat×Nat) (List UInt8→Option Int):=if 65536 < t.length then .error (0,10) else fE (eu t) (eu t).length
section
variable {rs:List (Nat×List (List UInt8))} {k:Nat} {g:List UInt8→Option Int} {x:List UInt8} {o:Int} {e:Nat}
theorem FU (h:fE rs k= .ok g) (A:eN (rs.getD k (0,[])).2= .error e):fE rs (k+1)= .error ((rs.getD k (0,[])).1,e):=by rw [fE,h]; simp only [A]
theorem FY (h:fE rs k= .ok g) (A:eN (rs.getD k (0,[])).2= .ok (x,o)) (C:g x≠none):fE rs (k+1)= .error ((rs.getD k (0,[])).1,112):=by rw [fE,h]; simp only [A]; rw [if_pos C]
theorem FX (h:fE rs k= .ok g) (A:eN (rs.getD k (0,[])).2= .ok (x,o)) (C:g x=none) (E:k=500):fE rs (k+1)= .error ((rs.getD k (0,[])).1,280):=by
 rw [fE,h]; simp only [A]; rw [if_neg fun e=>e C,if_pos E]
theorem FW (h:fE rs k= .ok g) (A:eN (rs.getD k (0,[])).2= .ok (x,o)) (C:g x=none) (E:k≠500):fE rs (k+1)= .ok fun y=>if y=x then some o else g y:=by
 rw [fE,h]; simp only [A]; rw [if_neg fun e=>e C,if_neg E]
theorem tZ {q:Nat×Nat} (h:fE rs k= .error q):∀ {n:Nat},k≤n→fE rs n= .error q
 | 0,hn=>by obtain rfl :k=0:=ag
            exact h
 | n+1,hn=>by
   rcases Nat.eq_or_lt_of_le hn with rfl | hn
   · exact h
   · rw [fE,tZ h (n:=n) ag]
theorem xh:∀ {k:Nat} {g:List UInt8→Option Int},fE rs k= .ok g→eA g∧dh g k∧k≤500
 | 0,g,h=>by cases h; exact ⟨eA.nil,by unfold dh; rw [rj]; exact fI.nil,ag⟩
 | k+1,g,h=>by
   rw [fE] at h;split at h
   · cases h
   · rename_i g0 h0;split at h
     · cases h
     · rename_i x o E;obtain ⟨i1,i2,i3⟩:=xh h0;obtain ⟨v1,v2,v3⟩:=DN E;split at h
       · cases h
       · rename_i C;have C:=mJ.1 C;split at h
         · cases h
         · cases h;refine ⟨⟨fun y p A=> ?_,fun y p A=> ?_⟩,by unfold dh; rw [← rk]; exact fI.new i2 (by rw [iP,C]; rfl),ag⟩
           · split at A
             · cases A; omega
             · exact i1.val y p A
           · split at A
             · rename_i e; rw [e]; exact v1
             · exact i1.wd y p A
end
end Go.Hb
end
section
namespace Go.Hb
theorem GY:∀ {a b:List UInt8},cn a b=true→a≤b
 | [],b,_=>List.nil_le b
 | x::a,[],h=>absurd (show false =true from h) aJ
 | x::a,y::b,h=>by
   rw [xE] at h;intro A;rw [List.cons_lt_cons_iff] at A;simp only [lO,decide_eq_true_eq,bP,beq_iff_eq] at h;rcases h with h | ⟨rfl,h⟩
   · rcases A with A | ⟨rfl,A⟩
     · exact absurd (UInt8.lt_trans h A)<|Cb _
     · exact Cb _ h
   · rcases A with A | ⟨_,A⟩
     · exact Cb _ A
     · exact GY h A
abbrev mV (l:List (List UInt8)):Prop :=l.Pairwise fun x y=>cn x y=true
structure dd (g:List UInt8→Option Int) (a b:List (List UInt8)):Prop where
 ua:mV a
 ub:mV b
 ma:∀ x,x∈a↔g x=some 1
 mb:∀ x,x∈b↔g x=some (-1)
def iA (a s:List (List UInt8)):List (List UInt8):=a.filter fun x=>decide (x∉s)
theorem Fp {a s:List (List UInt8)} {i:Nat} (h:i < a.length):iA (a.take<|i+1) s=if a.getD i []∈s then iA (a.take i) s else iA (a.take i) s++ [a.getD i []]:=by
 unfold iA;rw [ie a i [] h,List.filter_append];by_cases hm:a.getD i []∈s
 · rw [if_pos hm,List.filter_cons_of_neg (by simpa using hm),I7,List.append_nil]
 · rw [if_neg hm,List.filter_cons_of_pos (by simpa using hm),I7]
theorem Au (a s:List (List UInt8)):(iA a s).length≤a.length:=List.length_filter_le _ _
theorem dd.nil:dd (fun _=>none) [] []:=⟨List.Pairwise.nil,List.Pairwise.nil,fun x=>by simp,fun x=>by simp⟩
section
variable {g g':List UInt8→Option Int} {a b a' b' l:List (List UInt8)}
theorem vI {A:Int} (hw:A≠0) (x:List UInt8):eE A (c8 A g l) g x=if x∈l then some A else g x:=by
 unfold eE c8 gp fm;by_cases C:x∈l
 · rw [if_pos C];cases hg:g x with
   | none=>
     simp only [C,if_true,Option.getD_none];rw [if_neg fun e=>hw e.symm]
   | some o=>
     simp only [C,if_true,jD];by_cases h0:o=A
     · rw [if_pos h0,h0]
     · rw [if_neg h0]
 · simp only [C,if_false]
theorem dd.add (h:dd g a b):dd (eE 1 (c8 1 g l) g) (bQ<|a++bQ l) (iA b<|bQ l):=by
 refine ⟨iT _,h.ub.filter _,fun x=> ?_,fun x=> ?_⟩
 · rw [vI aJ,iz,dz,iz,h.ma];by_cases A:x∈l <;> simp [A]
 · rw [vI aJ];unfold iA;rw [yy,h.mb];by_cases A:x∈l <;> simp [A,iz]
theorem dd.Kb (h:dd g a b):dd (eE (-1) (c8 (-1) g l) g) (iA a<|bQ l) (bQ<|b++bQ l):=by
 refine ⟨h.ua.filter _,iT _,fun x=> ?_,fun x=> ?_⟩
 · rw [vI aJ];unfold iA;rw [yy,h.ma];by_cases A:x∈l <;> simp [A,iz]
 · rw [vI aJ,iz,dz,iz,h.mb];by_cases A:x∈l <;> simp [A]
theorem dd.row {x:List UInt8} {o:Int} (h:dd g a b) (hn:g x=none):dd (fun y=>if y=x then some o else g y) (if o=1 then bQ (a++ [x]) else a) (if o=1 then b else bQ (b++ [x]))∨¬(o=1∨o= -1):=by
 by_cases C:o=1
 · subst C;refine .inl ?_;rw [if_pos rfl,if_pos rfl];refine ⟨iT _,h.ub,fun y=> ?_,fun y=> ?_⟩
   · rw [iz,dz,fv,h.ma];by_cases A:y=x <;> simp [A]
   · rw [h.mb];by_cases A:y=x <;> simp [A,hn]
 · by_cases E:o= -1
   · subst E;refine .inl ?_;rw [if_neg C,if_neg C];refine ⟨h.ua,iT _,fun y=> ?_,fun y=> ?_⟩
     · rw [h.ma];by_cases A:y=x <;> simp [A,hn]
     · rw [iz,dz,fv,h.mb];by_cases A:y=x <;> simp [A]
   · exact .inr ag
theorem dd.has (h:dd g a b) (E:eA g) (x:List UInt8):(g x).getD 0=if x∈a then 1 else if x∈b then -1 else 0:=by
 by_cases A:x∈a
 · rw [if_pos A,(h.ma x).1 A]; rfl
 · rw [if_neg A];by_cases C:x∈b
   · rw [if_pos C,(h.mb x).1 C]; rfl
   · rw [if_neg C];cases hx:g x with
     | none=>rfl
     | some o=>
       rcases E.val x o hx with rfl | rfl
       · exact absurd ((h.ma x).2 hx) A
       · exact absurd ((h.mb x).2 hx) C
theorem dd.fin (h:dd g a b) (C:eA g):gX g (bQ<|a++b):=by
 refine ⟨xQ (iT _),fun y=> ?_⟩;rw [iz,dz,h.ma,h.mb];constructor
 · rintro (h | h) <;> exact ⟨_,h⟩
 · rintro ⟨o,A⟩;rcases C.val y o A with rfl | rfl
   · exact .inl A
   · exact .inr A
theorem dd.QM (h:dd g a b) (A:eA g):gV g (bQ<|a++b)=sn g:=Bo (h.fin A)<|(iT _).imp GY
theorem dd.len (h:dd g a b) (L:eA g):(bQ<|a++b).length=a.length+b.length:=by
 have I:(a++b).Nodup:=yB.2 ⟨xQ h.ua,xQ h.ub,fun x A y J e=>by
  subst e;have :=((h.ma x).1 A).symm.trans<|(h.mb x).1 J;cases this⟩
 have C:=wX I (b:=bQ<|a++b) fun x A=>iz.2 A;have E:=oD<|a++b;rw [bo] at C E;omega
theorem dd.eV {n:Nat} (h:dd g a b) (A:eA g) (C:dh g n):a.length+b.length=n:=by
 rw [← h.len A]; exact (h.fin A).eV C
theorem dd.ext (h:dd g a b) (A:dd g' a' b') (C:eA g) (I:eA g'):(a=a'∧b=b')↔g=g':=by
 constructor
 · rintro ⟨rfl,rfl⟩;funext x;have k:∀ {g g':List UInt8→Option Int},dd g a b→dd g' a b→eA g→∀ o,g x=some o→g' x=some o:=fun {g g'} h A C o E=>by
    rcases C.val x o E with rfl | rfl
    · exact (A.ma x).1<|(h.ma x).2 E
    · exact (A.mb x).1<|(h.mb x).2 E
   cases hx:g x with
   | some o=>exact (k h A C o hx).symm
   | none=>
     cases hx':g' x with
     | none=>rfl
     | some o=>rw [k A h I o hx'] at hx; cases hx
 · rintro rfl;exact ⟨uz h.ua A.ua fun x=>(h.ma x).trans (A.ma x).symm,uz h.ub A.ub fun x=>(h.mb x).trans (A.mb x).symm⟩
end
end Go.Hb
end
section
namespace Go.Hb
open Go Go.ChangeShapes
theorem PG {P:av} {n:String} {W:ai} {g:Nat} {cs:Array ah} (C:P.globalNamed n=some g) (A:W.var? P n=some cs):∃ e z,W.heap[g]? =some (.cells cs e z):=by
 unfold World.var? at A;rw [C] at A;simp only [Option.bind_some] at A;split at A
 · rename_i c e z h;cases A;exact ⟨e,z,h⟩
 · cases A
theorem kr {P:av} {n nm:String} {text:List UInt8} {r:List (String×DataW Unit)} {W:ai} {g:Nat} {L E te I:au} {ms:Array (String×au)} {f:Field}
 (h:laidMet P ((n,.iface nm (.ptr<|.agg [.lit (.string text)]))::r) W)
 (A:P.globalNamed n=some g) (ae:(P.globals[g]?).map (·.type)=some L) (hi:P.underlying L=some (.interface ms)) (ac:∀ u,P.typeName? 3 u=some nm→u=E)
 (hp:P.underlying E=some (.pointer te)) (he:P.underlying te=some (.struct #[f])) (aa:f.type=I) (Z:f.offset=0) (ad:P.underlying I=some .string) (O:P.cellsOf te=1) (V:P.cellsOf I=1):
 ∃ (a:aW) (e:Nat),a.spot=none∧W.heap[g]? =some (.cells #[.iface E (.pointer<|some a)] e (0,0)):=by
 obtain ⟨a,s,J,U,_,_⟩:=laid_sentinel h A ae hi ac hp he aa Z ad O V;obtain ⟨e,z,hw⟩:=PG A J;obtain ⟨ps,⟨g0,t0,aj,f0,am,an,ab,al,ag,ak,_,M⟩,_,hrows⟩:=h;obtain rfl :=gJ<|A.symm.trans ab;subst M;have ah:=gJ<|J.symm.trans ag;subst ah;obtain ⟨⟨c,t,C⟩,_⟩:=hrows g 0<|by simp [MemPlace.row]
 rw [hw] at C;simp only [bR,Obj.cells.injEq] at C;obtain ⟨_,_,rfl⟩:=C;exact ⟨a,e,World.cell?_spot U,hw⟩
theorem dY.nil {T:Nat} {w:ai} :dY T [] w:=fun g h=>by cases h
theorem dY.cons {T g:Nat} {l:List Nat} {w:ai} (h:∃ (a:aW) (e:Nat),a.spot=none∧w.heap[g]? =some (.cells #[.iface T (.pointer<|some a)] e (0,0))) (C:dY T l w):dY T (g::l) w:=fun k A=>by
 rcases ej.1 A with rfl | A
 · exact h
 · exact C k A
theorem dY.sub {T:Nat} {l m:List Nat} {w:ai} (h:dY T l w) (C:∀ g∈m,g∈l):dY T m w:=fun g A=>h g<|C g A
end Go.Hb
end
section
namespace Go.Hb
abbrev aQ (n:Nat):ah:= .int .i64 (n:Nat)
abbrev aA (b:Nat):ah:= .pointer<|some ⟨b,0,none⟩
variable {P:av} {N:Fm} {ops:Array Oper} {Q:Exit→(Nat→ah)→ai→Prop} {σ:Nat→ah} {w:ai} {S:ai→Prop} {r fuel:Nat} {listed:Array Bool} {d:Nat} {op:Op} {ty:au} {pos :String} {af:Array Edge} {v:ah}
theorem gP (i:Nat) (hi:ops[i]? =some ⟨some d,op,ty,pos,af,none⟩) (E:∀ w,S w→(execOp (ev N σ) ⟨some d,op,ty,pos,af,none⟩).run P w= .ok (.value v) w) (A:S w) (k:dr P N ops Q S fuel (listed.setIfInBounds i true) (bI σ d v) w) (C:fX N.F ops listed i=true :=by kernel_rfl):dr P N ops Q S (fuel+1) listed σ w:=hp i hi C E A k
theorem tP (i:Nat) (hi:ops[i]? =some ⟨some d,op,ty,pos,af,none⟩) (E:∀ w,S w→(execOp (ev N σ) ⟨some d,op,ty,pos,af,none⟩).run P w= .ok (.value v) w) (A:S w) (k:db P N ops Q S r fuel (listed.setIfInBounds i true) (bI σ d v) w) (C:zM N.F ops listed r i=true :=by kernel_rfl):db P N ops Q S r (fuel+1) listed σ w:=Fb i hi C E A k
theorem NO (i:Nat) (hi:ops[i]? =some ⟨some d,op,ty,pos,af,none⟩) (E:∀ w,(execOp (ev N σ) ⟨some d,op,ty,pos,af,none⟩).run P w= .ok (.value v) w) (A:listed.getD r false =false→S w) (k:db P N ops Q S r fuel (listed.setIfInBounds i true) (bI σ d v) w) (C:px N.F ops listed r i=true :=by kernel_rfl):db P N ops Q S r (fuel+1) listed σ w:=tQ i hi C E A k
theorem cB (i:Nat) (hi:ops[i]? =some ⟨some d,op,ty,pos,af,none⟩) (E:∀ {w},(execOp (ev N σ) ⟨some d,op,ty,pos,af,none⟩).run P w= .ok (.value v) w) (A:S w) (k:dr P N ops Q S fuel (listed.setIfInBounds i true) (bI σ d v) w) (C:fX N.F ops listed i=true :=by kernel_rfl):dr P N ops Q S (fuel+1) listed σ w:=hp i hi C (fun _ _=>E) A k
theorem NN (i:Nat) (hi:ops[i]? =some ⟨some d,op,ty,pos,af,none⟩) (E:∀ {w},(execOp (ev N σ) ⟨some d,op,ty,pos,af,none⟩).run P w= .ok (.value v) w) (A:S w) (k:db P N ops Q S r fuel (listed.setIfInBounds i true) (bI σ d v) w) (C:q7 N.F ops listed r i=true :=by kernel_rfl):db P N ops Q S r (fuel+1) listed σ w:=lq i hi C (fun _ _=>E) A k
theorem Ai (i:Nat) (hi:ops[i]? =some ⟨some d,op,ty,pos,af,none⟩) (E:∀ {w},(execOp (ev N σ) ⟨some d,op,ty,pos,af,none⟩).run P w= .ok (.value v) w) (A:S w) (k:db P N ops Q S r fuel (listed.setIfInBounds i true) (bI σ d v) w) (C:px N.F ops listed r i=true :=by kernel_rfl):db P N ops Q S r (fuel+1) listed σ w:=tQ i hi C (fun _=>E) (fun _=>A) k
theorem zT {x:bu} (i:Nat) (hi:ops[i]? =some ⟨some d,.move x,ty,pos,af,none⟩) (v:ah) (A:S w) (k:dr P N ops Q S fuel (listed.setIfInBounds i true) (bI σ d v) w) (E:ev N σ x=v:=by exact U) (C:fX N.F ops listed i=true :=by kernel_rfl):dr P N ops Q S (fuel+1) listed σ w:=hp i hi C (fun _ _=>pN v E) A k
theorem R4 {x:bu} (i:Nat) (hi:ops[i]? =some ⟨some d,.move x,ty,pos,af,none⟩) (v:ah) (A:S w) (k:db P N ops Q S r fuel (listed.setIfInBounds i true) (bI σ d v) w) (E:ev N σ x=v:=by exact U) (C:px N.F ops listed r i=true :=by kernel_rfl):db P N ops Q S r (fuel+1) listed σ w:=tQ i hi C (fun _=>pN v E) (fun _=>A) k
theorem lx {P:av} {f:FuncId} {fn:Func} (A:P.funcs[f]? =some fn) (hn:(fn.name== "runtime.NumGoroutine")=false :=by kernel_rfl) (hb:fn.body.isNone=false :=by kernel_rfl):gD P f:=y8 A hn hb
section
variable {rest:List Oper} {x:bu} {K:(Nat→ah)→ai→Prop} {l:List Oper} {id:Nat} {y z:Code} {j t:Nat} {want b:Bool} {fn:Func} {R:ah→ai→Prop}
theorem R8 (h:∀ {K:(Nat→ah)→ai→Prop},(∀ {σ w},bU P N y Q σ w→iU K Q .normal σ w)→bU P N z (iU K Q) σ w):bU P N (.seq z y) Q σ w:=sq fun K A=>h fun hw=>A _ _ hw
theorem R9 (h:∀ {K:(Nat→ah)→ai→Prop},(∀ {σ w},bU P N y Q σ w→iU K Q .normal σ w)→cH P N l.toArray (iU K Q) l σ w) (hr:mu N.r l=true :=by exact U):bU P N (.seq (.region id l.toArray false) y) Q σ w:=sq fun K A=>rg hr<|h fun hw=>A _ _ hw
theorem RZ (h:Q .normal (bI σ d<|ev N σ x) w):cH P N ops Q [⟨some d,.assign x,ty,pos,af,none⟩] σ w:=p aU<|nl h
theorem cj {id:Nat} (h:Q (.exit id) σ w):iU K Q (.exit id) σ w:=h
theorem R6 (h:(fj ops j,ba t N.n,σ t,b==want)=(some t,true,.bool b,false)) (k:cH P N ops Q rest (bI σ d undef) w):cH P N ops Q (⟨some d,op,ty,pos,af,some (j,want)⟩::rest) σ w:=sk (congrArg dj h) (congrArg (·.2.1) h) (congrArg (·.2.2.1) h) (congrArg (·.2.2.2) h) k
theorem R7 (h:(fj ops j,ba t N.n,σ t)=(some t,true,undef)) (k:cH P N ops Q rest (bI σ d undef) w):cH P N ops Q (⟨some d,op,ty,pos,af,some (j,want)⟩::rest) σ w:=GV (congrArg dj h) (congrArg (·.2.1) h) (congrArg (·.2.2) h) k
theorem bA (h:(fj ops j,ba t N.n,σ t)=(some t,true,.bool want)) (A:(execOp (ev N σ) ⟨some d,op,ty,pos,af,some (j,want)⟩).run P w= .ok (.value v) w) (k:cH P N ops Q rest (bI σ d v) w):cH P N ops Q (⟨some d,op,ty,pos,af,some (j,want)⟩::rest) σ w:=pg (congrArg dj h) (congrArg (·.2.1) h) (congrArg (·.2.2) h) A k
theorem R3 (i:Nat) (h:(ops[i]?,fj ops j,ba t N.n,σ t,b==want)=(some ⟨some d,op,ty,pos,af,some (j,want)⟩,some t,true,.bool b,false)) (A:S w) (k:dr P N ops Q S fuel (listed.setIfInBounds i true) (bI σ d undef) w) (C:fX N.F ops listed i=true :=by kernel_rfl):dr P N ops Q S (fuel+1) listed σ w:=EE i (congrArg dj h) C (congrArg (·.2.1) h) (congrArg (·.2.2.1) h) (congrArg (·.2.2.2.1) h) (congrArg (·.2.2.2.2) h) A k
theorem eo (i:Nat) (h:(ops[i]?,fj ops j,ba t N.n,σ t)=(some ⟨some d,op,ty,pos,af,some (j,want)⟩,some t,true,.bool want)) (E:∀ w,S w→(execOp (ev N σ) ⟨some d,op,ty,pos,af,some (j,want)⟩).run P w= .ok (.value v) w) (A:S w) (k:dr P N ops Q S fuel (listed.setIfInBounds i true) (bI σ d v) w) (C:fX N.F ops listed i=true :=by kernel_rfl):dr P N ops Q S (fuel+1) listed σ w:=ED i (congrArg dj h) C (congrArg (·.2.1) h) (congrArg (·.2.2.1) h) (congrArg (·.2.2.2) h) E A k
theorem aE (h:(fn.results,ev N σ (.tmp t))=(#[.tmp t],v)) (A:R v w):fin P fn N R .ret σ w:=f1 (congrArg dj h) (congrArg Prod.snd h) A
theorem gH (v:ah) (h:cH P N ops Q rest (bI σ d v) w) (A:ev N σ x=v:=by exact U):cH P N ops Q (⟨some d,.move x,ty,pos,af,none⟩::rest) σ w:=p (pN v A) h
end
end Go.Hb
end
namespace Go.Hb.dN
theorem JT:dA aq 154=some (some 2):=an
theorem JU:dA aq 181=some (some 2):=an
theorem Ci:dA aq 195=some (some 2):=an
theorem Cj:dA aq 244=some (some 2):=an
theorem Cm:dA aq 250=some (some 2):=an
theorem vA:dA aq 251=some (some 2):=an
theorem Cn:dA aq 29=some (some 3):=an
theorem Co:dA aq 33=some none:=an
theorem ta:dA aq 35=some (some 3):=an
theorem o8:dA aq 60=some (some 7):=an
theorem tc:dA aq 65=some (some 2):=an
theorem JV:dA aq 79=some (some 2):=an
theorem td:dA aq 92=some (some 7):=an
theorem Cz:mW aq 340=some (256,1):=an
theorem CA:mW aq 58=some (4,1):=an
theorem CB:mW aq 90=some (4,1):=an
theorem nW:nX aq 100 5 9=true :=an
theorem Kq:gD aq 112:=lx func112
theorem CO:gD aq 123:=lx func123
theorem Kr:gD aq 132:=lx func132
theorem Ks:gD aq 69:=lx func69
theorem qO:gD aq 70:=lx func70
theorem tt:gD aq 71:=lx func71
theorem jJ:gD aq 72:=lx func72
theorem Kt:gD aq 74:=lx func74
theorem Ku:gD aq 76:=lx func76
theorem Kv:gD aq 77:=lx func77
theorem Kw:gD aq 80:=lx func80
theorem C2:∀ v w,(callFunc 129 #[v]).run aq w= .ok (.value v) w:=fun v w=>an
theorem C3:cO aq 100=some 1:=an
theorem Le:cO aq 154=some 2:=an
theorem Lg:cO aq 181=some 2:=an
theorem Lh:cO aq 193=some 1:=an
theorem C4:cO aq 195=some 2:=an
theorem Li:cO aq 244=some 2:=an
theorem Lj:cO aq 248=some 1:=an
theorem C5:cO aq 250=some 2:=an
theorem vK:cO aq 251=some 2:=an
theorem pd:cO aq 27=some 1:=an
theorem Lk:cO aq 29=some 3:=an
theorem fW:cO aq 3=some 1:=an
theorem Ll:cO aq 32=some 1:=an
theorem zh:cO aq 33=some 1:=an
theorem vL:cO aq 35=some 3:=an
theorem C6:cO aq 4=some 1:=an
theorem C7:cO aq 5=some 1:=an
theorem Lm:cO aq 56=some 1:=an
theorem Ln:cO aq 57=some 1:=an
theorem qQ:cO aq 60=some 7:=an
theorem Lo:cO aq 63=some 1:=an
theorem zi:cO aq 65=some 2:=an
theorem C8:cO aq 66=some 1:=an
theorem Lp:cO aq 75=some 1:=an
theorem Lq:cO aq 79=some 2:=an
theorem Lr:cO aq 82=some 1:=an
theorem C9:cO aq 83=some 1:=an
theorem Lt:cO aq 88=some 1:=an
theorem Lu:cO aq 89=some 1:=an
theorem Da:cO aq 9=some 1:=an
theorem vM:cO aq 92=some 7:=an
theorem Lv:cO aq 99=some 1:=an
theorem qX:dB aq 100=some 1:=an
theorem tE:dB aq 169=some 2:=an
theorem vV:dB aq 193=some 2:=an
theorem L7:dB aq 22=some 3:=an
theorem qY:dB aq 248=some 2:=an
theorem dH:dB aq 27=some 1:=an
theorem DZ:dB aq 335=some 1:=an
theorem L8:dB aq 56=some 2:=an
theorem tF:dB aq 57=some 2:=an
theorem D0:dB aq 66=some 2:=an
theorem L9:dB aq 75=some 2:=an
theorem tG:dB aq 83=some 1:=an
theorem Ma:dB aq 88=some 2:=an
theorem vW:dB aq 89=some 2:=an
theorem MW:(aq.info? 102).isSome=true :=an
theorem EL:∀ (l:List UInt8) (c:UInt8) (w:ai),(callFunc 294 #[str l,.int .u8 c.toNat]).run aq w= .ok (.value<|.int .i64<|fA c l) w:=Ps func294 an an an an
theorem kQ:lV aq 9 dU:=z1 an
theorem wV:ml aq 33=true :=an
theorem OK:ptrTo aq 189 5=true :=an
theorem fF:eJ aq 100 5 1 1=true :=an
theorem xH:eJ aq 169 174 2 32=true :=an
theorem G0:eJ aq 193 244 2 16=true :=an
theorem G1:eJ aq 248 251 2 16=true :=an
theorem ew:eJ aq 27 9 1 16=true :=an
theorem P2:eJ aq 335 4 1 1=true :=an
theorem G2:eJ aq 56 154 2 32=true :=an
theorem G3:eJ aq 57 250 2 32=true :=an
theorem G4:eJ aq 66 65 2 48=true :=an
theorem G5:eJ aq 75 79 2 32=true :=an
theorem Be:eJ aq 83 1 1 8=true :=an
theorem G6:eJ aq 88 181 2 32=true :=an
theorem G7:eJ aq 89 195 2 32=true :=an
theorem P8:eG aq 149=some ([(0,1),(1,1),(2,1)],[.string ⟨⟨[]⟩⟩,.int .i64 0,.int .i64 0]):=an
theorem P9:eG aq 154=some ([(0,1),(1,1)],[.string ⟨⟨[]⟩⟩,.string ⟨⟨[]⟩⟩]):=an
theorem G8:eG aq 174=some ([(0,1),(1,1)],[.int .i64 0,.slice none 0 0]):=an
theorem Qa:eG aq 178=some ([(0,1),(1,1)],[.string ⟨⟨[]⟩⟩,.int .i64 0]):=an
theorem Qb:eG aq 181=some ([(0,1),(1,1)],[.string ⟨⟨[]⟩⟩,.string ⟨⟨[]⟩⟩]):=an
theorem Qc:eG aq 195=some ([(0,1),(1,1)],[.bool false,.slice none 0 0]):=an
theorem Qd:eG aq 244=some ([(0,1),(1,1)],[.int .u8 0,.int .i64 0]):=an
theorem Qe:eG aq 250=some ([(0,1),(1,1)],[.bool false,.slice none 0 0]):=an
theorem Bg:eG aq 251=some ([(0,1),(1,1)],[.int .u8 0,.int .i64 0]):=an
theorem Qf:eG aq 29=some ([(0,1),(1,1),(2,1)],[.int .i64 0,.slice none 0 0,.string ⟨⟨[]⟩⟩]):=an
theorem Qg:eG aq 333=some ([(0,1),(1,1),(2,1)],[.slice none 0 0,.int .i64 0,.slice none 0 0]):=an
theorem Qh:eG aq 337=some ([(0,1),(1,1),(2,1)],[.slice none 0 0,.int .i64 0,.slice none 0 0]):=an
theorem uo:eG aq 35=some ([(0,1),(1,1),(2,1)],[.int .i64 0,.int .i64 0,.int .i64 0]):=an
theorem Qi:eG aq 55=some ([(0,1),(1,1),(2,1),(3,1),(4,1)],[.int .i64 0,.int .i64 0,.int .i64 0,.int .i64 0,.int .i64 0]):=an
theorem xI:eG aq 60=some ([(0,1),(1,1),(2,1),(3,4)],[.int .i64 0,.string ⟨⟨[]⟩⟩,.slice none 0 0,.slice none 0 0,.slice none 0 0,.slice none 0 0,.slice none 0 0]):=an
theorem Qj:eG aq 65=some ([(0,1),(1,1)],[.slice none 0 0,.slice none 0 0]):=an
theorem G9:eG aq 68=some ([(0,2),(2,1)],[.slice none 0 0,.slice none 0 0,.slice none 0 0]):=an
theorem Qk:eG aq 70=some ([(0,1),(1,7),(8,1),(9,1)],[.pointer none,.int .i64 0,.string ⟨⟨[]⟩⟩,.slice none 0 0,.slice none 0 0,.slice none 0 0,.slice none 0 0,.slice none 0 0,.pointer none,.pointer none]):=an
theorem Ql:eG aq 79=some ([(0,1),(1,1)],[.int .i64 0,.slice none 0 0]):=an
theorem Qm:eG aq 85=some ([(0,1),(1,1),(2,1)],[.pointer none,.map none,.slice none 0 0]):=an
theorem Ha:eG aq 92=some ([(0,1),(1,1),(2,1),(3,4)],[.int .i64 0,.string ⟨⟨[]⟩⟩,.slice none 0 0,.slice none 0 0,.slice none 0 0,.slice none 0 0,.slice none 0 0]):=an
theorem Qn:eG aq 96=some ([(0,7),(7,1)],[.int .i64 0,.string ⟨⟨[]⟩⟩,.slice none 0 0,.slice none 0 0,.slice none 0 0,.slice none 0 0,.slice none 0 0,.string ⟨⟨[]⟩⟩]):=an
theorem sr:aq.underlying 150=some (.int .u64):=an
theorem HG:aq.underlying 190=some (.pointer 195):=an
theorem QN:aq.underlying 24=some (.pointer 70):=an
theorem u3:aq.underlying 3=some (.int .i64):=an
theorem u32:aq.underlying 32=some (.pointer 85):=an
theorem u4:aq.underlying 4=some (.bool):=an
theorem ss:aq.underlying 40=some (.pointer 96):=an
theorem gI:aq.underlying 82=some (.map 9 3):=an
theorem QO:aq.underlying 83=some (.slice 1):=an
theorem u9:aq.underlying 9=some (.string):=an
theorem HK:aq.underlying 99=some (.pointer 102):=an
theorem HM:pZ aq 99 269 102 2=true :=an
theorem oI:(aq.underlying 150).isSome=true :=an
theorem Bt:(aq.underlying 3).isSome=true :=an
theorem Bu:(aq.underlying 5).isSome=true :=an
theorem wide:aq.follows .mixedOrders=true :=an
theorem x9:zeroOf aq 102=some (some [.pointer none,.slice none 0 0]):=an
theorem RK:zeroOf aq 154=some (some [.string ⟨⟨[]⟩⟩,.string ⟨⟨[]⟩⟩]):=an
theorem RL:zeroOf aq 181=some (some [.string ⟨⟨[]⟩⟩,.string ⟨⟨[]⟩⟩]):=an
theorem Ib:zeroOf aq 195=some (some [.bool false,.slice none 0 0]):=an
theorem RM:zeroOf aq 244=some (some [.int .u8 0,.int .i64 0]):=an
theorem Ic:zeroOf aq 250=some (some [.bool false,.slice none 0 0]):=an
theorem Ie:zeroOf aq 251=some (some [.int .u8 0,.int .i64 0]):=an
theorem RN:zeroOf aq 29=some (some [.int .i64 0,.slice none 0 0,.string ⟨⟨[]⟩⟩]):=an
theorem RO:zeroOf aq 3=some (some [.int .i64 0]):=an
theorem RP:zeroOf aq 33=some (some [.int .i64 0]):=an
theorem If:zeroOf aq 35=some (some [.int .i64 0,.int .i64 0,.int .i64 0]):=an
theorem BJ:zeroOf aq 60=some (some [.int .i64 0,.string ⟨⟨[]⟩⟩,.slice none 0 0,.slice none 0 0,.slice none 0 0,.slice none 0 0,.slice none 0 0]):=an
theorem RQ:zeroOf aq 65=some (some [.slice none 0 0,.slice none 0 0]):=an
theorem RR:zeroOf aq 75=some (some [.slice none 0 0]):=an
theorem RT:zeroOf aq 79=some (some [.int .i64 0,.slice none 0 0]):=an
theorem RU:zeroOf aq 82=some (some [.map none]):=an
theorem Ig:zeroOf aq 92=some (some [.int .i64 0,.string ⟨⟨[]⟩⟩,.slice none 0 0,.slice none 0 0,.slice none 0 0,.slice none 0 0,.slice none 0 0]):=an
theorem RV:zeroOf aq 340=some (some<|eM 256<|.bool false):=an
theorem RW:zeroV aq 1=some (.nilFunc):=an
theorem sB:zeroV aq 3=some (.int .i64 0):=an
theorem RX:zeroV aq 33=some (.int .i64 0):=an
end Go.Hb.dN
section
namespace Go.Hb
open Go.Hb.dN
theorem CY (b:Nat) (A:Option aW) (E:ah) (w:ai) (hb:w.heap[b]? =some (.cells [cZ A,E].toArray 102 (0,0))) (hp:A=none∨A=some ⟨b,0,none⟩):
 aZ aq 81 (bd [aA b]) w (fun v w'=>v= .tuple #[]∧w'.heap[b]? =some (.cells [cZ (some ⟨b,0,none⟩),E].toArray 102 (0,0))∧Md (fun k=>k=b) w w'):=by
 refine enter func81 U ntmps81 U<|aP 5 U<|p (ay U<|(eB hb).trans U)<|p (iM HK U U)<|aC 2 U<|cb U (fun C=> ?_) fun C=> ?_;obtain rfl :A=none:=by simpa using C
 exact az 3 U<|p (Hx HM U hb U)<|p (K0 C2 U)<|p (Ep HM U hb U)<|aj 2 U<|e<|fl Lv U U U hb (by simp) fun w1 J I=>ar 1 U<|f0 U<|⟨U,I,J⟩
 obtain rfl :A=some ⟨b,0,none⟩:=hp.resolve_left<|by rintro rfl; simp at C
 exact az 5 U<|p (ay U<|(eB hb).trans U)<|aj 1 U<|p (N6 HK MW U U)<|ar 4 U<|f0 U<|⟨U,hb,Md.refl _ _⟩
theorem qc (b:Nat) (C:ah) (l:List UInt8) (c:UInt8) (w:ai) (hb:Bd 102 5 w b C l) (aD:l.length≤70368744177664):
 aZ aq 36 (bd [aA b,.int .u8 c.toNat]) w (fun v w'=>v= .nilIface∧∃ L,Bd 102 5 w' b L (l++ [c])∧Md (BF b C) w w'∧∀ k,BF b L k→BF b C k∨w.heap.size≤k):=by
 obtain ⟨⟨av,aa,ao⟩,hown,hnil⟩:=hb;have aF:b < w.heap.size:=(cx.1 aa).1;have ab:∀ k,C.ownBlock=some k→k≠b∧k < w.heap.size:=fun k A=>by have :=hown.lt k A; exact ⟨ag,this.2⟩
 refine enter func36 U ntmps36 U<|aP 8 U<|e<|aI (CY b av C w aa ao) U ?_;rintro v6 aL ⟨_,Z,I⟩;have an:=cC hown I fun k A=>(ab k A).1;have aG:=I.size;refine aj 8 U<|p (ay U<|(eB Z).trans U)<|aj 1 U<|e<|fh fF U U fun aw aH aC E ae=>e<|ap fF (aR an E.md) U (by have :=E.size; omega) U (aT.dD ae) (U) (U) ag ag fun ac aJ J O au am=> ?_;have al:=O.ax (Wk.ax E.md Z) fun h=>(ab b h).1 rfl;refine aj 2 U<|e<|fl C3 U U (by obtain ⟨a,c,h,_⟩:=uc J; exact congrArg lh h) al (by simp) fun aK V ak=>ar 8 U<|aE U ?_;have ad:∀ k,ac.ownBlock=some k→k≠b:=fun k A=>by have :=J.lt k A; omega
 refine ⟨U,ac,⟨⟨_,ak,.inr U⟩,?_,?_⟩,?_,?_⟩;rw [bo,yP]; exact cC J V fun k A=>ad k A;rw [au]; simp;refine Md.trans' (Md.trans' (Md.trans' (I.mono fun k _ h=> .inl h) E.md fun _ _ h=>h.elim) O fun k _ h=> .inr h) V fun k _ h=> .inl h;rintro k (rfl | A);exact .inl<|.inl U;by_cases h:C.ownBlock=some k;exact .inl<|.inr h;have :=am k A; have az:=I.size; have aB:=E.md.size; exact .inr<|by rcases this with M | M; exact absurd M h; omega
theorem RD (b:Nat) (C:ah) (l m:List UInt8) (w:ai) (hb:Bd 102 5 w b C l) (au:l.length+m.length≤70368744177664):
 aZ aq 37 (bd [aA b,str m]) w (fun v w'=>v= .tuple #[.int .i64 m.length,.nilIface]∧∃ J,Bd 102 5 w' b J (l++m)∧Md (BF b C) w w'∧∀ k,BF b J k→BF b C k∨w.heap.size≤k):=by
 obtain ⟨⟨ao,Z,am⟩,hown,hnil⟩:=hb;have av:b < w.heap.size:=(cx.1 Z).1;have aa:∀ k,C.ownBlock=some k→k≠b∧k < w.heap.size:=fun k A=>by have :=hown.lt k A; exact ⟨ag,this.2⟩
 refine enter func37 U ntmps37 U<|aP 9 U<|e<|aI (CY b ao C w Z am) U ?_;rintro az aD ⟨_,V,E⟩;have al:=cC hown E fun k A=>(aa k A).1;have aw:=E.size;refine aj 8 U<|p (ay U<|(eB V).trans U)<|aj 1 U<|e<|J2 nW (al) U ag U ag fun ab aB I M an ak=> ?_;have ae:=M.ax V fun h=>(aa b h).1 rfl;refine aj 2 U<|e<|fl C3 U U (by obtain ⟨a,c,h,_⟩:=uc I; exact congrArg lh h) ae (by simp) fun aC O ad=>ar 11 U<|f2 U U U ?_;have ac:∀ k,ab.ownBlock=some k→k≠b:=fun k A=>by have :=I.lt k A; omega
 refine ⟨U,ab,⟨⟨_,ad,.inr U⟩,?_,?_⟩,?_,?_⟩;rw [bo,yP]; exact cC I O fun k A=>ac k A;rw [an,hnil]; simp;exact Md.trans' (Md.trans' (E.mono fun k _ h=> .inl h) M fun k _ h=> .inr h) O fun k _ h=> .inl h;rintro k (rfl | A);exact .inl<|.inl U;by_cases h:C.ownBlock=some k;exact .inl<|.inr h;have :=ak k A; have ap:=E.size; exact .inr<|by rcases this with L | L; exact absurd L h; omega
theorem uw (b:Nat) (I:ah) (l:List UInt8) (w:ai) (hb:Bd 102 5 w b I l) (aa:l.length≤70368744177664):
 aZ aq 39 (bd [aA b]) w (fun v w'=>v=str l∧Md (fun k=>I.ownBlock=some k) w w'):=by
 obtain ⟨⟨ad,J,ab⟩,hown,hnil⟩:=hb;obtain ⟨a,c,rfl,O,hle,V,Z⟩:=uc hown;refine enter func39 U ntmps39 U<|bV 6 U ?_;have A:(fun w'=>Md (fun k=>(ff a l.length c).ownBlock=some k) w w') w.drew:=(Md.refl _ _).drew;refine bK (fun w'=>Md (fun k=>(ff a l.length c).ownBlock=some k) w w') U wide A<|aY [0,1,2] U A<|gP 3 U (fun w' C=>ay U<|C.aH ((eB J).trans U) fun h=>by have :=hown.lt _ h; omega) A<|aY [5,6,7] U A<|gP 8 U (fun w' C=>ay U<|C.aH ((eB J).trans U) fun h=>by have :=hown.lt _ h; omega) A<|aY [9] U A ?_;refine cB 4 U (Bv (v:= .nilFunc) U (by
  by_cases h:l= []
  have :=hnil.2 h; simp only [mO] at this; exact .inl this.1;right; have :0 < l.length:=List.length_pos_iff.2 h; omega)) A ?_
 refine he 10 U an<|Q7 OK U U hown U ag fun M L ac=> ?_;have E:(fun w'=>Md (fun k=>(ff a l.length c).ownBlock=some k) w w') M:=A.trans' L fun _ _ h=>h;refine ⟨E,?_⟩;exact cB 11 U (aU) E<|hn an<|bg 2 U<|aE U<|⟨U,E⟩
end Go.Hb
end
section
namespace Go.Hb
open Go.Hb.dN
theorem iN (b:UInt8):jS b=decide ((b.toNat:Int)=92∨(b.toNat:Int)=47∨(b.toNat:Int)=35):=by
 unfold jS; exact decide_eq_decide.2 ag
theorem zD (b:UInt8):gN b=decide (32 < (b.toNat:Int)∧(b.toNat:Int)≠127):=by
 unfold gN; exact decide_eq_decide.2 ag
theorem Mt {b:UInt8} (h:32 < (b.toNat:Int)) (A:(b.toNat:Int)≠127):gN b=true :=by rw [zD]; exact decide_eq_true ⟨h,A⟩
theorem zC {b:UInt8} (h:¬(32 < (b.toNat:Int)∧(b.toNat:Int)≠127)):gN b=false :=by rw [zD]; exact decide_eq_false h
theorem Ee (b:UInt8) (w:ai):
 aZ aq 117 (bd [.int .u8 b.toNat]) w (fun v w'=>v= .bool (gN b)∧Wk w w'):=by
 refine enter func117 U ntmps117 U<|aP 10 U<|gs (t:=5) U (fun A=> ?_) fun A=> ?_;exact ar 7 U<|aE U<|⟨by show bB (decide _)=_; rw [zD]; exact bv (by constructor <;> intro h <;> first | exact ⟨ag,h⟩ | exact h.2),Md.refl _ _⟩
 exact aj 3 U<|p aU<|ar 3 U<|aE U<|⟨by show bB false =_; rw [zC ag],Md.refl _ _⟩
theorem Fk (b:UInt8) (w:ai):
 aZ aq 82 (bd [.int .u8 b.toNat]) w (fun v w'=>v= .bool (jS b)∧Wk w w'):=by
 refine enter func82 U ntmps82 U<|bV 19 U<|cd U (fun A=> ?_) fun A=> ?_;refine bD 2 U<|cd U (fun A=> ?_) fun A=> ?_;refine aB 8 U<|aE U ?_
 first | exact ⟨by show bB true =_; rw [iN,decide_eq_true ag],Md.refl _ _⟩ | exact ⟨by show bB false =_; rw [iN,decide_eq_false ag],Md.refl _ _⟩
 refine aB 9 U<|aE U ?_
 first | exact ⟨by show bB true =_; rw [iN,decide_eq_true ag],Md.refl _ _⟩ | exact ⟨by show bB false =_; rw [iN,decide_eq_false ag],Md.refl _ _⟩
 refine bD 6 U<|cd U (fun A=> ?_) fun A=> ?_;refine bD 2 U<|cd U (fun A=> ?_) fun A=> ?_;refine aB 8 U<|aE U ?_
 first | exact ⟨by show bB true =_; rw [iN,decide_eq_true ag],Md.refl _ _⟩ | exact ⟨by show bB false =_; rw [iN,decide_eq_false ag],Md.refl _ _⟩
 refine aB 9 U<|aE U ?_
 first | exact ⟨by show bB true =_; rw [iN,decide_eq_true ag],Md.refl _ _⟩ | exact ⟨by show bB false =_; rw [iN,decide_eq_false ag],Md.refl _ _⟩
 refine bD 5 U<|cd U (fun A=> ?_) fun A=> ?_;refine aB 8 U<|aE U ?_
 first | exact ⟨by show bB true =_; rw [iN,decide_eq_true ag],Md.refl _ _⟩ | exact ⟨by show bB false =_; rw [iN,decide_eq_false ag],Md.refl _ _⟩
 refine aB 9 U<|aE U ?_
 first | exact ⟨by show bB true =_; rw [iN,decide_eq_true ag],Md.refl _ _⟩ | exact ⟨by show bB false =_; rw [iN,decide_eq_false ag],Md.refl _ _⟩
theorem Bx (s:List UInt8) (w:ai) (ac:s.length≤1048576):
 aZ aq 65 (bd [str s]) w (fun v w'=>v= .bool (dK s)∧Wk w w'):=by
 refine enter func65 U ntmps65 U<|aP 11 U<|gs (t:=6) U (fun E=> ?_) fun E=> ?_;exact ar 14 U<|aE U<|⟨by show bB false =_; unfold dK; rw [decide_eq_false (by rw [E]; simp)],Md.refl _ _⟩
 refine aC 6 U<|cd U (fun Z=> ?_) fun Z=> ?_;exact aB 7 U<|aE U<|⟨by show bB false =_; unfold dK; rw [decide_eq_false ag],Md.refl _ _⟩
 refine bD 11 U<|lp (fun J V O=> ∃ (i:Nat),(i≤s.length∧1≤s.length∧s.length≤64)∧(∀ j,j < i→gN (s.getD j 0)=true)∧(Wk w O)∧(Sl V [(0,str s),(12,.int .i64 s.length),(13,.int .i64 i)])∧(s.length - i=J)) _ ⟨0,(⟨ag,by rcases Nat.eq_zero_or_pos s.length with h | h <;> first | exact absurd (List.length_eq_zero_iff.1 h) E | exact h,ag⟩),(fun j M=>by omega),(Md.refl _ _),U,U⟩ ?_;rintro J V O ⟨i,hi,hp,A,ab,rfl⟩;refine bE ab<|bV 6 U<|cd U (fun aa=> ?_) fun aa=> ?_;refine az 14 U<|p (dc u9 U U ag)<|e<|aI (Ee (s.getD i 0) _) U ?_;rintro ad ae ⟨rfl,L⟩;refine aC 3 U<|cb U (fun C=> ?_) fun C=> ?_;have I:gN (s.getD i 0)=false :=by simpa using C
 exact aB 8 U<|tr<|bg 2 U<|aE U<|⟨by show bB false =_; unfold dK; rw [tq (i:=i) ag I,decide_eq_false (by simp)],Md.trans A L⟩
 have I:gN (s.getD i 0)=true :=by simpa using C
 exact aB 7 U<|tn<|⟨_,ag,i+1,ag,(fun j M=>by rcases dM j i with h | h <;> first | exact hp j h | (rw [show j=i by omega]; exact I)),(Md.trans A L),U,U⟩
 exact aB 2 U<|cj<|bg 8 U<|aE U<|⟨by show bB true =_; unfold dK; rw [vG (fun j M=>hp j ag),decide_eq_true ⟨hi.2.1,hi.2.2,U⟩],A⟩
theorem RE (s:List UInt8) (w:ai) (aM:s.length≤1048576):
 aZ aq 38 (bd [str s]) w (fun v w'=>v=str (eH s)∧Wk w w'):=by
 refine enter func38 U ntmps38 U<|aP 7 U<|e<|fK x9 fun A aV aH aw al=>aC 11 U<|lp (fun ab ad aa=> ∃ (i:Nat) (C:ah),(i≤s.length)∧(Bd 102 5 aa A C<|eH<|s.take i)∧(Wk w aa)∧(Sl ad [(0,str s),(3,aA A),(6,.int .i64 s.length),(7,.int .i64 i)])∧(s.length - i=ab)) _ ⟨0,.slice none 0 0,ag,(Bd.new al),aw.md,U,U⟩ ?_;rintro ab ad aa ⟨i,C,hi,J,M,aD,rfl⟩;refine bE aD<|bV 6 U<|cd U (fun ax=> ?_) fun ax=> ?_;refine bD 10 U ?_;refine ei (fun ae Z=> ∃ (I:ah) (E:List UInt8),(E.length≤2 *i+1)∧(Bd 102 5 Z A I E)∧(Wk w Z)∧(E++ [s.getD i 0]=eH (s.take<|i+1))∧(Sl ae [(0,str s),(3,aA A),(4,.int .i64 i),(6,.int .i64 s.length),(7,.int .i64 i)])) ?_ ?_;refine aP 4 U<|p (dc u9 U U ag)<|e<|aI (Fk (s.getD i 0) _) U ?_;rintro aN aR ⟨rfl,O⟩;have L:=J.md O fun _ _ h=>h;have aG:=sw<|s.take i;rw [bY] at aG;refine aC 2 U<|cb U (fun V=> ?_) fun V=> ?_;refine az 1 U<|e<|aI (qc A C (eH<|s.take i) (92) _ L ag) U ?_;rintro aO aS ⟨rfl,aj,am,ap,aJ⟩;exact ar 1 U<|tn<|⟨aj,eH (s.take i)++ [92],(by rw [bo,dE]; omega),am,(L.step (Md.trans M O) ap ag),(by rw [sA ag,if_pos V,iF]; rfl),U⟩
 exact aB 1 U<|tn<|⟨C,eH (s.take i),ag,L,(Md.trans M O),(by rw [sA ag,if_neg (by rw [V]; exact dS)]),U⟩
 rintro ae Z ⟨I,E,aL,ac,ao,ay,aF⟩;refine bE aF<|az 3 U<|p (dc u9 U U ag)<|e<|aI (qc A I (E) (s.getD i 0) _ ac ag) U ?_;rintro aQ aT ⟨rfl,ak,an,au,aK⟩;exact ar 7 U<|tn<|⟨_,ag,i+1,ak,ag,(by rw [← ay]; exact an),(ac.step ao au ag),U,U⟩
 refine aB 2 U<|cj<|fY 4 U<|e<|aI (uw A C (eH<|s.take i) _ J<|by have :=sw (s.take i); rw [bY] at this; omega) U ?_;rintro v20 aU ⟨rfl,av⟩;exact ar 4 U<|aE U<|⟨by show str (eH<|s.take i)=_; rw [show s.take i=s from ja ag],J.uv M av ag⟩
theorem RC (s:List UInt8) (w:ai) (aQ:s.length≤1048576):
 aZ aq 64 (bd [str s]) w (fun v w'=>v=Gf (iC s)∧Wk w w'):=by
 refine enter func64 U ntmps64 U<|aP 10 U<|e<|fK x9 fun A aX aM ax am=>aC 9 U<|lp (fun ab ae M=> ∃ (i:Nat) (acc:List UInt8) (C:ah),(i≤s.length∧acc.length≤i)∧(Bd 102 5 M A C acc)∧(Wk w M)∧(fq acc (s.drop i)=iC s)∧(Sl ae [(0,str s),(6,aA A),(7,.int .i64 i)])∧(s.length - i=ab)) _ ⟨0,[],.slice none 0 0,(by simp),(Bd.new am),ax.md,U,U,U⟩ ?_;rintro ab ae M ⟨i,acc,C,hi,E,I,J,aJ,rfl⟩;refine bE aJ<|bV 9 U<|cd U (fun aD=> ?_) fun aD=> ?_;refine az 8 U<|p (dc u9 U U ag)<|aC 3 U ?_;refine ei (fun ak aa=> ∃ (k:Nat),(k < s.length∧i≤k∧k≤i+1)∧(Bd 102 5 aa A C acc)∧(Wk w aa)∧(fq (acc++ [s.getD k 0]) (s.drop<|k+1)=iC s)∧(Sl ak [(0,str s),(6,aA A),(7,.int .i64 k)])) ?_ ?_;refine bV 13 U<|cd U (fun aE=> ?_) fun aE=> ?_;have ay:(s.getD i 0).toNat=47:=ag;refine bD 7 U ?_;have L:(fun w'=>True) M.drew:=trivial;refine bK (fun w'=>True) U wide L<|aY [1,2] U L<|cB 3 U (bW<|i+1) L<|cB 4 U (mD u9 U U ag) L<|he 0 U an<|aI (uw A C acc _ (E.md (Md.refl (fun _=>False) _).drew fun _ _ h=>h) ag) U ?_;rintro v21 aL ⟨rfl,au⟩;have ad:(fun w'=>True) aL:=trivial;refine ⟨ad,?_⟩;refine aY [5,6,7,8] U ad<|hn an<|bg 6 U<|tr<|bg 3 U<|tr<|bg 2 U<|f4 U U U U U ?_
 skip
 exact ⟨by rw [← J,drop_cons 0 (by omega :i < s.length),x8 ay]; rfl,E.uv I (Md.trans (Md.refl _ _).drew au) ag⟩;refine bD 8 U<|cd U (fun aF=> ?_) fun aF=> ?_;have V:(s.getD i 0).toNat=92:=ag;refine az 9 U<|p (bW<|i+1)<|aj 10 U<|gs (t:=32) U (fun aH=> ?_) fun aH=> ?_;exact ar 19 U<|tr<|bg 3 U<|tr<|bg 2 U<|f4 U U U U U<|⟨by rw [← J,drop_cons 0 (by omega :i < s.length),iY ag,xX V]; rfl,I⟩
 refine aj 2 U<|bA U (dc u9 U U ag)<|eg U U U<|aI (Fk (s.getD (i+1) 0) _) U ?_;rintro aR aU ⟨rfl,O⟩;refine aC 4 U<|cb U (fun Z=> ?_) fun Z=> ?_;exact aB 10 U<|tr<|bg 3 U<|tr<|bg 2 U<|f4 U U U U U<|⟨by rw [← J,drop_cons 0 (by omega :i < s.length),drop_cons 0 (by omega :i+1 < s.length),xY V (by simpa using Z)]; rfl,Md.trans I O⟩
 exact aB 2 U<|tn<|⟨i+1,ag,(E.md O fun _ _ h=>h),(Md.trans I O),(by rw [← J,drop_cons 0 (by omega :i < s.length),drop_cons 0 (by omega :i+1 < s.length),su V (by simpa using Z)]),U⟩
 exact aB 8 U<|tn<|⟨i,ag,E,I,(by rw [← J,drop_cons 0 (by omega :i < s.length),xZ ag ag]),U⟩
 rintro ak aa ⟨k,aO,ac,ap,aG,aK⟩;refine bE aK<|az 4 U<|p (dc u9 U U ag)<|e<|aI (qc A C (acc) (s.getD k 0) _ ac ag) U ?_;rintro aS aV ⟨rfl,al,ao,av,aN⟩;exact ar 11 U<|tn<|⟨_,ag,k+1,acc++ [s.getD k 0],al,(by rw [bo,dE]; omega),ao,(ac.step ap av ag),aG,U,U⟩
 refine aB 2 U<|cj<|fY 4 U<|e<|aI (uw A C acc _ E ag) U ?_;rintro aT aW ⟨rfl,aw⟩;exact ar 7 U<|f4 U U U U U<|⟨by rw [← J,iY ag,x7]; rfl,E.uv I aw ag⟩
theorem NB (s:List UInt8) (w:ai) (a2:s.length≤1048576):
 aZ aq 124 (bd [str s]) w (fun v w'=>v= .tuple #[str (letE s).1,.int .i64 (letE s).2]∧Wk w w'):=by
 refine enter func124 U ntmps124 U<|aP 8 U<|e<|al RV fun O aU aW J ao=> ?_;have aJ:aD aU.heap O (marksOf []):=by rw [NW]; exact ao
 refine aC 9 U<|cd U (fun ak=> ?_) fun ak=> ?_;exact aB 8 U<|f2 U U U<|⟨by show kB #[str [],.int .i64 21]=_; unfold letE; rw [if_pos (.inl ak)]; rfl,J.md⟩
 refine az 4 U<|e<|fK x9 fun I a9 aY ax aK=>aC 11 U ?_;have aX:=ao.lt;refine lp (fun an aF M=> ∃ (i:Nat) (A:ah),(i≤s.length)∧(∀ j,j < i→gN (s.getD j 0)=true)∧(aD M.heap O<|marksOf<|lets<|s.take i)∧(Bd 102 5 M I A<|lets<|s.take i)∧(Wk w M)∧(Sl aF [(0,str s),(4,aA O),(5,aA I),(10,.int .i64 s.length),(11,.int .i64 i)])∧(s.length - i=an)) _ ⟨0,.slice none 0 0,ag,(fun j am=>by omega),(ax.md.B aJ),(Bd.new aK),(Md.trans J.md ax.md),U,U⟩ ?_;rintro an aF M ⟨i,A,hi,hp,aw,Z,ac,aS,rfl⟩;refine bE aS ?_;have aR:=Ab<|s.take i;rw [bY] at aR;have a0:=aw.lt;refine bV 6 U<|cd U (fun aQ=> ?_) fun aQ=> ?_;refine az 15 U<|p (dc u9 U U ag)<|e<|aI (Ee (s.getD i 0) _) U ?_;rintro a4 aT ⟨rfl,C⟩;refine aC 3 U<|cb U (fun ad=> ?_) fun ad=> ?_;have L:gN (s.getD i 0)=false :=by simpa using ad
 exact aB 10 U<|tr<|bg 2 U<|f2 U U U<|⟨by show kB #[str [],.int .i64 21]=_; unfold letE; rw [if_pos (.inr<|tq ag L)]; rfl,Md.trans ac C⟩
 have L:gN (s.getD i 0)=true :=by simpa using ad
 have ap:Wk w aT:=Md.trans ac C;have V:=C.B aw;have ab:=Z.md C fun _ _ h=>h;have a3:=C.size;refine az 6 U<|p (dc u9 U U ag)<|p (pC Cz U U<|by have :=oW (s.getD i 0); omega)<|p (ay U<|NY V _)<|aC 3 U<|cb U (fun ae=> ?_) fun ae=> ?_;have E:¬s.getD i 0∈lets (s.take i):=of_decide_eq_false<|by simpa using ae
 refine az 4 U<|p (dc u9 U U ag)<|p (pC Cz U U<|by have :=oW (s.getD i 0); omega)<|e<|st C6 U U (U) (V) (by rw [Fl]; have :=oW (s.getD i 0); omega) fun aV au aH=> ?_;have aO:=NZ aH;have aM:Wk w aV:=Md.trans' ap au fun k aE h=>by omega
 have aa:=ab.md au fun k aE h=>by have :=ab.wi aE; omega
 refine aj 5 U<|p (dc u9 U U ag)<|e<|aI (qc I A (lets<|s.take i) (s.getD i 0) _ aa ag) U ?_;rintro a5 a7 ⟨rfl,aG,aL,av,a1⟩;exact ar 7 U<|tn<|⟨_,ag,i+1,aG,ag,(fun j am=>by rcases dM j i with h | h <;> first | exact hp j h | (rw [show j=i by omega]; exact L)),(by rw [om ag,if_neg E]; exact av.B aO fun h=>by have :=aa.wi h; omega),(by rw [om ag,if_neg E]; exact aL),(aa.step aM av<|by have :=J.md.size; omega),U,U⟩
 have E:s.getD i 0∈lets (s.take i):=by simpa using ae
 exact aB 7 U<|tn<|⟨_,ag,i+1,A,ag,(fun j am=>by rcases dM j i with h | h <;> first | exact hp j h | (rw [show j=i by omega]; exact L)),(by rw [om ag,if_pos E]; exact V),(by rw [om ag,if_pos E]; exact ab),ap,U,U⟩
 refine aB 2 U<|cj<|fY 4 U<|e<|aI (uw I A (lets<|s.take i) _ Z<|by have :=Ab (s.take i); rw [bY] at this; omega) U ?_;rintro a6 a8 ⟨rfl,aN⟩;exact ar 5 U<|f2 U U U<|⟨by show kB #[str (lets<|s.take i),.int .i64 0]=_; unfold letE; rw [if_neg (by rw [vG (fun j am=>hp j ag)]; exact fun h=>h.elim ak dS),show s.take i=s from ja ag]; rfl,Z.uv ac aN<|by have :=J.md.size; omega⟩
end Go.Hb
end
namespace Go.Hb
def OT:Go.Shelf.Ren:=⟨fun n=>if n=125 then 128 else if n=128 then 180 else if n=129 then 181 else if n=190 then 79 else if n=258 then 127 else if n=302 then 171 else if n=303 then 172 else if n=304 then 173 else if n=305 then 174 else if n=306 then 175 else if n=307 then 176 else if n=308 then 177 else if n=309 then 178 else if n=310 then 179 else if n=329 then 226 else if n=330 then 227 else if n=333 then 225 else if n=334 then 228 else if n=335 then 229 else if n=336 then 230 else if n=344 then 270 else 0,fun n=>if n=0 then 0 else if n=3 then 3 else if n=4 then 4 else if n=5 then 5 else if n=9 then 9 else if n=31 then 27 else if n=46 then 268 else if n=51 then 349 else if n=53 then 150 else if n=131 then 184 else if n=182 then 342 else if n=183 then 343 else if n=218 then 404 else if n=222 then 407 else if n=228 then 446 else if n=229 then 447 else 0,fun n=>n⟩
theorem EY:Go.Proofs.Lays.n190 aq OT where
 mixed:=an
 f125:=an
 f128:=an
 f129:=an
 f190:=an
 f258:=an
 f302:=an
 f303:=an
 f304:=an
 f305:=an
 f306:=an
 f307:=an
 f308:=an
 f309:=an
 f310:=an
 f329:=an
 f330:=an
 f333:=an
 f334:=an
 f335:=an
 f336:=an
 f344:=an
 t0:=an
 a0:=fun _=>an
 z0:=fun _=>an
 v0:=fun _=>an
 t3:=an
 a3:=fun _=>an
 z3:=fun _=>an
 v3:=fun _=>an
 t4:=an
 a4:=fun _=>an
 z4:=fun _=>an
 v4:=fun _=>an
 t5:=an
 a5:=fun _=>an
 z5:=fun _=>an
 v5:=fun _=>an
 t9:=an
 a9:=fun _=>an
 z9:=fun _=>an
 v9:=fun _=>an
 t31:=an
 a31:=fun _=>an
 z31:=fun _=>an
 v31:=fun _=>an
 t46:=an
 a46:=fun _=>an
 z46:=fun _=>an
 v46:=fun _=>an
 t51:=an
 a51:=fun _=>an
 z51:=fun _=>an
 v51:=fun _=>an
 t53:=an
 a53:=fun _=>an
 z53:=fun _=>an
 v53:=fun _=>an
 t131:=an
 a131:=fun _=>an
 z131:=fun _=>an
 v131:=fun _=>an
 t182:=an
 a182:=fun _=>an
 z182:=fun _=>an
 v182:=fun _=>an
 t183:=an
 a183:=fun _=>an
 z183:=fun _=>an
 v183:=fun _=>an
 t218:=an
 a218:=fun _=>an
 z218:=fun _=>an
 v218:=fun _=>an
 t222:=an
 a222:=fun _=>an
 z222:=fun _=>an
 v222:=fun _=>an
 t228:=an
 a228:=fun _=>an
 z228:=fun _=>an
 v228:=fun _=>an
 t229:=an
 a229:=fun _=>an
 z229:=fun _=>an
 v229:=fun _=>an
theorem P3 (B n:Nat) (v:ah) (A:List (List UInt8)) (w:ai) (I:b9 w B 9 1 v n (A.map str)) (aa:A.length < 4611686018427387904):
 aZ aq 79 [v].toArray w (fun ad w'=>ad= .tuple #[]∧b9 w' B 9 1 v n ((A.mergeSort fun x y=>decide (x≤y)).map str)∧Md (fun k=>v.ownBlock=some k) w w'):=by
 have hn:A.length=n:=by have :=I.1; simpa using this
 have hlen:(A.mergeSort fun x y=>decide (x≤y)).length=A.length:=Jd _;rcases I.2 with ⟨rfl,ae⟩ | ⟨g,cap,cur,rfl,V,E,L,M,O,J⟩
 · have ac:A= []:=j5 ag;subst ac;refine jy (Any.slices_Sort_string_none EY none 0 w) ?_;rintro e w' ⟨rfl,rfl⟩;exact ⟨_,U,U,by rw [List.mergeSort_nil]; exact I,Md.refl _ _⟩
 · subst hn;rw [nN] at J;refine jy (calls_of_every_depth fun D=>AnyS.slices_Sort_string_alone EY D g 0 cap A w (holds_of_block E J) (cx.1 E).1 aa) ?_;rintro e w' ⟨rfl,m,os,rfl⟩;have C:=grownBy_sorted (w:=w) (g:=g) (n:=m) (os:=os) (A.mergeSort fun x y=>decide (x≤y)).toArray;refine ⟨_,U,U,ownsRow_sorted hlen V E L M O,⟨C.os,C.output,C.size,fun k Z ab=>C.block k Z fun he=>ab ?_⟩⟩;simp only [dL]; exact he.symm
end Go.Hb
section
namespace Go.Hb.jH
open Go.Hb.dN
theorem N7 (w:ai):
 aZ aq 12 (bd [.pointer none]) w (fun v w'=>v= .pointer none∧Wk w w'):=by
 exact enter func12 U ntmps12 U<|aP 9 U<|p (iM ss U U)<|aC 2 U<|ct (U)<|aB 7 U<|aE U<|⟨U,Md.refl _ _⟩
theorem Fz (A:aW) (w:ai):
 aZ aq 12 (bd [.pointer (some A)]) w (fun v w'=> ∃ bl bs,v=aA bl∧w.heap.size≤bl∧w.heap.size≤bs∧bl≠bs∧aD w'.heap bl [.pointer (some A),.map (some bs),.slice none 0 0]∧cJ w'.heap bs dU (mT fun _=>none)∧Wk w w'):=by
 refine enter func12 U ntmps12 U<|aP 9 U<|p (iM ss U U)<|aC 2 U<|cf (U)<|az 5 U<|e<|Ft fun C ac V I M=> ?_;have aa:=I.size;refine p (dZ (ps:= [(0,.pointer (some A)),(1,.map (some C))]) (L:= [.pointer (some A),.map (some C),.slice none 0 0]) Qm U<|U)<|e<|l9 U fun J ad Z E O=> ?_;have ab:=E.size;exact ar 4 U<|aE U<|⟨J,C,U,ag,ag,ag,O,by rw [rj]; exact (cJ.nil M).wk E.md,Md.trans I.md E.md⟩
theorem OJ (x:List UInt8) (n C:Int) (A:Nat) (w:ai) (E:aD w.heap A [.int .i64 C]):
 aZ aq 76 (bd [str x,.int .i64 n,aA A]) w (fun v w'=>v= .bool (decide (n=C))∧Wk w w'):=by
 exact enter func76 U ntmps76 U<|aP 8 U<|p (ay U<|E.aG 0)<|ar 5 U<|aE U<|⟨U,Md.refl _ _⟩
theorem LI (bw I:Nat) (q:List UInt8→Option Int) (A:Int) (w:ai) (M:cJ w.heap bw dU (mT q)) (aa:aD w.heap I [.int .i64 A]):
 aZ aq 75 (bd [.map (some bw),.func (.func 76) #[] #[aA I]]) w (fun v w'=>v= .tuple #[]∧cJ w'.heap bw dU (mT<|gp A q)∧Md (fun k=>k=bw) w w'):=by
 have aO:I≠bw:=fun h=>by subst h; exact M.fB aa.choose_spec
 have a3:=aa.lt;have a4:=M.lt;refine enter func75 U ntmps75 U<|aP 2 U<|p mv<|e<|xn gI M U fun aE ba left a5 L aK aS aV aw=> ?_;have a7:=L.size;refine aC 3 U<|lp (fun al aF J=> ∃ (E:List (ah×ah)),(Lf q E)∧(ir J.heap aE bw E)∧(cJ J.heap bw dU<|mT<|gY E q<|gp A q)∧(aD J.heap I [.int .i64 A])∧(Md (fun k=>k=bw) w J)∧(Sl aF [(0,.map (some bw)),(1,.func (.func 76) #[] #[aA I]),(7,aA aE)])∧(E.length=al)) _ ⟨left,(Lf.start aS aV aw),aK,(by rw [zg aw (fun x aX=>by simp [gp,aX])]; exact M.wk L.md),(Wk.B L.md aa),(L.md.mono fun _ _ h=>h.elim),U,U⟩ ?_;rintro al aF J ⟨E,aL,aI,ae,aN,an,aW,rfl⟩;refine bE aW<|aP 2 U<|e<|wY aI U fun a2 a8 O a1 aG aH=>p (wZ U)<|aC 3 U<|cb U (fun ac=> ?_) fun ac=> ?_;obtain ⟨ax,Z,V⟩:=aH ac;have aU:=ax.length_eq;simp only [cg] at aU;obtain ⟨x,n,rfl,ay,ao,a6,aQ,au⟩:=aL.step ax;have av:=ae.md Z fun h=>by omega
 have ab:=Z.B aN fun h=>by omega
 have am:=an.trans' Z fun k aR h=>by omega
 refine az 5 U<|p (vS V U)<|aj 11 U<|e<|zd Ku U (OJ x n A I a1 ab) U ?_;rintro a9 aY ⟨rfl,C⟩;refine aC 2 U<|cb U (fun ad=> ?_) fun ad=> ?_;have hn:n=A:=by simpa using ad
 refine az 3 U<|e<|Dq (kx:=str x) gI kQ (av.wk C) U U ⟨x,U⟩ fun a0 ap aM aJ=> ?_;have ak:cJ a0.heap bw dU (mT<|gY O q<|gp A q):=by
  rw [au,show gp A q x=none from by simp [gp,ay,hn],← Fe];exact aM
 exact ar 2 U<|tn<|⟨_,ag,O,ao,(aJ _ _ _ rfl (V.md C id id)),ak,(ap.B (Wk.B C ab) aO),((am.trans' C fun _ _ h=>h.elim).trans' ap fun k aR h=>h),U,U⟩
 have hn:¬n=A:=by simpa using ad
 have ak:cJ aY.heap bw dU (mT<|gY O q<|gp A q):=by
  rw [au,show gp A q x=q x from by simp [gp,ay,hn],show (fun y=>if y=x then q x else gY E q (gp A q) y)=gY E q (gp A q) from by
   funext y;by_cases h:y=x;subst h; rw [if_pos rfl,aQ];rw [if_neg h]]
  exact av.wk C
 exact aB 2 U<|tn<|⟨_,ag,O,ao,(V.ry.md C id id),ak,(Wk.B C ab),(am.trans' C fun _ _ h=>h.elim),U,U⟩
 obtain ⟨aT,rfl⟩:=aG ac;exact aB 2 U<|cj<|bg 1 U<|f0 U<|⟨U,by rw [aT,zf] at ae; exact ae,an⟩
theorem Q0 {G:Nat→Prop} {w w':ai} (h:Md G w.drew w'):Md G w w':=⟨h.os,h.output,h.size,h.dC⟩
theorem rG {w:ai} {B e size n k:Nat} {v:ah} {xs:List ah} (h:b9 w B e size v n xs) (A:v.ownBlock=some k):∃ cur z,w.heap[k]? =some (.cells cur e z):=by
 rcases h.2 with ⟨rfl,_⟩ | ⟨g,cap,cur,rfl,_,C,_⟩
 · simp [dL] at A
 · simp only [dL,bR] at A;subst A;exact ⟨_,_,C⟩
structure cT (w:ai) (B bl bs:Nat) (vb:ah) (ca:aW) (g:List UInt8→Option Int) (n:Nat) (hist:List (List UInt8→Option Int)) (cs:List ah):Prop where
 obj:aD w.heap bl [.pointer (some ca),.map (some bs),vb]
 dQ:cJ w.heap bs dU (mT g)
 eV:dh g n
 nB:n≤500
 nz:∀ x,g x≠some 0
 lo:B≤bl∧B≤bs
 back:b9 w B 1 1 vb cs.length cs
 lf:vb.ownBlock≠some bl
 bk:eT (fun v q=> ∃ wb lb wm,v= .func (.func 77) #[] #[.pointer (some ⟨wb,0,none⟩),.pointer (some ⟨lb,0,none⟩)]∧wb≠bl∧lb≠bl∧wm≠bs∧vb.ownBlock≠some wb∧vb.ownBlock≠some lb∧
  aD w.heap wb [.map (some wm)]∧aD w.heap lb [.pointer (some ⟨bl,0,none⟩)]∧cJ w.heap wm dU (mT q)) cs hist
def jh (bl bs:Nat) (vb:ah) (k:Nat):Prop :=k=bl∨k=bs∨vb.ownBlock=some k
def iK (B bl bs:Nat) (vb:ah) (E:aW) (g:List UInt8→Option Int) (hist:List (List UInt8→Option Int)) (A:Int) (l:List (List UInt8)) (w:ai):ah→ai→Prop :=fun v w'=>((∃ x∈l,dK x=false)∧v= .int .i64 21∧Wk w w')∨((∀ x∈l,dK x=true)∧∃ m,dh (gw g l) m∧((500 < m∧v= .int .i64 280∧Wk w w')∨(m≤500∧v= .int .i64 0∧
 ((dh (c8 A g l) 0∧Wk w w')∨(∃ C I,(∃ x o,c8 A g l x=some o)∧cT w' B bl bs C E (eE A (c8 A g l) g) m (hist++ [c8 A g l]) I∧Md (jh bl bs vb) w w'∧(∀ k,C.ownBlock=some k→vb.ownBlock=some k∨w.heap.size≤k))))))
theorem cT.wk {w w':ai} {B bl bs:Nat} {vb:ah} {A:aW} {g:List UInt8→Option Int} {n:Nat} {hist:List (List UInt8→Option Int)} {cs:List ah} (h:cT w B bl bs vb A g n hist cs) (hm:Wk w w'):cT w' B bl bs vb A g n hist cs where
 obj:=Wk.B hm h.obj
 dQ:=h.dQ.wk hm
 eV:=h.eV
 nB:=h.nB
 nz:=h.nz
 lo:=h.lo
 back:=aR h.back hm
 lf:=h.lf
 bk:=h.bk.imp fun v q ⟨Z,lb,aa,C,E,I,J,L,M,O,U,V⟩=>⟨Z,lb,aa,C,E,I,J,L,M,Wk.B hm O,Wk.B hm U,V.wk hm⟩
theorem GP (B bl bs:Nat) (vb:ah) (bX:aW) (g:List UInt8→Option Int) (n:Nat) (hist:List (List UInt8→Option Int)) (cs:List ah) (E:Int) (l:List (List UInt8)) (bf:Option aW) (bU:Nat) (w:ai) (A:cT w B bl bs vb bX g n hist cs) (O:bN w.heap bf l) (hw:E≠0) (eh:l.length≤1048576) (dy:∀ x∈l,x.length≤1048576) (eg:cs.length≤1048576):
 aZ aq 32 (bd [aA bl,.int .i64 E,.slice bf l.length bU]) w (iK B bl bs vb bX g hist E l w):=by
 obtain ⟨J,L,rfl⟩:=de A.back;have dw:=A.lo;have ei:=A.nB;have bL:bl≠bs:=fun h=>by subst h; exact A.dQ.fB A.obj.choose_spec
 have ec:=A.obj.lt;have ed:=A.dQ.lt;refine enter func32 U ntmps32 U<|aP 2 U<|e<|CM U U fun I eC d8 cc cO=> ?_;have en:=cc.size;refine e<|CM U U fun a0 ba d9 bu cQ=> ?_;have ep:=bu.size;have cV:Wk w ba:=cc.md.trans bu.md;have cn:aD ba.heap I [aA bl]:=Wk.B bu.md cO;refine aj 6 U<|p (ay U<|cn.aG 0)<|p (iM u32 U U)<|aC 2 U<|cf (U)<|az 4 U<|e<|Ft fun C eB d7 ca cM=> ?_;have el:=ca.size;refine e<|al RU fun M d1 ea bx cR=> ?_;have ev:=bx.size;refine e<|st Lr U U (U) (cR) (by simp) fun Z bt cP=> ?_;have cU:Wk ba d1:=ca.md.trans bx.md;have bp:Wk ba Z:=cU.trans' bt fun k V h=>by omega
 have bm:Wk w Z:=cV.trans bp;have eo:=bt.size;have bC:aD Z.heap I [aA bl]:=Wk.B bp cn;have cq:aD Z.heap a0 [.int .i64 E]:=Wk.B bp cQ;have a7:aD Z.heap M [.map (some C)]:=cP;have dF:cJ Z.heap C dU (mT<|fm g []):=by
  rw [Rl,rj];exact ((cJ.nil cM).wk bx.md).md bt fun h=>by omega
 have d6:=O.wk bm;refine aj 10 U<|p mv<|aC 5 U<|lp (fun aJ cH aH=> ∃ (i m:Nat),(i≤l.length)∧(m≤i)∧(∀ x∈l.take i,dK x=true)∧(dh (gw g<|l.take i)<|n+m)∧(Md (fun k=>k=C) Z aH)∧(cJ aH.heap C dU<|mT<|fm g<|l.take i)∧(Sl cH [(3,aA I),(4,aA a0),(7,aA M),(8,aQ m),(17,.slice bf l.length bU),(18,aQ (l.length)),(19,aQ i)])∧(l.length - i=aJ)) _ ⟨0,0,ag,ag,(fun x am=>by simp at am),(by rw [List.take_zero,Pz]; exact A.eV),(Md.refl _ _),dF,U,U⟩ ?_;rintro aJ cH aH ⟨i,m,hi,hm,aS,ak,ao,bJ,dJ,rfl⟩;refine bE dJ ?_;have aK:Wk w aH:=bm.trans' ao fun k V h=>by omega
 have ey:=ao.size;refine bV 6 U<|cd U (fun dp=> ?_) fun dp=> ?_;refine bD 5 U ?_;have dP:(l.getD i []).length≤1048576:=Ex dy ag;have aw:l.take (i+1)=l.take i++ [l.getD i []]:=ie l i [] ag;refine az 1 U<|p (bZ dH U U ag<|aT.ok (O.wk aK)<|ef ag)<|p (ay U<|bN.get (i:=i) (O.wk aK) ag)<|aj 7 U<|e<|aI (Bx (l.getD i []) aH dP) U ?_;rintro v24 cD ⟨rfl,bn⟩;have a3:Md (fun k=>k=C) Z cD:=ao.trans<|bn.mono fun _ _ h=>h.elim;have bq:=aK.trans bn;have bK:=bJ.wk bn;have cp:=a3.B a7 fun h=>by omega
 have db:=a3.B bC fun h=>by omega
 have ch:=A.wk bq;refine aC 3 U<|cb U (fun bB=> ?_) fun bB=> ?_;have bP:dK (l.getD i [])=false :=by simpa using bB
 exact aB 9 U<|tr<|bg 2 U<|aE U<|.inl ⟨⟨_,gO (show i < l.length by omega),bP⟩,U,bq⟩;have bP:dK (l.getD i [])=true :=by simpa using bB
 have bO:∀ x∈l.take (i+1),dK x=true :=fun x am=>by
  rw [aw,dz,fv] at am;rcases am with am | rfl;exact aS x am;exact bP
 refine az 4 U<|p (ay U<|cp.aG 0)<|aj 1 U<|p (NF gI sB kQ (bK.ow) U U (⟨_,U⟩) (HY g (l.take i)<|l.getD i [])<|Rm g (l.take i)<|l.getD i [])<|p mv<|aC 12 U<|cb U (fun bF=> ?_) fun bF=> ?_;have cy:l.getD i []∉l.take i:=by simpa using bF
 refine bD 1 U<|Aj 8 fun ac=>pQ 0 U ac (cp.aG 0)<|oa [1] U ac<|pQ 2 U ac (db.aG 0)<|oa [3,4] U ac<|pQ 5 U ac (ch.obj.aG 1)<|oa [6] U ac<|lq 7 U an (fun w' O=>tO gI sB kQ (jG.md (ch.dQ.ow) O id) U U (⟨_,U⟩)<|wP g<|l.getD i []) ac<|pI 8 U an an<|xP (kx:=str<|l.getD i []) (v:= .int .i64<|(g<|l.getD i []).getD 0) gI kQ (bK.wk ac) U U U ⟨_,U⟩ fun bQ c1 a6=> ?_;have b6:Md (fun k=>k=C) cD bQ:=(ac.mono fun _ _ h=>h.elim).trans c1;rw [← Rk cy,← aw] at a6;have br:Md (fun k=>k=C) Z bQ:=a3.trans b6;have dl:=br.B a7 fun h=>by omega
 have d5:Wk w bQ:=bq.trans' b6 fun k V h=>by omega
 refine pK an<|fY 3 U<|p (ay U<|dl.aG 0)<|aj 1 U<|p (tO gI sB kQ (a6.ow) U U (⟨_,U⟩)<|HY g (l.take<|i+1)<|l.getD i [])<|aC 3 U<|cd U (fun cr=> ?_) fun cr=> ?_;have bH:g (l.getD i [])=none:=by
  have h0:(if l.getD i []∈l.take (i+1) then (g<|l.getD i []).getD 0 else 0)=0:=ag;rw [if_pos (by rw [aw]; simp)] at h0;cases hg:g (l.getD i []) with
  | none=>rfl
  | some o=>rw [hg] at h0; simp only [jD] at h0; subst h0; exact absurd hg<|A.nz _
 exact az 2 U<|p (bW<|m+1)<|aj 5 U<|p (bW<|i+1)<|ar 2 U<|tn<|⟨_,ag,i+1,m+1,ag,ag,bO,(by rw [aw,← iG]; exact Py ak cy bH),br,a6,U,U⟩
 have bH:∃ o,g (l.getD i [])=some o:=by
  cases hg:g (l.getD i []) with
  | some o=>exact ⟨o,rfl⟩
  | none=>exfalso; apply cr; rw [hg]; simp
 exact az 4 U<|p (bW<|i+1)<|ar 2 U<|tn<|⟨_,ag,i+1,m,ag,ag,bO,(by rw [aw]; exact GA ak<|.inr bH),br,a6,U,U⟩
 have cz:l.getD i []∈l.take i:=by simpa using bF
 exact az 4 U<|p (bW<|i+1)<|ar 2 U<|tn<|⟨_,ag,i+1,m,ag,ag,bO,(by rw [aw]; exact GA ak<|.inl cz),a3,(by rw [aw,Rp cz]; exact bK),U,U⟩
 refine aB 2 U<|cj<|dT 4 U ?_;obtain rfl :i=l.length:=ag;rw [yE] at aS ak bJ;have dG:=bJ;have ci:=A.wk aK;have dd:=ao.B bC fun h=>by omega
 have dm:=ao.B a7 fun h=>by omega
 have dk:=ao.B cq fun h=>by omega
 refine az 1 U<|p (ay U<|dd.aG 0)<|aj 2 U<|p (ay U<|ci.obj.aG 1)<|p (wO gI U U ci.dQ A.eV)<|aj 1 U<|p (bW<|n+m)<|aC 3 U<|cd U (fun dq=> ?_) fun dq=> ?_;exact aB 7 U<|aE U<|.inr ⟨aS,n+m,ak,.inl ⟨ag,U,aK⟩⟩;refine az 4 U<|p (ay U<|dm.aG 0)<|p rq<|e<|aI (LI C a0 (fm g l) E aH dG dk) U ?_;rintro v59 aX ⟨rfl,a9,c4⟩;have aL:Md (fun k=>k=C) Z aX:=ao.trans c4;have a2:Wk w aX:=bm.trans' aL fun k V h=>by omega
 have bA:=aL.B a7 fun h=>by omega
 have co:=aL.B bC fun h=>by omega
 have di:=aL.B cq fun h=>by omega
 have a5:=A.wk a2;have eq:=a2.size;have er:=aL.size;obtain ⟨bY,d4,_,a8⟩:=a9.eV;refine aj 5 U<|p (ay U<|bA.aG 0)<|p (wO gI U U a9 a8)<|aC 3 U<|cd U (fun dr=> ?_) fun dr=> ?_;have bI:bY.size=0:=ag;rw [bI] at a8;exact aB 7 U<|aE U<|.inr ⟨aS,n+m,ak,.inr ⟨ag,U,.inl ⟨a8,a2⟩⟩⟩;have bI:bY.size≠0:=ag;refine az 5 U<|p (ay U<|bA.aG 0)<|e<|xn gI a9 U fun aV eD left ej bv cX dt dA ct=> ?_;have eu:=bv.size;refine aC 3 U<|lp (fun aJ cI bb=> ∃ (aU:List (ah×ah)),(Lf (c8 E g l) aU)∧(ir bb.heap aV C aU)∧(cJ bb.heap bs dU<|mT<|gY aU g<|eE E (c8 E g l) g)∧(Md (fun k=>k=bs∨k=aV) aX bb)∧(Sl cI [(3,aA I),(4,aA a0),(7,aA M),(64,aA aV)])∧(aU.length=aJ)) _ ⟨left,(Lf.start dt dA ct),cX,(by rw [zg (a:=g) (b:=eE E (c8 E g l) g) ct (fun x am=>(F8 am).symm)]; exact a5.dQ.wk bv.md),(bv.md.mono fun _ _ h=>h.elim),U,U⟩ ?_;rintro aJ cI bb ⟨aU,cZ,cY,bM,ab,dL,rfl⟩;refine bE dL<|aP 2 U<|e<|wY cY U fun d2 ez cA ad cK cL=>p (wZ U)<|aC 3 U<|cb U (fun bz=> ?_) fun bz=> ?_;obtain ⟨cw,b8,b5⟩:=cL bz;have dv:=cw.length_eq;simp only [cg] at dv;obtain ⟨x,o,rfl,dI,c0,ek,ee,ds⟩:=cZ.step cw;have a4:Md (fun k=>k=bs∨k=aV) aX ad:=ab.trans<|b8.mono fun k _ h=> .inr h;have dN:=bM.md b8 fun h=>by omega
 have dc:=a4.B co fun h=>by omega
 have dj:=a4.B di fun h=>by omega
 have dC:=a4.B a5.obj fun h=>by have :=bL; omega
 refine az 5 U<|p (vS b5 U)<|aC 4 U<|Aj 6 fun av=>pQ 0 U av (dc.aG 0)<|oa [1,2] U av<|pQ 3 U av (dC.aG 1)<|oa [4] U av<|pQ 5 U av (dj.aG 0)<|pI 6 U an an<|xP (kx:=str x) (v:= .int .i64 E) gI kQ (dN.wk av) U U U ⟨_,U⟩ fun bR c2 c5=> ?_;have b7:Md (fun k=>k=bs) ad bR:=(av.mono fun _ _ h=>h.elim).trans c2;have c3:Md (fun k=>k=bs∨k=aV) aX bR:=a4.trans<|b7.mono fun k _ h=> .inl h;have cW:=b5.ry.md b7 (fun h=>by omega) fun h=>by omega
 have dM:cJ bR.heap bs dU (mT<|gY cA g<|eE E (c8 E g l) g):=by
  rw [ds,F9 dI,← rk];exact c5
 exact pK an<|bg 1 U<|tn<|⟨_,ag,cA,c0,cW,dM,c3,U,U⟩
 obtain ⟨du,rfl⟩:=cK bz;refine aB 2 U<|cj<|dT 3 U ?_;rw [du,zf] at bM;have bG:=ab.B co fun h=>by omega
 have cv:=ab.B a5.obj fun h=>by have :=bL; omega
 have cx:¬(ff J cs.length L).ownBlock=some I:=fun h=>by have :=(da A.back h).2; omega
 have dn:b9 ad B 1 1 (.slice J cs.length L) cs.length cs:=cC a5.back ab (fun k V h=>by
  rcases h with h | h;subst h; obtain ⟨cur,z,aO⟩:=rG A.back V; exact A.dQ.fB aO;have :=(da A.back V).2; omega)
 have aF:(fun w'=>Md (fun q=>(ff J cs.length L).ownBlock=some q) ad w') ad.drew:=(Md.refl _ _).drew;refine tR (fun w'=>Md (fun q=>(ff J cs.length L).ownBlock=some q) ad w') 10 U wide aF<|tP 0 U (fun w' O=>ay U<|(O.B bG cx).aG 0) aF<|tP 1 U (fun w' O=>ay U<|(O.B bG cx).aG 0) aF<|mi [2,3] U aF<|tP 4 U (fun w' O=>ay U<|(O.B cv A.lf).aG 2) aF<|Ai 5 U (rq) aF<|rh 6 U an<|fh Be U U fun d3 cF eb ce cS=> ?_;have ew:=ce.size;have aa:Wk ad cF:=Q0 ce.md;have ex:=aa.size;have ck:(fun w'=>Md (fun q=>(ff J cs.length L).ownBlock=some q) ad w') cF:=Md.mono aa fun _ _ h=>h.elim;refine ⟨ck,?_⟩;refine rh 7 U an<|ap Be (aR dn aa) U (by have :=ab.size; omega) U (aT.dD cS) (U) (U) ag ag fun eA cG cu ae dR aN=> ?_;have dR:=ae.size;have dE:=ae.B (Wk.B aa cv) A.lf;obtain ⟨aY,a1,rfl⟩:=de cu;have cm:(fun w'=>Md (fun q=>(ff J cs.length L).ownBlock=some q) ad w') cG:=ck.trans' ae fun _ _ h=>h;refine ⟨cm,?_⟩;refine mi [8,9] U cm<|pI 10 U an an<|st C9 U U (U) (dE) (by simp) fun bc au cN=> ?_
 skip
 refine pK an<|bg 7 U<|aE U ?_;have et:=ab.size;have em:=au.size;have dB:b9 cG B 1 1 (.slice aY (cs.length+1) a1) (cs++ [qw (.func 77) #[] #[aA M,aA I]]).length (cs++ [qw (.func 77) #[] #[aA M,aA I]]):=by rw [bo]; exact cu
 have hT:Md (jh bl bs<|.slice J cs.length L) w bc:=((((a2.mono fun _ _ h=>h.elim).trans' ab (fun k V h=>by
  rcases h with h | h;exact .inr<|.inl h;omega)).trans' aa (fun _ _ h=>h.elim)).trans' ae (fun k V h=> .inr<|.inr h)).trans' au (fun k V h=> .inl h)
 have dx:=fun k h=>(da (k:=k) A.back h).2;have dO:¬(ff J cs.length L).ownBlock=some bs:=fun h=>by obtain ⟨cur,z,aO⟩:=rG A.back h; exact A.dQ.fB aO
 have aM:∀ b,b=I∨b=M∨b=C→¬(ff aY (cs.length+1) a1).ownBlock=some b∧¬(ff J cs.length L).ownBlock=some b:=fun b hb=>by
  have ax:¬(ff J cs.length L).ownBlock=some b:=fun h=>by have :=dx b h; omega
  refine ⟨fun h=> ?_,ax⟩;rcases aN b h with h | h;exact ax h;omega
 have c7:aD bc.heap I [aA bl]:=au.B (ae.B (Wk.B aa bG) (aM I<|.inl rfl).2) fun h=>by omega
 have c9:aD bc.heap M [.map (some C)]:=au.B (ae.B (Wk.B aa<|ab.B bA fun h=>by omega) (aM M<|.inr<|.inl rfl).2) fun h=>by omega
 have c6:cJ bc.heap C dU (mT<|c8 E g l):=(((a9.md ab fun h=>by omega).wk aa).md ae (aM C<|.inr<|.inr rfl).2).md au fun h=>by omega
 refine .inr ⟨aS,n+m,ak,.inr ⟨ag,U,.inr ⟨.slice aY (cs.length+1) a1,cs++ [qw (.func 77) #[] #[aA M,aA I]],dh.pos a8 bI,⟨cN,((bM.wk aa).md ae dO).md au (fun h=>bL h.symm),Ga hw ak,ag,ON hw A.nz,dw,cC dB au (fun k V h=> ?_),fun h=> ?_,eT.snoc ⟨M,I,C,U,ag,ag,ag,(aM M<|.inr<|.inl U).1,(aM I<|.inl U).1,c9,c7,c6⟩<|eT.imp (fun v q hb=> ?_) A.bk⟩,hT,fun k h=> ?_⟩⟩⟩;subst h;rcases aN k V with h | h;exact A.lf h;omega;rcases aN bl h with h | h;exact A.lf h;omega;obtain ⟨bS,lb,bT,ax,b0,b1,b2,b3,b4,bh,bi,bj⟩:=hb;have dS:=bh.lt;have dV:=bi.lt;have dW:bS≠bs:=fun h=>by subst h; exact A.dQ.fB bh.choose_spec
 have dY:lb≠bs:=fun h=>by subst h; exact A.dQ.fB bi.choose_spec
 have dZ:bT≠bl:=fun h=>by subst h; exact bj.fB A.obj.choose_spec
 have d0:¬(ff J cs.length L).ownBlock=some bT:=fun h=>by obtain ⟨cur,z,aO⟩:=rG A.back h; exact bj.fB aO
 have cB:∀ b,b < w.heap.size→¬(ff J cs.length L).ownBlock=some b→¬(ff aY (cs.length+1) a1).ownBlock=some b:=fun b hb ax h=>by
  rcases aN b h with h | h;exact ax h;omega
 exact ⟨bS,lb,bT,ax,b0,b1,b2,cB bS dS b3,cB lb dV b4,hT.B bh (fun h=>by rcases h with h | h | h; exact b0 h; exact dW h; exact b3 h),hT.B bi (fun h=>by rcases h with h | h | h; exact b1 h; exact dY h; exact b4 h),bj.md hT fun h=>by rcases h with h | h | h; exact dZ h; exact b2 h; exact d0 h⟩;rcases aN k h with h | h;exact .inl h;exact .inr ag
end Go.Hb.jH
end
section
namespace Go.Hb.j7
open Go.Hb.dN
open Go.Hb.jH
theorem Ch (B bl bs:Nat) (vb:ah) (C:aW) (g:List UInt8→Option Int) (n:Nat) (hist:List (List UInt8→Option Int)) (cs:List ah) (l:List (List UInt8)) (A:Option aW) (E:Nat) (w:ai) (I:cT w B bl bs vb C g n hist cs) (L:bN w.heap A l) (O:l.length≤1048576) (V:∀ x∈l,x.length≤1048576) (M:cs.length≤1048576):
 aZ aq 14 (bd [aA bl,.slice A l.length E]) w (iK B bl bs vb C g hist 1 l w):=by
 exact enter func14 U ntmps14 U<|aP 9 U<|e<|aI (GP B bl bs vb C g n hist cs 1 l A E w I L aJ O V M) U fun Z aa J=>p aU<|ar 3 U<|aE U<|J
theorem CE (B bl bs:Nat) (vb:ah) (C:aW) (g:List UInt8→Option Int) (n:Nat) (hist:List (List UInt8→Option Int)) (cs:List ah) (l:List (List UInt8)) (A:Option aW) (E:Nat) (w:ai) (I:cT w B bl bs vb C g n hist cs) (L:bN w.heap A l) (O:l.length≤1048576) (V:∀ x∈l,x.length≤1048576) (M:cs.length≤1048576):
 aZ aq 15 (bd [aA bl,.slice A l.length E]) w (iK B bl bs vb C g hist (-1) l w):=by
 exact enter func15 U ntmps15 U<|aP 9 U<|e<|aI (GP B bl bs vb C g n hist cs (-1) l A E w I L aJ O V M) U fun Z aa J=>p aU<|ar 3 U<|aE U<|J
theorem mj (B bl bs:Nat) (vb:ah) (C:aW) (g:List UInt8→Option Int) (n:Nat) (hist:List (List UInt8→Option Int)) (cs:List ah) (x:List UInt8) (w:ai) (A:cT w B bl bs vb C g n hist cs):
 aZ aq 19 (bd [aA bl,str x]) w (fun v w'=>v= .int .i64 ((g x).getD 0)∧Wk w w'):=by
 exact enter func19 U ntmps19 U<|aP 9 U<|p (iM u32 U U)<|aC 2 U<|cf (U)<|az 7 U<|p (ay U<|A.obj.aG 1)<|aj 1 U<|p (tO gI sB kQ (A.dQ.ow) U U (⟨_,U⟩)<|wP g x)<|ar 4 U<|aE U<|⟨U,Md.refl _ _⟩
theorem Ny (B bl bs:Nat) (vb:ah) (C:aW) (g:List UInt8→Option Int) (n:Nat) (hist:List (List UInt8→Option Int)) (cs:List ah) (w:ai) (A:cT w B bl bs vb C g n hist cs):
 aZ aq 18 (bd [aA bl]) w (fun v w'=>v=aQ n∧Wk w w'):=by
 exact enter func18 U ntmps18 U<|aP 9 U<|p (iM u32 U U)<|aC 2 U<|cf (U)<|az 7 U<|p (ay U<|A.obj.aG 1)<|p (wO gI U U A.dQ A.eV)<|ar 4 U<|aE U<|⟨U,Md.refl _ _⟩
theorem KI (B bl bs:Nat) (vb:ah) (A:aW) (g:List UInt8→Option Int) (n:Nat) (hist:List (List UInt8→Option Int)) (cs:List ah) (x:List UInt8) (w:ai) (E:cT w B bl bs vb A g n hist cs) (I:g x=some 1):
 aZ aq 20 (bd [aA bl,str x]) w (fun v w'=>v= .bool true∧Wk w w'):=by
 refine enter func20 U ntmps20 U<|aP 10 U<|e<|aI (mj B bl bs vb A g n hist cs x w E) U ?_;rintro L M ⟨rfl,C⟩;refine aC 9 U<|cd U (fun J=> ?_) fun h=>absurd (by rw [I]; rfl) h;exact aB 8 U<|aE U<|⟨U,C⟩
theorem KH (B bl bs:Nat) (vb:ah) (A:aW) (g:List UInt8→Option Int) (n:Nat) (hist:List (List UInt8→Option Int)) (cs:List ah) (x:List UInt8) (w:ai) (I:cT w B bl bs vb A g n hist cs) (C:g x=some (-1)):
 aZ aq 20 (bd [aA bl,str x]) w (fun v w'=>v= .bool false∧Wk w w'):=by
 refine enter func20 U ntmps20 U<|aP 10 U<|e<|aI (mj B bl bs vb A g n hist cs x w I) U ?_;rintro M O ⟨rfl,E⟩;refine aC 9 U<|cd U (fun h=>absurd h<|by rw [C]; decide) fun L=>bD 6 U<|cd U (fun J=> ?_) fun h=>absurd (by rw [C]; rfl) h;exact aB 8 U<|aE U<|⟨U,E⟩
end Go.Hb.j7
end
section
namespace Go.Hb
open Go.Hb.dN
open Go.Hb.jH Go.Hb.j7
theorem OF {w:ai} {B e n C i:Nat} {a:Option aW} {l:List ah} (h:w.ownsRow B e 1 (.slice a n C) n l) (hi:i≤n) (hn:0 < n):w.ownsRow B e 1 (.slice a i C) i (l.take i):=by
 have V:l.length=n:=by have :=h.1; simpa using this
 rcases h.2 with ⟨A,O⟩ | ⟨g,cap,cur,A,I,L,hle,J,M,E⟩
 · simp only [mO] at A; omega
 · simp only [mO] at A;obtain ⟨rfl,_,rfl⟩:=A;refine ⟨by rw [bY]; omega,.inr ⟨g,C,cur,U,I,L,ag,J,M,?_⟩⟩;rw [nN] at E ⊢;rw [← E,List.take_take,sQ hi]
theorem OE {w:ai} {B e n A j:Nat} {a:Option aW} {l:List ah} (h:w.ownsRow B e 1 (.slice a n A) n l):aT w.heap (dW a A j 1) (l.drop j):=by
 have C:=(dx h).2.drop (cap:=A) (k:=j) (size:=1)<|by have E:=h.1; have I:=(dx h).1; omega
 rwa [nN] at C
theorem LK (l:List ah) (i j:Nat) (B n E C:Nat) (w:ai) (I:b9 w B 1 1 (.slice (some ⟨C,0,none⟩) n E) n l) (ab:i < j∧j≤n) (ad:n≤1048577) (J:(l.drop j).all lh=true):
 aZ aq 33 (bd [.slice (some ⟨C,0,none⟩) n E,aQ i,aQ j]) w (fun v w'=>v= .slice (some ⟨C,0,none⟩) (i+(n - j)) E∧b9 w' B 1 1 (.slice (some ⟨C,0,none⟩) (i+(n - j)) E) (i+(n - j)) (l.take i++l.drop j)∧Md (fun q=>q=C) w w'):=by
 have ac:l.length=n:=by have :=I.1; simpa using this
 have aa:=(dx I).1;refine enter func33 U ntmps33 U<|aP 12 U<|p (GW tG U U U U ag)<|aC 10 U<|cd U (fun h=>absurd h ag) fun Z=>bD 10 U ?_;have A:(fun w'=>Wk w w') w.drew:=(Md.refl _ _).drew;exact tR (fun w'=>Wk w w') 6 U wide A<|mi [0,1] U A<|Ai 2 U (r9 tG U U ag) A<|mi [3,4] U A<|Ai 5 U (um tG U U ag) A<|pI 6 U an an<|J4 (B:=B) (xs:=l.take i) (news:=l.drop j) (n:=i) (m:=n - j) Be (OF (aR I A) ag ag) U U (show aT _ (dW (some ⟨C,0,none⟩) E j 1) (l.drop j) from OE<|aR I A) (by unfold dW; split <;> simp) (by rw [gh]; omega) J ag fun ae L O=>NO 7 U (fun _=>aU) (fun h=>dS<|(show true =_ from by kernel_rfl).trans h)<|pK an<|fY 7 U<|p (xG tG U U U ag)<|e<|KZ QO RW U O (by simp) U ag fun aj M V=>ar 9 U<|aE U<|⟨U,V,Md.trans (A.mono fun _ _ h=>h.elim)<|Md.trans L<|M.mono fun q _ h=>by simpa [dL] using h.symm⟩
theorem Ka (au lb Z bl bs:Nat) (aS:aW) (vb:ah) (q g:List UInt8→Option Int) (w:ai) (aQ:aD w.heap au [.map (some Z)]) (al:aD w.heap lb [aA bl]) (an:aD w.heap bl [.pointer (some aS),.map (some bs),vb]) (aM:cJ w.heap Z dU (mT q)) (kO:cJ w.heap bs dU (mT g)) (aJ:Z≠bs):
 aZ aq 77 (bd [aA au,aA lb]) w (fun v w'=>v= .tuple #[]∧cJ w'.heap bs dU (mT<|gE q g)∧Md (fun k=>k=bs) w w'):=by
 have bi:=aQ.lt;have bj:=al.lt;have bm:=an.lt;have bn:=aM.lt;have bo:=kO.lt;have bp:lb≠bs:=fun h=>by subst h; exact kO.fB al.choose_spec
 have bq:bl≠bs:=fun h=>by subst h; exact kO.fB an.choose_spec
 refine enter func77 U ntmps77 U<|aP 2 U<|p (ay U<|aQ.aG 0)<|e<|xn gI aM U fun A O left bb E aX a0 a3 aH=> ?_;have bf:=E.size;refine aC 3 U<|lp (fun av aR V=> ∃ (I:List (ah×ah)),(Lf q I)∧(ir V.heap A Z I)∧(cJ V.heap bs dU<|mT<|gY I g<|gE q g)∧(Md (fun k=>k=bs∨k=A) O V)∧(Sl aR [(0,aA au),(1,aA lb),(5,aA A)])∧(I.length=av)) _ ⟨left,(Lf.start a0 a3 aH),aX,(by rw [zg (a:=g) (b:=gE q g) aH (fun x a5=>by simp [gE,a5])]; exact kO.wk E.md),(Md.refl _ _),U,U⟩ ?_;rintro av aR V ⟨I,aY,aV,ao,aw,a4,rfl⟩;refine bE a4<|aP 2 U<|e<|wY aV U fun a7 bh M a6 aT aU=>p (wZ U)<|aC 3 U<|cb U (fun ae=> ?_) fun ae=> ?_;obtain ⟨aL,aE,aa⟩:=aU ae;have a2:=aL.length_eq;simp only [cg] at a2;obtain ⟨x,o,rfl,aN,ax,bc,a9,aF⟩:=aY.step aL;have L:Md (fun k=>k=bs∨k=A) O a6:=aw.trans<|aE.mono fun k _ h=> .inr h;have aI:=L.B (Wk.B E.md al) fun h=>by omega
 have aK:=L.B (Wk.B E.md an) fun h=>by omega
 have aO:=ao.md aE fun h=>by omega
 refine az 5 U<|p (vS aa U)<|aC 12 U<|cd U (fun ak=> ?_) fun ak=> ?_;have am:o=0:=by simpa using ak
 refine az 1 U<|p (ay U<|aI.aG 0)<|aj 2 U<|p (ay U<|aK.aG 1)<|aj 1 U<|e<|Dq (kx:=str x) gI kQ aO U U ⟨x,U⟩ fun J C ad a8=> ?_;have ab:=(aa.ry).md C (fun h=>by omega) fun h=>aJ h;have ac:Md (fun k=>k=bs∨k=A) O J:=L.trans<|C.mono fun k _ h=> .inl h;have ap:cJ J.heap bs dU (mT<|gY M g<|gE q g):=by
  rw [aF,show gE q g x=none from by simp [gE,aN,am],← Fe];exact ad
 exact ar 2 U<|tn<|⟨_,ag,M,ax,ab,ap,ac,U,U⟩
 have am:o≠0:=by simpa using ak
 refine az 1 U<|p (ay U<|aI.aG 0)<|aj 2 U<|p (ay U<|aK.aG 1)<|aj 2 U<|e<|xP (kx:=str x) (v:= .int .i64 o) gI kQ aO U U U ⟨x,U⟩ fun J C ad=> ?_;have ab:=(aa.ry).md C (fun h=>by omega) fun h=>aJ h;have ac:Md (fun k=>k=bs∨k=A) O J:=L.trans<|C.mono fun k _ h=> .inl h;have ap:cJ J.heap bs dU (mT<|gY M g<|gE q g):=by
  rw [aF,show gE q g x=some o from by simp [gE,aN,am],← rk];exact ad
 exact ar 2 U<|tn<|⟨_,ag,M,ax,ab,ap,ac,U,U⟩
 obtain ⟨a1,rfl⟩:=aT ae;exact aB 2 U<|cj<|bg 1 U<|f0 U<|⟨U,by rw [a1,zf] at ao; exact ao,(E.md.mono fun _ _ h=>h.elim).trans' aw fun k ba h=>by rcases h with h | h; exact h; omega⟩
theorem QV (B bl bs:Nat) (vb:ah) (C:aW) (g:List UInt8→Option Int) (n:Nat) (w:ai) (A:cT w B bl bs vb C g n [] []):
 aZ aq 16 (bd [aA bl]) w (fun v w'=>v= .bool false∧Wk w w'):=by
 obtain ⟨E,I,rfl⟩:=de A.back;refine enter func16 U ntmps16 U<|aP 9 U<|p (iM u32 U U)<|aj 1 U<|gb (t:=6) U (fun h=>absurd (h.symm.trans<|U) dS) fun L=>aj 3 U<|bA U (ay U<|A.obj.aG 2)<|aC 5 U<|cd U (fun J=> ?_) fun h=>absurd U h;exact aB 7 U<|aE U<|⟨U,Md.refl _ _⟩
theorem HN (B bl bs:Nat) (vb:ah) (aa:aW) (g q:List UInt8→Option Int) (n m:Nat) (hist:List (List UInt8→Option Int)) (cs:List ah) (w:ai) (C:cT w B bl bs vb aa g n (hist++ [q]) cs) (hm:dh (gE q g) m) (aQ:m≤500) (aO:cs.length≤1048577):
 aZ aq 16 (bd [aA bl]) w (fun v w'=>v= .bool true∧∃ aB aD,cT w' B bl bs aB aa (gE q g) m hist aD∧Md (jh bl bs vb) w w'∧(∀ k,aB.ownBlock=some k→vb.ownBlock=some k)):=by
 obtain ⟨A,v0,rfl,aL,aK⟩:=eT.pop C.bk;obtain ⟨I,lb,O,rfl,i1,i2,i3,i4,i5,i6,i7,i8⟩:=aK;have aN:(A++ [qw (.func 77) #[] #[aA I,aA lb]]).length=A.length+1:=by simp
 have J:=C.back;rw [aN] at J aO;obtain ⟨E,L,rfl⟩:∃ E L,vb= .slice (some ⟨E,0,none⟩) (A.length+1) L:=by
  rcases J.2 with ⟨_,ab⟩ | ⟨g2,cap,cur,V,_⟩;omega;exact ⟨g2,cap,V⟩
 have au:E≠bl:=fun h=>C.lf<|by rw [h]; rfl
 have av:E≠bs:=fun h=>by obtain ⟨cur,z,Z⟩:=rG J rfl; rw [h] at Z; exact C.dQ.fB Z
 refine enter func16 U ntmps16 U<|aP 8 U<|p mv<|p (iM u32 U U)<|aj 1 U<|gb (t:=6) U (fun h=>absurd (h.symm.trans<|U) dS) fun a3=>bA U mv<|aj 2 U<|bA U (ay U<|C.obj.aG 2)<|aC 5 U<|cd U (fun h=>absurd h ag) fun a2=>az 4 U<|p mv<|aj 2 U<|p (ay U<|C.obj.aG 2)<|aj 1 U<|p (pS<|A.length)<|aj 5 U<|p mv<|aj 2 U<|p (ay U<|C.obj.aG 2)<|aj 1 U<|p (bZ tG U U ag<|aT.ok ((dx J).2)<|by simp)<|p (ay U<|aT.vE (dx J).2 (i:=A.length) (u:=qw (.func 77) #[] #[aA I,aA lb])<|by simp)<|e<|zd Kv U (Ka I lb O bl bs aa _ q g w i6 i7 C.obj i8 C.dQ i3) U ?_;rintro a4 a0 ⟨rfl,aS,ad⟩;have ax:=ad.B C.obj fun h=>by have :=C.dQ; subst h; exact this.fB C.obj.choose_spec
 have aM:=cC J ad fun k M h=>av<|by simp only [dL,bR] at M; omega
 refine aj 4 U<|p mv<|p mv<|aj 2 U<|p (ay U<|ax.aG 2)<|aj 2 U<|p (bW<|A.length+1)<|e<|aI (LK _ A.length (A.length+1) B (A.length+1) L E a0 aM ag ag<|by simp) U ?_;rintro a5 a6 ⟨rfl,aw,ae⟩;have aR:=ae.B ax fun h=>au h.symm;refine aj 2 U<|e<|st C9 U U (U) (aR) (by simp) fun a1 ak aJ=> ?_
 skip
 refine ar 8 U<|aE U ?_;have hT:Md (jh bl bs<|.slice (some ⟨E,0,none⟩) (A.length+1) L) w a1:=((ad.mono fun k _ h=> .inr<|.inl h).trans' ae fun k M h=> .inr<|.inr<|by rw [h]; rfl).trans' ak fun k M h=> .inl h;rw [show A.length+(A.length+1 - (A.length+1))=A.length by omega] at*;have aF:(A++ [qw (.func 77) #[] #[aA I,aA lb]]).take A.length++(A++ [qw (.func 77) #[] #[aA I,aA lb]]).drop (A.length+1)=A:=by simp
 rw [aF] at aw;refine ⟨U,.slice (some ⟨E,0,none⟩) A.length L,A,⟨aJ,(aS.md ae fun h=>av h.symm).md ak (fun h=>by have :=C.dQ; subst h; exact this.fB C.obj.choose_spec),hm,aQ,J9 C.nz,C.lo,cC aw ak (fun k M h=>au<|by simp only [dL,bR] at M; omega),fun h=>C.lf h,eT.imp (fun v q hb=> ?_) aL⟩,hT,fun k h=>h⟩;obtain ⟨I,lb,O,aH,al,am,V,ab,an,ao,ap,ac⟩:=hb;have aU:I≠bs:=fun h=>by subst h; exact C.dQ.fB ao.choose_spec
 have aV:lb≠bs:=fun h=>by subst h; exact C.dQ.fB ap.choose_spec
 have aX:O≠bl:=fun h=>by subst h; exact ac.fB C.obj.choose_spec
 have aY:¬(ff (some ⟨E,0,none⟩) (A.length+1) L).ownBlock=some O:=fun h=>by obtain ⟨cur,z,Z⟩:=rG J h; exact ac.fB Z
 exact ⟨I,lb,O,aH,al,am,V,ab,an,hT.B ao (fun h=>by rcases h with h | h | h; exact al h; exact aU h; exact ab h),hT.B ap (fun h=>by rcases h with h | h | h; exact am h; exact aV h; exact an h),ac.md hT fun h=>by rcases h with h | h | h; exact aX h; exact V h; exact aY h⟩
end Go.Hb
end
section
namespace Go.Hb.vq
open Go.Hb.dN
open Go.Hb.jH Go.Hb.j7
def vm (g:List UInt8→Option Int) (pre:List (List UInt8)) (x:List UInt8):Prop :=(pre++ [x]).Nodup∧∀ y∈pre++ [x],∃ o,g y=some o
def mR (bk A:Nat) (es:Array MapEntry) (c:Nat) (W:ai):Prop :=W.heap[bk]? =some (.cells [Value.map (some A)].toArray 82 (0,0))∧W.heap[A]? =some (.map es c)
theorem jg.fix {h A:Array Obj} {r b:Nat} {left :List (ah×ah)} {C:ah×ah} (hm:jg h r b left C) (hr:∀ o,h[r]? =some o→((∀ cur e z,o≠.cells cur e z)∧∀ es c,o≠.map es c)→A[r]? =some o) (hb:A[b]? =h[b]?):jg A r b left C:=by
 obtain ⟨es,c,seen,e,E,I,J⟩:=hm;exact ⟨es,c,seen,e,hr _ E ⟨(fun _ _ _ h=>by cases h),fun _ _ h=>by cases h⟩,hb.trans I,J⟩
theorem ir.nc {h:Array Obj} {r b:Nat} {left :List (ah×ah)} (hm:ir h r b left) (cur:Array ah) (e:au) (z:Nat×Nat):h[r]?≠some (.cells cur e z):=by
 obtain ⟨es,c,seen,C,A,_⟩:=hm;rw [A]; intro h; cases h
theorem Nj (A:Nat) (w:ai):
 aZ aq 35 (bd [.map (some A)]) w (fun v w'=> ∃ b,v= .func (.func 80) #[] #[aA b]∧w.heap.size≤b∧w'.heap[b]? =some (.cells [Value.map (some A)].toArray 82 (0,0))∧Wk w w'):=by
 exact enter func35 U ntmps35 U<|aP 2 U<|e<|vF U U fun C w1 J I E=>aj 5 U<|p rq<|ar 4 U<|aE U<|⟨C,U,ag,E,I.md⟩
theorem Ng (bk L:Nat) (es:Array MapEntry) (c:Nat) (g:List UInt8→Option Int) (aK:jF es.toList c) (aL:je es.toList dU (mT g)) (l:Nat) (C:List (List UInt8)→ai→Prop) (w:ai) (h0:C [] w) (V:∀ pre W,C pre W→mR bk L es c W) (bK:∀ pre E ae (ad:Nat→Prop),C pre E→Md ad E ae→(∀ k,ad k→w.heap.size≤k∧∀ cur e z,E.heap[k]?≠some (.cells cur e z))→C pre ae) (A:∀ pre x E,vm g pre x→C pre E→YieldAt Fence.wide 0 aq l #[str x] E fun e W'=>e= .returned (.bool true)∧fU E W'∧C (pre++ [x]) W'):
 aZ aq 80 (bd [.func (.yield l) #[] #[],aA bk]) w (fun v w'=> ∃ xs,gX g xs∧C xs w'):=by
 have ar:=V _ _ h0;have ax:cJ w.heap L dU (mT g):=⟨es,c,ar.2,aK,aL⟩
 have a3:=ax.lt;refine enter func80 U ntmps80 U<|aP 2 U<|p (ay U<|(eB ar.1).trans U)<|e<|xn gI ax U fun ab ba left a6 ap aM aR aU aw=> ?_;have a7:=ap.size;refine aC 3 U<|lp (fun aj aF ac=> ∃ (I:List (ah×ah)) (pre:List (List UInt8)),(Lf g I)∧(ir ac.heap ab L I)∧(C pre ac)∧(pre.Nodup)∧(∀ y,(∃ o,g y=some o)↔y∈pre∨str y∈I.map dj)∧(∀ y∈pre,str y∉I.map dj)∧(Sl aF [(0,.func (.yield l) #[] #[]),(5,aA ab)])∧(I.length=aj)) _ ⟨left,[],(Lf.start aR aU aw),aM,(bK [] _ _ (fun _=>False) h0 ap.md fun _ h=>h.elim),yC,(Ni aw),(fun y A=>by simp at A),U,U⟩ ?_;rintro aj aF ac ⟨I,pre,ao,al,am,aD,Z,au,aW,rfl⟩;refine bE aW<|aP 2 U<|e<|wY al U fun a2 a8 aa a1 aI aJ=>p (wZ U)<|aC 3 U<|cb U (fun O=> ?_) fun O=> ?_;obtain ⟨J,aO,ak⟩:=aJ O;have aT:=J.length_eq;simp only [cg] at aT;obtain ⟨x,o,rfl,aV,aN,aY,a4,a5⟩:=ao.step J;have av:∀ y,str y∈I.map dj↔y=x∨str y∈aa.map dj:=fun y=>by
  rw [(J.map dj).mem_iff];simp only [eS,ej];exact ⟨fun h=>h.imp pX id,fun h=>h.imp (fun h=>by rw [h]) id⟩
 have aX:str x∉aa.map dj:=by
  have h:=(J.map dj).nodup_iff.1 ao.nd;simp only [eS,List.nodup_cons] at h;exact h.1
 have an:C pre a1:=bK pre _ _ (fun k=>k=ab) am aO fun k aQ=>⟨ag,fun cur e z=>by rw [aQ]; exact ir.nc al cur e z⟩
 have a0:x∉pre:=fun h=>au x h aY;have aE:vm g pre x:=⟨yB.2 ⟨aD,by simp,fun a ha b hb=>by simp at hb; subst hb; intro h; subst h; exact a0 ha⟩,fun y A=>by
  rw [dz,fv] at A;rcases A with A | rfl;exact (Z y).2<|.inl A;exact ⟨o,aV⟩⟩
 refine az 5 U<|p (vS ak U)<|aC 5 U<|Gi<|py U (pN (.func (.yield l) #[] #[]) U)<|py U mv<|Ia U U (A pre x _ aE an) fun a9 M=> ?_;refine py U (no U)<|FA ?_;exact dT 1 U<|cf (U)<|aB 2 U<|tn<|⟨_,ag,aa,pre++ [x],aN,((jg.fix ak (fun o aG aH=>M.1 _ o aG aH)<|(V _ _ M.2).2.trans (V _ _ an).2.symm).ry),M.2,aE.1,(fun y=>by rw [Z,av,dz,fv,or_assoc]),(fun y A=>by rw [dz,fv] at A; rcases A with A | rfl; exact (fun h=>au y A<|(av y).2<|.inr h); exact aX),U,U⟩
 obtain ⟨aS,rfl⟩:=aI O;exact aB 2 U<|cj<|bg 1 U<|f0 U<|⟨pre,⟨aD,fun y=>by rw [Z y,aS]; simp⟩,am⟩
theorem Nh (bk A:Nat) (es:Array MapEntry) (c:Nat) (g:List UInt8→Option Int) (E:jF es.toList c) (I:je es.toList dU (mT g)):Cd aq 80 #[.pointer (some ⟨bk,0,none⟩)] (fun x:List UInt8=> #[str x]) (vm g) (gX g) (mR bk A es c):=
 fun l C W h0 J bK M=>jy (Ng bk A es c g E I l C W h0 J bK M) fun e w' ⟨v,he,L⟩=>⟨⟨v,he⟩,L⟩
theorem J6 (bk M:Nat) (es:Array MapEntry) (c:Nat) (g:List UInt8→Option Int) (n:Nat) (aG:jF es.toList c) (aM:je es.toList dU (mT g)) (aN:dh g n) (a4:n≤1048576) (w:ai) (ad:mR bk M es c w):
 aZ aq 126 (bd [.slice none 0 0,.func (.func 80) #[] #[.pointer (some ⟨bk,0,none⟩)]]) w (fun v w'=> ∃ xs,gX g xs∧b9 w' w.heap.size 9 1 (v) (xs).length ((xs).map str)∧Wk w w'):=by
 have a1:=(cx.1 ad.2).1;refine DO [] func126 U ntmps126 U ?_;refine eK<|eY<|aP 1 U<|e<|vF U U fun au w2 a0 J aE=> ?_;have a7:=J.size;have a5:au < w2.heap.size:=ag;have aH:mR bk M es c w2:=⟨J.md.ax ad.1,J.md.ax ad.2⟩
 refine ar 2 U<|cE<|eK<|eK<|eY<|kN 3 U<|cE ?_;apply O6 (fun x:List UInt8=> #[str x]) (vm g) (gX g) (mR bk M es c) (fun pre L=> ∃ v,L.heap[au]? =some (.cells [v].toArray 27 (0,0))∧b9 L w2.heap.size 9 1 (v) (pre).length ((pre).map str)∧mR bk M es c L∧w2.heap.size≤L.heap.size∧Wk w L) rfl Kw (fun _=>rfl) (Nh bk M es c g aG aM) (⟨.slice none 0 0,aE,eL _ _ _ _,aH,bf _,J.md⟩) (fun _ _ ⟨_,_,_,h,_⟩=>h) (fun pre A C F ⟨v,ac,aA,av,aC,aB⟩ hm aa=>⟨v,xJ ac hm aa,Hj aA hm aa,⟨xJ av.1 hm aa,hm.ax av.2 fun h=>by have :=(aa M h).1; omega⟩,cR aC hm.size,Hk aB hm J.md.size aa⟩);intro l x L K ab;exact kN 3 U<|tn<|ab;intro l pre x L az ak;obtain ⟨v,ae,I,ah,ao,aj⟩:=ak;have aQ:(pre++ [x]).length≤n:=aN.le az.1 az.2;simp only [bo,dE] at aQ;refine aP 2 U<|p (ay U<|(eB ae).trans U)<|p mv<|e<|fh ew U U fun aX aS al E aD=> ?_;have aI:Wk w aS:=Md.trans aj E.md;have al:=E.md.ax ae;refine e<|ap ew (aR I E.md) U (cR ao E.md.size) U (aT.dD aD) (U) (U) ag ag fun v11 aV an V a6 a2=> ?_;have aK:=Wk.own aI (aR I E.md) V J.md.size;have aw:mR bk M es c aV:=⟨V.ax (E.md.ax ah.1) (fun h=>rF (aR I E.md) (E.md.ax ah.1) aJ h),V.ax (E.md.ax ah.2) fun h=>by have :=da (aR I E.md) h; omega⟩
 have am:=V.ax al fun h=>rF (aR I E.md) al aJ h;refine e<|fl pd U U (F0 an) am (by simp) fun aW Z aF=> ?_;have aL:Wk w aW:=Md.trans' aK Z fun k O h=>by omega
 exact ar 2 U<|⟨(fU.wk E.md).trans ((fU.md V<|ud<|aR I E.md).trans<|fU.md Z fun k O=>⟨_,_,_,O ▸ am⟩),v11,aF,cC (by rw [List.map_append,bo]; exact an) Z (fun k O h=>rF an am aJ<|h ▸ O),⟨Z.ax aw.1 (fun h=>by have :=(cx.1 ad.1).1; omega),Z.ax aw.2 fun h=>by omega⟩,cR ao (cR E.md.size<|cR V.size Z.size),aL⟩
 intro D L xs aO aY ak ab;obtain ⟨v,ae,I,ah,ao,aj⟩:=ak;have a3:=(cx.1 ab).1;refine cE<|eK<|eY<|aP 1 U<|p (ay U<|(eB ae).trans U)<|p aU<|ar 1 U<|cE<|AW<|Mi U U ab ?_;exact ⟨xs,aO,nr (cC I (pM _ _ _) fun k O h=>by obtain ⟨c,e,z,ac⟩:=ud I k O; rw [h,ab] at ac; cases ac) J.md.size,Md.trans' aj (pM _ _ _) fun k O h=>by have :=J.md.size; omega⟩
theorem K5 (bk A:Nat) (es:Array MapEntry) (c:Nat) (g:List UInt8→Option Int) (n:Nat) (C:jF es.toList c) (I:je es.toList dU (mT g)) (L:dh g n) (M:n≤1048576) (w:ai) (E:mR bk A es c w):
 aZ aq 78 (bd [.func (.func 80) #[] #[aA bk]]) w (fun v w'=> ∃ xs,gX g xs∧b9 w' w.heap.size 9 1 (v) (xs).length ((xs).map str)∧Wk w w'):=by
 exact enter func78 U ntmps78 U<|aP 8 U<|e<|aI (J6 bk A es c g n C I L M w E) U fun v4 O J=>p aU<|ar 3 U<|aE U<|J
theorem P4 (bk C:Nat) (es:Array MapEntry) (c:Nat) (g:List UInt8→Option Int) (n:Nat) (O:jF es.toList c) (aa:je es.toList dU (mT g)) (J:dh g n) (ad:n≤1048576) (w:ai) (V:mR bk C es c w):
 aZ aq 34 (bd [.func (.func 80) #[] #[aA bk]]) w (fun v w'=> ∃ xs,gX g xs∧(xs.Pairwise fun a b=>a≤b)∧b9 w' w.heap.size 9 1 (v) (xs).length ((xs).map str)∧Wk w w'):=by
 refine enter func34 U ntmps34 U<|aP 7 U<|p mv<|e<|aI (K5 bk C es c g n O aa J ad w V) U ?_;rintro v5 ak ⟨xs,A,L,Z⟩;have al:xs.length≤n:=J.le A.1 fun x ah=>(A.2 x).1 ah;refine p aU<|aj 4 U<|p mv<|e<|aI (P3 w.heap.size xs.length v5 xs ak L ag) U ?_;rintro am an ⟨rfl,ae,ab⟩;refine aj 4 U<|p mv<|p aU<|ar 3 U<|aE U ?_;have M:=List.mergeSort_perm xs fun x y=>decide (x≤y);refine ⟨xs.mergeSort fun x y=>decide (x≤y),⟨M.nodup_iff.2 A.1,fun y=>by rw [M.mem_iff,A.2]⟩,?_,by rw [Jd]; exact ae,Wk.own Z L ab<|bf _⟩;have h:=List.pairwise_mergeSort (le:=fun x y:List UInt8=>decide (x≤y)) (fun a b c E I=> ?_) (fun a b=> ?_) xs;exact h.imp fun ac=>by simpa using ac
 simp only [decide_eq_true_iff] at E I ⊢; exact List.le_trans E I;simp only [lO,decide_eq_true_iff]; exact List.le_total a b
end Go.Hb.vq
end
section
namespace Go.Hb
open Go.Hb.dN
open Go.Hb.jH Go.Hb.j7 Go.Hb.vq
theorem Bn (B bl bs:Nat) (vb:ah) (a4:aW) (g:List UInt8→Option Int) (n:Nat) (hist:List (List UInt8→Option Int)) (cs:List ah) (w:ai) (J:cT w B bl bs vb a4 g n hist cs) (bH:∀ x o,g x=some o→x.length≤64):
 aZ aq 17 (bd [aA bl]) w (fun v w'=> ∃ xs,gX g xs∧(xs.Pairwise fun a b=>a≤b)∧v=str (gV g xs)∧Wk w w'):=by
 obtain ⟨es,c,bI,bc,bn⟩:=J.dQ;have bX:=J.nB;refine enter func17 U ntmps17 U<|aP 8 U<|p mv<|p (iM u32 U U)<|aC 2 U<|cf (U)<|az 4 U<|e<|fK x9 fun A aX bT ae a7=> ?_;have b7:=ae.size;have bv:=J.wk ae.md;refine aj 5 U<|p mv<|aj 2 U<|p (ay U<|bv.obj.aG 1)<|e<|aI (Nj bs aX) U ?_;rintro v12 bO ⟨bk,rfl,bU,bG,ao⟩;have b4:=ao.size;refine e<|aI (P4 bk bs es c g n bc bn J.eV ag bO ⟨bG,ao.ax<|ae.md.ax bI⟩) U ?_;rintro cb C ⟨xs,al,bM,M,aJ⟩;obtain ⟨au,aw,rfl⟩:=de M;have b5:=aJ.size;have b3:xs.length≤n:=J.eV.le al.1 fun x O=>(al.2 x).1 O;have aV:∀ x∈xs,x.length≤64:=fun x O=>let ⟨o,ho⟩:=(al.2 x).1 O; bH x o ho
 have aK:Wk aX C:=Md.trans ao aJ;have bf:Wk w C:=Md.trans ae.md aK;have a6:Bd 102 5 C A (.slice none 0 0) []:=(Bd.new a7).md aK fun _ _ h=>h;refine aC 5 U<|lp (fun aD aY am=> ∃ (i:Nat) (I:ah),(i≤xs.length)∧(Bd 102 5 am A I<|gV g<|xs.take i)∧(Wk w am)∧(Md (fun k=>k=A) C am)∧(∀ k,BF A I k→k=A∨C.heap.size≤k)∧(Sl aY [(0,aA bl),(3,aA A),(13,.slice au xs.length aw),(14,aQ (xs.length)),(15,aQ i)])∧(xs.length - i=aD)) _ ⟨0,.slice none 0 0,ag,a6,bf,(Md.refl _ _),(fun k h=> .inl<|h.resolve_right fun h=>by simp [dL] at h),U,U⟩ ?_;rintro aD aY am ⟨i,I,hi,an,ad,L,ak,bJ,rfl⟩;refine bE bJ ?_;have ca:=L.size;have ab:=an;have b0:(gV g<|xs.take i).length≤65000:=by
  have a5:=xM (g:=g) (xs:=xs.take i) fun x O=>aV x<|List.mem_of_mem_take O;rw [bY] at a5;omega
 refine bV 6 U<|cd U (fun bx=> ?_) fun bx=> ?_;refine bD 5 U ?_;have aR:=J.wk ad;have b2:(xs.getD i []).length≤64:=Ex aV ag;have b1:=sw<|xs.getD i [];refine az 1 U<|p (bZ dH U U ag<|aT.ok ((dx<|cC M L fun k E h=>by have :=da M E; omega).2)<|ef ag)<|p (ay U<|bN.get (i:=i) (dx<|cC M L fun k E h=>by have :=da M E; omega).2 ag)<|aC 3 U ?_;refine ei (fun a0 Z=> ∃ (aa:ah) (V:UInt8),(V=if 0 < (g<|xs.getD i []).getD 0 then 43 else 45)∧(Bd 102 5 Z A aa<|gV g (xs.take i)++ [V])∧(Wk w Z)∧(Md (fun k=>k=A) C Z)∧(∀ k,BF A aa k→k=A∨C.heap.size≤k)∧(Sl a0 [(0,aA bl),(3,aA A),(5,str (xs.getD i [])),(13,.slice au xs.length aw),(14,aQ (xs.length)),(15,aQ i)])) ?_ ?_;refine aP 5 U<|p (ay U<|aR.obj.aG 1)<|aj 1 U<|p (tO gI sB kQ (aR.dQ.ow) U U (⟨_,U⟩)<|wP g<|xs.getD i [])<|aC 3 U<|cd U (fun bz=> ?_) fun bz=> ?_;refine az 1 U<|e<|aI (qc A I (gV g<|xs.take i) (43) _ ab<|by first | omega | (simp only [bo,dE]; omega)) U ?_;rintro cc bP ⟨rfl,a1,a8,aL,bA⟩;have bg:=ab.step ad aL ag;have bp:Md (fun k=>k=A) C bP:=L.trans' aL fun k E h=>(ak k h).resolve_right ag;exact ar 1 U<|tn<|⟨a1,43,(by rw [if_pos ag]),a8,bg,bp,(fun k h=>(bA k h).elim (ak k) fun h=> .inr ag),U⟩
 refine az 1 U<|e<|aI (qc A I (gV g<|xs.take i) (45) _ ab<|by first | omega | (simp only [bo,dE]; omega)) U ?_;rintro ce bQ ⟨rfl,a2,a9,aM,bB⟩;have bh:=ab.step ad aM ag;have bq:Md (fun k=>k=A) C bQ:=L.trans' aM fun k E h=>(ak k h).resolve_right ag;exact ar 1 U<|tn<|⟨a2,45,(by rw [if_neg ag]),a9,bh,bq,(fun k h=>(bB k h).elim (ak k) fun h=> .inr ag),U⟩
 rintro a0 Z ⟨aa,V,bL,bb,bm,aO,aU,bK⟩;refine bE bK<|az 3 U<|e<|aI (RE (xs.getD i []) Z ag) U ?_;rintro cg ci ⟨rfl,ac⟩;have aF:=bb.md ac fun _ _ h=>h;refine e<|aI (RD A aa (gV g (xs.take i)++ [V]) (eH<|xs.getD i []) _ aF<|by rw [bo,dE]; omega) U ?_;rintro v30 bR ⟨rfl,av,aH,ap,bC⟩;have bi:=aF.step (Md.trans bm ac) ap ag;have br:Md (fun k=>k=A) C bR:=(aO.trans' ac fun _ _ h=>h.elim).trans' ap fun k E h=>(aU k h).resolve_right ag;have b6:=ac.size;have b9:=aO.size;have b8:=ap.size;refine aj 3 U<|e<|aI (qc A av (gV g (xs.take i)++ [V]++eH (xs.getD i [])) (10) _ aH<|by first | omega | (simp only [bo,dE]; omega)) U ?_;rintro v31 bS ⟨rfl,a3,ba,aN,bF⟩;have bj:=aH.step bi aN ag;have aS:∀ k,BF A av k→k=A∨C.heap.size≤k:=fun k h=>(bC k h).elim (aU k) fun h=> .inr ag;have bt:Md (fun k=>k=A) C bS:=br.trans' aN fun k E h=>(aS k h).resolve_right ag;exact aj 4 U<|p (bW<|i+1)<|ar 2 U<|tn<|⟨_,ag,i+1,a3,ag,(by rw [HE ag]; unfold nC; rw [← bL,List.append_cons,← iF]; exact ba),bj,bt,(fun k h=>(bF k h).elim (aS k) fun h=> .inr ag),U,U⟩
 refine aB 2 U<|cj<|fY 4 U<|e<|aI (uw A I (gV g<|xs.take i) _ an ag) U ?_;rintro ch ck ⟨rfl,bu⟩;refine ar 4 U<|aE U ?_;obtain rfl :i=xs.length:=ag;rw [yE];exact ⟨xs,al,bM,U,an.uv ad bu ag⟩
end Go.Hb
end
namespace Go.Hb.o3
def pE:List UInt8:= [72,66,75,49,3,0,0,4,2,99,1,2,97,2,2,116,3,1,1,0,1,0,1,0]
def pT:List Nat:= [0,2,3,4,5,6,7,9,10,11,12,13,14]
def cB (E:Nat→Nat):Hp:=⟨sH 17 544 E pT,34⟩
noncomputable def zw (E:Nat→Nat):Rs:=jT aq 17 (x2 129 294) 100000<|.cl 22 [.str [],.str [49,10,99,97,116,10],.agg [.int .i64 9,.int .i64 2,.int .i64 1048576,.int .i64 1024,.int .i64 1024]]<|cB E
noncomputable def vY (E:Nat→Nat):Rs:=jT aq 17 (x2 129 294) 100000<|.cl 11 [.str pE]<|cB E
def AP:Rs→Bool
 | .rv (.dg [.str l,.fM]) _=>jR l pE
 | _=>false
def AR:Rs→Bool
 | .rv (.bool true) _=>true
 | _=>false
noncomputable def AS:Rs→Bool
 | .rv (.dg [.ptr b 0,.fM]) h=>AR<|jT aq 17 (x2 129 294) 100000<|.cl 21 [.ptr b 0,.str [99,97,116]] h
 | _=>false
theorem Mg (E:Nat→Nat):AS (vY E)=true :=an
end Go.Hb.o3
section
namespace Go.Hb
open Go.Hb.o3
theorem Mb (E:Nat→Nat):AP (zw E)=true :=an
end Go.Hb
end
section
namespace Go.Hb.vu
open Go.Hb.dN
open Go.Hb.o3
theorem xk:j8 aq 17 (x2 129 294):=RF C2 EL
theorem ck:iJ aq:=K4 an
theorem OV {R:Rs} (h:AP R=true):∃ A,R= .rv (.dg [.str pE,.fM]) A:=by
 unfold AP at h;split at h
 · rename_i l A;rw [qW,decide_eq_true_iff] at h;subst h;exact ⟨A,U⟩
 · cases h
theorem Mc (E:Nat→Nat):∃ A,zw E= .rv (.dg [.str pE,.fM]) A:=OV<|Mb E
theorem OW {R:Rs} (h:AR R=true):∃ A,R= .rv (.bool true) A:=by
 unfold AR at h;split at h
 · exact ⟨_,U⟩
 · cases h
theorem OX {R:Rs} (h:AS R=true):∃ b A,R= .rv (.dg [.ptr b 0,.fM]) A∧∃ C,jT aq 17 (x2 129 294) 100000 (.cl 21 [.ptr b 0,.str [99,97,116]] A)= .rv (.bool true) C:=by
 unfold AS at h;split at h
 · exact ⟨_,_,U,OW h⟩
 · cases h
theorem Mh (E:Nat→Nat):∃ b A,vY E= .rv (.dg [.ptr b 0,.fM]) A∧∃ C,jT aq 17 (x2 129 294) 100000 (.cl 21 [.ptr b 0,.str [99,97,116]] A)= .rv (.bool true) C:=OX<|Mg E
theorem ui:∀ g∈pT,g < 17:=aJ
theorem K3 (w:ai) (I:dY 544 pT w):aZ aq 22 #[str [],str [49,10,99,97,116,10],.agg #[.int .i64 9,.int .i64 2,.int .i64 1048576,.int .i64 1024,.int .i64 1024]] w (fun v w'=>v= .tuple #[str pE,.nilIface]∧Wk w w'):=by
 obtain ⟨E,r,hr⟩:=HR.xz (P:=aq) (G:=17) (T:=544) ui aJ I;obtain ⟨C,he⟩:=Mc E;unfold zw at he;have L:=zx xk ck wide he;obtain ⟨O,J⟩:=L;refine (J C.nx r w [str [],str [49,10,99,97,116,10],.agg #[.int .i64 9,.int .i64 2,.int .i64 1048576,.int .i64 1024,.int .i64 1024]] (bf _) (hr _)<|by simp only [den,bc]).mono fun v w' M=> ?_;obtain ⟨r',A,st⟩:=M;refine ⟨?_,st.wk ui aJ⟩;simp only [den,bc,bR] at A;exact A.symm
structure oX (B:Nat) (w:ai) (a:aW):Prop where
 ex:∃ (E:Nat→Nat) (b:Nat) (h:Hp) (r:Rn) (q:Loc),vY E= .rv (.dg [.ptr b 0,.fM]) h∧(∃ h2,jT aq 17 (x2 129 294) 100000 (.cl 21 [.ptr b 0,.str [99,97,116]] h)= .rv (.bool true) h2)∧r b=some q∧a=⟨q.ax,q.sh,none⟩∧(∀ k,Fr 17 r h k→B≤k)∧∀ T,HR aq 17 r T h w
theorem NM (w:ai) (L:dY 544 pT w):aZ aq 11 #[str pE] w (fun v w'=> ∃ a,v= .tuple #[.pointer (some a),.nilIface]∧oX w.heap.size w' a∧Wk w w'):=by
 obtain ⟨E,r,hr⟩:=HR.xz (P:=aq) (G:=17) (T:=544) ui aJ L;obtain ⟨b,C,he,V⟩:=Mh E;have J:=he;unfold vY at J;have aa:=zx xk ck wide J;obtain ⟨ad,M⟩:=aa;refine (M C.nx r w [str pE] (bf _) (hr _)<|by simp only [den,bc]).mono fun v w' ab=> ?_;obtain ⟨r',A,st⟩:=ab;cases hb:r' b with
 | none=>simp only [den,bc,hb] at A; cases A
 | some q=>
   simp only [den,bc,hb,bR] at A;refine ⟨⟨q.ax,q.sh,none⟩,A.symm,⟨E,b,C,r',q,he,V,hb,U,(fun k O=>Nat.le_of_not_lt fun Z=>by
    obtain ⟨i,o,ae,g1,g2,_⟩:=st.fC 17 (bf _) k Z O;obtain ⟨hm,_⟩:=rW aJ g2;have :=ui i hm;omega),fun T=>⟨st.hr.live,st.hr.inj,fun i I ac=> ?_,st.hr.gZ,st.hr.base⟩⟩,st.wk ui aJ⟩
   rw [st.out i I];exact (hr<|i+1).new i (cR st.nx I)<|Nat.lt_succ_self i
theorem Kc {B:Nat} (w:ai) (a:aW) (I:oX B w a):aZ aq 21 #[.pointer (some a),str [99,97,116]] w (fun v w'=>v= .bool true∧Md (fun k=>B≤k) w w'):=by
 obtain ⟨E,b,h,r,q,he,M,hb,rfl,L,hr⟩:=I;obtain ⟨C,jm⟩:=M;have O:=zx xk ck wide jm;obtain ⟨V,J⟩:=O;refine (J C.nx r w [.pointer (some ⟨q.ax,q.sh,none⟩),str [99,97,116]] (bf _) (hr _)<|by simp only [den,bc,hb,lT]).mono fun v w' U=> ?_;obtain ⟨r',A,st⟩:=U;simp only [den,bR] at A;exact ⟨A.symm,st.md.mono fun k _ h=>L k h⟩
end Go.Hb.vu
end
section
namespace Go.Hb.o4
open Go.Hb.dN
open Go.Hb.jH Go.Hb.j7 Go.Hb.vq Go.Hb.o3 Go.Hb.vu
def fN:List UInt8:= [99,97,116]
def gv:List UInt8:= [100,111,103]
def gR:List UInt8:= [101,109,117]
noncomputable def gA:List UInt8→Option Int:=eE 1 (c8 1 (fun _=>none) [gv,gR]) fun _=>none
noncomputable def gB:List UInt8→Option Int:=eE (-1) (c8 (-1) gA [fN]) gA
theorem n6 (x:List UInt8):gA x=if x=gv∨x=gR then some 1 else none:=by
 unfold gA eE c8 gp fm;by_cases h:x=gv∨x=gR <;> simp [h]
theorem q8 (x:List UInt8):gB x=if x=fN then some (-1) else gA x:=by
 unfold gB eE c8 gp fm;by_cases h:x=fN
 · have :gA x=none:=by rw [n6,h]; decide
   simp [h];rw [← h,this]; simp
 · simp [h]
theorem Er {x:List UInt8} {o:Int} (h:gA x=some o):x∈[gv,gR]:=by
 rw [n6] at h;split at h
 · rename_i A; simpa using A
 · cases h
theorem Es {x:List UInt8} :(∃ o,gB x=some o)↔x∈[fN,gv,gR]:=by
 rw [q8];constructor
 · rintro ⟨o,h⟩;split at h
   · rename_i A; simp [A]
   · have :=Er h; simp only [ej] at this ⊢; exact .inr this
 · intro h;by_cases A:x=fN
   · rw [if_pos A]; exact ⟨_,rfl⟩
   · rw [if_neg A,n6,if_pos (by simp only [ej,B6,or_false] at h; exact h.resolve_left A)]; exact ⟨_,rfl⟩
theorem MA:∀ x o,gB x=some o→x.length≤64:=fun x o h=>by
 have :=Es.1 ⟨o,h⟩;simp only [ej,B6,or_false] at this;rcases this with rfl | rfl | rfl <;> decide
theorem Mz {xs:List (List UInt8)} (h:gX gB xs) (A:xs.Pairwise fun a b=>a≤b):xs= [fN,gv,gR]:=
 Eb h ⟨aJ,fun y=>Es.symm⟩ A aJ
theorem MB:gV gB [fN,gv,gR]= [45,99,97,116,10,43,100,111,103,10,43,101,109,117,10]:=by
 have A:gB fN=some (-1):=by rw [q8,if_pos rfl]
 have C:gB gv=some 1:=by rw [q8,if_neg aJ,n6,if_pos (.inl rfl)]
 have E:gB gR=some 1:=by rw [q8,if_neg aJ,n6,if_pos (.inr rfl)]
 show nC gB fN++(nC gB gv++(nC gB gR++ []))=_;unfold nC;rw [A,C,E];rfl
theorem Pw {m:Nat} (h:dh (gw (fun _=>none) [gv,gR]) m):m≤500:=by
 have :=h.ge (l:= [gv,gR]) fun x ⟨o,A⟩=>by
  unfold gw at A;split at A
  · assumption
  · cases A
 exact cR this aJ
theorem Px {m:Nat} (h:dh (gw gA [fN]) m):m≤500:=by
 have :=h.ge (l:= [fN,gv,gR]) fun x ⟨o,A⟩=>by
  unfold gw at A;split at A
  · rename_i C; simp only [ej,B6,or_false] at C ⊢; exact .inl C
  · have :=Er A; simp only [ej] at this ⊢; exact .inr this
 exact cR this aJ
theorem KM:∃ x o,c8 1 (fun _=>none) [gv,gR] x=some o:=⟨gv,0,by unfold c8 gp fm; simp⟩
theorem KN:∃ x o,c8 (-1) gA [fN] x=some o:=⟨fN,0,by
 have :gA fN=none:=by rw [n6]; decide
 unfold c8 gp fm; simp [this]⟩
theorem iK.go {B bl bs:Nat} {vb:ah} {J:aW} {g:List UInt8→Option Int} {hist:List (List UInt8→Option Int)} {A:Int} {l:List (List UInt8)} {w w':ai} {v:ah} (h:iK B bl bs vb J g hist A l w v w') (ac:∀ x∈l,dK x=true) (hm:∀ m,dh (gw g l) m→m≤500) (I:∃ x o,c8 A g l x=some o):
 v= .int .i64 0∧∃ m C E,cT w' B bl bs C J (eE A (c8 A g l) g) m (hist++ [c8 A g l]) E∧Md (jh bl bs vb) w w'∧(∀ k,C.ownBlock=some k→vb.ownBlock=some k∨w.heap.size≤k):=by
 rcases h with ⟨⟨x,ad,L⟩,_⟩ | ⟨_,m,ab,h⟩
 · rw [ac x ad] at L; cases L
 · rcases h with ⟨h,_⟩ | ⟨_,rfl,h⟩
   · have :=hm m ab; omega
   · rcases h with ⟨h,_⟩ | ⟨C,E,_,M,O,V⟩
     · obtain ⟨ks,_,Z,aa⟩:=h;have :=j5 Z;subst this;obtain ⟨x,o,I⟩:=I;exact absurd ((aa<|str x).1<|(tS _ _).2 ⟨x,o,U,I⟩)<|by simp
     · exact ⟨U,m,C,E,M,O,V⟩
theorem oX.wk {B:Nat} {w w':ai} {a:aW} (h:oX B w a) (hm:Wk w w'):oX B w' a:=by
 obtain ⟨E,b,h,r,q,he,C,hb,rfl,A,hr⟩:=h;exact ⟨E,b,h,r,q,he,C,hb,U,A,fun T=>(hr T).dC hm fun _ _ _ _ _ h=>h⟩
theorem KD (B bl bs:Nat) (vb:ah) (A:aW) (g:List UInt8→Option Int) (n:Nat) (hist:List (List UInt8→Option Int)) (cs:List ah) (x:List UInt8) (R:ai→ah→ai→Prop) (w:ai) (E:cT w B bl bs vb A g n hist cs) (I:g x=none) (J:∀ w1,Wk w w1→aZ aq 21 #[.pointer (some A),str x] w1 (R w1)):
 aZ aq 20 (bd [aA bl,str x]) w (fun v w'=> ∃ w1,Wk w w1∧R w1 v w'):=by
 refine enter func20 U ntmps20 U<|aP 10 U<|e<|aI (mj B bl bs vb A g n hist cs x w E) U ?_;rintro aa M ⟨rfl,C⟩;refine aC 9 U<|cd U (fun h=>absurd h<|by rw [I]; decide) fun V=>bD 6 U<|cd U (fun h=>absurd h<|by rw [I]; decide) fun O=>az 6 U<|p (pO u32 U U)<|aj 1 U<|gb (t:=14) U (fun Z=> ?_) fun h=>absurd ((U).symm.trans h) dS;exact aj 3 U<|bA U (ay U<|(E.wk C).obj.aG 0)<|aj 1 U<|eg U U U<|aI (J M C) U fun v20 ab L=>p (rL U)<|p aU<|ar 3 U<|aE U<|⟨_,C,L⟩
theorem Rj (w:ai) (aC:dY 544 pT w):
 aZ aq 6 (bd []) w (fun v w'=>v= .bool true∧Wk w w'):=by
 refine enter func6 U ntmps6 U<|aP 7 U<|p (dZ (ps:= [(0,.int .i64 9),(1,.int .i64 2),(2,.int .i64 1048576),(3,.int .i64 1024),(4,.int .i64 1024)]) (L:= [.int .i64 9,.int .i64 2,.int .i64 1048576,.int .i64 1024,.int .i64 1024]) Qi U<|U)<|e<|aI (K3 w aC) U ?_;rintro bY aK ⟨rfl,ad⟩;have a7:=aC.mono ad fun _ _ h=>h;refine p mv<|aj 3 U<|p aU<|aj 5 U<|e<|aI (NM aK a7) U ?_;rintro bP A ⟨C,rfl,aN,ap⟩;have bO:=ad.size;have bH:=ap.size;refine p mv<|aj 2 U<|p aU<|p aU<|aj 4 U<|p mv<|e<|aI (Fz C A) U ?_;rintro bQ bm ⟨bl,bs,rfl,bh,bi,bG,a8,a9,au⟩;have aY:cT bm A.heap.size bl bs (.slice none 0 0) C (fun _=>none) 0 [] []:=⟨a8,a9,⟨[],yC,rfl,fun k=>⟨fun ⟨v,h⟩=>(by rw [rj] at h; cases h),fun h=>by simp at h⟩⟩,ag,fun x h=>(by cases h),⟨bh,bi⟩,eL _ _ _ _,(fun h=>by simp [dL] at h),trivial⟩
 have bI:=au.size;refine p aU<|aj 4 U<|p mv<|p (pO u32 U U)<|aj 1 U<|gb (t:=20) U (fun bu=> ?_) fun h=>absurd ((U).symm.trans h) dS;refine bA U mv<|eg U U U<|Ko (L:= [str gv,str gR]) ew U U U U fun Z am bq ae aO=> ?_;have bJ:=ae.size;have a0:=aY.wk ae.md;have a5:bN am.heap (some ⟨Z,0,none⟩) [gv,gR]:=aT.dD (show aD am.heap Z ([gv,gR].map str) from ⟨_,aO⟩);refine eg U U U<|aI (Ch A.heap.size bl bs (.slice none 0 0) C (fun _=>none) 0 [] [] [gv,gR] (some ⟨Z,0,none⟩) 2 am a0 a5 aJ aJ aJ) U fun bR aG a3=> ?_;obtain ⟨rfl,V,al,ab,E,aS,ba⟩:=iK.go a3 aJ (fun m h=>Pw h) KM;have E:cT aG A.heap.size bl bs al C gA V [c8 1 (fun _=>none) [gv,gR]] ab:=E;have av:Wk A aG:=(au.trans ae.md).trans' aS (fun k ak h=>by
  rcases h with h | h | h;omega;omega;simp [dL] at h)
 have bK:=av.size;have bE:ab.length=1:=(eT.len E.bk).trans rfl;have aF:∀ k,al.ownBlock=some k→A.heap.size≤k:=fun k h=>by
  rcases ba k h with h | h;simp [dL] at h;omega
 refine aj 3 U<|gs (t:=26) U (fun bv=> ?_) fun h=>absurd U h;refine bA U mv<|eg U U U<|fh ew U U fun aa an br ah aQ=> ?_;have bL:=ah.size;have a1:=E.wk ah.md;have a6:bN an.heap (some ⟨aa,0,none⟩) [fN]:=aT.dD (show aD an.heap aa ([fN].map str) from aQ);refine eg U U U<|aI (CE A.heap.size bl bs al C gA V _ ab [fN] (some ⟨aa,0,none⟩) 1 an a1 a6 aJ aJ ag) U fun bS ao a4=> ?_;obtain ⟨rfl,O,M,I,J,aV,bb⟩:=iK.go a4 aJ (fun m h=>Px h) KN;have J:cT ao A.heap.size bl bs M C gB O ([c8 1 (fun _=>none) [gv,gR]]++ [c8 (-1) gA [fN]]) I:=J;have aw:Wk A ao:=(av.trans ah.md).trans' aV (fun k ak h=>by
  rcases h with h | h | h;omega;omega;have :=aF k h; omega)
 have bM:=aw.size;have bF:I.length=2:=(eT.len J.bk).trans rfl;have bg:∀ k,M.ownBlock=some k→A.heap.size≤k:=fun k h=>by
  rcases bb k h with h | h;exact aF k h;omega
 refine aj 3 U<|gs (t:=32) U (fun bx=> ?_) fun h=>absurd U h;refine bA U mv<|eg U U U<|aI (KH A.heap.size bl bs M C gB O _ I fN ao J<|by rw [q8,if_pos U]) U ?_;rintro bT bn ⟨rfl,ac⟩;refine aj 3 U<|gb (t:=37) U (fun bz=> ?_) fun h=>absurd ((U).symm.trans h) dS;refine bA U mv<|eg U U U<|aI (KI A.heap.size bl bs M C gB O _ I gv bn (J.wk ac)<|by rw [q8,if_neg aJ,n6,if_pos (.inl U)]) U ?_;rintro bU bo ⟨rfl,ax⟩;have aA:=(J.wk ac).wk ax;refine aj 2 U<|gb (t:=41) U (fun bB=> ?_) fun h=>absurd ((U).symm.trans h) dS;refine bA U mv<|eg U U U<|aI (Bn A.heap.size bl bs M C gB O _ I bo aA MA) U ?_;rintro bV bp ⟨xs,bc,bf,rfl,ay⟩;obtain rfl :=Mz bc bf;rw [MB] at*;have a2:=aA.wk ay;refine aj 3 U<|gs (t:=46) U (fun bC=> ?_) fun h=>absurd U h;refine bA U mv<|eg U U U<|aI (HN A.heap.size bl bs M C gB (c8 (-1) gA [fN]) O V _ I bp a2 (by rw [show gE (c8 (-1) gA [fN]) gB=gA from yU E.nz]; exact E.eV) E.nB ag) U ?_;rintro bW aH ⟨rfl,bj,aL,aB,aW,bt⟩;rw [show gE (c8 (-1) gA [fN]) gB=gA from yU E.nz] at aB;have az:Wk A aH:=(((aw.trans ac).trans ax).trans ay).trans' aW (fun k ak h=>by
  rcases h with h | h | h;omega;omega;have :=bg k h; omega)
 refine aj 2 U<|gb (t:=50) U (fun bD=> ?_) fun h=>absurd ((U).symm.trans h) dS;refine bA U mv<|eg U U U<|aI (KD A.heap.size bl bs bj C gA V _ aL fN (fun w1 v w'=>v= .bool true∧Md (fun k=>aK.heap.size≤k) w1 w') aH aB (by rw [n6]; decide) fun w1 aM=>Kc w1 C<|oX.wk (oX.wk aN az) aM) U ?_;rintro bX bZ ⟨w1,aR,rfl,aX⟩;exact ar 5 U<|aE U<|⟨U,((ad.trans<|ap.trans az).trans aR).trans' aX fun k ak h=>by omega⟩
end Go.Hb.o4
end
section
namespace Go.Hb
open Go.Hb.dN
def ng (e:Int):List PanicEntry:= [{v:= .iface 33 (.int .i64 e),recovered:=false}]
def Pl:Except Nat (Nat×Nat)→Nat
 | .ok (n,_)=>n
 | .error _=>0
def Pm:Except Nat (Nat×Nat)→Nat
 | .ok (_,p)=>p
 | .error _=>0
def rR:Except Nat (Nat×Nat)→Nat
 | .ok _=>0
 | .error e=>e
def AX (r:Except Nat (Nat×Nat)):ah:= .tuple #[.int .u64 (Pl r:Nat),.int .i64 (Pm r:Nat),.int .i64 (rR r:Nat)]
theorem AY {s:List UInt8} {a e:Nat} (h:bJ s a= .error e):e=60∨e=61:=by
 unfold bJ at h;split at h
 · cases h; exact .inr rfl
 · split at h
   · cases h; exact .inl rfl
   · split at h
     · cases h; exact .inr rfl
     · cases h
theorem Pq {s:List UInt8} {a:Nat} (h:((rR (bJ s a):Nat):Int)=0):∃ n p,bJ s a= .ok (n,p):=by
 cases hX:bJ s a with
 | ok x=>exact ⟨x.1,x.2,rfl⟩
 | error e=>
   rw [hX] at h;have :=AY hX;simp only [rR] at h; omega
theorem Pp {s:List UInt8} {a:Nat} (h:¬((rR (bJ s a):Nat):Int)=0):bJ s a= .error (rR<|bJ s a):=by
 cases hX:bJ s a with
 | ok x=>rw [hX] at h; simp [rR] at h
 | error e=>rfl
theorem GX {s:List UInt8} {a n:Nat} :(s.take<|a+n).drop a=(s.drop a).take n:=by rw [I4,Nat.add_sub_cancel_left]
theorem El {s:List UInt8} {a e:Nat} (h:bJ s a= .error e):dJ s a= .error e:=by unfold dJ; rw [h]
theorem Em {s:List UInt8} {a n p:Nat} (h:bJ s a= .ok (n,p)) (hn:255 < n):dJ s a= .error 62:=by unfold dJ; rw [h]; exact if_pos hn
theorem En {s:List UInt8} {a n p:Nat} (h:bJ s a= .ok (n,p)) (hn:¬255 < n) (hp:s.length < p+n):dJ s a= .error 60:=by unfold dJ; rw [h]; simp only; rw [if_neg hn,if_pos hp]
theorem Eo {s:List UInt8} {a n p:Nat} (h:bJ s a= .ok (n,p)) (hn:¬255 < n) (hp:¬s.length < p+n):dJ s a= .ok ((s.drop p).take n,p+n):=by unfold dJ; rw [h]; simp only; rw [if_neg hn,if_neg hp]
theorem J1:∀ r:Fin 256,sK.wrap (j1 sK.bits ((r.val:Nat):Int) &&& j1 sK.bits 127).toNat=((r.val % 128:Nat):Int):=by decide+kernel
theorem J0 (b:UInt8):sK.wrap (j1 sK.bits (b.toNat:Int) &&& j1 sK.bits 127).toNat=((b.toNat % 128:Nat):Int):=J1 ⟨b.toNat,oW b⟩
theorem F2 (i:Nat):(128:Nat) ^ i=2 ^ (7 *i):=by rw [Nat.pow_mul]
theorem PW {x i:Nat} (hi:i≤9):qp.wrap (((x:Nat):Int)*2 ^ min ((7 *i:Nat):Int).toNat qp.bits)=((x*128 ^ i % 18446744073709551616:Nat):Int):=by
 have A:(qp.bits:Nat)=64:=rfl;rw [Int.toNat_natCast,A,sQ ag,IntKind.wrap_u64,F2];generalize 7 *i=m;rw [show ((x:Nat):Int)*2 ^ m=((x*2 ^ m:Nat):Int) by simp];omega
theorem OD {n x i:Nat} (hi:i≤9) (hn:n < 128 ^ i):qp.wrap (j1 qp.bits (n:Int) ||| j1 qp.bits ((x*128 ^ i % 18446744073709551616:Nat):Int)).toNat=((n+x*128 ^ i % 18446744073709551616:Nat):Int):=by
 have C:(qp.bits:Nat)=64:=rfl;rw [F2] at hn ⊢;have I:x*2 ^ (7 *i) % 18446744073709551616=2 ^ (7 *i)*(x % 2 ^ (64 - 7 *i)):=by
  rw [show (18446744073709551616:Nat)=2 ^ (7 *i)*2 ^ (64 - 7 *i) by rw [← Nat.pow_add,show 7 *i+(64 - 7 *i)=64 by omega],u7 x,Nat.mul_mod_mul_left]
 rw [I,C,Il,Il,BitVec.toNat_or,Im,Im];have A:x % 2 ^ (64 - 7 *i) < 2 ^ (64 - 7 *i):=Nat.mod_lt _<|Nat.two_pow_pos _;generalize x % 2 ^ (64 - 7 *i)=z at A;have hle:(2:Nat) ^ (7 *i)≤2 ^ 64:=sR aJ ag;have hmul:2 ^ (7 *i)*z+n < 2 ^ 64:=by
  have E:2 ^ (7 *i)*(z+1)≤2 ^ (7 *i)*2 ^ (64 - 7 *i):=JB _ A;rw [← Nat.pow_add,show 7 *i+(64 - 7 *i)=64 by omega,Nat.mul_succ] at E;omega
 rw [Ca ag,Ca (show 2 ^ (7 *i)*z < 2 ^ 64 by omega),Nat.or_comm,← Nat.two_pow_add_eq_or_of_lt hn,jw ag,Nat.add_comm]
theorem wN {s:List UInt8} {a i n:Nat} (hi:i≤9) (ha:a+i < s.length) (hn:n=e7 ((s.drop a).take i)) (hb:i≤8∨(s.getD (a+i) 0).toNat≤1):n+(s.getD (a+i) 0).toNat % 128 *128 ^ i % 18446744073709551616=e7 ((s.drop a).take<|i+1):=by
 have E:((s.drop a).take i).length=i:=by rw [bY,gh]; omega
 have I:(s.drop a)[i]? =some (s.getD (a+i) 0):=by
  rw [kD,cQ,cr ag]; rfl
 rw [Jt,I,JF,Aa,E,hn,e7,e7,Nat.mul_zero,lT];congr 1;have hm:(s.getD (a+i) 0).toNat % 128 < 128:=Nat.mod_lt _ aJ;have A:i≤8∨(s.getD (a+i) 0).toNat % 128≤1:=hb.imp id fun h=>ag;generalize (s.getD (a+i) 0).toNat % 128=x at hm A ⊢;rw [u7,Ca];have M:(128:Nat) ^ 9=9223372036854775808:=aJ;rcases A with hb | hb
 · have J:128 ^ i*x < 128 ^ i*128:=Nat.mul_lt_mul_of_pos_left hm<|Nat.pow_pos aJ;have L:(128:Nat) ^ i*128=128 ^ (i+1):=rfl;have C:(128:Nat) ^ (i+1)≤128 ^ 9:=sR aJ ag;omega
 · have C:(128:Nat) ^ i≤128 ^ 9:=sR aJ ag;have O:128 ^ i*x≤128 ^ i*1:=JB _ hb;omega
theorem Pr (s:List UInt8) (a:Nat) (w:ai) (ao:s.length≤1048576) (ha:a≤s.length):
 aZ aq 122 (bd [str s,aQ a]) w (fun v w'=>v=AX (bJ s a)∧Wk w w'):=by
 refine enter func122 U ntmps122 U<|aP 13 U<|gs (t:=11) U (fun h=>absurd h ag) fun an=>aC 7 U<|cd U (fun ab=> ?_) fun ab=> ?_;exact aB 9 U<|f3 U U U U<|⟨by rw [xw (k:=0) (lI ag (fun j O=>by omega)<|.inr<|.inl ag) ag ag]; rfl,Md.refl _ _⟩
 refine bD 9 U<|lp (fun L Z V=> ∃ (i n:Nat),(i≤10)∧(∀ j,j < i→a+j < s.length∧128≤(s.getD (a+j) 0).toNat)∧(i≤9→n=e7 ((s.drop a).take i))∧(Wk w V)∧(Sl Z [(0,str s),(1,aQ a),(4,.int .u64 (n:Nat)),(17,aQ i)])∧(10 - i=L)) _ ⟨0,0,ag,(fun j O=>by omega),(fun _=>rfl),(Md.refl _ _),U,U⟩ ?_;rintro L Z V ⟨i,n,hi,E,hn,C,am,rfl⟩;refine bE am<|bV 6 U<|cd U (fun ac=> ?_) fun ac=> ?_;refine bD 21 U<|cd U (fun ad=> ?_) fun ad=> ?_;exact aB 11 U<|tr<|bg 2 U<|f3 U U U U<|⟨by rw [xw (k:=i) (lI ag E<|.inr<|.inl ag) ag ag]; rfl,C⟩
 refine az 7 U<|p (bW<|a+i)<|p (dc u9 U U ag)<|aC 4 U ?_;have al:n < 128 ^ i:=by
  have M:=wG<|(s.drop a).take i;rw [← hn ag] at M;have aa:((s.drop a).take i).length=i:=by rw [bY,gh]; omega
  rwa [aa] at M
 refine az 3 U<|p (dO U U<|J0 _)<|p (jL sr Bu U<|jw ag)<|aj 1 U<|p (Aw ((7 *i:Nat):Int) U U<|uB ag ag)<|p (shl U U ag<|PW ag)<|p (CI U U<|OD ag al)<|aC 12 U<|cd U (fun ae=> ?_) fun ae=> ?_;have ak:∀ j,j < i+1→a+j < s.length∧128≤(s.getD (a+j) 0).toNat:=fun j O=>by
  rcases dM j i with h | h;exact E j h;obtain rfl :j=i:=ag;exact ⟨ag,ag⟩
 exact az 6 U<|p (bW<|i+1)<|ar 2 U<|tn<|⟨_,ag,i+1,n+(s.getD (a+i) 0).toNat % 128 *128 ^ i % 18446744073709551616,ag,ak,(fun h=>wN ag ag (hn ag)<|.inl ag),C,U,U⟩
 refine az 6 U<|gs (t:=45) U (fun ah=> ?_) fun ah=> ?_;refine aC 6 U<|cd U (fun I=> ?_) fun I=> ?_;refine bD 2 U<|cd U (fun I=> ?_) fun I=> ?_;refine aB 12 U<|tr<|bg 2 U<|f3 U U U U ?_;have A:=lI (s:=s) (a:=a) (k:=i) ag E<|.inr<|.inr ag;exact ⟨by rw [rS A ag ag ag]; rfl,C⟩;refine az 8 U<|p (bW<|a+i)<|p (bW<|a+i+1)<|ar 8 U<|tr<|bg 2 U<|f3 U U U U ?_;exfalso; omega;refine az 4 U<|gs (t:=51) U (fun J=> ?_) fun J=> ?_;refine aC 6 U<|cd U (fun I=> ?_) fun I=> ?_;refine aB 12 U<|tr<|bg 2 U<|f3 U U U U ?_;have A:=lI (s:=s) (a:=a) (k:=i) ag E<|.inr<|.inr ag;exact ⟨by rw [rS A ag ag ag]; rfl,C⟩;refine az 8 U<|p (bW<|a+i)<|p (bW<|a+i+1)<|ar 8 U<|tr<|bg 2 U<|f3 U U U U ?_;have A:=lI (s:=s) (a:=a) (k:=i) ag E<|.inr<|.inr ag;exact ⟨by rw [xu A ag ag ag,← wN ag ag (hn ag) ag]; rfl,C⟩;refine aj 3 U<|p aU<|aj 11 U<|p (bW<|a+i)<|p (bW<|a+i+1)<|ar 8 U<|tr<|bg 2 U<|f3 U U U U ?_;exfalso; omega;refine aj 3 U<|p aU<|aj 7 U<|gs (t:=51) U (fun J=> ?_) fun J=> ?_;refine aC 6 U<|cd U (fun I=> ?_) fun I=> ?_;refine aB 12 U<|tr<|bg 2 U<|f3 U U U U ?_;have A:=lI (s:=s) (a:=a) (k:=i) ag E<|.inr<|.inr ag;exact ⟨by rw [rS A ag ag ag]; rfl,C⟩;refine az 8 U<|p (bW<|a+i)<|p (bW<|a+i+1)<|ar 8 U<|tr<|bg 2 U<|f3 U U U U ?_;have A:=lI (s:=s) (a:=a) (k:=i) ag E<|.inr<|.inr ag;exact ⟨by rw [xu A ag ag ag,← wN ag ag (hn ag) ag]; rfl,C⟩;refine aj 3 U<|p aU<|aj 11 U<|p (bW<|a+i)<|p (bW<|a+i+1)<|ar 8 U<|tr<|bg 2 U<|f3 U U U U ?_;have A:=lI (s:=s) (a:=a) (k:=i) ag E<|.inr<|.inr ag;exact ⟨by rw [xu A ag ag ag,← wN ag ag (hn ag) ag]; rfl,C⟩;refine aB 2 U<|cj<|bg 10 U<|f3 U U U U ?_;obtain rfl :i=10:=ag;exact ⟨by rw [Gw (lI ag E<|.inl U)]; rfl,C⟩
theorem lK (C:ah) (b:Bool) (e:Int) (w:ai):
 o5 aq 72 (bd [C,.bool b,.int .i64 e]) w (fun v w'=>v=kB #[]∧b=true∧w'=w) (fun c w'=>c=ng e∧b=false∧w'=w):=by
 refine tC func72 U ntmps72 U<|bV 6 U<|cb U (fun A=> ?_) fun A=> ?_;exact az 2 U<|p (Av wV U)<|OI U fun σ' E=>⟨U,by simpa using A,U⟩
 refine aB 1 U<|tI<|f0 U ?_;exact ⟨U,by simpa using A,U⟩
theorem rz (rb:Nat) (s:List UInt8) (a:Nat) (w:ai) (E:aD w.heap rb [str s,.int .i64 (a:Nat)]) (ab:s.length≤1048576) (ha:a≤s.length):
 o5 aq 70 (bd [.pointer (some ⟨rb,0,none⟩)]) w (fun v w'=> ∃ n p,bJ s a= .ok (n,p)∧v= .int .u64 (n:Nat)∧aD w'.heap rb [str s,.int .i64 (p:Nat)]∧Md (fun k=>k=rb) w w') (fun c w'=> ∃ e,bJ s a= .error e∧c=ng e∧Md (fun k=>k=rb) w w'):=by
 refine tC func70 U ntmps70 U<|bV 6 U<|fk fun C=>aY [0,1,2] U C<|c9 3 U C (E.aG 0)<|aY [4,5,6] U C<|c9 7 U C (E.aG 1)<|he 8 U an<|aI (Pr s a w.drew ab ha) U ?_;rintro ag L ⟨rfl,A⟩;have A:=Md.gM A;have J:(fun w'=>Wk w w') L:=A;refine ⟨J,?_⟩;refine hp 9 U an (fun _ _=>mv) J<|aY [10,11,12,13,14,15] U J<|hn an<|fY 7 U<|eP U (fQ jJ (lK _ _ _ L) U fun ah ak Z=> ?_) fun c w' I σ' ae=>⟨_,Pp (of_decide_eq_false I.2.1),I.1,by rw [I.2.2]; exact A.mono fun _ _ h=>h.elim⟩
 obtain ⟨rfl,ac,rfl⟩:=Z;obtain ⟨n,ad,aa⟩:=Pq<|of_decide_eq_true ac;have M:=Wk.B A E;refine aj 8 U<|e<|st fW U U (U) (M) (by simp) fun al V O=>ar 9 U<|tI<|f1 U U ?_;rw [aa] at*;exact ⟨n,ad,U,U,O,Md.trans (A.mono fun _ _ h=>h.elim) V⟩
theorem Hu (rb:Nat) (s:List UInt8) (a n:Nat) (w:ai) (I:aD w.heap rb [str s,.int .i64 (a:Nat)]) (ak:s.length≤1048576) (ha:a≤s.length) (ah:n≤1048576):
 o5 aq 123 (bd [.pointer (some ⟨rb,0,none⟩),.int .i64 (n:Nat)]) w (fun v w'=>a+n≤s.length∧v=str ((s.drop a).take n)∧aD w'.heap rb [str s,.int .i64 ((a+n:Nat):Int)]∧Md (fun k=>k=rb) w w') (fun c w'=>s.length < a+n∧c=ng 60∧Md (fun k=>k=rb) w w'):=by
 refine tC func123 U ntmps123 U<|bV 6 U<|fk fun C=>aY [0,1,2,3,4] U C<|c9 5 U C (I.aG 0)<|aY [6,7,8,9] U C<|c9 10 U C (I.aG 1)<|aY [11,12] U C<|MN 13 U an U (fQ jJ (lK _ _ _ w.drew) U fun al M ac=> ?_) fun c w' J σ' ae=>⟨by have :=of_decide_eq_false J.2.1; omega,J.1,by rw [J.2.2]; exact (Md.refl _ _).drew⟩
 obtain ⟨rfl,V,L⟩:=ac;have V:=of_decide_eq_true V;have O:aD M.heap rb [str s,.int .i64 (a:Nat)]:=by rw [L]; exact I
 have aa:Md (fun k=>k=rb) w M:=by rw [L]; exact (Md.refl _ _).drew
 have ad:(fun w'=>Wk w w') M:=by rw [L]; exact (Md.refl _ _).drew
 refine ⟨ad,?_⟩;refine hn an<|fY 6 U<|p (ay U<|O.aG 1)<|aj 1 U<|p (bW<|a+n)<|aj 2 U<|e<|st fW U U (U) (O) (by simp) fun am ab Z=> ?_;have E:=Z;exact aC 3 U<|fk fun A=>aY [0,1,2] U A<|c9 3 U A (E.aG 0)<|aY [4,5,6] U A<|c9 7 U A (E.aG 1)<|aY [8] U A<|hp 9 U an (fun _ _=>pS<|a) A<|aY [10,11,12] U A<|c9 13 U A (E.aG 1)<|hp 14 U an (fun _ _=>oG u9 U U U ag) A<|aY [15] U A<|hn an<|bg 2 U<|tI<|f1 U U<|⟨ag,by rw [← GX]; rfl,E,(aa.trans ab).drew⟩
theorem zL (rb:Nat) (s:List UInt8) (a:Nat) (w:ai) (M:aD w.heap rb [str s,.int .i64 (a:Nat)]) (J:s.length≤1048576) (ha:a≤s.length):
 o5 aq 71 (bd [.pointer (some ⟨rb,0,none⟩)]) w (fun v w'=> ∃ f p,dJ s a= .ok (f,p)∧v=str f∧aD w'.heap rb [str s,.int .i64 (p:Nat)]∧Md (fun k=>k=rb) w w') (fun c w'=> ∃ e,dJ s a= .error e∧c=ng e∧Md (fun k=>k=rb) w w'):=by
 refine tC func71 U ntmps71 U<|aP 8 U<|eP U (fQ qO (rz rb s a w M J ha) U fun v5 ah ac=> ?_) fun c w' A σ' I=>by obtain ⟨e,he,ae,Z⟩:=A; exact ⟨e,El he,ae,Z⟩
 obtain ⟨n,q,C,rfl,V,E⟩:=ac;obtain ⟨al,am,an⟩:=kY C;refine aj 8 U<|eP U (fQ jJ (lK _ _ _ ah) U fun v9 ak ad=> ?_) fun c w' A σ' I=>⟨62,Em C (by have :=of_decide_eq_false A.2.1; omega),A.1,by rw [A.2.2]; exact E⟩
 obtain ⟨rfl,L,rfl⟩:=ad;have L:=of_decide_eq_true L;refine aj 6 U<|p (jL u3 oI U<|ku ag)<|eP U (fQ CO (Hu rb s q n ak V J ag ag) U fun ap au ab=> ?_) fun c w' A σ' I=>⟨60,En C ag A.1,A.2.1,E.trans A.2.2⟩
 obtain ⟨ao,rfl,O,aa⟩:=ab;exact ar 4 U<|tI<|f1 U U<|⟨_,_,Eo C ag ag,U,O,E.trans aa⟩
theorem Hw {s:List UInt8} {i:Nat} (h:i < s.length):(s.take<|i+1).drop i= [s.getD i 0]:=by
 rw [I4,show i+1 - i=1 by omega,drop_cons 0 h]; rfl
theorem Rb (b:UInt8):dK [b]=gN b:=by
 unfold dK gK;cases h:gN b <;> simp [h]
def jM:List UInt8×List UInt8:=([],[])
def iS (r:List UInt8×List UInt8):List ah:= [str r.1,str r.2]
theorem Gu {h:Array Obj} {a:Option aW} {rs:List (List UInt8×List UInt8)} {i:Nat} (A:aT h a (rs.flatMap iS)) (hi:i < rs.length):∀ j,j < 2→Hb.aH h (bk a) (fo a+i*2 +j)= [str (rs.getD i jM).1,str (rs.getD i jM).2][j]? :=
 nf (f:=iS) (m:=2) (fun _=>rfl) A (by rw [cQ,cr hi]; rfl)
theorem Gv {rs:List (List UInt8×List UInt8)} (h:0 < rs.length):rs.flatMap iS≠[]:=pq (f:=iS) (m:=2) (fun _=>rfl) aJ h
variable {ls:Nat} {t:List UInt8} {rs:List (List UInt8×List UInt8)}
theorem nT {b:Bool} (h:(!b)=true):b=false :=by cases b; rfl; cases h
theorem rZ (h:ls < 1∨64 < ls∨256 < rs.length):fO ls t rs=false :=by
 unfold fO;rw [decide_eq_false ag]; rfl
theorem xA (h:t≠[]) (A:letE t≠(t,0)):fO ls t rs=false :=by
 unfold fO;rw [decide_eq_false h,decide_eq_false A]; simp
theorem oC {i:Nat} (h:i < rs.length) (A:ju (rs.getD i jM)=false):fO ls t rs=false :=by
 unfold fO;rw [Cr jM h A]; simp
theorem GJ (h:¬(ls < 1∨64 < ls∨256 < rs.length)) (A:t= []∨letE t=(t,0)) (C:∀ i,i < rs.length→ju (rs.getD i jM)=true):fO ls t rs=true :=by
 unfold fO;rw [decide_eq_true ag,Ct jM C];rcases A with A | A <;> simp [A]
theorem GL {r:List UInt8×List UInt8} (h:r.1= []):ju r=false :=by unfold ju; simp [h]
theorem A4 {r:List UInt8×List UInt8} (h:(gK r.1 && decide (r.1.length≤32))=false):ju r=false :=by unfold ju; rw [h]; simp
theorem A5 {r:List UInt8×List UInt8} (h:(gK r.2 && decide (r.2.length≤32))=false):ju r=false :=by unfold ju; rw [h]; simp
theorem GM {r:List UInt8×List UInt8} (h0:r.1≠[]) (h:(gK r.1 && decide (r.1.length≤32))=true) (A:(gK r.2 && decide (r.2.length≤32))=true):ju r=true :=by unfold ju; rw [h,A,decide_eq_true h0]; rfl
theorem F3 (x:List UInt8) (m:Nat) (w:ai) (ab:x.length≤1048576):
 aZ aq 125 (bd [str x,aQ m]) w (fun v w'=>v= .bool (gK x && decide (x.length≤m))∧Wk w w'):=by
 refine enter func125 U ntmps125 U<|bV 14 U<|lp (fun I V E=> ∃ (i:Nat),(i≤x.length)∧(∀ j,j < i→gN (x.getD j 0)=true)∧(Wk w E)∧(Sl V [(0,str x),(1,aQ m),(7,aQ (x.length)),(8,aQ i)])∧(x.length - i=I)) _ ⟨0,ag,(fun j M=>by omega),(Md.refl _ _),U,U⟩ ?_;rintro I V E ⟨i,hi,O,A,aa,rfl⟩;refine bE aa<|bV 6 U<|cd U (fun Z=> ?_) fun Z=> ?_;refine az 15 U<|p (bW<|i+1)<|p (oG u9 U U U ag)<|e<|aI (Bx ((x.take<|i+1).drop i) E<|by rw [Hw ag]; simp) U fun ac ad L=> ?_;rw [Hw ag,Rb] at L;obtain ⟨rfl,J⟩:=L;refine aC 3 U<|cb U (fun C=> ?_) fun C=> ?_;exact aB 8 U<|tr<|bg 2 U<|aE U<|⟨by rw [tq (i:=i) ag (by simpa using C)]; rfl,A.trans J⟩
 exact az 4 U<|p (bW<|i+1)<|ar 2 U<|tn<|⟨_,ag,i+1,ag,(fun j M=>by rcases dM j i with h | h <;> first | exact O j h | (rw [show j=i by omega]; simpa using C)),(A.trans J),U,U⟩
 exact aB 2 U<|cj<|bg 12 U<|aE U<|⟨by rw [vG (fun j M=>O j ag),Bool.true_and]; exact bv ag,A⟩
theorem PL (ls:Nat) (t:List UInt8) (rs:List (List UInt8×List UInt8)) (ra:Option aW) (rc:Nat) (v3 v4 v5 v6:ah) (w:ai) (ao:aT w.heap ra (rs.flatMap iS)) (a8:ls≤64) (bb:t.length≤1048576) (a9:rs.length≤1048576) (aY:∀ r∈rs,r.1.length≤1048576∧r.2.length≤1048576):
 aZ aq 73 (bd [.agg #[aQ ls,str t,.slice ra rs.length rc,v3,v4,v5,v6]]) w (fun v w'=>v= .bool (fO ls t rs)∧Wk w w'):=by
 refine enter func73 U ntmps73 U<|aP 2 U<|e<|l9 U fun am w1 a5 M C=>aj 7 U<|p (ay U<|C.aG 0)<|aj 2 U<|gs (t:=10) U (fun aV=> ?_) fun aV=> ?_;exact aj 4 U<|p mv<|ar 15 U<|aE U<|⟨(congrArg bB<|rZ (t:=t) (rs:=rs)<|.inl (show ls < 1 by omega)).symm,M.md⟩
 refine aj 1 U<|bA U (ay U<|C.aG 0)<|aj 3 U<|gs (t:=15) U (fun aX=> ?_) fun aX=> ?_;exact ar 15 U<|aE U<|⟨(congrArg bB<|rZ (t:=t) (rs:=rs)<|.inr<|.inl (show 64 < ls by omega)).symm,M.md⟩
 refine aj 1 U<|bA U (ay U<|C.aG 2)<|aC 5 U<|cd U (fun aS=> ?_) fun aS=> ?_;exact aB 7 U<|aE U<|⟨(congrArg bB<|rZ<|.inr<|.inr (show 256 < rs.length by omega)).symm,M.md⟩
 refine bD 2 U ?_;refine ei (fun ax ak=> ∃ (a3:Unit),(t= []∨letE t=(t,0))∧(Wk w ak)∧(aD ak.heap am [aQ ls,str t,.slice ra rs.length rc,v3,v4,v5,v6])∧(Sl ax [(1,aA am)])) ?_ ?_;refine aP 3 U<|p (ay U<|C.aG 1)<|e<|aI (NB t w1 ag) U ?_;rintro v24 bc ⟨rfl,ap⟩;have I:=M.md.trans ap;have E:=Wk.B ap C;refine p mv<|aj 9 U<|p (ay U<|E.aG 1)<|aj 2 U<|gs (t:=30) U (fun O=> ?_) fun O=> ?_;refine aj 3 U<|gs (t:=33) U (fun ab=> ?_) fun ab=> ?_;exact aj 5 U<|p (rL U)<|ar 9 U<|tr<|aE U<|⟨(congrArg bB<|xA O fun h=>by rw [h] at ab; exact ab U).symm,I⟩
 refine aj 2 U<|bA U (ay U<|E.aG 1)<|aC 5 U<|cd U (fun Z=> ?_) fun Z=> ?_;exact aB 6 U<|tr<|aE U<|⟨(congrArg bB<|xA O fun h=>Z<|by rw [h]).symm,I⟩
 exact aB 1 U<|tn<|⟨(),(.inr<|Prod.ext (mJ.1 Z)<|by show (letE t).2=0; omega),I,E,U⟩
 exact ar 13 U<|tn<|⟨(),(.inl<|mJ.1 O),I,E,U⟩
 rintro ax ak ⟨a3,a2,aN,aM,a0⟩;refine bE a0<|az 4 U<|p (ay U<|aM.aG 2)<|aC 5 U<|lp (fun an aF al=> ∃ (i:Nat),(i≤rs.length)∧(∀ j,j < i→ju (rs.getD j jM)=true)∧(Wk w al)∧(Sl aF [(41,.slice ra rs.length rc),(42,aQ (rs.length)),(43,aQ i)])∧(rs.length - i=an)) _ ⟨0,ag,(fun j av=>by omega),aN,U,U⟩ ?_;rintro an aF al ⟨i,hi,aw,A,a1,rfl⟩;refine bE a1<|bV 6 U<|cd U (fun aU=> ?_) fun aU=> ?_;refine az 6 U<|p (bZ Ma U U ag<|aT.ok (ao.wk A)<|Gv ag)<|p (eZ JU U (U)<|Gu (ao.wk A) ag)<|e<|fK RL fun aH bh a6 aR aK=>e<|fG Lg U U U U aK (by simp) fun ae aO aL=> ?_;have V:aD ae.heap aH [str (rs.getD i jM).1,str (rs.getD i jM).2]:=⟨_,aL⟩
 have L:Wk al ae:=Md.trans' aR.md aO fun k a7 h=>by omega
 have ba:=aY _<|gO (d:=jM) (show i < rs.length by omega);refine aj 5 U<|p (ay U<|V.aG 0)<|aj 2 U<|gs (t:=50) U (fun ac=> ?_) fun ac=> ?_;exact aj 5 U<|p mv<|ar 16 U<|tr<|bg 2 U<|aE U<|⟨(congrArg bB<|oC (show i < rs.length by omega)<|GL ac).symm,A.trans L⟩
 refine aj 1 U<|bA U (ay U<|V.aG 0)<|eg U U U<|aI (F3 _ 32 ae ag) U ?_;rintro v53 a4 ⟨rfl,J⟩;have aJ:=Wk.B J V;refine aj 3 U<|gb (t:=56) U (fun ad=> ?_) fun ad=> ?_;exact ar 16 U<|tr<|bg 2 U<|aE U<|⟨(congrArg bB<|oC (show i < rs.length by omega)<|A4<|nT ad).symm,(A.trans L).trans J⟩
 refine aj 1 U<|bA U (ay U<|aJ.aG 1)<|eg U U U<|aI (F3 _ 32 a4 ag) U ?_;rintro v59 bf ⟨rfl,au⟩;refine aC 4 U<|cb U (fun aa=> ?_) fun aa=> ?_;exact aB 8 U<|tr<|bg 2 U<|aE U<|⟨(congrArg bB<|oC (show i < rs.length by omega)<|A5<|nT aa).symm,((A.trans L).trans J).trans au⟩
 exact az 4 U<|p (bW<|i+1)<|ar 2 U<|tn<|⟨_,ag,i+1,ag,(fun j av=>by rcases dM j i with h | h <;> first | exact aw j h | (rw [show j=i by omega]; exact GM ac (by simpa using ad)<|by simpa using aa)),(((A.trans L).trans J).trans au),U,U⟩
 exact aB 2 U<|cj<|bg 8 U<|aE U<|⟨(congrArg bB<|GJ ag a2 fun j av=>aw j ag).symm,A⟩
end Go.Hb
end
section
namespace Go.Hb
open Go.Hb.dN
structure fT (f:Nat→ah) (w:ai) (pA ms:Nat) (aa:Option aW) (n cA nx:Nat) (mk:List Nat):Prop where
 ax:aD w.heap pA [.slice aa n cA,.int .i64 nx,.slice (some ⟨ms,0,none⟩) n n]
 jo:aD w.heap ms (mk.map f)
 ne:pA≠ms
theorem fT.drew {f:Nat→ah} {w:ai} {E ms:Nat} {A:Option aW} {n C nx:Nat} {mk:List Nat} (h:fT f w E ms A n C nx mk):fT f w.drew E ms A n C nx mk:=⟨h.ax,h.jo,h.ne⟩
theorem Ao {f:Nat→ah} {mk:List Nat} {i x:Nat} :(mk.map f).set (0 +i*1) (f x)=(mk.set i x).map f:=by rw [List.map_set,du,nN]
section
variable {a:List bH} {f nx:Nat} {mk:List Nat} {n:Int}
theorem uA (h:n≠nx) (A:¬(0≤n∧n < nx)):vs a (f+1) (nx,mk) n=none:=by
 rw [By h,if_neg (fun e=>A ⟨e.1,e.2.1⟩)]
theorem HQ (h:n≠nx) (h0:0≤n) (C:n < nx):(vs a (f+1) (nx,mk) n).isSome=decide (((mk.getD n.toNat 0:Nat):Int)=2):=by
 rw [By h];by_cases A:mk.getD n.toNat 0=2
 · rw [if_pos ⟨h0,C,A⟩,decide_eq_true ag]; rfl
 · rw [if_neg (fun e=>A e.2.2),decide_eq_false ag]; rfl
theorem HS {s:Nat×List Nat} (h:n≠nx) (A:vs a (f+1) (nx,mk) n=some s):s=(nx,mk):=by
 rw [By h] at A;split at A
 · cases A; rfl
 · cases A
end
set_option maxHeartbeats 1000000 in
theorem Q9 (f:Nat) (a:List bH) (O:Option aW) (aa E ms:Nat) (w0:ai) (nx:Nat) (mk:List Nat) (n:Int) (w:ai) (bo:gj w0.heap O a) (cx:w0.heap.size≤E) (hm:w0.heap.size≤ms) (a1:Wk w0 w) (I:fT lr w E ms O a.length aa nx mk) (cu:mk.length=a.length) (cw:nx≤a.length) (ct:a.length < f+nx) (hb:a.length≤1048576) (b2:∀ i,i < a.length→(bp a i).2.length≤1073741824):
 aZ aq 164 (bd [aA E,.int .i64 n]) w (fun v w'=>v= .bool (vs a f (nx,mk) n).isSome∧Md (fun q=>q=E∨q=ms) w w'∧∀ s,vs a f (nx,mk) n=some s→fT lr w' E ms O a.length aa s.1 s.2):=by
 induction f generalizing nx mk n w with
 | zero=>omega
 | succ f ih=>
   have a3:∀ k,k < w0.heap.size→(k=E∨k=ms)→False:=fun k aX ci=>ag;have cy:=I.ax.lt;have cv:=I.jo.lt;have al:=I.ne;obtain ⟨ch,bY⟩:=I.ax;refine enter func164 U ntmps164 U<|aP 12 U<|p (ay U<|I.ax.aH 1)<|aC 3 U<|cd U (fun ap=> ?_) fun ap=> ?_;refine az 5 U<|gs (t:=16) U (fun b4=> ?_) fun b4=> ?_;refine aj 4 U<|bA U (ay U<|I.ax.aH 1)<|aj 3 U<|gs (t:=24) U (fun b5=> ?_) fun b5=> ?_;refine aj 3 U<|bA U (ay U<|I.ax.aH 2)<|aj 1 U<|bA U (ia qX U U ag)<|bA U (ay U (show _=some (bh .u8 ((mk.getD n.toNat 0:Nat):Int)) from CH I.jo (i:=n.toNat) ag))<|ar 7 U<|aE U ?_;refine ⟨congrArg bB (HQ ap ag ag).symm,Md.refl _ _,fun s A=>by rw [HS ap A]; exact I⟩;refine aj 9 U<|p aU<|ar 4 U<|aE U ?_;rw [uA ap ag];exact ⟨U,Md.refl _ _,fun s A=>by cases A⟩;refine aj 7 U<|p mv<|aj 9 U<|p aU<|ar 4 U<|aE U ?_;rw [uA ap ag];exact ⟨U,Md.refl _ _,fun s A=>by cases A⟩;obtain rfl :n=(nx:Int):=mJ.1 ap;refine az 9 U<|p (ay U<|I.ax.aH 0)<|aC 4 U<|cd U (fun b0=> ?_) fun b0=> ?_;refine aB 7 U<|aE U ?_;rw [HX rfl ag];exact ⟨U,Md.refl _ _,fun s A=>by cases A⟩;refine az 7 U<|p (ay U<|I.ax.aH 1)<|p (bW<|nx+1)<|aj 2 U<|e<|fl fW U U U bY (by simp) fun ce bv bL=> ?_;have br:aD ce.heap E [.slice O a.length aa,.int .i64 ((nx+1:Nat):Int),.slice (some ⟨ms,0,none⟩) a.length a.length]:=⟨_,bL⟩
   have b9:=bv.B I.jo fun e=>al e.symm;obtain ⟨em,bU⟩:=b9;refine aj 7 U<|p (ay U<|br.aH 2)<|aj 1 U<|p (ia qX U U ag)<|e<|fl C7 U U U bU (by simp; omega) fun aN bx bM=> ?_;have ca:aD aN.heap ms ((mk.set nx 1).map lr):=by rw [← Ao]; exact ⟨_,bM⟩
   have a4:fT lr aN E ms O a.length aa (nx+1) (mk.set nx 1):=⟨bx.B br al,ca,al⟩
   have a8:Md (fun q=>q=E∨q=ms) w aN:=Md.trans (bv.mono fun k _ h=> .inl h)<|bx.mono fun k _ h=> .inr h;have a2:Wk w0 aN:=Md.trans' a1 a8 a3;obtain ⟨ad,ae,bF,aF⟩:=bo.two (i:=nx) ag;have cm:=aF.wk a2;refine aj 7 U<|p (ay U<|a4.ax.aH 0)<|aj 1 U<|p (bZ vW U U ag<|bo.ok ag)<|p (eZ Ci U (U)<|mF a2 bF)<|e<|fK Ib fun ac cA cp bT bN=>e<|fG C4 U U U U bN (by simp) fun bm bR bO=> ?_;have bt:aD bm.heap ac [bB (bp a nx).1,.slice ad (bp a nx).2.length ae]:=⟨_,bO⟩
   have aQ:Wk aN bm:=Md.trans' bT.md bR fun k bz h=>by omega
   have bP:fT lr bm E ms O a.length aa (nx+1) (mk.set nx 1):=⟨aQ.B a4.ax,aQ.B a4.jo,al⟩
   have ck:=a8.size;refine aj 6 U<|p (ay U<|bt.aH 1)<|aC 5 U<|lp (fun bn bC au=> ∃ (k M:Nat) (J:List Nat),(k≤(bp a nx).2.length)∧(ig a f (nx+1) (mk.set nx 1) ((bp a nx).2.take k)=some (M,J))∧(jI<|(bp a nx).2.take k)∧(Wk w0 au)∧(Md (fun q=>q=E∨q=ms) w au)∧(fT lr au E ms O a.length aa M J)∧(aD (au).heap ac [bB (bp a nx).1,.slice ad (bp a nx).2.length ae])∧(Sl bC [(0,aA E),(1,.int .i64 (nx:Int)),(5,aA ac),(62,.slice ad (bp a nx).2.length ae),(63,.int .i64 (bp a nx).2.length),(64,.int .i64 k)])∧((bp a nx).2.length - k=bn)) _ ⟨0,nx+1,mk.set nx 1,ag,U,List.Pairwise.nil,(Md.trans a2 aQ),(Md.trans' a8 aQ fun k _ h=>h.elim),bP,bt,U,U⟩ ?_;rintro bn bC au ⟨k,M,J,bz,ab,aV,aR,a6,aG,ao,cc,rfl⟩;refine bE cc<|bV 6 U<|cd U (fun b1=> ?_) fun b1=> ?_;refine bD 5 U ?_;have cq:=b2 nx ag;obtain ⟨⟨c,z⟩,hek⟩:∃ e,(bp a nx).2[k]? =some e:=⟨_,cr ag⟩
   obtain ⟨⟨aO,cf⟩,hep⟩:∃ e,(bp a nx).2[k - 1]? =some e:=⟨_,cr ag⟩
   have ba:=xT ab ag;simp only [qz] at ba;refine az 2 U<|p (bZ vV U U ag<|aF.ok ag)<|p (eZ Cj U (U)<|mF aR<|aF.two hek)<|e<|fK RM fun av cz co bS bG=>aj 1 U<|e<|fG Li U U U U bG (by simp) fun aM bQ bI=> ?_;have a0:aD aM.heap av [bh .u8 c.toNat,.int .i64 z]:=⟨_,bI⟩
   have L:Wk au aM:=Md.trans' bS.md bQ fun k bz h=>by omega
   have bu:fT lr aM E ms O a.length aa M J:=⟨L.B aG.ax,L.B aG.jo,al⟩
   have a7:Md (fun q=>q=E∨q=ms) w aM:=Md.trans' a6 L fun k _ h=>h.elim;have cn:=a6.size;refine aC 3 U ?_;have C:(fun w'=>Wk w0 w'∧aD w'.heap ac [bB (bp a nx).1,.slice ad (bp a nx).2.length ae]∧aD w'.heap av [bh .u8 c.toNat,.int .i64 z]) aM.drew:=⟨(Md.trans aR L).drew,L.B ao,a0⟩
   refine bK (fun w'=>Wk w0 w'∧aD w'.heap ac [bB (bp a nx).1,.slice ad (bp a nx).2.length ae]∧aD w'.heap av [bh .u8 c.toNat,.int .i64 z]) U wide C<|aY [0,1,2] U C<|kO (t:=71) U (fun b6=> ?_) fun b6=> ?_;refine aY [3] U C<|eo 4 U (fun w' Z=>ay U<|Z.2.1.aH 1) C<|aY [5] U C<|eo 6 U (fun _ _=>pS<|k - 1) C<|eo 7 U (fun _ _=>bZ vV U U ag<|aF.ok ag) C<|aY [8] U C<|eo 9 U (fun w' Z=>ay U (show _=some (bh .u8 (aO.toNat:Int)) from (aF.wk Z.1).b (k - 1) (aO,cf) hep)) C<|aY [10] U C<|eo 11 U (fun w' Z=>ay U<|Z.2.2.aH 0) C<|aY [12,13,14] U C<|kO (t:=83) U (fun b7=> ?_) fun b7=> ?_;refine aY [15,16,17,18,19,20] U C<|hn an<|bg 10 U<|tr<|bg 2 U<|aE U ?_;rw [HW ag (FC ag hek hep<|by show c.toNat≤aO.toNat; omega)];exact ⟨U,a7.drew,fun s A=>by cases A⟩;refine aY [15,16] U C<|eo 17 U (fun w' Z=>ay U<|Z.2.2.aH 1) C<|zS 18 U an U U U<|aI (ih M J z _ (Md.trans aR L).drew (fT.drew bu) ag ag ag) U ?_;rintro v87 am ⟨rfl,V,bf⟩;have ah:Md (fun q=>q=E∨q=ms) w am:=Md.trans a7<|Md.gM V;have aw:Wk w0 am:=Md.trans' a1 ah a3;have aJ:(fun w'=>Wk w0 w'∧aD w'.heap ac [bB (bp a nx).1,.slice ad (bp a nx).2.length ae]∧aD w'.heap av [bh .u8 c.toNat,.int .i64 z]) am:=⟨aw,V.B (L.B ao) (fun e=>by omega),V.B a0 fun e=>by omega⟩
   refine ⟨aJ,?_⟩;refine aY [19,20] U aJ<|hn an<|dT 1 U<|cb U (fun ak=> ?_) fun ak=> ?_;have bb:vs a f (M,J) z=none:=by simpa using ak
   refine aB 8 U<|tr<|bg 2 U<|aE U ?_;rw [xS (k:=k+1) ag (by rw [oJ ab hek]; exact bb)];exact ⟨U,ah,fun s A=>by cases A⟩;obtain ⟨aL,aK⟩:∃ s,vs a f (M,J) z=some s:=oV.1<|by simpa using ak
   exact aB 7 U<|tn<|⟨_,ag,k+1,aL.1,aL.2,ag,(by rw [oJ ab hek]; exact aK),(xo aV hek fun q h0 bc=>by rw [hep] at bc; cases bc; show aO.toNat < c.toNat; omega),aw,ah,(bf _ aK),(V.B (L.B ao) fun e=>by omega),U,U⟩
   refine aY [3,4,5,6,7,8,9,10,11,12,13] U C<|cB 14 U (mv) C<|aY [15,16] U C<|eo 17 U (fun w' Z=>ay U<|Z.2.2.aH 1) C<|zS 18 U an U U U<|aI (ih M J z _ (Md.trans aR L).drew (fT.drew bu) ag ag ag) U ?_;rintro v87 am ⟨rfl,V,bf⟩;have ah:Md (fun q=>q=E∨q=ms) w am:=Md.trans a7<|Md.gM V;have aw:Wk w0 am:=Md.trans' a1 ah a3;have aJ:(fun w'=>Wk w0 w'∧aD w'.heap ac [bB (bp a nx).1,.slice ad (bp a nx).2.length ae]∧aD w'.heap av [bh .u8 c.toNat,.int .i64 z]) am:=⟨aw,V.B (L.B ao) (fun e=>by omega),V.B a0 fun e=>by omega⟩
   refine ⟨aJ,?_⟩;refine aY [19,20] U aJ<|hn an<|dT 1 U<|cb U (fun ak=> ?_) fun ak=> ?_;have bb:vs a f (M,J) z=none:=by simpa using ak
   refine aB 8 U<|tr<|bg 2 U<|aE U ?_;rw [xS (k:=k+1) ag (by rw [oJ ab hek]; exact bb)];exact ⟨U,ah,fun s A=>by cases A⟩;obtain ⟨aL,aK⟩:∃ s,vs a f (M,J) z=some s:=oV.1<|by simpa using ak
   exact aB 7 U<|tn<|⟨_,ag,k+1,aL.1,aL.2,ag,(by rw [oJ ab hek]; exact aK),(xo aV hek fun q h0 bc=>by omega),aw,ah,(bf _ aK),(V.B (L.B ao) fun e=>by omega),U,U⟩
   refine aB 2 U<|cj<|dT 3 U ?_;obtain ⟨cg,bX⟩:=aG.jo;rw [show k=(bp a nx).2.length by omega,yE] at ab aV;have ba:=xT ab ag;simp only [qz] at ba;have bi:=HT ag aV ab;refine az 4 U<|p (ay U<|aG.ax.aH 2)<|aj 1 U<|p (ia qX U U ag)<|e<|fl C7 U U U bX (by simp; omega) fun bj a5 bJ=> ?_;have b8:aD bj.heap ms ((J.set nx 2).map lr):=by rw [← Ao]; exact ⟨_,bJ⟩
   have aS:fT lr bj E ms O a.length aa M (J.set nx 2):=⟨a5.B aG.ax al,b8,al⟩
   have aT:Md (fun q=>q=E∨q=ms) w bj:=Md.trans a6<|a5.mono fun k _ h=> .inr h;have bq:=a5.B ao fun e=>by omega
   refine aj 5 U<|p (ay U<|bq.aH 1)<|aj 3 U<|gs (t:=101) U (fun b3=> ?_) fun b3=> ?_;refine aj 3 U<|p mv<|aj 7 U<|p aU<|ar 3 U<|aE U ?_;rw [bi,if_pos (E1 ag)];exact ⟨U,aT,fun s A=>by cases A; exact aS⟩;refine aj 1 U<|bA U (ay U<|bq.aH 0)<|aj 2 U<|gb (t:=105) U (fun a9=> ?_) fun a9=> ?_;refine aj 7 U<|p aU<|ar 3 U<|aE U ?_;rw [bi,if_pos (E0 a9)];exact ⟨U,aT,fun s A=>by cases A; exact aS⟩;refine aj 3 U<|bA U (ay U<|aS.ax.aH 0)<|ar 7 U<|aE U ?_;rw [bi,z8 ag a9];by_cases aX:a.length=1;rw [if_pos (decide_eq_true aX)];exact ⟨congrArg bB (decide_eq_true ag),aT,fun s A=>by cases A; exact aS⟩;rw [if_neg (by simpa using aX)];exact ⟨congrArg bB (decide_eq_false ag),aT,fun s A=>by cases A⟩
def uj (a:List bH):Int:=if shaped a=true then 0 else 190
theorem mC {a:List bH} (h:shaped a=false):uj a=190:=if_neg<|by rw [h]; exact dS
theorem xB {a:List bH} (h:shaped a=true):uj a=0:=if_pos h
def lu (x:Nat):ah:= .bool<|decide (x=2)
theorem NS {mk:List Nat} {i:Nat} (h:mk.getD i 0=0):(mk.set i 1).map lu=mk.map lu:=by
 refine List.ext_getElem? fun j=> ?_;rw [gy,gy,List.getElem?_set];by_cases e:i=j
 · subst e;rw [if_pos rfl];by_cases A:i < mk.length
   · rw [if_pos A,cr A];rw [cQ,cr A] at h;have h0:mk[i]=0:=h;rw [h0]; rfl
   · rw [if_neg A,List.getElem?_eq_none ag]
 · rw [if_neg e]
theorem RJ (n:Nat):∀ i,0≤i→(eM n 0).getD i 0=0:=fun i _=>by
 rw [cQ,List.getElem?_replicate]; split <;> rfl
set_option maxHeartbeats 1000000 in
theorem PS (a:List bH) (A:Option aW) (E:Nat) (w:ai) (ac:gj w.heap A a) (aA:a.length≤140737488355328) (ao:∀ i,i < a.length→(bp a i).2.length≤1073741824):
 aZ aq 103 (bd [.slice A a.length E]) w (fun v w'=>v= .int .i64 (uj a)∧Wk w w'):=by
 refine enter func103 U ntmps103 U<|aP 12 U<|gs (t:=7) U (fun ap=> ?_) fun ap=> ?_;exact ar 14 U<|aE U<|⟨iv (mC<|xC ag).symm,Md.refl _ _⟩
 refine aC 6 U<|cd U (fun am=> ?_) fun am=> ?_;exact aB 7 U<|aE U<|⟨iv (mC<|xC ag).symm,Md.refl _ _⟩
 refine az 7 U<|e<|jo (zv:= .int .u8 0) fF U U U U ag (by unfold maxLen; omega) fun C aw aG J au=> ?_;have ae:aD aw.heap C ((eM a.length 0).map lr):=by rw [Jg]; exact FZ<|au _<|bf _
 refine p (dZ (ps:= [(0,.slice A a.length E),(2,.slice (some ⟨C,0,none⟩) a.length a.length)]) (L:= [.slice A a.length E,.int .i64 0,.slice (some ⟨C,0,none⟩) a.length a.length]) Qg U<|U)<|e<|l9 U fun V ab aF aa ad=> ?_;have ak:fT lr ab V C A a.length E 0 (eM a.length 0):=⟨ad,aa.md.B ae,by have :=J.size; omega⟩
 have Z:Wk w ab:=Md.trans J.md aa.md;have aK:=J.md.size;refine aj 7 U<|e<|aI (Q9 (a.length+1) a A E V C w 0 (eM a.length 0) 0 _ ac ag ag Z ak (by simp) ag ag ag ao) U ?_;rintro aM av ⟨rfl,al,bK⟩;have I:Wk w av:=Md.trans' Z al fun k aJ h=>by omega
 refine aj 2 U<|gb (t:=21) U (fun M=> ?_) fun M=> ?_;have hn:vs a (a.length+1) (0,eM a.length 0) 0=none:=by simpa using M
 exact ar 18 U<|aE U<|⟨iv (mC<|GR hn).symm,I⟩
 obtain ⟨aL,O⟩:∃ s,vs a (a.length+1) (0,eM a.length 0) 0=some s:=oV.1<|by simpa using M
 have ah:=bK _ O;refine aj 3 U<|bA U (ay U<|ah.ax.aH 1)<|aC 6 U<|cd U (fun an=> ?_) fun an=> ?_;exact aB 7 U<|aE U<|⟨iv (mC<|by rw [xD ag ag O]; exact decide_eq_false ag).symm,I⟩
 exact aB 8 U<|aE U<|⟨iv (xB<|by rw [xD ag ag O]; exact decide_eq_true ag).symm,I⟩
set_option maxHeartbeats 1000000 in
theorem Ra (f:Nat) (a:List bH) (V:Option aW) (ad A ms:Nat) (w0:ai) (nx:Nat) (mk:List Nat) (n:Int) (w:ai) (a5:gj w0.heap V a) (ch:w0.heap.size≤A) (hm:w0.heap.size≤ms) (aR:Wk w0 w) (I:fT lu w A ms V a.length ad nx mk) (ce:mk.length=a.length) (cg:nx≤a.length) (cc:a.length < f+nx) (hb:a.length≤1048576) (bN:∀ i,i < a.length→(bp a i).2.length≤1073741824) (bb:∀ i,nx≤i→mk.getD i 0=0):
 aZ aq 165 (bd [aA A,.int .i64 n]) w (fun v w'=>v= .bool (vs a f (nx,mk) n).isSome∧Md (fun q=>q=A∨q=ms) w w'∧∀ s,vs a f (nx,mk) n=some s→fT lu w' A ms V a.length ad s.1 s.2):=by
 induction f generalizing nx mk n w with
 | zero=>omega
 | succ f ih=>
   have aT:∀ k,k < w0.heap.size→(k=A∨k=ms)→False:=fun k b6 b7=>ag;have ci:=I.ax.lt;have cf:=I.jo.lt;have ao:=I.ne;obtain ⟨b5,bF⟩:=I.ax;refine enter func165 U ntmps165 U<|aP 11 U<|gs (t:=10) U (fun bO=> ?_) fun bO=> ?_;refine aj 8 U<|p mv<|ar 17 U<|aE U ?_;rw [uA ag ag];exact ⟨U,Md.refl _ _,fun s E=>by cases E⟩;refine aj 4 U<|bA U (ay U<|I.ax.aH 0)<|aj 4 U<|gs (t:=19) U (fun bP=> ?_) fun bP=> ?_;refine ar 17 U<|aE U ?_;have bY:vs a (f+1) (nx,mk) n=none:=by
    by_cases h:n=nx;exact HX h ag;exact uA h ag
   rw [bY];exact ⟨U,Md.refl _ _,fun s E=>by cases E⟩;refine aj 4 U<|bA U (ay U<|I.ax.aH 1)<|aC 4 U<|cd U (fun bG=> ?_) fun bG=> ?_;refine aB 7 U<|aE U ?_;rw [uA ag ag];exact ⟨U,Md.refl _ _,fun s E=>by cases E⟩;refine az 9 U<|p (ay U<|I.ax.aH 1)<|aC 3 U<|cd U (fun bI=> ?_) fun bI=> ?_;exact az 5 U<|p (ay U<|I.ax.aH 2)<|aj 1 U<|p (ia DZ U U ag)<|p (ay U (show _=some (bB<|decide (mk.getD n.toNat 0=2)) from CH I.jo (i:=n.toNat) ag))<|ar 5 U<|aE U<|⟨congrArg bB ((HQ ag ag ag).trans<|by rw [decide_eq_decide]; omega).symm,Md.refl _ _,fun s E=>by rw [HS ag E]; exact I⟩
   obtain rfl :n=(nx:Int):=ag;refine az 8 U<|p (ay U<|I.ax.aH 1)<|p (bW<|nx+1)<|aj 2 U<|e<|fl fW U U U bF (by simp) fun aO a9 bq=> ?_;have aU:fT lu aO A ms V a.length ad (nx+1) (mk.set nx 1):=⟨⟨_,bq⟩,by rw [NS (bb nx<|bf _)]; exact a9.B I.jo (fun e=>ao e.symm),ao⟩
   have aV:Md (fun q=>q=A∨q=ms) w aO:=a9.mono fun k _ h=> .inl h;have a6:Wk w0 aO:=Md.trans' aR aV aT;obtain ⟨aG,aJ,bn,O⟩:=a5.two (i:=nx) ag;refine aj 7 U<|p (ay U<|aU.ax.aH 0)<|aj 1 U<|p (bZ tF U U ag<|a5.ok ag)<|p (eZ Cm U (U)<|mF a6 bn)<|e<|fK Ic fun ac ck b9 bz br=>e<|fG C5 U U U U br (by simp) fun aw bv bt=> ?_;have aQ:aD aw.heap ac [bB (bp a nx).1,.slice aG (bp a nx).2.length aJ]:=⟨_,bt⟩
   have aK:Wk aO aw:=Md.trans' bz.md bv fun k bS h=>by omega
   have a7:fT lu aw A ms V a.length ad (nx+1) (mk.set nx 1):=⟨aK.B aU.ax,aK.B aU.jo,ao⟩
   have b8:=aV.size;have ba:Md (fun q=>q=A∨q=ms) w aw:=Md.trans' aV aK fun k _ h=>h.elim;refine aC 2 U ?_;refine ei (fun bj bi=>(jW a (bp a nx)=true)∧(bi=aw)∧(Sl bj [(0,aA A),(1,.int .i64 (nx:Int)),(5,aA ac)])) ?_ ?_;refine aP 3 U<|p (ay U<|aQ.aH 1)<|aj 3 U<|gs (t:=59) U (fun bQ=> ?_) fun bQ=> ?_;refine aj 1 U<|bA U (ay U<|aQ.aH 0)<|aj 3 U<|gb (t:=64) U (fun aM=> ?_) fun aM=> ?_;refine aj 3 U<|bA U (ay U<|a7.ax.aH 0)<|aC 5 U<|cd U (fun bJ=> ?_) fun bJ=> ?_;refine aB 6 U<|tr<|aE U ?_;rw [Rc ag (by rw [z8 ag (by simpa using aM)]; exact decide_eq_false ag)];exact ⟨U,ba,fun s E=>by cases E⟩;exact aB 1 U<|tn<|⟨(by rw [z8 ag (by simpa using aM)]; exact decide_eq_true ag),U,U⟩
   exact ar 11 U<|tn<|⟨(E0<|by simpa using aM),U,U⟩
   exact aj 4 U<|p mv<|ar 11 U<|tn<|⟨(E1 ag),U,U⟩
   rintro bj bi ⟨bT,b1,bV⟩;refine bE bV ?_;subst b1;refine bD 7 U<|lp (fun a4 bm ah=> ∃ (k L:Nat) (J:List Nat),(k≤(bp a nx).2.length)∧(ig a f (nx+1) (mk.set nx 1) ((bp a nx).2.take k)=some (L,J))∧(jI<|(bp a nx).2.take k)∧(Wk w0 ah)∧(Md (fun q=>q=A∨q=ms) w ah)∧(fT lu ah A ms V a.length ad L J)∧(aD (ah).heap ac [bB (bp a nx).1,.slice aG (bp a nx).2.length aJ])∧(Sl bm [(0,aA A),(1,.int .i64 (nx:Int)),(5,aA ac),(6,.int .i64 k)])∧((bp a nx).2.length - k=a4)) _ ⟨0,nx+1,mk.set nx 1,ag,U,List.Pairwise.nil,(Md.trans a6 aK),ba,a7,aQ,U,U⟩ ?_;rintro a4 bm ah ⟨k,L,J,bS,M,aN,ak,aL,al,ae,bX,rfl⟩;refine bE bX<|aP 5 U<|p (ay U<|ae.aH 1)<|aC 4 U<|cd U (fun bL=> ?_) fun bL=> ?_;refine bD 6 U ?_;have ca:=bN nx ag;obtain ⟨⟨c,z⟩,hek⟩:∃ e,(bp a nx).2[k]? =some e:=⟨_,cr ag⟩
   obtain ⟨⟨aF,b3⟩,hep⟩:∃ e,(bp a nx).2[k - 1]? =some e:=⟨_,cr ag⟩
   have aX:=xT M ag;simp only [qz] at aX;have bc:=Ri M fun i hi=>by rw [getD_set_ne _ _ ag]; exact bb i ag
   have C:(fun w'=>Wk w0 w'∧aD w'.heap ac [bB (bp a nx).1,.slice aG (bp a nx).2.length aJ]) ah.drew:=⟨ak.drew,ae⟩
   refine bK (fun w'=>Wk w0 w'∧aD w'.heap ac [bB (bp a nx).1,.slice aG (bp a nx).2.length aJ]) U wide C<|aY [0,1,2] U C<|kO (t:=81) U (fun bR=> ?_) fun bR=> ?_;refine aY [3] U C<|eo 4 U (fun w' aa=>ay U<|aa.2.aH 1) C<|aY [5] U C<|eo 6 U (fun _ _=>bZ qY U U ag<|O.ok ag) C<|aY [7] U C<|eo 8 U (fun w' aa=>ay U (show _=some (bh .u8 (c.toNat:Int)) from (O.wk aa.1).b k (c,z) hek)) C<|aY [9] U C<|eo 10 U (fun w' aa=>ay U<|aa.2.aH 1) C<|aY [11] U C<|eo 12 U (fun _ _=>pS<|k - 1) C<|eo 13 U (fun _ _=>bZ qY U U ag<|O.ok ag) C<|aY [14] U C<|eo 15 U (fun w' aa=>ay U (show _=some (bh .u8 (aF.toNat:Int)) from (O.wk aa.1).b (k - 1) (aF,b3) hep)) C<|aY [16,17] U C<|hn an<|dT 1 U<|cd U (fun bM=> ?_) fun bM=> ?_;refine aB 9 U<|tr<|bg 2 U<|aE U ?_;rw [HW ag (FC ag hek hep<|by show c.toNat≤aF.toNat; omega)];exact ⟨U,aL.drew,fun s E=>by cases E⟩;refine az 6 U<|p (ay U<|ae.aH 1)<|aj 1 U<|p (bZ qY U U ag<|O.ok ag)<|aj 1 U<|p (ay U (show _=some (bh .i64 z) from (O.wk ak).to k (c,z) hek))<|e<|aI (ih L J z _ (Md.drew ak) (fT.drew al) ag ag ag bc) U ?_;rintro b2 av ⟨rfl,am,a2⟩;have Z:Md (fun q=>q=A∨q=ms) w av:=Md.trans aL<|Md.gM am;have aS:Wk w0 av:=Md.trans' aR Z aT;refine aC 9 U<|cb U (fun ab=> ?_) fun ab=> ?_;have a0:vs a f (L,J) z=none:=by simpa using ab
   refine aB 8 U<|tr<|bg 2 U<|aE U ?_;rw [xS (k:=k+1) ag (by rw [oJ M hek]; exact a0)];exact ⟨U,Z,fun s E=>by cases E⟩;obtain ⟨au,ap⟩:∃ s,vs a f (L,J) z=some s:=oV.1<|by simpa using ab
   exact aB 8 U<|tn<|⟨_,ag,k+1,au.1,au.2,ag,(by rw [oJ M hek]; exact ap),(xo aN hek fun q h0 a1=>by rw [hep] at a1; cases a1; show aF.toNat < c.toNat; omega),aS,Z,(a2 _ ap),(am.B ae fun e=>by omega),U,U⟩
   refine aY [3,4,5,6,7,8,9,10,11,12,13,14,15,16,17] U C<|hn an<|fY 8 U<|p (ay U<|ae.aH 1)<|aj 1 U<|p (bZ qY U U ag<|O.ok ag)<|aj 1 U<|p (ay U (show _=some (bh .i64 z) from (O.wk ak).to k (c,z) hek))<|e<|aI (ih L J z _ (Md.drew ak) (fT.drew al) ag ag ag bc) U ?_;rintro b2 av ⟨rfl,am,a2⟩;have Z:Md (fun q=>q=A∨q=ms) w av:=Md.trans aL<|Md.gM am;have aS:Wk w0 av:=Md.trans' aR Z aT;refine aC 9 U<|cb U (fun ab=> ?_) fun ab=> ?_;have a0:vs a f (L,J) z=none:=by simpa using ab
   refine aB 8 U<|tr<|bg 2 U<|aE U ?_;rw [xS (k:=k+1) ag (by rw [oJ M hek]; exact a0)];exact ⟨U,Z,fun s E=>by cases E⟩;obtain ⟨au,ap⟩:∃ s,vs a f (L,J) z=some s:=oV.1<|by simpa using ab
   exact aB 8 U<|tn<|⟨_,ag,k+1,au.1,au.2,ag,(by rw [oJ M hek]; exact ap),(xo aN hek fun q h0 a1=>by omega),aS,Z,(a2 _ ap),(am.B ae fun e=>by omega),U,U⟩
   refine aB 2 U<|cj<|dT 3 U ?_;obtain ⟨b4,bC⟩:=al.jo;rw [show k=(bp a nx).2.length by omega,yE] at M aN;have aX:=xT M ag;simp only [qz] at aX;have b0:=HT ag aN M;refine az 4 U<|p (ay U<|al.ax.aH 2)<|aj 1 U<|p (ia DZ U U ag)<|e<|fl C6 U U U bC (by simp; omega) fun a3 a8 bo=> ?_;have bU:aD a3.heap ms ((J.set nx 2).map lu):=by rw [← Ao]; exact ⟨_,bo⟩
   have bu:fT lu a3 A ms V a.length ad L (J.set nx 2):=⟨a8.B al.ax ao,bU,ao⟩
   have bx:Md (fun q=>q=A∨q=ms) w a3:=Md.trans aL<|a8.mono fun k _ h=> .inr h;refine ar 8 U<|aE U ?_;rw [b0,if_pos bT];exact ⟨U,bx,fun s E=>by cases E; exact bu⟩
set_option maxHeartbeats 1000000 in
theorem PT (a:List bH) (A:Option aW) (E:Nat) (w:ai) (ac:gj w.heap A a) (aA:a.length≤140737488355328) (ao:∀ i,i < a.length→(bp a i).2.length≤1073741824):
 aZ aq 108 (bd [.slice A a.length E]) w (fun v w'=>v= .int .i64 (uj a)∧Wk w w'):=by
 refine enter func108 U ntmps108 U<|aP 12 U<|gs (t:=8) U (fun ap=> ?_) fun ap=> ?_;exact ar 14 U<|aE U<|⟨iv (mC<|xC ag).symm,Md.refl _ _⟩
 refine aC 6 U<|cd U (fun am=> ?_) fun am=> ?_;exact aB 7 U<|aE U<|⟨iv (mC<|xC ag).symm,Md.refl _ _⟩
 refine az 7 U<|e<|jo (zv:= .bool false) P2 U U U U ag (by unfold maxLen; omega) fun C aw aG J au=> ?_;have ae:aD aw.heap C ((eM a.length 0).map lu):=by rw [Jg]; exact FZ<|au _<|bf _
 refine p (dZ (ps:= [(0,.slice A a.length E),(2,.slice (some ⟨C,0,none⟩) a.length a.length)]) (L:= [.slice A a.length E,.int .i64 0,.slice (some ⟨C,0,none⟩) a.length a.length]) Qh U<|U)<|e<|l9 U fun V ab aF aa ad=> ?_;have ak:fT lu ab V C A a.length E 0 (eM a.length 0):=⟨ad,aa.md.B ae,by have :=J.size; omega⟩
 have Z:Wk w ab:=Md.trans J.md aa.md;have aK:=J.md.size;refine aj 6 U<|e<|aI (Ra (a.length+1) a A E V C w 0 (eM a.length 0) 0 _ ac ag ag Z ak (by simp) ag ag ag ao<|RJ _) U ?_;rintro v20 av ⟨rfl,al,bK⟩;have I:Wk w av:=Md.trans' Z al fun k aJ h=>by omega
 refine aj 9 U<|gb (t:=23) U (fun M=> ?_) fun M=> ?_;have hn:vs a (a.length+1) (0,eM a.length 0) 0=none:=by simpa using M
 exact ar 18 U<|aE U<|⟨iv (mC<|GR hn).symm,I⟩
 obtain ⟨aL,O⟩:∃ s,vs a (a.length+1) (0,eM a.length 0) 0=some s:=oV.1<|by simpa using M
 have ah:=bK _ O;refine aj 3 U<|bA U (ay U<|ah.ax.aH 1)<|aC 6 U<|cd U (fun an=> ?_) fun an=> ?_;exact aB 7 U<|aE U<|⟨iv (mC<|by rw [xD ag ag O]; exact decide_eq_false ag).symm,I⟩
 exact aB 8 U<|aE U<|⟨iv (xB<|by rw [xD ag ag O]; exact decide_eq_true ag).symm,I⟩
end Go.Hb
end
