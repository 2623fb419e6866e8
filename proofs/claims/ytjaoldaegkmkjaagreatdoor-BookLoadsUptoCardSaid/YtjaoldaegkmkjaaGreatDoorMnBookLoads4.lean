/-
  Walks and plain laws that the law rests on, laid together. No conditions but those that each theorem names.
-/
import Derived.Test.YtjaoldaegkmkjaaGreatDoorMnBookLoads3
set_option linter.unusedVariables false
set_option maxRecDepth 20000
set_option maxHeartbeats 1000000
open Array renaming getElem?_eq_some_iff→ef
open BitVec renaming ofInt→fS,ofInt_natCast→An,toNat_ofNat→Ao
open Bool renaming and_eq_true→aV,noConfusion→dd
open Classical renaming not_not→oo
open Go renaming Addr→bB,Program→aq,TypeId→an,Value→ag,World→ah
open Go.IntKind renaming u64→lQ,u8→na
open Go.Op renaming equalIn→eC
open Go.Proofs.Tryz renaming prog→ak
open Go.Value renaming bool→bh,int→aW,oneCell'→eV,ownBlock→ff,pointer→qY,slice→iC,tuple→lT
open Go.World renaming ownsRow→bP,ownsRow_nil→gy
open Int renaming toNat_natCast→jJ
open List renaming all_cons→lU,all_nil→qZ,drop_eq_nil_of_le→A3,drop_take→A4,eq_nil_of_length_eq_zero→jL,getD_cons_succ→uU,getD_cons_zero→q7,getD_eq_getElem?_getD→cg,getElem?_append_left→eh,getElem?_append_right→et,getElem?_eq_getElem→bH,getElem?_eq_some_iff→cJ,getElem?_map→jM,getElem?_set_ne→A9,getElem?_set_self→Ba,length→q9,length_append→cj,length_cons→cZ,length_drop→gV,length_eq_zero_iff→re,length_nil→iD,length_set→jc,length_take→cO,map_replicate→Be,mem_cons→fU,mem_cons_of_mem→jO,mem_cons_self→jP,mem_of_getElem?→lW,replicate→dq,set_cons_succ→uY,take_length→Bo,take_of_length_le→oF,toArray→bz
open Nat renaming add_sub_cancel_left→Bp,add_zero→iF,beq→aD,blt→az,eq_of_beq_eq_true→bA,eq_zero_or_pos→Bq,le_refl→aY,le_trans→cH,lt_or_ge→de,mod_eq_of_lt→u5,mul_comm→u6,mul_le_mul_left→u7,mul_le_mul_right→lX,pow_le_pow_right→oI,zero_add→b9,zero_le→jd
open Option renaming isSome_iff_exists→ks
open Option.some renaming inj→fV,injEq→bu
open Prod renaming fst→fh
open UInt8 renaming toNat_inj→ru,toNat_lt→ku
open Go.Proofs.Tryz
open Go.Proofs

section
namespace Go.Hb
open Go.RowKit
def wV:Ck→Ck→Bool
 | .a,.a=>true
 | .z,.z=>true
 | .x,.x=>true
 | _,_=>false
def o9:List (AV×AV)→List (AV×AV)→Bool
 | [],[]=>true
 | p::l,q::m=>cond (dL p.1 q.1 && dL p.2 q.2) (o9 l m) false
 | _,_=>false
def r6:AO→AO→Bool
 | .cells l e fz ex,.cells l' e' fz' ex'=>(aD e e' && aD fz fz') && (wV ex ex' && ic l l')
 | .map l,.map m=>o9 l m
 | _,_=>false
theorem Dn:∀ {c d:Ck},wV c d=true→c=d
 | .a,.a,_ | .z,.z,_ | .x,.x,_=>rfl
theorem wU:∀ {a b:List (AV×AV)},o9 a b=true→a=b
 | [],[],_=>rfl
 | p::l,q::m,h=>by
   unfold o9 at h;cases hk:(dL p.1 q.1 && dL p.2 q.2)
   · rw [hk] at h; cases h
   · rw [hk] at h;simp only [aV] at hk;rw [wU h,Prod.ext (mo hk.1) (mo hk.2)]
theorem Dm {a b:AO} (h:r6 a b=true):a=b:=by
 unfold r6 at h;split at h
 · simp only [aV] at h;rw [bA h.1.1,bA h.1.2,Dn h.2.1,kK h.2.2]
 · rw [wU h]
 · cases h
def gu:Tr AO→Tr AO→Bool
 | .nil,_=>true
 | .nd l none r,.nil=>gu l .nil && gu r .nil
 | .nd _ (some _) _,.nil=>false
 | .nd l none r,.nd l' _ r'=>gu l l' && gu r r'
 | .nd l (some o) r,.nd l' (some o') r'=>r6 o o' && (gu l l' && gu r r')
 | .nd _ (some _) _,.nd _ none _=>false
theorem jB:∀ {a b:Tr AO},gu a b=true→∀ {i:Nat} {o:AO},a.get i=some o→b.get i=some o
 | .nil,_,_,i,o,hi=>by rw [Tr.get_nil] at hi; cases hi
 | .nd l none r,.nil,h,i,o,hi=>by
   simp only [gu,aV] at h;cases i with
   | zero=>simp [Tr.get] at hi
   | succ n=>
     simp only [Tr.get] at hi;cases hb:aD (n % 2) 0
     · rw [hb] at hi; have :=jB h.2 hi; rw [Tr.get_nil] at this; cases this
     · rw [hb] at hi; have :=jB h.1 hi; rw [Tr.get_nil] at this; cases this
 | .nd l none r,.nd l' v' r',h,i,o,hi=>by
   simp only [gu,aV] at h;cases i with
   | zero=>simp [Tr.get] at hi
   | succ n=>
     simp only [Tr.get] at hi ⊢;cases hb:aD (n % 2) 0
     · rw [hb] at hi; exact jB h.2 hi
     · rw [hb] at hi; exact jB h.1 hi
 | .nd l (some u) r,.nd l' (some u') r',h,i,o,hi=>by
   simp only [gu,aV] at h;cases i with
   | zero=>
     simp only [Tr.get] at hi ⊢;rw [← Dm h.1]; exact hi
   | succ n=>
     simp only [Tr.get] at hi ⊢;cases hb:aD (n % 2) 0
     · rw [hb] at hi; exact jB h.2.2 hi
     · rw [hb] at hi; exact jB h.2.1 hi
def Tr.lf {α:Type} :Tr α→Tr α
 | .nil=> .nil
 | .nd l _ _=>l
def Tr.rt {α:Type} :Tr α→Tr α
 | .nil=> .nil
 | .nd _ _ r=>r
def Tr.vl {α:Type} :Tr α→Option α
 | .nil=>none
 | .nd _ v _=>v
theorem Tr.xC {α:Type} (t:Tr α):t.get 0=t.vl:=by cases t <;> rfl
theorem Tr.sB {α:Type} (t:Tr α) (n:Nat):t.get (n+1)=cond (aD (n % 2) 0) (t.lf.get<|n / 2) (t.rt.get<|n / 2):=by
 cases t
 · simp only [Tr.lf,Tr.rt,Tr.get_nil]; cases aD (n % 2) 0 <;> rfl
 · rfl
def nM (v b c:Option AO):Option AO:=match c with
 | some o=>some o
 | none=>match b with
   | some _=>none
   | none=>v
def j7:Tr AO→Tr AO→Tr AO→Tr AO
 | .nil,_,c=>c
 | .nd l v r,b,c=> .nd (j7 l b.lf c.lf) (nM v b.vl c.vl)<|j7 r b.rt c.rt
theorem td:∀ (a b c:Tr AO) (i:Nat),(∀ o,b.get i=some o→a.get i=some o)→(j7 a b c).get i=nM (a.get i) (b.get i) (c.get i)
 | .nil,b,c,i,hb=>by
   have :b.get i=none:=by
    cases hx:b.get i with
    | none=>rfl
    | some o=>have :=hb o hx; rw [Tr.get_nil] at this; cases this
   rw [Tr.get_nil,this];show c.get i=_;unfold nM;cases c.get i <;> rfl
 | .nd l v r,b,c,0,_=>by
   rw [Tr.xC b,Tr.xC c]; rfl
 | .nd l v r,b,c,n+1,hb=>by
   rw [Tr.sB b,Tr.sB c];rw [Tr.sB b] at hb;show cond (aD (n % 2) 0) ((j7 l b.lf c.lf).get<|n / 2) ((j7 r b.rt c.rt).get<|n / 2)=nM (cond (aD (n % 2) 0) (l.get<|n / 2)<|r.get<|n / 2) _ _;have A:∀ o,cond (aD (n % 2) 0) (b.lf.get<|n / 2) (b.rt.get<|n / 2)=some o→cond (aD (n % 2) 0) (l.get<|n / 2) (r.get<|n / 2)=some o:=hb;cases hn:aD (n % 2) 0
   · rw [hn] at A; exact td r b.rt c.rt _ A
   · rw [hn] at A; exact td l b.lf c.lf _ A
def db:List (Nat×AO)→Tr AO
 | []=> .nil
 | p::l=>(db l).set p.1 p.2
section
variable {P:aq} {G:Nat} {X:Xt} {T:Nat} {r:Rn} {h h0 h1 h':Hp} {w:ah}
theorem HR.less (hr:HR P G r T h w) (A:∀ i o,h0.t.get i=some o→h.t.get i=some o) (hn:h0.nx=h.nx):HR P G r T h0 w:=
 ⟨fun i o hi=>hr.live i o (A i o hi),fun i j o C q q' hi E=>hr.inj i j o C q q' (A i o hi) (A j C E),fun i hi=>hr.new i U,hr.dT,by rw [hn]; exact hr.base⟩
theorem Fr.less {g k:Nat} (I:∀ i o,h0.t.get i=some o→h.t.get i=some o) (E:Fr g r h0 k):Fr g r h k:=by
 obtain ⟨i,o,q,h1,A,C⟩:=E;exact ⟨i,o,q,h1,I i o A,C⟩
theorem gX.less {f:Nat} {args:List AV} {v:AV} (A:gX P G f args h0 v h') (C:∀ i o,h1.t.get i=some o→h'.t.get i=some o) (hn:h1.nx=h'.nx):gX P G f args h0 v h1:=by
 obtain ⟨n,A⟩:=A;refine ⟨U,fun T r w L hT hr E=>(A T r w L U hr E).mono fun u w' hu=> ?_⟩;obtain ⟨r',I,st⟩:=hu;exact ⟨r',I,st.le,st.hr.less C hn,U,st.md,fun g hg k M J=>st.dk g hg k M (J.less C),fun i hi=>st.out i U⟩
theorem gX.more {f:Nat} {args:List AV} {v:AV} {ac:Hp} (al:gX P G f args ac v h1) (ah:∀ i o,ac.t.get i=some o→h.t.get i=some o) (aI:∀ i o,h0.t.get i=some o→h.t.get i=some o) (ax:∀ i,h0.t.get i=none→ac.t.get i=none∨i < G) (hn:h.nx=ac.nx):gX P G f args h v ⟨j7 h.t h0.t h1.t,h1.nx⟩:=by
 obtain ⟨n,al⟩:=al;refine ⟨by show h.nx≤h1.nx; omega,fun T r w L hT hr aE=>(al T r w L hT (hr.less ah hn.symm) aE).mono fun u w' hu=> ?_⟩;obtain ⟨r',aF,st⟩:=hu;have ad:∀ {i o},(j7 h.t h0.t h1.t).get i=some o→h1.t.get i=some o∨(h.t.get i=some o∧h0.t.get i=none):=fun {i o} hi=>by
  rw [td _ _ _ _ (fun o=>aI i o)] at hi;unfold nM at hi;split at hi
  · rename_i A; rw [A]; exact .inl hi
  · split at hi
    · cases hi
    · rename_i A C; exact .inr ⟨hi,C⟩
 have ai:∀ {i o},h.t.get i=some o→h0.t.get i=none→∃ q,r i=some q∧q.ar < w.heap.size∧OR P r q o w.heap[q.ar]?∧¬Fr G r ac q.ar:=fun {i o} hi A=>by
  obtain ⟨q,ag,ao⟩:=hr.live i o hi;refine ⟨q,ag,hr.lt hi ag,ao,fun ⟨i2,ap,aa,aj,E,J,V⟩=> ?_⟩;have :=hr.inj i2 i ap o aa q (ah _ _ E) hi J ag V;subst this;rcases ax _ A with C | C
  · rw [C] at E; cases E
  · omega
 refine ⟨r',aF,st.le,⟨fun i o hi=> ?_,fun i j o Z q q' hi ae I E he=> ?_,fun i hi=>st.hr.new i hi,st.hr.dT,st.hr.base⟩,by show h.nx≤h1.nx; omega,st.md.mono fun k _ am=>am.less ah,fun g hg k aH am=> ?_,fun i hi=>st.out i hi⟩
 · rcases ad hi with A | ⟨A,C⟩
   · exact st.hr.live i o A
   · obtain ⟨q,ag,aJ,ao,an⟩:=ai A C;refine ⟨q,st.le _ _ ag,?_⟩;rw [st.md.ey _ aJ an];exact ao.le st.le
 · have aB:∀ {i j o Z q q'},h1.t.get i=some o→h.t.get j=some Z→h0.t.get j=none→r' i=some q→r' j=some q'→q.ar=q'.ar→i=j:=fun {i j o Z q q'} hi ae ay I E he=>by
    obtain ⟨aa,O,aJ,_,an⟩:=ai ae ay;have :=st.le _ _ O;rw [E] at this; cases this;by_cases az:j < G
    · by_cases aG:i < G
      · obtain ⟨m1,J⟩:=st.hr.dT i aG;obtain ⟨aK,V⟩:=st.hr.dT j az;rw [I] at J; cases J;rw [E] at V; cases V;exact he
      · exact absurd (st.dk G (aY _) q'.ar aJ ⟨i,o,q,U,hi,I,he⟩) an
    · obtain ⟨i2,ap,aa,_,J,V,aC⟩:=st.dk 0 (jd _) q'.ar aJ ⟨i,o,q,jd _,hi,I,he⟩;have :=hr.inj i2 j ap Z aa q' (ah _ _ J) ae V O aC;subst this;rcases ax _ ay with C | C
      · rw [C] at J; cases J
      · exact absurd C az
   rcases ad hi with A | ⟨A,C⟩
   · rcases ad ae with M | ⟨M,ak⟩
     · exact st.hr.inj i j o Z q q' A M I E he
     · exact aB A M ak I E he
   · rcases ad ae with M | ⟨M,ak⟩
     · exact (aB M A C E I he.symm).symm
     · obtain ⟨aa,O,_⟩:=ai A C;obtain ⟨aL,aA,_⟩:=ai M ak;have ab:=st.le _ _ O;rw [I] at ab; cases ab;have aq:=st.le _ _ aA;rw [E] at aq; cases aq;exact hr.inj i j o Z q q' A M O aA he
 · obtain ⟨i,o,q,aj,aD,av,aw⟩:=am;rcases ad aD with A | ⟨A,C⟩
   · exact (st.dk g hg k aH ⟨i,o,q,aj,A,av,aw⟩).less ah
   · obtain ⟨aa,O,_⟩:=ai A C;have ab:=st.le _ _ O;rw [av] at ab; cases ab;exact ⟨i,o,q,aj,A,O,aw⟩
def nY (G T:Nat) (E:Nat→Nat) (b:Tr AO):List Nat→Tr AO
 | []=>b
 | g::l=>(nY G T E b l).set g<|.cells [.ek T (.ptr (G+g) 0)] (E g) 0 .x
theorem yW {E:Nat→Nat} {b:Tr AO} {i:Nat} :∀ {l:List Nat},(∀ g∈l,az g bI=true)→(nY G T E b l).get i=if i∈l then some (.cells [.ek T (.ptr (G+i) 0)] (E i) 0 .x) else b.get i
 | [],_=>by simp [nY]
 | g::l,hl=>by
   simp only [nY];rw [Tr.jo _ _ _ _ (hl g jP),yW (fun g hg=>hl g<|jO _ hg)];by_cases h1:i=g
   · subst h1; simp
   · simp [h1]
def qi (G T:Nat) (t:Tr AO):List Nat→Bool
 | []=>true
 | g::l=>match t.get g with
   | some (.cells [.ek t' (.ptr b 0)] _ 0 .x)=>cond ((az g G && az g bI) && (aD t' T && aD b (G+g))) (qi G T t l) false
   | _=>false
def nr (t:Tr AO) (g:Nat):Nat:=match t.get g with
 | some (.cells _ e _ _)=>e
 | _=>0
theorem y9 {t:Tr AO} :∀ {l:List Nat},qi G T t l=true→∀ g∈l,g < G∧az g bI=true∧t.get g=some (.cells [.ek T (.ptr (G+g) 0)] (nr t g) 0 .x)
 | [],_,g,hg=>nomatch hg
 | a::l,h,g,hg=>by
   unfold qi at h;split at h
   · rename_i t' b e A;have h1:((az a G && az a bI) && (aD t' T && aD b (G+a)))=true :=by
      cases hx:((az a G && az a bI) && (aD t' T && aD b (G+a)))
      · rw [hx] at h; cases h
      · rfl
     rw [h1] at h;simp only [aV] at h1;rcases fU.1 hg with rfl | C
     · obtain rfl :=bA h1.2.1;obtain rfl :=bA h1.2.2;refine ⟨bQ.1 h1.1.1,h1.1.2,?_⟩;rw [A];simp only [nr,A]
     · exact y9 h g C
   · cases h
structure Mm where
 f:Nat
 args:List AV
 h0:Hp
 v:AV
 h1:Hp
def ya (G T:Nat) (S:List Nat) (m:Mm) (f:Nat) (args:List AV) (h:Hp):Option (AV×Hp):=cond (aD f m.f) (cond (ic args m.args && (aD h.nx m.h0.nx && (gu m.h0.t h.t && qi G T h.t S))) (some (m.v,⟨j7 h.t m.h0.t m.h1.t,m.h1.nx⟩)) none) none
def pG (G T:Nat) (S:List Nat) (f:Nat) (args:List AV) (h:Hp):List Mm→Option (AV×Hp)
 | []=>none
 | m::l=>match ya G T S m f args h with
   | some x=>some x
   | none=>pG G T S f args h l
def Mm.hp (G T:Nat) (S:List Nat) (m:Mm) (E:Nat→Nat):Hp:=⟨nY G T E m.h0.t S,m.h0.nx⟩
def Mm.Ok (P:aq) (G T:Nat) (S:List Nat) (m:Mm):Prop :=(∀ E,gX P G m.f m.args (m.hp G T S E) m.v m.h1)∧∃ fn c,P.funcs[m.f]? =some fn∧fn.body=some c
variable {S:List Nat}
theorem sX:∀ {l:List Mm},(∀ m∈l,m.Ok P G T S)→∀ {f:Nat} {args:List AV} {v:AV},pG G T S f args h l=some (v,h')→gX P G f args h v h'∧∃ fn c,P.funcs[f]? =some fn∧fn.body=some c
 | [],_,f,args,v,hf=>by cases hf
 | m::l,hl,f,args,v,hf=>by
   unfold pG at hf;split at hf
   · rename_i x A;obtain rfl :=fV hf;unfold ya at A;replace A:=aQ A; obtain ⟨I,A⟩:=A;replace A:=aQ A; obtain ⟨C,A⟩:=A;cases A;simp only [aV] at C;obtain rfl :=bA I;obtain rfl :=kK C.1;obtain ⟨J,hb⟩:=hl m jP;have E:=y9 C.2.2.2;have hT:∀ i,(m.hp G T S<|nr h.t).t.get i=if i∈S then some (.cells [.ek T (.ptr (G+i) 0)] (nr h.t i) 0 .x) else m.h0.t.get i:=fun i=>yW fun g hg=>(E g hg).2.1
     refine ⟨(J<|nr h.t).more (fun i o hi=> ?_) (fun i o hi=>jB C.2.2.1 hi) (fun i hi=> ?_) (bA C.2.1),hb⟩
     · rw [hT] at hi;split at hi
       · rename_i hm;rw [← hi]; exact (E i hm).2.2
       · exact jB C.2.2.1 hi
     · rw [hT];split
       · rename_i hm;exact .inr (E i hm).1
       · exact .inl hi
   · exact sX (fun m hm=>hl m<|jO _ hm) hf
def di (P:aq) (G:Nat) (X:Xt) (T:Nat) (S:List Nat) (M:List Mm):Nat→Tk→Rs
 | 0,_=> .no
 | n+1,.cl f args h=>match pG G T S f args h M with
   | some (v,h')=> .rv v h'
   | none=>ee P G X (di P G X T S M n)<|.cl f args h
 | n+1,t=>ee P G X (di P G X T S M n) t
theorem xg {M:List Mm} (E:∀ m∈M,m.Ok P G T S):∀ (k:Nat),(∀ f args h v h',di P G X T S M k (.cl f args h)= .rv v h'→∃ fn c,P.funcs[f]? =some fn∧fn.body=some c)∧(∀ f args h v h',di P G X T S M k (.df f args h)= .rv v h'→∃ fn c,P.funcs[f]? =some fn∧fn.body=some c)
 | 0=>⟨fun f args h v h' A=>(by cases A),fun f args h v h' A=>by cases A⟩
 | k+1=>by
   constructor
   · intro f args h v h' A;simp only [di] at A;split at A
     · rename_i x I;exact (sX E I).2
     · simp only [ee] at A;split at A
       · rename_i fn C;split at A
         · rename_i c hb; exact ⟨fn,c,C,hb⟩
         · cases A
       · cases A
   · intro f args h v h' A;simp only [di,ee] at A;split at A
     · rename_i fn C;split at A
       · rename_i c hb; exact ⟨fn,c,C,hb⟩
       · cases A
     · cases A
theorem sf {M:List Mm} (E:fX P G X) (C:eX P) (hm:P.follows .mixedOrders=true) (I:∀ m∈M,m.Ok P G T S):∀ k,Good P G (di P G X T S M k)
 | 0=>fun t=>by cases t <;> trivial
 | k+1=>fun t=>by
   have A:=sf E C hm I k;obtain ⟨J,L⟩:=xg (P:=P) (G:=G) (X:=X) I k;cases t with
   | cd rd n c fr D h=>exact GF A E C (C9 A E C J hm) J rd n c fr D h
   | lp rd n c fr D h=>exact GI A rd n c fr D h
   | cl f args h=>
     simp only [di];split
     · rename_i x O;exact (sX I O).1
     · exact GG A C L f args h
   | yl l args h=>exact GJ A l args h
   | df f args h=>exact GH A E C J f args h
def fP (v:AV) (h1:Hp):Rs→Bool
 | .rv u h=>dL u v && (aD h1.nx h.nx && gu h1.t h.t)
 | _=>false
theorem Mm.of {M:List Mm} {k:Nat} {m:Mm} (J:fX P G X) (I:eX P) (hm:P.follows .mixedOrders=true) (C:∀ q∈M,q.Ok P G T S) (he:∀ E,fP m.v m.h1 (di P G X T S M k<|.cl m.f m.args<|m.hp G T S E)=true):m.Ok P G T S:=by
 have hr:∀ E,∃ u A,di P G X T S M k (.cl m.f m.args<|m.hp G T S E)= .rv u A∧u=m.v∧m.h1.nx=A.nx∧gu m.h1.t A.t=true :=fun E=>by
  have he:=he E;unfold fP at he;split at he
  · rename_i u A hr;simp only [aV] at he;exact ⟨u,A,hr,mo he.1,bA he.2.1,he.2.2⟩
  · cases he
 refine ⟨fun E=> ?_,?_⟩
 · obtain ⟨u,A,hr,rfl,hn,L⟩:=hr E;have hg:=sf J I hm C k<|.cl m.f m.args<|m.hp G T S E;rw [hr] at hg;exact gX.less hg (fun i o hi=>jB L hi) hn
 · obtain ⟨u,A,hr,_⟩:=hr fun _=>0;exact (xg C k).1 _ _ _ _ _ hr
theorem gj:∀ q∈([]:List Mm),q.Ok P G T S:=fun _ h=>nomatch h
theorem gI {m:Mm} {l:List Mm} (h:m.Ok P G T S) (A:∀ q∈l,q.Ok P G T S):∀ q∈m::l,q.Ok P G T S:=fun q C=>by
 rcases fU.1 C with rfl | h'
 · exact h
 · exact A q h'
theorem Dz {M:List Mm} {k f:Nat} {args:List AV} {h h':Hp} {v:AV} (E:fX P G X) (A:eX P) (hm:P.follows .mixedOrders=true) (C:∀ q∈M,q.Ok P G T S) (he:di P G X T S M k (.cl f args h)= .rv v h'):gX P G f args h v h':=by
 have :=sf E A hm C k<|.cl f args h;rw [he] at this;exact this
end
end Go.Hb
end
section
namespace Go.Hb
def ik (P:aq) (t:an):Bool:=match P.underlying t with
 | some (.interface _)=>true
 | _=>false
def kL (P:aq) (d:an) (k:IntKind):Bool:=match P.info? d,P.underlying d with
 | some i,some (.int k')=>i.comparable && decide (k=k')
 | _,_=>false
theorem ik.of {P:aq} {t:an} (h:ik P t=true):∃ ms,P.underlying t=some (.interface ms):=by
 unfold ik at h;split at h
 · rename_i ms hm; exact ⟨ms,hm⟩
 · cases h
theorem kL.of {P:aq} {d:an} {k:IntKind} (h:kL P d k=true):∃ i,P.info? d=some i∧i.comparable=true∧P.underlying d=some (.int k):=by
 unfold kL at h;split at h
 · rename_i i A hi hu;rw [aV,decide_eq_true_iff] at h;exact ⟨i,hi,h.1,by rw [hu,h.2]⟩
 · cases h
section
variable {P:aq} {N:Fm} {σ:Nat→ag} {w:ah} {dst:Option Nat} {ty:an} {pos :String} {af:Array Edge} {g:Option (Nat×Bool)} {x y z:Operand} {t t' d:an}
theorem xa (hu:ik P t=true):(Op.equal t .nilIface .nilIface).run P w= .ok true w:=by
 obtain ⟨ms,hm⟩:=ik.of hu;have h:∀ n,(eC (n+1) t .nilIface .nilIface).run P w= .ok true w:=fun n=>by
  simp [eC,ba hm]
 exact h 9999
theorem Ds {k:IntKind} {a b:Int} (hu:ik P t=true) (C:kL P d k=true):(Op.equal t (.iface d<|.int k a)<|.iface d<|.int k b).run P w= .ok (a==b) w:=by
 obtain ⟨ms,hm⟩:=ik.of hu;obtain ⟨i,hi,A,E⟩:=kL.of C;have h:∀ n,(eC (n+1 +1) t (.iface d<|.int k a)<|.iface d<|.int k b).run P w= .ok (a==b) w:=fun n=>by
  simp [eC,ba hm,ba E,cG hi,A]
 exact h 9998
theorem Dq (hu:ik P t=true) (A:ev N σ x= .nilIface):(execOp (ev N σ) ⟨dst,.binOp .eql t x (.const .nilIface) t',ty,pos,af,g⟩).run P w= .ok (.value<|.bool true) w:=by
 have C:ev N σ (.const .nilIface)= .nilIface:=rfl;have h:(binOp .eql t .nilIface .nilIface).run P w= .ok (.bool true) w:=by
  simp only [binOp]; simp [xa hu]
 simp [execOp,A,C,eqGuard,h]
theorem yi (hu:ik P t=true) (A:ev N σ x= .nilIface):(execOp (ev N σ) ⟨dst,.binOp .neq t x (.const .nilIface) t',ty,pos,af,g⟩).run P w= .ok (.value<|.bool false) w:=by
 have C:ev N σ (.const .nilIface)= .nilIface:=rfl;have h:(binOp .neq t .nilIface .nilIface).run P w= .ok (.bool false) w:=by
  simp only [binOp]; simp [xa hu]
 simp [execOp,A,C,eqGuard,h]
theorem Dr {k:IntKind} {a b:Int} (hu:ik P t=true) (A:kL P d k=true) (C:ev N σ x= .iface d (.int k a)) (E:ev N σ y= .iface d (.int k b)):(execOp (ev N σ) ⟨dst,.binOp .eql t x y t',ty,pos,af,g⟩).run P w= .ok (.value<|.bool<|a==b) w:=by
 have h:(binOp .eql t (.iface d<|.int k a)<|.iface d<|.int k b).run P w= .ok (.bool<|a==b) w:=by
  simp only [binOp]; simp [Ds hu A]
 simp [execOp,C,E,eqGuard,h]
end
end Go.Hb
end
section
namespace Go.Hb
open Go Go.RowKit Go.ChangeShapes
theorem FX {P:aq} {n:String} {W:ah} {g:Nat} {cs:Array ag} (hg:P.globalNamed n=some g) (A:W.var? P n=some cs):∃ e z,W.heap[g]? =some (.cells cs e z):=by
 unfold World.var? at A;rw [hg] at A;simp only [Option.bind_some] at A;split at A
 · rename_i c e z h;cases A;exact ⟨e,z,h⟩
 · cases A
theorem gr {P:aq} {n nm:String} {text:List UInt8} {r:List (String×DataW Unit)} {W:ah} {g:Nat} {J C te E:an} {ms:Array (String×an)} {f:Field}
 (h:laidMet P ((n,.iface nm (.ptr<|.agg [.lit (.string text)]))::r) W)
 (hg:P.globalNamed n=some g) (ad:(P.globals[g]?).map (·.type)=some J) (hi:P.underlying J=some (.interface ms)) (ab:∀ u,P.typeName? 3 u=some nm→u=C)
 (hp:P.underlying C=some (.pointer te)) (he:P.underlying te=some (.struct #[f])) (Z:f.type=E) (V:f.offset=0) (ac:P.underlying E=some .string) (M:P.cellsOf te=1) (U:P.cellsOf E=1):
 ∃ (a:bB) (e:Nat),a.spot=none∧W.heap[g]? =some (.cells #[.iface C (.pointer<|some a)] e (0,0)):=by
 obtain ⟨a,s,I,O,_,_⟩:=laid_sentinel h hg ad hi ab hp he Z V ac M U;obtain ⟨e,z,hw⟩:=FX hg I;obtain ⟨ps,⟨aj,t0,ai,f0,am,ao,aa,al,ae,ak,_,L⟩,_,hrows⟩:=h;obtain rfl :=fV<|hg.symm.trans aa;subst L;have ag:=fV<|I.symm.trans ae;subst ag;obtain ⟨⟨c,t,A⟩,_⟩:=hrows g 0<|by simp [MemPlace.row]
 rw [hw] at A;simp only [bu,Obj.cells.injEq] at A;obtain ⟨_,_,rfl⟩:=A;exact ⟨a,e,World.cell?_spot O,hw⟩
theorem cz.nil {T:Nat} {w:ah} :cz T [] w:=fun g h=>by cases h
theorem cz.cons {T g:Nat} {l:List Nat} {w:ah} (h:∃ (a:bB) (e:Nat),a.spot=none∧w.heap[g]? =some (.cells #[.iface T (.pointer<|some a)] e (0,0))) (C:cz T l w):cz T (g::l) w:=fun k A=>by
 rcases fU.1 A with rfl | A
 · exact h
 · exact C k A
theorem cz.sub {T:Nat} {l m:List Nat} {w:ah} (h:cz T l w) (A:∀ g∈m,g∈l):cz T m w:=fun g hg=>h g<|A g hg
end Go.Hb
end
section
namespace Go.Hb
abbrev aE (n:Nat):ag:= .int .i64 (n:Nat)
abbrev aR (b:Nat):ag:= .pointer<|some ⟨b,0,none⟩
variable {P:aq} {N:Fm} {ops:Array Oper} {Q:Exit→(Nat→ag)→ah→Prop} {σ:Nat→ag} {w:ah} {S:ah→Prop} {r fuel:Nat} {listed:Array Bool} {d:Nat} {op:Op} {ty:an} {pos :String} {af:Array Edge} {v:ag}
theorem fM (i:Nat) (hi:ops[i]? =some ⟨some d,op,ty,pos,af,none⟩) (E:∀ w,S w→(execOp (ev N σ) ⟨some d,op,ty,pos,af,none⟩).run P w= .ok (.value v) w) (A:S w) (k:bS P N ops Q S fuel (listed.setIfInBounds i true) (a0 σ d v) w) (C:dF N.F ops listed i=true :=by kernel_rfl):bS P N ops Q S (fuel+1) listed σ w:=hp i hi C E A k
theorem Ia (i:Nat) (hi:ops[i]? =some ⟨some d,op,ty,pos,af,none⟩) (E:∀ w,S w→(execOp (ev N σ) ⟨some d,op,ty,pos,af,none⟩).run P w= .ok (.value v) w) (A:S w) (k:bN P N ops Q S r fuel (listed.setIfInBounds i true) (a0 σ d v) w) (C:sx N.F ops listed r i=true :=by kernel_rfl):bN P N ops Q S r (fuel+1) listed σ w:=x7 i hi C E A k
theorem Ic (i:Nat) (hi:ops[i]? =some ⟨some d,op,ty,pos,af,none⟩) (E:∀ w,(execOp (ev N σ) ⟨some d,op,ty,pos,af,none⟩).run P w= .ok (.value v) w) (A:listed.getD r false =false→S w) (k:bN P N ops Q S r fuel (listed.setIfInBounds i true) (a0 σ d v) w) (C:kP N.F ops listed r i=true :=by kernel_rfl):bN P N ops Q S r (fuel+1) listed σ w:=nJ i hi C E A k
theorem bV (i:Nat) (hi:ops[i]? =some ⟨some d,op,ty,pos,af,none⟩) (E:∀ {w},(execOp (ev N σ) ⟨some d,op,ty,pos,af,none⟩).run P w= .ok (.value v) w) (A:S w) (k:bS P N ops Q S fuel (listed.setIfInBounds i true) (a0 σ d v) w) (C:dF N.F ops listed i=true :=by kernel_rfl):bS P N ops Q S (fuel+1) listed σ w:=hp i hi C (fun _ _=>E) A k
theorem sV (i:Nat) (hi:ops[i]? =some ⟨some d,op,ty,pos,af,none⟩) (E:∀ {w},(execOp (ev N σ) ⟨some d,op,ty,pos,af,none⟩).run P w= .ok (.value v) w) (A:S w) (k:bN P N ops Q S r fuel (listed.setIfInBounds i true) (a0 σ d v) w) (C:my N.F ops listed r i=true :=by kernel_rfl):bN P N ops Q S r (fuel+1) listed σ w:=lq i hi C (fun _ _=>E) A k
theorem Ib (i:Nat) (hi:ops[i]? =some ⟨some d,op,ty,pos,af,none⟩) (E:∀ {w},(execOp (ev N σ) ⟨some d,op,ty,pos,af,none⟩).run P w= .ok (.value v) w) (A:S w) (k:bN P N ops Q S r fuel (listed.setIfInBounds i true) (a0 σ d v) w) (C:kP N.F ops listed r i=true :=by kernel_rfl):bN P N ops Q S r (fuel+1) listed σ w:=nJ i hi C (fun _=>E) (fun _=>A) k
theorem sE {x:Operand} (i:Nat) (hi:ops[i]? =some ⟨some d,.move x,ty,pos,af,none⟩) (v:ag) (A:S w) (k:bS P N ops Q S fuel (listed.setIfInBounds i true) (a0 σ d v) w) (E:ev N σ x=v:=by exact J) (C:dF N.F ops listed i=true :=by kernel_rfl):bS P N ops Q S (fuel+1) listed σ w:=hp i hi C (fun _ _=>pK v E) A k
theorem H9 {x:Operand} (i:Nat) (hi:ops[i]? =some ⟨some d,.move x,ty,pos,af,none⟩) (v:ag) (A:S w) (k:bN P N ops Q S r fuel (listed.setIfInBounds i true) (a0 σ d v) w) (E:ev N σ x=v:=by exact J) (C:kP N.F ops listed r i=true :=by kernel_rfl):bN P N ops Q S r (fuel+1) listed σ w:=nJ i hi C (fun _=>pK v E) (fun _=>A) k
theorem kF {P:aq} {f:FuncId} {fn:Func} (A:P.funcs[f]? =some fn) (hn:(fn.name== "runtime.NumGoroutine")=false :=by kernel_rfl) (hb:fn.body.isNone=false :=by kernel_rfl):fB P f:=rP A hn hb
section
variable {rest:List Oper} {x:Operand} {K:(Nat→ag)→ah→Prop} {l:List Oper} {id:Nat} {y z:Code} {j t:Nat} {want b:Bool} {fn:Func} {R:ag→ah→Prop}
theorem Ig (h:∀ {K:(Nat→ag)→ah→Prop},(∀ {σ w},bl P N y Q σ w→fQ K Q .normal σ w)→bl P N z (fQ K Q) σ w):bl P N (.seq z y) Q σ w:=sq fun K A=>h fun hw=>A _ _ hw
theorem Ih (h:∀ {K:(Nat→ag)→ah→Prop},(∀ {σ w},bl P N y Q σ w→fQ K Q .normal σ w)→bD P N l.toArray (fQ K Q) l σ w) (hr:iR N.r l=true :=by exact J):bl P N (.seq (.region id l.toArray false) y) Q σ w:=sq fun K A=>rg hr<|h fun hw=>A _ _ hw
theorem H7 (h:Q .normal (a0 σ d<|ev N σ x) w):bD P N ops Q [⟨some d,.assign x,ty,pos,af,none⟩] σ w:=p aP<|nl h
theorem cy {id:Nat} (h:Q (.exit id) σ w):fQ K Q (.exit id) σ w:=h
theorem Ie (h:(da ops j,az t N.n,σ t,b==want)=(some t,true,.bool b,false)) (k:bD P N ops Q rest (a0 σ d undef) w):bD P N ops Q (⟨some d,op,ty,pos,af,some (j,want)⟩::rest) σ w:=sk (congrArg fh h) (congrArg (·.2.1) h) (congrArg (·.2.2.1) h) (congrArg (·.2.2.2) h) k
theorem If (h:(da ops j,az t N.n,σ t)=(some t,true,undef)) (k:bD P N ops Q rest (a0 σ d undef) w):bD P N ops Q (⟨some d,op,ty,pos,af,some (j,want)⟩::rest) σ w:=zm (congrArg fh h) (congrArg (·.2.1) h) (congrArg (·.2.2) h) k
theorem bp (h:(da ops j,az t N.n,σ t)=(some t,true,.bool want)) (A:(execOp (ev N σ) ⟨some d,op,ty,pos,af,some (j,want)⟩).run P w= .ok (.value v) w) (k:bD P N ops Q rest (a0 σ d v) w):bD P N ops Q (⟨some d,op,ty,pos,af,some (j,want)⟩::rest) σ w:=pg (congrArg fh h) (congrArg (·.2.1) h) (congrArg (·.2.2) h) A k
theorem H8 (i:Nat) (h:(ops[i]?,da ops j,az t N.n,σ t,b==want)=(some ⟨some d,op,ty,pos,af,some (j,want)⟩,some t,true,.bool b,false)) (A:S w) (k:bS P N ops Q S fuel (listed.setIfInBounds i true) (a0 σ d undef) w) (C:dF N.F ops listed i=true :=by kernel_rfl):bS P N ops Q S (fuel+1) listed σ w:=xF i (congrArg fh h) C (congrArg (·.2.1) h) (congrArg (·.2.2.1) h) (congrArg (·.2.2.2.1) h) (congrArg (·.2.2.2.2) h) A k
theorem dj (i:Nat) (h:(ops[i]?,da ops j,az t N.n,σ t)=(some ⟨some d,op,ty,pos,af,some (j,want)⟩,some t,true,.bool want)) (E:∀ w,S w→(execOp (ev N σ) ⟨some d,op,ty,pos,af,some (j,want)⟩).run P w= .ok (.value v) w) (A:S w) (k:bS P N ops Q S fuel (listed.setIfInBounds i true) (a0 σ d v) w) (C:dF N.F ops listed i=true :=by kernel_rfl):bS P N ops Q S (fuel+1) listed σ w:=xE i (congrArg fh h) C (congrArg (·.2.1) h) (congrArg (·.2.2.1) h) (congrArg (·.2.2.2) h) E A k
theorem aM (h:(fn.results,ev N σ (.tmp t))=(#[.tmp t],v)) (A:R v w):fin P fn N R .ret σ w:=f1 (congrArg fh h) (congrArg Prod.snd h) A
theorem yF (v:ag) (h:bD P N ops Q rest (a0 σ d v) w) (A:ev N σ x=v:=by exact J):bD P N ops Q (⟨some d,.move x,ty,pos,af,none⟩::rest) σ w:=p (pK v A) h
end
end Go.Hb
end
namespace Go.Hb.ew
theorem l8:cB ak 103=some (some 2):=aj
theorem kC:cB ak 31=some (some 7):=aj
theorem vi:cB ak 35=some none:=aj
theorem jU:cB ak 42=some (some 7):=aj
theorem BL:cB ak 60=some (some 2):=aj
theorem rF:cB ak 63=some (some 2):=aj
theorem rG:cB ak 65=some (some 2):=aj
theorem BM:cB ak 77=some (some 2):=aj
theorem BN:cB ak 83=some (some 5):=aj
theorem rH:cB ak 93=some (some 2):=aj
theorem vu:jh ak 233=some (256,1):=aj
theorem vv:jh ak 29=some (4,1):=aj
theorem jV:jh ak 40=some (4,1):=aj
theorem Ci:kE ak 162 5 9=true :=aj
theorem Cm:fB ak 40:=kF func40
theorem ma:fB ak 41:=kF func41
theorem rN:fB ak 42:=kF func42
theorem hH:fB ak 43:=kF func43
theorem nj:fB ak 45:=kF func45
theorem Cn:fB ak 60:=kF func60
theorem vB:fB ak 67:=kF func67
theorem vN:∀ v w,(callFunc 174 #[v]).run ak w= .ok (.value v) w:=fun v w=>aj
theorem o3:bU ak 103=some 2:=aj
theorem CM:bU ak 162=some 1:=aj
theorem CN:bU ak 218=some 1:=aj
theorem CO:bU ak 27=some 1:=aj
theorem CP:bU ak 28=some 1:=aj
theorem dD:bU ak 3=some 1:=aj
theorem kH:bU ak 31=some 7:=aj
theorem rV:bU ak 35=some 1:=aj
theorem vO:bU ak 38=some 1:=aj
theorem vP:bU ak 39=some 1:=aj
theorem vQ:bU ak 4=some 1:=aj
theorem mc:bU ak 42=some 7:=aj
theorem vR:bU ak 5=some 1:=aj
theorem CQ:bU ak 60=some 2:=aj
theorem vS:bU ak 61=some 1:=aj
theorem rW:bU ak 63=some 2:=aj
theorem vT:bU ak 65=some 2:=aj
theorem CR:bU ak 77=some 2:=aj
theorem CS:bU ak 83=some 5:=aj
theorem vU:bU ak 9=some 1:=aj
theorem vV:bU ak 91=some 1:=aj
theorem rX:bU ak 93=some 2:=aj
theorem Dw:kL ak 35 .i64=true :=aj
theorem pc:cK ak 162=some 1:=aj
theorem xf:cK ak 172=some 1:=aj
theorem sc:cK ak 27=some 2:=aj
theorem j0:cK ak 28=some 2:=aj
theorem sd:cK ak 38=some 2:=aj
theorem kM:cK ak 39=some 2:=aj
theorem nu:cK ak 61=some 2:=aj
theorem mu:cK ak 91=some 2:=aj
theorem DL:kN ak 63 1=some 1:=aj
theorem pw:ik ak 24=true :=aj
theorem D8:(ak.info? 220).isSome=true :=aj
theorem Eh:∀ (l:List UInt8) (c:UInt8) (w:ah),(callFunc 326 #[str l,.int .u8 c.toNat]).run ak w= .ok (.value<|.int .i64<|jr c l) w:=FR func326 aj aj aj aj
theorem nL:iN ak 35=true :=aj
theorem Ft:ptrTo ak 299 5=true :=aj
theorem kd:dY ak 162 5 1 1=true :=aj
theorem Gh:dY ak 172 4 1 1=true :=aj
theorem zq:dY ak 27 77 2 32=true :=aj
theorem qt:dY ak 28 93 2 32=true :=aj
theorem qv:dY ak 38 60 2 32=true :=aj
theorem qw:dY ak 39 63 2 32=true :=aj
theorem qx:dY ak 61 65 2 16=true :=aj
theorem qy:dY ak 91 103 2 16=true :=aj
theorem qz:dO ak 103=some ([(0,1),(1,1)],[.int .u8 0,.int .i64 0]):=aj
theorem Gk:dO ak 108=some ([(0,1),(1,1)],[.string ⟨⟨[]⟩⟩,.int .i64 0]):=aj
theorem Gl:dO ak 174=some ([(0,1),(1,1),(2,1)],[.slice none 0 0,.int .i64 0,.slice none 0 0]):=aj
theorem Gm:dO ak 231=some ([(0,1),(1,1),(2,1)],[.slice none 0 0,.int .i64 0,.slice none 0 0]):=aj
theorem qA:dO ak 31=some ([(0,1),(1,1),(2,1),(3,4)],[.int .i64 0,.string ⟨⟨[]⟩⟩,.slice none 0 0,.slice none 0 0,.slice none 0 0,.slice none 0 0,.slice none 0 0]):=aj
theorem zr:dO ak 42=some ([(0,1),(1,1),(2,1),(3,4)],[.int .i64 0,.string ⟨⟨[]⟩⟩,.slice none 0 0,.slice none 0 0,.slice none 0 0,.slice none 0 0,.slice none 0 0]):=aj
theorem Gn:dO ak 60=some ([(0,1),(1,1)],[.string ⟨⟨[]⟩⟩,.string ⟨⟨[]⟩⟩]):=aj
theorem Gp:dO ak 63=some ([(0,1),(1,1)],[.bool false,.slice none 0 0]):=aj
theorem Gq:dO ak 65=some ([(0,1),(1,1)],[.int .u8 0,.int .i64 0]):=aj
theorem Gr:dO ak 70=some ([(0,7),(7,1)],[.int .i64 0,.string ⟨⟨[]⟩⟩,.slice none 0 0,.slice none 0 0,.slice none 0 0,.slice none 0 0,.slice none 0 0,.string ⟨⟨[]⟩⟩]):=aj
theorem Gs:dO ak 73=some ([(0,1),(1,1),(2,1)],[.string ⟨⟨[]⟩⟩,.int .i64 0,.int .i64 0]):=aj
theorem Gt:dO ak 77=some ([(0,1),(1,1)],[.string ⟨⟨[]⟩⟩,.string ⟨⟨[]⟩⟩]):=aj
theorem Gu:dO ak 83=some ([(0,1),(1,1),(2,1),(3,1),(4,1)],[.int .i64 0,.int .i64 0,.int .i64 0,.int .i64 0,.int .i64 0]):=aj
theorem zt:dO ak 93=some ([(0,1),(1,1)],[.bool false,.slice none 0 0]):=aj
theorem zL:ak.underlying 218=some (.pointer 220):=aj
theorem m4:ak.underlying 22=some (.pointer 70):=aj
theorem u3:ak.underlying 3=some (.int .i64):=aj
theorem GR:ak.underlying 38=some (.slice 60):=aj
theorem GS:ak.underlying 39=some (.slice 63):=aj
theorem u4:ak.underlying 4=some (.bool):=aj
theorem GU:ak.underlying 61=some (.slice 65):=aj
theorem m5:ak.underlying 74=some (.int .u64):=aj
theorem u9:ak.underlying 9=some (.string):=aj
theorem zN:ak.underlying 94=some (.pointer 63):=aj
theorem zP:lh ak 218 288 220 2=true :=aj
theorem uh:(ak.underlying 3).isSome=true :=aj
theorem ui:(ak.underlying 5).isSome=true :=aj
theorem ke:(ak.underlying 74).isSome=true :=aj
theorem wide:ak.follows .mixedOrders=true :=aj
theorem Aa:zeroOf ak 103=some (some [.int .u8 0,.int .i64 0]):=aj
theorem HT:zeroOf ak 220=some (some [.pointer none,.slice none 0 0]):=aj
theorem HU:zeroOf ak 3=some (some [.int .i64 0]):=aj
theorem qK:zeroOf ak 31=some (some [.int .i64 0,.string ⟨⟨[]⟩⟩,.slice none 0 0,.slice none 0 0,.slice none 0 0,.slice none 0 0,.slice none 0 0]):=aj
theorem HV:zeroOf ak 35=some (some [.int .i64 0]):=aj
theorem qL:zeroOf ak 42=some (some [.int .i64 0,.string ⟨⟨[]⟩⟩,.slice none 0 0,.slice none 0 0,.slice none 0 0,.slice none 0 0,.slice none 0 0]):=aj
theorem HW:zeroOf ak 60=some (some [.string ⟨⟨[]⟩⟩,.string ⟨⟨[]⟩⟩]):=aj
theorem uA:zeroOf ak 63=some (some [.bool false,.slice none 0 0]):=aj
theorem Ab:zeroOf ak 65=some (some [.int .u8 0,.int .i64 0]):=aj
theorem HX:zeroOf ak 77=some (some [.string ⟨⟨[]⟩⟩,.string ⟨⟨[]⟩⟩]):=aj
theorem HY:zeroOf ak 83=some (some [.int .i64 0,.int .i64 0,.int .i64 0,.int .i64 0,.int .i64 0]):=aj
theorem uB:zeroOf ak 93=some (some [.bool false,.slice none 0 0]):=aj
theorem HZ:zeroOf ak 233=some (some<|dq 256<|.bool false):=aj
theorem H0:zeroV ak 35=some (.int .i64 0):=aj
end Go.Hb.ew
section
namespace Go.Hb
open Go.Hb.ew
theorem CK (b:Nat) (A:Option bB) (E:ag) (w:ah) (hb:w.heap[b]? =some (.cells [qY A,E].toArray 220 (0,0))) (hp:A=none∨A=some ⟨b,0,none⟩):
 bj ak 128 (bz [aR b]) w (fun v w'=>v= .tuple #[]∧w'.heap[b]? =some (.cells [qY (some ⟨b,0,none⟩),E].toArray 220 (0,0))∧Md (fun k=>k=b) w w'):=by
 refine enter func128 J ntmps128 J<|aZ 5 J<|p (aA J<|(bT hb).trans J)<|p (mr zL J J)<|aG 2 J<|cb J (fun C=> ?_) fun C=> ?_;obtain rfl :A=none:=by simpa using C
 exact aF 3 J<|p (zH zP J hb J)<|p (CE vN J)<|p (xx zP J hb J)<|ai 2 J<|e<|dZ CN J J J hb (by simp) fun M L I=>ay 1 J<|f0 J<|⟨J,I,L⟩
 obtain rfl :A=some ⟨b,0,none⟩:=hp.resolve_left<|by rintro rfl; simp at C
 exact aF 5 J<|p (aA J<|(bT hb).trans J)<|ai 1 J<|p (E4 zL D8 J J)<|ay 4 J<|f0 J<|⟨J,hb,Md.refl _ _⟩
theorem HM (b:Nat) (C:ag) (l:List UInt8) (c:UInt8) (w:ah) (hb:Bd 220 5 w b C l) (aC:l.length≤70368744177664):
 bj ak 90 (bz [aR b,.int .u8 c.toNat]) w (fun v w'=>v= .nilIface∧∃ M,Bd 220 5 w' b M (l++ [c])∧Md (BF b C) w w'∧∀ k,BF b M k→BF b C k∨w.heap.size≤k):=by
 obtain ⟨⟨aw,ab,aq⟩,hown,hnil⟩:=hb;have aJ:b < w.heap.size:=(ef.1 ab).1;have ac:∀ k,C.ownBlock=some k→k≠b∧k < w.heap.size:=fun k A=>by have :=hown.lt k A; exact ⟨U,this.2⟩
 refine enter func90 J ntmps90 J<|aZ 8 J<|e<|bd (CK b aw C w ab aq) J ?_;rintro v6 aH ⟨_,aa,I⟩;have ao:=cP hown I fun k A=>(ac k A).1;have aD:=I.size;refine ai 8 J<|p (aA J<|(bT aa).trans J)<|ai 1 J<|e<|rL kd J J fun ax aE aB E aj=>e<|ap kd (cq ao E.md) J (by have :=E.size; omega) J (bo.iw aj) (J) (J) U U fun ad aF L V av an=> ?_;have am:=V.ar (Wk.ar E.md aa) fun h=>(ac b h).1 rfl;refine ai 2 J<|e<|dZ CM J J (by obtain ⟨a,c,h,_⟩:=mI L; exact congrArg eV h) am (by simp) fun aG Z al=>ay 8 J<|aM J ?_;have ae:∀ k,ad.ownBlock=some k→k≠b:=fun k A=>by have :=L.lt k A; omega
 refine ⟨J,ad,⟨⟨_,al,.inr J⟩,?_,?_⟩,?_,?_⟩;rw [cj,vh]; exact cP L Z fun k A=>ae k A;rw [av]; simp;refine Md.trans' (Md.trans' (Md.trans' (I.mono fun k _ h=> .inl h) E.md fun _ _ h=>h.elim) V fun k _ h=> .inr h) Z fun k _ h=> .inl h;rintro k (rfl | A);exact .inl<|.inl J;by_cases h:C.ownBlock=some k;exact .inl<|.inr h;have :=an k A; have h1:=I.size; have az:=E.md.size; exact .inr<|by rcases this with O | O; exact absurd O h; omega
theorem GM (b:Nat) (I:ag) (l:List UInt8) (w:ah) (hb:Bd 220 5 w b I l) (ab:l.length≤70368744177664):
 bj ak 91 (bz [aR b]) w (fun v w'=>v=str l∧Md (fun k=>I.ownBlock=some k) w w'):=by
 obtain ⟨⟨ae,L,ac⟩,hown,hnil⟩:=hb;obtain ⟨a,c,rfl,V,hle,Z,aa⟩:=mI hown;refine enter func91 J ntmps91 J<|bY 6 J ?_;have A:(fun w'=>Md (fun k=>(iC a l.length c).ownBlock=some k) w w') w.drew:=(Md.refl _ _).drew;refine a9 (fun w'=>Md (fun k=>(iC a l.length c).ownBlock=some k) w w') J wide A<|aK [0,1,2] J A<|fM 3 J (fun w' C=>aA J<|C.av ((bT L).trans J) fun h=>by have :=hown.lt _ h; omega) A<|aK [5,6,7] J A<|fM 8 J (fun w' C=>aA J<|C.av ((bT L).trans J) fun h=>by have :=hown.lt _ h; omega) A<|aK [9] J A ?_;refine bV 4 J (uj (v:= .nilFunc) J (by
  by_cases h:l= []
  have :=hnil.2 h; simp only [Value.slice.injEq] at this; exact .inl this.1;right; have :0 < l.length:=List.length_pos_iff.2 h; omega)) A ?_
 refine he 10 J aj<|G2 Ft J J hown J U fun O M ad=> ?_;have E:(fun w'=>Md (fun k=>(iC a l.length c).ownBlock=some k) w w') O:=A.trans' M fun _ _ h=>h;refine ⟨E,?_⟩;exact bV 11 J (aP) E<|hn aj<|bf 2 J<|aM J<|⟨J,E⟩
end Go.Hb
end
section
namespace Go.Hb
open Go.Hb.ew
theorem sp (b:UInt8):ej b=decide (32 < (b.toNat:Int)∧(b.toNat:Int)≠127):=by
 unfold ej; exact decide_eq_decide.2 U
theorem DI {b:UInt8} (h:32 < (b.toNat:Int)) (h1:(b.toNat:Int)≠127):ej b=true :=by rw [sp]; exact decide_eq_true ⟨h,h1⟩
theorem sn {b:UInt8} (h:¬(32 < (b.toNat:Int)∧(b.toNat:Int)≠127)):ej b=false :=by rw [sp]; exact decide_eq_false h
theorem xn (b:UInt8) (w:ah):
 bj ak 94 (bz [.int .u8 b.toNat]) w (fun v w'=>v= .bool (ej b)∧Wk w w'):=by
 refine enter func94 J ntmps94 J<|aZ 10 J<|gs (t:=5) J (fun A=> ?_) fun A=> ?_;exact ay 7 J<|aM J<|⟨by show bh (decide _)=_; rw [sp]; exact bv (by constructor <;> intro h <;> first | exact ⟨U,h⟩ | exact h.2),Md.refl _ _⟩
 exact ai 3 J<|p aP<|ay 3 J<|aM J<|⟨by show bh false =_; rw [sn U],Md.refl _ _⟩
theorem G4 (s:List UInt8) (w:ah) (ad:s.length≤1048576):
 bj ak 95 (bz [str s]) w (fun v w'=>v= .bool (lk s)∧Wk w w'):=by
 refine enter func95 J ntmps95 J<|aZ 11 J<|gs (t:=6) J (fun E=> ?_) fun E=> ?_;exact ay 14 J<|aM J<|⟨by show bh false =_; unfold lk; rw [decide_eq_false (by rw [E]; simp)],Md.refl _ _⟩
 refine aG 6 J<|cd J (fun aa=> ?_) fun aa=> ?_;exact aH 7 J<|aM J<|⟨by show bh false =_; unfold lk; rw [decide_eq_false U],Md.refl _ _⟩
 refine bR 11 J<|lp (fun L Z V=> ∃ (i:Nat),(i≤s.length∧1≤s.length∧s.length≤64)∧(∀ j,j < i→ej (s.getD j 0)=true)∧(Wk w V)∧(Sl Z [(0,str s),(12,.int .i64 s.length),(13,.int .i64 i)])∧(s.length - i=L)) _ ⟨0,(⟨U,by rcases Bq s.length with h | h <;> first | exact absurd (re.1 h) E | exact h,U⟩),(fun j O=>by omega),(Md.refl _ _),J,J⟩ ?_;rintro L Z V ⟨i,hi,hp,A,ac,rfl⟩;refine bF ac<|bY 6 J<|cd J (fun ab=> ?_) fun ab=> ?_;refine aF 14 J<|p (eL u9 J J U)<|e<|bd (xn (s.getD i 0) _) J ?_;rintro ae ag ⟨rfl,M⟩;refine aG 3 J<|cb J (fun C=> ?_) fun C=> ?_;have I:ej (s.getD i 0)=false :=by simpa using C
 exact aH 8 J<|tr<|bf 2 J<|aM J<|⟨by show bh false =_; unfold lk; rw [ni (i:=i) U I,decide_eq_false (by simp)],Md.trans A M⟩
 have I:ej (s.getD i 0)=true :=by simpa using C
 exact aH 7 J<|tn<|⟨_,U,i+1,U,(fun j O=>by rcases de j i with h | h <;> first | exact hp j h | (rw [show j=i by omega]; exact I)),(Md.trans A M),J,J⟩
 exact aH 2 J<|cy<|bf 8 J<|aM J<|⟨by show bh true =_; unfold lk; rw [oX (fun j O=>hp j U),decide_eq_true ⟨hi.2.1,hi.2.2,J⟩],A⟩
theorem EC (s:List UInt8) (w:ah) (a1:s.length≤1048576):
 bj ak 68 (bz [str s]) w (fun v w'=>v= .tuple #[str (letE s).1,.int .i64 (letE s).2]∧Wk w w'):=by
 refine enter func68 J ntmps68 J<|aZ 8 J<|e<|al HZ fun V aT aV L ap=> ?_;have aI:aw aT.heap V (marksOf []):=by rw [ET]; exact ap
 refine aG 9 J<|cd J (fun am=> ?_) fun am=> ?_;exact aH 8 J<|f2 J J J<|⟨by show lT #[str [],.int .i64 21]=_; unfold letE; rw [if_pos (.inl am)]; rfl,L.md⟩
 refine aF 4 J<|e<|dC HT fun I a8 aX az aJ=>aG 11 J ?_;have aW:=ap.lt;refine lp (fun ao aC O=> ∃ (i:Nat) (A:ag),(i≤s.length)∧(∀ j,j < i→ej (s.getD j 0)=true)∧(aw O.heap V<|marksOf<|lets<|s.take i)∧(Bd 220 5 O I A<|lets<|s.take i)∧(Wk w O)∧(Sl aC [(0,str s),(4,aR V),(5,aR I),(10,.int .i64 s.length),(11,.int .i64 i)])∧(s.length - i=ao)) _ ⟨0,.slice none 0 0,U,(fun j an=>by omega),(az.md.B aI),(Bd.new aJ),(Md.trans L.md az.md),J,J⟩ ?_;rintro ao aC O ⟨i,A,hi,hp,ax,aa,ad,aQ,rfl⟩;refine bF aQ ?_;have aP:=sR<|s.take i;rw [cO] at aP;have aY:=ax.lt;refine bY 6 J<|cd J (fun aO=> ?_) fun aO=> ?_;refine aF 15 J<|p (eL u9 J J U)<|e<|bd (xn (s.getD i 0) _) J ?_;rintro a3 aS ⟨rfl,C⟩;refine aG 3 J<|cb J (fun ae=> ?_) fun ae=> ?_;have M:ej (s.getD i 0)=false :=by simpa using ae
 exact aH 10 J<|tr<|bf 2 J<|f2 J J J<|⟨by show lT #[str [],.int .i64 21]=_; unfold letE; rw [if_pos (.inr<|ni U M)]; rfl,Md.trans ad C⟩
 have M:ej (s.getD i 0)=true :=by simpa using ae
 have aq:Wk w aS:=Md.trans ad C;have Z:=C.B ax;have ac:=aa.md C fun _ _ h=>h;have a2:=C.size;refine aF 6 J<|p (eL u9 J J U)<|p (gf vu J J<|by have :=ku (s.getD i 0); omega)<|p (aA J<|EV Z _)<|aG 3 J<|cb J (fun aj=> ?_) fun aj=> ?_;have E:¬s.getD i 0∈lets (s.take i):=of_decide_eq_false<|by simpa using aj
 refine aF 4 J<|p (eL u9 J J U)<|p (gf vu J J<|by have :=ku (s.getD i 0); omega)<|e<|st vQ J J (J) (Z) (by rw [yg]; have :=ku (s.getD i 0); omega) fun aU ar aE=> ?_;have aN:=EW aE;have aL:Wk w aU:=Md.trans' aq ar fun k aB h=>by omega
 have ab:=ac.md ar fun k aB h=>by have :=ac.pn aB; omega
 refine ai 5 J<|p (eL u9 J J U)<|e<|bd (HM I A (lets<|s.take i) (s.getD i 0) _ ab U) J ?_;rintro a4 a6 ⟨rfl,aD,aK,av,a0⟩;exact ay 7 J<|tn<|⟨_,U,i+1,aD,U,(fun j an=>by rcases de j i with h | h <;> first | exact hp j h | (rw [show j=i by omega]; exact M)),(by rw [j5 U,if_neg E]; exact av.B aN fun h=>by have :=ab.pn h; omega),(by rw [j5 U,if_neg E]; exact aK),(ab.step aL av<|by have :=L.md.size; omega),J,J⟩
 have E:s.getD i 0∈lets (s.take i):=by simpa using aj
 exact aH 7 J<|tn<|⟨_,U,i+1,A,U,(fun j an=>by rcases de j i with h | h <;> first | exact hp j h | (rw [show j=i by omega]; exact M)),(by rw [j5 U,if_pos E]; exact Z),(by rw [j5 U,if_pos E]; exact ac),aq,J,J⟩
 refine aH 2 J<|cy<|iM 4 J<|e<|bd (GM I A (lets<|s.take i) _ aa<|by have :=sR (s.take i); rw [cO] at this; omega) J ?_;rintro a5 a7 ⟨rfl,aM⟩;exact ay 5 J<|f2 J J J<|⟨by show lT #[str (lets<|s.take i),.int .i64 0]=_; unfold letE; rw [if_neg (by rw [oX (fun j an=>hp j U)]; exact fun h=>h.elim am dd),show s.take i=s from oF U]; rfl,aa.GD ad aM<|by have :=L.md.size; omega⟩
end Go.Hb
end
section
namespace Go.Hb
open Go.Hb.ew
def jn (e:Int):List PanicEntry:= [{v:= .iface 35 (.int .i64 e),recovered:=false}]
def FL:Except Nat (Nat×Nat)→Nat
 | .ok (n,_)=>n
 | .error _=>0
def FM:Except Nat (Nat×Nat)→Nat
 | .ok (_,p)=>p
 | .error _=>0
def mO:Except Nat (Nat×Nat)→Nat
 | .ok _=>0
 | .error e=>e
def tE (r:Except Nat (Nat×Nat)):ag:= .tuple #[.int .u64 (FL r:Nat),.int .i64 (FM r:Nat),.int .i64 (mO r:Nat)]
theorem tF {s:List UInt8} {a e:Nat} (h:aU s a= .error e):e=60∨e=61:=by
 unfold aU at h;split at h
 · cases h; exact .inr rfl
 · split at h
   · cases h; exact .inl rfl
   · split at h
     · cases h; exact .inr rfl
     · cases h
theorem FP {s:List UInt8} {a:Nat} (h:((mO (aU s a):Nat):Int)=0):∃ n p,aU s a= .ok (n,p):=by
 cases hX:aU s a with
 | ok x=>exact ⟨x.1,x.2,rfl⟩
 | error e=>
   rw [hX] at h;have :=tF hX;simp only [mO] at h; omega
theorem FO {s:List UInt8} {a:Nat} (h:¬((mO (aU s a):Nat):Int)=0):aU s a= .error (mO<|aU s a):=by
 cases hX:aU s a with
 | ok x=>rw [hX] at h; simp [mO] at h
 | error e=>rfl
theorem zn {s:List UInt8} {a n:Nat} :(s.take<|a+n).drop a=(s.drop a).take n:=by rw [A4,Bp]
theorem xq {s:List UInt8} {a e:Nat} (h:aU s a= .error e):cn s a= .error e:=by unfold cn; rw [h]
theorem xr {s:List UInt8} {a n p:Nat} (h:aU s a= .ok (n,p)) (hn:255 < n):cn s a= .error 62:=by unfold cn; rw [h]; exact if_pos hn
theorem xu {s:List UInt8} {a n p:Nat} (h:aU s a= .ok (n,p)) (hn:¬255 < n) (hp:s.length < p+n):cn s a= .error 60:=by unfold cn; rw [h]; simp only; rw [if_neg hn,if_pos hp]
theorem xw {s:List UInt8} {a n p:Nat} (h:aU s a= .ok (n,p)) (hn:¬255 < n) (hp:¬s.length < p+n):cn s a= .ok ((s.drop p).take n,p+n):=by unfold cn; rw [h]; simp only; rw [if_neg hn,if_neg hp]
theorem BY:∀ r:Fin 256,na.wrap (fS na.bits ((r.val:Nat):Int) &&& fS na.bits 127).toNat=((r.val % 128:Nat):Int):=by decide+kernel
theorem BX (b:UInt8):na.wrap (fS na.bits (b.toNat:Int) &&& fS na.bits 127).toNat=((b.toNat % 128:Nat):Int):=BY ⟨b.toNat,ku b⟩
theorem yD (i:Nat):(128:Nat) ^ i=2 ^ (7 *i):=by rw [Nat.pow_mul]
theorem Gb {x i:Nat} (hi:i≤9):lQ.wrap (((x:Nat):Int)*2 ^ min ((7 *i:Nat):Int).toNat lQ.bits)=((x*128 ^ i % 18446744073709551616:Nat):Int):=by
 have A:(lQ.bits:Nat)=64:=rfl;rw [jJ,A,Nat.min_eq_left U,IntKind.wrap_u64,yD];generalize 7 *i=m;rw [show ((x:Nat):Int)*2 ^ m=((x*2 ^ m:Nat):Int) by simp];omega
theorem Fo {n x i:Nat} (hi:i≤9) (hn:n < 128 ^ i):lQ.wrap (fS lQ.bits (n:Int) ||| fS lQ.bits ((x*128 ^ i % 18446744073709551616:Nat):Int)).toNat=((n+x*128 ^ i % 18446744073709551616:Nat):Int):=by
 have C:(lQ.bits:Nat)=64:=rfl;rw [yD] at hn ⊢;have I:x*2 ^ (7 *i) % 18446744073709551616=2 ^ (7 *i)*(x % 2 ^ (64 - 7 *i)):=by
  rw [show (18446744073709551616:Nat)=2 ^ (7 *i)*2 ^ (64 - 7 *i) by rw [← Nat.pow_add,show 7 *i+(64 - 7 *i)=64 by omega],u6 x,Nat.mul_mod_mul_left]
 rw [I,C,An,An,BitVec.toNat_or,Ao,Ao];have A:x % 2 ^ (64 - 7 *i) < 2 ^ (64 - 7 *i):=Nat.mod_lt _<|Nat.two_pow_pos _;generalize x % 2 ^ (64 - 7 *i)=z at A;have hle:(2:Nat) ^ (7 *i)≤2 ^ 64:=oI aI U;have hmul:2 ^ (7 *i)*z+n < 2 ^ 64:=by
  have E:2 ^ (7 *i)*(z+1)≤2 ^ (7 *i)*2 ^ (64 - 7 *i):=u7 _ A;rw [← Nat.pow_add,show 7 *i+(64 - 7 *i)=64 by omega,Nat.mul_succ] at E;omega
 rw [u5 U,u5 (show 2 ^ (7 *i)*z < 2 ^ 64 by omega),Nat.or_comm,← Nat.two_pow_add_eq_or_of_lt hn,fw U,Nat.add_comm]
theorem pF {s:List UInt8} {a i n:Nat} (hi:i≤9) (ha:a+i < s.length) (hn:n=c8 ((s.drop a).take i)) (hb:i≤8∨(s.getD (a+i) 0).toNat≤1):n+(s.getD (a+i) 0).toNat % 128 *128 ^ i % 18446744073709551616=c8 ((s.drop a).take<|i+1):=by
 have E:((s.drop a).take i).length=i:=by rw [cO,gV]; omega
 have I:(s.drop a)[i]? =some (s.getD (a+i) 0):=by
  rw [List.getElem?_drop,cg,bH U]; rfl
 rw [List.take_add_one,I,Option.toList_some,sQ,E,hn,c8,c8,Nat.mul_zero,iF];congr 1;have hm:(s.getD (a+i) 0).toNat % 128 < 128:=Nat.mod_lt _ aI;have A:i≤8∨(s.getD (a+i) 0).toNat % 128≤1:=hb.imp id fun h=>U;generalize (s.getD (a+i) 0).toNat % 128=x at hm A ⊢;rw [u6,u5];have L:(128:Nat) ^ 9=9223372036854775808:=aI;rcases A with hb | hb
 · have h1:128 ^ i*x < 128 ^ i*128:=Nat.mul_lt_mul_of_pos_left hm<|Nat.pow_pos aI;have J:(128:Nat) ^ i*128=128 ^ (i+1):=rfl;have C:(128:Nat) ^ (i+1)≤128 ^ 9:=oI aI U;omega
 · have C:(128:Nat) ^ i≤128 ^ 9:=oI aI U;have M:128 ^ i*x≤128 ^ i*1:=u7 _ hb;omega
theorem FQ (s:List UInt8) (a:Nat) (w:ah) (ao:s.length≤1048576) (ha:a≤s.length):
 bj ak 66 (bz [str s,aE a]) w (fun v w'=>v=tE (aU s a)∧Wk w w'):=by
 refine enter func66 J ntmps66 J<|aZ 13 J<|gs (t:=11) J (fun h=>absurd h U) fun an=>aG 7 J<|cd J (fun ab=> ?_) fun ab=> ?_;exact aH 9 J<|f3 J J J J<|⟨by rw [qc (k:=0) (iq U (fun j O=>by omega)<|.inr<|.inl U) U U]; rfl,Md.refl _ _⟩
 refine bR 9 J<|lp (fun M Z V=> ∃ (i n:Nat),(i≤10)∧(∀ j,j < i→a+j < s.length∧128≤(s.getD (a+j) 0).toNat)∧(i≤9→n=c8 ((s.drop a).take i))∧(Wk w V)∧(Sl Z [(0,str s),(1,aE a),(4,.int .u64 (n:Nat)),(17,aE i)])∧(10 - i=M)) _ ⟨0,0,U,(fun j O=>by omega),(fun _=>rfl),(Md.refl _ _),J,J⟩ ?_;rintro M Z V ⟨i,n,hi,E,hn,C,am,rfl⟩;refine bF am<|bY 6 J<|cd J (fun ac=> ?_) fun ac=> ?_;refine bR 21 J<|cd J (fun ad=> ?_) fun ad=> ?_;exact aH 11 J<|tr<|bf 2 J<|f3 J J J J<|⟨by rw [qc (k:=i) (iq U E<|.inr<|.inl U) U U]; rfl,C⟩
 refine aF 7 J<|p (cr<|a+i)<|p (eL u9 J J U)<|aG 4 J ?_;have al:n < 128 ^ i:=by
  have h1:=pE<|(s.drop a).take i;rw [← hn U] at h1;have aa:((s.drop a).take i).length=i:=by rw [cO,gV]; omega
  rwa [aa] at h1
 refine aF 3 J<|p (cw J J<|BX _)<|p (fE m5 ui J<|fw U)<|ai 1 J<|p (tc ((7 *i:Nat):Int) J J<|uo U U)<|p (shl J J U<|Gb U)<|p (vz J J<|Fo U al)<|aG 12 J<|cd J (fun ae=> ?_) fun ae=> ?_;have aj:∀ j,j < i+1→a+j < s.length∧128≤(s.getD (a+j) 0).toNat:=fun j O=>by
  rcases de j i with h | h;exact E j h;obtain rfl :j=i:=U;exact ⟨U,U⟩
 exact aF 6 J<|p (cr<|i+1)<|ay 2 J<|tn<|⟨_,U,i+1,n+(s.getD (a+i) 0).toNat % 128 *128 ^ i % 18446744073709551616,U,aj,(fun h=>pF U U (hn U)<|.inl U),C,J,J⟩
 refine aF 6 J<|gs (t:=45) J (fun ag=> ?_) fun ag=> ?_;refine aG 6 J<|cd J (fun I=> ?_) fun I=> ?_;refine bR 2 J<|cd J (fun I=> ?_) fun I=> ?_;refine aH 12 J<|tr<|bf 2 J<|f3 J J J J ?_;have A:=iq (s:=s) (a:=a) (k:=i) U E<|.inr<|.inr U;exact ⟨by rw [mP A U U U]; rfl,C⟩;refine aF 8 J<|p (cr<|a+i)<|p (cr<|a+i+1)<|ay 8 J<|tr<|bf 2 J<|f3 J J J J ?_;exfalso; omega;refine aF 4 J<|gs (t:=51) J (fun L=> ?_) fun L=> ?_;refine aG 6 J<|cd J (fun I=> ?_) fun I=> ?_;refine aH 12 J<|tr<|bf 2 J<|f3 J J J J ?_;have A:=iq (s:=s) (a:=a) (k:=i) U E<|.inr<|.inr U;exact ⟨by rw [mP A U U U]; rfl,C⟩;refine aF 8 J<|p (cr<|a+i)<|p (cr<|a+i+1)<|ay 8 J<|tr<|bf 2 J<|f3 J J J J ?_;have A:=iq (s:=s) (a:=a) (k:=i) U E<|.inr<|.inr U;exact ⟨by rw [qa A U U U,← pF U U (hn U) U]; rfl,C⟩;refine ai 3 J<|p aP<|ai 11 J<|p (cr<|a+i)<|p (cr<|a+i+1)<|ay 8 J<|tr<|bf 2 J<|f3 J J J J ?_;exfalso; omega;refine ai 3 J<|p aP<|ai 7 J<|gs (t:=51) J (fun L=> ?_) fun L=> ?_;refine aG 6 J<|cd J (fun I=> ?_) fun I=> ?_;refine aH 12 J<|tr<|bf 2 J<|f3 J J J J ?_;have A:=iq (s:=s) (a:=a) (k:=i) U E<|.inr<|.inr U;exact ⟨by rw [mP A U U U]; rfl,C⟩;refine aF 8 J<|p (cr<|a+i)<|p (cr<|a+i+1)<|ay 8 J<|tr<|bf 2 J<|f3 J J J J ?_;have A:=iq (s:=s) (a:=a) (k:=i) U E<|.inr<|.inr U;exact ⟨by rw [qa A U U U,← pF U U (hn U) U]; rfl,C⟩;refine ai 3 J<|p aP<|ai 11 J<|p (cr<|a+i)<|p (cr<|a+i+1)<|ay 8 J<|tr<|bf 2 J<|f3 J J J J ?_;have A:=iq (s:=s) (a:=a) (k:=i) U E<|.inr<|.inr U;exact ⟨by rw [qa A U U U,← pF U U (hn U) U]; rfl,C⟩;refine aH 2 J<|cy<|bf 10 J<|f3 J J J J ?_;obtain rfl :i=10:=U;exact ⟨by rw [yU (iq U E<|.inl J)]; rfl,C⟩
theorem iu (C:ag) (b:Bool) (e:Int) (w:ah):
 kA ak 43 (bz [C,.bool b,.int .i64 e]) w (fun v w'=>v=lT #[]∧b=true∧w'=w) (fun c w'=>c=jn e∧b=false∧w'=w):=by
 refine nt func43 J ntmps43 J<|bY 6 J<|cb J (fun A=> ?_) fun A=> ?_;exact aF 2 J<|p (pJ nL J)<|Fq J fun σ' E=>⟨J,by simpa using A,J⟩
 refine aH 1 J<|ny<|f0 J ?_;exact ⟨J,by simpa using A,J⟩
theorem mB (rb:Nat) (s:List UInt8) (a:Nat) (w:ah) (E:aw w.heap rb [str s,.int .i64 (a:Nat)]) (ab:s.length≤1048576) (ha:a≤s.length):
 kA ak 41 (bz [.pointer (some ⟨rb,0,none⟩)]) w (fun v w'=> ∃ n p,aU s a= .ok (n,p)∧v= .int .u64 (n:Nat)∧aw w'.heap rb [str s,.int .i64 (p:Nat)]∧Md (fun k=>k=rb) w w') (fun c w'=> ∃ e,aU s a= .error e∧c=jn e∧Md (fun k=>k=rb) w w'):=by
 refine nt func41 J ntmps41 J<|bY 6 J<|eK fun C=>aK [0,1,2] J C<|cT 3 J C (E.aO 0)<|aK [4,5,6] J C<|cT 7 J C (E.aO 1)<|he 8 J aj<|bd (FQ s a w.drew ab ha) J ?_;rintro ag M ⟨rfl,A⟩;have A:=Md.fK A;have L:(fun w'=>Wk w w') M:=A;refine ⟨L,?_⟩;refine hp 9 J aj (fun _ _=>mv) L<|aK [10,11,12,13,14,15] J L<|hn aj<|iM 7 J<|eP J (dy hH (iu _ _ _ M) J fun al am Z=> ?_) fun c w' I σ' ae=>⟨_,FO (of_decide_eq_false I.2.1),I.1,by rw [I.2.2]; exact A.mono fun _ _ h=>h.elim⟩
 obtain ⟨rfl,ac,rfl⟩:=Z;obtain ⟨n,ad,aa⟩:=FP<|of_decide_eq_true ac;have O:=Wk.B A E;refine ai 8 J<|e<|st dD J J (J) (O) (by simp) fun an V U=>ay 9 J<|ny<|f1 J J ?_;rw [aa] at*;exact ⟨n,ad,J,J,U,Md.trans (A.mono fun _ _ h=>h.elim) V⟩
theorem zF (rb:Nat) (s:List UInt8) (a n:Nat) (w:ah) (I:aw w.heap rb [str s,.int .i64 (a:Nat)]) (am:s.length≤1048576) (ha:a≤s.length) (al:n≤1048576):
 kA ak 67 (bz [.pointer (some ⟨rb,0,none⟩),.int .i64 (n:Nat)]) w (fun v w'=>a+n≤s.length∧v=str ((s.drop a).take n)∧aw w'.heap rb [str s,.int .i64 ((a+n:Nat):Int)]∧Md (fun k=>k=rb) w w') (fun c w'=>s.length < a+n∧c=jn 60∧Md (fun k=>k=rb) w w'):=by
 refine nt func67 J ntmps67 J<|bY 6 J<|eK fun C=>aK [0,1,2,3,4] J C<|cT 5 J C (I.aO 0)<|aK [6,7,8,9] J C<|cT 10 J C (I.aO 1)<|aK [11,12] J C<|DX 13 J aj J (dy hH (iu _ _ _ w.drew) J fun an O ad=> ?_) fun c w' L σ' ag=>⟨by have :=of_decide_eq_false L.2.1; omega,L.1,by rw [L.2.2]; exact (Md.refl _ _).drew⟩
 obtain ⟨rfl,Z,M⟩:=ad;have Z:=of_decide_eq_true Z;have V:aw O.heap rb [str s,.int .i64 (a:Nat)]:=by rw [M]; exact I
 have ab:Md (fun k=>k=rb) w O:=by rw [M]; exact (Md.refl _ _).drew
 have ae:(fun w'=>Wk w w') O:=by rw [M]; exact (Md.refl _ _).drew
 refine ⟨ae,?_⟩;refine hn aj<|iM 6 J<|p (aA J<|V.aO 1)<|ai 1 J<|p (cr<|a+n)<|ai 2 J<|e<|st dD J J (J) (V) (by simp) fun ao ac aa=> ?_;have E:=aa;exact aG 3 J<|eK fun A=>aK [0,1,2] J A<|cT 3 J A (E.aO 0)<|aK [4,5,6] J A<|cT 7 J A (E.aO 1)<|aK [8] J A<|hp 9 J aj (fun _ _=>qf<|a) A<|aK [10,11,12] J A<|cT 13 J A (E.aO 1)<|hp 14 J aj (fun _ _=>qs u9 J J J U) A<|aK [15] J A<|hn aj<|bf 2 J<|ny<|f1 J J<|⟨U,by rw [← zn]; rfl,E,(ab.trans ac).drew⟩
theorem sw (rb:Nat) (s:List UInt8) (a:Nat) (w:ah) (O:aw w.heap rb [str s,.int .i64 (a:Nat)]) (L:s.length≤1048576) (ha:a≤s.length):
 kA ak 42 (bz [.pointer (some ⟨rb,0,none⟩)]) w (fun v w'=> ∃ f p,cn s a= .ok (f,p)∧v=str f∧aw w'.heap rb [str s,.int .i64 (p:Nat)]∧Md (fun k=>k=rb) w w') (fun c w'=> ∃ e,cn s a= .error e∧c=jn e∧Md (fun k=>k=rb) w w'):=by
 refine nt func42 J ntmps42 J<|aZ 8 J<|eP J (dy ma (mB rb s a w O L ha) J fun ar aj ad=> ?_) fun c w' A σ' I=>by obtain ⟨e,he,ag,aa⟩:=A; exact ⟨e,xq he,ag,aa⟩
 obtain ⟨n,q,C,rfl,Z,E⟩:=ad;obtain ⟨am,an,ao⟩:=gO C;refine ai 8 J<|eP J (dy hH (iu _ _ _ aj) J fun av al ae=> ?_) fun c w' A σ' I=>⟨62,xr C (by have :=of_decide_eq_false A.2.1; omega),A.1,by rw [A.2.2]; exact E⟩
 obtain ⟨rfl,M,rfl⟩:=ae;have M:=of_decide_eq_true M;refine ai 6 J<|p (fE u3 ke J<|gQ U)<|eP J (dy vB (zF rb s q n al Z L U U) J fun aq ax ac=> ?_) fun c w' A σ' I=>⟨60,xu C U A.1,A.2.1,E.trans A.2.2⟩
 obtain ⟨ap,rfl,V,ab⟩:=ac;exact ay 4 J<|ny<|f1 J J<|⟨_,_,xw C U U,J,V,E.trans ab⟩
theorem zG {s:List UInt8} {i:Nat} (h:i < s.length):(s.take<|i+1).drop i= [s.getD i 0]:=by
 rw [A4,show i+1 - i=1 by omega,drop_cons 0 h]; rfl
theorem G7 (b:UInt8):lk [b]=ej b:=by
 unfold lk eI;cases h:ej b <;> simp [h]
def fF:List UInt8×List UInt8:=([],[])
def cQ (r:List UInt8×List UInt8):List ag:= [str r.1,str r.2]
theorem yR {h:Array Obj} {a:Option bB} {rs:List (List UInt8×List UInt8)} {i:Nat} (A:bo h a (rs.flatMap cQ)) (hi:i < rs.length):∀ j,j < 2→Hb.av h (bk a) (fo a+i*2 +j)= [str (rs.getD i fF).1,str (rs.getD i fF).2][j]? :=
 fk (f:=cQ) (m:=2) (fun _=>rfl) A (by rw [cg,bH hi]; rfl)
theorem yS {rs:List (List UInt8×List UInt8)} (h:0 < rs.length):rs.flatMap cQ≠[]:=iJ (f:=cQ) (m:=2) (fun _=>rfl) aI h
variable {ls:Nat} {t:List UInt8} {rs:List (List UInt8×List UInt8)}
theorem nT {b:Bool} (h:(!b)=true):b=false :=by cases b; rfl; cases h
theorem mT (h:ls < 1∨64 < ls∨256 < rs.length):dv ls t rs=false :=by
 unfold dv;rw [decide_eq_false U]; rfl
theorem qk (h:t≠[]) (A:letE t≠(t,0)):dv ls t rs=false :=by
 unfold dv;rw [decide_eq_false h,decide_eq_false A]; simp
theorem ka {i:Nat} (h:i < rs.length) (A:fu (rs.getD i fF)=false):dv ls t rs=false :=by
 unfold dv;rw [vj fF h A]; simp
theorem zc (h:¬(ls < 1∨64 < ls∨256 < rs.length)) (A:t= []∨letE t=(t,0)) (C:∀ i,i < rs.length→fu (rs.getD i fF)=true):dv ls t rs=true :=by
 unfold dv;rw [decide_eq_true U,vk fF C];rcases A with A | A <;> simp [A]
theorem ze {r:List UInt8×List UInt8} (h:r.1= []):fu r=false :=by unfold fu; simp [h]
theorem tL {r:List UInt8×List UInt8} (h:(eI r.1 && decide (r.1.length≤32))=false):fu r=false :=by unfold fu; rw [h]; simp
theorem tM {r:List UInt8×List UInt8} (h:(eI r.2 && decide (r.2.length≤32))=false):fu r=false :=by unfold fu; rw [h]; simp
theorem zf {r:List UInt8×List UInt8} (h0:r.1≠[]) (h:(eI r.1 && decide (r.1.length≤32))=true) (A:(eI r.2 && decide (r.2.length≤32))=true):fu r=true :=by unfold fu; rw [h,A,decide_eq_true h0]; rfl
theorem yE (x:List UInt8) (m:Nat) (w:ah) (ac:x.length≤1048576):
 bj ak 69 (bz [str x,aE m]) w (fun v w'=>v= .bool (eI x && decide (x.length≤m))∧Wk w w'):=by
 refine enter func69 J ntmps69 J<|bY 14 J<|lp (fun I Z E=> ∃ (i:Nat),(i≤x.length)∧(∀ j,j < i→ej (x.getD j 0)=true)∧(Wk w E)∧(Sl Z [(0,str x),(1,aE m),(7,aE (x.length)),(8,aE i)])∧(x.length - i=I)) _ ⟨0,U,(fun j O=>by omega),(Md.refl _ _),J,J⟩ ?_;rintro I Z E ⟨i,hi,V,A,ab,rfl⟩;refine bF ab<|bY 6 J<|cd J (fun aa=> ?_) fun aa=> ?_;refine aF 15 J<|p (cr<|i+1)<|p (qs u9 J J J U)<|e<|bd (G4 ((x.take<|i+1).drop i) E<|by rw [zG U]; simp) J fun ad ae M=> ?_;rw [zG U,G7] at M;obtain ⟨rfl,L⟩:=M;refine aG 3 J<|cb J (fun C=> ?_) fun C=> ?_;exact aH 8 J<|tr<|bf 2 J<|aM J<|⟨by rw [ni (i:=i) U (by simpa using C)]; rfl,A.trans L⟩
 exact aF 4 J<|p (cr<|i+1)<|ay 2 J<|tn<|⟨_,U,i+1,U,(fun j O=>by rcases de j i with h | h <;> first | exact V j h | (rw [show j=i by omega]; simpa using C)),(A.trans L),J,J⟩
 exact aH 2 J<|cy<|bf 12 J<|aM J<|⟨by rw [oX (fun j O=>V j U),Bool.true_and]; exact bv U,A⟩
theorem F3 (ls:Nat) (t:List UInt8) (rs:List (List UInt8×List UInt8)) (Z:Option bB) (rc:Nat) (aB v4 aC v6:ag) (w:ah) (aq:bo w.heap Z (rs.flatMap cQ)) (a9:ls≤64) (bc:t.length≤1048576) (ba:rs.length≤1048576) (aY:∀ r∈rs,r.1.length≤1048576∧r.2.length≤1048576):
 bj ak 44 (bz [.agg #[aE ls,str t,.slice Z rs.length rc,aB,v4,aC,v6]]) w (fun v w'=>v= .bool (dv ls t rs)∧Wk w w'):=by
 refine enter func44 J ntmps44 J<|aZ 2 J<|e<|l9 J fun ao a4 a6 O C=>ai 7 J<|p (aA J<|C.aO 0)<|ai 2 J<|gs (t:=10) J (fun aW=> ?_) fun aW=> ?_;exact ai 4 J<|p mv<|ay 15 J<|aM J<|⟨(congrArg bh<|mT (t:=t) (rs:=rs)<|.inl (show ls < 1 by omega)).symm,O.md⟩
 refine ai 1 J<|bp J (aA J<|C.aO 0)<|ai 3 J<|gs (t:=15) J (fun aX=> ?_) fun aX=> ?_;exact ay 15 J<|aM J<|⟨(congrArg bh<|mT (t:=t) (rs:=rs)<|.inr<|.inl (show 64 < ls by omega)).symm,O.md⟩
 refine ai 1 J<|bp J (aA J<|C.aO 2)<|aG 5 J<|cd J (fun aU=> ?_) fun aU=> ?_;exact aH 7 J<|aM J<|⟨(congrArg bh<|mT<|.inr<|.inr (show 256 < rs.length by omega)).symm,O.md⟩
 refine bR 2 J ?_;refine eS (fun aD am=> ∃ (a3:Unit),(t= []∨letE t=(t,0))∧(Wk w am)∧(aw am.heap ao [aE ls,str t,.slice Z rs.length rc,aB,v4,aC,v6])∧(Sl aD [(1,aR ao)])) ?_ ?_;refine aZ 3 J<|p (aA J<|C.aO 1)<|e<|bd (EC t a4 U) J ?_;rintro bg bm ⟨rfl,ar⟩;have I:=O.md.trans ar;have E:=Wk.B ar C;refine p mv<|ai 9 J<|p (aA J<|E.aO 1)<|ai 2 J<|gs (t:=30) J (fun V=> ?_) fun V=> ?_;refine ai 3 J<|gs (t:=33) J (fun ad=> ?_) fun ad=> ?_;exact ai 5 J<|p (nS J)<|ay 9 J<|tr<|aM J<|⟨(congrArg bh<|qk V fun h=>by rw [h] at ad; exact ad J).symm,I⟩
 refine ai 2 J<|bp J (aA J<|E.aO 1)<|aG 5 J<|cd J (fun ab=> ?_) fun ab=> ?_;exact aH 6 J<|tr<|aM J<|⟨(congrArg bh<|qk V fun h=>ab<|by rw [h]).symm,I⟩
 exact aH 1 J<|tn<|⟨(),(.inr<|Prod.ext (oo.1 ab)<|by show (letE t).2=0; omega),I,E,J⟩
 exact ay 13 J<|tn<|⟨(),(.inl<|oo.1 V),I,E,J⟩
 rintro aD am ⟨a3,a2,aQ,aP,a0⟩;refine bF a0<|aF 4 J<|p (aA J<|aP.aO 2)<|aG 5 J<|lp (fun ap aI an=> ∃ (i:Nat),(i≤rs.length)∧(∀ j,j < i→fu (rs.getD j fF)=true)∧(Wk w an)∧(Sl aI [(41,.slice Z rs.length rc),(42,aE (rs.length)),(43,aE i)])∧(rs.length - i=ap)) _ ⟨0,U,(fun j ax=>by omega),aQ,J,J⟩ ?_;rintro ap aI an ⟨i,hi,az,A,a1,rfl⟩;refine bF a1<|bY 6 J<|cd J (fun aV=> ?_) fun aV=> ?_;refine aF 6 J<|p (cC sd J J U<|bo.ok (aq.wk A)<|yS U)<|p (du BL J (J)<|yR (aq.wk A) U)<|e<|dC HW fun aJ bq a7 aT aL=>e<|dx CQ J J J J aL (by simp) fun al aS aN=> ?_;have aa:aw al.heap aJ [str (rs.getD i fF).1,str (rs.getD i fF).2]:=⟨_,aN⟩
 have M:Wk an al:=Md.trans' aT.md aS fun k a8 h=>by omega
 have bb:=aY _<|iL (d:=fF) (show i < rs.length by omega);refine ai 5 J<|p (aA J<|aa.aO 0)<|ai 2 J<|gs (t:=50) J (fun ae=> ?_) fun ae=> ?_;exact ai 5 J<|p mv<|ay 16 J<|tr<|bf 2 J<|aM J<|⟨(congrArg bh<|ka (show i < rs.length by omega)<|ze ae).symm,A.trans M⟩
 refine ai 1 J<|bp J (aA J<|aa.aO 0)<|eg J J J<|bd (yE _ 32 al U) J ?_;rintro bi a5 ⟨rfl,L⟩;have aK:=Wk.B L aa;refine ai 3 J<|gb (t:=56) J (fun aj=> ?_) fun aj=> ?_;exact ay 16 J<|tr<|bf 2 J<|aM J<|⟨(congrArg bh<|ka (show i < rs.length by omega)<|tL<|nT aj).symm,(A.trans M).trans L⟩
 refine ai 1 J<|bp J (aA J<|aK.aO 1)<|eg J J J<|bd (yE _ 32 a5 U) J ?_;rintro bl bn ⟨rfl,av⟩;refine aG 4 J<|cb J (fun ac=> ?_) fun ac=> ?_;exact aH 8 J<|tr<|bf 2 J<|aM J<|⟨(congrArg bh<|ka (show i < rs.length by omega)<|tM<|nT ac).symm,((A.trans M).trans L).trans av⟩
 exact aF 4 J<|p (cr<|i+1)<|ay 2 J<|tn<|⟨_,U,i+1,U,(fun j ax=>by rcases de j i with h | h <;> first | exact az j h | (rw [show j=i by omega]; exact zf ae (by simpa using aj)<|by simpa using ac)),(((A.trans M).trans L).trans av),J,J⟩
 exact aH 2 J<|cy<|bf 8 J<|aM J<|⟨(congrArg bh<|zc U a2 fun j ax=>az j U).symm,A⟩
end Go.Hb
end
section
namespace Go.Hb
open Go.Hb.ew
structure dB (f:Nat→ag) (w:ah) (pA ms:Nat) (aa:Option bB) (n cA nx:Nat) (mk:List Nat):Prop where
 ar:aw w.heap pA [.slice aa n cA,.int .i64 nx,.slice (some ⟨ms,0,none⟩) n n]
 fl:aw w.heap ms (mk.map f)
 ne:pA≠ms
theorem dB.drew {f:Nat→ag} {w:ah} {E ms:Nat} {A:Option bB} {n C nx:Nat} {mk:List Nat} (h:dB f w E ms A n C nx mk):dB f w.drew E ms A n C nx mk:=⟨h.ar,h.fl,h.ne⟩
theorem sY {f:Nat→ag} {mk:List Nat} {i x:Nat} :(mk.map f).set (0 +i*1) (f x)=(mk.set i x).map f:=by rw [List.map_set,b9,Nat.mul_one]
section
variable {a:List aN} {f nx:Nat} {mk:List Nat} {n:Int}
theorem oa (h:n≠nx) (A:¬(0≤n∧n < nx)):vs a (f+1) (nx,mk) n=none:=by
 rw [um h,if_neg (fun e=>A ⟨e.1,e.2.1⟩)]
theorem zR (h:n≠nx) (h0:0≤n) (h1:n < nx):(vs a (f+1) (nx,mk) n).isSome=decide (((mk.getD n.toNat 0:Nat):Int)=2):=by
 rw [um h];by_cases A:mk.getD n.toNat 0=2
 · rw [if_pos ⟨h0,h1,A⟩,decide_eq_true U]; rfl
 · rw [if_neg (fun e=>A e.2.2),decide_eq_false U]; rfl
theorem zS {s:Nat×List Nat} (h:n≠nx) (A:vs a (f+1) (nx,mk) n=some s):s=(nx,mk):=by
 rw [um h] at A;split at A
 · cases A; rfl
 · cases A
end
set_option maxHeartbeats 1000000 in
theorem G5 (f:Nat) (a:List aN) (V:Option bB) (ab E ms:Nat) (w0:ah) (nx:Nat) (mk:List Nat) (n:Int) (w:ah) (bq:dg w0.heap V a) (cw:w0.heap.size≤E) (hm:w0.heap.size≤ms) (a1:Wk w0 w) (I:dB g8 w E ms V a.length ab nx mk) (ct:mk.length=a.length) (cv:nx≤a.length) (cs:a.length < f+nx) (hb:a.length≤1048576) (b2:∀ i,i < a.length→(aC a i).2.length≤1073741824):
 bj ak 93 (bz [aR E,.int .i64 n]) w (fun v w'=>v= .bool (vs a f (nx,mk) n).isSome∧Md (fun q=>q=E∨q=ms) w w'∧∀ s,vs a f (nx,mk) n=some s→dB g8 w' E ms V a.length ab s.1 s.2):=by
 induction f generalizing nx mk n w with
 | zero=>omega
 | succ f ih=>
   have a3:∀ k,k < w0.heap.size→(k=E∨k=ms)→False:=fun k h1 cj=>U;have cx:=I.ar.lt;have cu:=I.fl.lt;have an:=I.ne;obtain ⟨ci,bZ⟩:=I.ar;refine enter func93 J ntmps93 J<|aZ 12 J<|p (aA J<|I.ar.av 1)<|aG 3 J<|cd J (fun aq=> ?_) fun aq=> ?_;refine aF 5 J<|gs (t:=16) J (fun b4=> ?_) fun b4=> ?_;refine ai 4 J<|bp J (aA J<|I.ar.av 1)<|ai 3 J<|gs (t:=24) J (fun b5=> ?_) fun b5=> ?_;refine ai 3 J<|bp J (aA J<|I.ar.av 2)<|ai 1 J<|bp J (ia pc J J U)<|bp J (aA J (show _=some (aW .u8 ((mk.getD n.toNat 0:Nat):Int)) from vy I.fl (i:=n.toNat) U))<|ay 7 J<|aM J ?_;refine ⟨congrArg bh (zR aq U U).symm,Md.refl _ _,fun s A=>by rw [zS aq A]; exact I⟩;refine ai 9 J<|p aP<|ay 4 J<|aM J ?_;rw [oa aq U];exact ⟨J,Md.refl _ _,fun s A=>by cases A⟩;refine ai 7 J<|p mv<|ai 9 J<|p aP<|ay 4 J<|aM J ?_;rw [oa aq U];exact ⟨J,Md.refl _ _,fun s A=>by cases A⟩;obtain rfl :n=(nx:Int):=oo.1 aq;refine aF 9 J<|p (aA J<|I.ar.av 0)<|aG 4 J<|cd J (fun b0=> ?_) fun b0=> ?_;refine aH 7 J<|aM J ?_;rw [zX rfl U];exact ⟨J,Md.refl _ _,fun s A=>by cases A⟩;refine aF 7 J<|p (aA J<|I.ar.av 1)<|p (cr<|nx+1)<|ai 2 J<|e<|dZ dD J J J bZ (by simp) fun cf bw bK=> ?_;have bt:aw cf.heap E [.slice V a.length ab,.int .i64 ((nx+1:Nat):Int),.slice (some ⟨ms,0,none⟩) a.length a.length]:=⟨_,bK⟩
   have b9:=bw.B I.fl fun e=>an e.symm;obtain ⟨em,bW⟩:=b9;refine ai 7 J<|p (aA J<|bt.av 2)<|ai 1 J<|p (ia pc J J U)<|e<|dZ vR J J J bW (by simp; omega) fun aQ bx bL=> ?_;have ca:aw aQ.heap ms ((mk.set nx 1).map g8):=by rw [← sY]; exact ⟨_,bL⟩
   have a4:dB g8 aQ E ms V a.length ab (nx+1) (mk.set nx 1):=⟨bx.B bt an,ca,an⟩
   have a8:Md (fun q=>q=E∨q=ms) w aQ:=Md.trans (bw.mono fun k _ h=> .inl h)<|bx.mono fun k _ h=> .inr h;have a2:Wk w0 aQ:=Md.trans' a1 a8 a3;obtain ⟨ae,ag,bD,aD⟩:=bq.two (i:=nx) U;have cm:=aD.wk a2;refine ai 7 J<|p (aA J<|a4.ar.av 0)<|ai 1 J<|p (cC kM J J U<|bq.ok U)<|p (du rF J (J)<|fR a2 bD)<|e<|dC uA fun ad cA cp bU bN=>e<|dx rW J J J J bN (by simp) fun bn bS bO=> ?_;have bu:aw bn.heap ad [bh (aC a nx).1,.slice ae (aC a nx).2.length ag]:=⟨_,bO⟩
   have aT:Wk aQ bn:=Md.trans' bU.md bS fun k bA h=>by omega
   have bP:dB g8 bn E ms V a.length ab (nx+1) (mk.set nx 1):=⟨aT.B a4.ar,aT.B a4.fl,an⟩
   have ck:=a8.size;refine ai 6 J<|p (aA J<|bu.av 1)<|aG 5 J<|lp (fun bo bC ax=> ∃ (k O:Nat) (L:List Nat),(k≤(aC a nx).2.length)∧(eB a f (nx+1) (mk.set nx 1) ((aC a nx).2.take k)=some (O,L))∧(fC<|(aC a nx).2.take k)∧(Wk w0 ax)∧(Md (fun q=>q=E∨q=ms) w ax)∧(dB g8 ax E ms V a.length ab O L)∧(aw (ax).heap ad [bh (aC a nx).1,.slice ae (aC a nx).2.length ag])∧(Sl bC [(0,aR E),(1,.int .i64 (nx:Int)),(5,aR ad),(62,.slice ae (aC a nx).2.length ag),(63,.int .i64 (aC a nx).2.length),(64,.int .i64 k)])∧((aC a nx).2.length - k=bo)) _ ⟨0,nx+1,mk.set nx 1,U,J,List.Pairwise.nil,(Md.trans a2 aT),(Md.trans' a8 aT fun k _ h=>h.elim),bP,bu,J,J⟩ ?_;rintro bo bC ax ⟨k,O,L,bA,ac,aY,aU,a6,aE,ap,cc,rfl⟩;refine bF cc<|bY 6 J<|cd J (fun b1=> ?_) fun b1=> ?_;refine bR 5 J ?_;have cq:=b2 nx U;obtain ⟨⟨c,z⟩,hek⟩:∃ e,(aC a nx).2[k]? =some e:=⟨_,bH U⟩
   obtain ⟨⟨aS,cg⟩,hep⟩:∃ e,(aC a nx).2[k - 1]? =some e:=⟨_,bH U⟩
   have bb:=qG ac U;simp only [jc] at bb;refine aF 2 J<|p (cC nu J J U<|aD.ok U)<|p (du rG J (J)<|fR aU<|aD.two hek)<|e<|dC Ab fun az cz co bT bE=>ai 1 J<|e<|dx vT J J J J bE (by simp) fun aO bQ bI=> ?_;have a0:aw aO.heap az [aW .u8 c.toNat,.int .i64 z]:=⟨_,bI⟩
   have M:Wk ax aO:=Md.trans' bT.md bQ fun k bA h=>by omega
   have bv:dB g8 aO E ms V a.length ab O L:=⟨M.B aE.ar,M.B aE.fl,an⟩
   have a7:Md (fun q=>q=E∨q=ms) w aO:=Md.trans' a6 M fun k _ h=>h.elim;have cn:=a6.size;refine aG 3 J ?_;have C:(fun w'=>Wk w0 w'∧aw w'.heap ad [bh (aC a nx).1,.slice ae (aC a nx).2.length ag]∧aw w'.heap az [aW .u8 c.toNat,.int .i64 z]) aO.drew:=⟨(Md.trans aU M).drew,M.B ap,a0⟩
   refine a9 (fun w'=>Wk w0 w'∧aw w'.heap ad [bh (aC a nx).1,.slice ae (aC a nx).2.length ag]∧aw w'.heap az [aW .u8 c.toNat,.int .i64 z]) J wide C<|aK [0,1,2] J C<|nC (t:=71) J (fun b6=> ?_) fun b6=> ?_;refine aK [3] J C<|dj 4 J (fun w' aa=>aA J<|aa.2.1.av 1) C<|aK [5] J C<|dj 6 J (fun _ _=>qf<|k - 1) C<|dj 7 J (fun _ _=>cC nu J J U<|aD.ok U) C<|aK [8] J C<|dj 9 J (fun w' aa=>aA J (show _=some (aW .u8 (aS.toNat:Int)) from (aD.wk aa.1).b (k - 1) (aS,cg) hep)) C<|aK [10] J C<|dj 11 J (fun w' aa=>aA J<|aa.2.2.av 0) C<|aK [12,13,14] J C<|nC (t:=83) J (fun b7=> ?_) fun b7=> ?_;refine aK [15,16,17,18,19,20] J C<|hn aj<|bf 10 J<|tr<|bf 2 J<|aM J ?_;rw [zW U (yo U hek hep<|by show c.toNat≤aS.toNat; omega)];exact ⟨J,a7.drew,fun s A=>by cases A⟩;refine aK [15,16] J C<|dj 17 J (fun w' aa=>aA J<|aa.2.2.av 1) C<|xD 18 J aj J J J<|bd (ih O L z _ (Md.trans aU M).drew (dB.drew bv) U U U) J ?_;rintro ce ao ⟨rfl,Z,bi⟩;have al:Md (fun q=>q=E∨q=ms) w ao:=Md.trans a7<|Md.fK Z;have aB:Wk w0 ao:=Md.trans' a1 al a3;have aI:(fun w'=>Wk w0 w'∧aw w'.heap ad [bh (aC a nx).1,.slice ae (aC a nx).2.length ag]∧aw w'.heap az [aW .u8 c.toNat,.int .i64 z]) ao:=⟨aB,Z.B (M.B ap) (fun e=>by omega),Z.B a0 fun e=>by omega⟩
   refine ⟨aI,?_⟩;refine aK [19,20] J aI<|hn aj<|dU 1 J<|cb J (fun am=> ?_) fun am=> ?_;have bc:vs a f (O,L) z=none:=by simpa using am
   refine aH 8 J<|tr<|bf 2 J<|aM J ?_;rw [qF (k:=k+1) U (by rw [kf ac hek]; exact bc)];exact ⟨J,al,fun s A=>by cases A⟩;obtain ⟨aL,aJ⟩:∃ s,vs a f (O,L) z=some s:=ks.1<|by simpa using am
   exact aH 7 J<|tn<|⟨_,U,k+1,aL.1,aL.2,U,(by rw [kf ac hek]; exact aJ),(pY aY hek fun q h0 bg=>by rw [hep] at bg; cases bg; show aS.toNat < c.toNat; omega),aB,al,(bi _ aJ),(Z.B (M.B ap) fun e=>by omega),J,J⟩
   refine aK [3,4,5,6,7,8,9,10,11,12,13] J C<|bV 14 J (mv) C<|aK [15,16] J C<|dj 17 J (fun w' aa=>aA J<|aa.2.2.av 1) C<|xD 18 J aj J J J<|bd (ih O L z _ (Md.trans aU M).drew (dB.drew bv) U U U) J ?_;rintro ce ao ⟨rfl,Z,bi⟩;have al:Md (fun q=>q=E∨q=ms) w ao:=Md.trans a7<|Md.fK Z;have aB:Wk w0 ao:=Md.trans' a1 al a3;have aI:(fun w'=>Wk w0 w'∧aw w'.heap ad [bh (aC a nx).1,.slice ae (aC a nx).2.length ag]∧aw w'.heap az [aW .u8 c.toNat,.int .i64 z]) ao:=⟨aB,Z.B (M.B ap) (fun e=>by omega),Z.B a0 fun e=>by omega⟩
   refine ⟨aI,?_⟩;refine aK [19,20] J aI<|hn aj<|dU 1 J<|cb J (fun am=> ?_) fun am=> ?_;have bc:vs a f (O,L) z=none:=by simpa using am
   refine aH 8 J<|tr<|bf 2 J<|aM J ?_;rw [qF (k:=k+1) U (by rw [kf ac hek]; exact bc)];exact ⟨J,al,fun s A=>by cases A⟩;obtain ⟨aL,aJ⟩:∃ s,vs a f (O,L) z=some s:=ks.1<|by simpa using am
   exact aH 7 J<|tn<|⟨_,U,k+1,aL.1,aL.2,U,(by rw [kf ac hek]; exact aJ),(pY aY hek fun q h0 bg=>by omega),aB,al,(bi _ aJ),(Z.B (M.B ap) fun e=>by omega),J,J⟩
   refine aH 2 J<|cy<|dU 3 J ?_;obtain ⟨ch,bX⟩:=aE.fl;rw [show k=(aC a nx).2.length by omega,Bo] at ac aY;have bb:=qG ac U;simp only [jc] at bb;have bl:=zT U aY ac;refine aF 4 J<|p (aA J<|aE.ar.av 2)<|ai 1 J<|p (ia pc J J U)<|e<|dZ vR J J J bX (by simp; omega) fun bm a5 bJ=> ?_;have b8:aw bm.heap ms ((L.set nx 2).map g8):=by rw [← sY]; exact ⟨_,bJ⟩
   have aV:dB g8 bm E ms V a.length ab O (L.set nx 2):=⟨a5.B aE.ar an,b8,an⟩
   have aX:Md (fun q=>q=E∨q=ms) w bm:=Md.trans a6<|a5.mono fun k _ h=> .inr h;have br:=a5.B ap fun e=>by omega
   refine ai 5 J<|p (aA J<|br.av 1)<|ai 3 J<|gs (t:=101) J (fun b3=> ?_) fun b3=> ?_;refine ai 3 J<|p mv<|ai 7 J<|p aP<|ay 3 J<|aM J ?_;rw [bl,if_pos (xV U)];exact ⟨J,aX,fun s A=>by cases A; exact aV⟩;refine ai 1 J<|bp J (aA J<|br.av 0)<|ai 2 J<|gb (t:=105) J (fun ba=> ?_) fun ba=> ?_;refine ai 7 J<|p aP<|ay 3 J<|aM J ?_;rw [bl,if_pos (xU ba)];exact ⟨J,aX,fun s A=>by cases A; exact aV⟩;refine ai 3 J<|bp J (aA J<|aV.ar.av 0)<|ay 7 J<|aM J ?_;rw [bl,sP U ba];by_cases h1:a.length=1;rw [if_pos (decide_eq_true h1)];exact ⟨congrArg bh (decide_eq_true U),aX,fun s A=>by cases A; exact aV⟩;rw [if_neg (by simpa using h1)];exact ⟨congrArg bh (decide_eq_false U),aX,fun s A=>by cases A⟩
def n4 (a:List aN):Int:=if shaped a=true then 0 else 190
theorem iV {a:List aN} (h:shaped a=false):n4 a=190:=if_neg<|by rw [h]; exact dd
theorem qn {a:List aN} (h:shaped a=true):n4 a=0:=if_pos h
def g9 (x:Nat):ag:= .bool<|decide (x=2)
theorem ER {mk:List Nat} {i:Nat} (h:mk.getD i 0=0):(mk.set i 1).map g9=mk.map g9:=by
 refine List.ext_getElem? fun j=> ?_;rw [jM,jM,List.getElem?_set];by_cases e:i=j
 · subst e;rw [if_pos rfl];by_cases A:i < mk.length
   · rw [if_pos A,bH A];rw [cg,bH A] at h;have h0:mk[i]=0:=h;rw [h0]; rfl
   · rw [if_neg A,List.getElem?_eq_none U]
 · rw [if_neg e]
theorem HS (n:Nat):∀ i,0≤i→(dq n 0).getD i 0=0:=fun i _=>by
 rw [cg,List.getElem?_replicate]; split <;> rfl
set_option maxHeartbeats 1000000 in
theorem F8 (a:List aN) (A:Option bB) (E:Nat) (w:ah) (ad:dg w.heap A a) (aD:a.length≤140737488355328) (ap:∀ i,i < a.length→(aC a i).2.length≤1073741824):
 bj ak 62 (bz [.slice A a.length E]) w (fun v w'=>v= .int .i64 (n4 a)∧Wk w w'):=by
 refine enter func62 J ntmps62 J<|aZ 12 J<|gs (t:=7) J (fun aq=> ?_) fun aq=> ?_;exact ay 14 J<|aM J<|⟨iv (iV<|qo U).symm,Md.refl _ _⟩
 refine aG 6 J<|cd J (fun an=> ?_) fun an=> ?_;exact aH 7 J<|aM J<|⟨iv (iV<|qo U).symm,Md.refl _ _⟩
 refine aF 7 J<|e<|fl (zv:= .int .u8 0) kd J J J J U (by unfold maxLen; omega) fun C aB aI M ax=> ?_;have ag:aw aB.heap C ((dq a.length 0).map g8):=by rw [Be]; exact yA<|ax _<|aY _
 refine p (dJ (ps:= [(0,.slice A a.length E),(2,.slice (some ⟨C,0,none⟩) a.length a.length)]) (L:= [.slice A a.length E,.int .i64 0,.slice (some ⟨C,0,none⟩) a.length a.length]) Gm J<|J)<|e<|l9 J fun Z ac aE ab ae=> ?_;have al:dB g8 ac Z C A a.length E 0 (dq a.length 0):=⟨ae,ab.md.B ag,by have :=M.size; omega⟩
 have aa:Wk w ac:=Md.trans M.md ab.md;have aK:=M.md.size;refine ai 7 J<|e<|bd (G5 (a.length+1) a A E Z C w 0 (dq a.length 0) 0 _ ad U U aa al (by simp) U U U ap) J ?_;rintro aO az ⟨rfl,am,a9⟩;have I:Wk w az:=Md.trans' aa am fun k aJ h=>by omega
 refine ai 2 J<|gb (t:=21) J (fun O=> ?_) fun O=> ?_;have hn:vs a (a.length+1) (0,dq a.length 0) 0=none:=by simpa using O
 exact ay 18 J<|aM J<|⟨iv (iV<|zj hn).symm,I⟩
 obtain ⟨aL,V⟩:∃ s,vs a (a.length+1) (0,dq a.length 0) 0=some s:=ks.1<|by simpa using O
 have aj:=a9 _ V;refine ai 3 J<|bp J (aA J<|aj.ar.av 1)<|aG 6 J<|cd J (fun ao=> ?_) fun ao=> ?_;exact aH 7 J<|aM J<|⟨iv (iV<|by rw [qp U U V]; exact decide_eq_false U).symm,I⟩
 exact aH 8 J<|aM J<|⟨iv (qn<|by rw [qp U U V]; exact decide_eq_true U).symm,I⟩
set_option maxHeartbeats 1000000 in
theorem G6 (f:Nat) (a:List aN) (Z:Option bB) (ae A ms:Nat) (w0:ah) (nx:Nat) (mk:List Nat) (n:Int) (w:ah) (a7:dg w0.heap Z a) (cg:w0.heap.size≤A) (hm:w0.heap.size≤ms) (aT:Wk w0 w) (I:dB g9 w A ms Z a.length ae nx mk) (cc:mk.length=a.length) (cf:nx≤a.length) (ca:a.length < f+nx) (hb:a.length≤1048576) (bO:∀ i,i < a.length→(aC a i).2.length≤1073741824) (bi:∀ i,nx≤i→mk.getD i 0=0):
 bj ak 70 (bz [aR A,.int .i64 n]) w (fun v w'=>v= .bool (vs a f (nx,mk) n).isSome∧Md (fun q=>q=A∨q=ms) w w'∧∀ s,vs a f (nx,mk) n=some s→dB g9 w' A ms Z a.length ae s.1 s.2):=by
 induction f generalizing nx mk n w with
 | zero=>omega
 | succ f ih=>
   have aV:∀ k,k < w0.heap.size→(k=A∨k=ms)→False:=fun k h1 b6=>U;have ch:=I.ar.lt;have ce:=I.fl.lt;have ap:=I.ne;obtain ⟨b5,bE⟩:=I.ar;refine enter func70 J ntmps70 J<|aZ 11 J<|gs (t:=10) J (fun bP=> ?_) fun bP=> ?_;refine ai 8 J<|p mv<|ay 17 J<|aM J ?_;rw [oa U U];exact ⟨J,Md.refl _ _,fun s E=>by cases E⟩;refine ai 4 J<|bp J (aA J<|I.ar.av 0)<|ai 4 J<|gs (t:=19) J (fun bQ=> ?_) fun bQ=> ?_;refine ay 17 J<|aM J ?_;have bZ:vs a (f+1) (nx,mk) n=none:=by
    by_cases h:n=nx;exact zX h U;exact oa h U
   rw [bZ];exact ⟨J,Md.refl _ _,fun s E=>by cases E⟩;refine ai 4 J<|bp J (aA J<|I.ar.av 1)<|aG 4 J<|cd J (fun bI=> ?_) fun bI=> ?_;refine aH 7 J<|aM J ?_;rw [oa U U];exact ⟨J,Md.refl _ _,fun s E=>by cases E⟩;refine aF 9 J<|p (aA J<|I.ar.av 1)<|aG 3 J<|cd J (fun bJ=> ?_) fun bJ=> ?_;exact aF 5 J<|p (aA J<|I.ar.av 2)<|ai 1 J<|p (ia xf J J U)<|p (aA J (show _=some (bh<|decide (mk.getD n.toNat 0=2)) from vy I.fl (i:=n.toNat) U))<|ay 5 J<|aM J<|⟨congrArg bh ((zR U U U).trans<|by rw [decide_eq_decide]; omega).symm,Md.refl _ _,fun s E=>by rw [zS U E]; exact I⟩
   obtain rfl :n=(nx:Int):=U;refine aF 8 J<|p (aA J<|I.ar.av 1)<|p (cr<|nx+1)<|ai 2 J<|e<|dZ dD J J J bE (by simp) fun aQ bc bt=> ?_;have aX:dB g9 aQ A ms Z a.length ae (nx+1) (mk.set nx 1):=⟨⟨_,bt⟩,by rw [ER (bi nx<|aY _)]; exact bc.B I.fl (fun e=>ap e.symm),ap⟩
   have a0:Md (fun q=>q=A∨q=ms) w aQ:=bc.mono fun k _ h=> .inl h;have a8:Wk w0 aQ:=Md.trans' aT a0 aV;obtain ⟨aE,aI,bq,V⟩:=a7.two (i:=nx) U;refine ai 7 J<|p (aA J<|aX.ar.av 0)<|ai 1 J<|p (cC j0 J J U<|a7.ok U)<|p (du rH J (J)<|fR a8 bq)<|e<|dC uB fun ad ci b8 bC bu=>e<|dx rX J J J J bu (by simp) fun aB bx bv=> ?_;have aS:aw aB.heap ad [bh (aC a nx).1,.slice aE (aC a nx).2.length aI]:=⟨_,bv⟩
   have aJ:Wk aQ aB:=Md.trans' bC.md bx fun k bU h=>by omega
   have ba:dB g9 aB A ms Z a.length ae (nx+1) (mk.set nx 1):=⟨aJ.B aX.ar,aJ.B aX.fl,ap⟩
   have b7:=a0.size;have bg:Md (fun q=>q=A∨q=ms) w aB:=Md.trans' a0 aJ fun k _ h=>h.elim;refine aG 2 J ?_;refine eS (fun bn bm=>(fO a (aC a nx)=true)∧(bm=aB)∧(Sl bn [(0,aR A),(1,.int .i64 (nx:Int)),(5,aR ad)])) ?_ ?_;refine aZ 3 J<|p (aA J<|aS.av 1)<|ai 3 J<|gs (t:=59) J (fun bS=> ?_) fun bS=> ?_;refine ai 1 J<|bp J (aA J<|aS.av 0)<|ai 3 J<|gb (t:=64) J (fun aO=> ?_) fun aO=> ?_;refine ai 3 J<|bp J (aA J<|ba.ar.av 0)<|aG 5 J<|cd J (fun bK=> ?_) fun bK=> ?_;refine aH 6 J<|tr<|aM J ?_;rw [G8 U (by rw [sP U (by simpa using aO)]; exact decide_eq_false U)];exact ⟨J,bg,fun s E=>by cases E⟩;exact aH 1 J<|tn<|⟨(by rw [sP U (by simpa using aO)]; exact decide_eq_true U),J,J⟩
   exact ay 11 J<|tn<|⟨(xU<|by simpa using aO),J,J⟩
   exact ai 4 J<|p mv<|ay 11 J<|tn<|⟨(xV U),J,J⟩
   rintro bn bm ⟨bV,b1,bX⟩;refine bF bX ?_;subst b1;refine bR 7 J<|lp (fun a6 bo al=> ∃ (k M:Nat) (L:List Nat),(k≤(aC a nx).2.length)∧(eB a f (nx+1) (mk.set nx 1) ((aC a nx).2.take k)=some (M,L))∧(fC<|(aC a nx).2.take k)∧(Wk w0 al)∧(Md (fun q=>q=A∨q=ms) w al)∧(dB g9 al A ms Z a.length ae M L)∧(aw (al).heap ad [bh (aC a nx).1,.slice aE (aC a nx).2.length aI])∧(Sl bo [(0,aR A),(1,.int .i64 (nx:Int)),(5,aR ad),(6,.int .i64 k)])∧((aC a nx).2.length - k=a6)) _ ⟨0,nx+1,mk.set nx 1,U,J,List.Pairwise.nil,(Md.trans a8 aJ),bg,ba,aS,J,J⟩ ?_;rintro a6 bo al ⟨k,M,L,bU,O,aP,am,aL,an,ag,bY,rfl⟩;refine bF bY<|aZ 5 J<|p (aA J<|ag.av 1)<|aG 4 J<|cd J (fun bL=> ?_) fun bL=> ?_;refine bR 6 J ?_;have b9:=bO nx U;obtain ⟨⟨c,z⟩,hek⟩:∃ e,(aC a nx).2[k]? =some e:=⟨_,bH U⟩
   obtain ⟨⟨aD,b3⟩,hep⟩:∃ e,(aC a nx).2[k - 1]? =some e:=⟨_,bH U⟩
   have a1:=qG O U;simp only [jc] at a1;have bl:=He O fun i hi=>by rw [getD_set_ne _ _ U]; exact bi i U
   have C:(fun w'=>Wk w0 w'∧aw w'.heap ad [bh (aC a nx).1,.slice aE (aC a nx).2.length aI]) al.drew:=⟨am.drew,ag⟩
   refine a9 (fun w'=>Wk w0 w'∧aw w'.heap ad [bh (aC a nx).1,.slice aE (aC a nx).2.length aI]) J wide C<|aK [0,1,2] J C<|nC (t:=81) J (fun bT=> ?_) fun bT=> ?_;refine aK [3] J C<|dj 4 J (fun w' ab=>aA J<|ab.2.av 1) C<|aK [5] J C<|dj 6 J (fun _ _=>cC mu J J U<|V.ok U) C<|aK [7] J C<|dj 8 J (fun w' ab=>aA J (show _=some (aW .u8 (c.toNat:Int)) from (V.wk ab.1).b k (c,z) hek)) C<|aK [9] J C<|dj 10 J (fun w' ab=>aA J<|ab.2.av 1) C<|aK [11] J C<|dj 12 J (fun _ _=>qf<|k - 1) C<|dj 13 J (fun _ _=>cC mu J J U<|V.ok U) C<|aK [14] J C<|dj 15 J (fun w' ab=>aA J (show _=some (aW .u8 (aD.toNat:Int)) from (V.wk ab.1).b (k - 1) (aD,b3) hep)) C<|aK [16,17] J C<|hn aj<|dU 1 J<|cd J (fun bN=> ?_) fun bN=> ?_;refine aH 9 J<|tr<|bf 2 J<|aM J ?_;rw [zW U (yo U hek hep<|by show c.toNat≤aD.toNat; omega)];exact ⟨J,aL.drew,fun s E=>by cases E⟩;refine aF 6 J<|p (aA J<|ag.av 1)<|ai 1 J<|p (cC mu J J U<|V.ok U)<|ai 1 J<|p (aA J (show _=some (aW .i64 z) from (V.wk am).to k (c,z) hek))<|e<|bd (ih M L z _ (Md.drew am) (dB.drew an) U U U bl) J ?_;rintro b2 az ⟨rfl,ao,a4⟩;have aa:Md (fun q=>q=A∨q=ms) w az:=Md.trans aL<|Md.fK ao;have aU:Wk w0 az:=Md.trans' aT aa aV;refine aG 9 J<|cb J (fun ac=> ?_) fun ac=> ?_;have a2:vs a f (M,L) z=none:=by simpa using ac
   refine aH 8 J<|tr<|bf 2 J<|aM J ?_;rw [qF (k:=k+1) U (by rw [kf O hek]; exact a2)];exact ⟨J,aa,fun s E=>by cases E⟩;obtain ⟨ax,aq⟩:∃ s,vs a f (M,L) z=some s:=ks.1<|by simpa using ac
   exact aH 8 J<|tn<|⟨_,U,k+1,ax.1,ax.2,U,(by rw [kf O hek]; exact aq),(pY aP hek fun q h0 a3=>by rw [hep] at a3; cases a3; show aD.toNat < c.toNat; omega),aU,aa,(a4 _ aq),(ao.B ag fun e=>by omega),J,J⟩
   refine aK [3,4,5,6,7,8,9,10,11,12,13,14,15,16,17] J C<|hn aj<|iM 8 J<|p (aA J<|ag.av 1)<|ai 1 J<|p (cC mu J J U<|V.ok U)<|ai 1 J<|p (aA J (show _=some (aW .i64 z) from (V.wk am).to k (c,z) hek))<|e<|bd (ih M L z _ (Md.drew am) (dB.drew an) U U U bl) J ?_;rintro b2 az ⟨rfl,ao,a4⟩;have aa:Md (fun q=>q=A∨q=ms) w az:=Md.trans aL<|Md.fK ao;have aU:Wk w0 az:=Md.trans' aT aa aV;refine aG 9 J<|cb J (fun ac=> ?_) fun ac=> ?_;have a2:vs a f (M,L) z=none:=by simpa using ac
   refine aH 8 J<|tr<|bf 2 J<|aM J ?_;rw [qF (k:=k+1) U (by rw [kf O hek]; exact a2)];exact ⟨J,aa,fun s E=>by cases E⟩;obtain ⟨ax,aq⟩:∃ s,vs a f (M,L) z=some s:=ks.1<|by simpa using ac
   exact aH 8 J<|tn<|⟨_,U,k+1,ax.1,ax.2,U,(by rw [kf O hek]; exact aq),(pY aP hek fun q h0 a3=>by omega),aU,aa,(a4 _ aq),(ao.B ag fun e=>by omega),J,J⟩
   refine aH 2 J<|cy<|dU 3 J ?_;obtain ⟨b4,bD⟩:=an.fl;rw [show k=(aC a nx).2.length by omega,Bo] at O aP;have a1:=qG O U;simp only [jc] at a1;have b0:=zT U aP O;refine aF 4 J<|p (aA J<|an.ar.av 2)<|ai 1 J<|p (ia xf J J U)<|e<|dZ vQ J J J bD (by simp; omega) fun a5 bb br=> ?_;have bW:aw a5.heap ms ((L.set nx 2).map g9):=by rw [← sY]; exact ⟨_,br⟩
   have bw:dB g9 a5 A ms Z a.length ae M (L.set nx 2):=⟨bb.B an.ar ap,bW,ap⟩
   have bA:Md (fun q=>q=A∨q=ms) w a5:=Md.trans aL<|bb.mono fun k _ h=> .inr h;refine ay 8 J<|aM J ?_;rw [b0,if_pos bV];exact ⟨J,bA,fun s E=>by cases E; exact bw⟩
set_option maxHeartbeats 1000000 in
theorem F9 (a:List aN) (A:Option bB) (E:Nat) (w:ah) (ad:dg w.heap A a) (aD:a.length≤140737488355328) (ap:∀ i,i < a.length→(aC a i).2.length≤1073741824):
 bj ak 50 (bz [.slice A a.length E]) w (fun v w'=>v= .int .i64 (n4 a)∧Wk w w'):=by
 refine enter func50 J ntmps50 J<|aZ 12 J<|gs (t:=8) J (fun aq=> ?_) fun aq=> ?_;exact ay 14 J<|aM J<|⟨iv (iV<|qo U).symm,Md.refl _ _⟩
 refine aG 6 J<|cd J (fun an=> ?_) fun an=> ?_;exact aH 7 J<|aM J<|⟨iv (iV<|qo U).symm,Md.refl _ _⟩
 refine aF 7 J<|e<|fl (zv:= .bool false) Gh J J J J U (by unfold maxLen; omega) fun C aB aI M ax=> ?_;have ag:aw aB.heap C ((dq a.length 0).map g9):=by rw [Be]; exact yA<|ax _<|aY _
 refine p (dJ (ps:= [(0,.slice A a.length E),(2,.slice (some ⟨C,0,none⟩) a.length a.length)]) (L:= [.slice A a.length E,.int .i64 0,.slice (some ⟨C,0,none⟩) a.length a.length]) Gl J<|J)<|e<|l9 J fun Z ac aE ab ae=> ?_;have al:dB g9 ac Z C A a.length E 0 (dq a.length 0):=⟨ae,ab.md.B ag,by have :=M.size; omega⟩
 have aa:Wk w ac:=Md.trans M.md ab.md;have aK:=M.md.size;refine ai 6 J<|e<|bd (G6 (a.length+1) a A E Z C w 0 (dq a.length 0) 0 _ ad U U aa al (by simp) U U U ap<|HS _) J ?_;rintro v20 az ⟨rfl,am,a9⟩;have I:Wk w az:=Md.trans' aa am fun k aJ h=>by omega
 refine ai 9 J<|gb (t:=23) J (fun O=> ?_) fun O=> ?_;have hn:vs a (a.length+1) (0,dq a.length 0) 0=none:=by simpa using O
 exact ay 18 J<|aM J<|⟨iv (iV<|zj hn).symm,I⟩
 obtain ⟨aL,V⟩:∃ s,vs a (a.length+1) (0,dq a.length 0) 0=some s:=ks.1<|by simpa using O
 have aj:=a9 _ V;refine ai 3 J<|bp J (aA J<|aj.ar.av 1)<|aG 6 J<|cd J (fun ao=> ?_) fun ao=> ?_;exact aH 7 J<|aM J<|⟨iv (iV<|by rw [qp U U V]; exact decide_eq_false U).symm,I⟩
 exact aH 8 J<|aM J<|⟨iv (qn<|by rw [qp U U V]; exact decide_eq_true U).symm,I⟩
end Go.Hb
end
section
namespace Go.Hb.iG
open Go.Hb.ew
theorem GP {s:List UInt8} {i:Nat} (h:i < s.length):(s.drop i).take 1= [s.getD i 0]:=by
 rw [drop_cons 0 h]; rfl
def dX (l:List (Bool×ag)):List ag:=l.flatMap fun q=> [.bool q.1,q.2]
def dE (l:List (UInt8×Int)):List ag:=l.flatMap fun e=> [.int .u8 e.1.toNat,.int .i64 e.2]
theorem Tg.kW {F:Nat→Prop} {w w':ah} {B e n:Nat} {v:ag} {xs:List ag} (h:Tg w B e n v xs) (hm:Md F w w') (E:∀ k,F k→B≤k→∀ cur z,w.heap[k]?≠some (.cells cur e z)):Tg w' B e n v xs:=by
 obtain ⟨a,A,rfl,C,h | ⟨b,cur,z,rfl,hb,hg,L⟩⟩:=h
 · exact ⟨a,A,J,C,.inl h⟩
 · exact ⟨_,A,J,C,.inr ⟨b,cur,z,J,hb,by rw [hm.ey b (ef.1 hg).1 (fun I=>E b I hb cur z hg)]; exact hg,L⟩⟩
theorem yn {w:ah} {k:Nat} (h:w.heap.size≤k) (cur:Array ag) (e:Nat) (z:Nat×Nat):w.heap[k]?≠some (.cells cur e z):=by
 rw [Array.getElem?_eq_none h]; intro h; cases h
def dR (w:ah) (B:Nat) (svs:List (Bool×ag)) (l:List aN):Prop :=svs.length=l.length∧∀ (i:Nat) q e,svs[i]? =some q→l[i]? =some e→q.1=e.1∧Tg w B 65 e.2.length q.2 (dE e.2)
theorem dR.nil (w:ah) (B:Nat):dR w B [] []:=⟨rfl,fun i q r A=>by simp at A⟩
theorem dR.md {F:Nat→Prop} {w w':ah} {B:Nat} {svs:List (Bool×ag)} {l:List aN} (h:dR w B svs l) (hm:Md F w w') (C:∀ k,F k→B≤k→∀ cur z,w.heap[k]?≠some (.cells cur 65 z)):dR w' B svs l:=
 ⟨h.1,fun i q r h1 A=>⟨(h.2 i q r h1 A).1,Tg.kW (h.2 i q r h1 A).2 hm C⟩⟩
theorem dR.wk {w w':ah} {B:Nat} {svs:List (Bool×ag)} {l:List aN} (h:dR w B svs l) (hm:Wk w w'):dR w' B svs l:=h.md hm fun _ A=>A.elim
theorem dR.snoc {w:ah} {B:Nat} {svs:List (Bool×ag)} {l:List aN} {v:ag} {e:aN} (ha:dR w B svs l) (E:Tg w B 65 e.2.length v (dE e.2)):dR w B (svs++ [(e.1,v)]) (l++ [e]):=by
 refine ⟨by rw [cj,cj,ha.1]; rfl,fun i q' r' h1 A=> ?_⟩;have C:=ha.1;by_cases hi:i < svs.length
 · rw [eh hi] at h1;rw [eh U] at A;exact ha.2 i q' r' h1 A
 · rw [et U] at h1;rw [et U,← C] at A;cases hj:i - svs.length with
   | zero=>rw [hj] at h1 A; cases h1; cases A; exact ⟨rfl,E⟩
   | succ j=>rw [hj] at h1; simp at h1
def eE (w:ah) (B:Nat) (v:ag) (l:List aN):Prop := ∃ svs,Tg w B 63 l.length v (dX svs)∧dR w B svs l
theorem eE.md {F:Nat→Prop} {w w':ah} {B:Nat} {v:ag} {l:List aN} (h:eE w B v l) (hm:Md F w w') (C:∀ k,F k→B≤k→∀ cur z,w.heap[k]?≠some (.cells cur 63 z)∧w.heap[k]?≠some (.cells cur 65 z)):eE w' B v l:=by
 obtain ⟨svs,h1,E⟩:=h;exact ⟨svs,Tg.kW h1 hm fun k A hb cur z=>(C k A hb cur z).1,E.md hm fun k A hb cur z=>(C k A hb cur z).2⟩
theorem eE.wk {w w':ah} {B:Nat} {v:ag} {l:List aN} (h:eE w B v l) (hm:Wk w w'):eE w' B v l:=h.md hm fun _ A=>A.elim
theorem eE.mono {w:ah} {B B':Nat} {v:ag} {l:List aN} (h:eE w B v l) (C:B'≤B):eE w B' v l:=by
 obtain ⟨svs,h1,I,A⟩:=h;exact ⟨svs,h1.mono C,I,fun i q e E he=>⟨(A i q e E he).1,(A i q e E he).2.mono C⟩⟩
theorem eE.dN {w:ah} {B:Nat} {v:ag} {l:List aN} (h:eE w B v l):∃ A cc,v= .slice A l.length cc∧l.length≤cc∧dg w.heap A l:=by
 obtain ⟨svs,h1,ai,ac⟩:=h;obtain ⟨A,cc,rfl⟩:=h1.slice;obtain ⟨ad,L⟩:=h1.nk;refine ⟨A,cc,J,ad,fun h0=>bo.ok L (iJ (f:=fun q:Bool×ag=> [bh q.1,q.2]) (m:=2) (fun _=>rfl) aI U),fun i hi=> ?_⟩;have O:svs[i]? =some (svs[i]'U):=bH U;have ae:l[i]? =some (aC l i):=by
  unfold aC;rw [cg,bH hi]; rfl
 obtain ⟨ab,E⟩:=ac i _ _ O ae;obtain ⟨Z,aa,V⟩:=E.slice;have I:=E;rw [V] at I;obtain ⟨_,C⟩:=I.nk;have M:=fk (f:=fun q:Bool×ag=> [bh q.1,q.2]) (m:=2) (fun _=>rfl) L O;refine ⟨Z,aa,by rw [M 0 U,ab]; rfl,by rw [M 1 U,V]; rfl,fun h0=>bo.ok C (iJ (f:=fun e:UInt8×Int=> [aW .u8 e.1.toNat,.int .i64 e.2]) (m:=2) (fun _=>rfl) aI h0),fun k e he=> ?_,fun k e he=> ?_⟩
 · exact fk (f:=fun e:UInt8×Int=> [aW .u8 e.1.toNat,.int .i64 e.2]) (m:=2) (fun _=>rfl) C he 0 U
 · exact fk (f:=fun e:UInt8×Int=> [aW .u8 e.1.toNat,.int .i64 e.2]) (m:=2) (fun _=>rfl) C he 1 U
theorem zi (svs:List (Bool×ag)) (q:Bool×ag):dX (svs++ [q])=dX svs++ [.bool q.1,q.2]:=by simp [dX]
theorem wO (es:List (UInt8×Int)) (e:UInt8×Int):dE (es++ [e])=dE es++ [.int .u8 e.1.toNat,.int .i64 e.2]:=by simp [dE]
theorem zg (l:List (Bool×ag)):(dX l).length=l.length*2:=pk (f:=fun q:Bool×ag=> [bh q.1,q.2]) (m:=2) (fun _=>rfl) l
theorem wN (l:List (UInt8×Int)):(dE l).length=l.length*2:=pk (f:=fun e:UInt8×Int=> [aW .u8 e.1.toNat,.int .i64 e.2]) (m:=2) (fun _=>rfl) l
section
variable {s:List UInt8} {n a e t p v k:Nat} {es:List (UInt8×Int)} {l:List aN}
theorem wP (h:s.length≤a):dt s n a= .error 60:=by unfold dt; rw [if_pos h]
theorem wQ (h:¬s.length≤a) (h1:aU s (a+1)= .error e):dt s n a= .error e:=by unfold dt; rw [if_neg h,h1]
theorem wR (h:¬s.length≤a) (h1:aU s (a+1)= .ok (t,p)) (A:n≤t):dt s n a= .error 190:=by unfold dt; rw [if_neg h,h1]; exact if_pos A
theorem wS (h:¬s.length≤a) (h1:aU s (a+1)= .ok (t,p)) (A:¬n≤t):dt s n a= .ok ((s.getD a 0,(t:Int)),p):=by unfold dt; rw [if_neg h,h1]; exact if_neg A
theorem zw (h:aU s a= .error e):eo s n a= .error e:=by unfold eo; rw [h]
theorem zx (h:aU s a= .ok (v,p)) (A:256 < v / 2):eo s n a= .error 190:=by unfold eo; rw [h]; exact if_pos A
theorem zy (h:aU s a= .ok (v,p)) (A:¬256 < v / 2) (C:bL (dt s n) (v / 2) p= .error e):eo s n a= .error e:=by unfold eo; rw [h]; simp only; rw [if_neg A,C]
theorem zz (h:aU s a= .ok (v,p)) (A:¬256 < v / 2) (C:bL (dt s n) (v / 2) p= .ok (es,t)):eo s n a= .ok ((decide (v % 2=1),es),t):=by unfold eo; rw [h]; simp only; rw [if_neg A,C]
theorem yX (h:aU s a= .error e):bZ s a= .error e:=by unfold bZ; rw [h]
theorem qg (h:aU s a= .ok (n,p)) (A:n=0∨1048576 < n):bZ s a= .error 190:=by unfold bZ; rw [h]; exact if_pos A
theorem mR (h:aU s a= .ok (n,p)) (A:¬(n=0∨1048576 < n)) (C:bL (eo s n) n p= .error e):bZ s a= .error e:=by unfold bZ; rw [h]; simp only; rw [if_neg A,C]
theorem yY (h:aU s a= .ok (n,p)) (A:¬(n=0∨1048576 < n)) (C:bL (eo s n) n p= .ok (l,t)) (E:shaped l=false):bZ s a= .error 190:=by unfold bZ; rw [h]; simp only; rw [if_neg A,C]; simp only; rw [E]; rfl
theorem yZ (h:aU s a= .ok (n,p)) (A:¬(n=0∨1048576 < n)) (C:bL (eo s n) n p= .ok (l,t)) (E:shaped l=true):bZ s a= .ok (l,t):=by unfold bZ; rw [h]; simp only; rw [if_neg A,C]; simp only; rw [E]; rfl
end
theorem FW (rb:Nat) (s:List UInt8) (a:Nat) (w:ah) (a5:aw w.heap rb [str s,.int .i64 (a:Nat)]) (aM:s.length≤1048576) (ha:a≤s.length):
 kA ak 45 (bz [.pointer (some ⟨rb,0,none⟩)]) w (fun v w'=> ∃ l p,bZ s a= .ok (l,p)∧eE w' w.heap.size v l∧aw w'.heap rb [str s,.int .i64 (p:Nat)]∧Md (fun k=>k=rb) w w') (fun c w'=> ∃ e,bZ s a= .error e∧c=jn e∧Md (fun k=>k=rb) w w'):=by
 have dd:=a5.lt;refine nt func45 J ntmps45 J<|aZ 7 J<|p mv<|eP J (dy ma (mB rb s (a) w a5 aM<|ha) J fun v10 bq b1=> ?_) fun c w' A σ' O=>by obtain ⟨e,he,aq,am⟩:=A; exact ⟨e,yX he,aq,am⟩
 obtain ⟨n,a1,Z,rfl,bA,aT⟩:=b1;obtain ⟨cY,c2,c5⟩:=gO Z;refine aG 3 J ?_;refine eS (fun br a2=> ∃ (cC:Unit),(¬(n=0∨1048576 < n))∧(aw a2.heap rb [str s,.int .i64 (a1:Nat)])∧(Md (fun k=>k=rb) w a2)∧(Sl br [(0,.pointer (some ⟨rb,0,none⟩)),(3,.int .u64 (n:Nat))])) ?_ ?_;refine aZ 1 J<|p mv<|ai 3 J<|gs (t:=14) J (fun cg=> ?_) fun cg=> ?_;refine ai 3 J<|eP J (dy hH (iu _ _ _ bq) J fun cD cF aW=> ?_) fun c w' A σ' O=>⟨190,qg Z (by have :=of_decide_eq_false A.2.1; omega),A.1,by rw [A.2.2]; exact aT⟩
 obtain ⟨rfl,bn,rfl⟩:=aW;have bn:=of_decide_eq_true bn;exact ay 1 J<|tn<|⟨(),U,bA,aT,J⟩
 refine ai 3 J<|eP J (dy hH (iu _ _ _ bq) J fun cD cF aW=> ?_) fun c w' A σ' O=>⟨190,qg Z U,A.1,by rw [A.2.2]; exact aT⟩
 exact absurd aW.2.1 aI;rintro br a2 ⟨cC,ar,bT,b0,cn⟩;refine bF cn<|bR 13 J<|lp (fun aj bt M=> ∃ (k:Nat) (l:List aN) (svs:List (Bool×ag)) (ab:ag) (q:Nat),(k≤n)∧(bL (eo s n) k a1= .ok (l,q))∧(q≤s.length)∧(bP M w.heap.size 63 2 ab svs.length<|dX svs)∧(dR M w.heap.size svs l)∧(aw M.heap rb [str s,.int .i64 (q:Nat)])∧(Md (fun k=>k=rb) w M)∧(Sl bt [(0,.pointer (some ⟨rb,0,none⟩)),(3,.int .u64 (n:Nat)),(4,ab),(19,.int .u64 (n:Nat)),(20,.int .u64 (k:Nat))])∧(n - k=aj)) _ ⟨0,[],[],.slice none 0 0,a1,U,J,U,(gy _ _ _ _),(dR.nil _ _),bT,b0,J,J⟩ ?_;rintro aj bt M ⟨k,l,svs,ab,q,C,I,da,aL,a9,a6,ad,co,rfl⟩;refine bF co<|bY 6 J<|cd J (fun ca=> ?_) fun ca=> ?_;refine aF 7 J<|eP J (dy ma (mB rb s (q) M a6 aM U) J fun dq cG b2=> ?_) fun c w' A σ' O=>by obtain ⟨e,he,aq,am⟩:=A; exact ⟨e,mR Z ar (fN I (zw he) U),aq,ad.trans am⟩
 obtain ⟨v0,p1,aJ,rfl,bC,aC⟩:=b2;obtain ⟨cZ,c3,c6⟩:=gO aJ;refine ai 7 J<|p (qu J J U<|fw U)<|ai 1 J<|eP J (dy hH (iu _ _ _ cG) J fun dr cI b3=> ?_) fun c w' A σ' O=>⟨190,mR Z ar (fN I (zx aJ<|by have :=of_decide_eq_false A.2.1; omega) U),A.1,by rw [A.2.2]; exact ad.trans aC⟩
 obtain ⟨rfl,cw,rfl⟩:=b3;have bj:¬256 < v0 / 2:=by have :=of_decide_eq_true cw; omega
 have bX:=ad.trans aC;refine ai 5 J<|p (rm J J U)<|ai 1 J<|p (dJ (ps:= [(0,.bool (decide ((v0:Int) % 2=1)))]) (L:= [.bool (decide ((v0:Int) % 2=1)),.slice none 0 0]) Gp J<|J)<|e<|dC uA fun ac dK cU bh bK=> ?_;have dl:=bh.size;refine e<|dx rW J J J J bK (by simp) fun ae bg bO=> ?_;have bQ:aw ae.heap ac [.bool (decide ((v0:Int) % 2=1)),.slice none 0 0]:=⟨_,bO⟩
 have az:Wk cI ae:=bh.md.trans' bg fun k C h=>by omega
 have bS:=Wk.B az bC;have dp:=ad.size;have dh:=aC.size;have dm:=az.size;have dn:=bg.size;have bW:Md (fun k=>k=rb) w ae:=bX.trans<|az.mono fun _ _ h=>h.elim;refine ai 6 J<|p (qu J J U<|fw U)<|aG 4 J<|lp (fun aj bu aa=> ∃ (j:Nat) (es:List (UInt8×Int)) (aS:ag) (E:Nat),(j≤v0 / 2)∧(bL (dt s n) j p1= .ok (es,E))∧(E≤s.length)∧(bP aa ae.heap.size 65 2 aS es.length<|dE es)∧(aw aa.heap rb [str s,.int .i64 (E:Nat)])∧(aw aa.heap ac [.bool (decide ((v0:Int) % 2=1)),aS])∧(Md (fun k=>k=rb∨k=ac) ae aa)∧(Sl bu [(0,.pointer (some ⟨rb,0,none⟩)),(3,.int .u64 (n:Nat)),(4,ab),(5,.int .u64 (v0:Nat)),(6,.pointer (some ⟨ac,0,none⟩)),(19,.int .u64 (n:Nat)),(20,.int .u64 (k:Nat)),(34,.int .u64 ((v0 / 2:Nat):Int)),(35,.int .u64 (j:Nat))])∧(v0 / 2 - j=aj)) _ ⟨0,[],.slice none 0 0,p1,U,J,U,(gy _ _ _ _),bS,bQ,(Md.refl _ _),J,J⟩ ?_;rintro aj bu aa ⟨j,es,aS,E,c1,aK,db,av,a7,a8,al,cp,rfl⟩;refine bF cp ?_;have cW:=gh aK;have aY:∀ e,dt s n E= .error e→j < v0 / 2→bZ s a= .error e:=fun e he ch=>mR Z ar<|fN I (zy aJ bj<|fN aK he ch) U;have aB:Md (fun k=>k=rb) w aa:=bW.trans' al fun k C h=>by rcases h with h | h; exact h; omega
 refine bY 6 J<|cd J (fun cb=> ?_) fun cb=> ?_;refine aF 7 J<|eP J (dy vB (zF rb s E 1 aa a7 aM U U) J fun ds cJ b4=> ?_) fun c w' A σ' O=>⟨60,aY _ (wP U) U,A.2.1,aB.trans A.2.2⟩
 obtain ⟨dg,bl,bD,aV⟩:=b4;rw [GP U] at bl;subst bl;refine p (xI 0 u9 J J<|by simp)<|ai 6 J<|eP J (dy ma (mB rb s (E+1) cJ bD aM U) J fun dv cK b5=> ?_) fun c w' A σ' O=>by obtain ⟨e,he,aq,am⟩:=A; exact ⟨e,aY _ (wQ U he) U,aq,(aB.trans aV).trans am⟩
 obtain ⟨to,cB,aX,rfl,bE,bf⟩:=b5;obtain ⟨c0,c4,c7⟩:=gO aX;refine ai 9 J<|eP J (dy hH (iu _ _ _ cK) J fun dw dD b6=> ?_) fun c w' A σ' O=>⟨190,aY _ (wR U aX<|by have :=of_decide_eq_false A.2.1; omega) U,A.1,by rw [A.2.2]; exact (aB.trans aV).trans bf⟩
 obtain ⟨rfl,cx,rfl⟩:=b6;have cv:¬n≤to:=by have :=of_decide_eq_true cx; omega
 have aD:=aV.trans bf;have ba:=aD.B a8 fun h=>by omega
 have cA:=al.size;have di:=aD.size;refine ai 4 J<|p (aA J<|ba.aO 1)<|ai 2 J<|p (fE u3 ke J<|gQ U)<|p (dJ (ps:= [(0,.int .u8 (s.getD E 0).toNat),(1,.int .i64 (to:Nat))]) (L:= [.int .u8 (s.getD E 0).toNat,.int .i64 (to:Nat)]) Gq J<|J)<|e<|jW qx J J J fun cQ dF cS ao bH=> ?_;have dj:=ao.size;have cm:=cq (cP av aD fun k C h=>by have :=dc av C; omega) ao.md;refine e<|ap qx (cm) J U J (bo.iw bH) (J) (J) U U fun dz dG bi aE cy cf=> ?_;have cy:=aE.size;have aQ:∀ k,aS.ownBlock=some k→ae.heap.size≤k:=fun k h=>(dc av h).1;have bV:=aE.B (Wk.B ao.md ba) fun h=>by have :=aQ ac h; omega
 have bI:=aE.B (Wk.B ao.md bE) fun h=>by have :=aQ rb h; omega
 obtain ⟨bv,bx,rfl⟩:=gM bi;refine ai 1 J<|e<|st vS J J (J) (bV) (by simp) fun dM aU bB=> ?_;have bU:=aU.B bI fun h=>by omega
 exact ay 7 J<|tn<|⟨_,U,j+1,es++ [(s.getD E 0,(to:Int))],.slice bv (es.length+1) bx,cB,U,(j3 aK<|wS U aX cv),U,(by rw [cj,wO]; exact cP bi aU fun k C h=>by rcases cf k C with a4 | a4; exact absurd (aQ k a4) U; omega),bU,bB,((((al.trans<|aD.mono fun _ _ h=> .inl h).trans<|ao.md.mono fun _ _ h=>h.elim).trans' aE fun k C h=>by have :=aQ k h; omega).trans<|aU.mono fun _ _ h=> .inr h),J,J⟩
 refine aH 2 J<|te _<|dU 2 J ?_;obtain ⟨a3,ce,rfl⟩:=gM av;obtain rfl :j=v0 / 2:=U;have c8:=gh I;have de:=a9.1;have cu:=zz aJ bj aK;have cA:=al.size;have bb:Md (fun k=>k=rb∨k=ac) M aa:=((aC.mono fun k _ h=> .inl h).trans<|az.mono fun _ _ h=>h.elim).trans al;have a0:=cP aL bb fun k C h=>by have :=dc aL C; omega
 have ct:=a9.md bb (fun k C hb=>by
  rcases C with C | C;omega;exact fun cur z=>yn U cur _ z)
 refine aF 1 J<|p (pK (ab) J)<|p (du rF J (J) fun j _=>a8.aO j)<|e<|jW qw J J J fun cR dH cT V bJ=> ?_;have dk:=V.size;refine e<|ap qw (cq a0 V.md) J U J (bo.iw bJ) (J) (J) U U fun cE cL ck an cz cX=> ?_;have cz:=an.size;have bm:∀ k,ab.ownBlock=some k→w.heap.size≤k:=fun k h=>(dc aL h).1;have bN:=an.B (Wk.B V.md a7) fun h=>by have :=bm rb h; omega
 have b9:Tg cL w.heap.size 65 es.length (.slice a3 es.length ce) (dE es):=Tg.kW (((Tg.kX av).mono U).wk V.md) an fun k C _=>kZ (cq a0 V.md) aI k C;have cs:=(ct.wk V.md).md an fun k C _=>kZ (cq a0 V.md) aI k C;exact p aP<|ay 7 J<|tn<|⟨_,U,k+1,l++ [(decide (v0 % 2=1),es)],svs++ [(decide ((v0:Int) % 2=1),.slice a3 es.length ce)],cE,E,U,(j3 I cu),U,(by rw [cj,zi]; exact ck),(by rw [show decide ((v0:Int) % 2=1)=decide (v0 % 2=1) from decide_eq_decide.2 U] at*; exact dR.snoc (e:=(decide (v0 % 2=1),es)) cs b9),bN,((aB.trans<|V.md.mono fun _ _ h=>h.elim).trans' an fun k C h=>by have :=bm k h; omega),J,J⟩
 refine aH 2 J<|te _<|dU 3 J ?_;obtain rfl :k=n:=U;have bc:eE M w.heap.size ab l:=⟨svs,by have h:=Tg.kX aL; rw [a9.1] at h; exact h,a9⟩
 obtain ⟨bw,cc,rfl,cV,b8⟩:=bc.dN;have c9:=gh I;have ci:∀ x∈l,x.2.length≤256:=fun x aR=>(kR (R:=fun p=>p≤s.length) (S:=fun x:aN=>x.2.length≤256) (fun p x q' hr aR=>⟨(n7 aR).2.1,(n7 aR).2.2.1⟩) U I).2 x aR;refine aF 3 J<|e<|bd (F8 l bw cc M b8 U fun i hi=>cH (ci _<|iL (d:=dI) hi) aI) J ?_;rintro dA cO ⟨rfl,ax⟩;refine ai 1 J ?_;refine eP J (dy hH (iu _ _ _ cO) J fun dB dL b7=> ?_) (fun c w' A σ' O=>⟨190,yY Z ar I (by
  cases h:shaped l;rfl;exact absurd (show n4 l=0 from qn h) (of_decide_eq_false A.2.1)),A.1,by rw [A.2.2]; exact ad.trans (ax.mono fun _ _ h=>h.elim)⟩)
 obtain ⟨rfl,bp,rfl⟩:=b7;have cr:shaped l=true :=by
  cases h:shaped l;rw [iV h] at bp; exact absurd (of_decide_eq_true bp) aI;rfl
 exact ay 9 J<|ny<|f1 J J<|⟨l,q,yZ Z ar I cr,bc.wk ax,Wk.B ax a6,ad.trans<|ax.mono fun _ _ h=>h.elim⟩
end Go.Hb.iG
end
section
namespace Go.Hb.kz
open Go.Hb.ew
open Go.Hb.iG
theorem DV (s A:List UInt8) (w:ah) (E:s.length≤1073741824) (hp:A.length≤1073741824):
 bj ak 65 (bz [str s,str A]) w (fun v w'=>v= .bool (decide (s.take A.length=A))∧Wk w w'):=by
 refine enter func65 J ntmps65 J<|aZ 13 J<|gs (t:=10) J (fun C=> ?_) fun C=> ?_;exact ai 3 J<|bp J (tV u9 J J U)<|ay 7 J<|aM J<|⟨J,Md.refl _ _⟩
 exact ai 7 J<|p aP<|ay 3 J<|aM J<|⟨by show bh false =_; rw [decide_eq_false (fun h=>by have :=congrArg q9 h; rw [cO] at this; omega)],Md.refl _ _⟩
theorem DU (s A:List UInt8) (w:ah) (E:s.length≤1073741824) (hp:A.length≤1073741824):
 bj ak 39 (bz [str s,str A]) w (fun v w'=>v= .bool (decide (s.take A.length=A))∧Wk w w'):=by
 refine enter func39 J ntmps39 J<|aZ 9 J<|e<|bd (DV s A _ E hp) J ?_;rintro I L ⟨rfl,C⟩;exact ay 4 J<|aM J<|⟨J,C⟩
theorem CZ (p2 p3:Nat) (w:ah):
 CallsD ak 40 (bz [.pointer (some ⟨p2,0,none⟩),.pointer (some ⟨p3,0,none⟩)]) .returning w (fun A I w'=> ∃ v,A= .returned v∧I= .returning∧(fun w'=>Wk w w') w'):=by
 refine vD (v:= .nilIface) func40 J ntmps40 J (fun M cs E=> .inr ⟨by simp [recoverD,E],J,J⟩) ?_;exact p (zC nL H0 J)<|p mv<|p (xt J J)<|p (xt J J)<|p aP<|p aP<|nl<|tn<|sq fun L C=>rg J<|p mv<|nl<|tn<|C _ _<|cf (J)<|zl<|f0 J<|Md.refl _ _
theorem CY (p2 p3:Nat) (A:Int) (w:ah) (C:∃ L:List ag,L.length=7∧w.heap[p2]? =some (.cells L.toArray 42 (0,0))) (E:∃ v:ag,w.heap[p3]? =some (.cells [v].toArray 35 (0,0))) (V:p2≠p3):
 CallsD ak 40 (bz [.pointer (some ⟨p2,0,none⟩),.pointer (some ⟨p3,0,none⟩)]) (.panicking<|jn A) w (fun Z ae w'=> ∃ v,Z= .returned v∧ae=(.panicking [{v:= .iface 35 (.int .i64 A),recovered:=true}])∧(fun w'=>w'.heap[p2]? =some (.cells [aW .i64 0,str [],.slice none 0 0,.slice none 0 0,.slice none 0 0,.slice none 0 0,.slice none 0 0].toArray 42 (0,0))∧w'.heap[p3]? =some (.cells [.int .i64 A].toArray 35 (0,0))∧Md (fun k=>k=p2∨k=p3) w w') w'):=by
 obtain ⟨al,ac,C⟩:=C;obtain ⟨ap,E⟩:=E;have an:=(ef.1 C).1;have ao:=(ef.1 E).1;refine vD (v:= .iface 35<|.int .i64 A) func40 J ntmps40 J (fun am cs ad=> .inl<|by simp [recoverD,ad,jn]) ?_;refine p (zB nL J)<|p mv<|p (xt J J)<|p (xt J J)<|p aP<|p aP<|nl<|tn<|sq fun aj ab=>rg J<|p mv<|nl<|tn<|ab _ _<|ct (J)<|rg J<|p (dJ (ps:= []) (L:= [.int .i64 0,.string ⟨⟨[]⟩⟩,.slice none 0 0,.slice none 0 0,.slice none 0 0,.slice none 0 0,.slice none 0 0]) zr J<|J)<|p mv<|e<|dx mc J J J J C (by rw [ac]; decide) fun ai M I=>e<|dZ rV J J (v:= .int .i64 A) J (M.ar E fun h=>V h.symm) (by show 0 < 1; decide) fun aq O aa=>nl<|f0 J ?_;have I:ai.heap[p2]? =some (.cells [aW .i64 0,str [],.slice none 0 0,.slice none 0 0,.slice none 0 0,.slice none 0 0,.slice none 0 0].toArray 42 (0,0)):=I.trans<|by rw [A3 U]; rfl
 exact ⟨O.ar I V,aa,(M.mono fun _ _ h=> .inl h).trans' O fun _ _ h=> .inr h⟩
theorem vW (p2 p3:Nat) (w:ah):(invoke (.fn (.func 40) #[aR p2,aR p3]) #[]).run ak w= .ok (.enter 40 #[aR p2,aR p3]) w:=by
 have h:=Cm #[aR p2,aR p3] w;simp [invoke,h]
theorem pf {n:Nat} {D:List Deferred} {G:List Nat} {σ:Nat→ag} {t:Nat} (h:t < n):ev ⟨n,D,G,none⟩ σ (.tmp t)=σ t:=by
 show cond (az t n) (σ t) undef=_;rw [show az t n=true from by simpa using h]; rfl
theorem C3 {n:Nat} {G:List Nat} {fn:Func} {R:ag→ah→Prop} {σ:Nat→ag} {w:ah} {p2 p3:Nat} {A:Int} (Z:fn.results= #[.cell 2 42,.cell 3 35]) (aJ:3 < n) (aa:σ 2= .pointer (some ⟨p2,0,none⟩)) (ab:σ 3= .pointer (some ⟨p3,0,none⟩)) (C:∃ L:List ag,L.length=7∧w.heap[p2]? =some (.cells L.toArray 42 (0,0))) (E:∃ v:ag,w.heap[p3]? =some (.cells [v].toArray 35 (0,0))) (V:p2≠p3)
 (I:∀ w',Md (fun k=>k=p2∨k=p3) w w'→R (.tuple #[.agg [aW .i64 0,str [],.slice none 0 0,.slice none 0 0,.slice none 0 0,.slice none 0 0,.slice none 0 0].toArray,.int .i64 A]) w'):qb ⟨n,[{target:= .fn (.func 40) #[.pointer (some ⟨p2,0,none⟩),.pointer (some ⟨p3,0,none⟩)],args:= #[]}],G,none⟩ (jR ak fn R) (.panic<|jn A) σ w:=by
 refine DE (vW p2 p3 w) (CY p2 p3 A w C E V) ?_;rintro w' ⟨M,O,hm⟩;exact ⟨_,p7 Z (iz<|gp (cs:= [aW .i64 0,str [],.slice none 0 0,.slice none 0 0,.slice none 0 0,.slice none 0 0,.slice none 0 0]) ((pf U).trans aa) jU J fun j _=>by rw [b9,bT M]; simp) (iz<|gN ((pf U).trans ab) vi<|(bT O).trans J),I w' hm⟩
theorem C4 {n:Nat} {G:List Nat} {fn:Func} {R:ag→ah→Prop} {σ:Nat→ag} {w:ah} {p2 p3:Nat} {v:ag} {L:List ag} (V:fn.results= #[.cell 2 42,.cell 3 35]) (aJ:3 < n) (Z:σ 2= .pointer (some ⟨p2,0,none⟩)) (aa:σ 3= .pointer (some ⟨p3,0,none⟩)) (A:w.heap[p2]? =some (.cells L.toArray 42 (0,0))) (C:w.heap[p3]? =some (.cells [v].toArray 35 (0,0))) (E:L.length=7)
 (I:∀ w',Wk w w'→R (.tuple #[.agg L.toArray,v]) w'):qb ⟨n,[{target:= .fn (.func 40) #[.pointer (some ⟨p2,0,none⟩),.pointer (some ⟨p3,0,none⟩)],args:= #[]}],G,none⟩ (jR ak fn R) .ret σ w:=by
 refine DD (vW p2 p3 w) (CZ p2 p3 w) ?_;intro w' hm;have M:=Wk.ar hm A;have O:=Wk.ar hm C;exact ⟨_,p7 V (iz<|gp (cs:=L) ((pf U).trans Z) jU E fun j _=>by rw [b9,bT M]; simp) (iz<|gN ((pf U).trans aa) vi<|(bT O).trans J),I w' hm⟩
section
variable {s:List UInt8} {a e n m p1 p2 p3 p4 p5 p q ls:Nat} {t f:List UInt8} {rs:List (List UInt8×List UInt8)} {l:List (List aN)}
theorem yO (h:cn s a= .error e):eZ s a= .error e:=by unfold eZ; rw [h]
theorem yP (h:cn s a= .ok (f,p)) (A:cn s p= .error e):eZ s a= .error e:=by unfold eZ; rw [h]; simp only; rw [A]
theorem yQ (h:cn s a= .ok (f,p)) (A:cn s p= .ok (t,q)):eZ s a= .ok ((f,t),q):=by unfold eZ; rw [h]; simp only; rw [A]
theorem rY (hm:¬s.take 4=dM):bE s= .error 200:=if_neg hm
theorem wb (hm:s.take 4=dM) (h:aU s 4= .error e):bE s= .error e:=by unfold bE; rw [if_pos hm,h]
theorem wc (hm:s.take 4=dM) (h:aU s 4= .ok (n,p1)) (A:cn s p1= .error e):bE s= .error e:=by unfold bE; rw [if_pos hm,h]; simp only; rw [A]
theorem wg (hm:s.take 4=dM) (h:aU s 4= .ok (n,p1)) (A:cn s p1= .ok (t,p2)) (C:aU s p2= .error e):bE s= .error e:=by unfold bE; rw [if_pos hm,h]; simp only; rw [A]; simp only; rw [C]
theorem wh (hm:s.take 4=dM) (h:aU s 4= .ok (n,p1)) (A:cn s p1= .ok (t,p2)) (C:aU s p2= .ok (m,p3)) (E:256 < m):bE s= .error 201:=by unfold bE; rw [if_pos hm,h]; simp only; rw [A]; simp only; rw [C]; exact if_pos E
theorem o4 (hm:s.take 4=dM) (h:aU s 4= .ok (n,p1)) (A:cn s p1= .ok (t,p2)) (C:aU s p2= .ok (m,p3)) (E:¬256 < m) (I:bL (eZ s) m p3= .error e):bE s= .error e:=by unfold bE; rw [if_pos hm,h]; simp only; rw [A]; simp only; rw [C]; simp only; rw [if_neg E,I]
theorem wi (hm:s.take 4=dM) (h:aU s 4= .ok (n,p1)) (A:cn s p1= .ok (t,p2)) (C:aU s p2= .ok (m,p3)) (E:¬256 < m) (I:bL (eZ s) m p3= .ok (rs,p4)):bE s=eJ s (if n≤64 then n else 0) t rs p4:=by unfold bE; rw [if_pos hm,h]; simp only; rw [A]; simp only; rw [C]; simp only; rw [if_neg E,I]
theorem vX (h:dv ls t rs=false):eJ s ls t rs a= .error 201:=by unfold eJ; rw [h]; rfl
theorem vY (h:dv ls t rs=true) (A:bL (bZ s) 4 a= .error e):eJ s ls t rs a= .error e:=by unfold eJ; rw [if_pos h,A]
theorem vZ (h:dv ls t rs=true) (A:bL (bZ s) 4 a= .ok (l,p5)) (C:p5≠s.length):eJ s ls t rs a= .error 202:=by unfold eJ; rw [if_pos h,A]; exact if_neg C
theorem wa (h:dv ls t rs=true) (A:bL (bZ s) 4 a= .ok (l,p5)) (C:p5=s.length):eJ s ls t rs a= .ok ⟨ls,t,rs,l⟩:=by unfold eJ; rw [if_pos h,A]; exact if_pos C
end
def lY (w:ah) (B:Nat) (cs:List ag) (b:cI):Prop := ∃ A rc vs,cs= [.int .i64 (b.least:Nat),str b.tr,.slice A b.bW.length rc]++vs∧vs.length=4∧bo w.heap A (b.bW.flatMap cQ)∧∀ i,i < 4→eE w B (vs.getD i .nilFunc) (b.bw.getD i [])
theorem lY.wk {w w':ah} {B:Nat} {cs:List ag} {b:cI} (h:lY w B cs b) (hm:Wk w w'):lY w' B cs b:=by
 obtain ⟨I,rc,vs,h1,A,C,E⟩:=h;exact ⟨I,rc,vs,h1,A,C.wk hm,fun i hi=>(E i hi).wk hm⟩
def gW (s:List UInt8) (w:ah) (v:ag) (w':ah):Prop :=(match bE s with
 | .ok b=> ∃ cs,v= .tuple #[.agg cs.toArray,.int .i64 0]∧lY w' w.heap.size cs b
 | .error e=>v= .tuple #[.agg [aW .i64 0,str [],.slice none 0 0,.slice none 0 0,.slice none 0 0,.slice none 0 0,.slice none 0 0].toArray,.int .i64 (e:Nat)])∧Wk w w'
theorem gW.no {s:List UInt8} {w w':ah} {e:Nat} (h:bE s= .error e) (hm:Wk w w'):gW s w (.tuple #[.agg [aW .i64 0,str [],.slice none 0 0,.slice none 0 0,.slice none 0 0,.slice none 0 0,.slice none 0 0].toArray,.int .i64 (e:Nat)]) w':=by
 unfold gW; rw [h]; exact ⟨rfl,hm⟩
theorem tJ {a b c v:ag} {vs:List ag} {k:Nat} :([a,b,c]++vs).set (0 +3 +((k:Nat):Int).toNat*1) v= [a,b,c]++vs.set k v:=by
 rw [show 0 +3 +((k:Nat):Int).toNat*1=k+1 +1 +1 from by omega]; rfl
theorem pq {α:Type} {l:List α} {i k:Nat} {v d:α} (h:i≠k):(l.set k v).getD i d=l.getD i d:=by
 rw [cg,A9 (fun e=>h e.symm),cg]
theorem nz {α:Type} {l:List α} {k:Nat} {v d:α} (h:k < l.length):(l.set k v).getD k d=v:=by
 rw [cg,Ba h]; rfl
theorem xA {α:Type} {l m:List α} {i:Nat} {d:α} (h:i < l.length):(l++m).getD i d=l.getD i d:=by
 rw [cg,eh h,cg]
theorem xz {α:Type} {l:List α} {a d:α} {i:Nat} (h:i=l.length):(l++ [a]).getD i d=a:=by
 subst h;rw [cg,et (aY _),Nat.sub_self]; rfl
structure eG (w0 w:ah) (b2 b3:Nat) (L:List ag):Prop where
 c2:w.heap[b2]? =some (.cells L.toArray 42 (0,0))
 c3:w.heap[b3]? =some (.cells [aW .i64 0].toArray 35 (0,0))
 len:L.length=7
 lo:w0.heap.size≤b2∧w0.heap.size≤b3∧b2≠b3
 wk:Wk w0 w
theorem eG.md {F:Nat→Prop} {w0 w w':ah} {A C:Nat} {L:List ag} (h:eG w0 w A C L) (hm:Md F w w') (E:¬F A) (I:¬F C) (J:∀ k,F k→w0.heap.size≤k):eG w0 w' A C L:=
 ⟨hm.ar h.c2 E,hm.ar h.c3 I,h.len,h.lo,h.wk.trans' hm fun k O M=>by have :=J k M; omega⟩
theorem eG.HG {w0 w w':ah} {A C:Nat} {L:List ag} (h:eG w0 w A C L) (hm:Wk w w'):eG w0 w' A C L:=h.md hm (fun h=>h) (fun h=>h) fun _ h=>h.elim
theorem eG.rb {w0 w w':ah} {A C rb:Nat} {L:List ag} (h:eG w0 w A C L) (hm:Md (fun k=>k=rb) w w') (E:A≠rb) (I:C≠rb) (h0:w0.heap.size≤rb):eG w0 w' A C L:=h.md hm E I fun k J=>by omega
theorem jk {n:Nat} {G:List Nat} {fn:Func} {σ:Nat→ag} {s:List UInt8} {w W:ah} {C E e:Nat} {L:List ag} (I:fn.results= #[.cell 2 42,.cell 3 35]) (aJ:3 < n) (J:σ 2= .pointer (some ⟨C,0,none⟩)) (M:σ 3= .pointer (some ⟨E,0,none⟩)) (A:eG w W C E L) (O:bE s= .error e):qb ⟨n,[{target:= .fn (.func 40) #[.pointer (some ⟨C,0,none⟩),.pointer (some ⟨E,0,none⟩)],args:= #[]}],G,none⟩ (jR ak fn<|gW s w) (.panic<|jn (e:Nat)) σ W:=
 C3 I aJ J M ⟨_,A.len,A.c2⟩ ⟨_,A.c3⟩ A.lo.2.2 (fun w' hm=>gW.no O<|A.wk.trans' hm fun k U h=>by rcases h with rfl | rfl; have :=A.lo.1; omega; have :=A.lo.2.1; omega)
theorem C5 (s:List UInt8) (w:ah) (aK:s.length≤1048576):
 bj ak 20 (bz [str s]) w (gW s w):=by
 refine Dk [2,3] func20 J ntmps20 J ?_;refine eT<|eN<|aZ 1 J<|e<|dC qL fun C e3 d8 b6 cE=>e<|dC HV fun O ct d9 bB cJ=> ?_;have eD:=b6.size;have eF:=bB.size;have c8:Wk w ct:=b6.md.trans bB.md;have dK:=Wk.ar bB.md cE;refine ay 1 J<|bM<|eT<|eT<|eN<|aZ 2 J<|e<|bd (DU s dM ct U aI) J ?_;rintro v10 e1 ⟨rfl,a6⟩;have bV:=c8.trans a6;have cp:=Wk.ar a6 dK;have cr:=Wk.ar a6 cJ;have eB:=a6.size;refine ay 2 J<|bM<|eN<|cb J (fun aX=> ?_) fun aX=> ?_;have ab:¬s.take 4=dM:=fun h=>by rw [show s.take dM.length=dM from h] at aX; simp at aX
 refine aZ 2 J<|p (dJ (ps:= []) (L:= [.int .i64 0,.string ⟨⟨[]⟩⟩,.slice none 0 0,.slice none 0 0,.slice none 0 0,.slice none 0 0,.slice none 0 0]) zr J<|J)<|e<|dx mc J J J J cp aI fun e6 b3 cV=>e<|dZ rV J J (v:= .int .i64 200) J (b3.ar cr fun h=>by omega) aI fun d5 b5 cX=>ay 3 J<|Fs ?_;have dt:d5.heap[C]? =some (.cells [aW .i64 0,str [],.slice none 0 0,.slice none 0 0,.slice none 0 0,.slice none 0 0,.slice none 0 0].toArray 42 (0,0)):=(b5.ar cV fun h=>by omega).trans rfl;exact DB (p7 J (iz<|gp J J J fun j ei=>by rw [b9,bT dt]; simp)<|iz<|gN J J<|(bT cX).trans J)<|gW.no (rY ab)<|(bV.trans' b3 fun k E h=>by omega).trans' b5 fun k E h=>by omega
 have ab:s.take 4=dM:=Classical.byContradiction fun h=>by rw [decide_eq_false (show ¬s.take dM.length=dM from h)] at aX; cases aX
 have cA:4≤s.length:=by have :=congrArg q9 ab; rw [cO] at this; simp only [dM,cZ,iD] at this; omega
 refine nA 1 J<|bM<|eT<|jm EB #[.pointer (some ⟨C,0,none⟩),.pointer (some ⟨O,0,none⟩)] J aI ?_;refine eT<|eN<|aZ 2 J<|p (dJ (ps:= [(0,str s),(1,.int .i64 4)]) (L:= [str s,.int .i64 4]) Gk J<|J)<|e<|oW J fun rb ad ez bb cD=> ?_;have eC:=bb.size;have c4:aw ad.heap rb [str s,.int .i64 ((4:Nat):Int)]:=⟨_,cD⟩
 have ci:eG w ad C O [aW .i64 0,str [],.slice none 0 0,.slice none 0 0,.slice none 0 0,.slice none 0 0,.slice none 0 0]:=⟨Wk.ar bb.md cp,Wk.ar bb.md cr,rfl,⟨U,U,U⟩,bV.trans bb.md⟩
 refine ay 2 J<|bM<|Gi (fun cx a4=> ∃ (n p1:Nat),(eG w a4 C O [.int .i64 ((if n≤64 then n else 0:Nat):Int),str [],.slice none 0 0,.slice none 0 0,.slice none 0 0,.slice none 0 0,.slice none 0 0])∧(aw a4.heap rb [str s,.int .i64 (p1:Nat)])∧(Md (fun k=>k=rb∨k=C) ad a4)∧(aU s 4= .ok (n,p1))∧(p1≤s.length)∧(Sl cx [(0,str s),(2,.pointer (some ⟨C,0,none⟩)),(3,.pointer (some ⟨O,0,none⟩)),(4,.pointer (some ⟨rb,0,none⟩))])) ?_ ?_;refine eT<|eN<|aZ 2 J ?_;refine eP J (dy ma (mB rb s (4) ad c4 aK<|cA) J fun eL e2 db=> ?_) (fun c w' I σ' A=>by
  obtain ⟨e,he,rfl,Z⟩:=I;exact jk J aI ((A 2<|.head _).trans J) ((A 3<|.tail _<|.head _).trans J) ((ci).rb Z U U U) (wb ab he))
 obtain ⟨n,p1,aa,rfl,bS,bv⟩:=db;obtain ⟨ec,bE,eo⟩:=gO aa;have a1:=ci.rb bv U U U;refine ay 2 J<|bM<|eT<|eN<|nA 4 J<|bM<|eN<|cd J (fun bD=> ?_) fun bD=> ?_;exact aZ 2 J<|p (fE u3 ke J<|gQ U)<|ai 1 J<|e<|dZ dD J J (v:= .int .i64 (n:Nat)) J a1.c2 aI fun fa a9 cY=>ay 1 J<|vK<|⟨n,p1,(⟨by rw [if_pos U]; exact cY,a9.ar a1.c3 (fun h=>by omega),J,a1.lo,a1.wk.trans' a9 fun k E h=>by omega⟩),(a9.B bS fun h=>by omega),((bv.mono fun _ _ h=> .inl h).trans<|a9.mono fun _ _ h=> .inr h),aa,bE,J⟩
 exact nA 1 J<|vK<|⟨n,p1,(by rw [if_neg U]; exact a1),bS,(bv.mono fun _ _ h=> .inl h),aa,bE,J⟩
 rintro cx a4 ⟨n,p1,co,c1,c7,aa,bE,dQ⟩;refine F6 dQ ?_;refine eT<|eN<|aZ 2 J ?_;refine eP J (dy rN (sw rb s (p1) a4 c1 aK U) J fun eM e4 dd=> ?_) (fun c w' I σ' A=>by
  obtain ⟨e,he,rfl,Z⟩:=I;exact jk J aI ((A 2<|.head _).trans J) ((A 3<|.tail _<|.head _).trans J) ((co).rb Z U U U) (wc ab aa he))
 obtain ⟨t,p2,aJ,rfl,cH,bX⟩:=dd;obtain ⟨ed,ej,ep⟩:=mw aJ;have bl:=co.rb bX U U U;refine ai 1 J<|e<|dZ vU J J (v:=str t) J bl.c2 (by simp) fun cw ba c0=> ?_;have cn:eG w cw C O [.int .i64 ((if n≤64 then n else 0:Nat):Int),str t,.slice none 0 0,.slice none 0 0,.slice none 0 0,.slice none 0 0,.slice none 0 0]:=⟨c0,ba.ar bl.c3 (fun h=>by omega),rfl,bl.lo,bl.wk.trans' ba fun k E h=>by omega⟩
 have c5:=ba.B cH fun h=>by omega
 refine ay 1 J<|bM<|eT<|eN<|aZ 2 J ?_;refine eP J (dy ma (mB rb s (p2) cw c5 aK U) J fun eO dY dg=> ?_) (fun c w' I σ' A=>by
  obtain ⟨e,he,rfl,Z⟩:=I;exact jk J aI ((A 2<|.head _).trans J) ((A 3<|.tail _<|.head _).trans J) ((cn).rb Z U U U) (wg ab aa aJ he))
 obtain ⟨m,p3,aV,rfl,cI,b0⟩:=dg;obtain ⟨ee,el,eq⟩:=gO aV;have ck:=cn.rb b0 U U U;refine ay 2 J<|bM<|eT<|eN<|aZ 4 J ?_;refine eP J (dy hH (iu _ _ _ dY) J fun eQ e5 dh=> ?_) (fun c w' I σ' A=>by
  obtain ⟨rfl,hb,rfl⟩:=I;exact jk J aI ((A 2<|.head _).trans J) ((A 3<|.tail _<|.head _).trans J) (ck) (wh ab aa aJ aV<|by have :=of_decide_eq_false hb; omega))
 obtain ⟨rfl,dU,rfl⟩:=dh;have bH:¬256 < m:=by have :=of_decide_eq_true dU; omega
 refine ay 1 J<|bM<|eT<|eT<|eN<|nA 4 J<|bM<|eN<|bY 1 J<|lp (fun aP cy ao=> ∃ (k:Nat) (rs:List (List UInt8×List UInt8)) (V:ag) (q:Nat),(k≤m)∧(bL (eZ s) k p3= .ok (rs,q))∧(q≤s.length)∧(bP ao ad.heap.size 60 2 V rs.length<|rs.flatMap cQ)∧(aw ao.heap rb [str s,.int .i64 (q:Nat)])∧(eG w ao C O [.int .i64 ((if n≤64 then n else 0:Nat):Int),str t,V,.slice none 0 0,.slice none 0 0,.slice none 0 0,.slice none 0 0])∧(Md (fun k=>k=rb∨k=C) ad ao)∧(Sl cy [(0,str s),(2,.pointer (some ⟨C,0,none⟩)),(3,.pointer (some ⟨O,0,none⟩)),(4,.pointer (some ⟨rb,0,none⟩)),(33,.int .u64 (m:Nat)),(34,.int .u64 (k:Nat))])∧(m - k=aP)) _ ⟨0,[],.slice none 0 0,p3,U,J,U,(gy _ _ _ _),cI,ck,(((c7.trans<|bX.mono fun _ _ h=> .inl h).trans<|ba.mono fun _ _ h=> .inr h).trans<|b0.mono fun _ _ h=> .inl h),J,J⟩ ?_;rintro aP cy ao ⟨k,rs,V,q,ev,am,ex,aq,bU,a0,bt,dR,rfl⟩;refine bF dR<|bY 6 J<|cd J (fun dr=> ?_) fun dr=> ?_;refine aF 7 J ?_;refine eP J (dy rN (sw rb s (q) ao bU aK U) J fun eR an di=> ?_) (fun c w' I σ' A=>by
  obtain ⟨e,he,rfl,Z⟩:=I;exact jk J aI ((A 2<|.head _).trans J) ((A 3<|.tail _<|.head _).trans J) ((a0).rb Z U U U) (o4 ab aa aJ aV bH<|fN am (yO he) U))
 obtain ⟨f,bJ,bC,rfl,cR,a8⟩:=di;obtain ⟨ef,em,er⟩:=mw bC;have a2:=a0.rb a8 U U U;have dE:=cP aq a8 fun k E h=>by have :=dc aq E; omega
 have eH:=a8.size;have eK:=bt.size;have ax:∀ k,V.ownBlock=some k→ad.heap.size≤k:=fun k h=>(dc aq h).1;refine aG 3 J ?_;have bg:(fun w'=>Md (fun k=>k=rb∨V.ownBlock=some k) an w') an.drew:=(Md.refl _ _).drew;refine x8 (fun w'=>Md (fun k=>k=rb∨V.ownBlock=some k) an w') 9 J wide bg<|sC [0] J bg<|x7 1 J aj (fun w' dn=>aA J<|Md.av dn ((bT a2.c2).trans J) fun h=>by rcases h with h | h; omega; have :=ax _ h; omega) bg<|sC [2,3] J bg ?_;refine Ez 4 J aj J (dy rN (sw rb s bJ an.drew cR aK U) J fun eS cu dj=> ?_) (fun c w' I σ' A=>by
  obtain ⟨e,he,rfl,Z⟩:=I;exact jk J aI ((A 2<|.head _).trans J) ((A 3<|.tail _<|.head _).trans J) (a2.rb (Md.fK Z) U U U) (o4 ab aa aJ aV bH<|fN am (yP bC he) U))
 obtain ⟨t2,dX,cf,rfl,cS,aS⟩:=dj;obtain ⟨eg,en,eu⟩:=mw cf;have aS:=Md.fK aS;have ca:Md (fun k=>k=rb∨V.ownBlock=some k) an cu:=aS.mono fun _ _ h=> .inl h;have eI:=aS.size;have b7:(fun w'=>Md (fun k=>k=rb∨V.ownBlock=some k) an w') cu:=ca;refine ⟨b7,?_⟩;refine nJ 5 J aj (fun _=>dJ (ps:= [(0,str f),(1,str t2)]) (L:= [str f,str t2]) Gn J<|J) (fun _=>b7)<|nI 6 J aj<|jW qv J J J fun d6 d2 ea bc cT=> ?_;have eJ:=bc.size;have ce:=ca.trans<|bc.md.mono fun _ _ h=>h.elim;have dF:=cq (cP dE aS fun k E h=>by have :=dc aq E; omega) bc.md;have dp:(fun w'=>Md (fun k=>k=rb∨V.ownBlock=some k) an w') d2:=ce;refine ⟨dp,?_⟩;refine nI 7 J aj<|ap qv (dF) J U J (bo.iw cT) (J) (J) (by have :=gh am; omega) (by have :=gh am; omega) fun eU d3 ch bx dW dw=> ?_;obtain ⟨bq,nj,rfl⟩:=gM ch;have aT:=ce.trans<|bx.mono fun _ _ h=> .inr h;have dW:=bx.size;have dA:¬(C=rb∨V.ownBlock=some C):=fun h=>by rcases h with h | h; omega; have :=ax _ h; omega
 have dB:¬(O=rb∨V.ownBlock=some O):=fun h=>by rcases h with h | h; omega; have :=ax _ h; omega
 have ds:=aT.ar a2.c2 dA;have cU:=bx.B (Wk.B bc.md cS) fun h=>by have :=ax _ h; omega
 have b8:(fun w'=>Md (fun k=>k=rb∨V.ownBlock=some k) an w') d3:=aT;refine ⟨b8,?_⟩;refine sC [8] J b8<|xW 9 J aj aj<|dZ vO J J (v:= .slice bq (rs.length+1) nj) J ds (by simp) fun cs aQ cB=> ?_;have dG:eG w cs C O [.int .i64 ((if n≤64 then n else 0:Nat):Int),str t,.slice bq (rs.length+1) nj,.slice none 0 0,.slice none 0 0,.slice none 0 0,.slice none 0 0]:=⟨cB,aQ.ar (aT.ar a2.c3 dB) (fun h=>by omega),rfl,a0.lo,(a2.wk.trans' aT fun k E h=>by rcases h with h | h; omega; have :=ax _ h; omega).trans' aQ fun k E h=>by omega⟩
 have cC:=aQ.B cU fun h=>by omega
 have c6:Md (fun k=>k=rb∨k=C) ad cs:=((bt.trans<|a8.mono fun _ _ h=> .inl h).trans' aT fun k E h=>by rcases h with h | h; exact .inl h; have :=ax _ h; omega).trans<|aQ.mono fun _ _ h=> .inr h;exact xX aj<|bf 6 J<|tn<|⟨_,U,k+1,rs++ [(f,t2)],.slice bq (rs.length+1) nj,dX,U,(j3 am<|yQ bC cf),U,(by rw [cj,List.flatMap_append]; exact cP ch aQ fun k E h=>by rcases dw k E with bR | bR; exact absurd (ax k bR) U; omega),cC,dG,c6,J,J⟩
 refine aH 2 J<|te _<|bf 1 J<|bM<|eT<|eN ?_;obtain ⟨ac,rc,rfl⟩:=gM aq;obtain rfl :k=m:=U;obtain ⟨bn,dL⟩:∃ bn,bn=q:=⟨q,rfl⟩
 subst dL;have bh:=wi ab aa aJ aV bH am;have ew:=gh am;have dP:∀ r∈rs,r.1.length≤1048576∧r.2.length≤1048576:=fun r hr=>by
  have :=(kR (R:=fun _=>True) (S:=fun r:List UInt8×List UInt8=>r.1.length≤255∧r.2.length≤255) (fun p x q' _ dT=>⟨trivial,(FE dT).2.2⟩) trivial am).2 r hr;omega
 refine aZ 2 J<|p (du jU J (J) (show ∀ j,j < 7→av ao.heap C (0 +j)=([.int .i64 ((if n≤64 then n else 0:Nat):Int),str t,.slice ac rs.length rc,.slice none 0 0,.slice none 0 0,.slice none 0 0,.slice none 0 0]:List ag)[j]? from fun j _=>by rw [b9,bT a0.c2]; simp))<|e<|bd (F3 (if n≤64 then n else 0) t rs ac rc (.slice none 0 0) (.slice none 0 0) (.slice none 0 0) (.slice none 0 0) ao (iy aq).2 (by split <;> omega) U U dP) J ?_;rintro eW d4 ⟨rfl,a7⟩;have cm:=a0.HG a7;refine eP J (dy hH (iu _ _ _ d4) J fun eX e7 dk=> ?_) (fun c w' I σ' A=>by
  obtain ⟨rfl,hb,rfl⟩:=I;exact jk J aI ((A 2<|.head _).trans J) ((A 3<|.tail _<|.head _).trans J) (cm) (by rw [bh,vX hb]))
 obtain ⟨rfl,bI,rfl⟩:=dk;refine ay 1 J<|bM<|eT<|eT<|eN<|nA 3 J<|bM<|eN<|bY 1 J<|lp (fun aP cz al=> ∃ (M:Nat) (ls:List (List aN)) (vs:List ag) (aL:Nat),(M≤4)∧(bL (bZ s) M bn= .ok (ls,aL))∧(aL≤s.length)∧(vs.length=4)∧(aw al.heap rb [str s,.int .i64 (aL:Nat)])∧(eG w al C O<|[.int .i64 ((if n≤64 then n else 0:Nat):Int),str t,.slice ac rs.length rc]++vs)∧(∀ i,i < M→eE al (rb+1) (vs.getD i .nilFunc) (ls.getD i []))∧(Md (fun k=>k=rb∨k=C) ad al)∧(bP al ad.heap.size 60 2 (.slice ac rs.length rc) rs.length<|rs.flatMap cQ)∧(Sl cz [(0,str s),(2,.pointer (some ⟨C,0,none⟩)),(3,.pointer (some ⟨O,0,none⟩)),(4,.pointer (some ⟨rb,0,none⟩)),(52,.int .i64 (M:Nat))])∧(4 - M=aP)) _ ⟨0,[],[.slice none 0 0,.slice none 0 0,.slice none 0 0,.slice none 0 0],bn,U,J,U,J,(Wk.B a7 bU),cm,(fun i hi=>by omega),(bt.trans<|a7.mono fun _ _ h=>h.elim),(cq aq a7),J,J⟩ ?_;rintro aP cz al ⟨M,ls,vs,aL,et,aY,ey,a3,br,ae,bu,c9,bi,dS,rfl⟩;refine bF dS<|bY 6 J<|cd J (fun dv=> ?_) fun dv=> ?_;refine aF 13 J ?_;refine eP J (dy nj (FW rb s aL al br aK U) J fun eY e8 dl=> ?_) (fun c w' I σ' A=>by
  obtain ⟨e,he,rfl,Z⟩:=I;exact jk J aI ((A 2<|.head _).trans J) ((A 3<|.tail _<|.head _).trans J) (ae.rb Z U U U) (by rw [bh,vY bI (fN aY he (show M < 4 by omega))]))
 obtain ⟨az,bJ,cg,bW,cW,b4⟩:=dl;obtain ⟨aM,cc,rfl,eb,d7⟩:=bW.dN;have bm:=ae.rb b4 U U U;have eh:=y7 cg;refine ai 1 J<|p (gf jV J J U)<|e<|dZ vP J J (v:= .slice aM az.length cc) J bm.c2 (by simp only [cj,cZ,iD,a3]; omega) fun bp aR cF=> ?_;have dz:=gh aY;have bD:bp.heap[C]? =some (.cells ([.int .i64 ((if n≤64 then n else 0:Nat):Int),str t,.slice ac rs.length rc]++vs.set M (.slice aM az.length cc)).toArray 42 (0,0)):=by rw [← tJ]; exact cF
 have dH:eG w bp C O ([.int .i64 ((if n≤64 then n else 0:Nat):Int),str t,.slice ac rs.length rc]++vs.set M (.slice aM az.length cc)):=⟨bD,aR.ar bm.c3 (fun h=>by omega),by simp [a3],bm.lo,bm.wk.trans' aR fun k E h=>by omega⟩
 have cG:=aR.B cW fun h=>by omega
 have eA:=br.lt;have bA:Md (fun k=>k=rb∨k=C) al bp:=(b4.mono fun _ _ h=> .inl h).trans<|aR.mono fun _ _ h=> .inr h;have da:∀ i,i < M+1→eE bp (rb+1) ((vs.set M<|.slice aM az.length cc).getD i .nilFunc) ((ls++ [az]).getD i []):=fun i hi=>by
  rcases de i M with h | h;rw [pq U,xA U];exact (bu i h).md bA fun k E hb=>absurd hb U;obtain rfl :i=M:=U;rw [nz U,xz dz.symm];exact (bW.mono U).md aR fun k E hb=>absurd hb U
 exact ay 7 J<|tn<|⟨_,U,M+1,ls++ [az],vs.set M (.slice aM az.length cc),bJ,U,(j3 aY cg),U,(by rw [jc]; exact a3),cG,dH,da,(c9.trans bA),(cP bi bA fun k E h=>by have :=(dc bi E).1; omega),J,J⟩
 refine aH 2 J<|te _<|bf 1 J<|bM<|eT<|eN ?_;obtain rfl :M=4:=U;obtain ⟨aB,aC,aD,aE,rfl⟩:∃ aB aC aD aE,vs= [aB,aC,aD,aE]:=by
  match vs,a3 with
  | [aB,aC,aD,aE],_=>exact ⟨_,_,_,_,rfl⟩
 have a5:∀ i,i < 4→([aB,aC,aD,aE].getD i .nilFunc).oneCell'=true :=fun i hi=>by
  obtain ⟨_,_,e,_⟩:=(bu i hi).dN;rw [e]; rfl
 have dI:([.int .i64 ((if n≤64 then n else 0:Nat):Int),str t,.slice ac rs.length rc,aB,aC,aD,aE]:List ag).all eV=true :=by
  have bK:=a5 0 U;have bN:=a5 1 U;have bO:=a5 2 U;have bQ:=a5 3 U;simp only [q7,uU] at bK bN bO bQ;simp only [lU,qZ,bK,bN,bO,bQ]; rfl
 refine aZ 5 J<|p (aA J<|br.aO 1)<|ai 3 J ?_;refine eP J (dy hH (iu _ _ _ al) J fun e0 cv dm=> ?_) (fun c w' I σ' A=>by
  obtain ⟨rfl,hb,rfl⟩:=I;exact jk J aI ((A 2<|.head _).trans J) ((A 3<|.tail _<|.head _).trans J) (ae) (by rw [bh,vZ bI aY (fun h=>of_decide_eq_false hb<|by rw [h])]))
 obtain ⟨rfl,dV,rfl⟩:=dm;have dO:aL=s.length:=by have :=of_decide_eq_true dV; omega
 refine ay 1 J<|bM<|eT<|eN<|aZ 1 J<|p (du jU J (J) (show ∀ j,j < 7→av cv.heap C (0 +j)=([.int .i64 ((if n≤64 then n else 0:Nat):Int),str t,.slice ac rs.length rc,aB,aC,aD,aE]:List ag)[j]? from fun j _=>by rw [b9,bT ae.c2]; simp))<|e<|dx mc J J J dI ae.c2 (by rw [ae.len]; decide) fun d0 b1 cK=> ?_;have dq:d0.heap[C]? =some (.cells ([.int .i64 ((if n≤64 then n else 0:Nat):Int),str t,.slice ac rs.length rc]++ [aB,aC,aD,aE]).toArray 42 (0,0)):=cK.trans<|by rw [A3 (by rw [ae.len]; decide),List.take_zero,List.nil_append,List.append_nil]; rfl
 refine e<|dZ rV J J (v:= .int .i64 0) J (b1.ar ae.c3 fun h=>by omega) aI fun d1 b2 cL=>ay 1 J<|bM<|FK ?_;exact C4 J aI J J (b2.ar dq fun h=>by omega) cL J (fun w' hm=>by
  unfold gW;rw [bh,wa bI aY dO];have bw:Md (fun k=>k=C∨k=O) cv d1:=(b1.mono fun _ _ h=> .inl h).trans<|b2.mono fun _ _ h=> .inr h;refine ⟨⟨_,J,ac,rc,_,J,a3,(iy<|cq (cP bi bw fun k E h=>by have :=(dc bi E).1; omega) hm).2,fun i hi=>(((bu i hi).md bw fun k E hb=>absurd hb U).wk hm).mono U⟩,(ae.wk.trans' bw fun k E h=>by omega).trans hm⟩)
theorem nG {α:Type} {f:Nat→Except Nat (α×Nat)} (C:∀ a e,f a= .error e→e≠0):∀ {k a e:Nat},bL f k a= .error e→e≠0
 | 0,a,e,h=>by cases h
 | k+1,a,e,h=>by
   rw [bL] at h;split at h
   · rename_i E A;cases h;exact nG C A
   · split at h
     · rename_i E A;cases h;exact C _ _ A
     · cases h
theorem mQ {s:List UInt8} {a e:Nat} (h:aU s a= .error e):e≠0:=by rcases tF h with h | h <;> omega
theorem ss {s:List UInt8} {a e:Nat} (h:cn s a= .error e):e≠0:=by
 unfold cn at h;split at h
 · rename_i A; cases h; exact mQ A
 · repeat' split at h
   all_goals first | (cases h; decide) | cases h
theorem FF {s:List UInt8} {a e:Nat} (h:eZ s a= .error e):e≠0:=by
 unfold eZ at h;split at h
 · rename_i A; cases h; exact ss A
 · split at h
   · rename_i A; cases h; exact ss A
   · cases h
theorem Di {s:List UInt8} {n a e:Nat} (h:dt s n a= .error e):e≠0:=by
 unfold dt at h;split at h
 · cases h; decide
 · split at h
   · rename_i A; cases h; exact mQ A
   · split at h
     · cases h; decide
     · cases h
theorem GA {s:List UInt8} {n a e:Nat} (h:eo s n a= .error e):e≠0:=by
 unfold eo at h;split at h
 · rename_i A; cases h; exact mQ A
 · split at h
   · cases h; decide
   · split at h
     · rename_i A; cases h; exact nG (fun _ _=>Di) A
     · cases h
theorem FT {s:List UInt8} {a e:Nat} (h:bZ s a= .error e):e≠0:=by
 unfold bZ at h;split at h
 · rename_i A; cases h; exact mQ A
 · split at h
   · cases h; decide
   · split at h
     · rename_i A; cases h; exact nG (fun _ _=>GA) A
     · split at h
       · cases h
       · cases h; decide
theorem C2 {s:List UInt8} {e:Nat} (h:bE s= .error e):e≠0:=by
 unfold bE at h;split at h
 · split at h
   · rename_i A; cases h; exact mQ A
   · split at h
     · rename_i A; cases h; exact ss A
     · split at h
       · rename_i A; cases h; exact mQ A
       · split at h
         · cases h; decide
         · split at h
           · rename_i A; cases h; exact nG (fun _ _=>FF) A
           · generalize (if _≤64 then _ else 0)=n0 at h;unfold eJ at h;split at h
             · split at h
               · rename_i A; cases h; exact nG (fun _ _=>FT) A
               · split at h
                 · cases h
                 · cases h; decide
             · cases h; decide
 · cases h; decide
theorem gW.form {s:List UInt8} {w w':ah} {v:ag} (h:gW s w v w'):∃ M O x2 V Z aa ab e,v= .tuple #[.agg [M,O,x2,V,Z,aa,ab].toArray,.int .i64 ((e:Nat):Int)]∧[M,O,x2,V,Z,aa,ab].all eV=true∧Wk w w'∧
 ((e≠0∧bE s= .error e)∨(e=0∧∃ b,bE s= .ok b∧lY w' w.heap.size [M,O,x2,V,Z,aa,ab] b)):=by
 obtain ⟨h,aj⟩:=h;cases hX:bE s with
 | error e=>
   rw [hX] at h;exact ⟨_,_,_,_,_,_,_,e,h,J,aj,.inl ⟨C2 hX,J⟩⟩
 | ok b=>
   rw [hX] at h;obtain ⟨cs,al,hb⟩:=h;obtain ⟨ao,rc,vs,rfl,am,an,ak⟩:=id hb;obtain ⟨C,E,I,L,rfl⟩:∃ C E I L,vs= [C,E,I,L]:=by
    match vs,am with
    | [C,E,I,L],_=>exact ⟨_,_,_,_,rfl⟩
   have A:∀ i,i < 4→([C,E,I,L].getD i .nilFunc).oneCell'=true :=fun i hi=>by
    obtain ⟨_,_,e,_⟩:=(ak i hi).dN;rw [e]; rfl
   have ac:=A 0 U;have ad:=A 1 U;have ae:=A 2 U;have ai:=A 3 U;simp only [q7,uU] at ac ad ae ai;exact ⟨_,_,_,_,_,_,_,0,al,by simp only [lU,qZ,ac,ad,ae,ai]; rfl,aj,.inr ⟨J,b,J,hb⟩⟩
def dH (w:ah) (B cb:Nat) (b:cI) (A:List UInt8):Prop := ∃ cs,aw w.heap cb (cs++ [str A])∧lY w B cs b∧B≤cb
theorem dH.wk {w w':ah} {B cb:Nat} {b:cI} {A:List UInt8} (h:dH w B cb b A) (hm:Wk w w'):dH w' B cb b A:=by
 obtain ⟨cs,h1,C,E⟩:=h;exact ⟨cs,Wk.B hm h1,C.wk hm,E⟩
def BA (s:List UInt8) (w:ah) (v:ag) (w':ah):Prop :=(match bE s with
 | .ok b=> ∃ cb,v= .tuple #[.pointer (some ⟨cb,0,none⟩),.nilIface]∧dH w' w.heap.size cb b s
 | .error e=>v= .tuple #[.pointer none,.iface 35 (.int .i64 ((e:Nat):Int))])∧Wk w w'
theorem sU (s:List UInt8) (w:ah) (aC:s.length≤1048576):
 bj ak 6 (bz [str s]) w (BA s w):=by
 refine enter func6 J ntmps6 J<|aZ 8 J<|p mv<|e<|bd (C5 s w aC) J fun aQ aD ar=> ?_;obtain ⟨A,C,x2,E,I,M,O,ae,rfl,aB,aa,Z⟩:=gW.form ar;have aP:=aa.size;refine p mv<|ai 2 J<|e<|dC qL fun ad aS aH aj an=> ?_;have aM:=aj.size;refine e<|dx mc J J J aB an aI fun ac aq ao=> ?_;have ap:aw ac.heap ad [A,C,x2,E,I,M,O]:=⟨_,ao⟩
 have V:Wk aD ac:=aj.md.trans' aq fun k aK h=>by omega
 have aN:=V.size;refine aG 10 J<|cd J (fun aA=> ?_) fun aA=> ?_;have Z:ae≠0∧bE s= .error ae:=Z.resolve_right fun h=>by omega
 refine aF 3 J<|p (pJ nL J)<|ay 6 J<|f2 J J J ?_;refine ⟨?_,aa.trans V⟩;rw [Z.2];exact J;obtain ⟨aJ,b,ax,az⟩:=Z.resolve_left fun h=>by omega
 refine aF 4 J<|p (du jU J (J) (show ∀ j,j < 7→av ac.heap ad (0 +j)=([A,C,x2,E,I,M,O]:List ag)[j]? from fun j _=>ap.aO j))<|p mv<|p (Ca (ps:= [(0,.agg [A,C,x2,E,I,M,O].toArray),(1,str s)]) (L:= [A,C,x2,E,I,M,O,str s]) Gr J<|by simp [Instr.fill,Value.cells,str])<|e<|oW (L:= [A,C,x2,E,I,M,O,str s]) J fun al aR aE ab am=> ?_;have aL:=ab.size;refine ay 5 J<|f2 J J J ?_;refine ⟨?_,(aa.trans V).trans ab.md⟩;rw [ax];exact ⟨al,J,_,⟨_,am⟩,az.wk (V.trans ab.md),U⟩
end Go.Hb.kz
end
section
namespace Go.Hb.dH
open Go.Hb.ew
open Go.Hb.iG Go.Hb.kz
def gi (c:UInt8) (es:List (UInt8×Int)):Nat:=es.findIdx fun e=>e.1==c
theorem Ef {c:UInt8} {es:List (UInt8×Int)} {i:Nat} {e:UInt8×Int} (he:es[i]? =some e) (A:e.1=c) (E:∀ (j:Nat) (e':UInt8×Int),j < i→es[j]? =some e'→e'.1≠c):gi c es=i:=by
 unfold gi;obtain ⟨hi,rfl⟩:=cJ.1 he;rw [List.findIdx_eq hi];refine ⟨by simpa using A,fun j C=> ?_⟩;have :=E j _ C<|bH U;simpa using this
theorem Eg {c:UInt8} {es:List (UInt8×Int)} (C:∀ (j:Nat) (e':UInt8×Int),es[j]? =some e'→e'.1≠c):gi c es=es.length:=by
 unfold gi;refine List.findIdx_eq_length.2 fun e he=> ?_;obtain ⟨j,A⟩:=List.mem_iff_getElem?.1 he;simpa using C j e A
def fD (l:List aN):Nat→List UInt8→Option Nat×Nat
 | n,[]=>(some n,0)
 | n,c::w=>if gi c (aC l n).2 < (aC l n).2.length then ((fD l ((aC l n).2.getD (gi c (aC l n).2) (0,0)).2.toNat w).1,(fD l ((aC l n).2.getD (gi c (aC l n).2) (0,0)).2.toNat w).2 +1) else (none,0)
def gY (l:List aN) (w:List UInt8):Option Nat×Nat:=if l= [] then (none,0) else fD l 0 w
def eY (l:List aN) (w:List UInt8):Bool:=match (gY l w).1 with
 | some n=>(aC l n).1
 | none=>false
def fW (l:List aN):Prop :=l.length≤1048576∧∀ x∈l,x.2.length≤256∧∀ e∈x.2,0≤e.2∧e.2 < l.length
theorem fW.nil:fW []:=⟨by simp,fun x A=>by simp at A⟩
theorem fW.st {l:List aN} (h:fW l) {n:Nat} (hn:n < l.length):(aC l n).2.length≤256∧∀ (i:Nat) e,(aC l n).2[i]? =some e→0≤e.2∧e.2 < l.length:=by
 have :=h.2 _<|iL (d:=dI) hn;exact ⟨this.1,fun i e he=>this.2 e<|lW he⟩
def bJ (b:cI) (n:Int):List aN:=if 0≤n∧n < 4 then b.bw.getD n.toNat [] else []
theorem qh {s:List UInt8} {b:cI} (h:b.Is s) (n:Int):fW (bJ b n):=by
 unfold bJ;split
 · rename_i hn;have hm:b.bw.getD n.toNat []∈b.bw:=iL<|by rw [h.pL]; omega
   obtain ⟨_,A,C⟩:=h.bw _ hm;exact ⟨A,C⟩
 · exact fW.nil
theorem dH.sec {w:ah} {B cb:Nat} {b:cI} {J:List UInt8} (h:dH w B cb b J) {n:Nat} (hn:n < 4):∃ A cc,av w.heap cb (3 +n)=some (.slice A (b.bw.getD n []).length cc)∧dg w.heap A (b.bw.getD n []):=by
 obtain ⟨cs,C,⟨M,rc,vs,rfl,L,_,E⟩,_⟩:=h;obtain ⟨A,cc,e,_,I⟩:=(E n hn).dN;refine ⟨A,cc,?_,I⟩;rw [C.av,eh (by simp only [cj,cZ,iD]; omega),et (by simp)];rw [cg] at e;have :vs[n]? =some (vs[n]'U):=bH U;rw [this] at e;show vs[3 +n - 3]? =_;rw [Bp,this,← e]; rfl
theorem dg.none (h:Array Obj):dg h none []:=⟨fun h=>by simp at h,fun i hi=>by simp at hi⟩
theorem FV (B I:Nat) (b:cI) (Z:List UInt8) (n:Int) (w:ah) (L:dH w B I b Z):
 bj ak 35 (bz [aR I,.int .i64 n]) w (fun v w'=>(∃ C cc,v= .slice C (bJ b n).length cc∧dg w'.heap C (bJ b n))∧Wk w w'):=by
 refine enter func35 J ntmps35 J<|aZ 9 J<|p (mr m4 J J)<|ai 1 J<|gb (t:=7) J (fun h=>absurd (h.symm.trans<|J) dd) fun aa=>ai 4 J<|gs (t:=11) J (fun O=> ?_) fun O=> ?_;refine ay 13 J<|aM J ?_;have A:bJ b n= []:=if_neg U;rw [A];exact ⟨⟨none,0,J,dg.none _⟩,Md.refl _ _⟩;refine aG 5 J<|cd J (fun M=> ?_) fun M=> ?_;refine aH 7 J<|aM J ?_;have A:bJ b n= []:=if_neg U;rw [A];exact ⟨⟨none,0,J,dg.none _⟩,Md.refl _ _⟩;obtain ⟨k,rfl⟩:∃ k:Nat,n=(k:Int):=⟨n.toNat,U⟩
 have A:bJ b (k:Int)=b.bw.getD k []:=if_pos U;obtain ⟨C,cc,E,V⟩:=dH.sec L (n:=k) U;rw [show 3 +k=0 +0 +3 +((k:Nat):Int).toNat*1 by omega] at E;refine aF 9 J<|p (gf jV J J U)<|p (aA J<|E)<|p aP<|ay 3 J<|aM J ?_;rw [A];exact ⟨⟨C,cc,J,V⟩,Md.refl _ _⟩
theorem BQ (C:UInt8×Int) (x:List UInt8) (i L I:Nat) (w:ah) (O:aw w.heap L [str x]) (M:aw w.heap I [aE i]) (hi:i < x.length):
 bj ak 60 (bz [.agg #[.int .u8 C.1.toNat,.int .i64 C.2],aR L,aR I]) w (fun v w'=>v= .bool (decide (C.1=x.getD i 0))∧Wk w w'):=by
 exact enter func60 J ntmps60 J<|aZ 2 J<|e<|l9 J fun Z ab aa E V=>aG 4 J<|eK fun A=>aK [0] J A<|cT 1 J A (V.aO 0)<|cT 2 J A ((Wk.B E.md O).aO 0)<|cT 3 J A ((Wk.B E.md M).aO 0)<|bV 4 J (eL u9 J J U) A<|aK [5,6] J A<|hn aj<|bf 2 J<|aM J<|⟨bv (by rw [Int.ofNat_inj,ru]),E.md.drew⟩
theorem Ei (a:Option bB) (c:Nat) (es:List (UInt8×Int)) (x:List UInt8) (i I E:Nat) (w:ah) (Z:jS w.heap a es) (ag:aw w.heap I [str x]) (ae:aw w.heap E [aE i]) (hi:i < x.length) (am:es.length≤256):
 bj ak 59 (bz [.slice a es.length c,.func (.func 60) #[] #[aR I,aR E]]) w (fun v w'=>(∃ r:Int,v= .int .i64 r∧((r=(gi (x.getD i 0) es:Nat)∧gi (x.getD i 0) es < es.length)∨(r= -1∧gi (x.getD i 0) es=es.length)))∧Wk w w'):=by
 refine enter func59 J ntmps59 J<|aZ 8 J<|p mv<|aG 5 J<|lp (fun O ac M=> ∃ (k:Nat),(k≤es.length)∧(∀ (j:Nat) (e':UInt8×Int),j < k→es[j]? =some e'→e'.1≠x.getD i 0)∧(Wk w M)∧(Sl ac [(0,.slice a es.length c),(1,.func (.func 60) #[] #[aR I,aR E]),(7,aE (es.length)),(8,aE k)])∧(es.length - k=O)) _ ⟨0,U,(fun j d ab=>by omega),(Md.refl _ _),J,J⟩ ?_;rintro O ac M ⟨k,al,L,A,aj,rfl⟩;refine bF aj<|bY 6 J<|cd J (fun ai=> ?_) fun ai=> ?_;refine bR 11 J ?_;obtain ⟨ad,he⟩:∃ d,es[k]? =some d:=⟨_,bH U⟩
 refine aF 4 J<|p (cC nu J J U<|Z.ok U)<|p (du rG J (J)<|(Z.wk A).two he)<|e<|CD Cn J (BQ ad x i I E M (Wk.B A ag) (Wk.B A ae) hi) J ?_;rintro an ao ⟨rfl,V⟩;refine aG 2 J<|cb J (fun hm=> ?_) fun hm=> ?_;refine aH 9 J<|tr<|bf 2 J<|aM J ?_;have aa:=Ef he (of_decide_eq_true hm) L;exact ⟨⟨(k:Nat),J,.inl ⟨by rw [aa],by rw [aa]; omega⟩⟩,A.trans V⟩;exact aF 4 J<|p (cr<|k+1)<|ay 2 J<|tn<|⟨_,U,k+1,U,(fun j e' ab C=>by rcases Nat.lt_succ_iff_lt_or_eq.1 ab with h | rfl; exact L j e' h C; rw [he] at C; cases C; exact of_decide_eq_false hm),(A.trans V),J,J⟩
 exact aH 2 J<|cy<|bf 8 J<|aM J<|⟨⟨-1,J,.inr ⟨J,Eg fun j e' C=>L j e' (by have :=(cJ.1 C).1; omega) C⟩⟩,A⟩
theorem BT {l:List aN} {n:Nat} :fD l n []=(some n,0):=rfl
theorem BU {l:List aN} {n:Nat} {c:UInt8} {w:List UInt8} (h:gi c (aC l n).2=(aC l n).2.length):fD l n (c::w)=(none,0):=by
 rw [fD,if_neg U]
theorem BS {l:List aN} {n m:Nat} {c:UInt8} {w:List UInt8} {e:UInt8×Int} (h:(aC l n).2[gi c (aC l n).2]? =some e) (he:e.2=(m:Int)):fD l n (c::w)=((fD l m w).1,(fD l m w).2 +1):=by
 have aJ:=(cJ.1 h).1;rw [fD,if_pos aJ,cg,h];show ((fD l e.2.toNat w).1,(fD l e.2.toNat w).2 +1)=_;rw [he,jJ]
theorem Db {x:List UInt8} {k:Nat} (h:k < x.length):x.drop k=x.getD k 0::x.drop (k+1):=by
 rw [List.drop_eq_getElem_cons h,cg,bH h]; rfl
def Bx (l:List aN) (x:List UInt8) (w:ah) (v:ag) (w':ah):Prop :=Wk w w'∧∃ p,v= .tuple #[p,.int .i64 ((gY l x).2:Nat)]∧match (gY l x).1 with
 | none=>p= .pointer none
 | some q=> ∃ A C,p= .pointer (some ⟨A,C,none⟩)∧av w'.heap A (C+0)=some (.bool (aC l q).1)
theorem vm (B ag:Nat) (b:cI) (aQ:List UInt8) (n:Int) (x:List UInt8) (w:ah) (aV:dH w B ag b aQ) (aD:fW (bJ b n)) (bl:x.length≤4294967296):
 bj ak 33 (bz [aR ag,.int .i64 n,str x]) w (Bx (bJ b n) x w):=by
 obtain ⟨bc,bg⟩:=id aD;refine enter func33 J ntmps33 J<|aZ 2 J<|e<|Ch J J fun M bb bi aa ax=> ?_;have bn:=aa.size;refine ai 6 J<|p mv<|p mv<|e<|bd (FV B ag b aQ n bb<|aV.wk aa.md) J ?_;rintro bq ba ⟨⟨am,cc,rfl,a0⟩,hE14⟩;have aB:=aa.md.trans hE14;refine p aP<|ai 5 J<|p mv<|aG 4 J<|cd J (fun a1=> ?_) fun a1=> ?_;have I:(bJ b n).length=0:=U;refine aH 8 J<|f2 J J J ?_;have C:gY (bJ b n) x=(none,0):=if_pos<|jL I;refine ⟨aB,.pointer none,by rw [C]; rfl,?_⟩;rw [C];have I:0 < (bJ b n).length:=U;refine aF 10 J<|p (aA J<|(aw.aO ⟨_,Wk.ar hE14 ax⟩ 0:av ba.heap M 0=some (str x)))<|aG 5 J<|lp (fun aq aS L=> ∃ (k q:Nat),(k≤x.length)∧(q < (bJ b n).length)∧(gY (bJ b n) x=((fD (bJ b n) q<|x.drop k).1,(fD (bJ b n) q<|x.drop k).2 +k))∧(dg L.heap am<|bJ b n)∧(aw L.heap M [str x])∧(Wk w L)∧(Sl aS [(5,aR M),(8,.slice am (bJ b n).length cc),(9,aE q),(19,aE (x.length)),(20,aE k)])∧(x.length - k=aq)) _ ⟨0,0,U,I,(by rw [gY,if_neg (fun h=>by rw [h] at I; simp at I)]; rfl),a0,(⟨_,Wk.ar hE14 ax⟩),aB,J,J⟩ ?_;rintro aq aS L ⟨k,q,a4,ae,hg,E,ac,V,a7,rfl⟩;refine bF a7<|bY 6 J<|cd J (fun a2=> ?_) fun a2=> ?_;refine aF 7 J<|e<|dC HU fun an bt bh aI aT=> ?_;have bm:=aI.size;refine e<|dZ dD J J J aT (by simp) fun al aY aU=> ?_;have az:aw al.heap an [aE k]:=⟨_,aU⟩
 have A:Wk L al:=Md.trans' aI.md aY fun k a4 h=>by omega
 have bo:=A.size;refine aG 3 J ?_;obtain ⟨ao,ap,ab,aX⟩:=E.two ae;have aL:=fR A ab;have Z:=aX.wk A;obtain ⟨a5,a6⟩:=aD.st ae;have aM:=Db (x:=x) (k:=k) U;refine aF 3 J<|p (cC kM J J U<|E.ok U)<|ai 1 J<|p (aA J<|aL 1 U)<|p yh<|e<|bd (Ei ao ap (aC (bJ b n) q).2 x k M an al Z (A.B ac) az U a5) J ?_;rintro br bu ⟨⟨bp,rfl,aN⟩,hE29⟩;refine aG 10 J<|cd J (fun a3=> ?_) fun a3=> ?_;have ad:=aN.resolve_left fun h=>by omega
 refine bR 1 J<|eK fun aJ=>cT 0 J aJ ((hE29.B az).aO 0)<|aK [1,2] J aJ<|hn aj<|bf 5 J<|tr<|bf 2 J<|f2 J J J ?_;have C:gY (bJ b n) x=(none,k):=by rw [hg,aM,BU ad.2]; simp
 refine ⟨(V.trans<|A.trans hE29).drew,.pointer none,by rw [C]; rfl,?_⟩;rw [C];obtain ⟨rfl,ad⟩:=aN.resolve_right fun h=>by omega
 refine bR 2 J ?_;obtain ⟨⟨c,z⟩,he⟩:∃ e,(aC (bJ b n) q).2[gi (x.getD k 0) (aC (bJ b n) q).2]? =some e:=⟨_,bH ad⟩
 obtain ⟨a8,a9⟩:=a6 _ _ he;obtain ⟨m,rfl⟩:∃ m:Nat,z=(m:Int):=⟨z.toNat,by simp only at a8; omega⟩
 simp only at a9;exact aF 3 J<|p (cC kM J J U<|E.ok U)<|ai 1 J<|p (aA J<|(fR hE29 aL) 1 U)<|ai 1 J<|p (cC nu J J U<|Z.ok U)<|ai 1 J<|p (aA J (show _=some (aW .i64 ((m:Nat):Int)) from (Z.wk hE29).to _ (c,_) he))<|ai 5 J<|p (cr<|k+1)<|ay 2 J<|tn<|⟨_,U,k+1,m,U,U,(by rw [hg,aM,BS he J]; simp only [Prod.mk.injEq,true_and]; omega),(E.wk<|A.trans hE29),(Wk.B (A.trans hE29) ac),(V.trans<|A.trans hE29),J,J⟩
 refine aH 2 J<|cy<|dU 3 J<|eK fun O=>aK [0,1] J O<|bV 2 J (cC kM J J U<|E.ok U) O<|cT 3 J O (ac.aO 0)<|aK [4,5,6] J O<|hn aj<|bf 2 J<|f2 J J J ?_;obtain rfl :k=x.length:=U;have C:gY (bJ b n) x=(some q,x.length):=by rw [hg,List.drop_length,BT]; simp
 refine ⟨Md.drew V,_,by rw [C]; rfl,?_⟩;rw [C];obtain ⟨ao,ap,ab,_⟩:=E.two ae;exact ⟨_,_,J,ab 0 U⟩
theorem D5 (B A:Nat) (b:cI) (E:List UInt8) (n:Int) (x:List UInt8) (w:ah) (I:dH w B A b E) (M:fW (bJ b n)) (U:x.length≤4294967296) (C:(gY (bJ b n) x).1=none):
 bj ak 13 (bz [aR A,.int .i64 n,str x]) w (fun v w'=>v= .bool (eY (bJ b n) x)∧Wk w w'):=by
 refine enter func13 J ntmps13 J<|aZ 7 J<|p mv<|p mv<|p mv<|e<|bd (vm B A b E n x w I M U) J ?_;rintro Z aa ⟨L,p,rfl,hp⟩;rw [C] at hp;subst hp;refine p mv<|ai 2 J<|p aP<|ai 5 J<|p mv<|p (tf zN J J)<|ai 1 J<|gb (t:=18) J (fun h=>absurd (h.symm.trans<|J) dd) fun V=>ai 5 J<|p aP<|ay 3 J<|aM J ?_;have O:eY (bJ b n) x=false :=by rw [eY,C]
 rw [O];exact ⟨J,L⟩
theorem D7 (B A:Nat) (b:cI) (E:List UInt8) (n:Int) (x:List UInt8) (w:ah) (I:dH w B A b E) (M:fW (bJ b n)) (V:x.length≤4294967296) (q:Nat) (C:(gY (bJ b n) x).1=some q):
 bj ak 13 (bz [aR A,.int .i64 n,str x]) w (fun v w'=>v= .bool (eY (bJ b n) x)∧Wk w w'):=by
 refine enter func13 J ntmps13 J<|aZ 7 J<|p mv<|p mv<|p mv<|e<|bd (vm B A b E n x w I M V) J ?_;rintro ac ad ⟨L,p,rfl,hp⟩;rw [C] at hp;obtain ⟨Z,ab,rfl,U⟩:=hp;refine p mv<|ai 2 J<|p aP<|ai 5 J<|p mv<|p (tf zN J J)<|ai 1 J<|gb (t:=18) J (fun aa=> ?_) fun h=>absurd ((J).symm.trans h) dd;refine bp J mv<|ai 2 J<|bp J (aA J<|U)<|ay 5 J<|aM J ?_;have O:eY (bJ b n) x=(aC (bJ b n) q).1:=by rw [eY,C]
 rw [O];exact ⟨J,L⟩
theorem sJ (B A:Nat) (b:cI) (C:List UInt8) (n:Int) (x:List UInt8) (w:ah) (E:dH w B A b C) (I:fW (bJ b n)) (J:x.length≤4294967296):bj ak 13 (bz [.pointer (some ⟨A,0,none⟩),.int .i64 n,str x]) w (fun v w'=>v= .bool (eY (bJ b n) x)∧Wk w w'):=by
 cases hX:(gY (bJ b n) x).1 with
 | none=>exact D5 B A b C n x w E I J hX
 | some q=>exact D7 B A b C n x w E I J q hX
theorem vI (B A:Nat) (b:cI) (C:List UInt8) (x:List UInt8) (w:ah) (E:dH w B A b C) (L:fW (bJ b 0)) (M:x.length≤4294967296):
 bj ak 14 (bz [aR A,str x]) w (fun v w'=>v= .bool (eY (bJ b 0) x)∧Wk w w'):=by
 refine enter func14 J ntmps14 J<|aZ 7 J<|p mv<|p mv<|e<|bd (sJ B A b C 0 x w E L M) J ?_;rintro O U ⟨rfl,I⟩;exact ay 4 J<|aM J<|⟨J,I⟩
end Go.Hb.dH
end
section
namespace Go.Hb.oP
open Go.Hb.ew
open Go.Hb.iG Go.Hb.kz Go.Hb.dH
def eF (w:ah) (B k:Nat) (svs:List (Bool×ag)) (l:List aN):Prop :=svs.length=l.length∧∀ (i:Nat) q e,svs[i]? =some q→l[i]? =some e→q.1=e.1∧Tg w 0 65 e.2.length q.2 (dE e.2)∧(i < k→bP w B 65 2 q.2 e.2.length (dE e.2))
theorem pS {F:Nat→Prop} {w w':ah} {B e size n:Nat} {v:ag} {xs:List ag} (h:bP w B e size v n xs) (hm:Md F w w') (E:∀ k,F k→B≤k→∀ cur z,w.heap[k]?≠some (.cells cur e z)):bP w' B e size v n xs:=cP h hm fun k A I=>by
 have C:=(dc h A).1;rcases h.2 with ⟨rfl,_⟩ | ⟨g,cap,J,rfl,_,hg,_⟩
 · simp [ff] at A
 · simp only [ff,bu] at A; subst A; exact E _ I C _ _ hg
def je (w:ah) (B:Nat) (v:ag) (l:List aN):Prop := ∃ svs:List (Bool×ag),bP w B 63 2 v l.length (dX svs)∧svs.length=l.length∧∀ (i:Nat) q e,svs[i]? =some q→l[i]? =some e→q.1=e.1∧bP w B 65 2 q.2 e.2.length (dE e.2)
theorem je.g {w:ah} {B:Nat} {v:ag} {l:List aN} (h:je w B v l):eE w B v l:=by
 obtain ⟨svs,h1,E,A⟩:=h;exact ⟨svs,Tg.kX h1,E,fun i q e C he=>⟨(A i q e C he).1,Tg.kX (A i q e C he).2⟩⟩
theorem je.md {F:Nat→Prop} {w w':ah} {B:Nat} {v:ag} {l:List aN} (h:je w B v l) (hm:Md F w w') (E:∀ k,F k→B≤k→∀ cur z,w.heap[k]?≠some (.cells cur 63 z)∧w.heap[k]?≠some (.cells cur 65 z)):je w' B v l:=by
 obtain ⟨svs,h1,J,C⟩:=h;exact ⟨svs,pS h1 hm fun k A hb cur z=>(E k A hb cur z).1,J,fun i q e I he=>⟨(C i q e I he).1,pS (C i q e I he).2 hm fun k A hb cur z=>(E k A hb cur z).2⟩⟩
theorem dR.q {w:ah} {B B':Nat} {svs:List (Bool×ag)} {l:List aN} (h:dR w B svs l):eF w B' 0 svs l:=⟨h.1,fun i q e A he=>⟨(h.2 i q e A he).1,(h.2 i q e A he).2.mono (jd _),fun hi=>by omega⟩⟩
theorem eF.p {w:ah} {B:Nat} {svs:List (Bool×ag)} {l:List aN} (h:eF w B l.length svs l):∀ (i:Nat) q e,svs[i]? =some q→l[i]? =some e→q.1=e.1∧bP w B 65 2 q.2 e.2.length (dE e.2):=fun i q e A he=>⟨(h.2 i q e A he).1,(h.2 i q e A he).2.2 (cJ.1 he).1⟩
theorem eF.md {F:Nat→Prop} {w w':ah} {B k:Nat} {svs:List (Bool×ag)} {l:List aN} (h:eF w B k svs l) (hm:Md F w w') (E:∀ k,F k→∀ cur z,w.heap[k]?≠some (.cells cur 65 z)):eF w' B k svs l:=
 ⟨h.1,fun i q e C he=>⟨(h.2 i q e C he).1,Tg.kW (h.2 i q e C he).2.1 hm (fun k A _=>E k A),fun hi=>pS ((h.2 i q e C he).2.2 hi) hm fun k A _=>E k A⟩⟩
theorem eF.set {w:ah} {B k:Nat} {svs:List (Bool×ag)} {l:List aN} {f:Bool} {v:ag} {e:aN} (h:eF w B k svs l) (he:l[k]? =some e) (L:f=e.1) (E:bP w B 65 2 v e.2.length (dE e.2)):eF w B (k+1) (svs.set k (f,v)) l:=by
 refine ⟨by rw [jc,h.1],fun i q r A hr=> ?_⟩;have O:=h.1;have M:=(cJ.1 hr).1;by_cases C:k=i
 · subst C;rw [he] at hr; cases hr;rw [Ba U] at A; cases A;exact ⟨L,(Tg.kX E).mono (jd _),fun _=>E⟩
 · rw [A9 C] at A;obtain ⟨h1,I,J⟩:=h.2 i q r A hr;exact ⟨h1,I,fun hi=>J U⟩
theorem zh:∀ (svs:List (Bool×ag)) (k:Nat) (v:ag),k < svs.length→(dX svs).set (k*2 +1) v=dX (svs.set k ((svs.getD k (false,.nilFunc)).1,v))
 | [],k,v,h=>by simp at h
 | q::svs,0,v,_=>by simp [dX]
 | q::svs,k+1,v,h=>by
   have ih:=zh svs k v<|by simpa using h
   rw [uY,uU];show (bh q.1::q.2::dX svs).set ((k+1)*2 +1) v= .bool q.1::q.2::dX _;rw [show (k+1)*2 +1=(k*2 +1)+1 +1 by omega,uY,uY,ih]
theorem F5 {w:ah} {B:Nat} {svs:List (Bool×ag)} {l:List aN} (h:dR w B svs l):(dX svs).all eV=true :=by
 rw [List.all_eq_true];intro v A;obtain ⟨q,E,A⟩:=List.mem_flatMap.1 A;obtain ⟨i,hi⟩:=List.getElem?_of_mem E;have J:=(cJ.1 hi).1;have L:=h.1;have he:l[i]? =some (l[i]'U):=bH U;obtain ⟨_,C⟩:=h.2 i _ _ hi he;obtain ⟨a,c,I⟩:=C.slice;simp only [fU,List.not_mem_nil,or_false] at A;rcases A with rfl | rfl
 · rfl
 · rw [I]; rfl
theorem Dg (es:List (UInt8×Int)):(dE es).all eV=true :=xo (fun _=>rfl) es
theorem FG (l:List (List UInt8×List UInt8)):(l.flatMap cQ).all eV=true :=xo (fun _=>rfl) l
theorem yT (l:List (List UInt8×List UInt8)):(l.flatMap cQ).length=l.length*2:=pk (m:=2) (fun _=>rfl) l
theorem vF {h:Array Obj} {a:Option bB} {n m:Nat} {xs:List ag} (C:bo h a xs) (A:xs.length=n*m) (hm:0 < m) (ha:a=none):n=0:=by
 rcases Bq n with h0 | h0
 · exact h0
 · exfalso;have E:xs≠[]:=fun e=>by
    rw [e] at A;have :0 < n*m:=Nat.mul_pos h0 hm;simp only [iD] at A; omega
   have :=bo.ok C E;rw [ha] at this; cases this
theorem nB {x y z:ag} {ws:List ag} {i:Nat} (hi:i < ws.length):([x,y,z]++ws).toArray[0 +3 +((i:Nat):Int).toNat*1]? =some (ws.getD i .nilFunc):=by
 rw [List.getElem?_toArray,show 0 +3 +((i:Nat):Int).toNat*1=i+1 +1 +1 from by omega,cg,bH hi];show ws[i]? =_;rw [bH hi]; rfl
theorem Gy {l:List aN} {n:Nat} (h:n < l.length):l[n]? =some (aC l n):=by
 unfold aC;rw [cg,bH h]; rfl
theorem four {α:Type} {l:List α} (h:l.length=4):∃ a b c d,l= [a,b,c,d]:=by
 match l,h with
 | [a,b,c,d],_=>exact ⟨a,b,c,d,rfl⟩
theorem Tg.parts {w:ah} {B e n m:Nat} {v:ag} {xs:List ag} (h:Tg w B e n v xs) (C:xs.length=n*m) (hm:0 < m):∃ a c,v= .slice a n c∧bo w.heap a xs∧(a=none→n=0):=by
 obtain ⟨a,c,rfl⟩:=h.slice;obtain ⟨_,A⟩:=h.nk;exact ⟨a,c,J,A,vF A C hm⟩
def By (b:cI) (w:ah) (v:ag) (w':ah):Prop := ∃ A rc vs,v= .agg ([.int .i64 (b.least:Nat),str b.tr,.slice A b.bW.length rc]++vs).toArray∧vs.length=4∧bP w' w.heap.size 60 2 (.slice A b.bW.length rc) b.bW.length (b.bW.flatMap cQ)∧(∀ i,i < 4→je w' w.heap.size (vs.getD i .nilFunc) (b.bw.getD i []))∧Wk w w'
theorem CA (a:Option bB) (n c:Nat) (xs:List ag) (w:ah) (L:bo w.heap a xs) (ab:xs.length=n*2) (ha:a=none→n=0) (h1:xs.all eV=true) (hn:n≤1048576):
 bj ak 29 (bz [.slice a n c]) w (fun v w'=>bP w' w.heap.size 60 2 v n xs∧Wk w w'):=by
 refine enter func29 J ntmps29 J<|aZ 9 J<|p (sa GR J J)<|aG 2 J<|cb J (fun C=> ?_) fun C=> ?_;have V:a=none:=by simpa using C
 refine aH 7 J<|aM J ?_;have Z:=ha V;subst Z;obtain rfl :=jL (show xs.length=0 by omega);exact ⟨gy _ _ _ _,Md.refl _ _⟩;refine aF 4 J<|e<|oV qv fun aj ao al A I=> ?_;have E:=I w.heap.size U;refine ai 1 J<|e<|ap qv (E) J (by have :=A.size; omega) J (L.wk A.md) (ab) (h1) U U fun ad ae aa O an am=> ?_;have M:=Wk.own A.md E O<|aY _;refine p aP<|ay 3 J<|aM J ?_;have ac:bP ae w.heap.size 60 2 ad n xs:=by simpa using aa
 exact ⟨ac,M⟩
theorem CB (a:Option bB) (n c:Nat) (xs:List ag) (w:ah) (L:bo w.heap a xs) (ab:xs.length=n*2) (ha:a=none→n=0) (h1:xs.all eV=true) (hn:n≤1048576):
 bj ak 30 (bz [.slice a n c]) w (fun v w'=>bP w' w.heap.size 63 2 v n xs∧Wk w w'):=by
 refine enter func30 J ntmps30 J<|aZ 9 J<|p (sa GS J J)<|aG 2 J<|cb J (fun C=> ?_) fun C=> ?_;have V:a=none:=by simpa using C
 refine aH 7 J<|aM J ?_;have Z:=ha V;subst Z;obtain rfl :=jL (show xs.length=0 by omega);exact ⟨gy _ _ _ _,Md.refl _ _⟩;refine aF 4 J<|e<|oV qw fun aj ao al A I=> ?_;have E:=I w.heap.size U;refine ai 1 J<|e<|ap qw (E) J (by have :=A.size; omega) J (L.wk A.md) (ab) (h1) U U fun ad ae aa O an am=> ?_;have M:=Wk.own A.md E O<|aY _;refine p aP<|ay 3 J<|aM J ?_;have ac:bP ae w.heap.size 63 2 ad n xs:=by simpa using aa
 exact ⟨ac,M⟩
theorem Cz (a:Option bB) (n c:Nat) (xs:List ag) (w:ah) (L:bo w.heap a xs) (ab:xs.length=n*2) (ha:a=none→n=0) (h1:xs.all eV=true) (hn:n≤1048576):
 bj ak 31 (bz [.slice a n c]) w (fun v w'=>bP w' w.heap.size 65 2 v n xs∧Wk w w'):=by
 refine enter func31 J ntmps31 J<|aZ 9 J<|p (sa GU J J)<|aG 2 J<|cb J (fun C=> ?_) fun C=> ?_;have V:a=none:=by simpa using C
 refine aH 7 J<|aM J ?_;have Z:=ha V;subst Z;obtain rfl :=jL (show xs.length=0 by omega);exact ⟨gy _ _ _ _,Md.refl _ _⟩;refine aF 4 J<|e<|oV qx fun aj ao al A I=> ?_;have E:=I w.heap.size U;refine ai 1 J<|e<|ap qx (E) J (by have :=A.size; omega) J (L.wk A.md) (ab) (h1) U U fun ad ae aa O an am=> ?_;have M:=Wk.own A.md E O<|aY _;refine p aP<|ay 3 J<|aM J ?_;have ac:bP ae w.heap.size 65 2 ad n xs:=by simpa using aa
 exact ⟨ac,M⟩
theorem Ce (B aK:Nat) (b:cI) (s:List UInt8) (w:ah) (cc:dH w B aK b s) (ax:b.Is s):
 bj ak 11 (bz [aR aK]) w (By b w):=by
 obtain ⟨cs,b1,⟨bm,rc,vs,rfl,c1,bx,aq⟩,hBk⟩:=cc;obtain ⟨aM,aN,aP,aQ,rfl⟩:=four c1;have cJ:aM.oneCell'=true :=by obtain ⟨a,c,h,_⟩:=(aq 0 U).dN; rw [show aM=_ from h]; rfl
 have cK:aN.oneCell'=true :=by obtain ⟨a,c,h,_⟩:=(aq 1 U).dN; rw [show aN=_ from h]; rfl
 have cL:aP.oneCell'=true :=by obtain ⟨a,c,h,_⟩:=(aq 2 U).dN; rw [show aP=_ from h]; rfl
 have cO:aQ.oneCell'=true :=by obtain ⟨a,c,h,_⟩:=(aq 3 U).dN; rw [show aQ=_ from h]; rfl
 have cV:bm=none→b.bW.length=0:=vF bx (yT _) aI;refine enter func11 J ntmps11 J<|aZ 2 J<|e<|dC qL fun aS c6 c7 a6 b4=> ?_;have dd:=a6.size;refine ai 6 J<|p (mr m4 J J)<|aG 2 J<|cf (J)<|aF 7 J<|p (du jU J (J) (show ∀ j,j < 7→av c6.heap aK (0 +j)=([aE (b.least),str b.tr,.slice bm b.bW.length rc,aM,aN,aP,aQ]:List ag)[j]? from fun j ab=>by rw [b9,(Wk.B a6.md b1).av]; exact eh<|by simpa using ab)) ?_;refine e<|dC qL fun E dq c8 a7 b8=> ?_;have dg:=a7.size;refine e<|dx mc J J J (by simp only [lU,qZ,cJ,cK,cL,cO]; rfl) b8 aI fun bU a5 bu=> ?_;have bA:Wk w bU:=(a6.md.trans a7.md).trans' a5 fun k A h=>by omega
 have dh:=a5.size;have b5:=a5.ar (Wk.ar a7.md b4) fun h=>by omega
 refine ai 5 J<|p (aA J<|(bT bu).trans J)<|e<|bd (CA bm b.bW.length rc (b.bW.flatMap cQ) bU (bx.wk bA) (yT _) cV (FG _)<|by have :=ax.yp; omega) J ?_;rintro dm a2 ⟨bc,aU⟩;obtain ⟨O,V,rfl⟩:=gM bc;have db:=aU.size;have cw:=Wk.ar aU bu;have b6:=Wk.ar aU b5;refine ai 1 J<|e<|dZ vO J J (v:= .slice O b.bW.length V) J cw (by simp) fun bV aW ca=> ?_;have dj:=aW.size;have ck:Wk w bV:=(bA.trans aU).trans' aW fun k A h=>by omega
 have cT:bP bV w.heap.size 60 2 (.slice O b.bW.length V) b.bW.length (b.bW.flatMap cQ):=cP (pT bc U) aW fun k A h=>by have :=(dc bc A).1; omega
 have b7:=aW.ar b6 fun h=>by omega
 refine aG 9 J<|lp (fun an bX C=> ∃ (i:Nat) (ws:List ag),(i≤4)∧(ws.length=4)∧(C.heap[E]? =some (.cells ([aE (b.least),str b.tr,.slice O b.bW.length V]++ws).toArray 42 (0,0)))∧(C.heap[aS]? =some (.cells [.int .i64 0,str [],.slice none 0 0,.slice none 0 0,.slice none 0 0,.slice none 0 0,.slice none 0 0].toArray 42 (0,0)))∧(bP C w.heap.size 60 2 (.slice O b.bW.length V) b.bW.length<|b.bW.flatMap cQ)∧(∀ j,j < i→je C w.heap.size (ws.getD j .nilFunc) (b.bw.getD j []))∧(∀ j,i≤j→j < 4→ws.getD j .nilFunc= [aM,aN,aP,aQ].getD j .nilFunc)∧(Wk w C)∧(E < C.heap.size)∧(Sl bX [(0,aR aK),(2,aR aS),(3,aR E),(17,aE i)])∧(4 - i=an)) _ ⟨0,[aM,aN,aP,aQ],U,J,ca,b7,cT,(fun j ab=>by omega),(fun j _ _=>rfl),ck,U,J,J⟩ ?_;rintro an bX C ⟨i,ws,hi,bl,aD,aT,a0,am,hold,ap,dl,cW,rfl⟩;refine bF cW<|bY 6 J<|cd J (fun cx=> ?_) fun cx=> ?_;refine bR 11 J ?_;obtain ⟨svs,cu,aB⟩:=(aq i U).wk ap;obtain ⟨bp,br,cY,ce,cF⟩:=Tg.parts (w:=C) (B:=B) (e:=63) (n:=(b.bw.getD i []).length) (xs:=dX svs) cu (m:=2) (by rw [zg,aB.1]) aI;have cE:(b.bw.getD i []).length≤1048576:=(ax.bw _<|iL<|by rw [ax.pL]; omega).2.1;have cA:av C.heap E (0 +3 +((i:Nat):Int).toNat*1)=some (.slice bp (b.bw.getD i []).length br):=by rw [bT aD,nB U,hold i (aY _) U,cY]
 refine aF 4 J<|p (gf jV J J U)<|p (aA J<|cA)<|e<|bd (CB bp (b.bw.getD i []).length br (dX svs) C ce (by rw [zg,aB.1]) cF (F5 aB) cE) J ?_;rintro dn dp ⟨bg,aV⟩;obtain ⟨L,Z,rfl⟩:=gM bg;have de:=aV.size;have bB:=Wk.ar aV aD;refine ai 1 J<|p (gf jV J J U)<|e<|dZ vP J J (v:= .slice L (b.bw.getD i []).length Z) J bB (by simp only [cj,cZ,iD,bl]; omega) fun aL aX cb=> ?_;have dk:=aX.size;have bC:aL.heap[E]? =some (.cells ([aE (b.least),str b.tr,.slice O b.bW.length V]++ws.set i (.slice L (b.bw.getD i []).length Z)).toArray 42 (0,0)):=by rw [← tJ]; exact cb
 have cR:bP aL C.heap.size 63 2 (.slice L (b.bw.getD i []).length Z) (b.bw.getD i []).length (dX svs):=cP bg aX fun k A h=>by have :=(dc bg A).1; omega
 have co:Md (fun k=>k=E) C aL:=(aV.mono fun _ _ h=>h.elim).trans aX;have cB:av aL.heap E (0 +3 +((i:Nat):Int).toNat*1)=some (.slice L (b.bw.getD i []).length Z):=by rw [bT bC,nB (by rw [jc]; omega),nz U]
 have ct:eF aL w.heap.size 0 svs (b.bw.getD i []):=eF.md (dR.q<|dR.wk aB aV) aX fun k A cur z h=>by subst A; rw [bB] at h; cases h
 refine ai 6 J<|p (gf jV J J U)<|p (aA J<|cB)<|aG 5 J<|lp (fun an bZ I=> ∃ (k:Nat) (us:List (Bool×ag)),(k≤(b.bw.getD i []).length)∧(us.length=(b.bw.getD i []).length)∧(bP I C.heap.size 63 2 (.slice L (b.bw.getD i []).length Z) (b.bw.getD i []).length<|dX us)∧(eF I w.heap.size k us<|b.bw.getD i [])∧(I.heap[E]? =some (.cells ([aE (b.least),str b.tr,.slice O b.bW.length V]++ws.set i (.slice L (b.bw.getD i []).length Z)).toArray 42 (0,0)))∧(Md (fun k=>k=E) C I)∧(Sl bZ [(0,aR aK),(2,aR aS),(3,aR E),(4,aE i),(17,aE i),(32,aE ((b.bw.getD i []).length)),(33,aE k)])∧((b.bw.getD i []).length - k=an)) _ ⟨0,svs,U,aB.1,cR,ct,bC,co,J,J⟩ ?_;rintro an bZ I ⟨k,us,A,bO,aJ,a8,ba,aa,cX,rfl⟩;refine bF cX<|bY 6 J<|cd J (fun cz=> ?_) fun cz=> ?_;refine bR 10 J ?_;have bE:av I.heap E (0 +3 +((i:Nat):Int).toNat*1)=some (.slice L (b.bw.getD i []).length Z):=by rw [bT ba,nB (by rw [jc]; omega),nz U]
 have bv:=(iy aJ).2;obtain ⟨q,bi⟩:∃ q,us[k]? =some q:=⟨_,bH U⟩
 have bb:(b.bw.getD i [])[k]? =some (aC (b.bw.getD i []) k):=Gy U;have bK:=bo.ok bv<|iJ (f:=fun q:Bool×ag=> [bh q.1,q.2]) (m:=2) (fun _=>rfl) aI U;obtain ⟨cU,bL,_⟩:=a8.2 k q _ bi bb;generalize bD:(aC (b.bw.getD i []) k).2=es at bL;obtain ⟨bq,bt,c0,ch,cG⟩:=Tg.parts (w:=I) (B:=0) (e:=65) (n:=es.length) (xs:=dE es) bL (m:=2) (wN _) aI;have c9:es.length≤256:=by rw [← bD]; exact (ax.bw _<|iL<|by rw [ax.pL]; omega).2.2 _ (lW bb) |>.1
 have cD:av I.heap (bk L) (fo L+k*2 +1)=some (.slice bq es.length bt):=by
  rw [fk (f:=fun q:Bool×ag=> [bh q.1,q.2]) (m:=2) (fun _=>rfl) bv bi 1 U,← c0]; rfl
 refine EL 16 fun M=>pv [0,1] J M<|sV 2 J (gf jV J J U) M<|tu 3 J M (bE)<|pv [4,5,6] J M<|sV 7 J (gf jV J J U) M<|tu 8 J M (bE)<|pv [9] J M<|sV 10 J (cC kM J J U<|bK) M<|pv [11] J M<|tu 12 J M (cD)<|nI 13 J aj<|bd (Cz bq es.length bt (dE es) I.drew (ch.wk (Md.refl _ _).drew) (wN _) cG (Dg _) U) J ?_;rintro a1 bn ⟨bJ,ao⟩;have di:=ao.size;have a9:(fun w'=>Wk I w') bn:=M.trans ao;refine ⟨a9,?_⟩;refine nI 14 J aj<|jD (cC kM J J U<|bK) ⟨a9,?_⟩;refine nI 15 J aj<|jD (fa DL J) ⟨a9,?_⟩;refine xW 16 J aj aj<|GK (j:=k*2 +1) (u:=a1) (cq aJ<|Md.fK ao) vS J J (tt bJ) (by rw [jJ]; omega) U fun bS az bI=> ?_;have da:=az.size;have bQ:∀ k,(iC L (b.bw.getD i []).length Z).ownBlock=some k→C.heap.size≤k:=fun k h=>(dc aJ h).1;have a3:Wk I bn:=Md.fK ao;have cp:Md (fun k=>k=E) C bS:=(aa.trans<|a3.mono fun _ _ h=>h.elim).trans' az fun k A h=>by have :=bQ k h; omega
 have cv:bP bn w.heap.size 65 2 a1 es.length (dE es):=pT bJ<|by have :=ap.size; have :=aa.size; show w.heap.size≤I.heap.size; omega
 have bN:=kZ (e':=65) (cq aJ a3) aI;have cr:eF bS w.heap.size (k+1) (us.set k (q.1,a1)) (b.bw.getD i []):=eF.set (eF.md (eF.md a8 a3 fun _ h=>h.elim) az bN) bb cU<|by rw [bD]; exact pS cv az fun k A _=>bN k A
 exact xX aj<|bf 6 J<|tn<|⟨_,U,k+1,us.set k (q.1,a1),U,(by rw [jc]; exact bO),(by rw [zh _ _ _ U,show us.getD k (false,.nilFunc)=q from by rw [cg,bi]; rfl] at bI; exact bI),cr,(az.ar (Wk.ar ao ba) fun h=>by have :=bQ E h; omega),cp,J,J⟩
 refine aH 2 J<|cy<|dU 3 J ?_;obtain rfl :k=(b.bw.getD i []).length:=U;have cm:Wk w I:=ap.trans' aa fun k A h=>by omega
 have cH:∀ j,j < i+1→je I w.heap.size ((ws.set i<|.slice L (b.bw.getD i []).length Z).getD j .nilFunc) (b.bw.getD j []):=fun j ab=>by
  by_cases h:j=i;subst h;rw [nz U];exact ⟨us,pT aJ (show w.heap.size≤C.heap.size from ap.size),bO,eF.p a8⟩;rw [pq U];exact (am j U).md aa fun k A hb cur z=>by subst A; rw [aD]; exact ⟨by simp,by simp⟩
 exact aH 4 J<|tn<|⟨_,U,i+1,ws.set i (.slice L (b.bw.getD i []).length Z),U,(by rw [jc]; exact bl),ba,(aa.ar aT fun h=>by omega),(cP a0 aa fun k A h=>kZ a0 aI k A _ _<|h ▸ aD),cH,(fun j h1 b0=>by rw [pq U]; exact hold j U b0),cm,(by have :=aa.size; omega),J,J⟩
 refine aH 2 J<|cy<|dU 3 J ?_;obtain rfl :i=4:=U;obtain ⟨ac,ad,ae,al,rfl⟩:=four bl;have c2:ac.oneCell'=true :=by obtain ⟨a,c,h,_⟩:=(am 0 U).g.dN; rw [show ac=_ from h]; rfl
 have c3:ad.oneCell'=true :=by obtain ⟨a,c,h,_⟩:=(am 1 U).g.dN; rw [show ad=_ from h]; rfl
 have c4:ae.oneCell'=true :=by obtain ⟨a,c,h,_⟩:=(am 2 U).g.dN; rw [show ae=_ from h]; rfl
 have c5:al.oneCell'=true :=by obtain ⟨a,c,h,_⟩:=(am 3 U).g.dN; rw [show al=_ from h]; rfl
 refine aF 1 J<|p (du jU J (J) (show ∀ j,j < 7→av C.heap E (0 +j)=([aE (b.least),str b.tr,.slice O b.bW.length V,ac,ad,ae,al]:List ag)[j]? from fun j ab=>by rw [b9,bT aD]; simp))<|e<|dx mc J J J (by simp only [lU,qZ,c2,c3,c4,c5]; rfl) aT aI fun a2 a4 b2=> ?_;have ci:Wk w a2:=ap.trans' a4 fun k A h=>by omega
 have cn:∀ j,j < 4→je a2 w.heap.size ([ac,ad,ae,al].getD j .nilFunc) (b.bw.getD j []):=fun j ab=>(am j ab).md a4 fun k A hb cur z=>by subst A; rw [aT]; exact ⟨by simp,by simp⟩
 have cS:=cP a0 a4 fun k A h=>kZ a0 aI k A _ _<|h ▸ aT;have b3:aw a2.heap aS [aE (b.least),str b.tr,.slice O b.bW.length V,ac,ad,ae,al]:=⟨_,b2⟩
 exact ay 3 J<|nv J (gp (cs:= [aE (b.least),str b.tr,.slice O b.bW.length V,ac,ad,ae,al]) J jU J fun j ab=>b3.aO j)<|⟨O,V,[ac,ad,ae,al],J,J,cS,cn,ci⟩
end Go.Hb.oP
end
section
namespace Go.Hb
open Go.Hb.ew
open Go.Hb.iG
theorem Ey {s:List UInt8} {a i:Nat} (h:a+i < s.length) (hb:(s.getD (a+i) 0).toNat < 128):(s.getD (a+i) 0).toNat=c8 ((s.drop<|a+i).take<|i+1 - i):=by
 rw [show i+1 - i=1 by omega,drop_cons 0 h];show _=c8 [s.getD (a+i) 0];rw [c8,c8]; omega
theorem Ex {i b:Nat} (hi:i≤9) (hb:b < 128) (I:¬(i=9∧1 < b)):(b+1)*128 ^ i≤18446744073709551616:=by
 have E:(128:Nat) ^ 9=9223372036854775808:=aI;have C:(128:Nat) ^ 8=72057594037927936:=aI;rcases de i 9 with h | h
 · have h1:(128:Nat) ^ i≤128 ^ 8:=oI aI U;have A:=Nat.mul_le_mul (show b+1≤128 by omega) h1;omega
 · obtain rfl :i=9:=U;have A:=lX (128 ^ 9) (show b+1≤2 by omega);omega
theorem Ew {s:List UInt8} {a i k:Nat} (h:k < i) (ha:a+i < s.length) (hb:128≤(s.getD (a+k) 0).toNat):c8 ((s.drop<|a+k).take<|i+1 - k)=c8 ((s.drop<|a+(k+1)).take<|i+1 - (k+1))*128 +((s.getD (a+k) 0).toNat - 128):=by
 rw [drop_cons (i:=a+k) 0 U,show i+1 - k=(i+1 - (k+1))+1 by omega,List.take_succ_cons,c8,Nat.add_assoc a k 1];have :=ku<|s.getD (a+k) 0;omega
theorem Cc {n c k:Nat} (h:(n+1)*128 ^ (k+1)≤18446744073709551616) (A:c < 128):(n*128 +c+1)*128 ^ k≤18446744073709551616:=by
 refine cH ?_ h;rw [Nat.pow_succ,u6 (128 ^ k) 128,← Nat.mul_assoc];exact lX _ U
theorem Cd {n k:Nat} (h:(n+1)*128 ^ (k+1)≤18446744073709551616):n*128 +128≤18446744073709551616:=by
 have h1:128 ^ 1≤128 ^ (k+1):=oI aI U;have A:=u7 (n+1) h1;omega
theorem FN (s:List UInt8) (a:Nat):∃ n C A:Nat,tE (aU s a)= .tuple #[.int .u64 (n:Nat),.int .i64 (C:Nat),.int .i64 (A:Nat)]∧((A=0∧aU s a= .ok (n,C))∨(A≠0∧aU s a= .error A)):=by
 cases h:aU s a with
 | ok x=>exact ⟨x.1,x.2,0,rfl,.inl ⟨rfl,rfl⟩⟩
 | error e=>
   refine ⟨0,0,e,J,.inr ⟨?_,J⟩⟩;rcases tF h with h | h <;> omega
theorem FI (s:List UInt8) (a:Nat) (w:ah) (aT:s.length≤1048576) (ha:a≤s.length):
 bj ak 46 (bz [str s,aE a]) w (fun v w'=>v=tE (aU s a)∧Wk w w'):=by
 refine enter func46 J ntmps46 J<|aZ 10 J<|p mv<|ai 2 J<|gs (t:=13) J (fun h=>absurd h U) fun aQ=>bp J mv<|bp J mv<|aG 5 J<|cd J (fun ao=> ?_) fun ao=> ?_;exact aH 9 J<|f3 J J J J<|⟨by rw [qc (iq (k:=0) U (fun j Z=>by omega)<|.inr<|.inl U) U U]; rfl,Md.refl _ _⟩
 refine bR 7 J ?_;refine eS (fun ae aa=> ∃ (i:Nat),(i≤10)∧(∀ j,j < i→a+j < s.length∧128≤(s.getD (a+j) 0).toNat)∧(i=10∨s.length≤a+i∨(s.getD (a+i) 0).toNat < 128)∧(Wk w aa)∧(Sl ae [(0,str s),(1,aE a),(7,aE i)])) ?_ ?_;refine bY 1 J<|lp (fun E ag ac=> ∃ (i:Nat),(i≤10)∧(∀ j,j < i→a+j < s.length∧128≤(s.getD (a+j) 0).toNat)∧(Wk w ac)∧(Sl ag [(0,str s),(1,aE a),(7,aE i)])∧(10 - i=E)) _ ⟨0,U,(fun j Z=>by omega),(Md.refl _ _),J,J⟩ ?_;rintro E ag ac ⟨i,hi,C,L,aI,rfl⟩;refine bF aI<|aZ 6 J<|gs (t:=21) J (fun ax=> ?_) fun ax=> ?_;refine ai 8 J<|gs (t:=29) J (fun az=> ?_) fun az=> ?_;refine ai 3 J<|bp J (cr<|a+i)<|bp J (eL u9 J J U)<|aG 4 J<|cd J (fun ap=> ?_) fun ap=> ?_;exact aF 5 J<|p (cr<|i+1)<|ay 3 J<|tn<|⟨_,U,i+1,U,(fun j Z=>by rcases de j i with h | h <;> first | exact C j h | (have am:j=i:=U; subst am; exact ⟨U,U⟩)),L,J,J⟩
 exact aH 2 J<|cy<|bf 1 J<|tn<|⟨i,hi,C,(.inr<|.inr U),L,J⟩
 exact ay 12 J<|cy<|bf 1 J<|tn<|⟨i,hi,C,(.inr<|.inl U),L,J⟩
 exact ai 7 J<|p mv<|ay 12 J<|cy<|bf 1 J<|tn<|⟨i,hi,C,(.inl U),L,J⟩
 rintro ae aa ⟨i,hi,C,aL,A,aD⟩;refine bF aD ?_;have I:=iq (s:=s) (a:=a) (k:=i) hi C aL;refine bR 7 J<|cd J (fun aq=> ?_) fun aq=> ?_;exact aH 9 J<|f3 J J J J<|⟨by rw [yU U]; rfl,A⟩
 refine bR 13 J<|cd J (fun ar=> ?_) fun ar=> ?_;exact aH 9 J<|f3 J J J J<|⟨by rw [qc I U U]; rfl,A⟩
 refine aF 7 J<|p (cr<|a+i)<|p (eL u9 J J U)<|aG 3 J ?_;refine eS (fun aj ab=> ∃ (aN:Unit),(¬((i=9∧1 < (s.getD (a+i) 0).toNat)∨(0 < i∧(s.getD (a+i) 0).toNat=0)))∧(Wk w ab)∧(Sl aj [(0,str s),(1,aE a),(7,aE i),(8,.int .u8 (s.getD (a+i) 0).toNat)])) ?_ ?_;refine aZ 5 J<|gs (t:=54) J (fun aA=> ?_) fun aA=> ?_;refine ai 4 J<|gs (t:=58) J (fun aB=> ?_) fun aB=> ?_;exact ay 18 J<|tr<|f3 J J J J<|⟨by rw [mP I U U U]; rfl,A⟩
 refine ai 3 J<|gs (t:=61) J (fun O=> ?_) fun O=> ?_;refine aG 6 J<|cd J (fun M=> ?_) fun M=> ?_;exact aH 8 J<|tr<|f3 J J J J<|⟨by rw [mP I U U U]; rfl,A⟩
 exact aH 1 J<|tn<|⟨(),U,A,J⟩
 exact ai 3 J<|p (pV J)<|ay 4 J<|tn<|⟨(),U,A,J⟩
 refine ai 3 J<|p mv<|ai 3 J<|gs (t:=61) J (fun O=> ?_) fun O=> ?_;refine aG 6 J<|cd J (fun M=> ?_) fun M=> ?_;exact aH 8 J<|tr<|f3 J J J J<|⟨by rw [mP I U U U]; rfl,A⟩
 exact aH 1 J<|tn<|⟨(),U,A,J⟩
 exact ai 3 J<|p (pV J)<|ay 4 J<|tn<|⟨(),U,A,J⟩
 rintro aj ab ⟨aN,aw,an,aJ⟩;refine bF aJ<|aF 3 J<|p (fE m5 ui J<|fw U)<|aG 12 J<|lp (fun E al ad=> ∃ (k n:Nat) (x:Int),(k≤i)∧(x=(k:Int) - 1)∧(n=c8 ((s.drop<|a+k).take<|i+1 - k))∧((n+1)*128 ^ k≤18446744073709551616)∧(Wk w ad)∧(Sl al [(0,str s),(1,aE a),(7,aE i),(9,.int .u64 (n:Nat)),(10,.int .i64 x)])∧(k=E)) _ ⟨i,(s.getD (a+i) 0).toNat,(i:Int) - 1,U,J,(Ey U U),(Ex U U U),an,J,J⟩ ?_;rintro E al ad ⟨k,n,x,aS,aV,hn,hb,V,aK,rfl⟩;refine bF aK<|bY 7 J<|cd J (fun av=> ?_) fun av=> ?_;obtain ⟨k,rfl⟩:∃ aM:Nat,k=aM+1:=⟨k - 1,U⟩
 obtain rfl :x=(k:Int):=U;obtain ⟨aR,aC⟩:=C k U;have aO:=Cd hb;have aP:=ku<|s.getD (a+k) 0;exact aF 6 J<|p (tc ((n*128:Nat):Int) J J<|(fw U).trans U)<|ai 3 J<|p (cr<|a+k)<|p (eL u9 J J U)<|p (tG (((s.getD (a+k) 0).toNat - 128:Nat):Int) J J<|(uw U).trans U)<|p (fE m5 ui J<|fw U)<|p (rE ((n*128 +((s.getD (a+k) 0).toNat - 128):Nat):Int) J J<|(fw U).trans U)<|ay 9 J<|tn<|⟨_,U,k,n*128 +((s.getD (a+k) 0).toNat - 128),(k:Int) - 1,U,J,(by rw [hn]; exact (Ew U U aC).symm),(Cc hb U),V,J,J⟩
 refine aH 2 J<|cy<|iM 7 J<|p (cr<|a+i)<|p (cr<|a+i+1)<|ay 6 J<|f3 J J J J ?_;obtain rfl :k=0:=U;rw [iF,Nat.sub_zero] at hn;subst hn;exact ⟨by rw [qa I U U aw]; rfl,V⟩
theorem mC (rb:Nat) (s:List UInt8) (a f:Nat) (w:ah) (C:aw w.heap rb [str s,aE a,aE f]) (az:s.length≤1048576) (ha:a≤s.length):
 bj ak 21 (bz [aR rb]) w (fun v w'=> ∃ n E q:Nat,v= .int .u64 (n:Nat)∧aw w'.heap rb [str s,aE E,aE q]∧E≤s.length∧n < 18446744073709551616∧((f=0∧q=0∧aU s a= .ok (n,E))∨(q≠0∧n=0∧((f≠0∧q=f)∨(f=0∧aU s a= .error q))))∧Md (fun k=>k=rb) w w'):=by
 refine enter func21 J ntmps21 J<|aZ 8 J<|p mv<|ai 2 J<|p (aA J<|C.aO 2)<|aG 3 J<|cd J (fun aq=> ?_) fun aq=> ?_;exact aH 7 J<|aM J<|⟨0,a,f,J,C,ha,aI,.inr ⟨U,J,.inl ⟨U,J⟩⟩,Md.refl _ _⟩
 refine bR 3 J<|eK fun A=>bV 0 J (mv) A<|aK [1,2] J A<|cT 3 J A (C.aO 0)<|bV 4 J (mv) A<|aK [5,6] J A<|cT 7 J A (C.aO 1)<|he 8 J aj<|bd (FI s a w.drew az ha) J ?_;rintro v20 aC ⟨aa,I⟩;obtain ⟨n,E,ae,ax,ab⟩:=FN s a;rw [ax] at aa;subst aa;have O:=Wk.B (Md.fK I) C;have V:=(Md.fK I).mono (G:=fun k=>k=rb) fun _ _ h=>h.elim;have L:(fun w'=>Wk w w') aC:=A.trans I;refine ⟨L,?_⟩;refine bV 9 J (mv) L<|aK [10,11,12,13,14,15] J L<|hn aj<|dU 8 J<|cd J (fun M=> ?_) fun M=> ?_;obtain ⟨Z,aB⟩:=ab.resolve_left fun h=>M<|by rw [h.1]; rfl
 refine aF 2 J<|p mv<|ai 3 J<|e<|st dD J J (J) (O) (by simp) fun aJ an ag=> ?_;have am:=V.trans an;exact ay 9 J<|aM J<|⟨0,a,ae,J,ag,ha,aI,.inr ⟨Z,J,.inr ⟨U,aB⟩⟩,am⟩
 obtain ⟨Z,ac⟩:=ab.resolve_right fun h=>M U;obtain ⟨aD,ar,av⟩:=gO ac;refine aF 4 J<|p mv<|ai 3 J<|e<|st dD J J (J) (O) (by simp) fun aL ap al=> ?_;have ao:=V.trans ap;exact ay 9 J<|aM J<|⟨n,E,0,J,(by have ad:f=0:=U; subst ad; exact al),ar,av,.inl ⟨U,J,ac⟩,ao⟩
theorem su (rb:Nat) (s:List UInt8) (a f:Nat) (w:ah) (ad:aw w.heap rb [str s,aE a,aE f]) (aB:s.length≤1048576) (ha:a≤s.length):
 bj ak 22 (bz [aR rb]) w (fun v w'=> ∃ (x:List UInt8) (C q:Nat),v=str x∧aw w'.heap rb [str s,aE C,aE q]∧C≤s.length∧x.length≤255∧((f=0∧q=0∧cn s a= .ok (x,C))∨(q≠0∧((f≠0∧q=f)∨(f=0∧cn s a= .error q))))∧Md (fun k=>k=rb) w w'):=by
 refine enter func22 J ntmps22 J<|aZ 7 J<|p mv<|e<|bd (mC rb s a f w ad aB<|ha) J ?_;rintro aP aQ ⟨n,C,q,rfl,I,aa,aN,ab,M⟩;refine ai 6 J<|p mv<|ai 2 J<|p (aA J<|I.aO 2)<|aG 3 J<|cd J (fun V=> ?_) fun V=> ?_;obtain ⟨_,_,av⟩:=ab.resolve_left fun h=>V<|by rw [h.2.1]; rfl
 exact aH 7 J<|aM J<|⟨[],C,q,J,I,aa,aI,.inr ⟨U,av.imp id fun ⟨ac,h⟩=>⟨ac,xq h⟩⟩,M⟩
 obtain ⟨Z,rfl,O⟩:=ab.resolve_right fun h=>V U;obtain ⟨aD,aJ,aL⟩:=gO O;refine bR 9 J<|cd J (fun ax=> ?_) fun ax=> ?_;refine aF 2 J<|p mv<|ai 2 J<|e<|st dD J J (J) (I) (by simp) fun aS ao ag=> ?_;have ap:=M.trans ao;exact ay 9 J<|aM J<|⟨[],C,62,J,ag,aa,aI,.inr ⟨aI,.inr ⟨Z,xr O U⟩⟩,ap⟩
 refine bR 4 J<|eK fun E=>aK [0] J E<|bV 1 J (fE u3 ke J<|gQ U) E<|bV 2 J (mv) E<|aK [3,4] J E<|cT 5 J E (I.aO 0)<|aK [6] J E<|bV 7 J (mv) E<|aK [8,9] J E<|cT 10 J E (I.aO 1)<|aK [11,12] J E<|hn aj<|dU 1 J<|cd J (fun az=> ?_) fun az=> ?_;refine aF 2 J<|p mv<|ai 2 J<|e<|st dD J J (J) (I) (by simp) fun aT aq al=> ?_;have ar:=M.trans<|Md.fK aq;exact ay 9 J<|aM J<|⟨[],C,60,J,al,aa,aI,.inr ⟨aI,.inr ⟨Z,xu O U U⟩⟩,ar⟩
 refine aF 4 J<|p mv<|p mv<|ai 2 J<|p (aA J<|I.aO 1)<|ai 1 J<|p (fE u3 ke J<|gQ U)<|p (cr<|C+n)<|ai 2 J<|e<|st dD J J (J) (I) (by simp) fun aC am ae=> ?_;have an:=M.trans<|Md.fK am;have L:aw aC.heap rb [str s,aE (C+n),aE 0]:=ae;exact aG 3 J<|eK fun A=>bV 0 J (mv) A<|aK [1,2] J A<|cT 3 J A (L.aO 0)<|bV 4 J (mv) A<|aK [5,6] J A<|cT 7 J A (L.aO 1)<|aK [8] J A<|bV 9 J (fE u3 ke J<|gQ U) A<|bV 10 J (qf<|C) A<|bV 11 J (mv) A<|aK [12,13] J A<|cT 14 J A (L.aO 1)<|bV 15 J (qs u9 J J J U) A<|aK [16] J A<|hn aj<|bf 2 J<|aM J<|⟨(s.drop C).take n,C+n,0,(by rw [← zn]; rfl),Wk.B A L,U,by rw [cO]; omega,.inl ⟨Z,J,xw O U U⟩,Md.trans an<|Md.mono A fun _ _ h=>h.elim⟩
theorem Dd (rb:Nat) (s:List UInt8) (a n:Nat) (w:ah) (am:aw w.heap rb [str s,aE a,aE 0]) (bm:s.length≤1048576) (ha:a≤s.length) (bv:n≤1048576):
 bj ak 49 (bz [aR rb,.int .u64 (n:Nat)]) w (fun v w'=> ∃ (c:UInt8) (t:Int) (E q:Nat),v= .agg #[aW .u8 c.toNat,.int .i64 t]∧aw w'.heap rb [str s,aE E,aE q]∧E≤s.length∧((q=0∧dt s n a= .ok ((c,t),E))∨(q≠0∧dt s n a= .error q))∧Md (fun k=>k=rb) w w'):=by
 have bw:=am.lt;refine enter func49 J ntmps49 J<|aZ 2 J<|e<|dC Aa fun V bE bt ab an=> ?_;have bA:=ab.size;have I:=Wk.B ab.md am;refine aG 4 J<|eK fun A=>bV 0 J (mv) A<|aK [1,2] J A<|cT 3 J A (I.aO 1)<|bV 4 J (mv) A<|aK [5,6] J A<|cT 7 J A (I.aO 0)<|aK [8,9] J A<|hn aj<|dU 1 J<|cd J (fun bh=> ?_) fun bh=> ?_;refine aF 2 J<|p mv<|ai 2 J<|e<|st dD J J (J) (I) (by simp) fun bH aq a2=> ?_;have bc:=aq.ar an fun h=>by omega
 refine ai 4 J<|p (dJ (ps:= []) (L:= [.int .u8 0,.int .i64 0]) qz J<|J)<|e<|dx o3 J J J J bc (by simp) fun br av a3=> ?_;have a4:aw br.heap V [aW .u8 0,.int .i64 0]:=⟨_,a3⟩
 have ba:=av.B a2 fun h=>by omega
 have bb:=((ab.md.mono fun _ _ h=>h.elim).trans (Md.mono A (fun _ _ h=>h.elim) |>.trans aq)).trans' av fun k aN h=>by omega
 exact ay 4 J<|nv J (gp (cs:= [aW .u8 0,.int .i64 0]) J l8 J fun j aM=>a4.aO j)<|⟨0,0,a,60,J,ba,ha,.inr ⟨aI,wP U⟩,bb⟩
 refine bR 3 J<|eK fun C=>bV 0 J (mv) C<|aK [1,2] J C<|cT 3 J C (I.aO 0)<|bV 4 J (mv) C<|aK [5,6] J C<|cT 7 J C (I.aO 1)<|bV 8 J (eL u9 J J U) C<|aK [9] J C<|hn aj<|iM 3 J<|p mv<|p mv<|ai 2 J<|p (aA J<|I.aO 1)<|p (cr<|a+1)<|ai 2 J<|e<|st dD J J (J) (I) (by simp) fun aT az a6=> ?_;have a5:aw aT.heap rb [str s,aE (a+1),aE 0]:=a6;have bf:=az.ar an fun h=>by omega
 refine ai 4 J<|p mv<|e<|bd (mC rb s (a+1) 0 aT a5 bm U) J ?_;rintro bC bD ⟨t,E,q,rfl,aa,aQ,bu,aS,ax⟩;have ae:=ax.ar bf fun h=>by omega
 have M:=(((ab.md.mono (G:=fun k=>k=rb) fun _ _ h=>h.elim).trans<|Md.mono A fun _ _ h=>h.elim).trans<|Md.mono C fun _ _ h=>h.elim).trans<|az.trans ax;refine aG 3 J ?_;refine eS (fun aU Z=> ∃ (O:Nat),(aw Z.heap rb [str s,aE E,aE O])∧((O=0∧dt s n a= .ok ((s.getD a 0,((t:Nat):Int)),E)∧t < n)∨(O≠0∧dt s n a= .error O))∧(Z.heap[V]? =some (.cells [aW .u8 0,.int .i64 0].toArray 103 (0,0)))∧(Md (fun k=>k=rb) w Z)∧(w.heap.size≤Z.heap.size)∧(Sl aU [(0,aR rb),(1,.int .u64 (n:Nat)),(4,aR V),(5,.int .u8 (s.getD a 0).toNat),(6,.int .u64 (t:Nat))])) ?_ ?_;refine aZ 2 J<|p mv<|ai 2 J<|p (aA J<|aa.aO 2)<|ai 2 J<|gs (t:=45) J (fun aL=> ?_) fun aL=> ?_;have aC:=(aS.resolve_right fun h=>h.1 U).2.2;refine ai 1 J<|bp J mv<|aG 4 J<|cd J (fun bi=> ?_) fun bi=> ?_;refine aF 1 J<|p mv<|ai 2 J<|e<|st dD J J (J) (aa) (by simp) fun bI ad a7=> ?_
 skip
 exact ay 1 J<|tn<|⟨190,a7,(.inr ⟨aI,wR U aC U⟩),(ad.ar ae fun h=>by omega),(M.trans ad),((M.trans ad).size),J⟩
 exact aH 1 J<|tn<|⟨0,((by have aV:q=0:=U; subst aV; exact aa)),(.inl ⟨J,wS U aC U,U⟩),ae,M,M.size,J⟩
 have aJ:=aS.resolve_left fun h=>aL<|by rw [h.2.1]; rfl
 exact ay 8 J<|tn<|⟨q,aa,(.inr ⟨aJ.1,aJ.2.2.elim (fun h=>absurd J h.1) fun h=>wQ U h.2⟩),ae,M,M.size,J⟩
 rintro aU Z ⟨O,ac,al,aD,aB,bB,bn⟩;refine bF bn<|aF 6 J<|p (aA J<|ac.aO 2)<|aG 3 J<|cd J (fun ag=> ?_) fun ag=> ?_;obtain ⟨bl,bg⟩:=al.resolve_left fun h=>ag<|by rw [h.1]; rfl
 refine aF 2 J<|p (dJ (ps:= []) (L:= [.int .u8 0,.int .i64 0]) qz J<|J)<|e<|dx o3 J J J J aD (by simp) fun bo ao aX=> ?_;have aY:aw bo.heap V [aW .u8 0,.int .i64 0]:=⟨_,aX⟩
 have a8:=ao.B ac fun h=>by omega
 exact ay 4 J<|nv J (gp (cs:= [aW .u8 0,.int .i64 0]) J l8 J fun j aM=>aY.aO j)<|⟨0,0,E,O,J,a8,aQ,.inr ⟨bl,bg⟩,aB.trans' ao fun k aN h=>by omega⟩
 obtain ⟨rfl,aP⟩:=al.resolve_right fun h=>ag U;have bx:=aP.2;refine aF 6 J<|p (fE u3 ke J<|gQ U)<|p (dJ (ps:= [(0,aW .u8 (s.getD a 0).toNat),(1,aE t)]) (L:= [aW .u8 (s.getD a 0).toNat,aE t]) qz J<|J)<|e<|dx o3 J J J J aD (by simp) fun bq ap a0=> ?_;have a1:aw bq.heap V [aW .u8 (s.getD a 0).toNat,aE t]:=⟨_,a0⟩
 have a9:=ap.B ac fun h=>by omega
 exact ay 3 J<|nv J (gp (cs:= [aW .u8 (s.getD a 0).toNat,aE t]) J l8 J fun j aM=>a1.aO j)<|⟨s.getD a 0,(t:Nat),E,0,J,a9,aQ,.inl ⟨J,aP.1⟩,aB.trans' ap fun k aN h=>by omega⟩
end Go.Hb
end
section
namespace Go.Hb
open Go.Hb.ew
theorem E0 {l:List UInt8} {j:Nat} {b:UInt8} (h:j < l.length):b∈l.take (j+1)↔b∈l.take j∨l.getD j 0=b:=by
 rw [ua l j 0 h,List.mem_append,List.mem_singleton,eq_comm (a:=b)]
theorem tw (s:List UInt8) (w:ah) (ab:s.length≤1048576):
 bj ak 48 (bz [str s]) w (fun v w'=>v= .bool (eI s)∧Wk w w'):=by
 refine enter func48 J ntmps48 J<|bY 12 J<|lp (fun C L I=> ∃ (i:Nat),(i≤s.length)∧(∀ j,j < i→ej (s.getD j 0)=true)∧(Wk w I)∧(Sl L [(0,str s),(3,.int .i64 i)])∧(s.length - i=C)) _ ⟨0,U,(fun j E=>by omega),(Md.refl _ _),J,J⟩ ?_;rintro C L I ⟨i,hi,hp,A,Z,rfl⟩;refine bF Z<|bY 9 J<|cd J (fun O=> ?_) fun O=> ?_;refine aF 8 J<|p (eL u9 J J U)<|ai 2 J<|gs (t:=14) J (fun V=> ?_) fun V=> ?_;exact ay 16 J<|tr<|bf 2 J<|aM J<|⟨by show bh false =_; rw [ni (i:=i) U (sn U)],A⟩
 refine ai 2 J<|bp J (eL u9 J J U)<|aG 4 J<|cd J (fun M=> ?_) fun M=> ?_;exact aH 8 J<|tr<|bf 2 J<|aM J<|⟨by show bh false =_; rw [ni (i:=i) U (sn U)],A⟩
 have aa:ej (s.getD i 0)=true :=DI U U;exact aH 8 J<|tn<|⟨_,U,i+1,U,(fun j E=>by rcases de j i with h | h <;> first | exact hp j h | (rw [show j=i by omega]; exact aa)),A,J,J⟩
 exact aH 2 J<|cy<|bf 8 J<|aM J<|⟨by show bh true =_; rw [oX (fun j E=>hp j U)],A⟩
theorem FA (s:List UInt8) (w:ah) (aX:s.length≤1048576):
 bj ak 47 (bz [str s]) w (fun v w'=>v= .tuple #[str (letE s).1,.int .i64 (letE s).2]∧Wk w w'):=by
 refine enter func47 J ntmps47 J<|aZ 9 J<|e<|bd (tw s _ aX) J ?_;rintro v10 a6 ⟨rfl,ab⟩;refine ai 10 J<|gs (t:=14) J (fun av=> ?_) fun av=> ?_;exact ay 14 J<|f2 J J J<|⟨by show lT #[str [],.int .i64 21]=_; unfold letE; rw [if_pos (.inl<|re.1 U)]; rfl,ab⟩
 refine aG 5 J<|cb J (fun ac=> ?_) fun ac=> ?_;exact aH 8 J<|f2 J J J<|⟨by show lT #[str [],.int .i64 21]=_; unfold letE; rw [if_pos (.inr<|by simpa using ac)]; rfl,ab⟩
 refine aF 4 J<|e<|oV kd fun aC aD a4 aQ aN=> ?_;have aW:bP aD w.heap.size 5 1 (.slice (some ⟨aC,0,none⟩) 0 0) (([]:List UInt8)).length (U8<|([]:List UInt8)):=aN _<|by have :=ab.size; omega
 have aO:Wk w aD:=Md.trans ab aQ.md;refine aG 10 J<|lp (fun O aI ae=> ∃ (i:Nat) (az:ag),(i≤s.length)∧(bP ae w.heap.size 5 1 (az) (lets<|s.take i).length<|U8<|lets<|s.take i)∧(Wk w ae)∧(Sl aI [(0,str s),(5,az),(6,.int .i64 i)])∧(s.length - i=O)) _ ⟨0,.slice (some ⟨aC,0,none⟩) 0 0,U,aW,aO,J,J⟩ ?_;rintro O aI ae ⟨i,az,hi,C,V,a0,rfl⟩;refine bF a0 ?_;obtain ⟨al,am,rfl⟩:=gM C;have aU:=sR<|s.take i;rw [cO] at aU;refine bY 9 J<|cd J (fun aS=> ?_) fun aS=> ?_;refine bR 16 J<|lp (fun O aL aE=> ∃ (j:Nat) (ob:Bool),(j≤(lets<|s.take i).length)∧(ob=decide (s.getD i 0∈(lets<|s.take i).take j))∧(Wk ae aE)∧(Sl aL [(0,str s),(5,.slice al (lets<|s.take i).length am),(6,.int .i64 i),(7,.bool ob),(8,.int .i64 j)])∧((lets<|s.take i).length - j=O)) _ ⟨0,false,U,J,(Md.refl _ _),J,J⟩ ?_;rintro O aL aE ⟨j,ob,a5,ad,A,a1,rfl⟩;refine bF a1<|aZ 8 J<|gs (t:=29) J (fun aJ=> ?_) fun aJ=> ?_;refine aG 5 J<|cb J (fun ar=> ?_) fun ar=> ?_;have aV:¬s.getD i 0∈(lets<|s.take i).take j:=of_decide_eq_false<|by rw [← ad]; simpa using ar
 exact bR 4 J<|eK fun M=>aK [0,1] J M<|bV 2 J (cC pc J J U<|bo.ok ((iy<|cq C A).2)<|GX U) M<|cT 3 J M (GV (i:=j) (iy<|cq C A).2 U)<|aK [4,5] J M<|bV 6 J (eL u9 J J U) M<|aK [7,8] J M<|hn aj<|bf 7 J<|tn<|⟨_,U,j+1,decide (((lets<|s.take i).getD j 0).toNat=((s.getD i 0).toNat:Int)),U,(decide_eq_decide.2<|by rw [E0 U]; constructor <;> intro h <;> first | exact .inr (ru.1 U) | (rcases h with h | h <;> first | exact absurd h aV | (rw [h]))),(Md.trans A (Md.refl _ _).drew),J,J⟩
 have aa:ob=decide (s.getD i 0∈lets (s.take i)):=by
  have h1:ob=true :=by simpa using ar
  rw [h1] at ad;rw [h1]; exact (decide_eq_true<|List.mem_of_mem_take<|of_decide_eq_true ad.symm).symm
 refine aH 2 J<|cy<|dU 8 J<|cb J (fun I=> ?_) fun I=> ?_;have L:¬s.getD i 0∈lets (s.take i):=of_decide_eq_false<|by rw [← aa]; simpa using I
 refine aF 4 J<|p (eL u9 J J U)<|e<|rL kd J J fun aM aB aR E an=> ?_;have Z:Wk w aB:=Md.trans (Md.trans V A) E.md;refine e<|ap kd (cq (cq C A) E.md) J (by have :=Z.size; omega) J (bo.iw an) (J) (J) U U fun aA a3 aw aq a2 aT=> ?_;have ao:=Wk.own Z (cq (cq C A) E.md) aq<|aY _;have ax:=yC aw;exact p aP<|ay 8 J<|tn<|⟨_,U,i+1,aA,U,(by rw [j5 U,if_neg L]; exact ax),ao,J,J⟩
 have L:s.getD i 0∈lets (s.take i):=of_decide_eq_true<|by rw [← aa]; simpa using I
 exact aH 8 J<|tn<|⟨_,U,i+1,.slice al (lets<|s.take i).length am,U,(by rw [j5 U,if_pos L]; exact cq C A),(Md.trans V A),J,J⟩
 have aa:ob=decide (s.getD i 0∈lets (s.take i)):=by rw [ad,oF U]
 refine ay 8 J<|cy<|dU 8 J<|cb J (fun I=> ?_) fun I=> ?_;have L:¬s.getD i 0∈lets (s.take i):=of_decide_eq_false<|by rw [← aa]; simpa using I
 refine aF 4 J<|p (eL u9 J J U)<|e<|rL kd J J fun aM aB aR E an=> ?_;have Z:Wk w aB:=Md.trans (Md.trans V A) E.md;refine e<|ap kd (cq (cq C A) E.md) J (by have :=Z.size; omega) J (bo.iw an) (J) (J) U U fun aA a3 aw aq a2 aT=> ?_;have ao:=Wk.own Z (cq (cq C A) E.md) aq<|aY _;have ax:=yC aw;exact p aP<|ay 8 J<|tn<|⟨_,U,i+1,aA,U,(by rw [j5 U,if_neg L]; exact ax),ao,J,J⟩
 have L:s.getD i 0∈lets (s.take i):=of_decide_eq_true<|by rw [← aa]; simpa using I
 exact aH 8 J<|tn<|⟨_,U,i+1,.slice al (lets<|s.take i).length am,U,(by rw [j5 U,if_pos L]; exact cq C A),(Md.trans V A),J,J⟩
 exact aH 2 J<|cy<|iM 5 J<|p (o0 Ci J ((iy C).2)<|J)<|ay 5 J<|f2 J J J<|⟨by show lT #[str (lets<|s.take i),.int .i64 0]=_; unfold letE; rw [if_neg (fun h=>h.elim (fun h=>by rw [h] at av; exact av J) fun h=>by rw [h] at ac; cases ac),show s.take i=s from oF U]; rfl,V⟩
end Go.Hb
end
