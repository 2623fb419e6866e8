/-
  Walks and plain laws that the law rests on, laid together. No conditions but those that each theorem names.
-/
import Derived.Test.YtiagknaekaknhaaGreatDoorMnJoinedOn3
set_option linter.unusedVariables false
set_option maxRecDepth 20000
set_option maxHeartbeats 1000000
open Array renaming getElem?_eq_some_iff→dq
open BitVec renaming ofInt→iB,ofInt_natCast→EE,toNat_ofNat→EF
open Bool renaming and_eq_true→a0,noConfusion→cJ,true_and→nX
open Classical renaming not_not→rD
open Go renaming Addr→bL,Program→ar,Value→ag,World→ah
open Go.IntKind renaming u64→n7,u8→pQ
open Go.Proofs.Tryz renaming prog→aq
open Go.Value renaming bool→bp,int→aZ,oneCell'→fu,pointer→ux,slice→cG,tuple→oe
open Go.World renaming ownsRow→bj,ownsRow_nil→fv
open Int renaming toNat_natCast→rN
open List renaming all_cons→pU,all_nil→uz,append_nil→jD,drop_eq_nil_of_le→Fj,drop_take→Fk,eq_nil_of_length_eq_zero→jF,filter_append→uB,flatMap_append→uC,flatMap_cons→pV,getD_cons_succ→zb,getD_cons_zero→uD,getD_eq_getElem?_getD→bY,getElem?_append_left→fF,getElem?_append_right→fW,getElem?_drop→iF,getElem?_eq_getElem→bC,getElem?_eq_some_iff→cD,getElem?_map→gu,getElem?_set_ne→Fq,getElem?_set_self→Fs,length→lP,length_append→bG,length_cons→dC,length_drop→iG,length_filter_le→Fw,length_nil→ib,length_set→iH,length_take→cO,map_append→gK,map_congr_left→kJ,map_cons→dG,map_map→rP,map_replicate→FA,mem_append→dH,mem_cons→ef,mem_cons_of_mem→ic,mem_cons_self→ie,mem_flatMap→rQ,mem_map→jH,mem_of_getElem?→kK,mem_range→gL,nil_append→p7,pairwise_iff_getElem→oh,range'→eL,replicate→dr,set_cons_succ→zh,sum_cons→kL,take_add_one→uN,take_append_of_le_length→FE,take_length→uO,take_of_length_le→jI,take_succ_eq_append_getElem→uP,toArray→bl
open Nat renaming add_comm→qa,add_sub_cancel_left→zi,beq→aP,blt→aE,eq_of_beq_eq_true→bM,eq_zero_or_pos→qc,le_refl→aQ,le_trans→cn,lt_irrefl→FJ,lt_or_ge→dD,mod_eq_of_lt→zk,mul_comm→FL,mul_le_mul_left→FM,pow_le_pow_right→rU,sub_self→zl,zero_add→cz,zero_le→fw
open Option renaming isSome_iff_exists→mM
open Option.some renaming inj→fH
open Prod renaming fst→gN
open UInt8 renaming toNat_inj→oo,toNat_lt→kM
open Go.Proofs.Tryz
open Go.Proofs

section
namespace Go.Hb
open Go.RowKit
def AU:Ck→Ck→Bool
 | .a,.a=>true
 | .z,.z=>true
 | .x,.x=>true
 | _,_=>false
def sC:List (AV×AV)→List (AV×AV)→Bool
 | [],[]=>true
 | p::l,q::m=>cond (eR p.1 q.1 && eR p.2 q.2) (sC l m) false
 | _,_=>false
def vM:AO→AO→Bool
 | .cells l e fz ex,.cells l' e' fz' ex'=>(aP e e' && aP fz fz') && (AU ex ex' && jV l l')
 | .map l,.map m=>sC l m
 | _,_=>false
theorem Ic:∀ {c d:Ck},AU c d=true→c=d
 | .a,.a,_ | .z,.z,_ | .x,.x,_=>rfl
theorem AT:∀ {a b:List (AV×AV)},sC a b=true→a=b
 | [],[],_=>rfl
 | p::l,q::m,h=>by
   unfold sC at h;cases hk:(eR p.1 q.1 && eR p.2 q.2)
   · rw [hk] at h; cases h
   · rw [hk] at h;simp only [a0] at hk;rw [AT h,Prod.ext (oK hk.1) (oK hk.2)]
theorem Ib {a b:AO} (h:vM a b=true):a=b:=by
 unfold vM at h;split at h
 · simp only [a0] at h;rw [bM h.1.1,bM h.1.2,Ic h.2.1,mZ h.2.2]
 · rw [AT h]
 · cases h
def iY:Tr AO→Tr AO→Bool
 | .nil,_=>true
 | .nd l none r,.nil=>iY l .nil && iY r .nil
 | .nd _ (some _) _,.nil=>false
 | .nd l none r,.nd l' _ r'=>iY l l' && iY r r'
 | .nd l (some o) r,.nd l' (some o') r'=>vM o o' && (iY l l' && iY r r')
 | .nd _ (some _) _,.nd _ none _=>false
theorem lC:∀ {a b:Tr AO},iY a b=true→∀ {i:Nat} {o:AO},a.get i=some o→b.get i=some o
 | .nil,_,_,i,o,hi=>by rw [Tr.get_nil] at hi; cases hi
 | .nd l none r,.nil,h,i,o,hi=>by
   simp only [iY,a0] at h;cases i with
   | zero=>simp [Tr.get] at hi
   | succ n=>
     simp only [Tr.get] at hi;cases hb:aP (n % 2) 0
     · rw [hb] at hi; have :=lC h.2 hi; rw [Tr.get_nil] at this; cases this
     · rw [hb] at hi; have :=lC h.1 hi; rw [Tr.get_nil] at this; cases this
 | .nd l none r,.nd l' v' r',h,i,o,hi=>by
   simp only [iY,a0] at h;cases i with
   | zero=>simp [Tr.get] at hi
   | succ n=>
     simp only [Tr.get] at hi ⊢;cases hb:aP (n % 2) 0
     · rw [hb] at hi; exact lC h.2 hi
     · rw [hb] at hi; exact lC h.1 hi
 | .nd l (some u) r,.nd l' (some u') r',h,i,o,hi=>by
   simp only [iY,a0] at h;cases i with
   | zero=>
     simp only [Tr.get] at hi ⊢;rw [← Ib h.1]; exact hi
   | succ n=>
     simp only [Tr.get] at hi ⊢;cases hb:aP (n % 2) 0
     · rw [hb] at hi; exact lC h.2.2 hi
     · rw [hb] at hi; exact lC h.2.1 hi
def Tr.lf {α:Type} :Tr α→Tr α
 | .nil=> .nil
 | .nd l _ _=>l
def Tr.rt {α:Type} :Tr α→Tr α
 | .nil=> .nil
 | .nd _ _ r=>r
def Tr.vl {α:Type} :Tr α→Option α
 | .nil=>none
 | .nd _ v _=>v
theorem Tr.Bw {α:Type} (t:Tr α):t.get 0=t.vl:=by cases t <;> rfl
theorem Tr.wx {α:Type} (t:Tr α) (n:Nat):t.get (n+1)=cond (aP (n % 2) 0) (t.lf.get<|n / 2) (t.rt.get<|n / 2):=by
 cases t
 · simp only [Tr.lf,Tr.rt,Tr.get_nil]; cases aP (n % 2) 0 <;> rfl
 · rfl
def qU (v b c:Option AO):Option AO:=match c with
 | some o=>some o
 | none=>match b with
   | some _=>none
   | none=>v
def mi:Tr AO→Tr AO→Tr AO→Tr AO
 | .nil,_,c=>c
 | .nd l v r,b,c=> .nd (mi l b.lf c.lf) (qU v b.vl c.vl)<|mi r b.rt c.rt
theorem xx:∀ (a b c:Tr AO) (i:Nat),(∀ o,b.get i=some o→a.get i=some o)→(mi a b c).get i=qU (a.get i) (b.get i) (c.get i)
 | .nil,b,c,i,hb=>by
   have :b.get i=none:=by
    cases hx:b.get i with
    | none=>rfl
    | some o=>have :=hb o hx; rw [Tr.get_nil] at this; cases this
   rw [Tr.get_nil,this];show c.get i=_;unfold qU;cases c.get i <;> rfl
 | .nd l v r,b,c,0,_=>by
   rw [Tr.Bw b,Tr.Bw c]; rfl
 | .nd l v r,b,c,n+1,hb=>by
   rw [Tr.wx b,Tr.wx c];rw [Tr.wx b] at hb;show cond (aP (n % 2) 0) ((mi l b.lf c.lf).get<|n / 2) ((mi r b.rt c.rt).get<|n / 2)=qU (cond (aP (n % 2) 0) (l.get<|n / 2)<|r.get<|n / 2) _ _;have A:∀ o,cond (aP (n % 2) 0) (b.lf.get<|n / 2) (b.rt.get<|n / 2)=some o→cond (aP (n % 2) 0) (l.get<|n / 2) (r.get<|n / 2)=some o:=hb;cases hn:aP (n % 2) 0
   · rw [hn] at A; exact xx r b.rt c.rt _ A
   · rw [hn] at A; exact xx l b.lf c.lf _ A
def da:List (Nat×AO)→Tr AO
 | []=> .nil
 | p::l=>(da l).set p.1 p.2
section
variable {P:ar} {G:Nat} {X:Xt} {T:Nat} {r:Rn} {h h0 h1 h':Hp} {w:ah}
theorem HR.less (hr:HR P G r T h w) (A:∀ i o,h0.t.get i=some o→h.t.get i=some o) (hn:h0.nx=h.nx):HR P G r T h0 w:=
 ⟨fun i o hi=>hr.live i o (A i o hi),fun i j o C q q' hi E=>hr.inj i j o C q q' (A i o hi) (A j C E),fun i hi=>hr.new i ab,hr.fi,by rw [hn]; exact hr.base⟩
theorem Fr.less {g k:Nat} (I:∀ i o,h0.t.get i=some o→h.t.get i=some o) (E:Fr g r h0 k):Fr g r h k:=by
 obtain ⟨i,o,q,h1,A,C⟩:=E;exact ⟨i,o,q,h1,I i o A,C⟩
theorem jL.less {f:Nat} {args:List AV} {v:AV} (A:jL P G f args h0 v h') (C:∀ i o,h1.t.get i=some o→h'.t.get i=some o) (hn:h1.nx=h'.nx):jL P G f args h0 v h1:=by
 obtain ⟨n,A⟩:=A;refine ⟨ab,fun T r w L hT hr E=>(A T r w L ab hr E).mono fun u w' hu=> ?_⟩;obtain ⟨r',I,st⟩:=hu;exact ⟨r',I,st.le,st.hr.less C hn,ab,st.md,fun g M k O J=>st.dY g M k O (J.less C),fun i hi=>st.out i ab⟩
theorem jL.more {f:Nat} {args:List AV} {v:AV} {ad:Hp} (ap:jL P G f args ad v h1) (ai:∀ i o,ad.t.get i=some o→h.t.get i=some o) (aL:∀ i o,h0.t.get i=some o→h.t.get i=some o) (az:∀ i,h0.t.get i=none→ad.t.get i=none∨i < G) (hn:h.nx=ad.nx):jL P G f args h v ⟨mi h.t h0.t h1.t,h1.nx⟩:=by
 obtain ⟨n,ap⟩:=ap;refine ⟨by show h.nx≤h1.nx; omega,fun T r w L hT hr aG=>(ap T r w L hT (hr.less ai hn.symm) aG).mono fun u w' hu=> ?_⟩;obtain ⟨r',aH,st⟩:=hu;have ae:∀ {i o},(mi h.t h0.t h1.t).get i=some o→h1.t.get i=some o∨(h.t.get i=some o∧h0.t.get i=none):=fun {i o} hi=>by
  rw [xx _ _ _ _ (fun o=>aL i o)] at hi;unfold qU at hi;split at hi
  · rename_i A; rw [A]; exact .inl hi
  · split at hi
    · cases hi
    · rename_i A C; exact .inr ⟨hi,C⟩
 have aj:∀ {i o},h.t.get i=some o→h0.t.get i=none→∃ q,r i=some q∧q.ak < w.heap.size∧OR P r q o w.heap[q.ak]?∧¬Fr G r ad q.ak:=fun {i o} hi A=>by
  obtain ⟨q,ah,au⟩:=hr.live i o hi;refine ⟨q,ah,hr.lt hi ah,au,fun ⟨i2,av,Z,am,E,J,U⟩=> ?_⟩;have :=hr.inj i2 i av o Z q (ai _ _ E) hi J ah U;subst this;rcases az _ A with C | C
  · rw [C] at E; cases E
  · omega
 refine ⟨r',aH,st.le,⟨fun i o hi=> ?_,fun i j o V q q' hi ag I E he=> ?_,fun i hi=>st.hr.new i hi,st.hr.fi,st.hr.base⟩,by show h.nx≤h1.nx; omega,st.md.mono fun k _ aq=>aq.less ai,fun g aI k aK aq=> ?_,fun i hi=>st.out i hi⟩
 · rcases ae hi with A | ⟨A,C⟩
   · exact st.hr.live i o A
   · obtain ⟨q,ah,al,au,ar⟩:=aj A C;refine ⟨q,st.le _ _ ah,?_⟩;rw [st.md.dM _ al ar];exact au.le st.le
 · have aD:∀ {i j o V q q'},h1.t.get i=some o→h.t.get j=some V→h0.t.get j=none→r' i=some q→r' j=some q'→q.ak=q'.ak→i=j:=fun {i j o V q q'} hi ag aA I E he=>by
    obtain ⟨Z,O,al,_,ar⟩:=aj ag aA;have :=st.le _ _ O;rw [E] at this; cases this;by_cases aB:j < G
    · by_cases aJ:i < G
      · obtain ⟨m1,J⟩:=st.hr.fi i aJ;obtain ⟨aM,U⟩:=st.hr.fi j aB;rw [I] at J; cases J;rw [E] at U; cases U;exact he
      · exact absurd (st.dY G (aQ _) q'.ak al ⟨i,o,q,ab,hi,I,he⟩) ar
    · obtain ⟨i2,av,Z,_,J,U,aE⟩:=st.dY 0 (fw _) q'.ak al ⟨i,o,q,fw _,hi,I,he⟩;have :=hr.inj i2 j av V Z q' (ai _ _ J) ag U O aE;subst this;rcases az _ aA with C | C
      · rw [C] at J; cases J
      · exact absurd C aB
   rcases ae hi with A | ⟨A,C⟩
   · rcases ae ag with M | ⟨M,ao⟩
     · exact st.hr.inj i j o V q q' A M I E he
     · exact aD A M ao I E he
   · rcases ae ag with M | ⟨M,ao⟩
     · exact (aD M A C E I he.symm).symm
     · obtain ⟨Z,O,_⟩:=aj A C;obtain ⟨aN,aC,_⟩:=aj M ao;have ac:=st.le _ _ O;rw [I] at ac; cases ac;have aw:=st.le _ _ aC;rw [E] at aw; cases aw;exact hr.inj i j o V q q' A M O aC he
 · obtain ⟨i,o,q,am,aF,ax,ay⟩:=aq;rcases ae aF with A | ⟨A,C⟩
   · exact (st.dY g aI k aK ⟨i,o,q,am,A,ax,ay⟩).less ai
   · obtain ⟨Z,O,_⟩:=aj A C;have ac:=st.le _ _ O;rw [ax] at ac; cases ac;exact ⟨i,o,q,am,A,O,ay⟩
def re (G T:Nat) (E:Nat→Nat) (b:Tr AO):List Nat→Tr AO
 | []=>b
 | g::l=>(re G T E b l).set g<|.cells [.fC T (.ptr (G+g) 0)] (E g) 0 .x
theorem C4 {E:Nat→Nat} {b:Tr AO} {i:Nat} :∀ {l:List Nat},(∀ g∈l,aE g cj=true)→(re G T E b l).get i=if i∈l then some (.cells [.fC T (.ptr (G+i) 0)] (E i) 0 .x) else b.get i
 | [],_=>by simp [re]
 | g::l,hl=>by
   simp only [re];rw [Tr.kY _ _ _ _ (hl g ie),C4 (fun g A=>hl g<|ic _ A)];by_cases h1:i=g
   · subst h1; simp
   · simp [h1]
def tM (G T:Nat) (t:Tr AO):List Nat→Bool
 | []=>true
 | g::l=>match t.get g with
   | some (.cells [.fC A (.ptr b 0)] _ 0 .x)=>cond ((aE g G && aE g cj) && (aP A T && aP b (G+g))) (tM G T t l) false
   | _=>false
def qz (t:Tr AO) (g:Nat):Nat:=match t.get g with
 | some (.cells _ e _ _)=>e
 | _=>0
theorem Db {t:Tr AO} :∀ {l:List Nat},tM G T t l=true→∀ g∈l,g < G∧aE g cj=true∧t.get g=some (.cells [.fC T (.ptr (G+g) 0)] (qz t g) 0 .x)
 | [],_,g,hg=>nomatch hg
 | a::l,h,g,hg=>by
   unfold tM at h;split at h
   · rename_i C b e A;have h1:((aE a G && aE a cj) && (aP C T && aP b (G+a)))=true :=by
      cases hx:((aE a G && aE a cj) && (aP C T && aP b (G+a)))
      · rw [hx] at h; cases h
      · rfl
     rw [h1] at h;simp only [a0] at h1;rcases ef.1 hg with rfl | E
     · obtain rfl :=bM h1.2.1;obtain rfl :=bM h1.2.2;refine ⟨cB.1 h1.1.1,h1.1.2,?_⟩;rw [A];simp only [qz,A]
     · exact Db h g E
   · cases h
structure Mm where
 f:Nat
 args:List AV
 h0:Hp
 v:AV
 h1:Hp
def B6 (G T:Nat) (S:List Nat) (m:Mm) (f:Nat) (args:List AV) (h:Hp):Option (AV×Hp):=cond (aP f m.f) (cond (jV args m.args && (aP h.nx m.h0.nx && (iY m.h0.t h.t && tM G T h.t S))) (some (m.v,⟨mi h.t m.h0.t m.h1.t,m.h1.nx⟩)) none) none
def tc (G T:Nat) (S:List Nat) (f:Nat) (args:List AV) (h:Hp):List Mm→Option (AV×Hp)
 | []=>none
 | m::l=>match B6 G T S m f args h with
   | some x=>some x
   | none=>tc G T S f args h l
def Mm.hp (G T:Nat) (S:List Nat) (m:Mm) (E:Nat→Nat):Hp:=⟨re G T E m.h0.t S,m.h0.nx⟩
def Mm.Ok (P:ar) (G T:Nat) (S:List Nat) (m:Mm):Prop :=(∀ E,jL P G m.f m.args (m.hp G T S E) m.v m.h1)∧∃ fn c,P.funcs[m.f]? =some fn∧fn.body=some c
variable {S:List Nat}
theorem xm:∀ {l:List Mm},(∀ m∈l,m.Ok P G T S)→∀ {f:Nat} {args:List AV} {v:AV},tc G T S f args h l=some (v,h')→jL P G f args h v h'∧∃ fn c,P.funcs[f]? =some fn∧fn.body=some c
 | [],_,f,args,v,hf=>by cases hf
 | m::l,hl,f,args,v,hf=>by
   unfold tc at hf;split at hf
   · rename_i x A;obtain rfl :=fH hf;unfold B6 at A;replace A:=aY A; obtain ⟨I,A⟩:=A;replace A:=aY A; obtain ⟨C,A⟩:=A;cases A;simp only [a0] at C;obtain rfl :=bM I;obtain rfl :=mZ C.1;obtain ⟨J,hb⟩:=hl m ie;have E:=Db C.2.2.2;have hT:∀ i,(m.hp G T S<|qz h.t).t.get i=if i∈S then some (.cells [.fC T (.ptr (G+i) 0)] (qz h.t i) 0 .x) else m.h0.t.get i:=fun i=>C4 fun g L=>(E g L).2.1
     refine ⟨(J<|qz h.t).more (fun i o hi=> ?_) (fun i o hi=>lC C.2.2.1 hi) (fun i hi=> ?_) (bM C.2.1),hb⟩
     · rw [hT] at hi;split at hi
       · rename_i hm;rw [← hi]; exact (E i hm).2.2
       · exact lC C.2.2.1 hi
     · rw [hT];split
       · rename_i hm;exact .inr (E i hm).1
       · exact .inl hi
   · exact xm (fun m hm=>hl m<|ic _ hm) hf
def dA (P:ar) (G:Nat) (X:Xt) (T:Nat) (S:List Nat) (M:List Mm):Nat→Tk→Rs
 | 0,_=> .no
 | n+1,.cl f args h=>match tc G T S f args h M with
   | some (v,h')=> .rv v h'
   | none=>fm P G X (dA P G X T S M n)<|.cl f args h
 | n+1,t=>fm P G X (dA P G X T S M n) t
theorem A4 {M:List Mm} (E:∀ m∈M,m.Ok P G T S):∀ (k:Nat),(∀ f args h v h',dA P G X T S M k (.cl f args h)= .rv v h'→∃ fn c,P.funcs[f]? =some fn∧fn.body=some c)∧(∀ f args h v h',dA P G X T S M k (.df f args h)= .rv v h'→∃ fn c,P.funcs[f]? =some fn∧fn.body=some c)
 | 0=>⟨fun f args h v h' A=>(by cases A),fun f args h v h' A=>by cases A⟩
 | k+1=>by
   constructor
   · intro f args h v h' A;simp only [dA] at A;split at A
     · rename_i x I;exact (xm E I).2
     · simp only [fm] at A;split at A
       · rename_i fn C;split at A
         · rename_i c hb; exact ⟨fn,c,C,hb⟩
         · cases A
       · cases A
   · intro f args h v h' A;simp only [dA,fm] at A;split at A
     · rename_i fn C;split at A
       · rename_i c hb; exact ⟨fn,c,C,hb⟩
       · cases A
     · cases A
theorem vT {M:List Mm} (E:iJ P G X) (C:gw P) (hm:P.follows .mixedOrders=true) (I:∀ m∈M,m.Ok P G T S):∀ k,Good P G (dA P G X T S M k)
 | 0=>fun t=>by cases t <;> trivial
 | k+1=>fun t=>by
   have A:=vT E C hm I k;obtain ⟨J,L⟩:=A4 (P:=P) (G:=G) (X:=X) I k;cases t with
   | cd rd n c fr D h=>exact Mh A E C (HU A E C J hm) J rd n c fr D h
   | lp rd n c fr D h=>exact Mk A rd n c fr D h
   | cl f args h=>
     simp only [dA];split
     · rename_i x O;exact (xm I O).1
     · exact Mi A C L f args h
   | yl l args h=>exact Ml A l args h
   | df f args h=>exact Mj A E C J f args h
def fR (v:AV) (h1:Hp):Rs→Bool
 | .rv u h=>eR u v && (aP h1.nx h.nx && iY h1.t h.t)
 | _=>false
theorem Mm.of {M:List Mm} {k:Nat} {m:Mm} (L:iJ P G X) (J:gw P) (hm:P.follows .mixedOrders=true) (C:∀ q∈M,q.Ok P G T S) (he:∀ E,fR m.v m.h1 (dA P G X T S M k<|.cl m.f m.args<|m.hp G T S E)=true):m.Ok P G T S:=by
 have hr:∀ E,∃ u A,dA P G X T S M k (.cl m.f m.args<|m.hp G T S E)= .rv u A∧u=m.v∧m.h1.nx=A.nx∧iY m.h1.t A.t=true :=fun E=>by
  have he:=he E;unfold fR at he;split at he
  · rename_i u A hr;simp only [a0] at he;exact ⟨u,A,hr,oK he.1,bM he.2.1,he.2.2⟩
  · cases he
 refine ⟨fun E=> ?_,?_⟩
 · obtain ⟨u,A,hr,rfl,hn,O⟩:=hr E;have I:=vT L J hm C k<|.cl m.f m.args<|m.hp G T S E;rw [hr] at I;exact jL.less I (fun i o hi=>lC O hi) hn
 · obtain ⟨u,A,hr,_⟩:=hr fun _=>0;exact (A4 C k).1 _ _ _ _ _ hr
theorem gn:∀ q∈([]:List Mm),q.Ok P G T S:=fun _ h=>nomatch h
theorem gC {m:Mm} {l:List Mm} (h:m.Ok P G T S) (A:∀ q∈l,q.Ok P G T S):∀ q∈m::l,q.Ok P G T S:=fun q C=>by
 rcases ef.1 C with rfl | h'
 · exact h
 · exact A q h'
theorem Io {M:List Mm} {k f:Nat} {args:List AV} {h h':Hp} {v:AV} (E:iJ P G X) (A:gw P) (hm:P.follows .mixedOrders=true) (C:∀ q∈M,q.Ok P G T S) (he:dA P G X T S M k (.cl f args h)= .rv v h'):jL P G f args h v h':=by
 have :=vT E A hm C k<|.cl f args h;rw [he] at this;exact this
end
end Go.Hb
end
section
namespace Go.Hb
open Go.RowKit
section
variable {P:ar} {N:Fm} {σ:Nat→ag} {w:ah} {fn:Func} {R:ag→ah→Prop}
theorem Ld {tmps:Array ag} {r s q p:ResultVar} {v u z y:ag} (h:fn.results= #[r,s,q,p]) (h1:(iA tmps r).run P w= .ok v w) (A:(iA tmps s).run P w= .ok u w) (C:(iA tmps q).run P w= .ok z w) (E:(iA tmps p).run P w= .ok y w):(results fn tmps).run P w= .ok (.tuple #[v,u,z,y]) w:=by
 have I:(results fn tmps)=(do let vs ← #[r,s,q,p].mapM (iA tmps); pure (if h:vs.size=1 then vs[0] else .tuple vs)):=by
  unfold results; rw [h]; rfl
 rw [I]; simp [List.mapM_toArray,h1,A,C,E]
theorem It {r s q p:ResultVar} {v u z y:ag} (h:fn.results= #[r,s,q,p]) (h1:ik P N σ w r v) (A:ik P N σ w s u) (C:ik P N σ w q z) (E:ik P N σ w p y) (I:R (.tuple #[v,u,z,y]) w):fin P fn N R .ret σ w:=⟨_,Ld h (gE h1) (gE A) (gE C) (gE E),I⟩
end
end Go.Hb
end
section
namespace Go.Hb
open Go Go.RowKit Go.ChangeShapes
theorem Lu {P:ar} {n:String} {W:ah} {g:Nat} {cs:Array ag} (C:P.globalNamed n=some g) (A:W.var? P n=some cs):∃ e z,W.heap[g]? =some (.cells cs e z):=by
 unfold World.var? at A;rw [C] at A;simp only [Option.bind_some] at A;split at A
 · rename_i c e z h;cases A;exact ⟨e,z,h⟩
 · cases A
theorem iW {P:ar} {n nm:String} {text:List UInt8} {r:List (String×DataW Unit)} {W:ah} {g:Nat} {L E te I:TypeId} {ms:Array (String×TypeId)} {f:Field}
 (h:laidMet P ((n,.iface nm (.ptr<|.agg [.lit (.string text)]))::r) W)
 (A:P.globalNamed n=some g) (ag:(P.globals[g]?).map (·.type)=some L) (hi:P.underlying L=some (.interface ms)) (ad:∀ u,P.typeName? 3 u=some nm→u=E)
 (hp:P.underlying E=some (.pointer te)) (he:P.underlying te=some (.struct #[f])) (ab:f.type=I) (Z:f.offset=0) (ae:P.underlying I=some .string) (O:P.cellsOf te=1) (V:P.cellsOf I=1):
 ∃ (a:bL) (e:Nat),a.spot=none∧W.heap[g]? =some (.cells #[.iface E (.pointer<|some a)] e (0,0)):=by
 obtain ⟨a,s,J,U,_,_⟩:=laid_sentinel h A ag hi ad hp he ab Z ae O V;obtain ⟨e,z,hw⟩:=Lu A J;obtain ⟨ps,⟨al,t0,ak,f0,ap,aq,ac,ao,ai,am,_,M⟩,_,hrows⟩:=h;obtain rfl :=fH<|A.symm.trans ac;subst M;have aj:=fH<|J.symm.trans ai;subst aj;obtain ⟨⟨c,t,C⟩,_⟩:=hrows g 0<|by simp [MemPlace.row]
 rw [hw] at C;simp only [Option.some.injEq,Obj.cells.injEq] at C;obtain ⟨_,_,rfl⟩:=C;exact ⟨a,e,World.cell?_spot U,hw⟩
theorem cP.nil {T:Nat} {w:ah} :cP T [] w:=fun g h=>by cases h
theorem cP.cons {T g:Nat} {l:List Nat} {w:ah} (h:∃ (a:bL) (e:Nat),a.spot=none∧w.heap[g]? =some (.cells #[.iface T (.pointer<|some a)] e (0,0))) (C:cP T l w):cP T (g::l) w:=fun k A=>by
 rcases ef.1 A with rfl | A
 · exact h
 · exact C k A
theorem cP.sub {T:Nat} {l m:List Nat} {w:ah} (h:cP T l w) (C:∀ g∈m,g∈l):cP T m w:=fun g A=>h g<|C g A
end Go.Hb
end
section
namespace Go.Hb
abbrev aB (n:Nat):ag:= .int .i64 (n:Nat)
abbrev aT (b:Nat):ag:= .pointer<|some ⟨b,0,none⟩
variable {P:ar} {N:Fm} {ops:Array Oper} {Q:Exit→(Nat→ag)→ah→Prop} {σ:Nat→ag} {w:ah} {S:ah→Prop} {r fuel:Nat} {listed:Array Bool} {d:Nat} {op:Op} {ty:TypeId} {pos :String} {af:Array Edge} {v:ag}
theorem qK (i:Nat) (hi:ops[i]? =some ⟨some d,op,ty,pos,af,none⟩) (E:∀ w,S w→(execOp (ev N σ) ⟨some d,op,ty,pos,af,none⟩).run P w= .ok (.value v) w) (A:S w) (k:cm P N ops Q S fuel (listed.setIfInBounds i true) (aV σ d v) w) (C:eI N.F ops listed i=true :=by kernel_rfl):cm P N ops Q S (fuel+1) listed σ w:=hp i hi C E A k
theorem JO (i:Nat) (hi:ops[i]? =some ⟨some d,op,ty,pos,af,none⟩) (E:∀ w,S w→(execOp (ev N σ) ⟨some d,op,ty,pos,af,none⟩).run P w= .ok (.value v) w) (A:S w) (k:cr P N ops Q S r fuel (listed.setIfInBounds i true) (aV σ d v) w) (C:wo N.F ops listed r i=true :=by kernel_rfl):cr P N ops Q S r (fuel+1) listed σ w:=B3 i hi C E A k
theorem B4 (i:Nat) (hi:ops[i]? =some ⟨some d,op,ty,pos,af,none⟩) (E:∀ w,(execOp (ev N σ) ⟨some d,op,ty,pos,af,none⟩).run P w= .ok (.value v) w) (A:listed.getD r false =false→S w) (k:cr P N ops Q S r fuel (listed.setIfInBounds i true) (aV σ d v) w) (C:m8 N.F ops listed r i=true :=by kernel_rfl):cr P N ops Q S r (fuel+1) listed σ w:=qR i hi C E A k
theorem cZ (i:Nat) (hi:ops[i]? =some ⟨some d,op,ty,pos,af,none⟩) (E:∀ {w},(execOp (ev N σ) ⟨some d,op,ty,pos,af,none⟩).run P w= .ok (.value v) w) (A:S w) (k:cm P N ops Q S fuel (listed.setIfInBounds i true) (aV σ d v) w) (C:eI N.F ops listed i=true :=by kernel_rfl):cm P N ops Q S (fuel+1) listed σ w:=hp i hi C (fun _ _=>E) A k
theorem iR (i:Nat) (hi:ops[i]? =some ⟨some d,op,ty,pos,af,none⟩) (E:∀ {w},(execOp (ev N σ) ⟨some d,op,ty,pos,af,none⟩).run P w= .ok (.value v) w) (A:S w) (k:cr P N ops Q S r fuel (listed.setIfInBounds i true) (aV σ d v) w) (C:oP N.F ops listed r i=true :=by kernel_rfl):cr P N ops Q S r (fuel+1) listed σ w:=lq i hi C (fun _ _=>E) A k
theorem qS (i:Nat) (hi:ops[i]? =some ⟨some d,op,ty,pos,af,none⟩) (E:∀ {w},(execOp (ev N σ) ⟨some d,op,ty,pos,af,none⟩).run P w= .ok (.value v) w) (A:S w) (k:cr P N ops Q S r fuel (listed.setIfInBounds i true) (aV σ d v) w) (C:m8 N.F ops listed r i=true :=by kernel_rfl):cr P N ops Q S r (fuel+1) listed σ w:=qR i hi C (fun _=>E) (fun _=>A) k
theorem na {x:Operand} (i:Nat) (hi:ops[i]? =some ⟨some d,.move x,ty,pos,af,none⟩) (v:ag) (A:S w) (k:cm P N ops Q S fuel (listed.setIfInBounds i true) (aV σ d v) w) (E:ev N σ x=v:=by exact U) (C:eI N.F ops listed i=true :=by kernel_rfl):cm P N ops Q S (fuel+1) listed σ w:=hp i hi C (fun _ _=>nk v E) A k
theorem NX {x:Operand} (i:Nat) (hi:ops[i]? =some ⟨some d,.move x,ty,pos,af,none⟩) (v:ag) (A:S w) (k:cr P N ops Q S r fuel (listed.setIfInBounds i true) (aV σ d v) w) (E:ev N σ x=v:=by exact U) (C:m8 N.F ops listed r i=true :=by kernel_rfl):cr P N ops Q S r (fuel+1) listed σ w:=qR i hi C (fun _=>nk v E) (fun _=>A) k
theorem kQ {P:ar} {f:FuncId} {fn:Func} (A:P.funcs[f]? =some fn) (hn:(fn.name== "runtime.NumGoroutine")=false :=by kernel_rfl) (hb:fn.body.isNone=false :=by kernel_rfl):ga P f:=vi A hn hb
section
variable {rest:List Oper} {x:Operand} {K:(Nat→ag)→ah→Prop} {l:List Oper} {id:Nat} {y z:Code} {j t:Nat} {want b:Bool} {fn:Func} {R:ag→ah→Prop}
theorem N0 (h:∀ {K:(Nat→ag)→ah→Prop},(∀ {σ w},bw P N y Q σ w→gZ K Q .normal σ w)→bw P N z (gZ K Q) σ w):bw P N (.seq z y) Q σ w:=sq fun K A=>h fun hw=>A _ _ hw
theorem N1 (h:∀ {K:(Nat→ag)→ah→Prop},(∀ {σ w},bw P N y Q σ w→gZ K Q .normal σ w)→bP P N l.toArray (gZ K Q) l σ w) (hr:ks N.r l=true :=by exact U):bw P N (.seq (.region id l.toArray false) y) Q σ w:=sq fun K A=>rg hr<|h fun hw=>A _ _ hw
theorem NV (h:Q .normal (aV σ d<|ev N σ x) w):bP P N ops Q [⟨some d,.assign x,ty,pos,af,none⟩] σ w:=p aR<|nl h
theorem cy {id:Nat} (h:Q (.exit id) σ w):gZ K Q (.exit id) σ w:=h
theorem NY (h:(dT ops j,aE t N.n,σ t,b==want)=(some t,true,.bool b,false)) (k:bP P N ops Q rest (aV σ d undef) w):bP P N ops Q (⟨some d,op,ty,pos,af,some (j,want)⟩::rest) σ w:=sk (congrArg gN h) (congrArg (·.2.1) h) (congrArg (·.2.2.1) h) (congrArg (·.2.2.2) h) k
theorem NZ (h:(dT ops j,aE t N.n,σ t)=(some t,true,undef)) (k:bP P N ops Q rest (aV σ d undef) w):bP P N ops Q (⟨some d,op,ty,pos,af,some (j,want)⟩::rest) σ w:=Dr (congrArg gN h) (congrArg (·.2.1) h) (congrArg (·.2.2) h) k
theorem bO (h:(dT ops j,aE t N.n,σ t)=(some t,true,.bool want)) (A:(execOp (ev N σ) ⟨some d,op,ty,pos,af,some (j,want)⟩).run P w= .ok (.value v) w) (k:bP P N ops Q rest (aV σ d v) w):bP P N ops Q (⟨some d,op,ty,pos,af,some (j,want)⟩::rest) σ w:=pg (congrArg gN h) (congrArg (·.2.1) h) (congrArg (·.2.2) h) A k
theorem NW (i:Nat) (h:(ops[i]?,dT ops j,aE t N.n,σ t,b==want)=(some ⟨some d,op,ty,pos,af,some (j,want)⟩,some t,true,.bool b,false)) (A:S w) (k:cm P N ops Q S fuel (listed.setIfInBounds i true) (aV σ d undef) w) (C:eI N.F ops listed i=true :=by kernel_rfl):cm P N ops Q S (fuel+1) listed σ w:=sO i (congrArg gN h) C (congrArg (·.2.1) h) (congrArg (·.2.2.1) h) (congrArg (·.2.2.2.1) h) (congrArg (·.2.2.2.2) h) A k
theorem fM (i:Nat) (h:(ops[i]?,dT ops j,aE t N.n,σ t)=(some ⟨some d,op,ty,pos,af,some (j,want)⟩,some t,true,.bool want)) (E:∀ w,S w→(execOp (ev N σ) ⟨some d,op,ty,pos,af,some (j,want)⟩).run P w= .ok (.value v) w) (A:S w) (k:cm P N ops Q S fuel (listed.setIfInBounds i true) (aV σ d v) w) (C:eI N.F ops listed i=true :=by kernel_rfl):cm P N ops Q S (fuel+1) listed σ w:=bV i (congrArg gN h) C (congrArg (·.2.1) h) (congrArg (·.2.2.1) h) (congrArg (·.2.2.2) h) E A k
theorem aO (h:(fn.results,ev N σ (.tmp t))=(#[.tmp t],v)) (A:R v w):fin P fn N R .ret σ w:=f1 (congrArg gN h) (congrArg Prod.snd h) A
theorem tz (v:ag) (h:bP P N ops Q rest (aV σ d v) w) (A:ev N σ x=v:=by exact U):bP P N ops Q (⟨some d,.move x,ty,pos,af,none⟩::rest) σ w:=p (nk v A) h
end
end Go.Hb
end
namespace Go.Hb.dO
theorem F9:dd aq 100=some (some 2):=ai
theorem zx:dd aq 143=some (some 2):=ai
theorem r8:dd aq 167=some (some 2):=ai
theorem lW:dd aq 27=some (some 7):=ai
theorem kO:dd aq 44=some (some 7):=ai
theorem Ga:dd aq 77=some (some 2):=ai
theorem zy:dd aq 81=some (some 2):=ai
theorem qk:dd aq 84=some (some 2):=ai
theorem zz:dd aq 88=some none:=ai
theorem Gn:kP aq 25=some (4,1):=ai
theorem zI:kP aq 303=some (256,1):=ai
theorem lX:kP aq 42=some (4,1):=ai
theorem zS:mT aq 150 5 9=true :=ai
theorem GP:ga aq 47:=kQ func47
theorem GQ:ga aq 49:=kQ func49
theorem GR:ga aq 53:=kQ func53
theorem lY:ga aq 54:=kQ func54
theorem vg:ga aq 55:=kQ func55
theorem fg:ga aq 56:=kQ func56
theorem GS:ga aq 58:=kQ func58
theorem eH:ga aq 86:=kQ func86
theorem zT:ga aq 90:=kQ func90
theorem z7:∀ v w,(callFunc 173 #[v]).run aq w= .ok (.value v) w:=fun v w=>ai
theorem Hx:cC aq 100=some 2:=ai
theorem Hy:cC aq 141=some 1:=ai
theorem z8:cC aq 143=some 2:=ai
theorem vx:cC aq 150=some 1:=ai
theorem sr:cC aq 167=some 2:=ai
theorem Hz:cC aq 212=some 1:=ai
theorem HA:cC aq 23=some 1:=ai
theorem HB:cC aq 24=some 1:=ai
theorem kT:cC aq 27=some 7:=ai
theorem cX:cC aq 3=some 1:=ai
theorem qv:cC aq 31=some 1:=ai
theorem z9:cC aq 4=some 1:=ai
theorem Aa:cC aq 40=some 1:=ai
theorem Ab:cC aq 41=some 1:=ai
theorem lZ:cC aq 44=some 7:=ai
theorem HC:cC aq 47=some 1:=ai
theorem Ac:cC aq 5=some 1:=ai
theorem Ad:cC aq 65=some 1:=ai
theorem HE:cC aq 77=some 2:=ai
theorem Ae:cC aq 79=some 1:=ai
theorem Af:cC aq 81=some 2:=ai
theorem Ag:cC aq 84=some 2:=ai
theorem vy:cC aq 88=some 1:=ai
theorem Ah:cC aq 9=some 1:=ai
theorem sE:cY aq 141=some 2:=ai
theorem qE:cY aq 150=some 1:=ai
theorem Ii:cY aq 23=some 2:=ai
theorem Ij:cY aq 24=some 2:=ai
theorem sF:cY aq 31=some 1:=ai
theorem Ik:cY aq 40=some 2:=ai
theorem jX:cY aq 41=some 2:=ai
theorem dR:cY aq 47=some 1:=ai
theorem A3:cY aq 64=some 1:=ai
theorem vR:cY aq 67=some 1:=ai
theorem l7:cY aq 79=some 2:=ai
theorem IE:m6 aq 81 1=some 1:=ai
theorem I7:(aq.info? 214).isSome=true :=ai
theorem Je:∀ (l:List UInt8) (c:UInt8) (w:ah),(callFunc 325 #[str l,.int .u8 c.toNat]).run aq w= .ok (.value<|.int .i64<|k0 c l) w:=Lm func325 ai ai ai ai
theorem tg:ko aq 88=true :=ai
theorem KM:ptrTo aq 302 5=true :=ai
theorem Dv:dU aq 141 167 2 16=true :=ai
theorem kA:dU aq 150 5 1 1=true :=ai
theorem Dw:dU aq 23 100 2 32=true :=ai
theorem Dx:dU aq 24 143 2 32=true :=ai
theorem iX:dU aq 31 9 1 16=true :=ai
theorem tT:dU aq 40 77 2 32=true :=ai
theorem tU:dU aq 41 81 2 32=true :=ai
theorem tV:dU aq 47 3 1 8=true :=ai
theorem LN:dU aq 64 4 1 1=true :=ai
theorem LO:dU aq 67 47 1 24=true :=ai
theorem tW:dU aq 79 84 2 16=true :=ai
theorem LW:eA aq 100=some ([(0,1),(1,1)],[.string ⟨⟨[]⟩⟩,.string ⟨⟨[]⟩⟩]):=ai
theorem LX:eA aq 143=some ([(0,1),(1,1)],[.bool false,.slice none 0 0]):=ai
theorem LY:eA aq 152=some ([(0,1),(1,1),(2,1),(3,1)],[.slice none 0 0,.slice none 0 0,.slice none 0 0,.int .i64 0]):=ai
theorem LZ:eA aq 156=some ([(0,1),(1,1)],[.string ⟨⟨[]⟩⟩,.int .i64 0]):=ai
theorem yo:eA aq 167=some ([(0,1),(1,1)],[.int .u8 0,.int .i64 0]):=ai
theorem L0:eA aq 226=some ([(0,1),(1,1),(2,1)],[.slice none 0 0,.int .i64 0,.slice none 0 0]):=ai
theorem L1:eA aq 235=some ([(0,1),(1,1),(2,1)],[.slice none 0 0,.int .i64 0,.slice none 0 0]):=ai
theorem tX:eA aq 27=some ([(0,1),(1,1),(2,1),(3,4)],[.int .i64 0,.string ⟨⟨[]⟩⟩,.slice none 0 0,.slice none 0 0,.slice none 0 0,.slice none 0 0,.slice none 0 0]):=ai
theorem yp:eA aq 44=some ([(0,1),(1,1),(2,1),(3,4)],[.int .i64 0,.string ⟨⟨[]⟩⟩,.slice none 0 0,.slice none 0 0,.slice none 0 0,.slice none 0 0,.slice none 0 0]):=ai
theorem L3:eA aq 60=some ([(0,1),(1,1),(2,1),(3,1),(4,1)],[.int .i64 0,.int .i64 0,.int .i64 0,.int .i64 0,.int .i64 0]):=ai
theorem L4:eA aq 69=some ([(0,1),(1,1),(2,1)],[.slice none 0 0,.slice none 0 0,.slice none 0 0]):=ai
theorem L5:eA aq 74=some ([(0,7),(7,1)],[.int .i64 0,.string ⟨⟨[]⟩⟩,.slice none 0 0,.slice none 0 0,.slice none 0 0,.slice none 0 0,.slice none 0 0,.string ⟨⟨[]⟩⟩]):=ai
theorem L6:eA aq 77=some ([(0,1),(1,1)],[.string ⟨⟨[]⟩⟩,.string ⟨⟨[]⟩⟩]):=ai
theorem L7:eA aq 81=some ([(0,1),(1,1)],[.bool false,.slice none 0 0]):=ai
theorem L8:eA aq 84=some ([(0,1),(1,1)],[.int .u8 0,.int .i64 0]):=ai
theorem L9:eA aq 96=some ([(0,1),(1,1),(2,1)],[.string ⟨⟨[]⟩⟩,.int .i64 0,.int .i64 0]):=ai
theorem DW:aq.underlying 212=some (.pointer 214):=ai
theorem mA:aq.underlying 22=some (.pointer 74):=ai
theorem u3:aq.underlying 3=some (.int .i64):=ai
theorem Mw:aq.underlying 301=some (.int .u64):=ai
theorem u4:aq.underlying 4=some (.bool):=ai
theorem Mx:aq.underlying 40=some (.slice 77):=ai
theorem My:aq.underlying 41=some (.slice 81):=ai
theorem rq:aq.underlying 65=some (.pointer 69):=ai
theorem Mz:aq.underlying 79=some (.slice 84):=ai
theorem DX:aq.underlying 85=some (.pointer 81):=ai
theorem u9:aq.underlying 9=some (.string):=ai
theorem pG:aq.underlying 97=some (.int .u64):=ai
theorem D3:nz aq 212 291 214 2=true :=ai
theorem ub:(aq.underlying 3).isSome=true :=ai
theorem MH:(aq.underlying 301).isSome=true :=ai
theorem ru:(aq.underlying 5).isSome=true :=ai
theorem mC:(aq.underlying 97).isSome=true :=ai
theorem wide:aq.follows .mixedOrders=true :=ai
theorem NL:zeroOf aq 100=some (some [.string ⟨⟨[]⟩⟩,.string ⟨⟨[]⟩⟩]):=ai
theorem Eo:zeroOf aq 143=some (some [.bool false,.slice none 0 0]):=ai
theorem Ep:zeroOf aq 167=some (some [.int .u8 0,.int .i64 0]):=ai
theorem NM:zeroOf aq 214=some (some [.pointer none,.slice none 0 0]):=ai
theorem pJ:zeroOf aq 27=some (some [.int .i64 0,.string ⟨⟨[]⟩⟩,.slice none 0 0,.slice none 0 0,.slice none 0 0,.slice none 0 0,.slice none 0 0]):=ai
theorem pK:zeroOf aq 3=some (some [.int .i64 0]):=ai
theorem NN:zeroOf aq 31=some (some [.slice none 0 0]):=ai
theorem pL:zeroOf aq 44=some (some [.int .i64 0,.string ⟨⟨[]⟩⟩,.slice none 0 0,.slice none 0 0,.slice none 0 0,.slice none 0 0,.slice none 0 0]):=ai
theorem NO:zeroOf aq 47=some (some [.slice none 0 0]):=ai
theorem Er:zeroOf aq 65=some (some [.pointer none]):=ai
theorem NP:zeroOf aq 77=some (some [.string ⟨⟨[]⟩⟩,.string ⟨⟨[]⟩⟩]):=ai
theorem Es:zeroOf aq 81=some (some [.bool false,.slice none 0 0]):=ai
theorem Et:zeroOf aq 84=some (some [.int .u8 0,.int .i64 0]):=ai
theorem NQ:zeroOf aq 88=some (some [.int .i64 0]):=ai
theorem NR:zeroOf aq 303=some (some<|dr 256<|.bool false):=ai
theorem NS:zeroV aq 88=some (.int .i64 0):=ai
end Go.Hb.dO
section
namespace Go.Hb
open Go.Hb.dO
theorem Hn (b:Nat) (A:Option bL) (E:ag) (w:ah) (hb:w.heap[b]? =some (.cells [ux A,E].toArray 214 (0,0))) (hp:A=none∨A=some ⟨b,0,none⟩):
 bg aq 126 (bl [aT b]) w (fun v w'=>v= .tuple #[]∧w'.heap[b]? =some (.cells [ux (some ⟨b,0,none⟩),E].toArray 214 (0,0))∧Md (fun k=>k=b) w w'):=by
 refine enter func126 U ntmps126 U<|aU 5 U<|p (aw U<|(bt hb).trans U)<|p (ix DW U U)<|aK 2 U<|cb U (fun C=> ?_) fun C=> ?_;obtain rfl :A=none:=by simpa using C
 exact aI 3 U<|p (DS D3 U hb U)<|p (Hd z7 U)<|p (Bo D3 U hb U)<|aj 2 U<|e<|cU Hz U U U hb (by simp) fun L J I=>ay 1 U<|f0 U<|⟨U,I,J⟩
 obtain rfl :A=some ⟨b,0,none⟩:=hp.resolve_left<|by rintro rfl; simp at C
 exact aI 5 U<|p (aw U<|(bt hb).trans U)<|aj 1 U<|p (Ke DW I7 U U)<|ay 4 U<|f0 U<|⟨U,hb,Md.refl _ _⟩
theorem ND (b:Nat) (C:ag) (l:List UInt8) (c:UInt8) (w:ah) (hb:Bd 214 5 w b C l) (aD:l.length≤70368744177664):
 bg aq 83 (bl [aT b,.int .u8 c.toNat]) w (fun v w'=>v= .nilIface∧∃ L,Bd 214 5 w' b L (l++ [c])∧Md (BF b C) w w'∧∀ k,BF b L k→BF b C k∨w.heap.size≤k):=by
 obtain ⟨⟨az,ac,av⟩,hown,hnil⟩:=hb;have aE:b < w.heap.size:=(dq.1 ac).1;have ad:∀ k,C.ownBlock=some k→k≠b∧k < w.heap.size:=fun k A=>by have :=hown.lt k A; exact ⟨ab,this.2⟩
 refine enter func83 U ntmps83 U<|aU 8 U<|e<|aX (Hn b az C w ac av) U ?_;rintro v6 aJ ⟨_,Z,I⟩;have au:=bR hown I fun k A=>(ad k A).1;have aF:=I.size;refine aj 8 U<|p (aw U<|(bt Z).trans U)<|aj 1 U<|e<|jO kA U U fun aA aG aC E al=>e<|ap kA (bh au E.md) U (by have :=E.size; omega) U (a9.fQ al) (U) (U) ab ab fun ae aH J O ax ar=> ?_;have ao:=O.ak (Wk.ak E.md Z) fun h=>(ad b h).1 rfl;refine aj 2 U<|e<|cU vx U U (by obtain ⟨a,c,h,_⟩:=tv J; exact congrArg fu h) ao (by simp) fun aI V am=>ay 8 U<|aO U ?_;have ai:∀ k,ae.ownBlock=some k→k≠b:=fun k A=>by have :=J.lt k A; omega
 refine ⟨U,ae,⟨⟨_,am,.inr U⟩,?_,?_⟩,?_,?_⟩;rw [bG,r6]; exact bR J V fun k A=>ai k A;rw [ax]; simp;refine Md.trans' (Md.trans' (Md.trans' (I.mono fun k _ h=> .inl h) E.md fun _ _ h=>h.elim) O fun k _ h=> .inr h) V fun k _ h=> .inl h;rintro k (rfl | A);exact .inl<|.inl U;by_cases h:C.ownBlock=some k;exact .inl<|.inr h;have :=ar k A; have h1:=I.size; have aB:=E.md.size; exact .inr<|by rcases this with M | M; exact absurd M h; omega
theorem Mo (b:Nat) (I:ag) (l:List UInt8) (w:ah) (hb:Bd 214 5 w b I l) (ac:l.length≤70368744177664):
 bg aq 84 (bl [aT b]) w (fun v w'=>v=str l∧Md (fun k=>I.ownBlock=some k) w w'):=by
 obtain ⟨⟨aj,J,ad⟩,hown,hnil⟩:=hb;obtain ⟨a,c,rfl,O,hle,V,Z⟩:=tv hown;refine enter func84 U ntmps84 U<|bX 6 U ?_;have A:(fun w'=>Md (fun k=>(cG a l.length c).ownBlock=some k) w w') w.drew:=(Md.refl _ _).drew;refine bo (fun w'=>Md (fun k=>(cG a l.length c).ownBlock=some k) w w') U wide A<|aH [0,1,2] U A<|qK 3 U (fun w' C=>aw U<|C.ax ((bt J).trans U) fun h=>by have :=hown.lt _ h; omega) A<|aH [5,6,7] U A<|qK 8 U (fun w' C=>aw U<|C.ax ((bt J).trans U) fun h=>by have :=hown.lt _ h; omega) A<|aH [9] U A ?_;refine cZ 4 U (yA (v:= .nilFunc) U (by
  by_cases h:l= []
  have :=hnil.2 h; simp only [Value.slice.injEq] at this; exact .inl this.1;right; have :0 < l.length:=List.length_pos_iff.2 h; omega)) A ?_
 refine he 10 U ai<|MI KM U U hown U ab fun M L ae=> ?_;have E:(fun w'=>Md (fun k=>(cG a l.length c).ownBlock=some k) w w') M:=A.trans' L fun _ _ h=>h;refine ⟨E,?_⟩;exact cZ 11 U (aR) E<|hn ai<|ba 2 U<|aO U<|⟨U,E⟩
end Go.Hb
end
section
namespace Go.Hb
open Go.Hb.dO
theorem vY (b:UInt8):fB b=decide (32 < (b.toNat:Int)∧(b.toNat:Int)≠127):=by
 unfold fB; exact decide_eq_decide.2 ab
theorem IB {b:UInt8} (h:32 < (b.toNat:Int)) (h1:(b.toNat:Int)≠127):fB b=true :=by rw [vY]; exact decide_eq_true ⟨h,h1⟩
theorem vX {b:UInt8} (h:¬(32 < (b.toNat:Int)∧(b.toNat:Int)≠127)):fB b=false :=by rw [vY]; exact decide_eq_false h
theorem Be (b:UInt8) (w:ah):
 bg aq 127 (bl [.int .u8 b.toNat]) w (fun v w'=>v= .bool (fB b)∧Wk w w'):=by
 refine enter func127 U ntmps127 U<|aU 10 U<|gs (t:=5) U (fun A=> ?_) fun A=> ?_;exact ay 7 U<|aO U<|⟨by show bp (decide _)=_; rw [vY]; exact bv (by constructor <;> intro h <;> first | exact ⟨ab,h⟩ | exact h.2),Md.refl _ _⟩
 exact aj 3 U<|p aR<|ay 3 U<|aO U<|⟨by show bp false =_; rw [vX ab],Md.refl _ _⟩
theorem MK (s:List UInt8) (w:ah) (ae:s.length≤1048576):
 bg aq 128 (bl [str s]) w (fun v w'=>v= .bool (nA s)∧Wk w w'):=by
 refine enter func128 U ntmps128 U<|aU 11 U<|gs (t:=6) U (fun E=> ?_) fun E=> ?_;exact ay 14 U<|aO U<|⟨by show bp false =_; unfold nA; rw [decide_eq_false (by rw [E]; simp)],Md.refl _ _⟩
 refine aK 6 U<|cd U (fun Z=> ?_) fun Z=> ?_;exact aG 7 U<|aO U<|⟨by show bp false =_; unfold nA; rw [decide_eq_false ab],Md.refl _ _⟩
 refine bS 11 U<|lp (fun J V O=> ∃ (i:Nat),(i≤s.length∧1≤s.length∧s.length≤64)∧(∀ j,j < i→fB (s.getD j 0)=true)∧(Wk w O)∧(Sl V [(0,str s),(12,.int .i64 s.length),(13,.int .i64 i)])∧(s.length - i=J)) _ ⟨0,(⟨ab,by rcases qc s.length with h | h <;> first | exact absurd (List.length_eq_zero_iff.1 h) E | exact h,ab⟩),(fun j M=>by omega),(Md.refl _ _),U,U⟩ ?_;rintro J V O ⟨i,hi,hp,A,ad,rfl⟩;refine bJ ad<|bX 6 U<|cd U (fun ac=> ?_) fun ac=> ?_;refine aI 14 U<|p (fN u9 U U ab)<|e<|aX (Be (s.getD i 0) _) U ?_;rintro ag ai ⟨rfl,L⟩;refine aK 3 U<|cb U (fun C=> ?_) fun C=> ?_;have I:fB (s.getD i 0)=false :=by simpa using C
 exact aG 8 U<|tr<|ba 2 U<|aO U<|⟨by show bp false =_; unfold nA; rw [qp (i:=i) ab I,decide_eq_false (by simp)],Md.trans A L⟩
 have I:fB (s.getD i 0)=true :=by simpa using C
 exact aG 7 U<|tn<|⟨_,ab,i+1,ab,(fun j M=>by rcases dD j i with h | h <;> first | exact hp j h | (rw [show j=i by omega]; exact I)),(Md.trans A L),U,U⟩
 exact aG 2 U<|cy<|ba 8 U<|aO U<|⟨by show bp true =_; unfold nA; rw [si (fun j M=>hp j ab),decide_eq_true ⟨hi.2.1,hi.2.2,U⟩],A⟩
theorem JF (s:List UInt8) (w:ah) (a3:s.length≤1048576):
 bg aq 91 (bl [str s]) w (fun v w'=>v= .tuple #[str (letE s).1,.int .i64 (letE s).2]∧Wk w w'):=by
 refine enter func91 U ntmps91 U<|aU 8 U<|e<|al NR fun O aV aY J ar=> ?_;have aH:az aV.heap O (marksOf []):=by rw [JZ]; exact ar
 refine aK 9 U<|cd U (fun am=> ?_) fun am=> ?_;exact aG 8 U<|f2 U U U<|⟨by show oe #[str [],.int .i64 21]=_; unfold letE; rw [if_pos (.inl am)]; rfl,J.md⟩
 refine aI 4 U<|e<|du NM fun I bb a0 aB aJ=>aK 11 U ?_;have aZ:=ar.lt;refine lp (fun ap aD M=> ∃ (i:Nat) (A:ag),(i≤s.length)∧(∀ j,j < i→fB (s.getD j 0)=true)∧(az M.heap O<|marksOf<|lets<|s.take i)∧(Bd 214 5 M I A<|lets<|s.take i)∧(Wk w M)∧(Sl aD [(0,str s),(4,aT O),(5,aT I),(10,.int .i64 s.length),(11,.int .i64 i)])∧(s.length - i=ap)) _ ⟨0,.slice none 0 0,ab,(fun j ao=>by omega),(aB.md.B aH),(Bd.new aJ),(Md.trans J.md aB.md),U,U⟩ ?_;rintro ap aD M ⟨i,A,hi,hp,aA,Z,ae,aR,rfl⟩;refine bJ aR ?_;have aQ:=xd<|s.take i;rw [cO] at aQ;have a1:=aA.lt;refine bX 6 U<|cd U (fun aP=> ?_) fun aP=> ?_;refine aI 15 U<|p (fN u9 U U ab)<|e<|aX (Be (s.getD i 0) _) U ?_;rintro a5 aS ⟨rfl,C⟩;refine aK 3 U<|cb U (fun ai=> ?_) fun ai=> ?_;have L:fB (s.getD i 0)=false :=by simpa using ai
 exact aG 10 U<|tr<|ba 2 U<|f2 U U U<|⟨by show oe #[str [],.int .i64 21]=_; unfold letE; rw [if_pos (.inr<|qp ab L)]; rfl,Md.trans ae C⟩
 have L:fB (s.getD i 0)=true :=by simpa using ai
 have au:Wk w aS:=Md.trans ae C;have V:=C.B aA;have ad:=Z.md C fun _ _ h=>h;have a4:=C.size;refine aI 6 U<|p (fN u9 U U ab)<|p (jr zI U U<|by have :=kM (s.getD i 0); omega)<|p (aw U<|J1 V _)<|aK 3 U<|cb U (fun ak=> ?_) fun ak=> ?_;have E:¬s.getD i 0∈lets (s.take i):=of_decide_eq_false<|by simpa using ak
 refine aI 4 U<|p (fN u9 U U ab)<|p (jr zI U U<|by have :=kM (s.getD i 0); omega)<|e<|st z9 U U (U) (V) (by rw [Cc]; have :=kM (s.getD i 0); omega) fun aW av aF=> ?_;have aO:=J2 aF;have aM:Wk w aW:=Md.trans' au av fun k aC h=>by omega
 have ac:=ad.md av fun k aC h=>by have :=ad.sM aC; omega
 refine aj 5 U<|p (fN u9 U U ab)<|e<|aX (ND I A (lets<|s.take i) (s.getD i 0) _ ac ab) U ?_;rintro a6 a8 ⟨rfl,aE,aL,ax,a2⟩;exact ay 7 U<|tn<|⟨_,ab,i+1,aE,ab,(fun j ao=>by rcases dD j i with h | h <;> first | exact hp j h | (rw [show j=i by omega]; exact L)),(by rw [me ab,if_neg E]; exact ax.B aO fun h=>by have :=ac.sM h; omega),(by rw [me ab,if_neg E]; exact aL),(ac.step aM ax<|by have :=J.md.size; omega),U,U⟩
 have E:s.getD i 0∈lets (s.take i):=by simpa using ak
 exact aG 7 U<|tn<|⟨_,ab,i+1,A,ab,(fun j ao=>by rcases dD j i with h | h <;> first | exact hp j h | (rw [show j=i by omega]; exact L)),(by rw [me ab,if_pos E]; exact V),(by rw [me ab,if_pos E]; exact ad),au,U,U⟩
 refine aG 2 U<|cy<|gy 4 U<|e<|aX (Mo I A (lets<|s.take i) _ Z<|by have :=xd (s.take i); rw [cO] at this; omega) U ?_;rintro a7 a9 ⟨rfl,aN⟩;exact ay 5 U<|f2 U U U<|⟨by show oe #[str (lets<|s.take i),.int .i64 0]=_; unfold letE; rw [if_neg (by rw [si (fun j ao=>hp j ab)]; exact fun h=>h.elim am cJ),show s.take i=s from jI ab]; rfl,Z.Mg ae aN<|by have :=J.md.size; omega⟩
end Go.Hb
end
section
namespace Go.Hb
open Go.Hb.dO
def kX (e:Int):List PanicEntry:= [{v:= .iface 88 (.int .i64 e),recovered:=false}]
def Lg:Except Nat (Nat×Nat)→Nat
 | .ok (n,_)=>n
 | .error _=>0
def Lh:Except Nat (Nat×Nat)→Nat
 | .ok (_,p)=>p
 | .error _=>0
def ph:Except Nat (Nat×Nat)→Nat
 | .ok _=>0
 | .error e=>e
def xV (r:Except Nat (Nat×Nat)):ag:= .tuple #[.int .u64 (Lg r:Nat),.int .i64 (Lh r:Nat),.int .i64 (ph r:Nat)]
theorem xW {s:List UInt8} {a e:Nat} (h:bc s a= .error e):e=60∨e=61:=by
 unfold bc at h;split at h
 · cases h; exact .inr rfl
 · split at h
   · cases h; exact .inl rfl
   · split at h
     · cases h; exact .inr rfl
     · cases h
theorem Lk {s:List UInt8} {a:Nat} (h:((ph (bc s a):Nat):Int)=0):∃ n p,bc s a= .ok (n,p):=by
 cases hX:bc s a with
 | ok x=>exact ⟨x.1,x.2,rfl⟩
 | error e=>
   rw [hX] at h;have :=xW hX;simp only [ph] at h; omega
theorem Lj {s:List UInt8} {a:Nat} (h:¬((ph (bc s a):Nat):Int)=0):bc s a= .error (ph<|bc s a):=by
 cases hX:bc s a with
 | ok x=>rw [hX] at h; simp [ph] at h
 | error e=>rfl
theorem Dt {s:List UInt8} {a n:Nat} :(s.take<|a+n).drop a=(s.drop a).take n:=by rw [Fk,zi]
theorem Bi {s:List UInt8} {a e:Nat} (h:bc s a= .error e):cR s a= .error e:=by unfold cR; rw [h]
theorem Bj {s:List UInt8} {a n p:Nat} (h:bc s a= .ok (n,p)) (hn:255 < n):cR s a= .error 62:=by unfold cR; rw [h]; exact if_pos hn
theorem Bk {s:List UInt8} {a n p:Nat} (h:bc s a= .ok (n,p)) (hn:¬255 < n) (hp:s.length < p+n):cR s a= .error 60:=by unfold cR; rw [h]; simp only; rw [if_neg hn,if_pos hp]
theorem Bl {s:List UInt8} {a n p:Nat} (h:bc s a= .ok (n,p)) (hn:¬255 < n) (hp:¬s.length < p+n):cR s a= .ok ((s.drop p).take n,p+n):=by unfold cR; rw [h]; simp only; rw [if_neg hn,if_neg hp]
theorem Gk:∀ r:Fin 256,pQ.wrap (iB pQ.bits ((r.val:Nat):Int) &&& iB pQ.bits 127).toNat=((r.val % 128:Nat):Int):=by decide+kernel
theorem Gj (b:UInt8):pQ.wrap (iB pQ.bits (b.toNat:Int) &&& iB pQ.bits 127).toNat=((b.toNat % 128:Nat):Int):=Gk ⟨b.toNat,kM b⟩
theorem CE (i:Nat):(128:Nat) ^ i=2 ^ (7 *i):=by rw [Nat.pow_mul]
theorem LH {x i:Nat} (hi:i≤9):n7.wrap (((x:Nat):Int)*2 ^ min ((7 *i:Nat):Int).toNat n7.bits)=((x*128 ^ i % 18446744073709551616:Nat):Int):=by
 have A:(n7.bits:Nat)=64:=rfl;rw [rN,A,Nat.min_eq_left ab,IntKind.wrap_u64,CE];generalize 7 *i=m;rw [show ((x:Nat):Int)*2 ^ m=((x*2 ^ m:Nat):Int) by simp];omega
theorem KD {n x i:Nat} (hi:i≤9) (hn:n < 128 ^ i):n7.wrap (iB n7.bits (n:Int) ||| iB n7.bits ((x*128 ^ i % 18446744073709551616:Nat):Int)).toNat=((n+x*128 ^ i % 18446744073709551616:Nat):Int):=by
 have C:(n7.bits:Nat)=64:=rfl;rw [CE] at hn ⊢;have I:x*2 ^ (7 *i) % 18446744073709551616=2 ^ (7 *i)*(x % 2 ^ (64 - 7 *i)):=by
  rw [show (18446744073709551616:Nat)=2 ^ (7 *i)*2 ^ (64 - 7 *i) by rw [← Nat.pow_add,show 7 *i+(64 - 7 *i)=64 by omega],FL x,Nat.mul_mod_mul_left]
 rw [I,C,EE,EE,BitVec.toNat_or,EF,EF];have A:x % 2 ^ (64 - 7 *i) < 2 ^ (64 - 7 *i):=Nat.mod_lt _<|Nat.two_pow_pos _;generalize x % 2 ^ (64 - 7 *i)=z at A;have hle:(2:Nat) ^ (7 *i)≤2 ^ 64:=rU aF ab;have hmul:2 ^ (7 *i)*z+n < 2 ^ 64:=by
  have E:2 ^ (7 *i)*(z+1)≤2 ^ (7 *i)*2 ^ (64 - 7 *i):=FM _ A;rw [← Nat.pow_add,show 7 *i+(64 - 7 *i)=64 by omega,Nat.mul_succ] at E;omega
 rw [zk ab,zk (show 2 ^ (7 *i)*z < 2 ^ 64 by omega),Nat.or_comm,← Nat.two_pow_add_eq_or_of_lt hn,gG ab,qa]
theorem sZ {s:List UInt8} {a i n:Nat} (hi:i≤9) (ha:a+i < s.length) (hn:n=dN ((s.drop a).take i)) (hb:i≤8∨(s.getD (a+i) 0).toNat≤1):n+(s.getD (a+i) 0).toNat % 128 *128 ^ i % 18446744073709551616=dN ((s.drop a).take<|i+1):=by
 have E:((s.drop a).take i).length=i:=by rw [cO,iG]; omega
 have I:(s.drop a)[i]? =some (s.getD (a+i) 0):=by
  rw [iF,bY,bC ab]; rfl
 rw [uN,I,Option.toList_some,xc,E,hn,dN,dN,Nat.mul_zero,Nat.add_zero];congr 1;have hm:(s.getD (a+i) 0).toNat % 128 < 128:=Nat.mod_lt _ aF;have A:i≤8∨(s.getD (a+i) 0).toNat % 128≤1:=hb.imp id fun h=>ab;generalize (s.getD (a+i) 0).toNat % 128=x at hm A ⊢;rw [FL,zk];have L:(128:Nat) ^ 9=9223372036854775808:=aF;rcases A with hb | hb
 · have h1:128 ^ i*x < 128 ^ i*128:=Nat.mul_lt_mul_of_pos_left hm<|Nat.pow_pos aF;have J:(128:Nat) ^ i*128=128 ^ (i+1):=rfl;have C:(128:Nat) ^ (i+1)≤128 ^ 9:=rU aF ab;omega
 · have C:(128:Nat) ^ i≤128 ^ 9:=rU aF ab;have M:128 ^ i*x≤128 ^ i*1:=FM _ hb;omega
theorem Ll (s:List UInt8) (a:Nat) (w:ah) (ap:s.length≤1048576) (ha:a≤s.length):
 bg aq 89 (bl [str s,aB a]) w (fun v w'=>v=xV (bc s a)∧Wk w w'):=by
 refine enter func89 U ntmps89 U<|aU 13 U<|gs (t:=11) U (fun h=>absurd h ab) fun ao=>aK 7 U<|cd U (fun ac=> ?_) fun ac=> ?_;exact aG 9 U<|f3 U U U U<|⟨by rw [tI (k:=0) (j5 ab (fun j M=>by omega)<|.inr<|.inl ab) ab ab]; rfl,Md.refl _ _⟩
 refine bS 9 U<|lp (fun L V O=> ∃ (i n:Nat),(i≤10)∧(∀ j,j < i→a+j < s.length∧128≤(s.getD (a+j) 0).toNat)∧(i≤9→n=dN ((s.drop a).take i))∧(Wk w O)∧(Sl V [(0,str s),(1,aB a),(4,.int .u64 (n:Nat)),(17,aB i)])∧(10 - i=L)) _ ⟨0,0,ab,(fun j M=>by omega),(fun _=>rfl),(Md.refl _ _),U,U⟩ ?_;rintro L V O ⟨i,n,hi,E,hn,C,am,rfl⟩;refine bJ am<|bX 6 U<|cd U (fun ad=> ?_) fun ad=> ?_;refine bS 21 U<|cd U (fun ae=> ?_) fun ae=> ?_;exact aG 11 U<|tr<|ba 2 U<|f3 U U U U<|⟨by rw [tI (k:=i) (j5 ab E<|.inr<|.inl ab) ab ab]; rfl,C⟩
 refine aI 7 U<|p (cg<|a+i)<|p (fN u9 U U ab)<|aK 4 U ?_;have al:n < 128 ^ i:=by
  have h1:=sY<|(s.drop a).take i;rw [← hn ab] at h1;have Z:((s.drop a).take i).length=i:=by rw [cO,iG]; omega
  rwa [Z] at h1
 refine aI 3 U<|p (cV U U<|Gj _)<|p (fL pG ru U<|gG ab)<|aj 1 U<|p (xw ((7 *i:Nat):Int) U U<|yE ab ab)<|p (shl U U ab<|LH ab)<|p (zP U U<|KD ab al)<|aK 12 U<|cd U (fun ag=> ?_) fun ag=> ?_;have ak:∀ j,j < i+1→a+j < s.length∧128≤(s.getD (a+j) 0).toNat:=fun j M=>by
  rcases dD j i with h | h;exact E j h;obtain rfl :j=i:=ab;exact ⟨ab,ab⟩
 exact aI 6 U<|p (cg<|i+1)<|ay 2 U<|tn<|⟨_,ab,i+1,n+(s.getD (a+i) 0).toNat % 128 *128 ^ i % 18446744073709551616,ab,ak,(fun h=>sZ ab ab (hn ab)<|.inl ab),C,U,U⟩
 refine aI 6 U<|gs (t:=45) U (fun ai=> ?_) fun ai=> ?_;refine aK 6 U<|cd U (fun I=> ?_) fun I=> ?_;refine bS 2 U<|cd U (fun I=> ?_) fun I=> ?_;refine aG 12 U<|tr<|ba 2 U<|f3 U U U U ?_;have A:=j5 (s:=s) (a:=a) (k:=i) ab E<|.inr<|.inr ab;exact ⟨by rw [pj A ab ab ab]; rfl,C⟩;refine aI 8 U<|p (cg<|a+i)<|p (cg<|a+i+1)<|ay 8 U<|tr<|ba 2 U<|f3 U U U U ?_;exfalso; omega;refine aI 4 U<|gs (t:=51) U (fun J=> ?_) fun J=> ?_;refine aK 6 U<|cd U (fun I=> ?_) fun I=> ?_;refine aG 12 U<|tr<|ba 2 U<|f3 U U U U ?_;have A:=j5 (s:=s) (a:=a) (k:=i) ab E<|.inr<|.inr ab;exact ⟨by rw [pj A ab ab ab]; rfl,C⟩;refine aI 8 U<|p (cg<|a+i)<|p (cg<|a+i+1)<|ay 8 U<|tr<|ba 2 U<|f3 U U U U ?_;have A:=j5 (s:=s) (a:=a) (k:=i) ab E<|.inr<|.inr ab;exact ⟨by rw [tH A ab ab ab,← sZ ab ab (hn ab) ab]; rfl,C⟩;refine aj 3 U<|p aR<|aj 11 U<|p (cg<|a+i)<|p (cg<|a+i+1)<|ay 8 U<|tr<|ba 2 U<|f3 U U U U ?_;exfalso; omega;refine aj 3 U<|p aR<|aj 7 U<|gs (t:=51) U (fun J=> ?_) fun J=> ?_;refine aK 6 U<|cd U (fun I=> ?_) fun I=> ?_;refine aG 12 U<|tr<|ba 2 U<|f3 U U U U ?_;have A:=j5 (s:=s) (a:=a) (k:=i) ab E<|.inr<|.inr ab;exact ⟨by rw [pj A ab ab ab]; rfl,C⟩;refine aI 8 U<|p (cg<|a+i)<|p (cg<|a+i+1)<|ay 8 U<|tr<|ba 2 U<|f3 U U U U ?_;have A:=j5 (s:=s) (a:=a) (k:=i) ab E<|.inr<|.inr ab;exact ⟨by rw [tH A ab ab ab,← sZ ab ab (hn ab) ab]; rfl,C⟩;refine aj 3 U<|p aR<|aj 11 U<|p (cg<|a+i)<|p (cg<|a+i+1)<|ay 8 U<|tr<|ba 2 U<|f3 U U U U ?_;have A:=j5 (s:=s) (a:=a) (k:=i) ab E<|.inr<|.inr ab;exact ⟨by rw [tH A ab ab ab,← sZ ab ab (hn ab) ab]; rfl,C⟩;refine aG 2 U<|cy<|ba 10 U<|f3 U U U U ?_;obtain rfl :i=10:=ab;exact ⟨by rw [C2 (j5 ab E<|.inl U)]; rfl,C⟩
theorem j7 (C:ag) (b:Bool) (e:Int) (w:ah):
 mP aq 56 (bl [C,.bool b,.int .i64 e]) w (fun v w'=>v=oe #[]∧b=true∧w'=w) (fun c w'=>c=kX e∧b=false∧w'=w):=by
 refine qD func56 U ntmps56 U<|bX 6 U<|cb U (fun A=> ?_) fun A=> ?_;exact aI 2 U<|p (xu tg U)<|KL U fun σ' E=>⟨U,by simpa using A,U⟩
 refine aG 1 U<|qH<|f0 U ?_;exact ⟨U,by simpa using A,U⟩
theorem oU (rb:Nat) (s:List UInt8) (a:Nat) (w:ah) (E:az w.heap rb [str s,.int .i64 (a:Nat)]) (ac:s.length≤1048576) (ha:a≤s.length):
 mP aq 54 (bl [.pointer (some ⟨rb,0,none⟩)]) w (fun v w'=> ∃ n p,bc s a= .ok (n,p)∧v= .int .u64 (n:Nat)∧az w'.heap rb [str s,.int .i64 (p:Nat)]∧Md (fun k=>k=rb) w w') (fun c w'=> ∃ e,bc s a= .error e∧c=kX e∧Md (fun k=>k=rb) w w'):=by
 refine qD func54 U ntmps54 U<|bX 6 U<|eT fun C=>aH [0,1,2] U C<|cM 3 U C (E.aN 0)<|aH [4,5,6] U C<|cM 7 U C (E.aN 1)<|he 8 U ai<|aX (Ll s a w.drew ac ha) U ?_;rintro ak L ⟨rfl,A⟩;have A:=Md.dg A;have J:(fun w'=>Wk w w') L:=A;refine ⟨J,?_⟩;refine hp 9 U ai (fun _ _=>mv) J<|aH [10,11,12,13,14,15] U J<|hn ai<|gy 7 U<|eP U (eC fg (j7 _ _ _ L) U fun al am Z=> ?_) fun c w' I σ' ag=>⟨_,Lj (of_decide_eq_false I.2.1),I.1,by rw [I.2.2]; exact A.mono fun _ _ h=>h.elim⟩
 obtain ⟨rfl,ad,rfl⟩:=Z;obtain ⟨n,ae,ab⟩:=Lk<|of_decide_eq_true ad;have M:=Wk.B A E;refine aj 8 U<|e<|st cX U U (U) (M) (by simp) fun ao V O=>ay 9 U<|qH<|f1 U U ?_;rw [ab] at*;exact ⟨n,ae,U,U,O,Md.trans (A.mono fun _ _ h=>h.elim) V⟩
theorem DQ (rb:Nat) (s:List UInt8) (a n:Nat) (w:ah) (I:az w.heap rb [str s,.int .i64 (a:Nat)]) (am:s.length≤1048576) (ha:a≤s.length) (al:n≤1048576):
 mP aq 90 (bl [.pointer (some ⟨rb,0,none⟩),.int .i64 (n:Nat)]) w (fun v w'=>a+n≤s.length∧v=str ((s.drop a).take n)∧az w'.heap rb [str s,.int .i64 ((a+n:Nat):Int)]∧Md (fun k=>k=rb) w w') (fun c w'=>s.length < a+n∧c=kX 60∧Md (fun k=>k=rb) w w'):=by
 refine qD func90 U ntmps90 U<|bX 6 U<|eT fun C=>aH [0,1,2,3,4] U C<|cM 5 U C (I.aN 0)<|aH [6,7,8,9] U C<|cM 10 U C (I.aN 1)<|aH [11,12] U C<|IY 13 U ai U (eC fg (j7 _ _ _ w.drew) U fun ao M ae=> ?_) fun c w' J σ' ak=>⟨by have :=of_decide_eq_false J.2.1; omega,J.1,by rw [J.2.2]; exact (Md.refl _ _).drew⟩
 obtain ⟨rfl,V,L⟩:=ae;have V:=of_decide_eq_true V;have O:az M.heap rb [str s,.int .i64 (a:Nat)]:=by rw [L]; exact I
 have ac:Md (fun k=>k=rb) w M:=by rw [L]; exact (Md.refl _ _).drew
 have ag:(fun w'=>Wk w w') M:=by rw [L]; exact (Md.refl _ _).drew
 refine ⟨ag,?_⟩;refine hn ai<|gy 6 U<|p (aw U<|O.aN 1)<|aj 1 U<|p (cg<|a+n)<|aj 2 U<|e<|st cX U U (U) (O) (by simp) fun ap ad Z=> ?_;have E:=Z;exact aK 3 U<|eT fun A=>aH [0,1,2] U A<|cM 3 U A (E.aN 0)<|aH [4,5,6] U A<|cM 7 U A (E.aN 1)<|aH [8] U A<|hp 9 U ai (fun _ _=>pn<|a) A<|aH [10,11,12] U A<|cM 13 U A (E.aN 1)<|hp 14 U ai (fun _ _=>my u9 U U U ab) A<|aH [15] U A<|hn ai<|ba 2 U<|qH<|f1 U U<|⟨ab,by rw [← Dt]; rfl,E,(ac.trans ad).drew⟩
theorem wj (rb:Nat) (s:List UInt8) (a:Nat) (w:ah) (M:az w.heap rb [str s,.int .i64 (a:Nat)]) (J:s.length≤1048576) (ha:a≤s.length):
 mP aq 55 (bl [.pointer (some ⟨rb,0,none⟩)]) w (fun v w'=> ∃ f p,cR s a= .ok (f,p)∧v=str f∧az w'.heap rb [str s,.int .i64 (p:Nat)]∧Md (fun k=>k=rb) w w') (fun c w'=> ∃ e,cR s a= .error e∧c=kX e∧Md (fun k=>k=rb) w w'):=by
 refine qD func55 U ntmps55 U<|aU 8 U<|eP U (eC lY (oU rb s a w M J ha) U fun av ak ae=> ?_) fun c w' A σ' I=>by obtain ⟨e,he,ai,Z⟩:=A; exact ⟨e,Bi he,ai,Z⟩
 obtain ⟨n,q,C,rfl,V,E⟩:=ae;obtain ⟨am,ao,ap⟩:=jz C;refine aj 8 U<|eP U (eC fg (j7 _ _ _ ak) U fun aw al ag=> ?_) fun c w' A σ' I=>⟨62,Bj C (by have :=of_decide_eq_false A.2.1; omega),A.1,by rw [A.2.2]; exact E⟩
 obtain ⟨rfl,L,rfl⟩:=ag;have L:=of_decide_eq_true L;refine aj 6 U<|p (fL u3 mC U<|hJ ab)<|eP U (eC zT (DQ rb s q n al V J ab ab) U fun au ax ad=> ?_) fun c w' A σ' I=>⟨60,Bk C ab A.1,A.2.1,E.trans A.2.2⟩
 obtain ⟨ar,rfl,O,ac⟩:=ad;exact ay 4 U<|qH<|f1 U U<|⟨_,_,Bl C ab ab,U,O,E.trans ac⟩
theorem DR {s:List UInt8} {i:Nat} (h:i < s.length):(s.take<|i+1).drop i= [s.getD i 0]:=by
 rw [Fk,show i+1 - i=1 by omega,drop_cons 0 h]; rfl
theorem MN (b:UInt8):nA [b]=fB b:=by
 unfold nA gh;cases h:fB b <;> simp [h]
def il:List UInt8×List UInt8:=([],[])
def eu (r:List UInt8×List UInt8):List ag:= [str r.1,str r.2]
theorem CX {h:Array Obj} {a:Option bL} {rs:List (List UInt8×List UInt8)} {i:Nat} (A:a9 h a (rs.flatMap eu)) (hi:i < rs.length):∀ j,j < 2→Hb.ax h (bk a) (fo a+i*2 +j)= [str (rs.getD i il).1,str (rs.getD i il).2][j]? :=
 l8 (f:=eu) (m:=2) (fun _=>rfl) A (by rw [bY,bC hi]; rfl)
theorem CY {rs:List (List UInt8×List UInt8)} (h:0 < rs.length):rs.flatMap eu≠[]:=oM (f:=eu) (m:=2) (fun _=>rfl) aF h
variable {ls:Nat} {t:List UInt8} {rs:List (List UInt8×List UInt8)}
theorem nT {b:Bool} (h:(!b)=true):b=false :=by cases b; rfl; cases h
theorem pv (h:ls < 1∨64 < ls∨256 < rs.length):ew ls t rs=false :=by
 unfold ew;rw [decide_eq_false ab]; rfl
theorem tN (h:t≠[]) (A:letE t≠(t,0)):ew ls t rs=false :=by
 unfold ew;rw [decide_eq_false h,decide_eq_false A]; simp
theorem mu {i:Nat} (h:i < rs.length) (A:gX (rs.getD i il)=false):ew ls t rs=false :=by
 unfold ew;rw [zB il h A]; simp
theorem De (h:¬(ls < 1∨64 < ls∨256 < rs.length)) (A:t= []∨letE t=(t,0)) (C:∀ i,i < rs.length→gX (rs.getD i il)=true):ew ls t rs=true :=by
 unfold ew;rw [decide_eq_true ab,zC il C];rcases A with A | A <;> simp [A]
theorem Dg {r:List UInt8×List UInt8} (h:r.1= []):gX r=false :=by unfold gX; simp [h]
theorem x9 {r:List UInt8×List UInt8} (h:(gh r.1 && decide (r.1.length≤32))=false):gX r=false :=by unfold gX; rw [h]; simp
theorem ya {r:List UInt8×List UInt8} (h:(gh r.2 && decide (r.2.length≤32))=false):gX r=false :=by unfold gX; rw [h]; simp
theorem Dh {r:List UInt8×List UInt8} (h0:r.1≠[]) (h:(gh r.1 && decide (r.1.length≤32))=true) (A:(gh r.2 && decide (r.2.length≤32))=true):gX r=true :=by unfold gX; rw [h,A,decide_eq_true h0]; rfl
theorem CJ (x:List UInt8) (m:Nat) (w:ah) (ad:x.length≤1048576):
 bg aq 92 (bl [str x,aB m]) w (fun v w'=>v= .bool (gh x && decide (x.length≤m))∧Wk w w'):=by
 refine enter func92 U ntmps92 U<|bX 14 U<|lp (fun I V E=> ∃ (i:Nat),(i≤x.length)∧(∀ j,j < i→fB (x.getD j 0)=true)∧(Wk w E)∧(Sl V [(0,str x),(1,aB m),(7,aB (x.length)),(8,aB i)])∧(x.length - i=I)) _ ⟨0,ab,(fun j M=>by omega),(Md.refl _ _),U,U⟩ ?_;rintro I V E ⟨i,hi,O,A,ac,rfl⟩;refine bJ ac<|bX 6 U<|cd U (fun Z=> ?_) fun Z=> ?_;refine aI 15 U<|p (cg<|i+1)<|p (my u9 U U U ab)<|e<|aX (MK ((x.take<|i+1).drop i) E<|by rw [DR ab]; simp) U fun ae ag L=> ?_;rw [DR ab,MN] at L;obtain ⟨rfl,J⟩:=L;refine aK 3 U<|cb U (fun C=> ?_) fun C=> ?_;exact aG 8 U<|tr<|ba 2 U<|aO U<|⟨by rw [qp (i:=i) ab (by simpa using C)]; rfl,A.trans J⟩
 exact aI 4 U<|p (cg<|i+1)<|ay 2 U<|tn<|⟨_,ab,i+1,ab,(fun j M=>by rcases dD j i with h | h <;> first | exact O j h | (rw [show j=i by omega]; simpa using C)),(A.trans J),U,U⟩
 exact aG 2 U<|cy<|ba 12 U<|aO U<|⟨by rw [si (fun j M=>O j ab),nX]; exact bv ab,A⟩
theorem Lz (ls:Nat) (t:List UInt8) (rs:List (List UInt8×List UInt8)) (V:Option bL) (rc:Nat) (aD v4 aE v6:ag) (w:ah) (au:a9 w.heap V (rs.flatMap eu)) (bd:ls≤64) (bi:t.length≤1048576) (bf:rs.length≤1048576) (a1:∀ r∈rs,r.1.length≤1048576∧r.2.length≤1048576):
 bg aq 57 (bl [.agg #[aB ls,str t,.slice V rs.length rc,aD,v4,aE,v6]]) w (fun v w'=>v= .bool (ew ls t rs)∧Wk w w'):=by
 refine enter func57 U ntmps57 U<|aU 2 U<|e<|mS U fun ap a6 a8 M C=>aj 7 U<|p (aw U<|C.aN 0)<|aj 2 U<|gs (t:=10) U (fun aZ=> ?_) fun aZ=> ?_;exact aj 4 U<|p mv<|ay 15 U<|aO U<|⟨(congrArg bp<|pv (t:=t) (rs:=rs)<|.inl (show ls < 1 by omega)).symm,M.md⟩
 refine aj 1 U<|bO U (aw U<|C.aN 0)<|aj 3 U<|gs (t:=15) U (fun a0=> ?_) fun a0=> ?_;exact ay 15 U<|aO U<|⟨(congrArg bp<|pv (t:=t) (rs:=rs)<|.inr<|.inl (show 64 < ls by omega)).symm,M.md⟩
 refine aj 1 U<|bO U (aw U<|C.aN 2)<|aK 5 U<|cd U (fun aW=> ?_) fun aW=> ?_;exact aG 7 U<|aO U<|⟨(congrArg bp<|pv<|.inr<|.inr (show 256 < rs.length by omega)).symm,M.md⟩
 refine bS 2 U ?_;refine eJ (fun aF am=> ∃ (a5:Unit),(t= []∨letE t=(t,0))∧(Wk w am)∧(az am.heap ap [aB ls,str t,.slice V rs.length rc,aD,v4,aE,v6])∧(Sl aF [(1,aT ap)])) ?_ ?_;refine aU 3 U<|p (aw U<|C.aN 1)<|e<|aX (JF t a6 ab) U ?_;rintro bj bo ⟨rfl,av⟩;have I:=M.md.trans av;have E:=Wk.B av C;refine p mv<|aj 9 U<|p (aw U<|E.aN 1)<|aj 2 U<|gs (t:=30) U (fun O=> ?_) fun O=> ?_;refine aj 3 U<|gs (t:=33) U (fun ae=> ?_) fun ae=> ?_;exact aj 5 U<|p (nq U)<|ay 9 U<|tr<|aO U<|⟨(congrArg bp<|tN O fun h=>by rw [h] at ae; exact ae U).symm,I⟩
 refine aj 2 U<|bO U (aw U<|E.aN 1)<|aK 5 U<|cd U (fun ac=> ?_) fun ac=> ?_;exact aG 6 U<|tr<|aO U<|⟨(congrArg bp<|tN O fun h=>ac<|by rw [h]).symm,I⟩
 exact aG 1 U<|tn<|⟨(),(.inr<|Prod.ext (rD.1 ac)<|by show (letE t).2=0; omega),I,E,U⟩
 exact ay 13 U<|tn<|⟨(),(.inl<|rD.1 O),I,E,U⟩
 rintro aF am ⟨a5,a4,aR,aQ,a2⟩;refine bJ a2<|aI 4 U<|p (aw U<|aQ.aN 2)<|aK 5 U<|lp (fun ar aH ao=> ∃ (i:Nat),(i≤rs.length)∧(∀ j,j < i→gX (rs.getD j il)=true)∧(Wk w ao)∧(Sl aH [(41,.slice V rs.length rc),(42,aB (rs.length)),(43,aB i)])∧(rs.length - i=ar)) _ ⟨0,ab,(fun j aA=>by omega),aR,U,U⟩ ?_;rintro ar aH ao ⟨i,hi,aC,A,a3,rfl⟩;refine bJ a3<|bX 6 U<|cd U (fun aY=> ?_) fun aY=> ?_;refine aI 6 U<|p (bE Ik U U ab<|a9.ok (au.wk A)<|CY ab)<|p (eU Ga U (U)<|CX (au.wk A) ab)<|e<|du NP fun aJ br bb aV aM=>e<|eb HE U U U U aM (by simp) fun al aS aP=> ?_;have Z:az al.heap aJ [str (rs.getD i il).1,str (rs.getD i il).2]:=⟨_,aP⟩
 have L:Wk ao al:=Md.trans' aV.md aS fun k bc h=>by omega
 have bh:=a1 _<|j1 (d:=il) (show i < rs.length by omega);refine aj 5 U<|p (aw U<|Z.aN 0)<|aj 2 U<|gs (t:=50) U (fun ai=> ?_) fun ai=> ?_;exact aj 5 U<|p mv<|ay 16 U<|tr<|ba 2 U<|aO U<|⟨(congrArg bp<|mu (show i < rs.length by omega)<|Dg ai).symm,A.trans L⟩
 refine aj 1 U<|bO U (aw U<|Z.aN 0)<|eg U U U<|aX (CJ _ 32 al ab) U ?_;rintro bm a7 ⟨rfl,J⟩;have aL:=Wk.B J Z;refine aj 3 U<|gb (t:=56) U (fun ak=> ?_) fun ak=> ?_;exact ay 16 U<|tr<|ba 2 U<|aO U<|⟨(congrArg bp<|mu (show i < rs.length by omega)<|x9<|nT ak).symm,(A.trans L).trans J⟩
 refine aj 1 U<|bO U (aw U<|aL.aN 1)<|eg U U U<|aX (CJ _ 32 a7 ab) U ?_;rintro bn bq ⟨rfl,ax⟩;refine aK 4 U<|cb U (fun ad=> ?_) fun ad=> ?_;exact aG 8 U<|tr<|ba 2 U<|aO U<|⟨(congrArg bp<|mu (show i < rs.length by omega)<|ya<|nT ad).symm,((A.trans L).trans J).trans ax⟩
 exact aI 4 U<|p (cg<|i+1)<|ay 2 U<|tn<|⟨_,ab,i+1,ab,(fun j aA=>by rcases dD j i with h | h <;> first | exact aC j h | (rw [show j=i by omega]; exact Dh ai (by simpa using ak)<|by simpa using ad)),(((A.trans L).trans J).trans ax),U,U⟩
 exact aG 2 U<|cy<|ba 8 U<|aO U<|⟨(congrArg bp<|De ab a4 fun j aA=>aC j ab).symm,A⟩
end Go.Hb
end
section
namespace Go.Hb
open Go.Hb.dO
structure eE (f:Nat→ag) (w:ah) (pA ms:Nat) (aa:Option bL) (n cA nx:Nat) (mk:List Nat):Prop where
 ak:az w.heap pA [.slice aa n cA,.int .i64 nx,.slice (some ⟨ms,0,none⟩) n n]
 gB:az w.heap ms (mk.map f)
 ne:pA≠ms
theorem eE.drew {f:Nat→ag} {w:ah} {A ms:Nat} {aa:Option bL} {n cA nx:Nat} {mk:List Nat} (h:eE f w A ms aa n cA nx mk):eE f w.drew A ms aa n cA nx mk:=⟨h.ak,h.gB,h.ne⟩
theorem xn {f:Nat→ag} {mk:List Nat} {i x:Nat} :(mk.map f).set (0 +i*1) (f x)=(mk.set i x).map f:=by rw [List.map_set,cz,Nat.mul_one]
section
variable {a:List aJ} {f nx:Nat} {mk:List Nat} {n:Int}
theorem ry (h:n≠nx) (A:¬(0≤n∧n < nx)):vs a (f+1) (nx,mk) n=none:=by
 rw [yD h,if_neg (fun e=>A ⟨e.1,e.2.1⟩)]
theorem D6 (h:n≠nx) (h0:0≤n) (h1:n < nx):(vs a (f+1) (nx,mk) n).isSome=decide (((mk.getD n.toNat 0:Nat):Int)=2):=by
 rw [yD h];by_cases A:mk.getD n.toNat 0=2
 · rw [if_pos ⟨h0,h1,A⟩,decide_eq_true ab]; rfl
 · rw [if_neg (fun e=>A e.2.2),decide_eq_false ab]; rfl
theorem D7 {s:Nat×List Nat} (h:n≠nx) (A:vs a (f+1) (nx,mk) n=some s):s=(nx,mk):=by
 rw [yD h] at A;split at A
 · cases A; rfl
 · cases A
end
set_option maxHeartbeats 1000000 in
theorem ML (f:Nat) (a:List aJ) (aa:Option bL) (cA E ms:Nat) (w0:ah) (nx:Nat) (mk:List Nat) (n:Int) (w:ah) (bn:ej w0.heap aa a) (cv:w0.heap.size≤E) (hm:w0.heap.size≤ms) (a1:Wk w0 w) (I:eE jP w E ms aa a.length cA nx mk) (cs:mk.length=a.length) (cu:nx≤a.length) (cr:a.length < f+nx) (hb:a.length≤1048576) (b1:∀ i,i < a.length→(aA a i).2.length≤1073741824):
 bg aq 87 (bl [aT E,.int .i64 n]) w (fun v w'=>v= .bool (vs a f (nx,mk) n).isSome∧Md (fun q=>q=E∨q=ms) w w'∧∀ s,vs a f (nx,mk) n=some s→eE jP w' E ms aa a.length cA s.1 s.2):=by
 induction f generalizing nx mk n w with
 | zero=>omega
 | succ f ih=>
   have a3:∀ k,k < w0.heap.size→(k=E∨k=ms)→False:=fun k h1 cj=>ab;have cw:=I.ak.lt;have ct:=I.gB.lt;have am:=I.ne;obtain ⟨ci,bY⟩:=I.ak;refine enter func87 U ntmps87 U<|aU 12 U<|p (aw U<|I.ak.ax 1)<|aK 3 U<|cd U (fun ar=> ?_) fun ar=> ?_;refine aI 5 U<|gs (t:=16) U (fun b3=> ?_) fun b3=> ?_;refine aj 4 U<|bO U (aw U<|I.ak.ax 1)<|aj 3 U<|gs (t:=24) U (fun b4=> ?_) fun b4=> ?_;refine aj 3 U<|bO U (aw U<|I.ak.ax 2)<|aj 1 U<|bO U (ia qE U U ab)<|bO U (aw U (show _=some (aZ .u8 ((mk.getD n.toNat 0:Nat):Int)) from zN I.gB (i:=n.toNat) ab))<|ay 7 U<|aO U ?_;refine ⟨congrArg bp (D6 ar ab ab).symm,Md.refl _ _,fun s A=>by rw [D7 ar A]; exact I⟩;refine aj 9 U<|p aR<|ay 4 U<|aO U ?_;rw [ry ar ab];exact ⟨U,Md.refl _ _,fun s A=>by cases A⟩;refine aj 7 U<|p mv<|aj 9 U<|p aR<|ay 4 U<|aO U ?_;rw [ry ar ab];exact ⟨U,Md.refl _ _,fun s A=>by cases A⟩;obtain rfl :n=(nx:Int):=rD.1 ar;refine aI 9 U<|p (aw U<|I.ak.ax 0)<|aK 4 U<|cd U (fun bZ=> ?_) fun bZ=> ?_;refine aG 7 U<|aO U ?_;rw [Eb rfl ab];exact ⟨U,Md.refl _ _,fun s A=>by cases A⟩;refine aI 7 U<|p (aw U<|I.ak.ax 1)<|p (cg<|nx+1)<|aj 2 U<|e<|cU cX U U U bY (by simp) fun ce bv bH=> ?_;have br:az ce.heap E [.slice aa a.length cA,.int .i64 ((nx+1:Nat):Int),.slice (some ⟨ms,0,none⟩) a.length a.length]:=⟨_,bH⟩
   have b8:=bv.B I.gB fun e=>am e.symm;obtain ⟨em,bV⟩:=b8;refine aj 7 U<|p (aw U<|br.ax 2)<|aj 1 U<|p (ia qE U U ab)<|e<|cU Ac U U U bV (by simp; omega) fun aN bw bI=> ?_;have b9:az aN.heap ms ((mk.set nx 1).map jP):=by rw [← xn]; exact ⟨_,bI⟩
   have a4:eE jP aN E ms aa a.length cA (nx+1) (mk.set nx 1):=⟨bw.B br am,b9,am⟩
   have a8:Md (fun q=>q=E∨q=ms) w aN:=Md.trans (bv.mono fun k _ h=> .inl h)<|bw.mono fun k _ h=> .inr h;have a2:Wk w0 aN:=Md.trans' a1 a8 a3;obtain ⟨ad,ae,bA,aC⟩:=bn.two (i:=nx) ab;have cm:=aC.wk a2;refine aj 7 U<|p (aw U<|a4.ak.ax 0)<|aj 1 U<|p (bE jX U U ab<|bn.ok ab)<|p (eU zy U (U)<|mz a2 bA)<|e<|du Es fun ac cz cp bU bK=>e<|eb Af U U U U bK (by simp) fun bj bQ bM=> ?_;have bt:az bj.heap ac [bp (aA a nx).1,.slice ad (aA a nx).2.length ae]:=⟨_,bM⟩
   have aQ:Wk aN bj:=Md.trans' bU.md bQ fun k bx h=>by omega
   have bN:eE jP bj E ms aa a.length cA (nx+1) (mk.set nx 1):=⟨aQ.B a4.ak,aQ.B a4.gB,am⟩
   have ck:=a8.size;refine aj 6 U<|p (aw U<|bt.ax 1)<|aK 5 U<|lp (fun bm bz au=> ∃ (k M:Nat) (J:List Nat),(k≤(aA a nx).2.length)∧(fT a f (nx+1) (mk.set nx 1) ((aA a nx).2.take k)=some (M,J))∧(dP<|(aA a nx).2.take k)∧(Wk w0 au)∧(Md (fun q=>q=E∨q=ms) w au)∧(eE jP au E ms aa a.length cA M J)∧(az (au).heap ac [bp (aA a nx).1,.slice ad (aA a nx).2.length ae])∧(Sl bz [(0,aT E),(1,.int .i64 (nx:Int)),(5,aT ac),(62,.slice ad (aA a nx).2.length ae),(63,.int .i64 (aA a nx).2.length),(64,.int .i64 k)])∧((aA a nx).2.length - k=bm)) _ ⟨0,nx+1,mk.set nx 1,ab,U,List.Pairwise.nil,(Md.trans a2 aQ),(Md.trans' a8 aQ fun k _ h=>h.elim),bN,bt,U,U⟩ ?_;rintro bm bz au ⟨k,M,J,bx,Z,aY,aS,a6,aD,ap,ca,rfl⟩;refine bJ ca<|bX 6 U<|cd U (fun b0=> ?_) fun b0=> ?_;refine bS 5 U ?_;have cq:=b1 nx ab;obtain ⟨⟨c,z⟩,hek⟩:∃ e,(aA a nx).2[k]? =some e:=⟨_,bC ab⟩
   obtain ⟨⟨aP,cf⟩,hep⟩:∃ e,(aA a nx).2[k - 1]? =some e:=⟨_,bC ab⟩
   have bb:=ue Z ab;simp only [iH] at bb;refine aI 2 U<|p (bE l7 U U ab<|aC.ok ab)<|p (eU qk U (U)<|mz aS<|aC.two hek)<|e<|du Et fun av cx co bR bB=>aj 1 U<|e<|eb Ag U U U U bB (by simp) fun aM bP bF=> ?_;have a0:az aM.heap av [aZ .u8 c.toNat,.int .i64 z]:=⟨_,bF⟩
   have L:Wk au aM:=Md.trans' bR.md bP fun k bx h=>by omega
   have bu:eE jP aM E ms aa a.length cA M J:=⟨L.B aD.ak,L.B aD.gB,am⟩
   have a7:Md (fun q=>q=E∨q=ms) w aM:=Md.trans' a6 L fun k _ h=>h.elim;have cn:=a6.size;refine aK 3 U ?_;have C:(fun w'=>Wk w0 w'∧az w'.heap ac [bp (aA a nx).1,.slice ad (aA a nx).2.length ae]∧az w'.heap av [aZ .u8 c.toNat,.int .i64 z]) aM.drew:=⟨(Md.trans aS L).drew,L.B ap,a0⟩
   refine bo (fun w'=>Wk w0 w'∧az w'.heap ac [bp (aA a nx).1,.slice ad (aA a nx).2.length ae]∧az w'.heap av [aZ .u8 c.toNat,.int .i64 z]) U wide C<|aH [0,1,2] U C<|j3 (t:=71) U (fun b5=> ?_) fun b5=> ?_;refine aH [3] U C<|fM 4 U (fun w' V=>aw U<|V.2.1.ax 1) C<|aH [5] U C<|fM 6 U (fun _ _=>pn<|k - 1) C<|fM 7 U (fun _ _=>bE l7 U U ab<|aC.ok ab) C<|aH [8] U C<|fM 9 U (fun w' V=>aw U (show _=some (aZ .u8 (aP.toNat:Int)) from (aC.wk V.1).b (k - 1) (aP,cf) hep)) C<|aH [10] U C<|fM 11 U (fun w' V=>aw U<|V.2.2.ax 0) C<|aH [12,13,14] U C<|j3 (t:=83) U (fun b6=> ?_) fun b6=> ?_;refine aH [15,16,17,18,19,20] U C<|hn ai<|ba 10 U<|tr<|ba 2 U<|aO U ?_;rw [Ea ab (Cn ab hek hep<|by show c.toNat≤aP.toNat; omega)];exact ⟨U,a7.drew,fun s A=>by cases A⟩;refine aH [15,16] U C<|fM 17 U (fun w' V=>aw U<|V.2.2.ax 1) C<|By 18 U ai U U U<|aX (ih M J z _ (Md.trans aS L).drew (eE.drew bu) ab ab ab) U ?_;rintro cc ao ⟨rfl,O,bf⟩;have ag:Md (fun q=>q=E∨q=ms) w ao:=Md.trans a7<|Md.dg O;have aB:Wk w0 ao:=Md.trans' a1 ag a3;have aE:(fun w'=>Wk w0 w'∧az w'.heap ac [bp (aA a nx).1,.slice ad (aA a nx).2.length ae]∧az w'.heap av [aZ .u8 c.toNat,.int .i64 z]) ao:=⟨aB,O.B (L.B ap) (fun e=>by omega),O.B a0 fun e=>by omega⟩
   refine ⟨aE,?_⟩;refine aH [19,20] U aE<|hn ai<|dn 1 U<|cb U (fun al=> ?_) fun al=> ?_;have bc:vs a f (M,J) z=none:=by simpa using al
   refine aG 8 U<|tr<|ba 2 U<|aO U ?_;rw [ud (k:=k+1) ab (by rw [mD Z hek]; exact bc)];exact ⟨U,ag,fun s A=>by cases A⟩;obtain ⟨aL,aF⟩:∃ s,vs a f (M,J) z=some s:=mM.1<|by simpa using al
   exact aG 7 U<|tn<|⟨_,ab,k+1,aL.1,aL.2,ab,(by rw [mD Z hek]; exact aF),(tD aY hek fun q h0 bd=>by rw [hep] at bd; cases bd; show aP.toNat < c.toNat; omega),aB,ag,(bf _ aF),(O.B (L.B ap) fun e=>by omega),U,U⟩
   refine aH [3,4,5,6,7,8,9,10,11,12,13] U C<|cZ 14 U (mv) C<|aH [15,16] U C<|fM 17 U (fun w' V=>aw U<|V.2.2.ax 1) C<|By 18 U ai U U U<|aX (ih M J z _ (Md.trans aS L).drew (eE.drew bu) ab ab ab) U ?_;rintro cc ao ⟨rfl,O,bf⟩;have ag:Md (fun q=>q=E∨q=ms) w ao:=Md.trans a7<|Md.dg O;have aB:Wk w0 ao:=Md.trans' a1 ag a3;have aE:(fun w'=>Wk w0 w'∧az w'.heap ac [bp (aA a nx).1,.slice ad (aA a nx).2.length ae]∧az w'.heap av [aZ .u8 c.toNat,.int .i64 z]) ao:=⟨aB,O.B (L.B ap) (fun e=>by omega),O.B a0 fun e=>by omega⟩
   refine ⟨aE,?_⟩;refine aH [19,20] U aE<|hn ai<|dn 1 U<|cb U (fun al=> ?_) fun al=> ?_;have bc:vs a f (M,J) z=none:=by simpa using al
   refine aG 8 U<|tr<|ba 2 U<|aO U ?_;rw [ud (k:=k+1) ab (by rw [mD Z hek]; exact bc)];exact ⟨U,ag,fun s A=>by cases A⟩;obtain ⟨aL,aF⟩:∃ s,vs a f (M,J) z=some s:=mM.1<|by simpa using al
   exact aG 7 U<|tn<|⟨_,ab,k+1,aL.1,aL.2,ab,(by rw [mD Z hek]; exact aF),(tD aY hek fun q h0 bd=>by omega),aB,ag,(bf _ aF),(O.B (L.B ap) fun e=>by omega),U,U⟩
   refine aG 2 U<|cy<|dn 3 U ?_;obtain ⟨ch,bW⟩:=aD.gB;rw [show k=(aA a nx).2.length by omega,uO] at Z aY;have bb:=ue Z ab;simp only [iH] at bb;have bh:=D8 ab aY Z;refine aI 4 U<|p (aw U<|aD.ak.ax 2)<|aj 1 U<|p (ia qE U U ab)<|e<|cU Ac U U U bW (by simp; omega) fun bi a5 bG=> ?_;have b7:az bi.heap ms ((J.set nx 2).map jP):=by rw [← xn]; exact ⟨_,bG⟩
   have aV:eE jP bi E ms aa a.length cA M (J.set nx 2):=⟨a5.B aD.ak am,b7,am⟩
   have aW:Md (fun q=>q=E∨q=ms) w bi:=Md.trans a6<|a5.mono fun k _ h=> .inr h;have bq:=a5.B ap fun e=>by omega
   refine aj 5 U<|p (aw U<|bq.ax 1)<|aj 3 U<|gs (t:=101) U (fun b2=> ?_) fun b2=> ?_;refine aj 3 U<|p mv<|aj 7 U<|p aR<|ay 3 U<|aO U ?_;rw [bh,if_pos (BU ab)];exact ⟨U,aW,fun s A=>by cases A; exact aV⟩;refine aj 1 U<|bO U (aw U<|bq.ax 0)<|aj 2 U<|gb (t:=105) U (fun a9=> ?_) fun a9=> ?_;refine aj 7 U<|p aR<|ay 3 U<|aO U ?_;rw [bh,if_pos (BT a9)];exact ⟨U,aW,fun s A=>by cases A; exact aV⟩;refine aj 3 U<|bO U (aw U<|aV.ak.ax 0)<|ay 7 U<|aO U ?_;rw [bh,xa ab a9];by_cases h1:a.length=1;rw [if_pos (decide_eq_true h1)];exact ⟨congrArg bp (decide_eq_true ab),aW,fun s A=>by cases A; exact aV⟩;rw [if_neg (by simpa using h1)];exact ⟨congrArg bp (decide_eq_false ab),aW,fun s A=>by cases A⟩
def rh (a:List aJ):Int:=if shaped a=true then 0 else 190
theorem kd {a:List aJ} (h:shaped a=false):rh a=190:=if_neg<|by rw [h]; exact cJ
theorem ri {a:List aJ} (h:shaped a=true):rh a=0:=if_pos h
def jQ (x:Nat):ag:= .bool<|decide (x=2)
theorem JW {mk:List Nat} {i:Nat} (h:mk.getD i 0=0):(mk.set i 1).map jQ=mk.map jQ:=by
 refine List.ext_getElem? fun j=> ?_;rw [gu,gu,List.getElem?_set];by_cases e:i=j
 · subst e;rw [if_pos rfl];by_cases A:i < mk.length
   · rw [if_pos A,bC A];rw [bY,bC A] at h;have h0:mk[i]=0:=h;rw [h0]; rfl
   · rw [if_neg A,List.getElem?_eq_none ab]
 · rw [if_neg e]
theorem NK (n:Nat):∀ i,0≤i→(dr n 0).getD i 0=0:=fun i _=>by
 rw [bY,List.getElem?_replicate]; split <;> rfl
set_option maxHeartbeats 1000000 in
theorem Dm (a:List aJ) (aa:Option bL) (cA:Nat) (w:ah) (ac:ej w.heap aa a) (aC:a.length≤140737488355328) (ap:∀ i,i < a.length→(aA a i).2.length≤1073741824):
 bg aq 50 (bl [.slice aa a.length cA]) w (fun v w'=>v= .int .i64 (rh a)∧Wk w w'):=by
 refine enter func50 U ntmps50 U<|aU 12 U<|gs (t:=7) U (fun ar=> ?_) fun ar=> ?_;exact ay 14 U<|aO U<|⟨iv (kd<|tO ab).symm,Md.refl _ _⟩
 refine aK 6 U<|cd U (fun am=> ?_) fun am=> ?_;exact aG 7 U<|aO U<|⟨iv (kd<|tO ab).symm,Md.refl _ _⟩
 refine aI 7 U<|e<|gB (zv:= .int .u8 0) kA U U U U ab (by unfold maxLen; omega) fun A aB aE E au=> ?_;have ae:az aB.heap A ((dr a.length 0).map jP):=by rw [FA]; exact CC<|au _<|aQ _
 refine p (eG (ps:= [(0,.slice aa a.length cA),(2,.slice (some ⟨A,0,none⟩) a.length a.length)]) (L:= [.slice aa a.length cA,.int .i64 0,.slice (some ⟨A,0,none⟩) a.length a.length]) L0 U<|U)<|e<|mS U fun M Z aD V ad=> ?_;have ai:eE jP Z M A aa a.length cA 0 (dr a.length 0):=⟨ad,V.md.B ae,by have :=E.size; omega⟩
 have O:Wk w Z:=Md.trans E.md V.md;have aH:=E.md.size;refine aj 7 U<|e<|aX (ML (a.length+1) a aa cA M A w 0 (dr a.length 0) 0 _ ac ab ab O ai (by simp) ab ab ab ap) U ?_;rintro aM av ⟨rfl,al,bo⟩;have C:Wk w av:=Md.trans' O al fun k aF h=>by omega
 refine aj 2 U<|gb (t:=21) U (fun I=> ?_) fun I=> ?_;have hn:vs a (a.length+1) (0,dr a.length 0) 0=none:=by simpa using I
 exact ay 18 U<|aO U<|⟨iv (kd<|Dn hn).symm,C⟩
 obtain ⟨aL,J⟩:∃ s,vs a (a.length+1) (0,dr a.length 0) 0=some s:=mM.1<|by simpa using I
 have ag:=bo _ J;refine aj 3 U<|bO U (aw U<|ag.ak.ax 1)<|aK 6 U<|cd U (fun ao=> ?_) fun ao=> ?_;exact aG 7 U<|aO U<|⟨iv (kd<|by rw [tQ ab ab J]; exact decide_eq_false ab).symm,C⟩
 exact aG 8 U<|aO U<|⟨iv (ri<|by rw [tQ ab ab J]; exact decide_eq_true ab).symm,C⟩
set_option maxHeartbeats 1000000 in
theorem MM (f:Nat) (a:List aJ) (aa:Option bL) (cA A ms:Nat) (w0:ah) (nx:Nat) (mk:List Nat) (n:Int) (w:ah) (a7:ej w0.heap aa a) (ch:w0.heap.size≤A) (hm:w0.heap.size≤ms) (aS:Wk w0 w) (I:eE jQ w A ms aa a.length cA nx mk) (cc:mk.length=a.length) (cf:nx≤a.length) (ca:a.length < f+nx) (hb:a.length≤1048576) (bM:∀ i,i < a.length→(aA a i).2.length≤1073741824) (bf:∀ i,nx≤i→mk.getD i 0=0):
 bg aq 93 (bl [aT A,.int .i64 n]) w (fun v w'=>v= .bool (vs a f (nx,mk) n).isSome∧Md (fun q=>q=A∨q=ms) w w'∧∀ s,vs a f (nx,mk) n=some s→eE jQ w' A ms aa a.length cA s.1 s.2):=by
 induction f generalizing nx mk n w with
 | zero=>omega
 | succ f ih=>
   have aW:∀ k,k < w0.heap.size→(k=A∨k=ms)→False:=fun k h1 b6=>ab;have ci:=I.ak.lt;have ce:=I.gB.lt;have ap:=I.ne;obtain ⟨b5,bB⟩:=I.ak;refine enter func93 U ntmps93 U<|aU 11 U<|gs (t:=10) U (fun bN=> ?_) fun bN=> ?_;refine aj 8 U<|p mv<|ay 17 U<|aO U ?_;rw [ry ab ab];exact ⟨U,Md.refl _ _,fun s E=>by cases E⟩;refine aj 4 U<|bO U (aw U<|I.ak.ax 0)<|aj 4 U<|gs (t:=19) U (fun bP=> ?_) fun bP=> ?_;refine ay 17 U<|aO U ?_;have bZ:vs a (f+1) (nx,mk) n=none:=by
    by_cases h:n=nx;exact Eb h ab;exact ry h ab
   rw [bZ];exact ⟨U,Md.refl _ _,fun s E=>by cases E⟩;refine aj 4 U<|bO U (aw U<|I.ak.ax 1)<|aK 4 U<|cd U (fun bF=> ?_) fun bF=> ?_;refine aG 7 U<|aO U ?_;rw [ry ab ab];exact ⟨U,Md.refl _ _,fun s E=>by cases E⟩;refine aI 9 U<|p (aw U<|I.ak.ax 1)<|aK 3 U<|cd U (fun bG=> ?_) fun bG=> ?_;exact aI 5 U<|p (aw U<|I.ak.ax 2)<|aj 1 U<|p (ia A3 U U ab)<|p (aw U (show _=some (bp<|decide (mk.getD n.toNat 0=2)) from zN I.gB (i:=n.toNat) ab))<|ay 5 U<|aO U<|⟨congrArg bp ((D6 ab ab ab).trans<|by rw [decide_eq_decide]; omega).symm,Md.refl _ _,fun s E=>by rw [D7 ab E]; exact I⟩
   obtain rfl :n=(nx:Int):=ab;refine aI 8 U<|p (aw U<|I.ak.ax 1)<|p (cg<|nx+1)<|aj 2 U<|e<|cU cX U U U bB (by simp) fun aP bc br=> ?_;have aY:eE jQ aP A ms aa a.length cA (nx+1) (mk.set nx 1):=⟨⟨_,br⟩,by rw [JW (bf nx<|aQ _)]; exact bc.B I.gB (fun e=>ap e.symm),ap⟩
   have a0:Md (fun q=>q=A∨q=ms) w aP:=bc.mono fun k _ h=> .inl h;have a8:Wk w0 aP:=Md.trans' aS a0 aW;obtain ⟨aD,aE,bn,O⟩:=a7.two (i:=nx) ab;refine aj 7 U<|p (aw U<|aY.ak.ax 0)<|aj 1 U<|p (bE Ij U U ab<|a7.ok ab)<|p (eU zx U (U)<|mz a8 bn)<|e<|du Eo fun ad cj b8 bz bt=>e<|eb z8 U U U U bt (by simp) fun aB bw bu=> ?_;have aR:az aB.heap ad [bp (aA a nx).1,.slice aD (aA a nx).2.length aE]:=⟨_,bu⟩
   have aF:Wk aP aB:=Md.trans' bz.md bw fun k bU h=>by omega
   have a9:eE jQ aB A ms aa a.length cA (nx+1) (mk.set nx 1):=⟨aF.B aY.ak,aF.B aY.gB,ap⟩
   have b7:=a0.size;have bd:Md (fun q=>q=A∨q=ms) w aB:=Md.trans' a0 aF fun k _ h=>h.elim;refine aK 2 U ?_;refine eJ (fun bj bi=>(gz a (aA a nx)=true)∧(bi=aB)∧(Sl bj [(0,aT A),(1,.int .i64 (nx:Int)),(5,aT ad)])) ?_ ?_;refine aU 3 U<|p (aw U<|aR.ax 1)<|aj 3 U<|gs (t:=59) U (fun bQ=> ?_) fun bQ=> ?_;refine aj 1 U<|bO U (aw U<|aR.ax 0)<|aj 3 U<|gb (t:=64) U (fun aM=> ?_) fun aM=> ?_;refine aj 3 U<|bO U (aw U<|a9.ak.ax 0)<|aK 5 U<|cd U (fun bH=> ?_) fun bH=> ?_;refine aG 6 U<|tr<|aO U ?_;rw [MO ab (by rw [xa ab (by simpa using aM)]; exact decide_eq_false ab)];exact ⟨U,bd,fun s E=>by cases E⟩;exact aG 1 U<|tn<|⟨(by rw [xa ab (by simpa using aM)]; exact decide_eq_true ab),U,U⟩
   exact ay 11 U<|tn<|⟨(BT<|by simpa using aM),U,U⟩
   exact aj 4 U<|p mv<|ay 11 U<|tn<|⟨(BU ab),U,U⟩
   rintro bj bi ⟨bV,b1,bX⟩;refine bJ bX ?_;subst b1;refine bS 7 U<|lp (fun a6 bm ag=> ∃ (k L:Nat) (J:List Nat),(k≤(aA a nx).2.length)∧(fT a f (nx+1) (mk.set nx 1) ((aA a nx).2.take k)=some (L,J))∧(dP<|(aA a nx).2.take k)∧(Wk w0 ag)∧(Md (fun q=>q=A∨q=ms) w ag)∧(eE jQ ag A ms aa a.length cA L J)∧(az (ag).heap ad [bp (aA a nx).1,.slice aD (aA a nx).2.length aE])∧(Sl bm [(0,aT A),(1,.int .i64 (nx:Int)),(5,aT ad),(6,.int .i64 k)])∧((aA a nx).2.length - k=a6)) _ ⟨0,nx+1,mk.set nx 1,ab,U,List.Pairwise.nil,(Md.trans a8 aF),bd,a9,aR,U,U⟩ ?_;rintro a6 bm ag ⟨k,L,J,bU,M,aN,al,aL,am,ae,bY,rfl⟩;refine bJ bY<|aU 5 U<|p (aw U<|ae.ax 1)<|aK 4 U<|cd U (fun bI=> ?_) fun bI=> ?_;refine bS 6 U ?_;have b9:=bM nx ab;obtain ⟨⟨c,z⟩,hek⟩:∃ e,(aA a nx).2[k]? =some e:=⟨_,bC ab⟩
   obtain ⟨⟨aC,b3⟩,hep⟩:∃ e,(aA a nx).2[k - 1]? =some e:=⟨_,bC ab⟩
   have a1:=ue M ab;simp only [iH] at a1;have bh:=MU M fun i hi=>by rw [getD_set_ne _ _ ab]; exact bf i ab
   have C:(fun w'=>Wk w0 w'∧az w'.heap ad [bp (aA a nx).1,.slice aD (aA a nx).2.length aE]) ag.drew:=⟨al.drew,ae⟩
   refine bo (fun w'=>Wk w0 w'∧az w'.heap ad [bp (aA a nx).1,.slice aD (aA a nx).2.length aE]) U wide C<|aH [0,1,2] U C<|j3 (t:=81) U (fun bR=> ?_) fun bR=> ?_;refine aH [3] U C<|fM 4 U (fun w' Z=>aw U<|Z.2.ax 1) C<|aH [5] U C<|fM 6 U (fun _ _=>bE sE U U ab<|O.ok ab) C<|aH [7] U C<|fM 8 U (fun w' Z=>aw U (show _=some (aZ .u8 (c.toNat:Int)) from (O.wk Z.1).b k (c,z) hek)) C<|aH [9] U C<|fM 10 U (fun w' Z=>aw U<|Z.2.ax 1) C<|aH [11] U C<|fM 12 U (fun _ _=>pn<|k - 1) C<|fM 13 U (fun _ _=>bE sE U U ab<|O.ok ab) C<|aH [14] U C<|fM 15 U (fun w' Z=>aw U (show _=some (aZ .u8 (aC.toNat:Int)) from (O.wk Z.1).b (k - 1) (aC,b3) hep)) C<|aH [16,17] U C<|hn ai<|dn 1 U<|cd U (fun bK=> ?_) fun bK=> ?_;refine aG 9 U<|tr<|ba 2 U<|aO U ?_;rw [Ea ab (Cn ab hek hep<|by show c.toNat≤aC.toNat; omega)];exact ⟨U,aL.drew,fun s E=>by cases E⟩;refine aI 6 U<|p (aw U<|ae.ax 1)<|aj 1 U<|p (bE sE U U ab<|O.ok ab)<|aj 1 U<|p (aw U (show _=some (aZ .i64 z) from (O.wk al).to k (c,z) hek))<|e<|aX (ih L J z _ (Md.drew al) (eE.drew am) ab ab ab bh) U ?_;rintro b2 av ⟨rfl,ao,a4⟩;have V:Md (fun q=>q=A∨q=ms) w av:=Md.trans aL<|Md.dg ao;have aV:Wk w0 av:=Md.trans' aS V aW;refine aK 9 U<|cb U (fun ac=> ?_) fun ac=> ?_;have a2:vs a f (L,J) z=none:=by simpa using ac
   refine aG 8 U<|tr<|ba 2 U<|aO U ?_;rw [ud (k:=k+1) ab (by rw [mD M hek]; exact a2)];exact ⟨U,V,fun s E=>by cases E⟩;obtain ⟨au,ar⟩:∃ s,vs a f (L,J) z=some s:=mM.1<|by simpa using ac
   exact aG 8 U<|tn<|⟨_,ab,k+1,au.1,au.2,ab,(by rw [mD M hek]; exact ar),(tD aN hek fun q h0 a3=>by rw [hep] at a3; cases a3; show aC.toNat < c.toNat; omega),aV,V,(a4 _ ar),(ao.B ae fun e=>by omega),U,U⟩
   refine aH [3,4,5,6,7,8,9,10,11,12,13,14,15,16,17] U C<|hn ai<|gy 8 U<|p (aw U<|ae.ax 1)<|aj 1 U<|p (bE sE U U ab<|O.ok ab)<|aj 1 U<|p (aw U (show _=some (aZ .i64 z) from (O.wk al).to k (c,z) hek))<|e<|aX (ih L J z _ (Md.drew al) (eE.drew am) ab ab ab bh) U ?_;rintro b2 av ⟨rfl,ao,a4⟩;have V:Md (fun q=>q=A∨q=ms) w av:=Md.trans aL<|Md.dg ao;have aV:Wk w0 av:=Md.trans' aS V aW;refine aK 9 U<|cb U (fun ac=> ?_) fun ac=> ?_;have a2:vs a f (L,J) z=none:=by simpa using ac
   refine aG 8 U<|tr<|ba 2 U<|aO U ?_;rw [ud (k:=k+1) ab (by rw [mD M hek]; exact a2)];exact ⟨U,V,fun s E=>by cases E⟩;obtain ⟨au,ar⟩:∃ s,vs a f (L,J) z=some s:=mM.1<|by simpa using ac
   exact aG 8 U<|tn<|⟨_,ab,k+1,au.1,au.2,ab,(by rw [mD M hek]; exact ar),(tD aN hek fun q h0 a3=>by omega),aV,V,(a4 _ ar),(ao.B ae fun e=>by omega),U,U⟩
   refine aG 2 U<|cy<|dn 3 U ?_;obtain ⟨b4,bA⟩:=am.gB;rw [show k=(aA a nx).2.length by omega,uO] at M aN;have a1:=ue M ab;simp only [iH] at a1;have b0:=D8 ab aN M;refine aI 4 U<|p (aw U<|am.ak.ax 2)<|aj 1 U<|p (ia A3 U U ab)<|e<|cU z9 U U U bA (by simp; omega) fun a5 bb bq=> ?_;have bW:az a5.heap ms ((J.set nx 2).map jQ):=by rw [← xn]; exact ⟨_,bq⟩
   have bv:eE jQ a5 A ms aa a.length cA L (J.set nx 2):=⟨bb.B am.ak ap,bW,ap⟩
   have bx:Md (fun q=>q=A∨q=ms) w a5:=Md.trans aL<|bb.mono fun k _ h=> .inr h;refine ay 8 U<|aO U ?_;rw [b0,if_pos bV];exact ⟨U,bx,fun s E=>by cases E; exact bv⟩
set_option maxHeartbeats 1000000 in
theorem LF (a:List aJ) (aa:Option bL) (cA:Nat) (w:ah) (ac:ej w.heap aa a) (aC:a.length≤140737488355328) (ap:∀ i,i < a.length→(aA a i).2.length≤1073741824):
 bg aq 63 (bl [.slice aa a.length cA]) w (fun v w'=>v= .int .i64 (rh a)∧Wk w w'):=by
 refine enter func63 U ntmps63 U<|aU 12 U<|gs (t:=8) U (fun ar=> ?_) fun ar=> ?_;exact ay 14 U<|aO U<|⟨iv (kd<|tO ab).symm,Md.refl _ _⟩
 refine aK 6 U<|cd U (fun am=> ?_) fun am=> ?_;exact aG 7 U<|aO U<|⟨iv (kd<|tO ab).symm,Md.refl _ _⟩
 refine aI 7 U<|e<|gB (zv:= .bool false) LN U U U U ab (by unfold maxLen; omega) fun A aB aE E au=> ?_;have ae:az aB.heap A ((dr a.length 0).map jQ):=by rw [FA]; exact CC<|au _<|aQ _
 refine p (eG (ps:= [(0,.slice aa a.length cA),(2,.slice (some ⟨A,0,none⟩) a.length a.length)]) (L:= [.slice aa a.length cA,.int .i64 0,.slice (some ⟨A,0,none⟩) a.length a.length]) L1 U<|U)<|e<|mS U fun M Z aD V ad=> ?_;have ai:eE jQ Z M A aa a.length cA 0 (dr a.length 0):=⟨ad,V.md.B ae,by have :=E.size; omega⟩
 have O:Wk w Z:=Md.trans E.md V.md;have aH:=E.md.size;refine aj 6 U<|e<|aX (MM (a.length+1) a aa cA M A w 0 (dr a.length 0) 0 _ ac ab ab O ai (by simp) ab ab ab ap<|NK _) U ?_;rintro v20 av ⟨rfl,al,bo⟩;have C:Wk w av:=Md.trans' O al fun k aF h=>by omega
 refine aj 9 U<|gb (t:=23) U (fun I=> ?_) fun I=> ?_;have hn:vs a (a.length+1) (0,dr a.length 0) 0=none:=by simpa using I
 exact ay 18 U<|aO U<|⟨iv (kd<|Dn hn).symm,C⟩
 obtain ⟨aL,J⟩:∃ s,vs a (a.length+1) (0,dr a.length 0) 0=some s:=mM.1<|by simpa using I
 have ag:=bo _ J;refine aj 3 U<|bO U (aw U<|ag.ak.ax 1)<|aK 6 U<|cd U (fun ao=> ?_) fun ao=> ?_;exact aG 7 U<|aO U<|⟨iv (kd<|by rw [tQ ab ab J]; exact decide_eq_false ab).symm,C⟩
 exact aG 8 U<|aO U<|⟨iv (ri<|by rw [tQ ab ab J]; exact decide_eq_true ab).symm,C⟩
end Go.Hb
end
section
namespace Go.Hb.fI
open Go.Hb.dO
theorem Mu {s:List UInt8} {i:Nat} (h:i < s.length):(s.drop i).take 1= [s.getD i 0]:=by
 rw [drop_cons 0 h]; rfl
def fD (l:List (Bool×ag)):List ag:=l.flatMap fun q=> [.bool q.1,q.2]
def fh (l:List (UInt8×Int)):List ag:=l.flatMap fun e=> [.int .u8 e.1.toNat,.int .i64 e.2]
theorem Tg.lk {F:Nat→Prop} {w w':ah} {B e n:Nat} {v:ag} {xs:List ag} (h:Tg w B e n v xs) (hm:Md F w w') (I:∀ k,F k→B≤k→∀ cur z,w.heap[k]?≠some (.cells cur e z)):Tg w' B e n v xs:=by
 obtain ⟨a,C,rfl,E,h | ⟨b,cur,z,rfl,hb,A,L⟩⟩:=h
 · exact ⟨a,C,U,E,.inl h⟩
 · exact ⟨_,C,U,E,.inr ⟨b,cur,z,U,hb,by rw [hm.dM b (dq.1 A).1 (fun J=>I b J hb cur z A)]; exact A,L⟩⟩
theorem Cm {w:ah} {k:Nat} (h:w.heap.size≤k) (cur:Array ag) (e:Nat) (z:Nat×Nat):w.heap[k]?≠some (.cells cur e z):=by
 rw [Array.getElem?_eq_none h]; intro h; cases h
def eN (w:ah) (B:Nat) (A:List (Bool×ag)) (l:List aJ):Prop :=A.length=l.length∧∀ (i:Nat) q e,A[i]? =some q→l[i]? =some e→q.1=e.1∧Tg w B 84 e.2.length q.2 (fh e.2)
theorem eN.nil (w:ah) (B:Nat):eN w B [] []:=⟨rfl,fun i q r A=>by simp at A⟩
theorem eN.md {F:Nat→Prop} {w w':ah} {B:Nat} {C:List (Bool×ag)} {l:List aJ} (h:eN w B C l) (hm:Md F w w') (E:∀ k,F k→B≤k→∀ cur z,w.heap[k]?≠some (.cells cur 84 z)):eN w' B C l:=
 ⟨h.1,fun i q r h1 A=>⟨(h.2 i q r h1 A).1,Tg.lk (h.2 i q r h1 A).2 hm E⟩⟩
theorem eN.wk {w w':ah} {B:Nat} {A:List (Bool×ag)} {l:List aJ} (h:eN w B A l) (hm:Wk w w'):eN w' B A l:=h.md hm fun _ C=>C.elim
theorem eN.snoc {w:ah} {B:Nat} {C:List (Bool×ag)} {l:List aJ} {v:ag} {e:aJ} (ha:eN w B C l) (I:Tg w B 84 e.2.length v (fh e.2)):eN w B (C++ [(e.1,v)]) (l++ [e]):=by
 refine ⟨by rw [bG,bG,ha.1]; rfl,fun i q' r' h1 A=> ?_⟩;have E:=ha.1;by_cases hi:i < C.length
 · rw [fF hi] at h1;rw [fF ab] at A;exact ha.2 i q' r' h1 A
 · rw [fW ab] at h1;rw [fW ab,← E] at A;cases hj:i - C.length with
   | zero=>rw [hj] at h1 A; cases h1; cases A; exact ⟨rfl,I⟩
   | succ j=>rw [hj] at h1; simp at h1
def fc (w:ah) (B:Nat) (v:ag) (l:List aJ):Prop := ∃ A,Tg w B 81 l.length v (fD A)∧eN w B A l
theorem fc.md {F:Nat→Prop} {w w':ah} {B:Nat} {v:ag} {l:List aJ} (h:fc w B v l) (hm:Md F w w') (C:∀ k,F k→B≤k→∀ cur z,w.heap[k]?≠some (.cells cur 81 z)∧w.heap[k]?≠some (.cells cur 84 z)):fc w' B v l:=by
 obtain ⟨I,h1,E⟩:=h;exact ⟨I,Tg.lk h1 hm fun k A hb cur z=>(C k A hb cur z).1,E.md hm fun k A hb cur z=>(C k A hb cur z).2⟩
theorem fc.wk {w w':ah} {B:Nat} {v:ag} {l:List aJ} (h:fc w B v l) (hm:Wk w w'):fc w' B v l:=h.md hm fun _ A=>A.elim
theorem fc.mono {w:ah} {B B':Nat} {v:ag} {l:List aJ} (h:fc w B v l) (C:B'≤B):fc w B' v l:=by
 obtain ⟨J,h1,I,A⟩:=h;exact ⟨J,h1.mono C,I,fun i q e E he=>⟨(A i q e E he).1,(A i q e E he).2.mono C⟩⟩
theorem fc.eK {w:ah} {B:Nat} {v:ag} {l:List aJ} (h:fc w B v l):∃ aa cc,v= .slice aa l.length cc∧l.length≤cc∧ej w.heap aa l:=by
 obtain ⟨O,h1,aj,ad⟩:=h;obtain ⟨aa,cc,rfl⟩:=h1.slice;obtain ⟨ae,I⟩:=h1.qq;refine ⟨aa,cc,U,ae,fun h0=>a9.ok I (oM (f:=fun q:Bool×ag=> [bp q.1,q.2]) (m:=2) (fun _=>rfl) aF ab),fun i hi=> ?_⟩;have L:O[i]? =some (O[i]'ab):=bC ab;have ai:l[i]? =some (aA l i):=by
  unfold aA;rw [bY,bC hi]; rfl
 obtain ⟨ac,C⟩:=ad i _ _ L ai;obtain ⟨V,Z,M⟩:=C.slice;have E:=C;rw [M] at E;obtain ⟨_,A⟩:=E.qq;have J:=l8 (f:=fun q:Bool×ag=> [bp q.1,q.2]) (m:=2) (fun _=>rfl) I L;refine ⟨V,Z,by rw [J 0 ab,ac]; rfl,by rw [J 1 ab,M]; rfl,fun h0=>a9.ok A (oM (f:=fun e:UInt8×Int=> [aZ .u8 e.1.toNat,.int .i64 e.2]) (m:=2) (fun _=>rfl) aF h0),fun k e he=> ?_,fun k e he=> ?_⟩
 · exact l8 (f:=fun e:UInt8×Int=> [aZ .u8 e.1.toNat,.int .i64 e.2]) (m:=2) (fun _=>rfl) A he 0 ab
 · exact l8 (f:=fun e:UInt8×Int=> [aZ .u8 e.1.toNat,.int .i64 e.2]) (m:=2) (fun _=>rfl) A he 1 ab
theorem Dk (A:List (Bool×ag)) (q:Bool×ag):fD (A++ [q])=fD A++ [.bool q.1,q.2]:=by simp [fD]
theorem AI (es:List (UInt8×Int)) (e:UInt8×Int):fh (es++ [e])=fh es++ [.int .u8 e.1.toNat,.int .i64 e.2]:=by simp [fh]
theorem Di (l:List (Bool×ag)):(fD l).length=l.length*2:=sL (f:=fun q:Bool×ag=> [bp q.1,q.2]) (m:=2) (fun _=>rfl) l
theorem AH (l:List (UInt8×Int)):(fh l).length=l.length*2:=sL (f:=fun e:UInt8×Int=> [aZ .u8 e.1.toNat,.int .i64 e.2]) (m:=2) (fun _=>rfl) l
section
variable {s:List UInt8} {n a e t p v k:Nat} {es:List (UInt8×Int)} {l:List aJ}
theorem AJ (h:s.length≤a):eo s n a= .error 60:=by unfold eo; rw [if_pos h]
theorem AK (h:¬s.length≤a) (h1:bc s (a+1)= .error e):eo s n a= .error e:=by unfold eo; rw [if_neg h,h1]
theorem AL (h:¬s.length≤a) (h1:bc s (a+1)= .ok (t,p)) (A:n≤t):eo s n a= .error 190:=by unfold eo; rw [if_neg h,h1]; exact if_pos A
theorem AM (h:¬s.length≤a) (h1:bc s (a+1)= .ok (t,p)) (A:¬n≤t):eo s n a= .ok ((s.getD a 0,(t:Int)),p):=by unfold eo; rw [if_neg h,h1]; exact if_neg A
theorem DA (h:bc s a= .error e):fE s n a= .error e:=by unfold fE; rw [h]
theorem DB (h:bc s a= .ok (v,p)) (A:256 < v / 2):fE s n a= .error 190:=by unfold fE; rw [h]; exact if_pos A
theorem DC (h:bc s a= .ok (v,p)) (A:¬256 < v / 2) (C:cq (eo s n) (v / 2) p= .error e):fE s n a= .error e:=by unfold fE; rw [h]; simp only; rw [if_neg A,C]
theorem DD (h:bc s a= .ok (v,p)) (A:¬256 < v / 2) (C:cq (eo s n) (v / 2) p= .ok (es,t)):fE s n a= .ok ((decide (v % 2=1),es),t):=by unfold fE; rw [h]; simp only; rw [if_neg A,C]
theorem C5 (h:bc s a= .error e):cK s a= .error e:=by unfold cK; rw [h]
theorem tL (h:bc s a= .ok (n,p)) (A:n=0∨1048576 < n):cK s a= .error 190:=by unfold cK; rw [h]; exact if_pos A
theorem po (h:bc s a= .ok (n,p)) (A:¬(n=0∨1048576 < n)) (C:cq (fE s n) n p= .error e):cK s a= .error e:=by unfold cK; rw [h]; simp only; rw [if_neg A,C]
theorem C6 (h:bc s a= .ok (n,p)) (A:¬(n=0∨1048576 < n)) (C:cq (fE s n) n p= .ok (l,t)) (E:shaped l=false):cK s a= .error 190:=by unfold cK; rw [h]; simp only; rw [if_neg A,C]; simp only; rw [E]; rfl
theorem C7 (h:bc s a= .ok (n,p)) (A:¬(n=0∨1048576 < n)) (C:cq (fE s n) n p= .ok (l,t)) (E:shaped l=true):cK s a= .ok (l,t):=by unfold cK; rw [h]; simp only; rw [if_neg A,C]; simp only; rw [E]; rfl
end
theorem Lt (rb:Nat) (s:List UInt8) (a:Nat) (w:ah) (a8:az w.heap rb [str s,.int .i64 (a:Nat)]) (aQ:s.length≤1048576) (ha:a≤s.length):
 mP aq 58 (bl [.pointer (some ⟨rb,0,none⟩)]) w (fun v w'=> ∃ l p,cK s a= .ok (l,p)∧fc w' w.heap.size v l∧az w'.heap rb [str s,.int .i64 (p:Nat)]∧Md (fun k=>k=rb) w w') (fun c w'=> ∃ e,cK s a= .error e∧c=kX e∧Md (fun k=>k=rb) w w'):=by
 have dd:=a8.lt;refine qD func58 U ntmps58 U<|aU 7 U<|p mv<|eP U (eC lY (oU rb s (a) w a8 aQ<|ha) U fun v10 bw b2=> ?_) fun c w' A σ' M=>by obtain ⟨e,he,av,ao⟩:=A; exact ⟨e,C5 he,av,ao⟩
 obtain ⟨n,a4,V,rfl,bC,aW⟩:=b2;obtain ⟨cZ,c3,c6⟩:=jz V;refine aK 3 U ?_;refine eJ (fun bx a5=> ∃ (cF:Unit),(¬(n=0∨1048576 < n))∧(az a5.heap rb [str s,.int .i64 (a4:Nat)])∧(Md (fun k=>k=rb) w a5)∧(Sl bx [(0,.pointer (some ⟨rb,0,none⟩)),(3,.int .u64 (n:Nat))])) ?_ ?_;refine aU 1 U<|p mv<|aj 3 U<|gs (t:=14) U (fun ch=> ?_) fun ch=> ?_;refine aj 3 U<|eP U (eC fg (j7 _ _ _ bw) U fun cG cI a0=> ?_) fun c w' A σ' M=>⟨190,tL V (by have :=of_decide_eq_false A.2.1; omega),A.1,by rw [A.2.2]; exact aW⟩
 obtain ⟨rfl,bu,rfl⟩:=a0;have bu:=of_decide_eq_true bu;exact ay 1 U<|tn<|⟨(),ab,bC,aW,U⟩
 refine aj 3 U<|eP U (eC fg (j7 _ _ _ bw) U fun cG cI a0=> ?_) fun c w' A σ' M=>⟨190,tL V ab,A.1,by rw [A.2.2]; exact aW⟩
 exact absurd a0.2.1 aF;rintro bx a5 ⟨cF,ax,bV,b1,co⟩;refine bJ co<|bS 13 U<|lp (fun al bz J=> ∃ (k:Nat) (l:List aJ) (ai:List (Bool×ag)) (ac:ag) (q:Nat),(k≤n)∧(cq (fE s n) k a4= .ok (l,q))∧(q≤s.length)∧(bj J w.heap.size 81 2 ac ai.length<|fD ai)∧(eN J w.heap.size ai l)∧(az J.heap rb [str s,.int .i64 (q:Nat)])∧(Md (fun k=>k=rb) w J)∧(Sl bz [(0,.pointer (some ⟨rb,0,none⟩)),(3,.int .u64 (n:Nat)),(4,ac),(19,.int .u64 (n:Nat)),(20,.int .u64 (k:Nat))])∧(n - k=al)) _ ⟨0,[],[],.slice none 0 0,a4,ab,U,ab,(fv _ _ _ _),(eN.nil _ _),bV,b1,U,U⟩ ?_;rintro al bz J ⟨k,l,ai,ac,q,C,I,db,aP,bo,ba,ae,cp,rfl⟩;refine bJ cp<|bX 6 U<|cd U (fun cb=> ?_) fun cb=> ?_;refine aI 7 U<|eP U (eC lY (oU rb s (q) J ba aQ ab) U fun dt cJ b3=> ?_) fun c w' A σ' M=>by obtain ⟨e,he,av,ao⟩:=A; exact ⟨e,po V ax (iy I (DA he) ab),av,ae.trans ao⟩
 obtain ⟨v0,p1,aM,rfl,bF,aE⟩:=b3;obtain ⟨c0,c4,c7⟩:=jz aM;refine aj 7 U<|p (qu U U ab<|gG ab)<|aj 1 U<|eP U (eC fg (j7 _ _ _ cJ) U fun dv cL b4=> ?_) fun c w' A σ' M=>⟨190,po V ax (iy I (DB aM<|by have :=of_decide_eq_false A.2.1; omega) ab),A.1,by rw [A.2.2]; exact ae.trans aE⟩
 obtain ⟨rfl,cx,rfl⟩:=b4;have bq:¬256 < v0 / 2:=by have :=of_decide_eq_true cx; omega
 have b0:=ae.trans aE;refine aj 5 U<|p (rm U U ab)<|aj 1 U<|p (eG (ps:= [(0,.bool (decide ((v0:Int) % 2=1)))]) (L:= [.bool (decide ((v0:Int) % 2=1)),.slice none 0 0]) L7 U<|U)<|e<|du Es fun ad dG cV bn bN=> ?_;have dp:=bn.size;refine e<|eb Af U U U U bN (by simp) fun ak bm bP=> ?_;have bQ:az ak.heap ad [.bool (decide ((v0:Int) % 2=1)),.slice none 0 0]:=⟨_,bP⟩
 have aC:Wk cL ak:=bn.md.trans' bm fun k C h=>by omega
 have bU:=Wk.B aC bF;have ds:=ae.size;have dh:=aE.size;have dq:=aC.size;have dr:=bm.size;have bZ:Md (fun k=>k=rb) w ak:=b0.trans<|aC.mono fun _ _ h=>h.elim;refine aj 6 U<|p (qu U U ab<|gG ab)<|aK 4 U<|lp (fun al bA Z=> ∃ (j:Nat) (es:List (UInt8×Int)) (aV:ag) (E:Nat),(j≤v0 / 2)∧(cq (eo s n) j p1= .ok (es,E))∧(E≤s.length)∧(bj Z ak.heap.size 84 2 aV es.length<|fh es)∧(az Z.heap rb [str s,.int .i64 (E:Nat)])∧(az Z.heap ad [.bool (decide ((v0:Int) % 2=1)),aV])∧(Md (fun k=>k=rb∨k=ad) ak Z)∧(Sl bA [(0,.pointer (some ⟨rb,0,none⟩)),(3,.int .u64 (n:Nat)),(4,ac),(5,.int .u64 (v0:Nat)),(6,.pointer (some ⟨ad,0,none⟩)),(19,.int .u64 (n:Nat)),(20,.int .u64 (k:Nat)),(34,.int .u64 ((v0 / 2:Nat):Int)),(35,.int .u64 (j:Nat))])∧(v0 / 2 - j=al)) _ ⟨0,[],.slice none 0 0,p1,ab,U,ab,(fv _ _ _ _),bU,bQ,(Md.refl _ _),U,U⟩ ?_;rintro al bA Z ⟨j,es,aV,E,c2,aO,dc,aA,bb,bc,am,cr,rfl⟩;refine bJ cr ?_;have cX:=iQ aO;have a2:∀ e,eo s n E= .error e→j < v0 / 2→cK s a= .error e:=fun e he ci=>po V ax<|iy I (DC aM bq<|iy aO he ci) ab;have aD:Md (fun k=>k=rb) w Z:=bZ.trans' am fun k C h=>by rcases h with h | h; exact h; omega
 refine bX 6 U<|cd U (fun cf=> ?_) fun cf=> ?_;refine aI 7 U<|eP U (eC zT (DQ rb s E 1 Z bb aQ ab ab) U fun dw cM b5=> ?_) fun c w' A σ' M=>⟨60,a2 _ (AJ ab) ab,A.2.1,aD.trans A.2.2⟩
 obtain ⟨dg,br,bH,aZ⟩:=b5;rw [Mu ab] at br;subst br;refine p (sS 0 u9 U U<|by simp)<|aj 6 U<|eP U (eC lY (oU rb s (E+1) cM bH aQ ab) U fun dx cO b6=> ?_) fun c w' A σ' M=>by obtain ⟨e,he,av,ao⟩:=A; exact ⟨e,a2 _ (AK ab he) ab,av,(aD.trans aZ).trans ao⟩
 obtain ⟨to,cD,a1,rfl,bI,bi⟩:=b6;obtain ⟨c1,c5,c8⟩:=jz a1;refine aj 9 U<|eP U (eC fg (j7 _ _ _ cO) U fun dy dC b7=> ?_) fun c w' A σ' M=>⟨190,a2 _ (AL ab a1<|by have :=of_decide_eq_false A.2.1; omega) ab,A.1,by rw [A.2.2]; exact (aD.trans aZ).trans bi⟩
 obtain ⟨rfl,cy,rfl⟩:=b7;have cw:¬n≤to:=by have :=of_decide_eq_true cy; omega
 have aH:=aZ.trans bi;have bd:=aH.B bc fun h=>by omega
 have cC:=am.size;have dj:=aH.size;refine aj 4 U<|p (aw U<|bd.aN 1)<|aj 2 U<|p (fL u3 mC U<|hJ ab)<|p (eG (ps:= [(0,.int .u8 (s.getD E 0).toNat),(1,.int .i64 (to:Nat))]) (L:= [.int .u8 (s.getD E 0).toNat,.int .i64 (to:Nat)]) L8 U<|U)<|e<|oC tW U U U fun cR dD cT au bK=> ?_;have dl:=au.size;have cm:=bh (bR aA aH fun k C h=>by have :=cE aA C; omega) au.md;refine e<|ap tW (cm) U ab U (a9.fQ bK) (U) (U) ab ab fun dz dE bp aL cz cg=> ?_;have cz:=aL.size;have aS:∀ k,aV.ownBlock=some k→ak.heap.size≤k:=fun k h=>(cE aA h).1;have bY:=aL.B (Wk.B au.md bd) fun h=>by have :=aS ad h; omega
 have bL:=aL.B (Wk.B au.md bI) fun h=>by have :=aS rb h; omega
 obtain ⟨bB,lY,rfl⟩:=di bp;refine aj 1 U<|e<|st Ae U U (U) (bY) (by simp) fun dJ aY bE=> ?_;have bW:=aY.B bL fun h=>by omega
 exact ay 7 U<|tn<|⟨_,ab,j+1,es++ [(s.getD E 0,(to:Int))],.slice bB (es.length+1) lY,cD,ab,(ma aO<|AM ab a1 cw),ab,(by rw [bG,AI]; exact bR bp aY fun k C h=>by rcases cg k C with a7 | a7; exact absurd (aS k a7) ab; omega),bW,bE,((((am.trans<|aH.mono fun _ _ h=> .inl h).trans<|au.md.mono fun _ _ h=>h.elim).trans' aL fun k C h=>by have :=aS k h; omega).trans<|aY.mono fun _ _ h=> .inr h),U,U⟩
 refine aG 2 U<|te _<|dn 2 U ?_;obtain ⟨a6,ce,rfl⟩:=di aA;obtain rfl :j=v0 / 2:=ab;have c9:=iQ I;have de:=bo.1;have cv:=DD aM bq aO;have cC:=am.size;have bf:Md (fun k=>k=rb∨k=ad) J Z:=((aE.mono fun k _ h=> .inl h).trans<|aC.mono fun _ _ h=>h.elim).trans am;have a3:=bR aP bf fun k C h=>by have :=cE aP C; omega
 have cu:=bo.md bf (fun k C hb=>by
  rcases C with C | C;omega;exact fun cur z=>Cm ab cur _ z)
 refine aI 1 U<|p (nk (ac) U)<|p (eU zy U (U) fun j _=>bc.aN j)<|e<|oC tU U U U fun cS dF cU O bM=> ?_;have dm:=O.size;refine e<|ap tU (bh a3 O.md) U ab U (a9.fQ bM) (U) (U) ab ab fun cH cP ck ar cB cY=> ?_;have cB:=ar.size;have bt:∀ k,ac.ownBlock=some k→w.heap.size≤k:=fun k h=>(cE aP h).1;have bO:=ar.B (Wk.B O.md bb) fun h=>by have :=bt rb h; omega
 have ca:Tg cP w.heap.size 84 es.length (.slice a6 es.length ce) (fh es):=Tg.lk (((Tg.oX aA).mono ab).wk O.md) ar fun k C _=>gV (bh a3 O.md) aF k C;have ct:=(cu.wk O.md).md ar fun k C _=>gV (bh a3 O.md) aF k C;exact p aR<|ay 7 U<|tn<|⟨_,ab,k+1,l++ [(decide (v0 % 2=1),es)],ai++ [(decide ((v0:Int) % 2=1),.slice a6 es.length ce)],cH,E,ab,(ma I cv),ab,(by rw [bG,Dk]; exact ck),(by rw [show decide ((v0:Int) % 2=1)=decide (v0 % 2=1) from decide_eq_decide.2 ab] at*; exact eN.snoc (e:=(decide (v0 % 2=1),es)) ct ca),bO,((aD.trans<|O.md.mono fun _ _ h=>h.elim).trans' ar fun k C h=>by have :=bt k h; omega),U,U⟩
 refine aG 2 U<|te _<|dn 3 U ?_;obtain rfl :k=n:=ab;have bg:fc J w.heap.size ac l:=⟨ai,by have h:=Tg.oX aP; rw [bo.1] at h; exact h,bo⟩
 obtain ⟨aa,cc,rfl,cW,b9⟩:=bg.eK;have da:=iQ I;have cj:∀ x∈l,x.2.length≤256:=fun x aT=>(nf (R:=fun p=>p≤s.length) (S:=fun x:aJ=>x.2.length≤256) (fun p x q' hr aT=>⟨(rl aT).2.1,(rl aT).2.2.1⟩) ab I).2 x aT;refine aI 3 U<|e<|aX (Dm l aa cc J b9 ab fun i hi=>cn (cj _<|j1 (d:=dI) hi) aF) U ?_;rintro dA cQ ⟨rfl,aB⟩;refine aj 1 U ?_;refine eP U (eC fg (j7 _ _ _ cQ) U fun dB dH b8=> ?_) (fun c w' A σ' M=>⟨190,C6 V ax I (by
  cases h:shaped l;rfl;exact absurd (show rh l=0 from ri h) (of_decide_eq_false A.2.1)),A.1,by rw [A.2.2]; exact ae.trans (aB.mono fun _ _ h=>h.elim)⟩)
 obtain ⟨rfl,bv,rfl⟩:=b8;have cs:shaped l=true :=by
  cases h:shaped l;rw [kd h] at bv; exact absurd (of_decide_eq_true bv) aF;rfl
 exact ay 9 U<|qH<|f1 U U<|⟨l,q,C7 V ax I cs,bg.wk aB,Wk.B aB ba,ae.trans<|aB.mono fun _ _ h=>h.elim⟩
end Go.Hb.fI
end
section
namespace Go.Hb.gO
open Go.Hb.dO
open Go.Hb.fI
theorem IW (s A:List UInt8) (w:ah) (E:s.length≤1073741824) (hp:A.length≤1073741824):
 bg aq 88 (bl [str s,str A]) w (fun v w'=>v= .bool (decide (s.take A.length=A))∧Wk w w'):=by
 refine enter func88 U ntmps88 U<|aU 13 U<|gs (t:=10) U (fun C=> ?_) fun C=> ?_;exact aj 3 U<|bO U (ym u9 U U ab)<|ay 7 U<|aO U<|⟨U,Md.refl _ _⟩
 exact aj 7 U<|p aR<|ay 3 U<|aO U<|⟨by show bp false =_; rw [decide_eq_false (fun h=>by have :=congrArg lP h; rw [cO] at this; omega)],Md.refl _ _⟩
theorem IV (s A:List UInt8) (w:ah) (E:s.length≤1073741824) (hp:A.length≤1073741824):
 bg aq 52 (bl [str s,str A]) w (fun v w'=>v= .bool (decide (s.take A.length=A))∧Wk w w'):=by
 refine enter func52 U ntmps52 U<|aU 9 U<|e<|aX (IW s A _ E hp) U ?_;rintro I J ⟨rfl,C⟩;exact ay 4 U<|aO U<|⟨U,C⟩
theorem HK (p2 p3:Nat) (w:ah):
 CallsD aq 53 (bl [.pointer (some ⟨p2,0,none⟩),.pointer (some ⟨p3,0,none⟩)]) .returning w (fun A I w'=> ∃ v,A= .returned v∧I= .returning∧(fun w'=>Wk w w') w'):=by
 refine zV (v:= .nilIface) func53 U ntmps53 U (fun L cs E=> .inr ⟨by simp [recoverD,E],U,U⟩) ?_;exact p (DL tg NS U)<|p mv<|p (xt U U)<|p (xt U U)<|p aR<|p aR<|nl<|tn<|sq fun J C=>rg U<|p mv<|nl<|tn<|C _ _<|cf (U)<|Dq<|f0 U<|Md.refl _ _
theorem HJ (p2 p3:Nat) (A:Int) (w:ah) (C:∃ L:List ag,L.length=7∧w.heap[p2]? =some (.cells L.toArray 44 (0,0))) (E:∃ v:ag,w.heap[p3]? =some (.cells [v].toArray 88 (0,0))) (O:p2≠p3):
 CallsD aq 53 (bl [.pointer (some ⟨p2,0,none⟩),.pointer (some ⟨p3,0,none⟩)]) (.panicking<|kX A) w (fun V ai w'=> ∃ v,V= .returned v∧ai=(.panicking [{v:= .iface 88 (.int .i64 A),recovered:=true}])∧(fun w'=>w'.heap[p2]? =some (.cells [aZ .i64 0,str [],.slice none 0 0,.slice none 0 0,.slice none 0 0,.slice none 0 0,.slice none 0 0].toArray 44 (0,0))∧w'.heap[p3]? =some (.cells [.int .i64 A].toArray 88 (0,0))∧Md (fun k=>k=p2∨k=p3) w w') w'):=by
 obtain ⟨am,ad,C⟩:=C;obtain ⟨au,E⟩:=E;have ap:=(dq.1 C).1;have ar:=(dq.1 E).1;refine zV (v:= .iface 88<|.int .i64 A) func53 U ntmps53 U (fun ao cs ae=> .inl<|by simp [recoverD,ae,kX]) ?_;refine p (DK tg U)<|p mv<|p (xt U U)<|p (xt U U)<|p aR<|p aR<|nl<|tn<|sq fun al ac=>rg U<|p mv<|nl<|tn<|ac _ _<|ct (U)<|rg U<|p (eG (ps:= []) (L:= [.int .i64 0,.string ⟨⟨[]⟩⟩,.slice none 0 0,.slice none 0 0,.slice none 0 0,.slice none 0 0,.slice none 0 0]) yp U<|U)<|p mv<|e<|eb lZ U U U U C (by rw [ad]; decide) fun aj J I=>e<|cU vy U U (v:= .int .i64 A) U (J.ak E fun h=>O h.symm) (by show 0 < 1; decide) fun av M Z=>nl<|f0 U ?_;have I:aj.heap[p2]? =some (.cells [aZ .i64 0,str [],.slice none 0 0,.slice none 0 0,.slice none 0 0,.slice none 0 0,.slice none 0 0].toArray 44 (0,0)):=I.trans<|by rw [Fj ab]; rfl
 exact ⟨M.ak I O,Z,(J.mono fun _ _ h=> .inl h).trans' M fun _ _ h=> .inr h⟩
theorem Ai (p2 p3:Nat) (w:ah):(invoke (.fn (.func 53) #[aT p2,aT p3]) #[]).run aq w= .ok (.enter 53 #[aT p2,aT p3]) w:=by
 have h:=GR #[aT p2,aT p3] w;simp [invoke,h]
theorem sI {n:Nat} {D:List Deferred} {G:List Nat} {σ:Nat→ag} {t:Nat} (h:t < n):ev ⟨n,D,G,none⟩ σ (.tmp t)=σ t:=by
 show cond (aE t n) (σ t) undef=_;rw [show aE t n=true from by simpa using h]; rfl
theorem HM {n:Nat} {G:List Nat} {fn:Func} {R:ag→ah→Prop} {σ:Nat→ag} {w:ah} {p2 p3:Nat} {A:Int} (V:fn.results= #[.cell 2 44,.cell 3 88]) (ad:3 < n) (Z:σ 2= .pointer (some ⟨p2,0,none⟩)) (ac:σ 3= .pointer (some ⟨p3,0,none⟩)) (C:∃ L:List ag,L.length=7∧w.heap[p2]? =some (.cells L.toArray 44 (0,0))) (E:∃ v:ag,w.heap[p3]? =some (.cells [v].toArray 88 (0,0))) (O:p2≠p3)
 (I:∀ w',Md (fun k=>k=p2∨k=p3) w w'→R (.tuple #[.agg [aZ .i64 0,str [],.slice none 0 0,.slice none 0 0,.slice none 0 0,.slice none 0 0,.slice none 0 0].toArray,.int .i64 A]) w'):qb ⟨n,[{target:= .fn (.func 53) #[.pointer (some ⟨p2,0,none⟩),.pointer (some ⟨p3,0,none⟩)],args:= #[]}],G,none⟩ (lT aq fn R) (.panic<|kX A) σ w:=by
 refine Ix (Ai p2 p3 w) (HJ p2 p3 A w C E O) ?_;rintro w' ⟨J,M,hm⟩;exact ⟨_,tG V (gE<|iz (cs:= [aZ .i64 0,str [],.slice none 0 0,.slice none 0 0,.slice none 0 0,.slice none 0 0,.slice none 0 0]) ((sI ab).trans Z) kO U fun j _=>by rw [cz,bt J]; simp) (gE<|jy ((sI ab).trans ac) zz<|(bt M).trans U),I w' hm⟩
theorem HN {n:Nat} {G:List Nat} {fn:Func} {R:ag→ah→Prop} {σ:Nat→ag} {w:ah} {p2 p3:Nat} {v:ag} {L:List ag} (O:fn.results= #[.cell 2 44,.cell 3 88]) (ac:3 < n) (V:σ 2= .pointer (some ⟨p2,0,none⟩)) (Z:σ 3= .pointer (some ⟨p3,0,none⟩)) (A:w.heap[p2]? =some (.cells L.toArray 44 (0,0))) (C:w.heap[p3]? =some (.cells [v].toArray 88 (0,0))) (E:L.length=7)
 (I:∀ w',Wk w w'→R (.tuple #[.agg L.toArray,v]) w'):qb ⟨n,[{target:= .fn (.func 53) #[.pointer (some ⟨p2,0,none⟩),.pointer (some ⟨p3,0,none⟩)],args:= #[]}],G,none⟩ (lT aq fn R) .ret σ w:=by
 refine Iw (Ai p2 p3 w) (HK p2 p3 w) ?_;intro w' hm;have J:=Wk.ak hm A;have M:=Wk.ak hm C;exact ⟨_,tG O (gE<|iz (cs:=L) ((sI ab).trans V) kO E fun j _=>by rw [cz,bt J]; simp) (gE<|jy ((sI ab).trans Z) zz<|(bt M).trans U),I w' hm⟩
section
variable {s:List UInt8} {a e n m p1 p2 p3 p4 p5 p q ls:Nat} {t f:List UInt8} {rs:List (List UInt8×List UInt8)} {l:List (List aJ)}
theorem CU (h:cR s a= .error e):gD s a= .error e:=by unfold gD; rw [h]
theorem CV (h:cR s a= .ok (f,p)) (A:cR s p= .error e):gD s a= .error e:=by unfold gD; rw [h]; simp only; rw [A]
theorem CW (h:cR s a= .ok (f,p)) (A:cR s p= .ok (t,q)):gD s a= .ok ((f,t),q):=by unfold gD; rw [h]; simp only; rw [A]
theorem vz (hm:¬s.take 4=eW):bI s= .error 200:=if_neg hm
theorem An (hm:s.take 4=eW) (h:bc s 4= .error e):bI s= .error e:=by unfold bI; rw [if_pos hm,h]
theorem Ao (hm:s.take 4=eW) (h:bc s 4= .ok (n,p1)) (A:cR s p1= .error e):bI s= .error e:=by unfold bI; rw [if_pos hm,h]; simp only; rw [A]
theorem Ap (hm:s.take 4=eW) (h:bc s 4= .ok (n,p1)) (A:cR s p1= .ok (t,p2)) (C:bc s p2= .error e):bI s= .error e:=by unfold bI; rw [if_pos hm,h]; simp only; rw [A]; simp only; rw [C]
theorem Aq (hm:s.take 4=eW) (h:bc s 4= .ok (n,p1)) (A:cR s p1= .ok (t,p2)) (C:bc s p2= .ok (m,p3)) (E:256 < m):bI s= .error 201:=by unfold bI; rw [if_pos hm,h]; simp only; rw [A]; simp only; rw [C]; exact if_pos E
theorem ss (hm:s.take 4=eW) (h:bc s 4= .ok (n,p1)) (A:cR s p1= .ok (t,p2)) (C:bc s p2= .ok (m,p3)) (E:¬256 < m) (I:cq (gD s) m p3= .error e):bI s= .error e:=by unfold bI; rw [if_pos hm,h]; simp only; rw [A]; simp only; rw [C]; simp only; rw [if_neg E,I]
theorem Ar (hm:s.take 4=eW) (h:bc s 4= .ok (n,p1)) (A:cR s p1= .ok (t,p2)) (C:bc s p2= .ok (m,p3)) (E:¬256 < m) (I:cq (gD s) m p3= .ok (rs,p4)):bI s=gi s (if n≤64 then n else 0) t rs p4:=by unfold bI; rw [if_pos hm,h]; simp only; rw [A]; simp only; rw [C]; simp only; rw [if_neg E,I]
theorem Aj (h:ew ls t rs=false):gi s ls t rs a= .error 201:=by unfold gi; rw [h]; rfl
theorem Ak (h:ew ls t rs=true) (A:cq (cK s) 4 a= .error e):gi s ls t rs a= .error e:=by unfold gi; rw [if_pos h,A]
theorem Al (h:ew ls t rs=true) (A:cq (cK s) 4 a= .ok (l,p5)) (C:p5≠s.length):gi s ls t rs a= .error 202:=by unfold gi; rw [if_pos h,A]; exact if_neg C
theorem Am (h:ew ls t rs=true) (A:cq (cK s) 4 a= .ok (l,p5)) (C:p5=s.length):gi s ls t rs a= .ok ⟨ls,t,rs,l⟩:=by unfold gi; rw [if_pos h,A]; exact if_pos C
end
def lU (w:ah) (B:Nat) (cs:List ag) (b:dm):Prop := ∃ A rc vs,cs= [.int .i64 (b.least:Nat),str b.tr,.slice A b.db.length rc]++vs∧vs.length=4∧a9 w.heap A (b.db.flatMap eu)∧∀ i,i < 4→fc w B (vs.getD i .nilFunc) (b.au.getD i [])
theorem lU.wk {w w':ah} {B:Nat} {cs:List ag} {b:dm} (h:lU w B cs b) (hm:Wk w w'):lU w' B cs b:=by
 obtain ⟨I,rc,vs,h1,A,C,E⟩:=h;exact ⟨I,rc,vs,h1,A,C.wk hm,fun i hi=>(E i hi).wk hm⟩
def jK (s:List UInt8) (w:ah) (v:ag) (w':ah):Prop :=(match bI s with
 | .ok b=> ∃ cs,v= .tuple #[.agg cs.toArray,.int .i64 0]∧lU w' w.heap.size cs b
 | .error e=>v= .tuple #[.agg [aZ .i64 0,str [],.slice none 0 0,.slice none 0 0,.slice none 0 0,.slice none 0 0,.slice none 0 0].toArray,.int .i64 (e:Nat)])∧Wk w w'
theorem jK.no {s:List UInt8} {w w':ah} {e:Nat} (h:bI s= .error e) (hm:Wk w w'):jK s w (.tuple #[.agg [aZ .i64 0,str [],.slice none 0 0,.slice none 0 0,.slice none 0 0,.slice none 0 0,.slice none 0 0].toArray,.int .i64 (e:Nat)]) w':=by
 unfold jK; rw [h]; exact ⟨rfl,hm⟩
theorem x7 {a b c v:ag} {vs:List ag} {k:Nat} :([a,b,c]++vs).set (0 +3 +((k:Nat):Int).toNat*1) v= [a,b,c]++vs.set k v:=by
 rw [show 0 +3 +((k:Nat):Int).toNat*1=k+1 +1 +1 from by omega]; rfl
theorem qI {α:Type} {l:List α} {i k:Nat} {v d:α} (h:i≠k):(l.set k v).getD i d=l.getD i d:=by
 rw [bY,Fq (fun e=>h e.symm),bY]
theorem oQ {α:Type} {l:List α} {k:Nat} {v d:α} (h:k < l.length):(l.set k v).getD k d=v:=by
 rw [bY,Fs h]; rfl
theorem Bu {α:Type} {l m:List α} {i:Nat} {d:α} (h:i < l.length):(l++m).getD i d=l.getD i d:=by
 rw [bY,fF h,bY]
theorem Bt {α:Type} {l:List α} {a d:α} {i:Nat} (h:i=l.length):(l++ [a]).getD i d=a:=by
 subst h;rw [bY,fW (aQ _),zl]; rfl
structure fZ (w0 w:ah) (b2 b3:Nat) (L:List ag):Prop where
 c2:w.heap[b2]? =some (.cells L.toArray 44 (0,0))
 c3:w.heap[b3]? =some (.cells [aZ .i64 0].toArray 88 (0,0))
 len:L.length=7
 lo:w0.heap.size≤b2∧w0.heap.size≤b3∧b2≠b3
 wk:Wk w0 w
theorem fZ.md {F:Nat→Prop} {w0 w w':ah} {A C:Nat} {L:List ag} (h:fZ w0 w A C L) (hm:Md F w w') (E:¬F A) (I:¬F C) (J:∀ k,F k→w0.heap.size≤k):fZ w0 w' A C L:=
 ⟨hm.ak h.c2 E,hm.ak h.c3 I,h.len,h.lo,h.wk.trans' hm fun k O M=>by have :=J k M; omega⟩
theorem fZ.Nu {w0 w w':ah} {A C:Nat} {L:List ag} (h:fZ w0 w A C L) (hm:Wk w w'):fZ w0 w' A C L:=h.md hm (fun h=>h) (fun h=>h) fun _ h=>h.elim
theorem fZ.rb {w0 w w':ah} {A C rb:Nat} {L:List ag} (h:fZ w0 w A C L) (hm:Md (fun k=>k=rb) w w') (E:A≠rb) (I:C≠rb) (h0:w0.heap.size≤rb):fZ w0 w' A C L:=h.md hm E I fun k J=>by omega
theorem kU {n:Nat} {G:List Nat} {fn:Func} {σ:Nat→ag} {s:List UInt8} {w W:ah} {C E e:Nat} {L:List ag} (J:fn.results= #[.cell 2 44,.cell 3 88]) (I:3 < n) (M:σ 2= .pointer (some ⟨C,0,none⟩)) (O:σ 3= .pointer (some ⟨E,0,none⟩)) (A:fZ w W C E L) (U:bI s= .error e):qb ⟨n,[{target:= .fn (.func 53) #[.pointer (some ⟨C,0,none⟩),.pointer (some ⟨E,0,none⟩)],args:= #[]}],G,none⟩ (lT aq fn<|jK s w) (.panic<|kX (e:Nat)) σ W:=
 HM J I M O ⟨_,A.len,A.c2⟩ ⟨_,A.c3⟩ A.lo.2.2 (fun w' hm=>jK.no U<|A.wk.trans' hm fun k V h=>by rcases h with rfl | rfl; have :=A.lo.1; omega; have :=A.lo.2.1; omega)
theorem HO (s:List UInt8) (w:ah) (aM:s.length≤1048576):
 bg aq 32 (bl [str s]) w (jK s w):=by
 refine Ia [2,3] func32 U ntmps32 U ?_;refine cT<|cS<|aU 1 U<|e<|du pL fun C e4 d8 b8 cI=>e<|du NQ fun M ct d9 bH cQ=> ?_;have eH:=b8.size;have eI:=bH.size;have dd:Wk w ct:=b8.md.trans bH.md;have dN:=Wk.ak bH.md cI;refine ay 1 U<|bD<|cT<|cT<|cS<|aU 2 U<|e<|aX (IV s eW ct ab aF) U ?_;rintro v10 e2 ⟨rfl,a6⟩;have bZ:=dd.trans a6;have cp:=Wk.ak a6 dN;have cr:=Wk.ak a6 cQ;have eE:=a6.size;refine ay 2 U<|bD<|cS<|cb U (fun aW=> ?_) fun aW=> ?_;have ac:¬s.take 4=eW:=fun h=>by rw [show s.take eW.length=eW from h] at aW; simp at aW
 refine aU 2 U<|p (eG (ps:= []) (L:= [.int .i64 0,.string ⟨⟨[]⟩⟩,.slice none 0 0,.slice none 0 0,.slice none 0 0,.slice none 0 0,.slice none 0 0]) yp U<|U)<|e<|eb lZ U U U U cp aF fun e7 b5 c1=>e<|cU vy U U (v:= .int .i64 200) U (b5.ak cr fun h=>by omega) aF fun d5 b7 c5=>ay 3 U<|xJ ?_;have dA:d5.heap[C]? =some (.cells [aZ .i64 0,str [],.slice none 0 0,.slice none 0 0,.slice none 0 0,.slice none 0 0,.slice none 0 0].toArray 44 (0,0)):=(b7.ak c1 fun h=>by omega).trans rfl;exact Iu (tG U (gE<|iz U U U fun j ej=>by rw [cz,bt dA]; simp)<|gE<|jy U U<|(bt c5).trans U)<|jK.no (vz ac)<|(bZ.trans' b5 fun k E h=>by omega).trans' b7 fun k E h=>by omega
 have ac:s.take 4=eW:=Classical.byContradiction fun h=>by rw [decide_eq_false (show ¬s.take eW.length=eW from h)] at aW; cases aW
 have cD:4≤s.length:=by have :=congrArg lP ac; rw [cO] at this; simp only [eW,dC,ib] at this; omega
 refine j2 1 U<|bD<|cT<|kW JE #[.pointer (some ⟨C,0,none⟩),.pointer (some ⟨M,0,none⟩)] U aF ?_;refine cT<|cS<|aU 2 U<|p (eG (ps:= [(0,str s),(1,.int .i64 4)]) (L:= [str s,.int .i64 4]) LZ U<|U)<|e<|sg U fun rb ae eB bf cH=> ?_;have eF:=bf.size;have c9:az ae.heap rb [str s,.int .i64 ((4:Nat):Int)]:=⟨_,cH⟩
 have cj:fZ w ae C M [aZ .i64 0,str [],.slice none 0 0,.slice none 0 0,.slice none 0 0,.slice none 0 0,.slice none 0 0]:=⟨Wk.ak bf.md cp,Wk.ak bf.md cr,rfl,⟨ab,ab,ab⟩,bZ.trans bf.md⟩
 refine ay 2 U<|bD<|LU (fun cy a4=> ∃ (n p1:Nat),(fZ w a4 C M [.int .i64 ((if n≤64 then n else 0:Nat):Int),str [],.slice none 0 0,.slice none 0 0,.slice none 0 0,.slice none 0 0,.slice none 0 0])∧(az a4.heap rb [str s,.int .i64 (p1:Nat)])∧(Md (fun k=>k=rb∨k=C) ae a4)∧(bc s 4= .ok (n,p1))∧(p1≤s.length)∧(Sl cy [(0,str s),(2,.pointer (some ⟨C,0,none⟩)),(3,.pointer (some ⟨M,0,none⟩)),(4,.pointer (some ⟨rb,0,none⟩))])) ?_ ?_;refine cT<|cS<|aU 2 U ?_;refine eP U (eC lY (oU rb s (4) ae c9 aM<|cD) U fun eO e3 dj=> ?_) (fun c w' I σ' A=>by
  obtain ⟨e,he,rfl,V⟩:=I;exact kU U aF ((A 2<|.head _).trans U) ((A 3<|.tail _<|.head _).trans U) ((cj).rb V ab ab ab) (An ac he))
 obtain ⟨n,p1,Z,rfl,bW,bB⟩:=dj;obtain ⟨ed,bL,eo⟩:=jz Z;have a1:=cj.rb bB ab ab ab;refine ay 2 U<|bD<|cT<|cS<|j2 4 U<|bD<|cS<|cd U (fun bK=> ?_) fun bK=> ?_;exact aU 2 U<|p (fL u3 mC U<|hJ ab)<|aj 1 U<|e<|cU cX U U (v:= .int .i64 (n:Nat)) U a1.c2 aF fun fa bb c6=>ay 1 U<|z4<|⟨n,p1,(⟨by rw [if_pos ab]; exact c6,bb.ak a1.c3 (fun h=>by omega),U,a1.lo,a1.wk.trans' bb fun k E h=>by omega⟩),(bb.B bW fun h=>by omega),((bB.mono fun _ _ h=> .inl h).trans<|bb.mono fun _ _ h=> .inr h),Z,bL,U⟩
 exact j2 1 U<|z4<|⟨n,p1,(by rw [if_neg ab]; exact a1),bW,(bB.mono fun _ _ h=> .inl h),Z,bL,U⟩
 rintro cy a4 ⟨n,p1,co,c8,dc,Z,bL,dR⟩;refine LB dR ?_;refine cT<|cS<|aU 2 U ?_;refine eP U (eC vg (wj rb s (p1) a4 c8 aM ab) U fun eQ e5 dl=> ?_) (fun c w' I σ' A=>by
  obtain ⟨e,he,rfl,V⟩:=I;exact kU U aF ((A 2<|.head _).trans U) ((A 3<|.tail _<|.head _).trans U) ((co).rb V ab ab ab) (Ao ac Z he))
 obtain ⟨t,p2,aL,rfl,cM,b1⟩:=dl;obtain ⟨ee,ek,ep⟩:=oO aL;have bp:=co.rb b1 ab ab ab;refine aj 1 U<|e<|cU Ah U U (v:=str t) U bp.c2 (by simp) fun cx bd c7=> ?_;have cn:fZ w cx C M [.int .i64 ((if n≤64 then n else 0:Nat):Int),str t,.slice none 0 0,.slice none 0 0,.slice none 0 0,.slice none 0 0,.slice none 0 0]:=⟨c7,bd.ak bp.c3 (fun h=>by omega),rfl,bp.lo,bp.wk.trans' bd fun k E h=>by omega⟩
 have da:=bd.B cM fun h=>by omega
 refine ay 1 U<|bD<|cT<|cS<|aU 2 U ?_;refine eP U (eC lY (oU rb s (p2) cx da aM ab) U fun eR dZ dm=> ?_) (fun c w' I σ' A=>by
  obtain ⟨e,he,rfl,V⟩:=I;exact kU U aF ((A 2<|.head _).trans U) ((A 3<|.tail _<|.head _).trans U) ((cn).rb V ab ab ab) (Ap ac Z aL he))
 obtain ⟨m,p3,aV,rfl,cP,b2⟩:=dm;obtain ⟨ef,el,eq⟩:=jz aV;have ck:=cn.rb b2 ab ab ab;refine ay 2 U<|bD<|cT<|cS<|aU 4 U ?_;refine eP U (eC fg (j7 _ _ _ dZ) U fun eS e6 dn=> ?_) (fun c w' I σ' A=>by
  obtain ⟨rfl,hb,rfl⟩:=I;exact kU U aF ((A 2<|.head _).trans U) ((A 3<|.tail _<|.head _).trans U) (ck) (Aq ac Z aL aV<|by have :=of_decide_eq_false hb; omega))
 obtain ⟨rfl,dV,rfl⟩:=dn;have bM:¬256 < m:=by have :=of_decide_eq_true dV; omega
 refine ay 1 U<|bD<|cT<|cT<|cS<|j2 4 U<|bD<|cS<|bX 1 U<|lp (fun aP cB au=> ∃ (k:Nat) (rs:List (List UInt8×List UInt8)) (O:ag) (q:Nat),(k≤m)∧(cq (gD s) k p3= .ok (rs,q))∧(q≤s.length)∧(bj au ae.heap.size 77 2 O rs.length<|rs.flatMap eu)∧(az au.heap rb [str s,.int .i64 (q:Nat)])∧(fZ w au C M [.int .i64 ((if n≤64 then n else 0:Nat):Int),str t,O,.slice none 0 0,.slice none 0 0,.slice none 0 0,.slice none 0 0])∧(Md (fun k=>k=rb∨k=C) ae au)∧(Sl cB [(0,str s),(2,.pointer (some ⟨C,0,none⟩)),(3,.pointer (some ⟨M,0,none⟩)),(4,.pointer (some ⟨rb,0,none⟩)),(33,.int .u64 (m:Nat)),(34,.int .u64 (k:Nat))])∧(m - k=aP)) _ ⟨0,[],.slice none 0 0,p3,ab,U,ab,(fv _ _ _ _),cP,ck,(((dc.trans<|b1.mono fun _ _ h=> .inl h).trans<|bd.mono fun _ _ h=> .inr h).trans<|b2.mono fun _ _ h=> .inl h),U,U⟩ ?_;rintro aP cB au ⟨k,rs,O,q,ex,ao,ez,av,bY,a0,bz,dS,rfl⟩;refine bJ dS<|bX 6 U<|cd U (fun dy=> ?_) fun dy=> ?_;refine aI 7 U ?_;refine eP U (eC vg (wj rb s (q) au bY aM ab) U fun eT ar dp=> ?_) (fun c w' I σ' A=>by
  obtain ⟨e,he,rfl,V⟩:=I;exact kU U aF ((A 2<|.head _).trans U) ((A 3<|.tail _<|.head _).trans U) ((a0).rb V ab ab ab) (ss ac Z aL aV bM<|iy ao (CU he) ab))
 obtain ⟨f,bO,bI,rfl,cW,a8⟩:=dp;obtain ⟨eg,em,er⟩:=oO bI;have a2:=a0.rb a8 ab ab ab;have dI:=bR av a8 fun k E h=>by have :=cE av E; omega
 have eJ:=a8.size;have eN:=bz.size;have aA:∀ k,O.ownBlock=some k→ae.heap.size≤k:=fun k h=>(cE av h).1;refine aK 3 U ?_;have bm:(fun w'=>Md (fun k=>k=rb∨O.ownBlock=some k) ar w') ar.drew:=(Md.refl _ _).drew;refine lj (fun w'=>Md (fun k=>k=rb∨O.ownBlock=some k) ar w') 9 U wide bm<|qJ [0] U bm<|B3 1 U ai (fun w' dv=>aw U<|Md.ax dv ((bt a2.c2).trans U) fun h=>by rcases h with h | h; omega; have :=aA _ h; omega) bm<|qJ [2,3] U bm ?_;refine JC 4 U ai U (eC vg (wj rb s bO ar.drew cW aM ab) U fun eV cu dq=> ?_) (fun c w' I σ' A=>by
  obtain ⟨e,he,rfl,V⟩:=I;exact kU U aF ((A 2<|.head _).trans U) ((A 3<|.tail _<|.head _).trans U) (a2.rb (Md.dg V) ab ab ab) (ss ac Z aL aV bM<|iy ao (CV bI he) ab))
 obtain ⟨t2,dY,cg,rfl,cY,aS⟩:=dq;obtain ⟨eh,en,ew⟩:=oO cg;have aS:=Md.dg aS;have ce:Md (fun k=>k=rb∨O.ownBlock=some k) ar cu:=aS.mono fun _ _ h=> .inl h;have eL:=aS.size;have b9:(fun w'=>Md (fun k=>k=rb∨O.ownBlock=some k) ar w') cu:=ce;refine ⟨b9,?_⟩;refine qR 5 U ai (fun _=>eG (ps:= [(0,str f),(1,str t2)]) (L:= [str f,str t2]) L6 U<|U) (fun _=>b9)<|et 6 U ai<|oC tT U U U fun d6 d2 ea bi cZ=> ?_;have eM:=bi.size;have cf:=ce.trans<|bi.md.mono fun _ _ h=>h.elim;have dJ:=bh (bR dI aS fun k E h=>by have :=cE av E; omega) bi.md;have dw:(fun w'=>Md (fun k=>k=rb∨O.ownBlock=some k) ar w') d2:=cf;refine ⟨dw,?_⟩;refine et 7 U ai<|ap tT (dJ) U ab U (a9.fQ cZ) (U) (U) (by have :=iQ ao; omega) (by have :=iQ ao; omega) fun eX d3 ci bE dX dE=> ?_;obtain ⟨bv,bw,rfl⟩:=di ci;have aT:=cf.trans<|bE.mono fun _ _ h=> .inr h;have dX:=bE.size;have dG:¬(C=rb∨O.ownBlock=some C):=fun h=>by rcases h with h | h; omega; have :=aA _ h; omega
 have dH:¬(M=rb∨O.ownBlock=some M):=fun h=>by rcases h with h | h; omega; have :=aA _ h; omega
 have dz:=aT.ak a2.c2 dG;have c0:=bE.B (Wk.B bi.md cY) fun h=>by have :=aA _ h; omega
 have ca:(fun w'=>Md (fun k=>k=rb∨O.ownBlock=some k) ar w') d3:=aT;refine ⟨ca,?_⟩;refine qJ [8] U ca<|js 9 U ai ai<|cU Aa U U (v:= .slice bv (rs.length+1) bw) U dz (by simp) fun cs aQ cF=> ?_;have dK:fZ w cs C M [.int .i64 ((if n≤64 then n else 0:Nat):Int),str t,.slice bv (rs.length+1) bw,.slice none 0 0,.slice none 0 0,.slice none 0 0,.slice none 0 0]:=⟨cF,aQ.ak (aT.ak a2.c3 dH) (fun h=>by omega),rfl,a0.lo,(a2.wk.trans' aT fun k E h=>by rcases h with h | h; omega; have :=aA _ h; omega).trans' aQ fun k E h=>by omega⟩
 have cG:=aQ.B c0 fun h=>by omega
 have db:Md (fun k=>k=rb∨k=C) ae cs:=((bz.trans<|a8.mono fun _ _ h=> .inl h).trans' aT fun k E h=>by rcases h with h | h; exact .inl h; have :=aA _ h; omega).trans<|aQ.mono fun _ _ h=> .inr h;exact jt ai<|ba 6 U<|tn<|⟨_,ab,k+1,rs++ [(f,t2)],.slice bv (rs.length+1) bw,dY,ab,(ma ao<|CW bI cg),ab,(by rw [bG,uC]; exact bR ci aQ fun k E h=>by rcases dE k E with bV | bV; exact absurd (aA k bV) ab; omega),cG,dK,db,U,U⟩
 refine aG 2 U<|te _<|ba 1 U<|bD<|cT<|cS ?_;obtain ⟨ad,rc,rfl⟩:=di av;obtain rfl :k=m:=ab;obtain ⟨br,dO⟩:∃ br,br=q:=⟨q,rfl⟩
 subst dO;have bn:=Ar ac Z aL aV bM ao;have ey:=iQ ao;have dQ:∀ r∈rs,r.1.length≤1048576∧r.2.length≤1048576:=fun r hr=>by
  have :=(nf (R:=fun _=>True) (S:=fun r:List UInt8×List UInt8=>r.1.length≤255∧r.2.length≤255) (fun p x q' _ dU=>⟨trivial,(La dU).2.2⟩) trivial ao).2 r hr;omega
 refine aU 2 U<|p (eU kO U (U) (show ∀ j,j < 7→ax au.heap C (0 +j)=([.int .i64 ((if n≤64 then n else 0:Nat):Int),str t,.slice ad rs.length rc,.slice none 0 0,.slice none 0 0,.slice none 0 0,.slice none 0 0]:List ag)[j]? from fun j _=>by rw [cz,bt a0.c2]; simp))<|e<|aX (Lz (if n≤64 then n else 0) t rs ad rc (.slice none 0 0) (.slice none 0 0) (.slice none 0 0) (.slice none 0 0) au (cw av).2 (by split <;> omega) ab ab dQ) U ?_;rintro eY d4 ⟨rfl,a7⟩;have cm:=a0.Nu a7;refine eP U (eC fg (j7 _ _ _ d4) U fun eZ e8 dr=> ?_) (fun c w' I σ' A=>by
  obtain ⟨rfl,hb,rfl⟩:=I;exact kU U aF ((A 2<|.head _).trans U) ((A 3<|.tail _<|.head _).trans U) (cm) (by rw [bn,Aj hb]))
 obtain ⟨rfl,bN,rfl⟩:=dr;refine ay 1 U<|bD<|cT<|cT<|cS<|j2 3 U<|bD<|cS<|bX 1 U<|lp (fun aP cC am=> ∃ (J:Nat) (ls:List (List aJ)) (vs:List ag) (aO:Nat),(J≤4)∧(cq (cK s) J br= .ok (ls,aO))∧(aO≤s.length)∧(vs.length=4)∧(az am.heap rb [str s,.int .i64 (aO:Nat)])∧(fZ w am C M<|[.int .i64 ((if n≤64 then n else 0:Nat):Int),str t,.slice ad rs.length rc]++vs)∧(∀ i,i < J→fc am (rb+1) (vs.getD i .nilFunc) (ls.getD i []))∧(Md (fun k=>k=rb∨k=C) ae am)∧(bj am ae.heap.size 77 2 (.slice ad rs.length rc) rs.length<|rs.flatMap eu)∧(Sl cC [(0,str s),(2,.pointer (some ⟨C,0,none⟩)),(3,.pointer (some ⟨M,0,none⟩)),(4,.pointer (some ⟨rb,0,none⟩)),(52,.int .i64 (J:Nat))])∧(4 - J=aP)) _ ⟨0,[],[.slice none 0 0,.slice none 0 0,.slice none 0 0,.slice none 0 0],br,ab,U,ab,U,(Wk.B a7 bY),cm,(fun i hi=>by omega),(bz.trans<|a7.mono fun _ _ h=>h.elim),(bh av a7),U,U⟩ ?_;rintro aP cC am ⟨J,ls,vs,aO,ev,aY,eA,a3,bx,al,bA,de,bo,dT,rfl⟩;refine bJ dT<|bX 6 U<|cd U (fun dB=> ?_) fun dB=> ?_;refine aI 13 U ?_;refine eP U (eC GS (Lt rb s aO am bx aM ab) U fun e0 e9 ds=> ?_) (fun c w' I σ' A=>by
  obtain ⟨e,he,rfl,V⟩:=I;exact kU U aF ((A 2<|.head _).trans U) ((A 3<|.tail _<|.head _).trans U) (al.rb V ab ab ab) (by rw [bn,Ak bN (iy aY he (show J < 4 by omega))]))
 obtain ⟨aB,bO,ch,b0,c4,b6⟩:=ds;obtain ⟨aa,cc,rfl,ec,d7⟩:=b0.eK;have bq:=al.rb b6 ab ab ab;have ei:=C8 ch;refine aj 1 U<|p (jr lX U U ab)<|e<|cU Ab U U (v:= .slice aa aB.length cc) U bq.c2 (by simp only [bG,dC,ib,a3]; omega) fun bu aR cJ=> ?_;have dF:=iQ aY;have bK:bu.heap[C]? =some (.cells ([.int .i64 ((if n≤64 then n else 0:Nat):Int),str t,.slice ad rs.length rc]++vs.set J (.slice aa aB.length cc)).toArray 44 (0,0)):=by rw [← x7]; exact cJ
 have dL:fZ w bu C M ([.int .i64 ((if n≤64 then n else 0:Nat):Int),str t,.slice ad rs.length rc]++vs.set J (.slice aa aB.length cc)):=⟨bK,aR.ak bq.c3 (fun h=>by omega),by simp [a3],bq.lo,bq.wk.trans' aR fun k E h=>by omega⟩
 have cL:=aR.B c4 fun h=>by omega
 have eD:=bx.lt;have bF:Md (fun k=>k=rb∨k=C) am bu:=(b6.mono fun _ _ h=> .inl h).trans<|aR.mono fun _ _ h=> .inr h;have dh:∀ i,i < J+1→fc bu (rb+1) ((vs.set J<|.slice aa aB.length cc).getD i .nilFunc) ((ls++ [aB]).getD i []):=fun i hi=>by
  rcases dD i J with h | h;rw [qI ab,Bu ab];exact (bA i h).md bF fun k E hb=>absurd hb ab;obtain rfl :i=J:=ab;rw [oQ ab,Bt dF.symm];exact (b0.mono ab).md aR fun k E hb=>absurd hb ab
 exact ay 7 U<|tn<|⟨_,ab,J+1,ls++ [aB],vs.set J (.slice aa aB.length cc),bO,ab,(ma aY ch),ab,(by rw [iH]; exact a3),cL,dL,dh,(de.trans bF),(bR bo bF fun k E h=>by have :=(cE bo E).1; omega),U,U⟩
 refine aG 2 U<|te _<|ba 1 U<|bD<|cT<|cS ?_;obtain rfl :J=4:=ab;obtain ⟨aC,aD,aE,aH,rfl⟩:∃ aC aD aE aH,vs= [aC,aD,aE,aH]:=by
  match vs,a3 with
  | [aC,aD,aE,aH],_=>exact ⟨_,_,_,_,rfl⟩
 have a5:∀ i,i < 4→([aC,aD,aE,aH].getD i .nilFunc).oneCell'=true :=fun i hi=>by
  obtain ⟨_,_,e,_⟩:=(bA i hi).eK;rw [e]; rfl
 have dM:([.int .i64 ((if n≤64 then n else 0:Nat):Int),str t,.slice ad rs.length rc,aC,aD,aE,aH]:List ag).all fu=true :=by
  have bP:=a5 0 ab;have bQ:=a5 1 ab;have bS:=a5 2 ab;have bU:=a5 3 ab;simp only [uD,zb] at bP bQ bS bU;simp only [pU,uz,bP,bQ,bS,bU]; rfl
 refine aU 5 U<|p (aw U<|bx.aN 1)<|aj 3 U ?_;refine eP U (eC fg (j7 _ _ _ am) U fun e1 cv dt=> ?_) (fun c w' I σ' A=>by
  obtain ⟨rfl,hb,rfl⟩:=I;exact kU U aF ((A 2<|.head _).trans U) ((A 3<|.tail _<|.head _).trans U) (al) (by rw [bn,Al bN aY (fun h=>of_decide_eq_false hb<|by rw [h])]))
 obtain ⟨rfl,dW,rfl⟩:=dt;have dP:aO=s.length:=by have :=of_decide_eq_true dW; omega
 refine ay 1 U<|bD<|cT<|cS<|aU 1 U<|p (eU kO U (U) (show ∀ j,j < 7→ax cv.heap C (0 +j)=([.int .i64 ((if n≤64 then n else 0:Nat):Int),str t,.slice ad rs.length rc,aC,aD,aE,aH]:List ag)[j]? from fun j _=>by rw [cz,bt al.c2]; simp))<|e<|eb lZ U U U dM al.c2 (by rw [al.len]; decide) fun d0 b3 cR=> ?_;have dx:d0.heap[C]? =some (.cells ([.int .i64 ((if n≤64 then n else 0:Nat):Int),str t,.slice ad rs.length rc]++ [aC,aD,aE,aH]).toArray 44 (0,0)):=cR.trans<|by rw [Fj (by rw [al.len]; decide),List.take_zero,p7,jD]; rfl
 refine e<|cU vy U U (v:= .int .i64 0) U (b3.ak al.c3 fun h=>by omega) aF fun d1 b4 cV=>ay 1 U<|bD<|C1 ?_;exact HN U aF U U (b4.ak dx fun h=>by omega) cV U (fun w' hm=>by
  unfold jK;rw [bn,Am bN aY dP];have bC:Md (fun k=>k=C∨k=M) cv d1:=(b3.mono fun _ _ h=> .inl h).trans<|b4.mono fun _ _ h=> .inr h;refine ⟨⟨_,U,ad,rc,_,U,a3,(cw<|bh (bR bo bC fun k E h=>by have :=(cE bo E).1; omega) hm).2,fun i hi=>(((bA i hi).md bC fun k E hb=>absurd hb ab).wk hm).mono ab⟩,(al.wk.trans' bC fun k E h=>by omega).trans hm⟩)
theorem qO {α:Type} {f:Nat→Except Nat (α×Nat)} (C:∀ a e,f a= .error e→e≠0):∀ {k a e:Nat},cq f k a= .error e→e≠0
 | 0,a,e,h=>by cases h
 | k+1,a,e,h=>by
   rw [cq] at h;split at h
   · rename_i E A;cases h;exact qO C A
   · split at h
     · rename_i E A;cases h;exact C _ _ A
     · cases h
theorem pk {s:List UInt8} {a e:Nat} (h:bc s a= .error e):e≠0:=by rcases xW h with h | h <;> omega
theorem wh {s:List UInt8} {a e:Nat} (h:cR s a= .error e):e≠0:=by
 unfold cR at h;split at h
 · rename_i A; cases h; exact pk A
 · repeat' split at h
   all_goals first | (cases h; decide) | cases h
theorem Lb {s:List UInt8} {a e:Nat} (h:gD s a= .error e):e≠0:=by
 unfold gD at h;split at h
 · rename_i A; cases h; exact wh A
 · split at h
   · rename_i A; cases h; exact wh A
   · cases h
theorem H7 {s:List UInt8} {n a e:Nat} (h:eo s n a= .error e):e≠0:=by
 unfold eo at h;split at h
 · cases h; decide
 · split at h
   · rename_i A; cases h; exact pk A
   · split at h
     · cases h; decide
     · cases h
theorem Me {s:List UInt8} {n a e:Nat} (h:fE s n a= .error e):e≠0:=by
 unfold fE at h;split at h
 · rename_i A; cases h; exact pk A
 · split at h
   · cases h; decide
   · split at h
     · rename_i A; cases h; exact qO (fun _ _=>H7) A
     · cases h
theorem Lo {s:List UInt8} {a e:Nat} (h:cK s a= .error e):e≠0:=by
 unfold cK at h;split at h
 · rename_i A; cases h; exact pk A
 · split at h
   · cases h; decide
   · split at h
     · rename_i A; cases h; exact qO (fun _ _=>Me) A
     · split at h
       · cases h
       · cases h; decide
theorem HL {s:List UInt8} {e:Nat} (h:bI s= .error e):e≠0:=by
 unfold bI at h;split at h
 · split at h
   · rename_i A; cases h; exact pk A
   · split at h
     · rename_i A; cases h; exact wh A
     · split at h
       · rename_i A; cases h; exact pk A
       · split at h
         · cases h; decide
         · split at h
           · rename_i A; cases h; exact qO (fun _ _=>Lb) A
           · generalize (if _≤64 then _ else 0)=n0 at h;unfold gi at h;split at h
             · split at h
               · rename_i A; cases h; exact qO (fun _ _=>Lo) A
               · split at h
                 · cases h
                 · cases h; decide
             · cases h; decide
 · cases h; decide
theorem jK.form {s:List UInt8} {w w':ah} {v:ag} (h:jK s w v w'):∃ L M x2 O V Z ac e,v= .tuple #[.agg [L,M,x2,O,V,Z,ac].toArray,.int .i64 ((e:Nat):Int)]∧[L,M,x2,O,V,Z,ac].all fu=true∧Wk w w'∧
 ((e≠0∧bI s= .error e)∨(e=0∧∃ b,bI s= .ok b∧lU w' w.heap.size [L,M,x2,O,V,Z,ac] b)):=by
 obtain ⟨h,ak⟩:=h;cases hX:bI s with
 | error e=>
   rw [hX] at h;exact ⟨_,_,_,_,_,_,_,e,h,U,ak,.inl ⟨HL hX,U⟩⟩
 | ok b=>
   rw [hX] at h;obtain ⟨cs,am,hb⟩:=h;obtain ⟨aq,rc,vs,rfl,ao,ap,al⟩:=id hb;obtain ⟨C,E,I,J,rfl⟩:∃ C E I J,vs= [C,E,I,J]:=by
    match vs,ao with
    | [C,E,I,J],_=>exact ⟨_,_,_,_,rfl⟩
   have A:∀ i,i < 4→([C,E,I,J].getD i .nilFunc).oneCell'=true :=fun i hi=>by
    obtain ⟨_,_,e,_⟩:=(al i hi).eK;rw [e]; rfl
   have ad:=A 0 ab;have ae:=A 1 ab;have ai:=A 2 ab;have aj:=A 3 ab;simp only [uD,zb] at ad ae ai aj;exact ⟨_,_,_,_,_,_,_,0,am,by simp only [pU,uz,ad,ae,ai,aj]; rfl,ak,.inr ⟨U,b,U,hb⟩⟩
def cH (w:ah) (B cb:Nat) (b:dm) (A:List UInt8):Prop := ∃ cs,az w.heap cb (cs++ [str A])∧lU w B cs b∧B≤cb
theorem cH.wk {w w':ah} {B cb:Nat} {b:dm} {A:List UInt8} (h:cH w B cb b A) (hm:Wk w w'):cH w' B cb b A:=by
 obtain ⟨cs,h1,C,E⟩:=h;exact ⟨cs,Wk.B hm h1,C.wk hm,E⟩
def FX (s:List UInt8) (w:ah) (v:ag) (w':ah):Prop :=(match bI s with
 | .ok b=> ∃ cb,v= .tuple #[.pointer (some ⟨cb,0,none⟩),.nilIface]∧cH w' w.heap.size cb b s
 | .error e=>v= .tuple #[.pointer none,.iface 88 (.int .i64 ((e:Nat):Int))])∧Wk w w'
theorem BZ (s:List UInt8) (w:ah) (aD:s.length≤1048576):
 bg aq 19 (bl [str s]) w (FX s w):=by
 refine enter func19 U ntmps19 U<|aU 8 U<|p mv<|e<|aX (HO s w aD) U fun aR aE av=> ?_;obtain ⟨A,C,x2,E,I,J,M,ai,rfl,aC,Z,V⟩:=jK.form av;have aQ:=Z.size;refine p mv<|aj 2 U<|e<|du pL fun ae aT aH ak ao=> ?_;have aO:=ak.size;refine e<|eb lZ U U U aC ao aF fun ad au ap=> ?_;have ar:az ad.heap ae [A,C,x2,E,I,J,M]:=⟨_,ap⟩
 have O:Wk aE ad:=ak.md.trans' au fun k aL h=>by omega
 have aP:=O.size;refine aK 10 U<|cd U (fun aB=> ?_) fun aB=> ?_;have V:ai≠0∧bI s= .error ai:=V.resolve_right fun h=>by omega
 refine aI 3 U<|p (xu tg U)<|ay 6 U<|f2 U U U ?_;refine ⟨?_,Z.trans O⟩;rw [V.2];exact U;obtain ⟨aJ,b,aw,aA⟩:=V.resolve_left fun h=>by omega
 refine aI 4 U<|p (eU kO U (U) (show ∀ j,j < 7→ax ad.heap ae (0 +j)=([A,C,x2,E,I,J,M]:List ag)[j]? from fun j _=>ar.aN j))<|p mv<|p (Gu (ps:= [(0,.agg [A,C,x2,E,I,J,M].toArray),(1,str s)]) (L:= [A,C,x2,E,I,J,M,str s]) L5 U<|by simp [Instr.fill,Value.cells,str])<|e<|sg (L:= [A,C,x2,E,I,J,M,str s]) U fun al aS aG ac am=> ?_;have aM:=ac.size;refine ay 5 U<|f2 U U U ?_;refine ⟨?_,(Z.trans O).trans ac.md⟩;rw [aw];exact ⟨al,U,_,⟨_,am⟩,aA.wk (O.trans ac.md),ab⟩
end Go.Hb.gO
end
section
namespace Go.Hb.cH
open Go.Hb.dO
open Go.Hb.fI Go.Hb.gO
def dB (c:UInt8) (es:List (UInt8×Int)):Nat:=es.findIdx fun e=>e.1==c
theorem wS {c:UInt8} {es:List (UInt8×Int)} {i:Nat} {e:UInt8×Int} (he:es[i]? =some e) (A:e.1=c) (E:∀ (j:Nat) (e':UInt8×Int),j < i→es[j]? =some e'→e'.1≠c):dB c es=i:=by
 unfold dB;obtain ⟨hi,rfl⟩:=cD.1 he;rw [List.findIdx_eq hi];refine ⟨by simpa using A,fun j C=> ?_⟩;have :=E j _ C<|bC ab;simpa using this
theorem BB {c:UInt8} {es:List (UInt8×Int)} (C:∀ (j:Nat) (e':UInt8×Int),es[j]? =some e'→e'.1≠c):dB c es=es.length:=by
 unfold dB;refine List.findIdx_eq_length.2 fun e he=> ?_;obtain ⟨j,A⟩:=List.mem_iff_getElem?.1 he;simpa using C j e A
def dV (l:List aJ):Nat→List UInt8→Option Nat×Nat
 | n,[]=>(some n,0)
 | n,c::w=>if dB c (aA l n).2 < (aA l n).2.length then ((dV l ((aA l n).2.getD (dB c (aA l n).2) (0,0)).2.toNat w).1,(dV l ((aA l n).2.getD (dB c (aA l n).2) (0,0)).2.toNat w).2 +1) else (none,0)
def jj (l:List aJ) (w:List UInt8):Option Nat×Nat:=if l= [] then (none,0) else dV l 0 w
def fy (l:List aJ) (w:List UInt8):Bool:=match (jj l w).1 with
 | some n=>(aA l n).1
 | none=>false
def ij (l:List aJ):Prop :=l.length≤1048576∧∀ x∈l,x.2.length≤256∧∀ e∈x.2,0≤e.2∧e.2 < l.length
theorem ij.nil:ij []:=⟨by simp,fun x A=>by simp at A⟩
theorem ij.st {l:List aJ} (h:ij l) {n:Nat} (hn:n < l.length):(aA l n).2.length≤256∧∀ (i:Nat) e,(aA l n).2[i]? =some e→0≤e.2∧e.2 < l.length:=by
 have :=h.2 _<|j1 (d:=dI) hn;exact ⟨this.1,fun i e he=>this.2 e<|kK he⟩
def cx (b:dm) (n:Int):List aJ:=if 0≤n∧n < 4 then b.au.getD n.toNat [] else []
theorem Lp {s:List UInt8} {b:dm} (h:b.Is s) (n:Int):ij (cx b n):=by
 unfold cx;split
 · rename_i hn;have hm:b.au.getD n.toNat []∈b.au:=j1<|by rw [h.qV]; omega
   obtain ⟨_,A,C⟩:=h.au _ hm;exact ⟨A,C⟩
 · exact ij.nil
theorem cH.sec {w:ah} {B cb:Nat} {b:dm} {I:List UInt8} (h:cH w B cb b I) {n:Nat} (hn:n < 4):∃ aa cc,ax w.heap cb (3 +n)=some (.slice aa (b.au.getD n []).length cc)∧ej w.heap aa (b.au.getD n []):=by
 obtain ⟨cs,A,⟨L,rc,vs,rfl,J,_,C⟩,_⟩:=h;obtain ⟨aa,cc,e,_,E⟩:=(C n hn).eK;refine ⟨aa,cc,?_,E⟩;rw [A.ax,fF (by simp only [bG,dC,ib]; omega),fW (by simp)];rw [bY] at e;have :vs[n]? =some (vs[n]'ab):=bC ab;rw [this] at e;show vs[3 +n - 3]? =_;rw [zi,this,← e]; rfl
theorem ej.none (h:Array Obj):ej h none []:=⟨fun h=>by simp at h,fun i hi=>by simp at hi⟩
theorem C9 (B E:Nat) (b:dm) (O:List UInt8) (n:Int) (w:ah) (I:cH w B E b O):
 bg aq 31 (bl [aT E,.int .i64 n]) w (fun v w'=>(∃ aa cc,v= .slice aa (cx b n).length cc∧ej w'.heap aa (cx b n))∧Wk w w'):=by
 refine enter func31 U ntmps31 U<|aU 9 U<|p (ix mA U U)<|aj 1 U<|gb (t:=7) U (fun h=>absurd (h.symm.trans<|U) cJ) fun V=>aj 4 U<|gs (t:=11) U (fun L=> ?_) fun L=> ?_;refine ay 13 U<|aO U ?_;have A:cx b n= []:=if_neg ab;rw [A];exact ⟨⟨none,0,U,ej.none _⟩,Md.refl _ _⟩;refine aK 5 U<|cd U (fun J=> ?_) fun J=> ?_;refine aG 7 U<|aO U ?_;have A:cx b n= []:=if_neg ab;rw [A];exact ⟨⟨none,0,U,ej.none _⟩,Md.refl _ _⟩;obtain ⟨k,rfl⟩:∃ k:Nat,n=(k:Int):=⟨n.toNat,ab⟩
 have A:cx b (k:Int)=b.au.getD k []:=if_pos ab;obtain ⟨aa,cc,C,M⟩:=cH.sec I (n:=k) ab;rw [show 3 +k=0 +0 +3 +((k:Nat):Int).toNat*1 by omega] at C;refine aI 9 U<|p (jr lX U U ab)<|p (aw U<|C)<|p aR<|ay 3 U<|aO U ?_;rw [A];exact ⟨⟨aa,cc,U,M⟩,Md.refl _ _⟩
theorem Lq (n:Int) (w:ah):
 bg aq 31 (bl [.pointer none,.int .i64 n]) w (fun v w'=>v= .slice none 0 0∧Wk w w'):=by
 refine enter func31 U ntmps31 U<|aU 9 U<|p (ix mA U U)<|aj 1 U<|gb (t:=7) U (fun A=> ?_) fun h=>absurd ((U).symm.trans h) cJ;exact aj 3 U<|p mv<|ay 13 U<|aO U<|⟨U,Md.refl _ _⟩
theorem Ge (C:UInt8×Int) (x:List UInt8) (i J I:Nat) (w:ah) (M:az w.heap J [str x]) (L:az w.heap I [aB i]) (hi:i < x.length):
 bg aq 49 (bl [.agg #[.int .u8 C.1.toNat,.int .i64 C.2],aT J,aT I]) w (fun v w'=>v= .bool (decide (C.1=x.getD i 0))∧Wk w w'):=by
 exact enter func49 U ntmps49 U<|aU 2 U<|e<|mS U fun V ac Z E O=>aK 4 U<|eT fun A=>aH [0] U A<|cM 1 U A (O.aN 0)<|cM 2 U A ((Wk.B E.md M).aN 0)<|cM 3 U A ((Wk.B E.md L).aN 0)<|cZ 4 U (fN u9 U U ab) A<|aH [5,6] U A<|hn ai<|ba 2 U<|aO U<|⟨bv (by rw [Int.ofNat_inj,oo]),E.md.drew⟩
theorem Jf (a:Option bL) (c:Nat) (es:List (UInt8×Int)) (x:List UInt8) (i I E:Nat) (w:ah) (V:kN w.heap a es) (ai:az w.heap I [str x]) (ag:az w.heap E [aB i]) (hi:i < x.length) (am:es.length≤256):
 bg aq 48 (bl [.slice a es.length c,.func (.func 49) #[] #[aT I,aT E]]) w (fun v w'=>(∃ r:Int,v= .int .i64 r∧((r=(dB (x.getD i 0) es:Nat)∧dB (x.getD i 0) es < es.length)∨(r= -1∧dB (x.getD i 0) es=es.length)))∧Wk w w'):=by
 refine enter func48 U ntmps48 U<|aU 8 U<|p mv<|aK 5 U<|lp (fun M ad L=> ∃ (k:Nat),(k≤es.length)∧(∀ (j:Nat) (e':UInt8×Int),j < k→es[j]? =some e'→e'.1≠x.getD i 0)∧(Wk w L)∧(Sl ad [(0,.slice a es.length c),(1,.func (.func 49) #[] #[aT I,aT E]),(7,aB (es.length)),(8,aB k)])∧(es.length - k=M)) _ ⟨0,ab,(fun j d ac=>by omega),(Md.refl _ _),U,U⟩ ?_;rintro M ad L ⟨k,al,J,A,ak,rfl⟩;refine bJ ak<|bX 6 U<|cd U (fun aj=> ?_) fun aj=> ?_;refine bS 11 U ?_;obtain ⟨ae,he⟩:∃ d,es[k]? =some d:=⟨_,bC ab⟩
 refine aI 4 U<|p (bE l7 U U ab<|V.ok ab)<|p (eU qk U (U)<|(V.wk A).two he)<|e<|vp GQ U (Ge ae x i I E L (Wk.B A ai) (Wk.B A ag) hi) U ?_;rintro ao ap ⟨rfl,O⟩;refine aK 2 U<|cb U (fun hm=> ?_) fun hm=> ?_;refine aG 9 U<|tr<|ba 2 U<|aO U ?_;have Z:=wS he (of_decide_eq_true hm) J;exact ⟨⟨(k:Nat),U,.inl ⟨by rw [Z],by rw [Z]; omega⟩⟩,A.trans O⟩;exact aI 4 U<|p (cg<|k+1)<|ay 2 U<|tn<|⟨_,ab,k+1,ab,(fun j e' ac C=>by rcases Nat.lt_succ_iff_lt_or_eq.1 ac with h | rfl; exact J j e' h C; rw [he] at C; cases C; exact of_decide_eq_false hm),(A.trans O),U,U⟩
 exact aG 2 U<|cy<|ba 8 U<|aO U<|⟨⟨-1,U,.inr ⟨U,BB fun j e' C=>J j e' (by have :=(cD.1 C).1; omega) C⟩⟩,A⟩
theorem Gh {l:List aJ} {n:Nat} :dV l n []=(some n,0):=rfl
theorem Gi {l:List aJ} {n:Nat} {c:UInt8} {w:List UInt8} (h:dB c (aA l n).2=(aA l n).2.length):dV l n (c::w)=(none,0):=by
 rw [dV,if_neg ab]
theorem Gg {l:List aJ} {n m:Nat} {c:UInt8} {w:List UInt8} {e:UInt8×Int} (h:(aA l n).2[dB c (aA l n).2]? =some e) (he:e.2=(m:Int)):dV l n (c::w)=((dV l m w).1,(dV l m w).2 +1):=by
 have A:=(cD.1 h).1;rw [dV,if_pos A,bY,h];show ((dV l e.2.toNat w).1,(dV l e.2.toNat w).2 +1)=_;rw [he,rN]
theorem HW {x:List UInt8} {k:Nat} (h:k < x.length):x.drop k=x.getD k 0::x.drop (k+1):=by
 rw [List.drop_eq_getElem_cons h,bY,bC h]; rfl
def FU (l:List aJ) (x:List UInt8) (w:ah) (v:ag) (w':ah):Prop :=Wk w w'∧∃ p,v= .tuple #[p,.int .i64 ((jj l x).2:Nat)]∧match (jj l x).1 with
 | none=>p= .pointer none
 | some q=> ∃ A C,p= .pointer (some ⟨A,C,none⟩)∧ax w'.heap A (C+0)=some (.bool (aA l q).1)
theorem zD (B am:Nat) (b:dm) (aQ:List UInt8) (n:Int) (x:List UInt8) (w:ah) (aY:cH w B am b aQ) (aF:ij (cx b n)) (bn:x.length≤4294967296):
 bg aq 29 (bl [aT am,.int .i64 n,str x]) w (FU (cx b n) x w):=by
 obtain ⟨bh,bi⟩:=id aF;refine enter func29 U ntmps29 U<|aU 2 U<|e<|sf U U fun L bf bm Z aC=> ?_;have bp:=Z.size;refine aj 6 U<|p mv<|p mv<|e<|aX (C9 B am b aQ n bf<|aY.wk Z.md) U ?_;rintro bt bd ⟨⟨aa,cc,rfl,a2⟩,hE14⟩;have aE:=Z.md.trans hE14;refine p aR<|aj 5 U<|p mv<|aK 4 U<|cd U (fun a3=> ?_) fun a3=> ?_;have I:(cx b n).length=0:=ab;refine aG 8 U<|f2 U U U ?_;have C:jj (cx b n) x=(none,0):=if_pos<|jF I;refine ⟨aE,.pointer none,by rw [C]; rfl,?_⟩;rw [C];have I:0 < (cx b n).length:=ab;refine aI 10 U<|p (aw U<|(az.aN ⟨_,Wk.ak hE14 aC⟩ 0:ax bd.heap L 0=some (str x)))<|aK 5 U<|lp (fun av aS J=> ∃ (k q:Nat),(k≤x.length)∧(q < (cx b n).length)∧(jj (cx b n) x=((dV (cx b n) q<|x.drop k).1,(dV (cx b n) q<|x.drop k).2 +k))∧(ej J.heap aa<|cx b n)∧(az J.heap L [str x])∧(Wk w J)∧(Sl aS [(5,aT L),(8,.slice aa (cx b n).length cc),(9,aB q),(19,aB (x.length)),(20,aB k)])∧(x.length - k=av)) _ ⟨0,0,ab,I,(by rw [jj,if_neg (fun h=>by rw [h] at I; simp at I)]; rfl),a2,(⟨_,Wk.ak hE14 aC⟩),aE,U,U⟩ ?_;rintro av aS J ⟨k,q,a6,al,ae,E,ad,O,a9,rfl⟩;refine bJ a9<|bX 6 U<|cd U (fun a4=> ?_) fun a4=> ?_;refine aI 7 U<|e<|du pK fun ap bv bj aJ aV=> ?_;have bo:=aJ.size;refine e<|cU cX U U U aV (by simp) fun ao a1 aW=> ?_;have aD:az ao.heap ap [aB k]:=⟨_,aW⟩
 have A:Wk J ao:=Md.trans' aJ.md a1 fun k a6 h=>by omega
 have bq:=A.size;refine aK 3 U ?_;obtain ⟨ar,au,ac,a0⟩:=E.two al;have aM:=mz A ac;have V:=a0.wk A;obtain ⟨a7,a8⟩:=aF.st al;have aO:=HW (x:=x) (k:=k) ab;refine aI 3 U<|p (bE jX U U ab<|E.ok ab)<|aj 1 U<|p (aw U<|aM 1 ab)<|p xr<|e<|aX (Jf ar au (aA (cx b n) q).2 x k L ap ao V (A.B ad) aD ab a7) U ?_;rintro bu bw ⟨⟨br,rfl,aP⟩,hE29⟩;refine aK 10 U<|cd U (fun a5=> ?_) fun a5=> ?_;have ag:=aP.resolve_left fun h=>by omega
 refine bS 1 U<|eT fun aL=>cM 0 U aL ((hE29.B aD).aN 0)<|aH [1,2] U aL<|hn ai<|ba 5 U<|tr<|ba 2 U<|f2 U U U ?_;have C:jj (cx b n) x=(none,k):=by rw [ae,aO,Gi ag.2]; simp
 refine ⟨(O.trans<|A.trans hE29).drew,.pointer none,by rw [C]; rfl,?_⟩;rw [C];obtain ⟨rfl,ag⟩:=aP.resolve_right fun h=>by omega
 refine bS 2 U ?_;obtain ⟨⟨c,z⟩,he⟩:∃ e,(aA (cx b n) q).2[dB (x.getD k 0) (aA (cx b n) q).2]? =some e:=⟨_,bC ag⟩
 obtain ⟨bb,bc⟩:=a8 _ _ he;obtain ⟨m,rfl⟩:∃ m:Nat,z=(m:Int):=⟨z.toNat,by simp only at bb; omega⟩
 simp only at bc;exact aI 3 U<|p (bE jX U U ab<|E.ok ab)<|aj 1 U<|p (aw U<|(mz hE29 aM) 1 ab)<|aj 1 U<|p (bE l7 U U ab<|V.ok ab)<|aj 1 U<|p (aw U (show _=some (aZ .i64 ((m:Nat):Int)) from (V.wk hE29).to _ (c,_) he))<|aj 5 U<|p (cg<|k+1)<|ay 2 U<|tn<|⟨_,ab,k+1,m,ab,ab,(by rw [ae,aO,Gg he U]; simp only [Prod.mk.injEq,true_and]; omega),(E.wk<|A.trans hE29),(Wk.B (A.trans hE29) ad),(O.trans<|A.trans hE29),U,U⟩
 refine aG 2 U<|cy<|dn 3 U<|eT fun M=>aH [0,1] U M<|cZ 2 U (bE jX U U ab<|E.ok ab) M<|cM 3 U M (ad.aN 0)<|aH [4,5,6] U M<|hn ai<|ba 2 U<|f2 U U U ?_;obtain rfl :k=x.length:=ab;have C:jj (cx b n) x=(some q,x.length):=by rw [ae,List.drop_length,Gh]; simp
 refine ⟨Md.drew O,_,by rw [C]; rfl,?_⟩;rw [C];obtain ⟨ar,au,ac,_⟩:=E.two al;exact ⟨_,_,U,ac 0 ab⟩
theorem I3 (B A:Nat) (b:dm) (E:List UInt8) (n:Int) (x:List UInt8) (w:ah) (I:cH w B A b E) (L:ij (cx b n)) (O:x.length≤4294967296) (C:(jj (cx b n) x).1=none):
 bg aq 17 (bl [aT A,.int .i64 n,str x]) w (fun v w'=>v= .bool (fy (cx b n) x)∧Wk w w'):=by
 refine enter func17 U ntmps17 U<|aU 7 U<|p mv<|p mv<|p mv<|e<|aX (zD B A b E n x w I L O) U ?_;rintro Z ab ⟨J,p,rfl,hp⟩;rw [C] at hp;subst hp;refine p mv<|aj 2 U<|p aR<|aj 5 U<|p mv<|p (Ci DX U U)<|aj 1 U<|gb (t:=18) U (fun h=>absurd (h.symm.trans<|U) cJ) fun V=>aj 5 U<|p aR<|ay 3 U<|aO U ?_;have M:fy (cx b n) x=false :=by rw [fy,C]
 rw [M];exact ⟨U,J⟩
theorem I5 (B A:Nat) (b:dm) (E:List UInt8) (n:Int) (x:List UInt8) (w:ah) (I:cH w B A b E) (L:ij (cx b n)) (V:x.length≤4294967296) (q:Nat) (C:(jj (cx b n) x).1=some q):
 bg aq 17 (bl [aT A,.int .i64 n,str x]) w (fun v w'=>v= .bool (fy (cx b n) x)∧Wk w w'):=by
 refine enter func17 U ntmps17 U<|aU 7 U<|p mv<|p mv<|p mv<|e<|aX (zD B A b E n x w I L V) U ?_;rintro ad ae ⟨J,p,rfl,hp⟩;rw [C] at hp;obtain ⟨Z,ac,rfl,O⟩:=hp;refine p mv<|aj 2 U<|p aR<|aj 5 U<|p mv<|p (Ci DX U U)<|aj 1 U<|gb (t:=18) U (fun ab=> ?_) fun h=>absurd ((U).symm.trans h) cJ;refine bO U mv<|aj 2 U<|bO U (aw U<|O)<|ay 5 U<|aO U ?_;have M:fy (cx b n) x=(aA (cx b n) q).1:=by rw [fy,C]
 rw [M];exact ⟨U,J⟩
theorem I6 (B A:Nat) (b:dm) (C:List UInt8) (n:Int) (x:List UInt8) (w:ah) (E:cH w B A b C) (I:ij (cx b n)) (J:x.length≤4294967296):bg aq 17 (bl [.pointer (some ⟨A,0,none⟩),.int .i64 n,str x]) w (fun v w'=>v= .bool (fy (cx b n) x)∧Wk w w'):=by
 cases hX:(jj (cx b n) x).1 with
 | none=>exact I3 B A b C n x w E I J hX
 | some q=>exact I5 B A b C n x w E I J q hX
end Go.Hb.cH
end
section
namespace Go.Hb
open Go.Hb.cH
def gT (l:List aJ) (s:Nat) (c:UInt8):Option Nat:=if dB c (aA l s).2 < (aA l s).2.length then some ((aA l s).2.getD (dB c (aA l s).2) (0,0)).2.toNat else none
def gR (l:List aJ) (u:List UInt8):Option Nat:=(dV l 0 u).1
theorem sa (l:List aJ) (n:Nat) (c:UInt8) (u:List UInt8):(dV l n (c::u)).1=(gT l n c).bind fun s=>(dV l s u).1:=by
 rw [dV]; unfold gT;split <;> rfl
theorem u7 (l:List aJ):∀ (u:List UInt8) (n:Nat) (c:UInt8),(dV l n<|u++ [c]).1=(dV l n u).1.bind fun s=>gT l s c
 | [],n,c=>by
   rw [p7,sa];show (gT l n c).bind (fun s=>some s)=gT l n c;cases gT l n c <;> rfl
 | a::u,n,c=>by
   rw [List.cons_append,sa,sa];cases gT l n a with
   | none=>rfl
   | some s=>exact u7 l u s c
theorem zA (l:List aJ):∀ (v u:List UInt8) (n:Nat),(dV l n u).1=none→(dV l n<|u++v).1=none
 | [],u,n,h=>by rw [jD]; exact h
 | c::v,u,n,h=>by
   rw [show u++c::v=(u++ [c])++v by simp];refine zA l v _ n ?_;rw [u7,h]; rfl
def oN (l:List aJ):Option Nat→Bool
 | some n=>(aA l n).1
 | none=>false
def bU (w:List UInt8) (i k:Nat):List UInt8:=(w.drop i).take<|k - i
def aD (l:List aJ) (least:Nat) (w:List UInt8) (i k:Nat):Bool:=decide (i < k∧k≤w.length∧least≤k - i) && oN l (gR l<|bU w i k)
theorem Hr (w:List UInt8) (i:Nat):bU w i i= []:=by unfold bU; rw [zl]; rfl
theorem Ht {w:List UInt8} {i k:Nat} (hi:i≤k) (A:k < w.length):bU w i (k+1)=bU w i k++ [w.getD k 0]:=by
 unfold bU;rw [show k+1 - i=(k - i)+1 by omega,uN,iF,show i+(k - i)=k by omega,bY,bC A]; rfl
theorem Hs {w:List UInt8} {i k m:Nat} (hi:i≤k) (A:k≤m):∃ v,bU w i m=bU w i k++v:=by
 unfold bU;exact ⟨_,by rw [show m - i=(k - i)+(m - k) by omega,List.take_add]⟩
theorem Bx {l:List aJ} {w:List UInt8} {i k:Nat} (hi:i≤k) (A:k < w.length):gR l (bU w i<|k+1)=(gR l<|bU w i k).bind fun s=>gT l s (w.getD k 0):=by
 unfold gR;rw [Ht hi A,u7]
theorem IT {l:List aJ} {w:List UInt8} {i k m:Nat} (hi:i≤k) (A:k≤m) (h:gR l (bU w i k)=none):gR l (bU w i m)=none:=by
 obtain ⟨v,C⟩:=Hs (w:=w) hi A;unfold gR at h ⊢;rw [C]; exact zA l v _ 0 h
def jo (l:List aJ) (least:Nat) (w:List UInt8) (i k:Nat):List Nat:=(eL (i+1)<|k - i).filter<|aD l least w i
theorem H8 (l:List aJ) (least:Nat) (w:List UInt8) (i:Nat):jo l least w i i= []:=by unfold jo; rw [zl]; rfl
theorem AP {l:List aJ} {least:Nat} {w:List UInt8} {i k:Nat} (hi:i≤k):jo l least w i (k+1)=jo l least w i k++if aD l least w i (k+1)=true then [k+1] else []:=by
 unfold jo;rw [show k+1 - i=(k - i)+1 by omega,List.range'_1_concat,uB,show i+1 +(k - i)=k+1 by omega];congr 1;cases h:aD l least w i (k+1) <;> simp [h]
theorem KH {l:List aJ} {least:Nat} {w:List UInt8} {i k s:Nat} (hi:i≤k) (C:k < w.length) (A:gR l (bU w i<|k+1)=some s):aD l least w i (k+1)=((aA l s).1 && decide (least≤k+1 - i)):=by
 unfold aD;rw [A];simp only [oN];cases (aA l s).1
 · simp
 · simp only [Bool.and_true,nX];exact decide_eq_decide.2 ⟨fun h=>h.2.2,fun h=>⟨ab,ab,h⟩⟩
theorem AN {l:List aJ} {least:Nat} {w:List UInt8} {i k:Nat} (hi:i≤k) (C:k≤w.length) (h:k=w.length∨gR l (bU w i<|k+1)=none):jo l least w i k=jE (aD l least w) w.length i:=by
 rcases h with rfl | h
 · rfl
 · have :∀ d,k+d≤w.length→jo l least w i (k+d)=jo l least w i k:=fun d=>by
    induction d with
    | zero=>intro _; rfl
    | succ d ih=>
      intro A;rw [← Nat.add_assoc,AP ab,ih ab];have hn:=IT (m:=k+d+1) ab ab h;have :aD l least w i (k+d+1)=false :=by unfold aD; rw [hn]; simp [oN]
      rw [this]; simp
   have h1:=this (w.length - k) ab;rw [show k+(w.length - k)=w.length by omega] at h1;exact h1.symm
theorem Jd {c:UInt8} {es:List (UInt8×Int)} (hr:dP es) {i:Nat} (J:∀ (j:Nat) e,j < i→es[j]? =some e→e.1.toNat < c.toNat) (M:∀ (j:Nat) e,i≤j→es[j]? =some e→c.toNat≤e.1.toNat):(i < es.length∧(es.getD i (0,0)).1=c→dB c es=i)∧(¬(i < es.length∧(es.getD i (0,0)).1=c)→dB c es=es.length):=by
 constructor
 · rintro ⟨h1,A⟩;rw [bY,bC h1] at A;refine wS (bC h1) A fun j e E he h=> ?_;have :=J j e E he;rw [h] at this; omega
 · intro h;refine BB fun j e he C=>h ?_;have V:¬j < i:=fun E=>by have :=J j e E he; rw [C] at this; omega
   have I:=(cD.1 he).1;by_cases O:i=j
   · subst O;refine ⟨I,?_⟩;rw [bY,he]; exact C
   · exfalso;have h1:es[i]? =some (es[i]'ab):=bC ab;have A:=M i _ (aQ _) h1;have L:=oh.1 hr i j ab I ab;obtain ⟨U,rfl⟩:=cD.1 he;rw [C] at L;omega
theorem u5 {l:List aJ} (h:l≠[]) (u:List UInt8):fy l u=oN l (gR l u):=by
 unfold fy jj gR;rw [if_neg h];cases (dV l 0 u).1 <;> rfl
theorem Hq {w:List UInt8} {i k:Nat} (A:k≤w.length):(bU w i k).length=k - i:=by
 unfold bU;rw [cO,iG]; omega
theorem CH {l:List aJ} {least:Nat} {w:List UInt8} {i k:Nat} :aD l least w i k=true↔(i < k∧k≤w.length∧least≤k - i)∧oN l (gR l<|bU w i k)=true :=by
 unfold aD;rw [a0,decide_eq_true_iff]
def gY (l:List aJ) (least:Nat) (w:List UInt8):List (List UInt8):=if w.length≤1024∧(jC (aD l least w) w.length 0).1≠0 then (iK (aD l least w) w.length 0).map fun p=>bU w p.1 p.2 else []
def dJ (l:List aJ) (least:Nat) (w:List UInt8):Nat×Bool:=if w= []∨1024 < w.length then (0,true) else if dX < (jC (aD l least w) w.length 0).2 then (0,false) else ((jC (aD l least w) w.length 0).2,true)
section
variable {l:List aJ} {least:Nat} {w:List UInt8}
theorem LS (h:(jC (aD l least w) w.length 0).1≠0):0 < w.length∧gx (aD l least w) w.length 0:=by
 have h0:0 < w.length:=by
  rcases qc w.length with h1 | h1
  · rw [h1,sT] at h; exact absurd rfl h
  · exact h1
 exact ⟨h0,.inr ⟨h0,h⟩⟩
theorem LR (hw:1024 < w.length):gY l least w= []:=by unfold gY; rw [if_neg ab]
end
end Go.Hb
end
section
namespace Go.Hb.uV
open Go.Hb.cH
section
variable {l od:List Nat} {a:List aJ}
def jq:List UInt8→List UInt8→Bool
 | [],_=>true
 | _::_,[]=>false
 | c::f,d::v=>if d.toNat < c.toNat then false else if d=c then jq f v else true
def iP (a:List aJ) (t:List UInt8) (i:Nat) (f:List UInt8):List (List UInt8):=((eZ a i).filter<|jq f).map (t++ ·)
def eS (a:List aJ) (t:List UInt8) (i:Nat) (f:List UInt8):List (List UInt8):=if (aA a i).1=true∧f= [] then [t] else []
def mw (f:List UInt8) (b:UInt8):Bool:=match f with | []=>false | c::_=>decide (b.toNat < c.toNat)
def kz (f:List UInt8) (b:UInt8):List UInt8:=match f with | []=> [] | c::f=>if b=c then f else []
def dS (a:List aJ) (t f:List UInt8) (es:List (UInt8×Int)):List (List UInt8):=es.flatMap fun e=>if mw f e.1=true then [] else iP a (t++ [e.1]) e.2.toNat (kz f e.1)
theorem IM (f:List UInt8) (b:UInt8) (v:List UInt8):jq f (b::v)=(!mw f b && jq (kz f b) v):=by
 cases f with
 | nil=>rfl
 | cons c f=>
   show (if b.toNat < c.toNat then false else if b=c then jq f v else true)=(!(decide (b.toNat < c.toNat)) && jq (if b=c then f else []) v)
   by_cases h1:b.toNat < c.toNat
   · rw [if_pos h1,decide_eq_true h1]; rfl
   · rw [if_neg h1,decide_eq_false h1];by_cases A:b=c
     · rw [if_pos A,if_pos A]; rfl
     · rw [if_neg A,if_neg A]; rfl
theorem Bq (h:fK a l) {i:Nat} (hi:i < a.length) (t f:List UInt8):iP a t i f=eS a t i f++dS a t f (aA a i).2:=by
 unfold iP eS dS;rw [h.eZ hi,uB,gK];congr 1
 · by_cases h1:(aA a i).1=true
   · rw [if_pos h1];cases f with
     | nil=>rw [if_pos ⟨h1,rfl⟩]; simp [jq]
     | cons c f=>rw [if_neg (fun e=>by cases e.2)]; simp [jq]
   · rw [if_neg h1,if_neg (fun e=>h1 e.1)]; rfl
 · generalize (aA a i).2=es
   induction es with
   | nil=>rfl
   | cons e es ih=>
     rw [pV,pV,uB,gK,ih,List.filter_map];congr 1;have :(jq f∘fun v=>e.1::v)=fun v=>(!mw f e.1 && jq (kz f e.1) v):=funext fun v=>IM f e.1 v;rw [this];cases mw f e.1
     · simp only [Bool.not_false,nX,Bool.false_eq_true,if_false];unfold iP;rw [rP];apply kJ;intro x _;simp
     · simp
theorem IJ {t f:List UInt8} {q:Nat} {es:List (UInt8×Int)} {e:UInt8×Int} (he:es[q]? =some e):dS a t f (es.take<|q+1)=dS a t f (es.take q)++if mw f e.1=true then [] else iP a (t++ [e.1]) e.2.toNat (kz f e.1):=by
 obtain ⟨A,rfl⟩:=cD.1 he;rw [uP A];unfold dS; rw [uC]; simp
theorem Ms {α:Type} {xs A:List α} {m:Nat} (h:(xs.take m).length=m):(xs++A).take m=xs.take m:=by
 rw [cO] at h;rw [FE ab]
theorem Mt {α:Type} {xs:List α} {m:Nat} (h:(xs.take m).length≠m):xs.take m=xs∧xs.length < m:=by
 rw [cO] at h;exact ⟨jI ab,ab⟩
theorem Cp (L:fK a l) {i:Nat} (hi:i < a.length) {c:UInt8} {m:Nat} :gT a i c=some m↔∃ e∈(aA a i).2,e.1=c∧e.2.toNat=m:=by
 have hr:=L.tC hi;unfold gT;constructor
 · intro h;split at h
   · rename_i C;cases h;refine ⟨_,List.getElem_mem C,?_,?_⟩
     · have h1:=List.findIdx_getElem (p:=fun e:UInt8×Int=>e.1==c) (w:=C);exact eq_of_beq h1
     · rw [bY,bC C]; rfl
   · cases h
 · rintro ⟨e,he,E,rfl⟩;obtain ⟨j,A,I⟩:=List.mem_iff_getElem.1 he;have h1:(aA a i).2[j]? =some e:=by rw [bC A,I]
   have J:dB c (aA a i).2=j:=wS h1 E fun k e' O M h=>by
    obtain ⟨V,U⟩:=cD.1 M;have :=oh.1 hr k j V A O;rw [U,I,h,E] at this;omega
   rw [J,if_pos A,bY,h1]; rfl
theorem yJ (A:fK a l):∀ (u:List UInt8) (i:Nat),i < a.length→(u∈eZ a i↔oN a (dV a i u).1=true)
 | [],i,hi=>by
   rw [A.eZ hi];show _↔(aA a i).1=true;constructor
   · intro h;rcases dH.1 h with h | h
     · split at h
       · assumption
       · cases h
     · obtain ⟨e,_,h⟩:=rQ.1 h;obtain ⟨v,_,h⟩:=jH.1 h;cases h
   · intro h;rw [if_pos h]; simp
 | c::u,i,hi=>by
   rw [A.eZ hi,sa];constructor
   · intro h;rcases dH.1 h with h | h
     · split at h <;> simp at h
     · obtain ⟨e,he,h⟩:=rQ.1 h;obtain ⟨v,C,h⟩:=jH.1 h;cases h;rw [(Cp A hi).2 ⟨e,he,rfl,rfl⟩];exact (yJ A u _ (A.oI hi he).2.1).1 C
   · intro h;cases hx:gT a i c with
     | none=>rw [hx] at h; cases h
     | some m=>
       rw [hx] at h;obtain ⟨e,he,rfl,rfl⟩:=(Cp A hi).1 hx;exact List.mem_append_right _<|rQ.2 ⟨e,he,jH.2 ⟨u,(yJ A u _ (A.oI hi he).2.1).2 h,U⟩⟩
theorem El (A:fK a l) (u:List UInt8):u∈eZ a 0↔fy a u=true :=by
 have h0:=A.pos;rw [u5 (fun e=>by rw [e] at h0; simp at h0),yJ A u 0 h0]; rfl
theorem NC (A:fK a l):∀ (r i:Nat) (u:List UInt8),i < a.length→l.idxOf i < r→u∈eZ a i→u.length≤l.idxOf i:=fun r=>by
 induction r with
 | zero=>intro i u _ h; omega
 | succ r ih=>
   intro i u hi hr hu;rw [A.eZ hi] at hu;rcases dH.1 hu with h | h
   · split at h
     · rw [List.mem_singleton.1 h]; exact fw _
     · cases h
   · obtain ⟨e,he,h⟩:=rQ.1 h;obtain ⟨v,E,rfl⟩:=jH.1 h;obtain ⟨_,C,I⟩:=A.oI hi he;have :=ih _ v C ab E;rw [dC]; omega
theorem NB (A:fK a l) {u:List UInt8} (hu:u∈eZ a 0):u.length≤1048576:=by
 have h1:=NC A (l.idxOf 0 +1) 0 u A.pos ab hu;have C:=A.rk A.pos;have :=A.le;omega
end
section
variable {l:List aJ} {least:Nat}
def gA (least:Nat) (L:List (List UInt8)):List (List UInt8):=L.filter fun p=>decide (least≤p.length)
theorem BX {least q:Nat} {L:List (List UInt8)} {p:List UInt8} (h:L[q]? =some p):gA least (L.take<|q+1)=gA least (L.take q)++if least≤p.length then [p] else []:=by
 obtain ⟨A,rfl⟩:=cD.1 h;unfold gA;rw [uP A,uB];congr 1;by_cases h:least≤L[q].length
 · rw [if_pos h]; simp [h]
 · rw [if_neg h]; simp [h]
theorem JM {least:Nat} {L:List (List UInt8)} {p:List UInt8} (h:p∈gA least L):p∈L∧least≤p.length:=by
 unfold gA at h;rw [List.mem_filter] at h;exact ⟨h.1,of_decide_eq_true h.2⟩
theorem BW (least:Nat) (L:List (List UInt8)):(gA least L).length≤L.length:=Fw _ _
theorem CI (A:l≠[]) {pre p post w:List UInt8} (hw:w=pre++p++post) (h1:0 < p.length) (C:least≤p.length) (ha:fy l p=true):aD l least w pre.length (pre.length+p.length)=true :=by
 refine CH.2 ⟨⟨ab,by rw [hw]; simp only [bG]; omega,ab⟩,?_⟩;have :bU w pre.length (pre.length+p.length)=p:=by
  unfold bU;rw [hw,List.append_assoc,List.drop_left,zi,List.take_left]
 rw [this,← u5 A]; exact ha
theorem CG {w p:List UInt8} {i k:Nat} (A:k≤w.length):aD l least (w++p) i k=aD l least w i k:=by
 unfold aD;by_cases hi:i < k
 · have :bU (w++p) i k=bU w i k:=by
    unfold bU;rw [List.drop_append_of_le_length ab,FE (by rw [iG]; omega)]
   rw [this];congr 1;exact decide_eq_decide.2<|by rw [bG]; omega
 · rw [decide_eq_false (fun h=>hi h.1),decide_eq_false (fun h=>hi h.1)]; rfl
theorem HZ {w p:List UInt8} (hp:0 < p.length):∀ k,k < w.length→eF (aD l least<|w++p) (w++p).length k=eF (aD l least w) w.length k:=fun k=>by
 induction k using Nat.strongRecOn with
 | ind k ih=>
   intro A;rcases qc k with rfl | h0
   · rw [qy,qy]
   · rw [mY h0 (by rw [bG]; omega),mY h0 ab];congr 1;refine kJ fun i hi=> ?_;rw [gL] at hi;unfold bd;rw [CG ab,ih i hi ab,decide_eq_false (show ¬k=(w++p).length by rw [bG]; omega),decide_eq_false (show ¬k=w.length by omega)]
theorem DF {β:Type} (f:β→Nat):∀ {L:List β} {x:β},x∈L→f x≤(L.map f).sum
 | y::L,x,h=>by
   rw [dG,kL];rcases ef.1 h with rfl | h
   · omega
   · have :=DF f h; omega
theorem sB {w p:List UInt8} (hp:0 < p.length) (hw:0 < w.length):eF (aD l least<|w++p) (w++p).length w.length=eF (aD l least w) w.length w.length+if aD l least w 0 w.length=true then 1 else 0:=by
 rw [mY hw (by rw [bG]; omega),mY hw (aQ _)];obtain ⟨m,hm⟩:∃ m,w.length=m+1:=⟨w.length - 1,ab⟩
 have E:¬w.length=(w++p).length:=by rw [bG]; omega
 have h1:∀ i,i < w.length→(if bd (aD l least<|w++p) (w++p).length i w.length=true then eF (aD l least<|w++p) (w++p).length i else 0)=if aD l least w i w.length=true then eF (aD l least w) w.length i else 0:=fun i hi=>by
  unfold bd;rw [CG (aQ _),HZ hp i hi,decide_eq_false E];simp
 have A:∀ i,i+1 < w.length→(if bd (aD l least w) w.length (i+1) w.length=true then eF (aD l least w) w.length (i+1) else 0)=if aD l least w (i+1) w.length=true then eF (aD l least w) w.length (i+1) else 0:=fun i hi=>by
  unfold bd;simp
 have C:(if bd (aD l least w) w.length 0 w.length=true then eF (aD l least w) w.length 0 else 0)=0:=by
  unfold bd;simp
 rw [kJ (fun i hi=>h1 i<|gL.1 hi)];generalize I:aD l least w=pc at*;rw [hm] at*;rw [List.range_succ_eq_map,dG,kL,rP,dG,kL,rP,C,qy,cz,qa];congr 2;refine kJ fun i hi=> ?_;rw [gL] at hi;exact (A i ab).symm
theorem Ku (J:l≠[]) (h1:1≤least) {w p:List UInt8} (hp:least≤p.length) (ha:fy l p=true) (hlen:w.length+p.length≤1024) (A:(dJ l least w).2=true) (ag:(dJ l least<|w++p).2=true):(dJ l least w).1 +(if fy l w=true∧least≤w.length then 1 else 0)≤(dJ l least<|w++p).1:=by
 rcases qc w.length with h0 | h0
 · obtain rfl :=jF h0;rw [if_neg (by rintro ⟨_,h⟩; simp only [ib] at h; omega)];have :dJ l least []=(0,true):=if_pos<|.inl rfl;rw [this]; exact fw _
 · have vq:∀ u:List UInt8,0 < u.length→u.length≤1024→(dJ l least u).2=true→(dJ l least u).1=eF (aD l least u) u.length u.length:=fun u hu ai A=>by
    have O:=MV (pc:=aD l least u) hu;have U:=Ed (pc:=aD l least u) (n:=u.length) u.length<|aQ _;unfold dJ at A ⊢;have ae:¬(u= []∨1024 < u.length):=fun h=>by
     rcases h with h | h
     · rw [h] at hu; simp at hu
     · omega
    rw [if_neg ae] at A ⊢;split at A
    · cases A
    · rename_i h;rw [if_neg h];show (jC _ _ 0).2=_;rw [O] at h ⊢;rw [U] at h ⊢;omega
   rw [vq w h0 ab A,vq (w++p) (by rw [bG]; omega) (by rw [bG]; omega) ag];have M:0 < p.length:=ab;have E:=sB (l:=l) (least:=least) M h0;have ah:eF (aD l least<|w++p) (w++p).length w.length≤eF (aD l least<|w++p) (w++p).length (w++p).length:=by
    rw [mY (k:=(w++p).length) (by rw [bG]; omega) (aQ _)];have I:=DF (fun i=>if bd (aD l least<|w++p) (w++p).length i (w++p).length=true then eF (aD l least<|w++p) (w++p).length i else 0) (L:=List.range (w++p).length) (x:=w.length)<|gL.2<|by rw [bG]; omega
    have Z:bd (aD l least<|w++p) (w++p).length w.length (w++p).length=true :=by
     unfold bd;have :=CI (least:=least) J (w:=w++p) (pre:=w) (p:=p) (post:= []) (by simp) M hp ha;rw [show (w++p).length=w.length+p.length from bG,this,decide_eq_false (show ¬w.length=0 by omega)]; rfl
    rw [if_pos Z] at I;exact I
   have V:(fy l w=true∧least≤w.length)→aD l least w 0 w.length=true :=fun ⟨ac,ad⟩=>by
    have :=CI (least:=least) J (w:=w) (pre:= []) (p:=w) (post:= []) (by simp) h0 ad ac;simpa using this
   by_cases C:fy l w=true∧least≤w.length
   · rw [if_pos C]; rw [if_pos (V C)] at E; omega
   · rw [if_neg C]; split at E <;> omega
theorem Hi (I:l≠[]) (J:∀ p,fy l p=true→least≤p.length→False) (w:List UInt8):dJ l least w=(0,true):=by
 have M:∀ i k,aD l least w i k=false :=fun i k=>by
  cases h:aD l least w i k with
  | false =>rfl
  | true =>
    obtain ⟨⟨h1,C,E⟩,h4⟩:=CH.1 h;exact (J (bU w i k) (by rw [u5 I]; exact h4)<|by rw [Hq C]; exact E).elim
 unfold dJ;split
 · rfl
 · rename_i h;have h0:0 < w.length:=by
    rcases qc w.length with h1 | h1
    · exact absurd (.inl<|jF h1) h
    · exact h1
   have e:(jC (aD l least w) w.length 0).2=0:=by
    rw [(Ee 0<|fw _).1,vK h0];have :((eL (0 +1)<|w.length - 0).map fun k=>if bd (aD l least w) w.length 0 k=true then eB (aD l least w) w.length k else 0)=(eL (0 +1)<|w.length - 0).map fun _=>0:=kJ fun k _=>by
     unfold bd; rw [M]; rfl
    rw [this];have A:∀ L:List Nat,(L.map fun _=>0).sum=0:=fun L=>by
     induction L with
     | nil=>rfl
     | cons x L ih=>rw [dG,kL,ih]
    rw [A]; rfl
   rw [if_neg (by rw [e]; exact Nat.not_lt_zero _),e]
end
end Go.Hb.uV
end
section
namespace Go.Hb.jJ
open Go.Hb.dO
open Go.Hb.fI Go.Hb.gO Go.Hb.cH
def fY (w:ah) (B k:Nat) (A:List (Bool×ag)) (l:List aJ):Prop :=A.length=l.length∧∀ (i:Nat) q e,A[i]? =some q→l[i]? =some e→q.1=e.1∧Tg w 0 84 e.2.length q.2 (fh e.2)∧(i < k→Tg w B 84 e.2.length q.2 (fh e.2))
theorem eN.q {w:ah} {B B':Nat} {C:List (Bool×ag)} {l:List aJ} (h:eN w B C l):fY w B' 0 C l:=⟨h.1,fun i q e A he=>⟨(h.2 i q e A he).1,(h.2 i q e A he).2.mono (fw _),fun hi=>by omega⟩⟩
theorem fY.p {w:ah} {B:Nat} {C:List (Bool×ag)} {l:List aJ} (h:fY w B l.length C l):eN w B C l:=⟨h.1,fun i q e A he=>⟨(h.2 i q e A he).1,(h.2 i q e A he).2.2 (cD.1 he).1⟩⟩
theorem fY.md {F:Nat→Prop} {w w':ah} {B k:Nat} {I:List (Bool×ag)} {l:List aJ} (h:fY w B k I l) (hm:Md F w w') (E:∀ k,F k→∀ cur z,w.heap[k]?≠some (.cells cur 84 z)):fY w' B k I l:=
 ⟨h.1,fun i q e C he=>⟨(h.2 i q e C he).1,Tg.lk (h.2 i q e C he).2.1 hm (fun k A _=>E k A),fun hi=>Tg.lk ((h.2 i q e C he).2.2 hi) hm fun k A _=>E k A⟩⟩
theorem fY.set {w:ah} {B k:Nat} {I:List (Bool×ag)} {l:List aJ} {f:Bool} {v:ag} {e:aJ} (h:fY w B k I l) (he:l[k]? =some e) (M:f=e.1) (E:Tg w B 84 e.2.length v (fh e.2)):fY w B (k+1) (I.set k (f,v)) l:=by
 refine ⟨by rw [iH,h.1],fun i q r A hr=> ?_⟩;have U:=h.1;have O:=(cD.1 hr).1;by_cases C:k=i
 · subst C;rw [he] at hr; cases hr;rw [Fs ab] at A; cases A;exact ⟨M,E.mono (fw _),fun _=>E⟩
 · rw [Fq C] at A;obtain ⟨h1,J,L⟩:=h.2 i q r A hr;exact ⟨h1,J,fun hi=>L ab⟩
theorem Dj:∀ (A:List (Bool×ag)) (k:Nat) (v:ag),k < A.length→(fD A).set (k*2 +1) v=fD (A.set k ((A.getD k (false,.nilFunc)).1,v))
 | [],k,v,h=>by simp at h
 | q::A,0,v,_=>by simp [fD]
 | q::A,k+1,v,h=>by
   have ih:=Dj A k v<|by simpa using h
   rw [zh,zb];show (bp q.1::q.2::fD A).set ((k+1)*2 +1) v= .bool q.1::q.2::fD _;rw [show (k+1)*2 +1=(k*2 +1)+1 +1 by omega,zh,zh,ih]
theorem LA {w:ah} {B:Nat} {C:List (Bool×ag)} {l:List aJ} (h:eN w B C l):(fD C).all fu=true :=by
 rw [List.all_eq_true];intro v A;obtain ⟨q,I,A⟩:=rQ.1 A;obtain ⟨i,hi⟩:=List.getElem?_of_mem I;have L:=(cD.1 hi).1;have M:=h.1;have he:l[i]? =some (l[i]'ab):=bC ab;obtain ⟨_,E⟩:=h.2 i _ _ hi he;obtain ⟨a,c,J⟩:=E.slice;simp only [ef,List.not_mem_nil,or_false] at A;rcases A with rfl | rfl
 · rfl
 · rw [J]; rfl
theorem H5 (es:List (UInt8×Int)):(fh es).all fu=true :=Bg (fun _=>rfl) es
theorem Lc (l:List (List UInt8×List UInt8)):(l.flatMap eu).all fu=true :=Bg (fun _=>rfl) l
theorem CZ (l:List (List UInt8×List UInt8)):(l.flatMap eu).length=l.length*2:=sL (m:=2) (fun _=>rfl) l
theorem zX {h:Array Obj} {a:Option bL} {n m:Nat} {xs:List ag} (C:a9 h a xs) (A:xs.length=n*m) (hm:0 < m) (ha:a=none):n=0:=by
 rcases qc n with h0 | h0
 · exact h0
 · exfalso;have E:xs≠[]:=fun e=>by
    rw [e] at A;have :0 < n*m:=Nat.mul_pos h0 hm;simp only [ib] at A; omega
   have :=a9.ok C E;rw [ha] at this; cases this
theorem wz {x y z:ag} {ws:List ag} {i:Nat} (hi:i < ws.length):([x,y,z]++ws).toArray[0 +3 +((i:Nat):Int).toNat*1]? =some (ws.getD i .nilFunc):=by
 rw [List.getElem?_toArray,show 0 +3 +((i:Nat):Int).toNat*1=i+1 +1 +1 from by omega,bY,bC hi];show ws[i]? =_;rw [bC hi]; rfl
theorem Mc {l:List aJ} {n:Nat} (h:n < l.length):l[n]? =some (aA l n):=by
 unfold aA;rw [bY,bC h]; rfl
theorem four {α:Type} {l:List α} (h:l.length=4):∃ a b c d,l= [a,b,c,d]:=by
 match l,h with
 | [a,b,c,d],_=>exact ⟨a,b,c,d,rfl⟩
theorem Tg.parts {w:ah} {B e n m:Nat} {v:ag} {xs:List ag} (h:Tg w B e n v xs) (C:xs.length=n*m) (hm:0 < m):∃ a c,v= .slice a n c∧a9 w.heap a xs∧(a=none→n=0):=by
 obtain ⟨a,c,rfl⟩:=h.slice;obtain ⟨_,A⟩:=h.qq;exact ⟨a,c,U,A,zX A C hm⟩
theorem G9 (a:Option bL) (n c:Nat) (xs:List ag) (w:ah) (J:a9 w.heap a xs) (ac:xs.length=n*2) (ha:a=none→n=0) (h1:xs.all fu=true) (hn:n≤1048576):
 bg aq 26 (bl [.slice a n c]) w (fun v w'=>bj w' w.heap.size 77 2 v n xs∧Wk w w'):=by
 refine enter func26 U ntmps26 U<|aU 9 U<|p (vQ Mx U U)<|aK 2 U<|cb U (fun C=> ?_) fun C=> ?_;have O:a=none:=by simpa using C
 refine aG 7 U<|aO U ?_;have V:=ha O;subst V;obtain rfl :=jF (show xs.length=0 by omega);exact ⟨fv _ _ _ _,Md.refl _ _⟩;refine aI 4 U<|e<|se tT fun ak ar al A I=> ?_;have E:=I w.heap.size ab;refine aj 1 U<|e<|ap tT (E) U (by have :=A.size; omega) U (J.wk A.md) (ac) (h1) ab ab fun ae ai Z M ao am=> ?_;have L:=Wk.own A.md E M<|aQ _;refine p aR<|ay 3 U<|aO U ?_;have ad:bj ai w.heap.size 77 2 ae n xs:=by simpa using Z
 exact ⟨ad,L⟩
theorem Ha (a:Option bL) (n c:Nat) (xs:List ag) (w:ah) (J:a9 w.heap a xs) (ac:xs.length=n*2) (ha:a=none→n=0) (h1:xs.all fu=true) (hn:n≤1048576):
 bg aq 27 (bl [.slice a n c]) w (fun v w'=>bj w' w.heap.size 81 2 v n xs∧Wk w w'):=by
 refine enter func27 U ntmps27 U<|aU 9 U<|p (vQ My U U)<|aK 2 U<|cb U (fun C=> ?_) fun C=> ?_;have O:a=none:=by simpa using C
 refine aG 7 U<|aO U ?_;have V:=ha O;subst V;obtain rfl :=jF (show xs.length=0 by omega);exact ⟨fv _ _ _ _,Md.refl _ _⟩;refine aI 4 U<|e<|se tU fun ak ar al A I=> ?_;have E:=I w.heap.size ab;refine aj 1 U<|e<|ap tU (E) U (by have :=A.size; omega) U (J.wk A.md) (ac) (h1) ab ab fun ae ai Z M ao am=> ?_;have L:=Wk.own A.md E M<|aQ _;refine p aR<|ay 3 U<|aO U ?_;have ad:bj ai w.heap.size 81 2 ae n xs:=by simpa using Z
 exact ⟨ad,L⟩
theorem G8 (a:Option bL) (n c:Nat) (xs:List ag) (w:ah) (J:a9 w.heap a xs) (ac:xs.length=n*2) (ha:a=none→n=0) (h1:xs.all fu=true) (hn:n≤1048576):
 bg aq 28 (bl [.slice a n c]) w (fun v w'=>bj w' w.heap.size 84 2 v n xs∧Wk w w'):=by
 refine enter func28 U ntmps28 U<|aU 9 U<|p (vQ Mz U U)<|aK 2 U<|cb U (fun C=> ?_) fun C=> ?_;have O:a=none:=by simpa using C
 refine aG 7 U<|aO U ?_;have V:=ha O;subst V;obtain rfl :=jF (show xs.length=0 by omega);exact ⟨fv _ _ _ _,Md.refl _ _⟩;refine aI 4 U<|e<|se tW fun ak ar al A I=> ?_;have E:=I w.heap.size ab;refine aj 1 U<|e<|ap tW (E) U (by have :=A.size; omega) U (J.wk A.md) (ac) (h1) ab ab fun ae ai Z M ao am=> ?_;have L:=Wk.own A.md E M<|aQ _;refine p aR<|ay 3 U<|aO U ?_;have ad:bj ai w.heap.size 84 2 ae n xs:=by simpa using Z
 exact ⟨ad,L⟩
theorem zO (B aM:Nat) (b:dm) (s:List UInt8) (w:ah) (ci:cH w B aM b s) (aD:b.Is s):
 bg aq 16 (bl [aT aM]) w (fun v w'=> ∃ cs,v= .agg cs.toArray∧lU w' w.heap.size cs b∧Wk w w'):=by
 obtain ⟨cs,b6,⟨bv,rc,vs,rfl,c3,bI,aC⟩,hBk⟩:=ci;obtain ⟨aR,aS,aV,aW,rfl⟩:=four c3;have cP:aR.oneCell'=true :=by obtain ⟨a,c,h,_⟩:=(aC 0 ab).eK; rw [show aR=_ from h]; rfl
 have cQ:aS.oneCell'=true :=by obtain ⟨a,c,h,_⟩:=(aC 1 ab).eK; rw [show aS=_ from h]; rfl
 have cR:aV.oneCell'=true :=by obtain ⟨a,c,h,_⟩:=(aC 2 ab).eK; rw [show aV=_ from h]; rfl
 have cS:aW.oneCell'=true :=by obtain ⟨a,c,h,_⟩:=(aC 3 ab).eK; rw [show aW=_ from h]; rfl
 have cX:bv=none→b.db.length=0:=zX bI (CZ _) aF;refine enter func16 U ntmps16 U<|aU 2 U<|e<|du pL fun aY c8 c9 bc b9=> ?_;have dh:=bc.size;refine aj 6 U<|p (ix mA U U)<|aK 2 U<|cf (U)<|aI 7 U<|p (eU kO U (U) (show ∀ j,j < 7→ax c8.heap aM (0 +j)=([aB (b.least),str b.tr,.slice bv b.db.length rc,aR,aS,aV,aW]:List ag)[j]? from fun j am=>by rw [cz,(Wk.B bc.md b6).ax]; exact fF<|by simpa using am)) ?_;refine e<|du pL fun E dy da bd ce=> ?_;have dl:=bd.size;refine e<|eb lZ U U U (by simp only [pU,uz,cP,cQ,cR,cS]; rfl) ce aF fun b1 bb bF=> ?_;have bK:Wk w b1:=(bc.md.trans bd.md).trans' bb fun k A h=>by omega
 have dp:=bb.size;have ca:=bb.ak (Wk.ak bd.md b9) fun h=>by omega
 refine aj 5 U<|p (aw U<|(bt bF).trans U)<|e<|aX (G9 bv b.db.length rc (b.db.flatMap eu) b1 (bI.wk bK) (CZ _) cX (Lc _)<|by have :=aD.Ko; omega) U ?_;rintro dv a6 ⟨bo,a0⟩;obtain ⟨J,M,rfl⟩:=di bo;have de:=a0.size;have cB:=Wk.ak a0 bF;have cb:=Wk.ak a0 ca;refine aj 1 U<|e<|cU Aa U U (v:= .slice J b.db.length M) U cB (by simp) fun b2 a2 cg=> ?_;have dr:=a2.size;have cn:Wk w b2:=(bK.trans a0).trans' a2 fun k A h=>by omega
 have cV:bj b2 w.heap.size 77 2 (.slice J b.db.length M) b.db.length (b.db.flatMap eu):=bR (mr bo ab) a2 fun k A h=>by have :=(cE bo A).1; omega
 have cc:=a2.ak cb fun h=>by omega
 refine aK 9 U<|lp (fun ap b3 C=> ∃ (i:Nat) (ws:List ag),(i≤4)∧(ws.length=4)∧(C.heap[E]? =some (.cells ([aB (b.least),str b.tr,.slice J b.db.length M]++ws).toArray 44 (0,0)))∧(C.heap[aY]? =some (.cells [.int .i64 0,str [],.slice none 0 0,.slice none 0 0,.slice none 0 0,.slice none 0 0,.slice none 0 0].toArray 44 (0,0)))∧(bj C w.heap.size 77 2 (.slice J b.db.length M) b.db.length<|b.db.flatMap eu)∧(∀ j,j < i→fc C w.heap.size (ws.getD j .nilFunc) (b.au.getD j []))∧(∀ j,i≤j→j < 4→ws.getD j .nilFunc= [aR,aS,aV,aW].getD j .nilFunc)∧(Wk w C)∧(E < C.heap.size)∧(Sl b3 [(0,aT aM),(2,aT aY),(3,aT E),(17,aB i)])∧(4 - i=ap)) _ ⟨0,[aR,aS,aV,aW],ab,U,cg,cc,cV,(fun j am=>by omega),(fun j _ _=>rfl),cn,ab,U,U⟩ ?_;rintro ap b3 C ⟨i,ws,hi,bu,aJ,aZ,a4,ao,hold,av,dt,cY,rfl⟩;refine bJ cY<|bX 6 U<|cd U (fun cC=> ?_) fun cC=> ?_;refine bS 11 U ?_;obtain ⟨aO,cv,aH⟩:=(aC i ab).wk av;obtain ⟨bx,bA,c1,cj,cL⟩:=Tg.parts (w:=C) (B:=B) (e:=81) (n:=(b.au.getD i []).length) (xs:=fD aO) cv (m:=2) (by rw [Di,aH.1]) aF;have cK:(b.au.getD i []).length≤1048576:=(aD.au _<|j1<|by rw [aD.qV]; omega).2.1;have cF:ax C.heap E (0 +3 +((i:Nat):Int).toNat*1)=some (.slice bx (b.au.getD i []).length bA):=by rw [bt aJ,wz ab,hold i (aQ _) ab,c1]
 refine aI 4 U<|p (jr lX U U ab)<|p (aw U<|cF)<|e<|aX (Ha bx (b.au.getD i []).length bA (fD aO) C cj (by rw [Di,aH.1]) cL (LA aH) cK) U ?_;rintro dw dx ⟨bq,a1⟩;obtain ⟨L,V,rfl⟩:=di bq;have dj:=a1.size;have bL:=Wk.ak a1 aJ;refine aj 1 U<|p (jr lX U U ab)<|e<|cU Ab U U (v:= .slice L (b.au.getD i []).length V) U bL (by simp only [bG,dC,ib,bu]; omega) fun aP a3 ch=> ?_;have ds:=a3.size;have bM:aP.heap[E]? =some (.cells ([aB (b.least),str b.tr,.slice J b.db.length M]++ws.set i (.slice L (b.au.getD i []).length V)).toArray 44 (0,0)):=by rw [← x7]; exact ch
 have cT:bj aP C.heap.size 81 2 (.slice L (b.au.getD i []).length V) (b.au.getD i []).length (fD aO):=bR bq a3 fun k A h=>by have :=(cE bq A).1; omega
 have cq:Md (fun k=>k=E) C aP:=(a1.mono fun _ _ h=>h.elim).trans a3;have cI:ax aP.heap E (0 +3 +((i:Nat):Int).toNat*1)=some (.slice L (b.au.getD i []).length V):=by rw [bt bM,wz (by rw [iH]; omega),oQ ab]
 have cu:fY aP w.heap.size 0 aO (b.au.getD i []):=fY.md (eN.q<|eN.wk aH a1) a3 fun k A cur z h=>by subst A; rw [bL] at h; cases h
 refine aj 6 U<|p (jr lX U U ab)<|p (aw U<|cI)<|aK 5 U<|lp (fun ap b4 I=> ∃ (k:Nat) (us:List (Bool×ag)),(k≤(b.au.getD i []).length)∧(us.length=(b.au.getD i []).length)∧(bj I C.heap.size 81 2 (.slice L (b.au.getD i []).length V) (b.au.getD i []).length<|fD us)∧(fY I w.heap.size k us<|b.au.getD i [])∧(I.heap[E]? =some (.cells ([aB (b.least),str b.tr,.slice J b.db.length M]++ws.set i (.slice L (b.au.getD i []).length V)).toArray 44 (0,0)))∧(Md (fun k=>k=E) C I)∧(Sl b4 [(0,aT aM),(2,aT aY),(3,aT E),(4,aB i),(17,aB i),(32,aB ((b.au.getD i []).length)),(33,aB k)])∧((b.au.getD i []).length - k=ap)) _ ⟨0,aO,ab,aH.1,cT,cu,bM,cq,U,U⟩ ?_;rintro ap b4 I ⟨k,us,A,c0,aL,bf,bm,al,cZ,rfl⟩;refine bJ cZ<|bX 6 U<|cd U (fun cD=> ?_) fun cD=> ?_;refine bS 10 U ?_;have bO:ax I.heap E (0 +3 +((i:Nat):Int).toNat*1)=some (.slice L (b.au.getD i []).length V):=by rw [bt bm,wz (by rw [iH]; omega),oQ ab]
 have bH:=(cw aL).2;obtain ⟨q,br⟩:∃ q,us[k]? =some q:=⟨_,bC ab⟩
 have bn:(b.au.getD i [])[k]? =some (aA (b.au.getD i []) k):=Mc ab;have bU:=a9.ok bH<|oM (f:=fun q:Bool×ag=> [bp q.1,q.2]) (m:=2) (fun _=>rfl) aF ab;obtain ⟨cW,bV,_⟩:=bf.2 k q _ br bn;generalize bN:(aA (b.au.getD i []) k).2=es at bV;obtain ⟨bz,bB,c2,ck,cM⟩:=Tg.parts (w:=I) (B:=0) (e:=84) (n:=es.length) (xs:=fh es) bV (m:=2) (AH _) aF;have dc:es.length≤256:=by rw [← bN]; exact (aD.au _<|j1<|by rw [aD.qV]; omega).2.2 _ (kK bn) |>.1
 have cJ:ax I.heap (bk L) (fo L+k*2 +1)=some (.slice bz es.length bB):=by
  rw [l8 (f:=fun q:Bool×ag=> [bp q.1,q.2]) (m:=2) (fun _=>rfl) bH br 1 ab,← c2]; rfl
 refine ta 16 fun O=>dK [0,1] U O<|iR 2 U (jr lX U U ab) O<|j9 3 U O (bO)<|dK [4,5,6] U O<|iR 7 U (jr lX U U ab) O<|j9 8 U O (bO)<|dK [9] U O<|iR 10 U (bE jX U U ab<|bU) O<|dK [11] U O<|j9 12 U O (cJ)<|et 13 U ai<|aX (G8 bz es.length bB (fh es) I.drew (ck.wk (Md.refl _ _).drew) (AH _) cM (H5 _) ab) U ?_;rintro a5 bw ⟨bQ,ar⟩;have dq:=ar.size;have bi:(fun w'=>Wk I w') bw:=O.trans ar;refine ⟨bi,?_⟩;refine et 14 U ai<|hO (bE jX U U ab<|bU) ⟨bi,?_⟩;refine et 15 U ai<|hO (fa IE U) ⟨bi,?_⟩;refine js 16 U ai ai<|pD (j:=k*2 +1) (u:=a5) (bh aL<|Md.dg ar) Ae U U (xH bQ) (by rw [rN]; omega) ab fun b0 aE bP=> ?_;have dd:=aE.size;have bZ:∀ k,(cG L (b.au.getD i []).length V).ownBlock=some k→C.heap.size≤k:=fun k h=>(cE aL h).1;have a7:Wk I bw:=Md.dg ar;have cr:Md (fun k=>k=E) C b0:=(al.trans<|a7.mono fun _ _ h=>h.elim).trans' aE fun k A h=>by have :=bZ k h; omega
 have cx:Tg bw w.heap.size 84 es.length a5 (fh es):=(Tg.oX bQ).mono<|by have :=av.size; have :=al.size; show w.heap.size≤I.heap.size; omega
 have bW:=gV (e':=84) (bh aL a7) aF;have ct:fY b0 w.heap.size (k+1) (us.set k (q.1,a5)) (b.au.getD i []):=fY.set (fY.md (fY.md bf a7 fun _ h=>h.elim) aE bW) bn cW<|by rw [bN]; exact Tg.lk cx aE fun k A _=>bW k A
 exact jt ai<|ba 6 U<|tn<|⟨_,ab,k+1,us.set k (q.1,a5),ab,(by rw [iH]; exact c0),(by rw [Dj _ _ _ ab,show us.getD k (false,.nilFunc)=q from by rw [bY,br]; rfl] at bP; exact bP),ct,(aE.ak (Wk.ak ar bm) fun h=>by have :=bZ E h; omega),cr,U,U⟩
 refine aG 2 U<|cy<|dn 3 U ?_;obtain rfl :k=(b.au.getD i []).length:=ab;have co:Wk w I:=av.trans' al fun k A h=>by omega
 have cO:∀ j,j < i+1→fc I w.heap.size ((ws.set i<|.slice L (b.au.getD i []).length V).getD j .nilFunc) (b.au.getD j []):=fun j am=>by
  by_cases h:j=i;subst h;rw [oQ ab];refine ⟨us,?_,fY.p bf⟩;have :=Tg.oX<|mr aL (show w.heap.size≤C.heap.size from av.size);exact this;rw [qI ab];exact (ao j ab).md al fun k A hb cur z=>by subst A; rw [aJ]; exact ⟨by simp,by simp⟩
 exact aG 4 U<|tn<|⟨_,ab,i+1,ws.set i (.slice L (b.au.getD i []).length V),ab,(by rw [iH]; exact bu),bm,(al.ak aZ fun h=>by omega),(bR a4 al fun k A h=>gV a4 aF k A _ _<|h ▸ aJ),cO,(fun j h1 b5=>by rw [qI ab]; exact hold j ab b5),co,(by have :=al.size; omega),U,U⟩
 refine aG 2 U<|cy<|dn 3 U ?_;obtain rfl :i=4:=ab;obtain ⟨Z,ac,ad,ae,rfl⟩:=four bu;have c4:Z.oneCell'=true :=by obtain ⟨a,c,h,_⟩:=(ao 0 ab).eK; rw [show Z=_ from h]; rfl
 have c5:ac.oneCell'=true :=by obtain ⟨a,c,h,_⟩:=(ao 1 ab).eK; rw [show ac=_ from h]; rfl
 have c6:ad.oneCell'=true :=by obtain ⟨a,c,h,_⟩:=(ao 2 ab).eK; rw [show ad=_ from h]; rfl
 have c7:ae.oneCell'=true :=by obtain ⟨a,c,h,_⟩:=(ao 3 ab).eK; rw [show ae=_ from h]; rfl
 refine aI 1 U<|p (eU kO U (U) (show ∀ j,j < 7→ax C.heap E (0 +j)=([aB (b.least),str b.tr,.slice J b.db.length M,Z,ac,ad,ae]:List ag)[j]? from fun j am=>by rw [cz,bt aJ]; simp))<|e<|eb lZ U U U (by simp only [pU,uz,c4,c5,c6,c7]; rfl) aZ aF fun a6 a8 b7=> ?_;have cm:Wk w a6:=av.trans' a8 fun k A h=>by omega
 have cp:lU a6 w.heap.size [aB (b.least),str b.tr,.slice J b.db.length M,Z,ac,ad,ae] b:=⟨J,M,[Z,ac,ad,ae],rfl,rfl,(cw<|bR a4 a8 fun k A h=>gV a4 aF k A _ _<|h ▸ aZ).2,fun j am=>(ao j am).md a8 fun k A hb cur z=>by subst A; rw [aZ]; exact ⟨by simp,by simp⟩⟩
 have b8:az a6.heap aY [aB (b.least),str b.tr,.slice J b.db.length M,Z,ac,ad,ae]:=⟨_,b7⟩
 exact ay 3 U<|qF U (iz (cs:= [aB (b.least),str b.tr,.slice J b.db.length M,Z,ac,ad,ae]) U kO U fun j am=>b8.aN j)<|⟨[aB (b.least),str b.tr,.slice J b.db.length M,Z,ac,ad,ae],U,cp,cm⟩
end Go.Hb.jJ
end
section
namespace Go.Hb
open Go.Hb.dO
open Go.Hb.cH Go.Hb.jJ Go.Hb.fI Go.Hb.gO
theorem KZ {es:List (UInt8×Int)} (hr:dP es) {m k:Nat} {d e:UInt8×Int} {x:Nat} (C:es[m]? =some d) (h:d.1.toNat < x) (I:k≤m) (he:es[k]? =some e):e.1.toNat < x:=by
 obtain ⟨h1,rfl⟩:=cD.1 C;obtain ⟨A,rfl⟩:=cD.1 he;by_cases E:k=m
 · subst E; exact h
 · have :=oh.1 hr k m A h1 ab;omega
theorem KY {es:List (UInt8×Int)} (hr:dP es) {m k:Nat} {d e:UInt8×Int} {x:Nat} (C:es[m]? =some d) (h:x≤d.1.toNat) (I:m≤k) (he:es[k]? =some e):x≤e.1.toNat:=by
 obtain ⟨h1,rfl⟩:=cD.1 C;obtain ⟨A,rfl⟩:=cD.1 he;by_cases E:m=k
 · subst E; exact h
 · have :=oh.1 hr m k h1 A ab;omega
theorem AQ {l:List aJ} {least:Nat} {x:List UInt8} {i k:Nat} :(jo l least x i k).length≤k - i:=by
 unfold jo;exact cn (Fw _ _)<|by rw [List.length_range']; exact aQ _
theorem CF (A:UInt8×Int) (c:UInt8) (w:ah):
 bg aq 86 (bl [.agg #[.int .u8 A.1.toNat,.int .i64 A.2],.int .u8 c.toNat]) w (fun v w'=>v= .int .i64 ((A.1.toNat:Int) - (c.toNat:Int))∧Wk w w'):=by
 have L:=kM A.1;have I:=kM c;exact enter func86 U ntmps86 U<|aU 2 U<|e<|mS U fun J M I E C=>aj 6 U<|p (aw U<|C.aN 0)<|p (fL u3 ru U<|hJ ab)<|aj 1 U<|p (fL u3 ru U<|hJ ab)<|ay 5 U<|aO U<|⟨U,E.md⟩
theorem GC (a:Option bL) (c:Nat) (es:List (UInt8×Int)) (x:UInt8) (w:ah) (J:kN w.heap a es) (hr:dP es) (ax:es.length≤256):
 bg aq 85 (bl [.slice a es.length c,.int .u8 x.toNat,.func (.func 86) #[] #[]]) w (fun v w'=>(∃ r:Nat,v= .tuple #[aB r,.bool (decide (dB x es < es.length))]∧(dB x es < es.length→r=dB x es))∧Wk w w'):=by
 refine enter func85 U ntmps85 U<|bX 22 U<|lp (fun O ak M=> ∃ (i j:Nat),(i≤j)∧(j≤es.length)∧(∀ (k:Nat) e,k < i→es[k]? =some e→e.1.toNat < x.toNat)∧(∀ (k:Nat) e,j≤k→es[k]? =some e→x.toNat≤e.1.toNat)∧(Wk w M)∧(Sl ak [(0,.slice a es.length c),(1,.int .u8 x.toNat),(2,.func (.func 86) #[] #[]),(8,aB (es.length)),(9,aB i),(10,aB j)])∧(j - i=O)) _ ⟨0,es.length,ab,ab,(fun k e h=>by omega),(fun k e h he=>by have :=(cD.1 he).1; omega),(Md.refl _ _),U,U⟩ ?_;rintro O ak M ⟨i,j,av,aw,ae,Z,C,au,rfl⟩;refine bJ au<|bX 8 U<|cd U (fun am=> ?_) fun am=> ?_;refine aI 7 U<|p (cg<|i+j)<|p (fL Mw ub U<|gG ab)<|p (shr U U aF<|LI<|i+j)<|p (fL u3 MH U<|hJ ab)<|aK 4 U ?_;obtain ⟨A,E⟩:∃ d,es[(i+j) / 2]? =some d:=⟨_,bC ab⟩
 refine aI 4 U<|p (bE l7 U U ab<|J.ok ab)<|p (eU qk U (U)<|(J.wk C).two E)<|aj 1 U<|e<|vp eH U (CF A x M) U ?_;rintro v30 aA ⟨rfl,V⟩;refine aK 3 U<|cd U (fun ao=> ?_) fun ao=> ?_;exact aI 2 U<|p (cg<|(i+j) / 2 +1)<|ay 3 U<|tn<|⟨_,ab,(i+j) / 2 +1,j,ab,ab,(fun k e ad he=>KZ hr E ab ab he),Z,(C.trans V),U,U⟩
 exact aG 5 U<|tn<|⟨_,ab,i,(i+j) / 2,ab,ab,ae,(fun k e ad he=>KY hr E ab ad he),(C.trans V),U,U⟩
 refine aG 2 U<|cy<|dn 3 U ?_;obtain rfl :i=j:=ab;have L:=Jd hr ae Z;refine aI 6 U<|gs (t:=39) U (fun ar=> ?_) fun ar=> ?_;obtain ⟨A,E⟩:∃ d,es[i]? =some d:=⟨_,bC ab⟩
 refine aj 3 U<|bO U (bE l7 U U ab<|J.ok ab)<|bO U (eU qk U (U)<|(J.wk C).two E)<|aj 1 U<|eg U U U<|vp eH U (CF A x M) U ?_;rintro az aC ⟨rfl,al⟩;refine ay 7 U<|f2 U U U ?_;have ap:es.getD i (0,0)=A:=by rw [bY,E]; rfl
 rw [ap] at L;have ac:i < es.length:=ab;have ai:A.1=x→dB x es=i:=fun h=>L.1 ⟨ac,h⟩;have ag:A.1≠x→dB x es=es.length:=fun h=>L.2 fun I=>h I.2;have hb:decide ((A.1.toNat:Int) - (x.toNat:Int)=0)=decide (dB x es < es.length):=by
  by_cases h:A.1=x;rw [ai h,decide_eq_true ac,h]; exact decide_eq_true ab;rw [ag h,decide_eq_false (FJ _)];exact decide_eq_false fun e=>h<|oo.1 ab
 refine ⟨⟨i,by rw [← hb]; rfl,fun h=> ?_⟩,C.trans al⟩;by_cases I:A.1=x;exact (ai I).symm;rw [ag I] at h; omega;refine aj 10 U<|p aR<|ay 3 U<|f2 U U U ?_;have hn:dB x es=es.length:=L.2 fun h=>by omega
 exact ⟨⟨i,by rw [hn,decide_eq_false (FJ _)]; rfl,fun h=>by omega⟩,C⟩
theorem KJ (a:Option bL) (c:Nat) (l:List aJ) (x:List UInt8) (i least:Nat) (w:ah) (az:ej w.heap a l) (aT:ij l) (h0:0 < l.length) (hr:∀ n,n < l.length→dP (aA l n).2) (bo:x.length≤1024) (hi:i≤x.length) (hle:least≤64):
 bg aq 46 (bl [.slice a l.length c,str x,aB i,aB least]) w (fun v w'=>bj w' w.heap.size 3 1 v (jE (aD l least x) x.length i).length ((jE (aD l least x) x.length i).map nv)∧Wk w w'):=by
 refine enter func46 U ntmps46 U<|bX 23 U<|lp (fun av aL M=> ∃ (k q:Nat) (C:ag),(i≤k)∧(k≤x.length)∧(gR l (bU x i k)=some q)∧(q < l.length)∧(bj M w.heap.size 3 1 C (jo l least x i k).length<|(jo l least x i k).map nv)∧(ej M.heap a l)∧(Wk w M)∧(Sl aL [(0,.slice a l.length c),(1,str x),(2,aB i),(3,aB least),(9,C),(10,aB q),(11,aB k)])∧(x.length - k=av)) _ ⟨i,0,.slice none 0 0,ab,hi,(by rw [Hr]; rfl),h0,(by rw [H8]; exact fv _ _ _ _),az,(Md.refl _ _),U,U⟩ ?_;rintro av aL M ⟨k,q,C,O,bn,aE,au,I,E,J,a5,rfl⟩;refine bJ a5<|bX 9 U<|cd U (fun aW=> ?_) fun aW=> ?_;refine bS 5 U ?_;obtain ⟨aN,aP,aC,ae⟩:=E.two au;obtain ⟨a2,a3⟩:=aT.st au;refine eT fun L=>aH [0,1] U L<|cZ 2 U (bE jX U U ab<|E.ok ab) L<|aH [3] U L<|cM 4 U L (aC 1 ab)<|aH [5,6] U L<|cZ 7 U (fN u9 U U ab) L<|he 8 U ai<|aX (GC aN aP (aA l q).2 (x.getD k 0) M.drew ae (hr q au) a2) U ?_;rintro v30 ba ⟨⟨br,rfl,a4⟩,A⟩;have A:=Md.dg A;have al:(fun w'=>Wk M w') ba:=A;refine ⟨al,?_⟩;refine cZ 9 U (mv) al<|aH [10,11,12,13] U al<|hn ai<|dn 8 U<|cb U (fun am=> ?_) fun am=> ?_;have V:¬dB (x.getD k 0) (aA l q).2 < (aA l q).2.length:=by simpa using am
 refine aG 4 U<|cy<|gy 4 U<|tz (C)<|p (zK (C) U)<|ay 3 U<|aO U ?_;have hn:gR l (bU x i<|k+1)=none:=by
  rw [Bx O ab,aE];show gT l q (x.getD k 0)=none;unfold gT;rw [if_neg V]
 rw [AN O ab (.inr hn)] at I;exact ⟨bh I A,J.trans A⟩;have V:dB (x.getD k 0) (aA l q).2 < (aA l q).2.length:=by simpa using am
 obtain rfl :=a4 V;refine bS 3 U ?_;obtain ⟨⟨aM,z⟩,he⟩:∃ e,(aA l q).2[dB (x.getD k 0) (aA l q).2]? =some e:=⟨_,bC V⟩
 obtain ⟨a6,a7⟩:=a3 _ _ he;obtain ⟨m,rfl⟩:∃ m:Nat,z=(m:Int):=⟨z.toNat,by simp only at a6; omega⟩
 simp only at a7;have ad:m < l.length:=ab;obtain ⟨bd,bf,aV,_⟩:=E.two ad;have ac:gR l (bU x i<|k+1)=some m:=by
  rw [Bx ab ab,aE];show gT l q (x.getD k 0)=_;unfold gT;rw [if_pos V,bY,he]; rfl
 have ar:=KH (least:=least) O ab ac;have ao:=AP (l:=l) (least:=least) (w:=x) O;refine aI 3 U<|p (bE jX U U ab<|E.ok ab)<|aj 1 U<|p (aw U<|(mz A aC) 1 ab)<|aj 1 U<|p (bE l7 U U ab<|ae.ok ab)<|aj 1 U<|p (aw U (show _=some (aZ .i64 ((m:Nat):Int)) from (ae.wk A).to _ (aM,_) he))<|aj 7 U<|p (bE jX U U ab<|E.ok ab)<|aj 1 U<|p (aw U<|(mz A aV) 0 ab)<|aj 1 U<|gb (t:=49) U (fun Z=> ?_) fun Z=> ?_;refine aj 1 U<|bO U (cg<|k+1)<|aj 1 U<|bO U (pn<|k+1 - i)<|aK 5 U<|cd U (fun aY=> ?_) fun aY=> ?_;refine aI 1 U<|tz (C)<|aj 1 U<|p (cg<|k+1)<|e<|jO tV U U fun bc bt bi ak aS=> ?_;have bp:=ak.size;have aF:=bh (bh I A) ak.md;refine e<|ap tV (aF) U (by have :=J.size; have :=A.size; omega) U (a9.fQ aS) (U) (U) (by have :=AQ (l:=l) (least:=least) (x:=x) (i:=i) (k:=k); omega) (by have :=AQ (l:=l) (least:=least) (x:=x) (i:=i) (k:=k); omega) fun a8 bb a1 aU bq bm=> ?_;have ax:Wk w bb:=Wk.own ((J.trans A).trans ak.md) aF aU<|aQ _;exact p aR<|aj 5 U<|p (cg<|k+1)<|ay 2 U<|tn<|⟨_,ab,k+1,m,a8,ab,ab,ac,ad,(by rw [ao,if_pos (show aD l least x i (k+1)=true from by rw [ar,Z,nX]; exact decide_eq_true ab),bG,gK]; exact a1),(az.wk ax),ax,U,U⟩
 exact aI 5 U<|p (cg<|k+1)<|ay 2 U<|tn<|⟨_,ab,k+1,m,C,ab,ab,ac,ad,(by rw [ao,if_neg (show ¬aD l least x i (k+1)=true from by rw [ar,Z,nX]; exact fun h=>absurd (of_decide_eq_true h) ab),jD]; exact bh I A),(E.wk A),(J.trans A),U,U⟩
 exact aj 15 U<|p (cg<|k+1)<|ay 2 U<|tn<|⟨_,ab,k+1,m,C,ab,ab,ac,ad,(by rw [ao,if_neg (show ¬aD l least x i (k+1)=true from by rw [ar,Z,Bool.false_and]; exact cJ),jD]; exact bh I A),(E.wk A),(J.trans A),U,U⟩
 refine aG 2 U<|cy<|gy 4 U<|tz (C)<|p (zK (C) U)<|ay 3 U<|aO U ?_;have a0:k=x.length:=ab;rw [AN O ab (.inl a0)] at I;exact ⟨I,J⟩
end Go.Hb
end
