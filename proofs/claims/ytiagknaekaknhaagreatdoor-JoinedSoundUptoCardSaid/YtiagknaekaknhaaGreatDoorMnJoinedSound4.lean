/-
  Walks and plain laws that the law rests on, laid together. No conditions but those that each theorem names.
-/
import Derived.Test.YtiagknaekaknhaaGreatDoorMnJoinedSound3
set_option linter.unusedVariables false
set_option maxRecDepth 20000
set_option maxHeartbeats 1000000
open Array renaming getElem?_eq_some_iff→dj
open BitVec renaming ofInt→ib,ofInt_natCast→Dk,toNat_ofNat→Dm
open Bool renaming and_eq_true→aZ,noConfusion→cD,true_and→tg
open Classical renaming byContradiction→Dq,not_not→qF
open Go renaming Addr→bK,Program→au,Value→ag,World→ah
open Go.IntKind renaming u64→nA,u8→o4
open Go.Proofs.Tryz renaming prog→aq
open Go.Value renaming bool→bC,int→a9,oneCell'→fg,pointer→tu,slice→dw,tuple→nD
open Go.World renaming ownsRow→bA,ownsRow_nil→gw
open Int renaming toNat_natCast→qP
open List renaming all_cons→o7,all_nil→tw,append_nil→nE,drop_eq_nil_of_le→DY,drop_take→DZ,eq_nil_of_length_eq_zero→jG,getD_cons_succ→yc,getD_cons_zero→tB,getD_eq_getElem?_getD→cm,getElem?_append_left→fm,getElem?_append_right→fH,getElem?_drop→ik,getElem?_eq_getElem→bD,getElem?_eq_some_iff→cI,getElem?_map→gP,getElem?_set_ne→D7,getElem?_set_self→D8,length→nF,length_append→cw,length_cons→dJ,length_drop→gx,length_map→qR,length_nil→jH,length_set→il,length_take→dh,map_replicate→Ef,mem_cons→dP,mem_cons_of_mem→gQ,mem_cons_self→gR,mem_of_getElem?→kZ,nil_append→tI,pairwise_iff_getElem→pj,replicate→dk,set_cons_succ→yg,take_add_one→tL,take_length→Ej,take_of_length_le→nG,toArray→bh
open Nat renaming add_sub_cancel_left→En,beq→aO,blt→aC,eq_of_beq_eq_true→bN,eq_zero_or_pos→tN,le_refl→aR,le_trans→cN,lt_irrefl→Ep,lt_or_ge→dB,mod_eq_of_lt→yi,mul_comm→Es,mul_le_mul_left→Et,pow_le_pow_right→qV,sub_self→yj,zero_add→cJ,zero_le→fq
open Option renaming isSome_iff_exists→l8
open Option.some renaming inj→fv
open Prod renaming fst→gz
open UInt8 renaming toNat_inj→tS,toNat_lt→kd
open Go.Proofs.Tryz
open Go.Proofs

section
namespace Go.Hb
open Go.RowKit
def zP:Ck→Ck→Bool
 | .a,.a=>true
 | .z,.z=>true
 | .x,.x=>true
 | _,_=>false
def rI:List (AV×AV)→List (AV×AV)→Bool
 | [],[]=>true
 | p::l,q::m=>cond (eH p.1 q.1 && eH p.2 q.2) (rI l m) false
 | _,_=>false
def uN:AO→AO→Bool
 | .cells l e fz ex,.cells l' e' fz' ex'=>(aO e e' && aO fz fz') && (zP ex ex' && jo l l')
 | .map l,.map m=>rI l m
 | _,_=>false
theorem GS:∀ {c d:Ck},zP c d=true→c=d
 | .a,.a,_ | .z,.z,_ | .x,.x,_=>rfl
theorem zO:∀ {a b:List (AV×AV)},rI a b=true→a=b
 | [],[],_=>rfl
 | p::l,q::m,h=>by
   unfold rI at h;cases hk:(eH p.1 q.1 && eH p.2 q.2)
   · rw [hk] at h; cases h
   · rw [hk] at h;simp only [aZ] at hk;rw [zO h,Prod.ext (nX hk.1) (nX hk.2)]
theorem GR {a b:AO} (h:uN a b=true):a=b:=by
 unfold uN at h;split at h
 · simp only [aZ] at h;rw [bN h.1.1,bN h.1.2,GS h.2.1,mq h.2.2]
 · rw [zO h]
 · cases h
def iF:Tr AO→Tr AO→Bool
 | .nil,_=>true
 | .nd l none r,.nil=>iF l .nil && iF r .nil
 | .nd _ (some _) _,.nil=>false
 | .nd l none r,.nd l' _ r'=>iF l l' && iF r r'
 | .nd l (some o) r,.nd l' (some o') r'=>uN o o' && (iF l l' && iF r r')
 | .nd _ (some _) _,.nd _ none _=>false
theorem kN:∀ {a b:Tr AO},iF a b=true→∀ {i:Nat} {o:AO},a.get i=some o→b.get i=some o
 | .nil,_,_,i,o,hi=>by rw [Tr.get_nil] at hi; cases hi
 | .nd l none r,.nil,h,i,o,hi=>by
   simp only [iF,aZ] at h;cases i with
   | zero=>simp [Tr.get] at hi
   | succ n=>
     simp only [Tr.get] at hi;cases hb:aO (n % 2) 0
     · rw [hb] at hi; have :=kN h.2 hi; rw [Tr.get_nil] at this; cases this
     · rw [hb] at hi; have :=kN h.1 hi; rw [Tr.get_nil] at this; cases this
 | .nd l none r,.nd l' v' r',h,i,o,hi=>by
   simp only [iF,aZ] at h;cases i with
   | zero=>simp [Tr.get] at hi
   | succ n=>
     simp only [Tr.get] at hi ⊢;cases hb:aO (n % 2) 0
     · rw [hb] at hi; exact kN h.2 hi
     · rw [hb] at hi; exact kN h.1 hi
 | .nd l (some u) r,.nd l' (some u') r',h,i,o,hi=>by
   simp only [iF,aZ] at h;cases i with
   | zero=>
     simp only [Tr.get] at hi ⊢;rw [← GR h.1]; exact hi
   | succ n=>
     simp only [Tr.get] at hi ⊢;cases hb:aO (n % 2) 0
     · rw [hb] at hi; exact kN h.2.2 hi
     · rw [hb] at hi; exact kN h.2.1 hi
def Tr.lf {α:Type} :Tr α→Tr α
 | .nil=> .nil
 | .nd l _ _=>l
def Tr.rt {α:Type} :Tr α→Tr α
 | .nil=> .nil
 | .nd _ _ r=>r
def Tr.vl {α:Type} :Tr α→Option α
 | .nil=>none
 | .nd _ v _=>v
theorem Tr.Ao {α:Type} (t:Tr α):t.get 0=t.vl:=by cases t <;> rfl
theorem Tr.vj {α:Type} (t:Tr α) (n:Nat):t.get (n+1)=cond (aO (n % 2) 0) (t.lf.get<|n / 2) (t.rt.get<|n / 2):=by
 cases t
 · simp only [Tr.lf,Tr.rt,Tr.get_nil]; cases aO (n % 2) 0 <;> rfl
 · rfl
def pZ (v b c:Option AO):Option AO:=match c with
 | some o=>some o
 | none=>match b with
   | some _=>none
   | none=>v
def lK:Tr AO→Tr AO→Tr AO→Tr AO
 | .nil,_,c=>c
 | .nd l v r,b,c=> .nd (lK l b.lf c.lf) (pZ v b.vl c.vl)<|lK r b.rt c.rt
theorem vP:∀ (a b c:Tr AO) (i:Nat),(∀ o,b.get i=some o→a.get i=some o)→(lK a b c).get i=pZ (a.get i) (b.get i) (c.get i)
 | .nil,b,c,i,hb=>by
   have :b.get i=none:=by
    cases hx:b.get i with
    | none=>rfl
    | some o=>have :=hb o hx; rw [Tr.get_nil] at this; cases this
   rw [Tr.get_nil,this];show c.get i=_;unfold pZ;cases c.get i <;> rfl
 | .nd l v r,b,c,0,_=>by
   rw [Tr.Ao b,Tr.Ao c]; rfl
 | .nd l v r,b,c,n+1,hb=>by
   rw [Tr.vj b,Tr.vj c];rw [Tr.vj b] at hb;show cond (aO (n % 2) 0) ((lK l b.lf c.lf).get<|n / 2) ((lK r b.rt c.rt).get<|n / 2)=pZ (cond (aO (n % 2) 0) (l.get<|n / 2)<|r.get<|n / 2) _ _;have A:∀ o,cond (aO (n % 2) 0) (b.lf.get<|n / 2) (b.rt.get<|n / 2)=some o→cond (aO (n % 2) 0) (l.get<|n / 2) (r.get<|n / 2)=some o:=hb;cases hn:aO (n % 2) 0
   · rw [hn] at A; exact vP r b.rt c.rt _ A
   · rw [hn] at A; exact vP l b.lf c.lf _ A
def cY:List (Nat×AO)→Tr AO
 | []=> .nil
 | p::l=>(cY l).set p.1 p.2
section
variable {P:au} {G:Nat} {X:Xt} {T:Nat} {r:Rn} {h h0 h1 h':Hp} {w:ah}
theorem HR.less (hr:HR P G r T h w) (A:∀ i o,h0.t.get i=some o→h.t.get i=some o) (hn:h0.nx=h.nx):HR P G r T h0 w:=
 ⟨fun i o hi=>hr.live i o (A i o hi),fun i j o C q q' hi E=>hr.inj i j o C q q' (A i o hi) (A j C E),fun i hi=>hr.new i ab,hr.eX,by rw [hn]; exact hr.base⟩
theorem Fr.less {g k:Nat} (I:∀ i o,h0.t.get i=some o→h.t.get i=some o) (E:Fr g r h0 k):Fr g r h k:=by
 obtain ⟨i,o,q,h1,A,C⟩:=E;exact ⟨i,o,q,h1,I i o A,C⟩
theorem jh.less {f:Nat} {args:List AV} {v:AV} (A:jh P G f args h0 v h') (C:∀ i o,h1.t.get i=some o→h'.t.get i=some o) (hn:h1.nx=h'.nx):jh P G f args h0 v h1:=by
 obtain ⟨n,A⟩:=A;refine ⟨ab,fun T r w L hT hr E=>(A T r w L ab hr E).mono fun u w' hu=> ?_⟩;obtain ⟨r',I,st⟩:=hu;exact ⟨r',I,st.le,st.hr.less C hn,ab,st.md,fun g M k O J=>st.dS g M k O (J.less C),fun i hi=>st.out i ab⟩
theorem jh.more {f:Nat} {args:List AV} {v:AV} {ac:Hp} (ao:jh P G f args ac v h1) (ah:∀ i o,ac.t.get i=some o→h.t.get i=some o) (aK:∀ i o,h0.t.get i=some o→h.t.get i=some o) (ay:∀ i,h0.t.get i=none→ac.t.get i=none∨i < G) (hn:h.nx=ac.nx):jh P G f args h v ⟨lK h.t h0.t h1.t,h1.nx⟩:=by
 obtain ⟨n,ao⟩:=ao;refine ⟨by show h.nx≤h1.nx; omega,fun T r w L hT hr aF=>(ao T r w L hT (hr.less ah hn.symm) aF).mono fun u w' hu=> ?_⟩;obtain ⟨r',aG,st⟩:=hu;have ad:∀ {i o},(lK h.t h0.t h1.t).get i=some o→h1.t.get i=some o∨(h.t.get i=some o∧h0.t.get i=none):=fun {i o} hi=>by
  rw [vP _ _ _ _ (fun o=>aK i o)] at hi;unfold pZ at hi;split at hi
  · rename_i A; rw [A]; exact .inl hi
  · split at hi
    · cases hi
    · rename_i A C; exact .inr ⟨hi,C⟩
 have ai:∀ {i o},h.t.get i=some o→h0.t.get i=none→∃ q,r i=some q∧q.ak < w.heap.size∧OR P r q o w.heap[q.ak]?∧¬Fr G r ac q.ak:=fun {i o} hi A=>by
  obtain ⟨q,ag,ar⟩:=hr.live i o hi;refine ⟨q,ag,hr.lt hi ag,ar,fun ⟨i2,au,Z,al,E,J,U⟩=> ?_⟩;have :=hr.inj i2 i au o Z q (ah _ _ E) hi J ag U;subst this;rcases ay _ A with C | C
  · rw [C] at E; cases E
  · omega
 refine ⟨r',aG,st.le,⟨fun i o hi=> ?_,fun i j o V q q' hi ae I E he=> ?_,fun i hi=>st.hr.new i hi,st.hr.eX,st.hr.base⟩,by show h.nx≤h1.nx; omega,st.md.mono fun k _ ap=>ap.less ah,fun g aH k aJ ap=> ?_,fun i hi=>st.out i hi⟩
 · rcases ad hi with A | ⟨A,C⟩
   · exact st.hr.live i o A
   · obtain ⟨q,ag,aj,ar,aq⟩:=ai A C;refine ⟨q,st.le _ _ ag,?_⟩;rw [st.md.dG _ aj aq];exact ar.le st.le
 · have aC:∀ {i j o V q q'},h1.t.get i=some o→h.t.get j=some V→h0.t.get j=none→r' i=some q→r' j=some q'→q.ak=q'.ak→i=j:=fun {i j o V q q'} hi ae az I E he=>by
    obtain ⟨Z,O,aj,_,aq⟩:=ai ae az;have :=st.le _ _ O;rw [E] at this; cases this;by_cases aA:j < G
    · by_cases aI:i < G
      · obtain ⟨m1,J⟩:=st.hr.eX i aI;obtain ⟨aL,U⟩:=st.hr.eX j aA;rw [I] at J; cases J;rw [E] at U; cases U;exact he
      · exact absurd (st.dS G (aR _) q'.ak aj ⟨i,o,q,ab,hi,I,he⟩) aq
    · obtain ⟨i2,au,Z,_,J,U,aD⟩:=st.dS 0 (fq _) q'.ak aj ⟨i,o,q,fq _,hi,I,he⟩;have :=hr.inj i2 j au V Z q' (ah _ _ J) ae U O aD;subst this;rcases ay _ az with C | C
      · rw [C] at J; cases J
      · exact absurd C aA
   rcases ad hi with A | ⟨A,C⟩
   · rcases ad ae with M | ⟨M,am⟩
     · exact st.hr.inj i j o V q q' A M I E he
     · exact aC A M am I E he
   · rcases ad ae with M | ⟨M,am⟩
     · exact (aC M A C E I he.symm).symm
     · obtain ⟨Z,O,_⟩:=ai A C;obtain ⟨aM,aB,_⟩:=ai M am;have aa:=st.le _ _ O;rw [I] at aa; cases aa;have av:=st.le _ _ aB;rw [E] at av; cases av;exact hr.inj i j o V q q' A M O aB he
 · obtain ⟨i,o,q,al,aE,aw,ax⟩:=ap;rcases ad aE with A | ⟨A,C⟩
   · exact (st.dS g aH k aJ ⟨i,o,q,al,A,aw,ax⟩).less ah
   · obtain ⟨Z,O,_⟩:=ai A C;have aa:=st.le _ _ O;rw [aw] at aa; cases aa;exact ⟨i,o,q,al,A,O,ax⟩
def qo (G T:Nat) (E:Nat→Nat) (b:Tr AO):List Nat→Tr AO
 | []=>b
 | g::l=>(qo G T E b l).set g<|.cells [.fj T (.ptr (G+g) 0)] (E g) 0 .x
theorem BU {E:Nat→Nat} {b:Tr AO} {i:Nat} :∀ {l:List Nat},(∀ g∈l,aC g cg=true)→(qo G T E b l).get i=if i∈l then some (.cells [.fj T (.ptr (G+i) 0)] (E i) 0 .x) else b.get i
 | [],_=>by simp [qo]
 | g::l,hl=>by
   simp only [qo];rw [Tr.ks _ _ _ _ (hl g gR),BU (fun g A=>hl g<|gQ _ A)];by_cases h1:i=g
   · subst h1; simp
   · simp [h1]
def sE (G T:Nat) (t:Tr AO):List Nat→Bool
 | []=>true
 | g::l=>match t.get g with
   | some (.cells [.fj A (.ptr b 0)] _ 0 .x)=>cond ((aC g G && aC g cg) && (aO A T && aO b (G+g))) (sE G T t l) false
   | _=>false
def pG (t:Tr AO) (g:Nat):Nat:=match t.get g with
 | some (.cells _ e _ _)=>e
 | _=>0
theorem B2 {t:Tr AO} :∀ {l:List Nat},sE G T t l=true→∀ g∈l,g < G∧aC g cg=true∧t.get g=some (.cells [.fj T (.ptr (G+g) 0)] (pG t g) 0 .x)
 | [],_,g,hg=>nomatch hg
 | a::l,h,g,hg=>by
   unfold sE at h;split at h
   · rename_i C b e A;have h1:((aC a G && aC a cg) && (aO C T && aO b (G+a)))=true :=by
      cases hx:((aC a G && aC a cg) && (aO C T && aO b (G+a)))
      · rw [hx] at h; cases h
      · rfl
     rw [h1] at h;simp only [aZ] at h1;rcases dP.1 hg with rfl | E
     · obtain rfl :=bN h1.2.1;obtain rfl :=bN h1.2.2;refine ⟨cx.1 h1.1.1,h1.1.2,?_⟩;rw [A];simp only [pG,A]
     · exact B2 h g E
   · cases h
structure Mm where
 f:Nat
 args:List AV
 h0:Hp
 v:AV
 h1:Hp
def A2 (G T:Nat) (S:List Nat) (m:Mm) (f:Nat) (args:List AV) (h:Hp):Option (AV×Hp):=cond (aO f m.f) (cond (jo args m.args && (aO h.nx m.h0.nx && (iF m.h0.t h.t && sE G T h.t S))) (some (m.v,⟨lK h.t m.h0.t m.h1.t,m.h1.nx⟩)) none) none
def r7 (G T:Nat) (S:List Nat) (f:Nat) (args:List AV) (h:Hp):List Mm→Option (AV×Hp)
 | []=>none
 | m::l=>match A2 G T S m f args h with
   | some x=>some x
   | none=>r7 G T S f args h l
def Mm.hp (G T:Nat) (S:List Nat) (m:Mm) (E:Nat→Nat):Hp:=⟨qo G T E m.h0.t S,m.h0.nx⟩
def Mm.Ok (P:au) (G T:Nat) (S:List Nat) (m:Mm):Prop :=(∀ E,jh P G m.f m.args (m.hp G T S E) m.v m.h1)∧∃ fn c,P.funcs[m.f]? =some fn∧fn.body=some c
variable {S:List Nat}
theorem vH:∀ {l:List Mm},(∀ m∈l,m.Ok P G T S)→∀ {f:Nat} {args:List AV} {v:AV},r7 G T S f args h l=some (v,h')→jh P G f args h v h'∧∃ fn c,P.funcs[f]? =some fn∧fn.body=some c
 | [],_,f,args,v,hf=>by cases hf
 | m::l,hl,f,args,v,hf=>by
   unfold r7 at hf;split at hf
   · rename_i x A;obtain rfl :=fv hf;unfold A2 at A;replace A:=aY A; obtain ⟨I,A⟩:=A;replace A:=aY A; obtain ⟨C,A⟩:=A;cases A;simp only [aZ] at C;obtain rfl :=bN I;obtain rfl :=mq C.1;obtain ⟨J,hb⟩:=hl m gR;have E:=B2 C.2.2.2;have hT:∀ i,(m.hp G T S<|pG h.t).t.get i=if i∈S then some (.cells [.fj T (.ptr (G+i) 0)] (pG h.t i) 0 .x) else m.h0.t.get i:=fun i=>BU fun g L=>(E g L).2.1
     refine ⟨(J<|pG h.t).more (fun i o hi=> ?_) (fun i o hi=>kN C.2.2.1 hi) (fun i hi=> ?_) (bN C.2.1),hb⟩
     · rw [hT] at hi;split at hi
       · rename_i hm;rw [← hi]; exact (E i hm).2.2
       · exact kN C.2.2.1 hi
     · rw [hT];split
       · rename_i hm;exact .inr (E i hm).1
       · exact .inl hi
   · exact vH (fun m hm=>hl m<|gQ _ hm) hf
def dz (P:au) (G:Nat) (X:Xt) (T:Nat) (S:List Nat) (M:List Mm):Nat→Tk→Rs
 | 0,_=> .no
 | n+1,.cl f args h=>match r7 G T S f args h M with
   | some (v,h')=> .rv v h'
   | none=>fc P G X (dz P G X T S M n)<|.cl f args h
 | n+1,t=>fc P G X (dz P G X T S M n) t
theorem zZ {M:List Mm} (E:∀ m∈M,m.Ok P G T S):∀ (k:Nat),(∀ f args h v h',dz P G X T S M k (.cl f args h)= .rv v h'→∃ fn c,P.funcs[f]? =some fn∧fn.body=some c)∧(∀ f args h v h',dz P G X T S M k (.df f args h)= .rv v h'→∃ fn c,P.funcs[f]? =some fn∧fn.body=some c)
 | 0=>⟨fun f args h v h' A=>(by cases A),fun f args h v h' A=>by cases A⟩
 | k+1=>by
   constructor
   · intro f args h v h' A;simp only [dz] at A;split at A
     · rename_i x I;exact (vH E I).2
     · simp only [fc] at A;split at A
       · rename_i fn C;split at A
         · rename_i c hb; exact ⟨fn,c,C,hb⟩
         · cases A
       · cases A
   · intro f args h v h' A;simp only [dz,fc] at A;split at A
     · rename_i fn C;split at A
       · rename_i c hb; exact ⟨fn,c,C,hb⟩
       · cases A
     · cases A
theorem uV {M:List Mm} (E:ir P G X) (C:fY P) (hm:P.follows .mixedOrders=true) (I:∀ m∈M,m.Ok P G T S):∀ k,Good P G (dz P G X T S M k)
 | 0=>fun t=>by cases t <;> trivial
 | k+1=>fun t=>by
   have A:=uV E C hm I k;obtain ⟨J,L⟩:=zZ (P:=P) (G:=G) (X:=X) I k;cases t with
   | cd rd n c fr D h=>exact KC A E C (GD A E C J hm) J rd n c fr D h
   | lp rd n c fr D h=>exact KF A rd n c fr D h
   | cl f args h=>
     simp only [dz];split
     · rename_i x O;exact (vH I O).1
     · exact KD A C L f args h
   | yl l args h=>exact KG A l args h
   | df f args h=>exact KE A E C J f args h
def fC (v:AV) (h1:Hp):Rs→Bool
 | .rv u h=>eH u v && (aO h1.nx h.nx && iF h1.t h.t)
 | _=>false
theorem Mm.of {M:List Mm} {k:Nat} {m:Mm} (L:ir P G X) (J:fY P) (hm:P.follows .mixedOrders=true) (C:∀ q∈M,q.Ok P G T S) (he:∀ E,fC m.v m.h1 (dz P G X T S M k<|.cl m.f m.args<|m.hp G T S E)=true):m.Ok P G T S:=by
 have hr:∀ E,∃ u A,dz P G X T S M k (.cl m.f m.args<|m.hp G T S E)= .rv u A∧u=m.v∧m.h1.nx=A.nx∧iF m.h1.t A.t=true :=fun E=>by
  have he:=he E;unfold fC at he;split at he
  · rename_i u A hr;simp only [aZ] at he;exact ⟨u,A,hr,nX he.1,bN he.2.1,he.2.2⟩
  · cases he
 refine ⟨fun E=> ?_,?_⟩
 · obtain ⟨u,A,hr,rfl,hn,O⟩:=hr E;have I:=uV L J hm C k<|.cl m.f m.args<|m.hp G T S E;rw [hr] at I;exact jh.less I (fun i o hi=>kN O hi) hn
 · obtain ⟨u,A,hr,_⟩:=hr fun _=>0;exact (zZ C k).1 _ _ _ _ _ hr
theorem fT:∀ q∈([]:List Mm),q.Ok P G T S:=fun _ h=>nomatch h
theorem gl {m:Mm} {l:List Mm} (h:m.Ok P G T S) (A:∀ q∈l,q.Ok P G T S):∀ q∈m::l,q.Ok P G T S:=fun q C=>by
 rcases dP.1 C with rfl | h'
 · exact h
 · exact A q h'
theorem G2 {M:List Mm} {k f:Nat} {args:List AV} {h h':Hp} {v:AV} (E:ir P G X) (A:fY P) (hm:P.follows .mixedOrders=true) (C:∀ q∈M,q.Ok P G T S) (he:dz P G X T S M k (.cl f args h)= .rv v h'):jh P G f args h v h':=by
 have :=uV E A hm C k<|.cl f args h;rw [he] at this;exact this
end
end Go.Hb
end
section
namespace Go.Hb
open Go.RowKit
section
variable {P:au} {N:Fm} {σ:Nat→ag} {w:ah} {fn:Func} {R:ag→ah→Prop}
theorem Jy {tmps:Array ag} {r s q p:ResultVar} {v u z y:ag} (h:fn.results= #[r,s,q,p]) (h1:(hZ tmps r).run P w= .ok v w) (A:(hZ tmps s).run P w= .ok u w) (C:(hZ tmps q).run P w= .ok z w) (E:(hZ tmps p).run P w= .ok y w):(results fn tmps).run P w= .ok (.tuple #[v,u,z,y]) w:=by
 have I:(results fn tmps)=(do let vs ← #[r,s,q,p].mapM (hZ tmps); pure (if h:vs.size=1 then vs[0] else .tuple vs)):=by
  unfold results; rw [h]; rfl
 rw [I]; simp [List.mapM_toArray,h1,A,C,E]
theorem G6 {r s q p:ResultVar} {v u z y:ag} (h:fn.results= #[r,s,q,p]) (h1:gT P N σ w r v) (A:gT P N σ w s u) (C:gT P N σ w q z) (E:gT P N σ w p y) (I:R (.tuple #[v,u,z,y]) w):fin P fn N R .ret σ w:=⟨_,Jy h (gp h1) (gp A) (gp C) (gp E),I⟩
end
end Go.Hb
end
section
namespace Go.Hb
open Go Go.RowKit Go.ChangeShapes
theorem JP {P:au} {n:String} {W:ah} {g:Nat} {cs:Array ag} (C:P.globalNamed n=some g) (A:W.var? P n=some cs):∃ e z,W.heap[g]? =some (.cells cs e z):=by
 unfold World.var? at A;rw [C] at A;simp only [Option.bind_some] at A;split at A
 · rename_i c e z h;cases A;exact ⟨e,z,h⟩
 · cases A
theorem iE {P:au} {n nm:String} {text:List UInt8} {r:List (String×DataW Unit)} {W:ah} {g:Nat} {L E te I:TypeId} {ms:Array (String×TypeId)} {f:Field}
 (h:laidMet P ((n,.iface nm (.ptr<|.agg [.lit (.string text)]))::r) W)
 (A:P.globalNamed n=some g) (ae:(P.globals[g]?).map (·.type)=some L) (hi:P.underlying L=some (.interface ms)) (ac:∀ u,P.typeName? 3 u=some nm→u=E)
 (hp:P.underlying E=some (.pointer te)) (he:P.underlying te=some (.struct #[f])) (aa:f.type=I) (Z:f.offset=0) (ad:P.underlying I=some .string) (O:P.cellsOf te=1) (V:P.cellsOf I=1):
 ∃ (a:bK) (e:Nat),a.spot=none∧W.heap[g]? =some (.cells #[.iface E (.pointer<|some a)] e (0,0)):=by
 obtain ⟨a,s,J,U,_,_⟩:=laid_sentinel h A ae hi ac hp he aa Z ad O V;obtain ⟨e,z,hw⟩:=JP A J;obtain ⟨ps,⟨ak,t0,aj,f0,ao,ap,ab,am,ag,al,_,M⟩,_,hrows⟩:=h;obtain rfl :=fv<|A.symm.trans ab;subst M;have ai:=fv<|J.symm.trans ag;subst ai;obtain ⟨⟨c,t,C⟩,_⟩:=hrows g 0<|by simp [MemPlace.row]
 rw [hw] at C;simp only [Option.some.injEq,Obj.cells.injEq] at C;obtain ⟨_,_,rfl⟩:=C;exact ⟨a,e,World.cell?_spot U,hw⟩
theorem cP.nil {T:Nat} {w:ah} :cP T [] w:=fun g h=>by cases h
theorem cP.cons {T g:Nat} {l:List Nat} {w:ah} (h:∃ (a:bK) (e:Nat),a.spot=none∧w.heap[g]? =some (.cells #[.iface T (.pointer<|some a)] e (0,0))) (C:cP T l w):cP T (g::l) w:=fun k A=>by
 rcases dP.1 A with rfl | A
 · exact h
 · exact C k A
theorem cP.sub {T:Nat} {l m:List Nat} {w:ah} (h:cP T l w) (C:∀ g∈m,g∈l):cP T m w:=fun g A=>h g<|C g A
end Go.Hb
end
section
namespace Go.Hb
abbrev aB (n:Nat):ag:= .int .i64 (n:Nat)
abbrev aU (b:Nat):ag:= .pointer<|some ⟨b,0,none⟩
variable {P:au} {N:Fm} {ops:Array Oper} {Q:Exit→(Nat→ag)→ah→Prop} {σ:Nat→ag} {w:ah} {S:ah→Prop} {r fuel:Nat} {listed:Array Bool} {d:Nat} {op:Op} {ty:TypeId} {pos :String} {af:Array Edge} {v:ag}
theorem pO (i:Nat) (hi:ops[i]? =some ⟨some d,op,ty,pos,af,none⟩) (E:∀ w,S w→(execOp (ev N σ) ⟨some d,op,ty,pos,af,none⟩).run P w= .ok (.value v) w) (A:S w) (k:cj P N ops Q S fuel (listed.setIfInBounds i true) (aV σ d v) w) (C:eu N.F ops listed i=true :=by kernel_rfl):cj P N ops Q S (fuel+1) listed σ w:=hp i hi C E A k
theorem Io (i:Nat) (hi:ops[i]? =some ⟨some d,op,ty,pos,af,none⟩) (E:∀ w,S w→(execOp (ev N σ) ⟨some d,op,ty,pos,af,none⟩).run P w= .ok (.value v) w) (A:S w) (k:cr P N ops Q S r fuel (listed.setIfInBounds i true) (aV σ d v) w) (C:vg N.F ops listed r i=true :=by kernel_rfl):cr P N ops Q S r (fuel+1) listed σ w:=AZ i hi C E A k
theorem A0 (i:Nat) (hi:ops[i]? =some ⟨some d,op,ty,pos,af,none⟩) (E:∀ w,(execOp (ev N σ) ⟨some d,op,ty,pos,af,none⟩).run P w= .ok (.value v) w) (A:listed.getD r false =false→S w) (k:cr P N ops Q S r fuel (listed.setIfInBounds i true) (aV σ d v) w) (C:mA N.F ops listed r i=true :=by kernel_rfl):cr P N ops Q S r (fuel+1) listed σ w:=pW i hi C E A k
theorem cW (i:Nat) (hi:ops[i]? =some ⟨some d,op,ty,pos,af,none⟩) (E:∀ {w},(execOp (ev N σ) ⟨some d,op,ty,pos,af,none⟩).run P w= .ok (.value v) w) (A:S w) (k:cj P N ops Q S fuel (listed.setIfInBounds i true) (aV σ d v) w) (C:eu N.F ops listed i=true :=by kernel_rfl):cj P N ops Q S (fuel+1) listed σ w:=hp i hi C (fun _ _=>E) A k
theorem lH (i:Nat) (hi:ops[i]? =some ⟨some d,op,ty,pos,af,none⟩) (E:∀ {w},(execOp (ev N σ) ⟨some d,op,ty,pos,af,none⟩).run P w= .ok (.value v) w) (A:S w) (k:cr P N ops Q S r fuel (listed.setIfInBounds i true) (aV σ d v) w) (C:n4 N.F ops listed r i=true :=by kernel_rfl):cr P N ops Q S r (fuel+1) listed σ w:=lq i hi C (fun _ _=>E) A k
theorem pX (i:Nat) (hi:ops[i]? =some ⟨some d,op,ty,pos,af,none⟩) (E:∀ {w},(execOp (ev N σ) ⟨some d,op,ty,pos,af,none⟩).run P w= .ok (.value v) w) (A:S w) (k:cr P N ops Q S r fuel (listed.setIfInBounds i true) (aV σ d v) w) (C:mA N.F ops listed r i=true :=by kernel_rfl):cr P N ops Q S r (fuel+1) listed σ w:=pW i hi C (fun _=>E) (fun _=>A) k
theorem mC {x:Operand} (i:Nat) (hi:ops[i]? =some ⟨some d,.move x,ty,pos,af,none⟩) (v:ag) (A:S w) (k:cj P N ops Q S fuel (listed.setIfInBounds i true) (aV σ d v) w) (E:ev N σ x=v:=by exact U) (C:eu N.F ops listed i=true :=by kernel_rfl):cj P N ops Q S (fuel+1) listed σ w:=hp i hi C (fun _ _=>mJ v E) A k
theorem Mi {x:Operand} (i:Nat) (hi:ops[i]? =some ⟨some d,.move x,ty,pos,af,none⟩) (v:ag) (A:S w) (k:cr P N ops Q S r fuel (listed.setIfInBounds i true) (aV σ d v) w) (E:ev N σ x=v:=by exact U) (C:mA N.F ops listed r i=true :=by kernel_rfl):cr P N ops Q S r (fuel+1) listed σ w:=pW i hi C (fun _=>mJ v E) (fun _=>A) k
theorem kh {P:au} {f:FuncId} {fn:Func} (A:P.funcs[f]? =some fn) (hn:(fn.name== "runtime.NumGoroutine")=false :=by kernel_rfl) (hb:fn.body.isNone=false :=by kernel_rfl):fK P f:=uo A hn hb
section
variable {rest:List Oper} {x:Operand} {K:(Nat→ag)→ah→Prop} {l:List Oper} {id:Nat} {y z:Code} {j t:Nat} {want b:Bool} {fn:Func} {R:ag→ah→Prop}
theorem Ml (h:∀ {K:(Nat→ag)→ah→Prop},(∀ {σ w},bo P N y Q σ w→gK K Q .normal σ w)→bo P N z (gK K Q) σ w):bo P N (.seq z y) Q σ w:=sq fun K A=>h fun hw=>A _ _ hw
theorem Mn (h:∀ {K:(Nat→ag)→ah→Prop},(∀ {σ w},bo P N y Q σ w→gK K Q .normal σ w)→bP P N l.toArray (gK K Q) l σ w) (hr:jW N.r l=true :=by exact U):bo P N (.seq (.region id l.toArray false) y) Q σ w:=sq fun K A=>rg hr<|h fun hw=>A _ _ hw
theorem Mg (h:Q .normal (aV σ d<|ev N σ x) w):bP P N ops Q [⟨some d,.assign x,ty,pos,af,none⟩] σ w:=p aT<|nl h
theorem cq {id:Nat} (h:Q (.exit id) σ w):gK K Q (.exit id) σ w:=h
theorem Mj (h:(dN ops j,aC t N.n,σ t,b==want)=(some t,true,.bool b,false)) (k:bP P N ops Q rest (aV σ d undef) w):bP P N ops Q (⟨some d,op,ty,pos,af,some (j,want)⟩::rest) σ w:=sk (congrArg gz h) (congrArg (·.2.1) h) (congrArg (·.2.2.1) h) (congrArg (·.2.2.2) h) k
theorem Mk (h:(dN ops j,aC t N.n,σ t)=(some t,true,undef)) (k:bP P N ops Q rest (aV σ d undef) w):bP P N ops Q (⟨some d,op,ty,pos,af,some (j,want)⟩::rest) σ w:=Cf (congrArg gz h) (congrArg (·.2.1) h) (congrArg (·.2.2) h) k
theorem bB (h:(dN ops j,aC t N.n,σ t)=(some t,true,.bool want)) (A:(execOp (ev N σ) ⟨some d,op,ty,pos,af,some (j,want)⟩).run P w= .ok (.value v) w) (k:bP P N ops Q rest (aV σ d v) w):bP P N ops Q (⟨some d,op,ty,pos,af,some (j,want)⟩::rest) σ w:=pg (congrArg gz h) (congrArg (·.2.1) h) (congrArg (·.2.2) h) A k
theorem Mh (i:Nat) (h:(ops[i]?,dN ops j,aC t N.n,σ t,b==want)=(some ⟨some d,op,ty,pos,af,some (j,want)⟩,some t,true,.bool b,false)) (A:S w) (k:cj P N ops Q S fuel (listed.setIfInBounds i true) (aV σ d undef) w) (C:eu N.F ops listed i=true :=by kernel_rfl):cj P N ops Q S (fuel+1) listed σ w:=Ar i (congrArg gz h) C (congrArg (·.2.1) h) (congrArg (·.2.2.1) h) (congrArg (·.2.2.2.1) h) (congrArg (·.2.2.2.2) h) A k
theorem hH (i:Nat) (h:(ops[i]?,dN ops j,aC t N.n,σ t)=(some ⟨some d,op,ty,pos,af,some (j,want)⟩,some t,true,.bool want)) (E:∀ w,S w→(execOp (ev N σ) ⟨some d,op,ty,pos,af,some (j,want)⟩).run P w= .ok (.value v) w) (A:S w) (k:cj P N ops Q S fuel (listed.setIfInBounds i true) (aV σ d v) w) (C:eu N.F ops listed i=true :=by kernel_rfl):cj P N ops Q S (fuel+1) listed σ w:=bU i (congrArg gz h) C (congrArg (·.2.1) h) (congrArg (·.2.2.1) h) (congrArg (·.2.2.2) h) E A k
theorem aN (h:(fn.results,ev N σ (.tmp t))=(#[.tmp t],v)) (A:R v w):fin P fn N R .ret σ w:=f1 (congrArg gz h) (congrArg Prod.snd h) A
theorem wg (v:ag) (h:bP P N ops Q rest (aV σ d v) w) (A:ev N σ x=v:=by exact U):bP P N ops Q (⟨some d,.move x,ty,pos,af,none⟩::rest) σ w:=p (mJ v A) h
end
end Go.Hb
end
namespace Go.Hb.dQ
theorem EN:db aq 100=some (some 2):=ai
theorem yt:db aq 143=some (some 2):=ai
theorem q9:db aq 167=some (some 2):=ai
theorem lk:db aq 27=some (some 7):=ai
theorem kf:db aq 44=some (some 7):=ai
theorem EO:db aq 77=some (some 2):=ai
theorem yu:db aq 81=some (some 2):=ai
theorem re:db aq 84=some (some 2):=ai
theorem yv:db aq 88=some none:=ai
theorem E3:kg aq 25=some (4,1):=ai
theorem yE:kg aq 303=some (256,1):=ai
theorem ll:kg aq 42=some (4,1):=ai
theorem Fv:mh aq 150 5 9=true :=ai
theorem Fy:fK aq 47:=kh func47
theorem Fz:fK aq 49:=kh func49
theorem FA:fK aq 53:=kh func53
theorem lr:fK aq 54:=kh func54
theorem uk:fK aq 55:=kh func55
theorem eU:fK aq 56:=kh func56
theorem FB:fK aq 58:=kh func58
theorem et:fK aq 86:=kh func86
theorem yN:fK aq 90:=kh func90
theorem y7:∀ v w,(callFunc 173 #[v]).run aq w= .ok (.value v) w:=fun v w=>ai
theorem Ge:cy aq 100=some 2:=ai
theorem Gf:cy aq 141=some 1:=ai
theorem y8:cy aq 143=some 2:=ai
theorem Gg:cy aq 150=some 1:=ai
theorem rz:cy aq 167=some 2:=ai
theorem Gh:cy aq 212=some 1:=ai
theorem Gi:cy aq 23=some 1:=ai
theorem Gj:cy aq 24=some 1:=ai
theorem km:cy aq 27=some 7:=ai
theorem cU:cy aq 3=some 1:=ai
theorem rA:cy aq 31=some 1:=ai
theorem y9:cy aq 4=some 1:=ai
theorem za:cy aq 40=some 1:=ai
theorem zb:cy aq 41=some 1:=ai
theorem lu:cy aq 44=some 7:=ai
theorem Gk:cy aq 47=some 1:=ai
theorem zc:cy aq 5=some 1:=ai
theorem uC:cy aq 65=some 1:=ai
theorem Gl:cy aq 77=some 2:=ai
theorem zd:cy aq 79=some 1:=ai
theorem ze:cy aq 81=some 2:=ai
theorem Gm:cy aq 84=some 2:=ai
theorem uD:cy aq 88=some 1:=ai
theorem zf:cy aq 9=some 1:=ai
theorem rK:cV aq 141=some 2:=ai
theorem rL:cV aq 150=some 1:=ai
theorem GX:cV aq 23=some 2:=ai
theorem GY:cV aq 24=some 2:=ai
theorem uS:cV aq 31=some 1:=ai
theorem GZ:cV aq 40=some 2:=ai
theorem kq:cV aq 41=some 2:=ai
theorem dL:cV aq 47=some 1:=ai
theorem zY:cV aq 64=some 1:=ai
theorem uT:cV aq 67=some 1:=ai
theorem mr:cV aq 79=some 2:=ai
theorem Hi:my aq 81 1=some 1:=ai
theorem HF:(aq.info? 214).isSome=true :=ai
theorem HM:∀ (l:List UInt8) (c:UInt8) (w:ah),(callFunc 325 #[str l,.int .u8 c.toNat]).run aq w= .ok (.value<|.int .i64<|ky c l) w:=JH func325 ai ai ai ai
theorem sa:jR aq 88=true :=ai
theorem Jc:ptrTo aq 302 5=true :=ai
theorem Ci:dO aq 141 167 2 16=true :=ai
theorem lP:dO aq 150 5 1 1=true :=ai
theorem Cj:dO aq 23 100 2 32=true :=ai
theorem Cm:dO aq 24 143 2 32=true :=ai
theorem kM:dO aq 31 9 1 16=true :=ai
theorem sL:dO aq 40 77 2 32=true :=ai
theorem sM:dO aq 41 81 2 32=true :=ai
theorem sN:dO aq 47 3 1 8=true :=ai
theorem Ka:dO aq 64 4 1 1=true :=ai
theorem Kb:dO aq 67 47 1 24=true :=ai
theorem sO:dO aq 79 84 2 16=true :=ai
theorem Kj:ez aq 100=some ([(0,1),(1,1)],[.string ⟨⟨[]⟩⟩,.string ⟨⟨[]⟩⟩]):=ai
theorem Kk:ez aq 143=some ([(0,1),(1,1)],[.bool false,.slice none 0 0]):=ai
theorem Kl:ez aq 156=some ([(0,1),(1,1)],[.string ⟨⟨[]⟩⟩,.int .i64 0]):=ai
theorem xl:ez aq 167=some ([(0,1),(1,1)],[.int .u8 0,.int .i64 0]):=ai
theorem Km:ez aq 226=some ([(0,1),(1,1),(2,1)],[.slice none 0 0,.int .i64 0,.slice none 0 0]):=ai
theorem Ko:ez aq 235=some ([(0,1),(1,1),(2,1)],[.slice none 0 0,.int .i64 0,.slice none 0 0]):=ai
theorem sP:ez aq 27=some ([(0,1),(1,1),(2,1),(3,4)],[.int .i64 0,.string ⟨⟨[]⟩⟩,.slice none 0 0,.slice none 0 0,.slice none 0 0,.slice none 0 0,.slice none 0 0]):=ai
theorem xm:ez aq 44=some ([(0,1),(1,1),(2,1),(3,4)],[.int .i64 0,.string ⟨⟨[]⟩⟩,.slice none 0 0,.slice none 0 0,.slice none 0 0,.slice none 0 0,.slice none 0 0]):=ai
theorem Kp:ez aq 60=some ([(0,1),(1,1),(2,1),(3,1),(4,1)],[.int .i64 0,.int .i64 0,.int .i64 0,.int .i64 0,.int .i64 0]):=ai
theorem Kq:ez aq 69=some ([(0,1),(1,1),(2,1)],[.slice none 0 0,.slice none 0 0,.slice none 0 0]):=ai
theorem Kr:ez aq 74=some ([(0,7),(7,1)],[.int .i64 0,.string ⟨⟨[]⟩⟩,.slice none 0 0,.slice none 0 0,.slice none 0 0,.slice none 0 0,.slice none 0 0,.string ⟨⟨[]⟩⟩]):=ai
theorem Ks:ez aq 77=some ([(0,1),(1,1)],[.string ⟨⟨[]⟩⟩,.string ⟨⟨[]⟩⟩]):=ai
theorem Kt:ez aq 81=some ([(0,1),(1,1)],[.bool false,.slice none 0 0]):=ai
theorem Ku:ez aq 84=some ([(0,1),(1,1)],[.int .u8 0,.int .i64 0]):=ai
theorem Kv:ez aq 96=some ([(0,1),(1,1),(2,1)],[.string ⟨⟨[]⟩⟩,.int .i64 0,.int .i64 0]):=ai
theorem CM:aq.underlying 212=some (.pointer 214):=ai
theorem lQ:aq.underlying 22=some (.pointer 74):=ai
theorem u3:aq.underlying 3=some (.int .i64):=ai
theorem KP:aq.underlying 301=some (.int .u64):=ai
theorem u4:aq.underlying 4=some (.bool):=ai
theorem KQ:aq.underlying 40=some (.slice 77):=ai
theorem KR:aq.underlying 41=some (.slice 81):=ai
theorem oQ:aq.underlying 65=some (.pointer 69):=ai
theorem KS:aq.underlying 79=some (.slice 84):=ai
theorem xw:aq.underlying 85=some (.pointer 81):=ai
theorem u9:aq.underlying 9=some (.string):=ai
theorem oR:aq.underlying 97=some (.int .u64):=ai
theorem CP:mV aq 212 291 214 2=true :=ai
theorem sT:(aq.underlying 3).isSome=true :=ai
theorem K2:(aq.underlying 301).isSome=true :=ai
theorem qz:(aq.underlying 5).isSome=true :=ai
theorem lS:(aq.underlying 97).isSome=true :=ai
theorem wide:aq.follows .mixedOrders=true :=ai
theorem L4:zeroOf aq 100=some (some [.string ⟨⟨[]⟩⟩,.string ⟨⟨[]⟩⟩]):=ai
theorem C7:zeroOf aq 143=some (some [.bool false,.slice none 0 0]):=ai
theorem C8:zeroOf aq 167=some (some [.int .u8 0,.int .i64 0]):=ai
theorem L5:zeroOf aq 214=some (some [.pointer none,.slice none 0 0]):=ai
theorem oU:zeroOf aq 27=some (some [.int .i64 0,.string ⟨⟨[]⟩⟩,.slice none 0 0,.slice none 0 0,.slice none 0 0,.slice none 0 0,.slice none 0 0]):=ai
theorem oV:zeroOf aq 3=some (some [.int .i64 0]):=ai
theorem L6:zeroOf aq 31=some (some [.slice none 0 0]):=ai
theorem oW:zeroOf aq 44=some (some [.int .i64 0,.string ⟨⟨[]⟩⟩,.slice none 0 0,.slice none 0 0,.slice none 0 0,.slice none 0 0,.slice none 0 0]):=ai
theorem L7:zeroOf aq 47=some (some [.slice none 0 0]):=ai
theorem xN:zeroOf aq 65=some (some [.pointer none]):=ai
theorem L8:zeroOf aq 77=some (some [.string ⟨⟨[]⟩⟩,.string ⟨⟨[]⟩⟩]):=ai
theorem C9:zeroOf aq 81=some (some [.bool false,.slice none 0 0]):=ai
theorem L9:zeroOf aq 84=some (some [.int .u8 0,.int .i64 0]):=ai
theorem Ma:zeroOf aq 88=some (some [.int .i64 0]):=ai
theorem Mb:zeroOf aq 303=some (some<|dk 256<|.bool false):=ai
theorem Mc:zeroV aq 88=some (.int .i64 0):=ai
end Go.Hb.dQ
section
namespace Go.Hb
open Go.Hb.dQ
theorem F3 (b:Nat) (A:Option bK) (E:ag) (w:ah) (hb:w.heap[b]? =some (.cells [tu A,E].toArray 214 (0,0))) (hp:A=none∨A=some ⟨b,0,none⟩):
 bc aq 126 (bh [aU b]) w (fun v w'=>v= .tuple #[]∧w'.heap[b]? =some (.cells [tu (some ⟨b,0,none⟩),E].toArray 214 (0,0))∧Md (fun k=>k=b) w w'):=by
 refine enter func126 U ntmps126 U<|aQ 5 U<|p (aw U<|(bg hb).trans U)<|p (gB CM U U)<|aF 2 U<|cb U (fun C=> ?_) fun C=> ?_;obtain rfl :A=none:=by simpa using C
 exact aG 3 U<|p (CI CP U hb U)<|p (FR y7 U)<|p (Aj CP U hb U)<|aj 2 U<|e<|c9 Gh U U U hb (by simp) fun L J I=>ax 1 U<|f0 U<|⟨U,I,J⟩
 obtain rfl :A=some ⟨b,0,none⟩:=hp.resolve_left<|by rintro rfl; simp at C
 exact aG 5 U<|p (aw U<|(bg hb).trans U)<|aj 1 U<|p (IM CM HF U U)<|ax 4 U<|f0 U<|⟨U,hb,Md.refl _ _⟩
theorem LW (b:Nat) (C:ag) (l:List UInt8) (c:UInt8) (w:ah) (hb:Bd 214 5 w b C l) (aC:l.length≤70368744177664):
 bc aq 83 (bh [aU b,.int .u8 c.toNat]) w (fun v w'=>v= .nilIface∧∃ L,Bd 214 5 w' b L (l++ [c])∧Md (BF b C) w w'∧∀ k,BF b L k→BF b C k∨w.heap.size≤k):=by
 obtain ⟨⟨ay,aa,au⟩,hown,hnil⟩:=hb;have aD:b < w.heap.size:=(dj.1 aa).1;have ac:∀ k,C.ownBlock=some k→k≠b∧k < w.heap.size:=fun k A=>by have :=hown.lt k A; exact ⟨ab,this.2⟩
 refine enter func83 U ntmps83 U<|aQ 8 U<|e<|aX (F3 b ay C w aa au) U ?_;rintro v6 aI ⟨_,Z,I⟩;have ar:=bR hown I fun k A=>(ac k A).1;have aE:=I.size;refine aj 8 U<|p (aw U<|(bg Z).trans U)<|aj 1 U<|e<|ln lP U U fun az aF aB E ai=>e<|ap lP (bl ar E.md) U (by have :=E.size; omega) U (bd.gF ai) (U) (U) ab ab fun ad aG J O av ao=> ?_;have am:=O.ak (Wk.ak E.md Z) fun h=>(ac b h).1 rfl;refine aj 2 U<|e<|c9 Gg U U (by obtain ⟨a,c,h,_⟩:=sm J; exact congrArg fg h) am (by simp) fun aH V al=>ax 8 U<|aN U ?_;have ae:∀ k,ad.ownBlock=some k→k≠b:=fun k A=>by have :=J.lt k A; omega
 refine ⟨U,ad,⟨⟨_,al,.inr U⟩,?_,?_⟩,?_,?_⟩;rw [cw,yr]; exact bR J V fun k A=>ae k A;rw [av]; simp;refine Md.trans' (Md.trans' (Md.trans' (I.mono fun k _ h=> .inl h) E.md fun _ _ h=>h.elim) O fun k _ h=> .inr h) V fun k _ h=> .inl h;rintro k (rfl | A);exact .inl<|.inl U;by_cases h:C.ownBlock=some k;exact .inl<|.inr h;have :=ao k A; have h1:=I.size; have aA:=E.md.size; exact .inr<|by rcases this with M | M; exact absurd M h; omega
theorem KI (b:Nat) (I:ag) (l:List UInt8) (w:ah) (hb:Bd 214 5 w b I l) (aa:l.length≤70368744177664):
 bc aq 84 (bh [aU b]) w (fun v w'=>v=str l∧Md (fun k=>I.ownBlock=some k) w w'):=by
 obtain ⟨⟨ae,J,ac⟩,hown,hnil⟩:=hb;obtain ⟨a,c,rfl,O,hle,V,Z⟩:=sm hown;refine enter func84 U ntmps84 U<|bY 6 U ?_;have A:(fun w'=>Md (fun k=>(dw a l.length c).ownBlock=some k) w w') w.drew:=(Md.refl _ _).drew;refine bp (fun w'=>Md (fun k=>(dw a l.length c).ownBlock=some k) w w') U wide A<|aM [0,1,2] U A<|pO 3 U (fun w' C=>aw U<|C.ay ((bg J).trans U) fun h=>by have :=hown.lt _ h; omega) A<|aM [5,6,7] U A<|pO 8 U (fun w' C=>aw U<|C.ay ((bg J).trans U) fun h=>by have :=hown.lt _ h; omega) A<|aM [9] U A ?_;refine cW 4 U (xA (v:= .nilFunc) U (by
  by_cases h:l= []
  have :=hnil.2 h; simp only [Value.slice.injEq] at this; exact .inl this.1;right; have :0 < l.length:=List.length_pos_iff.2 h; omega)) A ?_
 refine he 10 U ai<|K3 Jc U U hown U ab fun M L ad=> ?_;have E:(fun w'=>Md (fun k=>(dw a l.length c).ownBlock=some k) w w') M:=A.trans' L fun _ _ h=>h;refine ⟨E,?_⟩;exact cW 11 U (aT) E<|hn ai<|bf 2 U<|aN U<|⟨U,E⟩
end Go.Hb
end
section
namespace Go.Hb
open Go.Hb.dQ
theorem u5 (b:UInt8):fi b=decide (32 < (b.toNat:Int)∧(b.toNat:Int)≠127):=by
 unfold fi; exact decide_eq_decide.2 ab
theorem Hf {b:UInt8} (h:32 < (b.toNat:Int)) (h1:(b.toNat:Int)≠127):fi b=true :=by rw [u5]; exact decide_eq_true ⟨h,h1⟩
theorem u0 {b:UInt8} (h:¬(32 < (b.toNat:Int)∧(b.toNat:Int)≠127)):fi b=false :=by rw [u5]; exact decide_eq_false h
theorem Ab (b:UInt8) (w:ah):
 bc aq 127 (bh [.int .u8 b.toNat]) w (fun v w'=>v= .bool (fi b)∧Wk w w'):=by
 refine enter func127 U ntmps127 U<|aQ 10 U<|gs (t:=5) U (fun A=> ?_) fun A=> ?_;exact ax 7 U<|aN U<|⟨by show bC (decide _)=_; rw [u5]; exact bv (by constructor <;> intro h <;> first | exact ⟨ab,h⟩ | exact h.2),Md.refl _ _⟩
 exact aj 3 U<|p aT<|ax 3 U<|aN U<|⟨by show bC false =_; rw [u0 ab],Md.refl _ _⟩
theorem K5 (s:List UInt8) (w:ah) (ad:s.length≤1048576):
 bc aq 128 (bh [str s]) w (fun v w'=>v= .bool (mW s)∧Wk w w'):=by
 refine enter func128 U ntmps128 U<|aQ 11 U<|gs (t:=6) U (fun E=> ?_) fun E=> ?_;exact ax 14 U<|aN U<|⟨by show bC false =_; unfold mW; rw [decide_eq_false (by rw [E]; simp)],Md.refl _ _⟩
 refine aF 6 U<|cd U (fun Z=> ?_) fun Z=> ?_;exact aE 7 U<|aN U<|⟨by show bC false =_; unfold mW; rw [decide_eq_false ab],Md.refl _ _⟩
 refine bZ 11 U<|lp (fun J V O=> ∃ (i:Nat),(i≤s.length∧1≤s.length∧s.length≤64)∧(∀ j,j < i→fi (s.getD j 0)=true)∧(Wk w O)∧(Sl V [(0,str s),(12,.int .i64 s.length),(13,.int .i64 i)])∧(s.length - i=J)) _ ⟨0,(⟨ab,by rcases tN s.length with h | h <;> first | exact absurd (List.length_eq_zero_iff.1 h) E | exact h,ab⟩),(fun j M=>by omega),(Md.refl _ _),U,U⟩ ?_;rintro J V O ⟨i,hi,hp,A,ac,rfl⟩;refine bF ac<|bY 6 U<|cd U (fun aa=> ?_) fun aa=> ?_;refine aG 14 U<|p (fA u9 U U ab)<|e<|aX (Ab (s.getD i 0) _) U ?_;rintro ae ag ⟨rfl,L⟩;refine aF 3 U<|cb U (fun C=> ?_) fun C=> ?_;have I:fi (s.getD i 0)=false :=by simpa using C
 exact aE 8 U<|tr<|bf 2 U<|aN U<|⟨by show bC false =_; unfold mW; rw [pB (i:=i) ab I,decide_eq_false (by simp)],Md.trans A L⟩
 have I:fi (s.getD i 0)=true :=by simpa using C
 exact aE 7 U<|tn<|⟨_,ab,i+1,ab,(fun j M=>by rcases dB j i with h | h <;> first | exact hp j h | (rw [show j=i by omega]; exact I)),(Md.trans A L),U,U⟩
 exact aE 2 U<|cq<|bf 8 U<|aN U<|⟨by show bC true =_; unfold mW; rw [rl (fun j M=>hp j ab),decide_eq_true ⟨hi.2.1,hi.2.2,U⟩],A⟩
theorem Ih (s:List UInt8) (w:ah) (a2:s.length≤1048576):
 bc aq 91 (bh [str s]) w (fun v w'=>v= .tuple #[str (letE s).1,.int .i64 (letE s).2]∧Wk w w'):=by
 refine enter func91 U ntmps91 U<|aQ 8 U<|e<|al Mb fun O aT aW J ap=> ?_;have aI:az aT.heap O (marksOf []):=by rw [Iw]; exact ap
 refine aF 9 U<|cd U (fun ak=> ?_) fun ak=> ?_;exact aE 8 U<|f2 U U U<|⟨by show nD #[str [],.int .i64 21]=_; unfold letE; rw [if_pos (.inl ak)]; rfl,J.md⟩
 refine aG 4 U<|e<|dq L5 fun I a9 aZ aA aJ=>aF 11 U ?_;have aY:=ap.lt;refine lp (fun ao aC M=> ∃ (i:Nat) (A:ag),(i≤s.length)∧(∀ j,j < i→fi (s.getD j 0)=true)∧(az M.heap O<|marksOf<|lets<|s.take i)∧(Bd 214 5 M I A<|lets<|s.take i)∧(Wk w M)∧(Sl aC [(0,str s),(4,aU O),(5,aU I),(10,.int .i64 s.length),(11,.int .i64 i)])∧(s.length - i=ao)) _ ⟨0,.slice none 0 0,ab,(fun j am=>by omega),(aA.md.B aI),(Bd.new aJ),(Md.trans J.md aA.md),U,U⟩ ?_;rintro ao aC M ⟨i,A,hi,hp,ay,Z,ad,aR,rfl⟩;refine bF aR ?_;have aP:=vC<|s.take i;rw [dh] at aP;have a0:=ay.lt;refine bY 6 U<|cd U (fun aO=> ?_) fun aO=> ?_;refine aG 15 U<|p (fA u9 U U ab)<|e<|aX (Ab (s.getD i 0) _) U ?_;rintro a4 aS ⟨rfl,C⟩;refine aF 3 U<|cb U (fun ae=> ?_) fun ae=> ?_;have L:fi (s.getD i 0)=false :=by simpa using ae
 exact aE 10 U<|tr<|bf 2 U<|f2 U U U<|⟨by show nD #[str [],.int .i64 21]=_; unfold letE; rw [if_pos (.inr<|pB ab L)]; rfl,Md.trans ad C⟩
 have L:fi (s.getD i 0)=true :=by simpa using ae
 have ar:Wk w aS:=Md.trans ad C;have V:=C.B ay;have ac:=Z.md C fun _ _ h=>h;have a3:=C.size;refine aG 6 U<|p (fA u9 U U ab)<|p (iW yE U U<|by have :=kd (s.getD i 0); omega)<|p (aw U<|Iy V _)<|aF 3 U<|cb U (fun ai=> ?_) fun ai=> ?_;have E:¬s.getD i 0∈lets (s.take i):=of_decide_eq_false<|by simpa using ai
 refine aG 4 U<|p (fA u9 U U ab)<|p (iW yE U U<|by have :=kd (s.getD i 0); omega)<|e<|st y9 U U (U) (V) (by rw [A8]; have :=kd (s.getD i 0); omega) fun aV au aH=> ?_;have aN:=Iz aH;have aL:Wk w aV:=Md.trans' ar au fun k aB h=>by omega
 have aa:=ac.md au fun k aB h=>by have :=ac.rR aB; omega
 refine aj 5 U<|p (fA u9 U U ab)<|e<|aX (LW I A (lets<|s.take i) (s.getD i 0) _ aa ab) U ?_;rintro a5 a7 ⟨rfl,aD,aK,av,a1⟩;exact ax 7 U<|tn<|⟨_,ab,i+1,aD,ab,(fun j am=>by rcases dB j i with h | h <;> first | exact hp j h | (rw [show j=i by omega]; exact L)),(by rw [lG ab,if_neg E]; exact av.B aN fun h=>by have :=aa.rR h; omega),(by rw [lG ab,if_neg E]; exact aK),(aa.step aL av<|by have :=J.md.size; omega),U,U⟩
 have E:s.getD i 0∈lets (s.take i):=by simpa using ai
 exact aE 7 U<|tn<|⟨_,ab,i+1,A,ab,(fun j am=>by rcases dB j i with h | h <;> first | exact hp j h | (rw [show j=i by omega]; exact L)),(by rw [lG ab,if_pos E]; exact V),(by rw [lG ab,if_pos E]; exact ac),ar,U,U⟩
 refine aE 2 U<|cq<|gh 4 U<|e<|aX (KI I A (lets<|s.take i) _ Z<|by have :=vC (s.take i); rw [dh] at this; omega) U ?_;rintro a6 a8 ⟨rfl,aM⟩;exact ax 5 U<|f2 U U U<|⟨by show nD #[str (lets<|s.take i),.int .i64 0]=_; unfold letE; rw [if_neg (by rw [rl (fun j am=>hp j ab)]; exact fun h=>h.elim ak cD),show s.take i=s from nG ab]; rfl,Z.KB ad aM<|by have :=J.md.size; omega⟩
end Go.Hb
end
section
namespace Go.Hb
open Go.Hb.dQ
def kr (e:Int):List PanicEntry:= [{v:= .iface 88 (.int .i64 e),recovered:=false}]
def JB:Except Nat (Nat×Nat)→Nat
 | .ok (n,_)=>n
 | .error _=>0
def JC:Except Nat (Nat×Nat)→Nat
 | .ok (_,p)=>p
 | .error _=>0
def oC:Except Nat (Nat×Nat)→Nat
 | .ok _=>0
 | .error e=>e
def wG (r:Except Nat (Nat×Nat)):ag:= .tuple #[.int .u64 (JB r:Nat),.int .i64 (JC r:Nat),.int .i64 (oC r:Nat)]
theorem wN {s:List UInt8} {a e:Nat} (h:a0 s a= .error e):e=60∨e=61:=by
 unfold a0 at h;split at h
 · cases h; exact .inr rfl
 · split at h
   · cases h; exact .inl rfl
   · split at h
     · cases h; exact .inr rfl
     · cases h
theorem JF {s:List UInt8} {a:Nat} (h:((oC (a0 s a):Nat):Int)=0):∃ n p,a0 s a= .ok (n,p):=by
 cases hX:a0 s a with
 | ok x=>exact ⟨x.1,x.2,rfl⟩
 | error e=>
   rw [hX] at h;have :=wN hX;simp only [oC] at h; omega
theorem JE {s:List UInt8} {a:Nat} (h:¬((oC (a0 s a):Nat):Int)=0):a0 s a= .error (oC<|a0 s a):=by
 cases hX:a0 s a with
 | ok x=>rw [hX] at h; simp [oC] at h
 | error e=>rfl
theorem Cg {s:List UInt8} {a n:Nat} :(s.take<|a+n).drop a=(s.drop a).take n:=by rw [DZ,En]
theorem Af {s:List UInt8} {a e:Nat} (h:a0 s a= .error e):cR s a= .error e:=by unfold cR; rw [h]
theorem Ag {s:List UInt8} {a n p:Nat} (h:a0 s a= .ok (n,p)) (hn:255 < n):cR s a= .error 62:=by unfold cR; rw [h]; exact if_pos hn
theorem Ah {s:List UInt8} {a n p:Nat} (h:a0 s a= .ok (n,p)) (hn:¬255 < n) (hp:s.length < p+n):cR s a= .error 60:=by unfold cR; rw [h]; simp only; rw [if_neg hn,if_pos hp]
theorem Ai {s:List UInt8} {a n p:Nat} (h:a0 s a= .ok (n,p)) (hn:¬255 < n) (hp:¬s.length < p+n):cR s a= .ok ((s.drop p).take n,p+n):=by unfold cR; rw [h]; simp only; rw [if_neg hn,if_neg hp]
theorem E0:∀ r:Fin 256,o4.wrap (ib o4.bits ((r.val:Nat):Int) &&& ib o4.bits 127).toNat=((r.val % 128:Nat):Int):=by decide+kernel
theorem EZ (b:UInt8):o4.wrap (ib o4.bits (b.toNat:Int) &&& ib o4.bits 127).toNat=((b.toNat % 128:Nat):Int):=E0 ⟨b.toNat,kd b⟩
theorem Bw (i:Nat):(128:Nat) ^ i=2 ^ (7 *i):=by rw [Nat.pow_mul]
theorem J3 {x i:Nat} (hi:i≤9):nA.wrap (((x:Nat):Int)*2 ^ min ((7 *i:Nat):Int).toNat nA.bits)=((x*128 ^ i % 18446744073709551616:Nat):Int):=by
 have A:(nA.bits:Nat)=64:=rfl;rw [qP,A,Nat.min_eq_left ab,IntKind.wrap_u64,Bw];generalize 7 *i=m;rw [show ((x:Nat):Int)*2 ^ m=((x*2 ^ m:Nat):Int) by simp];omega
theorem I7 {n x i:Nat} (hi:i≤9) (hn:n < 128 ^ i):nA.wrap (ib nA.bits (n:Int) ||| ib nA.bits ((x*128 ^ i % 18446744073709551616:Nat):Int)).toNat=((n+x*128 ^ i % 18446744073709551616:Nat):Int):=by
 have C:(nA.bits:Nat)=64:=rfl;rw [Bw] at hn ⊢;have I:x*2 ^ (7 *i) % 18446744073709551616=2 ^ (7 *i)*(x % 2 ^ (64 - 7 *i)):=by
  rw [show (18446744073709551616:Nat)=2 ^ (7 *i)*2 ^ (64 - 7 *i) by rw [← Nat.pow_add,show 7 *i+(64 - 7 *i)=64 by omega],Es x,Nat.mul_mod_mul_left]
 rw [I,C,Dk,Dk,BitVec.toNat_or,Dm,Dm];have A:x % 2 ^ (64 - 7 *i) < 2 ^ (64 - 7 *i):=Nat.mod_lt _<|Nat.two_pow_pos _;generalize x % 2 ^ (64 - 7 *i)=z at A;have hle:(2:Nat) ^ (7 *i)≤2 ^ 64:=qV aD ab;have hmul:2 ^ (7 *i)*z+n < 2 ^ 64:=by
  have E:2 ^ (7 *i)*(z+1)≤2 ^ (7 *i)*2 ^ (64 - 7 *i):=Et _ A;rw [← Nat.pow_add,show 7 *i+(64 - 7 *i)=64 by omega,Nat.mul_succ] at E;omega
 rw [yi ab,yi (show 2 ^ (7 *i)*z < 2 ^ 64 by omega),Nat.or_comm,← Nat.two_pow_add_eq_or_of_lt hn,gr ab,Nat.add_comm]
theorem r5 {s:List UInt8} {a i n:Nat} (hi:i≤9) (ha:a+i < s.length) (hn:n=dH ((s.drop a).take i)) (hb:i≤8∨(s.getD (a+i) 0).toNat≤1):n+(s.getD (a+i) 0).toNat % 128 *128 ^ i % 18446744073709551616=dH ((s.drop a).take<|i+1):=by
 have E:((s.drop a).take i).length=i:=by rw [dh,gx]; omega
 have I:(s.drop a)[i]? =some (s.getD (a+i) 0):=by
  rw [ik,cm,bD ab]; rfl
 rw [tL,I,Option.toList_some,vB,E,hn,dH,dH,Nat.mul_zero,Nat.add_zero];congr 1;have hm:(s.getD (a+i) 0).toNat % 128 < 128:=Nat.mod_lt _ aD;have A:i≤8∨(s.getD (a+i) 0).toNat % 128≤1:=hb.imp id fun h=>ab;generalize (s.getD (a+i) 0).toNat % 128=x at hm A ⊢;rw [Es,yi];have L:(128:Nat) ^ 9=9223372036854775808:=aD;rcases A with hb | hb
 · have h1:128 ^ i*x < 128 ^ i*128:=Nat.mul_lt_mul_of_pos_left hm<|Nat.pow_pos aD;have J:(128:Nat) ^ i*128=128 ^ (i+1):=rfl;have C:(128:Nat) ^ (i+1)≤128 ^ 9:=qV aD ab;omega
 · have C:(128:Nat) ^ i≤128 ^ 9:=qV aD ab;have M:128 ^ i*x≤128 ^ i*1:=Et _ hb;omega
theorem JG (s:List UInt8) (a:Nat) (w:ah) (ao:s.length≤1048576) (ha:a≤s.length):
 bc aq 89 (bh [str s,aB a]) w (fun v w'=>v=wG (a0 s a)∧Wk w w'):=by
 refine enter func89 U ntmps89 U<|aQ 13 U<|gs (t:=11) U (fun h=>absurd h ab) fun am=>aF 7 U<|cd U (fun aa=> ?_) fun aa=> ?_;exact aE 9 U<|f3 U U U U<|⟨by rw [sB (k:=0) (jw ab (fun j M=>by omega)<|.inr<|.inl ab) ab ab]; rfl,Md.refl _ _⟩
 refine bZ 9 U<|lp (fun L V O=> ∃ (i n:Nat),(i≤10)∧(∀ j,j < i→a+j < s.length∧128≤(s.getD (a+j) 0).toNat)∧(i≤9→n=dH ((s.drop a).take i))∧(Wk w O)∧(Sl V [(0,str s),(1,aB a),(4,.int .u64 (n:Nat)),(17,aB i)])∧(10 - i=L)) _ ⟨0,0,ab,(fun j M=>by omega),(fun _=>rfl),(Md.refl _ _),U,U⟩ ?_;rintro L V O ⟨i,n,hi,E,hn,C,al,rfl⟩;refine bF al<|bY 6 U<|cd U (fun ac=> ?_) fun ac=> ?_;refine bZ 21 U<|cd U (fun ad=> ?_) fun ad=> ?_;exact aE 11 U<|tr<|bf 2 U<|f3 U U U U<|⟨by rw [sB (k:=i) (jw ab E<|.inr<|.inl ab) ab ab]; rfl,C⟩
 refine aG 7 U<|p (bM<|a+i)<|p (fA u9 U U ab)<|aF 4 U ?_;have ak:n < 128 ^ i:=by
  have h1:=rZ<|(s.drop a).take i;rw [← hn ab] at h1;have Z:((s.drop a).take i).length=i:=by rw [dh,gx]; omega
  rwa [Z] at h1
 refine aG 3 U<|p (cS U U<|EZ _)<|p (fy oR qz U<|gr ab)<|aj 1 U<|p (vO ((7 *i:Nat):Int) U U<|xE ab ab)<|p (shl U U ab<|J3 ab)<|p (yK U U<|I7 ab ak)<|aF 12 U<|cd U (fun ae=> ?_) fun ae=> ?_;have ai:∀ j,j < i+1→a+j < s.length∧128≤(s.getD (a+j) 0).toNat:=fun j M=>by
  rcases dB j i with h | h;exact E j h;obtain rfl :j=i:=ab;exact ⟨ab,ab⟩
 exact aG 6 U<|p (bM<|i+1)<|ax 2 U<|tn<|⟨_,ab,i+1,n+(s.getD (a+i) 0).toNat % 128 *128 ^ i % 18446744073709551616,ab,ai,(fun h=>r5 ab ab (hn ab)<|.inl ab),C,U,U⟩
 refine aG 6 U<|gs (t:=45) U (fun ag=> ?_) fun ag=> ?_;refine aF 6 U<|cd U (fun I=> ?_) fun I=> ?_;refine bZ 2 U<|cd U (fun I=> ?_) fun I=> ?_;refine aE 12 U<|tr<|bf 2 U<|f3 U U U U ?_;have A:=jw (s:=s) (a:=a) (k:=i) ab E<|.inr<|.inr ab;exact ⟨by rw [oD A ab ab ab]; rfl,C⟩;refine aG 8 U<|p (bM<|a+i)<|p (bM<|a+i+1)<|ax 8 U<|tr<|bf 2 U<|f3 U U U U ?_;exfalso; omega;refine aG 4 U<|gs (t:=51) U (fun J=> ?_) fun J=> ?_;refine aF 6 U<|cd U (fun I=> ?_) fun I=> ?_;refine aE 12 U<|tr<|bf 2 U<|f3 U U U U ?_;have A:=jw (s:=s) (a:=a) (k:=i) ab E<|.inr<|.inr ab;exact ⟨by rw [oD A ab ab ab]; rfl,C⟩;refine aG 8 U<|p (bM<|a+i)<|p (bM<|a+i+1)<|ax 8 U<|tr<|bf 2 U<|f3 U U U U ?_;have A:=jw (s:=s) (a:=a) (k:=i) ab E<|.inr<|.inr ab;exact ⟨by rw [sA A ab ab ab,← r5 ab ab (hn ab) ab]; rfl,C⟩;refine aj 3 U<|p aT<|aj 11 U<|p (bM<|a+i)<|p (bM<|a+i+1)<|ax 8 U<|tr<|bf 2 U<|f3 U U U U ?_;exfalso; omega;refine aj 3 U<|p aT<|aj 7 U<|gs (t:=51) U (fun J=> ?_) fun J=> ?_;refine aF 6 U<|cd U (fun I=> ?_) fun I=> ?_;refine aE 12 U<|tr<|bf 2 U<|f3 U U U U ?_;have A:=jw (s:=s) (a:=a) (k:=i) ab E<|.inr<|.inr ab;exact ⟨by rw [oD A ab ab ab]; rfl,C⟩;refine aG 8 U<|p (bM<|a+i)<|p (bM<|a+i+1)<|ax 8 U<|tr<|bf 2 U<|f3 U U U U ?_;have A:=jw (s:=s) (a:=a) (k:=i) ab E<|.inr<|.inr ab;exact ⟨by rw [sA A ab ab ab,← r5 ab ab (hn ab) ab]; rfl,C⟩;refine aj 3 U<|p aT<|aj 11 U<|p (bM<|a+i)<|p (bM<|a+i+1)<|ax 8 U<|tr<|bf 2 U<|f3 U U U U ?_;have A:=jw (s:=s) (a:=a) (k:=i) ab E<|.inr<|.inr ab;exact ⟨by rw [sA A ab ab ab,← r5 ab ab (hn ab) ab]; rfl,C⟩;refine aE 2 U<|cq<|bf 10 U<|f3 U U U U ?_;obtain rfl :i=10:=ab;exact ⟨by rw [BS (jw ab E<|.inl U)]; rfl,C⟩
theorem jy (C:ag) (b:Bool) (e:Int) (w:ah):
 mb aq 56 (bh [C,.bool b,.int .i64 e]) w (fun v w'=>v=nD #[]∧b=true∧w'=w) (fun c w'=>c=kr e∧b=false∧w'=w):=by
 refine pI func56 U ntmps56 U<|bY 6 U<|cb U (fun A=> ?_) fun A=> ?_;exact aG 2 U<|p (vN sa U)<|Jb U fun σ' E=>⟨U,by simpa using A,U⟩
 refine aE 1 U<|pL<|f0 U ?_;exact ⟨U,by simpa using A,U⟩
theorem og (rb:Nat) (s:List UInt8) (a:Nat) (w:ah) (E:az w.heap rb [str s,.int .i64 (a:Nat)]) (ab:s.length≤1048576) (ha:a≤s.length):
 mb aq 54 (bh [.pointer (some ⟨rb,0,none⟩)]) w (fun v w'=> ∃ n p,a0 s a= .ok (n,p)∧v= .int .u64 (n:Nat)∧az w'.heap rb [str s,.int .i64 (p:Nat)]∧Md (fun k=>k=rb) w w') (fun c w'=> ∃ e,a0 s a= .error e∧c=kr e∧Md (fun k=>k=rb) w w'):=by
 refine pI func54 U ntmps54 U<|bY 6 U<|fP fun C=>aM [0,1,2] U C<|de 3 U C (E.aJ 0)<|aM [4,5,6] U C<|de 7 U C (E.aJ 1)<|he 8 U ai<|aX (JG s a w.drew ab ha) U ?_;rintro ag L ⟨rfl,A⟩;have A:=Md.dr A;have J:(fun w'=>Wk w w') L:=A;refine ⟨J,?_⟩;refine hp 9 U ai (fun _ _=>mv) J<|aM [10,11,12,13,14,15] U J<|hn ai<|gh 7 U<|eP U (ej eU (jy _ _ _ L) U fun ak al Z=> ?_) fun c w' I σ' ae=>⟨_,JE (of_decide_eq_false I.2.1),I.1,by rw [I.2.2]; exact A.mono fun _ _ h=>h.elim⟩
 obtain ⟨rfl,ac,rfl⟩:=Z;obtain ⟨n,ad,aa⟩:=JF<|of_decide_eq_true ac;have M:=Wk.B A E;refine aj 8 U<|e<|st cU U U (U) (M) (by simp) fun am V O=>ax 9 U<|pL<|f1 U U ?_;rw [aa] at*;exact ⟨n,ad,U,U,O,Md.trans (A.mono fun _ _ h=>h.elim) V⟩
theorem CG (rb:Nat) (s:List UInt8) (a n:Nat) (w:ah) (I:az w.heap rb [str s,.int .i64 (a:Nat)]) (al:s.length≤1048576) (ha:a≤s.length) (ak:n≤1048576):
 mb aq 90 (bh [.pointer (some ⟨rb,0,none⟩),.int .i64 (n:Nat)]) w (fun v w'=>a+n≤s.length∧v=str ((s.drop a).take n)∧az w'.heap rb [str s,.int .i64 ((a+n:Nat):Int)]∧Md (fun k=>k=rb) w w') (fun c w'=>s.length < a+n∧c=kr 60∧Md (fun k=>k=rb) w w'):=by
 refine pI func90 U ntmps90 U<|bY 6 U<|fP fun C=>aM [0,1,2,3,4] U C<|de 5 U C (I.aJ 0)<|aM [6,7,8,9] U C<|de 10 U C (I.aJ 1)<|aM [11,12] U C<|Hw 13 U ai U (ej eU (jy _ _ _ w.drew) U fun am M ad=> ?_) fun c w' J σ' ag=>⟨by have :=of_decide_eq_false J.2.1; omega,J.1,by rw [J.2.2]; exact (Md.refl _ _).drew⟩
 obtain ⟨rfl,V,L⟩:=ad;have V:=of_decide_eq_true V;have O:az M.heap rb [str s,.int .i64 (a:Nat)]:=by rw [L]; exact I
 have aa:Md (fun k=>k=rb) w M:=by rw [L]; exact (Md.refl _ _).drew
 have ae:(fun w'=>Wk w w') M:=by rw [L]; exact (Md.refl _ _).drew
 refine ⟨ae,?_⟩;refine hn ai<|gh 6 U<|p (aw U<|O.aJ 1)<|aj 1 U<|p (bM<|a+n)<|aj 2 U<|e<|st cU U U (U) (O) (by simp) fun ao ac Z=> ?_;have E:=Z;exact aF 3 U<|fP fun A=>aM [0,1,2] U A<|de 3 U A (E.aJ 0)<|aM [4,5,6] U A<|de 7 U A (E.aJ 1)<|aM [8] U A<|hp 9 U ai (fun _ _=>qq<|a) A<|aM [10,11,12] U A<|de 13 U A (E.aJ 1)<|hp 14 U ai (fun _ _=>lO u9 U U U ab) A<|aM [15] U A<|hn ai<|bf 2 U<|pL<|f1 U U<|⟨ab,by rw [← Cg]; rfl,E,(aa.trans ac).drew⟩
theorem vf (rb:Nat) (s:List UInt8) (a:Nat) (w:ah) (M:az w.heap rb [str s,.int .i64 (a:Nat)]) (J:s.length≤1048576) (ha:a≤s.length):
 mb aq 55 (bh [.pointer (some ⟨rb,0,none⟩)]) w (fun v w'=> ∃ f p,cR s a= .ok (f,p)∧v=str f∧az w'.heap rb [str s,.int .i64 (p:Nat)]∧Md (fun k=>k=rb) w w') (fun c w'=> ∃ e,cR s a= .error e∧c=kr e∧Md (fun k=>k=rb) w w'):=by
 refine pI func55 U ntmps55 U<|aQ 8 U<|eP U (ej lr (og rb s a w M J ha) U fun au ai ad=> ?_) fun c w' A σ' I=>by obtain ⟨e,he,ag,Z⟩:=A; exact ⟨e,Af he,ag,Z⟩
 obtain ⟨n,q,C,rfl,V,E⟩:=ad;obtain ⟨al,am,ao⟩:=jb C;refine aj 8 U<|eP U (ej eU (jy _ _ _ ai) U fun av ak ae=> ?_) fun c w' A σ' I=>⟨62,Ag C (by have :=of_decide_eq_false A.2.1; omega),A.1,by rw [A.2.2]; exact E⟩
 obtain ⟨rfl,L,rfl⟩:=ae;have L:=of_decide_eq_true L;refine aj 6 U<|p (fy u3 lS U<|gM ab)<|eP U (ej yN (CG rb s q n ak V J ab ab) U fun ar aw ac=> ?_) fun c w' A σ' I=>⟨60,Ah C ab A.1,A.2.1,E.trans A.2.2⟩
 obtain ⟨ap,rfl,O,aa⟩:=ac;exact ax 4 U<|pL<|f1 U U<|⟨_,_,Ai C ab ab,U,O,E.trans aa⟩
theorem CH {s:List UInt8} {i:Nat} (h:i < s.length):(s.take<|i+1).drop i= [s.getD i 0]:=by
 rw [DZ,show i+1 - i=1 by omega,drop_cons 0 h]; rfl
theorem K8 (b:UInt8):mW [b]=fi b:=by
 unfold mW fM;cases h:fi b <;> simp [h]
def gU:List UInt8×List UInt8:=([],[])
def ee (r:List UInt8×List UInt8):List ag:= [str r.1,str r.2]
theorem BN {h:Array Obj} {a:Option bK} {rs:List (List UInt8×List UInt8)} {i:Nat} (A:bd h a (rs.flatMap ee)) (hi:i < rs.length):∀ j,j < 2→Hb.ay h (bk a) (fo a+i*2 +j)= [str (rs.getD i gU).1,str (rs.getD i gU).2][j]? :=
 lB (f:=ee) (m:=2) (fun _=>rfl) A (by rw [cm,bD hi]; rfl)
theorem BO {rs:List (List UInt8×List UInt8)} (h:0 < rs.length):rs.flatMap ee≠[]:=nZ (f:=ee) (m:=2) (fun _=>rfl) aD h
variable {ls:Nat} {t:List UInt8} {rs:List (List UInt8×List UInt8)}
theorem nT {b:Bool} (h:(!b)=true):b=false :=by cases b; rfl; cases h
theorem oH (h:ls < 1∨64 < ls∨256 < rs.length):ef ls t rs=false :=by
 unfold ef;rw [decide_eq_false ab]; rfl
theorem sF (h:t≠[]) (A:letE t≠(t,0)):ef ls t rs=false :=by
 unfold ef;rw [decide_eq_false h,decide_eq_false A]; simp
theorem lN {i:Nat} (h:i < rs.length) (A:gJ (rs.getD i gU)=false):ef ls t rs=false :=by
 unfold ef;rw [yx gU h A]; simp
theorem B5 (h:¬(ls < 1∨64 < ls∨256 < rs.length)) (A:t= []∨letE t=(t,0)) (C:∀ i,i < rs.length→gJ (rs.getD i gU)=true):ef ls t rs=true :=by
 unfold ef;rw [decide_eq_true ab,yy gU C];rcases A with A | A <;> simp [A]
theorem B7 {r:List UInt8×List UInt8} (h:r.1= []):gJ r=false :=by unfold gJ; simp [h]
theorem wU {r:List UInt8×List UInt8} (h:(fM r.1 && decide (r.1.length≤32))=false):gJ r=false :=by unfold gJ; rw [h]; simp
theorem wV {r:List UInt8×List UInt8} (h:(fM r.2 && decide (r.2.length≤32))=false):gJ r=false :=by unfold gJ; rw [h]; simp
theorem B8 {r:List UInt8×List UInt8} (h0:r.1≠[]) (h:(fM r.1 && decide (r.1.length≤32))=true) (A:(fM r.2 && decide (r.2.length≤32))=true):gJ r=true :=by unfold gJ; rw [h,A,decide_eq_true h0]; rfl
theorem By (x:List UInt8) (m:Nat) (w:ah) (ac:x.length≤1048576):
 bc aq 92 (bh [str x,aB m]) w (fun v w'=>v= .bool (fM x && decide (x.length≤m))∧Wk w w'):=by
 refine enter func92 U ntmps92 U<|bY 14 U<|lp (fun I V E=> ∃ (i:Nat),(i≤x.length)∧(∀ j,j < i→fi (x.getD j 0)=true)∧(Wk w E)∧(Sl V [(0,str x),(1,aB m),(7,aB (x.length)),(8,aB i)])∧(x.length - i=I)) _ ⟨0,ab,(fun j M=>by omega),(Md.refl _ _),U,U⟩ ?_;rintro I V E ⟨i,hi,O,A,aa,rfl⟩;refine bF aa<|bY 6 U<|cd U (fun Z=> ?_) fun Z=> ?_;refine aG 15 U<|p (bM<|i+1)<|p (lO u9 U U U ab)<|e<|aX (K5 ((x.take<|i+1).drop i) E<|by rw [CH ab]; simp) U fun ad ae L=> ?_;rw [CH ab,K8] at L;obtain ⟨rfl,J⟩:=L;refine aF 3 U<|cb U (fun C=> ?_) fun C=> ?_;exact aE 8 U<|tr<|bf 2 U<|aN U<|⟨by rw [pB (i:=i) ab (by simpa using C)]; rfl,A.trans J⟩
 exact aG 4 U<|p (bM<|i+1)<|ax 2 U<|tn<|⟨_,ab,i+1,ab,(fun j M=>by rcases dB j i with h | h <;> first | exact O j h | (rw [show j=i by omega]; simpa using C)),(A.trans J),U,U⟩
 exact aE 2 U<|cq<|bf 12 U<|aN U<|⟨by rw [rl (fun j M=>O j ab),tg]; exact bv ab,A⟩
theorem JU (ls:Nat) (t:List UInt8) (rs:List (List UInt8×List UInt8)) (V:Option bK) (rc:Nat) (aC v4 aD v6:ag) (w:ah) (ar:bd w.heap V (rs.flatMap ee)) (ba:ls≤64) (bi:t.length≤1048576) (bb:rs.length≤1048576) (a0:∀ r∈rs,r.1.length≤1048576∧r.2.length≤1048576):
 bc aq 57 (bh [.agg #[aB ls,str t,.slice V rs.length rc,aC,v4,aD,v6]]) w (fun v w'=>v= .bool (ef ls t rs)∧Wk w w'):=by
 refine enter func57 U ntmps57 U<|aQ 2 U<|e<|mg U fun ao a5 a7 M C=>aj 7 U<|p (aw U<|C.aJ 0)<|aj 2 U<|gs (t:=10) U (fun aY=> ?_) fun aY=> ?_;exact aj 4 U<|p mv<|ax 15 U<|aN U<|⟨(congrArg bC<|oH (t:=t) (rs:=rs)<|.inl (show ls < 1 by omega)).symm,M.md⟩
 refine aj 1 U<|bB U (aw U<|C.aJ 0)<|aj 3 U<|gs (t:=15) U (fun aZ=> ?_) fun aZ=> ?_;exact ax 15 U<|aN U<|⟨(congrArg bC<|oH (t:=t) (rs:=rs)<|.inr<|.inl (show 64 < ls by omega)).symm,M.md⟩
 refine aj 1 U<|bB U (aw U<|C.aJ 2)<|aF 5 U<|cd U (fun aV=> ?_) fun aV=> ?_;exact aE 7 U<|aN U<|⟨(congrArg bC<|oH<|.inr<|.inr (show 256 < rs.length by omega)).symm,M.md⟩
 refine bZ 2 U ?_;refine eL (fun aH al=> ∃ (a4:Unit),(t= []∨letE t=(t,0))∧(Wk w al)∧(az al.heap ao [aB ls,str t,.slice V rs.length rc,aC,v4,aD,v6])∧(Sl aH [(1,aU ao)])) ?_ ?_;refine aQ 3 U<|p (aw U<|C.aJ 1)<|e<|aX (Ih t a5 ab) U ?_;rintro bj bn ⟨rfl,au⟩;have I:=M.md.trans au;have E:=Wk.B au C;refine p mv<|aj 9 U<|p (aw U<|E.aJ 1)<|aj 2 U<|gs (t:=30) U (fun O=> ?_) fun O=> ?_;refine aj 3 U<|gs (t:=33) U (fun ad=> ?_) fun ad=> ?_;exact aj 5 U<|p (mN U)<|ax 9 U<|tr<|aN U<|⟨(congrArg bC<|sF O fun h=>by rw [h] at ad; exact ad U).symm,I⟩
 refine aj 2 U<|bB U (aw U<|E.aJ 1)<|aF 5 U<|cd U (fun aa=> ?_) fun aa=> ?_;exact aE 6 U<|tr<|aN U<|⟨(congrArg bC<|sF O fun h=>aa<|by rw [h]).symm,I⟩
 exact aE 1 U<|tn<|⟨(),(.inr<|Prod.ext (qF.1 aa)<|by show (letE t).2=0; omega),I,E,U⟩
 exact ax 13 U<|tn<|⟨(),(.inl<|qF.1 O),I,E,U⟩
 rintro aH al ⟨a4,a3,aR,aP,a1⟩;refine bF a1<|aG 4 U<|p (aw U<|aP.aJ 2)<|aF 5 U<|lp (fun ap aI am=> ∃ (i:Nat),(i≤rs.length)∧(∀ j,j < i→gJ (rs.getD j gU)=true)∧(Wk w am)∧(Sl aI [(41,.slice V rs.length rc),(42,aB (rs.length)),(43,aB i)])∧(rs.length - i=ap)) _ ⟨0,ab,(fun j ay=>by omega),aR,U,U⟩ ?_;rintro ap aI am ⟨i,hi,aA,A,a2,rfl⟩;refine bF a2<|bY 6 U<|cd U (fun aW=> ?_) fun aW=> ?_;refine aG 6 U<|p (bJ GZ U U ab<|bd.ok (ar.wk A)<|BO ab)<|p (eZ EO U (U)<|BN (ar.wk A) ab)<|e<|dq L8 fun aK bp a8 aT aM=>e<|ei Gl U U U U aM (by simp) fun ak aS aO=> ?_;have Z:az ak.heap aK [str (rs.getD i gU).1,str (rs.getD i gU).2]:=⟨_,aO⟩
 have L:Wk am ak:=Md.trans' aT.md aS fun k a9 h=>by omega
 have bg:=a0 _<|jt (d:=gU) (show i < rs.length by omega);refine aj 5 U<|p (aw U<|Z.aJ 0)<|aj 2 U<|gs (t:=50) U (fun ae=> ?_) fun ae=> ?_;exact aj 5 U<|p mv<|ax 16 U<|tr<|bf 2 U<|aN U<|⟨(congrArg bC<|lN (show i < rs.length by omega)<|B7 ae).symm,A.trans L⟩
 refine aj 1 U<|bB U (aw U<|Z.aJ 0)<|eg U U U<|aX (By _ 32 ak ab) U ?_;rintro bl a6 ⟨rfl,J⟩;have aL:=Wk.B J Z;refine aj 3 U<|gb (t:=56) U (fun ai=> ?_) fun ai=> ?_;exact ax 16 U<|tr<|bf 2 U<|aN U<|⟨(congrArg bC<|lN (show i < rs.length by omega)<|wU<|nT ai).symm,(A.trans L).trans J⟩
 refine aj 1 U<|bB U (aw U<|aL.aJ 1)<|eg U U U<|aX (By _ 32 a6 ab) U ?_;rintro bm bo ⟨rfl,av⟩;refine aF 4 U<|cb U (fun ac=> ?_) fun ac=> ?_;exact aE 8 U<|tr<|bf 2 U<|aN U<|⟨(congrArg bC<|lN (show i < rs.length by omega)<|wV<|nT ac).symm,((A.trans L).trans J).trans av⟩
 exact aG 4 U<|p (bM<|i+1)<|ax 2 U<|tn<|⟨_,ab,i+1,ab,(fun j ay=>by rcases dB j i with h | h <;> first | exact aA j h | (rw [show j=i by omega]; exact B8 ae (by simpa using ai)<|by simpa using ac)),(((A.trans L).trans J).trans av),U,U⟩
 exact aE 2 U<|cq<|bf 8 U<|aN U<|⟨(congrArg bC<|B5 ab a3 fun j ay=>aA j ab).symm,A⟩
end Go.Hb
end
section
namespace Go.Hb
open Go.Hb.dQ
structure eo (f:Nat→ag) (w:ah) (pA ms:Nat) (aa:Option bK) (n cA nx:Nat) (mk:List Nat):Prop where
 ak:az w.heap pA [.slice aa n cA,.int .i64 nx,.slice (some ⟨ms,0,none⟩) n n]
 gk:az w.heap ms (mk.map f)
 ne:pA≠ms
theorem eo.drew {f:Nat→ag} {w:ah} {E ms:Nat} {A:Option bK} {n C nx:Nat} {mk:List Nat} (h:eo f w E ms A n C nx mk):eo f w.drew E ms A n C nx mk:=⟨h.ak,h.gk,h.ne⟩
theorem vI {f:Nat→ag} {mk:List Nat} {i x:Nat} :(mk.map f).set (0 +i*1) (f x)=(mk.set i x).map f:=by rw [List.map_set,cJ,Nat.mul_one]
section
variable {a:List aP} {f nx:Nat} {mk:List Nat} {n:Int}
theorem qA (h:n≠nx) (A:¬(0≤n∧n < nx)):vs a (f+1) (nx,mk) n=none:=by
 rw [xD h,if_neg (fun e=>A ⟨e.1,e.2.1⟩)]
theorem CS (h:n≠nx) (h0:0≤n) (h1:n < nx):(vs a (f+1) (nx,mk) n).isSome=decide (((mk.getD n.toNat 0:Nat):Int)=2):=by
 rw [xD h];by_cases A:mk.getD n.toNat 0=2
 · rw [if_pos ⟨h0,h1,A⟩,decide_eq_true ab]; rfl
 · rw [if_neg (fun e=>A e.2.2),decide_eq_false ab]; rfl
theorem CU {s:Nat×List Nat} (h:n≠nx) (A:vs a (f+1) (nx,mk) n=some s):s=(nx,mk):=by
 rw [xD h] at A;split at A
 · cases A; rfl
 · cases A
end
set_option maxHeartbeats 1000000 in
theorem K6 (f:Nat) (a:List aP) (O:Option bK) (aa E ms:Nat) (w0:ah) (nx:Nat) (mk:List Nat) (n:Int) (w:ah) (bo:eT w0.heap O a) (cx:w0.heap.size≤E) (hm:w0.heap.size≤ms) (a1:Wk w0 w) (I:eo jj w E ms O a.length aa nx mk) (cu:mk.length=a.length) (cw:nx≤a.length) (ct:a.length < f+nx) (hb:a.length≤1048576) (b3:∀ i,i < a.length→(aK a i).2.length≤1073741824):
 bc aq 87 (bh [aU E,.int .i64 n]) w (fun v w'=>v= .bool (vs a f (nx,mk) n).isSome∧Md (fun q=>q=E∨q=ms) w w'∧∀ s,vs a f (nx,mk) n=some s→eo jj w' E ms O a.length aa s.1 s.2):=by
 induction f generalizing nx mk n w with
 | zero=>omega
 | succ f ih=>
   have a3:∀ k,k < w0.heap.size→(k=E∨k=ms)→False:=fun k h1 ck=>ab;have cy:=I.ak.lt;have cv:=I.gk.lt;have ao:=I.ne;obtain ⟨cj,b0⟩:=I.ak;refine enter func87 U ntmps87 U<|aQ 12 U<|p (aw U<|I.ak.ay 1)<|aF 3 U<|cd U (fun au=> ?_) fun au=> ?_;refine aG 5 U<|gs (t:=16) U (fun b5=> ?_) fun b5=> ?_;refine aj 4 U<|bB U (aw U<|I.ak.ay 1)<|aj 3 U<|gs (t:=24) U (fun b6=> ?_) fun b6=> ?_;refine aj 3 U<|bB U (aw U<|I.ak.ay 2)<|aj 1 U<|bB U (ia rL U U ab)<|bB U (aw U (show _=some (a9 .u8 ((mk.getD n.toNat 0:Nat):Int)) from yI I.gk (i:=n.toNat) ab))<|ax 7 U<|aN U ?_;refine ⟨congrArg bC (CS au ab ab).symm,Md.refl _ _,fun s A=>by rw [CU au A]; exact I⟩;refine aj 9 U<|p aT<|ax 4 U<|aN U ?_;rw [qA au ab];exact ⟨U,Md.refl _ _,fun s A=>by cases A⟩;refine aj 7 U<|p mv<|aj 9 U<|p aT<|ax 4 U<|aN U ?_;rw [qA au ab];exact ⟨U,Md.refl _ _,fun s A=>by cases A⟩;obtain rfl :n=(nx:Int):=qF.1 au;refine aG 9 U<|p (aw U<|I.ak.ay 0)<|aF 4 U<|cd U (fun b1=> ?_) fun b1=> ?_;refine aE 7 U<|aN U ?_;rw [CY rfl ab];exact ⟨U,Md.refl _ _,fun s A=>by cases A⟩;refine aG 7 U<|p (aw U<|I.ak.ay 1)<|p (bM<|nx+1)<|aj 2 U<|e<|c9 cU U U U b0 (by simp) fun cg bv bL=> ?_;have br:az cg.heap E [.slice O a.length aa,.int .i64 ((nx+1:Nat):Int),.slice (some ⟨ms,0,none⟩) a.length a.length]:=⟨_,bL⟩
   have ca:=bv.B I.gk fun e=>ao e.symm;obtain ⟨em,bW⟩:=ca;refine aj 7 U<|p (aw U<|br.ay 2)<|aj 1 U<|p (ia rL U U ab)<|e<|c9 zc U U U bW (by simp; omega) fun aO bx bN=> ?_;have cc:az aO.heap ms ((mk.set nx 1).map jj):=by rw [← vI]; exact ⟨_,bN⟩
   have a4:eo jj aO E ms O a.length aa (nx+1) (mk.set nx 1):=⟨bx.B br ao,cc,ao⟩
   have a8:Md (fun q=>q=E∨q=ms) w aO:=Md.trans (bv.mono fun k _ h=> .inl h)<|bx.mono fun k _ h=> .inr h;have a2:Wk w0 aO:=Md.trans' a1 a8 a3;obtain ⟨ae,ag,bE,aC⟩:=bo.two (i:=nx) ab;have cn:=aC.wk a2;refine aj 7 U<|p (aw U<|a4.ak.ay 0)<|aj 1 U<|p (bJ kq U U ab<|bo.ok ab)<|p (eZ yu U (U)<|mT a2 bE)<|e<|dq C9 fun ad cA cr bV bO=>e<|ei ze U U U U bO (by simp) fun bm bT bP=> ?_;have bt:az bm.heap ad [bC (aK a nx).1,.slice ae (aK a nx).2.length ag]:=⟨_,bP⟩
   have aS:Wk aO bm:=Md.trans' bV.md bT fun k bz h=>by omega
   have bQ:eo jj bm E ms O a.length aa (nx+1) (mk.set nx 1):=⟨aS.B a4.ak,aS.B a4.gk,ao⟩
   have cm:=a8.size;refine aj 6 U<|p (aw U<|bt.ay 1)<|aF 5 U<|lp (fun bn bA av=> ∃ (k M:Nat) (J:List Nat),(k≤(aK a nx).2.length)∧(fE a f (nx+1) (mk.set nx 1) ((aK a nx).2.take k)=some (M,J))∧(dW<|(aK a nx).2.take k)∧(Wk w0 av)∧(Md (fun q=>q=E∨q=ms) w av)∧(eo jj av E ms O a.length aa M J)∧(az (av).heap ad [bC (aK a nx).1,.slice ae (aK a nx).2.length ag])∧(Sl bA [(0,aU E),(1,.int .i64 (nx:Int)),(5,aU ad),(62,.slice ae (aK a nx).2.length ag),(63,.int .i64 (aK a nx).2.length),(64,.int .i64 k)])∧((aK a nx).2.length - k=bn)) _ ⟨0,nx+1,mk.set nx 1,ab,U,List.Pairwise.nil,(Md.trans a2 aS),(Md.trans' a8 aS fun k _ h=>h.elim),bQ,bt,U,U⟩ ?_;rintro bn bA av ⟨k,M,J,bz,ac,aZ,aV,a6,aD,ar,ce,rfl⟩;refine bF ce<|bY 6 U<|cd U (fun b2=> ?_) fun b2=> ?_;refine bZ 5 U ?_;have cs:=b3 nx ab;obtain ⟨⟨c,z⟩,hek⟩:∃ e,(aK a nx).2[k]? =some e:=⟨_,bD ab⟩
   obtain ⟨⟨aR,ch⟩,hep⟩:∃ e,(aK a nx).2[k - 1]? =some e:=⟨_,bD ab⟩
   have bb:=sW ac ab;simp only [il] at bb;refine aG 2 U<|p (bJ mr U U ab<|aC.ok ab)<|p (eZ re U (U)<|mT aV<|aC.two hek)<|e<|dq L9 fun aA cz cp bU bG=>aj 1 U<|e<|ei Gm U U U U bG (by simp) fun aL bR bH=> ?_;have a0:az aL.heap aA [a9 .u8 c.toNat,.int .i64 z]:=⟨_,bH⟩
   have L:Wk av aL:=Md.trans' bU.md bR fun k bz h=>by omega
   have bu:eo jj aL E ms O a.length aa M J:=⟨L.B aD.ak,L.B aD.gk,ao⟩
   have a7:Md (fun q=>q=E∨q=ms) w aL:=Md.trans' a6 L fun k _ h=>h.elim;have co:=a6.size;refine aF 3 U ?_;have C:(fun w'=>Wk w0 w'∧az w'.heap ad [bC (aK a nx).1,.slice ae (aK a nx).2.length ag]∧az w'.heap aA [a9 .u8 c.toNat,.int .i64 z]) aL.drew:=⟨(Md.trans aV L).drew,L.B ar,a0⟩
   refine bp (fun w'=>Wk w0 w'∧az w'.heap ad [bC (aK a nx).1,.slice ae (aK a nx).2.length ag]∧az w'.heap aA [a9 .u8 c.toNat,.int .i64 z]) U wide C<|aM [0,1,2] U C<|ku (t:=71) U (fun b7=> ?_) fun b7=> ?_;refine aM [3] U C<|hH 4 U (fun w' Z=>aw U<|Z.2.1.ay 1) C<|aM [5] U C<|hH 6 U (fun _ _=>qq<|k - 1) C<|hH 7 U (fun _ _=>bJ mr U U ab<|aC.ok ab) C<|aM [8] U C<|hH 9 U (fun w' Z=>aw U (show _=some (a9 .u8 (aR.toNat:Int)) from (aC.wk Z.1).b (k - 1) (aR,ch) hep)) C<|aM [10] U C<|hH 11 U (fun w' Z=>aw U<|Z.2.2.ay 0) C<|aM [12,13,14] U C<|ku (t:=83) U (fun b8=> ?_) fun b8=> ?_;refine aM [15,16,17,18,19,20] U C<|hn ai<|bf 10 U<|tr<|bf 2 U<|aN U ?_;rw [CX ab (Bg ab hek hep<|by show c.toNat≤aR.toNat; omega)];exact ⟨U,a7.drew,fun s A=>by cases A⟩;refine aM [15,16] U C<|hH 17 U (fun w' Z=>aw U<|Z.2.2.ay 1) C<|Aq 18 U ai U U U<|aX (ih M J z _ (Md.trans aV L).drew (eo.drew bu) ab ab ab) U ?_;rintro cf ap ⟨rfl,V,bi⟩;have al:Md (fun q=>q=E∨q=ms) w ap:=Md.trans a7<|Md.dr V;have aB:Wk w0 ap:=Md.trans' a1 al a3;have aH:(fun w'=>Wk w0 w'∧az w'.heap ad [bC (aK a nx).1,.slice ae (aK a nx).2.length ag]∧az w'.heap aA [a9 .u8 c.toNat,.int .i64 z]) ap:=⟨aB,V.B (L.B ar) (fun e=>by omega),V.B a0 fun e=>by omega⟩
   refine ⟨aH,?_⟩;refine aM [19,20] U aH<|hn ai<|dM 1 U<|cb U (fun am=> ?_) fun am=> ?_;have bd:vs a f (M,J) z=none:=by simpa using am
   refine aE 8 U<|tr<|bf 2 U<|aN U ?_;rw [sV (k:=k+1) ab (by rw [lT ac hek]; exact bd)];exact ⟨U,al,fun s A=>by cases A⟩;obtain ⟨aJ,aI⟩:∃ s,vs a f (M,J) z=some s:=l8.1<|by simpa using am
   exact aE 7 U<|tn<|⟨_,ab,k+1,aJ.1,aJ.2,ab,(by rw [lT ac hek]; exact aI),(su aZ hek fun q h0 bg=>by rw [hep] at bg; cases bg; show aR.toNat < c.toNat; omega),aB,al,(bi _ aI),(V.B (L.B ar) fun e=>by omega),U,U⟩
   refine aM [3,4,5,6,7,8,9,10,11,12,13] U C<|cW 14 U (mv) C<|aM [15,16] U C<|hH 17 U (fun w' Z=>aw U<|Z.2.2.ay 1) C<|Aq 18 U ai U U U<|aX (ih M J z _ (Md.trans aV L).drew (eo.drew bu) ab ab ab) U ?_;rintro cf ap ⟨rfl,V,bi⟩;have al:Md (fun q=>q=E∨q=ms) w ap:=Md.trans a7<|Md.dr V;have aB:Wk w0 ap:=Md.trans' a1 al a3;have aH:(fun w'=>Wk w0 w'∧az w'.heap ad [bC (aK a nx).1,.slice ae (aK a nx).2.length ag]∧az w'.heap aA [a9 .u8 c.toNat,.int .i64 z]) ap:=⟨aB,V.B (L.B ar) (fun e=>by omega),V.B a0 fun e=>by omega⟩
   refine ⟨aH,?_⟩;refine aM [19,20] U aH<|hn ai<|dM 1 U<|cb U (fun am=> ?_) fun am=> ?_;have bd:vs a f (M,J) z=none:=by simpa using am
   refine aE 8 U<|tr<|bf 2 U<|aN U ?_;rw [sV (k:=k+1) ab (by rw [lT ac hek]; exact bd)];exact ⟨U,al,fun s A=>by cases A⟩;obtain ⟨aJ,aI⟩:∃ s,vs a f (M,J) z=some s:=l8.1<|by simpa using am
   exact aE 7 U<|tn<|⟨_,ab,k+1,aJ.1,aJ.2,ab,(by rw [lT ac hek]; exact aI),(su aZ hek fun q h0 bg=>by omega),aB,al,(bi _ aI),(V.B (L.B ar) fun e=>by omega),U,U⟩
   refine aE 2 U<|cq<|dM 3 U ?_;obtain ⟨ci,bX⟩:=aD.gk;rw [show k=(aK a nx).2.length by omega,Ej] at ac aZ;have bb:=sW ac ab;simp only [il] at bb;have bj:=CV ab aZ ac;refine aG 4 U<|p (aw U<|aD.ak.ay 2)<|aj 1 U<|p (ia rL U U ab)<|e<|c9 zc U U U bX (by simp; omega) fun bl a5 bI=> ?_;have b9:az bl.heap ms ((J.set nx 2).map jj):=by rw [← vI]; exact ⟨_,bI⟩
   have aW:eo jj bl E ms O a.length aa M (J.set nx 2):=⟨a5.B aD.ak ao,b9,ao⟩
   have aY:Md (fun q=>q=E∨q=ms) w bl:=Md.trans a6<|a5.mono fun k _ h=> .inr h;have bq:=a5.B ar fun e=>by omega
   refine aj 5 U<|p (aw U<|bq.ay 1)<|aj 3 U<|gs (t:=101) U (fun b4=> ?_) fun b4=> ?_;refine aj 3 U<|p mv<|aj 7 U<|p aT<|ax 3 U<|aN U ?_;rw [bj,if_pos (AT ab)];exact ⟨U,aY,fun s A=>by cases A; exact aW⟩;refine aj 1 U<|bB U (aw U<|bq.ay 0)<|aj 2 U<|gb (t:=105) U (fun ba=> ?_) fun ba=> ?_;refine aj 7 U<|p aT<|ax 3 U<|aN U ?_;rw [bj,if_pos (AS ba)];exact ⟨U,aY,fun s A=>by cases A; exact aW⟩;refine aj 3 U<|bB U (aw U<|aW.ak.ay 0)<|ax 7 U<|aN U ?_;rw [bj,vA ab ba];by_cases h1:a.length=1;rw [if_pos (decide_eq_true h1)];exact ⟨congrArg bC (decide_eq_true ab),aY,fun s A=>by cases A; exact aW⟩;rw [if_neg (by simpa using h1)];exact ⟨congrArg bC (decide_eq_false ab),aY,fun s A=>by cases A⟩
def qt (a:List aP):Int:=if shaped a=true then 0 else 190
theorem j0 {a:List aP} (h:shaped a=false):qt a=190:=if_neg<|by rw [h]; exact cD
theorem sG {a:List aP} (h:shaped a=true):qt a=0:=if_pos h
def jk (x:Nat):ag:= .bool<|decide (x=2)
theorem Iu {mk:List Nat} {i:Nat} (h:mk.getD i 0=0):(mk.set i 1).map jk=mk.map jk:=by
 refine List.ext_getElem? fun j=> ?_;rw [gP,gP,List.getElem?_set];by_cases e:i=j
 · subst e;rw [if_pos rfl];by_cases A:i < mk.length
   · rw [if_pos A,bD A];rw [cm,bD A] at h;have h0:mk[i]=0:=h;rw [h0]; rfl
   · rw [if_neg A,List.getElem?_eq_none ab]
 · rw [if_neg e]
theorem L3 (n:Nat):∀ i,0≤i→(dk n 0).getD i 0=0:=fun i _=>by
 rw [cm,List.getElem?_replicate]; split <;> rfl
set_option maxHeartbeats 1000000 in
theorem JZ (a:List aP) (A:Option bK) (E:Nat) (w:ah) (ad:eT w.heap A a) (aC:a.length≤140737488355328) (ar:∀ i,i < a.length→(aK a i).2.length≤1073741824):
 bc aq 50 (bh [.slice A a.length E]) w (fun v w'=>v= .int .i64 (qt a)∧Wk w w'):=by
 refine enter func50 U ntmps50 U<|aQ 12 U<|gs (t:=7) U (fun au=> ?_) fun au=> ?_;exact ax 14 U<|aN U<|⟨iv (j0<|sI ab).symm,Md.refl _ _⟩
 refine aF 6 U<|cd U (fun ao=> ?_) fun ao=> ?_;exact aE 7 U<|aN U<|⟨iv (j0<|sI ab).symm,Md.refl _ _⟩
 refine aG 7 U<|e<|gk (zv:= .int .u8 0) lP U U U U ab (by unfold maxLen; omega) fun C aB aH J av=> ?_;have ag:az aB.heap C ((dk a.length 0).map jj):=by rw [Ef]; exact Bu<|av _<|aR _
 refine p (eF (ps:= [(0,.slice A a.length E),(2,.slice (some ⟨C,0,none⟩) a.length a.length)]) (L:= [.slice A a.length E,.int .i64 0,.slice (some ⟨C,0,none⟩) a.length a.length]) Km U<|U)<|e<|mg U fun V ac aD aa ae=> ?_;have al:eo jj ac V C A a.length E 0 (dk a.length 0):=⟨ae,aa.md.B ag,by have :=J.size; omega⟩
 have Z:Wk w ac:=Md.trans J.md aa.md;have aJ:=J.md.size;refine aj 7 U<|e<|aX (K6 (a.length+1) a A E V C w 0 (dk a.length 0) 0 _ ad ab ab Z al (by simp) ab ab ab ar) U ?_;rintro aM aA ⟨rfl,am,bp⟩;have I:Wk w aA:=Md.trans' Z am fun k aI h=>by omega
 refine aj 2 U<|gb (t:=21) U (fun M=> ?_) fun M=> ?_;have hn:vs a (a.length+1) (0,dk a.length 0) 0=none:=by simpa using M
 exact ax 18 U<|aN U<|⟨iv (j0<|Cc hn).symm,I⟩
 obtain ⟨aL,O⟩:∃ s,vs a (a.length+1) (0,dk a.length 0) 0=some s:=l8.1<|by simpa using M
 have ai:=bp _ O;refine aj 3 U<|bB U (aw U<|ai.ak.ay 1)<|aF 6 U<|cd U (fun ap=> ?_) fun ap=> ?_;exact aE 7 U<|aN U<|⟨iv (j0<|by rw [sJ ab ab O]; exact decide_eq_false ab).symm,I⟩
 exact aE 8 U<|aN U<|⟨iv (sG<|by rw [sJ ab ab O]; exact decide_eq_true ab).symm,I⟩
set_option maxHeartbeats 1000000 in
theorem K7 (f:Nat) (a:List aP) (V:Option bK) (ae A ms:Nat) (w0:ah) (nx:Nat) (mk:List Nat) (n:Int) (w:ah) (a7:eT w0.heap V a) (ci:w0.heap.size≤A) (hm:w0.heap.size≤ms) (aV:Wk w0 w) (I:eo jk w A ms V a.length ae nx mk) (cf:mk.length=a.length) (ch:nx≤a.length) (ce:a.length < f+nx) (hb:a.length≤1048576) (bP:∀ i,i < a.length→(aK a i).2.length≤1073741824) (bi:∀ i,nx≤i→mk.getD i 0=0):
 bc aq 93 (bh [aU A,.int .i64 n]) w (fun v w'=>v= .bool (vs a f (nx,mk) n).isSome∧Md (fun q=>q=A∨q=ms) w w'∧∀ s,vs a f (nx,mk) n=some s→eo jk w' A ms V a.length ae s.1 s.2):=by
 induction f generalizing nx mk n w with
 | zero=>omega
 | succ f ih=>
   have aY:∀ k,k < w0.heap.size→(k=A∨k=ms)→False:=fun k h1 b8=>ab;have cj:=I.ak.lt;have cg:=I.gk.lt;have ar:=I.ne;obtain ⟨b7,bG⟩:=I.ak;refine enter func93 U ntmps93 U<|aQ 11 U<|gs (t:=10) U (fun bQ=> ?_) fun bQ=> ?_;refine aj 8 U<|p mv<|ax 17 U<|aN U ?_;rw [qA ab ab];exact ⟨U,Md.refl _ _,fun s E=>by cases E⟩;refine aj 4 U<|bB U (aw U<|I.ak.ay 0)<|aj 4 U<|gs (t:=19) U (fun bR=> ?_) fun bR=> ?_;refine ax 17 U<|aN U ?_;have b1:vs a (f+1) (nx,mk) n=none:=by
    by_cases h:n=nx;exact CY h ab;exact qA h ab
   rw [b1];exact ⟨U,Md.refl _ _,fun s E=>by cases E⟩;refine aj 4 U<|bB U (aw U<|I.ak.ay 1)<|aF 4 U<|cd U (fun bH=> ?_) fun bH=> ?_;refine aE 7 U<|aN U ?_;rw [qA ab ab];exact ⟨U,Md.refl _ _,fun s E=>by cases E⟩;refine aG 9 U<|p (aw U<|I.ak.ay 1)<|aF 3 U<|cd U (fun bI=> ?_) fun bI=> ?_;exact aG 5 U<|p (aw U<|I.ak.ay 2)<|aj 1 U<|p (ia zY U U ab)<|p (aw U (show _=some (bC<|decide (mk.getD n.toNat 0=2)) from yI I.gk (i:=n.toNat) ab))<|ax 5 U<|aN U<|⟨congrArg bC ((CS ab ab ab).trans<|by rw [decide_eq_decide]; omega).symm,Md.refl _ _,fun s E=>by rw [CU ab E]; exact I⟩
   obtain rfl :n=(nx:Int):=ab;refine aG 8 U<|p (aw U<|I.ak.ay 1)<|p (bM<|nx+1)<|aj 2 U<|e<|c9 cU U U U bG (by simp) fun aS bd br=> ?_;have aZ:eo jk aS A ms V a.length ae (nx+1) (mk.set nx 1):=⟨⟨_,br⟩,by rw [Iu (bi nx<|aR _)]; exact bd.B I.gk (fun e=>ar e.symm),ar⟩
   have a0:Md (fun q=>q=A∨q=ms) w aS:=bd.mono fun k _ h=> .inl h;have a8:Wk w0 aS:=Md.trans' aV a0 aY;obtain ⟨aD,aH,bo,O⟩:=a7.two (i:=nx) ab;refine aj 7 U<|p (aw U<|aZ.ak.ay 0)<|aj 1 U<|p (bJ GY U U ab<|a7.ok ab)<|p (eZ yt U (U)<|mT a8 bo)<|e<|dq C7 fun ad ck ca bA bt=>e<|ei y8 U U U U bt (by simp) fun aB bx bu=> ?_;have aT:az aB.heap ad [bC (aK a nx).1,.slice aD (aK a nx).2.length aH]:=⟨_,bu⟩
   have aI:Wk aS aB:=Md.trans' bA.md bx fun k bV h=>by omega
   have ba:eo jk aB A ms V a.length ae (nx+1) (mk.set nx 1):=⟨aI.B aZ.ak,aI.B aZ.gk,ar⟩
   have b9:=a0.size;have bg:Md (fun q=>q=A∨q=ms) w aB:=Md.trans' a0 aI fun k _ h=>h.elim;refine aF 2 U ?_;refine eL (fun bm bl=>(gi a (aK a nx)=true)∧(bl=aB)∧(Sl bm [(0,aU A),(1,.int .i64 (nx:Int)),(5,aU ad)])) ?_ ?_;refine aQ 3 U<|p (aw U<|aT.ay 1)<|aj 3 U<|gs (t:=59) U (fun bT=> ?_) fun bT=> ?_;refine aj 1 U<|bB U (aw U<|aT.ay 0)<|aj 3 U<|gb (t:=64) U (fun aL=> ?_) fun aL=> ?_;refine aj 3 U<|bB U (aw U<|ba.ak.ay 0)<|aF 5 U<|cd U (fun bL=> ?_) fun bL=> ?_;refine aE 6 U<|tr<|aN U ?_;rw [K9 ab (by rw [vA ab (by simpa using aL)]; exact decide_eq_false ab)];exact ⟨U,bg,fun s E=>by cases E⟩;exact aE 1 U<|tn<|⟨(by rw [vA ab (by simpa using aL)]; exact decide_eq_true ab),U,U⟩
   exact ax 11 U<|tn<|⟨(AS<|by simpa using aL),U,U⟩
   exact aj 4 U<|p mv<|ax 11 U<|tn<|⟨(AT ab),U,U⟩
   rintro bm bl ⟨bW,b3,bY⟩;refine bF bY ?_;subst b3;refine bZ 7 U<|lp (fun a6 bn al=> ∃ (k L:Nat) (J:List Nat),(k≤(aK a nx).2.length)∧(fE a f (nx+1) (mk.set nx 1) ((aK a nx).2.take k)=some (L,J))∧(dW<|(aK a nx).2.take k)∧(Wk w0 al)∧(Md (fun q=>q=A∨q=ms) w al)∧(eo jk al A ms V a.length ae L J)∧(az (al).heap ad [bC (aK a nx).1,.slice aD (aK a nx).2.length aH])∧(Sl bn [(0,aU A),(1,.int .i64 (nx:Int)),(5,aU ad),(6,.int .i64 k)])∧((aK a nx).2.length - k=a6)) _ ⟨0,nx+1,mk.set nx 1,ab,U,List.Pairwise.nil,(Md.trans a8 aI),bg,ba,aT,U,U⟩ ?_;rintro a6 bn al ⟨k,L,J,bV,M,aO,am,aJ,ao,ag,b0,rfl⟩;refine bF b0<|aQ 5 U<|p (aw U<|ag.ay 1)<|aF 4 U<|cd U (fun bN=> ?_) fun bN=> ?_;refine bZ 6 U ?_;have cc:=bP nx ab;obtain ⟨⟨c,z⟩,hek⟩:∃ e,(aK a nx).2[k]? =some e:=⟨_,bD ab⟩
   obtain ⟨⟨aC,b5⟩,hep⟩:∃ e,(aK a nx).2[k - 1]? =some e:=⟨_,bD ab⟩
   have a1:=sW M ab;simp only [il] at a1;have bj:=Lf M fun i hi=>by rw [getD_set_ne _ _ ab]; exact bi i ab
   have C:(fun w'=>Wk w0 w'∧az w'.heap ad [bC (aK a nx).1,.slice aD (aK a nx).2.length aH]) al.drew:=⟨am.drew,ag⟩
   refine bp (fun w'=>Wk w0 w'∧az w'.heap ad [bC (aK a nx).1,.slice aD (aK a nx).2.length aH]) U wide C<|aM [0,1,2] U C<|ku (t:=81) U (fun bU=> ?_) fun bU=> ?_;refine aM [3] U C<|hH 4 U (fun w' aa=>aw U<|aa.2.ay 1) C<|aM [5] U C<|hH 6 U (fun _ _=>bJ rK U U ab<|O.ok ab) C<|aM [7] U C<|hH 8 U (fun w' aa=>aw U (show _=some (a9 .u8 (c.toNat:Int)) from (O.wk aa.1).b k (c,z) hek)) C<|aM [9] U C<|hH 10 U (fun w' aa=>aw U<|aa.2.ay 1) C<|aM [11] U C<|hH 12 U (fun _ _=>qq<|k - 1) C<|hH 13 U (fun _ _=>bJ rK U U ab<|O.ok ab) C<|aM [14] U C<|hH 15 U (fun w' aa=>aw U (show _=some (a9 .u8 (aC.toNat:Int)) from (O.wk aa.1).b (k - 1) (aC,b5) hep)) C<|aM [16,17] U C<|hn ai<|dM 1 U<|cd U (fun bO=> ?_) fun bO=> ?_;refine aE 9 U<|tr<|bf 2 U<|aN U ?_;rw [CX ab (Bg ab hek hep<|by show c.toNat≤aC.toNat; omega)];exact ⟨U,aJ.drew,fun s E=>by cases E⟩;refine aG 6 U<|p (aw U<|ag.ay 1)<|aj 1 U<|p (bJ rK U U ab<|O.ok ab)<|aj 1 U<|p (aw U (show _=some (a9 .i64 z) from (O.wk am).to k (c,z) hek))<|e<|aX (ih L J z _ (Md.drew am) (eo.drew ao) ab ab ab bj) U ?_;rintro b4 aA ⟨rfl,ap,a4⟩;have Z:Md (fun q=>q=A∨q=ms) w aA:=Md.trans aJ<|Md.dr ap;have aW:Wk w0 aA:=Md.trans' aV Z aY;refine aF 9 U<|cb U (fun ac=> ?_) fun ac=> ?_;have a2:vs a f (L,J) z=none:=by simpa using ac
   refine aE 8 U<|tr<|bf 2 U<|aN U ?_;rw [sV (k:=k+1) ab (by rw [lT M hek]; exact a2)];exact ⟨U,Z,fun s E=>by cases E⟩;obtain ⟨av,au⟩:∃ s,vs a f (L,J) z=some s:=l8.1<|by simpa using ac
   exact aE 8 U<|tn<|⟨_,ab,k+1,av.1,av.2,ab,(by rw [lT M hek]; exact au),(su aO hek fun q h0 a3=>by rw [hep] at a3; cases a3; show aC.toNat < c.toNat; omega),aW,Z,(a4 _ au),(ap.B ag fun e=>by omega),U,U⟩
   refine aM [3,4,5,6,7,8,9,10,11,12,13,14,15,16,17] U C<|hn ai<|gh 8 U<|p (aw U<|ag.ay 1)<|aj 1 U<|p (bJ rK U U ab<|O.ok ab)<|aj 1 U<|p (aw U (show _=some (a9 .i64 z) from (O.wk am).to k (c,z) hek))<|e<|aX (ih L J z _ (Md.drew am) (eo.drew ao) ab ab ab bj) U ?_;rintro b4 aA ⟨rfl,ap,a4⟩;have Z:Md (fun q=>q=A∨q=ms) w aA:=Md.trans aJ<|Md.dr ap;have aW:Wk w0 aA:=Md.trans' aV Z aY;refine aF 9 U<|cb U (fun ac=> ?_) fun ac=> ?_;have a2:vs a f (L,J) z=none:=by simpa using ac
   refine aE 8 U<|tr<|bf 2 U<|aN U ?_;rw [sV (k:=k+1) ab (by rw [lT M hek]; exact a2)];exact ⟨U,Z,fun s E=>by cases E⟩;obtain ⟨av,au⟩:∃ s,vs a f (L,J) z=some s:=l8.1<|by simpa using ac
   exact aE 8 U<|tn<|⟨_,ab,k+1,av.1,av.2,ab,(by rw [lT M hek]; exact au),(su aO hek fun q h0 a3=>by omega),aW,Z,(a4 _ au),(ap.B ag fun e=>by omega),U,U⟩
   refine aE 2 U<|cq<|dM 3 U ?_;obtain ⟨b6,bE⟩:=ao.gk;rw [show k=(aK a nx).2.length by omega,Ej] at M aO;have a1:=sW M ab;simp only [il] at a1;have b2:=CV ab aO M;refine aG 4 U<|p (aw U<|ao.ak.ay 2)<|aj 1 U<|p (ia zY U U ab)<|e<|c9 y9 U U U bE (by simp; omega) fun a5 bb bq=> ?_;have bX:az a5.heap ms ((J.set nx 2).map jk):=by rw [← vI]; exact ⟨_,bq⟩
   have bv:eo jk a5 A ms V a.length ae L (J.set nx 2):=⟨bb.B ao.ak ar,bX,ar⟩
   have bz:Md (fun q=>q=A∨q=ms) w a5:=Md.trans aJ<|bb.mono fun k _ h=> .inr h;refine ax 8 U<|aN U ?_;rw [b2,if_pos bW];exact ⟨U,bz,fun s E=>by cases E; exact bv⟩
set_option maxHeartbeats 1000000 in
theorem J0 (a:List aP) (A:Option bK) (E:Nat) (w:ah) (ad:eT w.heap A a) (aC:a.length≤140737488355328) (ar:∀ i,i < a.length→(aK a i).2.length≤1073741824):
 bc aq 63 (bh [.slice A a.length E]) w (fun v w'=>v= .int .i64 (qt a)∧Wk w w'):=by
 refine enter func63 U ntmps63 U<|aQ 12 U<|gs (t:=8) U (fun au=> ?_) fun au=> ?_;exact ax 14 U<|aN U<|⟨iv (j0<|sI ab).symm,Md.refl _ _⟩
 refine aF 6 U<|cd U (fun ao=> ?_) fun ao=> ?_;exact aE 7 U<|aN U<|⟨iv (j0<|sI ab).symm,Md.refl _ _⟩
 refine aG 7 U<|e<|gk (zv:= .bool false) Ka U U U U ab (by unfold maxLen; omega) fun C aB aH J av=> ?_;have ag:az aB.heap C ((dk a.length 0).map jk):=by rw [Ef]; exact Bu<|av _<|aR _
 refine p (eF (ps:= [(0,.slice A a.length E),(2,.slice (some ⟨C,0,none⟩) a.length a.length)]) (L:= [.slice A a.length E,.int .i64 0,.slice (some ⟨C,0,none⟩) a.length a.length]) Ko U<|U)<|e<|mg U fun V ac aD aa ae=> ?_;have al:eo jk ac V C A a.length E 0 (dk a.length 0):=⟨ae,aa.md.B ag,by have :=J.size; omega⟩
 have Z:Wk w ac:=Md.trans J.md aa.md;have aJ:=J.md.size;refine aj 6 U<|e<|aX (K7 (a.length+1) a A E V C w 0 (dk a.length 0) 0 _ ad ab ab Z al (by simp) ab ab ab ar<|L3 _) U ?_;rintro v20 aA ⟨rfl,am,bp⟩;have I:Wk w aA:=Md.trans' Z am fun k aI h=>by omega
 refine aj 9 U<|gb (t:=23) U (fun M=> ?_) fun M=> ?_;have hn:vs a (a.length+1) (0,dk a.length 0) 0=none:=by simpa using M
 exact ax 18 U<|aN U<|⟨iv (j0<|Cc hn).symm,I⟩
 obtain ⟨aL,O⟩:∃ s,vs a (a.length+1) (0,dk a.length 0) 0=some s:=l8.1<|by simpa using M
 have ai:=bp _ O;refine aj 3 U<|bB U (aw U<|ai.ak.ay 1)<|aF 6 U<|cd U (fun ap=> ?_) fun ap=> ?_;exact aE 7 U<|aN U<|⟨iv (j0<|by rw [sJ ab ab O]; exact decide_eq_false ab).symm,I⟩
 exact aE 8 U<|aN U<|⟨iv (sG<|by rw [sJ ab ab O]; exact decide_eq_true ab).symm,I⟩
end Go.Hb
end
section
namespace Go.Hb.fZ
open Go.Hb.dQ
theorem KN {s:List UInt8} {i:Nat} (h:i < s.length):(s.drop i).take 1= [s.getD i 0]:=by
 rw [drop_cons 0 h]; rfl
def fk (l:List (Bool×ag)):List ag:=l.flatMap fun q=> [.bool q.1,q.2]
def eW (l:List (UInt8×Int)):List ag:=l.flatMap fun e=> [.int .u8 e.1.toNat,.int .i64 e.2]
theorem Tg.kD {F:Nat→Prop} {w w':ah} {B e n:Nat} {v:ag} {xs:List ag} (h:Tg w B e n v xs) (hm:Md F w w') (I:∀ k,F k→B≤k→∀ cur z,w.heap[k]?≠some (.cells cur e z)):Tg w' B e n v xs:=by
 obtain ⟨a,C,rfl,E,h | ⟨b,cur,z,rfl,hb,A,L⟩⟩:=h
 · exact ⟨a,C,U,E,.inl h⟩
 · exact ⟨_,C,U,E,.inr ⟨b,cur,z,U,hb,by rw [hm.dG b (dj.1 A).1 (fun J=>I b J hb cur z A)]; exact A,L⟩⟩
theorem Bf {w:ah} {k:Nat} (h:w.heap.size≤k) (cur:Array ag) (e:Nat) (z:Nat×Nat):w.heap[k]?≠some (.cells cur e z):=by
 rw [Array.getElem?_eq_none h]; intro h; cases h
def eD (w:ah) (B:Nat) (A:List (Bool×ag)) (l:List aP):Prop :=A.length=l.length∧∀ (i:Nat) q e,A[i]? =some q→l[i]? =some e→q.1=e.1∧Tg w B 84 e.2.length q.2 (eW e.2)
theorem eD.nil (w:ah) (B:Nat):eD w B [] []:=⟨rfl,fun i q r A=>by simp at A⟩
theorem eD.md {F:Nat→Prop} {w w':ah} {B:Nat} {C:List (Bool×ag)} {l:List aP} (h:eD w B C l) (hm:Md F w w') (E:∀ k,F k→B≤k→∀ cur z,w.heap[k]?≠some (.cells cur 84 z)):eD w' B C l:=
 ⟨h.1,fun i q r h1 A=>⟨(h.2 i q r h1 A).1,Tg.kD (h.2 i q r h1 A).2 hm E⟩⟩
theorem eD.wk {w w':ah} {B:Nat} {A:List (Bool×ag)} {l:List aP} (h:eD w B A l) (hm:Wk w w'):eD w' B A l:=h.md hm fun _ C=>C.elim
theorem eD.snoc {w:ah} {B:Nat} {C:List (Bool×ag)} {l:List aP} {v:ag} {e:aP} (ha:eD w B C l) (I:Tg w B 84 e.2.length v (eW e.2)):eD w B (C++ [(e.1,v)]) (l++ [e]):=by
 refine ⟨by rw [cw,cw,ha.1]; rfl,fun i q' r' h1 A=> ?_⟩;have E:=ha.1;by_cases hi:i < C.length
 · rw [fm hi] at h1;rw [fm ab] at A;exact ha.2 i q' r' h1 A
 · rw [fH ab] at h1;rw [fH ab,← E] at A;cases hj:i - C.length with
   | zero=>rw [hj] at h1 A; cases h1; cases A; exact ⟨rfl,I⟩
   | succ j=>rw [hj] at h1; simp at h1
def eR (w:ah) (B:Nat) (v:ag) (l:List aP):Prop := ∃ A,Tg w B 81 l.length v (fk A)∧eD w B A l
theorem eR.md {F:Nat→Prop} {w w':ah} {B:Nat} {v:ag} {l:List aP} (h:eR w B v l) (hm:Md F w w') (C:∀ k,F k→B≤k→∀ cur z,w.heap[k]?≠some (.cells cur 81 z)∧w.heap[k]?≠some (.cells cur 84 z)):eR w' B v l:=by
 obtain ⟨I,h1,E⟩:=h;exact ⟨I,Tg.kD h1 hm fun k A hb cur z=>(C k A hb cur z).1,E.md hm fun k A hb cur z=>(C k A hb cur z).2⟩
theorem eR.wk {w w':ah} {B:Nat} {v:ag} {l:List aP} (h:eR w B v l) (hm:Wk w w'):eR w' B v l:=h.md hm fun _ A=>A.elim
theorem eR.mono {w:ah} {B B':Nat} {v:ag} {l:List aP} (h:eR w B v l) (C:B'≤B):eR w B' v l:=by
 obtain ⟨J,h1,I,A⟩:=h;exact ⟨J,h1.mono C,I,fun i q e E he=>⟨(A i q e E he).1,(A i q e E he).2.mono C⟩⟩
theorem eR.ew {w:ah} {B:Nat} {v:ag} {l:List aP} (h:eR w B v l):∃ A cc,v= .slice A l.length cc∧l.length≤cc∧eT w.heap A l:=by
 obtain ⟨V,h1,aj,ad⟩:=h;obtain ⟨A,cc,rfl⟩:=h1.slice;obtain ⟨ae,J⟩:=h1.pC;refine ⟨A,cc,U,ae,fun h0=>bd.ok J (nZ (f:=fun q:Bool×ag=> [bC q.1,q.2]) (m:=2) (fun _=>rfl) aD ab),fun i hi=> ?_⟩;have M:V[i]? =some (V[i]'ab):=bD ab;have ai:l[i]? =some (aK l i):=by
  unfold aK;rw [cm,bD hi]; rfl
 obtain ⟨ac,E⟩:=ad i _ _ M ai;obtain ⟨Z,aa,O⟩:=E.slice;have I:=E;rw [O] at I;obtain ⟨_,C⟩:=I.pC;have L:=lB (f:=fun q:Bool×ag=> [bC q.1,q.2]) (m:=2) (fun _=>rfl) J M;refine ⟨Z,aa,by rw [L 0 ab,ac]; rfl,by rw [L 1 ab,O]; rfl,fun h0=>bd.ok C (nZ (f:=fun e:UInt8×Int=> [a9 .u8 e.1.toNat,.int .i64 e.2]) (m:=2) (fun _=>rfl) aD h0),fun k e he=> ?_,fun k e he=> ?_⟩
 · exact lB (f:=fun e:UInt8×Int=> [a9 .u8 e.1.toNat,.int .i64 e.2]) (m:=2) (fun _=>rfl) C he 0 ab
 · exact lB (f:=fun e:UInt8×Int=> [a9 .u8 e.1.toNat,.int .i64 e.2]) (m:=2) (fun _=>rfl) C he 1 ab
theorem Cb (A:List (Bool×ag)) (q:Bool×ag):fk (A++ [q])=fk A++ [.bool q.1,q.2]:=by simp [fk]
theorem zF (es:List (UInt8×Int)) (e:UInt8×Int):eW (es++ [e])=eW es++ [.int .u8 e.1.toNat,.int .i64 e.2]:=by simp [eW]
theorem B9 (l:List (Bool×ag)):(fk l).length=l.length*2:=rQ (f:=fun q:Bool×ag=> [bC q.1,q.2]) (m:=2) (fun _=>rfl) l
theorem zE (l:List (UInt8×Int)):(eW l).length=l.length*2:=rQ (f:=fun e:UInt8×Int=> [a9 .u8 e.1.toNat,.int .i64 e.2]) (m:=2) (fun _=>rfl) l
section
variable {s:List UInt8} {n a e t p v k:Nat} {es:List (UInt8×Int)} {l:List aP}
theorem zG (h:s.length≤a):dZ s n a= .error 60:=by unfold dZ; rw [if_pos h]
theorem zH (h:¬s.length≤a) (h1:a0 s (a+1)= .error e):dZ s n a= .error e:=by unfold dZ; rw [if_neg h,h1]
theorem zI (h:¬s.length≤a) (h1:a0 s (a+1)= .ok (t,p)) (A:n≤t):dZ s n a= .error 190:=by unfold dZ; rw [if_neg h,h1]; exact if_pos A
theorem zJ (h:¬s.length≤a) (h1:a0 s (a+1)= .ok (t,p)) (A:¬n≤t):dZ s n a= .ok ((s.getD a 0,(t:Int)),p):=by unfold dZ; rw [if_neg h,h1]; exact if_neg A
theorem Cv (h:a0 s a= .error e):fl s n a= .error e:=by unfold fl; rw [h]
theorem Cw (h:a0 s a= .ok (v,p)) (A:256 < v / 2):fl s n a= .error 190:=by unfold fl; rw [h]; exact if_pos A
theorem Cx (h:a0 s a= .ok (v,p)) (A:¬256 < v / 2) (C:cn (dZ s n) (v / 2) p= .error e):fl s n a= .error e:=by unfold fl; rw [h]; simp only; rw [if_neg A,C]
theorem Cy (h:a0 s a= .ok (v,p)) (A:¬256 < v / 2) (C:cn (dZ s n) (v / 2) p= .ok (es,t)):fl s n a= .ok ((decide (v % 2=1),es),t):=by unfold fl; rw [h]; simp only; rw [if_neg A,C]
theorem BV (h:a0 s a= .error e):cH s a= .error e:=by unfold cH; rw [h]
theorem sD (h:a0 s a= .ok (n,p)) (A:n=0∨1048576 < n):cH s a= .error 190:=by unfold cH; rw [h]; exact if_pos A
theorem oF (h:a0 s a= .ok (n,p)) (A:¬(n=0∨1048576 < n)) (C:cn (fl s n) n p= .error e):cH s a= .error e:=by unfold cH; rw [h]; simp only; rw [if_neg A,C]
theorem BW (h:a0 s a= .ok (n,p)) (A:¬(n=0∨1048576 < n)) (C:cn (fl s n) n p= .ok (l,t)) (E:shaped l=false):cH s a= .error 190:=by unfold cH; rw [h]; simp only; rw [if_neg A,C]; simp only; rw [E]; rfl
theorem BX (h:a0 s a= .ok (n,p)) (A:¬(n=0∨1048576 < n)) (C:cn (fl s n) n p= .ok (l,t)) (E:shaped l=true):cH s a= .ok (l,t):=by unfold cH; rw [h]; simp only; rw [if_neg A,C]; simp only; rw [E]; rfl
end
theorem JO (rb:Nat) (s:List UInt8) (a:Nat) (w:ah) (a7:az w.heap rb [str s,.int .i64 (a:Nat)]) (aO:s.length≤1048576) (ha:a≤s.length):
 mb aq 58 (bh [.pointer (some ⟨rb,0,none⟩)]) w (fun v w'=> ∃ l p,cH s a= .ok (l,p)∧eR w' w.heap.size v l∧az w'.heap rb [str s,.int .i64 (p:Nat)]∧Md (fun k=>k=rb) w w') (fun c w'=> ∃ e,cH s a= .error e∧c=kr e∧Md (fun k=>k=rb) w w'):=by
 have dc:=a7.lt;refine pI func58 U ntmps58 U<|aQ 7 U<|p mv<|eP U (ej lr (og rb s (a) w a7 aO<|ha) U fun v10 bu b1=> ?_) fun c w' A σ' M=>by obtain ⟨e,he,au,am⟩:=A; exact ⟨e,BV he,au,am⟩
 obtain ⟨n,a3,V,rfl,bD,aV⟩:=b1;obtain ⟨cY,c2,c5⟩:=jb V;refine aF 3 U ?_;refine eL (fun bv a4=> ∃ (cC:Unit),(¬(n=0∨1048576 < n))∧(az a4.heap rb [str s,.int .i64 (a3:Nat)])∧(Md (fun k=>k=rb) w a4)∧(Sl bv [(0,.pointer (some ⟨rb,0,none⟩)),(3,.int .u64 (n:Nat))])) ?_ ?_;refine aQ 1 U<|p mv<|aj 3 U<|gs (t:=14) U (fun cg=> ?_) fun cg=> ?_;refine aj 3 U<|eP U (ej eU (jy _ _ _ bu) U fun cD cF aZ=> ?_) fun c w' A σ' M=>⟨190,sD V (by have :=of_decide_eq_false A.2.1; omega),A.1,by rw [A.2.2]; exact aV⟩
 obtain ⟨rfl,br,rfl⟩:=aZ;have br:=of_decide_eq_true br;exact ax 1 U<|tn<|⟨(),ab,bD,aV,U⟩
 refine aj 3 U<|eP U (ej eU (jy _ _ _ bu) U fun cD cF aZ=> ?_) fun c w' A σ' M=>⟨190,sD V ab,A.1,by rw [A.2.2]; exact aV⟩
 exact absurd aZ.2.1 aD;rintro bv a4 ⟨cC,av,bT,b0,cm⟩;refine bF cm<|bZ 13 U<|lp (fun ak bx J=> ∃ (k:Nat) (l:List aP) (ae:List (Bool×ag)) (aa:ag) (q:Nat),(k≤n)∧(cn (fl s n) k a3= .ok (l,q))∧(q≤s.length)∧(bA J w.heap.size 81 2 aa ae.length<|fk ae)∧(eD J w.heap.size ae l)∧(az J.heap rb [str s,.int .i64 (q:Nat)])∧(Md (fun k=>k=rb) w J)∧(Sl bx [(0,.pointer (some ⟨rb,0,none⟩)),(3,.int .u64 (n:Nat)),(4,aa),(19,.int .u64 (n:Nat)),(20,.int .u64 (k:Nat))])∧(n - k=ak)) _ ⟨0,[],[],.slice none 0 0,a3,ab,U,ab,(gw _ _ _ _),(eD.nil _ _),bT,b0,U,U⟩ ?_;rintro ak bx J ⟨k,l,ae,aa,q,C,I,da,aN,bp,a8,ad,co,rfl⟩;refine bF co<|bY 6 U<|cd U (fun ca=> ?_) fun ca=> ?_;refine aG 7 U<|eP U (ej lr (og rb s (q) J a8 aO ab) U fun dr cG b2=> ?_) fun c w' A σ' M=>by obtain ⟨e,he,au,am⟩:=A; exact ⟨e,oF V av (hJ I (Cv he) ab),au,ad.trans am⟩
 obtain ⟨v0,p1,aL,rfl,bG,aH⟩:=b2;obtain ⟨cZ,c3,c6⟩:=jb aL;refine aj 7 U<|p (qu U U ab<|gr ab)<|aj 1 U<|eP U (ej eU (jy _ _ _ cG) U fun ds cI b3=> ?_) fun c w' A σ' M=>⟨190,oF V av (hJ I (Cw aL<|by have :=of_decide_eq_false A.2.1; omega) ab),A.1,by rw [A.2.2]; exact ad.trans aH⟩
 obtain ⟨rfl,cv,rfl⟩:=b3;have bn:¬256 < v0 / 2:=by have :=of_decide_eq_true cv; omega
 have bX:=ad.trans aH;refine aj 5 U<|p (rm U U ab)<|aj 1 U<|p (eF (ps:= [(0,.bool (decide ((v0:Int) % 2=1)))]) (L:= [.bool (decide ((v0:Int) % 2=1)),.slice none 0 0]) Kt U<|U)<|e<|dq C9 fun ac dD cU bj bM=> ?_;have dl:=bj.size;refine e<|ei ze U U U U bM (by simp) fun ai bi bO=> ?_;have bP:az ai.heap ac [.bool (decide ((v0:Int) % 2=1)),.slice none 0 0]:=⟨_,bO⟩
 have aB:Wk cI ai:=bj.md.trans' bi fun k C h=>by omega
 have bQ:=Wk.B aB bG;have dp:=ad.size;have dg:=aH.size;have dm:=aB.size;have dn:=bi.size;have bW:Md (fun k=>k=rb) w ai:=bX.trans<|aB.mono fun _ _ h=>h.elim;refine aj 6 U<|p (qu U U ab<|gr ab)<|aF 4 U<|lp (fun ak bz Z=> ∃ (j:Nat) (es:List (UInt8×Int)) (aU:ag) (E:Nat),(j≤v0 / 2)∧(cn (dZ s n) j p1= .ok (es,E))∧(E≤s.length)∧(bA Z ai.heap.size 84 2 aU es.length<|eW es)∧(az Z.heap rb [str s,.int .i64 (E:Nat)])∧(az Z.heap ac [.bool (decide ((v0:Int) % 2=1)),aU])∧(Md (fun k=>k=rb∨k=ac) ai Z)∧(Sl bz [(0,.pointer (some ⟨rb,0,none⟩)),(3,.int .u64 (n:Nat)),(4,aa),(5,.int .u64 (v0:Nat)),(6,.pointer (some ⟨ac,0,none⟩)),(19,.int .u64 (n:Nat)),(20,.int .u64 (k:Nat)),(34,.int .u64 ((v0 / 2:Nat):Int)),(35,.int .u64 (j:Nat))])∧(v0 / 2 - j=ak)) _ ⟨0,[],.slice none 0 0,p1,ab,U,ab,(gw _ _ _ _),bQ,bP,(Md.refl _ _),U,U⟩ ?_;rintro ak bz Z ⟨j,es,aU,E,c1,aM,db,ay,a9,ba,al,cp,rfl⟩;refine bF cp ?_;have cW:=iz aM;have a1:∀ e,dZ s n E= .error e→j < v0 / 2→cH s a= .error e:=fun e he ch=>oF V av<|hJ I (Cx aL bn<|hJ aM he ch) ab;have aC:Md (fun k=>k=rb) w Z:=bW.trans' al fun k C h=>by rcases h with h | h; exact h; omega
 refine bY 6 U<|cd U (fun cb=> ?_) fun cb=> ?_;refine aG 7 U<|eP U (ej yN (CG rb s E 1 Z a9 aO ab ab) U fun dt cJ b4=> ?_) fun c w' A σ' M=>⟨60,a1 _ (zG ab) ab,A.2.1,aC.trans A.2.2⟩
 obtain ⟨de,bo,bH,aY⟩:=b4;rw [KN ab] at bo;subst bo;refine p (Ax 0 u9 U U<|by simp)<|aj 6 U<|eP U (ej lr (og rb s (E+1) cJ bH aO ab) U fun du cL b5=> ?_) fun c w' A σ' M=>by obtain ⟨e,he,au,am⟩:=A; exact ⟨e,a1 _ (zH ab he) ab,au,(aC.trans aY).trans am⟩
 obtain ⟨to,cB,a0,rfl,bI,bg⟩:=b5;obtain ⟨c0,c4,c7⟩:=jb a0;refine aj 9 U<|eP U (ej eU (jy _ _ _ cL) U fun dv dz b6=> ?_) fun c w' A σ' M=>⟨190,a1 _ (zI ab a0<|by have :=of_decide_eq_false A.2.1; omega) ab,A.1,by rw [A.2.2]; exact (aC.trans aY).trans bg⟩
 obtain ⟨rfl,cx,rfl⟩:=b6;have cu:¬n≤to:=by have :=of_decide_eq_true cx; omega
 have aI:=aY.trans bg;have bb:=aI.B ba fun h=>by omega
 have cA:=al.size;have dh:=aI.size;refine aj 4 U<|p (aw U<|bb.aJ 1)<|aj 2 U<|p (fy u3 lS U<|gM ab)<|p (eF (ps:= [(0,.int .u8 (s.getD E 0).toNat),(1,.int .i64 (to:Nat))]) (L:= [.int .u8 (s.getD E 0).toNat,.int .i64 (to:Nat)]) Ku U<|U)<|e<|nO sO U U U fun cQ dA cS ar bJ=> ?_;have dj:=ar.size;have ck:=bl (bR ay aI fun k C h=>by have :=cM ay C; omega) ar.md;refine e<|ap sO (ck) U ab U (bd.gF bJ) (U) (U) ab ab fun dw dB bm aK cy cf=> ?_;have cy:=aK.size;have aR:∀ k,aU.ownBlock=some k→ai.heap.size≤k:=fun k h=>(cM ay h).1;have bV:=aK.B (Wk.B ar.md bb) fun h=>by have :=aR ac h; omega
 have bK:=aK.B (Wk.B ar.md bI) fun h=>by have :=aR rb h; omega
 obtain ⟨bB,lr,rfl⟩:=eb bm;refine aj 1 U<|e<|st zd U U (U) (bV) (by simp) fun dF aW bE=> ?_;have bU:=aW.B bK fun h=>by omega
 exact ax 7 U<|tn<|⟨_,ab,j+1,es++ [(s.getD E 0,(to:Int))],.slice bB (es.length+1) lr,cB,ab,(lD aM<|zJ ab a0 cu),ab,(by rw [cw,zF]; exact bR bm aW fun k C h=>by rcases cf k C with a6 | a6; exact absurd (aR k a6) ab; omega),bU,bE,((((al.trans<|aI.mono fun _ _ h=> .inl h).trans<|ar.md.mono fun _ _ h=>h.elim).trans' aK fun k C h=>by have :=aR k h; omega).trans<|aW.mono fun _ _ h=> .inr h),U,U⟩
 refine aE 2 U<|te _<|dM 2 U ?_;obtain ⟨a5,ce,rfl⟩:=eb ay;obtain rfl :j=v0 / 2:=ab;have c8:=iz I;have dd:=bp.1;have ct:=Cy aL bn aM;have cA:=al.size;have bc:Md (fun k=>k=rb∨k=ac) J Z:=((aH.mono fun k _ h=> .inl h).trans<|aB.mono fun _ _ h=>h.elim).trans al;have a2:=bR aN bc fun k C h=>by have :=cM aN C; omega
 have cs:=bp.md bc (fun k C hb=>by
  rcases C with C | C;omega;exact fun cur z=>Bf ab cur _ z)
 refine aG 1 U<|p (mJ (aa) U)<|p (eZ yu U (U) fun j _=>ba.aJ j)<|e<|nO sM U U U fun cR dC cT O bL=> ?_;have dk:=O.size;refine e<|ap sM (bl a2 O.md) U ab U (bd.gF bL) (U) (U) ab ab fun cE cO cj ao cz cX=> ?_;have cz:=ao.size;have bq:∀ k,aa.ownBlock=some k→w.heap.size≤k:=fun k h=>(cM aN h).1;have bN:=ao.B (Wk.B O.md a9) fun h=>by have :=bq rb h; omega
 have b9:Tg cO w.heap.size 84 es.length (.slice a5 es.length ce) (eW es):=Tg.kD (((Tg.oo ay).mono ab).wk O.md) ao fun k C _=>gH (bl a2 O.md) aD k C;have cr:=(cs.wk O.md).md ao fun k C _=>gH (bl a2 O.md) aD k C;exact p aT<|ax 7 U<|tn<|⟨_,ab,k+1,l++ [(decide (v0 % 2=1),es)],ae++ [(decide ((v0:Int) % 2=1),.slice a5 es.length ce)],cE,E,ab,(lD I ct),ab,(by rw [cw,Cb]; exact cj),(by rw [show decide ((v0:Int) % 2=1)=decide (v0 % 2=1) from decide_eq_decide.2 ab] at*; exact eD.snoc (e:=(decide (v0 % 2=1),es)) cr b9),bN,((aC.trans<|O.md.mono fun _ _ h=>h.elim).trans' ao fun k C h=>by have :=bq k h; omega),U,U⟩
 refine aE 2 U<|te _<|dM 3 U ?_;obtain rfl :k=n:=ab;have bf:eR J w.heap.size aa l:=⟨ae,by have h:=Tg.oo aN; rw [bp.1] at h; exact h,bp⟩
 obtain ⟨bC,cc,rfl,cV,b8⟩:=bf.ew;have c9:=iz I;have ci:∀ x∈l,x.2.length≤256:=fun x aS=>(mE (R:=fun p=>p≤s.length) (S:=fun x:aP=>x.2.length≤256) (fun p x q' hr aS=>⟨(qx aS).2.1,(qx aS).2.2.1⟩) ab I).2 x aS;refine aG 3 U<|e<|aX (JZ l bC cc J b8 ab fun i hi=>cN (ci _<|jt (d:=dI) hi) aD) U ?_;rintro dx cP ⟨rfl,aA⟩;refine aj 1 U ?_;refine eP U (ej eU (jy _ _ _ cP) U fun dy dE b7=> ?_) (fun c w' A σ' M=>⟨190,BW V av I (by
  cases h:shaped l;rfl;exact absurd (show qt l=0 from sG h) (of_decide_eq_false A.2.1)),A.1,by rw [A.2.2]; exact ad.trans (aA.mono fun _ _ h=>h.elim)⟩)
 obtain ⟨rfl,bt,rfl⟩:=b7;have cq:shaped l=true :=by
  cases h:shaped l;rw [j0 h] at bt; exact absurd (of_decide_eq_true bt) aD;rfl
 exact ax 9 U<|pL<|f1 U U<|⟨l,q,BX V av I cq,bf.wk aA,Wk.B aA a8,ad.trans<|aA.mono fun _ _ h=>h.elim⟩
end Go.Hb.fZ
end
section
namespace Go.Hb.im
open Go.Hb.dQ
open Go.Hb.fZ
theorem Hu (s A:List UInt8) (w:ah) (E:s.length≤1073741824) (hp:A.length≤1073741824):
 bc aq 88 (bh [str s,str A]) w (fun v w'=>v= .bool (decide (s.take A.length=A))∧Wk w w'):=by
 refine enter func88 U ntmps88 U<|aQ 13 U<|gs (t:=10) U (fun C=> ?_) fun C=> ?_;exact aj 3 U<|bB U (oM u9 U U ab)<|ax 7 U<|aN U<|⟨U,Md.refl _ _⟩
 exact aj 7 U<|p aT<|ax 3 U<|aN U<|⟨by show bC false =_; rw [decide_eq_false (fun h=>by have :=congrArg nF h; rw [dh] at this; omega)],Md.refl _ _⟩
theorem Ht (s A:List UInt8) (w:ah) (E:s.length≤1073741824) (hp:A.length≤1073741824):
 bc aq 52 (bh [str s,str A]) w (fun v w'=>v= .bool (decide (s.take A.length=A))∧Wk w w'):=by
 refine enter func52 U ntmps52 U<|aQ 9 U<|e<|aX (Hu s A _ E hp) U ?_;rintro I J ⟨rfl,C⟩;exact ax 4 U<|aN U<|⟨U,C⟩
theorem Gt (p2 p3:Nat) (w:ah):
 CallsD aq 53 (bh [.pointer (some ⟨p2,0,none⟩),.pointer (some ⟨p3,0,none⟩)]) .returning w (fun A I w'=> ∃ v,A= .returned v∧I= .returning∧(fun w'=>Wk w w') w'):=by
 refine yP (v:= .nilIface) func53 U ntmps53 U (fun L cs E=> .inr ⟨by simp [recoverD,E],U,U⟩) ?_;exact p (CC sa Mc U)<|p mv<|p (xt U U)<|p (xt U U)<|p aT<|p aT<|nl<|tn<|sq fun J C=>rg U<|p mv<|nl<|tn<|C _ _<|cf (U)<|Ce<|f0 U<|Md.refl _ _
theorem Gs (p2 p3:Nat) (A:Int) (w:ah) (C:∃ L:List ag,L.length=7∧w.heap[p2]? =some (.cells L.toArray 44 (0,0))) (E:∃ v:ag,w.heap[p3]? =some (.cells [v].toArray 88 (0,0))) (O:p2≠p3):
 CallsD aq 53 (bh [.pointer (some ⟨p2,0,none⟩),.pointer (some ⟨p3,0,none⟩)]) (.panicking<|kr A) w (fun V ae w'=> ∃ v,V= .returned v∧ae=(.panicking [{v:= .iface 88 (.int .i64 A),recovered:=true}])∧(fun w'=>w'.heap[p2]? =some (.cells [a9 .i64 0,str [],.slice none 0 0,.slice none 0 0,.slice none 0 0,.slice none 0 0,.slice none 0 0].toArray 44 (0,0))∧w'.heap[p3]? =some (.cells [.int .i64 A].toArray 88 (0,0))∧Md (fun k=>k=p2∨k=p3) w w') w'):=by
 obtain ⟨al,ac,C⟩:=C;obtain ⟨ar,E⟩:=E;have ao:=(dj.1 C).1;have ap:=(dj.1 E).1;refine yP (v:= .iface 88<|.int .i64 A) func53 U ntmps53 U (fun am cs ad=> .inl<|by simp [recoverD,ad,kr]) ?_;refine p (CB sa U)<|p mv<|p (xt U U)<|p (xt U U)<|p aT<|p aT<|nl<|tn<|sq fun aj aa=>rg U<|p mv<|nl<|tn<|aa _ _<|ct (U)<|rg U<|p (eF (ps:= []) (L:= [.int .i64 0,.string ⟨⟨[]⟩⟩,.slice none 0 0,.slice none 0 0,.slice none 0 0,.slice none 0 0,.slice none 0 0]) xm U<|U)<|p mv<|e<|ei lu U U U U C (by rw [ac]; decide) fun ai J I=>e<|c9 uD U U (v:= .int .i64 A) U (J.ak E fun h=>O h.symm) (by show 0 < 1; decide) fun au M Z=>nl<|f0 U ?_;have I:ai.heap[p2]? =some (.cells [a9 .i64 0,str [],.slice none 0 0,.slice none 0 0,.slice none 0 0,.slice none 0 0,.slice none 0 0].toArray 44 (0,0)):=I.trans<|by rw [DY ab]; rfl
 exact ⟨M.ak I O,Z,(J.mono fun _ _ h=> .inl h).trans' M fun _ _ h=> .inr h⟩
theorem zg (p2 p3:Nat) (w:ah):(invoke (.fn (.func 53) #[aU p2,aU p3]) #[]).run aq w= .ok (.enter 53 #[aU p2,aU p3]) w:=by
 have h:=FA #[aU p2,aU p3] w;simp [invoke,h]
theorem rN {n:Nat} {D:List Deferred} {G:List Nat} {σ:Nat→ag} {t:Nat} (h:t < n):ev ⟨n,D,G,none⟩ σ (.tmp t)=σ t:=by
 show cond (aC t n) (σ t) undef=_;rw [show aC t n=true from by simpa using h]; rfl
theorem Gv {n:Nat} {G:List Nat} {fn:Func} {R:ag→ah→Prop} {σ:Nat→ag} {w:ah} {p2 p3:Nat} {A:Int} (V:fn.results= #[.cell 2 44,.cell 3 88]) (ac:3 < n) (Z:σ 2= .pointer (some ⟨p2,0,none⟩)) (aa:σ 3= .pointer (some ⟨p3,0,none⟩)) (C:∃ L:List ag,L.length=7∧w.heap[p2]? =some (.cells L.toArray 44 (0,0))) (E:∃ v:ag,w.heap[p3]? =some (.cells [v].toArray 88 (0,0))) (O:p2≠p3)
 (I:∀ w',Md (fun k=>k=p2∨k=p3) w w'→R (.tuple #[.agg [a9 .i64 0,str [],.slice none 0 0,.slice none 0 0,.slice none 0 0,.slice none 0 0,.slice none 0 0].toArray,.int .i64 A]) w'):qb ⟨n,[{target:= .fn (.func 53) #[.pointer (some ⟨p2,0,none⟩),.pointer (some ⟨p3,0,none⟩)],args:= #[]}],G,none⟩ (lg aq fn R) (.panic<|kr A) σ w:=by
 refine Ha (zg p2 p3 w) (Gs p2 p3 A w C E O) ?_;rintro w' ⟨J,M,hm⟩;exact ⟨_,sy V (gp<|hO (cs:= [a9 .i64 0,str [],.slice none 0 0,.slice none 0 0,.slice none 0 0,.slice none 0 0,.slice none 0 0]) ((rN ab).trans Z) kf U fun j _=>by rw [cJ,bg J]; simp) (gp<|ja ((rN ab).trans aa) yv<|(bg M).trans U),I w' hm⟩
theorem Gx {n:Nat} {G:List Nat} {fn:Func} {R:ag→ah→Prop} {σ:Nat→ag} {w:ah} {p2 p3:Nat} {v:ag} {L:List ag} (O:fn.results= #[.cell 2 44,.cell 3 88]) (aa:3 < n) (V:σ 2= .pointer (some ⟨p2,0,none⟩)) (Z:σ 3= .pointer (some ⟨p3,0,none⟩)) (A:w.heap[p2]? =some (.cells L.toArray 44 (0,0))) (C:w.heap[p3]? =some (.cells [v].toArray 88 (0,0))) (E:L.length=7)
 (I:∀ w',Wk w w'→R (.tuple #[.agg L.toArray,v]) w'):qb ⟨n,[{target:= .fn (.func 53) #[.pointer (some ⟨p2,0,none⟩),.pointer (some ⟨p3,0,none⟩)],args:= #[]}],G,none⟩ (lg aq fn R) .ret σ w:=by
 refine G9 (zg p2 p3 w) (Gt p2 p3 w) ?_;intro w' hm;have J:=Wk.ak hm A;have M:=Wk.ak hm C;exact ⟨_,sy O (gp<|hO (cs:=L) ((rN ab).trans V) kf E fun j _=>by rw [cJ,bg J]; simp) (gp<|ja ((rN ab).trans Z) yv<|(bg M).trans U),I w' hm⟩
section
variable {s:List UInt8} {a e n m p1 p2 p3 p4 p5 p q ls:Nat} {t f:List UInt8} {rs:List (List UInt8×List UInt8)} {l:List (List aP)}
theorem BK (h:cR s a= .error e):gn s a= .error e:=by unfold gn; rw [h]
theorem BL (h:cR s a= .ok (f,p)) (A:cR s p= .error e):gn s a= .error e:=by unfold gn; rw [h]; simp only; rw [A]
theorem BM (h:cR s a= .ok (f,p)) (A:cR s p= .ok (t,q)):gn s a= .ok ((f,t),q):=by unfold gn; rw [h]; simp only; rw [A]
theorem uE (hm:¬s.take 4=eI):bH s= .error 200:=if_neg hm
theorem zl (hm:s.take 4=eI) (h:a0 s 4= .error e):bH s= .error e:=by unfold bH; rw [if_pos hm,h]
theorem zm (hm:s.take 4=eI) (h:a0 s 4= .ok (n,p1)) (A:cR s p1= .error e):bH s= .error e:=by unfold bH; rw [if_pos hm,h]; simp only; rw [A]
theorem zn (hm:s.take 4=eI) (h:a0 s 4= .ok (n,p1)) (A:cR s p1= .ok (t,p2)) (C:a0 s p2= .error e):bH s= .error e:=by unfold bH; rw [if_pos hm,h]; simp only; rw [A]; simp only; rw [C]
theorem zo (hm:s.take 4=eI) (h:a0 s 4= .ok (n,p1)) (A:cR s p1= .ok (t,p2)) (C:a0 s p2= .ok (m,p3)) (E:256 < m):bH s= .error 201:=by unfold bH; rw [if_pos hm,h]; simp only; rw [A]; simp only; rw [C]; exact if_pos E
theorem rB (hm:s.take 4=eI) (h:a0 s 4= .ok (n,p1)) (A:cR s p1= .ok (t,p2)) (C:a0 s p2= .ok (m,p3)) (E:¬256 < m) (I:cn (gn s) m p3= .error e):bH s= .error e:=by unfold bH; rw [if_pos hm,h]; simp only; rw [A]; simp only; rw [C]; simp only; rw [if_neg E,I]
theorem zq (hm:s.take 4=eI) (h:a0 s 4= .ok (n,p1)) (A:cR s p1= .ok (t,p2)) (C:a0 s p2= .ok (m,p3)) (E:¬256 < m) (I:cn (gn s) m p3= .ok (rs,p4)):bH s=fO s (if n≤64 then n else 0) t rs p4:=by unfold bH; rw [if_pos hm,h]; simp only; rw [A]; simp only; rw [C]; simp only; rw [if_neg E,I]
theorem zh (h:ef ls t rs=false):fO s ls t rs a= .error 201:=by unfold fO; rw [h]; rfl
theorem zi (h:ef ls t rs=true) (A:cn (cH s) 4 a= .error e):fO s ls t rs a= .error e:=by unfold fO; rw [if_pos h,A]
theorem zj (h:ef ls t rs=true) (A:cn (cH s) 4 a= .ok (l,p5)) (C:p5≠s.length):fO s ls t rs a= .error 202:=by unfold fO; rw [if_pos h,A]; exact if_neg C
theorem zk (h:ef ls t rs=true) (A:cn (cH s) 4 a= .ok (l,p5)) (C:p5=s.length):fO s ls t rs a= .ok ⟨ls,t,rs,l⟩:=by unfold fO; rw [if_pos h,A]; exact if_pos C
end
def lh (w:ah) (B:Nat) (cs:List ag) (b:dm):Prop := ∃ A rc vs,cs= [.int .i64 (b.least:Nat),str b.tr,.slice A b.cZ.length rc]++vs∧vs.length=4∧bd w.heap A (b.cZ.flatMap ee)∧∀ i,i < 4→eR w B (vs.getD i .nilFunc) (b.ar.getD i [])
theorem lh.wk {w w':ah} {B:Nat} {cs:List ag} {b:dm} (h:lh w B cs b) (hm:Wk w w'):lh w' B cs b:=by
 obtain ⟨I,rc,vs,h1,A,C,E⟩:=h;exact ⟨I,rc,vs,h1,A,C.wk hm,fun i hi=>(E i hi).wk hm⟩
def jg (s:List UInt8) (w:ah) (v:ag) (w':ah):Prop :=(match bH s with
 | .ok b=> ∃ cs,v= .tuple #[.agg cs.toArray,.int .i64 0]∧lh w' w.heap.size cs b
 | .error e=>v= .tuple #[.agg [a9 .i64 0,str [],.slice none 0 0,.slice none 0 0,.slice none 0 0,.slice none 0 0,.slice none 0 0].toArray,.int .i64 (e:Nat)])∧Wk w w'
theorem jg.no {s:List UInt8} {w w':ah} {e:Nat} (h:bH s= .error e) (hm:Wk w w'):jg s w (.tuple #[.agg [a9 .i64 0,str [],.slice none 0 0,.slice none 0 0,.slice none 0 0,.slice none 0 0,.slice none 0 0].toArray,.int .i64 (e:Nat)]) w':=by
 unfold jg; rw [h]; exact ⟨rfl,hm⟩
theorem wS {a b c v:ag} {vs:List ag} {k:Nat} :([a,b,c]++vs).set (0 +3 +((k:Nat):Int).toNat*1) v= [a,b,c]++vs.set k v:=by
 rw [show 0 +3 +((k:Nat):Int).toNat*1=k+1 +1 +1 from by omega]; rfl
theorem pM {α:Type} {l:List α} {i k:Nat} {v d:α} (h:i≠k):(l.set k v).getD i d=l.getD i d:=by
 rw [cm,D7 (fun e=>h e.symm),cm]
theorem n5 {α:Type} {l:List α} {k:Nat} {v d:α} (h:k < l.length):(l.set k v).getD k d=v:=by
 rw [cm,D8 h]; rfl
theorem Am {α:Type} {l m:List α} {i:Nat} {d:α} (h:i < l.length):(l++m).getD i d=l.getD i d:=by
 rw [cm,fm h,cm]
theorem Al {α:Type} {l:List α} {a d:α} {i:Nat} (h:i=l.length):(l++ [a]).getD i d=a:=by
 subst h;rw [cm,fH (aR _),yj]; rfl
structure fJ (w0 w:ah) (b2 b3:Nat) (L:List ag):Prop where
 c2:w.heap[b2]? =some (.cells L.toArray 44 (0,0))
 c3:w.heap[b3]? =some (.cells [a9 .i64 0].toArray 88 (0,0))
 len:L.length=7
 lo:w0.heap.size≤b2∧w0.heap.size≤b3∧b2≠b3
 wk:Wk w0 w
theorem fJ.md {F:Nat→Prop} {w0 w w':ah} {A C:Nat} {L:List ag} (h:fJ w0 w A C L) (hm:Md F w w') (E:¬F A) (I:¬F C) (J:∀ k,F k→w0.heap.size≤k):fJ w0 w' A C L:=
 ⟨hm.ak h.c2 E,hm.ak h.c3 I,h.len,h.lo,h.wk.trans' hm fun k O M=>by have :=J k M; omega⟩
theorem fJ.LP {w0 w w':ah} {A C:Nat} {L:List ag} (h:fJ w0 w A C L) (hm:Wk w w'):fJ w0 w' A C L:=h.md hm (fun h=>h) (fun h=>h) fun _ h=>h.elim
theorem fJ.rb {w0 w w':ah} {A C rb:Nat} {L:List ag} (h:fJ w0 w A C L) (hm:Md (fun k=>k=rb) w w') (E:A≠rb) (I:C≠rb) (h0:w0.heap.size≤rb):fJ w0 w' A C L:=h.md hm E I fun k J=>by omega
theorem kn {n:Nat} {G:List Nat} {fn:Func} {σ:Nat→ag} {s:List UInt8} {w W:ah} {C E e:Nat} {L:List ag} (J:fn.results= #[.cell 2 44,.cell 3 88]) (I:3 < n) (M:σ 2= .pointer (some ⟨C,0,none⟩)) (O:σ 3= .pointer (some ⟨E,0,none⟩)) (A:fJ w W C E L) (U:bH s= .error e):qb ⟨n,[{target:= .fn (.func 53) #[.pointer (some ⟨C,0,none⟩),.pointer (some ⟨E,0,none⟩)],args:= #[]}],G,none⟩ (lg aq fn<|jg s w) (.panic<|kr (e:Nat)) σ W:=
 Gv J I M O ⟨_,A.len,A.c2⟩ ⟨_,A.c3⟩ A.lo.2.2 (fun w' hm=>jg.no U<|A.wk.trans' hm fun k V h=>by rcases h with rfl | rfl; have :=A.lo.1; omega; have :=A.lo.2.1; omega)
theorem Gy (s:List UInt8) (w:ah) (aL:s.length≤1048576):
 bc aq 32 (bh [str s]) w (jg s w):=by
 refine GQ [2,3] func32 U ntmps32 U ?_;refine cC<|cz<|aQ 1 U<|e<|dq oW fun C e4 d6 b7 cI=>e<|dq Ma fun M cs d7 bH cQ=> ?_;have eG:=b7.size;have eH:=bH.size;have db:Wk w cs:=b7.md.trans bH.md;have dL:=Wk.ak bH.md cI;refine ax 1 U<|bw<|cC<|cC<|cz<|aQ 2 U<|e<|aX (Ht s eI cs ab aD) U ?_;rintro v10 e2 ⟨rfl,a6⟩;have bX:=db.trans a6;have cp:=Wk.ak a6 dL;have cq:=Wk.ak a6 cQ;have eD:=a6.size;refine ax 2 U<|bw<|cz<|cb U (fun aW=> ?_) fun aW=> ?_;have aa:¬s.take 4=eI:=fun h=>by rw [show s.take eI.length=eI from h] at aW; simp at aW
 refine aQ 2 U<|p (eF (ps:= []) (L:= [.int .i64 0,.string ⟨⟨[]⟩⟩,.slice none 0 0,.slice none 0 0,.slice none 0 0,.slice none 0 0,.slice none 0 0]) xm U<|U)<|e<|ei lu U U U U cp aD fun e7 b4 cY=>e<|c9 uD U U (v:= .int .i64 200) U (b4.ak cq fun h=>by omega) aD fun d3 b6 c0=>ax 3 U<|sp ?_;have dy:d3.heap[C]? =some (.cells [a9 .i64 0,str [],.slice none 0 0,.slice none 0 0,.slice none 0 0,.slice none 0 0,.slice none 0 0].toArray 44 (0,0)):=(b6.ak cY fun h=>by omega).trans rfl;exact G7 (sy U (gp<|hO U U U fun j ek=>by rw [cJ,bg dy]; simp)<|gp<|ja U U<|(bg c0).trans U)<|jg.no (uE aa)<|(bX.trans' b4 fun k E h=>by omega).trans' b6 fun k E h=>by omega
 have aa:s.take 4=eI:=Dq fun h=>by rw [decide_eq_false (show ¬s.take eI.length=eI from h)] at aW; cases aW
 have cB:4≤s.length:=by have :=congrArg nF aa; rw [dh] at this; simp only [eI,dJ,jH] at this; omega
 refine iV 1 U<|bw<|cC<|kp Ig #[.pointer (some ⟨C,0,none⟩),.pointer (some ⟨M,0,none⟩)] U aD ?_;refine cC<|cz<|aQ 2 U<|p (eF (ps:= [(0,str s),(1,.int .i64 4)]) (L:= [str s,.int .i64 4]) Kl U<|U)<|e<|uj U fun rb ad eB bi cG=> ?_;have eE:=bi.size;have c6:az ad.heap rb [str s,.int .i64 ((4:Nat):Int)]:=⟨_,cG⟩
 have ci:fJ w ad C M [a9 .i64 0,str [],.slice none 0 0,.slice none 0 0,.slice none 0 0,.slice none 0 0,.slice none 0 0]:=⟨Wk.ak bi.md cp,Wk.ak bi.md cq,rfl,⟨ab,ab,ab⟩,bX.trans bi.md⟩
 refine ax 2 U<|bw<|Kh (fun cx a4=> ∃ (n p1:Nat),(fJ w a4 C M [.int .i64 ((if n≤64 then n else 0:Nat):Int),str [],.slice none 0 0,.slice none 0 0,.slice none 0 0,.slice none 0 0,.slice none 0 0])∧(az a4.heap rb [str s,.int .i64 (p1:Nat)])∧(Md (fun k=>k=rb∨k=C) ad a4)∧(a0 s 4= .ok (n,p1))∧(p1≤s.length)∧(Sl cx [(0,str s),(2,.pointer (some ⟨C,0,none⟩)),(3,.pointer (some ⟨M,0,none⟩)),(4,.pointer (some ⟨rb,0,none⟩))])) ?_ ?_;refine cC<|cz<|aQ 2 U ?_;refine eP U (ej lr (og rb s (4) ad c6 aL<|cB) U fun eN e3 de=> ?_) (fun c w' I σ' A=>by
  obtain ⟨e,he,rfl,V⟩:=I;exact kn U aD ((A 2<|.head _).trans U) ((A 3<|.tail _<|.head _).trans U) ((ci).rb V ab ab ab) (zl aa he))
 obtain ⟨n,p1,Z,rfl,bV,bC⟩:=de;obtain ⟨ea,bK,ep⟩:=jb Z;have a1:=ci.rb bC ab ab ab;refine ax 2 U<|bw<|cC<|cz<|iV 4 U<|bw<|cz<|cd U (fun bJ=> ?_) fun bJ=> ?_;exact aQ 2 U<|p (fy u3 lS U<|gM ab)<|aj 1 U<|e<|c9 cU U U (v:= .int .i64 (n:Nat)) U a1.c2 aD fun fa ba c1=>ax 1 U<|yX<|⟨n,p1,(⟨by rw [if_pos ab]; exact c1,ba.ak a1.c3 (fun h=>by omega),U,a1.lo,a1.wk.trans' ba fun k E h=>by omega⟩),(ba.B bV fun h=>by omega),((bC.mono fun _ _ h=> .inl h).trans<|ba.mono fun _ _ h=> .inr h),Z,bK,U⟩
 exact iV 1 U<|yX<|⟨n,p1,(by rw [if_neg ab]; exact a1),bV,(bC.mono fun _ _ h=> .inl h),Z,bK,U⟩
 rintro cx a4 ⟨n,p1,co,c5,da,Z,bK,dP⟩;refine JW dP ?_;refine cC<|cz<|aQ 2 U ?_;refine eP U (ej uk (vf rb s (p1) a4 c5 aL ab) U fun eO e5 dg=> ?_) (fun c w' I σ' A=>by
  obtain ⟨e,he,rfl,V⟩:=I;exact kn U aD ((A 2<|.head _).trans U) ((A 3<|.tail _<|.head _).trans U) ((co).rb V ab ab ab) (zm aa Z he))
 obtain ⟨t,p2,aK,rfl,cO,b0⟩:=dg;obtain ⟨ec,el,eq⟩:=n3 aK;have bp:=co.rb b0 ab ab ab;refine aj 1 U<|e<|c9 zf U U (v:=str t) U bp.c2 (by simp) fun cv bb c4=> ?_;have cm:fJ w cv C M [.int .i64 ((if n≤64 then n else 0:Nat):Int),str t,.slice none 0 0,.slice none 0 0,.slice none 0 0,.slice none 0 0,.slice none 0 0]:=⟨c4,bb.ak bp.c3 (fun h=>by omega),rfl,bp.lo,bp.wk.trans' bb fun k E h=>by omega⟩
 have c7:=bb.B cO fun h=>by omega
 refine ax 1 U<|bw<|cC<|cz<|aQ 2 U ?_;refine eP U (ej lr (og rb s (p2) cv c7 aL ab) U fun eQ dX dj=> ?_) (fun c w' I σ' A=>by
  obtain ⟨e,he,rfl,V⟩:=I;exact kn U aD ((A 2<|.head _).trans U) ((A 3<|.tail _<|.head _).trans U) ((cm).rb V ab ab ab) (zn aa Z aK he))
 obtain ⟨m,p3,aV,rfl,cP,b1⟩:=dj;obtain ⟨ed,em,er⟩:=jb aV;have cj:=cm.rb b1 ab ab ab;refine ax 2 U<|bw<|cC<|cz<|aQ 4 U ?_;refine eP U (ej eU (jy _ _ _ dX) U fun eS e6 dk=> ?_) (fun c w' I σ' A=>by
  obtain ⟨rfl,hb,rfl⟩:=I;exact kn U aD ((A 2<|.head _).trans U) ((A 3<|.tail _<|.head _).trans U) (cj) (zo aa Z aK aV<|by have :=of_decide_eq_false hb; omega))
 obtain ⟨rfl,dT,rfl⟩:=dk;have bL:¬256 < m:=by have :=of_decide_eq_true dT; omega
 refine ax 1 U<|bw<|cC<|cC<|cz<|iV 4 U<|bw<|cz<|bY 1 U<|lp (fun aO cy ar=> ∃ (k:Nat) (rs:List (List UInt8×List UInt8)) (O:ag) (q:Nat),(k≤m)∧(cn (gn s) k p3= .ok (rs,q))∧(q≤s.length)∧(bA ar ad.heap.size 77 2 O rs.length<|rs.flatMap ee)∧(az ar.heap rb [str s,.int .i64 (q:Nat)])∧(fJ w ar C M [.int .i64 ((if n≤64 then n else 0:Nat):Int),str t,O,.slice none 0 0,.slice none 0 0,.slice none 0 0,.slice none 0 0])∧(Md (fun k=>k=rb∨k=C) ad ar)∧(Sl cy [(0,str s),(2,.pointer (some ⟨C,0,none⟩)),(3,.pointer (some ⟨M,0,none⟩)),(4,.pointer (some ⟨rb,0,none⟩)),(33,.int .u64 (m:Nat)),(34,.int .u64 (k:Nat))])∧(m - k=aO)) _ ⟨0,[],.slice none 0 0,p3,ab,U,ab,(gw _ _ _ _),cP,cj,(((da.trans<|b0.mono fun _ _ h=> .inl h).trans<|bb.mono fun _ _ h=> .inr h).trans<|b1.mono fun _ _ h=> .inl h),U,U⟩ ?_;rintro aO cy ar ⟨k,rs,O,q,ex,am,ez,au,bW,aZ,bz,dQ,rfl⟩;refine bF dQ<|bY 6 U<|cd U (fun dw=> ?_) fun dw=> ?_;refine aG 7 U ?_;refine eP U (ej uk (vf rb s (q) ar bW aL ab) U fun eT ao dl=> ?_) (fun c w' I σ' A=>by
  obtain ⟨e,he,rfl,V⟩:=I;exact kn U aD ((A 2<|.head _).trans U) ((A 3<|.tail _<|.head _).trans U) ((aZ).rb V ab ab ab) (rB aa Z aK aV bL<|hJ am (BK he) ab))
 obtain ⟨f,bN,bI,rfl,cT,a8⟩:=dl;obtain ⟨ef,en,et⟩:=n3 bI;have a2:=aZ.rb a8 ab ab ab;have dF:=bR au a8 fun k E h=>by have :=cM au E; omega
 have eJ:=a8.size;have eM:=bz.size;have av:∀ k,O.ownBlock=some k→ad.heap.size≤k:=fun k h=>(cM au h).1;refine aF 3 U ?_;have bm:(fun w'=>Md (fun k=>k=rb∨O.ownBlock=some k) ao w') ao.drew:=(Md.refl _ _).drew;refine oe (fun w'=>Md (fun k=>k=rb∨O.ownBlock=some k) ao w') 9 U wide bm<|pN [0] U bm<|AZ 1 U ai (fun w' dt=>aw U<|Md.ay dt ((bg a2.c2).trans U) fun h=>by rcases h with h | h; omega; have :=av _ h; omega) bm<|pN [2,3] U bm ?_;refine Ie 4 U ai U (ej uk (vf rb s bN ao.drew cT aL ab) U fun eV ct dm=> ?_) (fun c w' I σ' A=>by
  obtain ⟨e,he,rfl,V⟩:=I;exact kn U aD ((A 2<|.head _).trans U) ((A 3<|.tail _<|.head _).trans U) (a2.rb (Md.dr V) ab ab ab) (rB aa Z aK aV bL<|hJ am (BL bI he) ab))
 obtain ⟨t2,dW,cf,rfl,cV,aT⟩:=dm;obtain ⟨eg,eo,ev⟩:=n3 cf;have aT:=Md.dr aT;have ca:Md (fun k=>k=rb∨O.ownBlock=some k) ao ct:=aT.mono fun _ _ h=> .inl h;have eK:=aT.size;have b8:(fun w'=>Md (fun k=>k=rb∨O.ownBlock=some k) ao w') ct:=ca;refine ⟨b8,?_⟩;refine pW 5 U ai (fun _=>eF (ps:= [(0,str f),(1,str t2)]) (L:= [str f,str t2]) Ks U<|U) (fun _=>b8)<|gj 6 U ai<|nO sL U U U fun d4 d0 d8 bj cW=> ?_;have eL:=bj.size;have ce:=ca.trans<|bj.md.mono fun _ _ h=>h.elim;have dG:=bl (bR dF aT fun k E h=>by have :=cM au E; omega) bj.md;have du:(fun w'=>Md (fun k=>k=rb∨O.ownBlock=some k) ao w') d0:=ce;refine ⟨du,?_⟩;refine gj 7 U ai<|ap sL (dG) U ab U (bd.gF cW) (U) (U) (by have :=iz am; omega) (by have :=iz am; omega) fun eW d1 ch bE dV dA=> ?_;obtain ⟨bu,bv,rfl⟩:=eb ch;have aU:=ce.trans<|bE.mono fun _ _ h=> .inr h;have dV:=bE.size;have dD:¬(C=rb∨O.ownBlock=some C):=fun h=>by rcases h with h | h; omega; have :=av _ h; omega
 have dE:¬(M=rb∨O.ownBlock=some M):=fun h=>by rcases h with h | h; omega; have :=av _ h; omega
 have dx:=aU.ak a2.c2 dD;have cX:=bE.B (Wk.B bj.md cV) fun h=>by have :=av _ h; omega
 have b9:(fun w'=>Md (fun k=>k=rb∨O.ownBlock=some k) ao w') d1:=aU;refine ⟨b9,?_⟩;refine pN [8] U b9<|kB 9 U ai ai<|c9 za U U (v:= .slice bu (rs.length+1) bv) U dx (by simp) fun cr aR cD=> ?_;have dH:fJ w cr C M [.int .i64 ((if n≤64 then n else 0:Nat):Int),str t,.slice bu (rs.length+1) bv,.slice none 0 0,.slice none 0 0,.slice none 0 0,.slice none 0 0]:=⟨cD,aR.ak (aU.ak a2.c3 dE) (fun h=>by omega),rfl,aZ.lo,(a2.wk.trans' aU fun k E h=>by rcases h with h | h; omega; have :=av _ h; omega).trans' aR fun k E h=>by omega⟩
 have cE:=aR.B cX fun h=>by omega
 have c8:Md (fun k=>k=rb∨k=C) ad cr:=((bz.trans<|a8.mono fun _ _ h=> .inl h).trans' aU fun k E h=>by rcases h with h | h; exact .inl h; have :=av _ h; omega).trans<|aR.mono fun _ _ h=> .inr h;exact kC ai<|bf 6 U<|tn<|⟨_,ab,k+1,rs++ [(f,t2)],.slice bu (rs.length+1) bv,dW,ab,(lD am<|BM bI cf),ab,(by rw [cw,List.flatMap_append]; exact bR ch aR fun k E h=>by rcases dA k E with bU | bU; exact absurd (av k bU) ab; omega),cE,dH,c8,U,U⟩
 refine aE 2 U<|te _<|bf 1 U<|bw<|cC<|cz ?_;obtain ⟨ac,rc,rfl⟩:=eb au;obtain rfl :k=m:=ab;obtain ⟨br,dM⟩:∃ br,br=q:=⟨q,rfl⟩
 subst dM;have bn:=zq aa Z aK aV bL am;have ey:=iz am;have dO:∀ r∈rs,r.1.length≤1048576∧r.2.length≤1048576:=fun r hr=>by
  have :=(mE (R:=fun _=>True) (S:=fun r:List UInt8×List UInt8=>r.1.length≤255∧r.2.length≤255) (fun p x q' _ dS=>⟨trivial,(Jv dS).2.2⟩) trivial am).2 r hr;omega
 refine aQ 2 U<|p (eZ kf U (U) (show ∀ j,j < 7→ay ar.heap C (0 +j)=([.int .i64 ((if n≤64 then n else 0:Nat):Int),str t,.slice ac rs.length rc,.slice none 0 0,.slice none 0 0,.slice none 0 0,.slice none 0 0]:List ag)[j]? from fun j _=>by rw [cJ,bg aZ.c2]; simp))<|e<|aX (JU (if n≤64 then n else 0) t rs ac rc (.slice none 0 0) (.slice none 0 0) (.slice none 0 0) (.slice none 0 0) ar (cF au).2 (by split <;> omega) ab ab dO) U ?_;rintro eX d2 ⟨rfl,a7⟩;have ck:=aZ.LP a7;refine eP U (ej eU (jy _ _ _ d2) U fun eY e8 dn=> ?_) (fun c w' I σ' A=>by
  obtain ⟨rfl,hb,rfl⟩:=I;exact kn U aD ((A 2<|.head _).trans U) ((A 3<|.tail _<|.head _).trans U) (ck) (by rw [bn,zh hb]))
 obtain ⟨rfl,bM,rfl⟩:=dn;refine ax 1 U<|bw<|cC<|cC<|cz<|iV 3 U<|bw<|cz<|bY 1 U<|lp (fun aO cA al=> ∃ (J:Nat) (ls:List (List aP)) (vs:List ag) (aM:Nat),(J≤4)∧(cn (cH s) J br= .ok (ls,aM))∧(aM≤s.length)∧(vs.length=4)∧(az al.heap rb [str s,.int .i64 (aM:Nat)])∧(fJ w al C M<|[.int .i64 ((if n≤64 then n else 0:Nat):Int),str t,.slice ac rs.length rc]++vs)∧(∀ i,i < J→eR al (rb+1) (vs.getD i .nilFunc) (ls.getD i []))∧(Md (fun k=>k=rb∨k=C) ad al)∧(bA al ad.heap.size 77 2 (.slice ac rs.length rc) rs.length<|rs.flatMap ee)∧(Sl cA [(0,str s),(2,.pointer (some ⟨C,0,none⟩)),(3,.pointer (some ⟨M,0,none⟩)),(4,.pointer (some ⟨rb,0,none⟩)),(52,.int .i64 (J:Nat))])∧(4 - J=aO)) _ ⟨0,[],[.slice none 0 0,.slice none 0 0,.slice none 0 0,.slice none 0 0],br,ab,U,ab,U,(Wk.B a7 bW),ck,(fun i hi=>by omega),(bz.trans<|a7.mono fun _ _ h=>h.elim),(bl au a7),U,U⟩ ?_;rintro aO cA al ⟨J,ls,vs,aM,eu,aY,eA,a3,bx,ae,bB,dc,bo,dR,rfl⟩;refine bF dR<|bY 6 U<|cd U (fun dz=> ?_) fun dz=> ?_;refine aG 13 U ?_;refine eP U (ej FB (JO rb s aM al bx aL ab) U fun e0 e9 dp=> ?_) (fun c w' I σ' A=>by
  obtain ⟨e,he,rfl,V⟩:=I;exact kn U aD ((A 2<|.head _).trans U) ((A 3<|.tail _<|.head _).trans U) (ae.rb V ab ab ab) (by rw [bn,zi bM (hJ aY he (show J < 4 by omega))]))
 obtain ⟨aA,bN,cg,bZ,cZ,b5⟩:=dp;obtain ⟨aN,cc,rfl,d9,d5⟩:=bZ.ew;have bq:=ae.rb b5 ab ab ab;have eh:=BY cg;refine aj 1 U<|p (iW ll U U ab)<|e<|c9 zb U U (v:= .slice aN aA.length cc) U bq.c2 (by simp only [cw,dJ,jH,a3]; omega) fun bt aS cL=> ?_;have dC:=iz aY;have bJ:bt.heap[C]? =some (.cells ([.int .i64 ((if n≤64 then n else 0:Nat):Int),str t,.slice ac rs.length rc]++vs.set J (.slice aN aA.length cc)).toArray 44 (0,0)):=by rw [← wS]; exact cL
 have dI:fJ w bt C M ([.int .i64 ((if n≤64 then n else 0:Nat):Int),str t,.slice ac rs.length rc]++vs.set J (.slice aN aA.length cc)):=⟨bJ,aS.ak bq.c3 (fun h=>by omega),by simp [a3],bq.lo,bq.wk.trans' aS fun k E h=>by omega⟩
 have cN:=aS.B cZ fun h=>by omega
 have eC:=bx.lt;have bG:Md (fun k=>k=rb∨k=C) al bt:=(b5.mono fun _ _ h=> .inl h).trans<|aS.mono fun _ _ h=> .inr h;have dd:∀ i,i < J+1→eR bt (rb+1) ((vs.set J<|.slice aN aA.length cc).getD i .nilFunc) ((ls++ [aA]).getD i []):=fun i hi=>by
  rcases dB i J with h | h;rw [pM ab,Am ab];exact (bB i h).md bG fun k E hb=>absurd hb ab;obtain rfl :i=J:=ab;rw [n5 ab,Al dC.symm];exact (bZ.mono ab).md aS fun k E hb=>absurd hb ab
 exact ax 7 U<|tn<|⟨_,ab,J+1,ls++ [aA],vs.set J (.slice aN aA.length cc),bN,ab,(lD aY cg),ab,(by rw [il]; exact a3),cN,dI,dd,(dc.trans bG),(bR bo bG fun k E h=>by have :=(cM bo E).1; omega),U,U⟩
 refine aE 2 U<|te _<|bf 1 U<|bw<|cC<|cz ?_;obtain rfl :J=4:=ab;obtain ⟨aB,aC,aH,aI,rfl⟩:∃ aB aC aH aI,vs= [aB,aC,aH,aI]:=by
  match vs,a3 with
  | [aB,aC,aH,aI],_=>exact ⟨_,_,_,_,rfl⟩
 have a5:∀ i,i < 4→([aB,aC,aH,aI].getD i .nilFunc).oneCell'=true :=fun i hi=>by
  obtain ⟨_,_,e,_⟩:=(bB i hi).ew;rw [e]; rfl
 have dK:([.int .i64 ((if n≤64 then n else 0:Nat):Int),str t,.slice ac rs.length rc,aB,aC,aH,aI]:List ag).all fg=true :=by
  have bO:=a5 0 ab;have bP:=a5 1 ab;have bQ:=a5 2 ab;have bT:=a5 3 ab;simp only [tB,yc] at bO bP bQ bT;simp only [o7,tw,bO,bP,bQ,bT]; rfl
 refine aQ 5 U<|p (aw U<|bx.aJ 1)<|aj 3 U ?_;refine eP U (ej eU (jy _ _ _ al) U fun e1 cu ds=> ?_) (fun c w' I σ' A=>by
  obtain ⟨rfl,hb,rfl⟩:=I;exact kn U aD ((A 2<|.head _).trans U) ((A 3<|.tail _<|.head _).trans U) (ae) (by rw [bn,zj bM aY (fun h=>of_decide_eq_false hb<|by rw [h])]))
 obtain ⟨rfl,dU,rfl⟩:=ds;have dN:aM=s.length:=by have :=of_decide_eq_true dU; omega
 refine ax 1 U<|bw<|cC<|cz<|aQ 1 U<|p (eZ kf U (U) (show ∀ j,j < 7→ay cu.heap C (0 +j)=([.int .i64 ((if n≤64 then n else 0:Nat):Int),str t,.slice ac rs.length rc,aB,aC,aH,aI]:List ag)[j]? from fun j _=>by rw [cJ,bg ae.c2]; simp))<|e<|ei lu U U U dK ae.c2 (by rw [ae.len]; decide) fun dY b2 cR=> ?_;have dv:dY.heap[C]? =some (.cells ([.int .i64 ((if n≤64 then n else 0:Nat):Int),str t,.slice ac rs.length rc]++ [aB,aC,aH,aI]).toArray 44 (0,0)):=cR.trans<|by rw [DY (by rw [ae.len]; decide),List.take_zero,tI,nE]; rfl
 refine e<|c9 uD U U (v:= .int .i64 0) U (b2.ak ae.c3 fun h=>by omega) aD fun dZ b3 cS=>ax 1 U<|bw<|BR ?_;exact Gx U aD U U (b3.ak dv fun h=>by omega) cS U (fun w' hm=>by
  unfold jg;rw [bn,zk bM aY dN];have bD:Md (fun k=>k=C∨k=M) cu dZ:=(b2.mono fun _ _ h=> .inl h).trans<|b3.mono fun _ _ h=> .inr h;refine ⟨⟨_,U,ac,rc,_,U,a3,(cF<|bl (bR bo bD fun k E h=>by have :=(cM bo E).1; omega) hm).2,fun i hi=>(((bB i hi).md bD fun k E hb=>absurd hb ab).wk hm).mono ab⟩,(ae.wk.trans' bD fun k E h=>by omega).trans hm⟩)
theorem pT {α:Type} {f:Nat→Except Nat (α×Nat)} (C:∀ a e,f a= .error e→e≠0):∀ {k a e:Nat},cn f k a= .error e→e≠0
 | 0,a,e,h=>by cases h
 | k+1,a,e,h=>by
   rw [cn] at h;split at h
   · rename_i E A;cases h;exact pT C A
   · split at h
     · rename_i E A;cases h;exact C _ _ A
     · cases h
theorem oE {s:List UInt8} {a e:Nat} (h:a0 s a= .error e):e≠0:=by rcases wN h with h | h <;> omega
theorem vb {s:List UInt8} {a e:Nat} (h:cR s a= .error e):e≠0:=by
 unfold cR at h;split at h
 · rename_i A; cases h; exact oE A
 · repeat' split at h
   all_goals first | (cases h; decide) | cases h
theorem Jw {s:List UInt8} {a e:Nat} (h:gn s a= .error e):e≠0:=by
 unfold gn at h;split at h
 · rename_i A; cases h; exact vb A
 · split at h
   · rename_i A; cases h; exact vb A
   · cases h
theorem GN {s:List UInt8} {n a e:Nat} (h:dZ s n a= .error e):e≠0:=by
 unfold dZ at h;split at h
 · cases h; decide
 · split at h
   · rename_i A; cases h; exact oE A
   · split at h
     · cases h; decide
     · cases h
theorem Kz {s:List UInt8} {n a e:Nat} (h:fl s n a= .error e):e≠0:=by
 unfold fl at h;split at h
 · rename_i A; cases h; exact oE A
 · split at h
   · cases h; decide
   · split at h
     · rename_i A; cases h; exact pT (fun _ _=>GN) A
     · cases h
theorem JJ {s:List UInt8} {a e:Nat} (h:cH s a= .error e):e≠0:=by
 unfold cH at h;split at h
 · rename_i A; cases h; exact oE A
 · split at h
   · cases h; decide
   · split at h
     · rename_i A; cases h; exact pT (fun _ _=>Kz) A
     · split at h
       · cases h
       · cases h; decide
theorem Gu {s:List UInt8} {e:Nat} (h:bH s= .error e):e≠0:=by
 unfold bH at h;split at h
 · split at h
   · rename_i A; cases h; exact oE A
   · split at h
     · rename_i A; cases h; exact vb A
     · split at h
       · rename_i A; cases h; exact oE A
       · split at h
         · cases h; decide
         · split at h
           · rename_i A; cases h; exact pT (fun _ _=>Jw) A
           · generalize (if _≤64 then _ else 0)=n0 at h;unfold fO at h;split at h
             · split at h
               · rename_i A; cases h; exact pT (fun _ _=>JJ) A
               · split at h
                 · cases h
                 · cases h; decide
             · cases h; decide
 · cases h; decide
theorem jg.form {s:List UInt8} {w w':ah} {v:ag} (h:jg s w v w'):∃ L M x2 O V Z aa e,v= .tuple #[.agg [L,M,x2,O,V,Z,aa].toArray,.int .i64 ((e:Nat):Int)]∧[L,M,x2,O,V,Z,aa].all fg=true∧Wk w w'∧
 ((e≠0∧bH s= .error e)∨(e=0∧∃ b,bH s= .ok b∧lh w' w.heap.size [L,M,x2,O,V,Z,aa] b)):=by
 obtain ⟨h,aj⟩:=h;cases hX:bH s with
 | error e=>
   rw [hX] at h;exact ⟨_,_,_,_,_,_,_,e,h,U,aj,.inl ⟨Gu hX,U⟩⟩
 | ok b=>
   rw [hX] at h;obtain ⟨cs,al,hb⟩:=h;obtain ⟨ap,rc,vs,rfl,am,ao,ak⟩:=id hb;obtain ⟨C,E,I,J,rfl⟩:∃ C E I J,vs= [C,E,I,J]:=by
    match vs,am with
    | [C,E,I,J],_=>exact ⟨_,_,_,_,rfl⟩
   have A:∀ i,i < 4→([C,E,I,J].getD i .nilFunc).oneCell'=true :=fun i hi=>by
    obtain ⟨_,_,e,_⟩:=(ak i hi).ew;rw [e]; rfl
   have ac:=A 0 ab;have ad:=A 1 ab;have ae:=A 2 ab;have ai:=A 3 ab;simp only [tB,yc] at ac ad ae ai;exact ⟨_,_,_,_,_,_,_,0,al,by simp only [o7,tw,ac,ad,ae,ai]; rfl,aj,.inr ⟨U,b,U,hb⟩⟩
def cO (w:ah) (B cb:Nat) (b:dm) (A:List UInt8):Prop := ∃ cs,az w.heap cb (cs++ [str A])∧lh w B cs b∧B≤cb
theorem cO.wk {w w':ah} {B cb:Nat} {b:dm} {A:List UInt8} (h:cO w B cb b A) (hm:Wk w w'):cO w' B cb b A:=by
 obtain ⟨cs,h1,C,E⟩:=h;exact ⟨cs,Wk.B hm h1,C.wk hm,E⟩
def EC (s:List UInt8) (w:ah) (v:ag) (w':ah):Prop :=(match bH s with
 | .ok b=> ∃ cb,v= .tuple #[.pointer (some ⟨cb,0,none⟩),.nilIface]∧cO w' w.heap.size cb b s
 | .error e=>v= .tuple #[.pointer none,.iface 88 (.int .i64 ((e:Nat):Int))])∧Wk w w'
theorem AX (s:List UInt8) (w:ah) (aC:s.length≤1048576):
 bc aq 19 (bh [str s]) w (EC s w):=by
 refine enter func19 U ntmps19 U<|aQ 8 U<|p mv<|e<|aX (Gy s w aC) U fun aR aE au=> ?_;obtain ⟨A,C,x2,E,I,J,M,ae,rfl,aB,Z,V⟩:=jg.form au;have aP:=Z.size;refine p mv<|aj 2 U<|e<|dq oW fun ad aT aI ai am=> ?_;have aN:=ai.size;refine e<|ei lu U U U aB am aD fun ac ar ao=> ?_;have ap:az ac.heap ad [A,C,x2,E,I,J,M]:=⟨_,ao⟩
 have O:Wk aE ac:=ai.md.trans' ar fun k aL h=>by omega
 have aO:=O.size;refine aF 10 U<|cd U (fun aA=> ?_) fun aA=> ?_;have V:ae≠0∧bH s= .error ae:=V.resolve_right fun h=>by omega
 refine aG 3 U<|p (vN sa U)<|ax 6 U<|f2 U U U ?_;refine ⟨?_,Z.trans O⟩;rw [V.2];exact U;obtain ⟨aK,b,av,aw⟩:=V.resolve_left fun h=>by omega
 refine aG 4 U<|p (eZ kf U (U) (show ∀ j,j < 7→ay ac.heap ad (0 +j)=([A,C,x2,E,I,J,M]:List ag)[j]? from fun j _=>ap.aJ j))<|p mv<|p (E9 (ps:= [(0,.agg [A,C,x2,E,I,J,M].toArray),(1,str s)]) (L:= [A,C,x2,E,I,J,M,str s]) Kr U<|by simp [Instr.fill,Value.cells,str])<|e<|uj (L:= [A,C,x2,E,I,J,M,str s]) U fun ak aS aH aa al=> ?_;have aM:=aa.size;refine ax 5 U<|f2 U U U ?_;refine ⟨?_,(Z.trans O).trans aa.md⟩;rw [av];exact ⟨ak,U,_,⟨_,al⟩,aw.wk (O.trans aa.md),ab⟩
end Go.Hb.im
end
section
namespace Go.Hb.cO
open Go.Hb.dQ
open Go.Hb.fZ Go.Hb.im
def dC (c:UInt8) (es:List (UInt8×Int)):Nat:=es.findIdx fun e=>e.1==c
theorem Av {c:UInt8} {es:List (UInt8×Int)} {i:Nat} {e:UInt8×Int} (he:es[i]? =some e) (A:e.1=c) (E:∀ (j:Nat) (e':UInt8×Int),j < i→es[j]? =some e'→e'.1≠c):dC c es=i:=by
 unfold dC;obtain ⟨hi,rfl⟩:=cI.1 he;rw [List.findIdx_eq hi];refine ⟨by simpa using A,fun j C=> ?_⟩;have :=E j _ C<|bD ab;simpa using this
theorem Aw {c:UInt8} {es:List (UInt8×Int)} (C:∀ (j:Nat) (e':UInt8×Int),es[j]? =some e'→e'.1≠c):dC c es=es.length:=by
 unfold dC;refine List.findIdx_eq_length.2 fun e he=> ?_;obtain ⟨j,A⟩:=List.mem_iff_getElem?.1 he;simpa using C j e A
def dX (l:List aP):Nat→List UInt8→Option Nat×Nat
 | n,[]=>(some n,0)
 | n,c::w=>if dC c (aK l n).2 < (aK l n).2.length then ((dX l ((aK l n).2.getD (dC c (aK l n).2) (0,0)).2.toNat w).1,(dX l ((aK l n).2.getD (dC c (aK l n).2) (0,0)).2.toNat w).2 +1) else (none,0)
def iQ (l:List aP) (w:List UInt8):Option Nat×Nat:=if l= [] then (none,0) else dX l 0 w
def iO (l:List aP) (w:List UInt8):Bool:=match (iQ l w).1 with
 | some n=>(aK l n).1
 | none=>false
def iq (l:List aP):Prop :=l.length≤1048576∧∀ x∈l,x.2.length≤256∧∀ e∈x.2,0≤e.2∧e.2 < l.length
theorem iq.nil:iq []:=⟨by simp,fun x A=>by simp at A⟩
theorem iq.st {l:List aP} (h:iq l) {n:Nat} (hn:n < l.length):(aK l n).2.length≤256∧∀ (i:Nat) e,(aK l n).2[i]? =some e→0≤e.2∧e.2 < l.length:=by
 have :=h.2 _<|jt (d:=dI) hn;exact ⟨this.1,fun i e he=>this.2 e<|kZ he⟩
def cG (b:dm) (n:Int):List aP:=if 0≤n∧n < 4 then b.ar.getD n.toNat [] else []
theorem JK {s:List UInt8} {b:dm} (h:b.Is s) (n:Int):iq (cG b n):=by
 unfold cG;split
 · rename_i hn;have hm:b.ar.getD n.toNat []∈b.ar:=jt<|by rw [h.p7]; omega
   obtain ⟨_,A,C⟩:=h.ar _ hm;exact ⟨A,C⟩
 · exact iq.nil
theorem cO.sec {w:ah} {B cb:Nat} {b:dm} {J:List UInt8} (h:cO w B cb b J) {n:Nat} (hn:n < 4):∃ A cc,ay w.heap cb (3 +n)=some (.slice A (b.ar.getD n []).length cc)∧eT w.heap A (b.ar.getD n []):=by
 obtain ⟨cs,C,⟨M,rc,vs,rfl,L,_,E⟩,_⟩:=h;obtain ⟨A,cc,e,_,I⟩:=(E n hn).ew;refine ⟨A,cc,?_,I⟩;rw [C.ay,fm (by simp only [cw,dJ,jH]; omega),fH (by simp)];rw [cm] at e;have :vs[n]? =some (vs[n]'ab):=bD ab;rw [this] at e;show vs[3 +n - 3]? =_;rw [En,this,← e]; rfl
theorem eT.none (h:Array Obj):eT h none []:=⟨fun h=>by simp at h,fun i hi=>by simp at hi⟩
theorem JN (B I:Nat) (b:dm) (V:List UInt8) (n:Int) (w:ah) (J:cO w B I b V):
 bc aq 31 (bh [aU I,.int .i64 n]) w (fun v w'=>(∃ C cc,v= .slice C (cG b n).length cc∧eT w'.heap C (cG b n))∧Wk w w'):=by
 refine enter func31 U ntmps31 U<|aQ 9 U<|p (gB lQ U U)<|aj 1 U<|gb (t:=7) U (fun h=>absurd (h.symm.trans<|U) cD) fun Z=>aj 4 U<|gs (t:=11) U (fun M=> ?_) fun M=> ?_;refine ax 13 U<|aN U ?_;have A:cG b n= []:=if_neg ab;rw [A];exact ⟨⟨none,0,U,eT.none _⟩,Md.refl _ _⟩;refine aF 5 U<|cd U (fun L=> ?_) fun L=> ?_;refine aE 7 U<|aN U ?_;have A:cG b n= []:=if_neg ab;rw [A];exact ⟨⟨none,0,U,eT.none _⟩,Md.refl _ _⟩;obtain ⟨k,rfl⟩:∃ k:Nat,n=(k:Int):=⟨n.toNat,ab⟩
 have A:cG b (k:Int)=b.ar.getD k []:=if_pos ab;obtain ⟨C,cc,E,O⟩:=cO.sec J (n:=k) ab;rw [show 3 +k=0 +0 +3 +((k:Nat):Int).toNat*1 by omega] at E;refine aG 9 U<|p (iW ll U U ab)<|p (aw U<|E)<|p aT<|ax 3 U<|aN U ?_;rw [A];exact ⟨⟨C,cc,U,O⟩,Md.refl _ _⟩
theorem JL (n:Int) (w:ah):
 bc aq 31 (bh [.pointer none,.int .i64 n]) w (fun v w'=>v= .slice none 0 0∧Wk w w'):=by
 refine enter func31 U ntmps31 U<|aQ 9 U<|p (gB lQ U U)<|aj 1 U<|gb (t:=7) U (fun A=> ?_) fun h=>absurd ((U).symm.trans h) cD;exact aj 3 U<|p mv<|ax 13 U<|aN U<|⟨U,Md.refl _ _⟩
theorem ES (C:UInt8×Int) (x:List UInt8) (i J I:Nat) (w:ah) (M:az w.heap J [str x]) (L:az w.heap I [aB i]) (hi:i < x.length):
 bc aq 49 (bh [.agg #[.int .u8 C.1.toNat,.int .i64 C.2],aU J,aU I]) w (fun v w'=>v= .bool (decide (C.1=x.getD i 0))∧Wk w w'):=by
 exact enter func49 U ntmps49 U<|aQ 2 U<|e<|mg U fun V aa Z E O=>aF 4 U<|fP fun A=>aM [0] U A<|de 1 U A (O.aJ 0)<|de 2 U A ((Wk.B E.md M).aJ 0)<|de 3 U A ((Wk.B E.md L).aJ 0)<|cW 4 U (fA u9 U U ab) A<|aM [5,6] U A<|hn ai<|bf 2 U<|aN U<|⟨bv (by rw [Int.ofNat_inj,tS]),E.md.drew⟩
theorem HN (a:Option bK) (c:Nat) (es:List (UInt8×Int)) (x:List UInt8) (i I E:Nat) (w:ah) (V:ke w.heap a es) (ag:az w.heap I [str x]) (ae:az w.heap E [aB i]) (hi:i < x.length) (al:es.length≤256):
 bc aq 48 (bh [.slice a es.length c,.func (.func 49) #[] #[aU I,aU E]]) w (fun v w'=>(∃ r:Int,v= .int .i64 r∧((r=(dC (x.getD i 0) es:Nat)∧dC (x.getD i 0) es < es.length)∨(r= -1∧dC (x.getD i 0) es=es.length)))∧Wk w w'):=by
 refine enter func48 U ntmps48 U<|aQ 8 U<|p mv<|aF 5 U<|lp (fun M ac L=> ∃ (k:Nat),(k≤es.length)∧(∀ (j:Nat) (e':UInt8×Int),j < k→es[j]? =some e'→e'.1≠x.getD i 0)∧(Wk w L)∧(Sl ac [(0,.slice a es.length c),(1,.func (.func 49) #[] #[aU I,aU E]),(7,aB (es.length)),(8,aB k)])∧(es.length - k=M)) _ ⟨0,ab,(fun j d aa=>by omega),(Md.refl _ _),U,U⟩ ?_;rintro M ac L ⟨k,ak,J,A,aj,rfl⟩;refine bF aj<|bY 6 U<|cd U (fun ai=> ?_) fun ai=> ?_;refine bZ 11 U ?_;obtain ⟨ad,he⟩:∃ d,es[k]? =some d:=⟨_,bD ab⟩
 refine aG 4 U<|p (bJ mr U U ab<|V.ok ab)<|p (eZ re U (U)<|(V.wk A).two he)<|e<|uw Fz U (ES ad x i I E L (Wk.B A ag) (Wk.B A ae) hi) U ?_;rintro am ao ⟨rfl,O⟩;refine aF 2 U<|cb U (fun hm=> ?_) fun hm=> ?_;refine aE 9 U<|tr<|bf 2 U<|aN U ?_;have Z:=Av he (of_decide_eq_true hm) J;exact ⟨⟨(k:Nat),U,.inl ⟨by rw [Z],by rw [Z]; omega⟩⟩,A.trans O⟩;exact aG 4 U<|p (bM<|k+1)<|ax 2 U<|tn<|⟨_,ab,k+1,ab,(fun j e' aa C=>by rcases Nat.lt_succ_iff_lt_or_eq.1 aa with h | rfl; exact J j e' h C; rw [he] at C; cases C; exact of_decide_eq_false hm),(A.trans O),U,U⟩
 exact aE 2 U<|cq<|bf 8 U<|aN U<|⟨⟨-1,U,.inr ⟨U,Aw fun j e' C=>J j e' (by have :=(cI.1 C).1; omega) C⟩⟩,A⟩
theorem EV {l:List aP} {n:Nat} :dX l n []=(some n,0):=rfl
theorem EW {l:List aP} {n:Nat} {c:UInt8} {w:List UInt8} (h:dC c (aK l n).2=(aK l n).2.length):dX l n (c::w)=(none,0):=by
 rw [dX,if_neg ab]
theorem EU {l:List aP} {n m:Nat} {c:UInt8} {w:List UInt8} {e:UInt8×Int} (h:(aK l n).2[dC c (aK l n).2]? =some e) (he:e.2=(m:Int)):dX l n (c::w)=((dX l m w).1,(dX l m w).2 +1):=by
 have A:=(cI.1 h).1;rw [dX,if_pos A,cm,h];show ((dX l e.2.toNat w).1,(dX l e.2.toNat w).2 +1)=_;rw [he,qP]
theorem GG {x:List UInt8} {k:Nat} (h:k < x.length):x.drop k=x.getD k 0::x.drop (k+1):=by
 rw [List.drop_eq_getElem_cons h,cm,bD h]; rfl
def Ez (l:List aP) (x:List UInt8) (w:ah) (v:ag) (w':ah):Prop :=Wk w w'∧∃ p,v= .tuple #[p,.int .i64 ((iQ l x).2:Nat)]∧match (iQ l x).1 with
 | none=>p= .pointer none
 | some q=> ∃ A C,p= .pointer (some ⟨A,C,none⟩)∧ay w'.heap A (C+0)=some (.bool (aK l q).1)
theorem yz (B al:Nat) (b:dm) (aR:List UInt8) (n:Int) (x:List UInt8) (w:ah) (aY:cO w B al b aR) (aH:iq (cG b n)) (bn:x.length≤4294967296):
 bc aq 29 (bh [aU al,.int .i64 n,str x]) w (Ez (cG b n) x w):=by
 obtain ⟨bi,bj⟩:=id aH;refine enter func29 U ntmps29 U<|aQ 2 U<|e<|nP U U fun L bg bm Z aA=> ?_;have bp:=Z.size;refine aj 6 U<|p mv<|p mv<|e<|aX (JN B al b aR n bg<|aY.wk Z.md) U ?_;rintro bt bd ⟨⟨ao,cc,rfl,a1⟩,hE14⟩;have aD:=Z.md.trans hE14;refine p aT<|aj 5 U<|p mv<|aF 4 U<|cd U (fun a2=> ?_) fun a2=> ?_;have I:(cG b n).length=0:=ab;refine aE 8 U<|f2 U U U ?_;have C:iQ (cG b n) x=(none,0):=if_pos<|jG I;refine ⟨aD,.pointer none,by rw [C]; rfl,?_⟩;rw [C];have I:0 < (cG b n).length:=ab;refine aG 10 U<|p (aw U<|(az.aJ ⟨_,Wk.ak hE14 aA⟩ 0:ay bd.heap L 0=some (str x)))<|aF 5 U<|lp (fun av aS J=> ∃ (k q:Nat),(k≤x.length)∧(q < (cG b n).length)∧(iQ (cG b n) x=((dX (cG b n) q<|x.drop k).1,(dX (cG b n) q<|x.drop k).2 +k))∧(eT J.heap ao<|cG b n)∧(az J.heap L [str x])∧(Wk w J)∧(Sl aS [(5,aU L),(8,.slice ao (cG b n).length cc),(9,aB q),(19,aB (x.length)),(20,aB k)])∧(x.length - k=av)) _ ⟨0,0,ab,I,(by rw [iQ,if_neg (fun h=>by rw [h] at I; simp at I)]; rfl),a1,(⟨_,Wk.ak hE14 aA⟩),aD,U,U⟩ ?_;rintro av aS J ⟨k,q,a5,ag,ad,E,ac,O,a8,rfl⟩;refine bF a8<|bY 6 U<|cd U (fun a3=> ?_) fun a3=> ?_;refine aG 7 U<|e<|dq oV fun ap bv bl aI aV=> ?_;have bo:=aI.size;refine e<|c9 cU U U U aV (by simp) fun am a0 aW=> ?_;have aC:az am.heap ap [aB k]:=⟨_,aW⟩
 have A:Wk J am:=Md.trans' aI.md a0 fun k a5 h=>by omega
 have bq:=A.size;refine aF 3 U ?_;obtain ⟨ar,au,aa,aZ⟩:=E.two ag;have aN:=mT A aa;have V:=aZ.wk A;obtain ⟨a6,a7⟩:=aH.st ag;have aO:=GG (x:=x) (k:=k) ab;refine aG 3 U<|p (bJ kq U U ab<|E.ok ab)<|aj 1 U<|p (aw U<|aN 1 ab)<|p vM<|e<|aX (HN ar au (aK (cG b n) q).2 x k L ap am V (A.B ac) aC ab a6) U ?_;rintro bu bx ⟨⟨br,rfl,aP⟩,hE29⟩;refine aF 10 U<|cd U (fun a4=> ?_) fun a4=> ?_;have ae:=aP.resolve_left fun h=>by omega
 refine bZ 1 U<|fP fun aL=>de 0 U aL ((hE29.B aC).aJ 0)<|aM [1,2] U aL<|hn ai<|bf 5 U<|tr<|bf 2 U<|f2 U U U ?_;have C:iQ (cG b n) x=(none,k):=by rw [ad,aO,EW ae.2]; simp
 refine ⟨(O.trans<|A.trans hE29).drew,.pointer none,by rw [C]; rfl,?_⟩;rw [C];obtain ⟨rfl,ae⟩:=aP.resolve_right fun h=>by omega
 refine bZ 2 U ?_;obtain ⟨⟨c,z⟩,he⟩:∃ e,(aK (cG b n) q).2[dC (x.getD k 0) (aK (cG b n) q).2]? =some e:=⟨_,bD ae⟩
 obtain ⟨ba,bb⟩:=a7 _ _ he;obtain ⟨m,rfl⟩:∃ m:Nat,z=(m:Int):=⟨z.toNat,by simp only at ba; omega⟩
 simp only at bb;exact aG 3 U<|p (bJ kq U U ab<|E.ok ab)<|aj 1 U<|p (aw U<|(mT hE29 aN) 1 ab)<|aj 1 U<|p (bJ mr U U ab<|V.ok ab)<|aj 1 U<|p (aw U (show _=some (a9 .i64 ((m:Nat):Int)) from (V.wk hE29).to _ (c,_) he))<|aj 5 U<|p (bM<|k+1)<|ax 2 U<|tn<|⟨_,ab,k+1,m,ab,ab,(by rw [ad,aO,EU he U]; simp only [Prod.mk.injEq,true_and]; omega),(E.wk<|A.trans hE29),(Wk.B (A.trans hE29) ac),(O.trans<|A.trans hE29),U,U⟩
 refine aE 2 U<|cq<|dM 3 U<|fP fun M=>aM [0,1] U M<|cW 2 U (bJ kq U U ab<|E.ok ab) M<|de 3 U M (ac.aJ 0)<|aM [4,5,6] U M<|hn ai<|bf 2 U<|f2 U U U ?_;obtain rfl :k=x.length:=ab;have C:iQ (cG b n) x=(some q,x.length):=by rw [ad,List.drop_length,EV]; simp
 refine ⟨Md.drew O,_,by rw [C]; rfl,?_⟩;rw [C];obtain ⟨ar,au,aa,_⟩:=E.two ag;exact ⟨_,_,U,aa 0 ab⟩
theorem HA (B A:Nat) (b:dm) (E:List UInt8) (n:Int) (x:List UInt8) (w:ah) (I:cO w B A b E) (L:iq (cG b n)) (O:x.length≤4294967296) (C:(iQ (cG b n) x).1=none):
 bc aq 17 (bh [aU A,.int .i64 n,str x]) w (fun v w'=>v= .bool (iO (cG b n) x)∧Wk w w'):=by
 refine enter func17 U ntmps17 U<|aQ 7 U<|p mv<|p mv<|p mv<|e<|aX (yz B A b E n x w I L O) U ?_;rintro Z aa ⟨J,p,rfl,hp⟩;rw [C] at hp;subst hp;refine p mv<|aj 2 U<|p aT<|aj 5 U<|p mv<|p (vR xw U U)<|aj 1 U<|gb (t:=18) U (fun h=>absurd (h.symm.trans<|U) cD) fun V=>aj 5 U<|p aT<|ax 3 U<|aN U ?_;have M:iO (cG b n) x=false :=by rw [iO,C]
 rw [M];exact ⟨U,J⟩
theorem HC (B A:Nat) (b:dm) (E:List UInt8) (n:Int) (x:List UInt8) (w:ah) (I:cO w B A b E) (L:iq (cG b n)) (V:x.length≤4294967296) (q:Nat) (C:(iQ (cG b n) x).1=some q):
 bc aq 17 (bh [aU A,.int .i64 n,str x]) w (fun v w'=>v= .bool (iO (cG b n) x)∧Wk w w'):=by
 refine enter func17 U ntmps17 U<|aQ 7 U<|p mv<|p mv<|p mv<|e<|aX (yz B A b E n x w I L V) U ?_;rintro ac ad ⟨J,p,rfl,hp⟩;rw [C] at hp;obtain ⟨Z,ab,rfl,O⟩:=hp;refine p mv<|aj 2 U<|p aT<|aj 5 U<|p mv<|p (vR xw U U)<|aj 1 U<|gb (t:=18) U (fun aa=> ?_) fun h=>absurd ((U).symm.trans h) cD;refine bB U mv<|aj 2 U<|bB U (aw U<|O)<|ax 5 U<|aN U ?_;have M:iO (cG b n) x=(aK (cG b n) q).1:=by rw [iO,C]
 rw [M];exact ⟨U,J⟩
theorem pQ (B A:Nat) (b:dm) (C:List UInt8) (n:Int) (x:List UInt8) (w:ah) (E:cO w B A b C) (I:iq (cG b n)) (J:x.length≤4294967296):bc aq 17 (bh [.pointer (some ⟨A,0,none⟩),.int .i64 n,str x]) w (fun v w'=>v= .bool (iO (cG b n) x)∧Wk w w'):=by
 cases hX:(iQ (cG b n) x).1 with
 | none=>exact HA B A b C n x w E I J hX
 | some q=>exact HC B A b C n x w E I J q hX
end Go.Hb.cO
end
section
namespace Go.Hb
open Go.Hb.cO
def iX (l:List aP) (s:Nat) (c:UInt8):Option Nat:=if dC c (aK l s).2 < (aK l s).2.length then some ((aK l s).2.getD (dC c (aK l s).2) (0,0)).2.toNat else none
def gD (l:List aP) (u:List UInt8):Option Nat:=(dX l 0 u).1
theorem ud (l:List aP) (n:Nat) (c:UInt8) (u:List UInt8):(dX l n (c::u)).1=(iX l n c).bind fun s=>(dX l s u).1:=by
 rw [dX]; unfold iX;split <;> rfl
theorem ue (l:List aP):∀ (u:List UInt8) (n:Nat) (c:UInt8),(dX l n<|u++ [c]).1=(dX l n u).1.bind fun s=>iX l s c
 | [],n,c=>by
   rw [tI,ud];show (iX l n c).bind (fun s=>some s)=iX l n c;cases iX l n c <;> rfl
 | a::u,n,c=>by
   rw [List.cons_append,ud,ud];cases iX l n a with
   | none=>rfl
   | some s=>exact ue l u s c
theorem yw (l:List aP):∀ (v u:List UInt8) (n:Nat),(dX l n u).1=none→(dX l n<|u++v).1=none
 | [],u,n,h=>by rw [nE]; exact h
 | c::v,u,n,h=>by
   rw [show u++c::v=(u++ [c])++v by simp];refine yw l v _ n ?_;rw [ue,h]; rfl
def pK (l:List aP):Option Nat→Bool
 | some n=>(aK l n).1
 | none=>false
def bT (w:List UInt8) (i k:Nat):List UInt8:=(w.drop i).take<|k - i
def aH (l:List aP) (least:Nat) (w:List UInt8) (i k:Nat):Bool:=decide (i < k∧k≤w.length∧least≤k - i) && pK l (gD l<|bT w i k)
theorem F6 (w:List UInt8) (i:Nat):bT w i i= []:=by unfold bT; rw [yj]; rfl
theorem F8 {w:List UInt8} {i k:Nat} (hi:i≤k) (A:k < w.length):bT w i (k+1)=bT w i k++ [w.getD k 0]:=by
 unfold bT;rw [show k+1 - i=(k - i)+1 by omega,tL,ik,show i+(k - i)=k by omega,cm,bD A]; rfl
theorem F7 {w:List UInt8} {i k m:Nat} (hi:i≤k) (A:k≤m):∃ v,bT w i m=bT w i k++v:=by
 unfold bT;exact ⟨_,by rw [show m - i=(k - i)+(m - k) by omega,List.take_add]⟩
theorem Ap {l:List aP} {w:List UInt8} {i k:Nat} (hi:i≤k) (A:k < w.length):gD l (bT w i<|k+1)=(gD l<|bT w i k).bind fun s=>iX l s (w.getD k 0):=by
 unfold gD;rw [F8 hi A,ue]
theorem Hr {l:List aP} {w:List UInt8} {i k m:Nat} (hi:i≤k) (A:k≤m) (h:gD l (bT w i k)=none):gD l (bT w i m)=none:=by
 obtain ⟨v,C⟩:=F7 (w:=w) hi A;unfold gD at h ⊢;rw [C]; exact yw l v _ 0 h
def iU (l:List aP) (least:Nat) (w:List UInt8) (i k:Nat):List Nat:=(List.range' (i+1)<|k - i).filter<|aH l least w i
theorem GO (l:List aP) (least:Nat) (w:List UInt8) (i:Nat):iU l least w i i= []:=by unfold iU; rw [yj]; rfl
theorem zL {l:List aP} {least:Nat} {w:List UInt8} {i k:Nat} (hi:i≤k):iU l least w i (k+1)=iU l least w i k++if aH l least w i (k+1)=true then [k+1] else []:=by
 unfold iU;rw [show k+1 - i=(k - i)+1 by omega,List.range'_1_concat,List.filter_append,show i+1 +(k - i)=k+1 by omega];congr 1;cases h:aH l least w i (k+1) <;> simp [h]
theorem I9 {l:List aP} {least:Nat} {w:List UInt8} {i k s:Nat} (hi:i≤k) (C:k < w.length) (A:gD l (bT w i<|k+1)=some s):aH l least w i (k+1)=((aK l s).1 && decide (least≤k+1 - i)):=by
 unfold aH;rw [A];simp only [pK];cases (aK l s).1
 · simp
 · simp only [Bool.and_true,tg];exact decide_eq_decide.2 ⟨fun h=>h.2.2,fun h=>⟨ab,ab,h⟩⟩
theorem zK {l:List aP} {least:Nat} {w:List UInt8} {i k:Nat} (hi:i≤k) (C:k≤w.length) (h:k=w.length∨gD l (bT w i<|k+1)=none):iU l least w i k=jE (aH l least w) w.length i:=by
 rcases h with rfl | h
 · rfl
 · have :∀ d,k+d≤w.length→iU l least w i (k+d)=iU l least w i k:=fun d=>by
    induction d with
    | zero=>intro _; rfl
    | succ d ih=>
      intro A;rw [← Nat.add_assoc,zL ab,ih ab];have hn:=Hr (m:=k+d+1) ab ab h;have :aH l least w i (k+d+1)=false :=by unfold aH; rw [hn]; simp [pK]
      rw [this]; simp
   have h1:=this (w.length - k) ab;rw [show k+(w.length - k)=w.length by omega] at h1;exact h1.symm
theorem HL {c:UInt8} {es:List (UInt8×Int)} (hr:dW es) {i:Nat} (J:∀ (j:Nat) e,j < i→es[j]? =some e→e.1.toNat < c.toNat) (M:∀ (j:Nat) e,i≤j→es[j]? =some e→c.toNat≤e.1.toNat):(i < es.length∧(es.getD i (0,0)).1=c→dC c es=i)∧(¬(i < es.length∧(es.getD i (0,0)).1=c)→dC c es=es.length):=by
 constructor
 · rintro ⟨h1,A⟩;rw [cm,bD h1] at A;refine Av (bD h1) A fun j e E he h=> ?_;have :=J j e E he;rw [h] at this; omega
 · intro h;refine Aw fun j e he C=>h ?_;have V:¬j < i:=fun E=>by have :=J j e E he; rw [C] at this; omega
   have I:=(cI.1 he).1;by_cases O:i=j
   · subst O;refine ⟨I,?_⟩;rw [cm,he]; exact C
   · exfalso;have h1:es[i]? =some (es[i]'ab):=bD ab;have A:=M i _ (aR _) h1;have L:=pj.1 hr i j ab I ab;obtain ⟨U,rfl⟩:=cI.1 he;rw [C] at L;omega
theorem ub {l:List aP} (h:l≠[]) (u:List UInt8):iO l u=pK l (gD l u):=by
 unfold iO iQ gD;rw [if_neg h];cases (dX l 0 u).1 <;> rfl
theorem F5 {w:List UInt8} {i k:Nat} (A:k≤w.length):(bT w i k).length=k - i:=by
 unfold bT;rw [dh,gx]; omega
theorem wc {l:List aP} {least:Nat} {w:List UInt8} {i k:Nat} :aH l least w i k=true↔(i < k∧k≤w.length∧least≤k - i)∧pK l (gD l<|bT w i k)=true :=by
 unfold aH;rw [aZ,decide_eq_true_iff]
def bV (l:List aP) (least:Nat) (w:List UInt8):List (List UInt8):=if w.length≤1024∧(jC (aH l least w) w.length 0).1≠0 then (ga (aH l least w) w.length 0).map fun p=>bT w p.1 p.2 else []
def fN (l:List aP) (least:Nat) (w:List UInt8):Nat×Bool:=if w= []∨1024 < w.length then (0,true) else if eJ < (jC (aH l least w) w.length 0).2 then (0,false) else ((jC (aH l least w) w.length 0).2,true)
section
variable {l:List aP} {least:Nat} {w:List UInt8}
theorem HP:(jC (aH l least []) 0 0).1=0:=by rw [n7]
theorem Cq (h:(jC (aH l least w) w.length 0).1≠0):0 < w.length∧eV (aH l least w) w.length 0:=by
 have h0:0 < w.length:=by
  rcases tN w.length with h1 | h1
  · rw [h1,n7] at h; exact absurd rfl h
  · exact h1
 exact ⟨h0,.inr ⟨h0,h⟩⟩
theorem qv:(bV l least w= []∧(w.length≤1024→(jC (aH l least w) w.length 0).1=0))∨(w.length≤1024∧0 < w.length∧eV (aH l least w) w.length 0∧(jC (aH l least w) w.length 0).1≠0∧bV l least w=(ga (aH l least w) w.length 0).map fun p=>bT w p.1 p.2):=by
 unfold bV;split
 · rename_i h;obtain ⟨h1,A⟩:=Cq h.2;exact .inr ⟨h.1,h1,A,h.2,U⟩
 · rename_i h;exact .inl ⟨U,fun h1=>Dq fun A=>h ⟨h1,A⟩⟩
theorem F9 {i k:Nat} (hi:i≤k):bT w i k++w.drop k=w.drop i:=by
 unfold bT;have :w.drop k=(w.drop i).drop (k - i):=by rw [List.drop_drop]; congr 1; omega
 rw [this,List.take_append_drop]
theorem xg (h:bV l least w≠[]):(bV l least w).flatten=w:=by
 rcases qv (l:=l) (least:=least) (w:=w) with ⟨h1,_⟩ | ⟨_,_,A,_,e⟩
 · exact absurd h1 h
 · rw [e];have :=uA (pc:=aH l least w) (n:=w.length) (fun i l=>(l.map fun p=>bT w p.1 p.2).flatten=w.drop i) (by simp) (fun i hi A C E I J L ih=>by
    rw [List.map_cons,List.flatten_cons,ih];exact F9 (Nat.le_of_lt C)) A
   rw [this]; rfl
theorem Kf (I:l≠[]) {p:List UInt8} (hp:p∈bV l least w):iO l p=true∧least≤p.length:=by
 rcases qv (l:=l) (least:=least) (w:=w) with ⟨h1,_⟩ | ⟨_,_,J,_,e⟩
 · rw [h1] at hp; cases hp
 · rw [e] at hp;obtain ⟨q,L,rfl⟩:=List.mem_map.1 hp;obtain ⟨M,A,C,_⟩:=Ga J q L;obtain ⟨⟨_,_,E⟩,g5⟩:=wc.1 C;exact ⟨by rw [ub I]; exact g5,by rw [F5 A]; exact E⟩
theorem Co (h:bV l least w≠[]):(bV l least w).length=(jC (aH l least w) w.length 0).1:=by
 rcases qv (l:=l) (least:=least) (w:=w) with ⟨h1,_⟩ | ⟨_,_,A,_,e⟩
 · exact absurd h1 h
 · rw [e,qR,uB A]
theorem Cp (hw:w.length≤1024):bV l least w≠[]↔(jC (aH l least w) w.length 0).1≠0:=by
 rcases qv (l:=l) (least:=least) (w:=w) with ⟨h1,A⟩ | ⟨_,h0,E,C,e⟩
 · exact ⟨fun h=>absurd h1 h,fun h=>absurd (A hw) h⟩
 · refine ⟨fun _=>C,fun _=> ?_⟩;rw [e];intro h;exact Gb E h0<|List.map_eq_nil_iff.1 h
theorem xh (hw:1024 < w.length):bV l least w= []:=by unfold bV; rw [if_neg ab]
theorem Cr:(bV l least w).length≠1:=by
 rcases qv (l:=l) (least:=least) (w:=w) with ⟨h1,_⟩ | ⟨_,h0,A,_,e⟩
 · rw [h1]; decide
 · intro h;rw [e,qR,uB A] at h;obtain ⟨E,I,_,J,L,C⟩:=A.next h0
   unfold eV at C;omega
theorem Ct (E:l≠[]) (hw:w.length≤1024) (J:(bV l least w).length≠2) {i:Nat} (h0:0 < i) (hi:i < w.length) (O:least≤i) (U:least≤w.length - i) (A:iO l (w.take i)=true) (C:iO l (w.drop i)=true):False:=by
 have p1:aH l least w 0 i=true :=wc.2 ⟨⟨h0,ab,ab⟩,by
  rw [ub E] at A;exact A⟩
 have p2:aH l least w i w.length=true :=wc.2 ⟨⟨hi,ab,ab⟩,by
  rw [ub E] at C;have :bT w i w.length=w.drop i:=by unfold bT; exact nG<|by rw [gx]; exact aR _
  rw [this]; exact C⟩
 have f1:=z5 hi (aR _) p2 (.inl h0)<|.inl rfl;rw [n7] at f1;have f2:=z5 h0 ab p1 (.inr hi)<|.inr f1.1;have I:=(Cp (l:=l) (least:=least) hw).2 f2.1;have L:=Co I;have M:=Cr (l:=l) (least:=least) (w:=w);have :=f1.2;have :=f2.2;have :=f2.1;omega
theorem FX:(fN l least w).2=true→(0 < (fN l least w).1↔bV l least w≠[]):=by
 unfold fN;split
 · rename_i h;intro _;refine ⟨fun h=>absurd h aD,fun h1=> ?_⟩;exfalso; apply h1;rcases h with h | h
   · subst h;unfold bV;rw [if_neg (fun e=>e.2 HP)]
   · exact xh h
 · rename_i h;have hw:w.length≤1024:=ab;have h0:0 < w.length:=by
    rcases tN w.length with h1 | h1
    · exact absurd (.inl<|jG h1) h
    · exact h1
   split
   · intro h; cases h
   · intro _;rw [Cp hw];obtain ⟨h1,A⟩:=Lg (pc:=aH l least w) (n:=w.length) 0<|fq _;show 0 < (jC (aH l least w) w.length 0).2↔_;rw [h1,ne_eq,A h0];have :eJ=1099511627776:=rfl;omega
end
end Go.Hb
end
section
namespace Go.Hb.jK
open Go.Hb.dQ
open Go.Hb.fZ Go.Hb.im Go.Hb.cO
def fI (w:ah) (B k:Nat) (A:List (Bool×ag)) (l:List aP):Prop :=A.length=l.length∧∀ (i:Nat) q e,A[i]? =some q→l[i]? =some e→q.1=e.1∧Tg w 0 84 e.2.length q.2 (eW e.2)∧(i < k→Tg w B 84 e.2.length q.2 (eW e.2))
theorem eD.q {w:ah} {B B':Nat} {C:List (Bool×ag)} {l:List aP} (h:eD w B C l):fI w B' 0 C l:=⟨h.1,fun i q e A he=>⟨(h.2 i q e A he).1,(h.2 i q e A he).2.mono (fq _),fun hi=>by omega⟩⟩
theorem fI.p {w:ah} {B:Nat} {C:List (Bool×ag)} {l:List aP} (h:fI w B l.length C l):eD w B C l:=⟨h.1,fun i q e A he=>⟨(h.2 i q e A he).1,(h.2 i q e A he).2.2 (cI.1 he).1⟩⟩
theorem fI.md {F:Nat→Prop} {w w':ah} {B k:Nat} {I:List (Bool×ag)} {l:List aP} (h:fI w B k I l) (hm:Md F w w') (E:∀ k,F k→∀ cur z,w.heap[k]?≠some (.cells cur 84 z)):fI w' B k I l:=
 ⟨h.1,fun i q e C he=>⟨(h.2 i q e C he).1,Tg.kD (h.2 i q e C he).2.1 hm (fun k A _=>E k A),fun hi=>Tg.kD ((h.2 i q e C he).2.2 hi) hm fun k A _=>E k A⟩⟩
theorem fI.set {w:ah} {B k:Nat} {I:List (Bool×ag)} {l:List aP} {f:Bool} {v:ag} {e:aP} (h:fI w B k I l) (he:l[k]? =some e) (M:f=e.1) (E:Tg w B 84 e.2.length v (eW e.2)):fI w B (k+1) (I.set k (f,v)) l:=by
 refine ⟨by rw [il,h.1],fun i q r A hr=> ?_⟩;have U:=h.1;have O:=(cI.1 hr).1;by_cases C:k=i
 · subst C;rw [he] at hr; cases hr;rw [D8 ab] at A; cases A;exact ⟨M,E.mono (fq _),fun _=>E⟩
 · rw [D7 C] at A;obtain ⟨h1,J,L⟩:=h.2 i q r A hr;exact ⟨h1,J,fun hi=>L ab⟩
theorem Ca:∀ (A:List (Bool×ag)) (k:Nat) (v:ag),k < A.length→(fk A).set (k*2 +1) v=fk (A.set k ((A.getD k (false,.nilFunc)).1,v))
 | [],k,v,h=>by simp at h
 | q::A,0,v,_=>by simp [fk]
 | q::A,k+1,v,h=>by
   have ih:=Ca A k v<|by simpa using h
   rw [yg,yc];show (bC q.1::q.2::fk A).set ((k+1)*2 +1) v= .bool q.1::q.2::fk _;rw [show (k+1)*2 +1=(k*2 +1)+1 +1 by omega,yg,yg,ih]
theorem JV {w:ah} {B:Nat} {C:List (Bool×ag)} {l:List aP} (h:eD w B C l):(fk C).all fg=true :=by
 rw [List.all_eq_true];intro v A;obtain ⟨q,I,A⟩:=List.mem_flatMap.1 A;obtain ⟨i,hi⟩:=List.getElem?_of_mem I;have L:=(cI.1 hi).1;have M:=h.1;have he:l[i]? =some (l[i]'ab):=bD ab;obtain ⟨_,E⟩:=h.2 i _ _ hi he;obtain ⟨a,c,J⟩:=E.slice;simp only [dP,List.not_mem_nil,or_false] at A;rcases A with rfl | rfl
 · rfl
 · rw [J]; rfl
theorem GL (es:List (UInt8×Int)):(eW es).all fg=true :=Ac (fun _=>rfl) es
theorem Jx (l:List (List UInt8×List UInt8)):(l.flatMap ee).all fg=true :=Ac (fun _=>rfl) l
theorem BP (l:List (List UInt8×List UInt8)):(l.flatMap ee).length=l.length*2:=rQ (m:=2) (fun _=>rfl) l
theorem yR {h:Array Obj} {a:Option bK} {n m:Nat} {xs:List ag} (C:bd h a xs) (A:xs.length=n*m) (hm:0 < m) (ha:a=none):n=0:=by
 rcases tN n with h0 | h0
 · exact h0
 · exfalso;have E:xs≠[]:=fun e=>by
    rw [e] at A;have :0 < n*m:=Nat.mul_pos h0 hm;simp only [jH] at A; omega
   have :=bd.ok C E;rw [ha] at this; cases this
theorem vm {x y z:ag} {ws:List ag} {i:Nat} (hi:i < ws.length):([x,y,z]++ws).toArray[0 +3 +((i:Nat):Int).toNat*1]? =some (ws.getD i .nilFunc):=by
 rw [List.getElem?_toArray,show 0 +3 +((i:Nat):Int).toNat*1=i+1 +1 +1 from by omega,cm,bD hi];show ws[i]? =_;rw [bD hi]; rfl
theorem Ky {l:List aP} {n:Nat} (h:n < l.length):l[n]? =some (aK l n):=by
 unfold aK;rw [cm,bD h]; rfl
theorem four {α:Type} {l:List α} (h:l.length=4):∃ a b c d,l= [a,b,c,d]:=by
 match l,h with
 | [a,b,c,d],_=>exact ⟨a,b,c,d,rfl⟩
theorem Tg.parts {w:ah} {B e n m:Nat} {v:ag} {xs:List ag} (h:Tg w B e n v xs) (C:xs.length=n*m) (hm:0 < m):∃ a c,v= .slice a n c∧bd w.heap a xs∧(a=none→n=0):=by
 obtain ⟨a,c,rfl⟩:=h.slice;obtain ⟨_,A⟩:=h.pC;exact ⟨a,c,U,A,yR A C hm⟩
theorem FO (a:Option bK) (n c:Nat) (xs:List ag) (w:ah) (J:bd w.heap a xs) (aa:xs.length=n*2) (ha:a=none→n=0) (h1:xs.all fg=true) (hn:n≤1048576):
 bc aq 26 (bh [.slice a n c]) w (fun v w'=>bA w' w.heap.size 77 2 v n xs∧Wk w w'):=by
 refine enter func26 U ntmps26 U<|aQ 9 U<|p (uR KQ U U)<|aF 2 U<|cb U (fun C=> ?_) fun C=> ?_;have O:a=none:=by simpa using C
 refine aE 7 U<|aN U ?_;have V:=ha O;subst V;obtain rfl :=jG (show xs.length=0 by omega);exact ⟨gw _ _ _ _,Md.refl _ _⟩;refine aG 4 U<|e<|rk sL fun ai ao ak A I=> ?_;have E:=I w.heap.size ab;refine aj 1 U<|e<|ap sL (E) U (by have :=A.size; omega) U (J.wk A.md) (aa) (h1) ab ab fun ad ae Z M am al=> ?_;have L:=Wk.own A.md E M<|aR _;refine p aT<|ax 3 U<|aN U ?_;have ac:bA ae w.heap.size 77 2 ad n xs:=by simpa using Z
 exact ⟨ac,L⟩
theorem FP (a:Option bK) (n c:Nat) (xs:List ag) (w:ah) (J:bd w.heap a xs) (aa:xs.length=n*2) (ha:a=none→n=0) (h1:xs.all fg=true) (hn:n≤1048576):
 bc aq 27 (bh [.slice a n c]) w (fun v w'=>bA w' w.heap.size 81 2 v n xs∧Wk w w'):=by
 refine enter func27 U ntmps27 U<|aQ 9 U<|p (uR KR U U)<|aF 2 U<|cb U (fun C=> ?_) fun C=> ?_;have O:a=none:=by simpa using C
 refine aE 7 U<|aN U ?_;have V:=ha O;subst V;obtain rfl :=jG (show xs.length=0 by omega);exact ⟨gw _ _ _ _,Md.refl _ _⟩;refine aG 4 U<|e<|rk sM fun ai ao ak A I=> ?_;have E:=I w.heap.size ab;refine aj 1 U<|e<|ap sM (E) U (by have :=A.size; omega) U (J.wk A.md) (aa) (h1) ab ab fun ad ae Z M am al=> ?_;have L:=Wk.own A.md E M<|aR _;refine p aT<|ax 3 U<|aN U ?_;have ac:bA ae w.heap.size 81 2 ad n xs:=by simpa using Z
 exact ⟨ac,L⟩
theorem FN (a:Option bK) (n c:Nat) (xs:List ag) (w:ah) (J:bd w.heap a xs) (aa:xs.length=n*2) (ha:a=none→n=0) (h1:xs.all fg=true) (hn:n≤1048576):
 bc aq 28 (bh [.slice a n c]) w (fun v w'=>bA w' w.heap.size 84 2 v n xs∧Wk w w'):=by
 refine enter func28 U ntmps28 U<|aQ 9 U<|p (uR KS U U)<|aF 2 U<|cb U (fun C=> ?_) fun C=> ?_;have O:a=none:=by simpa using C
 refine aE 7 U<|aN U ?_;have V:=ha O;subst V;obtain rfl :=jG (show xs.length=0 by omega);exact ⟨gw _ _ _ _,Md.refl _ _⟩;refine aG 4 U<|e<|rk sO fun ai ao ak A I=> ?_;have E:=I w.heap.size ab;refine aj 1 U<|e<|ap sO (E) U (by have :=A.size; omega) U (J.wk A.md) (aa) (h1) ab ab fun ad ae Z M am al=> ?_;have L:=Wk.own A.md E M<|aR _;refine p aT<|ax 3 U<|aN U ?_;have ac:bA ae w.heap.size 84 2 ad n xs:=by simpa using Z
 exact ⟨ac,L⟩
theorem yJ (B aM:Nat) (b:dm) (s:List UInt8) (w:ah) (ce:cO w B aM b s) (aA:b.Is s):
 bc aq 16 (bh [aU aM]) w (fun v w'=> ∃ cs,v= .agg cs.toArray∧lh w' w.heap.size cs b∧Wk w w'):=by
 obtain ⟨cs,b3,⟨br,rc,vs,rfl,c0,bG,av⟩,hBk⟩:=ce;obtain ⟨aP,aS,aT,aV,rfl⟩:=four c0;have cI:aP.oneCell'=true :=by obtain ⟨a,c,h,_⟩:=(av 0 ab).ew; rw [show aP=_ from h]; rfl
 have cL:aS.oneCell'=true :=by obtain ⟨a,c,h,_⟩:=(av 1 ab).ew; rw [show aS=_ from h]; rfl
 have cN:aT.oneCell'=true :=by obtain ⟨a,c,h,_⟩:=(av 2 ab).ew; rw [show aT=_ from h]; rfl
 have cP:aV.oneCell'=true :=by obtain ⟨a,c,h,_⟩:=(av 3 ab).ew; rw [show aV=_ from h]; rfl
 have cT:br=none→b.cZ.length=0:=yR bG (BP _) aD;refine enter func16 U ntmps16 U<|aQ 2 U<|e<|dq oW fun aW c5 c6 a9 b6=> ?_;have dc:=a9.size;refine aj 6 U<|p (gB lQ U U)<|aF 2 U<|cf (U)<|aG 7 U<|p (eZ kf U (U) (show ∀ j,j < 7→ay c5.heap aM (0 +j)=([aB (b.least),str b.tr,.slice br b.cZ.length rc,aP,aS,aT,aV]:List ag)[j]? from fun j al=>by rw [cJ,(Wk.B a9.md b3).ay]; exact fm<|by simpa using al)) ?_;refine e<|dq oW fun E dt c7 ba ca=> ?_;have de:=ba.size;refine e<|ei lu U U U (by simp only [o7,tw,cI,cL,cN,cP]; rfl) ca aD fun bW a8 bB=> ?_;have bH:Wk w bW:=(a9.md.trans ba.md).trans' a8 fun k A h=>by omega
 have dg:=a8.size;have b7:=a8.ak (Wk.ak ba.md b6) fun h=>by omega
 refine aj 5 U<|p (aw U<|(bg bB).trans U)<|e<|aX (FO br b.cZ.length rc (b.cZ.flatMap ee) bW (bG.wk bH) (BP _) cT (Jx _)<|by have :=aA.IW; omega) U ?_;rintro dn a5 ⟨bn,aZ⟩;obtain ⟨J,M,rfl⟩:=eb bn;have db:=aZ.size;have cx:=Wk.ak aZ bB;have b8:=Wk.ak aZ b7;refine aj 1 U<|e<|c9 za U U (v:= .slice J b.cZ.length M) U cx (by simp) fun bX a1 cb=> ?_;have dj:=a1.size;have cj:Wk w bX:=(bH.trans aZ).trans' a1 fun k A h=>by omega
 have cR:bA bX w.heap.size 77 2 (.slice J b.cZ.length M) b.cZ.length (b.cZ.flatMap ee):=bR (qh bn ab) a1 fun k A h=>by have :=(cM bn A).1; omega
 have b9:=a1.ak b8 fun h=>by omega
 refine aF 9 U<|lp (fun ao b0 C=> ∃ (i:Nat) (ws:List ag),(i≤4)∧(ws.length=4)∧(C.heap[E]? =some (.cells ([aB (b.least),str b.tr,.slice J b.cZ.length M]++ws).toArray 44 (0,0)))∧(C.heap[aW]? =some (.cells [.int .i64 0,str [],.slice none 0 0,.slice none 0 0,.slice none 0 0,.slice none 0 0,.slice none 0 0].toArray 44 (0,0)))∧(bA C w.heap.size 77 2 (.slice J b.cZ.length M) b.cZ.length<|b.cZ.flatMap ee)∧(∀ j,j < i→eR C w.heap.size (ws.getD j .nilFunc) (b.ar.getD j []))∧(∀ j,i≤j→j < 4→ws.getD j .nilFunc= [aP,aS,aT,aV].getD j .nilFunc)∧(Wk w C)∧(E < C.heap.size)∧(Sl b0 [(0,aU aM),(2,aU aW),(3,aU E),(17,aB i)])∧(4 - i=ao)) _ ⟨0,[aP,aS,aT,aV],ab,U,cb,b9,cR,(fun j al=>by omega),(fun j _ _=>rfl),cj,ab,U,U⟩ ?_;rintro ao b0 C ⟨i,ws,hi,bq,aI,aY,a3,am,hold,au,dl,cU,rfl⟩;refine bF cU<|bY 6 U<|cd U (fun cy=> ?_) fun cy=> ?_;refine bZ 11 U ?_;obtain ⟨aN,cu,aH⟩:=(av i ab).wk au;obtain ⟨bu,bx,cX,cg,cE⟩:=Tg.parts (w:=C) (B:=B) (e:=81) (n:=(b.ar.getD i []).length) (xs:=fk aN) cu (m:=2) (by rw [B9,aH.1]) aD;have cD:(b.ar.getD i []).length≤1048576:=(aA.ar _<|jt<|by rw [aA.p7]; omega).2.1;have cA:ay C.heap E (0 +3 +((i:Nat):Int).toNat*1)=some (.slice bu (b.ar.getD i []).length bx):=by rw [bg aI,vm ab,hold i (aR _) ab,cX]
 refine aG 4 U<|p (iW ll U U ab)<|p (aw U<|cA)<|e<|aX (FP bu (b.ar.getD i []).length bx (fk aN) C cg (by rw [B9,aH.1]) cE (JV aH) cD) U ?_;rintro dp ds ⟨bo,a0⟩;obtain ⟨L,V,rfl⟩:=eb bo;have dd:=a0.size;have bI:=Wk.ak a0 aI;refine aj 1 U<|p (iW ll U U ab)<|e<|c9 zb U U (v:= .slice L (b.ar.getD i []).length V) U bI (by simp only [cw,dJ,jH,bq]; omega) fun aO a2 cc=> ?_;have dk:=a2.size;have bK:aO.heap[E]? =some (.cells ([aB (b.least),str b.tr,.slice J b.cZ.length M]++ws.set i (.slice L (b.ar.getD i []).length V)).toArray 44 (0,0)):=by rw [← wS]; exact cc
 have cQ:bA aO C.heap.size 81 2 (.slice L (b.ar.getD i []).length V) (b.ar.getD i []).length (fk aN):=bR bo a2 fun k A h=>by have :=(cM bo A).1; omega
 have co:Md (fun k=>k=E) C aO:=(a0.mono fun _ _ h=>h.elim).trans a2;have cB:ay aO.heap E (0 +3 +((i:Nat):Int).toNat*1)=some (.slice L (b.ar.getD i []).length V):=by rw [bg bK,vm (by rw [il]; omega),n5 ab]
 have ct:fI aO w.heap.size 0 aN (b.ar.getD i []):=fI.md (eD.q<|eD.wk aH a0) a2 fun k A cur z h=>by subst A; rw [bI] at h; cases h
 refine aj 6 U<|p (iW ll U U ab)<|p (aw U<|cB)<|aF 5 U<|lp (fun ao b1 I=> ∃ (k:Nat) (us:List (Bool×ag)),(k≤(b.ar.getD i []).length)∧(us.length=(b.ar.getD i []).length)∧(bA I C.heap.size 81 2 (.slice L (b.ar.getD i []).length V) (b.ar.getD i []).length<|fk us)∧(fI I w.heap.size k us<|b.ar.getD i [])∧(I.heap[E]? =some (.cells ([aB (b.least),str b.tr,.slice J b.cZ.length M]++ws.set i (.slice L (b.ar.getD i []).length V)).toArray 44 (0,0)))∧(Md (fun k=>k=E) C I)∧(Sl b1 [(0,aU aM),(2,aU aW),(3,aU E),(4,aB i),(17,aB i),(32,aB ((b.ar.getD i []).length)),(33,aB k)])∧((b.ar.getD i []).length - k=ao)) _ ⟨0,aN,ab,aH.1,cQ,ct,bK,co,U,U⟩ ?_;rintro ao b1 I ⟨k,us,A,cW,aL,bb,bj,ae,cV,rfl⟩;refine bF cV<|bY 6 U<|cd U (fun cz=> ?_) fun cz=> ?_;refine bZ 10 U ?_;have bM:ay I.heap E (0 +3 +((i:Nat):Int).toNat*1)=some (.slice L (b.ar.getD i []).length V):=by rw [bg bj,vm (by rw [il]; omega),n5 ab]
 have bE:=(cF aL).2;obtain ⟨q,bp⟩:∃ q,us[k]? =some q:=⟨_,bD ab⟩
 have bm:(b.ar.getD i [])[k]? =some (aK (b.ar.getD i []) k):=Ky ab;have bP:=bd.ok bE<|nZ (f:=fun q:Bool×ag=> [bC q.1,q.2]) (m:=2) (fun _=>rfl) aD ab;obtain ⟨cS,bQ,_⟩:=bb.2 k q _ bp bm;generalize bL:(aK (b.ar.getD i []) k).2=es at bQ;obtain ⟨bv,bz,cY,ch,cG⟩:=Tg.parts (w:=I) (B:=0) (e:=84) (n:=es.length) (xs:=eW es) bQ (m:=2) (zE _) aD;have c8:es.length≤256:=by rw [← bL]; exact (aA.ar _<|jt<|by rw [aA.p7]; omega).2.2 _ (kZ bm) |>.1
 have cC:ay I.heap (bk L) (fo L+k*2 +1)=some (.slice bv es.length bz):=by
  rw [lB (f:=fun q:Bool×ag=> [bC q.1,q.2]) (m:=2) (fun _=>rfl) bE bp 1 ab,← cY]; rfl
 refine r6 16 fun O=>gd [0,1] U O<|lH 2 U (iW ll U U ab) O<|jA 3 U O (bM)<|gd [4,5,6] U O<|lH 7 U (iW ll U U ab) O<|jA 8 U O (bM)<|gd [9] U O<|lH 10 U (bJ kq U U ab<|bP) O<|gd [11] U O<|jA 12 U O (cC)<|gj 13 U ai<|aX (FN bv es.length bz (eW es) I.drew (ch.wk (Md.refl _ _).drew) (zE _) cG (GL _) ab) U ?_;rintro a4 bt ⟨bO,ap⟩;have dh:=ap.size;have bi:(fun w'=>Wk I w') bt:=O.trans ap;refine ⟨bi,?_⟩;refine gj 14 U ai<|jd (bJ kq U U ab<|bP) ⟨bi,?_⟩;refine gj 15 U ai<|jd (fa Hi U) ⟨bi,?_⟩;refine kB 16 U ai ai<|oN (j:=k*2 +1) (u:=a4) (bl aL<|Md.dr ap) zd U U (I8 bO) (by rw [qP]; omega) ab fun bV aC bN=> ?_;have da:=aC.size;have bU:∀ k,(dw L (b.ar.getD i []).length V).ownBlock=some k→C.heap.size≤k:=fun k h=>(cM aL h).1;have a6:Wk I bt:=Md.dr ap;have cp:Md (fun k=>k=E) C bV:=(ae.trans<|a6.mono fun _ _ h=>h.elim).trans' aC fun k A h=>by have :=bU k h; omega
 have cv:Tg bt w.heap.size 84 es.length a4 (eW es):=(Tg.oo bO).mono<|by have :=au.size; have :=ae.size; show w.heap.size≤I.heap.size; omega
 have bT:=gH (e':=84) (bl aL a6) aD;have cr:fI bV w.heap.size (k+1) (us.set k (q.1,a4)) (b.ar.getD i []):=fI.set (fI.md (fI.md bb a6 fun _ h=>h.elim) aC bT) bm cS<|by rw [bL]; exact Tg.kD cv aC fun k A _=>bT k A
 exact kC ai<|bf 6 U<|tn<|⟨_,ab,k+1,us.set k (q.1,a4),ab,(by rw [il]; exact cW),(by rw [Ca _ _ _ ab,show us.getD k (false,.nilFunc)=q from by rw [cm,bp]; rfl] at bN; exact bN),cr,(aC.ak (Wk.ak ap bj) fun h=>by have :=bU E h; omega),cp,U,U⟩
 refine aE 2 U<|cq<|dM 3 U ?_;obtain rfl :k=(b.ar.getD i []).length:=ab;have ck:Wk w I:=au.trans' ae fun k A h=>by omega
 have cH:∀ j,j < i+1→eR I w.heap.size ((ws.set i<|.slice L (b.ar.getD i []).length V).getD j .nilFunc) (b.ar.getD j []):=fun j al=>by
  by_cases h:j=i;subst h;rw [n5 ab];refine ⟨us,?_,fI.p bb⟩;have :=Tg.oo<|qh aL (show w.heap.size≤C.heap.size from au.size);exact this;rw [pM ab];exact (am j ab).md ae fun k A hb cur z=>by subst A; rw [aI]; exact ⟨by simp,by simp⟩
 exact aE 4 U<|tn<|⟨_,ab,i+1,ws.set i (.slice L (b.ar.getD i []).length V),ab,(by rw [il]; exact bq),bj,(ae.ak aY fun h=>by omega),(bR a3 ae fun k A h=>gH a3 aD k A _ _<|h ▸ aI),cH,(fun j h1 b2=>by rw [pM ab]; exact hold j ab b2),ck,(by have :=ae.size; omega),U,U⟩
 refine aE 2 U<|cq<|dM 3 U ?_;obtain rfl :i=4:=ab;obtain ⟨Z,aa,ac,ad,rfl⟩:=four bq;have c1:Z.oneCell'=true :=by obtain ⟨a,c,h,_⟩:=(am 0 ab).ew; rw [show Z=_ from h]; rfl
 have c2:aa.oneCell'=true :=by obtain ⟨a,c,h,_⟩:=(am 1 ab).ew; rw [show aa=_ from h]; rfl
 have c3:ac.oneCell'=true :=by obtain ⟨a,c,h,_⟩:=(am 2 ab).ew; rw [show ac=_ from h]; rfl
 have c4:ad.oneCell'=true :=by obtain ⟨a,c,h,_⟩:=(am 3 ab).ew; rw [show ad=_ from h]; rfl
 refine aG 1 U<|p (eZ kf U (U) (show ∀ j,j < 7→ay C.heap E (0 +j)=([aB (b.least),str b.tr,.slice J b.cZ.length M,Z,aa,ac,ad]:List ag)[j]? from fun j al=>by rw [cJ,bg aI]; simp))<|e<|ei lu U U U (by simp only [o7,tw,c1,c2,c3,c4]; rfl) aY aD fun a5 a7 b4=> ?_;have ci:Wk w a5:=au.trans' a7 fun k A h=>by omega
 have cn:lh a5 w.heap.size [aB (b.least),str b.tr,.slice J b.cZ.length M,Z,aa,ac,ad] b:=⟨J,M,[Z,aa,ac,ad],rfl,rfl,(cF<|bR a3 a7 fun k A h=>gH a3 aD k A _ _<|h ▸ aY).2,fun j al=>(am j al).md a7 fun k A hb cur z=>by subst A; rw [aY]; exact ⟨by simp,by simp⟩⟩
 have b5:az a5.heap aW [aB (b.least),str b.tr,.slice J b.cZ.length M,Z,aa,ac,ad]:=⟨_,b4⟩
 exact ax 3 U<|pJ U (hO (cs:= [aB (b.least),str b.tr,.slice J b.cZ.length M,Z,aa,ac,ad]) U kf U fun j al=>b5.aJ j)<|⟨[aB (b.least),str b.tr,.slice J b.cZ.length M,Z,aa,ac,ad],U,cn,ci⟩
end Go.Hb.jK
end
section
namespace Go.Hb
open Go.Hb.dQ
open Go.Hb.cO Go.Hb.jK Go.Hb.fZ Go.Hb.im
theorem Jm {es:List (UInt8×Int)} (hr:dW es) {m k:Nat} {d e:UInt8×Int} {x:Nat} (C:es[m]? =some d) (h:d.1.toNat < x) (I:k≤m) (he:es[k]? =some e):e.1.toNat < x:=by
 obtain ⟨h1,rfl⟩:=cI.1 C;obtain ⟨A,rfl⟩:=cI.1 he;by_cases E:k=m
 · subst E; exact h
 · have :=pj.1 hr k m A h1 ab;omega
theorem Jl {es:List (UInt8×Int)} (hr:dW es) {m k:Nat} {d e:UInt8×Int} {x:Nat} (C:es[m]? =some d) (h:x≤d.1.toNat) (I:m≤k) (he:es[k]? =some e):x≤e.1.toNat:=by
 obtain ⟨h1,rfl⟩:=cI.1 C;obtain ⟨A,rfl⟩:=cI.1 he;by_cases E:m=k
 · subst E; exact h
 · have :=pj.1 hr m k h1 A ab;omega
theorem zM {l:List aP} {least:Nat} {x:List UInt8} {i k:Nat} :(iU l least x i k).length≤k - i:=by
 unfold iU;exact cN (List.length_filter_le _ _)<|by rw [List.length_range']; exact aR _
theorem Bx (A:UInt8×Int) (c:UInt8) (w:ah):
 bc aq 86 (bh [.agg #[.int .u8 A.1.toNat,.int .i64 A.2],.int .u8 c.toNat]) w (fun v w'=>v= .int .i64 ((A.1.toNat:Int) - (c.toNat:Int))∧Wk w w'):=by
 have L:=kd A.1;have I:=kd c;exact enter func86 U ntmps86 U<|aQ 2 U<|e<|mg U fun J M I E C=>aj 6 U<|p (aw U<|C.aJ 0)<|p (fy u3 qz U<|gM ab)<|aj 1 U<|p (fy u3 qz U<|gM ab)<|ax 5 U<|aN U<|⟨U,E.md⟩
theorem Fh (a:Option bK) (c:Nat) (es:List (UInt8×Int)) (x:UInt8) (w:ah) (J:ke w.heap a es) (hr:dW es) (aw:es.length≤256):
 bc aq 85 (bh [.slice a es.length c,.int .u8 x.toNat,.func (.func 86) #[] #[]]) w (fun v w'=>(∃ r:Nat,v= .tuple #[aB r,.bool (decide (dC x es < es.length))]∧(dC x es < es.length→r=dC x es))∧Wk w w'):=by
 refine enter func85 U ntmps85 U<|bY 22 U<|lp (fun O ai M=> ∃ (i j:Nat),(i≤j)∧(j≤es.length)∧(∀ (k:Nat) e,k < i→es[k]? =some e→e.1.toNat < x.toNat)∧(∀ (k:Nat) e,j≤k→es[k]? =some e→x.toNat≤e.1.toNat)∧(Wk w M)∧(Sl ai [(0,.slice a es.length c),(1,.int .u8 x.toNat),(2,.func (.func 86) #[] #[]),(8,aB (es.length)),(9,aB i),(10,aB j)])∧(j - i=O)) _ ⟨0,es.length,ab,ab,(fun k e h=>by omega),(fun k e h he=>by have :=(cI.1 he).1; omega),(Md.refl _ _),U,U⟩ ?_;rintro O ai M ⟨i,j,au,av,ad,Z,C,ar,rfl⟩;refine bF ar<|bY 8 U<|cd U (fun al=> ?_) fun al=> ?_;refine aG 7 U<|p (bM<|i+j)<|p (fy KP sT U<|gr ab)<|p (shr U U aD<|J4<|i+j)<|p (fy u3 K2 U<|gM ab)<|aF 4 U ?_;obtain ⟨A,E⟩:∃ d,es[(i+j) / 2]? =some d:=⟨_,bD ab⟩
 refine aG 4 U<|p (bJ mr U U ab<|J.ok ab)<|p (eZ re U (U)<|(J.wk C).two E)<|aj 1 U<|e<|uw et U (Bx A x M) U ?_;rintro v30 az ⟨rfl,V⟩;refine aF 3 U<|cd U (fun am=> ?_) fun am=> ?_;exact aG 2 U<|p (bM<|(i+j) / 2 +1)<|ax 3 U<|tn<|⟨_,ab,(i+j) / 2 +1,j,ab,ab,(fun k e ac he=>Jm hr E ab ab he),Z,(C.trans V),U,U⟩
 exact aE 5 U<|tn<|⟨_,ab,i,(i+j) / 2,ab,ab,ad,(fun k e ac he=>Jl hr E ab ac he),(C.trans V),U,U⟩
 refine aE 2 U<|cq<|dM 3 U ?_;obtain rfl :i=j:=ab;have L:=HL hr ad Z;refine aG 6 U<|gs (t:=39) U (fun ap=> ?_) fun ap=> ?_;obtain ⟨A,E⟩:∃ d,es[i]? =some d:=⟨_,bD ab⟩
 refine aj 3 U<|bB U (bJ mr U U ab<|J.ok ab)<|bB U (eZ re U (U)<|(J.wk C).two E)<|aj 1 U<|eg U U U<|uw et U (Bx A x M) U ?_;rintro ay aA ⟨rfl,ak⟩;refine ax 7 U<|f2 U U U ?_;have ao:es.getD i (0,0)=A:=by rw [cm,E]; rfl
 rw [ao] at L;have aa:i < es.length:=ab;have ag:A.1=x→dC x es=i:=fun h=>L.1 ⟨aa,h⟩;have ae:A.1≠x→dC x es=es.length:=fun h=>L.2 fun I=>h I.2;have hb:decide ((A.1.toNat:Int) - (x.toNat:Int)=0)=decide (dC x es < es.length):=by
  by_cases h:A.1=x;rw [ag h,decide_eq_true aa,h]; exact decide_eq_true ab;rw [ae h,decide_eq_false (Ep _)];exact decide_eq_false fun e=>h<|tS.1 ab
 refine ⟨⟨i,by rw [← hb]; rfl,fun h=> ?_⟩,C.trans ak⟩;by_cases I:A.1=x;exact (ag I).symm;rw [ae I] at h; omega;refine aj 10 U<|p aT<|ax 3 U<|f2 U U U ?_;have hn:dC x es=es.length:=L.2 fun h=>by omega
 exact ⟨⟨i,by rw [hn,decide_eq_false (Ep _)]; rfl,fun h=>by omega⟩,C⟩
theorem Ja (a:Option bK) (c:Nat) (l:List aP) (x:List UInt8) (i least:Nat) (w:ah) (ay:eT w.heap a l) (aQ:iq l) (h0:0 < l.length) (hr:∀ n,n < l.length→dW (aK l n).2) (bm:x.length≤1024) (hi:i≤x.length) (hle:least≤64):
 bc aq 46 (bh [.slice a l.length c,str x,aB i,aB least]) w (fun v w'=>bA w' w.heap.size 3 1 v (jE (aH l least x) x.length i).length ((jE (aH l least x) x.length i).map nv)∧Wk w w'):=by
 refine enter func46 U ntmps46 U<|bY 23 U<|lp (fun au aD M=> ∃ (k q:Nat) (C:ag),(i≤k)∧(k≤x.length)∧(gD l (bT x i k)=some q)∧(q < l.length)∧(bA M w.heap.size 3 1 C (iU l least x i k).length<|(iU l least x i k).map nv)∧(eT M.heap a l)∧(Wk w M)∧(Sl aD [(0,.slice a l.length c),(1,str x),(2,aB i),(3,aB least),(9,C),(10,aB q),(11,aB k)])∧(x.length - k=au)) _ ⟨i,0,.slice none 0 0,ab,hi,(by rw [F6]; rfl),h0,(by rw [GO]; exact gw _ _ _ _),ay,(Md.refl _ _),U,U⟩ ?_;rintro au aD M ⟨k,q,C,O,bj,aA,ar,I,E,J,a3,rfl⟩;refine bF a3<|bY 9 U<|cd U (fun aV=> ?_) fun aV=> ?_;refine bZ 5 U ?_;obtain ⟨aJ,aL,az,ad⟩:=E.two ar;obtain ⟨a0,a1⟩:=aQ.st ar;refine fP fun L=>aM [0,1] U L<|cW 2 U (bJ kq U U ab<|E.ok ab) L<|aM [3] U L<|de 4 U L (az 1 ab)<|aM [5,6] U L<|cW 7 U (fA u9 U U ab) L<|he 8 U ai<|aX (Fh aJ aL (aK l q).2 (x.getD k 0) M.drew ad (hr q ar) a0) U ?_;rintro v30 a7 ⟨⟨bp,rfl,a2⟩,A⟩;have A:=Md.dr A;have ak:(fun w'=>Wk M w') a7:=A;refine ⟨ak,?_⟩;refine cW 9 U (mv) ak<|aM [10,11,12,13] U ak<|hn ai<|dM 8 U<|cb U (fun al=> ?_) fun al=> ?_;have V:¬dC (x.getD k 0) (aK l q).2 < (aK l q).2.length:=by simpa using al
 refine aE 4 U<|cq<|gh 4 U<|wg (C)<|p (yG (C) U)<|ax 3 U<|aN U ?_;have hn:gD l (bT x i<|k+1)=none:=by
  rw [Ap O ab,aA];show iX l q (x.getD k 0)=none;unfold iX;rw [if_neg V]
 rw [zK O ab (.inr hn)] at I;exact ⟨bl I A,J.trans A⟩;have V:dC (x.getD k 0) (aK l q).2 < (aK l q).2.length:=by simpa using al
 obtain rfl :=a2 V;refine bZ 3 U ?_;obtain ⟨⟨aI,z⟩,he⟩:∃ e,(aK l q).2[dC (x.getD k 0) (aK l q).2]? =some e:=⟨_,bD V⟩
 obtain ⟨a4,a5⟩:=a1 _ _ he;obtain ⟨m,rfl⟩:∃ m:Nat,z=(m:Int):=⟨z.toNat,by simp only at a4; omega⟩
 simp only at a5;have ac:m < l.length:=ab;obtain ⟨bb,bf,aU,_⟩:=E.two ac;have aa:gD l (bT x i<|k+1)=some m:=by
  rw [Ap ab ab,aA];show iX l q (x.getD k 0)=_;unfold iX;rw [if_pos V,cm,he]; rfl
 have ao:=I9 (least:=least) O ab aa;have am:=zL (l:=l) (least:=least) (w:=x) O;refine aG 3 U<|p (bJ kq U U ab<|E.ok ab)<|aj 1 U<|p (aw U<|(mT A az) 1 ab)<|aj 1 U<|p (bJ mr U U ab<|ad.ok ab)<|aj 1 U<|p (aw U (show _=some (a9 .i64 ((m:Nat):Int)) from (ad.wk A).to _ (aI,_) he))<|aj 7 U<|p (bJ kq U U ab<|E.ok ab)<|aj 1 U<|p (aw U<|(mT A aU) 0 ab)<|aj 1 U<|gb (t:=49) U (fun Z=> ?_) fun Z=> ?_;refine aj 1 U<|bB U (bM<|k+1)<|aj 1 U<|bB U (qq<|k+1 - i)<|aF 5 U<|cd U (fun aW=> ?_) fun aW=> ?_;refine aG 1 U<|wg (C)<|aj 1 U<|p (bM<|k+1)<|e<|ln sN U U fun ba bq bg ae aO=> ?_;have bn:=ae.size;have aC:=bl (bl I A) ae.md;refine e<|ap sN (aC) U (by have :=J.size; have :=A.size; omega) U (bd.gF aO) (U) (U) (by have :=zM (l:=l) (least:=least) (x:=x) (i:=i) (k:=k); omega) (by have :=zM (l:=l) (least:=least) (x:=x) (i:=i) (k:=k); omega) fun a6 a8 aZ aS bo bi=> ?_;have av:Wk w a8:=Wk.own ((J.trans A).trans ae.md) aC aS<|aR _;exact p aT<|aj 5 U<|p (bM<|k+1)<|ax 2 U<|tn<|⟨_,ab,k+1,m,a6,ab,ab,aa,ac,(by rw [am,if_pos (show aH l least x i (k+1)=true from by rw [ao,Z,tg]; exact decide_eq_true ab),cw,List.map_append]; exact aZ),(ay.wk av),av,U,U⟩
 exact aG 5 U<|p (bM<|k+1)<|ax 2 U<|tn<|⟨_,ab,k+1,m,C,ab,ab,aa,ac,(by rw [am,if_neg (show ¬aH l least x i (k+1)=true from by rw [ao,Z,tg]; exact fun h=>absurd (of_decide_eq_true h) ab),nE]; exact bl I A),(E.wk A),(J.trans A),U,U⟩
 exact aj 15 U<|p (bM<|k+1)<|ax 2 U<|tn<|⟨_,ab,k+1,m,C,ab,ab,aa,ac,(by rw [am,if_neg (show ¬aH l least x i (k+1)=true from by rw [ao,Z,Bool.false_and]; exact cD),nE]; exact bl I A),(E.wk A),(J.trans A),U,U⟩
 refine aE 2 U<|cq<|gh 4 U<|wg (C)<|p (yG (C) U)<|ax 3 U<|aN U ?_;have aY:k=x.length:=ab;rw [zK O ab (.inl aY)] at I;exact ⟨I,J⟩
end Go.Hb
end
