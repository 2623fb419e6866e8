/-
  Walks and plain laws that the law rests on, laid together. No conditions but those that each theorem names.
-/
import Derived.Test.YtiagknaekaknhaaGreatDoorMnJoinedCounts3
set_option linter.unusedVariables false
set_option maxRecDepth 20000
set_option maxHeartbeats 1000000
open Array renaming getElem?_eq_some_iff→dh
open BitVec renaming ofInt→il,ofInt_natCast→DK,toNat_ofNat→DL
open Bool renaming and_eq_true→aZ,noConfusion→di,true_and→mg
open Classical renaming not_not→qU
open Go renaming Addr→bP,Program→au,Value→ag,World→ah
open Go.IntKind renaming u64→nM,u8→pk
open Go.Proofs.Tryz renaming prog→ar
open Go.Value renaming bool→bp,int→ba,oneCell'→eQ,pointer→tP,slice→bH,tuple→nP
open Go.World renaming ownsRow→bd,ownsRow_nil→gE
open Int renaming toNat_natCast→tR
open List renaming all_cons→nQ,all_nil→re,append_nil→nR,drop_eq_nil_of_le→Eo,drop_take→Ep,eq_nil_of_length_eq_zero→jV,getD_cons_succ→yn,getD_cons_zero→tS,getD_eq_getElem?_getD→bY,getElem?_append_left→fO,getElem?_append_right→gl,getElem?_drop→iu,getElem?_eq_getElem→bF,getElem?_eq_some_iff→cI,getElem?_map→fP,getElem?_set_ne→Ew,getElem?_set_self→yo,length→lz,length_append→cC,length_cons→dL,length_drop→jn,length_filter_le→Ez,length_nil→lA,length_range'→EB,length_set→gn,length_take→dv,map_replicate→yr,map_set→jY,mem_cons→ej,mem_cons_of_mem→gU,mem_cons_self→gV,mem_of_getElem?→mo,nil_append→ua,pairwise_iff_getElem→pD,replicate→cW,set_cons_succ→yt,take_add_one→yu,take_length→yv,toArray→bC
open Nat renaming beq→aM,blt→aE,eq_of_beq_eq_true→bM,eq_zero_or_pos→yx,le_refl→aP,le_trans→cQ,lt_irrefl→EL,lt_or_ge→dA,mod_eq_of_lt→yy,mul_comm→EN,mul_le_mul_left→EO,pow_le_pow_right→rn,sub_self→yz,zero_add→cx,zero_le→iV
open Option renaming isSome_iff_exists→mw
open Option.some renaming inj→dM
open Prod renaming fst→fQ,snd→nV
open UInt8 renaming toNat_lt→ky
open Go.Proofs.Tryz
open Go.Proofs

section
namespace Go.Hb
open Go.RowKit
def Ac:Ck→Ck→Bool
 | .a,.a=>true
 | .z,.z=>true
 | .x,.x=>true
 | _,_=>false
def rW:List (AV×AV)→List (AV×AV)→Bool
 | [],[]=>true
 | p::l,q::m=>cond (eI p.1 q.1 && eI p.2 q.2) (rW l m) false
 | _,_=>false
def u5:AO→AO→Bool
 | .cells l e fz ex,.cells l' e' fz' ex'=>(aM e e' && aM fz fz') && (Ac ex ex' && jA l l')
 | .map l,.map m=>rW l m
 | _,_=>false
theorem G7:∀ {c d:Ck},Ac c d=true→c=d
 | .a,.a,_ | .z,.z,_ | .x,.x,_=>rfl
theorem Ab:∀ {a b:List (AV×AV)},rW a b=true→a=b
 | [],[],_=>rfl
 | p::l,q::m,h=>by
   unfold rW at h;cases hk:(eI p.1 q.1 && eI p.2 q.2)
   · rw [hk] at h; cases h
   · rw [hk] at h;simp only [aZ] at hk;rw [Ab h,Prod.ext (og hk.1) (og hk.2)]
theorem G6 {a b:AO} (h:u5 a b=true):a=b:=by
 unfold u5 at h;split at h
 · simp only [aZ] at h;rw [bM h.1.1,bM h.1.2,G7 h.2.1,mK h.2.2]
 · rw [Ab h]
 · cases h
def iN:Tr AO→Tr AO→Bool
 | .nil,_=>true
 | .nd l none r,.nil=>iN l .nil && iN r .nil
 | .nd _ (some _) _,.nil=>false
 | .nd l none r,.nd l' _ r'=>iN l l' && iN r r'
 | .nd l (some o) r,.nd l' (some o') r'=>u5 o o' && (iN l l' && iN r r')
 | .nd _ (some _) _,.nd _ none _=>false
theorem kY:∀ {a b:Tr AO},iN a b=true→∀ {i:Nat} {o:AO},a.get i=some o→b.get i=some o
 | .nil,_,_,i,o,hi=>by rw [Tr.get_nil] at hi; cases hi
 | .nd l none r,.nil,h,i,o,hi=>by
   simp only [iN,aZ] at h;cases i with
   | zero=>simp [Tr.get] at hi
   | succ n=>
     simp only [Tr.get] at hi;cases hb:aM (n % 2) 0
     · rw [hb] at hi; have :=kY h.2 hi; rw [Tr.get_nil] at this; cases this
     · rw [hb] at hi; have :=kY h.1 hi; rw [Tr.get_nil] at this; cases this
 | .nd l none r,.nd l' v' r',h,i,o,hi=>by
   simp only [iN,aZ] at h;cases i with
   | zero=>simp [Tr.get] at hi
   | succ n=>
     simp only [Tr.get] at hi ⊢;cases hb:aM (n % 2) 0
     · rw [hb] at hi; exact kY h.2 hi
     · rw [hb] at hi; exact kY h.1 hi
 | .nd l (some u) r,.nd l' (some u') r',h,i,o,hi=>by
   simp only [iN,aZ] at h;cases i with
   | zero=>
     simp only [Tr.get] at hi ⊢;rw [← G6 h.1]; exact hi
   | succ n=>
     simp only [Tr.get] at hi ⊢;cases hb:aM (n % 2) 0
     · rw [hb] at hi; exact kY h.2.2 hi
     · rw [hb] at hi; exact kY h.2.1 hi
def Tr.lf {α:Type} :Tr α→Tr α
 | .nil=> .nil
 | .nd l _ _=>l
def Tr.rt {α:Type} :Tr α→Tr α
 | .nil=> .nil
 | .nd _ _ r=>r
def Tr.vl {α:Type} :Tr α→Option α
 | .nil=>none
 | .nd _ v _=>v
theorem Tr.AH {α:Type} (t:Tr α):t.get 0=t.vl:=by cases t <;> rfl
theorem Tr.vz {α:Type} (t:Tr α) (n:Nat):t.get (n+1)=cond (aM (n % 2) 0) (t.lf.get<|n / 2) (t.rt.get<|n / 2):=by
 cases t
 · simp only [Tr.lf,Tr.rt,Tr.get_nil]; cases aM (n % 2) 0 <;> rfl
 · rfl
def qt (v b c:Option AO):Option AO:=match c with
 | some o=>some o
 | none=>match b with
   | some _=>none
   | none=>v
def lY:Tr AO→Tr AO→Tr AO→Tr AO
 | .nil,_,c=>c
 | .nd l v r,b,c=> .nd (lY l b.lf c.lf) (qt v b.vl c.vl)<|lY r b.rt c.rt
theorem wg:∀ (a b c:Tr AO) (i:Nat),(∀ o,b.get i=some o→a.get i=some o)→(lY a b c).get i=qt (a.get i) (b.get i) (c.get i)
 | .nil,b,c,i,hb=>by
   have :b.get i=none:=by
    cases hx:b.get i with
    | none=>rfl
    | some o=>have :=hb o hx; rw [Tr.get_nil] at this; cases this
   rw [Tr.get_nil,this];show c.get i=_;unfold qt;cases c.get i <;> rfl
 | .nd l v r,b,c,0,_=>by
   rw [Tr.AH b,Tr.AH c]; rfl
 | .nd l v r,b,c,n+1,hb=>by
   rw [Tr.vz b,Tr.vz c];rw [Tr.vz b] at hb;show cond (aM (n % 2) 0) ((lY l b.lf c.lf).get<|n / 2) ((lY r b.rt c.rt).get<|n / 2)=qt (cond (aM (n % 2) 0) (l.get<|n / 2)<|r.get<|n / 2) _ _;have A:∀ o,cond (aM (n % 2) 0) (b.lf.get<|n / 2) (b.rt.get<|n / 2)=some o→cond (aM (n % 2) 0) (l.get<|n / 2) (r.get<|n / 2)=some o:=hb;cases hn:aM (n % 2) 0
   · rw [hn] at A; exact wg r b.rt c.rt _ A
   · rw [hn] at A; exact wg l b.lf c.lf _ A
def cV:List (Nat×AO)→Tr AO
 | []=> .nil
 | p::l=>(cV l).set p.1 p.2
section
variable {P:au} {G:Nat} {X:Xt} {T:Nat} {r:Rn} {h h0 h1 h':Hp} {w:ah}
theorem HR.less (hr:HR P G r T h w) (A:∀ i o,h0.t.get i=some o→h.t.get i=some o) (hn:h0.nx=h.nx):HR P G r T h0 w:=
 ⟨fun i o hi=>hr.live i o (A i o hi),fun i j o C q q' hi E=>hr.inj i j o C q q' (A i o hi) (A j C E),fun i hi=>hr.new i ab,hr.e7,by rw [hn]; exact hr.base⟩
theorem Fr.less {g k:Nat} (I:∀ i o,h0.t.get i=some o→h.t.get i=some o) (E:Fr g r h0 k):Fr g r h k:=by
 obtain ⟨i,o,q,h1,A,C⟩:=E;exact ⟨i,o,q,h1,I i o A,C⟩
theorem js.less {f:Nat} {args:List AV} {v:AV} (A:js P G f args h0 v h') (C:∀ i o,h1.t.get i=some o→h'.t.get i=some o) (hn:h1.nx=h'.nx):js P G f args h0 v h1:=by
 obtain ⟨n,A⟩:=A;refine ⟨ab,fun T r w L hT hr E=>(A T r w L ab hr E).mono fun u w' hu=> ?_⟩;obtain ⟨r',I,st⟩:=hu;exact ⟨r',I,st.le,st.hr.less C hn,ab,st.md,fun g M k O J=>st.dP g M k O (J.less C),fun i hi=>st.out i ab⟩
theorem js.more {f:Nat} {args:List AV} {v:AV} {ac:Hp} (an:js P G f args ac v h1) (ah:∀ i o,ac.t.get i=some o→h.t.get i=some o) (aK:∀ i o,h0.t.get i=some o→h.t.get i=some o) (ay:∀ i,h0.t.get i=none→ac.t.get i=none∨i < G) (hn:h.nx=ac.nx):js P G f args h v ⟨lY h.t h0.t h1.t,h1.nx⟩:=by
 obtain ⟨n,an⟩:=an;refine ⟨by show h.nx≤h1.nx; omega,fun T r w L hT hr aF=>(an T r w L hT (hr.less ah hn.symm) aF).mono fun u w' hu=> ?_⟩;obtain ⟨r',aG,st⟩:=hu;have ad:∀ {i o},(lY h.t h0.t h1.t).get i=some o→h1.t.get i=some o∨(h.t.get i=some o∧h0.t.get i=none):=fun {i o} hi=>by
  rw [wg _ _ _ _ (fun o=>aK i o)] at hi;unfold qt at hi;split at hi
  · rename_i A; rw [A]; exact .inl hi
  · split at hi
    · cases hi
    · rename_i A C; exact .inr ⟨hi,C⟩
 have ai:∀ {i o},h.t.get i=some o→h0.t.get i=none→∃ q,r i=some q∧q.ak < w.heap.size∧OR P r q o w.heap[q.ak]?∧¬Fr G r ac q.ak:=fun {i o} hi A=>by
  obtain ⟨q,ag,ar⟩:=hr.live i o hi;refine ⟨q,ag,hr.lt hi ag,ar,fun ⟨i2,au,Z,al,E,J,U⟩=> ?_⟩;have :=hr.inj i2 i au o Z q (ah _ _ E) hi J ag U;subst this;rcases ay _ A with C | C
  · rw [C] at E; cases E
  · omega
 refine ⟨r',aG,st.le,⟨fun i o hi=> ?_,fun i j o V q q' hi ae I E he=> ?_,fun i hi=>st.hr.new i hi,st.hr.e7,st.hr.base⟩,by show h.nx≤h1.nx; omega,st.md.mono fun k _ ao=>ao.less ah,fun g aH k aJ ao=> ?_,fun i hi=>st.out i hi⟩
 · rcases ad hi with A | ⟨A,C⟩
   · exact st.hr.live i o A
   · obtain ⟨q,ag,aj,ar,ap⟩:=ai A C;refine ⟨q,st.le _ _ ag,?_⟩;rw [st.md.dE _ aj ap];exact ar.le st.le
 · have aC:∀ {i j o V q q'},h1.t.get i=some o→h.t.get j=some V→h0.t.get j=none→r' i=some q→r' j=some q'→q.ak=q'.ak→i=j:=fun {i j o V q q'} hi ae az I E he=>by
    obtain ⟨Z,O,aj,_,ap⟩:=ai ae az;have :=st.le _ _ O;rw [E] at this; cases this;by_cases aA:j < G
    · by_cases aI:i < G
      · obtain ⟨m1,J⟩:=st.hr.e7 i aI;obtain ⟨aL,U⟩:=st.hr.e7 j aA;rw [I] at J; cases J;rw [E] at U; cases U;exact he
      · exact absurd (st.dP G (aP _) q'.ak aj ⟨i,o,q,ab,hi,I,he⟩) ap
    · obtain ⟨i2,au,Z,_,J,U,aD⟩:=st.dP 0 (iV _) q'.ak aj ⟨i,o,q,iV _,hi,I,he⟩;have :=hr.inj i2 j au V Z q' (ah _ _ J) ae U O aD;subst this;rcases ay _ az with C | C
      · rw [C] at J; cases J
      · exact absurd C aA
   rcases ad hi with A | ⟨A,C⟩
   · rcases ad ae with M | ⟨M,am⟩
     · exact st.hr.inj i j o V q q' A M I E he
     · exact aC A M am I E he
   · rcases ad ae with M | ⟨M,am⟩
     · exact (aC M A C E I he.symm).symm
     · obtain ⟨Z,O,_⟩:=ai A C;obtain ⟨aM,aB,_⟩:=ai M am;have aa:=st.le _ _ O;rw [I] at aa; cases aa;have av:=st.le _ _ aB;rw [E] at av; cases av;exact hr.inj i j o V q q' A M O aB he
 · obtain ⟨i,o,q,al,aE,aw,ax⟩:=ao;rcases ad aE with A | ⟨A,C⟩
   · exact (st.dP g aH k aJ ⟨i,o,q,al,A,aw,ax⟩).less ah
   · obtain ⟨Z,O,_⟩:=ai A C;have aa:=st.le _ _ O;rw [aw] at aa; cases aa;exact ⟨i,o,q,al,A,O,ax⟩
def qE (G T:Nat) (E:Nat→Nat) (b:Tr AO):List Nat→Tr AO
 | []=>b
 | g::l=>(qE G T E b l).set g<|.cells [.fm T (.ptr (G+g) 0)] (E g) 0 .x
theorem Ci {E:Nat→Nat} {b:Tr AO} {i:Nat} :∀ {l:List Nat},(∀ g∈l,aE g b9=true)→(qE G T E b l).get i=if i∈l then some (.cells [.fm T (.ptr (G+i) 0)] (E i) 0 .x) else b.get i
 | [],_=>by simp [qE]
 | g::l,hl=>by
   simp only [qE];rw [Tr.kH _ _ _ _ (hl g gV),Ci (fun g A=>hl g<|gU _ A)];by_cases h1:i=g
   · subst h1; simp
   · simp [h1]
def sZ (G T:Nat) (t:Tr AO):List Nat→Bool
 | []=>true
 | g::l=>match t.get g with
   | some (.cells [.fm A (.ptr b 0)] _ 0 .x)=>cond ((aE g G && aE g b9) && (aM A T && aM b (G+g))) (sZ G T t l) false
   | _=>false
def pS (t:Tr AO) (g:Nat):Nat:=match t.get g with
 | some (.cells _ e _ _)=>e
 | _=>0
theorem Cq {t:Tr AO} :∀ {l:List Nat},sZ G T t l=true→∀ g∈l,g < G∧aE g b9=true∧t.get g=some (.cells [.fm T (.ptr (G+g) 0)] (pS t g) 0 .x)
 | [],_,g,hg=>nomatch hg
 | a::l,h,g,hg=>by
   unfold sZ at h;split at h
   · rename_i C b e A;have h1:((aE a G && aE a b9) && (aM C T && aM b (G+a)))=true :=by
      cases hx:((aE a G && aE a b9) && (aM C T && aM b (G+a)))
      · rw [hx] at h; cases h
      · rfl
     rw [h1] at h;simp only [aZ] at h1;rcases ej.1 hg with rfl | E
     · obtain rfl :=bM h1.2.1;obtain rfl :=bM h1.2.2;refine ⟨cy.1 h1.1.1,h1.1.2,?_⟩;rw [A];simp only [pS,A]
     · exact Cq h g E
   · cases h
structure Mm where
 f:Nat
 args:List AV
 h0:Hp
 v:AV
 h1:Hp
def Bl (G T:Nat) (S:List Nat) (m:Mm) (f:Nat) (args:List AV) (h:Hp):Option (AV×Hp):=cond (aM f m.f) (cond (jA args m.args && (aM h.nx m.h0.nx && (iN m.h0.t h.t && sZ G T h.t S))) (some (m.v,⟨lY h.t m.h0.t m.h1.t,m.h1.nx⟩)) none) none
def sw (G T:Nat) (S:List Nat) (f:Nat) (args:List AV) (h:Hp):List Mm→Option (AV×Hp)
 | []=>none
 | m::l=>match Bl G T S m f args h with
   | some x=>some x
   | none=>sw G T S f args h l
def Mm.hp (G T:Nat) (S:List Nat) (m:Mm) (E:Nat→Nat):Hp:=⟨qE G T E m.h0.t S,m.h0.nx⟩
def Mm.Ok (P:au) (G T:Nat) (S:List Nat) (m:Mm):Prop :=(∀ E,js P G m.f m.args (m.hp G T S E) m.v m.h1)∧∃ fn c,P.funcs[m.f]? =some fn∧fn.body=some c
variable {S:List Nat}
theorem vW:∀ {l:List Mm},(∀ m∈l,m.Ok P G T S)→∀ {f:Nat} {args:List AV} {v:AV},sw G T S f args h l=some (v,h')→js P G f args h v h'∧∃ fn c,P.funcs[f]? =some fn∧fn.body=some c
 | [],_,f,args,v,hf=>by cases hf
 | m::l,hl,f,args,v,hf=>by
   unfold sw at hf;split at hf
   · rename_i x A;obtain rfl :=dM hf;unfold Bl at A;replace A:=aX A; obtain ⟨I,A⟩:=A;replace A:=aX A; obtain ⟨C,A⟩:=A;cases A;simp only [aZ] at C;obtain rfl :=bM I;obtain rfl :=mK C.1;obtain ⟨J,hb⟩:=hl m gV;have E:=Cq C.2.2.2;have hT:∀ i,(m.hp G T S<|pS h.t).t.get i=if i∈S then some (.cells [.fm T (.ptr (G+i) 0)] (pS h.t i) 0 .x) else m.h0.t.get i:=fun i=>Ci fun g L=>(E g L).2.1
     refine ⟨(J<|pS h.t).more (fun i o hi=> ?_) (fun i o hi=>kY C.2.2.1 hi) (fun i hi=> ?_) (bM C.2.1),hb⟩
     · rw [hT] at hi;split at hi
       · rename_i hm;rw [← hi]; exact (E i hm).2.2
       · exact kY C.2.2.1 hi
     · rw [hT];split
       · rename_i hm;exact .inr (E i hm).1
       · exact .inl hi
   · exact vW (fun m hm=>hl m<|gU _ hm) hf
def du (P:au) (G:Nat) (X:Xt) (T:Nat) (S:List Nat) (M:List Mm):Nat→Tk→Rs
 | 0,_=> .no
 | n+1,.cl f args h=>match sw G T S f args h M with
   | some (v,h')=> .rv v h'
   | none=>fi P G X (du P G X T S M n)<|.cl f args h
 | n+1,t=>fi P G X (du P G X T S M n) t
theorem Al {M:List Mm} (E:∀ m∈M,m.Ok P G T S):∀ (k:Nat),(∀ f args h v h',du P G X T S M k (.cl f args h)= .rv v h'→∃ fn c,P.funcs[f]? =some fn∧fn.body=some c)∧(∀ f args h v h',du P G X T S M k (.df f args h)= .rv v h'→∃ fn c,P.funcs[f]? =some fn∧fn.body=some c)
 | 0=>⟨fun f args h v h' A=>(by cases A),fun f args h v h' A=>by cases A⟩
 | k+1=>by
   constructor
   · intro f args h v h' A;simp only [du] at A;split at A
     · rename_i x I;exact (vW E I).2
     · simp only [fi] at A;split at A
       · rename_i fn C;split at A
         · rename_i c hb; exact ⟨fn,c,C,hb⟩
         · cases A
       · cases A
   · intro f args h v h' A;simp only [du,fi] at A;split at A
     · rename_i fn C;split at A
       · rename_i c hb; exact ⟨fn,c,C,hb⟩
       · cases A
     · cases A
theorem vg {M:List Mm} (E:iz P G X) (C:gq P) (hm:P.follows .mixedOrders=true) (I:∀ m∈M,m.Ok P G T S):∀ k,Good P G (du P G X T S M k)
 | 0=>fun t=>by cases t <;> trivial
 | k+1=>fun t=>by
   have A:=vg E C hm I k;obtain ⟨J,L⟩:=Al (P:=P) (G:=G) (X:=X) I k;cases t with
   | cd rd n c fr D h=>exact KW A E C (GU A E C J hm) J rd n c fr D h
   | lp rd n c fr D h=>exact KZ A rd n c fr D h
   | cl f args h=>
     simp only [du];split
     · rename_i x O;exact (vW I O).1
     · exact KX A C L f args h
   | yl l args h=>exact K0 A l args h
   | df f args h=>exact KY A E C J f args h
def fJ (v:AV) (h1:Hp):Rs→Bool
 | .rv u h=>eI u v && (aM h1.nx h.nx && iN h1.t h.t)
 | _=>false
theorem Mm.of {M:List Mm} {k:Nat} {m:Mm} (L:iz P G X) (J:gq P) (hm:P.follows .mixedOrders=true) (C:∀ q∈M,q.Ok P G T S) (he:∀ E,fJ m.v m.h1 (du P G X T S M k<|.cl m.f m.args<|m.hp G T S E)=true):m.Ok P G T S:=by
 have hr:∀ E,∃ u A,du P G X T S M k (.cl m.f m.args<|m.hp G T S E)= .rv u A∧u=m.v∧m.h1.nx=A.nx∧iN m.h1.t A.t=true :=fun E=>by
  have he:=he E;unfold fJ at he;split at he
  · rename_i u A hr;simp only [aZ] at he;exact ⟨u,A,hr,og he.1,bM he.2.1,he.2.2⟩
  · cases he
 refine ⟨fun E=> ?_,?_⟩
 · obtain ⟨u,A,hr,rfl,hn,O⟩:=hr E;have I:=vg L J hm C k<|.cl m.f m.args<|m.hp G T S E;rw [hr] at I;exact js.less I (fun i o hi=>kY O hi) hn
 · obtain ⟨u,A,hr,_⟩:=hr fun _=>0;exact (Al C k).1 _ _ _ _ _ hr
theorem gd:∀ q∈([]:List Mm),q.Ok P G T S:=fun _ h=>nomatch h
theorem gw {m:Mm} {l:List Mm} (h:m.Ok P G T S) (A:∀ q∈l,q.Ok P G T S):∀ q∈m::l,q.Ok P G T S:=fun q C=>by
 rcases ej.1 C with rfl | h'
 · exact h
 · exact A q h'
theorem Hi {M:List Mm} {k f:Nat} {args:List AV} {h h':Hp} {v:AV} (E:iz P G X) (A:gq P) (hm:P.follows .mixedOrders=true) (C:∀ q∈M,q.Ok P G T S) (he:du P G X T S M k (.cl f args h)= .rv v h'):js P G f args h v h':=by
 have :=vg E A hm C k<|.cl f args h;rw [he] at this;exact this
end
end Go.Hb
end
section
namespace Go.Hb
open Go.RowKit
section
variable {P:au} {N:Fm} {σ:Nat→ag} {w:ah} {fn:Func} {R:ag→ah→Prop}
theorem JQ {tmps:Array ag} {r s q p:ResultVar} {v u z y:ag} (h:fn.results= #[r,s,q,p]) (h1:(ij tmps r).run P w= .ok v w) (A:(ij tmps s).run P w= .ok u w) (C:(ij tmps q).run P w= .ok z w) (E:(ij tmps p).run P w= .ok y w):(results fn tmps).run P w= .ok (.tuple #[v,u,z,y]) w:=by
 have I:(results fn tmps)=(do let vs ← #[r,s,q,p].mapM (ij tmps); pure (if h:vs.size=1 then vs[0] else .tuple vs)):=by
  unfold results; rw [h]; rfl
 rw [I]; simp [List.mapM_toArray,h1,A,C,E]
theorem Hm {r s q p:ResultVar} {v u z y:ag} (h:fn.results= #[r,s,q,p]) (h1:gX P N σ w r v) (A:gX P N σ w s u) (C:gX P N σ w q z) (E:gX P N σ w p y) (I:R (.tuple #[v,u,z,y]) w):fin P fn N R .ret σ w:=⟨_,JQ h (gz h1) (gz A) (gz C) (gz E),I⟩
end
end Go.Hb
end
section
namespace Go.Hb
open Go Go.RowKit Go.ChangeShapes
theorem J9 {P:au} {n:String} {W:ah} {g:Nat} {cs:Array ag} (C:P.globalNamed n=some g) (A:W.var? P n=some cs):∃ e z,W.heap[g]? =some (.cells cs e z):=by
 unfold World.var? at A;rw [C] at A;simp only [Option.bind_some] at A;split at A
 · rename_i c e z h;cases A;exact ⟨e,z,h⟩
 · cases A
theorem iM {P:au} {n nm:String} {text:List UInt8} {r:List (String×DataW Unit)} {W:ah} {g:Nat} {L E te I:TypeId} {ms:Array (String×TypeId)} {f:Field}
 (h:laidMet P ((n,.iface nm (.ptr<|.agg [.lit (.string text)]))::r) W)
 (A:P.globalNamed n=some g) (ae:(P.globals[g]?).map (·.type)=some L) (hi:P.underlying L=some (.interface ms)) (ac:∀ u,P.typeName? 3 u=some nm→u=E)
 (hp:P.underlying E=some (.pointer te)) (he:P.underlying te=some (.struct #[f])) (aa:f.type=I) (Z:f.offset=0) (ad:P.underlying I=some .string) (O:P.cellsOf te=1) (V:P.cellsOf I=1):
 ∃ (a:bP) (e:Nat),a.spot=none∧W.heap[g]? =some (.cells #[.iface E (.pointer<|some a)] e (0,0)):=by
 obtain ⟨a,s,J,U,_,_⟩:=laid_sentinel h A ae hi ac hp he aa Z ad O V;obtain ⟨e,z,hw⟩:=J9 A J;obtain ⟨ps,⟨ak,t0,aj,f0,an,ao,ab,am,ag,al,_,M⟩,_,hrows⟩:=h;obtain rfl :=dM<|A.symm.trans ab;subst M;have ai:=dM<|J.symm.trans ag;subst ai;obtain ⟨⟨c,t,C⟩,_⟩:=hrows g 0<|by simp [MemPlace.row]
 rw [hw] at C;simp only [Option.some.injEq,Obj.cells.injEq] at C;obtain ⟨_,_,rfl⟩:=C;exact ⟨a,e,World.cell?_spot U,hw⟩
theorem cK.nil {T:Nat} {w:ah} :cK T [] w:=fun g h=>by cases h
theorem cK.cons {T g:Nat} {l:List Nat} {w:ah} (h:∃ (a:bP) (e:Nat),a.spot=none∧w.heap[g]? =some (.cells #[.iface T (.pointer<|some a)] e (0,0))) (C:cK T l w):cK T (g::l) w:=fun k A=>by
 rcases ej.1 A with rfl | A
 · exact h
 · exact C k A
theorem cK.sub {T:Nat} {l m:List Nat} {w:ah} (h:cK T l w) (C:∀ g∈m,g∈l):cK T m w:=fun g A=>h g<|C g A
end Go.Hb
end
section
namespace Go.Hb
abbrev aC (n:Nat):ag:= .int .i64 (n:Nat)
abbrev aY (b:Nat):ag:= .pointer<|some ⟨b,0,none⟩
variable {P:au} {N:Fm} {ops:Array Oper} {Q:Exit→(Nat→ag)→ah→Prop} {σ:Nat→ag} {w:ah} {S:ah→Prop} {r fuel:Nat} {listed:Array Bool} {d:Nat} {op:Op} {ty:TypeId} {pos :String} {af:Array Edge} {v:ag}
theorem qf (i:Nat) (hi:ops[i]? =some ⟨some d,op,ty,pos,af,none⟩) (E:∀ w,S w→(execOp (ev N σ) ⟨some d,op,ty,pos,af,none⟩).run P w= .ok (.value v) w) (A:S w) (k:cg P N ops Q S fuel (listed.setIfInBounds i true) (aU σ d v) w) (C:et N.F ops listed i=true :=by kernel_rfl):cg P N ops Q S (fuel+1) listed σ w:=hp i hi C E A k
theorem ID (i:Nat) (hi:ops[i]? =some ⟨some d,op,ty,pos,af,none⟩) (E:∀ w,S w→(execOp (ev N σ) ⟨some d,op,ty,pos,af,none⟩).run P w= .ok (.value v) w) (A:S w) (k:cq P N ops Q S r fuel (listed.setIfInBounds i true) (aU σ d v) w) (C:vw N.F ops listed r i=true :=by kernel_rfl):cq P N ops Q S r (fuel+1) listed σ w:=Bi i hi C E A k
theorem Bj (i:Nat) (hi:ops[i]? =some ⟨some d,op,ty,pos,af,none⟩) (E:∀ w,(execOp (ev N σ) ⟨some d,op,ty,pos,af,none⟩).run P w= .ok (.value v) w) (A:listed.getD r false =false→S w) (k:cq P N ops Q S r fuel (listed.setIfInBounds i true) (aU σ d v) w) (C:mP N.F ops listed r i=true :=by kernel_rfl):cq P N ops Q S r (fuel+1) listed σ w:=qp i hi C E A k
theorem dd (i:Nat) (hi:ops[i]? =some ⟨some d,op,ty,pos,af,none⟩) (E:∀ {w},(execOp (ev N σ) ⟨some d,op,ty,pos,af,none⟩).run P w= .ok (.value v) w) (A:S w) (k:cg P N ops Q S fuel (listed.setIfInBounds i true) (aU σ d v) w) (C:et N.F ops listed i=true :=by kernel_rfl):cg P N ops Q S (fuel+1) listed σ w:=hp i hi C (fun _ _=>E) A k
theorem fc (i:Nat) (hi:ops[i]? =some ⟨some d,op,ty,pos,af,none⟩) (E:∀ {w},(execOp (ev N σ) ⟨some d,op,ty,pos,af,none⟩).run P w= .ok (.value v) w) (A:S w) (k:cq P N ops Q S r fuel (listed.setIfInBounds i true) (aU σ d v) w) (C:ou N.F ops listed r i=true :=by kernel_rfl):cq P N ops Q S r (fuel+1) listed σ w:=lq i hi C (fun _ _=>E) A k
theorem qq (i:Nat) (hi:ops[i]? =some ⟨some d,op,ty,pos,af,none⟩) (E:∀ {w},(execOp (ev N σ) ⟨some d,op,ty,pos,af,none⟩).run P w= .ok (.value v) w) (A:S w) (k:cq P N ops Q S r fuel (listed.setIfInBounds i true) (aU σ d v) w) (C:mP N.F ops listed r i=true :=by kernel_rfl):cq P N ops Q S r (fuel+1) listed σ w:=qp i hi C (fun _=>E) (fun _=>A) k
theorem mR {x:Operand} (i:Nat) (hi:ops[i]? =some ⟨some d,.move x,ty,pos,af,none⟩) (v:ag) (A:S w) (k:cg P N ops Q S fuel (listed.setIfInBounds i true) (aU σ d v) w) (E:ev N σ x=v:=by exact U) (C:et N.F ops listed i=true :=by kernel_rfl):cg P N ops Q S (fuel+1) listed σ w:=hp i hi C (fun _ _=>iG v E) A k
theorem ME {x:Operand} (i:Nat) (hi:ops[i]? =some ⟨some d,.move x,ty,pos,af,none⟩) (v:ag) (A:S w) (k:cq P N ops Q S r fuel (listed.setIfInBounds i true) (aU σ d v) w) (E:ev N σ x=v:=by exact U) (C:mP N.F ops listed r i=true :=by kernel_rfl):cq P N ops Q S r (fuel+1) listed σ w:=qp i hi C (fun _=>iG v E) (fun _=>A) k
theorem lK {P:au} {f:FuncId} {fn:Func} (A:P.funcs[f]? =some fn) (hn:(fn.name== "runtime.NumGoroutine")=false :=by kernel_rfl) (hb:fn.body.isNone=false :=by kernel_rfl):gr P f:=uF A hn hb
section
variable {rest:List Oper} {x:Operand} {K:(Nat→ag)→ah→Prop} {l:List Oper} {id:Nat} {y z:Code} {j t:Nat} {want b:Bool} {fn:Func} {R:ag→ah→Prop}
theorem MH (h:∀ {K:(Nat→ag)→ah→Prop},(∀ {σ w},bA P N y Q σ w→gQ K Q .normal σ w)→bA P N z (gQ K Q) σ w):bA P N (.seq z y) Q σ w:=sq fun K A=>h fun hw=>A _ _ hw
theorem MI (h:∀ {K:(Nat→ag)→ah→Prop},(∀ {σ w},bA P N y Q σ w→gQ K Q .normal σ w)→bQ P N l.toArray (gQ K Q) l σ w) (hr:ke N.r l=true :=by exact U):bA P N (.seq (.region id l.toArray false) y) Q σ w:=sq fun K A=>rg hr<|h fun hw=>A _ _ hw
theorem MC (h:Q .normal (aU σ d<|ev N σ x) w):bQ P N ops Q [⟨some d,.assign x,ty,pos,af,none⟩] σ w:=p aR<|nl h
theorem cw {id:Nat} (h:Q (.exit id) σ w):gQ K Q (.exit id) σ w:=h
theorem MF (h:(dJ ops j,aE t N.n,σ t,b==want)=(some t,true,.bool b,false)) (k:bQ P N ops Q rest (aU σ d undef) w):bQ P N ops Q (⟨some d,op,ty,pos,af,some (j,want)⟩::rest) σ w:=sk (congrArg fQ h) (congrArg (·.2.1) h) (congrArg (·.2.2.1) h) (congrArg (·.2.2.2) h) k
theorem MG (h:(dJ ops j,aE t N.n,σ t)=(some t,true,undef)) (k:bQ P N ops Q rest (aU σ d undef) w):bQ P N ops Q (⟨some d,op,ty,pos,af,some (j,want)⟩::rest) σ w:=CE (congrArg fQ h) (congrArg (·.2.1) h) (congrArg (·.2.2) h) k
theorem bK (h:(dJ ops j,aE t N.n,σ t)=(some t,true,.bool want)) (A:(execOp (ev N σ) ⟨some d,op,ty,pos,af,some (j,want)⟩).run P w= .ok (.value v) w) (k:bQ P N ops Q rest (aU σ d v) w):bQ P N ops Q (⟨some d,op,ty,pos,af,some (j,want)⟩::rest) σ w:=pg (congrArg fQ h) (congrArg (·.2.1) h) (congrArg (·.2.2) h) A k
theorem MD (i:Nat) (h:(ops[i]?,dJ ops j,aE t N.n,σ t,b==want)=(some ⟨some d,op,ty,pos,af,some (j,want)⟩,some t,true,.bool b,false)) (A:S w) (k:cg P N ops Q S fuel (listed.setIfInBounds i true) (aU σ d undef) w) (C:et N.F ops listed i=true :=by kernel_rfl):cg P N ops Q S (fuel+1) listed σ w:=AL i (congrArg fQ h) C (congrArg (·.2.1) h) (congrArg (·.2.2.1) h) (congrArg (·.2.2.2.1) h) (congrArg (·.2.2.2.2) h) A k
theorem ic (i:Nat) (h:(ops[i]?,dJ ops j,aE t N.n,σ t)=(some ⟨some d,op,ty,pos,af,some (j,want)⟩,some t,true,.bool want)) (E:∀ w,S w→(execOp (ev N σ) ⟨some d,op,ty,pos,af,some (j,want)⟩).run P w= .ok (.value v) w) (A:S w) (k:cg P N ops Q S fuel (listed.setIfInBounds i true) (aU σ d v) w) (C:et N.F ops listed i=true :=by kernel_rfl):cg P N ops Q S (fuel+1) listed σ w:=bT i (congrArg fQ h) C (congrArg (·.2.1) h) (congrArg (·.2.2.1) h) (congrArg (·.2.2.2) h) E A k
theorem aQ (h:(fn.results,ev N σ (.tmp t))=(#[.tmp t],v)) (A:R v w):fin P fn N R .ret σ w:=f1 (congrArg fQ h) (congrArg nV h) A
theorem gL (v:ag) (h:bQ P N ops Q rest (aU σ d v) w) (A:ev N σ x=v:=by exact U):bQ P N ops Q (⟨some d,.move x,ty,pos,af,none⟩::rest) σ w:=p (iG v A) h
end
end Go.Hb
end
namespace Go.Hb.dN
theorem Fb:cY ar 100=some (some 2):=ai
theorem yH:cY ar 143=some (some 2):=ai
theorem rD:cY ar 167=some (some 2):=ai
theorem j0:cY ar 27=some (some 7):=ai
theorem lI:cY ar 44=some (some 7):=ai
theorem Fc:cY ar 77=some (some 2):=ai
theorem yI:cY ar 81=some (some 2):=ai
theorem uu:cY ar 84=some (some 2):=ai
theorem yJ:cY ar 88=some none:=ai
theorem yR:kz ar 25=some (4,1):=ai
theorem yS:kz ar 303=some (256,1):=ai
theorem mC:kz ar 42=some (4,1):=ai
theorem FN:mE ar 150 5 9=true :=ai
theorem FP:gr ar 47:=lK func47
theorem FQ:gr ar 53:=lK func53
theorem lJ:gr ar 54:=lK func54
theorem uD:gr ar 55:=lK func55
theorem eW:gr ar 56:=lK func56
theorem FR:gr ar 58:=lK func58
theorem eo:gr ar 86:=lK func86
theorem yZ:gr ar 90:=lK func90
theorem zk:∀ v w,(callFunc 173 #[v]).run ar w= .ok (.value v) w:=fun v w=>ai
theorem Gu:cz ar 100=some 2:=ai
theorem Gv:cz ar 141=some 1:=ai
theorem zl:cz ar 143=some 2:=ai
theorem Gx:cz ar 150=some 1:=ai
theorem rO:cz ar 167=some 2:=ai
theorem Gy:cz ar 212=some 1:=ai
theorem Gz:cz ar 23=some 1:=ai
theorem GA:cz ar 24=some 1:=ai
theorem kC:cz ar 27=some 7:=ai
theorem cG:cz ar 3=some 1:=ai
theorem rP:cz ar 31=some 1:=ai
theorem uO:cz ar 4=some 1:=ai
theorem zm:cz ar 40=some 1:=ai
theorem zn:cz ar 41=some 1:=ai
theorem mG:cz ar 44=some 7:=ai
theorem GB:cz ar 47=some 1:=ai
theorem zo:cz ar 5=some 1:=ai
theorem zq:cz ar 65=some 1:=ai
theorem GC:cz ar 77=some 2:=ai
theorem zr:cz ar 79=some 1:=ai
theorem zt:cz ar 81=some 2:=ai
theorem GD:cz ar 84=some 2:=ai
theorem uP:cz ar 88=some 1:=ai
theorem zu:cz ar 9=some 1:=ai
theorem om:cS ar 141=some 2:=ai
theorem rY:cS ar 150=some 1:=ai
theorem Hd:cS ar 23=some 2:=ai
theorem pX:cS ar 24=some 2:=ai
theorem Ak:cS ar 31=some 1:=ai
theorem He:cS ar 40=some 2:=ai
theorem oo:cS ar 41=some 2:=ai
theorem cE:cS ar 47=some 1:=ai
theorem Hf:cS ar 61=some 1:=ai
theorem rZ:cS ar 64=some 1:=ai
theorem vd:cS ar 67=some 1:=ai
theorem pY:cS ar 79=some 2:=ai
theorem Hy:mN ar 81 1=some 1:=ai
theorem HQ:(ar.info? 214).isSome=true :=ai
theorem HY:∀ (l:List UInt8) (c:UInt8) (w:ah),(callFunc 325 #[str l,.int .u8 c.toNat]).run ar w= .ok (.value<|.int .i64<|kK c l) w:=J2 func325 ai ai ai ai
theorem sA:j8 ar 88=true :=ai
theorem Jp:ptrTo ar 302 5=true :=ai
theorem CH:dG ar 141 167 2 16=true :=ai
theorem l9:dG ar 150 5 1 1=true :=ai
theorem CI:dG ar 23 100 2 32=true :=ai
theorem CJ:dG ar 24 143 2 32=true :=ai
theorem kX:dG ar 31 9 1 16=true :=ai
theorem th:dG ar 40 77 2 32=true :=ai
theorem tj:dG ar 41 81 2 32=true :=ai
theorem qH:dG ar 47 3 1 8=true :=ai
theorem tk:dG ar 61 64 1 24=true :=ai
theorem CK:dG ar 64 4 1 1=true :=ai
theorem Kt:dG ar 67 47 1 24=true :=ai
theorem tl:dG ar 79 84 2 16=true :=ai
theorem KA:eA ar 100=some ([(0,1),(1,1)],[.string ⟨⟨[]⟩⟩,.string ⟨⟨[]⟩⟩]):=ai
theorem KB:eA ar 143=some ([(0,1),(1,1)],[.bool false,.slice none 0 0]):=ai
theorem KC:eA ar 156=some ([(0,1),(1,1)],[.string ⟨⟨[]⟩⟩,.int .i64 0]):=ai
theorem xA:eA ar 167=some ([(0,1),(1,1)],[.int .u8 0,.int .i64 0]):=ai
theorem KD:eA ar 226=some ([(0,1),(1,1),(2,1)],[.slice none 0 0,.int .i64 0,.slice none 0 0]):=ai
theorem KE:eA ar 235=some ([(0,1),(1,1),(2,1)],[.slice none 0 0,.int .i64 0,.slice none 0 0]):=ai
theorem tq:eA ar 27=some ([(0,1),(1,1),(2,1),(3,4)],[.int .i64 0,.string ⟨⟨[]⟩⟩,.slice none 0 0,.slice none 0 0,.slice none 0 0,.slice none 0 0,.slice none 0 0]):=ai
theorem CM:eA ar 44=some ([(0,1),(1,1),(2,1),(3,4)],[.int .i64 0,.string ⟨⟨[]⟩⟩,.slice none 0 0,.slice none 0 0,.slice none 0 0,.slice none 0 0,.slice none 0 0]):=ai
theorem KF:eA ar 60=some ([(0,1),(1,1),(2,1),(3,1),(4,1)],[.int .i64 0,.int .i64 0,.int .i64 0,.int .i64 0,.int .i64 0]):=ai
theorem KG:eA ar 69=some ([(0,1),(1,1),(2,1)],[.slice none 0 0,.slice none 0 0,.slice none 0 0]):=ai
theorem KH:eA ar 74=some ([(0,7),(7,1)],[.int .i64 0,.string ⟨⟨[]⟩⟩,.slice none 0 0,.slice none 0 0,.slice none 0 0,.slice none 0 0,.slice none 0 0,.string ⟨⟨[]⟩⟩]):=ai
theorem KI:eA ar 77=some ([(0,1),(1,1)],[.string ⟨⟨[]⟩⟩,.string ⟨⟨[]⟩⟩]):=ai
theorem KJ:eA ar 81=some ([(0,1),(1,1)],[.bool false,.slice none 0 0]):=ai
theorem KL:eA ar 84=some ([(0,1),(1,1)],[.int .u8 0,.int .i64 0]):=ai
theorem KM:eA ar 96=some ([(0,1),(1,1),(2,1)],[.string ⟨⟨[]⟩⟩,.int .i64 0,.int .i64 0]):=ai
theorem C9:ar.underlying 212=some (.pointer 214):=ai
theorem qL:ar.underlying 22=some (.pointer 74):=ai
theorem u3:ar.underlying 3=some (.int .i64):=ai
theorem K9:ar.underlying 301=some (.int .u64):=ai
theorem u4:ar.underlying 4=some (.bool):=ai
theorem La:ar.underlying 40=some (.slice 77):=ai
theorem Lb:ar.underlying 41=some (.slice 81):=ai
theorem qM:ar.underlying 65=some (.pointer 69):=ai
theorem Lc:ar.underlying 79=some (.slice 84):=ai
theorem u9:ar.underlying 9=some (.string):=ai
theorem o6:ar.underlying 97=some (.int .u64):=ai
theorem Dc:na ar 212 291 214 2=true :=ai
theorem tw:(ar.underlying 3).isSome=true :=ai
theorem Lk:(ar.underlying 301).isSome=true :=ai
theorem qN:(ar.underlying 5).isSome=true :=ai
theorem mb:(ar.underlying 97).isSome=true :=ai
theorem wide:ar.follows .mixedOrders=true :=ai
theorem Mq:zeroOf ar 100=some (some [.string ⟨⟨[]⟩⟩,.string ⟨⟨[]⟩⟩]):=ai
theorem Dw:zeroOf ar 143=some (some [.bool false,.slice none 0 0]):=ai
theorem Dx:zeroOf ar 167=some (some [.int .u8 0,.int .i64 0]):=ai
theorem Mr:zeroOf ar 214=some (some [.pointer none,.slice none 0 0]):=ai
theorem o9:zeroOf ar 27=some (some [.int .i64 0,.string ⟨⟨[]⟩⟩,.slice none 0 0,.slice none 0 0,.slice none 0 0,.slice none 0 0,.slice none 0 0]):=ai
theorem pb:zeroOf ar 3=some (some [.int .i64 0]):=ai
theorem Ms:zeroOf ar 31=some (some [.slice none 0 0]):=ai
theorem Mt:zeroOf ar 4=some (some [.bool false]):=ai
theorem qR:zeroOf ar 44=some (some [.int .i64 0,.string ⟨⟨[]⟩⟩,.slice none 0 0,.slice none 0 0,.slice none 0 0,.slice none 0 0,.slice none 0 0]):=ai
theorem Mu:zeroOf ar 47=some (some [.slice none 0 0]):=ai
theorem Dy:zeroOf ar 65=some (some [.pointer none]):=ai
theorem Mv:zeroOf ar 77=some (some [.string ⟨⟨[]⟩⟩,.string ⟨⟨[]⟩⟩]):=ai
theorem Dz:zeroOf ar 81=some (some [.bool false,.slice none 0 0]):=ai
theorem Mw:zeroOf ar 84=some (some [.int .u8 0,.int .i64 0]):=ai
theorem Mx:zeroOf ar 88=some (some [.int .i64 0]):=ai
theorem My:zeroOf ar 303=some (some<|cW 256<|.bool false):=ai
theorem Mz:zeroV ar 88=some (.int .i64 0):=ai
end Go.Hb.dN
section
namespace Go.Hb
open Go.Hb.dN
theorem Gl (b:Nat) (A:Option bP) (E:ag) (w:ah) (hb:w.heap[b]? =some (.cells [tP A,E].toArray 214 (0,0))) (hp:A=none∨A=some ⟨b,0,none⟩):
 bq ar 126 (bC [aY b]) w (fun v w'=>v= .tuple #[]∧w'.heap[b]? =some (.cells [tP (some ⟨b,0,none⟩),E].toArray 214 (0,0))∧Md (fun k=>k=b) w w'):=by
 refine enter func126 U ntmps126 U<|aT 5 U<|p (aw U<|(bg hb).trans U)<|p (jB C9 U U)<|aI 2 U<|cb U (fun C=> ?_) fun C=> ?_;obtain rfl :A=none:=by simpa using C
 exact aF 3 U<|p (C5 Dc U hb U)<|p (F9 zk U)<|p (AE Dc U hb U)<|aj 2 U<|e<|dg Gy U U U hb (by simp) fun L J I=>ax 1 U<|f0 U<|⟨U,I,J⟩
 obtain rfl :A=some ⟨b,0,none⟩:=hp.resolve_left<|by rintro rfl; simp at C
 exact aF 5 U<|p (aw U<|(bg hb).trans U)<|aj 1 U<|p (I2 C9 HQ U U)<|ax 4 U<|f0 U<|⟨U,hb,Md.refl _ _⟩
theorem Mi (b:Nat) (C:ag) (l:List UInt8) (c:UInt8) (w:ah) (hb:Bd 214 5 w b C l) (aC:l.length≤70368744177664):
 bq ar 83 (bC [aY b,.int .u8 c.toNat]) w (fun v w'=>v= .nilIface∧∃ L,Bd 214 5 w' b L (l++ [c])∧Md (BF b C) w w'∧∀ k,BF b L k→BF b C k∨w.heap.size≤k):=by
 obtain ⟨⟨ay,aa,au⟩,hown,hnil⟩:=hb;have aD:b < w.heap.size:=(dh.1 aa).1;have ac:∀ k,C.ownBlock=some k→k≠b∧k < w.heap.size:=fun k A=>by have :=hown.lt k A; exact ⟨ab,this.2⟩
 refine enter func83 U ntmps83 U<|aT 8 U<|e<|bo (Gl b ay C w aa au) U ?_;rintro v6 aI ⟨_,Z,I⟩;have ao:=bG hown I fun k A=>(ac k A).1;have aE:=I.size;refine aj 8 U<|p (aw U<|(bg Z).trans U)<|aj 1 U<|e<|j1 l9 U U fun az aF aB E ai=>e<|ap l9 (aW ao E.md) U (by have :=E.size; omega) U (a9.gh ai) (U) (U) ab ab fun ad aG J O av an=> ?_;have am:=O.ak (Wk.ak E.md Z) fun h=>(ac b h).1 rfl;refine aj 2 U<|e<|dg Gx U U (by obtain ⟨a,c,h,_⟩:=sJ J; exact congrArg eQ h) am (by simp) fun aH V al=>ax 8 U<|aQ U ?_;have ae:∀ k,ad.ownBlock=some k→k≠b:=fun k A=>by have :=J.lt k A; omega
 refine ⟨U,ad,⟨⟨_,al,.inr U⟩,?_,?_⟩,?_,?_⟩;rw [cC,yF]; exact bG J V fun k A=>ae k A;rw [av]; simp;refine Md.trans' (Md.trans' (Md.trans' (I.mono fun k _ h=> .inl h) E.md fun _ _ h=>h.elim) O fun k _ h=> .inr h) V fun k _ h=> .inl h;rintro k (rfl | A);exact .inl<|.inl U;by_cases h:C.ownBlock=some k;exact .inl<|.inr h;have :=an k A; have h1:=I.size; have aA:=E.md.size; exact .inr<|by rcases this with M | M; exact absurd M h; omega
theorem K3 (b:Nat) (I:ag) (l:List UInt8) (w:ah) (hb:Bd 214 5 w b I l) (aa:l.length≤70368744177664):
 bq ar 84 (bC [aY b]) w (fun v w'=>v=str l∧Md (fun k=>I.ownBlock=some k) w w'):=by
 obtain ⟨⟨ae,J,ac⟩,hown,hnil⟩:=hb;obtain ⟨a,c,rfl,O,hle,V,Z⟩:=sJ hown;refine enter func84 U ntmps84 U<|cm 6 U ?_;have A:(fun w'=>Md (fun k=>(bH a l.length c).ownBlock=some k) w w') w.drew:=(Md.refl _ _).drew;refine bj (fun w'=>Md (fun k=>(bH a l.length c).ownBlock=some k) w w') U wide A<|aN [0,1,2] U A<|qf 3 U (fun w' C=>aw U<|C.ay ((bg J).trans U) fun h=>by have :=hown.lt _ h; omega) A<|aN [5,6,7] U A<|qf 8 U (fun w' C=>aw U<|C.ay ((bg J).trans U) fun h=>by have :=hown.lt _ h; omega) A<|aN [9] U A ?_;refine dd 4 U (xK (v:= .nilFunc) U (by
  by_cases h:l= []
  have :=hnil.2 h; simp only [Value.slice.injEq] at this; exact .inl this.1;right; have :0 < l.length:=List.length_pos_iff.2 h; omega)) A ?_
 refine he 10 U ai<|Ll Jp U U hown U ab fun M L ad=> ?_;have E:(fun w'=>Md (fun k=>(bH a l.length c).ownBlock=some k) w w') M:=A.trans' L fun _ _ h=>h;refine ⟨E,?_⟩;exact dd 11 U (aR) E<|hn ai<|bh 2 U<|aQ U<|⟨U,E⟩
end Go.Hb
end
section
namespace Go.Hb
open Go.Hb.dN
theorem vm (b:UInt8):fl b=decide (32 < (b.toNat:Int)∧(b.toNat:Int)≠127):=by
 unfold fl; exact decide_eq_decide.2 ab
theorem Hv {b:UInt8} (h:32 < (b.toNat:Int)) (h1:(b.toNat:Int)≠127):fl b=true :=by rw [vm]; exact decide_eq_true ⟨h,h1⟩
theorem vk {b:UInt8} (h:¬(32 < (b.toNat:Int)∧(b.toNat:Int)≠127)):fl b=false :=by rw [vm]; exact decide_eq_false h
theorem Av (b:UInt8) (w:ah):
 bq ar 127 (bC [.int .u8 b.toNat]) w (fun v w'=>v= .bool (fl b)∧Wk w w'):=by
 refine enter func127 U ntmps127 U<|aT 10 U<|gs (t:=5) U (fun A=> ?_) fun A=> ?_;exact ax 7 U<|aQ U<|⟨by show bp (decide _)=_; rw [vm]; exact bv (by constructor <;> intro h <;> first | exact ⟨ab,h⟩ | exact h.2),Md.refl _ _⟩
 exact aj 3 U<|p aR<|ax 3 U<|aQ U<|⟨by show bp false =_; rw [vk ab],Md.refl _ _⟩
theorem Ln (s:List UInt8) (w:ah) (ad:s.length≤1048576):
 bq ar 128 (bC [str s]) w (fun v w'=>v= .bool (nf s)∧Wk w w'):=by
 refine enter func128 U ntmps128 U<|aT 11 U<|gs (t:=6) U (fun E=> ?_) fun E=> ?_;exact ax 14 U<|aQ U<|⟨by show bp false =_; unfold nf; rw [decide_eq_false (by rw [E]; simp)],Md.refl _ _⟩
 refine aI 6 U<|cd U (fun Z=> ?_) fun Z=> ?_;exact aH 7 U<|aQ U<|⟨by show bp false =_; unfold nf; rw [decide_eq_false ab],Md.refl _ _⟩
 refine cn 11 U<|lp (fun J V O=> ∃ (i:Nat),(i≤s.length∧1≤s.length∧s.length≤64)∧(∀ j,j < i→fl (s.getD j 0)=true)∧(Wk w O)∧(Sl V [(0,str s),(12,.int .i64 s.length),(13,.int .i64 i)])∧(s.length - i=J)) _ ⟨0,(⟨ab,by rcases yx s.length with h | h <;> first | exact absurd (List.length_eq_zero_iff.1 h) E | exact h,ab⟩),(fun j M=>by omega),(Md.refl _ _),U,U⟩ ?_;rintro J V O ⟨i,hi,hp,A,ac,rfl⟩;refine bO ac<|cm 6 U<|cd U (fun aa=> ?_) fun aa=> ?_;refine aF 14 U<|p (fE u9 U U ab)<|e<|bo (Av (s.getD i 0) _) U ?_;rintro ae ag ⟨rfl,L⟩;refine aI 3 U<|cb U (fun C=> ?_) fun C=> ?_;have I:fl (s.getD i 0)=false :=by simpa using C
 exact aH 8 U<|tr<|bh 2 U<|aQ U<|⟨by show bp false =_; unfold nf; rw [pN (i:=i) ab I,decide_eq_false (by simp)],Md.trans A L⟩
 have I:fl (s.getD i 0)=true :=by simpa using C
 exact aH 7 U<|tn<|⟨_,ab,i+1,ab,(fun j M=>by rcases dA j i with h | h <;> first | exact hp j h | (rw [show j=i by omega]; exact I)),(Md.trans A L),U,U⟩
 exact aH 2 U<|cw<|bh 8 U<|aQ U<|⟨by show bp true =_; unfold nf; rw [rJ (fun j M=>hp j ab),decide_eq_true ⟨hi.2.1,hi.2.2,U⟩],A⟩
theorem Ix (s:List UInt8) (w:ah) (a1:s.length≤1048576):
 bq ar 91 (bC [str s]) w (fun v w'=>v= .tuple #[str (letE s).1,.int .i64 (letE s).2]∧Wk w w'):=by
 refine enter func91 U ntmps91 U<|aT 8 U<|e<|al My fun O aS aV J ao=> ?_;have aG:aB aS.heap O (marksOf []):=by rw [IK]; exact ao
 refine aI 9 U<|cd U (fun ak=> ?_) fun ak=> ?_;exact aH 8 U<|f2 U U U<|⟨by show nP #[str [],.int .i64 21]=_; unfold letE; rw [if_pos (.inl ak)]; rfl,J.md⟩
 refine aF 4 U<|e<|dB Mr fun I a8 aX az aJ=>aI 11 U ?_;have aW:=ao.lt;refine lp (fun an aC M=> ∃ (i:Nat) (A:ag),(i≤s.length)∧(∀ j,j < i→fl (s.getD j 0)=true)∧(aB M.heap O<|marksOf<|lets<|s.take i)∧(Bd 214 5 M I A<|lets<|s.take i)∧(Wk w M)∧(Sl aC [(0,str s),(4,aY O),(5,aY I),(10,.int .i64 s.length),(11,.int .i64 i)])∧(s.length - i=an)) _ ⟨0,.slice none 0 0,ab,(fun j am=>by omega),(az.md.B aG),(Bd.new aJ),(Md.trans J.md az.md),U,U⟩ ?_;rintro an aC M ⟨i,A,hi,hp,ay,Z,ad,aQ,rfl⟩;refine bO aQ ?_;have aP:=vR<|s.take i;rw [dv] at aP;have aZ:=ay.lt;refine cm 6 U<|cd U (fun aO=> ?_) fun aO=> ?_;refine aF 15 U<|p (fE u9 U U ab)<|e<|bo (Av (s.getD i 0) _) U ?_;rintro a3 aR ⟨rfl,C⟩;refine aI 3 U<|cb U (fun ae=> ?_) fun ae=> ?_;have L:fl (s.getD i 0)=false :=by simpa using ae
 exact aH 10 U<|tr<|bh 2 U<|f2 U U U<|⟨by show nP #[str [],.int .i64 21]=_; unfold letE; rw [if_pos (.inr<|pN ab L)]; rfl,Md.trans ad C⟩
 have L:fl (s.getD i 0)=true :=by simpa using ae
 have ap:Wk w aR:=Md.trans ad C;have V:=C.B ay;have ac:=Z.md C fun _ _ h=>h;have a2:=C.size;refine aF 6 U<|p (fE u9 U U ab)<|p (jc yS U U<|by have :=ky (s.getD i 0); omega)<|p (aw U<|IM V _)<|aI 3 U<|cb U (fun ai=> ?_) fun ai=> ?_;have E:¬s.getD i 0∈lets (s.take i):=of_decide_eq_false<|by simpa using ai
 refine aF 4 U<|p (fE u9 U U ab)<|p (jc yS U U<|by have :=ky (s.getD i 0); omega)<|e<|st uO U U (U) (V) (by rw [Bs]; have :=ky (s.getD i 0); omega) fun aU au aE=> ?_;have aN:=IN aE;have aL:Wk w aU:=Md.trans' ap au fun k aA h=>by omega
 have aa:=ac.md au fun k aA h=>by have :=ac.sc aA; omega
 refine aj 5 U<|p (fE u9 U U ab)<|e<|bo (Mi I A (lets<|s.take i) (s.getD i 0) _ aa ab) U ?_;rintro a4 a6 ⟨rfl,aD,aK,av,a0⟩;exact ax 7 U<|tn<|⟨_,ab,i+1,aD,ab,(fun j am=>by rcases dA j i with h | h <;> first | exact hp j h | (rw [show j=i by omega]; exact L)),(by rw [lV ab,if_neg E]; exact av.B aN fun h=>by have :=aa.sc h; omega),(by rw [lV ab,if_neg E]; exact aK),(aa.step aL av<|by have :=J.md.size; omega),U,U⟩
 have E:s.getD i 0∈lets (s.take i):=by simpa using ai
 exact aH 7 U<|tn<|⟨_,ab,i+1,A,ab,(fun j am=>by rcases dA j i with h | h <;> first | exact hp j h | (rw [show j=i by omega]; exact L)),(by rw [lV ab,if_pos E]; exact V),(by rw [lV ab,if_pos E]; exact ac),ap,U,U⟩
 refine aH 2 U<|cw<|fD 4 U<|e<|bo (K3 I A (lets<|s.take i) _ Z<|by have :=vR (s.take i); rw [dv] at this; omega) U ?_;rintro a5 a7 ⟨rfl,aM⟩;exact ax 5 U<|f2 U U U<|⟨by show nP #[str (lets<|s.take i),.int .i64 0]=_; unfold letE; rw [if_neg (by rw [rJ (fun j am=>hp j ab)]; exact fun h=>h.elim ak di),show s.take i=s from List.take_of_length_le ab]; rfl,Z.KV ad aM<|by have :=J.md.size; omega⟩
end Go.Hb
end
section
namespace Go.Hb
open Go.Hb.dN
def kG (e:Int):List PanicEntry:= [{v:= .iface 88 (.int .i64 e),recovered:=false}]
def JV:Except Nat (Nat×Nat)→Nat
 | .ok (n,_)=>n
 | .error _=>0
def JW:Except Nat (Nat×Nat)→Nat
 | .ok (_,p)=>p
 | .error _=>0
def oQ:Except Nat (Nat×Nat)→Nat
 | .ok _=>0
 | .error e=>e
def xc (r:Except Nat (Nat×Nat)):ag:= .tuple #[.int .u64 (JV r:Nat),.int .i64 (JW r:Nat),.int .i64 (oQ r:Nat)]
theorem xd {s:List UInt8} {a e:Nat} (h:a0 s a= .error e):e=60∨e=61:=by
 unfold a0 at h;split at h
 · cases h; exact .inr rfl
 · split at h
   · cases h; exact .inl rfl
   · split at h
     · cases h; exact .inr rfl
     · cases h
theorem J0 {s:List UInt8} {a:Nat} (h:((oQ (a0 s a):Nat):Int)=0):∃ n p,a0 s a= .ok (n,p):=by
 cases hX:a0 s a with
 | ok x=>exact ⟨x.1,x.2,rfl⟩
 | error e=>
   rw [hX] at h;have :=xd hX;simp only [oQ] at h; omega
theorem JZ {s:List UInt8} {a:Nat} (h:¬((oQ (a0 s a):Nat):Int)=0):a0 s a= .error (oQ<|a0 s a):=by
 cases hX:a0 s a with
 | ok x=>rw [hX] at h; simp [oQ] at h
 | error e=>rfl
theorem CF {s:List UInt8} {a n:Nat} :(s.take<|a+n).drop a=(s.drop a).take n:=by rw [Ep,Nat.add_sub_cancel_left]
theorem Ay {s:List UInt8} {a e:Nat} (h:a0 s a= .error e):cN s a= .error e:=by unfold cN; rw [h]
theorem Az {s:List UInt8} {a n p:Nat} (h:a0 s a= .ok (n,p)) (hn:255 < n):cN s a= .error 62:=by unfold cN; rw [h]; exact if_pos hn
theorem AA {s:List UInt8} {a n p:Nat} (h:a0 s a= .ok (n,p)) (hn:¬255 < n) (hp:s.length < p+n):cN s a= .error 60:=by unfold cN; rw [h]; simp only; rw [if_neg hn,if_pos hp]
theorem AB {s:List UInt8} {a n p:Nat} (h:a0 s a= .ok (n,p)) (hn:¬255 < n) (hp:¬s.length < p+n):cN s a= .ok ((s.drop p).take n,p+n):=by unfold cN; rw [h]; simp only; rw [if_neg hn,if_neg hp]
theorem Fi:∀ r:Fin 256,pk.wrap (il pk.bits ((r.val:Nat):Int) &&& il pk.bits 127).toNat=((r.val % 128:Nat):Int):=by decide+kernel
theorem Fh (b:UInt8):pk.wrap (il pk.bits (b.toNat:Int) &&& il pk.bits 127).toNat=((b.toNat % 128:Nat):Int):=Fi ⟨b.toNat,ky b⟩
theorem BR (i:Nat):(128:Nat) ^ i=2 ^ (7 *i):=by rw [Nat.pow_mul]
theorem Km {x i:Nat} (hi:i≤9):nM.wrap (((x:Nat):Int)*2 ^ min ((7 *i:Nat):Int).toNat nM.bits)=((x*128 ^ i % 18446744073709551616:Nat):Int):=by
 have A:(nM.bits:Nat)=64:=rfl;rw [tR,A,Nat.min_eq_left ab,IntKind.wrap_u64,BR];generalize 7 *i=m;rw [show ((x:Nat):Int)*2 ^ m=((x*2 ^ m:Nat):Int) by simp];omega
theorem Jk {n x i:Nat} (hi:i≤9) (hn:n < 128 ^ i):nM.wrap (il nM.bits (n:Int) ||| il nM.bits ((x*128 ^ i % 18446744073709551616:Nat):Int)).toNat=((n+x*128 ^ i % 18446744073709551616:Nat):Int):=by
 have C:(nM.bits:Nat)=64:=rfl;rw [BR] at hn ⊢;have I:x*2 ^ (7 *i) % 18446744073709551616=2 ^ (7 *i)*(x % 2 ^ (64 - 7 *i)):=by
  rw [show (18446744073709551616:Nat)=2 ^ (7 *i)*2 ^ (64 - 7 *i) by rw [← Nat.pow_add,show 7 *i+(64 - 7 *i)=64 by omega],EN x,Nat.mul_mod_mul_left]
 rw [I,C,DK,DK,BitVec.toNat_or,DL,DL];have A:x % 2 ^ (64 - 7 *i) < 2 ^ (64 - 7 *i):=Nat.mod_lt _<|Nat.two_pow_pos _;generalize x % 2 ^ (64 - 7 *i)=z at A;have hle:(2:Nat) ^ (7 *i)≤2 ^ 64:=rn aD ab;have hmul:2 ^ (7 *i)*z+n < 2 ^ 64:=by
  have E:2 ^ (7 *i)*(z+1)≤2 ^ (7 *i)*2 ^ (64 - 7 *i):=EO _ A;rw [← Nat.pow_add,show 7 *i+(64 - 7 *i)=64 by omega,Nat.mul_succ] at E;omega
 rw [yy ab,yy (show 2 ^ (7 *i)*z < 2 ^ 64 by omega),Nat.or_comm,← Nat.two_pow_add_eq_or_of_lt hn,gB ab,Nat.add_comm]
theorem su {s:List UInt8} {a i n:Nat} (hi:i≤9) (ha:a+i < s.length) (hn:n=dF ((s.drop a).take i)) (hb:i≤8∨(s.getD (a+i) 0).toNat≤1):n+(s.getD (a+i) 0).toNat % 128 *128 ^ i % 18446744073709551616=dF ((s.drop a).take<|i+1):=by
 have E:((s.drop a).take i).length=i:=by rw [dv,jn]; omega
 have I:(s.drop a)[i]? =some (s.getD (a+i) 0):=by
  rw [iu,bY,bF ab]; rfl
 rw [yu,I,Option.toList_some,vQ,E,hn,dF,dF,Nat.mul_zero,Nat.add_zero];congr 1;have hm:(s.getD (a+i) 0).toNat % 128 < 128:=Nat.mod_lt _ aD;have A:i≤8∨(s.getD (a+i) 0).toNat % 128≤1:=hb.imp id fun h=>ab;generalize (s.getD (a+i) 0).toNat % 128=x at hm A ⊢;rw [EN,yy];have L:(128:Nat) ^ 9=9223372036854775808:=aD;rcases A with hb | hb
 · have h1:128 ^ i*x < 128 ^ i*128:=Nat.mul_lt_mul_of_pos_left hm<|Nat.pow_pos aD;have J:(128:Nat) ^ i*128=128 ^ (i+1):=rfl;have C:(128:Nat) ^ (i+1)≤128 ^ 9:=rn aD ab;omega
 · have C:(128:Nat) ^ i≤128 ^ 9:=rn aD ab;have M:128 ^ i*x≤128 ^ i*1:=EO _ hb;omega
theorem J1 (s:List UInt8) (a:Nat) (w:ah) (an:s.length≤1048576) (ha:a≤s.length):
 bq ar 89 (bC [str s,aC a]) w (fun v w'=>v=xc (a0 s a)∧Wk w w'):=by
 refine enter func89 U ntmps89 U<|aT 13 U<|gs (t:=11) U (fun h=>absurd h ab) fun am=>aI 7 U<|cd U (fun aa=> ?_) fun aa=> ?_;exact aH 9 U<|f3 U U U U<|⟨by rw [sW (k:=0) (jJ ab (fun j M=>by omega)<|.inr<|.inl ab) ab ab]; rfl,Md.refl _ _⟩
 refine cn 9 U<|lp (fun L V O=> ∃ (i n:Nat),(i≤10)∧(∀ j,j < i→a+j < s.length∧128≤(s.getD (a+j) 0).toNat)∧(i≤9→n=dF ((s.drop a).take i))∧(Wk w O)∧(Sl V [(0,str s),(1,aC a),(4,.int .u64 (n:Nat)),(17,aC i)])∧(10 - i=L)) _ ⟨0,0,ab,(fun j M=>by omega),(fun _=>rfl),(Md.refl _ _),U,U⟩ ?_;rintro L V O ⟨i,n,hi,E,hn,C,al,rfl⟩;refine bO al<|cm 6 U<|cd U (fun ac=> ?_) fun ac=> ?_;refine cn 21 U<|cd U (fun ad=> ?_) fun ad=> ?_;exact aH 11 U<|tr<|bh 2 U<|f3 U U U U<|⟨by rw [sW (k:=i) (jJ ab E<|.inr<|.inl ab) ab ab]; rfl,C⟩
 refine aF 7 U<|p (bD<|a+i)<|p (fE u9 U U ab)<|aI 4 U ?_;have ak:n < 128 ^ i:=by
  have h1:=ss<|(s.drop a).take i;rw [← hn ab] at h1;have Z:((s.drop a).take i).length=i:=by rw [dv,jn]; omega
  rwa [Z] at h1
 refine aF 3 U<|p (cR U U<|Fh _)<|p (fC o6 qN U<|gB ab)<|aj 1 U<|p (wc ((7 *i:Nat):Int) U U<|xO ab ab)<|p (shl U U ab<|Km ab)<|p (yW U U<|Jk ab ak)<|aI 12 U<|cd U (fun ae=> ?_) fun ae=> ?_;have ai:∀ j,j < i+1→a+j < s.length∧128≤(s.getD (a+j) 0).toNat:=fun j M=>by
  rcases dA j i with h | h;exact E j h;obtain rfl :j=i:=ab;exact ⟨ab,ab⟩
 exact aF 6 U<|p (bD<|i+1)<|ax 2 U<|tn<|⟨_,ab,i+1,n+(s.getD (a+i) 0).toNat % 128 *128 ^ i % 18446744073709551616,ab,ai,(fun h=>su ab ab (hn ab)<|.inl ab),C,U,U⟩
 refine aF 6 U<|gs (t:=45) U (fun ag=> ?_) fun ag=> ?_;refine aI 6 U<|cd U (fun I=> ?_) fun I=> ?_;refine cn 2 U<|cd U (fun I=> ?_) fun I=> ?_;refine aH 12 U<|tr<|bh 2 U<|f3 U U U U ?_;have A:=jJ (s:=s) (a:=a) (k:=i) ab E<|.inr<|.inr ab;exact ⟨by rw [oR A ab ab ab]; rfl,C⟩;refine aF 8 U<|p (bD<|a+i)<|p (bD<|a+i+1)<|ax 8 U<|tr<|bh 2 U<|f3 U U U U ?_;exfalso; omega;refine aF 4 U<|gs (t:=51) U (fun J=> ?_) fun J=> ?_;refine aI 6 U<|cd U (fun I=> ?_) fun I=> ?_;refine aH 12 U<|tr<|bh 2 U<|f3 U U U U ?_;have A:=jJ (s:=s) (a:=a) (k:=i) ab E<|.inr<|.inr ab;exact ⟨by rw [oR A ab ab ab]; rfl,C⟩;refine aF 8 U<|p (bD<|a+i)<|p (bD<|a+i+1)<|ax 8 U<|tr<|bh 2 U<|f3 U U U U ?_;have A:=jJ (s:=s) (a:=a) (k:=i) ab E<|.inr<|.inr ab;exact ⟨by rw [sV A ab ab ab,← su ab ab (hn ab) ab]; rfl,C⟩;refine aj 3 U<|p aR<|aj 11 U<|p (bD<|a+i)<|p (bD<|a+i+1)<|ax 8 U<|tr<|bh 2 U<|f3 U U U U ?_;exfalso; omega;refine aj 3 U<|p aR<|aj 7 U<|gs (t:=51) U (fun J=> ?_) fun J=> ?_;refine aI 6 U<|cd U (fun I=> ?_) fun I=> ?_;refine aH 12 U<|tr<|bh 2 U<|f3 U U U U ?_;have A:=jJ (s:=s) (a:=a) (k:=i) ab E<|.inr<|.inr ab;exact ⟨by rw [oR A ab ab ab]; rfl,C⟩;refine aF 8 U<|p (bD<|a+i)<|p (bD<|a+i+1)<|ax 8 U<|tr<|bh 2 U<|f3 U U U U ?_;have A:=jJ (s:=s) (a:=a) (k:=i) ab E<|.inr<|.inr ab;exact ⟨by rw [sV A ab ab ab,← su ab ab (hn ab) ab]; rfl,C⟩;refine aj 3 U<|p aR<|aj 11 U<|p (bD<|a+i)<|p (bD<|a+i+1)<|ax 8 U<|tr<|bh 2 U<|f3 U U U U ?_;have A:=jJ (s:=s) (a:=a) (k:=i) ab E<|.inr<|.inr ab;exact ⟨by rw [sV A ab ab ab,← su ab ab (hn ab) ab]; rfl,C⟩;refine aH 2 U<|cw<|bh 10 U<|f3 U U U U ?_;obtain rfl :i=10:=ab;exact ⟨by rw [Cf (jJ ab E<|.inl U)]; rfl,C⟩
theorem jO (C:ag) (b:Bool) (e:Int) (w:ah):
 mA ar 56 (bC [C,.bool b,.int .i64 e]) w (fun v w'=>v=nP #[]∧b=true∧w'=w) (fun c w'=>c=kG e∧b=false∧w'=w):=by
 refine pW func56 U ntmps56 U<|cm 6 U<|cb U (fun A=> ?_) fun A=> ?_;exact aF 2 U<|p (wb sA U)<|Jo U fun σ' E=>⟨U,by simpa using A,U⟩
 refine aH 1 U<|qa<|f0 U ?_;exact ⟨U,by simpa using A,U⟩
theorem oC (rb:Nat) (s:List UInt8) (a:Nat) (w:ah) (E:aB w.heap rb [str s,.int .i64 (a:Nat)]) (ab:s.length≤1048576) (ha:a≤s.length):
 mA ar 54 (bC [.pointer (some ⟨rb,0,none⟩)]) w (fun v w'=> ∃ n p,a0 s a= .ok (n,p)∧v= .int .u64 (n:Nat)∧aB w'.heap rb [str s,.int .i64 (p:Nat)]∧Md (fun k=>k=rb) w w') (fun c w'=> ∃ e,a0 s a= .error e∧c=kG e∧Md (fun k=>k=rb) w w'):=by
 refine pW func54 U ntmps54 U<|cm 6 U<|ie fun C=>aN [0,1,2] U C<|dx 3 U C (E.aJ 0)<|aN [4,5,6] U C<|dx 7 U C (E.aJ 1)<|he 8 U ai<|bo (J1 s a w.drew ab ha) U ?_;rintro ag L ⟨rfl,A⟩;have A:=Md.dc A;have J:(fun w'=>Wk w w') L:=A;refine ⟨J,?_⟩;refine hp 9 U ai (fun _ _=>mv) J<|aN [10,11,12,13,14,15] U J<|hn ai<|fD 7 U<|eP U (ef eW (jO _ _ _ L) U fun ak al Z=> ?_) fun c w' I σ' ae=>⟨_,JZ (of_decide_eq_false I.2.1),I.1,by rw [I.2.2]; exact A.mono fun _ _ h=>h.elim⟩
 obtain ⟨rfl,ac,rfl⟩:=Z;obtain ⟨n,ad,aa⟩:=J0<|of_decide_eq_true ac;have M:=Wk.B A E;refine aj 8 U<|e<|st cG U U (U) (M) (by simp) fun am V O=>ax 9 U<|qa<|f1 U U ?_;rw [aa] at*;exact ⟨n,ad,U,U,O,Md.trans (A.mono fun _ _ h=>h.elim) V⟩
theorem C3 (rb:Nat) (s:List UInt8) (a n:Nat) (w:ah) (I:aB w.heap rb [str s,.int .i64 (a:Nat)]) (al:s.length≤1048576) (ha:a≤s.length) (ak:n≤1048576):
 mA ar 90 (bC [.pointer (some ⟨rb,0,none⟩),.int .i64 (n:Nat)]) w (fun v w'=>a+n≤s.length∧v=str ((s.drop a).take n)∧aB w'.heap rb [str s,.int .i64 ((a+n:Nat):Int)]∧Md (fun k=>k=rb) w w') (fun c w'=>s.length < a+n∧c=kG 60∧Md (fun k=>k=rb) w w'):=by
 refine pW func90 U ntmps90 U<|cm 6 U<|ie fun C=>aN [0,1,2,3,4] U C<|dx 5 U C (I.aJ 0)<|aN [6,7,8,9] U C<|dx 10 U C (I.aJ 1)<|aN [11,12] U C<|HL 13 U ai U (ef eW (jO _ _ _ w.drew) U fun am M ad=> ?_) fun c w' J σ' ag=>⟨by have :=of_decide_eq_false J.2.1; omega,J.1,by rw [J.2.2]; exact (Md.refl _ _).drew⟩
 obtain ⟨rfl,V,L⟩:=ad;have V:=of_decide_eq_true V;have O:aB M.heap rb [str s,.int .i64 (a:Nat)]:=by rw [L]; exact I
 have aa:Md (fun k=>k=rb) w M:=by rw [L]; exact (Md.refl _ _).drew
 have ae:(fun w'=>Wk w w') M:=by rw [L]; exact (Md.refl _ _).drew
 refine ⟨ae,?_⟩;refine hn ai<|fD 6 U<|p (aw U<|O.aJ 1)<|aj 1 U<|p (bD<|a+n)<|aj 2 U<|e<|st cG U U (U) (O) (by simp) fun an ac Z=> ?_;have E:=Z;exact aI 3 U<|ie fun A=>aN [0,1,2] U A<|dx 3 U A (E.aJ 0)<|aN [4,5,6] U A<|dx 7 U A (E.aJ 1)<|aN [8] U A<|hp 9 U ai (fun _ _=>oT<|a) A<|aN [10,11,12] U A<|dx 13 U A (E.aJ 1)<|hp 14 U ai (fun _ _=>l8 u9 U U U ab) A<|aN [15] U A<|hn ai<|bh 2 U<|qa<|f1 U U<|⟨ab,by rw [← CF]; rfl,E,(aa.trans ac).drew⟩
theorem vv (rb:Nat) (s:List UInt8) (a:Nat) (w:ah) (M:aB w.heap rb [str s,.int .i64 (a:Nat)]) (J:s.length≤1048576) (ha:a≤s.length):
 mA ar 55 (bC [.pointer (some ⟨rb,0,none⟩)]) w (fun v w'=> ∃ f p,cN s a= .ok (f,p)∧v=str f∧aB w'.heap rb [str s,.int .i64 (p:Nat)]∧Md (fun k=>k=rb) w w') (fun c w'=> ∃ e,cN s a= .error e∧c=kG e∧Md (fun k=>k=rb) w w'):=by
 refine pW func55 U ntmps55 U<|aT 8 U<|eP U (ef lJ (oC rb s a w M J ha) U fun au ai ad=> ?_) fun c w' A σ' I=>by obtain ⟨e,he,ag,Z⟩:=A; exact ⟨e,Ay he,ag,Z⟩
 obtain ⟨n,q,C,rfl,V,E⟩:=ad;obtain ⟨al,am,an⟩:=jj C;refine aj 8 U<|eP U (ef eW (jO _ _ _ ai) U fun av ak ae=> ?_) fun c w' A σ' I=>⟨62,Az C (by have :=of_decide_eq_false A.2.1; omega),A.1,by rw [A.2.2]; exact E⟩
 obtain ⟨rfl,L,rfl⟩:=ae;have L:=of_decide_eq_true L;refine aj 6 U<|p (fC u3 mb U<|gS ab)<|eP U (ef yZ (C3 rb s q n ak V J ab ab) U fun ap aw ac=> ?_) fun c w' A σ' I=>⟨60,AA C ab A.1,A.2.1,E.trans A.2.2⟩
 obtain ⟨ao,rfl,O,aa⟩:=ac;exact ax 4 U<|qa<|f1 U U<|⟨_,_,AB C ab ab,U,O,E.trans aa⟩
theorem C4 {s:List UInt8} {i:Nat} (h:i < s.length):(s.take<|i+1).drop i= [s.getD i 0]:=by
 rw [Ep,show i+1 - i=1 by omega,drop_cons 0 h]; rfl
theorem Lq (b:UInt8):nf [b]=fl b:=by
 unfold nf fV;cases h:fl b <;> simp [h]
def gZ:List UInt8×List UInt8:=([],[])
def dY (r:List UInt8×List UInt8):List ag:= [str r.1,str r.2]
theorem Ca {h:Array Obj} {a:Option bP} {rs:List (List UInt8×List UInt8)} {i:Nat} (A:a9 h a (rs.flatMap dY)) (hi:i < rs.length):∀ j,j < 2→Hb.ay h (bk a) (fo a+i*2 +j)= [str (rs.getD i gZ).1,str (rs.getD i gZ).2][j]? :=
 lO (f:=dY) (m:=2) (fun _=>rfl) A (by rw [bY,bF hi]; rfl)
theorem Cb {rs:List (List UInt8×List UInt8)} (h:0 < rs.length):rs.flatMap dY≠[]:=oq (f:=dY) (m:=2) (fun _=>rfl) aD h
variable {ls:Nat} {t:List UInt8} {rs:List (List UInt8×List UInt8)}
theorem nT {b:Bool} (h:(!b)=true):b=false :=by cases b; rfl; cases h
theorem oW (h:ls < 1∨64 < ls∨256 < rs.length):dZ ls t rs=false :=by
 unfold dZ;rw [decide_eq_false ab]; rfl
theorem ta (h:t≠[]) (A:letE t≠(t,0)):dZ ls t rs=false :=by
 unfold dZ;rw [decide_eq_false h,decide_eq_false A]; simp
theorem l7 {i:Nat} (h:i < rs.length) (A:gO (rs.getD i gZ)=false):dZ ls t rs=false :=by
 unfold dZ;rw [yL gZ h A]; simp
theorem Cu (h:¬(ls < 1∨64 < ls∨256 < rs.length)) (A:t= []∨letE t=(t,0)) (C:∀ i,i < rs.length→gO (rs.getD i gZ)=true):dZ ls t rs=true :=by
 unfold dZ;rw [decide_eq_true ab,yM gZ C];rcases A with A | A <;> simp [A]
theorem Cw {r:List UInt8×List UInt8} (h:r.1= []):gO r=false :=by unfold gO; simp [h]
theorem xl {r:List UInt8×List UInt8} (h:(fV r.1 && decide (r.1.length≤32))=false):gO r=false :=by unfold gO; rw [h]; simp
theorem xm {r:List UInt8×List UInt8} (h:(fV r.2 && decide (r.2.length≤32))=false):gO r=false :=by unfold gO; rw [h]; simp
theorem Cx {r:List UInt8×List UInt8} (h0:r.1≠[]) (h:(fV r.1 && decide (r.1.length≤32))=true) (A:(fV r.2 && decide (r.2.length≤32))=true):gO r=true :=by unfold gO; rw [h,A,decide_eq_true h0]; rfl
theorem BU (x:List UInt8) (m:Nat) (w:ah) (ac:x.length≤1048576):
 bq ar 92 (bC [str x,aC m]) w (fun v w'=>v= .bool (fV x && decide (x.length≤m))∧Wk w w'):=by
 refine enter func92 U ntmps92 U<|cm 14 U<|lp (fun I V E=> ∃ (i:Nat),(i≤x.length)∧(∀ j,j < i→fl (x.getD j 0)=true)∧(Wk w E)∧(Sl V [(0,str x),(1,aC m),(7,aC (x.length)),(8,aC i)])∧(x.length - i=I)) _ ⟨0,ab,(fun j M=>by omega),(Md.refl _ _),U,U⟩ ?_;rintro I V E ⟨i,hi,O,A,aa,rfl⟩;refine bO aa<|cm 6 U<|cd U (fun Z=> ?_) fun Z=> ?_;refine aF 15 U<|p (bD<|i+1)<|p (l8 u9 U U U ab)<|e<|bo (Ln ((x.take<|i+1).drop i) E<|by rw [C4 ab]; simp) U fun ad ae L=> ?_;rw [C4 ab,Lq] at L;obtain ⟨rfl,J⟩:=L;refine aI 3 U<|cb U (fun C=> ?_) fun C=> ?_;exact aH 8 U<|tr<|bh 2 U<|aQ U<|⟨by rw [pN (i:=i) ab (by simpa using C)]; rfl,A.trans J⟩
 exact aF 4 U<|p (bD<|i+1)<|ax 2 U<|tn<|⟨_,ab,i+1,ab,(fun j M=>by rcases dA j i with h | h <;> first | exact O j h | (rw [show j=i by omega]; simpa using C)),(A.trans J),U,U⟩
 exact aH 2 U<|cw<|bh 12 U<|aQ U<|⟨by rw [rJ (fun j M=>O j ab),mg]; exact bv ab,A⟩
theorem Ke (ls:Nat) (t:List UInt8) (rs:List (List UInt8×List UInt8)) (V:Option bP) (rc:Nat) (aA v4 aD v6:ag) (w:ah) (ap:a9 w.heap V (rs.flatMap dY)) (ba:ls≤64) (bd:t.length≤1048576) (bb:rs.length≤1048576) (aZ:∀ r∈rs,r.1.length≤1048576∧r.2.length≤1048576):
 bq ar 57 (bC [.agg #[aC ls,str t,.slice V rs.length rc,aA,v4,aD,v6]]) w (fun v w'=>v= .bool (dZ ls t rs)∧Wk w w'):=by
 refine enter func57 U ntmps57 U<|aT 2 U<|e<|n5 U fun an a4 a6 M C=>aj 7 U<|p (aw U<|C.aJ 0)<|aj 2 U<|gs (t:=10) U (fun aW=> ?_) fun aW=> ?_;exact aj 4 U<|p mv<|ax 15 U<|aQ U<|⟨(congrArg bp<|oW (t:=t) (rs:=rs)<|.inl (show ls < 1 by omega)).symm,M.md⟩
 refine aj 1 U<|bK U (aw U<|C.aJ 0)<|aj 3 U<|gs (t:=15) U (fun aX=> ?_) fun aX=> ?_;exact ax 15 U<|aQ U<|⟨(congrArg bp<|oW (t:=t) (rs:=rs)<|.inr<|.inl (show 64 < ls by omega)).symm,M.md⟩
 refine aj 1 U<|bK U (aw U<|C.aJ 2)<|aI 5 U<|cd U (fun aU=> ?_) fun aU=> ?_;exact aH 7 U<|aQ U<|⟨(congrArg bp<|oW<|.inr<|.inr (show 256 < rs.length by omega)).symm,M.md⟩
 refine cn 2 U ?_;refine fu (fun aE al=> ∃ (a3:Unit),(t= []∨letE t=(t,0))∧(Wk w al)∧(aB al.heap an [aC ls,str t,.slice V rs.length rc,aA,v4,aD,v6])∧(Sl aE [(1,aY an)])) ?_ ?_;refine aT 3 U<|p (aw U<|C.aJ 1)<|e<|bo (Ix t a4 ab) U ?_;rintro bg bl ⟨rfl,au⟩;have I:=M.md.trans au;have E:=Wk.B au C;refine p mv<|aj 9 U<|p (aw U<|E.aJ 1)<|aj 2 U<|gs (t:=30) U (fun O=> ?_) fun O=> ?_;refine aj 3 U<|gs (t:=33) U (fun ad=> ?_) fun ad=> ?_;exact aj 5 U<|p (l5 U)<|ax 9 U<|tr<|aQ U<|⟨(congrArg bp<|ta O fun h=>by rw [h] at ad; exact ad U).symm,I⟩
 refine aj 2 U<|bK U (aw U<|E.aJ 1)<|aI 5 U<|cd U (fun aa=> ?_) fun aa=> ?_;exact aH 6 U<|tr<|aQ U<|⟨(congrArg bp<|ta O fun h=>aa<|by rw [h]).symm,I⟩
 exact aH 1 U<|tn<|⟨(),(.inr<|Prod.ext (qU.1 aa)<|by show (letE t).2=0; omega),I,E,U⟩
 exact ax 13 U<|tn<|⟨(),(.inl<|qU.1 O),I,E,U⟩
 rintro aE al ⟨a3,a2,aP,aO,a0⟩;refine bO a0<|aF 4 U<|p (aw U<|aO.aJ 2)<|aI 5 U<|lp (fun ao aG am=> ∃ (i:Nat),(i≤rs.length)∧(∀ j,j < i→gO (rs.getD j gZ)=true)∧(Wk w am)∧(Sl aG [(41,.slice V rs.length rc),(42,aC (rs.length)),(43,aC i)])∧(rs.length - i=ao)) _ ⟨0,ab,(fun j ay=>by omega),aP,U,U⟩ ?_;rintro ao aG am ⟨i,hi,az,A,a1,rfl⟩;refine bO a1<|cm 6 U<|cd U (fun aV=> ?_) fun aV=> ?_;refine aF 6 U<|p (bf He U U ab<|a9.ok (ap.wk A)<|Cb ab)<|p (eK Fc U (U)<|Ca (ap.wk A) ab)<|e<|dB Mv fun aK bn a7 aS aM=>e<|ez GC U U U U aM (by simp) fun ak aR aN=> ?_;have Z:aB ak.heap aK [str (rs.getD i gZ).1,str (rs.getD i gZ).2]:=⟨_,aN⟩
 have L:Wk am ak:=Md.trans' aS.md aR fun k a8 h=>by omega
 have bc:=aZ _<|j5 (d:=gZ) (show i < rs.length by omega);refine aj 5 U<|p (aw U<|Z.aJ 0)<|aj 2 U<|gs (t:=50) U (fun ae=> ?_) fun ae=> ?_;exact aj 5 U<|p mv<|ax 16 U<|tr<|bh 2 U<|aQ U<|⟨(congrArg bp<|l7 (show i < rs.length by omega)<|Cw ae).symm,A.trans L⟩
 refine aj 1 U<|bK U (aw U<|Z.aJ 0)<|eg U U U<|bo (BU _ 32 ak ab) U ?_;rintro bi a5 ⟨rfl,J⟩;have aL:=Wk.B J Z;refine aj 3 U<|gb (t:=56) U (fun ai=> ?_) fun ai=> ?_;exact ax 16 U<|tr<|bh 2 U<|aQ U<|⟨(congrArg bp<|l7 (show i < rs.length by omega)<|xl<|nT ai).symm,(A.trans L).trans J⟩
 refine aj 1 U<|bK U (aw U<|aL.aJ 1)<|eg U U U<|bo (BU _ 32 a5 ab) U ?_;rintro bj bm ⟨rfl,av⟩;refine aI 4 U<|cb U (fun ac=> ?_) fun ac=> ?_;exact aH 8 U<|tr<|bh 2 U<|aQ U<|⟨(congrArg bp<|l7 (show i < rs.length by omega)<|xm<|nT ac).symm,((A.trans L).trans J).trans av⟩
 exact aF 4 U<|p (bD<|i+1)<|ax 2 U<|tn<|⟨_,ab,i+1,ab,(fun j ay=>by rcases dA j i with h | h <;> first | exact az j h | (rw [show j=i by omega]; exact Cx ae (by simpa using ai)<|by simpa using ac)),(((A.trans L).trans J).trans av),U,U⟩
 exact aH 2 U<|cw<|bh 8 U<|aQ U<|⟨(congrArg bp<|Cu ab a2 fun j ay=>az j ab).symm,A⟩
end Go.Hb
end
section
namespace Go.Hb
open Go.Hb.dN
structure ek (f:Nat→ag) (w:ah) (pA ms:Nat) (aa:Option bP) (n cA nx:Nat) (mk:List Nat):Prop where
 ak:aB w.heap pA [.slice aa n cA,.int .i64 nx,.slice (some ⟨ms,0,none⟩) n n]
 fI:aB w.heap ms (mk.map f)
 ne:pA≠ms
theorem ek.drew {f:Nat→ag} {w:ah} {E ms:Nat} {A:Option bP} {n C nx:Nat} {mk:List Nat} (h:ek f w E ms A n C nx mk):ek f w.drew E ms A n C nx mk:=⟨h.ak,h.fI,h.ne⟩
theorem vX {f:Nat→ag} {mk:List Nat} {i x:Nat} :(mk.map f).set (0 +i*1) (f x)=(mk.set i x).map f:=by rw [jY,cx,Nat.mul_one]
section
variable {a:List aK} {f nx:Nat} {mk:List Nat} {n:Int}
theorem qO (h:n≠nx) (A:¬(0≤n∧n < nx)):vs a (f+1) (nx,mk) n=none:=by
 rw [xN h,if_neg (fun e=>A ⟨e.1,e.2.1⟩)]
theorem Df (h:n≠nx) (h0:0≤n) (h1:n < nx):(vs a (f+1) (nx,mk) n).isSome=decide (((mk.getD n.toNat 0:Nat):Int)=2):=by
 rw [xN h];by_cases A:mk.getD n.toNat 0=2
 · rw [if_pos ⟨h0,h1,A⟩,decide_eq_true ab]; rfl
 · rw [if_neg (fun e=>A e.2.2),decide_eq_false ab]; rfl
theorem Dg {s:Nat×List Nat} (h:n≠nx) (A:vs a (f+1) (nx,mk) n=some s):s=(nx,mk):=by
 rw [xN h] at A;split at A
 · cases A; rfl
 · cases A
end
set_option maxHeartbeats 1000000 in
theorem Lo (f:Nat) (a:List aK) (O:Option bP) (aa E ms:Nat) (w0:ah) (nx:Nat) (mk:List Nat) (n:Int) (w:ah) (bn:gY w0.heap O a) (cx:w0.heap.size≤E) (hm:w0.heap.size≤ms) (a0:Wk w0 w) (I:ek jv w E ms O a.length aa nx mk) (ct:mk.length=a.length) (cv:nx≤a.length) (cs:a.length < f+nx) (hb:a.length≤1048576) (b1:∀ i,i < a.length→(aO a i).2.length≤1073741824):
 bq ar 87 (bC [aY E,.int .i64 n]) w (fun v w'=>v= .bool (vs a f (nx,mk) n).isSome∧Md (fun q=>q=E∨q=ms) w w'∧∀ s,vs a f (nx,mk) n=some s→ek jv w' E ms O a.length aa s.1 s.2):=by
 induction f generalizing nx mk n w with
 | zero=>omega
 | succ f ih=>
   have a2:∀ k,k < w0.heap.size→(k=E∨k=ms)→False:=fun k h1 ci=>ab;have cy:=I.ak.lt;have cu:=I.fI.lt;have an:=I.ne;obtain ⟨ch,bY⟩:=I.ak;refine enter func87 U ntmps87 U<|aT 12 U<|p (aw U<|I.ak.ay 1)<|aI 3 U<|cd U (fun au=> ?_) fun au=> ?_;refine aF 5 U<|gs (t:=16) U (fun b3=> ?_) fun b3=> ?_;refine aj 4 U<|bK U (aw U<|I.ak.ay 1)<|aj 3 U<|gs (t:=24) U (fun b4=> ?_) fun b4=> ?_;refine aj 3 U<|bK U (aw U<|I.ak.ay 2)<|aj 1 U<|bK U (ia rY U U ab)<|bK U (aw U (show _=some (ba .u8 ((mk.getD n.toNat 0:Nat):Int)) from yV I.fI (i:=n.toNat) ab))<|ax 7 U<|aQ U ?_;refine ⟨congrArg bp (Df au ab ab).symm,Md.refl _ _,fun s A=>by rw [Dg au A]; exact I⟩;refine aj 9 U<|p aR<|ax 4 U<|aQ U ?_;rw [qO au ab];exact ⟨U,Md.refl _ _,fun s A=>by cases A⟩;refine aj 7 U<|p mv<|aj 9 U<|p aR<|ax 4 U<|aQ U ?_;rw [qO au ab];exact ⟨U,Md.refl _ _,fun s A=>by cases A⟩;obtain rfl :n=(nx:Int):=qU.1 au;refine aF 9 U<|p (aw U<|I.ak.ay 0)<|aI 4 U<|cd U (fun bZ=> ?_) fun bZ=> ?_;refine aH 7 U<|aQ U ?_;rw [Dk rfl ab];exact ⟨U,Md.refl _ _,fun s A=>by cases A⟩;refine aF 7 U<|p (aw U<|I.ak.ay 1)<|p (bD<|nx+1)<|aj 2 U<|e<|dg cG U U U bY (by simp) fun ce bw bJ=> ?_;have bt:aB ce.heap E [.slice O a.length aa,.int .i64 ((nx+1:Nat):Int),.slice (some ⟨ms,0,none⟩) a.length a.length]:=⟨_,bJ⟩
   have b8:=bw.B I.fI fun e=>an e.symm;obtain ⟨em,bW⟩:=b8;refine aj 7 U<|p (aw U<|bt.ay 2)<|aj 1 U<|p (ia rY U U ab)<|e<|dg zo U U U bW (by simp; omega) fun aM bx bL=> ?_;have b9:aB aM.heap ms ((mk.set nx 1).map jv):=by rw [← vX]; exact ⟨_,bL⟩
   have a3:ek jv aM E ms O a.length aa (nx+1) (mk.set nx 1):=⟨bx.B bt an,b9,an⟩
   have a7:Md (fun q=>q=E∨q=ms) w aM:=Md.trans (bw.mono fun k _ h=> .inl h)<|bx.mono fun k _ h=> .inr h;have a1:Wk w0 aM:=Md.trans' a0 a7 a2;obtain ⟨ae,ag,bE,aC⟩:=bn.two (i:=nx) ab;have ck:=aC.wk a1;refine aj 7 U<|p (aw U<|a3.ak.ay 0)<|aj 1 U<|p (bf oo U U ab<|bn.ok ab)<|p (eK yI U (U)<|ma a1 bE)<|e<|dB Dz fun ad cA cq bV bM=>e<|ez zt U U U U bM (by simp) fun bl bT bN=> ?_;have bu:aB bl.heap ad [bp (aO a nx).1,.slice ae (aO a nx).2.length ag]:=⟨_,bN⟩
   have aS:Wk aM bl:=Md.trans' bV.md bT fun k bz h=>by omega
   have bQ:ek jv bl E ms O a.length aa (nx+1) (mk.set nx 1):=⟨aS.B a3.ak,aS.B a3.fI,an⟩
   have cj:=a7.size;refine aj 6 U<|p (aw U<|bu.ay 1)<|aI 5 U<|lp (fun bm bA av=> ∃ (k M:Nat) (J:List Nat),(k≤(aO a nx).2.length)∧(fL a f (nx+1) (mk.set nx 1) ((aO a nx).2.take k)=some (M,J))∧(dU<|(aO a nx).2.take k)∧(Wk w0 av)∧(Md (fun q=>q=E∨q=ms) w av)∧(ek jv av E ms O a.length aa M J)∧(aB (av).heap ad [bp (aO a nx).1,.slice ae (aO a nx).2.length ag])∧(Sl bA [(0,aY E),(1,.int .i64 (nx:Int)),(5,aY ad),(62,.slice ae (aO a nx).2.length ag),(63,.int .i64 (aO a nx).2.length),(64,.int .i64 k)])∧((aO a nx).2.length - k=bm)) _ ⟨0,nx+1,mk.set nx 1,ab,U,List.Pairwise.nil,(Md.trans a1 aS),(Md.trans' a7 aS fun k _ h=>h.elim),bQ,bu,U,U⟩ ?_;rintro bm bA av ⟨k,M,J,bz,ac,aX,aU,a5,aD,ap,ca,rfl⟩;refine bO ca<|cm 6 U<|cd U (fun b0=> ?_) fun b0=> ?_;refine cn 5 U ?_;have cr:=b1 nx ab;obtain ⟨⟨c,z⟩,hek⟩:∃ e,(aO a nx).2[k]? =some e:=⟨_,bF ab⟩
   obtain ⟨⟨aP,cf⟩,hep⟩:∃ e,(aO a nx).2[k - 1]? =some e:=⟨_,bF ab⟩
   have a9:=tB ac ab;simp only [gn] at a9;refine aF 2 U<|p (bf pY U U ab<|aC.ok ab)<|p (eK uu U (U)<|ma aU<|aC.two hek)<|e<|dB Mw fun az cz cp bU bG=>aj 1 U<|e<|ez GD U U U U bG (by simp) fun aL bR bH=> ?_;have aZ:aB aL.heap az [ba .u8 c.toNat,.int .i64 z]:=⟨_,bH⟩
   have L:Wk av aL:=Md.trans' bU.md bR fun k bz h=>by omega
   have bv:ek jv aL E ms O a.length aa M J:=⟨L.B aD.ak,L.B aD.fI,an⟩
   have a6:Md (fun q=>q=E∨q=ms) w aL:=Md.trans' a5 L fun k _ h=>h.elim;have co:=a5.size;refine aI 3 U ?_;have C:(fun w'=>Wk w0 w'∧aB w'.heap ad [bp (aO a nx).1,.slice ae (aO a nx).2.length ag]∧aB w'.heap az [ba .u8 c.toNat,.int .i64 z]) aL.drew:=⟨(Md.trans aU L).drew,L.B ap,aZ⟩
   refine bj (fun w'=>Wk w0 w'∧aB w'.heap ad [bp (aO a nx).1,.slice ae (aO a nx).2.length ag]∧aB w'.heap az [ba .u8 c.toNat,.int .i64 z]) U wide C<|aN [0,1,2] U C<|kI (t:=71) U (fun b5=> ?_) fun b5=> ?_;refine aN [3] U C<|ic 4 U (fun w' Z=>aw U<|Z.2.1.ay 1) C<|aN [5] U C<|ic 6 U (fun _ _=>oT<|k - 1) C<|ic 7 U (fun _ _=>bf pY U U ab<|aC.ok ab) C<|aN [8] U C<|ic 9 U (fun w' Z=>aw U (show _=some (ba .u8 (aP.toNat:Int)) from (aC.wk Z.1).b (k - 1) (aP,cf) hep)) C<|aN [10] U C<|ic 11 U (fun w' Z=>aw U<|Z.2.2.ay 0) C<|aN [12,13,14] U C<|kI (t:=83) U (fun b6=> ?_) fun b6=> ?_;refine aN [15,16,17,18,19,20] U C<|hn ai<|bh 10 U<|tr<|bh 2 U<|aQ U ?_;rw [Dj ab (BB ab hek hep<|by show c.toNat≤aP.toNat; omega)];exact ⟨U,a6.drew,fun s A=>by cases A⟩;refine aN [15,16] U C<|ic 17 U (fun w' Z=>aw U<|Z.2.2.ay 1) C<|AK 18 U ai U U U<|bo (ih M J z _ (Md.trans aU L).drew (ek.drew bv) ab ab ab) U ?_;rintro cc ao ⟨rfl,V,bd⟩;have al:Md (fun q=>q=E∨q=ms) w ao:=Md.trans a6<|Md.dc V;have aA:Wk w0 ao:=Md.trans' a0 al a2;have aE:(fun w'=>Wk w0 w'∧aB w'.heap ad [bp (aO a nx).1,.slice ae (aO a nx).2.length ag]∧aB w'.heap az [ba .u8 c.toNat,.int .i64 z]) ao:=⟨aA,V.B (L.B ap) (fun e=>by omega),V.B aZ fun e=>by omega⟩
   refine ⟨aE,?_⟩;refine aN [19,20] U aE<|hn ai<|dw 1 U<|cb U (fun am=> ?_) fun am=> ?_;have bb:vs a f (M,J) z=none:=by simpa using am
   refine aH 8 U<|tr<|bh 2 U<|aQ U ?_;rw [tA (k:=k+1) ab (by rw [mc ac hek]; exact bb)];exact ⟨U,al,fun s A=>by cases A⟩;obtain ⟨aJ,aG⟩:∃ s,vs a f (M,J) z=some s:=mw.1<|by simpa using am
   exact aH 7 U<|tn<|⟨_,ab,k+1,aJ.1,aJ.2,ab,(by rw [mc ac hek]; exact aG),(sO aX hek fun q h0 bc=>by rw [hep] at bc; cases bc; show aP.toNat < c.toNat; omega),aA,al,(bd _ aG),(V.B (L.B ap) fun e=>by omega),U,U⟩
   refine aN [3,4,5,6,7,8,9,10,11,12,13] U C<|dd 14 U (mv) C<|aN [15,16] U C<|ic 17 U (fun w' Z=>aw U<|Z.2.2.ay 1) C<|AK 18 U ai U U U<|bo (ih M J z _ (Md.trans aU L).drew (ek.drew bv) ab ab ab) U ?_;rintro cc ao ⟨rfl,V,bd⟩;have al:Md (fun q=>q=E∨q=ms) w ao:=Md.trans a6<|Md.dc V;have aA:Wk w0 ao:=Md.trans' a0 al a2;have aE:(fun w'=>Wk w0 w'∧aB w'.heap ad [bp (aO a nx).1,.slice ae (aO a nx).2.length ag]∧aB w'.heap az [ba .u8 c.toNat,.int .i64 z]) ao:=⟨aA,V.B (L.B ap) (fun e=>by omega),V.B aZ fun e=>by omega⟩
   refine ⟨aE,?_⟩;refine aN [19,20] U aE<|hn ai<|dw 1 U<|cb U (fun am=> ?_) fun am=> ?_;have bb:vs a f (M,J) z=none:=by simpa using am
   refine aH 8 U<|tr<|bh 2 U<|aQ U ?_;rw [tA (k:=k+1) ab (by rw [mc ac hek]; exact bb)];exact ⟨U,al,fun s A=>by cases A⟩;obtain ⟨aJ,aG⟩:∃ s,vs a f (M,J) z=some s:=mw.1<|by simpa using am
   exact aH 7 U<|tn<|⟨_,ab,k+1,aJ.1,aJ.2,ab,(by rw [mc ac hek]; exact aG),(sO aX hek fun q h0 bc=>by omega),aA,al,(bd _ aG),(V.B (L.B ap) fun e=>by omega),U,U⟩
   refine aH 2 U<|cw<|dw 3 U ?_;obtain ⟨cg,bX⟩:=aD.fI;rw [show k=(aO a nx).2.length by omega,yv] at ac aX;have a9:=tB ac ab;simp only [gn] at a9;have bg:=Dh ab aX ac;refine aF 4 U<|p (aw U<|aD.ak.ay 2)<|aj 1 U<|p (ia rY U U ab)<|e<|dg zo U U U bX (by simp; omega) fun bi a4 bI=> ?_;have b7:aB bi.heap ms ((J.set nx 2).map jv):=by rw [← vX]; exact ⟨_,bI⟩
   have aV:ek jv bi E ms O a.length aa M (J.set nx 2):=⟨a4.B aD.ak an,b7,an⟩
   have aW:Md (fun q=>q=E∨q=ms) w bi:=Md.trans a5<|a4.mono fun k _ h=> .inr h;have br:=a4.B ap fun e=>by omega
   refine aj 5 U<|p (aw U<|br.ay 1)<|aj 3 U<|gs (t:=101) U (fun b2=> ?_) fun b2=> ?_;refine aj 3 U<|p mv<|aj 7 U<|p aR<|ax 3 U<|aQ U ?_;rw [bg,if_pos (Bc ab)];exact ⟨U,aW,fun s A=>by cases A; exact aV⟩;refine aj 1 U<|bK U (aw U<|br.ay 0)<|aj 2 U<|gb (t:=105) U (fun a8=> ?_) fun a8=> ?_;refine aj 7 U<|p aR<|ax 3 U<|aQ U ?_;rw [bg,if_pos (Bb a8)];exact ⟨U,aW,fun s A=>by cases A; exact aV⟩;refine aj 3 U<|bK U (aw U<|aV.ak.ay 0)<|ax 7 U<|aQ U ?_;rw [bg,vP ab a8];by_cases h1:a.length=1;rw [if_pos (decide_eq_true h1)];exact ⟨congrArg bp (decide_eq_true ab),aW,fun s A=>by cases A; exact aV⟩;rw [if_neg (by simpa using h1)];exact ⟨congrArg bp (decide_eq_false ab),aW,fun s A=>by cases A⟩
def qG (a:List aK):Int:=if shaped a=true then 0 else 190
theorem kj {a:List aK} (h:shaped a=false):qG a=190:=if_neg<|by rw [h]; exact di
theorem tc {a:List aK} (h:shaped a=true):qG a=0:=if_pos h
def jw (x:Nat):ag:= .bool<|decide (x=2)
theorem II {mk:List Nat} {i:Nat} (h:mk.getD i 0=0):(mk.set i 1).map jw=mk.map jw:=by
 refine List.ext_getElem? fun j=> ?_;rw [fP,fP,List.getElem?_set];by_cases e:i=j
 · subst e;rw [if_pos rfl];by_cases A:i < mk.length
   · rw [if_pos A,bF A];rw [bY,bF A] at h;have h0:mk[i]=0:=h;rw [h0]; rfl
   · rw [if_neg A,List.getElem?_eq_none ab]
 · rw [if_neg e]
theorem Mp (n:Nat):∀ i,0≤i→(cW n 0).getD i 0=0:=fun i _=>by
 rw [bY,List.getElem?_replicate]; split <;> rfl
set_option maxHeartbeats 1000000 in
theorem Ki (a:List aK) (A:Option bP) (E:Nat) (w:ah) (ad:gY w.heap A a) (aC:a.length≤140737488355328) (ap:∀ i,i < a.length→(aO a i).2.length≤1073741824):
 bq ar 50 (bC [.slice A a.length E]) w (fun v w'=>v= .int .i64 (qG a)∧Wk w w'):=by
 refine enter func50 U ntmps50 U<|aT 12 U<|gs (t:=7) U (fun au=> ?_) fun au=> ?_;exact ax 14 U<|aQ U<|⟨iv (kj<|td ab).symm,Md.refl _ _⟩
 refine aI 6 U<|cd U (fun an=> ?_) fun an=> ?_;exact aH 7 U<|aQ U<|⟨iv (kj<|td ab).symm,Md.refl _ _⟩
 refine aF 7 U<|e<|fI (zv:= .int .u8 0) l9 U U U U ab (by unfold maxLen; omega) fun C aA aE J av=> ?_;have ag:aB aA.heap C ((cW a.length 0).map jv):=by rw [yr]; exact BP<|av _<|aP _
 refine p (eV (ps:= [(0,.slice A a.length E),(2,.slice (some ⟨C,0,none⟩) a.length a.length)]) (L:= [.slice A a.length E,.int .i64 0,.slice (some ⟨C,0,none⟩) a.length a.length]) KD U<|U)<|e<|n5 U fun V ac aD aa ae=> ?_;have al:ek jv ac V C A a.length E 0 (cW a.length 0):=⟨ae,aa.md.B ag,by have :=J.size; omega⟩
 have Z:Wk w ac:=Md.trans J.md aa.md;have aJ:=J.md.size;refine aj 7 U<|e<|bo (Lo (a.length+1) a A E V C w 0 (cW a.length 0) 0 _ ad ab ab Z al (by simp) ab ab ab ap) U ?_;rintro aM az ⟨rfl,am,bj⟩;have I:Wk w az:=Md.trans' Z am fun k aG h=>by omega
 refine aj 2 U<|gb (t:=21) U (fun M=> ?_) fun M=> ?_;have hn:vs a (a.length+1) (0,cW a.length 0) 0=none:=by simpa using M
 exact ax 18 U<|aQ U<|⟨iv (kj<|CB hn).symm,I⟩
 obtain ⟨aL,O⟩:∃ s,vs a (a.length+1) (0,cW a.length 0) 0=some s:=mw.1<|by simpa using M
 have ai:=bj _ O;refine aj 3 U<|bK U (aw U<|ai.ak.ay 1)<|aI 6 U<|cd U (fun ao=> ?_) fun ao=> ?_;exact aH 7 U<|aQ U<|⟨iv (kj<|by rw [tf ab ab O]; exact decide_eq_false ab).symm,I⟩
 exact aH 8 U<|aQ U<|⟨iv (tc<|by rw [tf ab ab O]; exact decide_eq_true ab).symm,I⟩
set_option maxHeartbeats 1000000 in
theorem Lp (f:Nat) (a:List aK) (V:Option bP) (ae A ms:Nat) (w0:ah) (nx:Nat) (mk:List Nat) (n:Int) (w:ah) (a6:gY w0.heap V a) (ch:w0.heap.size≤A) (hm:w0.heap.size≤ms) (aU:Wk w0 w) (I:ek jw w A ms V a.length ae nx mk) (ce:mk.length=a.length) (cg:nx≤a.length) (cc:a.length < f+nx) (hb:a.length≤1048576) (bN:∀ i,i < a.length→(aO a i).2.length≤1073741824) (bd:∀ i,nx≤i→mk.getD i 0=0):
 bq ar 93 (bC [aY A,.int .i64 n]) w (fun v w'=>v= .bool (vs a f (nx,mk) n).isSome∧Md (fun q=>q=A∨q=ms) w w'∧∀ s,vs a f (nx,mk) n=some s→ek jw w' A ms V a.length ae s.1 s.2):=by
 induction f generalizing nx mk n w with
 | zero=>omega
 | succ f ih=>
   have aW:∀ k,k < w0.heap.size→(k=A∨k=ms)→False:=fun k h1 b7=>ab;have ci:=I.ak.lt;have cf:=I.fI.lt;have ap:=I.ne;obtain ⟨b6,bG⟩:=I.ak;refine enter func93 U ntmps93 U<|aT 11 U<|gs (t:=10) U (fun bQ=> ?_) fun bQ=> ?_;refine aj 8 U<|p mv<|ax 17 U<|aQ U ?_;rw [qO ab ab];exact ⟨U,Md.refl _ _,fun s E=>by cases E⟩;refine aj 4 U<|bK U (aw U<|I.ak.ay 0)<|aj 4 U<|gs (t:=19) U (fun bR=> ?_) fun bR=> ?_;refine ax 17 U<|aQ U ?_;have b0:vs a (f+1) (nx,mk) n=none:=by
    by_cases h:n=nx;exact Dk h ab;exact qO h ab
   rw [b0];exact ⟨U,Md.refl _ _,fun s E=>by cases E⟩;refine aj 4 U<|bK U (aw U<|I.ak.ay 1)<|aI 4 U<|cd U (fun bH=> ?_) fun bH=> ?_;refine aH 7 U<|aQ U ?_;rw [qO ab ab];exact ⟨U,Md.refl _ _,fun s E=>by cases E⟩;refine aF 9 U<|p (aw U<|I.ak.ay 1)<|aI 3 U<|cd U (fun bI=> ?_) fun bI=> ?_;exact aF 5 U<|p (aw U<|I.ak.ay 2)<|aj 1 U<|p (ia rZ U U ab)<|p (aw U (show _=some (bp<|decide (mk.getD n.toNat 0=2)) from yV I.fI (i:=n.toNat) ab))<|ax 5 U<|aQ U<|⟨congrArg bp ((Df ab ab ab).trans<|by rw [decide_eq_decide]; omega).symm,Md.refl _ _,fun s E=>by rw [Dg ab E]; exact I⟩
   obtain rfl :n=(nx:Int):=ab;refine aF 8 U<|p (aw U<|I.ak.ay 1)<|p (bD<|nx+1)<|aj 2 U<|e<|dg cG U U U bG (by simp) fun aR bb bt=> ?_;have aX:ek jw aR A ms V a.length ae (nx+1) (mk.set nx 1):=⟨⟨_,bt⟩,by rw [II (bd nx<|aP _)]; exact bb.B I.fI (fun e=>ap e.symm),ap⟩
   have aZ:Md (fun q=>q=A∨q=ms) w aR:=bb.mono fun k _ h=> .inl h;have a7:Wk w0 aR:=Md.trans' aU aZ aW;obtain ⟨aD,aE,bn,O⟩:=a6.two (i:=nx) ab;refine aj 7 U<|p (aw U<|aX.ak.ay 0)<|aj 1 U<|p (bf pX U U ab<|a6.ok ab)<|p (eK yH U (U)<|ma a7 bn)<|e<|dB Dw fun ad cj b9 bA bu=>e<|ez zl U U U U bu (by simp) fun aA bx bv=> ?_;have aS:aB aA.heap ad [bp (aO a nx).1,.slice aD (aO a nx).2.length aE]:=⟨_,bv⟩
   have aG:Wk aR aA:=Md.trans' bA.md bx fun k bV h=>by omega
   have a8:ek jw aA A ms V a.length ae (nx+1) (mk.set nx 1):=⟨aG.B aX.ak,aG.B aX.fI,ap⟩
   have b8:=aZ.size;have bc:Md (fun q=>q=A∨q=ms) w aA:=Md.trans' aZ aG fun k _ h=>h.elim;refine aI 2 U ?_;refine fu (fun bl bi=>(gv a (aO a nx)=true)∧(bi=aA)∧(Sl bl [(0,aY A),(1,.int .i64 (nx:Int)),(5,aY ad)])) ?_ ?_;refine aT 3 U<|p (aw U<|aS.ay 1)<|aj 3 U<|gs (t:=59) U (fun bT=> ?_) fun bT=> ?_;refine aj 1 U<|bK U (aw U<|aS.ay 0)<|aj 3 U<|gb (t:=64) U (fun aL=> ?_) fun aL=> ?_;refine aj 3 U<|bK U (aw U<|a8.ak.ay 0)<|aI 5 U<|cd U (fun bJ=> ?_) fun bJ=> ?_;refine aH 6 U<|tr<|aQ U ?_;rw [Lr ab (by rw [vP ab (by simpa using aL)]; exact decide_eq_false ab)];exact ⟨U,bc,fun s E=>by cases E⟩;exact aH 1 U<|tn<|⟨(by rw [vP ab (by simpa using aL)]; exact decide_eq_true ab),U,U⟩
   exact ax 11 U<|tn<|⟨(Bb<|by simpa using aL),U,U⟩
   exact aj 4 U<|p mv<|ax 11 U<|tn<|⟨(Bc ab),U,U⟩
   rintro bl bi ⟨bW,b2,bY⟩;refine bO bY ?_;subst b2;refine cn 7 U<|lp (fun a5 bm al=> ∃ (k L:Nat) (J:List Nat),(k≤(aO a nx).2.length)∧(fL a f (nx+1) (mk.set nx 1) ((aO a nx).2.take k)=some (L,J))∧(dU<|(aO a nx).2.take k)∧(Wk w0 al)∧(Md (fun q=>q=A∨q=ms) w al)∧(ek jw al A ms V a.length ae L J)∧(aB (al).heap ad [bp (aO a nx).1,.slice aD (aO a nx).2.length aE])∧(Sl bm [(0,aY A),(1,.int .i64 (nx:Int)),(5,aY ad),(6,.int .i64 k)])∧((aO a nx).2.length - k=a5)) _ ⟨0,nx+1,mk.set nx 1,ab,U,List.Pairwise.nil,(Md.trans a7 aG),bc,a8,aS,U,U⟩ ?_;rintro a5 bm al ⟨k,L,J,bV,M,aM,am,aJ,an,ag,bZ,rfl⟩;refine bO bZ<|aT 5 U<|p (aw U<|ag.ay 1)<|aI 4 U<|cd U (fun bL=> ?_) fun bL=> ?_;refine cn 6 U ?_;have ca:=bN nx ab;obtain ⟨⟨c,z⟩,hek⟩:∃ e,(aO a nx).2[k]? =some e:=⟨_,bF ab⟩
   obtain ⟨⟨aC,b4⟩,hep⟩:∃ e,(aO a nx).2[k - 1]? =some e:=⟨_,bF ab⟩
   have a0:=tB M ab;simp only [gn] at a0;have bg:=Ly M fun i hi=>by rw [getD_set_ne _ _ ab]; exact bd i ab
   have C:(fun w'=>Wk w0 w'∧aB w'.heap ad [bp (aO a nx).1,.slice aD (aO a nx).2.length aE]) al.drew:=⟨am.drew,ag⟩
   refine bj (fun w'=>Wk w0 w'∧aB w'.heap ad [bp (aO a nx).1,.slice aD (aO a nx).2.length aE]) U wide C<|aN [0,1,2] U C<|kI (t:=81) U (fun bU=> ?_) fun bU=> ?_;refine aN [3] U C<|ic 4 U (fun w' aa=>aw U<|aa.2.ay 1) C<|aN [5] U C<|ic 6 U (fun _ _=>bf om U U ab<|O.ok ab) C<|aN [7] U C<|ic 8 U (fun w' aa=>aw U (show _=some (ba .u8 (c.toNat:Int)) from (O.wk aa.1).b k (c,z) hek)) C<|aN [9] U C<|ic 10 U (fun w' aa=>aw U<|aa.2.ay 1) C<|aN [11] U C<|ic 12 U (fun _ _=>oT<|k - 1) C<|ic 13 U (fun _ _=>bf om U U ab<|O.ok ab) C<|aN [14] U C<|ic 15 U (fun w' aa=>aw U (show _=some (ba .u8 (aC.toNat:Int)) from (O.wk aa.1).b (k - 1) (aC,b4) hep)) C<|aN [16,17] U C<|hn ai<|dw 1 U<|cd U (fun bM=> ?_) fun bM=> ?_;refine aH 9 U<|tr<|bh 2 U<|aQ U ?_;rw [Dj ab (BB ab hek hep<|by show c.toNat≤aC.toNat; omega)];exact ⟨U,aJ.drew,fun s E=>by cases E⟩;refine aF 6 U<|p (aw U<|ag.ay 1)<|aj 1 U<|p (bf om U U ab<|O.ok ab)<|aj 1 U<|p (aw U (show _=some (ba .i64 z) from (O.wk am).to k (c,z) hek))<|e<|bo (ih L J z _ (Md.drew am) (ek.drew an) ab ab ab bg) U ?_;rintro b3 az ⟨rfl,ao,a3⟩;have Z:Md (fun q=>q=A∨q=ms) w az:=Md.trans aJ<|Md.dc ao;have aV:Wk w0 az:=Md.trans' aU Z aW;refine aI 9 U<|cb U (fun ac=> ?_) fun ac=> ?_;have a1:vs a f (L,J) z=none:=by simpa using ac
   refine aH 8 U<|tr<|bh 2 U<|aQ U ?_;rw [tA (k:=k+1) ab (by rw [mc M hek]; exact a1)];exact ⟨U,Z,fun s E=>by cases E⟩;obtain ⟨av,au⟩:∃ s,vs a f (L,J) z=some s:=mw.1<|by simpa using ac
   exact aH 8 U<|tn<|⟨_,ab,k+1,av.1,av.2,ab,(by rw [mc M hek]; exact au),(sO aM hek fun q h0 a2=>by rw [hep] at a2; cases a2; show aC.toNat < c.toNat; omega),aV,Z,(a3 _ au),(ao.B ag fun e=>by omega),U,U⟩
   refine aN [3,4,5,6,7,8,9,10,11,12,13,14,15,16,17] U C<|hn ai<|fD 8 U<|p (aw U<|ag.ay 1)<|aj 1 U<|p (bf om U U ab<|O.ok ab)<|aj 1 U<|p (aw U (show _=some (ba .i64 z) from (O.wk am).to k (c,z) hek))<|e<|bo (ih L J z _ (Md.drew am) (ek.drew an) ab ab ab bg) U ?_;rintro b3 az ⟨rfl,ao,a3⟩;have Z:Md (fun q=>q=A∨q=ms) w az:=Md.trans aJ<|Md.dc ao;have aV:Wk w0 az:=Md.trans' aU Z aW;refine aI 9 U<|cb U (fun ac=> ?_) fun ac=> ?_;have a1:vs a f (L,J) z=none:=by simpa using ac
   refine aH 8 U<|tr<|bh 2 U<|aQ U ?_;rw [tA (k:=k+1) ab (by rw [mc M hek]; exact a1)];exact ⟨U,Z,fun s E=>by cases E⟩;obtain ⟨av,au⟩:∃ s,vs a f (L,J) z=some s:=mw.1<|by simpa using ac
   exact aH 8 U<|tn<|⟨_,ab,k+1,av.1,av.2,ab,(by rw [mc M hek]; exact au),(sO aM hek fun q h0 a2=>by omega),aV,Z,(a3 _ au),(ao.B ag fun e=>by omega),U,U⟩
   refine aH 2 U<|cw<|dw 3 U ?_;obtain ⟨b5,bE⟩:=an.fI;rw [show k=(aO a nx).2.length by omega,yv] at M aM;have a0:=tB M ab;simp only [gn] at a0;have b1:=Dh ab aM M;refine aF 4 U<|p (aw U<|an.ak.ay 2)<|aj 1 U<|p (ia rZ U U ab)<|e<|dg uO U U U bE (by simp; omega) fun a4 a9 br=> ?_;have bX:aB a4.heap ms ((J.set nx 2).map jw):=by rw [← vX]; exact ⟨_,br⟩
   have bw:ek jw a4 A ms V a.length ae L (J.set nx 2):=⟨a9.B an.ak ap,bX,ap⟩
   have bz:Md (fun q=>q=A∨q=ms) w a4:=Md.trans aJ<|a9.mono fun k _ h=> .inr h;refine ax 8 U<|aQ U ?_;rw [b1,if_pos bW];exact ⟨U,bz,fun s E=>by cases E; exact bw⟩
set_option maxHeartbeats 1000000 in
theorem Kj (a:List aK) (A:Option bP) (E:Nat) (w:ah) (ad:gY w.heap A a) (aC:a.length≤140737488355328) (ap:∀ i,i < a.length→(aO a i).2.length≤1073741824):
 bq ar 63 (bC [.slice A a.length E]) w (fun v w'=>v= .int .i64 (qG a)∧Wk w w'):=by
 refine enter func63 U ntmps63 U<|aT 12 U<|gs (t:=8) U (fun au=> ?_) fun au=> ?_;exact ax 14 U<|aQ U<|⟨iv (kj<|td ab).symm,Md.refl _ _⟩
 refine aI 6 U<|cd U (fun an=> ?_) fun an=> ?_;exact aH 7 U<|aQ U<|⟨iv (kj<|td ab).symm,Md.refl _ _⟩
 refine aF 7 U<|e<|fI (zv:= .bool false) CK U U U U ab (by unfold maxLen; omega) fun C aA aE J av=> ?_;have ag:aB aA.heap C ((cW a.length 0).map jw):=by rw [yr]; exact BP<|av _<|aP _
 refine p (eV (ps:= [(0,.slice A a.length E),(2,.slice (some ⟨C,0,none⟩) a.length a.length)]) (L:= [.slice A a.length E,.int .i64 0,.slice (some ⟨C,0,none⟩) a.length a.length]) KE U<|U)<|e<|n5 U fun V ac aD aa ae=> ?_;have al:ek jw ac V C A a.length E 0 (cW a.length 0):=⟨ae,aa.md.B ag,by have :=J.size; omega⟩
 have Z:Wk w ac:=Md.trans J.md aa.md;have aJ:=J.md.size;refine aj 6 U<|e<|bo (Lp (a.length+1) a A E V C w 0 (cW a.length 0) 0 _ ad ab ab Z al (by simp) ab ab ab ap<|Mp _) U ?_;rintro v20 az ⟨rfl,am,bj⟩;have I:Wk w az:=Md.trans' Z am fun k aG h=>by omega
 refine aj 9 U<|gb (t:=23) U (fun M=> ?_) fun M=> ?_;have hn:vs a (a.length+1) (0,cW a.length 0) 0=none:=by simpa using M
 exact ax 18 U<|aQ U<|⟨iv (kj<|CB hn).symm,I⟩
 obtain ⟨aL,O⟩:∃ s,vs a (a.length+1) (0,cW a.length 0) 0=some s:=mw.1<|by simpa using M
 have ai:=bj _ O;refine aj 3 U<|bK U (aw U<|ai.ak.ay 1)<|aI 6 U<|cd U (fun ao=> ?_) fun ao=> ?_;exact aH 7 U<|aQ U<|⟨iv (kj<|by rw [tf ab ab O]; exact decide_eq_false ab).symm,I⟩
 exact aH 8 U<|aQ U<|⟨iv (tc<|by rw [tf ab ab O]; exact decide_eq_true ab).symm,I⟩
end Go.Hb
end
section
namespace Go.Hb.fT
open Go.Hb.dN
theorem K7 {s:List UInt8} {i:Nat} (h:i < s.length):(s.drop i).take 1= [s.getD i 0]:=by
 rw [drop_cons 0 h]; rfl
def fq (l:List (Bool×ag)):List ag:=l.flatMap fun q=> [.bool q.1,q.2]
def eZ (l:List (UInt8×Int)):List ag:=l.flatMap fun e=> [.int .u8 e.1.toNat,.int .i64 e.2]
theorem Tg.kN {F:Nat→Prop} {w w':ah} {B e n:Nat} {v:ag} {xs:List ag} (h:Tg w B e n v xs) (hm:Md F w w') (I:∀ k,F k→B≤k→∀ cur z,w.heap[k]?≠some (.cells cur e z)):Tg w' B e n v xs:=by
 obtain ⟨a,C,rfl,E,h | ⟨b,cur,z,rfl,hb,A,L⟩⟩:=h
 · exact ⟨a,C,U,E,.inl h⟩
 · exact ⟨_,C,U,E,.inr ⟨b,cur,z,U,hb,by rw [hm.dE b (dh.1 A).1 (fun J=>I b J hb cur z A)]; exact A,L⟩⟩
theorem BA {w:ah} {k:Nat} (h:w.heap.size≤k) (cur:Array ag) (e:Nat) (z:Nat×Nat):w.heap[k]?≠some (.cells cur e z):=by
 rw [Array.getElem?_eq_none h]; intro h; cases h
def eE (w:ah) (B:Nat) (A:List (Bool×ag)) (l:List aK):Prop :=A.length=l.length∧∀ (i:Nat) q e,A[i]? =some q→l[i]? =some e→q.1=e.1∧Tg w B 84 e.2.length q.2 (eZ e.2)
theorem eE.nil (w:ah) (B:Nat):eE w B [] []:=⟨rfl,fun i q r A=>by simp at A⟩
theorem eE.md {F:Nat→Prop} {w w':ah} {B:Nat} {C:List (Bool×ag)} {l:List aK} (h:eE w B C l) (hm:Md F w w') (E:∀ k,F k→B≤k→∀ cur z,w.heap[k]?≠some (.cells cur 84 z)):eE w' B C l:=
 ⟨h.1,fun i q r h1 A=>⟨(h.2 i q r h1 A).1,Tg.kN (h.2 i q r h1 A).2 hm E⟩⟩
theorem eE.wk {w w':ah} {B:Nat} {A:List (Bool×ag)} {l:List aK} (h:eE w B A l) (hm:Wk w w'):eE w' B A l:=h.md hm fun _ C=>C.elim
theorem eE.snoc {w:ah} {B:Nat} {C:List (Bool×ag)} {l:List aK} {v:ag} {e:aK} (ha:eE w B C l) (I:Tg w B 84 e.2.length v (eZ e.2)):eE w B (C++ [(e.1,v)]) (l++ [e]):=by
 refine ⟨by rw [cC,cC,ha.1]; rfl,fun i q' r' h1 A=> ?_⟩;have E:=ha.1;by_cases hi:i < C.length
 · rw [fO hi] at h1;rw [fO ab] at A;exact ha.2 i q' r' h1 A
 · rw [gl ab] at h1;rw [gl ab,← E] at A;cases hj:i - C.length with
   | zero=>rw [hj] at h1 A; cases h1; cases A; exact ⟨rfl,I⟩
   | succ j=>rw [hj] at h1; simp at h1
def eT (w:ah) (B:Nat) (v:ag) (l:List aK):Prop := ∃ A,Tg w B 81 l.length v (fq A)∧eE w B A l
theorem eT.md {F:Nat→Prop} {w w':ah} {B:Nat} {v:ag} {l:List aK} (h:eT w B v l) (hm:Md F w w') (C:∀ k,F k→B≤k→∀ cur z,w.heap[k]?≠some (.cells cur 81 z)∧w.heap[k]?≠some (.cells cur 84 z)):eT w' B v l:=by
 obtain ⟨I,h1,E⟩:=h;exact ⟨I,Tg.kN h1 hm fun k A hb cur z=>(C k A hb cur z).1,E.md hm fun k A hb cur z=>(C k A hb cur z).2⟩
theorem eT.wk {w w':ah} {B:Nat} {v:ag} {l:List aK} (h:eT w B v l) (hm:Wk w w'):eT w' B v l:=h.md hm fun _ A=>A.elim
theorem eT.mono {w:ah} {B B':Nat} {v:ag} {l:List aK} (h:eT w B v l) (C:B'≤B):eT w B' v l:=by
 obtain ⟨J,h1,I,A⟩:=h;exact ⟨J,h1.mono C,I,fun i q e E he=>⟨(A i q e E he).1,(A i q e E he).2.mono C⟩⟩
theorem eT.ee {w:ah} {B:Nat} {v:ag} {l:List aK} (h:eT w B v l):∃ A cc,v= .slice A l.length cc∧l.length≤cc∧gY w.heap A l:=by
 obtain ⟨V,h1,aj,ad⟩:=h;obtain ⟨A,cc,rfl⟩:=h1.slice;obtain ⟨ae,J⟩:=h1.pO;refine ⟨A,cc,U,ae,fun h0=>a9.ok J (oq (f:=fun q:Bool×ag=> [bp q.1,q.2]) (m:=2) (fun _=>rfl) aD ab),fun i hi=> ?_⟩;have M:V[i]? =some (V[i]'ab):=bF ab;have ai:l[i]? =some (aO l i):=by
  unfold aO;rw [bY,bF hi]; rfl
 obtain ⟨ac,E⟩:=ad i _ _ M ai;obtain ⟨Z,aa,O⟩:=E.slice;have I:=E;rw [O] at I;obtain ⟨_,C⟩:=I.pO;have L:=lO (f:=fun q:Bool×ag=> [bp q.1,q.2]) (m:=2) (fun _=>rfl) J M;refine ⟨Z,aa,by rw [L 0 ab,ac]; rfl,by rw [L 1 ab,O]; rfl,fun h0=>a9.ok C (oq (f:=fun e:UInt8×Int=> [ba .u8 e.1.toNat,.int .i64 e.2]) (m:=2) (fun _=>rfl) aD h0),fun k e he=> ?_,fun k e he=> ?_⟩
 · exact lO (f:=fun e:UInt8×Int=> [ba .u8 e.1.toNat,.int .i64 e.2]) (m:=2) (fun _=>rfl) C he 0 ab
 · exact lO (f:=fun e:UInt8×Int=> [ba .u8 e.1.toNat,.int .i64 e.2]) (m:=2) (fun _=>rfl) C he 1 ab
theorem CA (A:List (Bool×ag)) (q:Bool×ag):fq (A++ [q])=fq A++ [.bool q.1,q.2]:=by simp [fq]
theorem zY (es:List (UInt8×Int)) (e:UInt8×Int):eZ (es++ [e])=eZ es++ [.int .u8 e.1.toNat,.int .i64 e.2]:=by simp [eZ]
theorem Cy (l:List (Bool×ag)):(fq l).length=l.length*2:=sa (f:=fun q:Bool×ag=> [bp q.1,q.2]) (m:=2) (fun _=>rfl) l
theorem zX (l:List (UInt8×Int)):(eZ l).length=l.length*2:=sa (f:=fun e:UInt8×Int=> [ba .u8 e.1.toNat,.int .i64 e.2]) (m:=2) (fun _=>rfl) l
section
variable {s:List UInt8} {n a e t p v k:Nat} {es:List (UInt8×Int)} {l:List aK}
theorem zZ (h:s.length≤a):dW s n a= .error 60:=by unfold dW; rw [if_pos h]
theorem z0 (h:¬s.length≤a) (h1:a0 s (a+1)= .error e):dW s n a= .error e:=by unfold dW; rw [if_neg h,h1]
theorem z4 (h:¬s.length≤a) (h1:a0 s (a+1)= .ok (t,p)) (A:n≤t):dW s n a= .error 190:=by unfold dW; rw [if_neg h,h1]; exact if_pos A
theorem z5 (h:¬s.length≤a) (h1:a0 s (a+1)= .ok (t,p)) (A:¬n≤t):dW s n a= .ok ((s.getD a 0,(t:Int)),p):=by unfold dW; rw [if_neg h,h1]; exact if_neg A
theorem CO (h:a0 s a= .error e):fv s n a= .error e:=by unfold fv; rw [h]
theorem CP (h:a0 s a= .ok (v,p)) (A:256 < v / 2):fv s n a= .error 190:=by unfold fv; rw [h]; exact if_pos A
theorem CQ (h:a0 s a= .ok (v,p)) (A:¬256 < v / 2) (C:cj (dW s n) (v / 2) p= .error e):fv s n a= .error e:=by unfold fv; rw [h]; simp only; rw [if_neg A,C]
theorem CR (h:a0 s a= .ok (v,p)) (A:¬256 < v / 2) (C:cj (dW s n) (v / 2) p= .ok (es,t)):fv s n a= .ok ((decide (v % 2=1),es),t):=by unfold fv; rw [h]; simp only; rw [if_neg A,C]
theorem Cj (h:a0 s a= .error e):cH s a= .error e:=by unfold cH; rw [h]
theorem sY (h:a0 s a= .ok (n,p)) (A:n=0∨1048576 < n):cH s a= .error 190:=by unfold cH; rw [h]; exact if_pos A
theorem oU (h:a0 s a= .ok (n,p)) (A:¬(n=0∨1048576 < n)) (C:cj (fv s n) n p= .error e):cH s a= .error e:=by unfold cH; rw [h]; simp only; rw [if_neg A,C]
theorem Cm (h:a0 s a= .ok (n,p)) (A:¬(n=0∨1048576 < n)) (C:cj (fv s n) n p= .ok (l,t)) (E:shaped l=false):cH s a= .error 190:=by unfold cH; rw [h]; simp only; rw [if_neg A,C]; simp only; rw [E]; rfl
theorem Cn (h:a0 s a= .ok (n,p)) (A:¬(n=0∨1048576 < n)) (C:cj (fv s n) n p= .ok (l,t)) (E:shaped l=true):cH s a= .ok (l,t):=by unfold cH; rw [h]; simp only; rw [if_neg A,C]; simp only; rw [E]; rfl
end
theorem J8 (rb:Nat) (s:List UInt8) (a:Nat) (w:ah) (a7:aB w.heap rb [str s,.int .i64 (a:Nat)]) (aP:s.length≤1048576) (ha:a≤s.length):
 mA ar 58 (bC [.pointer (some ⟨rb,0,none⟩)]) w (fun v w'=> ∃ l p,cH s a= .ok (l,p)∧eT w' w.heap.size v l∧aB w'.heap rb [str s,.int .i64 (p:Nat)]∧Md (fun k=>k=rb) w w') (fun c w'=> ∃ e,cH s a= .error e∧c=kG e∧Md (fun k=>k=rb) w w'):=by
 have dc:=a7.lt;refine pW func58 U ntmps58 U<|aT 7 U<|p mv<|eP U (ef lJ (oC rb s (a) w a7 aP<|ha) U fun v10 bu bZ=> ?_) fun c w' A σ' M=>by obtain ⟨e,he,au,am⟩:=A; exact ⟨e,Cj he,au,am⟩
 obtain ⟨n,a3,V,rfl,bD,aV⟩:=bZ;obtain ⟨cY,c2,c5⟩:=jj V;refine aI 3 U ?_;refine fu (fun bv a4=> ∃ (cD:Unit),(¬(n=0∨1048576 < n))∧(aB a4.heap rb [str s,.int .i64 (a3:Nat)])∧(Md (fun k=>k=rb) w a4)∧(Sl bv [(0,.pointer (some ⟨rb,0,none⟩)),(3,.int .u64 (n:Nat))])) ?_ ?_;refine aT 1 U<|p mv<|aj 3 U<|gs (t:=14) U (fun cb=> ?_) fun cb=> ?_;refine aj 3 U<|eP U (ef eW (jO _ _ _ bu) U fun cE cG aZ=> ?_) fun c w' A σ' M=>⟨190,sY V (by have :=of_decide_eq_false A.2.1; omega),A.1,by rw [A.2.2]; exact aV⟩
 obtain ⟨rfl,br,rfl⟩:=aZ;have br:=of_decide_eq_true br;exact ax 1 U<|tn<|⟨(),ab,bD,aV,U⟩
 refine aj 3 U<|eP U (ef eW (jO _ _ _ bu) U fun cE cG aZ=> ?_) fun c w' A σ' M=>⟨190,sY V ab,A.1,by rw [A.2.2]; exact aV⟩
 exact absurd aZ.2.1 aD;rintro bv a4 ⟨cD,av,bT,bY,ck⟩;refine bO ck<|cn 13 U<|lp (fun ak bw J=> ∃ (k:Nat) (l:List aK) (ae:List (Bool×ag)) (aa:ag) (q:Nat),(k≤n)∧(cj (fv s n) k a3= .ok (l,q))∧(q≤s.length)∧(bd J w.heap.size 81 2 aa ae.length<|fq ae)∧(eE J w.heap.size ae l)∧(aB J.heap rb [str s,.int .i64 (q:Nat)])∧(Md (fun k=>k=rb) w J)∧(Sl bw [(0,.pointer (some ⟨rb,0,none⟩)),(3,.int .u64 (n:Nat)),(4,aa),(19,.int .u64 (n:Nat)),(20,.int .u64 (k:Nat))])∧(n - k=ak)) _ ⟨0,[],[],.slice none 0 0,a3,ab,U,ab,(gE _ _ _ _),(eE.nil _ _),bT,bY,U,U⟩ ?_;rintro ak bw J ⟨k,l,ae,aa,q,C,I,da,aO,bj,a8,ad,co,rfl⟩;refine bO co<|cm 6 U<|cd U (fun b8=> ?_) fun b8=> ?_;refine aF 7 U<|eP U (ef lJ (oC rb s (q) J a8 aP ab) U fun dq cI b0=> ?_) fun c w' A σ' M=>by obtain ⟨e,he,au,am⟩:=A; exact ⟨e,oU V av (ig I (CO he) ab),au,ad.trans am⟩
 obtain ⟨v0,p1,aM,rfl,bF,aE⟩:=b0;obtain ⟨cZ,c3,c6⟩:=jj aM;refine aj 7 U<|p (qu U U ab<|gB ab)<|aj 1 U<|eP U (ef eW (jO _ _ _ cI) U fun dr cK b1=> ?_) fun c w' A σ' M=>⟨190,oU V av (ig I (CP aM<|by have :=of_decide_eq_false A.2.1; omega) ab),A.1,by rw [A.2.2]; exact ad.trans aE⟩
 obtain ⟨rfl,cw,rfl⟩:=b1;have bn:¬256 < v0 / 2:=by have :=of_decide_eq_true cw; omega
 have bX:=ad.trans aE;refine aj 5 U<|p (rm U U ab)<|aj 1 U<|p (eV (ps:= [(0,.bool (decide ((v0:Int) % 2=1)))]) (L:= [.bool (decide ((v0:Int) % 2=1)),.slice none 0 0]) KJ U<|U)<|e<|dB Dz fun ac dE cU bl bM=> ?_;have dl:=bl.size;refine e<|ez zt U U U U bM (by simp) fun ai bi bP=> ?_;have bQ:aB ai.heap ac [.bool (decide ((v0:Int) % 2=1)),.slice none 0 0]:=⟨_,bP⟩
 have aA:Wk cK ai:=bl.md.trans' bi fun k C h=>by omega
 have bR:=Wk.B aA bF;have dp:=ad.size;have dh:=aE.size;have dm:=aA.size;have dn:=bi.size;have bW:Md (fun k=>k=rb) w ai:=bX.trans<|aA.mono fun _ _ h=>h.elim;refine aj 6 U<|p (qu U U ab<|gB ab)<|aI 4 U<|lp (fun ak bx Z=> ∃ (j:Nat) (es:List (UInt8×Int)) (aU:ag) (E:Nat),(j≤v0 / 2)∧(cj (dW s n) j p1= .ok (es,E))∧(E≤s.length)∧(bd Z ai.heap.size 84 2 aU es.length<|eZ es)∧(aB Z.heap rb [str s,.int .i64 (E:Nat)])∧(aB Z.heap ac [.bool (decide ((v0:Int) % 2=1)),aU])∧(Md (fun k=>k=rb∨k=ac) ai Z)∧(Sl bx [(0,.pointer (some ⟨rb,0,none⟩)),(3,.int .u64 (n:Nat)),(4,aa),(5,.int .u64 (v0:Nat)),(6,.pointer (some ⟨ac,0,none⟩)),(19,.int .u64 (n:Nat)),(20,.int .u64 (k:Nat)),(34,.int .u64 ((v0 / 2:Nat):Int)),(35,.int .u64 (j:Nat))])∧(v0 / 2 - j=ak)) _ ⟨0,[],.slice none 0 0,p1,ab,U,ab,(gE _ _ _ _),bR,bQ,(Md.refl _ _),U,U⟩ ?_;rintro ak bx Z ⟨j,es,aU,E,c1,aN,db,ay,ba,bb,al,cp,rfl⟩;refine bO cp ?_;have cW:=iF aN;have a1:∀ e,dW s n E= .error e→j < v0 / 2→cH s a= .error e:=fun e he cf=>oU V av<|ig I (CQ aM bn<|ig aN he cf) ab;have aC:Md (fun k=>k=rb) w Z:=bW.trans' al fun k C h=>by rcases h with h | h; exact h; omega
 refine cm 6 U<|cd U (fun b9=> ?_) fun b9=> ?_;refine aF 7 U<|eP U (ef yZ (C3 rb s E 1 Z ba aP ab ab) U fun ds cL b2=> ?_) fun c w' A σ' M=>⟨60,a1 _ (zZ ab) ab,A.2.1,aC.trans A.2.2⟩
 obtain ⟨dg,bp,bH,aY⟩:=b2;rw [K7 ab] at bp;subst bp;refine p (AR 0 u9 U U<|by simp)<|aj 6 U<|eP U (ef lJ (oC rb s (E+1) cL bH aP ab) U fun dt cM b3=> ?_) fun c w' A σ' M=>by obtain ⟨e,he,au,am⟩:=A; exact ⟨e,a1 _ (z0 ab he) ab,au,(aC.trans aY).trans am⟩
 obtain ⟨to,cB,a0,rfl,bI,bh⟩:=b3;obtain ⟨c0,c4,c7⟩:=jj a0;refine aj 9 U<|eP U (ef eW (jO _ _ _ cM) U fun du dz b4=> ?_) fun c w' A σ' M=>⟨190,a1 _ (z4 ab a0<|by have :=of_decide_eq_false A.2.1; omega) ab,A.1,by rw [A.2.2]; exact (aC.trans aY).trans bh⟩
 obtain ⟨rfl,cx,rfl⟩:=b4;have cv:¬n≤to:=by have :=of_decide_eq_true cx; omega
 have aG:=aY.trans bh;have bc:=aG.B bb fun h=>by omega
 have cA:=al.size;have di:=aG.size;refine aj 4 U<|p (aw U<|bc.aJ 1)<|aj 2 U<|p (fC u3 mb U<|gS ab)<|p (eV (ps:= [(0,.int .u8 (s.getD E 0).toNat),(1,.int .i64 (to:Nat))]) (L:= [.int .u8 (s.getD E 0).toNat,.int .i64 (to:Nat)]) KL U<|U)<|e<|n4 tl U U U fun cP dA cS ao bJ=> ?_;have dj:=ao.size;have ci:=aW (bG ay aG fun k C h=>by have :=cr ay C; omega) ao.md;refine e<|ap tl (ci) U ab U (a9.gh bJ) (U) (U) ab ab fun dv dC bm aL cy ca=> ?_;have cy:=aL.size;have aQ:∀ k,aU.ownBlock=some k→ai.heap.size≤k:=fun k h=>(cr ay h).1;have bV:=aL.B (Wk.B ao.md bc) fun h=>by have :=aQ ac h; omega
 have bK:=aL.B (Wk.B ao.md bI) fun h=>by have :=aQ rb h; omega
 obtain ⟨bz,lJ,rfl⟩:=ew bm;refine aj 1 U<|e<|st zr U U (U) (bV) (by simp) fun dG aX bE=> ?_;have bU:=aX.B bK fun h=>by omega
 exact ax 7 U<|tn<|⟨_,ab,j+1,es++ [(s.getD E 0,(to:Int))],.slice bz (es.length+1) lJ,cB,ab,(lQ aN<|z5 ab a0 cv),ab,(by rw [cC,zY]; exact bG bm aX fun k C h=>by rcases ca k C with a6 | a6; exact absurd (aQ k a6) ab; omega),bU,bE,((((al.trans<|aG.mono fun _ _ h=> .inl h).trans<|ao.md.mono fun _ _ h=>h.elim).trans' aL fun k C h=>by have :=aQ k h; omega).trans<|aX.mono fun _ _ h=> .inr h),U,U⟩
 refine aH 2 U<|te _<|dw 2 U ?_;obtain ⟨a5,ce,rfl⟩:=ew ay;obtain rfl :j=v0 / 2:=ab;have c8:=iF I;have dd:=bj.1;have cu:=CR aM bn aN;have cA:=al.size;have bf:Md (fun k=>k=rb∨k=ac) J Z:=((aE.mono fun k _ h=> .inl h).trans<|aA.mono fun _ _ h=>h.elim).trans al;have a2:=bG aO bf fun k C h=>by have :=cr aO C; omega
 have ct:=bj.md bf (fun k C hb=>by
  rcases C with C | C;omega;exact fun cur z=>BA ab cur _ z)
 refine aF 1 U<|p (iG (aa) U)<|p (eK yI U (U) fun j _=>bb.aJ j)<|e<|n4 tj U U U fun cR dD cT O bL=> ?_;have dk:=O.size;refine e<|ap tj (aW a2 O.md) U ab U (a9.gh bL) (U) (U) ab ab fun cF cN ch an cz cX=> ?_;have cz:=an.size;have bq:∀ k,aa.ownBlock=some k→w.heap.size≤k:=fun k h=>(cr aO h).1;have bN:=an.B (Wk.B O.md ba) fun h=>by have :=bq rb h; omega
 have b7:Tg cN w.heap.size 84 es.length (.slice a5 es.length ce) (eZ es):=Tg.kN (((Tg.oF ay).mono ab).wk O.md) an fun k C _=>gx (aW a2 O.md) aD k C;have cs:=(ct.wk O.md).md an fun k C _=>gx (aW a2 O.md) aD k C;exact p aR<|ax 7 U<|tn<|⟨_,ab,k+1,l++ [(decide (v0 % 2=1),es)],ae++ [(decide ((v0:Int) % 2=1),.slice a5 es.length ce)],cF,E,ab,(lQ I cu),ab,(by rw [cC,CA]; exact ch),(by rw [show decide ((v0:Int) % 2=1)=decide (v0 % 2=1) from decide_eq_decide.2 ab] at*; exact eE.snoc (e:=(decide (v0 % 2=1),es)) cs b7),bN,((aC.trans<|O.md.mono fun _ _ h=>h.elim).trans' an fun k C h=>by have :=bq k h; omega),U,U⟩
 refine aH 2 U<|te _<|dw 3 U ?_;obtain rfl :k=n:=ab;have bg:eT J w.heap.size aa l:=⟨ae,by have h:=Tg.oF aO; rw [bj.1] at h; exact h,bj⟩
 obtain ⟨bA,cc,rfl,cV,b6⟩:=bg.ee;have c9:=iF I;have cg:∀ x∈l,x.2.length≤256:=fun x aS=>(mT (R:=fun p=>p≤s.length) (S:=fun x:aK=>x.2.length≤256) (fun p x q' hr aS=>⟨(qJ aS).2.1,(qJ aS).2.2.1⟩) ab I).2 x aS;refine aF 3 U<|e<|bo (Ki l bA cc J b6 ab fun i hi=>cQ (cg _<|j5 (d:=dI) hi) aD) U ?_;rintro dx cO ⟨rfl,az⟩;refine aj 1 U ?_;refine eP U (ef eW (jO _ _ _ cO) U fun dy dF b5=> ?_) (fun c w' A σ' M=>⟨190,Cm V av I (by
  cases h:shaped l;rfl;exact absurd (show qG l=0 from tc h) (of_decide_eq_false A.2.1)),A.1,by rw [A.2.2]; exact ad.trans (az.mono fun _ _ h=>h.elim)⟩)
 obtain ⟨rfl,bt,rfl⟩:=b5;have cq:shaped l=true :=by
  cases h:shaped l;rw [kj h] at bt; exact absurd (of_decide_eq_true bt) aD;rfl
 exact ax 9 U<|qa<|f1 U U<|⟨l,q,Cn V av I cq,bg.wk az,Wk.B az a8,ad.trans<|az.mono fun _ _ h=>h.elim⟩
end Go.Hb.fT
end
section
namespace Go.Hb
open Go.Hb.dN
open Go.Hb.fT
theorem HJ (s A:List UInt8) (w:ah) (E:s.length≤1073741824) (hp:A.length≤1073741824):
 bq ar 88 (bC [str s,str A]) w (fun v w'=>v= .bool (decide (s.take A.length=A))∧Wk w w'):=by
 refine enter func88 U ntmps88 U<|aT 13 U<|gs (t:=10) U (fun C=> ?_) fun C=> ?_;exact aj 3 U<|bK U (xy u9 U U ab)<|ax 7 U<|aQ U<|⟨U,Md.refl _ _⟩
 exact aj 7 U<|p aR<|ax 3 U<|aQ U<|⟨by show bp false =_; rw [decide_eq_false (fun h=>by have :=congrArg lz h; rw [dv] at this; omega)],Md.refl _ _⟩
theorem HI (s A:List UInt8) (w:ah) (E:s.length≤1073741824) (hp:A.length≤1073741824):
 bq ar 52 (bC [str s,str A]) w (fun v w'=>v= .bool (decide (s.take A.length=A))∧Wk w w'):=by
 refine enter func52 U ntmps52 U<|aT 9 U<|e<|bo (HJ s A _ E hp) U ?_;rintro I J ⟨rfl,C⟩;exact ax 4 U<|aQ U<|⟨U,C⟩
theorem GK (p2 p3:Nat) (w:ah):
 CallsD ar 53 (bC [.pointer (some ⟨p2,0,none⟩),.pointer (some ⟨p3,0,none⟩)]) .returning w (fun A I w'=> ∃ v,A= .returned v∧I= .returning∧(fun w'=>Wk w w') w'):=by
 refine y8 (v:= .nilIface) func53 U ntmps53 U (fun L cs E=> .inr ⟨by simp [recoverD,E],U,U⟩) ?_;exact p (CZ sA Mz U)<|p mv<|p (xt U U)<|p (xt U U)<|p aR<|p aR<|nl<|tn<|sq fun J C=>rg U<|p mv<|nl<|tn<|C _ _<|cf (U)<|CD<|f0 U<|Md.refl _ _
theorem GJ (p2 p3:Nat) (A:Int) (w:ah) (C:∃ L:List ag,L.length=7∧w.heap[p2]? =some (.cells L.toArray 44 (0,0))) (E:∃ v:ag,w.heap[p3]? =some (.cells [v].toArray 88 (0,0))) (O:p2≠p3):
 CallsD ar 53 (bC [.pointer (some ⟨p2,0,none⟩),.pointer (some ⟨p3,0,none⟩)]) (.panicking<|kG A) w (fun V ae w'=> ∃ v,V= .returned v∧ae=(.panicking [{v:= .iface 88 (.int .i64 A),recovered:=true}])∧(fun w'=>w'.heap[p2]? =some (.cells [ba .i64 0,str [],.slice none 0 0,.slice none 0 0,.slice none 0 0,.slice none 0 0,.slice none 0 0].toArray 44 (0,0))∧w'.heap[p3]? =some (.cells [.int .i64 A].toArray 88 (0,0))∧Md (fun k=>k=p2∨k=p3) w w') w'):=by
 obtain ⟨al,ac,C⟩:=C;obtain ⟨ap,E⟩:=E;have an:=(dh.1 C).1;have ao:=(dh.1 E).1;refine y8 (v:= .iface 88<|.int .i64 A) func53 U ntmps53 U (fun am cs ad=> .inl<|by simp [recoverD,ad,kG]) ?_;refine p (CY sA U)<|p mv<|p (xt U U)<|p (xt U U)<|p aR<|p aR<|nl<|tn<|sq fun aj aa=>rg U<|p mv<|nl<|tn<|aa _ _<|ct (U)<|rg U<|p (eV (ps:= []) (L:= [.int .i64 0,.string ⟨⟨[]⟩⟩,.slice none 0 0,.slice none 0 0,.slice none 0 0,.slice none 0 0,.slice none 0 0]) CM U<|U)<|p mv<|e<|ez mG U U U U C (by rw [ac]; decide) fun ai J I=>e<|dg uP U U (v:= .int .i64 A) U (J.ak E fun h=>O h.symm) (by show 0 < 1; decide) fun au M Z=>nl<|f0 U ?_;have I:ai.heap[p2]? =some (.cells [ba .i64 0,str [],.slice none 0 0,.slice none 0 0,.slice none 0 0,.slice none 0 0,.slice none 0 0].toArray 44 (0,0)):=I.trans<|by rw [Eo ab]; rfl
 exact ⟨M.ak I O,Z,(J.mono fun _ _ h=> .inl h).trans' M fun _ _ h=> .inr h⟩
theorem zw (p2 p3:Nat) (w:ah):(invoke (.fn (.func 53) #[aY p2,aY p3]) #[]).run ar w= .ok (.enter 53 #[aY p2,aY p3]) w:=by
 have h:=FQ #[aY p2,aY p3] w;simp [invoke,h]
theorem r6 {n:Nat} {D:List Deferred} {G:List Nat} {σ:Nat→ag} {t:Nat} (h:t < n):ev ⟨n,D,G,none⟩ σ (.tmp t)=σ t:=by
 show cond (aE t n) (σ t) undef=_;rw [show aE t n=true from by simpa using h]; rfl
theorem GM {n:Nat} {G:List Nat} {fn:Func} {R:ag→ah→Prop} {σ:Nat→ag} {w:ah} {p2 p3:Nat} {A:Int} (V:fn.results= #[.cell 2 44,.cell 3 88]) (ac:3 < n) (Z:σ 2= .pointer (some ⟨p2,0,none⟩)) (aa:σ 3= .pointer (some ⟨p3,0,none⟩)) (C:∃ L:List ag,L.length=7∧w.heap[p2]? =some (.cells L.toArray 44 (0,0))) (E:∃ v:ag,w.heap[p3]? =some (.cells [v].toArray 88 (0,0))) (O:p2≠p3)
 (I:∀ w',Md (fun k=>k=p2∨k=p3) w w'→R (.tuple #[.agg [ba .i64 0,str [],.slice none 0 0,.slice none 0 0,.slice none 0 0,.slice none 0 0,.slice none 0 0].toArray,.int .i64 A]) w'):qb ⟨n,[{target:= .fn (.func 53) #[.pointer (some ⟨p2,0,none⟩),.pointer (some ⟨p3,0,none⟩)],args:= #[]}],G,none⟩ (lD ar fn R) (.panic<|kG A) σ w:=by
 refine Hr (zw p2 p3 w) (GJ p2 p3 A w C E O) ?_;rintro w' ⟨J,M,hm⟩;exact ⟨_,sU V (gz<|iK (cs:= [ba .i64 0,str [],.slice none 0 0,.slice none 0 0,.slice none 0 0,.slice none 0 0,.slice none 0 0]) ((r6 ab).trans Z) lI U fun j _=>by rw [cx,bg J]; simp) (gz<|ji ((r6 ab).trans aa) yJ<|(bg M).trans U),I w' hm⟩
theorem GN {n:Nat} {G:List Nat} {fn:Func} {R:ag→ah→Prop} {σ:Nat→ag} {w:ah} {p2 p3:Nat} {v:ag} {L:List ag} (O:fn.results= #[.cell 2 44,.cell 3 88]) (aa:3 < n) (V:σ 2= .pointer (some ⟨p2,0,none⟩)) (Z:σ 3= .pointer (some ⟨p3,0,none⟩)) (A:w.heap[p2]? =some (.cells L.toArray 44 (0,0))) (C:w.heap[p3]? =some (.cells [v].toArray 88 (0,0))) (E:L.length=7)
 (I:∀ w',Wk w w'→R (.tuple #[.agg L.toArray,v]) w'):qb ⟨n,[{target:= .fn (.func 53) #[.pointer (some ⟨p2,0,none⟩),.pointer (some ⟨p3,0,none⟩)],args:= #[]}],G,none⟩ (lD ar fn R) .ret σ w:=by
 refine Hq (zw p2 p3 w) (GK p2 p3 w) ?_;intro w' hm;have J:=Wk.ak hm A;have M:=Wk.ak hm C;exact ⟨_,sU O (gz<|iK (cs:=L) ((r6 ab).trans V) lI E fun j _=>by rw [cx,bg J]; simp) (gz<|ji ((r6 ab).trans Z) yJ<|(bg M).trans U),I w' hm⟩
section
variable {s:List UInt8} {a e n m p1 p2 p3 p4 p5 p q ls:Nat} {t f:List UInt8} {rs:List (List UInt8×List UInt8)} {l:List (List aK)}
theorem B7 (h:cN s a= .error e):gy s a= .error e:=by unfold gy; rw [h]
theorem B8 (h:cN s a= .ok (f,p)) (A:cN s p= .error e):gy s a= .error e:=by unfold gy; rw [h]; simp only; rw [A]
theorem B9 (h:cN s a= .ok (f,p)) (A:cN s p= .ok (t,q)):gy s a= .ok ((f,t),q):=by unfold gy; rw [h]; simp only; rw [A]
theorem uQ (hm:¬s.take 4=eL):bI s= .error 200:=if_neg hm
theorem zB (hm:s.take 4=eL) (h:a0 s 4= .error e):bI s= .error e:=by unfold bI; rw [if_pos hm,h]
theorem zC (hm:s.take 4=eL) (h:a0 s 4= .ok (n,p1)) (A:cN s p1= .error e):bI s= .error e:=by unfold bI; rw [if_pos hm,h]; simp only; rw [A]
theorem zD (hm:s.take 4=eL) (h:a0 s 4= .ok (n,p1)) (A:cN s p1= .ok (t,p2)) (C:a0 s p2= .error e):bI s= .error e:=by unfold bI; rw [if_pos hm,h]; simp only; rw [A]; simp only; rw [C]
theorem zE (hm:s.take 4=eL) (h:a0 s 4= .ok (n,p1)) (A:cN s p1= .ok (t,p2)) (C:a0 s p2= .ok (m,p3)) (E:256 < m):bI s= .error 201:=by unfold bI; rw [if_pos hm,h]; simp only; rw [A]; simp only; rw [C]; exact if_pos E
theorem rQ (hm:s.take 4=eL) (h:a0 s 4= .ok (n,p1)) (A:cN s p1= .ok (t,p2)) (C:a0 s p2= .ok (m,p3)) (E:¬256 < m) (I:cj (gy s) m p3= .error e):bI s= .error e:=by unfold bI; rw [if_pos hm,h]; simp only; rw [A]; simp only; rw [C]; simp only; rw [if_neg E,I]
theorem zF (hm:s.take 4=eL) (h:a0 s 4= .ok (n,p1)) (A:cN s p1= .ok (t,p2)) (C:a0 s p2= .ok (m,p3)) (E:¬256 < m) (I:cj (gy s) m p3= .ok (rs,p4)):bI s=fW s (if n≤64 then n else 0) t rs p4:=by unfold bI; rw [if_pos hm,h]; simp only; rw [A]; simp only; rw [C]; simp only; rw [if_neg E,I]
theorem zx (h:dZ ls t rs=false):fW s ls t rs a= .error 201:=by unfold fW; rw [h]; rfl
theorem zy (h:dZ ls t rs=true) (A:cj (cH s) 4 a= .error e):fW s ls t rs a= .error e:=by unfold fW; rw [if_pos h,A]
theorem zz (h:dZ ls t rs=true) (A:cj (cH s) 4 a= .ok (l,p5)) (C:p5≠s.length):fW s ls t rs a= .error 202:=by unfold fW; rw [if_pos h,A]; exact if_neg C
theorem zA (h:dZ ls t rs=true) (A:cj (cH s) 4 a= .ok (l,p5)) (C:p5=s.length):fW s ls t rs a= .ok ⟨ls,t,rs,l⟩:=by unfold fW; rw [if_pos h,A]; exact if_pos C
end
def lE (w:ah) (B:Nat) (cs:List ag) (b:dS):Prop := ∃ A rc vs,cs= [.int .i64 (b.least:Nat),str b.tr,.slice A b.cF.length rc]++vs∧vs.length=4∧a9 w.heap A (b.cF.flatMap dY)∧∀ i,i < 4→eT w B (vs.getD i .nilFunc) (b.an.getD i [])
theorem lE.wk {w w':ah} {B:Nat} {cs:List ag} {b:dS} (h:lE w B cs b) (hm:Wk w w'):lE w' B cs b:=by
 obtain ⟨I,rc,vs,h1,A,C,E⟩:=h;exact ⟨I,rc,vs,h1,A,C.wk hm,fun i hi=>(E i hi).wk hm⟩
def jr (s:List UInt8) (w:ah) (v:ag) (w':ah):Prop :=(match bI s with
 | .ok b=> ∃ cs,v= .tuple #[.agg cs.toArray,.int .i64 0]∧lE w' w.heap.size cs b
 | .error e=>v= .tuple #[.agg [ba .i64 0,str [],.slice none 0 0,.slice none 0 0,.slice none 0 0,.slice none 0 0,.slice none 0 0].toArray,.int .i64 (e:Nat)])∧Wk w w'
theorem jr.no {s:List UInt8} {w w':ah} {e:Nat} (h:bI s= .error e) (hm:Wk w w'):jr s w (.tuple #[.agg [ba .i64 0,str [],.slice none 0 0,.slice none 0 0,.slice none 0 0,.slice none 0 0,.slice none 0 0].toArray,.int .i64 (e:Nat)]) w':=by
 unfold jr; rw [h]; exact ⟨rfl,hm⟩
theorem xi {a b c v:ag} {vs:List ag} {k:Nat} :([a,b,c]++vs).set (0 +3 +((k:Nat):Int).toNat*1) v= [a,b,c]++vs.set k v:=by
 rw [show 0 +3 +((k:Nat):Int).toNat*1=k+1 +1 +1 from by omega]; rfl
theorem qc {α:Type} {l:List α} {i k:Nat} {v d:α} (h:i≠k):(l.set k v).getD i d=l.getD i d:=by
 rw [bY,Ew (fun e=>h e.symm),bY]
theorem ov {α:Type} {l:List α} {k:Nat} {v d:α} (h:k < l.length):(l.set k v).getD k d=v:=by
 rw [bY,yo h]; rfl
theorem sf {α:Type} {l m:List α} {i:Nat} {d:α} (h:i < l.length):(l++m).getD i d=l.getD i d:=by
 rw [bY,fO h,bY]
theorem se {α:Type} {l:List α} {a d:α} {i:Nat} (h:i=l.length):(l++ [a]).getD i d=a:=by
 subst h;rw [bY,gl (aP _),yz]; rfl
structure fS (w0 w:ah) (b2 b3:Nat) (L:List ag):Prop where
 c2:w.heap[b2]? =some (.cells L.toArray 44 (0,0))
 c3:w.heap[b3]? =some (.cells [ba .i64 0].toArray 88 (0,0))
 len:L.length=7
 lo:w0.heap.size≤b2∧w0.heap.size≤b3∧b2≠b3
 wk:Wk w0 w
theorem fS.md {F:Nat→Prop} {w0 w w':ah} {A C:Nat} {L:List ag} (h:fS w0 w A C L) (hm:Md F w w') (E:¬F A) (I:¬F C) (J:∀ k,F k→w0.heap.size≤k):fS w0 w' A C L:=
 ⟨hm.ak h.c2 E,hm.ak h.c3 I,h.len,h.lo,h.wk.trans' hm fun k O M=>by have :=J k M; omega⟩
theorem fS.Mb {w0 w w':ah} {A C:Nat} {L:List ag} (h:fS w0 w A C L) (hm:Wk w w'):fS w0 w' A C L:=h.md hm (fun h=>h) (fun h=>h) fun _ h=>h.elim
theorem fS.rb {w0 w w':ah} {A C rb:Nat} {L:List ag} (h:fS w0 w A C L) (hm:Md (fun k=>k=rb) w w') (E:A≠rb) (I:C≠rb) (h0:w0.heap.size≤rb):fS w0 w' A C L:=h.md hm E I fun k J=>by omega
theorem kD {n:Nat} {G:List Nat} {fn:Func} {σ:Nat→ag} {s:List UInt8} {w W:ah} {C E e:Nat} {L:List ag} (J:fn.results= #[.cell 2 44,.cell 3 88]) (I:3 < n) (M:σ 2= .pointer (some ⟨C,0,none⟩)) (O:σ 3= .pointer (some ⟨E,0,none⟩)) (A:fS w W C E L) (U:bI s= .error e):qb ⟨n,[{target:= .fn (.func 53) #[.pointer (some ⟨C,0,none⟩),.pointer (some ⟨E,0,none⟩)],args:= #[]}],G,none⟩ (lD ar fn<|jr s w) (.panic<|kG (e:Nat)) σ W:=
 GM J I M O ⟨_,A.len,A.c2⟩ ⟨_,A.c3⟩ A.lo.2.2 (fun w' hm=>jr.no U<|A.wk.trans' hm fun k V h=>by rcases h with rfl | rfl; have :=A.lo.1; omega; have :=A.lo.2.1; omega)
theorem GO (s:List UInt8) (w:ah) (aM:s.length≤1048576):
 bq ar 32 (bC [str s]) w (jr s w):=by
 refine G5 [2,3] func32 U ntmps32 U ?_;refine cP<|cO<|aT 1 U<|e<|dB qR fun C e5 d7 b7 cK=>e<|dB Mx fun M cu d8 bH cR=> ?_;have eF:=b7.size;have eG:=bH.size;have da:Wk w cu:=b7.md.trans bH.md;have dK:=Wk.ak bH.md cK;refine ax 1 U<|bB<|cP<|cP<|cO<|aT 2 U<|e<|bo (HI s eL cu ab aD) U ?_;rintro v10 e3 ⟨rfl,a6⟩;have bY:=da.trans a6;have cq:=Wk.ak a6 dK;have cs:=Wk.ak a6 cR;have eD:=a6.size;refine ax 2 U<|bB<|cO<|cb U (fun aX=> ?_) fun aX=> ?_;have aa:¬s.take 4=eL:=fun h=>by rw [show s.take eL.length=eL from h] at aX; simp at aX
 refine aT 2 U<|p (eV (ps:= []) (L:= [.int .i64 0,.string ⟨⟨[]⟩⟩,.slice none 0 0,.slice none 0 0,.slice none 0 0,.slice none 0 0,.slice none 0 0]) CM U<|U)<|e<|ez mG U U U U cq aD fun e8 b4 cY=>e<|dg uP U U (v:= .int .i64 200) U (b4.ak cs fun h=>by omega) aD fun d4 b6 c0=>ax 3 U<|wG ?_;have dx:d4.heap[C]? =some (.cells [ba .i64 0,str [],.slice none 0 0,.slice none 0 0,.slice none 0 0,.slice none 0 0,.slice none 0 0].toArray 44 (0,0)):=(b6.ak cY fun h=>by omega).trans rfl;exact Hn (sU U (gz<|iK U U U fun j ej=>by rw [cx,bg dx]; simp)<|gz<|ji U U<|(bg c0).trans U)<|jr.no (uQ aa)<|(bY.trans' b4 fun k E h=>by omega).trans' b6 fun k E h=>by omega
 have aa:s.take 4=eL:=Classical.byContradiction fun h=>by rw [decide_eq_false (show ¬s.take eL.length=eL from h)] at aX; cases aX
 have cD:4≤s.length:=by have :=congrArg lz aa; rw [dv] at this; simp only [eL,dL,lA] at this; omega
 refine jH 1 U<|bB<|cP<|kF Iw #[.pointer (some ⟨C,0,none⟩),.pointer (some ⟨M,0,none⟩)] U aD ?_;refine cP<|cO<|aT 2 U<|p (eV (ps:= [(0,str s),(1,.int .i64 4)]) (L:= [str s,.int .i64 4]) KC U<|U)<|e<|pM U fun rb ad eB bf cI=> ?_;have eE:=bf.size;have c6:aB ad.heap rb [str s,.int .i64 ((4:Nat):Int)]:=⟨_,cI⟩
 have ci:fS w ad C M [ba .i64 0,str [],.slice none 0 0,.slice none 0 0,.slice none 0 0,.slice none 0 0,.slice none 0 0]:=⟨Wk.ak bf.md cq,Wk.ak bf.md cs,rfl,⟨ab,ab,ab⟩,bY.trans bf.md⟩
 refine ax 2 U<|bB<|Ky (fun cz a4=> ∃ (n p1:Nat),(fS w a4 C M [.int .i64 ((if n≤64 then n else 0:Nat):Int),str [],.slice none 0 0,.slice none 0 0,.slice none 0 0,.slice none 0 0,.slice none 0 0])∧(aB a4.heap rb [str s,.int .i64 (p1:Nat)])∧(Md (fun k=>k=rb∨k=C) ad a4)∧(a0 s 4= .ok (n,p1))∧(p1≤s.length)∧(Sl cz [(0,str s),(2,.pointer (some ⟨C,0,none⟩)),(3,.pointer (some ⟨M,0,none⟩)),(4,.pointer (some ⟨rb,0,none⟩))])) ?_ ?_;refine cP<|cO<|aT 2 U ?_;refine eP U (ef lJ (oC rb s (4) ad c6 aM<|cD) U fun eN e4 dh=> ?_) (fun c w' I σ' A=>by
  obtain ⟨e,he,rfl,V⟩:=I;exact kD U aD ((A 2<|.head _).trans U) ((A 3<|.tail _<|.head _).trans U) ((ci).rb V ab ab ab) (zB aa he))
 obtain ⟨n,p1,Z,rfl,bW,bA⟩:=dh;obtain ⟨eb,bK,eo⟩:=jj Z;have a1:=ci.rb bA ab ab ab;refine ax 2 U<|bB<|cP<|cO<|jH 4 U<|bB<|cO<|cd U (fun bJ=> ?_) fun bJ=> ?_;exact aT 2 U<|p (fC u3 mb U<|gS ab)<|aj 1 U<|e<|dg cG U U (v:= .int .i64 (n:Nat)) U a1.c2 aD fun fb bb c1=>ax 1 U<|zh<|⟨n,p1,(⟨by rw [if_pos ab]; exact c1,bb.ak a1.c3 (fun h=>by omega),U,a1.lo,a1.wk.trans' bb fun k E h=>by omega⟩),(bb.B bW fun h=>by omega),((bA.mono fun _ _ h=> .inl h).trans<|bb.mono fun _ _ h=> .inr h),Z,bK,U⟩
 exact jH 1 U<|zh<|⟨n,p1,(by rw [if_neg ab]; exact a1),bW,(bA.mono fun _ _ h=> .inl h),Z,bK,U⟩
 rintro cz a4 ⟨n,p1,cp,c5,c9,Z,bK,dP⟩;refine Kg dP ?_;refine cP<|cO<|aT 2 U ?_;refine eP U (ef uD (vv rb s (p1) a4 c5 aM ab) U fun eO e6 di=> ?_) (fun c w' I σ' A=>by
  obtain ⟨e,he,rfl,V⟩:=I;exact kD U aD ((A 2<|.head _).trans U) ((A 3<|.tail _<|.head _).trans U) ((cp).rb V ab ab ab) (zC aa Z he))
 obtain ⟨t,p2,aL,rfl,cN,b0⟩:=di;obtain ⟨ec,ek,ep⟩:=ot aL;have bn:=cp.rb b0 ab ab ab;refine aj 1 U<|e<|dg zu U U (v:=str t) U bn.c2 (by simp) fun cy bc c4=> ?_;have co:fS w cy C M [.int .i64 ((if n≤64 then n else 0:Nat):Int),str t,.slice none 0 0,.slice none 0 0,.slice none 0 0,.slice none 0 0,.slice none 0 0]:=⟨c4,bc.ak bn.c3 (fun h=>by omega),rfl,bn.lo,bn.wk.trans' bc fun k E h=>by omega⟩
 have c7:=bc.B cN fun h=>by omega
 refine ax 1 U<|bB<|cP<|cO<|aT 2 U ?_;refine eP U (ef lJ (oC rb s (p2) cy c7 aM ab) U fun eR dX dj=> ?_) (fun c w' I σ' A=>by
  obtain ⟨e,he,rfl,V⟩:=I;exact kD U aD ((A 2<|.head _).trans U) ((A 3<|.tail _<|.head _).trans U) ((co).rb V ab ab ab) (zD aa Z aL he))
 obtain ⟨m,p3,aV,rfl,cQ,b1⟩:=dj;obtain ⟨ed,el,eq⟩:=jj aV;have ck:=co.rb b1 ab ab ab;refine ax 2 U<|bB<|cP<|cO<|aT 4 U ?_;refine eP U (ef eW (jO _ _ _ dX) U fun eS e7 dk=> ?_) (fun c w' I σ' A=>by
  obtain ⟨rfl,hb,rfl⟩:=I;exact kD U aD ((A 2<|.head _).trans U) ((A 3<|.tail _<|.head _).trans U) (ck) (zE aa Z aL aV<|by have :=of_decide_eq_false hb; omega))
 obtain ⟨rfl,dT,rfl⟩:=dk;have bL:¬256 < m:=by have :=of_decide_eq_true dT; omega
 refine ax 1 U<|bB<|cP<|cP<|cO<|jH 4 U<|bB<|cO<|cm 1 U<|lp (fun aP cA ao=> ∃ (k:Nat) (rs:List (List UInt8×List UInt8)) (O:ag) (q:Nat),(k≤m)∧(cj (gy s) k p3= .ok (rs,q))∧(q≤s.length)∧(bd ao ad.heap.size 77 2 O rs.length<|rs.flatMap dY)∧(aB ao.heap rb [str s,.int .i64 (q:Nat)])∧(fS w ao C M [.int .i64 ((if n≤64 then n else 0:Nat):Int),str t,O,.slice none 0 0,.slice none 0 0,.slice none 0 0,.slice none 0 0])∧(Md (fun k=>k=rb∨k=C) ad ao)∧(Sl cA [(0,str s),(2,.pointer (some ⟨C,0,none⟩)),(3,.pointer (some ⟨M,0,none⟩)),(4,.pointer (some ⟨rb,0,none⟩)),(33,.int .u64 (m:Nat)),(34,.int .u64 (k:Nat))])∧(m - k=aP)) _ ⟨0,[],.slice none 0 0,p3,ab,U,ab,(gE _ _ _ _),cQ,ck,(((c9.trans<|b0.mono fun _ _ h=> .inl h).trans<|bc.mono fun _ _ h=> .inr h).trans<|b1.mono fun _ _ h=> .inl h),U,U⟩ ?_;rintro aP cA ao ⟨k,rs,O,q,ev,am,ey,au,bX,aZ,bx,dQ,rfl⟩;refine bO dQ<|cm 6 U<|cd U (fun du=> ?_) fun du=> ?_;refine aF 7 U ?_;refine eP U (ef uD (vv rb s (q) ao bX aM ab) U fun eU an dl=> ?_) (fun c w' I σ' A=>by
  obtain ⟨e,he,rfl,V⟩:=I;exact kD U aD ((A 2<|.head _).trans U) ((A 3<|.tail _<|.head _).trans U) ((aZ).rb V ab ab ab) (rQ aa Z aL aV bL<|ig am (B7 he) ab))
 obtain ⟨f,bN,bI,rfl,cU,a8⟩:=dl;obtain ⟨eg,em,er⟩:=ot bI;have a2:=aZ.rb a8 ab ab ab;have dF:=bG au a8 fun k E h=>by have :=cr au E; omega
 have eH:=a8.size;have eM:=bx.size;have av:∀ k,O.ownBlock=some k→ad.heap.size≤k:=fun k h=>(cr au h).1;refine aI 3 U ?_;have bj:(fun w'=>Md (fun k=>k=rb∨O.ownBlock=some k) an w') an.drew:=(Md.refl _ _).drew;refine oA (fun w'=>Md (fun k=>k=rb∨O.ownBlock=some k) an w') 9 U wide bj<|qe [0] U bj<|Bi 1 U ai (fun w' dr=>aw U<|Md.ay dr ((bg a2.c2).trans U) fun h=>by rcases h with h | h; omega; have :=av _ h; omega) bj<|qe [2,3] U bj ?_;refine Iu 4 U ai U (ef uD (vv rb s bN an.drew cU aM ab) U fun eX cv dm=> ?_) (fun c w' I σ' A=>by
  obtain ⟨e,he,rfl,V⟩:=I;exact kD U aD ((A 2<|.head _).trans U) ((A 3<|.tail _<|.head _).trans U) (a2.rb (Md.dc V) ab ab ab) (rQ aa Z aL aV bL<|ig am (B8 bI he) ab))
 obtain ⟨t2,dW,cf,rfl,cV,aS⟩:=dm;obtain ⟨eh,en,eu⟩:=ot cf;have aS:=Md.dc aS;have ca:Md (fun k=>k=rb∨O.ownBlock=some k) an cv:=aS.mono fun _ _ h=> .inl h;have eI:=aS.size;have b8:(fun w'=>Md (fun k=>k=rb∨O.ownBlock=some k) an w') cv:=ca;refine ⟨b8,?_⟩;refine qp 5 U ai (fun _=>eV (ps:= [(0,str f),(1,str t2)]) (L:= [str f,str t2]) KI U<|U) (fun _=>b8)<|fG 6 U ai<|n4 th U U U fun d5 d1 d9 bi cW=> ?_;have eJ:=bi.size;have ce:=ca.trans<|bi.md.mono fun _ _ h=>h.elim;have dG:=aW (bG dF aS fun k E h=>by have :=cr au E; omega) bi.md;have ds:(fun w'=>Md (fun k=>k=rb∨O.ownBlock=some k) an w') d1:=ce;refine ⟨ds,?_⟩;refine fG 7 U ai<|ap th (dG) U ab U (a9.gh cW) (U) (U) (by have :=iF am; omega) (by have :=iF am; omega) fun eY d2 ch bE dV dz=> ?_;obtain ⟨bu,bv,rfl⟩:=ew ch;have aU:=ce.trans<|bE.mono fun _ _ h=> .inr h;have dV:=bE.size;have dD:¬(C=rb∨O.ownBlock=some C):=fun h=>by rcases h with h | h; omega; have :=av _ h; omega
 have dE:¬(M=rb∨O.ownBlock=some M):=fun h=>by rcases h with h | h; omega; have :=av _ h; omega
 have dw:=aU.ak a2.c2 dD;have cX:=bE.B (Wk.B bi.md cV) fun h=>by have :=av _ h; omega
 have b9:(fun w'=>Md (fun k=>k=rb∨O.ownBlock=some k) an w') d2:=aU;refine ⟨b9,?_⟩;refine qe [8] U b9<|jK 9 U ai ai<|dg zm U U (v:= .slice bu (rs.length+1) bv) U dw (by simp) fun ct aQ cE=> ?_;have dH:fS w ct C M [.int .i64 ((if n≤64 then n else 0:Nat):Int),str t,.slice bu (rs.length+1) bv,.slice none 0 0,.slice none 0 0,.slice none 0 0,.slice none 0 0]:=⟨cE,aQ.ak (aU.ak a2.c3 dE) (fun h=>by omega),rfl,aZ.lo,(a2.wk.trans' aU fun k E h=>by rcases h with h | h; omega; have :=av _ h; omega).trans' aQ fun k E h=>by omega⟩
 have cF:=aQ.B cX fun h=>by omega
 have c8:Md (fun k=>k=rb∨k=C) ad ct:=((bx.trans<|a8.mono fun _ _ h=> .inl h).trans' aU fun k E h=>by rcases h with h | h; exact .inl h; have :=av _ h; omega).trans<|aQ.mono fun _ _ h=> .inr h;exact jL ai<|bh 6 U<|tn<|⟨_,ab,k+1,rs++ [(f,t2)],.slice bu (rs.length+1) bv,dW,ab,(lQ am<|B9 bI cf),ab,(by rw [cC,List.flatMap_append]; exact bG ch aQ fun k E h=>by rcases dz k E with bV | bV; exact absurd (av k bV) ab; omega),cF,dH,c8,U,U⟩
 refine aH 2 U<|te _<|bh 1 U<|bB<|cP<|cO ?_;obtain ⟨ac,rc,rfl⟩:=ew au;obtain rfl :k=m:=ab;obtain ⟨br,dM⟩:∃ br,br=q:=⟨q,rfl⟩
 subst dM;have bl:=zF aa Z aL aV bL am;have ex:=iF am;have dO:∀ r∈rs,r.1.length≤1048576∧r.2.length≤1048576:=fun r hr=>by
  have :=(mT (R:=fun _=>True) (S:=fun r:List UInt8×List UInt8=>r.1.length≤255∧r.2.length≤255) (fun p x q' _ dS=>⟨trivial,(JN dS).2.2⟩) trivial am).2 r hr;omega
 refine aT 2 U<|p (eK lI U (U) (show ∀ j,j < 7→ay ao.heap C (0 +j)=([.int .i64 ((if n≤64 then n else 0:Nat):Int),str t,.slice ac rs.length rc,.slice none 0 0,.slice none 0 0,.slice none 0 0,.slice none 0 0]:List ag)[j]? from fun j _=>by rw [cx,bg aZ.c2]; simp))<|e<|bo (Ke (if n≤64 then n else 0) t rs ac rc (.slice none 0 0) (.slice none 0 0) (.slice none 0 0) (.slice none 0 0) ao (bU au).2 (by split <;> omega) ab ab dO) U ?_;rintro eZ d3 ⟨rfl,a7⟩;have cn:=aZ.Mb a7;refine eP U (ef eW (jO _ _ _ d3) U fun e0 e9 dn=> ?_) (fun c w' I σ' A=>by
  obtain ⟨rfl,hb,rfl⟩:=I;exact kD U aD ((A 2<|.head _).trans U) ((A 3<|.tail _<|.head _).trans U) (cn) (by rw [bl,zx hb]))
 obtain ⟨rfl,bM,rfl⟩:=dn;refine ax 1 U<|bB<|cP<|cP<|cO<|jH 3 U<|bB<|cO<|cm 1 U<|lp (fun aP cB al=> ∃ (J:Nat) (ls:List (List aK)) (vs:List ag) (aN:Nat),(J≤4)∧(cj (cH s) J br= .ok (ls,aN))∧(aN≤s.length)∧(vs.length=4)∧(aB al.heap rb [str s,.int .i64 (aN:Nat)])∧(fS w al C M<|[.int .i64 ((if n≤64 then n else 0:Nat):Int),str t,.slice ac rs.length rc]++vs)∧(∀ i,i < J→eT al (rb+1) (vs.getD i .nilFunc) (ls.getD i []))∧(Md (fun k=>k=rb∨k=C) ad al)∧(bd al ad.heap.size 77 2 (.slice ac rs.length rc) rs.length<|rs.flatMap dY)∧(Sl cB [(0,str s),(2,.pointer (some ⟨C,0,none⟩)),(3,.pointer (some ⟨M,0,none⟩)),(4,.pointer (some ⟨rb,0,none⟩)),(52,.int .i64 (J:Nat))])∧(4 - J=aP)) _ ⟨0,[],[.slice none 0 0,.slice none 0 0,.slice none 0 0,.slice none 0 0],br,ab,U,ab,U,(Wk.B a7 bX),cn,(fun i hi=>by omega),(bx.trans<|a7.mono fun _ _ h=>h.elim),(aW au a7),U,U⟩ ?_;rintro aP cB al ⟨J,ls,vs,aN,et,aY,eA,a3,bw,ae,bz,db,bm,dR,rfl⟩;refine bO dR<|cm 6 U<|cd U (fun dy=> ?_) fun dy=> ?_;refine aF 13 U ?_;refine eP U (ef FR (J8 rb s aN al bw aM ab) U fun e1 fa dp=> ?_) (fun c w' I σ' A=>by
  obtain ⟨e,he,rfl,V⟩:=I;exact kD U aD ((A 2<|.head _).trans U) ((A 3<|.tail _<|.head _).trans U) (ae.rb V ab ab ab) (by rw [bl,zy bM (ig aY he (show J < 4 by omega))]))
 obtain ⟨az,bN,cg,bZ,cZ,b5⟩:=dp;obtain ⟨aO,cc,rfl,ea,d6⟩:=bZ.ee;have bp:=ae.rb b5 ab ab ab;have ei:=Co cg;refine aj 1 U<|p (jc mC U U ab)<|e<|dg zn U U (v:= .slice aO az.length cc) U bp.c2 (by simp only [cC,dL,lA,a3]; omega) fun bt aR cL=> ?_;have dC:=iF aY;have bJ:bt.heap[C]? =some (.cells ([.int .i64 ((if n≤64 then n else 0:Nat):Int),str t,.slice ac rs.length rc]++vs.set J (.slice aO az.length cc)).toArray 44 (0,0)):=by rw [← xi]; exact cL
 have dI:fS w bt C M ([.int .i64 ((if n≤64 then n else 0:Nat):Int),str t,.slice ac rs.length rc]++vs.set J (.slice aO az.length cc)):=⟨bJ,aR.ak bp.c3 (fun h=>by omega),by simp [a3],bp.lo,bp.wk.trans' aR fun k E h=>by omega⟩
 have cM:=aR.B cZ fun h=>by omega
 have eC:=bw.lt;have bF:Md (fun k=>k=rb∨k=C) al bt:=(b5.mono fun _ _ h=> .inl h).trans<|aR.mono fun _ _ h=> .inr h;have dd:∀ i,i < J+1→eT bt (rb+1) ((vs.set J<|.slice aO az.length cc).getD i .nilFunc) ((ls++ [az]).getD i []):=fun i hi=>by
  rcases dA i J with h | h;rw [qc ab,sf ab];exact (bz i h).md bF fun k E hb=>absurd hb ab;obtain rfl :i=J:=ab;rw [ov ab,se dC.symm];exact (bZ.mono ab).md aR fun k E hb=>absurd hb ab
 exact ax 7 U<|tn<|⟨_,ab,J+1,ls++ [az],vs.set J (.slice aO az.length cc),bN,ab,(lQ aY cg),ab,(by rw [gn]; exact a3),cM,dI,dd,(db.trans bF),(bG bm bF fun k E h=>by have :=(cr bm E).1; omega),U,U⟩
 refine aH 2 U<|te _<|bh 1 U<|bB<|cP<|cO ?_;obtain rfl :J=4:=ab;obtain ⟨aA,aC,aE,aG,rfl⟩:∃ aA aC aE aG,vs= [aA,aC,aE,aG]:=by
  match vs,a3 with
  | [aA,aC,aE,aG],_=>exact ⟨_,_,_,_,rfl⟩
 have a5:∀ i,i < 4→([aA,aC,aE,aG].getD i .nilFunc).oneCell'=true :=fun i hi=>by
  obtain ⟨_,_,e,_⟩:=(bz i hi).ee;rw [e]; rfl
 have dJ:([.int .i64 ((if n≤64 then n else 0:Nat):Int),str t,.slice ac rs.length rc,aA,aC,aE,aG]:List ag).all eQ=true :=by
  have bP:=a5 0 ab;have bQ:=a5 1 ab;have bR:=a5 2 ab;have bT:=a5 3 ab;simp only [tS,yn] at bP bQ bR bT;simp only [nQ,re,bP,bQ,bR,bT]; rfl
 refine aT 5 U<|p (aw U<|bw.aJ 1)<|aj 3 U ?_;refine eP U (ef eW (jO _ _ _ al) U fun e2 cw dq=> ?_) (fun c w' I σ' A=>by
  obtain ⟨rfl,hb,rfl⟩:=I;exact kD U aD ((A 2<|.head _).trans U) ((A 3<|.tail _<|.head _).trans U) (ae) (by rw [bl,zz bM aY (fun h=>of_decide_eq_false hb<|by rw [h])]))
 obtain ⟨rfl,dU,rfl⟩:=dq;have dN:aN=s.length:=by have :=of_decide_eq_true dU; omega
 refine ax 1 U<|bB<|cP<|cO<|aT 1 U<|p (eK lI U (U) (show ∀ j,j < 7→ay cw.heap C (0 +j)=([.int .i64 ((if n≤64 then n else 0:Nat):Int),str t,.slice ac rs.length rc,aA,aC,aE,aG]:List ag)[j]? from fun j _=>by rw [cx,bg ae.c2]; simp))<|e<|ez mG U U U dJ ae.c2 (by rw [ae.len]; decide) fun dZ b2 cS=> ?_;have dt:dZ.heap[C]? =some (.cells ([.int .i64 ((if n≤64 then n else 0:Nat):Int),str t,.slice ac rs.length rc]++ [aA,aC,aE,aG]).toArray 44 (0,0)):=cS.trans<|by rw [Eo (by rw [ae.len]; decide),List.take_zero,ua,nR]; rfl
 refine e<|dg uP U U (v:= .int .i64 0) U (b2.ak ae.c3 fun h=>by omega) aD fun d0 b3 cT=>ax 1 U<|bB<|Ce ?_;exact GN U aD U U (b3.ak dt fun h=>by omega) cT U (fun w' hm=>by
  unfold jr;rw [bl,zA bM aY dN];have bD:Md (fun k=>k=C∨k=M) cw d0:=(b2.mono fun _ _ h=> .inl h).trans<|b3.mono fun _ _ h=> .inr h;refine ⟨⟨_,U,ac,rc,_,U,a3,(bU<|aW (bG bm bD fun k E h=>by have :=(cr bm E).1; omega) hm).2,fun i hi=>(((bz i hi).md bD fun k E hb=>absurd hb ab).wk hm).mono ab⟩,(ae.wk.trans' bD fun k E h=>by omega).trans hm⟩)
theorem qk {α:Type} {f:Nat→Except Nat (α×Nat)} (C:∀ a e,f a= .error e→e≠0):∀ {k a e:Nat},cj f k a= .error e→e≠0
 | 0,a,e,h=>by cases h
 | k+1,a,e,h=>by
   rw [cj] at h;split at h
   · rename_i E A;cases h;exact qk C A
   · split at h
     · rename_i E A;cases h;exact C _ _ A
     · cases h
theorem oS {s:List UInt8} {a e:Nat} (h:a0 s a= .error e):e≠0:=by rcases xd h with h | h <;> omega
theorem vt {s:List UInt8} {a e:Nat} (h:cN s a= .error e):e≠0:=by
 unfold cN at h;split at h
 · rename_i A; cases h; exact oS A
 · repeat' split at h
   all_goals first | (cases h; decide) | cases h
theorem JO {s:List UInt8} {a e:Nat} (h:gy s a= .error e):e≠0:=by
 unfold gy at h;split at h
 · rename_i A; cases h; exact vt A
 · split at h
   · rename_i A; cases h; exact vt A
   · cases h
theorem G2 {s:List UInt8} {n a e:Nat} (h:dW s n a= .error e):e≠0:=by
 unfold dW at h;split at h
 · cases h; decide
 · split at h
   · rename_i A; cases h; exact oS A
   · split at h
     · cases h; decide
     · cases h
theorem KS {s:List UInt8} {n a e:Nat} (h:fv s n a= .error e):e≠0:=by
 unfold fv at h;split at h
 · rename_i A; cases h; exact oS A
 · split at h
   · cases h; decide
   · split at h
     · rename_i A; cases h; exact qk (fun _ _=>G2) A
     · cases h
theorem J6 {s:List UInt8} {a e:Nat} (h:cH s a= .error e):e≠0:=by
 unfold cH at h;split at h
 · rename_i A; cases h; exact oS A
 · split at h
   · cases h; decide
   · split at h
     · rename_i A; cases h; exact qk (fun _ _=>KS) A
     · split at h
       · cases h
       · cases h; decide
theorem GL {s:List UInt8} {e:Nat} (h:bI s= .error e):e≠0:=by
 unfold bI at h;split at h
 · split at h
   · rename_i A; cases h; exact oS A
   · split at h
     · rename_i A; cases h; exact vt A
     · split at h
       · rename_i A; cases h; exact oS A
       · split at h
         · cases h; decide
         · split at h
           · rename_i A; cases h; exact qk (fun _ _=>JO) A
           · generalize (if _≤64 then _ else 0)=n0 at h;unfold fW at h;split at h
             · split at h
               · rename_i A; cases h; exact qk (fun _ _=>J6) A
               · split at h
                 · cases h
                 · cases h; decide
             · cases h; decide
 · cases h; decide
theorem jr.form {s:List UInt8} {w w':ah} {v:ag} (h:jr s w v w'):∃ L M x2 O V Z aa e,v= .tuple #[.agg [L,M,x2,O,V,Z,aa].toArray,.int .i64 ((e:Nat):Int)]∧[L,M,x2,O,V,Z,aa].all eQ=true∧Wk w w'∧
 ((e≠0∧bI s= .error e)∨(e=0∧∃ b,bI s= .ok b∧lE w' w.heap.size [L,M,x2,O,V,Z,aa] b)):=by
 obtain ⟨h,aj⟩:=h;cases hX:bI s with
 | error e=>
   rw [hX] at h;exact ⟨_,_,_,_,_,_,_,e,h,U,aj,.inl ⟨GL hX,U⟩⟩
 | ok b=>
   rw [hX] at h;obtain ⟨cs,al,hb⟩:=h;obtain ⟨ao,rc,vs,rfl,am,an,ak⟩:=id hb;obtain ⟨C,E,I,J,rfl⟩:∃ C E I J,vs= [C,E,I,J]:=by
    match vs,am with
    | [C,E,I,J],_=>exact ⟨_,_,_,_,rfl⟩
   have A:∀ i,i < 4→([C,E,I,J].getD i .nilFunc).oneCell'=true :=fun i hi=>by
    obtain ⟨_,_,e,_⟩:=(ak i hi).ee;rw [e]; rfl
   have ac:=A 0 ab;have ad:=A 1 ab;have ae:=A 2 ab;have ai:=A 3 ab;simp only [tS,yn] at ac ad ae ai;exact ⟨_,_,_,_,_,_,_,0,al,by simp only [nQ,re,ac,ad,ae,ai]; rfl,aj,.inr ⟨U,b,U,hb⟩⟩
def iy (w:ah) (B cb:Nat) (b:dS) (A:List UInt8):Prop := ∃ cs,aB w.heap cb (cs++ [str A])∧lE w B cs b∧B≤cb
theorem iy.wk {w w':ah} {B cb:Nat} {b:dS} {A:List UInt8} (h:iy w B cb b A) (hm:Wk w w'):iy w' B cb b A:=by
 obtain ⟨cs,h1,C,E⟩:=h;exact ⟨cs,Wk.B hm h1,C.wk hm,E⟩
def E0 (s:List UInt8) (w:ah) (v:ag) (w':ah):Prop :=(match bI s with
 | .ok b=> ∃ cb,v= .tuple #[.pointer (some ⟨cb,0,none⟩),.nilIface]∧iy w' w.heap.size cb b s
 | .error e=>v= .tuple #[.pointer none,.iface 88 (.int .i64 ((e:Nat):Int))])∧Wk w w'
theorem Bg (s:List UInt8) (w:ah) (aC:s.length≤1048576):
 bq ar 19 (bC [str s]) w (E0 s w):=by
 refine enter func19 U ntmps19 U<|aT 8 U<|p mv<|e<|bo (GO s w aC) U fun aQ aE au=> ?_;obtain ⟨A,C,x2,E,I,J,M,ae,rfl,aA,Z,V⟩:=jr.form au;have aP:=Z.size;refine p mv<|aj 2 U<|e<|dB qR fun ad aS aH ai am=> ?_;have aN:=ai.size;refine e<|ez mG U U U aA am aD fun ac ap an=> ?_;have ao:aB ac.heap ad [A,C,x2,E,I,J,M]:=⟨_,an⟩
 have O:Wk aE ac:=ai.md.trans' ap fun k aL h=>by omega
 have aO:=O.size;refine aI 10 U<|cd U (fun az=> ?_) fun az=> ?_;have V:ae≠0∧bI s= .error ae:=V.resolve_right fun h=>by omega
 refine aF 3 U<|p (wb sA U)<|ax 6 U<|f2 U U U ?_;refine ⟨?_,Z.trans O⟩;rw [V.2];exact U;obtain ⟨aK,b,av,aw⟩:=V.resolve_left fun h=>by omega
 refine aF 4 U<|p (eK lI U (U) (show ∀ j,j < 7→ay ac.heap ad (0 +j)=([A,C,x2,E,I,J,M]:List ag)[j]? from fun j _=>ao.aJ j))<|p mv<|p (Ft (ps:= [(0,.agg [A,C,x2,E,I,J,M].toArray),(1,str s)]) (L:= [A,C,x2,E,I,J,M,str s]) KH U<|by simp [Instr.fill,Value.cells,str])<|e<|pM (L:= [A,C,x2,E,I,J,M,str s]) U fun ak aR aG aa al=> ?_;have aM:=aa.size;refine ax 5 U<|f2 U U U ?_;refine ⟨?_,(Z.trans O).trans aa.md⟩;rw [av];exact ⟨ak,U,_,⟨_,al⟩,aw.wk (O.trans aa.md),ab⟩
end Go.Hb
end
section
namespace Go.Hb
open Go.Hb.fT
def eJ (c:UInt8) (es:List (UInt8×Int)):Nat:=es.findIdx fun e=>e.1==c
theorem AP {c:UInt8} {es:List (UInt8×Int)} {i:Nat} {e:UInt8×Int} (he:es[i]? =some e) (A:e.1=c) (E:∀ (j:Nat) (e':UInt8×Int),j < i→es[j]? =some e'→e'.1≠c):eJ c es=i:=by
 unfold eJ;obtain ⟨hi,rfl⟩:=cI.1 he;rw [List.findIdx_eq hi];refine ⟨by simpa using A,fun j C=> ?_⟩;have :=E j _ C<|bF ab;simpa using this
theorem AQ {c:UInt8} {es:List (UInt8×Int)} (C:∀ (j:Nat) (e':UInt8×Int),es[j]? =some e'→e'.1≠c):eJ c es=es.length:=by
 unfold eJ;refine List.findIdx_eq_length.2 fun e he=> ?_;obtain ⟨j,A⟩:=List.mem_iff_getElem?.1 he;simpa using C j e A
def jt (l:List aK):Nat→List UInt8→Option Nat×Nat
 | n,[]=>(some n,0)
 | n,c::w=>if eJ c (aO l n).2 < (aO l n).2.length then ((jt l ((aO l n).2.getD (eJ c (aO l n).2) (0,0)).2.toNat w).1,(jt l ((aO l n).2.getD (eJ c (aO l n).2) (0,0)).2.toNat w).2 +1) else (none,0)
def lG (l:List aK):Prop :=l.length≤1048576∧∀ x∈l,x.2.length≤256∧∀ e∈x.2,0≤e.2∧e.2 < l.length
theorem lG.st {l:List aK} (h:lG l) {n:Nat} (hn:n < l.length):(aO l n).2.length≤256∧∀ (i:Nat) e,(aO l n).2[i]? =some e→0≤e.2∧e.2 < l.length:=by
 have :=h.2 _<|j5 (d:=dI) hn;exact ⟨this.1,fun i e he=>this.2 e<|mo he⟩
end Go.Hb
end
section
namespace Go.Hb
def fg (l:List aK) (s:Nat) (c:UInt8):Option Nat:=if eJ c (aO l s).2 < (aO l s).2.length then some ((aO l s).2.getD (eJ c (aO l s).2) (0,0)).2.toNat else none
def fX (l:List aK) (u:List UInt8):Option Nat:=(jt l 0 u).1
theorem rF (l:List aK) (n:Nat) (c:UInt8) (u:List UInt8):(jt l n (c::u)).1=(fg l n c).bind fun s=>(jt l s u).1:=by
 rw [jt]; unfold fg;split <;> rfl
theorem uv (l:List aK):∀ (u:List UInt8) (n:Nat) (c:UInt8),(jt l n<|u++ [c]).1=(jt l n u).1.bind fun s=>fg l s c
 | [],n,c=>by
   rw [ua,rF];show (fg l n c).bind (fun s=>some s)=fg l n c;cases fg l n c <;> rfl
 | a::u,n,c=>by
   rw [List.cons_append,rF,rF];cases fg l n a with
   | none=>rfl
   | some s=>exact uv l u s c
theorem yK (l:List aK):∀ (v u:List UInt8) (n:Nat),(jt l n u).1=none→(jt l n<|u++v).1=none
 | [],u,n,h=>by rw [nR]; exact h
 | c::v,u,n,h=>by
   rw [show u++c::v=(u++ [c])++v by simp];refine yK l v _ n ?_;rw [uv,h]; rfl
def pZ (l:List aK):Option Nat→Bool
 | some n=>(aO l n).1
 | none=>false
def bZ (w:List UInt8) (i k:Nat):List UInt8:=(w.drop i).take<|k - i
def az (l:List aK) (least:Nat) (w:List UInt8) (i k:Nat):Bool:=decide (i < k∧k≤w.length∧least≤k - i) && pZ l (fX l<|bZ w i k)
theorem zg (w:List UInt8) (i:Nat):bZ w i i= []:=by unfold bZ; rw [yz]; rfl
theorem Gq {w:List UInt8} {i k:Nat} (hi:i≤k) (A:k < w.length):bZ w i (k+1)=bZ w i k++ [w.getD k 0]:=by
 unfold bZ;rw [show k+1 - i=(k - i)+1 by omega,yu,iu,show i+(k - i)=k by omega,bY,bF A]; rfl
theorem Gp {w:List UInt8} {i k m:Nat} (hi:i≤k) (A:k≤m):∃ v,bZ w i m=bZ w i k++v:=by
 unfold bZ;exact ⟨_,by rw [show m - i=(k - i)+(m - k) by omega,List.take_add]⟩
theorem vA {l:List aK} {w:List UInt8} {i k:Nat} (hi:i≤k) (A:k < w.length):fX l (bZ w i<|k+1)=(fX l<|bZ w i k).bind fun s=>fg l s (w.getD k 0):=by
 unfold fX;rw [Gq hi A,uv]
theorem AJ {l:List aK} {w:List UInt8} {i k m:Nat} (hi:i≤k) (A:k≤m) (h:fX l (bZ w i k)=none):fX l (bZ w i m)=none:=by
 obtain ⟨v,C⟩:=Gp (w:=w) hi A;unfold fX at h ⊢;rw [C]; exact yK l v _ 0 h
def jb (l:List aK) (least:Nat) (w:List UInt8) (i k:Nat):List Nat:=(List.range' (i+1)<|k - i).filter<|az l least w i
theorem G3 (l:List aK) (least:Nat) (w:List UInt8) (i:Nat):jb l least w i i= []:=by unfold jb; rw [yz]; rfl
theorem z7 {l:List aK} {least:Nat} {w:List UInt8} {i k:Nat} (hi:i≤k):jb l least w i (k+1)=jb l least w i k++if az l least w i (k+1)=true then [k+1] else []:=by
 unfold jb;rw [show k+1 - i=(k - i)+1 by omega,List.range'_1_concat,List.filter_append,show i+1 +(k - i)=k+1 by omega];congr 1;cases h:az l least w i (k+1) <;> simp [h]
theorem BT {l:List aK} {least:Nat} {w:List UInt8} {i k s:Nat} (hi:i≤k) (C:k < w.length) (A:fX l (bZ w i<|k+1)=some s):az l least w i (k+1)=((aO l s).1 && decide (least≤k+1 - i)):=by
 unfold az;rw [A];simp only [pZ];cases (aO l s).1
 · simp
 · simp only [Bool.and_true,mg];exact decide_eq_decide.2 ⟨fun h=>h.2.2,fun h=>⟨ab,ab,h⟩⟩
theorem z6 {l:List aK} {least:Nat} {w:List UInt8} {i k:Nat} (hi:i≤k) (C:k≤w.length) (h:k=w.length∨fX l (bZ w i<|k+1)=none):jb l least w i k=jE (az l least w) w.length i:=by
 rcases h with rfl | h
 · rfl
 · have :∀ d,k+d≤w.length→jb l least w i (k+d)=jb l least w i k:=fun d=>by
    induction d with
    | zero=>intro _; rfl
    | succ d ih=>
      intro A;rw [← Nat.add_assoc,z7 ab,ih ab];have hn:=AJ (m:=k+d+1) ab ab h;have :az l least w i (k+d+1)=false :=by unfold az; rw [hn]; simp [pZ]
      rw [this]; simp
   have h1:=this (w.length - k) ab;rw [show k+(w.length - k)=w.length by omega] at h1;exact h1.symm
theorem AI {l:List aK} (A:lG l) (h0:0 < l.length):∀ {u:List UInt8} {n s:Nat},n < l.length→(jt l n u).1=some s→s < l.length
 | [],n,s,hn,h=>by
   have :some n=some s:=h;cases this; exact hn
 | c::u,n,s,hn,h=>by
   rw [rF] at h;unfold fg at h;split at h
   · rename_i C;refine AI A h0 ?_ h;obtain ⟨_,E⟩:=A.st hn;obtain ⟨I,J⟩:=E _ _<|bF C;rw [bY,bF C];simp only [Option.getD_some];omega
   · cases h
theorem HX {c:UInt8} {es:List (UInt8×Int)} (hr:dU es) {i:Nat} (J:∀ (j:Nat) e,j < i→es[j]? =some e→e.1.toNat < c.toNat) (M:∀ (j:Nat) e,i≤j→es[j]? =some e→c.toNat≤e.1.toNat):(i < es.length∧(es.getD i (0,0)).1=c→eJ c es=i)∧(¬(i < es.length∧(es.getD i (0,0)).1=c)→eJ c es=es.length):=by
 constructor
 · rintro ⟨h1,A⟩;rw [bY,bF h1] at A;refine AP (bF h1) A fun j e E he h=> ?_;have :=J j e E he;rw [h] at this; omega
 · intro h;refine AQ fun j e he C=>h ?_;have V:¬j < i:=fun E=>by have :=J j e E he; rw [C] at this; omega
   have I:=(cI.1 he).1;by_cases O:i=j
   · subst O;refine ⟨I,?_⟩;rw [bY,he]; exact C
   · exfalso;have h1:es[i]? =some (es[i]'ab):=bF ab;have A:=M i _ (aP _) h1;have L:=pD.1 hr i j ab I ab;obtain ⟨U,rfl⟩:=cI.1 he;rw [C] at L;omega
def gP (l:List aK) (least:Nat) (w:List UInt8):List (List UInt8):=if w.length≤1024∧(jC (az l least w) w.length 0).1≠0 then (iA (az l least w) w.length 0).map fun p=>bZ w p.1 p.2 else []
def eX (l:List aK) (least:Nat) (w:List UInt8):Nat×Bool:=if w= []∨1024 < w.length then (0,true) else if da < (jC (az l least w) w.length 0).2 then (0,false) else ((jC (az l least w) w.length 0).2,true)
section
variable {l:List aK} {least:Nat} {w:List UInt8}
theorem Kx (h:(jC (az l least w) w.length 0).1≠0):0 < w.length∧gu (az l least w) w.length 0:=by
 have h0:0 < w.length:=by
  rcases yx w.length with h1 | h1
  · rw [h1,sm] at h; exact absurd rfl h
  · exact h1
 exact ⟨h0,.inr ⟨h0,h⟩⟩
theorem Kw (hw:1024 < w.length):gP l least w= []:=by unfold gP; rw [if_neg ab]
end
end Go.Hb
end
section
namespace Go.Hb.jq
open Go.Hb.dN
open Go.Hb.fT
def fR (w:ah) (B k:Nat) (A:List (Bool×ag)) (l:List aK):Prop :=A.length=l.length∧∀ (i:Nat) q e,A[i]? =some q→l[i]? =some e→q.1=e.1∧Tg w 0 84 e.2.length q.2 (eZ e.2)∧(i < k→Tg w B 84 e.2.length q.2 (eZ e.2))
theorem eE.q {w:ah} {B B':Nat} {C:List (Bool×ag)} {l:List aK} (h:eE w B C l):fR w B' 0 C l:=⟨h.1,fun i q e A he=>⟨(h.2 i q e A he).1,(h.2 i q e A he).2.mono (iV _),fun hi=>by omega⟩⟩
theorem fR.p {w:ah} {B:Nat} {C:List (Bool×ag)} {l:List aK} (h:fR w B l.length C l):eE w B C l:=⟨h.1,fun i q e A he=>⟨(h.2 i q e A he).1,(h.2 i q e A he).2.2 (cI.1 he).1⟩⟩
theorem fR.md {F:Nat→Prop} {w w':ah} {B k:Nat} {I:List (Bool×ag)} {l:List aK} (h:fR w B k I l) (hm:Md F w w') (E:∀ k,F k→∀ cur z,w.heap[k]?≠some (.cells cur 84 z)):fR w' B k I l:=
 ⟨h.1,fun i q e C he=>⟨(h.2 i q e C he).1,Tg.kN (h.2 i q e C he).2.1 hm (fun k A _=>E k A),fun hi=>Tg.kN ((h.2 i q e C he).2.2 hi) hm fun k A _=>E k A⟩⟩
theorem fR.set {w:ah} {B k:Nat} {I:List (Bool×ag)} {l:List aK} {f:Bool} {v:ag} {e:aK} (h:fR w B k I l) (he:l[k]? =some e) (M:f=e.1) (E:Tg w B 84 e.2.length v (eZ e.2)):fR w B (k+1) (I.set k (f,v)) l:=by
 refine ⟨by rw [gn,h.1],fun i q r A hr=> ?_⟩;have U:=h.1;have O:=(cI.1 hr).1;by_cases C:k=i
 · subst C;rw [he] at hr; cases hr;rw [yo ab] at A; cases A;exact ⟨M,E.mono (iV _),fun _=>E⟩
 · rw [Ew C] at A;obtain ⟨h1,J,L⟩:=h.2 i q r A hr;exact ⟨h1,J,fun hi=>L ab⟩
theorem Cz:∀ (A:List (Bool×ag)) (k:Nat) (v:ag),k < A.length→(fq A).set (k*2 +1) v=fq (A.set k ((A.getD k (false,.nilFunc)).1,v))
 | [],k,v,h=>by simp at h
 | q::A,0,v,_=>by simp [fq]
 | q::A,k+1,v,h=>by
   have ih:=Cz A k v<|by simpa using h
   rw [yt,yn];show (bp q.1::q.2::fq A).set ((k+1)*2 +1) v= .bool q.1::q.2::fq _;rw [show (k+1)*2 +1=(k*2 +1)+1 +1 by omega,yt,yt,ih]
theorem Kf {w:ah} {B:Nat} {C:List (Bool×ag)} {l:List aK} (h:eE w B C l):(fq C).all eQ=true :=by
 rw [List.all_eq_true];intro v A;obtain ⟨q,I,A⟩:=List.mem_flatMap.1 A;obtain ⟨i,hi⟩:=List.getElem?_of_mem I;have L:=(cI.1 hi).1;have M:=h.1;have he:l[i]? =some (l[i]'ab):=bF ab;obtain ⟨_,E⟩:=h.2 i _ _ hi he;obtain ⟨a,c,J⟩:=E.slice;simp only [ej,List.not_mem_nil,or_false] at A;rcases A with rfl | rfl
 · rfl
 · rw [J]; rfl
theorem G0 (es:List (UInt8×Int)):(eZ es).all eQ=true :=Aw (fun _=>rfl) es
theorem JP (l:List (List UInt8×List UInt8)):(l.flatMap dY).all eQ=true :=Aw (fun _=>rfl) l
theorem Cc (l:List (List UInt8×List UInt8)):(l.flatMap dY).length=l.length*2:=sa (m:=2) (fun _=>rfl) l
theorem za {h:Array Obj} {a:Option bP} {n m:Nat} {xs:List ag} (C:a9 h a xs) (A:xs.length=n*m) (hm:0 < m) (ha:a=none):n=0:=by
 rcases yx n with h0 | h0
 · exact h0
 · exfalso;have E:xs≠[]:=fun e=>by
    rw [e] at A;have :0 < n*m:=Nat.mul_pos h0 hm;simp only [lA] at A; omega
   have :=a9.ok C E;rw [ha] at this; cases this
theorem vC {x y z:ag} {ws:List ag} {i:Nat} (hi:i < ws.length):([x,y,z]++ws).toArray[0 +3 +((i:Nat):Int).toNat*1]? =some (ws.getD i .nilFunc):=by
 rw [List.getElem?_toArray,show 0 +3 +((i:Nat):Int).toNat*1=i+1 +1 +1 from by omega,bY,bF hi];show ws[i]? =_;rw [bF hi]; rfl
theorem KR {l:List aK} {n:Nat} (h:n < l.length):l[n]? =some (aO l n):=by
 unfold aO;rw [bY,bF h]; rfl
theorem four {α:Type} {l:List α} (h:l.length=4):∃ a b c d,l= [a,b,c,d]:=by
 match l,h with
 | [a,b,c,d],_=>exact ⟨a,b,c,d,rfl⟩
theorem Tg.parts {w:ah} {B e n m:Nat} {v:ag} {xs:List ag} (h:Tg w B e n v xs) (C:xs.length=n*m) (hm:0 < m):∃ a c,v= .slice a n c∧a9 w.heap a xs∧(a=none→n=0):=by
 obtain ⟨a,c,rfl⟩:=h.slice;obtain ⟨_,A⟩:=h.pO;exact ⟨a,c,U,A,za A C hm⟩
theorem F6 (a:Option bP) (n c:Nat) (xs:List ag) (w:ah) (J:a9 w.heap a xs) (aa:xs.length=n*2) (ha:a=none→n=0) (h1:xs.all eQ=true) (hn:n≤1048576):
 bq ar 26 (bC [.slice a n c]) w (fun v w'=>bd w' w.heap.size 77 2 v n xs∧Wk w w'):=by
 refine enter func26 U ntmps26 U<|aT 9 U<|p (vb La U U)<|aI 2 U<|cb U (fun C=> ?_) fun C=> ?_;have O:a=none:=by simpa using C
 refine aH 7 U<|aQ U ?_;have V:=ha O;subst V;obtain rfl :=jV (show xs.length=0 by omega);exact ⟨gE _ _ _ _,Md.refl _ _⟩;refine aF 4 U<|e<|rI th fun ai an ak A I=> ?_;have E:=I w.heap.size ab;refine aj 1 U<|e<|ap th (E) U (by have :=A.size; omega) U (J.wk A.md) (aa) (h1) ab ab fun ad ae Z M am al=> ?_;have L:=Wk.own A.md E M<|aP _;refine p aR<|ax 3 U<|aQ U ?_;have ac:bd ae w.heap.size 77 2 ad n xs:=by simpa using Z
 exact ⟨ac,L⟩
theorem F7 (a:Option bP) (n c:Nat) (xs:List ag) (w:ah) (J:a9 w.heap a xs) (aa:xs.length=n*2) (ha:a=none→n=0) (h1:xs.all eQ=true) (hn:n≤1048576):
 bq ar 27 (bC [.slice a n c]) w (fun v w'=>bd w' w.heap.size 81 2 v n xs∧Wk w w'):=by
 refine enter func27 U ntmps27 U<|aT 9 U<|p (vb Lb U U)<|aI 2 U<|cb U (fun C=> ?_) fun C=> ?_;have O:a=none:=by simpa using C
 refine aH 7 U<|aQ U ?_;have V:=ha O;subst V;obtain rfl :=jV (show xs.length=0 by omega);exact ⟨gE _ _ _ _,Md.refl _ _⟩;refine aF 4 U<|e<|rI tj fun ai an ak A I=> ?_;have E:=I w.heap.size ab;refine aj 1 U<|e<|ap tj (E) U (by have :=A.size; omega) U (J.wk A.md) (aa) (h1) ab ab fun ad ae Z M am al=> ?_;have L:=Wk.own A.md E M<|aP _;refine p aR<|ax 3 U<|aQ U ?_;have ac:bd ae w.heap.size 81 2 ad n xs:=by simpa using Z
 exact ⟨ac,L⟩
theorem F5 (a:Option bP) (n c:Nat) (xs:List ag) (w:ah) (J:a9 w.heap a xs) (aa:xs.length=n*2) (ha:a=none→n=0) (h1:xs.all eQ=true) (hn:n≤1048576):
 bq ar 28 (bC [.slice a n c]) w (fun v w'=>bd w' w.heap.size 84 2 v n xs∧Wk w w'):=by
 refine enter func28 U ntmps28 U<|aT 9 U<|p (vb Lc U U)<|aI 2 U<|cb U (fun C=> ?_) fun C=> ?_;have O:a=none:=by simpa using C
 refine aH 7 U<|aQ U ?_;have V:=ha O;subst V;obtain rfl :=jV (show xs.length=0 by omega);exact ⟨gE _ _ _ _,Md.refl _ _⟩;refine aF 4 U<|e<|rI tl fun ai an ak A I=> ?_;have E:=I w.heap.size ab;refine aj 1 U<|e<|ap tl (E) U (by have :=A.size; omega) U (J.wk A.md) (aa) (h1) ab ab fun ad ae Z M am al=> ?_;have L:=Wk.own A.md E M<|aP _;refine p aR<|ax 3 U<|aQ U ?_;have ac:bd ae w.heap.size 84 2 ad n xs:=by simpa using Z
 exact ⟨ac,L⟩
theorem Fz (B aL:Nat) (b:dS) (s:List UInt8) (w:ah) (cg:iy w B aL b s) (az:b.Is s):
 bq ar 16 (bC [aY aL]) w (fun v w'=> ∃ cs,v= .agg cs.toArray∧lE w' w.heap.size cs b∧Wk w w'):=by
 obtain ⟨cs,b4,⟨bu,rc,vs,rfl,c0,bI,av⟩,hBk⟩:=cg;obtain ⟨aQ,aR,aS,aU,rfl⟩:=four c0;have cN:aQ.oneCell'=true :=by obtain ⟨a,c,h,_⟩:=(av 0 ab).ee; rw [show aQ=_ from h]; rfl
 have cO:aR.oneCell'=true :=by obtain ⟨a,c,h,_⟩:=(av 1 ab).ee; rw [show aR=_ from h]; rfl
 have cP:aS.oneCell'=true :=by obtain ⟨a,c,h,_⟩:=(av 2 ab).ee; rw [show aS=_ from h]; rfl
 have cQ:aU.oneCell'=true :=by obtain ⟨a,c,h,_⟩:=(av 3 ab).ee; rw [show aU=_ from h]; rfl
 have cU:bu=none→b.cF.length=0:=za bI (Cc _) aD;refine enter func16 U ntmps16 U<|aT 2 U<|e<|dB qR fun aV c5 c6 ba b7=> ?_;have db:=ba.size;refine aj 6 U<|p (jB qL U U)<|aI 2 U<|cf (U)<|aF 7 U<|p (eK lI U (U) (show ∀ j,j < 7→ay c5.heap aL (0 +j)=([aC (b.least),str b.tr,.slice bu b.cF.length rc,aQ,aR,aS,aU]:List ag)[j]? from fun j al=>by rw [cx,(Wk.B ba.md b4).ay]; exact fO<|by simpa using al)) ?_;refine e<|dB qR fun E dr c7 bb cb=> ?_;have dh:=bb.size;refine e<|ez mG U U U (by simp only [nQ,re,cN,cO,cP,cQ]; rfl) cb aD fun bZ a8 bD=> ?_;have bJ:Wk w bZ:=(ba.md.trans bb.md).trans' a8 fun k A h=>by omega
 have di:=a8.size;have b8:=a8.ak (Wk.ak bb.md b7) fun h=>by omega
 refine aj 5 U<|p (aw U<|(bg bD).trans U)<|e<|bo (F6 bu b.cF.length rc (b.cF.flatMap dY) bZ (bI.wk bJ) (Cc _) cU (JP _)<|by have :=az.Ja; omega) U ?_;rintro dn a5 ⟨bm,aZ⟩;obtain ⟨J,M,rfl⟩:=ew bm;have da:=aZ.size;have cA:=Wk.ak aZ bD;have b9:=Wk.ak aZ b8;refine aj 1 U<|e<|dg zm U U (v:= .slice J b.cF.length M) U cA (by simp) fun b0 a1 cc=> ?_;have dk:=a1.size;have ck:Wk w b0:=(bJ.trans aZ).trans' a1 fun k A h=>by omega
 have cS:bd b0 w.heap.size 77 2 (.slice J b.cF.length M) b.cF.length (b.cF.flatMap dY):=bG (kR bm ab) a1 fun k A h=>by have :=(cr bm A).1; omega
 have ca:=a1.ak b9 fun h=>by omega
 refine aI 9 U<|lp (fun ao b1 C=> ∃ (i:Nat) (ws:List ag),(i≤4)∧(ws.length=4)∧(C.heap[E]? =some (.cells ([aC (b.least),str b.tr,.slice J b.cF.length M]++ws).toArray 44 (0,0)))∧(C.heap[aV]? =some (.cells [.int .i64 0,str [],.slice none 0 0,.slice none 0 0,.slice none 0 0,.slice none 0 0,.slice none 0 0].toArray 44 (0,0)))∧(bd C w.heap.size 77 2 (.slice J b.cF.length M) b.cF.length<|b.cF.flatMap dY)∧(∀ j,j < i→eT C w.heap.size (ws.getD j .nilFunc) (b.an.getD j []))∧(∀ j,i≤j→j < 4→ws.getD j .nilFunc= [aQ,aR,aS,aU].getD j .nilFunc)∧(Wk w C)∧(E < C.heap.size)∧(Sl b1 [(0,aY aL),(2,aY aV),(3,aY E),(17,aC i)])∧(4 - i=ao)) _ ⟨0,[aQ,aR,aS,aU],ab,U,cc,ca,cS,(fun j al=>by omega),(fun j _ _=>rfl),ck,ab,U,U⟩ ?_;rintro ao b1 C ⟨i,ws,hi,bt,aG,aX,a3,am,hold,au,dm,cV,rfl⟩;refine bO cV<|cm 6 U<|cd U (fun cB=> ?_) fun cB=> ?_;refine cn 11 U ?_;obtain ⟨aM,cy,aE⟩:=(av i ab).wk au;obtain ⟨bw,bz,cY,ch,cK⟩:=Tg.parts (w:=C) (B:=B) (e:=81) (n:=(b.an.getD i []).length) (xs:=fq aM) cy (m:=2) (by rw [Cy,aE.1]) aD;have cI:(b.an.getD i []).length≤1048576:=(az.an _<|j5<|by rw [az.sB]; omega).2.1;have cE:ay C.heap E (0 +3 +((i:Nat):Int).toNat*1)=some (.slice bw (b.an.getD i []).length bz):=by rw [bg aG,vC ab,hold i (aP _) ab,cY]
 refine aF 4 U<|p (jc mC U U ab)<|p (aw U<|cE)<|e<|bo (F7 bw (b.an.getD i []).length bz (fq aM) C ch (by rw [Cy,aE.1]) cK (Kf aE) cI) U ?_;rintro dp dq ⟨bn,a0⟩;obtain ⟨L,V,rfl⟩:=ew bn;have dd:=a0.size;have bK:=Wk.ak a0 aG;refine aj 1 U<|p (jc mC U U ab)<|e<|dg zn U U (v:= .slice L (b.an.getD i []).length V) U bK (by simp only [cC,dL,lA,bt]; omega) fun aN a2 ce=> ?_;have dl:=a2.size;have bL:aN.heap[E]? =some (.cells ([aC (b.least),str b.tr,.slice J b.cF.length M]++ws.set i (.slice L (b.an.getD i []).length V)).toArray 44 (0,0)):=by rw [← xi]; exact ce
 have cR:bd aN C.heap.size 81 2 (.slice L (b.an.getD i []).length V) (b.an.getD i []).length (fq aM):=bG bn a2 fun k A h=>by have :=(cr bn A).1; omega
 have cq:Md (fun k=>k=E) C aN:=(a0.mono fun _ _ h=>h.elim).trans a2;have cG:ay aN.heap E (0 +3 +((i:Nat):Int).toNat*1)=some (.slice L (b.an.getD i []).length V):=by rw [bg bL,vC (by rw [gn]; omega),ov ab]
 have cv:fR aN w.heap.size 0 aM (b.an.getD i []):=fR.md (eE.q<|eE.wk aE a0) a2 fun k A cur z h=>by subst A; rw [bK] at h; cases h
 refine aj 6 U<|p (jc mC U U ab)<|p (aw U<|cG)<|aI 5 U<|lp (fun ao b2 I=> ∃ (k:Nat) (us:List (Bool×ag)),(k≤(b.an.getD i []).length)∧(us.length=(b.an.getD i []).length)∧(bd I C.heap.size 81 2 (.slice L (b.an.getD i []).length V) (b.an.getD i []).length<|fq us)∧(fR I w.heap.size k us<|b.an.getD i [])∧(I.heap[E]? =some (.cells ([aC (b.least),str b.tr,.slice J b.cF.length M]++ws.set i (.slice L (b.an.getD i []).length V)).toArray 44 (0,0)))∧(Md (fun k=>k=E) C I)∧(Sl b2 [(0,aY aL),(2,aY aV),(3,aY E),(4,aC i),(17,aC i),(32,aC ((b.an.getD i []).length)),(33,aC k)])∧((b.an.getD i []).length - k=ao)) _ ⟨0,aM,ab,aE.1,cR,cv,bL,cq,U,U⟩ ?_;rintro ao b2 I ⟨k,us,A,cX,aK,bc,bj,ae,cW,rfl⟩;refine bO cW<|cm 6 U<|cd U (fun cD=> ?_) fun cD=> ?_;refine cn 10 U ?_;have bN:ay I.heap E (0 +3 +((i:Nat):Int).toNat*1)=some (.slice L (b.an.getD i []).length V):=by rw [bg bj,vC (by rw [gn]; omega),ov ab]
 have bE:=(bU aK).2;obtain ⟨q,br⟩:∃ q,us[k]? =some q:=⟨_,bF ab⟩
 have bl:(b.an.getD i [])[k]? =some (aO (b.an.getD i []) k):=KR ab;have bR:=a9.ok bE<|oq (f:=fun q:Bool×ag=> [bp q.1,q.2]) (m:=2) (fun _=>rfl) aD ab;obtain ⟨cT,bT,_⟩:=bc.2 k q _ br bl;generalize bM:(aO (b.an.getD i []) k).2=es at bT;obtain ⟨bx,bA,cZ,ci,cL⟩:=Tg.parts (w:=I) (B:=0) (e:=84) (n:=es.length) (xs:=eZ es) bT (m:=2) (zX _) aD;have c8:es.length≤256:=by rw [← bM]; exact (az.an _<|j5<|by rw [az.sB]; omega).2.2 _ (mo bl) |>.1
 have cH:ay I.heap (bk L) (fo L+k*2 +1)=some (.slice bx es.length bA):=by
  rw [lO (f:=fun q:Bool×ag=> [bp q.1,q.2]) (m:=2) (fun _=>rfl) bE br 1 ab,← cZ]; rfl
 refine oB 16 fun O=>eu [0,1] U O<|fc 2 U (jc mC U U ab) O<|gM 3 U O (bN)<|eu [4,5,6] U O<|fc 7 U (jc mC U U ab) O<|gM 8 U O (bN)<|eu [9] U O<|fc 10 U (bf oo U U ab<|bR) O<|eu [11] U O<|gM 12 U O (cH)<|fG 13 U ai<|bo (F5 bx es.length bA (eZ es) I.drew (ci.wk (Md.refl _ _).drew) (zX _) cL (G0 _) ab) U ?_;rintro a4 bv ⟨bQ,ap⟩;have dj:=ap.size;have bi:(fun w'=>Wk I w') bv:=O.trans ap;refine ⟨bi,?_⟩;refine fG 14 U ai<|ik (bf oo U U ab<|bR) ⟨bi,?_⟩;refine fG 15 U ai<|ik (fa Hy U) ⟨bi,?_⟩;refine jK 16 U ai ai<|jk (j:=k*2 +1) (u:=a4) (aW aK<|Md.dc ap) zr U U (Jm bQ) (by rw [tR]; omega) ab fun bX aA bP=> ?_;have c9:=aA.size;have bW:∀ k,(bH L (b.an.getD i []).length V).ownBlock=some k→C.heap.size≤k:=fun k h=>(cr aK h).1;have a6:Wk I bv:=Md.dc ap;have ct:Md (fun k=>k=E) C bX:=(ae.trans<|a6.mono fun _ _ h=>h.elim).trans' aA fun k A h=>by have :=bW k h; omega
 have cz:Tg bv w.heap.size 84 es.length a4 (eZ es):=(Tg.oF bQ).mono<|by have :=au.size; have :=ae.size; show w.heap.size≤I.heap.size; omega
 have bV:=gx (e':=84) (aW aK a6) aD;have cu:fR bX w.heap.size (k+1) (us.set k (q.1,a4)) (b.an.getD i []):=fR.set (fR.md (fR.md bc a6 fun _ h=>h.elim) aA bV) bl cT<|by rw [bM]; exact Tg.kN cz aA fun k A _=>bV k A
 exact jL ai<|bh 6 U<|tn<|⟨_,ab,k+1,us.set k (q.1,a4),ab,(by rw [gn]; exact cX),(by rw [Cz _ _ _ ab,show us.getD k (false,.nilFunc)=q from by rw [bY,br]; rfl] at bP; exact bP),cu,(aA.ak (Wk.ak ap bj) fun h=>by have :=bW E h; omega),ct,U,U⟩
 refine aH 2 U<|cw<|dw 3 U ?_;obtain rfl :k=(b.an.getD i []).length:=ab;have co:Wk w I:=au.trans' ae fun k A h=>by omega
 have cM:∀ j,j < i+1→eT I w.heap.size ((ws.set i<|.slice L (b.an.getD i []).length V).getD j .nilFunc) (b.an.getD j []):=fun j al=>by
  by_cases h:j=i;subst h;rw [ov ab];refine ⟨us,?_,fR.p bc⟩;have :=Tg.oF<|kR aK (show w.heap.size≤C.heap.size from au.size);exact this;rw [qc ab];exact (am j ab).md ae fun k A hb cur z=>by subst A; rw [aG]; exact ⟨by simp,by simp⟩
 exact aH 4 U<|tn<|⟨_,ab,i+1,ws.set i (.slice L (b.an.getD i []).length V),ab,(by rw [gn]; exact bt),bj,(ae.ak aX fun h=>by omega),(bG a3 ae fun k A h=>gx a3 aD k A _ _<|h ▸ aG),cM,(fun j h1 b3=>by rw [qc ab]; exact hold j ab b3),co,(by have :=ae.size; omega),U,U⟩
 refine aH 2 U<|cw<|dw 3 U ?_;obtain rfl :i=4:=ab;obtain ⟨Z,aa,ac,ad,rfl⟩:=four bt;have c1:Z.oneCell'=true :=by obtain ⟨a,c,h,_⟩:=(am 0 ab).ee; rw [show Z=_ from h]; rfl
 have c2:aa.oneCell'=true :=by obtain ⟨a,c,h,_⟩:=(am 1 ab).ee; rw [show aa=_ from h]; rfl
 have c3:ac.oneCell'=true :=by obtain ⟨a,c,h,_⟩:=(am 2 ab).ee; rw [show ac=_ from h]; rfl
 have c4:ad.oneCell'=true :=by obtain ⟨a,c,h,_⟩:=(am 3 ab).ee; rw [show ad=_ from h]; rfl
 refine aF 1 U<|p (eK lI U (U) (show ∀ j,j < 7→ay C.heap E (0 +j)=([aC (b.least),str b.tr,.slice J b.cF.length M,Z,aa,ac,ad]:List ag)[j]? from fun j al=>by rw [cx,bg aG]; simp))<|e<|ez mG U U U (by simp only [nQ,re,c1,c2,c3,c4]; rfl) aX aD fun a5 a7 b5=> ?_;have cj:Wk w a5:=au.trans' a7 fun k A h=>by omega
 have cp:lE a5 w.heap.size [aC (b.least),str b.tr,.slice J b.cF.length M,Z,aa,ac,ad] b:=⟨J,M,[Z,aa,ac,ad],rfl,rfl,(bU<|bG a3 a7 fun k A h=>gx a3 aD k A _ _<|h ▸ aX).2,fun j al=>(am j al).md a7 fun k A hb cur z=>by subst A; rw [aX]; exact ⟨by simp,by simp⟩⟩
 have b6:aB a5.heap aV [aC (b.least),str b.tr,.slice J b.cF.length M,Z,aa,ac,ad]:=⟨_,b5⟩
 exact ax 3 U<|r7 U (iK (cs:= [aC (b.least),str b.tr,.slice J b.cF.length M,Z,aa,ac,ad]) U lI U fun j al=>b6.aJ j)<|⟨[aC (b.least),str b.tr,.slice J b.cF.length M,Z,aa,ac,ad],U,cp,cj⟩
end Go.Hb.jq
end
section
namespace Go.Hb
open Go.Hb.dN
open Go.Hb.jq Go.Hb.fT
theorem JB {es:List (UInt8×Int)} (hr:dU es) {m k:Nat} {d e:UInt8×Int} {x:Nat} (C:es[m]? =some d) (h:d.1.toNat < x) (I:k≤m) (he:es[k]? =some e):e.1.toNat < x:=by
 obtain ⟨h1,rfl⟩:=cI.1 C;obtain ⟨A,rfl⟩:=cI.1 he;by_cases E:k=m
 · subst E; exact h
 · have :=pD.1 hr k m A h1 ab;omega
theorem JA {es:List (UInt8×Int)} (hr:dU es) {m k:Nat} {d e:UInt8×Int} {x:Nat} (C:es[m]? =some d) (h:x≤d.1.toNat) (I:m≤k) (he:es[k]? =some e):x≤e.1.toNat:=by
 obtain ⟨h1,rfl⟩:=cI.1 C;obtain ⟨A,rfl⟩:=cI.1 he;by_cases E:m=k
 · subst E; exact h
 · have :=pD.1 hr m k h1 A ab;omega
theorem z8 {l:List aK} {least:Nat} {x:List UInt8} {i k:Nat} :(jb l least x i k).length≤k - i:=by
 unfold jb;exact cQ (Ez _ _)<|by rw [EB]; exact aP _
theorem BS (A:UInt8×Int) (c:UInt8) (w:ah):
 bq ar 86 (bC [.agg #[.int .u8 A.1.toNat,.int .i64 A.2],.int .u8 c.toNat]) w (fun v w'=>v= .int .i64 ((A.1.toNat:Int) - (c.toNat:Int))∧Wk w w'):=by
 have L:=ky A.1;have I:=ky c;exact enter func86 U ntmps86 U<|aT 2 U<|e<|n5 U fun J M I E C=>aj 6 U<|p (aw U<|C.aJ 0)<|p (fC u3 qN U<|gS ab)<|aj 1 U<|p (fC u3 qN U<|gS ab)<|ax 5 U<|aQ U<|⟨U,E.md⟩
theorem FC (a:Option bP) (c:Nat) (es:List (UInt8×Int)) (x:UInt8) (w:ah) (J:lF w.heap a es) (hr:dU es) (aw:es.length≤256):
 bq ar 85 (bC [.slice a es.length c,.int .u8 x.toNat,.func (.func 86) #[] #[]]) w (fun v w'=>(∃ r:Nat,v= .tuple #[aC r,.bool (decide (eJ x es < es.length))]∧(eJ x es < es.length→r=eJ x es))∧Wk w w'):=by
 refine enter func85 U ntmps85 U<|cm 22 U<|lp (fun O ai M=> ∃ (i j:Nat),(i≤j)∧(j≤es.length)∧(∀ (k:Nat) e,k < i→es[k]? =some e→e.1.toNat < x.toNat)∧(∀ (k:Nat) e,j≤k→es[k]? =some e→x.toNat≤e.1.toNat)∧(Wk w M)∧(Sl ai [(0,.slice a es.length c),(1,.int .u8 x.toNat),(2,.func (.func 86) #[] #[]),(8,aC (es.length)),(9,aC i),(10,aC j)])∧(j - i=O)) _ ⟨0,es.length,ab,ab,(fun k e h=>by omega),(fun k e h he=>by have :=(cI.1 he).1; omega),(Md.refl _ _),U,U⟩ ?_;rintro O ai M ⟨i,j,au,av,ad,Z,C,ap,rfl⟩;refine bO ap<|cm 8 U<|cd U (fun al=> ?_) fun al=> ?_;refine aF 7 U<|p (bD<|i+j)<|p (fC K9 tw U<|gB ab)<|p (shr U U aD<|Ko<|i+j)<|p (fC u3 Lk U<|gS ab)<|aI 4 U ?_;obtain ⟨A,E⟩:∃ d,es[(i+j) / 2]? =some d:=⟨_,bF ab⟩
 refine aF 4 U<|p (bf pY U U ab<|J.ok ab)<|p (eK uu U (U)<|(J.wk C).two E)<|aj 1 U<|e<|ze eo U (BS A x M) U ?_;rintro v30 az ⟨rfl,V⟩;refine aI 3 U<|cd U (fun am=> ?_) fun am=> ?_;exact aF 2 U<|p (bD<|(i+j) / 2 +1)<|ax 3 U<|tn<|⟨_,ab,(i+j) / 2 +1,j,ab,ab,(fun k e ac he=>JB hr E ab ab he),Z,(C.trans V),U,U⟩
 exact aH 5 U<|tn<|⟨_,ab,i,(i+j) / 2,ab,ab,ad,(fun k e ac he=>JA hr E ab ac he),(C.trans V),U,U⟩
 refine aH 2 U<|cw<|dw 3 U ?_;obtain rfl :i=j:=ab;have L:=HX hr ad Z;refine aF 6 U<|gs (t:=39) U (fun ao=> ?_) fun ao=> ?_;obtain ⟨A,E⟩:∃ d,es[i]? =some d:=⟨_,bF ab⟩
 refine aj 3 U<|bK U (bf pY U U ab<|J.ok ab)<|bK U (eK uu U (U)<|(J.wk C).two E)<|aj 1 U<|eg U U U<|ze eo U (BS A x M) U ?_;rintro ay aA ⟨rfl,ak⟩;refine ax 7 U<|f2 U U U ?_;have an:es.getD i (0,0)=A:=by rw [bY,E]; rfl
 rw [an] at L;have aa:i < es.length:=ab;have ag:A.1=x→eJ x es=i:=fun h=>L.1 ⟨aa,h⟩;have ae:A.1≠x→eJ x es=es.length:=fun h=>L.2 fun I=>h I.2;have hb:decide ((A.1.toNat:Int) - (x.toNat:Int)=0)=decide (eJ x es < es.length):=by
  by_cases h:A.1=x;rw [ag h,decide_eq_true aa,h]; exact decide_eq_true ab;rw [ae h,decide_eq_false (EL _)];exact decide_eq_false fun e=>h<|UInt8.toNat_inj.1 ab
 refine ⟨⟨i,by rw [← hb]; rfl,fun h=> ?_⟩,C.trans ak⟩;by_cases I:A.1=x;exact (ag I).symm;rw [ae I] at h; omega;refine aj 10 U<|p aR<|ax 3 U<|f2 U U U ?_;have hn:eJ x es=es.length:=L.2 fun h=>by omega
 exact ⟨⟨i,by rw [hn,decide_eq_false (EL _)]; rfl,fun h=>by omega⟩,C⟩
theorem Jn (a:Option bP) (c:Nat) (l:List aK) (x:List UInt8) (i least:Nat) (w:ah) (ay:gY w.heap a l) (aS:lG l) (h0:0 < l.length) (hr:∀ n,n < l.length→dU (aO l n).2) (bl:x.length≤1024) (hi:i≤x.length) (hle:least≤64):
 bq ar 46 (bC [.slice a l.length c,str x,aC i,aC least]) w (fun v w'=>bd w' w.heap.size 3 1 v (jE (az l least x) x.length i).length ((jE (az l least x) x.length i).map nv)∧Wk w w'):=by
 refine enter func46 U ntmps46 U<|cm 23 U<|lp (fun au aE M=> ∃ (k q:Nat) (C:ag),(i≤k)∧(k≤x.length)∧(fX l (bZ x i k)=some q)∧(q < l.length)∧(bd M w.heap.size 3 1 C (jb l least x i k).length<|(jb l least x i k).map nv)∧(gY M.heap a l)∧(Wk w M)∧(Sl aE [(0,.slice a l.length c),(1,str x),(2,aC i),(3,aC least),(9,C),(10,aC q),(11,aC k)])∧(x.length - k=au)) _ ⟨i,0,.slice none 0 0,ab,hi,(by rw [zg]; rfl),h0,(by rw [G3]; exact gE _ _ _ _),ay,(Md.refl _ _),U,U⟩ ?_;rintro au aE M ⟨k,q,C,O,bj,aB,ao,I,E,J,a3,rfl⟩;refine bO a3<|cm 9 U<|cd U (fun aV=> ?_) fun aV=> ?_;refine cn 5 U ?_;obtain ⟨aJ,aL,aA,ad⟩:=E.two ao;obtain ⟨a0,a1⟩:=aS.st ao;refine ie fun L=>aN [0,1] U L<|dd 2 U (bf oo U U ab<|E.ok ab) L<|aN [3] U L<|dx 4 U L (aA 1 ab)<|aN [5,6] U L<|dd 7 U (fE u9 U U ab) L<|he 8 U ai<|bo (FC aJ aL (aO l q).2 (x.getD k 0) M.drew ad (hr q ao) a0) U ?_;rintro v30 a7 ⟨⟨bp,rfl,a2⟩,A⟩;have A:=Md.dc A;have ak:(fun w'=>Wk M w') a7:=A;refine ⟨ak,?_⟩;refine dd 9 U (mv) ak<|aN [10,11,12,13] U ak<|hn ai<|dw 8 U<|cb U (fun al=> ?_) fun al=> ?_;have V:¬eJ (x.getD k 0) (aO l q).2 < (aO l q).2.length:=by simpa using al
 refine aH 4 U<|cw<|fD 4 U<|gL (C)<|p (ux (C) U)<|ax 3 U<|aQ U ?_;have hn:fX l (bZ x i<|k+1)=none:=by
  rw [vA O ab,aB];show fg l q (x.getD k 0)=none;unfold fg;rw [if_neg V]
 rw [z6 O ab (.inr hn)] at I;exact ⟨aW I A,J.trans A⟩;have V:eJ (x.getD k 0) (aO l q).2 < (aO l q).2.length:=by simpa using al
 obtain rfl :=a2 V;refine cn 3 U ?_;obtain ⟨⟨aG,z⟩,he⟩:∃ e,(aO l q).2[eJ (x.getD k 0) (aO l q).2]? =some e:=⟨_,bF V⟩
 obtain ⟨a4,a5⟩:=a1 _ _ he;obtain ⟨m,rfl⟩:∃ m:Nat,z=(m:Int):=⟨z.toNat,by simp only at a4; omega⟩
 simp only at a5;have ac:m < l.length:=ab;obtain ⟨bc,bg,aU,_⟩:=E.two ac;have aa:fX l (bZ x i<|k+1)=some m:=by
  rw [vA ab ab,aB];show fg l q (x.getD k 0)=_;unfold fg;rw [if_pos V,bY,he]; rfl
 have an:=BT (least:=least) O ab aa;have am:=z7 (l:=l) (least:=least) (w:=x) O;refine aF 3 U<|p (bf oo U U ab<|E.ok ab)<|aj 1 U<|p (aw U<|(ma A aA) 1 ab)<|aj 1 U<|p (bf pY U U ab<|ad.ok ab)<|aj 1 U<|p (aw U (show _=some (ba .i64 ((m:Nat):Int)) from (ad.wk A).to _ (aG,_) he))<|aj 7 U<|p (bf oo U U ab<|E.ok ab)<|aj 1 U<|p (aw U<|(ma A aU) 0 ab)<|aj 1 U<|gb (t:=49) U (fun Z=> ?_) fun Z=> ?_;refine aj 1 U<|bK U (bD<|k+1)<|aj 1 U<|bK U (oT<|k+1 - i)<|aI 5 U<|cd U (fun aX=> ?_) fun aX=> ?_;refine aF 1 U<|gL (C)<|aj 1 U<|p (bD<|k+1)<|e<|j1 qH U U fun bb br bh ae aM=> ?_;have bm:=ae.size;have aD:=aW (aW I A) ae.md;refine e<|ap qH (aD) U (by have :=J.size; have :=A.size; omega) U (a9.gh aM) (U) (U) (by have :=z8 (l:=l) (least:=least) (x:=x) (i:=i) (k:=k); omega) (by have :=z8 (l:=l) (least:=least) (x:=x) (i:=i) (k:=k); omega) fun a6 a8 aZ aT bn bi=> ?_;have av:Wk w a8:=Wk.own ((J.trans A).trans ae.md) aD aT<|aP _;exact p aR<|aj 5 U<|p (bD<|k+1)<|ax 2 U<|tn<|⟨_,ab,k+1,m,a6,ab,ab,aa,ac,(by rw [am,if_pos (show az l least x i (k+1)=true from by rw [an,Z,mg]; exact decide_eq_true ab),cC,List.map_append]; exact aZ),(ay.wk av),av,U,U⟩
 exact aF 5 U<|p (bD<|k+1)<|ax 2 U<|tn<|⟨_,ab,k+1,m,C,ab,ab,aa,ac,(by rw [am,if_neg (show ¬az l least x i (k+1)=true from by rw [an,Z,mg]; exact fun h=>absurd (of_decide_eq_true h) ab),nR]; exact aW I A),(E.wk A),(J.trans A),U,U⟩
 exact aj 15 U<|p (bD<|k+1)<|ax 2 U<|tn<|⟨_,ab,k+1,m,C,ab,ab,aa,ac,(by rw [am,if_neg (show ¬az l least x i (k+1)=true from by rw [an,Z,Bool.false_and]; exact di),nR]; exact aW I A),(E.wk A),(J.trans A),U,U⟩
 refine aH 2 U<|cw<|fD 4 U<|gL (C)<|p (ux (C) U)<|ax 3 U<|aQ U ?_;have aY:k=x.length:=ab;rw [z6 O ab (.inl aY)] at I;exact ⟨I,J⟩
end Go.Hb
end
section
namespace Go.Hb
open Go.Hb.dN
open Go.Hb.jq Go.Hb.fT
section
variable {l:List aK} {least:Nat} {x:List UInt8} {i j k q:Nat}
def jT (l:List aK) (least:Nat) (x:List UInt8) (j:Nat):Nat→Nat×Nat:=dV x.length (lR x.length) (j7 (az l least x) x.length) j
def jM (l:List aK) (least:Nat) (x:List UInt8) (j i k:Nat):Nat×Nat:=((jE (az l least x) x.length i).take k).foldl (fF x.length i<|jT l least x j) (0,0)
theorem H5 (h:(jE (az l least x) x.length i)[k]? =some q):jM l least x j i (k+1)=fF x.length i (jT l least x j) (jM l least x j i k) q:=by
 unfold jM;rw [yu,h,List.foldl_append]; rfl
theorem AT (f:Nat×Nat→Nat) (hi:i+j+1=x.length) (A:f (0,0)=0):(cB x.length fun q=>f<|jT l least x j q)=cB x.length fun q=>if q=i then f (jM l least x j i 0) else f (jT l least x j q):=by
 refine wY fun q C=> ?_;by_cases h:q=i
 · subst h;rw [if_pos rfl];unfold jT;rw [GS ab ab]; rfl
 · rw [if_neg h]
theorem AU (f:Nat×Nat→Nat) (hi:i+j+1=x.length) (A:k=(jE (az l least x) x.length i).length):(cB x.length fun q=>if q=i then f (jM l least x j i k) else f (jT l least x j q))=cB x.length fun q=>f (jT l least x (j+1) q):=by
 refine wY fun q C=> ?_;unfold jT;rw [dV];by_cases h:q=i
 · subst h;rw [if_pos rfl,if_pos ab];unfold jM j7;rw [A,yv]; rfl
 · rw [if_neg h,if_neg ab]
theorem sn (q:Nat) (A:j≤x.length):(jT l least x j q).1≤x.length∧(jT l least x j q).2≤da+1:=by
 have :=uY (pc:=az l least x) (n:=x.length) j q;unfold jT; omega
theorem H0 (A:j+1≤x.length):(jM l least x j i k).1≤x.length∧(jM l least x j i k).2≤da+1:=by
 have :=vJ (n:=x.length) (i:=i) (j:=j) (T:=jT l least x j) (fun q=>(uY (pc:=az l least x) (n:=x.length) j q).1) ((jE (az l least x) x.length i).take k) (0,0) ⟨by simp,by simp⟩;unfold jM; omega
end
theorem ox {n i k:Nat} {T:Nat→Nat×Nat} {m:Nat×Nat} (h:(k < n∧(T k).1=0)∨(i=0∧k=n)):fF n i T m k=m:=if_pos h
theorem xa {n i a b:Nat} {g:Nat→Nat} :(cB n fun k=>if k=i then a else if k=i then b else g k)=cB n fun k=>if k=i then a else g k:=wY fun k _=>by split <;> rfl
theorem wz {w:ah} {B e size n c b:Nat} {xs:List ag} (h:bd w B e size (.slice (some ⟨b,0,none⟩) n c) n xs):b < w.heap.size:=(cr h rfl).2
theorem fh {b n c k:Nat} (h:(bH (some ⟨b,0,none⟩) n c).ownBlock=some k):k=b:=(dM h).symm
theorem AS {pc:Nat→Nat→Bool} {n i:Nat} :(jE pc n i).length≤n - i:=by
 unfold jE;exact cQ (Ez _ _)<|by rw [EB]; exact aP _
theorem JL (n:Nat):(cW (n+1)<|ba .i64 0)=(cB n fun _=>0).map nv:=by
 rw [← JM,yr]; rfl
def EZ (w:ah) (B J:Nat) (l:List aK) (least:Nat) (x:List UInt8):Prop := ∃ A C E I,aB w.heap J [.slice (some ⟨A,0,none⟩) x.length x.length,.slice (some ⟨C,0,none⟩) (x.length+1) (x.length+1),.slice (some ⟨E,0,none⟩) (x.length+1) (x.length+1)]∧B≤J∧bd w B 47 1 (.slice (some ⟨A,0,none⟩) x.length x.length) x.length I∧
 (∀ i,i < x.length→bd w B 3 1 (I.getD i .nilFunc) (jE (az l least x) x.length i).length ((jE (az l least x) x.length i).map nv))∧
 bd w B 3 1 (.slice (some ⟨C,0,none⟩) (x.length+1)<|x.length+1) (x.length+1) ((cB x.length fun q=>(jC (az l least x) x.length q).1).map nv)∧bd w B 3 1 (.slice (some ⟨E,0,none⟩) (x.length+1)<|x.length+1) (x.length+1) ((cB x.length fun q=>(jC (az l least x) x.length q).2).map nv)
theorem A9 (B bV:Nat) (b:dS) (s x:List UInt8) (w:ah) (cR:iy w B bV b s) (a8:b.Is s) (dE:x.length≤1024):
 bq ar 24 (bC [aY bV,str x]) w (fun v w'=>(∃ cx,v=aY cx∧EZ w' w.heap.size cx (b.an.getD 1 []) b.least x)∧Wk w w'):=by
 have dz:=a8.an _<|j5 (l:=b.an) (i:=1) (d:= [])<|by rw [a8.sB]; decide
 obtain ⟨bp,ck,co⟩:=dz;have cZ:lG (b.an.getD 1 []):=⟨ck,co⟩
 obtain ⟨eo,c4⟩:=Kk bp;have dm:0 < (b.an.getD 1 []).length:=by unfold shaped at bp; simp only [aZ,decide_eq_true_eq] at bp; exact bp.1.1
 have dt:∀ n,n < (b.an.getD 1 []).length→dU (aO (b.an.getD 1 []) n).2:=fun n hn=>c4.B4 hn;refine enter func24 U ntmps24 U<|aT 7 U<|p mv<|aj 7 U<|p mv<|p (jB qL U U)<|aj 1 U<|gb (t:=16) U (fun h=>absurd (h.symm.trans<|U) di) fun d4=>aI 5 U<|cd U (fun h=>absurd h ab) fun d0=>aF 4 U<|p mv<|e<|bo (Fz B bV b s w cR a8) U ?_;rintro ep dN ⟨cs,rfl,⟨bW,rc,vs,rfl,dA,_,aV⟩,hE21⟩;obtain ⟨a3,dP,a4,a5,rfl⟩:=four dA;have dG:a3.oneCell'=true :=by obtain ⟨a,c,h,_⟩:=(aV 0 ab).ee; rw [show a3=_ from h]; rfl
 have dH:a4.oneCell'=true :=by obtain ⟨a,c,h,_⟩:=(aV 2 ab).ee; rw [show a4=_ from h]; rfl
 have dI:a5.oneCell'=true :=by obtain ⟨a,c,h,_⟩:=(aV 3 ab).ee; rw [show a5=_ from h]; rfl
 obtain ⟨av,cc,dF,d1,c5⟩:=(aV 1 ab).ee;obtain rfl :dP=_:=dF;have eh:=hE21.size;refine e<|dB qR fun aA er dX b6 cN=> ?_;have el:=b6.size;refine e<|ez mG U U U (show List.all [aC (b.least),str b.tr,.slice bW b.cF.length rc,a3,.slice av (b.an.getD 1 []).length cc,a4,a5] eQ=true by simp only [nQ,re,dG,dH,dI]; rfl) cN aD fun ap b4 cL=> ?_;have bT:=b4.size;have bv:Wk dN ap:=b6.md.trans' b4 fun k A h=>by omega
 have cM:aB ap.heap aA [aC (b.least),str b.tr,.slice bW b.cF.length rc,a3,.slice av (b.an.getD 1 []).length cc,a4,a5]:=⟨_,cL⟩
 have dQ:=c5.wk bv;refine aI 3 U<|ie fun aK=>aN [0,2] U aK<|dd 3 U (bD<|x.length+1) aK<|aN [5] U aK<|dd 6 U (bD<|x.length+1) aK<|IV 1 4 7 U U U U U U ai ai ai ai ai ai ai aD aD aD (wq (n:=x.length) (zv:= .slice none 0 0) Kt Mu U (fun σ' h=>(h 22 aD).trans U) (fun σ' h=>(h 22 aD).trans U) ab<|by unfold maxLen; omega) (wq (n:=x.length+1) (zv:= .int .i64 0) qH pb U (fun σ' h=>(h 25 aD).trans U) (fun σ' h=>(h 25 aD).trans U) ab<|by unfold maxLen; omega) (wq (n:=x.length+1) (zv:= .int .i64 0) qH pb U (fun σ' h=>(h 28 aD).trans U) (fun σ' h=>(h 28 aD).trans U) ab<|by unfold maxLen; omega) (fun b w w' h hm B aU=>aW (h B aU) hm) (fun b w w' h hm B aU=>aW (h B aU) hm) (fun b w w' h hm B aU=>aW (h B aU) hm) (fun w' hm=>aK.trans hm) fun V O M dO ck co d7 d9 ea eb ei b0 b7 b8 ca=> ?_;have cf:(fun w'=>Wk ap w') dO:=aK.trans b0;refine dd 8 U (eV (ps:= [(0,.slice (some ⟨V,0,none⟩) x.length x.length),(1,.slice (some ⟨O,0,none⟩) (x.length+1) (x.length+1)),(2,.slice (some ⟨M,0,none⟩) (x.length+1) (x.length+1))]) (L:= [.slice (some ⟨V,0,none⟩) x.length x.length,.slice (some ⟨O,0,none⟩) (x.length+1) (x.length+1),.slice (some ⟨M,0,none⟩) (x.length+1) (x.length+1)]) KG U<|U) cf<|he 9 U ai<|pM U fun ae bX dW aG cK=> ?_;have ej:=aG.size;have d2:ap.drew.heap.size=ap.heap.size:=rfl;have ch:aB bX.heap ae [.slice (some ⟨V,0,none⟩) x.length x.length,.slice (some ⟨O,0,none⟩) (x.length+1) (x.length+1),.slice (some ⟨M,0,none⟩) (x.length+1) (x.length+1)]:=⟨_,cK⟩
 have bu:Wk ap bX:=(Md.dc b0).trans aG.md;have c2:=aW (b7 w.heap.size<|by have :=bT; omega) aG.md;have b9:=aW (b8 w.heap.size<|by have :=bT; omega) aG.md;have bb:=aW (ca w.heap.size<|by have :=bT; omega) aG.md;rw [JL] at b9 bb;have dR:=wz<|b7 0 ab;have dT:=wz<|b8 0 ab;have dV:=wz<|ca 0 ab;have cg:(fun w'=>Wk ap w') bX:=cf.trans aG.md;refine ⟨cg,?_⟩;refine aN [10] U cg<|hn ai<|fD 6 U<|p (aw U<|ch.aJ 2)<|aj 1 U<|p (bf cE U U ab<|U)<|e<|jk (j:=x.length) (u:=nv 1) bb cG U U U (by simp [fo]) ab fun Z al cu=> ?_;have em:=al.size;have ds:bd Z w.heap.size 3 1 (.slice (some ⟨M,0,none⟩) (x.length+1)<|x.length+1) (x.length+1) ((cB x.length fun q=>(jT (b.an.getD 1 []) b.least x 0 q).2).map nv):=by
  rw [jY.symm,sT] at cu;have e:(cB x.length fun q=>(jT (b.an.getD 1 []) b.least x 0 q).2)=cB x.length fun k=>if k=x.length then 1 else 0:=rfl
  rw [e]; exact cu
 have b1:Wk w Z:=((hE21.trans bv).trans bu).trans' al fun k A h=>by have :=fh h; omega
 have c7:=al.B ch fun h=>by have :=fh h; omega
 have cP:=al.B (Wk.B bu cM) fun h=>by have :=fh h; omega
 have bl:bd Z w.heap.size 47 1 (.slice (some ⟨V,0,none⟩) x.length x.length) x.length (cW x.length<|.slice none 0 0):=bG c2 al fun k A h=>by have :=fh A; have :=fh h; omega
 have dq:bd Z w.heap.size 3 1 (.slice (some ⟨O,0,none⟩) (x.length+1)<|x.length+1) (x.length+1) ((cB x.length fun q=>(jT (b.an.getD 1 []) b.least x 0 q).1).map nv):=bG b9 al fun k A h=>by have :=fh A; have :=fh h; omega
 have cX:eT Z w.heap.size (.slice av (b.an.getD 1 []).length cc) (b.an.getD 1 []):=(((aV 1 ab).wk bv).wk bu).md al fun k A hb cur z=>⟨gx bb aD k A cur z,gx bb aD k A cur z⟩
 refine aI 11 U<|lp (fun aS cA C=> ∃ (j:Nat) (z:Int) (aE:List ag),(j≤x.length)∧(z=(x.length:Int) - 1 - (j:Int))∧(aB C.heap ae [.slice (some ⟨V,0,none⟩) x.length x.length,.slice (some ⟨O,0,none⟩) (x.length+1) (x.length+1),.slice (some ⟨M,0,none⟩) (x.length+1) (x.length+1)])∧(aB C.heap aA [aC (b.least),str b.tr,.slice bW b.cF.length rc,a3,.slice av (b.an.getD 1 []).length cc,a4,a5])∧(eT C w.heap.size (.slice av (b.an.getD 1 []).length cc)<|b.an.getD 1 [])∧(bd C w.heap.size 47 1 (.slice (some ⟨V,0,none⟩) x.length x.length) x.length aE)∧(∀ J,x.length - j≤J→J < x.length→bd C Z.heap.size 3 1 (aE.getD J .nilFunc) (jE (az (b.an.getD 1 []) b.least x) x.length J).length ((jE (az (b.an.getD 1 []) b.least x) x.length J).map nv))∧(bd C w.heap.size 3 1 (.slice (some ⟨O,0,none⟩) (x.length+1)<|x.length+1) (x.length+1)<|(cB x.length fun q=>(jT (b.an.getD 1 []) b.least x j q).1).map nv)∧(bd C w.heap.size 3 1 (.slice (some ⟨M,0,none⟩) (x.length+1)<|x.length+1) (x.length+1)<|(cB x.length fun q=>(jT (b.an.getD 1 []) b.least x j q).2).map nv)∧(Wk w C)∧(Z.heap.size≤C.heap.size)∧(Sl cA [(1,str x),(5,aC (x.length)),(6,aY aA),(7,aY ae),(8,.int .i64 z)])∧(x.length - j=aS)) _ ⟨0,(x.length:Int) - 1,cW x.length (.slice none 0 0),ab,ab,c7,cP,cX,bl,(fun i h1 bY=>by omega),dq,ds,b1,(aP _),U,U⟩ ?_;rintro aS cA C ⟨j,z,aE,d5,ef,bE,bt,b2,aL,cb,cq,ct,bZ,en,du,rfl⟩;refine bO du<|cm 7 U<|cd U (fun c9=> ?_) fun c9=> ?_;refine cn 5 U ?_;obtain ⟨i,rfl⟩:∃ i:Nat,z=(i:Int):=⟨z.toNat,ab⟩
 have bj:i+j+1=x.length:=ab;obtain ⟨_,_,cI,_,c6⟩:=b2.ee;cases cI;refine oB 14 fun am=>eu [0,1,2] U am<|gM 3 U am (bE.aJ 0)<|eu [4,5] U am<|fc 6 U (jc mC U U aD) am<|gM 7 U am (bt.aJ 4)<|eu [8,9,10] U am<|gM 11 U am (bt.aJ 0)<|fG 12 U ai<|bo (Jn av cc (b.an.getD 1 []) x i b.least C.drew c6 cZ dm dt dE ab a8.least.2) U ?_;rintro eq cy ⟨bR,cT⟩;obtain ⟨aa,eW,rfl⟩:=ew bR;have a6:Wk C cy:=Md.dc cT;have ek:=a6.size;have ce:(fun w'=>Wk C w') cy:=a6;refine ⟨ce,?_⟩;refine fG 13 U ai<|ik (bf vd U U ab<|U) ⟨ce,?_⟩;refine jK 14 U ai ai<|jk (j:=i) (u:= .slice aa (jE (az (b.an.getD 1 []) b.least x) x.length i).length eW) (aW aL a6) GB U U U (by simp [fo]) ab fun ad bx cp=> ?_;have eg:=bx.size;have ak:Md (fun k=>k=V) C ad:=(a6.mono fun _ _ h=>h.elim).trans<|bx.mono fun k _ h=>fh h;have bm:bd ad Z.heap.size 3 1 (.slice aa (jE (az (b.an.getD 1 []) b.least x) x.length i).length eW) (jE (az (b.an.getD 1 []) b.least x) x.length i).length ((jE (az (b.an.getD 1 []) b.least x) x.length i).map nv):=kR (bG bR bx (fun k A h=>by have :=(cr bR A).1; have :=fh h; have :C.drew.heap.size=C.heap.size:=rfl; omega)) (by have :C.drew.heap.size=C.heap.size:=rfl; omega);have bc:=ak.B bE fun h=>by omega
 have cO:=ak.B bt fun h=>by omega
 have cV:=b2.md ak fun k A hb cur z=>by subst A; exact ⟨gx aL aD _ rfl cur z,gx aL aD _ rfl cur z⟩
 have bM:bd ad w.heap.size 3 1 (.slice (some ⟨O,0,none⟩) (x.length+1)<|x.length+1) (x.length+1) ((cB x.length fun q=>if q=i then (jM (b.an.getD 1 []) b.least x j i 0).1 else ((jT (b.an.getD 1 []) b.least x j) q).1).map nv):=by
  have h:=bG cq ak fun k A h=>by have :=fh A; omega
  rw [AT fQ bj rfl] at h; exact h
 have bN:bd ad w.heap.size 3 1 (.slice (some ⟨M,0,none⟩) (x.length+1)<|x.length+1) (x.length+1) ((cB x.length fun q=>if q=i then (jM (b.an.getD 1 []) b.least x j i 0).2 else ((jT (b.an.getD 1 []) b.least x j) q).2).map nv):=by
  have h:=bG ct ak fun k A h=>by have :=fh A; omega
  rw [AT nV bj rfl] at h; exact h
 have cS:Wk w ad:=bZ.trans' ak fun k A h=>by omega
 refine jL ai<|fD 6 U<|p (aw U<|bc.aJ 0)<|aj 1 U<|p (bf vd U U ab<|U)<|p (aw U<|(show ay ad.heap V (0 +i*1)=some (.slice aa (jE (az (b.an.getD 1 []) b.least x) x.length i).length eW) from by rw [Nat.mul_one]; exact a9.ay (bU cp).2 _ _<|yo<|by have :=aL.1; omega)) ?_;refine aI 5 U<|lp (fun aS cC au=> ∃ (k:Nat),(k≤(jE (az (b.an.getD 1 []) b.least x) x.length i).length)∧(bd au w.heap.size 3 1 (.slice (some ⟨O,0,none⟩) (x.length+1)<|x.length+1) (x.length+1)<|(cB x.length fun q=>if q=i then (jM (b.an.getD 1 []) b.least x j i k).1 else ((jT (b.an.getD 1 []) b.least x j) q).1).map nv)∧(bd au w.heap.size 3 1 (.slice (some ⟨M,0,none⟩) (x.length+1)<|x.length+1) (x.length+1)<|(cB x.length fun q=>if q=i then (jM (b.an.getD 1 []) b.least x j i k).2 else ((jT (b.an.getD 1 []) b.least x j) q).2).map nv)∧(Md (fun q=>q=O∨q=M) ad au)∧(Sl cC [(1,str x),(5,aC (x.length)),(6,aY aA),(7,aY ae),(8,aC i),(64,.slice aa (jE (az (b.an.getD 1 []) b.least x) x.length i).length eW),(65,.int .i64 ((jE (az (b.an.getD 1 []) b.least x) x.length i).length:Nat)),(66,aC k)])∧((jE (az (b.an.getD 1 []) b.least x) x.length i).length - k=aS)) _ ⟨0,ab,bM,bN,(Md.refl _ _),U,U⟩ ?_;rintro aS cC au ⟨k,A,ao,aR,I,dv,rfl⟩;refine bO dv<|cm 6 U<|cd U (fun db=> ?_) fun db=> ?_;refine cn 5 U ?_;obtain ⟨q,bL⟩:∃ q,(jE (az (b.an.getD 1 []) b.least x) x.length i)[k]? =some q:=⟨_,bF ab⟩
 obtain ⟨ec,cv,ed⟩:=qn.1<|mo bL;have ac:=H5 (j:=j) bL;have bn:=bG bm I fun k A h=>by have :=(cr bm A).1; omega
 have bg:=I.B bc fun h=>by omega
 have cj:(cB x.length fun q=>if q=i then (jM (b.an.getD 1 []) b.least x j i k).1 else ((jT (b.an.getD 1 []) b.least x j) q).1)[q]? =some ((jT (b.an.getD 1 []) b.least x j) q).1:=by rw [jQ _ cv,if_neg ab]
 have dZ:=sn (l:=b.an.getD 1 []) (least:=b.least) (x:=x) q (show j≤x.length by omega);have dY:=H0 (l:=b.an.getD 1 []) (least:=b.least) (x:=x) (i:=i) (k:=k) (show j+1≤x.length by omega);have d8:da=1099511627776:=rfl;have d6:=AS (pc:=az (b.an.getD 1 []) b.least x) (n:=x.length) (i:=i);refine aF 1 U<|p (bf cE U U ab<|a9.ok (bU bn).2 fun h=>by have :=congrArg lz h; rw [List.length_map] at this; simp only [lA] at this; omega)<|p (aw U<|dk (bU bn).2 bL)<|aI 3 U ?_;refine fu (fun cD cz=> ∃ (dJ:Unit),(¬((q < x.length∧((jT (b.an.getD 1 []) b.least x j) q).1=0)∨(i=0∧q=x.length)))∧(Wk au cz)∧(Sl cD [(1,str x),(5,aC (x.length)),(6,aY aA),(7,aY ae),(8,aC i),(10,aC q),(64,.slice aa (jE (az (b.an.getD 1 []) b.least x) x.length i).length eW),(65,.int .i64 ((jE (az (b.an.getD 1 []) b.least x) x.length i).length:Nat)),(66,aC k)])) ?_ ?_;refine aT 6 U<|gs (t:=73) U (fun dh=> ?_) fun dh=> ?_;refine aj 3 U<|bK U (aw U<|bg.aJ 1)<|aj 1 U<|bK U (bf cE U U ab<|U)<|bK U (aw U<|dk (bU ao).2 cj)<|aj 3 U<|gs (t:=83) U (fun dj=> ?_) fun dj=> ?_;exact ax 12 U<|cw<|bh 6 U<|tn<|⟨_,ab,k+1,ab,(by rw [ac,ox ab]; exact ao),(by rw [ac,ox ab]; exact aR),I,U,U⟩
 refine aj 3 U<|gs (t:=86) U (fun bJ=> ?_) fun bJ=> ?_;refine aI 7 U<|cd U (fun bI=> ?_) fun bI=> ?_;exact aH 1 U<|cw<|bh 6 U<|tn<|⟨_,ab,k+1,ab,(by rw [ac,ox ab]; exact ao),(by rw [ac,ox ab]; exact aR),I,U,U⟩
 exact aH 1 U<|tn<|⟨(),ab,(Md.refl _ _),U⟩
 exact aj 4 U<|p (oL U)<|ax 4 U<|tn<|⟨(),ab,(Md.refl _ _),U⟩
 refine aj 9 U<|p mv<|aj 3 U<|gs (t:=86) U (fun bJ=> ?_) fun bJ=> ?_;refine aI 7 U<|cd U (fun bI=> ?_) fun bI=> ?_;exact aH 1 U<|cw<|bh 6 U<|tn<|⟨_,ab,k+1,ab,(by rw [ac,ox ab]; exact ao),(by rw [ac,ox ab]; exact aR),I,U,U⟩
 exact aH 1 U<|tn<|⟨(),ab,(Md.refl _ _),U⟩
 exact aj 4 U<|p (oL U)<|ax 4 U<|tn<|⟨(),ab,(Md.refl _ _),U⟩
 rintro cD cz ⟨dJ,bi,a7,dx⟩;refine bO dx ?_;refine fu (fun cH a2=> ∃ (dK:Unit),(bd a2 w.heap.size 3 1 (.slice (some ⟨O,0,none⟩) (x.length+1)<|x.length+1) (x.length+1)<|(cB x.length fun q=>if q=i then (jM (b.an.getD 1 []) b.least x j i<|k+1).1 else ((jT (b.an.getD 1 []) b.least x j) q).1).map nv)∧(bd a2 w.heap.size 3 1 (.slice (some ⟨M,0,none⟩) (x.length+1)<|x.length+1) (x.length+1)<|(cB x.length fun q=>if q=i then (jM (b.an.getD 1 []) b.least x j i k).2 else ((jT (b.an.getD 1 []) b.least x j) q).2).map nv)∧(Md (fun q=>q=O∨q=M) ad a2)∧(¬((q < x.length∧((jT (b.an.getD 1 []) b.least x j) q).1=0)∨(i=0∧q=x.length)))∧(Sl cH [(1,str x),(5,aC (x.length)),(6,aY aA),(7,aY ae),(8,aC i),(10,aC q),(64,.slice aa (jE (az (b.an.getD 1 []) b.least x) x.length i).length eW),(65,.int .i64 ((jE (az (b.an.getD 1 []) b.least x) x.length i).length:Nat)),(66,aC k)])) ?_ ?_;refine cm 1 U ?_;have a0:=Wk.B a7 bg;have aM:=aW ao a7;have bP:=aW aR a7;have bA:=I.trans<|a7.mono fun _ _ h=>h.elim;have ci:(cB x.length fun q=>if q=i then (jM (b.an.getD 1 []) b.least x j i k).1 else ((jT (b.an.getD 1 []) b.least x j) q).1)[i]? =some (jM (b.an.getD 1 []) b.least x j i k).1:=by rw [jQ _ ab,if_pos rfl]
 have bw:(jM (b.an.getD 1 []) b.least x j i<|k+1).1=if (jM (b.an.getD 1 []) b.least x j i k).1=0∨((jT (b.an.getD 1 []) b.least x j) q).1 +1≤(jM (b.an.getD 1 []) b.least x j i k).1 then ((jT (b.an.getD 1 []) b.least x j) q).1 +1 else (jM (b.an.getD 1 []) b.least x j i k).1:=by rw [ac]; unfold fF; rw [if_neg bi]
 refine aF 4 U<|p (aw U<|a0.aJ 1)<|aj 1 U<|p (bf cE U U ab<|U)<|p (aw U<|dk (bU aM).2 cj)<|p (bD<|((jT (b.an.getD 1 []) b.least x j) q).1 +1)<|aj 8 U<|p (aw U<|a0.aJ 1)<|aj 1 U<|p (bf cE U U ab<|U)<|p (aw U<|dk (bU aM).2 ci)<|aj 2 U<|gs (t:=108) U (fun dg=> ?_) fun dg=> ?_;refine aj 17 U<|p (aw U<|a0.aJ 1)<|aj 2 U<|p (bf cE U U ab<|U)<|e<|jk (j:=i) (u:=nv<|((jT (b.an.getD 1 []) b.least x j) q).1 +1) aM cG U U U (by simp [fo]) ab fun dL aX a1=> ?_;rw [jY.symm,sT,xa] at a1;have bz:=bA.trans<|aX.mono fun k _ h=> .inl<|fh h;exact ax 1 U<|tn<|⟨(),(by rw [bw,if_pos ab]; exact a1),(bG bP aX fun k A h=>by have :=fh A; have :=fh h; omega),bz,bi,U⟩
 refine aj 4 U<|bK U (aw U<|a0.aJ 1)<|aj 1 U<|bK U (bf cE U U ab<|U)<|bK U (aw U<|dk (bU aM).2 ci)<|aI 4 U<|cd U (fun c8=> ?_) fun c8=> ?_;refine aF 4 U<|p (aw U<|a0.aJ 1)<|aj 2 U<|p (bf cE U U ab<|U)<|e<|jk (j:=i) (u:=nv<|((jT (b.an.getD 1 []) b.least x j) q).1 +1) aM cG U U U (by simp [fo]) ab fun dL aX a1=> ?_;rw [jY.symm,sT,xa] at a1;have bz:=bA.trans<|aX.mono fun k _ h=> .inl<|fh h;exact ax 1 U<|tn<|⟨(),(by rw [bw,if_pos ab]; exact a1),(bG bP aX fun k A h=>by have :=fh A; have :=fh h; omega),bz,bi,U⟩
 exact aH 1 U<|tn<|⟨(),(by rw [bw,if_neg ab]; exact aM),bP,bA,bi,U⟩
 rintro cH a2 ⟨dK,dr,bQ,b5,dl,dy⟩;refine bO dy ?_;have c1:(jM (b.an.getD 1 []) b.least x j i<|k+1).2=min ((jM (b.an.getD 1 []) b.least x j i k).2 +((jT (b.an.getD 1 []) b.least x j) q).2) (da+1):=by rw [ac]; unfold fF; rw [if_neg dl]
 have dn:ba .i64 (min ((((jM (b.an.getD 1 []) b.least x j i k).2 +((jT (b.an.getD 1 []) b.least x j) q).2:Nat)):Int) 1099511627777)=nv (min ((jM (b.an.getD 1 []) b.least x j i k).2 +((jT (b.an.getD 1 []) b.least x j) q).2)<|da+1):=iv ab;have bH:=b5.B bc fun h=>by omega
 have dC:(cB x.length fun q=>if q=i then (jM (b.an.getD 1 []) b.least x j i k).2 else ((jT (b.an.getD 1 []) b.least x j) q).2)[i]? =some (jM (b.an.getD 1 []) b.least x j i k).2:=by rw [jQ _ ab,if_pos rfl]
 have dD:(cB x.length fun q=>if q=i then (jM (b.an.getD 1 []) b.least x j i k).2 else ((jT (b.an.getD 1 []) b.least x j) q).2)[q]? =some ((jT (b.an.getD 1 []) b.least x j) q).2:=by rw [jQ _ cv,if_neg ab]
 refine oB 22 fun E=>eu [0,1,2] U E<|gM 3 U E (bH.aJ 2)<|eu [4,5,6,7] U E<|gM 8 U E (bH.aJ 2)<|eu [9] U E<|fc 10 U (bf cE U U ab<|U) E<|gM 11 U E (dk (bU bQ).2 dC)<|eu [12,13,14] U E<|gM 15 U E (bH.aJ 2)<|eu [16] U E<|fc 17 U (bf cE U U ab<|U) E<|gM 18 U E (dk (bU bQ).2 dD)<|fc 19 U (bD<|(jM (b.an.getD 1 []) b.least x j i k).2 +((jT (b.an.getD 1 []) b.least x j) q).2) E<|fc 20 U (mn U U) E<|fG 21 U ai<|ik (bf cE U U ab<|U) ⟨E,?_⟩;refine jK 22 U ai ai<|jk (j:=i) (u:=nv<|min ((jM (b.an.getD 1 []) b.least x j i k).2 +((jT (b.an.getD 1 []) b.least x j) q).2)<|da+1) (aW bQ (Md.refl _ _).drew) cG U dn U (by simp [fo]) ab fun dM c0 bl=> ?_;rw [jY.symm,sT,xa] at bl;have b3:Md (fun k=>k=M) a2 dM:=Md.dc<|c0.mono fun k _ h=>fh h;exact jL ai<|bh 6 U<|tn<|⟨_,ab,k+1,ab,(bG dr b3 fun k A h=>by have :=fh A; omega),(by rw [c1]; exact bl),(b5.trans<|b3.mono fun _ _ h=> .inr h),U,U⟩
 refine aH 2 U<|cw<|dw 3 U ?_;obtain rfl :k=(jE (az (b.an.getD 1 []) b.least x) x.length i).length:=ab;have bg:=I.B bc fun h=>by omega
 have cQ:=I.B cO fun h=>by omega
 have cU:Wk w au:=cS.trans' I fun k A h=>by omega
 have dp:=bG cp I fun k A h=>by have :=fh A; omega
 have bn:=bG bm I fun k A h=>by have :=(cr bm A).1; omega
 rw [AU fQ bj rfl] at ao;rw [AU nV bj rfl] at aR;have cY:=cV.md I (fun k A hb cur z=>by
  rcases A with rfl | rfl;exact ⟨gx bM aD _ rfl cur z,gx bM aD _ rfl cur z⟩;exact ⟨gx bN aD _ rfl cur z,gx bN aD _ rfl cur z⟩)
 have d3:=aL.1;have c3:∀ J,x.length - (j+1)≤J→J < x.length→bd au Z.heap.size 3 1 ((aE.set i<|.slice aa (jE (az (b.an.getD 1 []) b.least x) x.length i).length eW).getD J .nilFunc) (jE (az (b.an.getD 1 []) b.least x) x.length J).length ((jE (az (b.an.getD 1 []) b.least x) x.length J).map nv):=fun J h1 bY=>by
  by_cases h:J=i;subst h;rw [ov ab]; exact bn;rw [qc ab];have br:=cb J ab bY;exact bG (bG br ak fun k A h=>by have :=(cr br A).1; omega) I fun k A h=>by have :=(cr br A).1; omega
 exact aH 5 U<|tn<|⟨_,ab,j+1,(i:Int) - 1,aE.set i (.slice aa (jE (az (b.an.getD 1 []) b.least x) x.length i).length eW),ab,ab,bg,cQ,cY,dp,c3,ao,aR,cU,(by have :=I.size; omega),U,U⟩
 refine aH 2 U<|cw<|bh 9 U<|aQ U ?_;obtain rfl :j=x.length:=ab;exact ⟨⟨ae,U,V,O,M,aE,bE,ab,aL,fun i hi=>kR (cb i ab hi) b1.size,cq,ct⟩,bZ⟩
end Go.Hb
end
