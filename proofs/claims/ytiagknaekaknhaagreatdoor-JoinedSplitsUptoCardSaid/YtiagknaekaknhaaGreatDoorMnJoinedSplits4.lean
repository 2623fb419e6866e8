/-
  Walks and plain laws that the law rests on, laid together. No conditions but those that each theorem names.
-/
import Derived.Test.YtiagknaekaknhaaGreatDoorMnJoinedSplits3
set_option linter.unusedVariables false
set_option maxRecDepth 20000
set_option maxHeartbeats 1000000
open Array renaming getElem?_eq_some_iff→dm
open BitVec renaming ofInt→ic,ofInt_natCast→DC,toNat_ofNat→DD
open Bool renaming and_eq_true→a0,noConfusion→dn,true_and→pf
open Classical renaming byContradiction→DG,not_not→qT
open Go renaming Addr→bR,Program→au,Value→ag,World→ah
open Go.IntKind renaming u64→nN,u8→pj
open Go.Proofs.Tryz renaming prog→ar
open Go.Value renaming bool→bq,int→bd,oneCell'→eO,pointer→tS,slice→bE,tuple→nQ
open Go.World renaming ownsRow→ba,ownsRow_nil→ez
open Int renaming toNat_natCast→po
open List renaming all_cons→nR,all_nil→q9,append_nil→nS,drop_eq_nil_of_le→Eg,drop_take→Eh,eq_nil_of_length_eq_zero→lz,getD_cons_succ→yp,getD_cons_zero→tU,getD_eq_getElem?_getD→b9,getElem?_append_left→fJ,getElem?_append_right→gk,getElem?_drop→ik,getElem?_eq_getElem→bG,getElem?_eq_some_iff→cK,getElem?_map→fq,getElem?_set_ne→En,getElem?_set_self→yq,length→jh,length_append→cz,length_cons→dP,length_drop→ji,length_filter_le→Er,length_map→me,length_nil→lB,length_range'→Es,length_set→gl,length_take→dB,map_replicate→yt,map_set→jQ,mem_cons→ei,mem_cons_of_mem→gR,mem_cons_self→gS,mem_of_getElem?→mi,nil_append→uc,pairwise_iff_getElem→pD,replicate→cZ,set_cons_succ→yv,take_add_one→yw,take_length→yx,toArray→bD
open Nat renaming beq→aN,blt→aD,eq_of_beq_eq_true→bO,eq_zero_or_pos→yz,le_refl→aQ,le_trans→cS,lt_irrefl→ED,lt_or_ge→dF,mod_eq_of_lt→yA,mul_comm→EF,mul_le_mul_left→EG,pow_le_pow_right→rl,sub_self→yB,zero_add→cM,zero_le→fK
open Option renaming isSome_iff_exists→mu
open Option.some renaming inj→dq
open Prod renaming fst→fL,snd→nV
open UInt8 renaming toNat_lt→ks
open Go.Proofs.Tryz
open Go.Proofs

section
namespace Go.Hb
open Go.RowKit
def z6:Ck→Ck→Bool
 | .a,.a=>true
 | .z,.z=>true
 | .x,.x=>true
 | _,_=>false
def rX:List (AV×AV)→List (AV×AV)→Bool
 | [],[]=>true
 | p::l,q::m=>cond (eG p.1 q.1 && eG p.2 q.2) (rX l m) false
 | _,_=>false
def u0:AO→AO→Bool
 | .cells l e fz ex,.cells l' e' fz' ex'=>(aN e e' && aN fz fz') && (z6 ex ex' && jv l l')
 | .map l,.map m=>rX l m
 | _,_=>false
theorem GS:∀ {c d:Ck},z6 c d=true→c=d
 | .a,.a,_ | .z,.z,_ | .x,.x,_=>rfl
theorem z5:∀ {a b:List (AV×AV)},rX a b=true→a=b
 | [],[],_=>rfl
 | p::l,q::m,h=>by
   unfold rX at h;cases hk:(eG p.1 q.1 && eG p.2 q.2)
   · rw [hk] at h; cases h
   · rw [hk] at h;simp only [a0] at hk;rw [z5 h,Prod.ext (og hk.1) (og hk.2)]
theorem GR {a b:AO} (h:u0 a b=true):a=b:=by
 unfold u0 at h;split at h
 · simp only [a0] at h;rw [bO h.1.1,bO h.1.2,GS h.2.1,mJ h.2.2]
 · rw [z5 h]
 · cases h
def iF:Tr AO→Tr AO→Bool
 | .nil,_=>true
 | .nd l none r,.nil=>iF l .nil && iF r .nil
 | .nd _ (some _) _,.nil=>false
 | .nd l none r,.nd l' _ r'=>iF l l' && iF r r'
 | .nd l (some o) r,.nd l' (some o') r'=>u0 o o' && (iF l l' && iF r r')
 | .nd _ (some _) _,.nd _ none _=>false
theorem kY:∀ {a b:Tr AO},iF a b=true→∀ {i:Nat} {o:AO},a.get i=some o→b.get i=some o
 | .nil,_,_,i,o,hi=>by rw [Tr.get_nil] at hi; cases hi
 | .nd l none r,.nil,h,i,o,hi=>by
   simp only [iF,a0] at h;cases i with
   | zero=>simp [Tr.get] at hi
   | succ n=>
     simp only [Tr.get] at hi;cases hb:aN (n % 2) 0
     · rw [hb] at hi; have :=kY h.2 hi; rw [Tr.get_nil] at this; cases this
     · rw [hb] at hi; have :=kY h.1 hi; rw [Tr.get_nil] at this; cases this
 | .nd l none r,.nd l' v' r',h,i,o,hi=>by
   simp only [iF,a0] at h;cases i with
   | zero=>simp [Tr.get] at hi
   | succ n=>
     simp only [Tr.get] at hi ⊢;cases hb:aN (n % 2) 0
     · rw [hb] at hi; exact kY h.2 hi
     · rw [hb] at hi; exact kY h.1 hi
 | .nd l (some u) r,.nd l' (some u') r',h,i,o,hi=>by
   simp only [iF,a0] at h;cases i with
   | zero=>
     simp only [Tr.get] at hi ⊢;rw [← GR h.1]; exact hi
   | succ n=>
     simp only [Tr.get] at hi ⊢;cases hb:aN (n % 2) 0
     · rw [hb] at hi; exact kY h.2.2 hi
     · rw [hb] at hi; exact kY h.2.1 hi
def Tr.lf {α:Type} :Tr α→Tr α
 | .nil=> .nil
 | .nd l _ _=>l
def Tr.rt {α:Type} :Tr α→Tr α
 | .nil=> .nil
 | .nd _ _ r=>r
def Tr.vl {α:Type} :Tr α→Option α
 | .nil=>none
 | .nd _ v _=>v
theorem Tr.Ay {α:Type} (t:Tr α):t.get 0=t.vl:=by cases t <;> rfl
theorem Tr.vA {α:Type} (t:Tr α) (n:Nat):t.get (n+1)=cond (aN (n % 2) 0) (t.lf.get<|n / 2) (t.rt.get<|n / 2):=by
 cases t
 · simp only [Tr.lf,Tr.rt,Tr.get_nil]; cases aN (n % 2) 0 <;> rfl
 · rfl
def qq (v b c:Option AO):Option AO:=match c with
 | some o=>some o
 | none=>match b with
   | some _=>none
   | none=>v
def lY:Tr AO→Tr AO→Tr AO→Tr AO
 | .nil,_,c=>c
 | .nd l v r,b,c=> .nd (lY l b.lf c.lf) (qq v b.vl c.vl)<|lY r b.rt c.rt
theorem wh:∀ (a b c:Tr AO) (i:Nat),(∀ o,b.get i=some o→a.get i=some o)→(lY a b c).get i=qq (a.get i) (b.get i) (c.get i)
 | .nil,b,c,i,hb=>by
   have :b.get i=none:=by
    cases hx:b.get i with
    | none=>rfl
    | some o=>have :=hb o hx; rw [Tr.get_nil] at this; cases this
   rw [Tr.get_nil,this];show c.get i=_;unfold qq;cases c.get i <;> rfl
 | .nd l v r,b,c,0,_=>by
   rw [Tr.Ay b,Tr.Ay c]; rfl
 | .nd l v r,b,c,n+1,hb=>by
   rw [Tr.vA b,Tr.vA c];rw [Tr.vA b] at hb;show cond (aN (n % 2) 0) ((lY l b.lf c.lf).get<|n / 2) ((lY r b.rt c.rt).get<|n / 2)=qq (cond (aN (n % 2) 0) (l.get<|n / 2)<|r.get<|n / 2) _ _;have A:∀ o,cond (aN (n % 2) 0) (b.lf.get<|n / 2) (b.rt.get<|n / 2)=some o→cond (aN (n % 2) 0) (l.get<|n / 2) (r.get<|n / 2)=some o:=hb;cases hn:aN (n % 2) 0
   · rw [hn] at A; exact wh r b.rt c.rt _ A
   · rw [hn] at A; exact wh l b.lf c.lf _ A
def cX:List (Nat×AO)→Tr AO
 | []=> .nil
 | p::l=>(cX l).set p.1 p.2
section
variable {P:au} {G:Nat} {X:Xt} {T:Nat} {r:Rn} {h h0 h1 h':Hp} {w:ah}
theorem HR.less (hr:HR P G r T h w) (A:∀ i o,h0.t.get i=some o→h.t.get i=some o) (hn:h0.nx=h.nx):HR P G r T h0 w:=
 ⟨fun i o hi=>hr.live i o (A i o hi),fun i j o C q q' hi E=>hr.inj i j o C q q' (A i o hi) (A j C E),fun i hi=>hr.new i ab,hr.eX,by rw [hn]; exact hr.base⟩
theorem Fr.less {g k:Nat} (I:∀ i o,h0.t.get i=some o→h.t.get i=some o) (E:Fr g r h0 k):Fr g r h k:=by
 obtain ⟨i,o,q,h1,A,C⟩:=E;exact ⟨i,o,q,h1,I i o A,C⟩
theorem jl.less {f:Nat} {args:List AV} {v:AV} (A:jl P G f args h0 v h') (C:∀ i o,h1.t.get i=some o→h'.t.get i=some o) (hn:h1.nx=h'.nx):jl P G f args h0 v h1:=by
 obtain ⟨n,A⟩:=A;refine ⟨ab,fun T r w L hT hr E=>(A T r w L ab hr E).mono fun u w' hu=> ?_⟩;obtain ⟨r',I,st⟩:=hu;exact ⟨r',I,st.le,st.hr.less C hn,ab,st.md,fun g M k O J=>st.dR g M k O (J.less C),fun i hi=>st.out i ab⟩
theorem jl.more {f:Nat} {args:List AV} {v:AV} {ac:Hp} (ao:jl P G f args ac v h1) (ah:∀ i o,ac.t.get i=some o→h.t.get i=some o) (aK:∀ i o,h0.t.get i=some o→h.t.get i=some o) (ay:∀ i,h0.t.get i=none→ac.t.get i=none∨i < G) (hn:h.nx=ac.nx):jl P G f args h v ⟨lY h.t h0.t h1.t,h1.nx⟩:=by
 obtain ⟨n,ao⟩:=ao;refine ⟨by show h.nx≤h1.nx; omega,fun T r w L hT hr aF=>(ao T r w L hT (hr.less ah hn.symm) aF).mono fun u w' hu=> ?_⟩;obtain ⟨r',aG,st⟩:=hu;have ad:∀ {i o},(lY h.t h0.t h1.t).get i=some o→h1.t.get i=some o∨(h.t.get i=some o∧h0.t.get i=none):=fun {i o} hi=>by
  rw [wh _ _ _ _ (fun o=>aK i o)] at hi;unfold qq at hi;split at hi
  · rename_i A; rw [A]; exact .inl hi
  · split at hi
    · cases hi
    · rename_i A C; exact .inr ⟨hi,C⟩
 have ai:∀ {i o},h.t.get i=some o→h0.t.get i=none→∃ q,r i=some q∧q.ak < w.heap.size∧OR P r q o w.heap[q.ak]?∧¬Fr G r ac q.ak:=fun {i o} hi A=>by
  obtain ⟨q,ag,ar⟩:=hr.live i o hi;refine ⟨q,ag,hr.lt hi ag,ar,fun ⟨i2,au,Z,al,E,J,U⟩=> ?_⟩;have :=hr.inj i2 i au o Z q (ah _ _ E) hi J ag U;subst this;rcases ay _ A with C | C
  · rw [C] at E; cases E
  · omega
 refine ⟨r',aG,st.le,⟨fun i o hi=> ?_,fun i j o V q q' hi ae I E he=> ?_,fun i hi=>st.hr.new i hi,st.hr.eX,st.hr.base⟩,by show h.nx≤h1.nx; omega,st.md.mono fun k _ ap=>ap.less ah,fun g aH k aJ ap=> ?_,fun i hi=>st.out i hi⟩
 · rcases ad hi with A | ⟨A,C⟩
   · exact st.hr.live i o A
   · obtain ⟨q,ag,aj,ar,aq⟩:=ai A C;refine ⟨q,st.le _ _ ag,?_⟩;rw [st.md.dH _ aj aq];exact ar.le st.le
 · have aC:∀ {i j o V q q'},h1.t.get i=some o→h.t.get j=some V→h0.t.get j=none→r' i=some q→r' j=some q'→q.ak=q'.ak→i=j:=fun {i j o V q q'} hi ae az I E he=>by
    obtain ⟨Z,O,aj,_,aq⟩:=ai ae az;have :=st.le _ _ O;rw [E] at this; cases this;by_cases aA:j < G
    · by_cases aI:i < G
      · obtain ⟨m1,J⟩:=st.hr.eX i aI;obtain ⟨aL,U⟩:=st.hr.eX j aA;rw [I] at J; cases J;rw [E] at U; cases U;exact he
      · exact absurd (st.dR G (aQ _) q'.ak aj ⟨i,o,q,ab,hi,I,he⟩) aq
    · obtain ⟨i2,au,Z,_,J,U,aD⟩:=st.dR 0 (fK _) q'.ak aj ⟨i,o,q,fK _,hi,I,he⟩;have :=hr.inj i2 j au V Z q' (ah _ _ J) ae U O aD;subst this;rcases ay _ az with C | C
      · rw [C] at J; cases J
      · exact absurd C aA
   rcases ad hi with A | ⟨A,C⟩
   · rcases ad ae with M | ⟨M,am⟩
     · exact st.hr.inj i j o V q q' A M I E he
     · exact aC A M am I E he
   · rcases ad ae with M | ⟨M,am⟩
     · exact (aC M A C E I he.symm).symm
     · obtain ⟨Z,O,_⟩:=ai A C;obtain ⟨aM,aB,_⟩:=ai M am;have aa:=st.le _ _ O;rw [I] at aa; cases aa;have av:=st.le _ _ aB;rw [E] at av; cases av;exact hr.inj i j o V q q' A M O aB he
 · obtain ⟨i,o,q,al,aE,aw,ax⟩:=ap;rcases ad aE with A | ⟨A,C⟩
   · exact (st.dR g aH k aJ ⟨i,o,q,al,A,aw,ax⟩).less ah
   · obtain ⟨Z,O,_⟩:=ai A C;have aa:=st.le _ _ O;rw [aw] at aa; cases aa;exact ⟨i,o,q,al,A,O,ax⟩
def qD (G T:Nat) (E:Nat→Nat) (b:Tr AO):List Nat→Tr AO
 | []=>b
 | g::l=>(qD G T E b l).set g<|.cells [.fk T (.ptr (G+g) 0)] (E g) 0 .x
theorem Cd {E:Nat→Nat} {b:Tr AO} {i:Nat} :∀ {l:List Nat},(∀ g∈l,aD g cm=true)→(qD G T E b l).get i=if i∈l then some (.cells [.fk T (.ptr (G+i) 0)] (E i) 0 .x) else b.get i
 | [],_=>by simp [qD]
 | g::l,hl=>by
   simp only [qD];rw [Tr.kE _ _ _ _ (hl g gS),Cd (fun g A=>hl g<|gR _ A)];by_cases h1:i=g
   · subst h1; simp
   · simp [h1]
def tf (G T:Nat) (t:Tr AO):List Nat→Bool
 | []=>true
 | g::l=>match t.get g with
   | some (.cells [.fk A (.ptr b 0)] _ 0 .x)=>cond ((aD g G && aD g cm) && (aN A T && aN b (G+g))) (tf G T t l) false
   | _=>false
def pT (t:Tr AO) (g:Nat):Nat:=match t.get g with
 | some (.cells _ e _ _)=>e
 | _=>0
theorem Cj {t:Tr AO} :∀ {l:List Nat},tf G T t l=true→∀ g∈l,g < G∧aD g cm=true∧t.get g=some (.cells [.fk T (.ptr (G+g) 0)] (pT t g) 0 .x)
 | [],_,g,hg=>nomatch hg
 | a::l,h,g,hg=>by
   unfold tf at h;split at h
   · rename_i C b e A;have h1:((aD a G && aD a cm) && (aN C T && aN b (G+a)))=true :=by
      cases hx:((aD a G && aD a cm) && (aN C T && aN b (G+a)))
      · rw [hx] at h; cases h
      · rfl
     rw [h1] at h;simp only [a0] at h1;rcases ei.1 hg with rfl | E
     · obtain rfl :=bO h1.2.1;obtain rfl :=bO h1.2.2;refine ⟨cB.1 h1.1.1,h1.1.2,?_⟩;rw [A];simp only [pT,A]
     · exact Cj h g E
   · cases h
structure Mm where
 f:Nat
 args:List AV
 h0:Hp
 v:AV
 h1:Hp
def Be (G T:Nat) (S:List Nat) (m:Mm) (f:Nat) (args:List AV) (h:Hp):Option (AV×Hp):=cond (aN f m.f) (cond (jv args m.args && (aN h.nx m.h0.nx && (iF m.h0.t h.t && tf G T h.t S))) (some (m.v,⟨lY h.t m.h0.t m.h1.t,m.h1.nx⟩)) none) none
def sy (G T:Nat) (S:List Nat) (f:Nat) (args:List AV) (h:Hp):List Mm→Option (AV×Hp)
 | []=>none
 | m::l=>match Be G T S m f args h with
   | some x=>some x
   | none=>sy G T S f args h l
def Mm.hp (G T:Nat) (S:List Nat) (m:Mm) (E:Nat→Nat):Hp:=⟨qD G T E m.h0.t S,m.h0.nx⟩
def Mm.Ok (P:au) (G T:Nat) (S:List Nat) (m:Mm):Prop :=(∀ E,jl P G m.f m.args (m.hp G T S E) m.v m.h1)∧∃ fn c,P.funcs[m.f]? =some fn∧fn.body=some c
variable {S:List Nat}
theorem vX:∀ {l:List Mm},(∀ m∈l,m.Ok P G T S)→∀ {f:Nat} {args:List AV} {v:AV},sy G T S f args h l=some (v,h')→jl P G f args h v h'∧∃ fn c,P.funcs[f]? =some fn∧fn.body=some c
 | [],_,f,args,v,hf=>by cases hf
 | m::l,hl,f,args,v,hf=>by
   unfold sy at hf;split at hf
   · rename_i x A;obtain rfl :=dq hf;unfold Be at A;replace A:=aY A; obtain ⟨I,A⟩:=A;replace A:=aY A; obtain ⟨C,A⟩:=A;cases A;simp only [a0] at C;obtain rfl :=bO I;obtain rfl :=mJ C.1;obtain ⟨J,hb⟩:=hl m gS;have E:=Cj C.2.2.2;have hT:∀ i,(m.hp G T S<|pT h.t).t.get i=if i∈S then some (.cells [.fk T (.ptr (G+i) 0)] (pT h.t i) 0 .x) else m.h0.t.get i:=fun i=>Cd fun g L=>(E g L).2.1
     refine ⟨(J<|pT h.t).more (fun i o hi=> ?_) (fun i o hi=>kY C.2.2.1 hi) (fun i hi=> ?_) (bO C.2.1),hb⟩
     · rw [hT] at hi;split at hi
       · rename_i hm;rw [← hi]; exact (E i hm).2.2
       · exact kY C.2.2.1 hi
     · rw [hT];split
       · rename_i hm;exact .inr (E i hm).1
       · exact .inl hi
   · exact vX (fun m hm=>hl m<|gR _ hm) hf
def dz (P:au) (G:Nat) (X:Xt) (T:Nat) (S:List Nat) (M:List Mm):Nat→Tk→Rs
 | 0,_=> .no
 | n+1,.cl f args h=>match sy G T S f args h M with
   | some (v,h')=> .rv v h'
   | none=>fg P G X (dz P G X T S M n)<|.cl f args h
 | n+1,t=>fg P G X (dz P G X T S M n) t
theorem Af {M:List Mm} (E:∀ m∈M,m.Ok P G T S):∀ (k:Nat),(∀ f args h v h',dz P G X T S M k (.cl f args h)= .rv v h'→∃ fn c,P.funcs[f]? =some fn∧fn.body=some c)∧(∀ f args h v h',dz P G X T S M k (.df f args h)= .rv v h'→∃ fn c,P.funcs[f]? =some fn∧fn.body=some c)
 | 0=>⟨fun f args h v h' A=>(by cases A),fun f args h v h' A=>by cases A⟩
 | k+1=>by
   constructor
   · intro f args h v h' A;simp only [dz] at A;split at A
     · rename_i x I;exact (vX E I).2
     · simp only [fg] at A;split at A
       · rename_i fn C;split at A
         · rename_i c hb; exact ⟨fn,c,C,hb⟩
         · cases A
       · cases A
   · intro f args h v h' A;simp only [dz,fg] at A;split at A
     · rename_i fn C;split at A
       · rename_i c hb; exact ⟨fn,c,C,hb⟩
       · cases A
     · cases A
theorem vg {M:List Mm} (E:iq P G X) (C:gq P) (hm:P.follows .mixedOrders=true) (I:∀ m∈M,m.Ok P G T S):∀ k,Good P G (dz P G X T S M k)
 | 0=>fun t=>by cases t <;> trivial
 | k+1=>fun t=>by
   have A:=vg E C hm I k;obtain ⟨J,L⟩:=Af (P:=P) (G:=G) (X:=X) I k;cases t with
   | cd rd n c fr D h=>exact KI A E C (GG A E C J hm) J rd n c fr D h
   | lp rd n c fr D h=>exact KM A rd n c fr D h
   | cl f args h=>
     simp only [dz];split
     · rename_i x O;exact (vX I O).1
     · exact KJ A C L f args h
   | yl l args h=>exact KN A l args h
   | df f args h=>exact KL A E C J f args h
def fE (v:AV) (h1:Hp):Rs→Bool
 | .rv u h=>eG u v && (aN h1.nx h.nx && iF h1.t h.t)
 | _=>false
theorem Mm.of {M:List Mm} {k:Nat} {m:Mm} (L:iq P G X) (J:gq P) (hm:P.follows .mixedOrders=true) (C:∀ q∈M,q.Ok P G T S) (he:∀ E,fE m.v m.h1 (dz P G X T S M k<|.cl m.f m.args<|m.hp G T S E)=true):m.Ok P G T S:=by
 have hr:∀ E,∃ u A,dz P G X T S M k (.cl m.f m.args<|m.hp G T S E)= .rv u A∧u=m.v∧m.h1.nx=A.nx∧iF m.h1.t A.t=true :=fun E=>by
  have he:=he E;unfold fE at he;split at he
  · rename_i u A hr;simp only [a0] at he;exact ⟨u,A,hr,og he.1,bO he.2.1,he.2.2⟩
  · cases he
 refine ⟨fun E=> ?_,?_⟩
 · obtain ⟨u,A,hr,rfl,hn,O⟩:=hr E;have I:=vg L J hm C k<|.cl m.f m.args<|m.hp G T S E;rw [hr] at I;exact jl.less I (fun i o hi=>kY O hi) hn
 · obtain ⟨u,A,hr,_⟩:=hr fun _=>0;exact (Af C k).1 _ _ _ _ _ hr
theorem ga:∀ q∈([]:List Mm),q.Ok P G T S:=fun _ h=>nomatch h
theorem gx {m:Mm} {l:List Mm} (h:m.Ok P G T S) (A:∀ q∈l,q.Ok P G T S):∀ q∈m::l,q.Ok P G T S:=fun q C=>by
 rcases ei.1 C with rfl | h'
 · exact h
 · exact A q h'
theorem G2 {M:List Mm} {k f:Nat} {args:List AV} {h h':Hp} {v:AV} (E:iq P G X) (A:gq P) (hm:P.follows .mixedOrders=true) (C:∀ q∈M,q.Ok P G T S) (he:dz P G X T S M k (.cl f args h)= .rv v h'):jl P G f args h v h':=by
 have :=vg E A hm C k<|.cl f args h;rw [he] at this;exact this
end
end Go.Hb
end
section
namespace Go.Hb
open Go.RowKit
section
variable {P:au} {N:Fm} {σ:Nat→ag} {w:ah} {fn:Func} {R:ag→ah→Prop}
theorem JB {tmps:Array ag} {r s q p:ResultVar} {v u z y:ag} (h:fn.results= #[r,s,q,p]) (h1:(hZ tmps r).run P w= .ok v w) (A:(hZ tmps s).run P w= .ok u w) (C:(hZ tmps q).run P w= .ok z w) (E:(hZ tmps p).run P w= .ok y w):(results fn tmps).run P w= .ok (.tuple #[v,u,z,y]) w:=by
 have I:(results fn tmps)=(do let vs ← #[r,s,q,p].mapM (hZ tmps); pure (if h:vs.size=1 then vs[0] else .tuple vs)):=by
  unfold results; rw [h]; rfl
 rw [I]; simp [List.mapM_toArray,h1,A,C,E]
theorem G6 {r s q p:ResultVar} {v u z y:ag} (h:fn.results= #[r,s,q,p]) (h1:gU P N σ w r v) (A:gU P N σ w s u) (C:gU P N σ w q z) (E:gU P N σ w p y) (I:R (.tuple #[v,u,z,y]) w):fin P fn N R .ret σ w:=⟨_,JB h (gA h1) (gA A) (gA C) (gA E),I⟩
end
end Go.Hb
end
section
namespace Go.Hb
open Go Go.RowKit Go.ChangeShapes
theorem JT {P:au} {n:String} {W:ah} {g:Nat} {cs:Array ag} (C:P.globalNamed n=some g) (A:W.var? P n=some cs):∃ e z,W.heap[g]? =some (.cells cs e z):=by
 unfold World.var? at A;rw [C] at A;simp only [Option.bind_some] at A;split at A
 · rename_i c e z h;cases A;exact ⟨e,z,h⟩
 · cases A
theorem iE {P:au} {n nm:String} {text:List UInt8} {r:List (String×DataW Unit)} {W:ah} {g:Nat} {L E te I:TypeId} {ms:Array (String×TypeId)} {f:Field}
 (h:laidMet P ((n,.iface nm (.ptr<|.agg [.lit (.string text)]))::r) W)
 (A:P.globalNamed n=some g) (ae:(P.globals[g]?).map (·.type)=some L) (hi:P.underlying L=some (.interface ms)) (ac:∀ u,P.typeName? 3 u=some nm→u=E)
 (hp:P.underlying E=some (.pointer te)) (he:P.underlying te=some (.struct #[f])) (aa:f.type=I) (Z:f.offset=0) (ad:P.underlying I=some .string) (O:P.cellsOf te=1) (V:P.cellsOf I=1):
 ∃ (a:bR) (e:Nat),a.spot=none∧W.heap[g]? =some (.cells #[.iface E (.pointer<|some a)] e (0,0)):=by
 obtain ⟨a,s,J,U,_,_⟩:=laid_sentinel h A ae hi ac hp he aa Z ad O V;obtain ⟨e,z,hw⟩:=JT A J;obtain ⟨ps,⟨ak,t0,aj,f0,ao,ap,ab,am,ag,al,_,M⟩,_,hrows⟩:=h;obtain rfl :=dq<|A.symm.trans ab;subst M;have ai:=dq<|J.symm.trans ag;subst ai;obtain ⟨⟨c,t,C⟩,_⟩:=hrows g 0<|by simp [MemPlace.row]
 rw [hw] at C;simp only [Option.some.injEq,Obj.cells.injEq] at C;obtain ⟨_,_,rfl⟩:=C;exact ⟨a,e,World.cell?_spot U,hw⟩
theorem cO.nil {T:Nat} {w:ah} :cO T [] w:=fun g h=>by cases h
theorem cO.cons {T g:Nat} {l:List Nat} {w:ah} (h:∃ (a:bR) (e:Nat),a.spot=none∧w.heap[g]? =some (.cells #[.iface T (.pointer<|some a)] e (0,0))) (C:cO T l w):cO T (g::l) w:=fun k A=>by
 rcases ei.1 A with rfl | A
 · exact h
 · exact C k A
theorem cO.sub {T:Nat} {l m:List Nat} {w:ah} (h:cO T l w) (C:∀ g∈m,g∈l):cO T m w:=fun g A=>h g<|C g A
end Go.Hb
end
section
namespace Go.Hb
abbrev aA (n:Nat):ag:= .int .i64 (n:Nat)
abbrev aZ (b:Nat):ag:= .pointer<|some ⟨b,0,none⟩
variable {P:au} {N:Fm} {ops:Array Oper} {Q:Exit→(Nat→ag)→ah→Prop} {σ:Nat→ag} {w:ah} {S:ah→Prop} {r fuel:Nat} {listed:Array Bool} {d:Nat} {op:Op} {ty:TypeId} {pos :String} {af:Array Edge} {v:ag}
theorem qe (i:Nat) (hi:ops[i]? =some ⟨some d,op,ty,pos,af,none⟩) (E:∀ w,S w→(execOp (ev N σ) ⟨some d,op,ty,pos,af,none⟩).run P w= .ok (.value v) w) (A:S w) (k:bY P N ops Q S fuel (listed.setIfInBounds i true) (aU σ d v) w) (C:eo N.F ops listed i=true :=by kernel_rfl):bY P N ops Q S (fuel+1) listed σ w:=hp i hi C E A k
theorem Ir (i:Nat) (hi:ops[i]? =some ⟨some d,op,ty,pos,af,none⟩) (E:∀ w,S w→(execOp (ev N σ) ⟨some d,op,ty,pos,af,none⟩).run P w= .ok (.value v) w) (A:S w) (k:cx P N ops Q S r fuel (listed.setIfInBounds i true) (aU σ d v) w) (C:vx N.F ops listed r i=true :=by kernel_rfl):cx P N ops Q S r (fuel+1) listed σ w:=Ba i hi C E A k
theorem Bb (i:Nat) (hi:ops[i]? =some ⟨some d,op,ty,pos,af,none⟩) (E:∀ w,(execOp (ev N σ) ⟨some d,op,ty,pos,af,none⟩).run P w= .ok (.value v) w) (A:listed.getD r false =false→S w) (k:cx P N ops Q S r fuel (listed.setIfInBounds i true) (aU σ d v) w) (C:mO N.F ops listed r i=true :=by kernel_rfl):cx P N ops Q S r (fuel+1) listed σ w:=qn i hi C E A k
theorem cR (i:Nat) (hi:ops[i]? =some ⟨some d,op,ty,pos,af,none⟩) (E:∀ {w},(execOp (ev N σ) ⟨some d,op,ty,pos,af,none⟩).run P w= .ok (.value v) w) (A:S w) (k:bY P N ops Q S fuel (listed.setIfInBounds i true) (aU σ d v) w) (C:eo N.F ops listed i=true :=by kernel_rfl):bY P N ops Q S (fuel+1) listed σ w:=hp i hi C (fun _ _=>E) A k
theorem lV (i:Nat) (hi:ops[i]? =some ⟨some d,op,ty,pos,af,none⟩) (E:∀ {w},(execOp (ev N σ) ⟨some d,op,ty,pos,af,none⟩).run P w= .ok (.value v) w) (A:S w) (k:cx P N ops Q S r fuel (listed.setIfInBounds i true) (aU σ d v) w) (C:ou N.F ops listed r i=true :=by kernel_rfl):cx P N ops Q S r (fuel+1) listed σ w:=lq i hi C (fun _ _=>E) A k
theorem qo (i:Nat) (hi:ops[i]? =some ⟨some d,op,ty,pos,af,none⟩) (E:∀ {w},(execOp (ev N σ) ⟨some d,op,ty,pos,af,none⟩).run P w= .ok (.value v) w) (A:S w) (k:cx P N ops Q S r fuel (listed.setIfInBounds i true) (aU σ d v) w) (C:mO N.F ops listed r i=true :=by kernel_rfl):cx P N ops Q S r (fuel+1) listed σ w:=qn i hi C (fun _=>E) (fun _=>A) k
theorem kF {x:Operand} (i:Nat) (hi:ops[i]? =some ⟨some d,.move x,ty,pos,af,none⟩) (v:ag) (A:S w) (k:bY P N ops Q S fuel (listed.setIfInBounds i true) (aU σ d v) w) (E:ev N σ x=v:=by exact U) (C:eo N.F ops listed i=true :=by kernel_rfl):bY P N ops Q S (fuel+1) listed σ w:=hp i hi C (fun _ _=>iX v E) A k
theorem Mp {x:Operand} (i:Nat) (hi:ops[i]? =some ⟨some d,.move x,ty,pos,af,none⟩) (v:ag) (A:S w) (k:cx P N ops Q S r fuel (listed.setIfInBounds i true) (aU σ d v) w) (E:ev N σ x=v:=by exact U) (C:mO N.F ops listed r i=true :=by kernel_rfl):cx P N ops Q S r (fuel+1) listed σ w:=qn i hi C (fun _=>iX v E) (fun _=>A) k
theorem lL {P:au} {f:FuncId} {fn:Func} (A:P.funcs[f]? =some fn) (hn:(fn.name== "runtime.NumGoroutine")=false :=by kernel_rfl) (hb:fn.body.isNone=false :=by kernel_rfl):gr P f:=uG A hn hb
section
variable {rest:List Oper} {x:Operand} {K:(Nat→ag)→ah→Prop} {l:List Oper} {id:Nat} {y z:Code} {j t:Nat} {want b:Bool} {fn:Func} {R:ag→ah→Prop}
theorem Ms (h:∀ {K:(Nat→ag)→ah→Prop},(∀ {σ w},bA P N y Q σ w→gN K Q .normal σ w)→bA P N z (gN K Q) σ w):bA P N (.seq z y) Q σ w:=sq fun K A=>h fun hw=>A _ _ hw
theorem Mt (h:∀ {K:(Nat→ag)→ah→Prop},(∀ {σ w},bA P N y Q σ w→gN K Q .normal σ w)→bS P N l.toArray (gN K Q) l σ w) (hr:j6 N.r l=true :=by exact U):bA P N (.seq (.region id l.toArray false) y) Q σ w:=sq fun K A=>rg hr<|h fun hw=>A _ _ hw
theorem Mn (h:Q .normal (aU σ d<|ev N σ x) w):bS P N ops Q [⟨some d,.assign x,ty,pos,af,none⟩] σ w:=p aT<|nl h
theorem cr {id:Nat} (h:Q (.exit id) σ w):gN K Q (.exit id) σ w:=h
theorem Mq (h:(dN ops j,aD t N.n,σ t,b==want)=(some t,true,.bool b,false)) (k:bS P N ops Q rest (aU σ d undef) w):bS P N ops Q (⟨some d,op,ty,pos,af,some (j,want)⟩::rest) σ w:=sk (congrArg fL h) (congrArg (·.2.1) h) (congrArg (·.2.2.1) h) (congrArg (·.2.2.2) h) k
theorem Mr (h:(dN ops j,aD t N.n,σ t)=(some t,true,undef)) (k:bS P N ops Q rest (aU σ d undef) w):bS P N ops Q (⟨some d,op,ty,pos,af,some (j,want)⟩::rest) σ w:=Cz (congrArg fL h) (congrArg (·.2.1) h) (congrArg (·.2.2) h) k
theorem bC (h:(dN ops j,aD t N.n,σ t)=(some t,true,.bool want)) (A:(execOp (ev N σ) ⟨some d,op,ty,pos,af,some (j,want)⟩).run P w= .ok (.value v) w) (k:bS P N ops Q rest (aU σ d v) w):bS P N ops Q (⟨some d,op,ty,pos,af,some (j,want)⟩::rest) σ w:=pg (congrArg fL h) (congrArg (·.2.1) h) (congrArg (·.2.2) h) A k
theorem Mo (i:Nat) (h:(ops[i]?,dN ops j,aD t N.n,σ t,b==want)=(some ⟨some d,op,ty,pos,af,some (j,want)⟩,some t,true,.bool b,false)) (A:S w) (k:bY P N ops Q S fuel (listed.setIfInBounds i true) (aU σ d undef) w) (C:eo N.F ops listed i=true :=by kernel_rfl):bY P N ops Q S (fuel+1) listed σ w:=AE i (congrArg fL h) C (congrArg (·.2.1) h) (congrArg (·.2.2.1) h) (congrArg (·.2.2.2.1) h) (congrArg (·.2.2.2.2) h) A k
theorem dk (i:Nat) (h:(ops[i]?,dN ops j,aD t N.n,σ t)=(some ⟨some d,op,ty,pos,af,some (j,want)⟩,some t,true,.bool want)) (E:∀ w,S w→(execOp (ev N σ) ⟨some d,op,ty,pos,af,some (j,want)⟩).run P w= .ok (.value v) w) (A:S w) (k:bY P N ops Q S fuel (listed.setIfInBounds i true) (aU σ d v) w) (C:eo N.F ops listed i=true :=by kernel_rfl):bY P N ops Q S (fuel+1) listed σ w:=bX i (congrArg fL h) C (congrArg (·.2.1) h) (congrArg (·.2.2.1) h) (congrArg (·.2.2.2) h) E A k
theorem aP (h:(fn.results,ev N σ (.tmp t))=(#[.tmp t],v)) (A:R v w):fin P fn N R .ret σ w:=f1 (congrArg fL h) (congrArg nV h) A
theorem eL (v:ag) (h:bS P N ops Q rest (aU σ d v) w) (A:ev N σ x=v:=by exact U):bS P N ops Q (⟨some d,.move x,ty,pos,af,none⟩::rest) σ w:=p (iX v A) h
end
end Go.Hb
end
namespace Go.Hb.dL
theorem E2:da ar 100=some (some 2):=ai
theorem yJ:da ar 143=some (some 2):=ai
theorem rC:da ar 167=some (some 2):=ai
theorem jU:da ar 27=some (some 7):=ai
theorem lJ:da ar 44=some (some 7):=ai
theorem E3:da ar 77=some (some 2):=ai
theorem yK:da ar 81=some (some 2):=ai
theorem ux:da ar 84=some (some 2):=ai
theorem yL:da ar 88=some none:=ai
theorem yT:ku ar 25=some (4,1):=ai
theorem yU:ku ar 303=some (256,1):=ai
theorem mB:ku ar 42=some (4,1):=ai
theorem FD:mD ar 150 5 9=true :=ai
theorem FF:gr ar 47:=lL func47
theorem FG:gr ar 53:=lL func53
theorem lK:gr ar 54:=lL func54
theorem uE:gr ar 55:=lL func55
theorem eV:gr ar 56:=lL func56
theorem FH:gr ar 58:=lL func58
theorem ek:gr ar 86:=lL func86
theorem y9:gr ar 90:=lL func90
theorem zn:∀ v w,(callFunc 173 #[v]).run ar w= .ok (.value v) w:=fun v w=>ai
theorem Gg:cC ar 100=some 2:=ai
theorem Gh:cC ar 141=some 1:=ai
theorem zo:cC ar 143=some 2:=ai
theorem Gi:cC ar 150=some 1:=ai
theorem rP:cC ar 167=some 2:=ai
theorem Gj:cC ar 212=some 1:=ai
theorem Gk:cC ar 23=some 1:=ai
theorem Gl:cC ar 24=some 1:=ai
theorem kz:cC ar 27=some 7:=ai
theorem cI:cC ar 3=some 1:=ai
theorem rQ:cC ar 31=some 1:=ai
theorem uO:cC ar 4=some 1:=ai
theorem zq:cC ar 40=some 1:=ai
theorem zr:cC ar 41=some 1:=ai
theorem mF:cC ar 44=some 7:=ai
theorem Gm:cC ar 47=some 1:=ai
theorem zt:cC ar 5=some 1:=ai
theorem uP:cC ar 65=some 1:=ai
theorem Gn:cC ar 77=some 2:=ai
theorem zu:cC ar 79=some 1:=ai
theorem zw:cC ar 81=some 2:=ai
theorem Gp:cC ar 84=some 2:=ai
theorem uQ:cC ar 88=some 1:=ai
theorem zx:cC ar 9=some 1:=ai
theorem om:cU ar 141=some 2:=ai
theorem rZ:cU ar 150=some 1:=ai
theorem GY:cU ar 23=some 2:=ai
theorem pW:cU ar 24=some 2:=ai
theorem Ad:cU ar 31=some 1:=ai
theorem GZ:cU ar 40=some 2:=ai
theorem oo:cU ar 41=some 2:=ai
theorem cn:cU ar 47=some 1:=ai
theorem Ae:cU ar 61=some 1:=ai
theorem pX:cU ar 64=some 1:=ai
theorem vd:cU ar 67=some 1:=ai
theorem pY:cU ar 79=some 2:=ai
theorem Hj:mM ar 81 1=some 1:=ai
theorem HC:(ar.info? 214).isSome=true :=ai
theorem HK:∀ (l:List UInt8) (c:UInt8) (w:ah),(callFunc 325 #[str l,.int .u8 c.toNat]).run ar w= .ok (.value<|.int .i64<|kH c l) w:=JN func325 ai ai ai ai
theorem sC:j2 ar 88=true :=ai
theorem Jc:ptrTo ar 302 5=true :=ai
theorem CC:dK ar 141 167 2 16=true :=ai
theorem l6:dK ar 150 5 1 1=true :=ai
theorem CD:dK ar 23 100 2 32=true :=ai
theorem CE:dK ar 24 143 2 32=true :=ai
theorem jL:dK ar 31 9 1 16=true :=ai
theorem tq:dK ar 40 77 2 32=true :=ai
theorem tt:dK ar 41 81 2 32=true :=ai
theorem qG:dK ar 47 3 1 8=true :=ai
theorem tu:dK ar 61 64 1 24=true :=ai
theorem CF:dK ar 64 4 1 1=true :=ai
theorem Kd:dK ar 67 47 1 24=true :=ai
theorem tv:dK ar 79 84 2 16=true :=ai
theorem Ko:ew ar 100=some ([(0,1),(1,1)],[.string ⟨⟨[]⟩⟩,.string ⟨⟨[]⟩⟩]):=ai
theorem Kp:ew ar 143=some ([(0,1),(1,1)],[.bool false,.slice none 0 0]):=ai
theorem Kq:ew ar 156=some ([(0,1),(1,1)],[.string ⟨⟨[]⟩⟩,.int .i64 0]):=ai
theorem xB:ew ar 167=some ([(0,1),(1,1)],[.int .u8 0,.int .i64 0]):=ai
theorem Kr:ew ar 226=some ([(0,1),(1,1),(2,1)],[.slice none 0 0,.int .i64 0,.slice none 0 0]):=ai
theorem Ks:ew ar 235=some ([(0,1),(1,1),(2,1)],[.slice none 0 0,.int .i64 0,.slice none 0 0]):=ai
theorem tw:ew ar 27=some ([(0,1),(1,1),(2,1),(3,4)],[.int .i64 0,.string ⟨⟨[]⟩⟩,.slice none 0 0,.slice none 0 0,.slice none 0 0,.slice none 0 0,.slice none 0 0]):=ai
theorem CI:ew ar 44=some ([(0,1),(1,1),(2,1),(3,4)],[.int .i64 0,.string ⟨⟨[]⟩⟩,.slice none 0 0,.slice none 0 0,.slice none 0 0,.slice none 0 0,.slice none 0 0]):=ai
theorem Kt:ew ar 60=some ([(0,1),(1,1),(2,1),(3,1),(4,1)],[.int .i64 0,.int .i64 0,.int .i64 0,.int .i64 0,.int .i64 0]):=ai
theorem Ku:ew ar 69=some ([(0,1),(1,1),(2,1)],[.slice none 0 0,.slice none 0 0,.slice none 0 0]):=ai
theorem Kv:ew ar 74=some ([(0,7),(7,1)],[.int .i64 0,.string ⟨⟨[]⟩⟩,.slice none 0 0,.slice none 0 0,.slice none 0 0,.slice none 0 0,.slice none 0 0,.string ⟨⟨[]⟩⟩]):=ai
theorem Kw:ew ar 77=some ([(0,1),(1,1)],[.string ⟨⟨[]⟩⟩,.string ⟨⟨[]⟩⟩]):=ai
theorem Kx:ew ar 81=some ([(0,1),(1,1)],[.bool false,.slice none 0 0]):=ai
theorem Ky:ew ar 84=some ([(0,1),(1,1)],[.int .u8 0,.int .i64 0]):=ai
theorem Kz:ew ar 96=some ([(0,1),(1,1),(2,1)],[.string ⟨⟨[]⟩⟩,.int .i64 0,.int .i64 0]):=ai
theorem C2:ar.underlying 212=some (.pointer 214):=ai
theorem qK:ar.underlying 22=some (.pointer 74):=ai
theorem u3:ar.underlying 3=some (.int .i64):=ai
theorem KW:ar.underlying 301=some (.int .u64):=ai
theorem u4:ar.underlying 4=some (.bool):=ai
theorem KX:ar.underlying 40=some (.slice 77):=ai
theorem KY:ar.underlying 41=some (.slice 81):=ai
theorem qL:ar.underlying 65=some (.pointer 69):=ai
theorem KZ:ar.underlying 79=some (.slice 84):=ai
theorem u9:ar.underlying 9=some (.string):=ai
theorem o4:ar.underlying 97=some (.int .u64):=ai
theorem C5:nb ar 212 291 214 2=true :=ai
theorem tC:(ar.underlying 3).isSome=true :=ai
theorem K8:(ar.underlying 301).isSome=true :=ai
theorem qM:(ar.underlying 5).isSome=true :=ai
theorem l8:(ar.underlying 97).isSome=true :=ai
theorem wide:ar.follows .mixedOrders=true :=ai
theorem L9:zeroOf ar 100=some (some [.string ⟨⟨[]⟩⟩,.string ⟨⟨[]⟩⟩]):=ai
theorem Dn:zeroOf ar 143=some (some [.bool false,.slice none 0 0]):=ai
theorem Dp:zeroOf ar 167=some (some [.int .u8 0,.int .i64 0]):=ai
theorem Ma:zeroOf ar 214=some (some [.pointer none,.slice none 0 0]):=ai
theorem o7:zeroOf ar 27=some (some [.int .i64 0,.string ⟨⟨[]⟩⟩,.slice none 0 0,.slice none 0 0,.slice none 0 0,.slice none 0 0,.slice none 0 0]):=ai
theorem o8:zeroOf ar 3=some (some [.int .i64 0]):=ai
theorem Mb:zeroOf ar 31=some (some [.slice none 0 0]):=ai
theorem Mc:zeroOf ar 4=some (some [.bool false]):=ai
theorem qQ:zeroOf ar 44=some (some [.int .i64 0,.string ⟨⟨[]⟩⟩,.slice none 0 0,.slice none 0 0,.slice none 0 0,.slice none 0 0,.slice none 0 0]):=ai
theorem Me:zeroOf ar 47=some (some [.slice none 0 0]):=ai
theorem xY:zeroOf ar 65=some (some [.pointer none]):=ai
theorem Mf:zeroOf ar 77=some (some [.string ⟨⟨[]⟩⟩,.string ⟨⟨[]⟩⟩]):=ai
theorem Dq:zeroOf ar 81=some (some [.bool false,.slice none 0 0]):=ai
theorem Mg:zeroOf ar 84=some (some [.int .u8 0,.int .i64 0]):=ai
theorem Mh:zeroOf ar 88=some (some [.int .i64 0]):=ai
theorem Mi:zeroOf ar 303=some (some<|cZ 256<|.bool false):=ai
theorem Mj:zeroV ar 88=some (.int .i64 0):=ai
end Go.Hb.dL
section
namespace Go.Hb
open Go.Hb.dL
theorem F7 (b:Nat) (A:Option bR) (E:ag) (w:ah) (hb:w.heap[b]? =some (.cells [tS A,E].toArray 214 (0,0))) (hp:A=none∨A=some ⟨b,0,none⟩):
 bj ar 126 (bD [aZ b]) w (fun v w'=>v= .tuple #[]∧w'.heap[b]? =some (.cells [tS (some ⟨b,0,none⟩),E].toArray 214 (0,0))∧Md (fun k=>k=b) w w'):=by
 refine enter func126 U ntmps126 U<|aR 5 U<|p (aw U<|(bh hb).trans U)<|p (jw C2 U U)<|aJ 2 U<|cb U (fun C=> ?_) fun C=> ?_;obtain rfl :A=none:=by simpa using C
 exact aG 3 U<|p (CY C5 U hb U)<|p (FY zn U)<|p (Av C5 U hb U)<|aj 2 U<|e<|dg Gj U U U hb (by simp) fun L J I=>ax 1 U<|f0 U<|⟨U,I,J⟩
 obtain rfl :A=some ⟨b,0,none⟩:=hp.resolve_left<|by rintro rfl; simp at C
 exact aG 5 U<|p (aw U<|(bh hb).trans U)<|aj 1 U<|p (IP C2 HC U U)<|ax 4 U<|f0 U<|⟨U,hb,Md.refl _ _⟩
theorem L1 (b:Nat) (C:ag) (l:List UInt8) (c:UInt8) (w:ah) (hb:Bd 214 5 w b C l) (aC:l.length≤70368744177664):
 bj ar 83 (bD [aZ b,.int .u8 c.toNat]) w (fun v w'=>v= .nilIface∧∃ L,Bd 214 5 w' b L (l++ [c])∧Md (BF b C) w w'∧∀ k,BF b L k→BF b C k∨w.heap.size≤k):=by
 obtain ⟨⟨ay,aa,au⟩,hown,hnil⟩:=hb;have aD:b < w.heap.size:=(dm.1 aa).1;have ac:∀ k,C.ownBlock=some k→k≠b∧k < w.heap.size:=fun k A=>by have :=hown.lt k A; exact ⟨ab,this.2⟩
 refine enter func83 U ntmps83 U<|aR 8 U<|e<|bg (F7 b ay C w aa au) U ?_;rintro v6 aI ⟨_,Z,I⟩;have aq:=bI hown I fun k A=>(ac k A).1;have aE:=I.size;refine aj 8 U<|p (aw U<|(bh Z).trans U)<|aj 1 U<|e<|jo l6 U U fun az aF aB E ai=>e<|ap l6 (aV aq E.md) U (by have :=E.size; omega) U (aX.fD ai) (U) (U) ab ab fun ad aG J O av ao=> ?_;have am:=O.ak (Wk.ak E.md Z) fun h=>(ac b h).1 rfl;refine aj 2 U<|e<|dg Gi U U (by obtain ⟨a,c,h,_⟩:=sL J; exact congrArg eO h) am (by simp) fun aH V al=>ax 8 U<|aP U ?_;have ae:∀ k,ad.ownBlock=some k→k≠b:=fun k A=>by have :=J.lt k A; omega
 refine ⟨U,ad,⟨⟨_,al,.inr U⟩,?_,?_⟩,?_,?_⟩;rw [cz,yH]; exact bI J V fun k A=>ae k A;rw [av]; simp;refine Md.trans' (Md.trans' (Md.trans' (I.mono fun k _ h=> .inl h) E.md fun _ _ h=>h.elim) O fun k _ h=> .inr h) V fun k _ h=> .inl h;rintro k (rfl | A);exact .inl<|.inl U;by_cases h:C.ownBlock=some k;exact .inl<|.inr h;have :=ao k A; have h1:=I.size; have aA:=E.md.size; exact .inr<|by rcases this with M | M; exact absurd M h; omega
theorem KP (b:Nat) (I:ag) (l:List UInt8) (w:ah) (hb:Bd 214 5 w b I l) (aa:l.length≤70368744177664):
 bj ar 84 (bD [aZ b]) w (fun v w'=>v=str l∧Md (fun k=>I.ownBlock=some k) w w'):=by
 obtain ⟨⟨ae,J,ac⟩,hown,hnil⟩:=hb;obtain ⟨a,c,rfl,O,hle,V,Z⟩:=sL hown;refine enter func84 U ntmps84 U<|cj 6 U ?_;have A:(fun w'=>Md (fun k=>(bE a l.length c).ownBlock=some k) w w') w.drew:=(Md.refl _ _).drew;refine bo (fun w'=>Md (fun k=>(bE a l.length c).ownBlock=some k) w w') U wide A<|aF [0,1,2] U A<|qe 3 U (fun w' C=>aw U<|C.ay ((bh J).trans U) fun h=>by have :=hown.lt _ h; omega) A<|aF [5,6,7] U A<|qe 8 U (fun w' C=>aw U<|C.ay ((bh J).trans U) fun h=>by have :=hown.lt _ h; omega) A<|aF [9] U A ?_;refine cR 4 U (xL (v:= .nilFunc) U (by
  by_cases h:l= []
  have :=hnil.2 h; simp only [Value.slice.injEq] at this; exact .inl this.1;right; have :0 < l.length:=List.length_pos_iff.2 h; omega)) A ?_
 refine he 10 U ai<|K9 Jc U U hown U ab fun M L ad=> ?_;have E:(fun w'=>Md (fun k=>(bE a l.length c).ownBlock=some k) w w') M:=A.trans' L fun _ _ h=>h;refine ⟨E,?_⟩;exact cR 11 U (aT) E<|hn ai<|bl 2 U<|aP U<|⟨U,E⟩
end Go.Hb
end
section
namespace Go.Hb
open Go.Hb.dL
theorem vn (b:UInt8):fj b=decide (32 < (b.toNat:Int)∧(b.toNat:Int)≠127):=by
 unfold fj; exact decide_eq_decide.2 ab
theorem Hg {b:UInt8} (h:32 < (b.toNat:Int)) (h1:(b.toNat:Int)≠127):fj b=true :=by rw [vn]; exact decide_eq_true ⟨h,h1⟩
theorem vm {b:UInt8} (h:¬(32 < (b.toNat:Int)∧(b.toNat:Int)≠127)):fj b=false :=by rw [vn]; exact decide_eq_false h
theorem An (b:UInt8) (w:ah):
 bj ar 127 (bD [.int .u8 b.toNat]) w (fun v w'=>v= .bool (fj b)∧Wk w w'):=by
 refine enter func127 U ntmps127 U<|aR 10 U<|gs (t:=5) U (fun A=> ?_) fun A=> ?_;exact ax 7 U<|aP U<|⟨by show bq (decide _)=_; rw [vn]; exact bv (by constructor <;> intro h <;> first | exact ⟨ab,h⟩ | exact h.2),Md.refl _ _⟩
 exact aj 3 U<|p aT<|ax 3 U<|aP U<|⟨by show bq false =_; rw [vm ab],Md.refl _ _⟩
theorem Lb (s:List UInt8) (w:ah) (ad:s.length≤1048576):
 bj ar 128 (bD [str s]) w (fun v w'=>v= .bool (nf s)∧Wk w w'):=by
 refine enter func128 U ntmps128 U<|aR 11 U<|gs (t:=6) U (fun E=> ?_) fun E=> ?_;exact ax 14 U<|aP U<|⟨by show bq false =_; unfold nf; rw [decide_eq_false (by rw [E]; simp)],Md.refl _ _⟩
 refine aJ 6 U<|cd U (fun Z=> ?_) fun Z=> ?_;exact aH 7 U<|aP U<|⟨by show bq false =_; unfold nf; rw [decide_eq_false ab],Md.refl _ _⟩
 refine bW 11 U<|lp (fun J V O=> ∃ (i:Nat),(i≤s.length∧1≤s.length∧s.length≤64)∧(∀ j,j < i→fj (s.getD j 0)=true)∧(Wk w O)∧(Sl V [(0,str s),(12,.int .i64 s.length),(13,.int .i64 i)])∧(s.length - i=J)) _ ⟨0,(⟨ab,by rcases yz s.length with h | h <;> first | exact absurd (List.length_eq_zero_iff.1 h) E | exact h,ab⟩),(fun j M=>by omega),(Md.refl _ _),U,U⟩ ?_;rintro J V O ⟨i,hi,hp,A,ac,rfl⟩;refine bK ac<|cj 6 U<|cd U (fun aa=> ?_) fun aa=> ?_;refine aG 14 U<|p (fy u9 U U ab)<|e<|bg (An (s.getD i 0) _) U ?_;rintro ae ag ⟨rfl,L⟩;refine aJ 3 U<|cb U (fun C=> ?_) fun C=> ?_;have I:fj (s.getD i 0)=false :=by simpa using C
 exact aH 8 U<|tr<|bl 2 U<|aP U<|⟨by show bq false =_; unfold nf; rw [pN (i:=i) ab I,decide_eq_false (by simp)],Md.trans A L⟩
 have I:fj (s.getD i 0)=true :=by simpa using C
 exact aH 7 U<|tn<|⟨_,ab,i+1,ab,(fun j M=>by rcases dF j i with h | h <;> first | exact hp j h | (rw [show j=i by omega]; exact I)),(Md.trans A L),U,U⟩
 exact aH 2 U<|cr<|bl 8 U<|aP U<|⟨by show bq true =_; unfold nf; rw [rJ (fun j M=>hp j ab),decide_eq_true ⟨hi.2.1,hi.2.2,U⟩],A⟩
theorem Ik (s:List UInt8) (w:ah) (a1:s.length≤1048576):
 bj ar 91 (bD [str s]) w (fun v w'=>v= .tuple #[str (letE s).1,.int .i64 (letE s).2]∧Wk w w'):=by
 refine enter func91 U ntmps91 U<|aR 8 U<|e<|al Mi fun O aT aV J ap=> ?_;have aF:aC aT.heap O (marksOf []):=by rw [Iz]; exact ap
 refine aJ 9 U<|cd U (fun ak=> ?_) fun ak=> ?_;exact aH 8 U<|f2 U U U<|⟨by show nQ #[str [],.int .i64 21]=_; unfold letE; rw [if_pos (.inl ak)]; rfl,J.md⟩
 refine aG 4 U<|e<|dC Ma fun I a8 aX az aI=>aJ 11 U ?_;have aW:=ap.lt;refine lp (fun ao aB M=> ∃ (i:Nat) (A:ag),(i≤s.length)∧(∀ j,j < i→fj (s.getD j 0)=true)∧(aC M.heap O<|marksOf<|lets<|s.take i)∧(Bd 214 5 M I A<|lets<|s.take i)∧(Wk w M)∧(Sl aB [(0,str s),(4,aZ O),(5,aZ I),(10,.int .i64 s.length),(11,.int .i64 i)])∧(s.length - i=ao)) _ ⟨0,.slice none 0 0,ab,(fun j am=>by omega),(az.md.B aF),(Bd.new aI),(Md.trans J.md az.md),U,U⟩ ?_;rintro ao aB M ⟨i,A,hi,hp,ay,Z,ad,aQ,rfl⟩;refine bK aQ ?_;have aP:=vS<|s.take i;rw [dB] at aP;have aY:=ay.lt;refine cj 6 U<|cd U (fun aO=> ?_) fun aO=> ?_;refine aG 15 U<|p (fy u9 U U ab)<|e<|bg (An (s.getD i 0) _) U ?_;rintro a3 aS ⟨rfl,C⟩;refine aJ 3 U<|cb U (fun ae=> ?_) fun ae=> ?_;have L:fj (s.getD i 0)=false :=by simpa using ae
 exact aH 10 U<|tr<|bl 2 U<|f2 U U U<|⟨by show nQ #[str [],.int .i64 21]=_; unfold letE; rw [if_pos (.inr<|pN ab L)]; rfl,Md.trans ad C⟩
 have L:fj (s.getD i 0)=true :=by simpa using ae
 have aq:Wk w aS:=Md.trans ad C;have V:=C.B ay;have ac:=Z.md C fun _ _ h=>h;have a2:=C.size;refine aG 6 U<|p (fy u9 U U ab)<|p (iW yU U U<|by have :=ks (s.getD i 0); omega)<|p (aw U<|IB V _)<|aJ 3 U<|cb U (fun ai=> ?_) fun ai=> ?_;have E:¬s.getD i 0∈lets (s.take i):=of_decide_eq_false<|by simpa using ai
 refine aG 4 U<|p (fy u9 U U ab)<|p (iW yU U U<|by have :=ks (s.getD i 0); omega)<|e<|st uO U U (U) (V) (by rw [Bk]; have :=ks (s.getD i 0); omega) fun aU au aE=> ?_;have aN:=IC aE;have aL:Wk w aU:=Md.trans' aq au fun k aA h=>by omega
 have aa:=ac.md au fun k aA h=>by have :=ac.sd aA; omega
 refine aj 5 U<|p (fy u9 U U ab)<|e<|bg (L1 I A (lets<|s.take i) (s.getD i 0) _ aa ab) U ?_;rintro a4 a6 ⟨rfl,aD,aK,av,a0⟩;exact ax 7 U<|tn<|⟨_,ab,i+1,aD,ab,(fun j am=>by rcases dF j i with h | h <;> first | exact hp j h | (rw [show j=i by omega]; exact L)),(by rw [lU ab,if_neg E]; exact av.B aN fun h=>by have :=aa.sd h; omega),(by rw [lU ab,if_neg E]; exact aK),(aa.step aL av<|by have :=J.md.size; omega),U,U⟩
 have E:s.getD i 0∈lets (s.take i):=by simpa using ai
 exact aH 7 U<|tn<|⟨_,ab,i+1,A,ab,(fun j am=>by rcases dF j i with h | h <;> first | exact hp j h | (rw [show j=i by omega]; exact L)),(by rw [lU ab,if_pos E]; exact V),(by rw [lU ab,if_pos E]; exact ac),aq,U,U⟩
 refine aH 2 U<|cr<|eY 4 U<|e<|bg (KP I A (lets<|s.take i) _ Z<|by have :=vS (s.take i); rw [dB] at this; omega) U ?_;rintro a5 a7 ⟨rfl,aM⟩;exact ax 5 U<|f2 U U U<|⟨by show nQ #[str (lets<|s.take i),.int .i64 0]=_; unfold letE; rw [if_neg (by rw [rJ (fun j am=>hp j ab)]; exact fun h=>h.elim ak dn),show s.take i=s from List.take_of_length_le ab]; rfl,Z.KH ad aM<|by have :=J.md.size; omega⟩
end Go.Hb
end
section
namespace Go.Hb
open Go.Hb.dL
def kD (e:Int):List PanicEntry:= [{v:= .iface 88 (.int .i64 e),recovered:=false}]
def JH:Except Nat (Nat×Nat)→Nat
 | .ok (n,_)=>n
 | .error _=>0
def JI:Except Nat (Nat×Nat)→Nat
 | .ok (_,p)=>p
 | .error _=>0
def oP:Except Nat (Nat×Nat)→Nat
 | .ok _=>0
 | .error e=>e
def wY (r:Except Nat (Nat×Nat)):ag:= .tuple #[.int .u64 (JH r:Nat),.int .i64 (JI r:Nat),.int .i64 (oP r:Nat)]
theorem wZ {s:List UInt8} {a e:Nat} (h:a9 s a= .error e):e=60∨e=61:=by
 unfold a9 at h;split at h
 · cases h; exact .inr rfl
 · split at h
   · cases h; exact .inl rfl
   · split at h
     · cases h; exact .inr rfl
     · cases h
theorem JL {s:List UInt8} {a:Nat} (h:((oP (a9 s a):Nat):Int)=0):∃ n p,a9 s a= .ok (n,p):=by
 cases hX:a9 s a with
 | ok x=>exact ⟨x.1,x.2,rfl⟩
 | error e=>
   rw [hX] at h;have :=wZ hX;simp only [oP] at h; omega
theorem JK {s:List UInt8} {a:Nat} (h:¬((oP (a9 s a):Nat):Int)=0):a9 s a= .error (oP<|a9 s a):=by
 cases hX:a9 s a with
 | ok x=>rw [hX] at h; simp [oP] at h
 | error e=>rfl
theorem CA {s:List UInt8} {a n:Nat} :(s.take<|a+n).drop a=(s.drop a).take n:=by rw [Eh,Nat.add_sub_cancel_left]
theorem Aq {s:List UInt8} {a e:Nat} (h:a9 s a= .error e):cQ s a= .error e:=by unfold cQ; rw [h]
theorem Ar {s:List UInt8} {a n p:Nat} (h:a9 s a= .ok (n,p)) (hn:255 < n):cQ s a= .error 62:=by unfold cQ; rw [h]; exact if_pos hn
theorem As {s:List UInt8} {a n p:Nat} (h:a9 s a= .ok (n,p)) (hn:¬255 < n) (hp:s.length < p+n):cQ s a= .error 60:=by unfold cQ; rw [h]; simp only; rw [if_neg hn,if_pos hp]
theorem Au {s:List UInt8} {a n p:Nat} (h:a9 s a= .ok (n,p)) (hn:¬255 < n) (hp:¬s.length < p+n):cQ s a= .ok ((s.drop p).take n,p+n):=by unfold cQ; rw [h]; simp only; rw [if_neg hn,if_neg hp]
theorem E8:∀ r:Fin 256,pj.wrap (ic pj.bits ((r.val:Nat):Int) &&& ic pj.bits 127).toNat=((r.val % 128:Nat):Int):=by decide+kernel
theorem E7 (b:UInt8):pj.wrap (ic pj.bits (b.toNat:Int) &&& ic pj.bits 127).toNat=((b.toNat % 128:Nat):Int):=E8 ⟨b.toNat,ks b⟩
theorem BL (i:Nat):(128:Nat) ^ i=2 ^ (7 *i):=by rw [Nat.pow_mul]
theorem J7 {x i:Nat} (hi:i≤9):nN.wrap (((x:Nat):Int)*2 ^ min ((7 *i:Nat):Int).toNat nN.bits)=((x*128 ^ i % 18446744073709551616:Nat):Int):=by
 have A:(nN.bits:Nat)=64:=rfl;rw [po,A,Nat.min_eq_left ab,IntKind.wrap_u64,BL];generalize 7 *i=m;rw [show ((x:Nat):Int)*2 ^ m=((x*2 ^ m:Nat):Int) by simp];omega
theorem I8 {n x i:Nat} (hi:i≤9) (hn:n < 128 ^ i):nN.wrap (ic nN.bits (n:Int) ||| ic nN.bits ((x*128 ^ i % 18446744073709551616:Nat):Int)).toNat=((n+x*128 ^ i % 18446744073709551616:Nat):Int):=by
 have C:(nN.bits:Nat)=64:=rfl;rw [BL] at hn ⊢;have I:x*2 ^ (7 *i) % 18446744073709551616=2 ^ (7 *i)*(x % 2 ^ (64 - 7 *i)):=by
  rw [show (18446744073709551616:Nat)=2 ^ (7 *i)*2 ^ (64 - 7 *i) by rw [← Nat.pow_add,show 7 *i+(64 - 7 *i)=64 by omega],EF x,Nat.mul_mod_mul_left]
 rw [I,C,DC,DC,BitVec.toNat_or,DD,DD];have A:x % 2 ^ (64 - 7 *i) < 2 ^ (64 - 7 *i):=Nat.mod_lt _<|Nat.two_pow_pos _;generalize x % 2 ^ (64 - 7 *i)=z at A;have hle:(2:Nat) ^ (7 *i)≤2 ^ 64:=rl aE ab;have hmul:2 ^ (7 *i)*z+n < 2 ^ 64:=by
  have E:2 ^ (7 *i)*(z+1)≤2 ^ (7 *i)*2 ^ (64 - 7 *i):=EG _ A;rw [← Nat.pow_add,show 7 *i+(64 - 7 *i)=64 by omega,Nat.mul_succ] at E;omega
 rw [yA ab,yA (show 2 ^ (7 *i)*z < 2 ^ 64 by omega),Nat.or_comm,← Nat.two_pow_add_eq_or_of_lt hn,gC ab,Nat.add_comm]
theorem sw {s:List UInt8} {a i n:Nat} (hi:i≤9) (ha:a+i < s.length) (hn:n=dJ ((s.drop a).take i)) (hb:i≤8∨(s.getD (a+i) 0).toNat≤1):n+(s.getD (a+i) 0).toNat % 128 *128 ^ i % 18446744073709551616=dJ ((s.drop a).take<|i+1):=by
 have E:((s.drop a).take i).length=i:=by rw [dB,ji]; omega
 have I:(s.drop a)[i]? =some (s.getD (a+i) 0):=by
  rw [ik,b9,bG ab]; rfl
 rw [yw,I,Option.toList_some,vR,E,hn,dJ,dJ,Nat.mul_zero,Nat.add_zero];congr 1;have hm:(s.getD (a+i) 0).toNat % 128 < 128:=Nat.mod_lt _ aE;have A:i≤8∨(s.getD (a+i) 0).toNat % 128≤1:=hb.imp id fun h=>ab;generalize (s.getD (a+i) 0).toNat % 128=x at hm A ⊢;rw [EF,yA];have L:(128:Nat) ^ 9=9223372036854775808:=aE;rcases A with hb | hb
 · have h1:128 ^ i*x < 128 ^ i*128:=Nat.mul_lt_mul_of_pos_left hm<|Nat.pow_pos aE;have J:(128:Nat) ^ i*128=128 ^ (i+1):=rfl;have C:(128:Nat) ^ (i+1)≤128 ^ 9:=rl aE ab;omega
 · have C:(128:Nat) ^ i≤128 ^ 9:=rl aE ab;have M:128 ^ i*x≤128 ^ i*1:=EG _ hb;omega
theorem JM (s:List UInt8) (a:Nat) (w:ah) (ao:s.length≤1048576) (ha:a≤s.length):
 bj ar 89 (bD [str s,aA a]) w (fun v w'=>v=wY (a9 s a)∧Wk w w'):=by
 refine enter func89 U ntmps89 U<|aR 13 U<|gs (t:=11) U (fun h=>absurd h ab) fun am=>aJ 7 U<|cd U (fun aa=> ?_) fun aa=> ?_;exact aH 9 U<|f3 U U U U<|⟨by rw [ta (k:=0) (jF ab (fun j M=>by omega)<|.inr<|.inl ab) ab ab]; rfl,Md.refl _ _⟩
 refine bW 9 U<|lp (fun L V O=> ∃ (i n:Nat),(i≤10)∧(∀ j,j < i→a+j < s.length∧128≤(s.getD (a+j) 0).toNat)∧(i≤9→n=dJ ((s.drop a).take i))∧(Wk w O)∧(Sl V [(0,str s),(1,aA a),(4,.int .u64 (n:Nat)),(17,aA i)])∧(10 - i=L)) _ ⟨0,0,ab,(fun j M=>by omega),(fun _=>rfl),(Md.refl _ _),U,U⟩ ?_;rintro L V O ⟨i,n,hi,E,hn,C,al,rfl⟩;refine bK al<|cj 6 U<|cd U (fun ac=> ?_) fun ac=> ?_;refine bW 21 U<|cd U (fun ad=> ?_) fun ad=> ?_;exact aH 11 U<|tr<|bl 2 U<|f3 U U U U<|⟨by rw [ta (k:=i) (jF ab E<|.inr<|.inl ab) ab ab]; rfl,C⟩
 refine aG 7 U<|p (bF<|a+i)<|p (fy u9 U U ab)<|aJ 4 U ?_;have ak:n < 128 ^ i:=by
  have h1:=su<|(s.drop a).take i;rw [← hn ab] at h1;have Z:((s.drop a).take i).length=i:=by rw [dB,ji]; omega
  rwa [Z] at h1
 refine aG 3 U<|p (cT U U<|E7 _)<|p (fw o4 qM U<|gC ab)<|aj 1 U<|p (wg ((7 *i:Nat):Int) U U<|xP ab ab)<|p (shl U U ab<|J7 ab)<|p (yZ U U<|I8 ab ak)<|aJ 12 U<|cd U (fun ae=> ?_) fun ae=> ?_;have ai:∀ j,j < i+1→a+j < s.length∧128≤(s.getD (a+j) 0).toNat:=fun j M=>by
  rcases dF j i with h | h;exact E j h;obtain rfl :j=i:=ab;exact ⟨ab,ab⟩
 exact aG 6 U<|p (bF<|i+1)<|ax 2 U<|tn<|⟨_,ab,i+1,n+(s.getD (a+i) 0).toNat % 128 *128 ^ i % 18446744073709551616,ab,ai,(fun h=>sw ab ab (hn ab)<|.inl ab),C,U,U⟩
 refine aG 6 U<|gs (t:=45) U (fun ag=> ?_) fun ag=> ?_;refine aJ 6 U<|cd U (fun I=> ?_) fun I=> ?_;refine bW 2 U<|cd U (fun I=> ?_) fun I=> ?_;refine aH 12 U<|tr<|bl 2 U<|f3 U U U U ?_;have A:=jF (s:=s) (a:=a) (k:=i) ab E<|.inr<|.inr ab;exact ⟨by rw [oQ A ab ab ab]; rfl,C⟩;refine aG 8 U<|p (bF<|a+i)<|p (bF<|a+i+1)<|ax 8 U<|tr<|bl 2 U<|f3 U U U U ?_;exfalso; omega;refine aG 4 U<|gs (t:=51) U (fun J=> ?_) fun J=> ?_;refine aJ 6 U<|cd U (fun I=> ?_) fun I=> ?_;refine aH 12 U<|tr<|bl 2 U<|f3 U U U U ?_;have A:=jF (s:=s) (a:=a) (k:=i) ab E<|.inr<|.inr ab;exact ⟨by rw [oQ A ab ab ab]; rfl,C⟩;refine aG 8 U<|p (bF<|a+i)<|p (bF<|a+i+1)<|ax 8 U<|tr<|bl 2 U<|f3 U U U U ?_;have A:=jF (s:=s) (a:=a) (k:=i) ab E<|.inr<|.inr ab;exact ⟨by rw [sZ A ab ab ab,← sw ab ab (hn ab) ab]; rfl,C⟩;refine aj 3 U<|p aT<|aj 11 U<|p (bF<|a+i)<|p (bF<|a+i+1)<|ax 8 U<|tr<|bl 2 U<|f3 U U U U ?_;exfalso; omega;refine aj 3 U<|p aT<|aj 7 U<|gs (t:=51) U (fun J=> ?_) fun J=> ?_;refine aJ 6 U<|cd U (fun I=> ?_) fun I=> ?_;refine aH 12 U<|tr<|bl 2 U<|f3 U U U U ?_;have A:=jF (s:=s) (a:=a) (k:=i) ab E<|.inr<|.inr ab;exact ⟨by rw [oQ A ab ab ab]; rfl,C⟩;refine aG 8 U<|p (bF<|a+i)<|p (bF<|a+i+1)<|ax 8 U<|tr<|bl 2 U<|f3 U U U U ?_;have A:=jF (s:=s) (a:=a) (k:=i) ab E<|.inr<|.inr ab;exact ⟨by rw [sZ A ab ab ab,← sw ab ab (hn ab) ab]; rfl,C⟩;refine aj 3 U<|p aT<|aj 11 U<|p (bF<|a+i)<|p (bF<|a+i+1)<|ax 8 U<|tr<|bl 2 U<|f3 U U U U ?_;have A:=jF (s:=s) (a:=a) (k:=i) ab E<|.inr<|.inr ab;exact ⟨by rw [sZ A ab ab ab,← sw ab ab (hn ab) ab]; rfl,C⟩;refine aH 2 U<|cr<|bl 10 U<|f3 U U U U ?_;obtain rfl :i=10:=ab;exact ⟨by rw [Ca (jF ab E<|.inl U)]; rfl,C⟩
theorem jH (C:ag) (b:Bool) (e:Int) (w:ah):
 mz ar 56 (bD [C,.bool b,.int .i64 e]) w (fun v w'=>v=nQ #[]∧b=true∧w'=w) (fun c w'=>c=kD e∧b=false∧w'=w):=by
 refine pV func56 U ntmps56 U<|cj 6 U<|cb U (fun A=> ?_) fun A=> ?_;exact aG 2 U<|p (wc sC U)<|Jb U fun σ' E=>⟨U,by simpa using A,U⟩
 refine aH 1 U<|p7<|f0 U ?_;exact ⟨U,by simpa using A,U⟩
theorem oC (rb:Nat) (s:List UInt8) (a:Nat) (w:ah) (E:aC w.heap rb [str s,.int .i64 (a:Nat)]) (ab:s.length≤1048576) (ha:a≤s.length):
 mz ar 54 (bD [.pointer (some ⟨rb,0,none⟩)]) w (fun v w'=> ∃ n p,a9 s a= .ok (n,p)∧v= .int .u64 (n:Nat)∧aC w'.heap rb [str s,.int .i64 (p:Nat)]∧Md (fun k=>k=rb) w w') (fun c w'=> ∃ e,a9 s a= .error e∧c=kD e∧Md (fun k=>k=rb) w w'):=by
 refine pV func54 U ntmps54 U<|cj 6 U<|fU fun C=>aF [0,1,2] U C<|di 3 U C (E.aK 0)<|aF [4,5,6] U C<|di 7 U C (E.aK 1)<|he 8 U ai<|bg (JM s a w.drew ab ha) U ?_;rintro ag L ⟨rfl,A⟩;have A:=Md.cy A;have J:(fun w'=>Wk w w') L:=A;refine ⟨J,?_⟩;refine hp 9 U ai (fun _ _=>mv) J<|aF [10,11,12,13,14,15] U J<|hn ai<|eY 7 U<|eP U (ef eV (jH _ _ _ L) U fun ak al Z=> ?_) fun c w' I σ' ae=>⟨_,JK (of_decide_eq_false I.2.1),I.1,by rw [I.2.2]; exact A.mono fun _ _ h=>h.elim⟩
 obtain ⟨rfl,ac,rfl⟩:=Z;obtain ⟨n,ad,aa⟩:=JL<|of_decide_eq_true ac;have M:=Wk.B A E;refine aj 8 U<|e<|st cI U U (U) (M) (by simp) fun am V O=>ax 9 U<|p7<|f1 U U ?_;rw [aa] at*;exact ⟨n,ad,U,U,O,Md.trans (A.mono fun _ _ h=>h.elim) V⟩
theorem CW (rb:Nat) (s:List UInt8) (a n:Nat) (w:ah) (I:aC w.heap rb [str s,.int .i64 (a:Nat)]) (al:s.length≤1048576) (ha:a≤s.length) (ak:n≤1048576):
 mz ar 90 (bD [.pointer (some ⟨rb,0,none⟩),.int .i64 (n:Nat)]) w (fun v w'=>a+n≤s.length∧v=str ((s.drop a).take n)∧aC w'.heap rb [str s,.int .i64 ((a+n:Nat):Int)]∧Md (fun k=>k=rb) w w') (fun c w'=>s.length < a+n∧c=kD 60∧Md (fun k=>k=rb) w w'):=by
 refine pV func90 U ntmps90 U<|cj 6 U<|fU fun C=>aF [0,1,2,3,4] U C<|di 5 U C (I.aK 0)<|aF [6,7,8,9] U C<|di 10 U C (I.aK 1)<|aF [11,12] U C<|Hw 13 U ai U (ef eV (jH _ _ _ w.drew) U fun am M ad=> ?_) fun c w' J σ' ag=>⟨by have :=of_decide_eq_false J.2.1; omega,J.1,by rw [J.2.2]; exact (Md.refl _ _).drew⟩
 obtain ⟨rfl,V,L⟩:=ad;have V:=of_decide_eq_true V;have O:aC M.heap rb [str s,.int .i64 (a:Nat)]:=by rw [L]; exact I
 have aa:Md (fun k=>k=rb) w M:=by rw [L]; exact (Md.refl _ _).drew
 have ae:(fun w'=>Wk w w') M:=by rw [L]; exact (Md.refl _ _).drew
 refine ⟨ae,?_⟩;refine hn ai<|eY 6 U<|p (aw U<|O.aK 1)<|aj 1 U<|p (bF<|a+n)<|aj 2 U<|e<|st cI U U (U) (O) (by simp) fun ao ac Z=> ?_;have E:=Z;exact aJ 3 U<|fU fun A=>aF [0,1,2] U A<|di 3 U A (E.aK 0)<|aF [4,5,6] U A<|di 7 U A (E.aK 1)<|aF [8] U A<|hp 9 U ai (fun _ _=>kV<|a) A<|aF [10,11,12] U A<|di 13 U A (E.aK 1)<|hp 14 U ai (fun _ _=>kX u9 U U U ab) A<|aF [15] U A<|hn ai<|bl 2 U<|p7<|f1 U U<|⟨ab,by rw [← CA]; rfl,E,(aa.trans ac).drew⟩
theorem vw (rb:Nat) (s:List UInt8) (a:Nat) (w:ah) (M:aC w.heap rb [str s,.int .i64 (a:Nat)]) (J:s.length≤1048576) (ha:a≤s.length):
 mz ar 55 (bD [.pointer (some ⟨rb,0,none⟩)]) w (fun v w'=> ∃ f p,cQ s a= .ok (f,p)∧v=str f∧aC w'.heap rb [str s,.int .i64 (p:Nat)]∧Md (fun k=>k=rb) w w') (fun c w'=> ∃ e,cQ s a= .error e∧c=kD e∧Md (fun k=>k=rb) w w'):=by
 refine pV func55 U ntmps55 U<|aR 8 U<|eP U (ef lK (oC rb s a w M J ha) U fun au ai ad=> ?_) fun c w' A σ' I=>by obtain ⟨e,he,ag,Z⟩:=A; exact ⟨e,Aq he,ag,Z⟩
 obtain ⟨n,q,C,rfl,V,E⟩:=ad;obtain ⟨al,am,ao⟩:=jb C;refine aj 8 U<|eP U (ef eV (jH _ _ _ ai) U fun av ak ae=> ?_) fun c w' A σ' I=>⟨62,Ar C (by have :=of_decide_eq_false A.2.1; omega),A.1,by rw [A.2.2]; exact E⟩
 obtain ⟨rfl,L,rfl⟩:=ae;have L:=of_decide_eq_true L;refine aj 6 U<|p (fw u3 l8 U<|gP ab)<|eP U (ef y9 (CW rb s q n ak V J ab ab) U fun aq aw ac=> ?_) fun c w' A σ' I=>⟨60,As C ab A.1,A.2.1,E.trans A.2.2⟩
 obtain ⟨ap,rfl,O,aa⟩:=ac;exact ax 4 U<|p7<|f1 U U<|⟨_,_,Au C ab ab,U,O,E.trans aa⟩
theorem CX {s:List UInt8} {i:Nat} (h:i < s.length):(s.take<|i+1).drop i= [s.getD i 0]:=by
 rw [Eh,show i+1 - i=1 by omega,drop_cons 0 h]; rfl
theorem Le (b:UInt8):nf [b]=fj b:=by
 unfold nf fQ;cases h:fj b <;> simp [h]
def gW:List UInt8×List UInt8:=([],[])
def dY (r:List UInt8×List UInt8):List ag:= [str r.1,str r.2]
theorem B5 {h:Array Obj} {a:Option bR} {rs:List (List UInt8×List UInt8)} {i:Nat} (A:aX h a (rs.flatMap dY)) (hi:i < rs.length):∀ j,j < 2→Hb.ay h (bk a) (fo a+i*2 +j)= [str (rs.getD i gW).1,str (rs.getD i gW).2][j]? :=
 lP (f:=dY) (m:=2) (fun _=>rfl) A (by rw [b9,bG hi]; rfl)
theorem B6 {rs:List (List UInt8×List UInt8)} (h:0 < rs.length):rs.flatMap dY≠[]:=oq (f:=dY) (m:=2) (fun _=>rfl) aE h
variable {ls:Nat} {t:List UInt8} {rs:List (List UInt8×List UInt8)}
theorem nT {b:Bool} (h:(!b)=true):b=false :=by cases b; rfl; cases h
theorem oU (h:ls < 1∨64 < ls∨256 < rs.length):dZ ls t rs=false :=by
 unfold dZ;rw [decide_eq_false ab]; rfl
theorem tg (h:t≠[]) (A:letE t≠(t,0)):dZ ls t rs=false :=by
 unfold dZ;rw [decide_eq_false h,decide_eq_false A]; simp
theorem l5 {i:Nat} (h:i < rs.length) (A:gM (rs.getD i gW)=false):dZ ls t rs=false :=by
 unfold dZ;rw [yN gW h A]; simp
theorem Co (h:¬(ls < 1∨64 < ls∨256 < rs.length)) (A:t= []∨letE t=(t,0)) (C:∀ i,i < rs.length→gM (rs.getD i gW)=true):dZ ls t rs=true :=by
 unfold dZ;rw [decide_eq_true ab,yO gW C];rcases A with A | A <;> simp [A]
theorem Cq {r:List UInt8×List UInt8} (h:r.1= []):gM r=false :=by unfold gM; simp [h]
theorem xi {r:List UInt8×List UInt8} (h:(fQ r.1 && decide (r.1.length≤32))=false):gM r=false :=by unfold gM; rw [h]; simp
theorem xj {r:List UInt8×List UInt8} (h:(fQ r.2 && decide (r.2.length≤32))=false):gM r=false :=by unfold gM; rw [h]; simp
theorem Cr {r:List UInt8×List UInt8} (h0:r.1≠[]) (h:(fQ r.1 && decide (r.1.length≤32))=true) (A:(fQ r.2 && decide (r.2.length≤32))=true):gM r=true :=by unfold gM; rw [h,A,decide_eq_true h0]; rfl
theorem BO (x:List UInt8) (m:Nat) (w:ah) (ac:x.length≤1048576):
 bj ar 92 (bD [str x,aA m]) w (fun v w'=>v= .bool (fQ x && decide (x.length≤m))∧Wk w w'):=by
 refine enter func92 U ntmps92 U<|cj 14 U<|lp (fun I V E=> ∃ (i:Nat),(i≤x.length)∧(∀ j,j < i→fj (x.getD j 0)=true)∧(Wk w E)∧(Sl V [(0,str x),(1,aA m),(7,aA (x.length)),(8,aA i)])∧(x.length - i=I)) _ ⟨0,ab,(fun j M=>by omega),(Md.refl _ _),U,U⟩ ?_;rintro I V E ⟨i,hi,O,A,aa,rfl⟩;refine bK aa<|cj 6 U<|cd U (fun Z=> ?_) fun Z=> ?_;refine aG 15 U<|p (bF<|i+1)<|p (kX u9 U U U ab)<|e<|bg (Lb ((x.take<|i+1).drop i) E<|by rw [CX ab]; simp) U fun ad ae L=> ?_;rw [CX ab,Le] at L;obtain ⟨rfl,J⟩:=L;refine aJ 3 U<|cb U (fun C=> ?_) fun C=> ?_;exact aH 8 U<|tr<|bl 2 U<|aP U<|⟨by rw [pN (i:=i) ab (by simpa using C)]; rfl,A.trans J⟩
 exact aG 4 U<|p (bF<|i+1)<|ax 2 U<|tn<|⟨_,ab,i+1,ab,(fun j M=>by rcases dF j i with h | h <;> first | exact O j h | (rw [show j=i by omega]; simpa using C)),(A.trans J),U,U⟩
 exact aH 2 U<|cr<|bl 12 U<|aP U<|⟨by rw [rJ (fun j M=>O j ab),pf]; exact bv ab,A⟩
theorem JZ (ls:Nat) (t:List UInt8) (rs:List (List UInt8×List UInt8)) (V:Option bR) (rc:Nat) (aB v4 aD v6:ag) (w:ah) (aq:aX w.heap V (rs.flatMap dY)) (ba:ls≤64) (bf:t.length≤1048576) (bb:rs.length≤1048576) (a0:∀ r∈rs,r.1.length≤1048576∧r.2.length≤1048576):
 bj ar 57 (bD [.agg #[aA ls,str t,.slice V rs.length rc,aB,v4,aD,v6]]) w (fun v w'=>v= .bool (dZ ls t rs)∧Wk w w'):=by
 refine enter func57 U ntmps57 U<|aR 2 U<|e<|n5 U fun ao a5 a7 M C=>aj 7 U<|p (aw U<|C.aK 0)<|aj 2 U<|gs (t:=10) U (fun aW=> ?_) fun aW=> ?_;exact aj 4 U<|p mv<|ax 15 U<|aP U<|⟨(congrArg bq<|oU (t:=t) (rs:=rs)<|.inl (show ls < 1 by omega)).symm,M.md⟩
 refine aj 1 U<|bC U (aw U<|C.aK 0)<|aj 3 U<|gs (t:=15) U (fun aY=> ?_) fun aY=> ?_;exact ax 15 U<|aP U<|⟨(congrArg bq<|oU (t:=t) (rs:=rs)<|.inr<|.inl (show 64 < ls by omega)).symm,M.md⟩
 refine aj 1 U<|bC U (aw U<|C.aK 2)<|aJ 5 U<|cd U (fun aU=> ?_) fun aU=> ?_;exact aH 7 U<|aP U<|⟨(congrArg bq<|oU<|.inr<|.inr (show 256 < rs.length by omega)).symm,M.md⟩
 refine bW 2 U ?_;refine ff (fun aE al=> ∃ (a4:Unit),(t= []∨letE t=(t,0))∧(Wk w al)∧(aC al.heap ao [aA ls,str t,.slice V rs.length rc,aB,v4,aD,v6])∧(Sl aE [(1,aZ ao)])) ?_ ?_;refine aR 3 U<|p (aw U<|C.aK 1)<|e<|bg (Ik t a5 ab) U ?_;rintro bh bn ⟨rfl,au⟩;have I:=M.md.trans au;have E:=Wk.B au C;refine p mv<|aj 9 U<|p (aw U<|E.aK 1)<|aj 2 U<|gs (t:=30) U (fun O=> ?_) fun O=> ?_;refine aj 3 U<|gs (t:=33) U (fun ad=> ?_) fun ad=> ?_;exact aj 5 U<|p (mZ U)<|ax 9 U<|tr<|aP U<|⟨(congrArg bq<|tg O fun h=>by rw [h] at ad; exact ad U).symm,I⟩
 refine aj 2 U<|bC U (aw U<|E.aK 1)<|aJ 5 U<|cd U (fun aa=> ?_) fun aa=> ?_;exact aH 6 U<|tr<|aP U<|⟨(congrArg bq<|tg O fun h=>aa<|by rw [h]).symm,I⟩
 exact aH 1 U<|tn<|⟨(),(.inr<|Prod.ext (qT.1 aa)<|by show (letE t).2=0; omega),I,E,U⟩
 exact ax 13 U<|tn<|⟨(),(.inl<|qT.1 O),I,E,U⟩
 rintro aE al ⟨a4,a3,aQ,aO,a1⟩;refine bK a1<|aG 4 U<|p (aw U<|aO.aK 2)<|aJ 5 U<|lp (fun ap aF am=> ∃ (i:Nat),(i≤rs.length)∧(∀ j,j < i→gM (rs.getD j gW)=true)∧(Wk w am)∧(Sl aF [(41,.slice V rs.length rc),(42,aA (rs.length)),(43,aA i)])∧(rs.length - i=ap)) _ ⟨0,ab,(fun j ay=>by omega),aQ,U,U⟩ ?_;rintro ap aF am ⟨i,hi,az,A,a2,rfl⟩;refine bK a2<|cj 6 U<|cd U (fun aV=> ?_) fun aV=> ?_;refine aG 6 U<|p (bc GZ U U ab<|aX.ok (aq.wk A)<|B6 ab)<|p (eI E3 U (U)<|B5 (aq.wk A) ab)<|e<|dC Mf fun aI bp a8 aT aM=>e<|eu Gn U U U U aM (by simp) fun ak aS aN=> ?_;have Z:aC ak.heap aI [str (rs.getD i gW).1,str (rs.getD i gW).2]:=⟨_,aN⟩
 have L:Wk am ak:=Md.trans' aT.md aS fun k a9 h=>by omega
 have bd:=a0 _<|jY (d:=gW) (show i < rs.length by omega);refine aj 5 U<|p (aw U<|Z.aK 0)<|aj 2 U<|gs (t:=50) U (fun ae=> ?_) fun ae=> ?_;exact aj 5 U<|p mv<|ax 16 U<|tr<|bl 2 U<|aP U<|⟨(congrArg bq<|l5 (show i < rs.length by omega)<|Cq ae).symm,A.trans L⟩
 refine aj 1 U<|bC U (aw U<|Z.aK 0)<|eg U U U<|bg (BO _ 32 ak ab) U ?_;rintro bi a6 ⟨rfl,J⟩;have aL:=Wk.B J Z;refine aj 3 U<|gb (t:=56) U (fun ai=> ?_) fun ai=> ?_;exact ax 16 U<|tr<|bl 2 U<|aP U<|⟨(congrArg bq<|l5 (show i < rs.length by omega)<|xi<|nT ai).symm,(A.trans L).trans J⟩
 refine aj 1 U<|bC U (aw U<|aL.aK 1)<|eg U U U<|bg (BO _ 32 a6 ab) U ?_;rintro bm bo ⟨rfl,av⟩;refine aJ 4 U<|cb U (fun ac=> ?_) fun ac=> ?_;exact aH 8 U<|tr<|bl 2 U<|aP U<|⟨(congrArg bq<|l5 (show i < rs.length by omega)<|xj<|nT ac).symm,((A.trans L).trans J).trans av⟩
 exact aG 4 U<|p (bF<|i+1)<|ax 2 U<|tn<|⟨_,ab,i+1,ab,(fun j ay=>by rcases dF j i with h | h <;> first | exact az j h | (rw [show j=i by omega]; exact Cr ae (by simpa using ai)<|by simpa using ac)),(((A.trans L).trans J).trans av),U,U⟩
 exact aH 2 U<|cr<|bl 8 U<|aP U<|⟨(congrArg bq<|Co ab a3 fun j ay=>az j ab).symm,A⟩
end Go.Hb
end
section
namespace Go.Hb
open Go.Hb.dL
structure ej (f:Nat→ag) (w:ah) (pA ms:Nat) (aa:Option bR) (n cA nx:Nat) (mk:List Nat):Prop where
 ak:aC w.heap pA [.slice aa n cA,.int .i64 nx,.slice (some ⟨ms,0,none⟩) n n]
 fC:aC w.heap ms (mk.map f)
 ne:pA≠ms
theorem ej.drew {f:Nat→ag} {w:ah} {E ms:Nat} {A:Option bR} {n C nx:Nat} {mk:List Nat} (h:ej f w E ms A n C nx mk):ej f w.drew E ms A n C nx mk:=⟨h.ak,h.fC,h.ne⟩
theorem vY {f:Nat→ag} {mk:List Nat} {i x:Nat} :(mk.map f).set (0 +i*1) (f x)=(mk.set i x).map f:=by rw [jQ,cM,Nat.mul_one]
section
variable {a:List aM} {f nx:Nat} {mk:List Nat} {n:Int}
theorem qN (h:n≠nx) (A:¬(0≤n∧n < nx)):vs a (f+1) (nx,mk) n=none:=by
 rw [xO h,if_neg (fun e=>A ⟨e.1,e.2.1⟩)]
theorem C8 (h:n≠nx) (h0:0≤n) (h1:n < nx):(vs a (f+1) (nx,mk) n).isSome=decide (((mk.getD n.toNat 0:Nat):Int)=2):=by
 rw [xO h];by_cases A:mk.getD n.toNat 0=2
 · rw [if_pos ⟨h0,h1,A⟩,decide_eq_true ab]; rfl
 · rw [if_neg (fun e=>A e.2.2),decide_eq_false ab]; rfl
theorem C9 {s:Nat×List Nat} (h:n≠nx) (A:vs a (f+1) (nx,mk) n=some s):s=(nx,mk):=by
 rw [xO h] at A;split at A
 · cases A; rfl
 · cases A
end
set_option maxHeartbeats 1000000 in
theorem Lc (f:Nat) (a:List aM) (O:Option bR) (aa E ms:Nat) (w0:ah) (nx:Nat) (mk:List Nat) (n:Int) (w:ah) (bp:gV w0.heap O a) (cx:w0.heap.size≤E) (hm:w0.heap.size≤ms) (a0:Wk w0 w) (I:ej jq w E ms O a.length aa nx mk) (cu:mk.length=a.length) (cw:nx≤a.length) (ct:a.length < f+nx) (hb:a.length≤1048576) (b2:∀ i,i < a.length→(aO a i).2.length≤1073741824):
 bj ar 87 (bD [aZ E,.int .i64 n]) w (fun v w'=>v= .bool (vs a f (nx,mk) n).isSome∧Md (fun q=>q=E∨q=ms) w w'∧∀ s,vs a f (nx,mk) n=some s→ej jq w' E ms O a.length aa s.1 s.2):=by
 induction f generalizing nx mk n w with
 | zero=>omega
 | succ f ih=>
   have a2:∀ k,k < w0.heap.size→(k=E∨k=ms)→False:=fun k h1 ck=>ab;have cz:=I.ak.lt;have cv:=I.fC.lt;have ao:=I.ne;obtain ⟨ci,bZ⟩:=I.ak;refine enter func87 U ntmps87 U<|aR 12 U<|p (aw U<|I.ak.ay 1)<|aJ 3 U<|cd U (fun au=> ?_) fun au=> ?_;refine aG 5 U<|gs (t:=16) U (fun b4=> ?_) fun b4=> ?_;refine aj 4 U<|bC U (aw U<|I.ak.ay 1)<|aj 3 U<|gs (t:=24) U (fun b5=> ?_) fun b5=> ?_;refine aj 3 U<|bC U (aw U<|I.ak.ay 2)<|aj 1 U<|bC U (ia rZ U U ab)<|bC U (aw U (show _=some (bd .u8 ((mk.getD n.toNat 0:Nat):Int)) from yX I.fC (i:=n.toNat) ab))<|ax 7 U<|aP U ?_;refine ⟨congrArg bq (C8 au ab ab).symm,Md.refl _ _,fun s A=>by rw [C9 au A]; exact I⟩;refine aj 9 U<|p aT<|ax 4 U<|aP U ?_;rw [qN au ab];exact ⟨U,Md.refl _ _,fun s A=>by cases A⟩;refine aj 7 U<|p mv<|aj 9 U<|p aT<|ax 4 U<|aP U ?_;rw [qN au ab];exact ⟨U,Md.refl _ _,fun s A=>by cases A⟩;obtain rfl :n=(nx:Int):=qT.1 au;refine aG 9 U<|p (aw U<|I.ak.ay 0)<|aJ 4 U<|cd U (fun b0=> ?_) fun b0=> ?_;refine aH 7 U<|aP U ?_;rw [Dd rfl ab];exact ⟨U,Md.refl _ _,fun s A=>by cases A⟩;refine aG 7 U<|p (aw U<|I.ak.ay 1)<|p (bF<|nx+1)<|aj 2 U<|e<|dg cI U U U bZ (by simp) fun cf bx bL=> ?_;have bt:aC cf.heap E [.slice O a.length aa,.int .i64 ((nx+1:Nat):Int),.slice (some ⟨ms,0,none⟩) a.length a.length]:=⟨_,bL⟩
   have b9:=bx.B I.fC fun e=>ao e.symm;obtain ⟨em,bX⟩:=b9;refine aj 7 U<|p (aw U<|bt.ay 2)<|aj 1 U<|p (ia rZ U U ab)<|e<|dg zt U U U bX (by simp; omega) fun aN bz bM=> ?_;have ca:aC aN.heap ms ((mk.set nx 1).map jq):=by rw [← vY]; exact ⟨_,bM⟩
   have a3:ej jq aN E ms O a.length aa (nx+1) (mk.set nx 1):=⟨bz.B bt ao,ca,ao⟩
   have a7:Md (fun q=>q=E∨q=ms) w aN:=Md.trans (bx.mono fun k _ h=> .inl h)<|bz.mono fun k _ h=> .inr h;have a1:Wk w0 aN:=Md.trans' a0 a7 a2;obtain ⟨ae,ag,bE,aB⟩:=bp.two (i:=nx) ab;have cn:=aB.wk a1;refine aj 7 U<|p (aw U<|a3.ak.ay 0)<|aj 1 U<|p (bc oo U U ab<|bp.ok ab)<|p (eI yK U (U)<|l7 a1 bE)<|e<|dC Dq fun ad cB cq bU bN=>e<|eu zw U U U U bN (by simp) fun bm bS bO=> ?_;have bu:aC bm.heap ad [bq (aO a nx).1,.slice ae (aO a nx).2.length ag]:=⟨_,bO⟩
   have aS:Wk aN bm:=Md.trans' bU.md bS fun k bA h=>by omega
   have bP:ej jq bm E ms O a.length aa (nx+1) (mk.set nx 1):=⟨aS.B a3.ak,aS.B a3.fC,ao⟩
   have cm:=a7.size;refine aj 6 U<|p (aw U<|bu.ay 1)<|aJ 5 U<|lp (fun bn bB av=> ∃ (k M:Nat) (J:List Nat),(k≤(aO a nx).2.length)∧(fG a f (nx+1) (mk.set nx 1) ((aO a nx).2.take k)=some (M,J))∧(dW<|(aO a nx).2.take k)∧(Wk w0 av)∧(Md (fun q=>q=E∨q=ms) w av)∧(ej jq av E ms O a.length aa M J)∧(aC (av).heap ad [bq (aO a nx).1,.slice ae (aO a nx).2.length ag])∧(Sl bB [(0,aZ E),(1,.int .i64 (nx:Int)),(5,aZ ad),(62,.slice ae (aO a nx).2.length ag),(63,.int .i64 (aO a nx).2.length),(64,.int .i64 k)])∧((aO a nx).2.length - k=bn)) _ ⟨0,nx+1,mk.set nx 1,ab,U,List.Pairwise.nil,(Md.trans a1 aS),(Md.trans' a7 aS fun k _ h=>h.elim),bP,bu,U,U⟩ ?_;rintro bn bB av ⟨k,M,J,bA,ac,aX,aU,a5,aD,aq,cc,rfl⟩;refine bK cc<|cj 6 U<|cd U (fun b1=> ?_) fun b1=> ?_;refine bW 5 U ?_;have cs:=b2 nx ab;obtain ⟨⟨c,z⟩,hek⟩:∃ e,(aO a nx).2[k]? =some e:=⟨_,bG ab⟩
   obtain ⟨⟨aQ,cg⟩,hep⟩:∃ e,(aO a nx).2[k - 1]? =some e:=⟨_,bG ab⟩
   have a9:=tF ac ab;simp only [gl] at a9;refine aG 2 U<|p (bc pY U U ab<|aB.ok ab)<|p (eI ux U (U)<|l7 aU<|aB.two hek)<|e<|dC Mg fun az cA cp bT bH=>aj 1 U<|e<|eu Gp U U U U bH (by simp) fun aL bQ bI=> ?_;have aY:aC aL.heap az [bd .u8 c.toNat,.int .i64 z]:=⟨_,bI⟩
   have L:Wk av aL:=Md.trans' bT.md bQ fun k bA h=>by omega
   have bv:ej jq aL E ms O a.length aa M J:=⟨L.B aD.ak,L.B aD.fC,ao⟩
   have a6:Md (fun q=>q=E∨q=ms) w aL:=Md.trans' a5 L fun k _ h=>h.elim;have co:=a5.size;refine aJ 3 U ?_;have C:(fun w'=>Wk w0 w'∧aC w'.heap ad [bq (aO a nx).1,.slice ae (aO a nx).2.length ag]∧aC w'.heap az [bd .u8 c.toNat,.int .i64 z]) aL.drew:=⟨(Md.trans aU L).drew,L.B aq,aY⟩
   refine bo (fun w'=>Wk w0 w'∧aC w'.heap ad [bq (aO a nx).1,.slice ae (aO a nx).2.length ag]∧aC w'.heap az [bd .u8 c.toNat,.int .i64 z]) U wide C<|aF [0,1,2] U C<|jA (t:=71) U (fun b6=> ?_) fun b6=> ?_;refine aF [3] U C<|dk 4 U (fun w' Z=>aw U<|Z.2.1.ay 1) C<|aF [5] U C<|dk 6 U (fun _ _=>kV<|k - 1) C<|dk 7 U (fun _ _=>bc pY U U ab<|aB.ok ab) C<|aF [8] U C<|dk 9 U (fun w' Z=>aw U (show _=some (bd .u8 (aQ.toNat:Int)) from (aB.wk Z.1).b (k - 1) (aQ,cg) hep)) C<|aF [10] U C<|dk 11 U (fun w' Z=>aw U<|Z.2.2.ay 0) C<|aF [12,13,14] U C<|jA (t:=83) U (fun b7=> ?_) fun b7=> ?_;refine aF [15,16,17,18,19,20] U C<|hn ai<|bl 10 U<|tr<|bl 2 U<|aP U ?_;rw [Dc ab (Bu ab hek hep<|by show c.toNat≤aQ.toNat; omega)];exact ⟨U,a6.drew,fun s A=>by cases A⟩;refine aF [15,16] U C<|dk 17 U (fun w' Z=>aw U<|Z.2.2.ay 1) C<|AB 18 U ai U U U<|bg (ih M J z _ (Md.trans aU L).drew (ej.drew bv) ab ab ab) U ?_;rintro ce ap ⟨rfl,V,bf⟩;have al:Md (fun q=>q=E∨q=ms) w ap:=Md.trans a6<|Md.cy V;have aA:Wk w0 ap:=Md.trans' a0 al a2;have aE:(fun w'=>Wk w0 w'∧aC w'.heap ad [bq (aO a nx).1,.slice ae (aO a nx).2.length ag]∧aC w'.heap az [bd .u8 c.toNat,.int .i64 z]) ap:=⟨aA,V.B (L.B aq) (fun e=>by omega),V.B aY fun e=>by omega⟩
   refine ⟨aE,?_⟩;refine aF [19,20] U aE<|hn ai<|dh 1 U<|cb U (fun am=> ?_) fun am=> ?_;have ba:vs a f (M,J) z=none:=by simpa using am
   refine aH 8 U<|tr<|bl 2 U<|aP U ?_;rw [tE (k:=k+1) ab (by rw [l9 ac hek]; exact ba)];exact ⟨U,al,fun s A=>by cases A⟩;obtain ⟨aK,aI⟩:∃ s,vs a f (M,J) z=some s:=mu.1<|by simpa using am
   exact aH 7 U<|tn<|⟨_,ab,k+1,aK.1,aK.2,ab,(by rw [l9 ac hek]; exact aI),(sR aX hek fun q h0 bb=>by rw [hep] at bb; cases bb; show aQ.toNat < c.toNat; omega),aA,al,(bf _ aI),(V.B (L.B aq) fun e=>by omega),U,U⟩
   refine aF [3,4,5,6,7,8,9,10,11,12,13] U C<|cR 14 U (mv) C<|aF [15,16] U C<|dk 17 U (fun w' Z=>aw U<|Z.2.2.ay 1) C<|AB 18 U ai U U U<|bg (ih M J z _ (Md.trans aU L).drew (ej.drew bv) ab ab ab) U ?_;rintro ce ap ⟨rfl,V,bf⟩;have al:Md (fun q=>q=E∨q=ms) w ap:=Md.trans a6<|Md.cy V;have aA:Wk w0 ap:=Md.trans' a0 al a2;have aE:(fun w'=>Wk w0 w'∧aC w'.heap ad [bq (aO a nx).1,.slice ae (aO a nx).2.length ag]∧aC w'.heap az [bd .u8 c.toNat,.int .i64 z]) ap:=⟨aA,V.B (L.B aq) (fun e=>by omega),V.B aY fun e=>by omega⟩
   refine ⟨aE,?_⟩;refine aF [19,20] U aE<|hn ai<|dh 1 U<|cb U (fun am=> ?_) fun am=> ?_;have ba:vs a f (M,J) z=none:=by simpa using am
   refine aH 8 U<|tr<|bl 2 U<|aP U ?_;rw [tE (k:=k+1) ab (by rw [l9 ac hek]; exact ba)];exact ⟨U,al,fun s A=>by cases A⟩;obtain ⟨aK,aI⟩:∃ s,vs a f (M,J) z=some s:=mu.1<|by simpa using am
   exact aH 7 U<|tn<|⟨_,ab,k+1,aK.1,aK.2,ab,(by rw [l9 ac hek]; exact aI),(sR aX hek fun q h0 bb=>by omega),aA,al,(bf _ aI),(V.B (L.B aq) fun e=>by omega),U,U⟩
   refine aH 2 U<|cr<|dh 3 U ?_;obtain ⟨ch,bY⟩:=aD.fC;rw [show k=(aO a nx).2.length by omega,yx] at ac aX;have a9:=tF ac ab;simp only [gl] at a9;have bh:=Da ab aX ac;refine aG 4 U<|p (aw U<|aD.ak.ay 2)<|aj 1 U<|p (ia rZ U U ab)<|e<|dg zt U U U bY (by simp; omega) fun bi a4 bJ=> ?_;have b8:aC bi.heap ms ((J.set nx 2).map jq):=by rw [← vY]; exact ⟨_,bJ⟩
   have aV:ej jq bi E ms O a.length aa M (J.set nx 2):=⟨a4.B aD.ak ao,b8,ao⟩
   have aW:Md (fun q=>q=E∨q=ms) w bi:=Md.trans a5<|a4.mono fun k _ h=> .inr h;have br:=a4.B aq fun e=>by omega
   refine aj 5 U<|p (aw U<|br.ay 1)<|aj 3 U<|gs (t:=101) U (fun b3=> ?_) fun b3=> ?_;refine aj 3 U<|p mv<|aj 7 U<|p aT<|ax 3 U<|aP U ?_;rw [bh,if_pos (A5 ab)];exact ⟨U,aW,fun s A=>by cases A; exact aV⟩;refine aj 1 U<|bC U (aw U<|br.ay 0)<|aj 2 U<|gb (t:=105) U (fun a8=> ?_) fun a8=> ?_;refine aj 7 U<|p aT<|ax 3 U<|aP U ?_;rw [bh,if_pos (A4 a8)];exact ⟨U,aW,fun s A=>by cases A; exact aV⟩;refine aj 3 U<|bC U (aw U<|aV.ak.ay 0)<|ax 7 U<|aP U ?_;rw [bh,vQ ab a8];by_cases h1:a.length=1;rw [if_pos (decide_eq_true h1)];exact ⟨congrArg bq (decide_eq_true ab),aW,fun s A=>by cases A; exact aV⟩;rw [if_neg (by simpa using h1)];exact ⟨congrArg bq (decide_eq_false ab),aW,fun s A=>by cases A⟩
def qF (a:List aM):Int:=if shaped a=true then 0 else 190
theorem ke {a:List aM} (h:shaped a=false):qF a=190:=if_neg<|by rw [h]; exact dn
theorem th {a:List aM} (h:shaped a=true):qF a=0:=if_pos h
def jr (x:Nat):ag:= .bool<|decide (x=2)
theorem Ix {mk:List Nat} {i:Nat} (h:mk.getD i 0=0):(mk.set i 1).map jr=mk.map jr:=by
 refine List.ext_getElem? fun j=> ?_;rw [fq,fq,List.getElem?_set];by_cases e:i=j
 · subst e;rw [if_pos rfl];by_cases A:i < mk.length
   · rw [if_pos A,bG A];rw [b9,bG A] at h;have h0:mk[i]=0:=h;rw [h0]; rfl
   · rw [if_neg A,List.getElem?_eq_none ab]
 · rw [if_neg e]
theorem L8 (n:Nat):∀ i,0≤i→(cZ n 0).getD i 0=0:=fun i _=>by
 rw [b9,List.getElem?_replicate]; split <;> rfl
set_option maxHeartbeats 1000000 in
theorem J3 (a:List aM) (A:Option bR) (E:Nat) (w:ah) (ad:gV w.heap A a) (aB:a.length≤140737488355328) (aq:∀ i,i < a.length→(aO a i).2.length≤1073741824):
 bj ar 50 (bD [.slice A a.length E]) w (fun v w'=>v= .int .i64 (qF a)∧Wk w w'):=by
 refine enter func50 U ntmps50 U<|aR 12 U<|gs (t:=7) U (fun au=> ?_) fun au=> ?_;exact ax 14 U<|aP U<|⟨iv (ke<|tj ab).symm,Md.refl _ _⟩
 refine aJ 6 U<|cd U (fun ao=> ?_) fun ao=> ?_;exact aH 7 U<|aP U<|⟨iv (ke<|tj ab).symm,Md.refl _ _⟩
 refine aG 7 U<|e<|fC (zv:= .int .u8 0) l6 U U U U ab (by unfold maxLen; omega) fun C aA aE J av=> ?_;have ag:aC aA.heap C ((cZ a.length 0).map jq):=by rw [yt]; exact BJ<|av _<|aQ _
 refine p (eU (ps:= [(0,.slice A a.length E),(2,.slice (some ⟨C,0,none⟩) a.length a.length)]) (L:= [.slice A a.length E,.int .i64 0,.slice (some ⟨C,0,none⟩) a.length a.length]) Kr U<|U)<|e<|n5 U fun V ac aD aa ae=> ?_;have al:ej jq ac V C A a.length E 0 (cZ a.length 0):=⟨ae,aa.md.B ag,by have :=J.size; omega⟩
 have Z:Wk w ac:=Md.trans J.md aa.md;have aI:=J.md.size;refine aj 7 U<|e<|bg (Lc (a.length+1) a A E V C w 0 (cZ a.length 0) 0 _ ad ab ab Z al (by simp) ab ab ab aq) U ?_;rintro aL az ⟨rfl,am,bo⟩;have I:Wk w az:=Md.trans' Z am fun k aF h=>by omega
 refine aj 2 U<|gb (t:=21) U (fun M=> ?_) fun M=> ?_;have hn:vs a (a.length+1) (0,cZ a.length 0) 0=none:=by simpa using M
 exact ax 18 U<|aP U<|⟨iv (ke<|Cw hn).symm,I⟩
 obtain ⟨aK,O⟩:∃ s,vs a (a.length+1) (0,cZ a.length 0) 0=some s:=mu.1<|by simpa using M
 have ai:=bo _ O;refine aj 3 U<|bC U (aw U<|ai.ak.ay 1)<|aJ 6 U<|cd U (fun ap=> ?_) fun ap=> ?_;exact aH 7 U<|aP U<|⟨iv (ke<|by rw [tk ab ab O]; exact decide_eq_false ab).symm,I⟩
 exact aH 8 U<|aP U<|⟨iv (th<|by rw [tk ab ab O]; exact decide_eq_true ab).symm,I⟩
set_option maxHeartbeats 1000000 in
theorem Ld (f:Nat) (a:List aM) (V:Option bR) (ae A ms:Nat) (w0:ah) (nx:Nat) (mk:List Nat) (n:Int) (w:ah) (a6:gV w0.heap V a) (ci:w0.heap.size≤A) (hm:w0.heap.size≤ms) (aU:Wk w0 w) (I:ej jr w A ms V a.length ae nx mk) (cf:mk.length=a.length) (ch:nx≤a.length) (ce:a.length < f+nx) (hb:a.length≤1048576) (bO:∀ i,i < a.length→(aO a i).2.length≤1073741824) (bf:∀ i,nx≤i→mk.getD i 0=0):
 bj ar 93 (bD [aZ A,.int .i64 n]) w (fun v w'=>v= .bool (vs a f (nx,mk) n).isSome∧Md (fun q=>q=A∨q=ms) w w'∧∀ s,vs a f (nx,mk) n=some s→ej jr w' A ms V a.length ae s.1 s.2):=by
 induction f generalizing nx mk n w with
 | zero=>omega
 | succ f ih=>
   have aW:∀ k,k < w0.heap.size→(k=A∨k=ms)→False:=fun k h1 b8=>ab;have cj:=I.ak.lt;have cg:=I.fC.lt;have aq:=I.ne;obtain ⟨b7,bH⟩:=I.ak;refine enter func93 U ntmps93 U<|aR 11 U<|gs (t:=10) U (fun bP=> ?_) fun bP=> ?_;refine aj 8 U<|p mv<|ax 17 U<|aP U ?_;rw [qN ab ab];exact ⟨U,Md.refl _ _,fun s E=>by cases E⟩;refine aj 4 U<|bC U (aw U<|I.ak.ay 0)<|aj 4 U<|gs (t:=19) U (fun bQ=> ?_) fun bQ=> ?_;refine ax 17 U<|aP U ?_;have b1:vs a (f+1) (nx,mk) n=none:=by
    by_cases h:n=nx;exact Dd h ab;exact qN h ab
   rw [b1];exact ⟨U,Md.refl _ _,fun s E=>by cases E⟩;refine aj 4 U<|bC U (aw U<|I.ak.ay 1)<|aJ 4 U<|cd U (fun bI=> ?_) fun bI=> ?_;refine aH 7 U<|aP U ?_;rw [qN ab ab];exact ⟨U,Md.refl _ _,fun s E=>by cases E⟩;refine aG 9 U<|p (aw U<|I.ak.ay 1)<|aJ 3 U<|cd U (fun bJ=> ?_) fun bJ=> ?_;exact aG 5 U<|p (aw U<|I.ak.ay 2)<|aj 1 U<|p (ia pX U U ab)<|p (aw U (show _=some (bq<|decide (mk.getD n.toNat 0=2)) from yX I.fC (i:=n.toNat) ab))<|ax 5 U<|aP U<|⟨congrArg bq ((C8 ab ab ab).trans<|by rw [decide_eq_decide]; omega).symm,Md.refl _ _,fun s E=>by rw [C9 ab E]; exact I⟩
   obtain rfl :n=(nx:Int):=ab;refine aG 8 U<|p (aw U<|I.ak.ay 1)<|p (bF<|nx+1)<|aj 2 U<|e<|dg cI U U U bH (by simp) fun aS ba bt=> ?_;have aX:ej jr aS A ms V a.length ae (nx+1) (mk.set nx 1):=⟨⟨_,bt⟩,by rw [Ix (bf nx<|aQ _)]; exact ba.B I.fC (fun e=>aq e.symm),aq⟩
   have aY:Md (fun q=>q=A∨q=ms) w aS:=ba.mono fun k _ h=> .inl h;have a7:Wk w0 aS:=Md.trans' aU aY aW;obtain ⟨aD,aE,bp,O⟩:=a6.two (i:=nx) ab;refine aj 7 U<|p (aw U<|aX.ak.ay 0)<|aj 1 U<|p (bc pW U U ab<|a6.ok ab)<|p (eI yJ U (U)<|l7 a7 bp)<|e<|dC Dn fun ad ck ca bB bu=>e<|eu zo U U U U bu (by simp) fun aA bz bv=> ?_;have aT:aC aA.heap ad [bq (aO a nx).1,.slice aD (aO a nx).2.length aE]:=⟨_,bv⟩
   have aI:Wk aS aA:=Md.trans' bB.md bz fun k bU h=>by omega
   have a8:ej jr aA A ms V a.length ae (nx+1) (mk.set nx 1):=⟨aI.B aX.ak,aI.B aX.fC,aq⟩
   have b9:=aY.size;have bb:Md (fun q=>q=A∨q=ms) w aA:=Md.trans' aY aI fun k _ h=>h.elim;refine aJ 2 U ?_;refine ff (fun bm bi=>(gv a (aO a nx)=true)∧(bi=aA)∧(Sl bm [(0,aZ A),(1,.int .i64 (nx:Int)),(5,aZ ad)])) ?_ ?_;refine aR 3 U<|p (aw U<|aT.ay 1)<|aj 3 U<|gs (t:=59) U (fun bS=> ?_) fun bS=> ?_;refine aj 1 U<|bC U (aw U<|aT.ay 0)<|aj 3 U<|gb (t:=64) U (fun aL=> ?_) fun aL=> ?_;refine aj 3 U<|bC U (aw U<|a8.ak.ay 0)<|aJ 5 U<|cd U (fun bL=> ?_) fun bL=> ?_;refine aH 6 U<|tr<|aP U ?_;rw [Lf ab (by rw [vQ ab (by simpa using aL)]; exact decide_eq_false ab)];exact ⟨U,bb,fun s E=>by cases E⟩;exact aH 1 U<|tn<|⟨(by rw [vQ ab (by simpa using aL)]; exact decide_eq_true ab),U,U⟩
   exact ax 11 U<|tn<|⟨(A4<|by simpa using aL),U,U⟩
   exact aj 4 U<|p mv<|ax 11 U<|tn<|⟨(A5 ab),U,U⟩
   rintro bm bi ⟨bX,b3,bZ⟩;refine bK bZ ?_;subst b3;refine bW 7 U<|lp (fun a5 bn al=> ∃ (k L:Nat) (J:List Nat),(k≤(aO a nx).2.length)∧(fG a f (nx+1) (mk.set nx 1) ((aO a nx).2.take k)=some (L,J))∧(dW<|(aO a nx).2.take k)∧(Wk w0 al)∧(Md (fun q=>q=A∨q=ms) w al)∧(ej jr al A ms V a.length ae L J)∧(aC (al).heap ad [bq (aO a nx).1,.slice aD (aO a nx).2.length aE])∧(Sl bn [(0,aZ A),(1,.int .i64 (nx:Int)),(5,aZ ad),(6,.int .i64 k)])∧((aO a nx).2.length - k=a5)) _ ⟨0,nx+1,mk.set nx 1,ab,U,List.Pairwise.nil,(Md.trans a7 aI),bb,a8,aT,U,U⟩ ?_;rintro a5 bn al ⟨k,L,J,bU,M,aN,am,aK,ao,ag,b0,rfl⟩;refine bK b0<|aR 5 U<|p (aw U<|ag.ay 1)<|aJ 4 U<|cd U (fun bM=> ?_) fun bM=> ?_;refine bW 6 U ?_;have cc:=bO nx ab;obtain ⟨⟨c,z⟩,hek⟩:∃ e,(aO a nx).2[k]? =some e:=⟨_,bG ab⟩
   obtain ⟨⟨aB,b5⟩,hep⟩:∃ e,(aO a nx).2[k - 1]? =some e:=⟨_,bG ab⟩
   have a0:=tF M ab;simp only [gl] at a0;have bh:=Ll M fun i hi=>by rw [getD_set_ne _ _ ab]; exact bf i ab
   have C:(fun w'=>Wk w0 w'∧aC w'.heap ad [bq (aO a nx).1,.slice aD (aO a nx).2.length aE]) al.drew:=⟨am.drew,ag⟩
   refine bo (fun w'=>Wk w0 w'∧aC w'.heap ad [bq (aO a nx).1,.slice aD (aO a nx).2.length aE]) U wide C<|aF [0,1,2] U C<|jA (t:=81) U (fun bT=> ?_) fun bT=> ?_;refine aF [3] U C<|dk 4 U (fun w' aa=>aw U<|aa.2.ay 1) C<|aF [5] U C<|dk 6 U (fun _ _=>bc om U U ab<|O.ok ab) C<|aF [7] U C<|dk 8 U (fun w' aa=>aw U (show _=some (bd .u8 (c.toNat:Int)) from (O.wk aa.1).b k (c,z) hek)) C<|aF [9] U C<|dk 10 U (fun w' aa=>aw U<|aa.2.ay 1) C<|aF [11] U C<|dk 12 U (fun _ _=>kV<|k - 1) C<|dk 13 U (fun _ _=>bc om U U ab<|O.ok ab) C<|aF [14] U C<|dk 15 U (fun w' aa=>aw U (show _=some (bd .u8 (aB.toNat:Int)) from (O.wk aa.1).b (k - 1) (aB,b5) hep)) C<|aF [16,17] U C<|hn ai<|dh 1 U<|cd U (fun bN=> ?_) fun bN=> ?_;refine aH 9 U<|tr<|bl 2 U<|aP U ?_;rw [Dc ab (Bu ab hek hep<|by show c.toNat≤aB.toNat; omega)];exact ⟨U,aK.drew,fun s E=>by cases E⟩;refine aG 6 U<|p (aw U<|ag.ay 1)<|aj 1 U<|p (bc om U U ab<|O.ok ab)<|aj 1 U<|p (aw U (show _=some (bd .i64 z) from (O.wk am).to k (c,z) hek))<|e<|bg (ih L J z _ (Md.drew am) (ej.drew ao) ab ab ab bh) U ?_;rintro b4 az ⟨rfl,ap,a3⟩;have Z:Md (fun q=>q=A∨q=ms) w az:=Md.trans aK<|Md.cy ap;have aV:Wk w0 az:=Md.trans' aU Z aW;refine aJ 9 U<|cb U (fun ac=> ?_) fun ac=> ?_;have a1:vs a f (L,J) z=none:=by simpa using ac
   refine aH 8 U<|tr<|bl 2 U<|aP U ?_;rw [tE (k:=k+1) ab (by rw [l9 M hek]; exact a1)];exact ⟨U,Z,fun s E=>by cases E⟩;obtain ⟨av,au⟩:∃ s,vs a f (L,J) z=some s:=mu.1<|by simpa using ac
   exact aH 8 U<|tn<|⟨_,ab,k+1,av.1,av.2,ab,(by rw [l9 M hek]; exact au),(sR aN hek fun q h0 a2=>by rw [hep] at a2; cases a2; show aB.toNat < c.toNat; omega),aV,Z,(a3 _ au),(ap.B ag fun e=>by omega),U,U⟩
   refine aF [3,4,5,6,7,8,9,10,11,12,13,14,15,16,17] U C<|hn ai<|eY 8 U<|p (aw U<|ag.ay 1)<|aj 1 U<|p (bc om U U ab<|O.ok ab)<|aj 1 U<|p (aw U (show _=some (bd .i64 z) from (O.wk am).to k (c,z) hek))<|e<|bg (ih L J z _ (Md.drew am) (ej.drew ao) ab ab ab bh) U ?_;rintro b4 az ⟨rfl,ap,a3⟩;have Z:Md (fun q=>q=A∨q=ms) w az:=Md.trans aK<|Md.cy ap;have aV:Wk w0 az:=Md.trans' aU Z aW;refine aJ 9 U<|cb U (fun ac=> ?_) fun ac=> ?_;have a1:vs a f (L,J) z=none:=by simpa using ac
   refine aH 8 U<|tr<|bl 2 U<|aP U ?_;rw [tE (k:=k+1) ab (by rw [l9 M hek]; exact a1)];exact ⟨U,Z,fun s E=>by cases E⟩;obtain ⟨av,au⟩:∃ s,vs a f (L,J) z=some s:=mu.1<|by simpa using ac
   exact aH 8 U<|tn<|⟨_,ab,k+1,av.1,av.2,ab,(by rw [l9 M hek]; exact au),(sR aN hek fun q h0 a2=>by omega),aV,Z,(a3 _ au),(ap.B ag fun e=>by omega),U,U⟩
   refine aH 2 U<|cr<|dh 3 U ?_;obtain ⟨b6,bE⟩:=ao.fC;rw [show k=(aO a nx).2.length by omega,yx] at M aN;have a0:=tF M ab;simp only [gl] at a0;have b2:=Da ab aN M;refine aG 4 U<|p (aw U<|ao.ak.ay 2)<|aj 1 U<|p (ia pX U U ab)<|e<|dg uO U U U bE (by simp; omega) fun a4 a9 br=> ?_;have bY:aC a4.heap ms ((J.set nx 2).map jr):=by rw [← vY]; exact ⟨_,br⟩
   have bx:ej jr a4 A ms V a.length ae L (J.set nx 2):=⟨a9.B ao.ak aq,bY,aq⟩
   have bA:Md (fun q=>q=A∨q=ms) w a4:=Md.trans aK<|a9.mono fun k _ h=> .inr h;refine ax 8 U<|aP U ?_;rw [b2,if_pos bX];exact ⟨U,bA,fun s E=>by cases E; exact bx⟩
set_option maxHeartbeats 1000000 in
theorem J4 (a:List aM) (A:Option bR) (E:Nat) (w:ah) (ad:gV w.heap A a) (aB:a.length≤140737488355328) (aq:∀ i,i < a.length→(aO a i).2.length≤1073741824):
 bj ar 63 (bD [.slice A a.length E]) w (fun v w'=>v= .int .i64 (qF a)∧Wk w w'):=by
 refine enter func63 U ntmps63 U<|aR 12 U<|gs (t:=8) U (fun au=> ?_) fun au=> ?_;exact ax 14 U<|aP U<|⟨iv (ke<|tj ab).symm,Md.refl _ _⟩
 refine aJ 6 U<|cd U (fun ao=> ?_) fun ao=> ?_;exact aH 7 U<|aP U<|⟨iv (ke<|tj ab).symm,Md.refl _ _⟩
 refine aG 7 U<|e<|fC (zv:= .bool false) CF U U U U ab (by unfold maxLen; omega) fun C aA aE J av=> ?_;have ag:aC aA.heap C ((cZ a.length 0).map jr):=by rw [yt]; exact BJ<|av _<|aQ _
 refine p (eU (ps:= [(0,.slice A a.length E),(2,.slice (some ⟨C,0,none⟩) a.length a.length)]) (L:= [.slice A a.length E,.int .i64 0,.slice (some ⟨C,0,none⟩) a.length a.length]) Ks U<|U)<|e<|n5 U fun V ac aD aa ae=> ?_;have al:ej jr ac V C A a.length E 0 (cZ a.length 0):=⟨ae,aa.md.B ag,by have :=J.size; omega⟩
 have Z:Wk w ac:=Md.trans J.md aa.md;have aI:=J.md.size;refine aj 6 U<|e<|bg (Ld (a.length+1) a A E V C w 0 (cZ a.length 0) 0 _ ad ab ab Z al (by simp) ab ab ab aq<|L8 _) U ?_;rintro v20 az ⟨rfl,am,bo⟩;have I:Wk w az:=Md.trans' Z am fun k aF h=>by omega
 refine aj 9 U<|gb (t:=23) U (fun M=> ?_) fun M=> ?_;have hn:vs a (a.length+1) (0,cZ a.length 0) 0=none:=by simpa using M
 exact ax 18 U<|aP U<|⟨iv (ke<|Cw hn).symm,I⟩
 obtain ⟨aK,O⟩:∃ s,vs a (a.length+1) (0,cZ a.length 0) 0=some s:=mu.1<|by simpa using M
 have ai:=bo _ O;refine aj 3 U<|bC U (aw U<|ai.ak.ay 1)<|aJ 6 U<|cd U (fun ap=> ?_) fun ap=> ?_;exact aH 7 U<|aP U<|⟨iv (ke<|by rw [tk ab ab O]; exact decide_eq_false ab).symm,I⟩
 exact aH 8 U<|aP U<|⟨iv (th<|by rw [tk ab ab O]; exact decide_eq_true ab).symm,I⟩
end Go.Hb
end
section
namespace Go.Hb.fO
open Go.Hb.dL
theorem KU {s:List UInt8} {i:Nat} (h:i < s.length):(s.drop i).take 1= [s.getD i 0]:=by
 rw [drop_cons 0 h]; rfl
def fl (l:List (Bool×ag)):List ag:=l.flatMap fun q=> [.bool q.1,q.2]
def eW (l:List (UInt8×Int)):List ag:=l.flatMap fun e=> [.int .u8 e.1.toNat,.int .i64 e.2]
theorem Tg.kN {F:Nat→Prop} {w w':ah} {B e n:Nat} {v:ag} {xs:List ag} (h:Tg w B e n v xs) (hm:Md F w w') (I:∀ k,F k→B≤k→∀ cur z,w.heap[k]?≠some (.cells cur e z)):Tg w' B e n v xs:=by
 obtain ⟨a,C,rfl,E,h | ⟨b,cur,z,rfl,hb,A,L⟩⟩:=h
 · exact ⟨a,C,U,E,.inl h⟩
 · exact ⟨_,C,U,E,.inr ⟨b,cur,z,U,hb,by rw [hm.dH b (dm.1 A).1 (fun J=>I b J hb cur z A)]; exact A,L⟩⟩
theorem Bt {w:ah} {k:Nat} (h:w.heap.size≤k) (cur:Array ag) (e:Nat) (z:Nat×Nat):w.heap[k]?≠some (.cells cur e z):=by
 rw [Array.getElem?_eq_none h]; intro h; cases h
def eC (w:ah) (B:Nat) (A:List (Bool×ag)) (l:List aM):Prop :=A.length=l.length∧∀ (i:Nat) q e,A[i]? =some q→l[i]? =some e→q.1=e.1∧Tg w B 84 e.2.length q.2 (eW e.2)
theorem eC.nil (w:ah) (B:Nat):eC w B [] []:=⟨rfl,fun i q r A=>by simp at A⟩
theorem eC.md {F:Nat→Prop} {w w':ah} {B:Nat} {C:List (Bool×ag)} {l:List aM} (h:eC w B C l) (hm:Md F w w') (E:∀ k,F k→B≤k→∀ cur z,w.heap[k]?≠some (.cells cur 84 z)):eC w' B C l:=
 ⟨h.1,fun i q r h1 A=>⟨(h.2 i q r h1 A).1,Tg.kN (h.2 i q r h1 A).2 hm E⟩⟩
theorem eC.wk {w w':ah} {B:Nat} {A:List (Bool×ag)} {l:List aM} (h:eC w B A l) (hm:Wk w w'):eC w' B A l:=h.md hm fun _ C=>C.elim
theorem eC.snoc {w:ah} {B:Nat} {C:List (Bool×ag)} {l:List aM} {v:ag} {e:aM} (ha:eC w B C l) (I:Tg w B 84 e.2.length v (eW e.2)):eC w B (C++ [(e.1,v)]) (l++ [e]):=by
 refine ⟨by rw [cz,cz,ha.1]; rfl,fun i q' r' h1 A=> ?_⟩;have E:=ha.1;by_cases hi:i < C.length
 · rw [fJ hi] at h1;rw [fJ ab] at A;exact ha.2 i q' r' h1 A
 · rw [gk ab] at h1;rw [gk ab,← E] at A;cases hj:i - C.length with
   | zero=>rw [hj] at h1 A; cases h1; cases A; exact ⟨rfl,I⟩
   | succ j=>rw [hj] at h1; simp at h1
def eS (w:ah) (B:Nat) (v:ag) (l:List aM):Prop := ∃ A,Tg w B 81 l.length v (fl A)∧eC w B A l
theorem eS.md {F:Nat→Prop} {w w':ah} {B:Nat} {v:ag} {l:List aM} (h:eS w B v l) (hm:Md F w w') (C:∀ k,F k→B≤k→∀ cur z,w.heap[k]?≠some (.cells cur 81 z)∧w.heap[k]?≠some (.cells cur 84 z)):eS w' B v l:=by
 obtain ⟨I,h1,E⟩:=h;exact ⟨I,Tg.kN h1 hm fun k A hb cur z=>(C k A hb cur z).1,E.md hm fun k A hb cur z=>(C k A hb cur z).2⟩
theorem eS.wk {w w':ah} {B:Nat} {v:ag} {l:List aM} (h:eS w B v l) (hm:Wk w w'):eS w' B v l:=h.md hm fun _ A=>A.elim
theorem eS.mono {w:ah} {B B':Nat} {v:ag} {l:List aM} (h:eS w B v l) (C:B'≤B):eS w B' v l:=by
 obtain ⟨J,h1,I,A⟩:=h;exact ⟨J,h1.mono C,I,fun i q e E he=>⟨(A i q e E he).1,(A i q e E he).2.mono C⟩⟩
theorem eS.ee {w:ah} {B:Nat} {v:ag} {l:List aM} (h:eS w B v l):∃ A cc,v= .slice A l.length cc∧l.length≤cc∧gV w.heap A l:=by
 obtain ⟨V,h1,aj,ad⟩:=h;obtain ⟨A,cc,rfl⟩:=h1.slice;obtain ⟨ae,J⟩:=h1.pO;refine ⟨A,cc,U,ae,fun h0=>aX.ok J (oq (f:=fun q:Bool×ag=> [bq q.1,q.2]) (m:=2) (fun _=>rfl) aE ab),fun i hi=> ?_⟩;have M:V[i]? =some (V[i]'ab):=bG ab;have ai:l[i]? =some (aO l i):=by
  unfold aO;rw [b9,bG hi]; rfl
 obtain ⟨ac,E⟩:=ad i _ _ M ai;obtain ⟨Z,aa,O⟩:=E.slice;have I:=E;rw [O] at I;obtain ⟨_,C⟩:=I.pO;have L:=lP (f:=fun q:Bool×ag=> [bq q.1,q.2]) (m:=2) (fun _=>rfl) J M;refine ⟨Z,aa,by rw [L 0 ab,ac]; rfl,by rw [L 1 ab,O]; rfl,fun h0=>aX.ok C (oq (f:=fun e:UInt8×Int=> [bd .u8 e.1.toNat,.int .i64 e.2]) (m:=2) (fun _=>rfl) aE h0),fun k e he=> ?_,fun k e he=> ?_⟩
 · exact lP (f:=fun e:UInt8×Int=> [bd .u8 e.1.toNat,.int .i64 e.2]) (m:=2) (fun _=>rfl) C he 0 ab
 · exact lP (f:=fun e:UInt8×Int=> [bd .u8 e.1.toNat,.int .i64 e.2]) (m:=2) (fun _=>rfl) C he 1 ab
theorem Cv (A:List (Bool×ag)) (q:Bool×ag):fl (A++ [q])=fl A++ [.bool q.1,q.2]:=by simp [fl]
theorem zT (es:List (UInt8×Int)) (e:UInt8×Int):eW (es++ [e])=eW es++ [.int .u8 e.1.toNat,.int .i64 e.2]:=by simp [eW]
theorem Ct (l:List (Bool×ag)):(fl l).length=l.length*2:=sc (f:=fun q:Bool×ag=> [bq q.1,q.2]) (m:=2) (fun _=>rfl) l
theorem zS (l:List (UInt8×Int)):(eW l).length=l.length*2:=sc (f:=fun e:UInt8×Int=> [bd .u8 e.1.toNat,.int .i64 e.2]) (m:=2) (fun _=>rfl) l
section
variable {s:List UInt8} {n a e t p v k:Nat} {es:List (UInt8×Int)} {l:List aM}
theorem zU (h:s.length≤a):dX s n a= .error 60:=by unfold dX; rw [if_pos h]
theorem zV (h:¬s.length≤a) (h1:a9 s (a+1)= .error e):dX s n a= .error e:=by unfold dX; rw [if_neg h,h1]
theorem zW (h:¬s.length≤a) (h1:a9 s (a+1)= .ok (t,p)) (A:n≤t):dX s n a= .error 190:=by unfold dX; rw [if_neg h,h1]; exact if_pos A
theorem zX (h:¬s.length≤a) (h1:a9 s (a+1)= .ok (t,p)) (A:¬n≤t):dX s n a= .ok ((s.getD a 0,(t:Int)),p):=by unfold dX; rw [if_neg h,h1]; exact if_neg A
theorem CK (h:a9 s a= .error e):fm s n a= .error e:=by unfold fm; rw [h]
theorem CL (h:a9 s a= .ok (v,p)) (A:256 < v / 2):fm s n a= .error 190:=by unfold fm; rw [h]; exact if_pos A
theorem CM (h:a9 s a= .ok (v,p)) (A:¬256 < v / 2) (C:cq (dX s n) (v / 2) p= .error e):fm s n a= .error e:=by unfold fm; rw [h]; simp only; rw [if_neg A,C]
theorem CN (h:a9 s a= .ok (v,p)) (A:¬256 < v / 2) (C:cq (dX s n) (v / 2) p= .ok (es,t)):fm s n a= .ok ((decide (v % 2=1),es),t):=by unfold fm; rw [h]; simp only; rw [if_neg A,C]
theorem Ce (h:a9 s a= .error e):cJ s a= .error e:=by unfold cJ; rw [h]
theorem td (h:a9 s a= .ok (n,p)) (A:n=0∨1048576 < n):cJ s a= .error 190:=by unfold cJ; rw [h]; exact if_pos A
theorem oS (h:a9 s a= .ok (n,p)) (A:¬(n=0∨1048576 < n)) (C:cq (fm s n) n p= .error e):cJ s a= .error e:=by unfold cJ; rw [h]; simp only; rw [if_neg A,C]
theorem Cf (h:a9 s a= .ok (n,p)) (A:¬(n=0∨1048576 < n)) (C:cq (fm s n) n p= .ok (l,t)) (E:shaped l=false):cJ s a= .error 190:=by unfold cJ; rw [h]; simp only; rw [if_neg A,C]; simp only; rw [E]; rfl
theorem Cg (h:a9 s a= .ok (n,p)) (A:¬(n=0∨1048576 < n)) (C:cq (fm s n) n p= .ok (l,t)) (E:shaped l=true):cJ s a= .ok (l,t):=by unfold cJ; rw [h]; simp only; rw [if_neg A,C]; simp only; rw [E]; rfl
end
theorem JS (rb:Nat) (s:List UInt8) (a:Nat) (w:ah) (a8:aC w.heap rb [str s,.int .i64 (a:Nat)]) (aP:s.length≤1048576) (ha:a≤s.length):
 mz ar 58 (bD [.pointer (some ⟨rb,0,none⟩)]) w (fun v w'=> ∃ l p,cJ s a= .ok (l,p)∧eS w' w.heap.size v l∧aC w'.heap rb [str s,.int .i64 (p:Nat)]∧Md (fun k=>k=rb) w w') (fun c w'=> ∃ e,cJ s a= .error e∧c=kD e∧Md (fun k=>k=rb) w w'):=by
 have dc:=a8.lt;refine pV func58 U ntmps58 U<|aR 7 U<|p mv<|eP U (ef lK (oC rb s (a) w a8 aP<|ha) U fun v10 bu b0=> ?_) fun c w' A σ' M=>by obtain ⟨e,he,au,am⟩:=A; exact ⟨e,Ce he,au,am⟩
 obtain ⟨n,a4,V,rfl,bC,aW⟩:=b0;obtain ⟨cY,c2,c5⟩:=jb V;refine aJ 3 U ?_;refine ff (fun bv a5=> ∃ (cD:Unit),(¬(n=0∨1048576 < n))∧(aC a5.heap rb [str s,.int .i64 (a4:Nat)])∧(Md (fun k=>k=rb) w a5)∧(Sl bv [(0,.pointer (some ⟨rb,0,none⟩)),(3,.int .u64 (n:Nat))])) ?_ ?_;refine aR 1 U<|p mv<|aj 3 U<|gs (t:=14) U (fun cf=> ?_) fun cf=> ?_;refine aj 3 U<|eP U (ef eV (jH _ _ _ bu) U fun cE cG a0=> ?_) fun c w' A σ' M=>⟨190,td V (by have :=of_decide_eq_false A.2.1; omega),A.1,by rw [A.2.2]; exact aW⟩
 obtain ⟨rfl,br,rfl⟩:=a0;have br:=of_decide_eq_true br;exact ax 1 U<|tn<|⟨(),ab,bC,aW,U⟩
 refine aj 3 U<|eP U (ef eV (jH _ _ _ bu) U fun cE cG a0=> ?_) fun c w' A σ' M=>⟨190,td V ab,A.1,by rw [A.2.2]; exact aW⟩
 exact absurd a0.2.1 aE;rintro bv a5 ⟨cD,av,bS,bZ,cm⟩;refine bK cm<|bW 13 U<|lp (fun ak bx J=> ∃ (k:Nat) (l:List aM) (ae:List (Bool×ag)) (aa:ag) (q:Nat),(k≤n)∧(cq (fm s n) k a4= .ok (l,q))∧(q≤s.length)∧(ba J w.heap.size 81 2 aa ae.length<|fl ae)∧(eC J w.heap.size ae l)∧(aC J.heap rb [str s,.int .i64 (q:Nat)])∧(Md (fun k=>k=rb) w J)∧(Sl bx [(0,.pointer (some ⟨rb,0,none⟩)),(3,.int .u64 (n:Nat)),(4,aa),(19,.int .u64 (n:Nat)),(20,.int .u64 (k:Nat))])∧(n - k=ak)) _ ⟨0,[],[],.slice none 0 0,a4,ab,U,ab,(ez _ _ _ _),(eC.nil _ _),bS,bZ,U,U⟩ ?_;rintro ak bx J ⟨k,l,ae,aa,q,C,I,da,aO,bo,a9,ad,cn,rfl⟩;refine bK cn<|cj 6 U<|cd U (fun b9=> ?_) fun b9=> ?_;refine aG 7 U<|eP U (ef lK (oC rb s (q) J a9 aP ab) U fun dr cH b1=> ?_) fun c w' A σ' M=>by obtain ⟨e,he,au,am⟩:=A; exact ⟨e,oS V av (hO I (CK he) ab),au,ad.trans am⟩
 obtain ⟨v0,p1,aL,rfl,bF,aD⟩:=b1;obtain ⟨cZ,c3,c6⟩:=jb aL;refine aj 7 U<|p (qu U U ab<|gC ab)<|aj 1 U<|eP U (ef eV (jH _ _ _ cH) U fun ds cI b2=> ?_) fun c w' A σ' M=>⟨190,oS V av (hO I (CL aL<|by have :=of_decide_eq_false A.2.1; omega) ab),A.1,by rw [A.2.2]; exact ad.trans aD⟩
 obtain ⟨rfl,cv,rfl⟩:=b2;have bn:¬256 < v0 / 2:=by have :=of_decide_eq_true cv; omega
 have bY:=ad.trans aD;refine aj 5 U<|p (rm U U ab)<|aj 1 U<|p (eU (ps:= [(0,.bool (decide ((v0:Int) % 2=1)))]) (L:= [.bool (decide ((v0:Int) % 2=1)),.slice none 0 0]) Kx U<|U)<|e<|dC Dq fun ac dF cU bl bN=> ?_;have dm:=bl.size;refine e<|eu zw U U U U bN (by simp) fun ai bj bP=> ?_;have bQ:aC ai.heap ac [.bool (decide ((v0:Int) % 2=1)),.slice none 0 0]:=⟨_,bP⟩
 have aA:Wk cI ai:=bl.md.trans' bj fun k C h=>by omega
 have bR:=Wk.B aA bF;have dq:=ad.size;have dg:=aD.size;have dn:=aA.size;have dp:=bj.size;have bX:Md (fun k=>k=rb) w ai:=bY.trans<|aA.mono fun _ _ h=>h.elim;refine aj 6 U<|p (qu U U ab<|gC ab)<|aJ 4 U<|lp (fun ak bz Z=> ∃ (j:Nat) (es:List (UInt8×Int)) (aU:ag) (E:Nat),(j≤v0 / 2)∧(cq (dX s n) j p1= .ok (es,E))∧(E≤s.length)∧(ba Z ai.heap.size 84 2 aU es.length<|eW es)∧(aC Z.heap rb [str s,.int .i64 (E:Nat)])∧(aC Z.heap ac [.bool (decide ((v0:Int) % 2=1)),aU])∧(Md (fun k=>k=rb∨k=ac) ai Z)∧(Sl bz [(0,.pointer (some ⟨rb,0,none⟩)),(3,.int .u64 (n:Nat)),(4,aa),(5,.int .u64 (v0:Nat)),(6,.pointer (some ⟨ac,0,none⟩)),(19,.int .u64 (n:Nat)),(20,.int .u64 (k:Nat)),(34,.int .u64 ((v0 / 2:Nat):Int)),(35,.int .u64 (j:Nat))])∧(v0 / 2 - j=ak)) _ ⟨0,[],.slice none 0 0,p1,ab,U,ab,(ez _ _ _ _),bR,bQ,(Md.refl _ _),U,U⟩ ?_;rintro ak bz Z ⟨j,es,aU,E,c1,aN,db,ay,bb,bc,al,co,rfl⟩;refine bK co ?_;have cW:=iy aN;have a2:∀ e,dX s n E= .error e→j < v0 / 2→cJ s a= .error e:=fun e he cg=>oS V av<|hO I (CM aL bn<|hO aN he cg) ab;have aB:Md (fun k=>k=rb) w Z:=bX.trans' al fun k C h=>by rcases h with h | h; exact h; omega
 refine cj 6 U<|cd U (fun ca=> ?_) fun ca=> ?_;refine aG 7 U<|eP U (ef y9 (CW rb s E 1 Z bb aP ab ab) U fun dt cK b3=> ?_) fun c w' A σ' M=>⟨60,a2 _ (zU ab) ab,A.2.1,aB.trans A.2.2⟩
 obtain ⟨de,bp,bG,aZ⟩:=b3;rw [KU ab] at bp;subst bp;refine p (AJ 0 u9 U U<|by simp)<|aj 6 U<|eP U (ef lK (oC rb s (E+1) cK bG aP ab) U fun du cL b4=> ?_) fun c w' A σ' M=>by obtain ⟨e,he,au,am⟩:=A; exact ⟨e,a2 _ (zV ab he) ab,au,(aB.trans aZ).trans am⟩
 obtain ⟨to,cC,a1,rfl,bH,bi⟩:=b4;obtain ⟨c0,c4,c7⟩:=jb a1;refine aj 9 U<|eP U (ef eV (jH _ _ _ cL) U fun dv dz b5=> ?_) fun c w' A σ' M=>⟨190,a2 _ (zW ab a1<|by have :=of_decide_eq_false A.2.1; omega) ab,A.1,by rw [A.2.2]; exact (aB.trans aZ).trans bi⟩
 obtain ⟨rfl,cx,rfl⟩:=b5;have cu:¬n≤to:=by have :=of_decide_eq_true cx; omega
 have aF:=aZ.trans bi;have bd:=aF.B bc fun h=>by omega
 have cB:=al.size;have di:=aF.size;refine aj 4 U<|p (aw U<|bd.aK 1)<|aj 2 U<|p (fw u3 l8 U<|gP ab)<|p (eU (ps:= [(0,.int .u8 (s.getD E 0).toNat),(1,.int .i64 (to:Nat))]) (L:= [.int .u8 (s.getD E 0).toNat,.int .i64 (to:Nat)]) Ky U<|U)<|e<|n4 tv U U U fun cP dB cR aq bJ=> ?_;have dk:=aq.size;have ck:=aV (bI ay aF fun k C h=>by have :=cw ay C; omega) aq.md;refine e<|ap tv (ck) U ab U (aX.fD bJ) (U) (U) ab ab fun dw dD bm aI cy cb=> ?_;have cy:=aI.size;have aQ:∀ k,aU.ownBlock=some k→ai.heap.size≤k:=fun k h=>(cw ay h).1;have bU:=aI.B (Wk.B aq.md bd) fun h=>by have :=aQ ac h; omega
 have bL:=aI.B (Wk.B aq.md bH) fun h=>by have :=aQ rb h; omega
 obtain ⟨bA,lK,rfl⟩:=dA bm;refine aj 1 U<|e<|st zu U U (U) (bU) (by simp) fun dH aY bE=> ?_;have bT:=aY.B bL fun h=>by omega
 exact ax 7 U<|tn<|⟨_,ab,j+1,es++ [(s.getD E 0,(to:Int))],.slice bA (es.length+1) lK,cC,ab,(lR aN<|zX ab a1 cu),ab,(by rw [cz,zT]; exact bI bm aY fun k C h=>by rcases cb k C with a7 | a7; exact absurd (aQ k a7) ab; omega),bT,bE,((((al.trans<|aF.mono fun _ _ h=> .inl h).trans<|aq.md.mono fun _ _ h=>h.elim).trans' aI fun k C h=>by have :=aQ k h; omega).trans<|aY.mono fun _ _ h=> .inr h),U,U⟩
 refine aH 2 U<|te _<|dh 2 U ?_;obtain ⟨a6,ce,rfl⟩:=dA ay;obtain rfl :j=v0 / 2:=ab;have c8:=iy I;have dd:=bo.1;have ct:=CN aL bn aN;have cB:=al.size;have bf:Md (fun k=>k=rb∨k=ac) J Z:=((aD.mono fun k _ h=> .inl h).trans<|aA.mono fun _ _ h=>h.elim).trans al;have a3:=bI aO bf fun k C h=>by have :=cw aO C; omega
 have cs:=bo.md bf (fun k C hb=>by
  rcases C with C | C;omega;exact fun cur z=>Bt ab cur _ z)
 refine aG 1 U<|p (iX (aa) U)<|p (eI yK U (U) fun j _=>bc.aK j)<|e<|n4 tt U U U fun cQ dE cT O bM=> ?_;have dl:=O.size;refine e<|ap tt (aV a3 O.md) U ab U (aX.fD bM) (U) (U) ab ab fun cF cM ci ao cA cX=> ?_;have cA:=ao.size;have bq:∀ k,aa.ownBlock=some k→w.heap.size≤k:=fun k h=>(cw aO h).1;have bO:=ao.B (Wk.B O.md bb) fun h=>by have :=bq rb h; omega
 have b8:Tg cM w.heap.size 84 es.length (.slice a6 es.length ce) (eW es):=Tg.kN (((Tg.oF ay).mono ab).wk O.md) ao fun k C _=>gy (aV a3 O.md) aE k C;have cr:=(cs.wk O.md).md ao fun k C _=>gy (aV a3 O.md) aE k C;exact p aT<|ax 7 U<|tn<|⟨_,ab,k+1,l++ [(decide (v0 % 2=1),es)],ae++ [(decide ((v0:Int) % 2=1),.slice a6 es.length ce)],cF,E,ab,(lR I ct),ab,(by rw [cz,Cv]; exact ci),(by rw [show decide ((v0:Int) % 2=1)=decide (v0 % 2=1) from decide_eq_decide.2 ab] at*; exact eC.snoc (e:=(decide (v0 % 2=1),es)) cr b8),bO,((aB.trans<|O.md.mono fun _ _ h=>h.elim).trans' ao fun k C h=>by have :=bq k h; omega),U,U⟩
 refine aH 2 U<|te _<|dh 3 U ?_;obtain rfl :k=n:=ab;have bh:eS J w.heap.size aa l:=⟨ae,by have h:=Tg.oF aO; rw [bo.1] at h; exact h,bo⟩
 obtain ⟨bB,cc,rfl,cV,b7⟩:=bh.ee;have c9:=iy I;have ch:∀ x∈l,x.2.length≤256:=fun x aS=>(mR (R:=fun p=>p≤s.length) (S:=fun x:aM=>x.2.length≤256) (fun p x q' hr aS=>⟨(qI aS).2.1,(qI aS).2.2.1⟩) ab I).2 x aS;refine aG 3 U<|e<|bg (J3 l bB cc J b7 ab fun i hi=>cS (ch _<|jY (d:=dI) hi) aE) U ?_;rintro dx cO ⟨rfl,az⟩;refine aj 1 U ?_;refine eP U (ef eV (jH _ _ _ cO) U fun dy dG b6=> ?_) (fun c w' A σ' M=>⟨190,Cf V av I (by
  cases h:shaped l;rfl;exact absurd (show qF l=0 from th h) (of_decide_eq_false A.2.1)),A.1,by rw [A.2.2]; exact ad.trans (az.mono fun _ _ h=>h.elim)⟩)
 obtain ⟨rfl,bt,rfl⟩:=b6;have cp:shaped l=true :=by
  cases h:shaped l;rw [ke h] at bt; exact absurd (of_decide_eq_true bt) aE;rfl
 exact ax 9 U<|p7<|f1 U U<|⟨l,q,Cg V av I cp,bh.wk az,Wk.B az a9,ad.trans<|az.mono fun _ _ h=>h.elim⟩
end Go.Hb.fO
end
section
namespace Go.Hb
open Go.Hb.dL
open Go.Hb.fO
theorem Hu (s A:List UInt8) (w:ah) (E:s.length≤1073741824) (hp:A.length≤1073741824):
 bj ar 88 (bD [str s,str A]) w (fun v w'=>v= .bool (decide (s.take A.length=A))∧Wk w w'):=by
 refine enter func88 U ntmps88 U<|aR 13 U<|gs (t:=10) U (fun C=> ?_) fun C=> ?_;exact aj 3 U<|bC U (xw u9 U U ab)<|ax 7 U<|aP U<|⟨U,Md.refl _ _⟩
 exact aj 7 U<|p aT<|ax 3 U<|aP U<|⟨by show bq false =_; rw [decide_eq_false (fun h=>by have :=congrArg jh h; rw [dB] at this; omega)],Md.refl _ _⟩
theorem Ht (s A:List UInt8) (w:ah) (E:s.length≤1073741824) (hp:A.length≤1073741824):
 bj ar 52 (bD [str s,str A]) w (fun v w'=>v= .bool (decide (s.take A.length=A))∧Wk w w'):=by
 refine enter func52 U ntmps52 U<|aR 9 U<|e<|bg (Hu s A _ E hp) U ?_;rintro I J ⟨rfl,C⟩;exact ax 4 U<|aP U<|⟨U,C⟩
theorem Gv (p2 p3:Nat) (w:ah):
 CallsD ar 53 (bD [.pointer (some ⟨p2,0,none⟩),.pointer (some ⟨p3,0,none⟩)]) .returning w (fun A I w'=> ∃ v,A= .returned v∧I= .returning∧(fun w'=>Wk w w') w'):=by
 refine zb (v:= .nilIface) func53 U ntmps53 U (fun L cs E=> .inr ⟨by simp [recoverD,E],U,U⟩) ?_;exact p (CR sC Mj U)<|p mv<|p (xt U U)<|p (xt U U)<|p aT<|p aT<|nl<|tn<|sq fun J C=>rg U<|p mv<|nl<|tn<|C _ _<|cf (U)<|Cy<|f0 U<|Md.refl _ _
theorem Gu (p2 p3:Nat) (A:Int) (w:ah) (C:∃ L:List ag,L.length=7∧w.heap[p2]? =some (.cells L.toArray 44 (0,0))) (E:∃ v:ag,w.heap[p3]? =some (.cells [v].toArray 88 (0,0))) (O:p2≠p3):
 CallsD ar 53 (bD [.pointer (some ⟨p2,0,none⟩),.pointer (some ⟨p3,0,none⟩)]) (.panicking<|kD A) w (fun V ae w'=> ∃ v,V= .returned v∧ae=(.panicking [{v:= .iface 88 (.int .i64 A),recovered:=true}])∧(fun w'=>w'.heap[p2]? =some (.cells [bd .i64 0,str [],.slice none 0 0,.slice none 0 0,.slice none 0 0,.slice none 0 0,.slice none 0 0].toArray 44 (0,0))∧w'.heap[p3]? =some (.cells [.int .i64 A].toArray 88 (0,0))∧Md (fun k=>k=p2∨k=p3) w w') w'):=by
 obtain ⟨al,ac,C⟩:=C;obtain ⟨aq,E⟩:=E;have ao:=(dm.1 C).1;have ap:=(dm.1 E).1;refine zb (v:= .iface 88<|.int .i64 A) func53 U ntmps53 U (fun am cs ad=> .inl<|by simp [recoverD,ad,kD]) ?_;refine p (CQ sC U)<|p mv<|p (xt U U)<|p (xt U U)<|p aT<|p aT<|nl<|tn<|sq fun aj aa=>rg U<|p mv<|nl<|tn<|aa _ _<|ct (U)<|rg U<|p (eU (ps:= []) (L:= [.int .i64 0,.string ⟨⟨[]⟩⟩,.slice none 0 0,.slice none 0 0,.slice none 0 0,.slice none 0 0,.slice none 0 0]) CI U<|U)<|p mv<|e<|eu mF U U U U C (by rw [ac]; decide) fun ai J I=>e<|dg uQ U U (v:= .int .i64 A) U (J.ak E fun h=>O h.symm) (by show 0 < 1; decide) fun au M Z=>nl<|f0 U ?_;have I:ai.heap[p2]? =some (.cells [bd .i64 0,str [],.slice none 0 0,.slice none 0 0,.slice none 0 0,.slice none 0 0,.slice none 0 0].toArray 44 (0,0)):=I.trans<|by rw [Eg ab]; rfl
 exact ⟨M.ak I O,Z,(J.mono fun _ _ h=> .inl h).trans' M fun _ _ h=> .inr h⟩
theorem zy (p2 p3:Nat) (w:ah):(invoke (.fn (.func 53) #[aZ p2,aZ p3]) #[]).run ar w= .ok (.enter 53 #[aZ p2,aZ p3]) w:=by
 have h:=FG #[aZ p2,aZ p3] w;simp [invoke,h]
theorem r6 {n:Nat} {D:List Deferred} {G:List Nat} {σ:Nat→ag} {t:Nat} (h:t < n):ev ⟨n,D,G,none⟩ σ (.tmp t)=σ t:=by
 show cond (aD t n) (σ t) undef=_;rw [show aD t n=true from by simpa using h]; rfl
theorem Gy {n:Nat} {G:List Nat} {fn:Func} {R:ag→ah→Prop} {σ:Nat→ag} {w:ah} {p2 p3:Nat} {A:Int} (V:fn.results= #[.cell 2 44,.cell 3 88]) (ac:3 < n) (Z:σ 2= .pointer (some ⟨p2,0,none⟩)) (aa:σ 3= .pointer (some ⟨p3,0,none⟩)) (C:∃ L:List ag,L.length=7∧w.heap[p2]? =some (.cells L.toArray 44 (0,0))) (E:∃ v:ag,w.heap[p3]? =some (.cells [v].toArray 88 (0,0))) (O:p2≠p3)
 (I:∀ w',Md (fun k=>k=p2∨k=p3) w w'→R (.tuple #[.agg [bd .i64 0,str [],.slice none 0 0,.slice none 0 0,.slice none 0 0,.slice none 0 0,.slice none 0 0].toArray,.int .i64 A]) w'):qb ⟨n,[{target:= .fn (.func 53) #[.pointer (some ⟨p2,0,none⟩),.pointer (some ⟨p3,0,none⟩)],args:= #[]}],G,none⟩ (lE ar fn R) (.panic<|kD A) σ w:=by
 refine Ha (zy p2 p3 w) (Gu p2 p3 A w C E O) ?_;rintro w' ⟨J,M,hm⟩;exact ⟨_,sY V (gA<|iC (cs:= [bd .i64 0,str [],.slice none 0 0,.slice none 0 0,.slice none 0 0,.slice none 0 0,.slice none 0 0]) ((r6 ab).trans Z) lJ U fun j _=>by rw [cM,bh J]; simp) (gA<|ja ((r6 ab).trans aa) yL<|(bh M).trans U),I w' hm⟩
theorem Gz {n:Nat} {G:List Nat} {fn:Func} {R:ag→ah→Prop} {σ:Nat→ag} {w:ah} {p2 p3:Nat} {v:ag} {L:List ag} (O:fn.results= #[.cell 2 44,.cell 3 88]) (aa:3 < n) (V:σ 2= .pointer (some ⟨p2,0,none⟩)) (Z:σ 3= .pointer (some ⟨p3,0,none⟩)) (A:w.heap[p2]? =some (.cells L.toArray 44 (0,0))) (C:w.heap[p3]? =some (.cells [v].toArray 88 (0,0))) (E:L.length=7)
 (I:∀ w',Wk w w'→R (.tuple #[.agg L.toArray,v]) w'):qb ⟨n,[{target:= .fn (.func 53) #[.pointer (some ⟨p2,0,none⟩),.pointer (some ⟨p3,0,none⟩)],args:= #[]}],G,none⟩ (lE ar fn R) .ret σ w:=by
 refine G9 (zy p2 p3 w) (Gv p2 p3 w) ?_;intro w' hm;have J:=Wk.ak hm A;have M:=Wk.ak hm C;exact ⟨_,sY O (gA<|iC (cs:=L) ((r6 ab).trans V) lJ E fun j _=>by rw [cM,bh J]; simp) (gA<|ja ((r6 ab).trans Z) yL<|(bh M).trans U),I w' hm⟩
section
variable {s:List UInt8} {a e n m p1 p2 p3 p4 p5 p q ls:Nat} {t f:List UInt8} {rs:List (List UInt8×List UInt8)} {l:List (List aM)}
theorem B2 (h:cQ s a= .error e):gz s a= .error e:=by unfold gz; rw [h]
theorem B3 (h:cQ s a= .ok (f,p)) (A:cQ s p= .error e):gz s a= .error e:=by unfold gz; rw [h]; simp only; rw [A]
theorem B4 (h:cQ s a= .ok (f,p)) (A:cQ s p= .ok (t,q)):gz s a= .ok ((f,t),q):=by unfold gz; rw [h]; simp only; rw [A]
theorem uR (hm:¬s.take 4=eJ):bJ s= .error 200:=if_neg hm
theorem zD (hm:s.take 4=eJ) (h:a9 s 4= .error e):bJ s= .error e:=by unfold bJ; rw [if_pos hm,h]
theorem zE (hm:s.take 4=eJ) (h:a9 s 4= .ok (n,p1)) (A:cQ s p1= .error e):bJ s= .error e:=by unfold bJ; rw [if_pos hm,h]; simp only; rw [A]
theorem zF (hm:s.take 4=eJ) (h:a9 s 4= .ok (n,p1)) (A:cQ s p1= .ok (t,p2)) (C:a9 s p2= .error e):bJ s= .error e:=by unfold bJ; rw [if_pos hm,h]; simp only; rw [A]; simp only; rw [C]
theorem zG (hm:s.take 4=eJ) (h:a9 s 4= .ok (n,p1)) (A:cQ s p1= .ok (t,p2)) (C:a9 s p2= .ok (m,p3)) (E:256 < m):bJ s= .error 201:=by unfold bJ; rw [if_pos hm,h]; simp only; rw [A]; simp only; rw [C]; exact if_pos E
theorem rR (hm:s.take 4=eJ) (h:a9 s 4= .ok (n,p1)) (A:cQ s p1= .ok (t,p2)) (C:a9 s p2= .ok (m,p3)) (E:¬256 < m) (I:cq (gz s) m p3= .error e):bJ s= .error e:=by unfold bJ; rw [if_pos hm,h]; simp only; rw [A]; simp only; rw [C]; simp only; rw [if_neg E,I]
theorem zH (hm:s.take 4=eJ) (h:a9 s 4= .ok (n,p1)) (A:cQ s p1= .ok (t,p2)) (C:a9 s p2= .ok (m,p3)) (E:¬256 < m) (I:cq (gz s) m p3= .ok (rs,p4)):bJ s=fS s (if n≤64 then n else 0) t rs p4:=by unfold bJ; rw [if_pos hm,h]; simp only; rw [A]; simp only; rw [C]; simp only; rw [if_neg E,I]
theorem zz (h:dZ ls t rs=false):fS s ls t rs a= .error 201:=by unfold fS; rw [h]; rfl
theorem zA (h:dZ ls t rs=true) (A:cq (cJ s) 4 a= .error e):fS s ls t rs a= .error e:=by unfold fS; rw [if_pos h,A]
theorem zB (h:dZ ls t rs=true) (A:cq (cJ s) 4 a= .ok (l,p5)) (C:p5≠s.length):fS s ls t rs a= .error 202:=by unfold fS; rw [if_pos h,A]; exact if_neg C
theorem zC (h:dZ ls t rs=true) (A:cq (cJ s) 4 a= .ok (l,p5)) (C:p5=s.length):fS s ls t rs a= .ok ⟨ls,t,rs,l⟩:=by unfold fS; rw [if_pos h,A]; exact if_pos C
end
def lF (w:ah) (B:Nat) (cs:List ag) (b:dU):Prop := ∃ A rc vs,cs= [.int .i64 (b.least:Nat),str b.tr,.slice A b.cH.length rc]++vs∧vs.length=4∧aX w.heap A (b.cH.flatMap dY)∧∀ i,i < 4→eS w B (vs.getD i .nilFunc) (b.aq.getD i [])
theorem lF.wk {w w':ah} {B:Nat} {cs:List ag} {b:dU} (h:lF w B cs b) (hm:Wk w w'):lF w' B cs b:=by
 obtain ⟨I,rc,vs,h1,A,C,E⟩:=h;exact ⟨I,rc,vs,h1,A,C.wk hm,fun i hi=>(E i hi).wk hm⟩
def jk (s:List UInt8) (w:ah) (v:ag) (w':ah):Prop :=(match bJ s with
 | .ok b=> ∃ cs,v= .tuple #[.agg cs.toArray,.int .i64 0]∧lF w' w.heap.size cs b
 | .error e=>v= .tuple #[.agg [bd .i64 0,str [],.slice none 0 0,.slice none 0 0,.slice none 0 0,.slice none 0 0,.slice none 0 0].toArray,.int .i64 (e:Nat)])∧Wk w w'
theorem jk.no {s:List UInt8} {w w':ah} {e:Nat} (h:bJ s= .error e) (hm:Wk w w'):jk s w (.tuple #[.agg [bd .i64 0,str [],.slice none 0 0,.slice none 0 0,.slice none 0 0,.slice none 0 0,.slice none 0 0].toArray,.int .i64 (e:Nat)]) w':=by
 unfold jk; rw [h]; exact ⟨rfl,hm⟩
theorem xg {a b c v:ag} {vs:List ag} {k:Nat} :([a,b,c]++vs).set (0 +3 +((k:Nat):Int).toNat*1) v= [a,b,c]++vs.set k v:=by
 rw [show 0 +3 +((k:Nat):Int).toNat*1=k+1 +1 +1 from by omega]; rfl
theorem qa {α:Type} {l:List α} {i k:Nat} {v d:α} (h:i≠k):(l.set k v).getD i d=l.getD i d:=by
 rw [b9,En (fun e=>h e.symm),b9]
theorem ov {α:Type} {l:List α} {k:Nat} {v d:α} (h:k < l.length):(l.set k v).getD k d=v:=by
 rw [b9,yq h]; rfl
theorem sg {α:Type} {l m:List α} {i:Nat} {d:α} (h:i < l.length):(l++m).getD i d=l.getD i d:=by
 rw [b9,fJ h,b9]
theorem sf {α:Type} {l:List α} {a d:α} {i:Nat} (h:i=l.length):(l++ [a]).getD i d=a:=by
 subst h;rw [b9,gk (aQ _),yB]; rfl
structure fN (w0 w:ah) (b2 b3:Nat) (L:List ag):Prop where
 c2:w.heap[b2]? =some (.cells L.toArray 44 (0,0))
 c3:w.heap[b3]? =some (.cells [bd .i64 0].toArray 88 (0,0))
 len:L.length=7
 lo:w0.heap.size≤b2∧w0.heap.size≤b3∧b2≠b3
 wk:Wk w0 w
theorem fN.md {F:Nat→Prop} {w0 w w':ah} {A C:Nat} {L:List ag} (h:fN w0 w A C L) (hm:Md F w w') (E:¬F A) (I:¬F C) (J:∀ k,F k→w0.heap.size≤k):fN w0 w' A C L:=
 ⟨hm.ak h.c2 E,hm.ak h.c3 I,h.len,h.lo,h.wk.trans' hm fun k O M=>by have :=J k M; omega⟩
theorem fN.LV {w0 w w':ah} {A C:Nat} {L:List ag} (h:fN w0 w A C L) (hm:Wk w w'):fN w0 w' A C L:=h.md hm (fun h=>h) (fun h=>h) fun _ h=>h.elim
theorem fN.rb {w0 w w':ah} {A C rb:Nat} {L:List ag} (h:fN w0 w A C L) (hm:Md (fun k=>k=rb) w w') (E:A≠rb) (I:C≠rb) (h0:w0.heap.size≤rb):fN w0 w' A C L:=h.md hm E I fun k J=>by omega
theorem kA {n:Nat} {G:List Nat} {fn:Func} {σ:Nat→ag} {s:List UInt8} {w W:ah} {C E e:Nat} {L:List ag} (J:fn.results= #[.cell 2 44,.cell 3 88]) (I:3 < n) (M:σ 2= .pointer (some ⟨C,0,none⟩)) (O:σ 3= .pointer (some ⟨E,0,none⟩)) (A:fN w W C E L) (U:bJ s= .error e):qb ⟨n,[{target:= .fn (.func 53) #[.pointer (some ⟨C,0,none⟩),.pointer (some ⟨E,0,none⟩)],args:= #[]}],G,none⟩ (lE ar fn<|jk s w) (.panic<|kD (e:Nat)) σ W:=
 Gy J I M O ⟨_,A.len,A.c2⟩ ⟨_,A.c3⟩ A.lo.2.2 (fun w' hm=>jk.no U<|A.wk.trans' hm fun k V h=>by rcases h with rfl | rfl; have :=A.lo.1; omega; have :=A.lo.2.1; omega)
theorem GA (s:List UInt8) (w:ah) (aL:s.length≤1048576):
 bj ar 32 (bD [str s]) w (jk s w):=by
 refine GQ [2,3] func32 U ntmps32 U ?_;refine cG<|cE<|aR 1 U<|e<|dC qQ fun C e6 d8 b7 cL=>e<|dC Mh fun M ct d9 bH cS=> ?_;have eG:=b7.size;have eH:=bH.size;have db:Wk w ct:=b7.md.trans bH.md;have dL:=Wk.ak bH.md cL;refine ax 1 U<|bw<|cG<|cG<|cE<|aR 2 U<|e<|bg (Ht s eJ ct ab aE) U ?_;rintro v10 e4 ⟨rfl,a6⟩;have bY:=db.trans a6;have cp:=Wk.ak a6 dL;have cr:=Wk.ak a6 cS;have eE:=a6.size;refine ax 2 U<|bw<|cE<|cb U (fun aY=> ?_) fun aY=> ?_;have aa:¬s.take 4=eJ:=fun h=>by rw [show s.take eJ.length=eJ from h] at aY; simp at aY
 refine aR 2 U<|p (eU (ps:= []) (L:= [.int .i64 0,.string ⟨⟨[]⟩⟩,.slice none 0 0,.slice none 0 0,.slice none 0 0,.slice none 0 0,.slice none 0 0]) CI U<|U)<|e<|eu mF U U U U cp aE fun e9 b4 cZ=>e<|dg uQ U U (v:= .int .i64 200) U (b4.ak cr fun h=>by omega) aE fun d5 b6 c1=>ax 3 U<|sO ?_;have dw:d5.heap[C]? =some (.cells [bd .i64 0,str [],.slice none 0 0,.slice none 0 0,.slice none 0 0,.slice none 0 0,.slice none 0 0].toArray 44 (0,0)):=(b6.ak cZ fun h=>by omega).trans rfl;exact G7 (sY U (gA<|iC U U U fun j ek=>by rw [cM,bh dw]; simp)<|gA<|ja U U<|(bh c1).trans U)<|jk.no (uR aa)<|(bY.trans' b4 fun k E h=>by omega).trans' b6 fun k E h=>by omega
 have aa:s.take 4=eJ:=DG fun h=>by rw [decide_eq_false (show ¬s.take eJ.length=eJ from h)] at aY; cases aY
 have cD:4≤s.length:=by have :=congrArg jh aa; rw [dB] at this; simp only [eJ,dP,lB] at this; omega
 refine iV 1 U<|bw<|cG<|kC Ij #[.pointer (some ⟨C,0,none⟩),.pointer (some ⟨M,0,none⟩)] U aE ?_;refine cG<|cE<|aR 2 U<|p (eU (ps:= [(0,str s),(1,.int .i64 4)]) (L:= [str s,.int .i64 4]) Kq U<|U)<|e<|pM U fun rb ad eC bf cK=> ?_;have eF:=bf.size;have c7:aC ad.heap rb [str s,.int .i64 ((4:Nat):Int)]:=⟨_,cK⟩
 have ci:fN w ad C M [bd .i64 0,str [],.slice none 0 0,.slice none 0 0,.slice none 0 0,.slice none 0 0,.slice none 0 0]:=⟨Wk.ak bf.md cp,Wk.ak bf.md cr,rfl,⟨ab,ab,ab⟩,bY.trans bf.md⟩
 refine ax 2 U<|bw<|Kl (fun cA a4=> ∃ (n p1:Nat),(fN w a4 C M [.int .i64 ((if n≤64 then n else 0:Nat):Int),str [],.slice none 0 0,.slice none 0 0,.slice none 0 0,.slice none 0 0,.slice none 0 0])∧(aC a4.heap rb [str s,.int .i64 (p1:Nat)])∧(Md (fun k=>k=rb∨k=C) ad a4)∧(a9 s 4= .ok (n,p1))∧(p1≤s.length)∧(Sl cA [(0,str s),(2,.pointer (some ⟨C,0,none⟩)),(3,.pointer (some ⟨M,0,none⟩)),(4,.pointer (some ⟨rb,0,none⟩))])) ?_ ?_;refine cG<|cE<|aR 2 U ?_;refine eP U (ef lK (oC rb s (4) ad c7 aL<|cD) U fun eQ e5 de=> ?_) (fun c w' I σ' A=>by
  obtain ⟨e,he,rfl,V⟩:=I;exact kA U aE ((A 2<|.head _).trans U) ((A 3<|.tail _<|.head _).trans U) ((ci).rb V ab ab ab) (zD aa he))
 obtain ⟨n,p1,Z,rfl,bW,bC⟩:=de;obtain ⟨ec,bM,ep⟩:=jb Z;have a1:=ci.rb bC ab ab ab;refine ax 2 U<|bw<|cG<|cE<|iV 4 U<|bw<|cE<|cd U (fun bL=> ?_) fun bL=> ?_;exact aR 2 U<|p (fw u3 l8 U<|gP ab)<|aj 1 U<|e<|dg cI U U (v:= .int .i64 (n:Nat)) U a1.c2 aE fun fc bb c4=>ax 1 U<|zk<|⟨n,p1,(⟨by rw [if_pos ab]; exact c4,bb.ak a1.c3 (fun h=>by omega),U,a1.lo,a1.wk.trans' bb fun k E h=>by omega⟩),(bb.B bW fun h=>by omega),((bC.mono fun _ _ h=> .inl h).trans<|bb.mono fun _ _ h=> .inr h),Z,bM,U⟩
 exact iV 1 U<|zk<|⟨n,p1,(by rw [if_neg ab]; exact a1),bW,(bC.mono fun _ _ h=> .inl h),Z,bM,U⟩
 rintro cA a4 ⟨n,p1,co,c6,da,Z,bM,dQ⟩;refine J1 dQ ?_;refine cG<|cE<|aR 2 U ?_;refine eP U (ef uE (vw rb s (p1) a4 c6 aL ab) U fun eR e7 dh=> ?_) (fun c w' I σ' A=>by
  obtain ⟨e,he,rfl,V⟩:=I;exact kA U aE ((A 2<|.head _).trans U) ((A 3<|.tail _<|.head _).trans U) ((co).rb V ab ab ab) (zE aa Z he))
 obtain ⟨t,p2,aI,rfl,cQ,b0⟩:=dh;obtain ⟨ed,el,eq⟩:=ot aI;have bp:=co.rb b0 ab ab ab;refine aj 1 U<|e<|dg zx U U (v:=str t) U bp.c2 (by simp) fun cx bc c5=> ?_;have cn:fN w cx C M [.int .i64 ((if n≤64 then n else 0:Nat):Int),str t,.slice none 0 0,.slice none 0 0,.slice none 0 0,.slice none 0 0,.slice none 0 0]:=⟨c5,bc.ak bp.c3 (fun h=>by omega),rfl,bp.lo,bp.wk.trans' bc fun k E h=>by omega⟩
 have c8:=bc.B cQ fun h=>by omega
 refine ax 1 U<|bw<|cG<|cE<|aR 2 U ?_;refine eP U (ef lK (oC rb s (p2) cx c8 aL ab) U fun eT dZ di=> ?_) (fun c w' I σ' A=>by
  obtain ⟨e,he,rfl,V⟩:=I;exact kA U aE ((A 2<|.head _).trans U) ((A 3<|.tail _<|.head _).trans U) ((cn).rb V ab ab ab) (zF aa Z aI he))
 obtain ⟨m,p3,aW,rfl,cR,b1⟩:=di;obtain ⟨eg,em,er⟩:=jb aW;have ck:=cn.rb b1 ab ab ab;refine ax 2 U<|bw<|cG<|cE<|aR 4 U ?_;refine eP U (ef eV (jH _ _ _ dZ) U fun eW e8 dk=> ?_) (fun c w' I σ' A=>by
  obtain ⟨rfl,hb,rfl⟩:=I;exact kA U aE ((A 2<|.head _).trans U) ((A 3<|.tail _<|.head _).trans U) (ck) (zG aa Z aI aW<|by have :=of_decide_eq_false hb; omega))
 obtain ⟨rfl,dU,rfl⟩:=dk;have bN:¬256 < m:=by have :=of_decide_eq_true dU; omega
 refine ax 1 U<|bw<|cG<|cG<|cE<|iV 4 U<|bw<|cE<|cj 1 U<|lp (fun aP cB aq=> ∃ (k:Nat) (rs:List (List UInt8×List UInt8)) (O:ag) (q:Nat),(k≤m)∧(cq (gz s) k p3= .ok (rs,q))∧(q≤s.length)∧(ba aq ad.heap.size 77 2 O rs.length<|rs.flatMap dY)∧(aC aq.heap rb [str s,.int .i64 (q:Nat)])∧(fN w aq C M [.int .i64 ((if n≤64 then n else 0:Nat):Int),str t,O,.slice none 0 0,.slice none 0 0,.slice none 0 0,.slice none 0 0])∧(Md (fun k=>k=rb∨k=C) ad aq)∧(Sl cB [(0,str s),(2,.pointer (some ⟨C,0,none⟩)),(3,.pointer (some ⟨M,0,none⟩)),(4,.pointer (some ⟨rb,0,none⟩)),(33,.int .u64 (m:Nat)),(34,.int .u64 (k:Nat))])∧(m - k=aP)) _ ⟨0,[],.slice none 0 0,p3,ab,U,ab,(ez _ _ _ _),cR,ck,(((da.trans<|b0.mono fun _ _ h=> .inl h).trans<|bc.mono fun _ _ h=> .inr h).trans<|b1.mono fun _ _ h=> .inl h),U,U⟩ ?_;rintro aP cB aq ⟨k,rs,O,q,ex,am,eA,au,bX,a0,bz,dR,rfl⟩;refine bK dR<|cj 6 U<|cd U (fun du=> ?_) fun du=> ?_;refine aG 7 U ?_;refine eP U (ef uE (vw rb s (q) aq bX aL ab) U fun eX ao dl=> ?_) (fun c w' I σ' A=>by
  obtain ⟨e,he,rfl,V⟩:=I;exact kA U aE ((A 2<|.head _).trans U) ((A 3<|.tail _<|.head _).trans U) ((a0).rb V ab ab ab) (rR aa Z aI aW bN<|hO am (B2 he) ab))
 obtain ⟨f,bP,bJ,rfl,cV,a8⟩:=dl;obtain ⟨eh,en,et⟩:=ot bJ;have a2:=a0.rb a8 ab ab ab;have dG:=bI au a8 fun k E h=>by have :=cw au E; omega
 have eK:=a8.size;have eN:=bz.size;have av:∀ k,O.ownBlock=some k→ad.heap.size≤k:=fun k h=>(cw au h).1;refine aJ 3 U ?_;have bm:(fun w'=>Md (fun k=>k=rb∨O.ownBlock=some k) ao w') ao.drew:=(Md.refl _ _).drew;refine oB (fun w'=>Md (fun k=>k=rb∨O.ownBlock=some k) ao w') 9 U wide bm<|qc [0] U bm<|Ba 1 U ai (fun w' dr=>aw U<|Md.ay dr ((bh a2.c2).trans U) fun h=>by rcases h with h | h; omega; have :=av _ h; omega) bm<|qc [2,3] U bm ?_;refine Ih 4 U ai U (ef uE (vw rb s bP ao.drew cV aL ab) U fun eY cu dm=> ?_) (fun c w' I σ' A=>by
  obtain ⟨e,he,rfl,V⟩:=I;exact kA U aE ((A 2<|.head _).trans U) ((A 3<|.tail _<|.head _).trans U) (a2.rb (Md.cy V) ab ab ab) (rR aa Z aI aW bN<|hO am (B3 bJ he) ab))
 obtain ⟨t2,dX,cf,rfl,cW,aT⟩:=dm;obtain ⟨ei,eo,ew⟩:=ot cf;have aT:=Md.cy aT;have ca:Md (fun k=>k=rb∨O.ownBlock=some k) ao cu:=aT.mono fun _ _ h=> .inl h;have eL:=aT.size;have b8:(fun w'=>Md (fun k=>k=rb∨O.ownBlock=some k) ao w') cu:=ca;refine ⟨b8,?_⟩;refine qn 5 U ai (fun _=>eU (ps:= [(0,str f),(1,str t2)]) (L:= [str f,str t2]) Kw U<|U) (fun _=>b8)<|gw 6 U ai<|n4 tq U U U fun d6 d2 ea bi cX=> ?_;have eM:=bi.size;have ce:=ca.trans<|bi.md.mono fun _ _ h=>h.elim;have dH:=aV (bI dG aT fun k E h=>by have :=cw au E; omega) bi.md;have ds:(fun w'=>Md (fun k=>k=rb∨O.ownBlock=some k) ao w') d2:=ce;refine ⟨ds,?_⟩;refine gw 7 U ai<|ap tq (dH) U ab U (aX.fD cX) (U) (U) (by have :=iy am; omega) (by have :=iy am; omega) fun eZ d3 ch bF dW dy=> ?_;obtain ⟨bu,bv,rfl⟩:=dA ch;have aU:=ce.trans<|bF.mono fun _ _ h=> .inr h;have dW:=bF.size;have dD:¬(C=rb∨O.ownBlock=some C):=fun h=>by rcases h with h | h; omega; have :=av _ h; omega
 have dE:¬(M=rb∨O.ownBlock=some M):=fun h=>by rcases h with h | h; omega; have :=av _ h; omega
 have dv:=aU.ak a2.c2 dD;have cY:=bF.B (Wk.B bi.md cW) fun h=>by have :=av _ h; omega
 have b9:(fun w'=>Md (fun k=>k=rb∨O.ownBlock=some k) ao w') d3:=aU;refine ⟨b9,?_⟩;refine qc [8] U b9<|kL 9 U ai ai<|dg zq U U (v:= .slice bu (rs.length+1) bv) U dv (by simp) fun cs aQ cF=> ?_;have dI:fN w cs C M [.int .i64 ((if n≤64 then n else 0:Nat):Int),str t,.slice bu (rs.length+1) bv,.slice none 0 0,.slice none 0 0,.slice none 0 0,.slice none 0 0]:=⟨cF,aQ.ak (aU.ak a2.c3 dE) (fun h=>by omega),rfl,a0.lo,(a2.wk.trans' aU fun k E h=>by rcases h with h | h; omega; have :=av _ h; omega).trans' aQ fun k E h=>by omega⟩
 have cH:=aQ.B cY fun h=>by omega
 have c9:Md (fun k=>k=rb∨k=C) ad cs:=((bz.trans<|a8.mono fun _ _ h=> .inl h).trans' aU fun k E h=>by rcases h with h | h; exact .inl h; have :=av _ h; omega).trans<|aQ.mono fun _ _ h=> .inr h;exact kM ai<|bl 6 U<|tn<|⟨_,ab,k+1,rs++ [(f,t2)],.slice bu (rs.length+1) bv,dX,ab,(lR am<|B4 bJ cf),ab,(by rw [cz,List.flatMap_append]; exact bI ch aQ fun k E h=>by rcases dy k E with bU | bU; exact absurd (av k bU) ab; omega),cH,dI,c9,U,U⟩
 refine aH 2 U<|te _<|bl 1 U<|bw<|cG<|cE ?_;obtain ⟨ac,rc,rfl⟩:=dA au;obtain rfl :k=m:=ab;obtain ⟨br,dM⟩:∃ br,br=q:=⟨q,rfl⟩
 subst dM;have bn:=zH aa Z aI aW bN am;have ey:=iy am;have dO:∀ r∈rs,r.1.length≤1048576∧r.2.length≤1048576:=fun r hr=>by
  have :=(mR (R:=fun _=>True) (S:=fun r:List UInt8×List UInt8=>r.1.length≤255∧r.2.length≤255) (fun p x q' _ dT=>⟨trivial,(Jy dT).2.2⟩) trivial am).2 r hr;omega
 refine aR 2 U<|p (eI lJ U (U) (show ∀ j,j < 7→ay aq.heap C (0 +j)=([.int .i64 ((if n≤64 then n else 0:Nat):Int),str t,.slice ac rs.length rc,.slice none 0 0,.slice none 0 0,.slice none 0 0,.slice none 0 0]:List ag)[j]? from fun j _=>by rw [cM,bh a0.c2]; simp))<|e<|bg (JZ (if n≤64 then n else 0) t rs ac rc (.slice none 0 0) (.slice none 0 0) (.slice none 0 0) (.slice none 0 0) aq (bB au).2 (by split <;> omega) ab ab dO) U ?_;rintro e0 d4 ⟨rfl,a7⟩;have cm:=a0.LV a7;refine eP U (ef eV (jH _ _ _ d4) U fun e1 fa dn=> ?_) (fun c w' I σ' A=>by
  obtain ⟨rfl,hb,rfl⟩:=I;exact kA U aE ((A 2<|.head _).trans U) ((A 3<|.tail _<|.head _).trans U) (cm) (by rw [bn,zz hb]))
 obtain ⟨rfl,bO,rfl⟩:=dn;refine ax 1 U<|bw<|cG<|cG<|cE<|iV 3 U<|bw<|cE<|cj 1 U<|lp (fun aP cC al=> ∃ (J:Nat) (ls:List (List aM)) (vs:List ag) (aN:Nat),(J≤4)∧(cq (cJ s) J br= .ok (ls,aN))∧(aN≤s.length)∧(vs.length=4)∧(aC al.heap rb [str s,.int .i64 (aN:Nat)])∧(fN w al C M<|[.int .i64 ((if n≤64 then n else 0:Nat):Int),str t,.slice ac rs.length rc]++vs)∧(∀ i,i < J→eS al (rb+1) (vs.getD i .nilFunc) (ls.getD i []))∧(Md (fun k=>k=rb∨k=C) ad al)∧(ba al ad.heap.size 77 2 (.slice ac rs.length rc) rs.length<|rs.flatMap dY)∧(Sl cC [(0,str s),(2,.pointer (some ⟨C,0,none⟩)),(3,.pointer (some ⟨M,0,none⟩)),(4,.pointer (some ⟨rb,0,none⟩)),(52,.int .i64 (J:Nat))])∧(4 - J=aP)) _ ⟨0,[],[.slice none 0 0,.slice none 0 0,.slice none 0 0,.slice none 0 0],br,ab,U,ab,U,(Wk.B a7 bX),cm,(fun i hi=>by omega),(bz.trans<|a7.mono fun _ _ h=>h.elim),(aV au a7),U,U⟩ ?_;rintro aP cC al ⟨J,ls,vs,aN,ev,aZ,eB,a3,bx,ae,bA,dc,bo,dS,rfl⟩;refine bK dS<|cj 6 U<|cd U (fun dx=> ?_) fun dx=> ?_;refine aG 13 U ?_;refine eP U (ef FH (JS rb s aN al bx aL ab) U fun e2 fb dp=> ?_) (fun c w' I σ' A=>by
  obtain ⟨e,he,rfl,V⟩:=I;exact kA U aE ((A 2<|.head _).trans U) ((A 3<|.tail _<|.head _).trans U) (ae.rb V ab ab ab) (by rw [bn,zA bO (hO aZ he (show J < 4 by omega))]))
 obtain ⟨az,bP,cg,bZ,c0,b5⟩:=dp;obtain ⟨aO,cc,rfl,eb,d7⟩:=bZ.ee;have bq:=ae.rb b5 ab ab ab;have ej:=Ch cg;refine aj 1 U<|p (iW mB U U ab)<|e<|dg zr U U (v:= .slice aO az.length cc) U bq.c2 (by simp only [cz,dP,lB,a3]; omega) fun bt aS cO=> ?_;have dz:=iy aZ;have bL:bt.heap[C]? =some (.cells ([.int .i64 ((if n≤64 then n else 0:Nat):Int),str t,.slice ac rs.length rc]++vs.set J (.slice aO az.length cc)).toArray 44 (0,0)):=by rw [← xg]; exact cO
 have dJ:fN w bt C M ([.int .i64 ((if n≤64 then n else 0:Nat):Int),str t,.slice ac rs.length rc]++vs.set J (.slice aO az.length cc)):=⟨bL,aS.ak bq.c3 (fun h=>by omega),by simp [a3],bq.lo,bq.wk.trans' aS fun k E h=>by omega⟩
 have cP:=aS.B c0 fun h=>by omega
 have eD:=bx.lt;have bG:Md (fun k=>k=rb∨k=C) al bt:=(b5.mono fun _ _ h=> .inl h).trans<|aS.mono fun _ _ h=> .inr h;have dd:∀ i,i < J+1→eS bt (rb+1) ((vs.set J<|.slice aO az.length cc).getD i .nilFunc) ((ls++ [az]).getD i []):=fun i hi=>by
  rcases dF i J with h | h;rw [qa ab,sg ab];exact (bA i h).md bG fun k E hb=>absurd hb ab;obtain rfl :i=J:=ab;rw [ov ab,sf dz.symm];exact (bZ.mono ab).md aS fun k E hb=>absurd hb ab
 exact ax 7 U<|tn<|⟨_,ab,J+1,ls++ [az],vs.set J (.slice aO az.length cc),bP,ab,(lR aZ cg),ab,(by rw [gl]; exact a3),cP,dJ,dd,(dc.trans bG),(bI bo bG fun k E h=>by have :=(cw bo E).1; omega),U,U⟩
 refine aH 2 U<|te _<|bl 1 U<|bw<|cG<|cE ?_;obtain rfl :J=4:=ab;obtain ⟨aA,aB,aD,aF,rfl⟩:∃ aA aB aD aF,vs= [aA,aB,aD,aF]:=by
  match vs,a3 with
  | [aA,aB,aD,aF],_=>exact ⟨_,_,_,_,rfl⟩
 have a5:∀ i,i < 4→([aA,aB,aD,aF].getD i .nilFunc).oneCell'=true :=fun i hi=>by
  obtain ⟨_,_,e,_⟩:=(bA i hi).ee;rw [e]; rfl
 have dK:([.int .i64 ((if n≤64 then n else 0:Nat):Int),str t,.slice ac rs.length rc,aA,aB,aD,aF]:List ag).all eO=true :=by
  have bQ:=a5 0 ab;have bR:=a5 1 ab;have bS:=a5 2 ab;have bT:=a5 3 ab;simp only [tU,yp] at bQ bR bS bT;simp only [nR,q9,bQ,bR,bS,bT]; rfl
 refine aR 5 U<|p (aw U<|bx.aK 1)<|aj 3 U ?_;refine eP U (ef eV (jH _ _ _ al) U fun e3 cv dq=> ?_) (fun c w' I σ' A=>by
  obtain ⟨rfl,hb,rfl⟩:=I;exact kA U aE ((A 2<|.head _).trans U) ((A 3<|.tail _<|.head _).trans U) (ae) (by rw [bn,zB bO aZ (fun h=>of_decide_eq_false hb<|by rw [h])]))
 obtain ⟨rfl,dV,rfl⟩:=dq;have dN:aN=s.length:=by have :=of_decide_eq_true dV; omega
 refine ax 1 U<|bw<|cG<|cE<|aR 1 U<|p (eI lJ U (U) (show ∀ j,j < 7→ay cv.heap C (0 +j)=([.int .i64 ((if n≤64 then n else 0:Nat):Int),str t,.slice ac rs.length rc,aA,aB,aD,aF]:List ag)[j]? from fun j _=>by rw [cM,bh ae.c2]; simp))<|e<|eu mF U U U dK ae.c2 (by rw [ae.len]; decide) fun d0 b2 cT=> ?_;have dt:d0.heap[C]? =some (.cells ([.int .i64 ((if n≤64 then n else 0:Nat):Int),str t,.slice ac rs.length rc]++ [aA,aB,aD,aF]).toArray 44 (0,0)):=cT.trans<|by rw [Eg (by rw [ae.len]; decide),List.take_zero,uc,nS]; rfl
 refine e<|dg uQ U U (v:= .int .i64 0) U (b2.ak ae.c3 fun h=>by omega) aE fun d1 b3 cU=>ax 1 U<|bw<|B9 ?_;exact Gz U aE U U (b3.ak dt fun h=>by omega) cU U (fun w' hm=>by
  unfold jk;rw [bn,zC bO aZ dN];have bE:Md (fun k=>k=C∨k=M) cv d1:=(b2.mono fun _ _ h=> .inl h).trans<|b3.mono fun _ _ h=> .inr h;refine ⟨⟨_,U,ac,rc,_,U,a3,(bB<|aV (bI bo bE fun k E h=>by have :=(cw bo E).1; omega) hm).2,fun i hi=>(((bA i hi).md bE fun k E hb=>absurd hb ab).wk hm).mono ab⟩,(ae.wk.trans' bE fun k E h=>by omega).trans hm⟩)
theorem qi {α:Type} {f:Nat→Except Nat (α×Nat)} (C:∀ a e,f a= .error e→e≠0):∀ {k a e:Nat},cq f k a= .error e→e≠0
 | 0,a,e,h=>by cases h
 | k+1,a,e,h=>by
   rw [cq] at h;split at h
   · rename_i E A;cases h;exact qi C A
   · split at h
     · rename_i E A;cases h;exact C _ _ A
     · cases h
theorem oR {s:List UInt8} {a e:Nat} (h:a9 s a= .error e):e≠0:=by rcases wZ h with h | h <;> omega
theorem vu {s:List UInt8} {a e:Nat} (h:cQ s a= .error e):e≠0:=by
 unfold cQ at h;split at h
 · rename_i A; cases h; exact oR A
 · repeat' split at h
   all_goals first | (cases h; decide) | cases h
theorem Jz {s:List UInt8} {a e:Nat} (h:gz s a= .error e):e≠0:=by
 unfold gz at h;split at h
 · rename_i A; cases h; exact vu A
 · split at h
   · rename_i A; cases h; exact vu A
   · cases h
theorem GN {s:List UInt8} {n a e:Nat} (h:dX s n a= .error e):e≠0:=by
 unfold dX at h;split at h
 · cases h; decide
 · split at h
   · rename_i A; cases h; exact oR A
   · split at h
     · cases h; decide
     · cases h
theorem KF {s:List UInt8} {n a e:Nat} (h:fm s n a= .error e):e≠0:=by
 unfold fm at h;split at h
 · rename_i A; cases h; exact oR A
 · split at h
   · cases h; decide
   · split at h
     · rename_i A; cases h; exact qi (fun _ _=>GN) A
     · cases h
theorem JQ {s:List UInt8} {a e:Nat} (h:cJ s a= .error e):e≠0:=by
 unfold cJ at h;split at h
 · rename_i A; cases h; exact oR A
 · split at h
   · cases h; decide
   · split at h
     · rename_i A; cases h; exact qi (fun _ _=>KF) A
     · split at h
       · cases h
       · cases h; decide
theorem Gx {s:List UInt8} {e:Nat} (h:bJ s= .error e):e≠0:=by
 unfold bJ at h;split at h
 · split at h
   · rename_i A; cases h; exact oR A
   · split at h
     · rename_i A; cases h; exact vu A
     · split at h
       · rename_i A; cases h; exact oR A
       · split at h
         · cases h; decide
         · split at h
           · rename_i A; cases h; exact qi (fun _ _=>Jz) A
           · generalize (if _≤64 then _ else 0)=n0 at h;unfold fS at h;split at h
             · split at h
               · rename_i A; cases h; exact qi (fun _ _=>JQ) A
               · split at h
                 · cases h
                 · cases h; decide
             · cases h; decide
 · cases h; decide
theorem jk.form {s:List UInt8} {w w':ah} {v:ag} (h:jk s w v w'):∃ L M x2 O V Z aa e,v= .tuple #[.agg [L,M,x2,O,V,Z,aa].toArray,.int .i64 ((e:Nat):Int)]∧[L,M,x2,O,V,Z,aa].all eO=true∧Wk w w'∧
 ((e≠0∧bJ s= .error e)∨(e=0∧∃ b,bJ s= .ok b∧lF w' w.heap.size [L,M,x2,O,V,Z,aa] b)):=by
 obtain ⟨h,aj⟩:=h;cases hX:bJ s with
 | error e=>
   rw [hX] at h;exact ⟨_,_,_,_,_,_,_,e,h,U,aj,.inl ⟨Gx hX,U⟩⟩
 | ok b=>
   rw [hX] at h;obtain ⟨cs,al,hb⟩:=h;obtain ⟨ap,rc,vs,rfl,am,ao,ak⟩:=id hb;obtain ⟨C,E,I,J,rfl⟩:∃ C E I J,vs= [C,E,I,J]:=by
    match vs,am with
    | [C,E,I,J],_=>exact ⟨_,_,_,_,rfl⟩
   have A:∀ i,i < 4→([C,E,I,J].getD i .nilFunc).oneCell'=true :=fun i hi=>by
    obtain ⟨_,_,e,_⟩:=(ak i hi).ee;rw [e]; rfl
   have ac:=A 0 ab;have ad:=A 1 ab;have ae:=A 2 ab;have ai:=A 3 ab;simp only [tU,yp] at ac ad ae ai;exact ⟨_,_,_,_,_,_,_,0,al,by simp only [nR,q9,ac,ad,ae,ai]; rfl,aj,.inr ⟨U,b,U,hb⟩⟩
def im (w:ah) (B cb:Nat) (b:dU) (A:List UInt8):Prop := ∃ cs,aC w.heap cb (cs++ [str A])∧lF w B cs b∧B≤cb
theorem im.wk {w w':ah} {B cb:Nat} {b:dU} {A:List UInt8} (h:im w B cb b A) (hm:Wk w w'):im w' B cb b A:=by
 obtain ⟨cs,h1,C,E⟩:=h;exact ⟨cs,Wk.B hm h1,C.wk hm,E⟩
def EP (s:List UInt8) (w:ah) (v:ag) (w':ah):Prop :=(match bJ s with
 | .ok b=> ∃ cb,v= .tuple #[.pointer (some ⟨cb,0,none⟩),.nilIface]∧im w' w.heap.size cb b s
 | .error e=>v= .tuple #[.pointer none,.iface 88 (.int .i64 ((e:Nat):Int))])∧Wk w w'
theorem A8 (s:List UInt8) (w:ah) (aB:s.length≤1048576):
 bj ar 19 (bD [str s]) w (EP s w):=by
 refine enter func19 U ntmps19 U<|aR 8 U<|p mv<|e<|bg (GA s w aB) U fun aQ aD au=> ?_;obtain ⟨A,C,x2,E,I,J,M,ae,rfl,aA,Z,V⟩:=jk.form au;have aP:=Z.size;refine p mv<|aj 2 U<|e<|dC qQ fun ad aT aH ai am=> ?_;have aN:=ai.size;refine e<|eu mF U U U aA am aE fun ac aq ao=> ?_;have ap:aC ac.heap ad [A,C,x2,E,I,J,M]:=⟨_,ao⟩
 have O:Wk aD ac:=ai.md.trans' aq fun k aL h=>by omega
 have aO:=O.size;refine aJ 10 U<|cd U (fun az=> ?_) fun az=> ?_;have V:ae≠0∧bJ s= .error ae:=V.resolve_right fun h=>by omega
 refine aG 3 U<|p (wc sC U)<|ax 6 U<|f2 U U U ?_;refine ⟨?_,Z.trans O⟩;rw [V.2];exact U;obtain ⟨aI,b,av,aw⟩:=V.resolve_left fun h=>by omega
 refine aG 4 U<|p (eI lJ U (U) (show ∀ j,j < 7→ay ac.heap ad (0 +j)=([A,C,x2,E,I,J,M]:List ag)[j]? from fun j _=>ap.aK j))<|p mv<|p (Fh (ps:= [(0,.agg [A,C,x2,E,I,J,M].toArray),(1,str s)]) (L:= [A,C,x2,E,I,J,M,str s]) Kv U<|by simp [Instr.fill,Value.cells,str])<|e<|pM (L:= [A,C,x2,E,I,J,M,str s]) U fun ak aS aF aa al=> ?_;have aM:=aa.size;refine ax 5 U<|f2 U U U ?_;refine ⟨?_,(Z.trans O).trans aa.md⟩;rw [av];exact ⟨ak,U,_,⟨_,al⟩,aw.wk (O.trans aa.md),ab⟩
end Go.Hb
end
section
namespace Go.Hb
open Go.Hb.fO
def eH (c:UInt8) (es:List (UInt8×Int)):Nat:=es.findIdx fun e=>e.1==c
theorem AH {c:UInt8} {es:List (UInt8×Int)} {i:Nat} {e:UInt8×Int} (he:es[i]? =some e) (A:e.1=c) (E:∀ (j:Nat) (e':UInt8×Int),j < i→es[j]? =some e'→e'.1≠c):eH c es=i:=by
 unfold eH;obtain ⟨hi,rfl⟩:=cK.1 he;rw [List.findIdx_eq hi];refine ⟨by simpa using A,fun j C=> ?_⟩;have :=E j _ C<|bG ab;simpa using this
theorem AI {c:UInt8} {es:List (UInt8×Int)} (C:∀ (j:Nat) (e':UInt8×Int),es[j]? =some e'→e'.1≠c):eH c es=es.length:=by
 unfold eH;refine List.findIdx_eq_length.2 fun e he=> ?_;obtain ⟨j,A⟩:=List.mem_iff_getElem?.1 he;simpa using C j e A
def jm (l:List aM):Nat→List UInt8→Option Nat×Nat
 | n,[]=>(some n,0)
 | n,c::w=>if eH c (aO l n).2 < (aO l n).2.length then ((jm l ((aO l n).2.getD (eH c (aO l n).2) (0,0)).2.toNat w).1,(jm l ((aO l n).2.getD (eH c (aO l n).2) (0,0)).2.toNat w).2 +1) else (none,0)
def lH (l:List aM):Prop :=l.length≤1048576∧∀ x∈l,x.2.length≤256∧∀ e∈x.2,0≤e.2∧e.2 < l.length
theorem lH.st {l:List aM} (h:lH l) {n:Nat} (hn:n < l.length):(aO l n).2.length≤256∧∀ (i:Nat) e,(aO l n).2[i]? =some e→0≤e.2∧e.2 < l.length:=by
 have :=h.2 _<|jY (d:=dI) hn;exact ⟨this.1,fun i e he=>this.2 e<|mi he⟩
end Go.Hb
end
section
namespace Go.Hb
def e9 (l:List aM) (s:Nat) (c:UInt8):Option Nat:=if eH c (aO l s).2 < (aO l s).2.length then some ((aO l s).2.getD (eH c (aO l s).2) (0,0)).2.toNat else none
def fT (l:List aM) (u:List UInt8):Option Nat:=(jm l 0 u).1
theorem rE (l:List aM) (n:Nat) (c:UInt8) (u:List UInt8):(jm l n (c::u)).1=(e9 l n c).bind fun s=>(jm l s u).1:=by
 rw [jm]; unfold e9;split <;> rfl
theorem uy (l:List aM):∀ (u:List UInt8) (n:Nat) (c:UInt8),(jm l n<|u++ [c]).1=(jm l n u).1.bind fun s=>e9 l s c
 | [],n,c=>by
   rw [uc,rE];show (e9 l n c).bind (fun s=>some s)=e9 l n c;cases e9 l n c <;> rfl
 | a::u,n,c=>by
   rw [List.cons_append,rE,rE];cases e9 l n a with
   | none=>rfl
   | some s=>exact uy l u s c
theorem yM (l:List aM):∀ (v u:List UInt8) (n:Nat),(jm l n u).1=none→(jm l n<|u++v).1=none
 | [],u,n,h=>by rw [nS]; exact h
 | c::v,u,n,h=>by
   rw [show u++c::v=(u++ [c])++v by simp];refine yM l v _ n ?_;rw [uy,h]; rfl
def pZ (l:List aM):Option Nat→Bool
 | some n=>(aO l n).1
 | none=>false
def bU (w:List UInt8) (i k:Nat):List UInt8:=(w.drop i).take<|k - i
def az (l:List aM) (least:Nat) (w:List UInt8) (i k:Nat):Bool:=decide (i < k∧k≤w.length∧least≤k - i) && pZ l (fT l<|bU w i k)
theorem zj (w:List UInt8) (i:Nat):bU w i i= []:=by unfold bU; rw [yB]; rfl
theorem Gb {w:List UInt8} {i k:Nat} (hi:i≤k) (A:k < w.length):bU w i (k+1)=bU w i k++ [w.getD k 0]:=by
 unfold bU;rw [show k+1 - i=(k - i)+1 by omega,yw,ik,show i+(k - i)=k by omega,b9,bG A]; rfl
theorem Ga {w:List UInt8} {i k m:Nat} (hi:i≤k) (A:k≤m):∃ v,bU w i m=bU w i k++v:=by
 unfold bU;exact ⟨_,by rw [show m - i=(k - i)+(m - k) by omega,List.take_add]⟩
theorem vB {l:List aM} {w:List UInt8} {i k:Nat} (hi:i≤k) (A:k < w.length):fT l (bU w i<|k+1)=(fT l<|bU w i k).bind fun s=>e9 l s (w.getD k 0):=by
 unfold fT;rw [Gb hi A,uy]
theorem AA {l:List aM} {w:List UInt8} {i k m:Nat} (hi:i≤k) (A:k≤m) (h:fT l (bU w i k)=none):fT l (bU w i m)=none:=by
 obtain ⟨v,C⟩:=Ga (w:=w) hi A;unfold fT at h ⊢;rw [C]; exact yM l v _ 0 h
def iU (l:List aM) (least:Nat) (w:List UInt8) (i k:Nat):List Nat:=(List.range' (i+1)<|k - i).filter<|az l least w i
theorem GO (l:List aM) (least:Nat) (w:List UInt8) (i:Nat):iU l least w i i= []:=by unfold iU; rw [yB]; rfl
theorem zZ {l:List aM} {least:Nat} {w:List UInt8} {i k:Nat} (hi:i≤k):iU l least w i (k+1)=iU l least w i k++if az l least w i (k+1)=true then [k+1] else []:=by
 unfold iU;rw [show k+1 - i=(k - i)+1 by omega,List.range'_1_concat,List.filter_append,show i+1 +(k - i)=k+1 by omega];congr 1;cases h:az l least w i (k+1) <;> simp [h]
theorem BN {l:List aM} {least:Nat} {w:List UInt8} {i k s:Nat} (hi:i≤k) (C:k < w.length) (A:fT l (bU w i<|k+1)=some s):az l least w i (k+1)=((aO l s).1 && decide (least≤k+1 - i)):=by
 unfold az;rw [A];simp only [pZ];cases (aO l s).1
 · simp
 · simp only [Bool.and_true,pf];exact decide_eq_decide.2 ⟨fun h=>h.2.2,fun h=>⟨ab,ab,h⟩⟩
theorem zY {l:List aM} {least:Nat} {w:List UInt8} {i k:Nat} (hi:i≤k) (C:k≤w.length) (h:k=w.length∨fT l (bU w i<|k+1)=none):iU l least w i k=jE (az l least w) w.length i:=by
 rcases h with rfl | h
 · rfl
 · have :∀ d,k+d≤w.length→iU l least w i (k+d)=iU l least w i k:=fun d=>by
    induction d with
    | zero=>intro _; rfl
    | succ d ih=>
      intro A;rw [← Nat.add_assoc,zZ ab,ih ab];have hn:=AA (m:=k+d+1) ab ab h;have :az l least w i (k+d+1)=false :=by unfold az; rw [hn]; simp [pZ]
      rw [this]; simp
   have h1:=this (w.length - k) ab;rw [show k+(w.length - k)=w.length by omega] at h1;exact h1.symm
theorem Az {l:List aM} (A:lH l) (h0:0 < l.length):∀ {u:List UInt8} {n s:Nat},n < l.length→(jm l n u).1=some s→s < l.length
 | [],n,s,hn,h=>by
   have :some n=some s:=h;cases this; exact hn
 | c::u,n,s,hn,h=>by
   rw [rE] at h;unfold e9 at h;split at h
   · rename_i C;refine Az A h0 ?_ h;obtain ⟨_,E⟩:=A.st hn;obtain ⟨I,J⟩:=E _ _<|bG C;rw [b9,bG C];simp only [Option.getD_some];omega
   · cases h
theorem HJ {c:UInt8} {es:List (UInt8×Int)} (hr:dW es) {i:Nat} (J:∀ (j:Nat) e,j < i→es[j]? =some e→e.1.toNat < c.toNat) (M:∀ (j:Nat) e,i≤j→es[j]? =some e→c.toNat≤e.1.toNat):(i < es.length∧(es.getD i (0,0)).1=c→eH c es=i)∧(¬(i < es.length∧(es.getD i (0,0)).1=c)→eH c es=es.length):=by
 constructor
 · rintro ⟨h1,A⟩;rw [b9,bG h1] at A;refine AH (bG h1) A fun j e E he h=> ?_;have :=J j e E he;rw [h] at this; omega
 · intro h;refine AI fun j e he C=>h ?_;have V:¬j < i:=fun E=>by have :=J j e E he; rw [C] at this; omega
   have I:=(cK.1 he).1;by_cases O:i=j
   · subst O;refine ⟨I,?_⟩;rw [b9,he]; exact C
   · exfalso;have h1:es[i]? =some (es[i]'ab):=bG ab;have A:=M i _ (aQ _) h1;have L:=pD.1 hr i j ab I ab;obtain ⟨U,rfl⟩:=cK.1 he;rw [C] at L;omega
def cY (l:List aM) (least:Nat) (w:List UInt8):List (List UInt8):=if w.length≤1024∧(jC (az l least w) w.length 0).1≠0 then (fR (az l least w) w.length 0).map fun p=>bU w p.1 p.2 else []
def iQ (l:List aM) (least:Nat) (w:List UInt8):Nat×Bool:=if w= []∨1024 < w.length then (0,true) else if gd < (jC (az l least w) w.length 0).2 then (0,false) else ((jC (az l least w) w.length 0).2,true)
section
variable {l:List aM} {least:Nat} {w:List UInt8}
theorem HM:(jC (az l least []) 0 0).1=0:=by rw [sn]
theorem xy (h:(jC (az l least w) w.length 0).1≠0):0 < w.length∧eE (az l least w) w.length 0:=by
 have h0:0 < w.length:=by
  rcases yz w.length with h1 | h1
  · rw [h1,sn] at h; exact absurd rfl h
  · exact h1
 exact ⟨h0,.inr ⟨h0,h⟩⟩
theorem Ki:(cY l least w= []∧(w.length≤1024→(jC (az l least w) w.length 0).1=0))∨(w.length≤1024∧0 < w.length∧eE (az l least w) w.length 0∧(jC (az l least w) w.length 0).1≠0∧cY l least w=(fR (az l least w) w.length 0).map fun p=>bU w p.1 p.2):=by
 unfold cY;split
 · rename_i h;obtain ⟨h1,A⟩:=xy h.2;exact .inr ⟨h.1,h1,A,h.2,U⟩
 · rename_i h;exact .inl ⟨U,fun h1=>DG fun A=>h ⟨h1,A⟩⟩
theorem Kj (h:cY l least w≠[]):(cY l least w).length=(jC (az l least w) w.length 0).1:=by
 rcases Ki (l:=l) (least:=least) (w:=w) with ⟨h1,_⟩ | ⟨_,_,A,_,e⟩
 · exact absurd h1 h
 · rw [e,me,uN A]
theorem CH (hw:1024 < w.length):cY l least w= []:=by unfold cY; rw [if_neg ab]
end
end Go.Hb
end
section
namespace Go.Hb.jj
open Go.Hb.dL
open Go.Hb.fO
def fM (w:ah) (B k:Nat) (A:List (Bool×ag)) (l:List aM):Prop :=A.length=l.length∧∀ (i:Nat) q e,A[i]? =some q→l[i]? =some e→q.1=e.1∧Tg w 0 84 e.2.length q.2 (eW e.2)∧(i < k→Tg w B 84 e.2.length q.2 (eW e.2))
theorem eC.q {w:ah} {B B':Nat} {C:List (Bool×ag)} {l:List aM} (h:eC w B C l):fM w B' 0 C l:=⟨h.1,fun i q e A he=>⟨(h.2 i q e A he).1,(h.2 i q e A he).2.mono (fK _),fun hi=>by omega⟩⟩
theorem fM.p {w:ah} {B:Nat} {C:List (Bool×ag)} {l:List aM} (h:fM w B l.length C l):eC w B C l:=⟨h.1,fun i q e A he=>⟨(h.2 i q e A he).1,(h.2 i q e A he).2.2 (cK.1 he).1⟩⟩
theorem fM.md {F:Nat→Prop} {w w':ah} {B k:Nat} {I:List (Bool×ag)} {l:List aM} (h:fM w B k I l) (hm:Md F w w') (E:∀ k,F k→∀ cur z,w.heap[k]?≠some (.cells cur 84 z)):fM w' B k I l:=
 ⟨h.1,fun i q e C he=>⟨(h.2 i q e C he).1,Tg.kN (h.2 i q e C he).2.1 hm (fun k A _=>E k A),fun hi=>Tg.kN ((h.2 i q e C he).2.2 hi) hm fun k A _=>E k A⟩⟩
theorem fM.set {w:ah} {B k:Nat} {I:List (Bool×ag)} {l:List aM} {f:Bool} {v:ag} {e:aM} (h:fM w B k I l) (he:l[k]? =some e) (M:f=e.1) (E:Tg w B 84 e.2.length v (eW e.2)):fM w B (k+1) (I.set k (f,v)) l:=by
 refine ⟨by rw [gl,h.1],fun i q r A hr=> ?_⟩;have U:=h.1;have O:=(cK.1 hr).1;by_cases C:k=i
 · subst C;rw [he] at hr; cases hr;rw [yq ab] at A; cases A;exact ⟨M,E.mono (fK _),fun _=>E⟩
 · rw [En C] at A;obtain ⟨h1,J,L⟩:=h.2 i q r A hr;exact ⟨h1,J,fun hi=>L ab⟩
theorem Cu:∀ (A:List (Bool×ag)) (k:Nat) (v:ag),k < A.length→(fl A).set (k*2 +1) v=fl (A.set k ((A.getD k (false,.nilFunc)).1,v))
 | [],k,v,h=>by simp at h
 | q::A,0,v,_=>by simp [fl]
 | q::A,k+1,v,h=>by
   have ih:=Cu A k v<|by simpa using h
   rw [yv,yp];show (bq q.1::q.2::fl A).set ((k+1)*2 +1) v= .bool q.1::q.2::fl _;rw [show (k+1)*2 +1=(k*2 +1)+1 +1 by omega,yv,yv,ih]
theorem J0 {w:ah} {B:Nat} {C:List (Bool×ag)} {l:List aM} (h:eC w B C l):(fl C).all eO=true :=by
 rw [List.all_eq_true];intro v A;obtain ⟨q,I,A⟩:=List.mem_flatMap.1 A;obtain ⟨i,hi⟩:=List.getElem?_of_mem I;have L:=(cK.1 hi).1;have M:=h.1;have he:l[i]? =some (l[i]'ab):=bG ab;obtain ⟨_,E⟩:=h.2 i _ _ hi he;obtain ⟨a,c,J⟩:=E.slice;simp only [ei,List.not_mem_nil,or_false] at A;rcases A with rfl | rfl
 · rfl
 · rw [J]; rfl
theorem GL (es:List (UInt8×Int)):(eW es).all eO=true :=Ao (fun _=>rfl) es
theorem JA (l:List (List UInt8×List UInt8)):(l.flatMap dY).all eO=true :=Ao (fun _=>rfl) l
theorem B7 (l:List (List UInt8×List UInt8)):(l.flatMap dY).length=l.length*2:=sc (m:=2) (fun _=>rfl) l
theorem zd {h:Array Obj} {a:Option bR} {n m:Nat} {xs:List ag} (C:aX h a xs) (A:xs.length=n*m) (hm:0 < m) (ha:a=none):n=0:=by
 rcases yz n with h0 | h0
 · exact h0
 · exfalso;have E:xs≠[]:=fun e=>by
    rw [e] at A;have :0 < n*m:=Nat.mul_pos h0 hm;simp only [lB] at A; omega
   have :=aX.ok C E;rw [ha] at this; cases this
theorem vD {x y z:ag} {ws:List ag} {i:Nat} (hi:i < ws.length):([x,y,z]++ws).toArray[0 +3 +((i:Nat):Int).toNat*1]? =some (ws.getD i .nilFunc):=by
 rw [List.getElem?_toArray,show 0 +3 +((i:Nat):Int).toNat*1=i+1 +1 +1 from by omega,b9,bG hi];show ws[i]? =_;rw [bG hi]; rfl
theorem KE {l:List aM} {n:Nat} (h:n < l.length):l[n]? =some (aO l n):=by
 unfold aO;rw [b9,bG h]; rfl
theorem four {α:Type} {l:List α} (h:l.length=4):∃ a b c d,l= [a,b,c,d]:=by
 match l,h with
 | [a,b,c,d],_=>exact ⟨a,b,c,d,rfl⟩
theorem Tg.parts {w:ah} {B e n m:Nat} {v:ag} {xs:List ag} (h:Tg w B e n v xs) (C:xs.length=n*m) (hm:0 < m):∃ a c,v= .slice a n c∧aX w.heap a xs∧(a=none→n=0):=by
 obtain ⟨a,c,rfl⟩:=h.slice;obtain ⟨_,A⟩:=h.pO;exact ⟨a,c,U,A,zd A C hm⟩
theorem FV (a:Option bR) (n c:Nat) (xs:List ag) (w:ah) (J:aX w.heap a xs) (aa:xs.length=n*2) (ha:a=none→n=0) (h1:xs.all eO=true) (hn:n≤1048576):
 bj ar 26 (bD [.slice a n c]) w (fun v w'=>ba w' w.heap.size 77 2 v n xs∧Wk w w'):=by
 refine enter func26 U ntmps26 U<|aR 9 U<|p (vb KX U U)<|aJ 2 U<|cb U (fun C=> ?_) fun C=> ?_;have O:a=none:=by simpa using C
 refine aH 7 U<|aP U ?_;have V:=ha O;subst V;obtain rfl :=lz (show xs.length=0 by omega);exact ⟨ez _ _ _ _,Md.refl _ _⟩;refine aG 4 U<|e<|rH tq fun ai ao ak A I=> ?_;have E:=I w.heap.size ab;refine aj 1 U<|e<|ap tq (E) U (by have :=A.size; omega) U (J.wk A.md) (aa) (h1) ab ab fun ad ae Z M am al=> ?_;have L:=Wk.own A.md E M<|aQ _;refine p aT<|ax 3 U<|aP U ?_;have ac:ba ae w.heap.size 77 2 ad n xs:=by simpa using Z
 exact ⟨ac,L⟩
theorem FW (a:Option bR) (n c:Nat) (xs:List ag) (w:ah) (J:aX w.heap a xs) (aa:xs.length=n*2) (ha:a=none→n=0) (h1:xs.all eO=true) (hn:n≤1048576):
 bj ar 27 (bD [.slice a n c]) w (fun v w'=>ba w' w.heap.size 81 2 v n xs∧Wk w w'):=by
 refine enter func27 U ntmps27 U<|aR 9 U<|p (vb KY U U)<|aJ 2 U<|cb U (fun C=> ?_) fun C=> ?_;have O:a=none:=by simpa using C
 refine aH 7 U<|aP U ?_;have V:=ha O;subst V;obtain rfl :=lz (show xs.length=0 by omega);exact ⟨ez _ _ _ _,Md.refl _ _⟩;refine aG 4 U<|e<|rH tt fun ai ao ak A I=> ?_;have E:=I w.heap.size ab;refine aj 1 U<|e<|ap tt (E) U (by have :=A.size; omega) U (J.wk A.md) (aa) (h1) ab ab fun ad ae Z M am al=> ?_;have L:=Wk.own A.md E M<|aQ _;refine p aT<|ax 3 U<|aP U ?_;have ac:ba ae w.heap.size 81 2 ad n xs:=by simpa using Z
 exact ⟨ac,L⟩
theorem FU (a:Option bR) (n c:Nat) (xs:List ag) (w:ah) (J:aX w.heap a xs) (aa:xs.length=n*2) (ha:a=none→n=0) (h1:xs.all eO=true) (hn:n≤1048576):
 bj ar 28 (bD [.slice a n c]) w (fun v w'=>ba w' w.heap.size 84 2 v n xs∧Wk w w'):=by
 refine enter func28 U ntmps28 U<|aR 9 U<|p (vb KZ U U)<|aJ 2 U<|cb U (fun C=> ?_) fun C=> ?_;have O:a=none:=by simpa using C
 refine aH 7 U<|aP U ?_;have V:=ha O;subst V;obtain rfl :=lz (show xs.length=0 by omega);exact ⟨ez _ _ _ _,Md.refl _ _⟩;refine aG 4 U<|e<|rH tv fun ai ao ak A I=> ?_;have E:=I w.heap.size ab;refine aj 1 U<|e<|ap tv (E) U (by have :=A.size; omega) U (J.wk A.md) (aa) (h1) ab ab fun ad ae Z M am al=> ?_;have L:=Wk.own A.md E M<|aQ _;refine p aT<|ax 3 U<|aP U ?_;have ac:ba ae w.heap.size 84 2 ad n xs:=by simpa using Z
 exact ⟨ac,L⟩
theorem Fl (B aL:Nat) (b:dU) (s:List UInt8) (w:ah) (ch:im w B aL b s) (az:b.Is s):
 bj ar 16 (bD [aZ aL]) w (fun v w'=> ∃ cs,v= .agg cs.toArray∧lF w' w.heap.size cs b∧Wk w w'):=by
 obtain ⟨cs,b4,⟨bu,rc,vs,rfl,c1,bJ,av⟩,hBk⟩:=ch;obtain ⟨aP,aS,aT,aU,rfl⟩:=four c1;have cO:aP.oneCell'=true :=by obtain ⟨a,c,h,_⟩:=(av 0 ab).ee; rw [show aP=_ from h]; rfl
 have cP:aS.oneCell'=true :=by obtain ⟨a,c,h,_⟩:=(av 1 ab).ee; rw [show aS=_ from h]; rfl
 have cQ:aT.oneCell'=true :=by obtain ⟨a,c,h,_⟩:=(av 2 ab).ee; rw [show aT=_ from h]; rfl
 have cR:aU.oneCell'=true :=by obtain ⟨a,c,h,_⟩:=(av 3 ab).ee; rw [show aU=_ from h]; rfl
 have cV:bu=none→b.cH.length=0:=zd bJ (B7 _) aE;refine enter func16 U ntmps16 U<|aR 2 U<|e<|dC qQ fun aW c6 c7 bb b7=> ?_;have dc:=bb.size;refine aj 6 U<|p (jw qK U U)<|aJ 2 U<|cf (U)<|aG 7 U<|p (eI lJ U (U) (show ∀ j,j < 7→ay c6.heap aL (0 +j)=([aA (b.least),str b.tr,.slice bu b.cH.length rc,aP,aS,aT,aU]:List ag)[j]? from fun j al=>by rw [cM,(Wk.B bb.md b4).ay]; exact fJ<|by simpa using al)) ?_;refine e<|dC qQ fun E ds c8 bd cc=> ?_;have de:=bd.size;refine e<|eu mF U U U (by simp only [nR,q9,cO,cP,cQ,cR]; rfl) cc aE fun bZ a9 bF=> ?_;have bL:Wk w bZ:=(bb.md.trans bd.md).trans' a9 fun k A h=>by omega
 have di:=a9.size;have b8:=a9.ak (Wk.ak bd.md b7) fun h=>by omega
 refine aj 5 U<|p (aw U<|(bh bF).trans U)<|e<|bg (FV bu b.cH.length rc (b.cH.flatMap dY) bZ (bJ.wk bL) (B7 _) cV (JA _)<|by have :=az.IY; omega) U ?_;rintro dp a6 ⟨bo,a0⟩;obtain ⟨J,M,rfl⟩:=dA bo;have db:=a0.size;have cB:=Wk.ak a0 bF;have ca:=Wk.ak a0 b8;refine aj 1 U<|e<|dg zq U U (v:= .slice J b.cH.length M) U cB (by simp) fun b0 a2 ce=> ?_;have dl:=a2.size;have cn:Wk w b0:=(bL.trans a0).trans' a2 fun k A h=>by omega
 have cT:ba b0 w.heap.size 77 2 (.slice J b.cH.length M) b.cH.length (b.cH.flatMap dY):=bI (j9 bo ab) a2 fun k A h=>by have :=(cw bo A).1; omega
 have cb:=a2.ak ca fun h=>by omega
 refine aJ 9 U<|lp (fun ao b1 C=> ∃ (i:Nat) (ws:List ag),(i≤4)∧(ws.length=4)∧(C.heap[E]? =some (.cells ([aA (b.least),str b.tr,.slice J b.cH.length M]++ws).toArray 44 (0,0)))∧(C.heap[aW]? =some (.cells [.int .i64 0,str [],.slice none 0 0,.slice none 0 0,.slice none 0 0,.slice none 0 0,.slice none 0 0].toArray 44 (0,0)))∧(ba C w.heap.size 77 2 (.slice J b.cH.length M) b.cH.length<|b.cH.flatMap dY)∧(∀ j,j < i→eS C w.heap.size (ws.getD j .nilFunc) (b.aq.getD j []))∧(∀ j,i≤j→j < 4→ws.getD j .nilFunc= [aP,aS,aT,aU].getD j .nilFunc)∧(Wk w C)∧(E < C.heap.size)∧(Sl b1 [(0,aZ aL),(2,aZ aW),(3,aZ E),(17,aA i)])∧(4 - i=ao)) _ ⟨0,[aP,aS,aT,aU],ab,U,ce,cb,cT,(fun j al=>by omega),(fun j _ _=>rfl),cn,ab,U,U⟩ ?_;rintro ao b1 C ⟨i,ws,hi,bt,aF,aY,a4,am,hold,au,dn,cW,rfl⟩;refine bK cW<|cj 6 U<|cd U (fun cC=> ?_) fun cC=> ?_;refine bW 11 U ?_;obtain ⟨aM,cx,aD⟩:=(av i ab).wk au;obtain ⟨bx,bA,cZ,ci,cJ⟩:=Tg.parts (w:=C) (B:=B) (e:=81) (n:=(b.aq.getD i []).length) (xs:=fl aM) cx (m:=2) (by rw [Ct,aD.1]) aE;have cI:(b.aq.getD i []).length≤1048576:=(az.aq _<|jY<|by rw [az.sD]; omega).2.1;have cE:ay C.heap E (0 +3 +((i:Nat):Int).toNat*1)=some (.slice bx (b.aq.getD i []).length bA):=by rw [bh aF,vD ab,hold i (aQ _) ab,cZ]
 refine aG 4 U<|p (iW mB U U ab)<|p (aw U<|cE)<|e<|bg (FW bx (b.aq.getD i []).length bA (fl aM) C ci (by rw [Ct,aD.1]) cJ (J0 aD) cI) U ?_;rintro dq dr ⟨bp,a1⟩;obtain ⟨L,V,rfl⟩:=dA bp;have dd:=a1.size;have bM:=Wk.ak a1 aF;refine aj 1 U<|p (iW mB U U ab)<|e<|dg zr U U (v:= .slice L (b.aq.getD i []).length V) U bM (by simp only [cz,dP,lB,bt]; omega) fun aN a3 cg=> ?_;have dm:=a3.size;have bN:aN.heap[E]? =some (.cells ([aA (b.least),str b.tr,.slice J b.cH.length M]++ws.set i (.slice L (b.aq.getD i []).length V)).toArray 44 (0,0)):=by rw [← xg]; exact cg
 have cS:ba aN C.heap.size 81 2 (.slice L (b.aq.getD i []).length V) (b.aq.getD i []).length (fl aM):=bI bp a3 fun k A h=>by have :=(cw bp A).1; omega
 have cq:Md (fun k=>k=E) C aN:=(a1.mono fun _ _ h=>h.elim).trans a3;have cF:ay aN.heap E (0 +3 +((i:Nat):Int).toNat*1)=some (.slice L (b.aq.getD i []).length V):=by rw [bh bN,vD (by rw [gl]; omega),ov ab]
 have cv:fM aN w.heap.size 0 aM (b.aq.getD i []):=fM.md (eC.q<|eC.wk aD a1) a3 fun k A cur z h=>by subst A; rw [bM] at h; cases h
 refine aj 6 U<|p (iW mB U U ab)<|p (aw U<|cF)<|aJ 5 U<|lp (fun ao b2 I=> ∃ (k:Nat) (us:List (Bool×ag)),(k≤(b.aq.getD i []).length)∧(us.length=(b.aq.getD i []).length)∧(ba I C.heap.size 81 2 (.slice L (b.aq.getD i []).length V) (b.aq.getD i []).length<|fl us)∧(fM I w.heap.size k us<|b.aq.getD i [])∧(I.heap[E]? =some (.cells ([aA (b.least),str b.tr,.slice J b.cH.length M]++ws.set i (.slice L (b.aq.getD i []).length V)).toArray 44 (0,0)))∧(Md (fun k=>k=E) C I)∧(Sl b2 [(0,aZ aL),(2,aZ aW),(3,aZ E),(4,aA i),(17,aA i),(32,aA ((b.aq.getD i []).length)),(33,aA k)])∧((b.aq.getD i []).length - k=ao)) _ ⟨0,aM,ab,aD.1,cS,cv,bN,cq,U,U⟩ ?_;rintro ao b2 I ⟨k,us,A,cY,aI,bf,bm,ae,cX,rfl⟩;refine bK cX<|cj 6 U<|cd U (fun cD=> ?_) fun cD=> ?_;refine bW 10 U ?_;have bP:ay I.heap E (0 +3 +((i:Nat):Int).toNat*1)=some (.slice L (b.aq.getD i []).length V):=by rw [bh bm,vD (by rw [gl]; omega),ov ab]
 have bH:=(bB aI).2;obtain ⟨q,br⟩:∃ q,us[k]? =some q:=⟨_,bG ab⟩
 have bn:(b.aq.getD i [])[k]? =some (aO (b.aq.getD i []) k):=KE ab;have bS:=aX.ok bH<|oq (f:=fun q:Bool×ag=> [bq q.1,q.2]) (m:=2) (fun _=>rfl) aE ab;obtain ⟨cU,bT,_⟩:=bf.2 k q _ br bn;generalize bO:(aO (b.aq.getD i []) k).2=es at bT;obtain ⟨bz,bC,c0,ck,cK⟩:=Tg.parts (w:=I) (B:=0) (e:=84) (n:=es.length) (xs:=eW es) bT (m:=2) (zS _) aE;have c9:es.length≤256:=by rw [← bO]; exact (az.aq _<|jY<|by rw [az.sD]; omega).2.2 _ (mi bn) |>.1
 have cG:ay I.heap (bk L) (fo L+k*2 +1)=some (.slice bz es.length bC):=by
  rw [lP (f:=fun q:Bool×ag=> [bq q.1,q.2]) (m:=2) (fun _=>rfl) bH br 1 ab,← c0]; rfl
 refine sx 16 fun O=>gu [0,1] U O<|lV 2 U (iW mB U U ab) O<|jJ 3 U O (bP)<|gu [4,5,6] U O<|lV 7 U (iW mB U U ab) O<|jJ 8 U O (bP)<|gu [9] U O<|lV 10 U (bc oo U U ab<|bS) O<|gu [11] U O<|jJ 12 U O (cG)<|gw 13 U ai<|bg (FU bz es.length bC (eW es) I.drew (ck.wk (Md.refl _ _).drew) (zS _) cK (GL _) ab) U ?_;rintro a5 bv ⟨bR,ap⟩;have dk:=ap.size;have bi:(fun w'=>Wk I w') bv:=O.trans ap;refine ⟨bi,?_⟩;refine gw 14 U ai<|je (bc oo U U ab<|bS) ⟨bi,?_⟩;refine gw 15 U ai<|je (fa Hj U) ⟨bi,?_⟩;refine kL 16 U ai ai<|jc (j:=k*2 +1) (u:=a5) (aV aI<|Md.cy ap) zu U U (I9 bR) (by rw [po]; omega) ab fun bY aB bQ=> ?_;have da:=aB.size;have bX:∀ k,(bE L (b.aq.getD i []).length V).ownBlock=some k→C.heap.size≤k:=fun k h=>(cw aI h).1;have a7:Wk I bv:=Md.cy ap;have ct:Md (fun k=>k=E) C bY:=(ae.trans<|a7.mono fun _ _ h=>h.elim).trans' aB fun k A h=>by have :=bX k h; omega
 have cA:Tg bv w.heap.size 84 es.length a5 (eW es):=(Tg.oF bR).mono<|by have :=au.size; have :=ae.size; show w.heap.size≤I.heap.size; omega
 have bU:=gy (e':=84) (aV aI a7) aE;have cu:fM bY w.heap.size (k+1) (us.set k (q.1,a5)) (b.aq.getD i []):=fM.set (fM.md (fM.md bf a7 fun _ h=>h.elim) aB bU) bn cU<|by rw [bO]; exact Tg.kN cA aB fun k A _=>bU k A
 exact kM ai<|bl 6 U<|tn<|⟨_,ab,k+1,us.set k (q.1,a5),ab,(by rw [gl]; exact cY),(by rw [Cu _ _ _ ab,show us.getD k (false,.nilFunc)=q from by rw [b9,br]; rfl] at bQ; exact bQ),cu,(aB.ak (Wk.ak ap bm) fun h=>by have :=bX E h; omega),ct,U,U⟩
 refine aH 2 U<|cr<|dh 3 U ?_;obtain rfl :k=(b.aq.getD i []).length:=ab;have co:Wk w I:=au.trans' ae fun k A h=>by omega
 have cL:∀ j,j < i+1→eS I w.heap.size ((ws.set i<|.slice L (b.aq.getD i []).length V).getD j .nilFunc) (b.aq.getD j []):=fun j al=>by
  by_cases h:j=i;subst h;rw [ov ab];refine ⟨us,?_,fM.p bf⟩;have :=Tg.oF<|j9 aI (show w.heap.size≤C.heap.size from au.size);exact this;rw [qa ab];exact (am j ab).md ae fun k A hb cur z=>by subst A; rw [aF]; exact ⟨by simp,by simp⟩
 exact aH 4 U<|tn<|⟨_,ab,i+1,ws.set i (.slice L (b.aq.getD i []).length V),ab,(by rw [gl]; exact bt),bm,(ae.ak aY fun h=>by omega),(bI a4 ae fun k A h=>gy a4 aE k A _ _<|h ▸ aF),cL,(fun j h1 b3=>by rw [qa ab]; exact hold j ab b3),co,(by have :=ae.size; omega),U,U⟩
 refine aH 2 U<|cr<|dh 3 U ?_;obtain rfl :i=4:=ab;obtain ⟨Z,aa,ac,ad,rfl⟩:=four bt;have c2:Z.oneCell'=true :=by obtain ⟨a,c,h,_⟩:=(am 0 ab).ee; rw [show Z=_ from h]; rfl
 have c3:aa.oneCell'=true :=by obtain ⟨a,c,h,_⟩:=(am 1 ab).ee; rw [show aa=_ from h]; rfl
 have c4:ac.oneCell'=true :=by obtain ⟨a,c,h,_⟩:=(am 2 ab).ee; rw [show ac=_ from h]; rfl
 have c5:ad.oneCell'=true :=by obtain ⟨a,c,h,_⟩:=(am 3 ab).ee; rw [show ad=_ from h]; rfl
 refine aG 1 U<|p (eI lJ U (U) (show ∀ j,j < 7→ay C.heap E (0 +j)=([aA (b.least),str b.tr,.slice J b.cH.length M,Z,aa,ac,ad]:List ag)[j]? from fun j al=>by rw [cM,bh aF]; simp))<|e<|eu mF U U U (by simp only [nR,q9,c2,c3,c4,c5]; rfl) aY aE fun a6 a8 b5=> ?_;have cm:Wk w a6:=au.trans' a8 fun k A h=>by omega
 have cp:lF a6 w.heap.size [aA (b.least),str b.tr,.slice J b.cH.length M,Z,aa,ac,ad] b:=⟨J,M,[Z,aa,ac,ad],rfl,rfl,(bB<|bI a4 a8 fun k A h=>gy a4 aE k A _ _<|h ▸ aY).2,fun j al=>(am j al).md a8 fun k A hb cur z=>by subst A; rw [aY]; exact ⟨by simp,by simp⟩⟩
 have b6:aC a6.heap aW [aA (b.least),str b.tr,.slice J b.cH.length M,Z,aa,ac,ad]:=⟨_,b5⟩
 exact ax 3 U<|r7 U (iC (cs:= [aA (b.least),str b.tr,.slice J b.cH.length M,Z,aa,ac,ad]) U lJ U fun j al=>b6.aK j)<|⟨[aA (b.least),str b.tr,.slice J b.cH.length M,Z,aa,ac,ad],U,cp,cm⟩
end Go.Hb.jj
end
section
namespace Go.Hb
open Go.Hb.dL
open Go.Hb.jj Go.Hb.fO
theorem Jm {es:List (UInt8×Int)} (hr:dW es) {m k:Nat} {d e:UInt8×Int} {x:Nat} (C:es[m]? =some d) (h:d.1.toNat < x) (I:k≤m) (he:es[k]? =some e):e.1.toNat < x:=by
 obtain ⟨h1,rfl⟩:=cK.1 C;obtain ⟨A,rfl⟩:=cK.1 he;by_cases E:k=m
 · subst E; exact h
 · have :=pD.1 hr k m A h1 ab;omega
theorem Jl {es:List (UInt8×Int)} (hr:dW es) {m k:Nat} {d e:UInt8×Int} {x:Nat} (C:es[m]? =some d) (h:x≤d.1.toNat) (I:m≤k) (he:es[k]? =some e):x≤e.1.toNat:=by
 obtain ⟨h1,rfl⟩:=cK.1 C;obtain ⟨A,rfl⟩:=cK.1 he;by_cases E:m=k
 · subst E; exact h
 · have :=pD.1 hr m k h1 A ab;omega
theorem z0 {l:List aM} {least:Nat} {x:List UInt8} {i k:Nat} :(iU l least x i k).length≤k - i:=by
 unfold iU;exact cS (Er _ _)<|by rw [Es]; exact aQ _
theorem BM (A:UInt8×Int) (c:UInt8) (w:ah):
 bj ar 86 (bD [.agg #[.int .u8 A.1.toNat,.int .i64 A.2],.int .u8 c.toNat]) w (fun v w'=>v= .int .i64 ((A.1.toNat:Int) - (c.toNat:Int))∧Wk w w'):=by
 have L:=ks A.1;have I:=ks c;exact enter func86 U ntmps86 U<|aR 2 U<|e<|n5 U fun J M I E C=>aj 6 U<|p (aw U<|C.aK 0)<|p (fw u3 qM U<|gP ab)<|aj 1 U<|p (fw u3 qM U<|gP ab)<|ax 5 U<|aP U<|⟨U,E.md⟩
theorem Fq (a:Option bR) (c:Nat) (es:List (UInt8×Int)) (x:UInt8) (w:ah) (J:lG w.heap a es) (hr:dW es) (aw:es.length≤256):
 bj ar 85 (bD [.slice a es.length c,.int .u8 x.toNat,.func (.func 86) #[] #[]]) w (fun v w'=>(∃ r:Nat,v= .tuple #[aA r,.bool (decide (eH x es < es.length))]∧(eH x es < es.length→r=eH x es))∧Wk w w'):=by
 refine enter func85 U ntmps85 U<|cj 22 U<|lp (fun O ai M=> ∃ (i j:Nat),(i≤j)∧(j≤es.length)∧(∀ (k:Nat) e,k < i→es[k]? =some e→e.1.toNat < x.toNat)∧(∀ (k:Nat) e,j≤k→es[k]? =some e→x.toNat≤e.1.toNat)∧(Wk w M)∧(Sl ai [(0,.slice a es.length c),(1,.int .u8 x.toNat),(2,.func (.func 86) #[] #[]),(8,aA (es.length)),(9,aA i),(10,aA j)])∧(j - i=O)) _ ⟨0,es.length,ab,ab,(fun k e h=>by omega),(fun k e h he=>by have :=(cK.1 he).1; omega),(Md.refl _ _),U,U⟩ ?_;rintro O ai M ⟨i,j,au,av,ad,Z,C,aq,rfl⟩;refine bK aq<|cj 8 U<|cd U (fun al=> ?_) fun al=> ?_;refine aG 7 U<|p (bF<|i+j)<|p (fw KW tC U<|gC ab)<|p (shr U U aE<|J8<|i+j)<|p (fw u3 K8 U<|gP ab)<|aJ 4 U ?_;obtain ⟨A,E⟩:∃ d,es[(i+j) / 2]? =some d:=⟨_,bG ab⟩
 refine aG 4 U<|p (bc pY U U ab<|J.ok ab)<|p (eI ux U (U)<|(J.wk C).two E)<|aj 1 U<|e<|zi ek U (BM A x M) U ?_;rintro v30 az ⟨rfl,V⟩;refine aJ 3 U<|cd U (fun am=> ?_) fun am=> ?_;exact aG 2 U<|p (bF<|(i+j) / 2 +1)<|ax 3 U<|tn<|⟨_,ab,(i+j) / 2 +1,j,ab,ab,(fun k e ac he=>Jm hr E ab ab he),Z,(C.trans V),U,U⟩
 exact aH 5 U<|tn<|⟨_,ab,i,(i+j) / 2,ab,ab,ad,(fun k e ac he=>Jl hr E ab ac he),(C.trans V),U,U⟩
 refine aH 2 U<|cr<|dh 3 U ?_;obtain rfl :i=j:=ab;have L:=HJ hr ad Z;refine aG 6 U<|gs (t:=39) U (fun ap=> ?_) fun ap=> ?_;obtain ⟨A,E⟩:∃ d,es[i]? =some d:=⟨_,bG ab⟩
 refine aj 3 U<|bC U (bc pY U U ab<|J.ok ab)<|bC U (eI ux U (U)<|(J.wk C).two E)<|aj 1 U<|eg U U U<|zi ek U (BM A x M) U ?_;rintro ay aB ⟨rfl,ak⟩;refine ax 7 U<|f2 U U U ?_;have ao:es.getD i (0,0)=A:=by rw [b9,E]; rfl
 rw [ao] at L;have aa:i < es.length:=ab;have ag:A.1=x→eH x es=i:=fun h=>L.1 ⟨aa,h⟩;have ae:A.1≠x→eH x es=es.length:=fun h=>L.2 fun I=>h I.2;have hb:decide ((A.1.toNat:Int) - (x.toNat:Int)=0)=decide (eH x es < es.length):=by
  by_cases h:A.1=x;rw [ag h,decide_eq_true aa,h]; exact decide_eq_true ab;rw [ae h,decide_eq_false (ED _)];exact decide_eq_false fun e=>h<|UInt8.toNat_inj.1 ab
 refine ⟨⟨i,by rw [← hb]; rfl,fun h=> ?_⟩,C.trans ak⟩;by_cases I:A.1=x;exact (ag I).symm;rw [ae I] at h; omega;refine aj 10 U<|p aT<|ax 3 U<|f2 U U U ?_;have hn:eH x es=es.length:=L.2 fun h=>by omega
 exact ⟨⟨i,by rw [hn,decide_eq_false (ED _)]; rfl,fun h=>by omega⟩,C⟩
theorem Ja (a:Option bR) (c:Nat) (l:List aM) (x:List UInt8) (i least:Nat) (w:ah) (ay:gV w.heap a l) (aR:lH l) (h0:0 < l.length) (hr:∀ n,n < l.length→dW (aO l n).2) (bn:x.length≤1024) (hi:i≤x.length) (hle:least≤64):
 bj ar 46 (bD [.slice a l.length c,str x,aA i,aA least]) w (fun v w'=>ba w' w.heap.size 3 1 v (jE (az l least x) x.length i).length ((jE (az l least x) x.length i).map nv)∧Wk w w'):=by
 refine enter func46 U ntmps46 U<|cj 23 U<|lp (fun au aE M=> ∃ (k q:Nat) (C:ag),(i≤k)∧(k≤x.length)∧(fT l (bU x i k)=some q)∧(q < l.length)∧(ba M w.heap.size 3 1 C (iU l least x i k).length<|(iU l least x i k).map nv)∧(gV M.heap a l)∧(Wk w M)∧(Sl aE [(0,.slice a l.length c),(1,str x),(2,aA i),(3,aA least),(9,C),(10,aA q),(11,aA k)])∧(x.length - k=au)) _ ⟨i,0,.slice none 0 0,ab,hi,(by rw [zj]; rfl),h0,(by rw [GO]; exact ez _ _ _ _),ay,(Md.refl _ _),U,U⟩ ?_;rintro au aE M ⟨k,q,C,O,bm,aC,aq,I,E,J,a4,rfl⟩;refine bK a4<|cj 9 U<|cd U (fun aW=> ?_) fun aW=> ?_;refine bW 5 U ?_;obtain ⟨aK,aL,aB,ad⟩:=E.two aq;obtain ⟨a1,a2⟩:=aR.st aq;refine fU fun L=>aF [0,1] U L<|cR 2 U (bc oo U U ab<|E.ok ab) L<|aF [3] U L<|di 4 U L (aB 1 ab)<|aF [5,6] U L<|cR 7 U (fy u9 U U ab) L<|he 8 U ai<|bg (Fq aK aL (aO l q).2 (x.getD k 0) M.drew ad (hr q aq) a1) U ?_;rintro v30 a8 ⟨⟨bq,rfl,a3⟩,A⟩;have A:=Md.cy A;have ak:(fun w'=>Wk M w') a8:=A;refine ⟨ak,?_⟩;refine cR 9 U (mv) ak<|aF [10,11,12,13] U ak<|hn ai<|dh 8 U<|cb U (fun al=> ?_) fun al=> ?_;have V:¬eH (x.getD k 0) (aO l q).2 < (aO l q).2.length:=by simpa using al
 refine aH 4 U<|cr<|eY 4 U<|eL (C)<|p (pK (C) U)<|ax 3 U<|aP U ?_;have hn:fT l (bU x i<|k+1)=none:=by
  rw [vB O ab,aC];show e9 l q (x.getD k 0)=none;unfold e9;rw [if_neg V]
 rw [zY O ab (.inr hn)] at I;exact ⟨aV I A,J.trans A⟩;have V:eH (x.getD k 0) (aO l q).2 < (aO l q).2.length:=by simpa using al
 obtain rfl :=a3 V;refine bW 3 U ?_;obtain ⟨⟨aI,z⟩,he⟩:∃ e,(aO l q).2[eH (x.getD k 0) (aO l q).2]? =some e:=⟨_,bG V⟩
 obtain ⟨a5,a6⟩:=a2 _ _ he;obtain ⟨m,rfl⟩:∃ m:Nat,z=(m:Int):=⟨z.toNat,by simp only at a5; omega⟩
 simp only at a6;have ac:m < l.length:=ab;obtain ⟨bf,bh,aU,_⟩:=E.two ac;have aa:fT l (bU x i<|k+1)=some m:=by
  rw [vB ab ab,aC];show e9 l q (x.getD k 0)=_;unfold e9;rw [if_pos V,b9,he]; rfl
 have ao:=BN (least:=least) O ab aa;have am:=zZ (l:=l) (least:=least) (w:=x) O;refine aG 3 U<|p (bc oo U U ab<|E.ok ab)<|aj 1 U<|p (aw U<|(l7 A aB) 1 ab)<|aj 1 U<|p (bc pY U U ab<|ad.ok ab)<|aj 1 U<|p (aw U (show _=some (bd .i64 ((m:Nat):Int)) from (ad.wk A).to _ (aI,_) he))<|aj 7 U<|p (bc oo U U ab<|E.ok ab)<|aj 1 U<|p (aw U<|(l7 A aU) 0 ab)<|aj 1 U<|gb (t:=49) U (fun Z=> ?_) fun Z=> ?_;refine aj 1 U<|bC U (bF<|k+1)<|aj 1 U<|bC U (kV<|k+1 - i)<|aJ 5 U<|cd U (fun aY=> ?_) fun aY=> ?_;refine aG 1 U<|eL (C)<|aj 1 U<|p (bF<|k+1)<|e<|jo qG U U fun bb br bi ae aN=> ?_;have bo:=ae.size;have aD:=aV (aV I A) ae.md;refine e<|ap qG (aD) U (by have :=J.size; have :=A.size; omega) U (aX.fD aN) (U) (U) (by have :=z0 (l:=l) (least:=least) (x:=x) (i:=i) (k:=k); omega) (by have :=z0 (l:=l) (least:=least) (x:=x) (i:=i) (k:=k); omega) fun a7 a9 a0 aS bp bl=> ?_;have av:Wk w a9:=Wk.own ((J.trans A).trans ae.md) aD aS<|aQ _;exact p aT<|aj 5 U<|p (bF<|k+1)<|ax 2 U<|tn<|⟨_,ab,k+1,m,a7,ab,ab,aa,ac,(by rw [am,if_pos (show az l least x i (k+1)=true from by rw [ao,Z,pf]; exact decide_eq_true ab),cz,List.map_append]; exact a0),(ay.wk av),av,U,U⟩
 exact aG 5 U<|p (bF<|k+1)<|ax 2 U<|tn<|⟨_,ab,k+1,m,C,ab,ab,aa,ac,(by rw [am,if_neg (show ¬az l least x i (k+1)=true from by rw [ao,Z,pf]; exact fun h=>absurd (of_decide_eq_true h) ab),nS]; exact aV I A),(E.wk A),(J.trans A),U,U⟩
 exact aj 15 U<|p (bF<|k+1)<|ax 2 U<|tn<|⟨_,ab,k+1,m,C,ab,ab,aa,ac,(by rw [am,if_neg (show ¬az l least x i (k+1)=true from by rw [ao,Z,Bool.false_and]; exact dn),nS]; exact aV I A),(E.wk A),(J.trans A),U,U⟩
 refine aH 2 U<|cr<|eY 4 U<|eL (C)<|p (pK (C) U)<|ax 3 U<|aP U ?_;have aZ:k=x.length:=ab;rw [zY O ab (.inl aZ)] at I;exact ⟨I,J⟩
end Go.Hb
end
section
namespace Go.Hb
open Go.Hb.dL
open Go.Hb.jj Go.Hb.fO
section
variable {l:List aM} {least:Nat} {x:List UInt8} {i j k q:Nat}
def jT (l:List aM) (least:Nat) (x:List UInt8) (j:Nat):Nat→Nat×Nat:=dc x.length (lS x.length) (j0 (az l least x) x.length) j
def jM (l:List aM) (least:Nat) (x:List UInt8) (j i k:Nat):Nat×Nat:=((jE (az l least x) x.length i).take k).foldl (fV x.length i<|jT l least x j) (0,0)
theorem HO (h:(jE (az l least x) x.length i)[k]? =some q):jM l least x j i (k+1)=fV x.length i (jT l least x j) (jM l least x j i k) q:=by
 unfold jM;rw [yw,h,List.foldl_append]; rfl
theorem AN (f:Nat×Nat→Nat) (hi:i+j+1=x.length) (A:f (0,0)=0):(cF x.length fun q=>f<|jT l least x j q)=cF x.length fun q=>if q=i then f (jM l least x j i 0) else f (jT l least x j q):=by
 refine wV fun q C=> ?_;by_cases h:q=i
 · subst h;rw [if_pos rfl];unfold jT;rw [GF ab ab]; rfl
 · rw [if_neg h]
theorem AP (f:Nat×Nat→Nat) (hi:i+j+1=x.length) (A:k=(jE (az l least x) x.length i).length):(cF x.length fun q=>if q=i then f (jM l least x j i k) else f (jT l least x j q))=cF x.length fun q=>f (jT l least x (j+1) q):=by
 refine wV fun q C=> ?_;unfold jT;rw [dc];by_cases h:q=i
 · subst h;rw [if_pos rfl,if_pos ab];unfold jM j0;rw [A,yx]; rfl
 · rw [if_neg h,if_neg ab]
theorem oy (q:Nat) (A:j≤x.length):(jT l least x j q).1≤x.length∧(jT l least x j q).2≤gd+1:=by
 have :=uX (pc:=az l least x) (n:=x.length) j q;unfold jT; omega
theorem HN (A:j+1≤x.length):(jM l least x j i k).1≤x.length∧(jM l least x j i k).2≤gd+1:=by
 have :=vK (n:=x.length) (i:=i) (j:=j) (T:=jT l least x j) (fun q=>(uX (pc:=az l least x) (n:=x.length) j q).1) ((jE (az l least x) x.length i).take k) (0,0) ⟨by simp,by simp⟩;unfold jM; omega
end
theorem oz {n i k:Nat} {T:Nat→Nat×Nat} {m:Nat×Nat} (h:(k < n∧(T k).1=0)∨(i=0∧k=n)):fV n i T m k=m:=if_pos h
theorem wX {n i a b:Nat} {g:Nat→Nat} :(cF n fun k=>if k=i then a else if k=i then b else g k)=cF n fun k=>if k=i then a else g k:=wV fun k _=>by split <;> rfl
theorem wG {w:ah} {B e size n c b:Nat} {xs:List ag} (h:ba w B e size (.slice (some ⟨b,0,none⟩) n c) n xs):b < w.heap.size:=(cw h rfl).2
theorem fc {b n c k:Nat} (h:(bE (some ⟨b,0,none⟩) n c).ownBlock=some k):k=b:=(dq h).symm
theorem AK {pc:Nat→Nat→Bool} {n i:Nat} :(jE pc n i).length≤n - i:=by
 unfold jE;exact cS (Er _ _)<|by rw [Es]; exact aQ _
theorem Jw (n:Nat):(cZ (n+1)<|bd .i64 0)=(cF n fun _=>0).map nv:=by
 rw [← Jx,yt]; rfl
def EO (w:ah) (B J:Nat) (l:List aM) (least:Nat) (x:List UInt8):Prop := ∃ A C E I,aC w.heap J [.slice (some ⟨A,0,none⟩) x.length x.length,.slice (some ⟨C,0,none⟩) (x.length+1) (x.length+1),.slice (some ⟨E,0,none⟩) (x.length+1) (x.length+1)]∧B≤J∧ba w B 47 1 (.slice (some ⟨A,0,none⟩) x.length x.length) x.length I∧
 (∀ i,i < x.length→ba w B 3 1 (I.getD i .nilFunc) (jE (az l least x) x.length i).length ((jE (az l least x) x.length i).map nv))∧
 ba w B 3 1 (.slice (some ⟨C,0,none⟩) (x.length+1)<|x.length+1) (x.length+1) ((cF x.length fun q=>(jC (az l least x) x.length q).1).map nv)∧ba w B 3 1 (.slice (some ⟨E,0,none⟩) (x.length+1)<|x.length+1) (x.length+1) ((cF x.length fun q=>(jC (az l least x) x.length q).2).map nv)
theorem A2 (B bU:Nat) (b:dU) (s x:List UInt8) (w:ah) (cT:im w B bU b s) (a9:b.Is s) (dD:x.length≤1024):
 bj ar 24 (bD [aZ bU,str x]) w (fun v w'=>(∃ cz,v=aZ cz∧EO w' w.heap.size cz (b.aq.getD 1 []) b.least x)∧Wk w w'):=by
 have dx:=a9.aq _<|jY (l:=b.aq) (i:=1) (d:= [])<|by rw [a9.sD]; decide
 obtain ⟨bq,co,cp⟩:=dx;have c1:lH (b.aq.getD 1 []):=⟨co,cp⟩
 obtain ⟨en,c6⟩:=J5 bq;have dk:0 < (b.aq.getD 1 []).length:=by unfold shaped at bq; simp only [a0,decide_eq_true_eq] at bq; exact bq.1.1
 have ds:∀ n,n < (b.aq.getD 1 []).length→dW (aO (b.aq.getD 1 []) n).2:=fun n hn=>c6.BW hn;refine enter func24 U ntmps24 U<|aR 7 U<|p mv<|aj 7 U<|p mv<|p (jw qK U U)<|aj 1 U<|gb (t:=16) U (fun h=>absurd (h.symm.trans<|U) dn) fun d3=>aJ 5 U<|cd U (fun h=>absurd h ab) fun dZ=>aG 4 U<|p mv<|e<|bg (Fl B bU b s w cT a9) U ?_;rintro eo dM ⟨cs,rfl,⟨bX,rc,vs,rfl,dy,_,aW⟩,hE21⟩;obtain ⟨a4,dO,a5,a6,rfl⟩:=four dy;have dF:a4.oneCell'=true :=by obtain ⟨a,c,h,_⟩:=(aW 0 ab).ee; rw [show a4=_ from h]; rfl
 have dG:a5.oneCell'=true :=by obtain ⟨a,c,h,_⟩:=(aW 2 ab).ee; rw [show a5=_ from h]; rfl
 have dH:a6.oneCell'=true :=by obtain ⟨a,c,h,_⟩:=(aW 3 ab).ee; rw [show a6=_ from h]; rfl
 obtain ⟨av,cc,dE,d0,c7⟩:=(aW 1 ab).ee;obtain rfl :dO=_:=dE;have eg:=hE21.size;refine e<|dC qQ fun aB eq dV b7 cO=> ?_;have ek:=b7.size;refine e<|eu mF U U U (show List.all [aA (b.least),str b.tr,.slice bX b.cH.length rc,a4,.slice av (b.aq.getD 1 []).length cc,a5,a6] eO=true by simp only [nR,q9,dF,dG,dH]; rfl) cO aE fun ap b5 cL=> ?_;have bT:=b5.size;have bv:Wk dM ap:=b7.md.trans' b5 fun k A h=>by omega
 have cM:aC ap.heap aB [aA (b.least),str b.tr,.slice bX b.cH.length rc,a4,.slice av (b.aq.getD 1 []).length cc,a5,a6]:=⟨_,cL⟩
 have dP:=c7.wk bv;refine aJ 3 U<|fU fun aL=>aF [0,2] U aL<|cR 3 U (bF<|x.length+1) aL<|aF [5] U aL<|cR 6 U (bF<|x.length+1) aL<|II 1 4 7 U U U U U U ai ai ai ai ai ai ai aE aE aE (wu (n:=x.length) (zv:= .slice none 0 0) Kd Me U (fun σ' h=>(h 22 aE).trans U) (fun σ' h=>(h 22 aE).trans U) ab<|by unfold maxLen; omega) (wu (n:=x.length+1) (zv:= .int .i64 0) qG o8 U (fun σ' h=>(h 25 aE).trans U) (fun σ' h=>(h 25 aE).trans U) ab<|by unfold maxLen; omega) (wu (n:=x.length+1) (zv:= .int .i64 0) qG o8 U (fun σ' h=>(h 28 aE).trans U) (fun σ' h=>(h 28 aE).trans U) ab<|by unfold maxLen; omega) (fun b w w' h hm B aU=>aV (h B aU) hm) (fun b w w' h hm B aU=>aV (h B aU) hm) (fun b w w' h hm B aU=>aV (h B aU) hm) (fun w' hm=>aL.trans hm) fun V O M dN co cp d6 d8 d9 ea eh b1 b8 b9 cb=> ?_;have cg:(fun w'=>Wk ap w') dN:=aL.trans b1;refine cR 8 U (eU (ps:= [(0,.slice (some ⟨V,0,none⟩) x.length x.length),(1,.slice (some ⟨O,0,none⟩) (x.length+1) (x.length+1)),(2,.slice (some ⟨M,0,none⟩) (x.length+1) (x.length+1))]) (L:= [.slice (some ⟨V,0,none⟩) x.length x.length,.slice (some ⟨O,0,none⟩) (x.length+1) (x.length+1),.slice (some ⟨M,0,none⟩) (x.length+1) (x.length+1)]) Ku U<|U) cg<|he 9 U ai<|pM U fun ae bY dT aI cK=> ?_;have ei:=aI.size;have d1:ap.drew.heap.size=ap.heap.size:=rfl;have ci:aC bY.heap ae [.slice (some ⟨V,0,none⟩) x.length x.length,.slice (some ⟨O,0,none⟩) (x.length+1) (x.length+1),.slice (some ⟨M,0,none⟩) (x.length+1) (x.length+1)]:=⟨_,cK⟩
 have bu:Wk ap bY:=(Md.cy b1).trans aI.md;have c4:=aV (b8 w.heap.size<|by have :=bT; omega) aI.md;have ca:=aV (b9 w.heap.size<|by have :=bT; omega) aI.md;have bb:=aV (cb w.heap.size<|by have :=bT; omega) aI.md;rw [Jw] at ca bb;have dQ:=wG<|b8 0 ab;have dR:=wG<|b9 0 ab;have dS:=wG<|cb 0 ab;have ch:(fun w'=>Wk ap w') bY:=cg.trans aI.md;refine ⟨ch,?_⟩;refine aF [10] U ch<|hn ai<|eY 6 U<|p (aw U<|ci.aK 2)<|aj 1 U<|p (bc cn U U ab<|U)<|e<|jc (j:=x.length) (u:=nv 1) bb cI U U U (by simp [fo]) ab fun Z al cv=> ?_;have el:=al.size;have dr:ba Z w.heap.size 3 1 (.slice (some ⟨M,0,none⟩) (x.length+1)<|x.length+1) (x.length+1) ((cF x.length fun q=>(jT (b.aq.getD 1 []) b.least x 0 q).2).map nv):=by
  rw [jQ.symm,sX] at cv;have e:(cF x.length fun q=>(jT (b.aq.getD 1 []) b.least x 0 q).2)=cF x.length fun k=>if k=x.length then 1 else 0:=rfl
  rw [e]; exact cv
 have b2:Wk w Z:=((hE21.trans bv).trans bu).trans' al fun k A h=>by have :=fc h; omega
 have c9:=al.B ci fun h=>by have :=fc h; omega
 have cQ:=al.B (Wk.B bu cM) fun h=>by have :=fc h; omega
 have bn:ba Z w.heap.size 47 1 (.slice (some ⟨V,0,none⟩) x.length x.length) x.length (cZ x.length<|.slice none 0 0):=bI c4 al fun k A h=>by have :=fc A; have :=fc h; omega
 have dp:ba Z w.heap.size 3 1 (.slice (some ⟨O,0,none⟩) (x.length+1)<|x.length+1) (x.length+1) ((cF x.length fun q=>(jT (b.aq.getD 1 []) b.least x 0 q).1).map nv):=bI ca al fun k A h=>by have :=fc A; have :=fc h; omega
 have cY:eS Z w.heap.size (.slice av (b.aq.getD 1 []).length cc) (b.aq.getD 1 []):=(((aW 1 ab).wk bv).wk bu).md al fun k A hb cur z=>⟨gy bb aE k A cur z,gy bb aE k A cur z⟩
 refine aJ 11 U<|lp (fun aT cC C=> ∃ (j:Nat) (z:Int) (aD:List ag),(j≤x.length)∧(z=(x.length:Int) - 1 - (j:Int))∧(aC C.heap ae [.slice (some ⟨V,0,none⟩) x.length x.length,.slice (some ⟨O,0,none⟩) (x.length+1) (x.length+1),.slice (some ⟨M,0,none⟩) (x.length+1) (x.length+1)])∧(aC C.heap aB [aA (b.least),str b.tr,.slice bX b.cH.length rc,a4,.slice av (b.aq.getD 1 []).length cc,a5,a6])∧(eS C w.heap.size (.slice av (b.aq.getD 1 []).length cc)<|b.aq.getD 1 [])∧(ba C w.heap.size 47 1 (.slice (some ⟨V,0,none⟩) x.length x.length) x.length aD)∧(∀ J,x.length - j≤J→J < x.length→ba C Z.heap.size 3 1 (aD.getD J .nilFunc) (jE (az (b.aq.getD 1 []) b.least x) x.length J).length ((jE (az (b.aq.getD 1 []) b.least x) x.length J).map nv))∧(ba C w.heap.size 3 1 (.slice (some ⟨O,0,none⟩) (x.length+1)<|x.length+1) (x.length+1)<|(cF x.length fun q=>(jT (b.aq.getD 1 []) b.least x j q).1).map nv)∧(ba C w.heap.size 3 1 (.slice (some ⟨M,0,none⟩) (x.length+1)<|x.length+1) (x.length+1)<|(cF x.length fun q=>(jT (b.aq.getD 1 []) b.least x j q).2).map nv)∧(Wk w C)∧(Z.heap.size≤C.heap.size)∧(Sl cC [(1,str x),(5,aA (x.length)),(6,aZ aB),(7,aZ ae),(8,.int .i64 z)])∧(x.length - j=aT)) _ ⟨0,(x.length:Int) - 1,cZ x.length (.slice none 0 0),ab,ab,c9,cQ,cY,bn,(fun i h1 bZ=>by omega),dp,dr,b2,(aQ _),U,U⟩ ?_;rintro aT cC C ⟨j,z,aD,d4,ed,bH,bt,b3,aM,ce,ct,cu,b0,em,dt,rfl⟩;refine bK dt<|cj 7 U<|cd U (fun db=> ?_) fun db=> ?_;refine bW 5 U ?_;obtain ⟨i,rfl⟩:∃ i:Nat,z=(i:Int):=⟨z.toNat,ab⟩
 have bm:i+j+1=x.length:=ab;obtain ⟨_,_,cJ,_,c8⟩:=b3.ee;cases cJ;refine sx 14 fun am=>gu [0,1,2] U am<|jJ 3 U am (bH.aK 0)<|gu [4,5] U am<|lV 6 U (iW mB U U aE) am<|jJ 7 U am (bt.aK 4)<|gu [8,9,10] U am<|jJ 11 U am (bt.aK 0)<|gw 12 U ai<|bg (Ja av cc (b.aq.getD 1 []) x i b.least C.drew c8 c1 dk ds dD ab a9.least.2) U ?_;rintro ep cA ⟨bS,cV⟩;obtain ⟨aa,eV,rfl⟩:=dA bS;have a7:Wk C cA:=Md.cy cV;have ej:=a7.size;have cf:(fun w'=>Wk C w') cA:=a7;refine ⟨cf,?_⟩;refine gw 13 U ai<|je (bc vd U U ab<|U) ⟨cf,?_⟩;refine kL 14 U ai ai<|jc (j:=i) (u:= .slice aa (jE (az (b.aq.getD 1 []) b.least x) x.length i).length eV) (aV aM a7) Gm U U U (by simp [fo]) ab fun ad bz cq=> ?_;have ef:=bz.size;have ak:Md (fun k=>k=V) C ad:=(a7.mono fun _ _ h=>h.elim).trans<|bz.mono fun k _ h=>fc h;have bo:ba ad Z.heap.size 3 1 (.slice aa (jE (az (b.aq.getD 1 []) b.least x) x.length i).length eV) (jE (az (b.aq.getD 1 []) b.least x) x.length i).length ((jE (az (b.aq.getD 1 []) b.least x) x.length i).map nv):=j9 (bI bS bz (fun k A h=>by have :=(cw bS A).1; have :=fc h; have :C.drew.heap.size=C.heap.size:=rfl; omega)) (by have :C.drew.heap.size=C.heap.size:=rfl; omega);have bf:=ak.B bH fun h=>by omega
 have cP:=ak.B bt fun h=>by omega
 have cX:=b3.md ak fun k A hb cur z=>by subst A; exact ⟨gy aM aE _ rfl cur z,gy aM aE _ rfl cur z⟩
 have bO:ba ad w.heap.size 3 1 (.slice (some ⟨O,0,none⟩) (x.length+1)<|x.length+1) (x.length+1) ((cF x.length fun q=>if q=i then (jM (b.aq.getD 1 []) b.least x j i 0).1 else ((jT (b.aq.getD 1 []) b.least x j) q).1).map nv):=by
  have h:=bI ct ak fun k A h=>by have :=fc A; omega
  rw [AN fL bm rfl] at h; exact h
 have bP:ba ad w.heap.size 3 1 (.slice (some ⟨M,0,none⟩) (x.length+1)<|x.length+1) (x.length+1) ((cF x.length fun q=>if q=i then (jM (b.aq.getD 1 []) b.least x j i 0).2 else ((jT (b.aq.getD 1 []) b.least x j) q).2).map nv):=by
  have h:=bI cu ak fun k A h=>by have :=fc A; omega
  rw [AN nV bm rfl] at h; exact h
 have cU:Wk w ad:=b0.trans' ak fun k A h=>by omega
 refine kM ai<|eY 6 U<|p (aw U<|bf.aK 0)<|aj 1 U<|p (bc vd U U ab<|U)<|p (aw U<|(show ay ad.heap V (0 +i*1)=some (.slice aa (jE (az (b.aq.getD 1 []) b.least x) x.length i).length eV) from by rw [Nat.mul_one]; exact aX.ay (bB cq).2 _ _<|yq<|by have :=aM.1; omega)) ?_;refine aJ 5 U<|lp (fun aT cD au=> ∃ (k:Nat),(k≤(jE (az (b.aq.getD 1 []) b.least x) x.length i).length)∧(ba au w.heap.size 3 1 (.slice (some ⟨O,0,none⟩) (x.length+1)<|x.length+1) (x.length+1)<|(cF x.length fun q=>if q=i then (jM (b.aq.getD 1 []) b.least x j i k).1 else ((jT (b.aq.getD 1 []) b.least x j) q).1).map nv)∧(ba au w.heap.size 3 1 (.slice (some ⟨M,0,none⟩) (x.length+1)<|x.length+1) (x.length+1)<|(cF x.length fun q=>if q=i then (jM (b.aq.getD 1 []) b.least x j i k).2 else ((jT (b.aq.getD 1 []) b.least x j) q).2).map nv)∧(Md (fun q=>q=O∨q=M) ad au)∧(Sl cD [(1,str x),(5,aA (x.length)),(6,aZ aB),(7,aZ ae),(8,aA i),(64,.slice aa (jE (az (b.aq.getD 1 []) b.least x) x.length i).length eV),(65,.int .i64 ((jE (az (b.aq.getD 1 []) b.least x) x.length i).length:Nat)),(66,aA k)])∧((jE (az (b.aq.getD 1 []) b.least x) x.length i).length - k=aT)) _ ⟨0,ab,bO,bP,(Md.refl _ _),U,U⟩ ?_;rintro aT cD au ⟨k,A,ao,aS,I,du,rfl⟩;refine bK du<|cj 6 U<|cd U (fun dc=> ?_) fun dc=> ?_;refine bW 5 U ?_;obtain ⟨q,bN⟩:∃ q,(jE (az (b.aq.getD 1 []) b.least x) x.length i)[k]? =some q:=⟨_,bG ab⟩
 obtain ⟨eb,cx,ec⟩:=ox.1<|mi bN;have ac:=HO (j:=j) bN;have bp:=bI bo I fun k A h=>by have :=(cw bo A).1; omega
 have bh:=I.B bf fun h=>by omega
 have cm:(cF x.length fun q=>if q=i then (jM (b.aq.getD 1 []) b.least x j i k).1 else ((jT (b.aq.getD 1 []) b.least x j) q).1)[q]? =some ((jT (b.aq.getD 1 []) b.least x j) q).1:=by rw [jK _ cx,if_neg ab]
 have dY:=oy (l:=b.aq.getD 1 []) (least:=b.least) (x:=x) q (show j≤x.length by omega);have dX:=HN (l:=b.aq.getD 1 []) (least:=b.least) (x:=x) (i:=i) (k:=k) (show j+1≤x.length by omega);have d7:gd=1099511627776:=rfl;have d5:=AK (pc:=az (b.aq.getD 1 []) b.least x) (n:=x.length) (i:=i);refine aG 1 U<|p (bc cn U U ab<|aX.ok (bB bp).2 fun h=>by have :=congrArg jh h; rw [me] at this; simp only [lB] at this; omega)<|p (aw U<|eK (bB bp).2 bN)<|aJ 3 U ?_;refine ff (fun cE cB=> ∃ (dI:Unit),(¬((q < x.length∧((jT (b.aq.getD 1 []) b.least x j) q).1=0)∨(i=0∧q=x.length)))∧(Wk au cB)∧(Sl cE [(1,str x),(5,aA (x.length)),(6,aZ aB),(7,aZ ae),(8,aA i),(10,aA q),(64,.slice aa (jE (az (b.aq.getD 1 []) b.least x) x.length i).length eV),(65,.int .i64 ((jE (az (b.aq.getD 1 []) b.least x) x.length i).length:Nat)),(66,aA k)])) ?_ ?_;refine aR 6 U<|gs (t:=73) U (fun de=> ?_) fun de=> ?_;refine aj 3 U<|bC U (aw U<|bh.aK 1)<|aj 1 U<|bC U (bc cn U U ab<|U)<|bC U (aw U<|eK (bB ao).2 cm)<|aj 3 U<|gs (t:=83) U (fun dg=> ?_) fun dg=> ?_;exact ax 12 U<|cr<|bl 6 U<|tn<|⟨_,ab,k+1,ab,(by rw [ac,oz ab]; exact ao),(by rw [ac,oz ab]; exact aS),I,U,U⟩
 refine aj 3 U<|gs (t:=86) U (fun bM=> ?_) fun bM=> ?_;refine aJ 7 U<|cd U (fun bL=> ?_) fun bL=> ?_;exact aH 1 U<|cr<|bl 6 U<|tn<|⟨_,ab,k+1,ab,(by rw [ac,oz ab]; exact ao),(by rw [ac,oz ab]; exact aS),I,U,U⟩
 exact aH 1 U<|tn<|⟨(),ab,(Md.refl _ _),U⟩
 exact aj 4 U<|p (mY U)<|ax 4 U<|tn<|⟨(),ab,(Md.refl _ _),U⟩
 refine aj 9 U<|p mv<|aj 3 U<|gs (t:=86) U (fun bM=> ?_) fun bM=> ?_;refine aJ 7 U<|cd U (fun bL=> ?_) fun bL=> ?_;exact aH 1 U<|cr<|bl 6 U<|tn<|⟨_,ab,k+1,ab,(by rw [ac,oz ab]; exact ao),(by rw [ac,oz ab]; exact aS),I,U,U⟩
 exact aH 1 U<|tn<|⟨(),ab,(Md.refl _ _),U⟩
 exact aj 4 U<|p (mY U)<|ax 4 U<|tn<|⟨(),ab,(Md.refl _ _),U⟩
 rintro cE cB ⟨dI,bi,a8,dv⟩;refine bK dv ?_;refine ff (fun cG a3=> ∃ (dJ:Unit),(ba a3 w.heap.size 3 1 (.slice (some ⟨O,0,none⟩) (x.length+1)<|x.length+1) (x.length+1)<|(cF x.length fun q=>if q=i then (jM (b.aq.getD 1 []) b.least x j i<|k+1).1 else ((jT (b.aq.getD 1 []) b.least x j) q).1).map nv)∧(ba a3 w.heap.size 3 1 (.slice (some ⟨M,0,none⟩) (x.length+1)<|x.length+1) (x.length+1)<|(cF x.length fun q=>if q=i then (jM (b.aq.getD 1 []) b.least x j i k).2 else ((jT (b.aq.getD 1 []) b.least x j) q).2).map nv)∧(Md (fun q=>q=O∨q=M) ad a3)∧(¬((q < x.length∧((jT (b.aq.getD 1 []) b.least x j) q).1=0)∨(i=0∧q=x.length)))∧(Sl cG [(1,str x),(5,aA (x.length)),(6,aZ aB),(7,aZ ae),(8,aA i),(10,aA q),(64,.slice aa (jE (az (b.aq.getD 1 []) b.least x) x.length i).length eV),(65,.int .i64 ((jE (az (b.aq.getD 1 []) b.least x) x.length i).length:Nat)),(66,aA k)])) ?_ ?_;refine cj 1 U ?_;have a1:=Wk.B a8 bh;have aN:=aV ao a8;have bQ:=aV aS a8;have bE:=I.trans<|a8.mono fun _ _ h=>h.elim;have ck:(cF x.length fun q=>if q=i then (jM (b.aq.getD 1 []) b.least x j i k).1 else ((jT (b.aq.getD 1 []) b.least x j) q).1)[i]? =some (jM (b.aq.getD 1 []) b.least x j i k).1:=by rw [jK _ ab,if_pos rfl]
 have bx:(jM (b.aq.getD 1 []) b.least x j i<|k+1).1=if (jM (b.aq.getD 1 []) b.least x j i k).1=0∨((jT (b.aq.getD 1 []) b.least x j) q).1 +1≤(jM (b.aq.getD 1 []) b.least x j i k).1 then ((jT (b.aq.getD 1 []) b.least x j) q).1 +1 else (jM (b.aq.getD 1 []) b.least x j i k).1:=by rw [ac]; unfold fV; rw [if_neg bi]
 refine aG 4 U<|p (aw U<|a1.aK 1)<|aj 1 U<|p (bc cn U U ab<|U)<|p (aw U<|eK (bB aN).2 cm)<|p (bF<|((jT (b.aq.getD 1 []) b.least x j) q).1 +1)<|aj 8 U<|p (aw U<|a1.aK 1)<|aj 1 U<|p (bc cn U U ab<|U)<|p (aw U<|eK (bB aN).2 ck)<|aj 2 U<|gs (t:=108) U (fun dd=> ?_) fun dd=> ?_;refine aj 17 U<|p (aw U<|a1.aK 1)<|aj 2 U<|p (bc cn U U ab<|U)<|e<|jc (j:=i) (u:=nv<|((jT (b.aq.getD 1 []) b.least x j) q).1 +1) aN cI U U U (by simp [fo]) ab fun dK aY a2=> ?_;rw [jQ.symm,sX,wX] at a2;have bA:=bE.trans<|aY.mono fun k _ h=> .inl<|fc h;exact ax 1 U<|tn<|⟨(),(by rw [bx,if_pos ab]; exact a2),(bI bQ aY fun k A h=>by have :=fc A; have :=fc h; omega),bA,bi,U⟩
 refine aj 4 U<|bC U (aw U<|a1.aK 1)<|aj 1 U<|bC U (bc cn U U ab<|U)<|bC U (aw U<|eK (bB aN).2 ck)<|aJ 4 U<|cd U (fun da=> ?_) fun da=> ?_;refine aG 4 U<|p (aw U<|a1.aK 1)<|aj 2 U<|p (bc cn U U ab<|U)<|e<|jc (j:=i) (u:=nv<|((jT (b.aq.getD 1 []) b.least x j) q).1 +1) aN cI U U U (by simp [fo]) ab fun dK aY a2=> ?_;rw [jQ.symm,sX,wX] at a2;have bA:=bE.trans<|aY.mono fun k _ h=> .inl<|fc h;exact ax 1 U<|tn<|⟨(),(by rw [bx,if_pos ab]; exact a2),(bI bQ aY fun k A h=>by have :=fc A; have :=fc h; omega),bA,bi,U⟩
 exact aH 1 U<|tn<|⟨(),(by rw [bx,if_neg ab]; exact aN),bQ,bE,bi,U⟩
 rintro cG a3 ⟨dJ,dq,bR,b6,di,dw⟩;refine bK dw ?_;have c3:(jM (b.aq.getD 1 []) b.least x j i<|k+1).2=min ((jM (b.aq.getD 1 []) b.least x j i k).2 +((jT (b.aq.getD 1 []) b.least x j) q).2) (gd+1):=by rw [ac]; unfold fV; rw [if_neg di]
 have dl:bd .i64 (min ((((jM (b.aq.getD 1 []) b.least x j i k).2 +((jT (b.aq.getD 1 []) b.least x j) q).2:Nat)):Int) 1099511627777)=nv (min ((jM (b.aq.getD 1 []) b.least x j i k).2 +((jT (b.aq.getD 1 []) b.least x j) q).2)<|gd+1):=iv ab;have bJ:=b6.B bf fun h=>by omega
 have dz:(cF x.length fun q=>if q=i then (jM (b.aq.getD 1 []) b.least x j i k).2 else ((jT (b.aq.getD 1 []) b.least x j) q).2)[i]? =some (jM (b.aq.getD 1 []) b.least x j i k).2:=by rw [jK _ ab,if_pos rfl]
 have dB:(cF x.length fun q=>if q=i then (jM (b.aq.getD 1 []) b.least x j i k).2 else ((jT (b.aq.getD 1 []) b.least x j) q).2)[q]? =some ((jT (b.aq.getD 1 []) b.least x j) q).2:=by rw [jK _ cx,if_neg ab]
 refine sx 22 fun E=>gu [0,1,2] U E<|jJ 3 U E (bJ.aK 2)<|gu [4,5,6,7] U E<|jJ 8 U E (bJ.aK 2)<|gu [9] U E<|lV 10 U (bc cn U U ab<|U) E<|jJ 11 U E (eK (bB bR).2 dz)<|gu [12,13,14] U E<|jJ 15 U E (bJ.aK 2)<|gu [16] U E<|lV 17 U (bc cn U U ab<|U) E<|jJ 18 U E (eK (bB bR).2 dB)<|lV 19 U (bF<|(jM (b.aq.getD 1 []) b.least x j i k).2 +((jT (b.aq.getD 1 []) b.least x j) q).2) E<|lV 20 U (mn U U) E<|gw 21 U ai<|je (bc cn U U ab<|U) ⟨E,?_⟩;refine kL 22 U ai ai<|jc (j:=i) (u:=nv<|min ((jM (b.aq.getD 1 []) b.least x j i k).2 +((jT (b.aq.getD 1 []) b.least x j) q).2)<|gd+1) (aV bR (Md.refl _ _).drew) cI U dl U (by simp [fo]) ab fun dL c2 bn=> ?_;rw [jQ.symm,sX,wX] at bn;have b4:Md (fun k=>k=M) a3 dL:=Md.cy<|c2.mono fun k _ h=>fc h;exact kM ai<|bl 6 U<|tn<|⟨_,ab,k+1,ab,(bI dq b4 fun k A h=>by have :=fc A; omega),(by rw [c3]; exact bn),(b6.trans<|b4.mono fun _ _ h=> .inr h),U,U⟩
 refine aH 2 U<|cr<|dh 3 U ?_;obtain rfl :k=(jE (az (b.aq.getD 1 []) b.least x) x.length i).length:=ab;have bh:=I.B bf fun h=>by omega
 have cS:=I.B cP fun h=>by omega
 have cW:Wk w au:=cU.trans' I fun k A h=>by omega
 have dm:=bI cq I fun k A h=>by have :=fc A; omega
 have bp:=bI bo I fun k A h=>by have :=(cw bo A).1; omega
 rw [AP fL bm rfl] at ao;rw [AP nV bm rfl] at aS;have c0:=cX.md I (fun k A hb cur z=>by
  rcases A with rfl | rfl;exact ⟨gy bO aE _ rfl cur z,gy bO aE _ rfl cur z⟩;exact ⟨gy bP aE _ rfl cur z,gy bP aE _ rfl cur z⟩)
 have d2:=aM.1;have c5:∀ J,x.length - (j+1)≤J→J < x.length→ba au Z.heap.size 3 1 ((aD.set i<|.slice aa (jE (az (b.aq.getD 1 []) b.least x) x.length i).length eV).getD J .nilFunc) (jE (az (b.aq.getD 1 []) b.least x) x.length J).length ((jE (az (b.aq.getD 1 []) b.least x) x.length J).map nv):=fun J h1 bZ=>by
  by_cases h:J=i;subst h;rw [ov ab]; exact bp;rw [qa ab];have br:=ce J ab bZ;exact bI (bI br ak fun k A h=>by have :=(cw br A).1; omega) I fun k A h=>by have :=(cw br A).1; omega
 exact aH 5 U<|tn<|⟨_,ab,j+1,(i:Int) - 1,aD.set i (.slice aa (jE (az (b.aq.getD 1 []) b.least x) x.length i).length eV),ab,ab,bh,cS,c0,dm,c5,ao,aS,cW,(by have :=I.size; omega),U,U⟩
 refine aH 2 U<|cr<|bl 9 U<|aP U ?_;obtain rfl :j=x.length:=ab;exact ⟨⟨ae,U,V,O,M,aD,bH,ab,aM,fun i hi=>j9 (ce i ab hi) b2.size,ct,cu⟩,b0⟩
end Go.Hb
end
