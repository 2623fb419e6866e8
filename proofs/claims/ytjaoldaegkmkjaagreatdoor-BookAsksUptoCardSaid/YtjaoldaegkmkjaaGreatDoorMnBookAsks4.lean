/-
  Walks and plain laws that the law rests on, laid together. No conditions but those that each theorem names.
-/
import Derived.Test.YtjaoldaegkmkjaaGreatDoorMnBookAsks3
set_option linter.unusedVariables false
set_option maxRecDepth 20000
set_option maxHeartbeats 1000000
open Array renaming getElem?_eq_some_iff→eM
open BitVec renaming ofInt→gH,ofInt_natCast→C6,toNat_ofNat→C7
open Bool renaming and_eq_true→bg,noConfusion→cQ
open Classical renaming not_not→qG
open Go renaming Addr→aZ,Operand→aY,Program→av,TypeId→au,Value→ag,World→ai
open Go.IntKind renaming u64→m6,u8→oR
open Go.Proofs.Tryz renaming prog→ar
open Go.Value renaming bool→bG,int→aT,oneCell'→jx,ownBlock→eU,pointer→tw,slice→bZ,tuple→iR
open Go.World renaming ownsRow→cy,ownsRow_nil→fF
open Int renaming toNat_natCast→j0
open List renaming all_cons→DJ,all_nil→DK,drop_eq_nil_of_le→DN,drop_take→x8,eq_nil_of_length_eq_zero→kH,filter_append→tA,getD_cons_succ→DR,getD_cons_zero→tB,getD_eq_getElem?_getD→b9,getElem?_append_left→ey,getElem?_append_right→ez,getElem?_eq_getElem→bK,getElem?_eq_some_iff→cI,getElem?_map→fG,getElem?_set→oY,length→oZ,length_append→bL,length_cons→dx,length_drop→gM,length_eq_zero_iff→tF,length_nil→iU,length_set→im,length_take→cN,map_replicate→tG,mem_cons→fQ,mem_cons_of_mem→kK,mem_cons_self→kL,mem_of_getElem?→gn,nil_append→o8,range_succ→D0,replicate→cJ,take_length→na,take_of_length_le→fR,take_zero→qP,toArray→bD
open Nat renaming add_sub_cancel_left→D6,add_zero→jy,beq→aM,blt→aF,eq_of_beq_eq_true→bO,le_refl→aV,le_trans→cX,lt_or_ge→dk,min_eq_left→Ec,mod_eq_of_lt→yf,mul_comm→qS,mul_le_mul_left→yg,mul_le_mul_right→kN,pow_le_pow_right→qT,sub_self→tN,zero_add→cK
open Option renaming isSome_iff_exists→lT
open Option.some renaming inj→gN
open Prod renaming fst→gp
open UInt8 renaming toNat_inj→jz,toNat_lt→lU
open Go.Proofs.Tryz
open Go.RowKit Go.Proofs

section
namespace Go.Hb
def zC:Ck→Ck→Bool
 | .a,.a=>true
 | .z,.z=>true
 | .x,.x=>true
 | _,_=>false
def rz:List (AV×AV)→List (AV×AV)→Bool
 | [],[]=>true
 | p::l,q::m=>cond (eu p.1 q.1 && eu p.2 q.2) (rz l m) false
 | _,_=>false
def uC:AO→AO→Bool
 | .cells l e fz ex,.cells l' e' fz' ex'=>(aM e e' && aM fz fz') && (zC ex ex' && je l l')
 | .map l,.map m=>rz l m
 | _,_=>false
theorem Gl:∀ {c d:Ck},zC c d=true→c=d
 | .a,.a,_ | .z,.z,_ | .x,.x,_=>rfl
theorem zB:∀ {a b:List (AV×AV)},rz a b=true→a=b
 | [],[],_=>rfl
 | p::l,q::m,h=>by
   unfold rz at h;cases hk:(eu p.1 q.1 && eu p.2 q.2)
   · rw [hk] at h; cases h
   · rw [hk] at h;simp only [bg] at hk;rw [zB h,Prod.ext (nB hk.1) (nB hk.2)]
theorem Gk {a b:AO} (h:uC a b=true):a=b:=by
 unfold uC at h;split at h
 · simp only [bg] at h;rw [bO h.1.1,bO h.1.2,Gl h.2.1,mc h.2.2]
 · rw [zB h]
 · cases h
def ic:Tr AO→Tr AO→Bool
 | .nil,_=>true
 | .nd l none r,.nil=>ic l .nil && ic r .nil
 | .nd _ (some _) _,.nil=>false
 | .nd l none r,.nd l' _ r'=>ic l l' && ic r r'
 | .nd l (some o) r,.nd l' (some o') r'=>uC o o' && (ic l l' && ic r r')
 | .nd _ (some _) _,.nd _ none _=>false
theorem kz:∀ {a b:Tr AO},ic a b=true→∀ {i:Nat} {o:AO},a.get i=some o→b.get i=some o
 | .nil,_,_,i,o,hi=>by rw [Tr.get_nil] at hi; cases hi
 | .nd l none r,.nil,h,i,o,hi=>by
   simp only [ic,bg] at h;cases i with
   | zero=>simp [Tr.get] at hi
   | succ n=>
     simp only [Tr.get] at hi;cases hb:aM (n % 2) 0
     · rw [hb] at hi; have :=kz h.2 hi; rw [Tr.get_nil] at this; cases this
     · rw [hb] at hi; have :=kz h.1 hi; rw [Tr.get_nil] at this; cases this
 | .nd l none r,.nd l' v' r',h,i,o,hi=>by
   simp only [ic,bg] at h;cases i with
   | zero=>simp [Tr.get] at hi
   | succ n=>
     simp only [Tr.get] at hi ⊢;cases hb:aM (n % 2) 0
     · rw [hb] at hi; exact kz h.2 hi
     · rw [hb] at hi; exact kz h.1 hi
 | .nd l (some u) r,.nd l' (some u') r',h,i,o,hi=>by
   simp only [ic,bg] at h;cases i with
   | zero=>
     simp only [Tr.get] at hi ⊢;rw [← Gk h.1]; exact hi
   | succ n=>
     simp only [Tr.get] at hi ⊢;cases hb:aM (n % 2) 0
     · rw [hb] at hi; exact kz h.2.2 hi
     · rw [hb] at hi; exact kz h.2.1 hi
def Tr.lf {α:Type} :Tr α→Tr α
 | .nil=> .nil
 | .nd l _ _=>l
def Tr.rt {α:Type} :Tr α→Tr α
 | .nil=> .nil
 | .nd _ _ r=>r
def Tr.vl {α:Type} :Tr α→Option α
 | .nil=>none
 | .nd _ v _=>v
theorem Tr.z9 {α:Type} (t:Tr α):t.get 0=t.vl:=by cases t <;> rfl
theorem Tr.u5 {α:Type} (t:Tr α) (n:Nat):t.get (n+1)=cond (aM (n % 2) 0) (t.lf.get<|n / 2) (t.rt.get<|n / 2):=by
 cases t
 · simp only [Tr.lf,Tr.rt,Tr.get_nil]; cases aM (n % 2) 0 <;> rfl
 · rfl
def pX (v b c:Option AO):Option AO:=match c with
 | some o=>some o
 | none=>match b with
   | some _=>none
   | none=>v
def ly:Tr AO→Tr AO→Tr AO→Tr AO
 | .nil,_,c=>c
 | .nd l v r,b,c=> .nd (ly l b.lf c.lf) (pX v b.vl c.vl)<|ly r b.rt c.rt
theorem vG:∀ (a b c:Tr AO) (i:Nat),(∀ o,b.get i=some o→a.get i=some o)→(ly a b c).get i=pX (a.get i) (b.get i) (c.get i)
 | .nil,b,c,i,hb=>by
   have :b.get i=none:=by
    cases hx:b.get i with
    | none=>rfl
    | some o=>have :=hb o hx; rw [Tr.get_nil] at this; cases this
   rw [Tr.get_nil,this];show c.get i=_;unfold pX;cases c.get i <;> rfl
 | .nd l v r,b,c,0,_=>by
   rw [Tr.z9 b,Tr.z9 c]; rfl
 | .nd l v r,b,c,n+1,hb=>by
   rw [Tr.u5 b,Tr.u5 c];rw [Tr.u5 b] at hb;show cond (aM (n % 2) 0) ((ly l b.lf c.lf).get<|n / 2) ((ly r b.rt c.rt).get<|n / 2)=pX (cond (aM (n % 2) 0) (l.get<|n / 2)<|r.get<|n / 2) _ _;have A:∀ o,cond (aM (n % 2) 0) (b.lf.get<|n / 2) (b.rt.get<|n / 2)=some o→cond (aM (n % 2) 0) (l.get<|n / 2) (r.get<|n / 2)=some o:=hb;cases hn:aM (n % 2) 0
   · rw [hn] at A; exact vG r b.rt c.rt _ A
   · rw [hn] at A; exact vG l b.lf c.lf _ A
def dD:List (Nat×AO)→Tr AO
 | []=> .nil
 | p::l=>(dD l).set p.1 p.2
section
variable {P:av} {G:Nat} {X:Xt} {T:Nat} {r:Rn} {h h0 h1 h':Hp} {w:ai}
theorem HR.less (hr:HR P G r T h w) (A:∀ i o,h0.t.get i=some o→h.t.get i=some o) (hn:h0.nx=h.nx):HR P G r T h0 w:=
 ⟨fun i o hi=>hr.live i o (A i o hi),fun i j o C q q' hi E=>hr.inj i j o C q q' (A i o hi) (A j C E),fun i hi=>hr.new i U,hr.eG,by rw [hn]; exact hr.base⟩
theorem Fr.less {g k:Nat} (I:∀ i o,h0.t.get i=some o→h.t.get i=some o) (E:Fr g r h0 k):Fr g r h k:=by
 obtain ⟨i,o,q,h1,A,C⟩:=E;exact ⟨i,o,q,h1,I i o A,C⟩
theorem iX.less {f:Nat} {args:List AV} {v:AV} (A:iX P G f args h0 v h') (C:∀ i o,h1.t.get i=some o→h'.t.get i=some o) (hn:h1.nx=h'.nx):iX P G f args h0 v h1:=by
 obtain ⟨n,A⟩:=A;refine ⟨U,fun T r w L hT hr E=>(A T r w L U hr E).mono fun u w' hu=> ?_⟩;obtain ⟨r',I,st⟩:=hu;exact ⟨r',I,st.le,st.hr.less C hn,U,st.md,fun g hg k M J=>st.dH g hg k M (J.less C),fun i hi=>st.out i U⟩
theorem iX.more {f:Nat} {args:List AV} {v:AV} {ad:Hp} (am:iX P G f args ad v h1) (ai:∀ i o,ad.t.get i=some o→h.t.get i=some o) (aJ:∀ i o,h0.t.get i=some o→h.t.get i=some o) (aw:∀ i,h0.t.get i=none→ad.t.get i=none∨i < G) (hn:h.nx=ad.nx):iX P G f args h v ⟨ly h.t h0.t h1.t,h1.nx⟩:=by
 obtain ⟨n,am⟩:=am;refine ⟨by show h.nx≤h1.nx; omega,fun T r w L hT hr aF=>(am T r w L hT (hr.less ai hn.symm) aF).mono fun u w' hu=> ?_⟩;obtain ⟨r',aG,st⟩:=hu;have ae:∀ {i o},(ly h.t h0.t h1.t).get i=some o→h1.t.get i=some o∨(h.t.get i=some o∧h0.t.get i=none):=fun {i o} hi=>by
  rw [vG _ _ _ _ (fun o=>aJ i o)] at hi;unfold pX at hi;split at hi
  · rename_i A; rw [A]; exact .inl hi
  · split at hi
    · cases hi
    · rename_i A C; exact .inr ⟨hi,C⟩
 have aj:∀ {i o},h.t.get i=some o→h0.t.get i=none→∃ q,r i=some q∧q.ax < w.heap.size∧OR P r q o w.heap[q.ax]?∧¬Fr G r ad q.ax:=fun {i o} hi A=>by
  obtain ⟨q,ah,ap⟩:=hr.live i o hi;refine ⟨q,ah,hr.lt hi ah,ap,fun ⟨i2,aq,ab,ak,E,J,V⟩=> ?_⟩;have :=hr.inj i2 i aq o ab q (ai _ _ E) hi J ah V;subst this;rcases aw _ A with C | C
  · rw [C] at E; cases E
  · omega
 refine ⟨r',aG,st.le,⟨fun i o hi=> ?_,fun i j o Z q q' hi ag I E he=> ?_,fun i hi=>st.hr.new i hi,st.hr.eG,st.hr.base⟩,by show h.nx≤h1.nx; omega,st.md.mono fun k _ an=>an.less ai,fun g hg k aI an=> ?_,fun i hi=>st.out i hi⟩
 · rcases ae hi with A | ⟨A,C⟩
   · exact st.hr.live i o A
   · obtain ⟨q,ah,aP,ap,ao⟩:=aj A C;refine ⟨q,st.le _ _ ah,?_⟩;rw [st.md.eY _ aP ao];exact ap.le st.le
 · have aB:∀ {i j o Z q q'},h1.t.get i=some o→h.t.get j=some Z→h0.t.get j=none→r' i=some q→r' j=some q'→q.ax=q'.ax→i=j:=fun {i j o Z q q'} hi ag ay I E he=>by
    obtain ⟨ab,O,aP,_,ao⟩:=aj ag ay;have :=st.le _ _ O;rw [E] at this; cases this;by_cases az:j < G
    · by_cases aH:i < G
      · obtain ⟨m1,J⟩:=st.hr.eG i aH;obtain ⟨aK,V⟩:=st.hr.eG j az;rw [I] at J; cases J;rw [E] at V; cases V;exact he
      · exact absurd (st.dH G (aV _) q'.ax aP ⟨i,o,q,U,hi,I,he⟩) ao
    · obtain ⟨i2,aq,ab,_,J,V,aD⟩:=st.dH 0 (Nat.zero_le _) q'.ax aP ⟨i,o,q,Nat.zero_le _,hi,I,he⟩;have :=hr.inj i2 j aq Z ab q' (ai _ _ J) ag V O aD;subst this;rcases aw _ ay with C | C
      · rw [C] at J; cases J
      · exact absurd C az
   rcases ae hi with A | ⟨A,C⟩
   · rcases ae ag with M | ⟨M,al⟩
     · exact st.hr.inj i j o Z q q' A M I E he
     · exact aB A M al I E he
   · rcases ae ag with M | ⟨M,al⟩
     · exact (aB M A C E I he.symm).symm
     · obtain ⟨ab,O,_⟩:=aj A C;obtain ⟨aL,aA,_⟩:=aj M al;have ac:=st.le _ _ O;rw [I] at ac; cases ac;have ar:=st.le _ _ aA;rw [E] at ar; cases ar;exact hr.inj i j o Z q q' A M O aA he
 · obtain ⟨i,o,q,ak,aE,au,av⟩:=an;rcases ae aE with A | ⟨A,C⟩
   · exact (st.dH g hg k aI ⟨i,o,q,ak,A,au,av⟩).less ai
   · obtain ⟨ab,O,_⟩:=aj A C;have ac:=st.le _ _ O;rw [au] at ac; cases ac;exact ⟨i,o,q,ak,A,O,av⟩
def qi (G T:Nat) (E:Nat→Nat) (b:Tr AO):List Nat→Tr AO
 | []=>b
 | g::l=>(qi G T E b l).set g<|.cells [.eR T (.ptr (G+g) 0)] (E g) 0 .x
theorem Bq {E:Nat→Nat} {b:Tr AO} {i:Nat} :∀ {l:List Nat},(∀ g∈l,aF g bX=true)→(qi G T E b l).get i=if i∈l then some (.cells [.eR T (.ptr (G+i) 0)] (E i) 0 .x) else b.get i
 | [],_=>by simp [qi]
 | g::l,hl=>by
   simp only [qi];rw [Tr.kg _ _ _ _ (hl g kL),Bq (fun g hg=>hl g<|kK _ hg)];by_cases h1:i=g
   · subst h1; simp
   · simp [h1]
def sC (G T:Nat) (t:Tr AO):List Nat→Bool
 | []=>true
 | g::l=>match t.get g with
   | some (.cells [.eR t' (.ptr b 0)] _ 0 .x)=>cond ((aF g G && aF g bX) && (aM t' T && aM b (G+g))) (sC G T t l) false
   | _=>false
def pG (t:Tr AO) (g:Nat):Nat:=match t.get g with
 | some (.cells _ e _ _)=>e
 | _=>0
theorem By {t:Tr AO} :∀ {l:List Nat},sC G T t l=true→∀ g∈l,g < G∧aF g bX=true∧t.get g=some (.cells [.eR T (.ptr (G+g) 0)] (pG t g) 0 .x)
 | [],_,g,hg=>nomatch hg
 | a::l,h,g,hg=>by
   unfold sC at h;split at h
   · rename_i t' b e A;have h1:((aF a G && aF a bX) && (aM t' T && aM b (G+a)))=true :=by
      cases hx:((aF a G && aF a bX) && (aM t' T && aM b (G+a)))
      · rw [hx] at h; cases h
      · rfl
     rw [h1] at h;simp only [bg] at h1;rcases fQ.1 hg with rfl | C
     · obtain rfl :=bO h1.2.1;obtain rfl :=bO h1.2.2;refine ⟨cz.1 h1.1.1,h1.1.2,?_⟩;rw [A];simp only [pG,A]
     · exact By h g C
   · cases h
structure Mm where
 f:Nat
 args:List AV
 h0:Hp
 v:AV
 h1:Hp
def AF (G T:Nat) (S:List Nat) (m:Mm) (f:Nat) (args:List AV) (h:Hp):Option (AV×Hp):=cond (aM f m.f) (cond (je args m.args && (aM h.nx m.h0.nx && (ic m.h0.t h.t && sC G T h.t S))) (some (m.v,⟨ly h.t m.h0.t m.h1.t,m.h1.nx⟩)) none) none
def rV (G T:Nat) (S:List Nat) (f:Nat) (args:List AV) (h:Hp):List Mm→Option (AV×Hp)
 | []=>none
 | m::l=>match AF G T S m f args h with
   | some x=>some x
   | none=>rV G T S f args h l
def Mm.hp (G T:Nat) (S:List Nat) (m:Mm) (E:Nat→Nat):Hp:=⟨qi G T E m.h0.t S,m.h0.nx⟩
def Mm.Ok (P:av) (G T:Nat) (S:List Nat) (m:Mm):Prop :=(∀ E,iX P G m.f m.args (m.hp G T S E) m.v m.h1)∧∃ fn c,P.funcs[m.f]? =some fn∧fn.body=some c
variable {S:List Nat}
theorem vy:∀ {l:List Mm},(∀ m∈l,m.Ok P G T S)→∀ {f:Nat} {args:List AV} {v:AV},rV G T S f args h l=some (v,h')→iX P G f args h v h'∧∃ fn c,P.funcs[f]? =some fn∧fn.body=some c
 | [],_,f,args,v,hf=>by cases hf
 | m::l,hl,f,args,v,hf=>by
   unfold rV at hf;split at hf
   · rename_i x A;obtain rfl :=gN hf;unfold AF at A;replace A:=a0 A; obtain ⟨I,A⟩:=A;replace A:=a0 A; obtain ⟨C,A⟩:=A;cases A;simp only [bg] at C;obtain rfl :=bO I;obtain rfl :=mc C.1;obtain ⟨J,hb⟩:=hl m kL;have E:=By C.2.2.2;have hT:∀ i,(m.hp G T S<|pG h.t).t.get i=if i∈S then some (.cells [.eR T (.ptr (G+i) 0)] (pG h.t i) 0 .x) else m.h0.t.get i:=fun i=>Bq fun g hg=>(E g hg).2.1
     refine ⟨(J<|pG h.t).more (fun i o hi=> ?_) (fun i o hi=>kz C.2.2.1 hi) (fun i hi=> ?_) (bO C.2.1),hb⟩
     · rw [hT] at hi;split at hi
       · rename_i hm;rw [← hi]; exact (E i hm).2.2
       · exact kz C.2.2.1 hi
     · rw [hT];split
       · rename_i hm;exact .inr (E i hm).1
       · exact .inl hi
   · exact vy (fun m hm=>hl m<|kK _ hm) hf
def dF (P:av) (G:Nat) (X:Xt) (T:Nat) (S:List Nat) (M:List Mm):Nat→Tk→Rs
 | 0,_=> .no
 | n+1,.cl f args h=>match rV G T S f args h M with
   | some (v,h')=> .rv v h'
   | none=>eL P G X (dF P G X T S M n)<|.cl f args h
 | n+1,t=>eL P G X (dF P G X T S M n) t
theorem zN {M:List Mm} (E:∀ m∈M,m.Ok P G T S):∀ (k:Nat),(∀ f args h v h',dF P G X T S M k (.cl f args h)= .rv v h'→∃ fn c,P.funcs[f]? =some fn∧fn.body=some c)∧(∀ f args h v h',dF P G X T S M k (.df f args h)= .rv v h'→∃ fn c,P.funcs[f]? =some fn∧fn.body=some c)
 | 0=>⟨fun f args h v h' A=>(by cases A),fun f args h v h' A=>by cases A⟩
 | k+1=>by
   constructor
   · intro f args h v h' A;simp only [dF] at A;split at A
     · rename_i x I;exact (vy E I).2
     · simp only [eL] at A;split at A
       · rename_i fn C;split at A
         · rename_i c hb; exact ⟨fn,c,C,hb⟩
         · cases A
       · cases A
   · intro f args h v h' A;simp only [dF,eL] at A;split at A
     · rename_i fn C;split at A
       · rename_i c hb; exact ⟨fn,c,C,hb⟩
       · cases A
     · cases A
theorem uH {M:List Mm} (E:gQ P G X) (C:fJ P) (hm:P.follows .mixedOrders=true) (I:∀ m∈M,m.Ok P G T S):∀ k,Good P G (dF P G X T S M k)
 | 0=>fun t=>by cases t <;> trivial
 | k+1=>fun t=>by
   have A:=uH E C hm I k;obtain ⟨J,L⟩:=zN (P:=P) (G:=G) (X:=X) I k;cases t with
   | cd rd n c fr D h=>exact JX A E C (Gb A E C J hm) J rd n c fr D h
   | lp rd n c fr D h=>exact J0 A rd n c fr D h
   | cl f args h=>
     simp only [dF];split
     · rename_i x O;exact (vy I O).1
     · exact JY A C L f args h
   | yl l args h=>exact J1 A l args h
   | df f args h=>exact JZ A E C J f args h
def gE (v:AV) (h1:Hp):Rs→Bool
 | .rv u h=>eu u v && (aM h1.nx h.nx && ic h1.t h.t)
 | _=>false
theorem Mm.of {M:List Mm} {k:Nat} {m:Mm} (J:gQ P G X) (I:fJ P) (hm:P.follows .mixedOrders=true) (C:∀ q∈M,q.Ok P G T S) (he:∀ E,gE m.v m.h1 (dF P G X T S M k<|.cl m.f m.args<|m.hp G T S E)=true):m.Ok P G T S:=by
 have hr:∀ E,∃ u A,dF P G X T S M k (.cl m.f m.args<|m.hp G T S E)= .rv u A∧u=m.v∧m.h1.nx=A.nx∧ic m.h1.t A.t=true :=fun E=>by
  have he:=he E;unfold gE at he;split at he
  · rename_i u A hr;simp only [bg] at he;exact ⟨u,A,hr,nB he.1,bO he.2.1,he.2.2⟩
  · cases he
 refine ⟨fun E=> ?_,?_⟩
 · obtain ⟨u,A,hr,rfl,hn,L⟩:=hr E;have hg:=uH J I hm C k<|.cl m.f m.args<|m.hp G T S E;rw [hr] at hg;exact iX.less hg (fun i o hi=>kz L hi) hn
 · obtain ⟨u,A,hr,_⟩:=hr fun _=>0;exact (zN C k).1 _ _ _ _ _ hr
theorem gY:∀ q∈([]:List Mm),q.Ok P G T S:=fun _ h=>nomatch h
theorem iD {m:Mm} {l:List Mm} (h:m.Ok P G T S) (A:∀ q∈l,q.Ok P G T S):∀ q∈m::l,q.Ok P G T S:=fun q C=>by
 rcases fQ.1 C with rfl | h'
 · exact h
 · exact A q h'
theorem Gu {M:List Mm} {k f:Nat} {args:List AV} {h h':Hp} {v:AV} (E:gQ P G X) (A:fJ P) (hm:P.follows .mixedOrders=true) (C:∀ q∈M,q.Ok P G T S) (he:dF P G X T S M k (.cl f args h)= .rv v h'):iX P G f args h v h':=by
 have :=uH E A hm C k<|.cl f args h;rw [he] at this;exact this
end
end Go.Hb
end
section
namespace Go.Hb
def lj (P:av) (t:au):Bool:=match P.underlying t with
 | some (.interface _)=>true
 | _=>false
theorem lj.of {P:av} {t:au} (h:lj P t=true):∃ ms,P.underlying t=some (.interface ms):=by
 unfold lj at h;split at h
 · rename_i ms hm; exact ⟨ms,hm⟩
 · cases h
section
variable {P:av} {N:Fm} {σ:Nat→ag} {w:ai} {dst:Option Nat} {ty:au} {pos :String} {af:Array Edge} {g:Option (Nat×Bool)} {x y z:aY} {t t' d:au}
theorem zH (hu:lj P t=true):(Op.equal t .nilIface .nilIface).run P w= .ok true w:=by
 obtain ⟨ms,hm⟩:=lj.of hu;have h:∀ n,(Op.equalIn (n+1) t .nilIface .nilIface).run P w= .ok true w:=fun n=>by
  simp [Op.equalIn,bu hm]
 exact h 9999
theorem Gn (hu:lj P t=true) (A:ev N σ x= .nilIface):(execOp (ev N σ) ⟨dst,.binOp .eql t x (.const .nilIface) t',ty,pos,af,g⟩).run P w= .ok (.value<|.bool true) w:=by
 have C:ev N σ (.const .nilIface)= .nilIface:=rfl;have h:(binOp .eql t .nilIface .nilIface).run P w= .ok (.bool true) w:=by
  simp only [binOp]; simp [zH hu]
 simp [execOp,A,C,eqGuard,h]
theorem Ij (hu:lj P t=true) (A:ev N σ x= .nilIface):(execOp (ev N σ) ⟨dst,.binOp .neq t x (.const .nilIface) t',ty,pos,af,g⟩).run P w= .ok (.value<|.bool false) w:=by
 have C:ev N σ (.const .nilIface)= .nilIface:=rfl;have h:(binOp .neq t .nilIface .nilIface).run P w= .ok (.bool false) w:=by
  simp only [binOp]; simp [zH hu]
 simp [execOp,A,C,eqGuard,h]
end
end Go.Hb
end
section
namespace Go.Hb
section
variable {α:Type} {n:Nat} {base:Nat→α} {stp:Nat→(Nat→α)→α}
end
section
variable (pc:Nat→Nat→Bool) (n:Nat)
def bP (i k:Nat):Bool:=pc i k && !(decide (i=0) && decide (k=n))
end
section
variable {pc:Nat→Nat→Bool} {n:Nat}
end
section
variable {pc:Nat→Nat→Bool} {n i j:Nat} {T:Nat→Nat×Nat}
end
end Go.Hb
end
section
namespace Go.Hb
structure IR {X:Type} (enc:X→ag) (e:Nat) (w:ai) (B:Nat) (vs:List ag) (ls:List (List X)):Prop where
 len:vs.length=ls.length
 st:∀ (j:Nat) vj,vs[j]? =some vj→w.ownsRow B e 1 vj (ls.getD j []).length ((ls.getD j []).map enc)
 sep:∀ (j k:Nat) vj vk,j≠k→vs[j]? =some vj→vs[k]? =some vk→∀ q,vj.ownBlock=some q→vk.ownBlock≠some q
section
variable {X:Type} {enc:X→ag} {e:Nat} {w w':ai} {B:Nat} {vs:List ag} {ls:List (List X)}
theorem IR.wk (h:IR enc e w B vs ls) (hm:Wk w w'):IR enc e w' B vs ls:=⟨h.len,fun j C A=>bN (h.st j C A) hm,h.sep⟩
theorem IR.md {F:Nat→Prop} (h:IR enc e w B vs ls) (hm:Md F w w') (E:∀ (v:ag) n xs,w.ownsRow B e 1 v n xs→∀ q,v.ownBlock=some q→¬F q):IR enc e w' B vs ls:=
 ⟨h.len,fun j C A=>du (h.st j C A) hm (E _ _ _<|h.st j C A),h.sep⟩
theorem IR.nil:IR enc e w B [] []:=⟨rfl,fun j A h=>by simp at h,fun j k A C _ h=>by simp at h⟩
theorem IR.push (h:IR enc e w B vs ls):IR enc e w B (vs++ [.slice none 0 0]) (ls++ [[]]):=by
 have hg:∀ (j:Nat) A,(vs++ [bZ none 0 0])[j]? =some A→vs[j]? =some A∨(j=vs.length∧A= .slice none 0 0):=fun j A C=>by
  rw [List.getElem?_append] at C;split at C
  · exact .inl C
  · obtain ⟨h1,E⟩:=cI.1 C;simp only [List.length_singleton] at h1;simp only [List.getElem_singleton] at E;exact .inr ⟨U,E.symm⟩
 refine ⟨by rw [bL,bL,h.len]; rfl,fun j A C=> ?_,fun j k A I V C M q h1 E=> ?_⟩
 · rcases hg j A C with h1 | ⟨rfl,rfl⟩
   · have O:=(cI.1 h1).1;rw [b9,ey (by rw [← h.len]; exact O),← b9];exact h.st j A h1
   · rw [b9,ez (by rw [h.len]; exact aV _),h.len,tN];exact fF _ _ _ _
 · rcases hg j A C with J | ⟨rfl,rfl⟩
   · rcases hg k I M with L | ⟨rfl,rfl⟩
     · exact h.sep j k A I V J L q h1 E
     · simp [eU] at E
   · simp [eU] at h1
theorem IR.bo (h:IR enc e w B vs ls) {j:Nat} {I O:ag} {x:X} (Z:vs[j]? =some I) (ak:w'.ownsRow B e 1 O ((ls.getD j []).length+1) ((ls.getD j []).map enc++ [enc x])) (hm:Md (fun q=>I.ownBlock=some q) w w') (ad:∀ q,O.ownBlock=some q→I.ownBlock=some q∨w.heap.size≤q):
 IR enc e w' B (vs.set j O) (ls.set j<|ls.getD j []++ [x]):=by
 have ae:=(cI.1 Z).1;have hg:∀ (k:Nat) A,(vs.set j O)[k]? =some A→(k=j∧A=O)∨(k≠j∧vs[k]? =some A):=fun k A C=>by
  rw [oY] at C;by_cases e:j=k
  · rw [if_pos e,if_pos ae] at C;cases C; exact .inl ⟨e.symm,rfl⟩
  · rw [if_neg e] at C;exact .inr ⟨fun h=>e h.symm,C⟩
 refine ⟨by rw [im,im]; exact h.len,fun k A C=> ?_,fun k E A U M C ah q h1 V=> ?_⟩
 · rcases hg k A C with ⟨rfl,rfl⟩ | ⟨M,C⟩
   · rw [b9,oY,if_pos rfl,if_pos (by rw [← h.len]; exact ae),Option.getD_some,bL,List.map_append];exact ak
   · rw [b9,oY,if_neg (fun e=>M e.symm),← b9];exact du (h.st k A C) hm fun q al am=>h.sep k j A I M C Z q al am
 · rcases hg k A C with ⟨rfl,rfl⟩ | ⟨aj,ac⟩
   · rcases hg E U ah with ⟨rfl,rfl⟩ | ⟨ai,ab⟩
     · exact M J
     · rcases ad q h1 with L | L
       · exact h.sep k E I U (fun e=>ai e.symm) Z ab q L V
       · have :=(de (h.st E U ab) V).2; omega
   · rcases hg E U ah with ⟨rfl,rfl⟩ | ⟨ai,ab⟩
     · rcases ad q V with L | L
       · exact h.sep k E A I aj ac Z q h1 L
       · have :=(de (h.st k A ac) h1).2; omega
     · exact h.sep k E A U M ac ab q h1 V
theorem IR.get (h:IR enc e w B vs ls) {j:Nat} (I:j < vs.length):∃ A C,vs[j]? =some (.slice A (ls.getD j []).length C)∧aU w.heap A ((ls.getD j []).map enc):=by
 have h1:=bK I;obtain ⟨A,C,J,E,_⟩:=nZ<|h.st j _ h1;exact ⟨A,C,by rw [h1,J],E⟩
end
def dy (a:List aG) (i d:Nat):List Nat:=(List.range i).filter fun j=>bA a j==d
theorem En {a:List aG} (i:Nat):dy a (i+1) (bA a i)=dy a i (bA a i)++ [i]:=by
 unfold dy; rw [D0,tA]; simp
theorem Em {a:List aG} {i d:Nat} (h:bA a i≠d):dy a (i+1) d=dy a i d:=by
 unfold dy; rw [D0,tA]; simp [h]
theorem yh (a:List aG) (i d:Nat):(dy a i d).length≤i:=by
 unfold dy;have :=List.length_filter_le (fun j=>bA a j==d)<|List.range i;rw [List.length_range] at this; exact this
theorem qW {a:List aG} {i d j:Nat} :j∈dy a i d↔j < i∧bA a j=d:=by
 unfold dy; rw [List.mem_filter,List.mem_range,beq_iff_eq]
theorem El (a:List aG) (i d:Nat):(dy a i d).Nodup:=List.Nodup.sublist List.filter_sublist List.nodup_range
theorem Ek {a:List aG} {i m:Nat} (hi:bA a i < m):(cG m<|dy a i).set (bA a i) ((cG m<|dy a i).getD (bA a i) []++ [i])=cG m (dy a<|i+1):=by
 refine Cf ?_ fun j _ A=>Em fun e=>A e.symm;rw [En,b9,oH _ hi]; rfl
theorem sP {α:Type} {n i:Nat} (f:Nat→α) (d:α) (h:i < n):(cG n f).getD i d=f i:=by rw [b9,oH f h]; rfl
def CK (a:List aG) (f:Nat→Nat) (k j:Nat):Prop := ∀ i,i < a.length→f i=if bA a i < k∨(bA a i=k∧i∈(dy a a.length k).take j) then bT a i else 0
theorem CK.zero (a:List aG):CK a (fun _=>0) 0 0:=fun i hi=>by rw [if_neg (by simp)]
theorem CK.next {a:List aG} {f:Nat→Nat} {k j:Nat} (h:CK a f k j) (C:(dy a a.length k).length≤j):CK a f (k+1) 0:=fun i hi=>by
 rw [h i hi,fR C];by_cases h1:bA a i < k
 · rw [if_pos (.inl h1),if_pos (.inl U)]
 · by_cases A:bA a i=k
   · rw [if_pos (.inr ⟨A,qW.2 ⟨hi,A⟩⟩),if_pos (.inl U)]
   · rw [if_neg (fun h=>h.elim h1 fun h=>A h.1),if_neg (fun h=>h.elim (fun h=>by omega) fun h=>by simp at h)]
theorem CK.step {a:List aG} {f:Nat→Nat} {k j x:Nat} (h:CK a f k j) (A:(dy a a.length k)[j]? =some x):CK a (fun i=>if i=x then bT a x else f i) k (j+1):=fun i hi=>by
 have C:=(qW.1<|gn A).2;rw [qx A];show (if i=x then bT a x else f i)=_;by_cases e:i=x
 · subst e;rw [if_pos rfl,if_pos (.inr ⟨C,by simp⟩)]
 · rw [if_neg e,h i hi];have :(bA a i < k∨bA a i=k∧i∈(dy a a.length k).take j)↔(bA a i < k∨bA a i=k∧i∈(dy a a.length k).take j++ [x]):=by
    simp [e]
   by_cases h1:bA a i < k∨bA a i=k∧i∈(dy a a.length k).take j
   · rw [if_pos h1,if_pos (this.1 h1)]
   · rw [if_neg h1,if_neg (fun h=>h1<|this.2 h)]
theorem CK.at_ {a:List aG} {f:Nat→Nat} {k j x:Nat} (h:CK a f k j) (C:(dy a a.length k)[j]? =some x):f x=0:=by
 obtain ⟨h1,E⟩:=qW.1<|gn C;rw [h x h1,if_neg];rintro (A | ⟨_,A⟩)
 · omega
 · obtain ⟨I,rfl⟩:=cI.1 C;obtain ⟨i,hi,he⟩:=List.mem_iff_getElem.1 A;rw [cN] at hi;rw [List.getElem_take] at he;have :=(List.getElem_inj<|El a a.length k).1 he;omega
theorem CK.low {a:List aG} {f:Nat→Nat} {k j i:Nat} (h:CK a f k j) (hi:i < a.length) (A:bA a i < k):f i=bT a i:=by rw [h i hi,if_pos (.inl A)]
end Go.Hb
end
section
namespace Go.Hb
section
variable {P:av} {N:Fm} {σ:Nat→ag} {w:ai} {dst:Option Nat} {ty:au} {pos :String} {af:Array Edge} {g:Option (Nat×Bool)} {x y z:aY} {K:(Nat→ag)→ai→Prop}
theorem FG {t e bytes B n m c:Nat} {v:ag} {xs A:List ag} {a:Option aZ} (al:dL P t e 1 bytes=true) (ai:w.ownsRow B e 1 v n xs) (O:ev N σ x=v) (V:ev N σ y= .slice a m c)
 (ab:aU w.heap a A) (E:A.length=m) (hm:m≤n) (h1:A.all jx=true)
 (k:∀ w',Md (fun k=>v.ownBlock=some k) w w'→w'.ownsRow B e 1 v n (A++xs.drop m)→K (dd σ dst<|.int .i64 (m:Nat)) w'):
 bW P N ⟨dst,.call ⟨.builtin .copy,#[x,y],#[t,t]⟩,ty,pos,af,g⟩ σ w K:=by
 obtain ⟨hu,i,zv,hi,aq,aj,ao,ar,ap⟩:=oD al;have M:(P.info? e).map (·.size)=some 1:=by rw [hi]; exact congrArg some aj
 obtain ⟨h0,h⟩:=ai;rcases h with ⟨rfl,rfl⟩ | ⟨C,L,cur,rfl,Z,hg,hle,ac,ak,ad⟩
 · obtain rfl :m=0:=U;obtain rfl :A= []:=kH E;have I:=run_copy_none (P:=P) w t t ty e none a 0 0 0 c hu M<|by rfl
   refine ig (w':=w) (v:= .int .i64 (0:Nat)) ?_<|k w (Md.refl _ _) ⟨by simpa using h0,.inl ⟨J,J⟩⟩;simp [execOp,resolve,invoke,builtin,O,V,I,goInt]
 · by_cases ae:m=0
   · subst ae;obtain rfl :A= []:=kH E;have I:=run_copy_none (P:=P) w t t ty e (some ⟨C,0,none⟩) a n L 0 c hu M<|by simp
     refine ig (w':=w) (v:= .int .i64 (0:Nat)) ?_<|k w (Md.refl _ _) ⟨by simpa using h0,.inr ⟨C,L,cur,J,Z,hg,hle,ac,ak,by simpa using ad⟩⟩;simp [execOp,resolve,invoke,builtin,O,V,I,goInt]
   · have ha:=ab.ok fun e=>by rw [e] at E; simp at E; omega
     have an:∀ j u,A[j]? =some u→w.cell? ((⟨bk a,fo a,none⟩:aZ).add j)=some u:=fun j u hu=>by rw [dY,gR]; exact ab.az j u hu
     have I:=run_copy_row (P:=P) w t t ty e C 0 n L ⟨bk a,fo a,none⟩ m c cur e A hu M hg (by rw [E]; exact (Ec hm).symm) an U<|pq h1;have am:ev N σ y= .slice (some ⟨bk a,fo a,none⟩) m c:=V.trans<|congrArg (fun a=>bZ a m c) ha;refine ig (w':=w.setRow C (cur.toList.take 0 ++A++cur.toList.drop (0 +A.length)).toArray) (v:= .int .i64 (m:Nat)) ?_ (k _ ?_ ?_)
     · simp only [execOp,resolve,invoke,builtin,Sem.run_bind];simp [O,am,I,goInt,E]
     · exact ⟨J,J,by simp [World.setRow],fun q _ ah=>setRow_other w C q _ fun e=>ah<|by subst e; rfl⟩
     · refine ⟨?_,.inr ⟨C,L,_,J,Z,setRow_heap w C cur _ e _ hg,hle,ac,?_,?_⟩⟩
       · simp only [bL,gM]; omega
       · simp only [qP,o8,cK,List.size_toArray,bL,gM,Array.length_toList]; omega
       · simp only [qP,o8,cK];rw [← ad,List.take_append,x8,E,fR U,show n*1 - m=n*1 - m from rfl]
end
end Go.Hb
end
section
namespace Go.Hb
open Go Go.ChangeShapes
theorem Jl {P:av} {n:String} {W:ai} {g:Nat} {cs:Array ag} (hg:P.globalNamed n=some g) (A:W.var? P n=some cs):∃ e z,W.heap[g]? =some (.cells cs e z):=by
 unfold World.var? at A;rw [hg] at A;simp only [Option.bind_some] at A;split at A
 · rename_i c e z h;cases A;exact ⟨e,z,h⟩
 · cases A
theorem hZ {P:av} {n nm:String} {text:List UInt8} {r:List (String×DataW Unit)} {W:ai} {g:Nat} {J C te E:au} {ms:Array (String×au)} {f:Field}
 (h:laidMet P ((n,.iface nm (.ptr<|.agg [.lit (.string text)]))::r) W)
 (hg:P.globalNamed n=some g) (ae:(P.globals[g]?).map (·.type)=some J) (hi:P.underlying J=some (.interface ms)) (ac:∀ u,P.typeName? 3 u=some nm→u=C)
 (hp:P.underlying C=some (.pointer te)) (he:P.underlying te=some (.struct #[f])) (Z:f.type=E) (V:f.offset=0) (ad:P.underlying E=some .string) (M:P.cellsOf te=1) (U:P.cellsOf E=1):
 ∃ (a:aZ) (e:Nat),a.spot=none∧W.heap[g]? =some (.cells #[.iface C (.pointer<|some a)] e (0,0)):=by
 obtain ⟨a,s,I,O,_,_⟩:=laid_sentinel h hg ae hi ac hp he Z V ad M U;obtain ⟨e,z,hw⟩:=Jl hg I;obtain ⟨ps,⟨ak,t0,aj,f0,an,ao,ab,am,ag,al,_,L⟩,_,hrows⟩:=h;obtain rfl :=gN<|hg.symm.trans ab;subst L;have ah:=gN<|I.symm.trans ag;subst ah;obtain ⟨⟨c,t,A⟩,_⟩:=hrows g 0<|by simp [MemPlace.row]
 rw [hw] at A;simp only [Option.some.injEq,Obj.cells.injEq] at A;obtain ⟨_,_,rfl⟩:=A;exact ⟨a,e,World.cell?_spot O,hw⟩
theorem cT.nil {T:Nat} {w:ai} :cT T [] w:=fun g h=>by cases h
theorem cT.cons {T g:Nat} {l:List Nat} {w:ai} (h:∃ (a:aZ) (e:Nat),a.spot=none∧w.heap[g]? =some (.cells #[.iface T (.pointer<|some a)] e (0,0))) (C:cT T l w):cT T (g::l) w:=fun k A=>by
 rcases fQ.1 A with rfl | A
 · exact h
 · exact C k A
theorem cT.sub {T:Nat} {l m:List Nat} {w:ai} (h:cT T l w) (A:∀ g∈m,g∈l):cT T m w:=fun g hg=>h g<|A g hg
end Go.Hb
end
section
namespace Go.Hb
abbrev aD (n:Nat):ag:= .int .i64 (n:Nat)
abbrev aR (b:Nat):ag:= .pointer<|some ⟨b,0,none⟩
variable {P:av} {N:Fm} {ops:Array Oper} {Q:Exit→(Nat→ag)→ai→Prop} {σ:Nat→ag} {w:ai} {S:ai→Prop} {r fuel:Nat} {listed:Array Bool} {d:Nat} {op:Op} {ty:au} {pos :String} {af:Array Edge} {v:ag}
theorem pP (i:Nat) (hi:ops[i]? =some ⟨some d,op,ty,pos,af,none⟩) (E:∀ w,S w→(execOp (ev N σ) ⟨some d,op,ty,pos,af,none⟩).run P w= .ok (.value v) w) (A:S w) (k:cE P N ops Q S fuel (listed.setIfInBounds i true) (bo σ d v) w) (C:ee N.F ops listed i=true :=by kernel_rfl):cE P N ops Q S (fuel+1) listed σ w:=hp i hi C E A k
theorem Lt (i:Nat) (hi:ops[i]? =some ⟨some d,op,ty,pos,af,none⟩) (E:∀ w,S w→(execOp (ev N σ) ⟨some d,op,ty,pos,af,none⟩).run P w= .ok (.value v) w) (A:S w) (k:cD P N ops Q S r fuel (listed.setIfInBounds i true) (bo σ d v) w) (C:uT N.F ops listed r i=true :=by kernel_rfl):cD P N ops Q S r (fuel+1) listed σ w:=AA i hi C E A k
theorem Lv (i:Nat) (hi:ops[i]? =some ⟨some d,op,ty,pos,af,none⟩) (E:∀ w,(execOp (ev N σ) ⟨some d,op,ty,pos,af,none⟩).run P w= .ok (.value v) w) (A:listed.getD r false =false→S w) (k:cD P N ops Q S r fuel (listed.setIfInBounds i true) (bo σ d v) w) (C:mh N.F ops listed r i=true :=by kernel_rfl):cD P N ops Q S r (fuel+1) listed σ w:=pV i hi C E A k
theorem dr (i:Nat) (hi:ops[i]? =some ⟨some d,op,ty,pos,af,none⟩) (E:∀ {w},(execOp (ev N σ) ⟨some d,op,ty,pos,af,none⟩).run P w= .ok (.value v) w) (A:S w) (k:cE P N ops Q S fuel (listed.setIfInBounds i true) (bo σ d v) w) (C:ee N.F ops listed i=true :=by kernel_rfl):cE P N ops Q S (fuel+1) listed σ w:=hp i hi C (fun _ _=>E) A k
theorem fX (i:Nat) (hi:ops[i]? =some ⟨some d,op,ty,pos,af,none⟩) (E:∀ {w},(execOp (ev N σ) ⟨some d,op,ty,pos,af,none⟩).run P w= .ok (.value v) w) (A:S w) (k:cD P N ops Q S r fuel (listed.setIfInBounds i true) (bo σ d v) w) (C:pM N.F ops listed r i=true :=by kernel_rfl):cD P N ops Q S r (fuel+1) listed σ w:=lq i hi C (fun _ _=>E) A k
theorem Lu (i:Nat) (hi:ops[i]? =some ⟨some d,op,ty,pos,af,none⟩) (E:∀ {w},(execOp (ev N σ) ⟨some d,op,ty,pos,af,none⟩).run P w= .ok (.value v) w) (A:S w) (k:cD P N ops Q S r fuel (listed.setIfInBounds i true) (bo σ d v) w) (C:mh N.F ops listed r i=true :=by kernel_rfl):cD P N ops Q S r (fuel+1) listed σ w:=pV i hi C (fun _=>E) (fun _=>A) k
theorem jG {x:aY} (i:Nat) (hi:ops[i]? =some ⟨some d,.move x,ty,pos,af,none⟩) (v:ag) (A:S w) (k:cE P N ops Q S fuel (listed.setIfInBounds i true) (bo σ d v) w) (E:ev N σ x=v:=by exact J) (C:ee N.F ops listed i=true :=by kernel_rfl):cE P N ops Q S (fuel+1) listed σ w:=hp i hi C (fun _ _=>rZ v E) A k
theorem Lr {x:aY} (i:Nat) (hi:ops[i]? =some ⟨some d,.move x,ty,pos,af,none⟩) (v:ag) (A:S w) (k:cD P N ops Q S r fuel (listed.setIfInBounds i true) (bo σ d v) w) (E:ev N σ x=v:=by exact J) (C:mh N.F ops listed r i=true :=by kernel_rfl):cD P N ops Q S r (fuel+1) listed σ w:=pV i hi C (fun _=>rZ v E) (fun _=>A) k
theorem kS {P:av} {f:FuncId} {fn:Func} (A:P.funcs[f]? =some fn) (hn:(fn.name== "runtime.NumGoroutine")=false :=by kernel_rfl) (hb:fn.body.isNone=false :=by kernel_rfl):fT P f:=ug A hn hb
section
variable {rest:List Oper} {x:aY} {K:(Nat→ag)→ai→Prop} {l:List Oper} {id:Nat} {y z:Code} {j t:Nat} {want b:Bool} {fn:Func} {R:ag→ai→Prop}
theorem LA (h:∀ {K:(Nat→ag)→ai→Prop},(∀ {σ w},bE P N y Q σ w→gG K Q .normal σ w)→bE P N z (gG K Q) σ w):bE P N (.seq z y) Q σ w:=sq fun K A=>h fun hw=>A _ _ hw
theorem LB (h:∀ {K:(Nat→ag)→ai→Prop},(∀ {σ w},bE P N y Q σ w→gG K Q .normal σ w)→bR P N l.toArray (gG K Q) l σ w) (hr:kq N.r l=true :=by exact J):bE P N (.seq (.region id l.toArray false) y) Q σ w:=sq fun K A=>rg hr<|h fun hw=>A _ _ hw
theorem Lp (h:Q .normal (bo σ d<|ev N σ x) w):bR P N ops Q [⟨some d,.assign x,ty,pos,af,none⟩] σ w:=p aQ<|nl h
theorem cw {id:Nat} (h:Q (.exit id) σ w):gG K Q (.exit id) σ w:=h
theorem Ly (h:(dC ops j,aF t N.n,σ t,b==want)=(some t,true,.bool b,false)) (k:bR P N ops Q rest (bo σ d undef) w):bR P N ops Q (⟨some d,op,ty,pos,af,some (j,want)⟩::rest) σ w:=sk (congrArg gp h) (congrArg (·.2.1) h) (congrArg (·.2.2.1) h) (congrArg (·.2.2.2) h) k
theorem Lz (h:(dC ops j,aF t N.n,σ t)=(some t,true,undef)) (k:bR P N ops Q rest (bo σ d undef) w):bR P N ops Q (⟨some d,op,ty,pos,af,some (j,want)⟩::rest) σ w:=BL (congrArg gp h) (congrArg (·.2.1) h) (congrArg (·.2.2) h) k
theorem bB (h:(dC ops j,aF t N.n,σ t)=(some t,true,.bool want)) (A:(execOp (ev N σ) ⟨some d,op,ty,pos,af,some (j,want)⟩).run P w= .ok (.value v) w) (k:bR P N ops Q rest (bo σ d v) w):bR P N ops Q (⟨some d,op,ty,pos,af,some (j,want)⟩::rest) σ w:=pg (congrArg gp h) (congrArg (·.2.1) h) (congrArg (·.2.2) h) A k
theorem Lq (i:Nat) (h:(ops[i]?,dC ops j,aF t N.n,σ t,b==want)=(some ⟨some d,op,ty,pos,af,some (j,want)⟩,some t,true,.bool b,false)) (A:S w) (k:cE P N ops Q S fuel (listed.setIfInBounds i true) (bo σ d undef) w) (C:ee N.F ops listed i=true :=by kernel_rfl):cE P N ops Q S (fuel+1) listed σ w:=jH i (congrArg gp h) C (congrArg (·.2.1) h) (congrArg (·.2.2.1) h) (congrArg (·.2.2.2.1) h) (congrArg (·.2.2.2.2) h) A k
theorem eX (i:Nat) (h:(ops[i]?,dC ops j,aF t N.n,σ t)=(some ⟨some d,op,ty,pos,af,some (j,want)⟩,some t,true,.bool want)) (E:∀ w,S w→(execOp (ev N σ) ⟨some d,op,ty,pos,af,some (j,want)⟩).run P w= .ok (.value v) w) (A:S w) (k:cE P N ops Q S fuel (listed.setIfInBounds i true) (bo σ d v) w) (C:ee N.F ops listed i=true :=by kernel_rfl):cE P N ops Q S (fuel+1) listed σ w:=Ac i (congrArg gp h) C (congrArg (·.2.1) h) (congrArg (·.2.2.1) h) (congrArg (·.2.2.2) h) E A k
theorem aO (h:(fn.results,ev N σ (.tmp t))=(#[.tmp t],v)) (A:R v w):fin P fn N R .ret σ w:=f1 (congrArg gp h) (congrArg Prod.snd h) A
theorem Lx (v:ag) (h:bR P N ops Q rest (bo σ d v) w) (A:ev N σ x=v:=by exact J):bR P N ops Q (⟨some d,.move x,ty,pos,af,none⟩::rest) σ w:=p (rZ v A) h
end
end Go.Hb
end
namespace Go.Hb.ei
theorem qZ:cZ ar 103=some (some 2):=aq
theorem nn:cZ ar 31=some (some 7):=aq
theorem yn:cZ ar 35=some none:=aq
theorem po:cZ ar 42=some (some 7):=aq
theorem EB:cZ ar 60=some (some 2):=aq
theorem yo:cZ ar 63=some (some 2):=aq
theorem q6:cZ ar 65=some (some 2):=aq
theorem EC:cZ ar 77=some (some 2):=aq
theorem ED:cZ ar 83=some (some 5):=aq
theorem yp:cZ ar 93=some (some 2):=aq
theorem yB:j5 ar 233=some (256,1):=aq
theorem ua:j5 ar 29=some (4,1):=aq
theorem yC:j5 ar 40=some (4,1):=aq
theorem q9:l5 ar 162 5 9=true :=aq
theorem yJ:fT ar 129:=kS func129
theorem E8:fT ar 40:=kS func40
theorem ns:fT ar 41:=kS func41
theorem ue:fT ar 42:=kS func42
theorem jb:fT ar 43:=kS func43
theorem pB:fT ar 45:=kS func45
theorem E9:fT ar 60:=kS func60
theorem yK:fT ar 67:=kS func67
theorem yW:∀ v w,(callFunc 174 #[v]).run ar w= .ok (.value v) w:=fun v w=>aq
theorem rj:cr ar 103=some 2:=aq
theorem uu:cr ar 162=some 1:=aq
theorem FI:cr ar 218=some 1:=aq
theorem FJ:cr ar 27=some 1:=aq
theorem FK:cr ar 28=some 1:=aq
theorem di:cr ar 3=some 1:=aq
theorem FL:cr ar 300=some 1:=aq
theorem l8:cr ar 31=some 7:=aq
theorem uv:cr ar 35=some 1:=aq
theorem FM:cr ar 38=some 1:=aq
theorem FN:cr ar 39=some 1:=aq
theorem yX:cr ar 4=some 1:=aq
theorem rl:cr ar 42=some 7:=aq
theorem FO:cr ar 45=some 1:=aq
theorem uw:cr ar 5=some 1:=aq
theorem yY:cr ar 55=some 1:=aq
theorem FP:cr ar 60=some 2:=aq
theorem FQ:cr ar 61=some 1:=aq
theorem yZ:cr ar 63=some 2:=aq
theorem ux:cr ar 65=some 2:=aq
theorem FR:cr ar 77=some 2:=aq
theorem FT:cr ar 83=some 5:=aq
theorem y7:cr ar 9=some 1:=aq
theorem FU:cr ar 91=some 1:=aq
theorem y8:cr ar 93=some 2:=aq
theorem rC:cV ar 102=some 1:=aq
theorem nD:cV ar 162=some 1:=aq
theorem zM:cV ar 172=some 1:=aq
theorem Gq:cV ar 27=some 2:=aq
theorem gC:cV ar 28=some 2:=aq
theorem Gr:cV ar 38=some 2:=aq
theorem kW:cV ar 39=some 2:=aq
theorem uF:cV ar 45=some 1:=aq
theorem dZ:cV ar 55=some 1:=aq
theorem nE:cV ar 61=some 2:=aq
theorem jE:cV ar 91=some 2:=aq
theorem Af:lj ar 24=true :=aq
theorem Hi:(ar.info? 220).isSome=true :=aq
theorem Ho:∀ (l:List UInt8) (c:UInt8) (w:ai),(callFunc 326 #[str l,.int .u8 c.toNat]).run ar w= .ok (.value<|.int .i64<|ki c l) w:=Jg func326 aq aq aq aq
theorem rY:jI ar 35=true :=aq
theorem IK:ptrTo ar 299 5=true :=aq
theorem BO:dL ar 102 55 1 24=true :=aq
theorem iL:dL ar 162 5 1 1=true :=aq
theorem JD:dL ar 172 4 1 1=true :=aq
theorem BP:dL ar 27 77 2 32=true :=aq
theorem BQ:dL ar 28 93 2 32=true :=aq
theorem BR:dL ar 38 60 2 32=true :=aq
theorem BS:dL ar 39 63 2 32=true :=aq
theorem oG:dL ar 45 9 1 16=true :=aq
theorem qq:dL ar 55 3 1 8=true :=aq
theorem BT:dL ar 61 65 2 16=true :=aq
theorem BU:dL ar 91 103 2 16=true :=aq
theorem xe:ef ar 103=some ([(0,1),(1,1)],[.int .u8 0,.int .i64 0]):=aq
theorem JG:ef ar 108=some ([(0,1),(1,1)],[.string ⟨⟨[]⟩⟩,.int .i64 0]):=aq
theorem JH:ef ar 164=some ([(0,1),(1,1),(2,1),(3,1)],[.slice none 0 0,.slice none 0 0,.slice none 0 0,.int .i64 0]):=aq
theorem JI:ef ar 174=some ([(0,1),(1,1),(2,1)],[.slice none 0 0,.int .i64 0,.slice none 0 0]):=aq
theorem JJ:ef ar 231=some ([(0,1),(1,1),(2,1)],[.slice none 0 0,.int .i64 0,.slice none 0 0]):=aq
theorem sK:ef ar 31=some ([(0,1),(1,1),(2,1),(3,4)],[.int .i64 0,.string ⟨⟨[]⟩⟩,.slice none 0 0,.slice none 0 0,.slice none 0 0,.slice none 0 0,.slice none 0 0]):=aq
theorem BV:ef ar 42=some ([(0,1),(1,1),(2,1),(3,4)],[.int .i64 0,.string ⟨⟨[]⟩⟩,.slice none 0 0,.slice none 0 0,.slice none 0 0,.slice none 0 0,.slice none 0 0]):=aq
theorem JK:ef ar 60=some ([(0,1),(1,1)],[.string ⟨⟨[]⟩⟩,.string ⟨⟨[]⟩⟩]):=aq
theorem JL:ef ar 63=some ([(0,1),(1,1)],[.bool false,.slice none 0 0]):=aq
theorem JM:ef ar 65=some ([(0,1),(1,1)],[.int .u8 0,.int .i64 0]):=aq
theorem JN:ef ar 70=some ([(0,7),(7,1)],[.int .i64 0,.string ⟨⟨[]⟩⟩,.slice none 0 0,.slice none 0 0,.slice none 0 0,.slice none 0 0,.slice none 0 0,.string ⟨⟨[]⟩⟩]):=aq
theorem JO:ef ar 73=some ([(0,1),(1,1),(2,1)],[.string ⟨⟨[]⟩⟩,.int .i64 0,.int .i64 0]):=aq
theorem JP:ef ar 77=some ([(0,1),(1,1)],[.string ⟨⟨[]⟩⟩,.string ⟨⟨[]⟩⟩]):=aq
theorem JQ:ef ar 83=some ([(0,1),(1,1),(2,1),(3,1),(4,1)],[.int .i64 0,.int .i64 0,.int .i64 0,.int .i64 0,.int .i64 0]):=aq
theorem JR:ef ar 93=some ([(0,1),(1,1)],[.bool false,.slice none 0 0]):=aq
theorem Cr:ar.underlying 218=some (.pointer 220):=aq
theorem sR:ar.underlying 22=some (.pointer 70):=aq
theorem u3:ar.underlying 3=some (.int .i64):=aq
theorem u4:ar.underlying 4=some (.bool):=aq
theorem oL:ar.underlying 74=some (.int .u64):=aq
theorem u9:ar.underlying 9=some (.string):=aq
theorem Cu:ar.underlying 94=some (.pointer 63):=aq
theorem Cw:mE ar 218 288 220 2=true :=aq
theorem xr:(ar.underlying 3).isSome=true :=aq
theorem xu:(ar.underlying 5).isSome=true :=aq
theorem lH:(ar.underlying 74).isSome=true :=aq
theorem wide:ar.follows .mixedOrders=true :=aq
theorem CQ:zeroOf ar 103=some (some [.int .u8 0,.int .i64 0]):=aq
theorem Ld:zeroOf ar 220=some (some [.pointer none,.slice none 0 0]):=aq
theorem Le:zeroOf ar 3=some (some [.int .i64 0]):=aq
theorem Lf:zeroOf ar 300=some (some [.nilFunc]):=aq
theorem sZ:zeroOf ar 31=some (some [.int .i64 0,.string ⟨⟨[]⟩⟩,.slice none 0 0,.slice none 0 0,.slice none 0 0,.slice none 0 0,.slice none 0 0]):=aq
theorem Lg:zeroOf ar 35=some (some [.int .i64 0]):=aq
theorem CR:zeroOf ar 42=some (some [.int .i64 0,.string ⟨⟨[]⟩⟩,.slice none 0 0,.slice none 0 0,.slice none 0 0,.slice none 0 0,.slice none 0 0]):=aq
theorem Lh:zeroOf ar 55=some (some [.slice none 0 0]):=aq
theorem Li:zeroOf ar 60=some (some [.string ⟨⟨[]⟩⟩,.string ⟨⟨[]⟩⟩]):=aq
theorem CS:zeroOf ar 63=some (some [.bool false,.slice none 0 0]):=aq
theorem xJ:zeroOf ar 65=some (some [.int .u8 0,.int .i64 0]):=aq
theorem Lj:zeroOf ar 77=some (some [.string ⟨⟨[]⟩⟩,.string ⟨⟨[]⟩⟩]):=aq
theorem Lk:zeroOf ar 83=some (some [.int .i64 0,.int .i64 0,.int .i64 0,.int .i64 0,.int .i64 0]):=aq
theorem CU:zeroOf ar 93=some (some [.bool false,.slice none 0 0]):=aq
theorem Ll:zeroOf ar 233=some (some<|cJ 256<|.bool false):=aq
theorem Lm:zeroV ar 35=some (.int .i64 0):=aq
end Go.Hb.ei
section
namespace Go.Hb
open Go.Hb.ei
theorem Fy (b:Nat) (A:Option aZ) (E:ag) (w:ai) (hb:w.heap[b]? =some (.cells [tw A,E].toArray 220 (0,0))) (hp:A=none∨A=some ⟨b,0,none⟩):
 bp ar 128 (bD [aR b]) w (fun v w'=>v= .tuple #[]∧w'.heap[b]? =some (.cells [tw (some ⟨b,0,none⟩),E].toArray 220 (0,0))∧Md (fun k=>k=b) w w'):=by
 refine enter func128 J ntmps128 J<|aW 5 J<|p (ay J<|(eo hb).trans J)<|p (rB Cr J J)<|aI 2 J<|cb J (fun C=> ?_) fun C=> ?_;obtain rfl :A=none:=by simpa using C
 exact aH 3 J<|p (Cn Cw J hb J)<|p (Fp yW J)<|p (z1 Cw J hb J)<|an 2 J<|e<|dT FI J J J hb (by simp) fun M L I=>aB 1 J<|f0 J<|⟨J,I,L⟩
 obtain rfl :A=some ⟨b,0,none⟩:=hp.resolve_left<|by rintro rfl; simp at C
 exact aH 5 J<|p (ay J<|(eo hb).trans J)<|an 1 J<|p (Ik Cr Hi J J)<|aB 4 J<|f0 J<|⟨J,hb,Md.refl _ _⟩
theorem K8 (b:Nat) (C:ag) (l:List UInt8) (c:UInt8) (w:ai) (hb:Bd 220 5 w b C l) (aD:l.length≤70368744177664):
 bp ar 90 (bD [aR b,.int .u8 c.toNat]) w (fun v w'=>v= .nilIface∧∃ M,Bd 220 5 w' b M (l++ [c])∧Md (BF b C) w w'∧∀ k,BF b M k→BF b C k∨w.heap.size≤k):=by
 obtain ⟨⟨av,ac,aq⟩,hown,hnil⟩:=hb;have aP:b < w.heap.size:=(eM.1 ac).1;have ad:∀ k,C.ownBlock=some k→k≠b∧k < w.heap.size:=fun k A=>by have :=hown.lt k A; exact ⟨U,this.2⟩
 refine enter func90 J ntmps90 J<|aW 8 J<|e<|a9 (Fy b av C w ac aq) J ?_;rintro v6 aI ⟨_,ab,I⟩;have ao:=du hown I fun k A=>(ad k A).1;have aE:=I.size;refine an 8 J<|p (ay J<|(eo ab).trans J)<|an 1 J<|e<|j6 iL J J fun aw aF aA E aj=>e<|ap iL (bN ao E.md) J (by have :=E.size; omega) J (aU.fZ aj) (J) (J) U U fun ae aG L V au am=> ?_;have al:=V.ax (Wk.ax E.md ab) fun h=>(ad b h).1 rfl;refine an 2 J<|e<|dT uu J J (by obtain ⟨a,c,h,_⟩:=nZ L; exact congrArg jx h) al (by simp) fun aH Z ak=>aB 8 J<|aO J ?_;have ah:∀ k,ae.ownBlock=some k→k≠b:=fun k A=>by have :=L.lt k A; omega
 refine ⟨J,ae,⟨⟨_,ak,.inr J⟩,?_,?_⟩,?_,?_⟩;rw [bL,pk]; exact du L Z fun k A=>ah k A;rw [au]; simp;refine Md.trans' (Md.trans' (Md.trans' (I.mono fun k _ h=> .inl h) E.md fun _ _ h=>h.elim) V fun k _ h=> .inr h) Z fun k _ h=> .inl h;rintro k (rfl | A);exact .inl<|.inl J;by_cases h:C.ownBlock=some k;exact .inl<|.inr h;have :=am k A; have h1:=I.size; have az:=E.md.size; exact .inr<|by rcases this with O | O; exact absurd O h; omega
theorem J4 (b:Nat) (I:ag) (l:List UInt8) (w:ai) (hb:Bd 220 5 w b I l) (ac:l.length≤70368744177664):
 bp ar 91 (bD [aR b]) w (fun v w'=>v=str l∧Md (fun k=>I.ownBlock=some k) w w'):=by
 obtain ⟨⟨ah,L,ad⟩,hown,hnil⟩:=hb;obtain ⟨a,c,rfl,V,hle,Z,ab⟩:=nZ hown;refine enter func91 J ntmps91 J<|cg 6 J ?_;have A:(fun w'=>Md (fun k=>(bZ a l.length c).ownBlock=some k) w w') w.drew:=(Md.refl _ _).drew;refine bh (fun w'=>Md (fun k=>(bZ a l.length c).ownBlock=some k) w w') J wide A<|ba [0,1,2] J A<|pP 3 J (fun w' C=>ay J<|C.az ((eo L).trans J) fun h=>by have :=hown.lt _ h; omega) A<|ba [5,6,7] J A<|pP 8 J (fun w' C=>ay J<|C.az ((eo L).trans J) fun h=>by have :=hown.lt _ h; omega) A<|ba [9] J A ?_;refine dr 4 J (xw (v:= .nilFunc) J (by
  by_cases h:l= []
  have :=hnil.2 h; simp only [Value.slice.injEq] at this; exact .inl this.1;right; have :0 < l.length:=List.length_pos_iff.2 h; omega)) A ?_
 refine he 10 J aq<|Kl IK J J hown J U fun O M ae=> ?_;have E:(fun w'=>Md (fun k=>(bZ a l.length c).ownBlock=some k) w w') O:=A.trans' M fun _ _ h=>h;refine ⟨E,?_⟩;exact dr 11 J (aQ) E<|hn aq<|bl 2 J<|aO J<|⟨J,E⟩
end Go.Hb
end
section
namespace Go.Hb
open Go.Hb.ei
theorem uN (b:UInt8):eQ b=decide (32 < (b.toNat:Int)∧(b.toNat:Int)≠127):=by
 unfold eQ; exact decide_eq_decide.2 U
theorem GD {b:UInt8} (h:32 < (b.toNat:Int)) (h1:(b.toNat:Int)≠127):eQ b=true :=by rw [uN]; exact decide_eq_true ⟨h,h1⟩
theorem uM {b:UInt8} (h:¬(32 < (b.toNat:Int)∧(b.toNat:Int)≠127)):eQ b=false :=by rw [uN]; exact decide_eq_false h
theorem zT (b:UInt8) (w:ai):
 bp ar 94 (bD [.int .u8 b.toNat]) w (fun v w'=>v= .bool (eQ b)∧Wk w w'):=by
 refine enter func94 J ntmps94 J<|aW 10 J<|gs (t:=5) J (fun A=> ?_) fun A=> ?_;exact aB 7 J<|aO J<|⟨by show bG (decide _)=_; rw [uN]; exact bv (by constructor <;> intro h <;> first | exact ⟨U,h⟩ | exact h.2),Md.refl _ _⟩
 exact an 3 J<|p aQ<|aB 3 J<|aO J<|⟨by show bG false =_; rw [uM U],Md.refl _ _⟩
theorem Ko (s:List UInt8) (w:ai) (ae:s.length≤1048576):
 bp ar 95 (bD [str s]) w (fun v w'=>v= .bool (mF s)∧Wk w w'):=by
 refine enter func95 J ntmps95 J<|aW 11 J<|gs (t:=6) J (fun E=> ?_) fun E=> ?_;exact aB 14 J<|aO J<|⟨by show bG false =_; unfold mF; rw [decide_eq_false (by rw [E]; simp)],Md.refl _ _⟩
 refine aI 6 J<|cd J (fun ab=> ?_) fun ab=> ?_;exact aJ 7 J<|aO J<|⟨by show bG false =_; unfold mF; rw [decide_eq_false U],Md.refl _ _⟩
 refine bM 11 J<|lp (fun L Z V=> ∃ (i:Nat),(i≤s.length∧1≤s.length∧s.length≤64)∧(∀ j,j < i→eQ (s.getD j 0)=true)∧(Wk w V)∧(Sl Z [(0,str s),(12,.int .i64 s.length),(13,.int .i64 i)])∧(s.length - i=L)) _ ⟨0,(⟨U,by rcases Nat.eq_zero_or_pos s.length with h | h <;> first | exact absurd (tF.1 h) E | exact h,U⟩),(fun j O=>by omega),(Md.refl _ _),J,J⟩ ?_;rintro L Z V ⟨i,hi,hp,A,ad,rfl⟩;refine bw ad<|cg 6 J<|cd J (fun ac=> ?_) fun ac=> ?_;refine aH 14 J<|p (eH u9 J J U)<|e<|a9 (zT (s.getD i 0) _) J ?_;rintro ag ah ⟨rfl,M⟩;refine aI 3 J<|cb J (fun C=> ?_) fun C=> ?_;have I:eQ (s.getD i 0)=false :=by simpa using C
 exact aJ 8 J<|tr<|bl 2 J<|aO J<|⟨by show bG false =_; unfold mF; rw [py (i:=i) U I,decide_eq_false (by simp)],Md.trans A M⟩
 have I:eQ (s.getD i 0)=true :=by simpa using C
 exact aJ 7 J<|tn<|⟨_,U,i+1,U,(fun j O=>by rcases dk j i with h | h <;> first | exact hp j h | (rw [show j=i by omega]; exact I)),(Md.trans A M),J,J⟩
 exact aJ 2 J<|cw<|bl 8 J<|aO J<|⟨by show bG true =_; unfold mF; rw [re (fun j O=>hp j U),decide_eq_true ⟨hi.2.1,hi.2.2,J⟩],A⟩
theorem HM (s:List UInt8) (w:ai) (a2:s.length≤1048576):
 bp ar 68 (bD [str s]) w (fun v w'=>v= .tuple #[str (letE s).1,.int .i64 (letE s).2]∧Wk w w'):=by
 refine enter func68 J ntmps68 J<|aW 8 J<|e<|al Ll fun V aU aX L ap=> ?_;have aG:aA aU.heap V (marksOf []):=by rw [H6]; exact ap
 refine aI 9 J<|cd J (fun ak=> ?_) fun ak=> ?_;exact aJ 8 J<|f2 J J J<|⟨by show iR #[str [],.int .i64 21]=_; unfold letE; rw [if_pos (.inl ak)]; rfl,L.md⟩
 refine aH 4 J<|e<|ek Ld fun I ba aZ ax aK=>aI 11 J ?_;have aY:=ap.lt;refine lp (fun ao aD O=> ∃ (i:Nat) (A:ag),(i≤s.length)∧(∀ j,j < i→eQ (s.getD j 0)=true)∧(aA O.heap V<|marksOf<|lets<|s.take i)∧(Bd 220 5 O I A<|lets<|s.take i)∧(Wk w O)∧(Sl aD [(0,str s),(4,aR V),(5,aR I),(10,.int .i64 s.length),(11,.int .i64 i)])∧(s.length - i=ao)) _ ⟨0,.slice none 0 0,U,(fun j am=>by omega),(ax.md.B aG),(Bd.new aK),(Md.trans L.md ax.md),J,J⟩ ?_;rintro ao aD O ⟨i,A,hi,hp,aw,ab,ae,aS,rfl⟩;refine bw aS ?_;have aQ:=vt<|s.take i;rw [cN] at aQ;have a0:=aw.lt;refine cg 6 J<|cd J (fun aP=> ?_) fun aP=> ?_;refine aH 15 J<|p (eH u9 J J U)<|e<|a9 (zT (s.getD i 0) _) J ?_;rintro a4 aT ⟨rfl,C⟩;refine aI 3 J<|cb J (fun ah=> ?_) fun ah=> ?_;have M:eQ (s.getD i 0)=false :=by simpa using ah
 exact aJ 10 J<|tr<|bl 2 J<|f2 J J J<|⟨by show iR #[str [],.int .i64 21]=_; unfold letE; rw [if_pos (.inr<|py U M)]; rfl,Md.trans ae C⟩
 have M:eQ (s.getD i 0)=true :=by simpa using ah
 have aq:Wk w aT:=Md.trans ae C;have Z:=C.B aw;have ad:=ab.md C fun _ _ h=>h;have a3:=C.size;refine aH 6 J<|p (eH u9 J J U)<|p (lh yB J J<|by have :=lU (s.getD i 0); omega)<|p (ay J<|H8 Z _)<|aI 3 J<|cb J (fun aj=> ?_) fun aj=> ?_;have E:¬s.getD i 0∈lets (s.take i):=of_decide_eq_false<|by simpa using aj
 refine aH 4 J<|p (eH u9 J J U)<|p (lh yB J J<|by have :=lU (s.getD i 0); omega)<|e<|st yX J J (J) (Z) (by rw [AL]; have :=lU (s.getD i 0); omega) fun aV au aF=> ?_;have aO:=H9 aF;have aM:Wk w aV:=Md.trans' aq au fun k az h=>by omega
 have ac:=ad.md au fun k az h=>by have :=ad.rI az; omega
 refine an 5 J<|p (eH u9 J J U)<|e<|a9 (K8 I A (lets<|s.take i) (s.getD i 0) _ ac U) J ?_;rintro a5 a7 ⟨rfl,aE,aL,av,a1⟩;exact aB 7 J<|tn<|⟨_,U,i+1,aE,U,(fun j am=>by rcases dk j i with h | h <;> first | exact hp j h | (rw [show j=i by omega]; exact M)),(by rw [lr U,if_neg E]; exact av.B aO fun h=>by have :=ac.rI h; omega),(by rw [lr U,if_neg E]; exact aL),(ac.step aM av<|by have :=L.md.size; omega),J,J⟩
 have E:s.getD i 0∈lets (s.take i):=by simpa using aj
 exact aJ 7 J<|tn<|⟨_,U,i+1,A,U,(fun j am=>by rcases dk j i with h | h <;> first | exact hp j h | (rw [show j=i by omega]; exact M)),(by rw [lr U,if_pos E]; exact Z),(by rw [lr U,if_pos E]; exact ad),aq,J,J⟩
 refine aJ 2 J<|cw<|iC 4 J<|e<|a9 (J4 I A (lets<|s.take i) _ ab<|by have :=vt (s.take i); rw [cN] at this; omega) J ?_;rintro a6 a8 ⟨rfl,aN⟩;exact aB 5 J<|f2 J J J<|⟨by show iR #[str (lets<|s.take i),.int .i64 0]=_; unfold letE; rw [if_neg (by rw [re (fun j am=>hp j U)]; exact fun h=>h.elim ak cQ),show s.take i=s from fR U]; rfl,ab.JW ae aN<|by have :=L.md.size; omega⟩
end Go.Hb
end
section
namespace Go.Hb
open Go.Hb.ei
def ke (e:Int):List PanicEntry:= [{v:= .iface 35 (.int .i64 e),recovered:=false}]
def Ja:Except Nat (Nat×Nat)→Nat
 | .ok (n,_)=>n
 | .error _=>0
def Jb:Except Nat (Nat×Nat)→Nat
 | .ok (_,p)=>p
 | .error _=>0
def om:Except Nat (Nat×Nat)→Nat
 | .ok _=>0
 | .error e=>e
def wi (r:Except Nat (Nat×Nat)):ag:= .tuple #[.int .u64 (Ja r:Nat),.int .i64 (Jb r:Nat),.int .i64 (om r:Nat)]
theorem wj {s:List UInt8} {a e:Nat} (h:bf s a= .error e):e=60∨e=61:=by
 unfold bf at h;split at h
 · cases h; exact .inr rfl
 · split at h
   · cases h; exact .inl rfl
   · split at h
     · cases h; exact .inr rfl
     · cases h
theorem Je {s:List UInt8} {a:Nat} (h:((om (bf s a):Nat):Int)=0):∃ n p,bf s a= .ok (n,p):=by
 cases hX:bf s a with
 | ok x=>exact ⟨x.1,x.2,rfl⟩
 | error e=>
   rw [hX] at h;have :=wj hX;simp only [om] at h; omega
theorem Jd {s:List UInt8} {a:Nat} (h:¬((om (bf s a):Nat):Int)=0):bf s a= .error (om<|bf s a):=by
 cases hX:bf s a with
 | ok x=>rw [hX] at h; simp [om] at h
 | error e=>rfl
theorem BM {s:List UInt8} {a n:Nat} :(s.take<|a+n).drop a=(s.drop a).take n:=by rw [x8,D6]
theorem zW {s:List UInt8} {a e:Nat} (h:bf s a= .error e):cP s a= .error e:=by unfold cP; rw [h]
theorem zX {s:List UInt8} {a n p:Nat} (h:bf s a= .ok (n,p)) (hn:255 < n):cP s a= .error 62:=by unfold cP; rw [h]; exact if_pos hn
theorem zY {s:List UInt8} {a n p:Nat} (h:bf s a= .ok (n,p)) (hn:¬255 < n) (hp:s.length < p+n):cP s a= .error 60:=by unfold cP; rw [h]; simp only; rw [if_neg hn,if_pos hp]
theorem zZ {s:List UInt8} {a n p:Nat} (h:bf s a= .ok (n,p)) (hn:¬255 < n) (hp:¬s.length < p+n):cP s a= .ok ((s.drop p).take n,p+n):=by unfold cP; rw [h]; simp only; rw [if_neg hn,if_neg hp]
theorem EL:∀ r:Fin 256,oR.wrap (gH oR.bits ((r.val:Nat):Int) &&& gH oR.bits 127).toNat=((r.val % 128:Nat):Int):=by decide+kernel
theorem EK (b:UInt8):oR.wrap (gH oR.bits (b.toNat:Int) &&& gH oR.bits 127).toNat=((b.toNat % 128:Nat):Int):=EL ⟨b.toNat,lU b⟩
theorem A8 (i:Nat):(128:Nat) ^ i=2 ^ (7 *i):=by rw [Nat.pow_mul]
theorem Jy {x i:Nat} (hi:i≤9):m6.wrap (((x:Nat):Int)*2 ^ min ((7 *i:Nat):Int).toNat m6.bits)=((x*128 ^ i % 18446744073709551616:Nat):Int):=by
 have A:(m6.bits:Nat)=64:=rfl;rw [j0,A,Ec U,IntKind.wrap_u64,A8];generalize 7 *i=m;rw [show ((x:Nat):Int)*2 ^ m=((x*2 ^ m:Nat):Int) by simp];omega
theorem IE {n x i:Nat} (hi:i≤9) (hn:n < 128 ^ i):m6.wrap (gH m6.bits (n:Int) ||| gH m6.bits ((x*128 ^ i % 18446744073709551616:Nat):Int)).toNat=((n+x*128 ^ i % 18446744073709551616:Nat):Int):=by
 have C:(m6.bits:Nat)=64:=rfl;rw [A8] at hn ⊢;have I:x*2 ^ (7 *i) % 18446744073709551616=2 ^ (7 *i)*(x % 2 ^ (64 - 7 *i)):=by
  rw [show (18446744073709551616:Nat)=2 ^ (7 *i)*2 ^ (64 - 7 *i) by rw [← Nat.pow_add,show 7 *i+(64 - 7 *i)=64 by omega],qS x,Nat.mul_mod_mul_left]
 rw [I,C,C6,C6,BitVec.toNat_or,C7,C7];have A:x % 2 ^ (64 - 7 *i) < 2 ^ (64 - 7 *i):=Nat.mod_lt _<|Nat.two_pow_pos _;generalize x % 2 ^ (64 - 7 *i)=z at A;have hle:(2:Nat) ^ (7 *i)≤2 ^ 64:=qT aX U;have hmul:2 ^ (7 *i)*z+n < 2 ^ 64:=by
  have E:2 ^ (7 *i)*(z+1)≤2 ^ (7 *i)*2 ^ (64 - 7 *i):=yg _ A;rw [← Nat.pow_add,show 7 *i+(64 - 7 *i)=64 by omega,Nat.mul_succ] at E;omega
 rw [yf U,yf (show 2 ^ (7 *i)*z < 2 ^ 64 by omega),Nat.or_comm,← Nat.two_pow_add_eq_or_of_lt hn,gi U,Nat.add_comm]
theorem rT {s:List UInt8} {a i n:Nat} (hi:i≤9) (ha:a+i < s.length) (hn:n=dA ((s.drop a).take i)) (hb:i≤8∨(s.getD (a+i) 0).toNat≤1):n+(s.getD (a+i) 0).toNat % 128 *128 ^ i % 18446744073709551616=dA ((s.drop a).take<|i+1):=by
 have E:((s.drop a).take i).length=i:=by rw [cN,gM]; omega
 have I:(s.drop a)[i]? =some (s.getD (a+i) 0):=by
  rw [List.getElem?_drop,b9,bK U]; rfl
 rw [List.take_add_one,I,Option.toList_some,vq,E,hn,dA,dA,Nat.mul_zero,jy];congr 1;have hm:(s.getD (a+i) 0).toNat % 128 < 128:=Nat.mod_lt _ aX;have A:i≤8∨(s.getD (a+i) 0).toNat % 128≤1:=hb.imp id fun h=>U;generalize (s.getD (a+i) 0).toNat % 128=x at hm A ⊢;rw [qS,yf];have L:(128:Nat) ^ 9=9223372036854775808:=aX;rcases A with hb | hb
 · have h1:128 ^ i*x < 128 ^ i*128:=Nat.mul_lt_mul_of_pos_left hm<|Nat.pow_pos aX;have J:(128:Nat) ^ i*128=128 ^ (i+1):=rfl;have C:(128:Nat) ^ (i+1)≤128 ^ 9:=qT aX U;omega
 · have C:(128:Nat) ^ i≤128 ^ 9:=qT aX U;have M:128 ^ i*x≤128 ^ i*1:=yg _ hb;omega
theorem Jf (s:List UInt8) (a:Nat) (w:ai) (ao:s.length≤1048576) (ha:a≤s.length):
 bp ar 66 (bD [str s,aD a]) w (fun v w'=>v=wi (bf s a)∧Wk w w'):=by
 refine enter func66 J ntmps66 J<|aW 13 J<|gs (t:=11) J (fun h=>absurd h U) fun am=>aI 7 J<|cd J (fun ac=> ?_) fun ac=> ?_;exact aJ 9 J<|f3 J J J J<|⟨by rw [sy (k:=0) (jm U (fun j O=>by omega)<|.inr<|.inl U) U U]; rfl,Md.refl _ _⟩
 refine bM 9 J<|lp (fun M Z V=> ∃ (i n:Nat),(i≤10)∧(∀ j,j < i→a+j < s.length∧128≤(s.getD (a+j) 0).toNat)∧(i≤9→n=dA ((s.drop a).take i))∧(Wk w V)∧(Sl Z [(0,str s),(1,aD a),(4,.int .u64 (n:Nat)),(17,aD i)])∧(10 - i=M)) _ ⟨0,0,U,(fun j O=>by omega),(fun _=>rfl),(Md.refl _ _),J,J⟩ ?_;rintro M Z V ⟨i,n,hi,E,hn,C,al,rfl⟩;refine bw al<|cg 6 J<|cd J (fun ad=> ?_) fun ad=> ?_;refine bM 21 J<|cd J (fun ae=> ?_) fun ae=> ?_;exact aJ 11 J<|tr<|bl 2 J<|f3 J J J J<|⟨by rw [sy (k:=i) (jm U E<|.inr<|.inl U) U U]; rfl,C⟩
 refine aH 7 J<|p (cq<|a+i)<|p (eH u9 J J U)<|aI 4 J ?_;have ak:n < 128 ^ i:=by
  have h1:=rS<|(s.drop a).take i;rw [← hn U] at h1;have ab:((s.drop a).take i).length=i:=by rw [cN,gM]; omega
  rwa [ab] at h1
 refine aH 3 J<|p (cR J J<|EK _)<|p (gr oL xu J<|gi U)<|an 1 J<|p (vF ((7 *i:Nat):Int) J J<|xA U U)<|p (shl J J U<|Jy U)<|p (yG J J<|IE U ak)<|aI 12 J<|cd J (fun ag=> ?_) fun ag=> ?_;have aj:∀ j,j < i+1→a+j < s.length∧128≤(s.getD (a+j) 0).toNat:=fun j O=>by
  rcases dk j i with h | h;exact E j h;obtain rfl :j=i:=U;exact ⟨U,U⟩
 exact aH 6 J<|p (cq<|i+1)<|aB 2 J<|tn<|⟨_,U,i+1,n+(s.getD (a+i) 0).toNat % 128 *128 ^ i % 18446744073709551616,U,aj,(fun h=>rT U U (hn U)<|.inl U),C,J,J⟩
 refine aH 6 J<|gs (t:=45) J (fun ah=> ?_) fun ah=> ?_;refine aI 6 J<|cd J (fun I=> ?_) fun I=> ?_;refine bM 2 J<|cd J (fun I=> ?_) fun I=> ?_;refine aJ 12 J<|tr<|bl 2 J<|f3 J J J J ?_;have A:=jm (s:=s) (a:=a) (k:=i) U E<|.inr<|.inr U;exact ⟨by rw [oo A U U U]; rfl,C⟩;refine aH 8 J<|p (cq<|a+i)<|p (cq<|a+i+1)<|aB 8 J<|tr<|bl 2 J<|f3 J J J J ?_;exfalso; omega;refine aH 4 J<|gs (t:=51) J (fun L=> ?_) fun L=> ?_;refine aI 6 J<|cd J (fun I=> ?_) fun I=> ?_;refine aJ 12 J<|tr<|bl 2 J<|f3 J J J J ?_;have A:=jm (s:=s) (a:=a) (k:=i) U E<|.inr<|.inr U;exact ⟨by rw [oo A U U U]; rfl,C⟩;refine aH 8 J<|p (cq<|a+i)<|p (cq<|a+i+1)<|aB 8 J<|tr<|bl 2 J<|f3 J J J J ?_;have A:=jm (s:=s) (a:=a) (k:=i) U E<|.inr<|.inr U;exact ⟨by rw [sx A U U U,← rT U U (hn U) U]; rfl,C⟩;refine an 3 J<|p aQ<|an 11 J<|p (cq<|a+i)<|p (cq<|a+i+1)<|aB 8 J<|tr<|bl 2 J<|f3 J J J J ?_;exfalso; omega;refine an 3 J<|p aQ<|an 7 J<|gs (t:=51) J (fun L=> ?_) fun L=> ?_;refine aI 6 J<|cd J (fun I=> ?_) fun I=> ?_;refine aJ 12 J<|tr<|bl 2 J<|f3 J J J J ?_;have A:=jm (s:=s) (a:=a) (k:=i) U E<|.inr<|.inr U;exact ⟨by rw [oo A U U U]; rfl,C⟩;refine aH 8 J<|p (cq<|a+i)<|p (cq<|a+i+1)<|aB 8 J<|tr<|bl 2 J<|f3 J J J J ?_;have A:=jm (s:=s) (a:=a) (k:=i) U E<|.inr<|.inr U;exact ⟨by rw [sx A U U U,← rT U U (hn U) U]; rfl,C⟩;refine an 3 J<|p aQ<|an 11 J<|p (cq<|a+i)<|p (cq<|a+i+1)<|aB 8 J<|tr<|bl 2 J<|f3 J J J J ?_;have A:=jm (s:=s) (a:=a) (k:=i) U E<|.inr<|.inr U;exact ⟨by rw [sx A U U U,← rT U U (hn U) U]; rfl,C⟩;refine aJ 2 J<|cw<|bl 10 J<|f3 J J J J ?_;obtain rfl :i=10:=U;exact ⟨by rw [Bo (jm U E<|.inl J)]; rfl,C⟩
theorem jq (C:ag) (b:Bool) (e:Int) (w:ai):
 lX ar 43 (bD [C,.bool b,.int .i64 e]) w (fun v w'=>v=iR #[]∧b=true∧w'=w) (fun c w'=>c=ke e∧b=false∧w'=w):=by
 refine pI func43 J ntmps43 J<|cg 6 J<|cb J (fun A=> ?_) fun A=> ?_;exact aH 2 J<|p (vE rY J)<|II J fun σ' E=>⟨J,by simpa using A,J⟩
 refine aJ 1 J<|pL<|f0 J ?_;exact ⟨J,by simpa using A,J⟩
theorem nS (rb:Nat) (s:List UInt8) (a:Nat) (w:ai) (E:aA w.heap rb [str s,.int .i64 (a:Nat)]) (ac:s.length≤1048576) (ha:a≤s.length):
 lX ar 41 (bD [.pointer (some ⟨rb,0,none⟩)]) w (fun v w'=> ∃ n p,bf s a= .ok (n,p)∧v= .int .u64 (n:Nat)∧aA w'.heap rb [str s,.int .i64 (p:Nat)]∧Md (fun k=>k=rb) w w') (fun c w'=> ∃ e,bf s a= .error e∧c=ke e∧Md (fun k=>k=rb) w w'):=by
 refine pI func41 J ntmps41 J<|cg 6 J<|fl fun C=>ba [0,1,2] J C<|da 3 J C (E.aN 0)<|ba [4,5,6] J C<|da 7 J C (E.aN 1)<|he 8 J aq<|a9 (Jf s a w.drew ac ha) J ?_;rintro ah M ⟨rfl,A⟩;have A:=Md.gA A;have L:(fun w'=>Wk w w') M:=A;refine ⟨L,?_⟩;refine hp 9 J aq (fun _ _=>mv) L<|ba [10,11,12,13,14,15] J L<|hn aq<|iC 7 J<|eP J (dU jb (jq _ _ _ M) J fun aj ak Z=> ?_) fun c w' I σ' ag=>⟨_,Jd (of_decide_eq_false I.2.1),I.1,by rw [I.2.2]; exact A.mono fun _ _ h=>h.elim⟩
 obtain ⟨rfl,ad,rfl⟩:=Z;obtain ⟨n,ae,ab⟩:=Je<|of_decide_eq_true ad;have O:=Wk.B A E;refine an 8 J<|e<|st di J J (J) (O) (by simp) fun al V U=>aB 9 J<|pL<|f1 J J ?_;rw [ab] at*;exact ⟨n,ae,J,J,U,Md.trans (A.mono fun _ _ h=>h.elim) V⟩
theorem Cj (rb:Nat) (s:List UInt8) (a n:Nat) (w:ai) (I:aA w.heap rb [str s,.int .i64 (a:Nat)]) (ak:s.length≤1048576) (ha:a≤s.length) (aj:n≤1048576):
 lX ar 67 (bD [.pointer (some ⟨rb,0,none⟩),.int .i64 (n:Nat)]) w (fun v w'=>a+n≤s.length∧v=str ((s.drop a).take n)∧aA w'.heap rb [str s,.int .i64 ((a+n:Nat):Int)]∧Md (fun k=>k=rb) w w') (fun c w'=>s.length < a+n∧c=ke 60∧Md (fun k=>k=rb) w w'):=by
 refine pI func67 J ntmps67 J<|cg 6 J<|fl fun C=>ba [0,1,2,3,4] J C<|da 5 J C (I.aN 0)<|ba [6,7,8,9] J C<|da 10 J C (I.aN 1)<|ba [11,12] J C<|G4 13 J aq J (dU jb (jq _ _ _ w.drew) J fun al O ae=> ?_) fun c w' L σ' ah=>⟨by have :=of_decide_eq_false L.2.1; omega,L.1,by rw [L.2.2]; exact (Md.refl _ _).drew⟩
 obtain ⟨rfl,Z,M⟩:=ae;have Z:=of_decide_eq_true Z;have V:aA O.heap rb [str s,.int .i64 (a:Nat)]:=by rw [M]; exact I
 have ac:Md (fun k=>k=rb) w O:=by rw [M]; exact (Md.refl _ _).drew
 have ag:(fun w'=>Wk w w') O:=by rw [M]; exact (Md.refl _ _).drew
 refine ⟨ag,?_⟩;refine hn aq<|iC 6 J<|p (ay J<|V.aN 1)<|an 1 J<|p (cq<|a+n)<|an 2 J<|e<|st di J J (J) (V) (by simp) fun am ad ab=> ?_;have E:=ab;exact aI 3 J<|fl fun A=>ba [0,1,2] J A<|da 3 J A (E.aN 0)<|ba [4,5,6] J A<|da 7 J A (E.aN 1)<|ba [8] J A<|hp 9 J aq (fun _ _=>qk<|a) A<|ba [10,11,12] J A<|da 13 J A (E.aN 1)<|hp 14 J aq (fun _ _=>sJ u9 J J J U) A<|ba [15] J A<|hn aq<|bl 2 J<|pL<|f1 J J<|⟨U,by rw [← BM]; rfl,E,(ac.trans ad).drew⟩
theorem uS (rb:Nat) (s:List UInt8) (a:Nat) (w:ai) (O:aA w.heap rb [str s,.int .i64 (a:Nat)]) (L:s.length≤1048576) (ha:a≤s.length):
 lX ar 42 (bD [.pointer (some ⟨rb,0,none⟩)]) w (fun v w'=> ∃ f p,cP s a= .ok (f,p)∧v=str f∧aA w'.heap rb [str s,.int .i64 (p:Nat)]∧Md (fun k=>k=rb) w w') (fun c w'=> ∃ e,cP s a= .error e∧c=ke e∧Md (fun k=>k=rb) w w'):=by
 refine pI func42 J ntmps42 J<|aW 8 J<|eP J (dU ns (nS rb s a w O L ha) J fun au aj ae=> ?_) fun c w' A σ' I=>by obtain ⟨e,he,ah,ab⟩:=A; exact ⟨e,zW he,ah,ab⟩
 obtain ⟨n,q,C,rfl,Z,E⟩:=ae;obtain ⟨al,am,ao⟩:=iJ C;refine an 8 J<|eP J (dU jb (jq _ _ _ aj) J fun av ak ag=> ?_) fun c w' A σ' I=>⟨62,zX C (by have :=of_decide_eq_false A.2.1; omega),A.1,by rw [A.2.2]; exact E⟩
 obtain ⟨rfl,M,rfl⟩:=ag;have M:=of_decide_eq_true M;refine an 6 J<|p (gr u3 lH J<|iN U)<|eP J (dU yK (Cj rb s q n ak Z L U U) J fun aq aw ad=> ?_) fun c w' A σ' I=>⟨60,zY C U A.1,A.2.1,E.trans A.2.2⟩
 obtain ⟨ap,rfl,V,ac⟩:=ad;exact aB 4 J<|pL<|f1 J J<|⟨_,_,zZ C U U,J,V,E.trans ac⟩
theorem Cm {s:List UInt8} {i:Nat} (h:i < s.length):(s.take<|i+1).drop i= [s.getD i 0]:=by
 rw [x8,show i+1 - i=1 by omega,drop_cons 0 h]; rfl
theorem Kr (b:UInt8):mF [b]=eQ b:=by
 unfold mF fj;cases h:eQ b <;> simp [h]
def gu:List UInt8×List UInt8:=([],[])
def fA (r:List UInt8×List UInt8):List ag:= [str r.1,str r.2]
theorem Bm {h:Array Obj} {a:Option aZ} {rs:List (List UInt8×List UInt8)} {i:Nat} (A:aU h a (rs.flatMap fA)) (hi:i < rs.length):∀ j,j < 2→Hb.az h (bk a) (fo a+i*2 +j)= [str (rs.getD i gu).1,str (rs.getD i gu).2][j]? :=
 mg (f:=fA) (m:=2) (fun _=>rfl) A (by rw [b9,bK hi]; rfl)
theorem Bn {rs:List (List UInt8×List UInt8)} (h:0 < rs.length):rs.flatMap fA≠[]:=pK (f:=fA) (m:=2) (fun _=>rfl) aX h
variable {ls:Nat} {t:List UInt8} {rs:List (List UInt8×List UInt8)}
theorem nT {b:Bool} (h:(!b)=true):b=false :=by cases b; rfl; cases h
theorem oy (h:ls < 1∨64 < ls∨256 < rs.length):dR ls t rs=false :=by
 unfold dR;rw [decide_eq_false U]; rfl
theorem sD (h:t≠[]) (A:letE t≠(t,0)):dR ls t rs=false :=by
 unfold dR;rw [decide_eq_false h,decide_eq_false A]; simp
theorem lD {i:Nat} (h:i < rs.length) (A:gd (rs.getD i gu)=false):dR ls t rs=false :=by
 unfold dR;rw [yv gu h A]; simp
theorem BC (h:¬(ls < 1∨64 < ls∨256 < rs.length)) (A:t= []∨letE t=(t,0)) (C:∀ i,i < rs.length→gd (rs.getD i gu)=true):dR ls t rs=true :=by
 unfold dR;rw [decide_eq_true U,yw gu C];rcases A with A | A <;> simp [A]
theorem BE {r:List UInt8×List UInt8} (h:r.1= []):gd r=false :=by unfold gd; simp [h]
theorem wz {r:List UInt8×List UInt8} (h:(fj r.1 && decide (r.1.length≤32))=false):gd r=false :=by unfold gd; rw [h]; simp
theorem wO {r:List UInt8×List UInt8} (h:(fj r.2 && decide (r.2.length≤32))=false):gd r=false :=by unfold gd; rw [h]; simp
theorem BG {r:List UInt8×List UInt8} (h0:r.1≠[]) (h:(fj r.1 && decide (r.1.length≤32))=true) (A:(fj r.2 && decide (r.2.length≤32))=true):gd r=true :=by unfold gd; rw [h,A,decide_eq_true h0]; rfl
theorem A9 (x:List UInt8) (m:Nat) (w:ai) (ad:x.length≤1048576):
 bp ar 69 (bD [str x,aD m]) w (fun v w'=>v= .bool (fj x && decide (x.length≤m))∧Wk w w'):=by
 refine enter func69 J ntmps69 J<|cg 14 J<|lp (fun I Z E=> ∃ (i:Nat),(i≤x.length)∧(∀ j,j < i→eQ (x.getD j 0)=true)∧(Wk w E)∧(Sl Z [(0,str x),(1,aD m),(7,aD (x.length)),(8,aD i)])∧(x.length - i=I)) _ ⟨0,U,(fun j O=>by omega),(Md.refl _ _),J,J⟩ ?_;rintro I Z E ⟨i,hi,V,A,ac,rfl⟩;refine bw ac<|cg 6 J<|cd J (fun ab=> ?_) fun ab=> ?_;refine aH 15 J<|p (cq<|i+1)<|p (sJ u9 J J J U)<|e<|a9 (Ko ((x.take<|i+1).drop i) E<|by rw [Cm U]; simp) J fun ae ag M=> ?_;rw [Cm U,Kr] at M;obtain ⟨rfl,L⟩:=M;refine aI 3 J<|cb J (fun C=> ?_) fun C=> ?_;exact aJ 8 J<|tr<|bl 2 J<|aO J<|⟨by rw [py (i:=i) U (by simpa using C)]; rfl,A.trans L⟩
 exact aH 4 J<|p (cq<|i+1)<|aB 2 J<|tn<|⟨_,U,i+1,U,(fun j O=>by rcases dk j i with h | h <;> first | exact V j h | (rw [show j=i by omega]; simpa using C)),(A.trans L),J,J⟩
 exact aJ 2 J<|cw<|bl 12 J<|aO J<|⟨by rw [re (fun j O=>V j U),Bool.true_and]; exact bv U,A⟩
theorem Js (ls:Nat) (t:List UInt8) (rs:List (List UInt8×List UInt8)) (Z:Option aZ) (rc:Nat) (az v4 aE v6:ag) (w:ai) (aq:aU w.heap Z (rs.flatMap fA)) (bd:ls≤64) (bh:t.length≤1048576) (bf:rs.length≤1048576) (a2:∀ r∈rs,r.1.length≤1048576∧r.2.length≤1048576):
 bp ar 44 (bD [.agg #[aD ls,str t,.slice Z rs.length rc,az,v4,aE,v6]]) w (fun v w'=>v= .bool (dR ls t rs)∧Wk w w'):=by
 refine enter func44 J ntmps44 J<|aW 2 J<|e<|nr J fun ao a7 ba O C=>an 7 J<|p (ay J<|C.aN 0)<|an 2 J<|gs (t:=10) J (fun a0=> ?_) fun a0=> ?_;exact an 4 J<|p mv<|aB 15 J<|aO J<|⟨(congrArg bG<|oy (t:=t) (rs:=rs)<|.inl (show ls < 1 by omega)).symm,O.md⟩
 refine an 1 J<|bB J (ay J<|C.aN 0)<|an 3 J<|gs (t:=15) J (fun a1=> ?_) fun a1=> ?_;exact aB 15 J<|aO J<|⟨(congrArg bG<|oy (t:=t) (rs:=rs)<|.inr<|.inl (show 64 < ls by omega)).symm,O.md⟩
 refine an 1 J<|bB J (ay J<|C.aN 2)<|aI 5 J<|cd J (fun aX=> ?_) fun aX=> ?_;exact aJ 7 J<|aO J<|⟨(congrArg bG<|oy<|.inr<|.inr (show 256 < rs.length by omega)).symm,O.md⟩
 refine bM 2 J ?_;refine dv (fun aF al=> ∃ (a6:Unit),(t= []∨letE t=(t,0))∧(Wk w al)∧(aA al.heap ao [aD ls,str t,.slice Z rs.length rc,az,v4,aE,v6])∧(Sl aF [(1,aR ao)])) ?_ ?_;refine aW 3 J<|p (ay J<|C.aN 1)<|e<|a9 (HM t a7 U) J ?_;rintro bi bn ⟨rfl,au⟩;have I:=O.md.trans au;have E:=Wk.B au C;refine p mv<|an 9 J<|p (ay J<|E.aN 1)<|an 2 J<|gs (t:=30) J (fun V=> ?_) fun V=> ?_;refine an 3 J<|gs (t:=33) J (fun ae=> ?_) fun ae=> ?_;exact an 5 J<|p (n6 J)<|aB 9 J<|tr<|aO J<|⟨(congrArg bG<|sD V fun h=>by rw [h] at ae; exact ae J).symm,I⟩
 refine an 2 J<|bB J (ay J<|E.aN 1)<|aI 5 J<|cd J (fun ac=> ?_) fun ac=> ?_;exact aJ 6 J<|tr<|aO J<|⟨(congrArg bG<|sD V fun h=>ac<|by rw [h]).symm,I⟩
 exact aJ 1 J<|tn<|⟨(),(.inr<|Prod.ext (qG.1 ac)<|by show (letE t).2=0; omega),I,E,J⟩
 exact aB 13 J<|tn<|⟨(),(.inl<|qG.1 V),I,E,J⟩
 rintro aF al ⟨a6,a5,aS,aQ,a3⟩;refine bw a3<|aH 4 J<|p (ay J<|aQ.aN 2)<|aI 5 J<|lp (fun ap aG am=> ∃ (i:Nat),(i≤rs.length)∧(∀ j,j < i→gd (rs.getD j gu)=true)∧(Wk w am)∧(Sl aG [(41,.slice Z rs.length rc),(42,aD (rs.length)),(43,aD i)])∧(rs.length - i=ap)) _ ⟨0,U,(fun j aw=>by omega),aS,J,J⟩ ?_;rintro ap aG am ⟨i,hi,ax,A,a4,rfl⟩;refine bw a4<|cg 6 J<|cd J (fun aY=> ?_) fun aY=> ?_;refine aH 6 J<|p (bF Gr J J U<|aU.ok (aq.wk A)<|Bn U)<|p (fu EB J (J)<|Bm (aq.wk A) U)<|e<|ek Li fun aK bq bb aV aM=>e<|eK FP J J J J aM (by simp) fun ak aT aP=> ?_;have ab:aA ak.heap aK [str (rs.getD i gu).1,str (rs.getD i gu).2]:=⟨_,aP⟩
 have M:Wk am ak:=Md.trans' aV.md aT fun k bc h=>by omega
 have bg:=a2 _<|kY (d:=gu) (show i < rs.length by omega);refine an 5 J<|p (ay J<|ab.aN 0)<|an 2 J<|gs (t:=50) J (fun ah=> ?_) fun ah=> ?_;exact an 5 J<|p mv<|aB 16 J<|tr<|bl 2 J<|aO J<|⟨(congrArg bG<|lD (show i < rs.length by omega)<|BE ah).symm,A.trans M⟩
 refine an 1 J<|bB J (ay J<|ab.aN 0)<|eg J J J<|a9 (A9 _ 32 ak U) J ?_;rintro bj a8 ⟨rfl,L⟩;have aL:=Wk.B L ab;refine an 3 J<|gb (t:=56) J (fun aj=> ?_) fun aj=> ?_;exact aB 16 J<|tr<|bl 2 J<|aO J<|⟨(congrArg bG<|lD (show i < rs.length by omega)<|wz<|nT aj).symm,(A.trans M).trans L⟩
 refine an 1 J<|bB J (ay J<|aL.aN 1)<|eg J J J<|a9 (A9 _ 32 a8 U) J ?_;rintro bm bo ⟨rfl,av⟩;refine aI 4 J<|cb J (fun ad=> ?_) fun ad=> ?_;exact aJ 8 J<|tr<|bl 2 J<|aO J<|⟨(congrArg bG<|lD (show i < rs.length by omega)<|wO<|nT ad).symm,((A.trans M).trans L).trans av⟩
 exact aH 4 J<|p (cq<|i+1)<|aB 2 J<|tn<|⟨_,U,i+1,U,(fun j aw=>by rcases dk j i with h | h <;> first | exact ax j h | (rw [show j=i by omega]; exact BG ah (by simpa using aj)<|by simpa using ad)),(((A.trans M).trans L).trans av),J,J⟩
 exact aJ 2 J<|cw<|bl 8 J<|aO J<|⟨(congrArg bG<|BC U a5 fun j aw=>ax j U).symm,A⟩
end Go.Hb
end
section
namespace Go.Hb
open Go.Hb.ei
structure dX (f:Nat→ag) (w:ai) (pA ms:Nat) (aa:Option aZ) (n cA nx:Nat) (mk:List Nat):Prop where
 ax:aA w.heap pA [.slice aa n cA,.int .i64 nx,.slice (some ⟨ms,0,none⟩) n n]
 eS:aA w.heap ms (mk.map f)
 ne:pA≠ms
theorem dX.drew {f:Nat→ag} {w:ai} {A ms:Nat} {aa:Option aZ} {n cA nx:Nat} {mk:List Nat} (h:dX f w A ms aa n cA nx mk):dX f w.drew A ms aa n cA nx mk:=⟨h.ax,h.eS,h.ne⟩
theorem vz {f:Nat→ag} {mk:List Nat} {i x:Nat} :(mk.map f).set (0 +i*1) (f x)=(mk.set i x).map f:=by rw [List.map_set,cK,Nat.mul_one]
section
variable {a:List aG} {f nx:Nat} {mk:List Nat} {n:Int}
theorem qz (h:n≠nx) (A:¬(0≤n∧n < nx)):vs a (f+1) (nx,mk) n=none:=by
 rw [xz h,if_neg (fun e=>A ⟨e.1,e.2.1⟩)]
theorem Cy (h:n≠nx) (h0:0≤n) (h1:n < nx):(vs a (f+1) (nx,mk) n).isSome=decide (((mk.getD n.toNat 0:Nat):Int)=2):=by
 rw [xz h];by_cases A:mk.getD n.toNat 0=2
 · rw [if_pos ⟨h0,h1,A⟩,decide_eq_true U]; rfl
 · rw [if_neg (fun e=>A e.2.2),decide_eq_false U]; rfl
theorem Cz {s:Nat×List Nat} (h:n≠nx) (A:vs a (f+1) (nx,mk) n=some s):s=(nx,mk):=by
 rw [xz h] at A;split at A
 · cases A; rfl
 · cases A
end
set_option maxHeartbeats 1000000 in
theorem Kp (f:Nat) (a:List aG) (aa:Option aZ) (cA E ms:Nat) (w0:ai) (nx:Nat) (mk:List Nat) (n:Int) (w:ai) (bn:cU w0.heap aa a) (cv:w0.heap.size≤E) (hm:w0.heap.size≤ms) (a0:Wk w0 w) (I:dX iZ w E ms aa a.length cA nx mk) (cs:mk.length=a.length) (cu:nx≤a.length) (cr:a.length < f+nx) (hb:a.length≤1048576) (bZ:∀ i,i < a.length→(aw a i).2.length≤1073741824):
 bp ar 93 (bD [aR E,.int .i64 n]) w (fun v w'=>v= .bool (vs a f (nx,mk) n).isSome∧Md (fun q=>q=E∨q=ms) w w'∧∀ s,vs a f (nx,mk) n=some s→dX iZ w' E ms aa a.length cA s.1 s.2):=by
 induction f generalizing nx mk n w with
 | zero=>omega
 | succ f ih=>
   have a2:∀ k,k < w0.heap.size→(k=E∨k=ms)→False:=fun k h1 ch=>U;have cx:=I.ax.lt;have ct:=I.eS.lt;have aj:=I.ne;obtain ⟨cf,bW⟩:=I.ax;refine enter func93 J ntmps93 J<|aW 12 J<|p (ay J<|I.ax.az 1)<|aI 3 J<|cd J (fun am=> ?_) fun am=> ?_;refine aH 5 J<|gs (t:=16) J (fun b1=> ?_) fun b1=> ?_;refine an 4 J<|bB J (ay J<|I.ax.az 1)<|an 3 J<|gs (t:=24) J (fun b2=> ?_) fun b2=> ?_;refine an 3 J<|bB J (ay J<|I.ax.az 2)<|an 1 J<|bB J (ia nD J J U)<|bB J (ay J (show _=some (aT .u8 ((mk.getD n.toNat 0:Nat):Int)) from np I.eS (i:=n.toNat) U))<|aB 7 J<|aO J ?_;refine ⟨congrArg bG (Cy am U U).symm,Md.refl _ _,fun s A=>by rw [Cz am A]; exact I⟩;refine an 9 J<|p aQ<|aB 4 J<|aO J ?_;rw [qz am U];exact ⟨J,Md.refl _ _,fun s A=>by cases A⟩;refine an 7 J<|p mv<|an 9 J<|p aQ<|aB 4 J<|aO J ?_;rw [qz am U];exact ⟨J,Md.refl _ _,fun s A=>by cases A⟩;obtain rfl :n=(nx:Int):=qG.1 am;refine aH 9 J<|p (ay J<|I.ax.az 0)<|aI 4 J<|cd J (fun bX=> ?_) fun bX=> ?_;refine aJ 7 J<|aO J ?_;rw [CE rfl U];exact ⟨J,Md.refl _ _,fun s A=>by cases A⟩;refine aH 7 J<|p (ay J<|I.ax.az 1)<|p (cq<|nx+1)<|an 2 J<|e<|dT di J J J bW (by simp) fun ca bu bI=> ?_;have bq:aA ca.heap E [.slice aa a.length cA,.int .i64 ((nx+1:Nat):Int),.slice (some ⟨ms,0,none⟩) a.length a.length]:=⟨_,bI⟩
   have b6:=bu.B I.eS fun e=>aj e.symm;obtain ⟨em,bT⟩:=b6;refine an 7 J<|p (ay J<|bq.az 2)<|an 1 J<|p (ia nD J J U)<|e<|dT uw J J J bT (by simp; omega) fun aM bv bJ=> ?_;have b7:aA aM.heap ms ((mk.set nx 1).map iZ):=by rw [← vz]; exact ⟨_,bJ⟩
   have a3:dX iZ aM E ms aa a.length cA (nx+1) (mk.set nx 1):=⟨bv.B bq aj,b7,aj⟩
   have a7:Md (fun q=>q=E∨q=ms) w aM:=Md.trans (bu.mono fun k _ h=> .inl h)<|bv.mono fun k _ h=> .inr h;have a1:Wk w0 aM:=Md.trans' a0 a7 a2;obtain ⟨ad,ae,bA,av⟩:=bn.two (i:=nx) U;have cj:=av.wk a1;refine an 7 J<|p (ay J<|a3.ax.az 0)<|an 1 J<|p (bF kW J J U<|bn.ok U)<|p (fu yo J (J)<|jS a1 bA)<|e<|ek CS fun ac cz co bS bL=>e<|eK yZ J J J J bL (by simp) fun bj bQ bN=> ?_;have br:aA bj.heap ac [bG (aw a nx).1,.slice ad (aw a nx).2.length ae]:=⟨_,bN⟩
   have aP:Wk aM bj:=Md.trans' bS.md bQ fun k bx h=>by omega
   have bO:dX iZ bj E ms aa a.length cA (nx+1) (mk.set nx 1):=⟨aP.B a3.ax,aP.B a3.eS,aj⟩
   have ci:=a7.size;refine an 6 J<|p (ay J<|br.az 1)<|aI 5 J<|lp (fun bm bz ao=> ∃ (k O:Nat) (L:List Nat),(k≤(aw a nx).2.length)∧(e9 a f (nx+1) (mk.set nx 1) ((aw a nx).2.take k)=some (O,L))∧(eN<|(aw a nx).2.take k)∧(Wk w0 ao)∧(Md (fun q=>q=E∨q=ms) w ao)∧(dX iZ ao E ms aa a.length cA O L)∧(aA (ao).heap ac [bG (aw a nx).1,.slice ad (aw a nx).2.length ae])∧(Sl bz [(0,aR E),(1,.int .i64 (nx:Int)),(5,aR ac),(62,.slice ad (aw a nx).2.length ae),(63,.int .i64 (aw a nx).2.length),(64,.int .i64 k)])∧((aw a nx).2.length - k=bm)) _ ⟨0,nx+1,mk.set nx 1,U,J,List.Pairwise.nil,(Md.trans a1 aP),(Md.trans' a7 aP fun k _ h=>h.elim),bO,br,J,J⟩ ?_;rintro bm bz ao ⟨k,O,L,bx,ab,aX,aS,a5,aD,al,b8,rfl⟩;refine bw b8<|cg 6 J<|cd J (fun bY=> ?_) fun bY=> ?_;refine bM 5 J ?_;have cp:=bZ nx U;obtain ⟨⟨c,z⟩,hek⟩:∃ e,(aw a nx).2[k]? =some e:=⟨_,bK U⟩
   obtain ⟨⟨aN,cc⟩,hep⟩:∃ e,(aw a nx).2[k - 1]? =some e:=⟨_,bK U⟩
   have bb:=sV ab U;simp only [im] at bb;refine aH 2 J<|p (bF nE J J U<|av.ok U)<|p (fu q6 J (J)<|jS aS<|av.two hek)<|e<|ek xJ fun ap cy cm bR bC=>an 1 J<|e<|eK ux J J J J bC (by simp) fun aL bP bE=> ?_;have aY:aA aL.heap ap [aT .u8 c.toNat,.int .i64 z]:=⟨_,bE⟩
   have M:Wk ao aL:=Md.trans' bR.md bP fun k bx h=>by omega
   have bt:dX iZ aL E ms aa a.length cA O L:=⟨M.B aD.ax,M.B aD.eS,aj⟩
   have a6:Md (fun q=>q=E∨q=ms) w aL:=Md.trans' a5 M fun k _ h=>h.elim;have ck:=a5.size;refine aI 3 J ?_;have C:(fun w'=>Wk w0 w'∧aA w'.heap ac [bG (aw a nx).1,.slice ad (aw a nx).2.length ae]∧aA w'.heap ap [aT .u8 c.toNat,.int .i64 z]) aL.drew:=⟨(Md.trans aS M).drew,M.B al,aY⟩
   refine bh (fun w'=>Wk w0 w'∧aA w'.heap ac [bG (aw a nx).1,.slice ad (aw a nx).2.length ae]∧aA w'.heap ap [aT .u8 c.toNat,.int .i64 z]) J wide C<|ba [0,1,2] J C<|pO (t:=71) J (fun b3=> ?_) fun b3=> ?_;refine ba [3] J C<|eX 4 J (fun w' Z=>ay J<|Z.2.1.az 1) C<|ba [5] J C<|eX 6 J (fun _ _=>qk<|k - 1) C<|eX 7 J (fun _ _=>bF nE J J U<|av.ok U) C<|ba [8] J C<|eX 9 J (fun w' Z=>ay J (show _=some (aT .u8 (aN.toNat:Int)) from (av.wk Z.1).b (k - 1) (aN,cc) hep)) C<|ba [10] J C<|eX 11 J (fun w' Z=>ay J<|Z.2.2.az 0) C<|ba [12,13,14] J C<|pO (t:=83) J (fun b4=> ?_) fun b4=> ?_;refine ba [15,16,17,18,19,20] J C<|hn aq<|bl 10 J<|tr<|bl 2 J<|aO J ?_;rw [CD U (AR U hek hep<|by show c.toNat≤aN.toNat; omega)];exact ⟨J,a6.drew,fun s A=>by cases A⟩;refine ba [15,16] J C<|eX 17 J (fun w' Z=>ay J<|Z.2.2.az 1) C<|Aa 18 J aq J J J<|a9 (ih O L z _ (Md.trans aS M).drew (dX.drew bt) U U U) J ?_;rintro b9 ak ⟨rfl,V,bf⟩;have ag:Md (fun q=>q=E∨q=ms) w ak:=Md.trans a6<|Md.gA V;have au:Wk w0 ak:=Md.trans' a0 ag a2;have aE:(fun w'=>Wk w0 w'∧aA w'.heap ac [bG (aw a nx).1,.slice ad (aw a nx).2.length ae]∧aA w'.heap ap [aT .u8 c.toNat,.int .i64 z]) ak:=⟨au,V.B (M.B al) (fun e=>by omega),V.B aY fun e=>by omega⟩
   refine ⟨aE,?_⟩;refine ba [19,20] J aE<|hn aq<|dG 1 J<|cb J (fun ah=> ?_) fun ah=> ?_;have bc:vs a f (O,L) z=none:=by simpa using ah
   refine aJ 8 J<|tr<|bl 2 J<|aO J ?_;rw [sU (k:=k+1) U (by rw [lI ab hek]; exact bc)];exact ⟨J,ag,fun s A=>by cases A⟩;obtain ⟨aK,aF⟩:∃ s,vs a f (O,L) z=some s:=lT.1<|by simpa using ah
   exact aJ 7 J<|tn<|⟨_,U,k+1,aK.1,aK.2,U,(by rw [lI ab hek]; exact aF),(ss aX hek fun q h0 bd=>by rw [hep] at bd; cases bd; show aN.toNat < c.toNat; omega),au,ag,(bf _ aF),(V.B (M.B al) fun e=>by omega),J,J⟩
   refine ba [3,4,5,6,7,8,9,10,11,12,13] J C<|dr 14 J (mv) C<|ba [15,16] J C<|eX 17 J (fun w' Z=>ay J<|Z.2.2.az 1) C<|Aa 18 J aq J J J<|a9 (ih O L z _ (Md.trans aS M).drew (dX.drew bt) U U U) J ?_;rintro b9 ak ⟨rfl,V,bf⟩;have ag:Md (fun q=>q=E∨q=ms) w ak:=Md.trans a6<|Md.gA V;have au:Wk w0 ak:=Md.trans' a0 ag a2;have aE:(fun w'=>Wk w0 w'∧aA w'.heap ac [bG (aw a nx).1,.slice ad (aw a nx).2.length ae]∧aA w'.heap ap [aT .u8 c.toNat,.int .i64 z]) ak:=⟨au,V.B (M.B al) (fun e=>by omega),V.B aY fun e=>by omega⟩
   refine ⟨aE,?_⟩;refine ba [19,20] J aE<|hn aq<|dG 1 J<|cb J (fun ah=> ?_) fun ah=> ?_;have bc:vs a f (O,L) z=none:=by simpa using ah
   refine aJ 8 J<|tr<|bl 2 J<|aO J ?_;rw [sU (k:=k+1) U (by rw [lI ab hek]; exact bc)];exact ⟨J,ag,fun s A=>by cases A⟩;obtain ⟨aK,aF⟩:∃ s,vs a f (O,L) z=some s:=lT.1<|by simpa using ah
   exact aJ 7 J<|tn<|⟨_,U,k+1,aK.1,aK.2,U,(by rw [lI ab hek]; exact aF),(ss aX hek fun q h0 bd=>by omega),au,ag,(bf _ aF),(V.B (M.B al) fun e=>by omega),J,J⟩
   refine aJ 2 J<|cw<|dG 3 J ?_;obtain ⟨ce,bV⟩:=aD.eS;rw [show k=(aw a nx).2.length by omega,na] at ab aX;have bb:=sV ab U;simp only [im] at bb;have bg:=CA U aX ab;refine aH 4 J<|p (ay J<|aD.ax.az 2)<|an 1 J<|p (ia nD J J U)<|e<|dT uw J J J bV (by simp; omega) fun bi a4 bH=> ?_;have b5:aA bi.heap ms ((L.set nx 2).map iZ):=by rw [← vz]; exact ⟨_,bH⟩
   have aU:dX iZ bi E ms aa a.length cA O (L.set nx 2):=⟨a4.B aD.ax aj,b5,aj⟩
   have aV:Md (fun q=>q=E∨q=ms) w bi:=Md.trans a5<|a4.mono fun k _ h=> .inr h;have bo:=a4.B al fun e=>by omega
   refine an 5 J<|p (ay J<|bo.az 1)<|an 3 J<|gs (t:=101) J (fun b0=> ?_) fun b0=> ?_;refine an 3 J<|p mv<|an 7 J<|p aQ<|aB 3 J<|aO J ?_;rw [bg,if_pos (Ax U)];exact ⟨J,aV,fun s A=>by cases A; exact aU⟩;refine an 1 J<|bB J (ay J<|bo.az 0)<|an 2 J<|gb (t:=105) J (fun a8=> ?_) fun a8=> ?_;refine an 7 J<|p aQ<|aB 3 J<|aO J ?_;rw [bg,if_pos (Aw a8)];exact ⟨J,aV,fun s A=>by cases A; exact aU⟩;refine an 3 J<|bB J (ay J<|aU.ax.az 0)<|aB 7 J<|aO J ?_;rw [bg,vp U a8];by_cases h1:a.length=1;rw [if_pos (decide_eq_true h1)];exact ⟨congrArg bG (decide_eq_true U),aV,fun s A=>by cases A; exact aU⟩;rw [if_neg (by simpa using h1)];exact ⟨congrArg bG (decide_eq_false U),aV,fun s A=>by cases A⟩
def oz (a:List aG):Int:=if shaped a=true then 0 else 190
theorem ib {a:List aG} (h:shaped a=false):oz a=190:=if_neg<|by rw [h]; exact cQ
theorem oA {a:List aG} (h:shaped a=true):oz a=0:=if_pos h
def ja (x:Nat):ag:= .bool<|decide (x=2)
theorem H0 {mk:List Nat} {i:Nat} (h:mk.getD i 0=0):(mk.set i 1).map ja=mk.map ja:=by
 refine List.ext_getElem? fun j=> ?_;rw [fG,fG,oY];by_cases e:i=j
 · subst e;rw [if_pos rfl];by_cases A:i < mk.length
   · rw [if_pos A,bK A];rw [b9,bK A] at h;have h0:mk[i]=0:=h;rw [h0]; rfl
   · rw [if_neg A,List.getElem?_eq_none U]
 · rw [if_neg e]
theorem CP (n:Nat):∀ i,0≤i→(cJ n 0).getD i 0=0:=fun i _=>by
 rw [b9,List.getElem?_replicate]; split <;> rfl
set_option maxHeartbeats 1000000 in
theorem wQ (a:List aG) (aa:Option aZ) (cA:Nat) (w:ai) (ac:cU w.heap aa a) (av:a.length≤140737488355328) (am:∀ i,i < a.length→(aw a i).2.length≤1073741824):
 bp ar 62 (bD [.slice aa a.length cA]) w (fun v w'=>v= .int .i64 (oz a)∧Wk w w'):=by
 refine enter func62 J ntmps62 J<|aW 12 J<|gs (t:=7) J (fun ao=> ?_) fun ao=> ?_;exact aB 14 J<|aO J<|⟨iv (ib<|sE U).symm,Md.refl _ _⟩
 refine aI 6 J<|cd J (fun ak=> ?_) fun ak=> ?_;exact aJ 7 J<|aO J<|⟨iv (ib<|sE U).symm,Md.refl _ _⟩
 refine aH 7 J<|e<|eS (zv:= .int .u8 0) iL J J J J U (by unfold maxLen; omega) fun A au aE E ap=> ?_;have ae:aA au.heap A ((cJ a.length 0).map iZ):=by rw [tG]; exact vR<|ap _<|aV _
 refine p (eF (ps:= [(0,.slice aa a.length cA),(2,.slice (some ⟨A,0,none⟩) a.length a.length)]) (L:= [.slice aa a.length cA,.int .i64 0,.slice (some ⟨A,0,none⟩) a.length a.length]) JJ J<|J)<|e<|nr J fun O ab aD Z ad=> ?_;have ah:dX iZ ab O A aa a.length cA 0 (cJ a.length 0):=⟨ad,Z.md.B ae,by have :=E.size; omega⟩
 have V:Wk w ab:=Md.trans E.md Z.md;have aK:=E.md.size;refine an 7 J<|e<|a9 (Kp (a.length+1) a aa cA O A w 0 (cJ a.length 0) 0 _ ac U U V ah (by simp) U U U am) J ?_;rintro aM aq ⟨rfl,aj,bh⟩;have C:Wk w aq:=Md.trans' V aj fun k aF h=>by omega
 refine an 2 J<|gb (t:=21) J (fun I=> ?_) fun I=> ?_;have hn:vs a (a.length+1) (0,cJ a.length 0) 0=none:=by simpa using I
 exact aB 18 J<|aO J<|⟨iv (ib<|BI hn).symm,C⟩
 obtain ⟨aL,M⟩:∃ s,vs a (a.length+1) (0,cJ a.length 0) 0=some s:=lT.1<|by simpa using I
 have ag:=bh _ M;refine an 3 J<|bB J (ay J<|ag.ax.az 1)<|aI 6 J<|cd J (fun al=> ?_) fun al=> ?_;exact aJ 7 J<|aO J<|⟨iv (ib<|by rw [sF U U M]; exact decide_eq_false U).symm,C⟩
 exact aJ 8 J<|aO J<|⟨iv (oA<|by rw [sF U U M]; exact decide_eq_true U).symm,C⟩
set_option maxHeartbeats 1000000 in
theorem Kq (f:Nat) (a:List aG) (aa:Option aZ) (cA A ms:Nat) (w0:ai) (nx:Nat) (mk:List Nat) (n:Int) (w:ai) (a6:cU w0.heap aa a) (cf:w0.heap.size≤A) (hm:w0.heap.size≤ms) (aQ:Wk w0 w) (I:dX ja w A ms aa a.length cA nx mk) (ca:mk.length=a.length) (ce:nx≤a.length) (b9:a.length < f+nx) (hb:a.length≤1048576) (bN:∀ i,i < a.length→(aw a i).2.length≤1073741824) (bf:∀ i,nx≤i→mk.getD i 0=0):
 bp ar 70 (bD [aR A,.int .i64 n]) w (fun v w'=>v= .bool (vs a f (nx,mk) n).isSome∧Md (fun q=>q=A∨q=ms) w w'∧∀ s,vs a f (nx,mk) n=some s→dX ja w' A ms aa a.length cA s.1 s.2):=by
 induction f generalizing nx mk n w with
 | zero=>omega
 | succ f ih=>
   have aU:∀ k,k < w0.heap.size→(k=A∨k=ms)→False:=fun k h1 b5=>U;have cg:=I.ax.lt;have cc:=I.eS.lt;have al:=I.ne;obtain ⟨b4,bC⟩:=I.ax;refine enter func70 J ntmps70 J<|aW 11 J<|gs (t:=10) J (fun bO=> ?_) fun bO=> ?_;refine an 8 J<|p mv<|aB 17 J<|aO J ?_;rw [qz U U];exact ⟨J,Md.refl _ _,fun s E=>by cases E⟩;refine an 4 J<|bB J (ay J<|I.ax.az 0)<|an 4 J<|gs (t:=19) J (fun bP=> ?_) fun bP=> ?_;refine aB 17 J<|aO J ?_;have bY:vs a (f+1) (nx,mk) n=none:=by
    by_cases h:n=nx;exact CE h U;exact qz h U
   rw [bY];exact ⟨J,Md.refl _ _,fun s E=>by cases E⟩;refine an 4 J<|bB J (ay J<|I.ax.az 1)<|aI 4 J<|cd J (fun bE=> ?_) fun bE=> ?_;refine aJ 7 J<|aO J ?_;rw [qz U U];exact ⟨J,Md.refl _ _,fun s E=>by cases E⟩;refine aH 9 J<|p (ay J<|I.ax.az 1)<|aI 3 J<|cd J (fun bH=> ?_) fun bH=> ?_;exact aH 5 J<|p (ay J<|I.ax.az 2)<|an 1 J<|p (ia zM J J U)<|p (ay J (show _=some (bG<|decide (mk.getD n.toNat 0=2)) from np I.eS (i:=n.toNat) U))<|aB 5 J<|aO J<|⟨congrArg bG ((Cy U U U).trans<|by rw [decide_eq_decide]; omega).symm,Md.refl _ _,fun s E=>by rw [Cz U E]; exact I⟩
   obtain rfl :n=(nx:Int):=U;refine aH 8 J<|p (ay J<|I.ax.az 1)<|p (cq<|nx+1)<|an 2 J<|e<|dT di J J J bC (by simp) fun aN bc bq=> ?_;have aX:dX ja aN A ms aa a.length cA (nx+1) (mk.set nx 1):=⟨⟨_,bq⟩,by rw [H0 (bf nx<|aV _)]; exact bc.B I.eS (fun e=>al e.symm),al⟩
   have aY:Md (fun q=>q=A∨q=ms) w aN:=bc.mono fun k _ h=> .inl h;have a7:Wk w0 aN:=Md.trans' aQ aY aU;obtain ⟨aD,aE,bn,V⟩:=a6.two (i:=nx) U;refine an 7 J<|p (ay J<|aX.ax.az 0)<|an 1 J<|p (bF gC J J U<|a6.ok U)<|p (fu yp J (J)<|jS a7 bn)<|e<|ek CU fun ad ch b7 bz br=>e<|eK y8 J J J J br (by simp) fun au bv bt=> ?_;have aP:aA au.heap ad [bG (aw a nx).1,.slice aD (aw a nx).2.length aE]:=⟨_,bt⟩
   have aF:Wk aN au:=Md.trans' bz.md bv fun k bS h=>by omega
   have a8:dX ja au A ms aa a.length cA (nx+1) (mk.set nx 1):=⟨aF.B aX.ax,aF.B aX.eS,al⟩
   have b6:=aY.size;have bd:Md (fun q=>q=A∨q=ms) w au:=Md.trans' aY aF fun k _ h=>h.elim;refine aI 2 J ?_;refine dv (fun bj bi=>(fL a (aw a nx)=true)∧(bi=au)∧(Sl bj [(0,aR A),(1,.int .i64 (nx:Int)),(5,aR ad)])) ?_ ?_;refine aW 3 J<|p (ay J<|aP.az 1)<|an 3 J<|gs (t:=59) J (fun bQ=> ?_) fun bQ=> ?_;refine an 1 J<|bB J (ay J<|aP.az 0)<|an 3 J<|gb (t:=64) J (fun aL=> ?_) fun aL=> ?_;refine an 3 J<|bB J (ay J<|a8.ax.az 0)<|aI 5 J<|cd J (fun bI=> ?_) fun bI=> ?_;refine aJ 6 J<|tr<|aO J ?_;rw [Ks U (by rw [vp U (by simpa using aL)]; exact decide_eq_false U)];exact ⟨J,bd,fun s E=>by cases E⟩;exact aJ 1 J<|tn<|⟨(by rw [vp U (by simpa using aL)]; exact decide_eq_true U),J,J⟩
   exact aB 11 J<|tn<|⟨(Aw<|by simpa using aL),J,J⟩
   exact an 4 J<|p mv<|aB 11 J<|tn<|⟨(Ax U),J,J⟩
   rintro bj bi ⟨bT,b0,bW⟩;refine bw bW ?_;subst b0;refine bM 7 J<|lp (fun a5 bm ag=> ∃ (k M:Nat) (L:List Nat),(k≤(aw a nx).2.length)∧(e9 a f (nx+1) (mk.set nx 1) ((aw a nx).2.take k)=some (M,L))∧(eN<|(aw a nx).2.take k)∧(Wk w0 ag)∧(Md (fun q=>q=A∨q=ms) w ag)∧(dX ja ag A ms aa a.length cA M L)∧(aA (ag).heap ad [bG (aw a nx).1,.slice aD (aw a nx).2.length aE])∧(Sl bm [(0,aR A),(1,.int .i64 (nx:Int)),(5,aR ad),(6,.int .i64 k)])∧((aw a nx).2.length - k=a5)) _ ⟨0,nx+1,mk.set nx 1,U,J,List.Pairwise.nil,(Md.trans a7 aF),bd,a8,aP,J,J⟩ ?_;rintro a5 bm ag ⟨k,M,L,bS,O,aM,ah,aK,aj,ae,bX,rfl⟩;refine bw bX<|aW 5 J<|p (ay J<|ae.az 1)<|aI 4 J<|cd J (fun bJ=> ?_) fun bJ=> ?_;refine bM 6 J ?_;have b8:=bN nx U;obtain ⟨⟨c,z⟩,hek⟩:∃ e,(aw a nx).2[k]? =some e:=⟨_,bK U⟩
   obtain ⟨⟨av,b2⟩,hep⟩:∃ e,(aw a nx).2[k - 1]? =some e:=⟨_,bK U⟩
   have a0:=sV O U;simp only [im] at a0;have bg:=Ky O fun i hi=>by rw [getD_set_ne _ _ U]; exact bf i U
   have C:(fun w'=>Wk w0 w'∧aA w'.heap ad [bG (aw a nx).1,.slice aD (aw a nx).2.length aE]) ag.drew:=⟨ah.drew,ae⟩
   refine bh (fun w'=>Wk w0 w'∧aA w'.heap ad [bG (aw a nx).1,.slice aD (aw a nx).2.length aE]) J wide C<|ba [0,1,2] J C<|pO (t:=81) J (fun bR=> ?_) fun bR=> ?_;refine ba [3] J C<|eX 4 J (fun w' ab=>ay J<|ab.2.az 1) C<|ba [5] J C<|eX 6 J (fun _ _=>bF jE J J U<|V.ok U) C<|ba [7] J C<|eX 8 J (fun w' ab=>ay J (show _=some (aT .u8 (c.toNat:Int)) from (V.wk ab.1).b k (c,z) hek)) C<|ba [9] J C<|eX 10 J (fun w' ab=>ay J<|ab.2.az 1) C<|ba [11] J C<|eX 12 J (fun _ _=>qk<|k - 1) C<|eX 13 J (fun _ _=>bF jE J J U<|V.ok U) C<|ba [14] J C<|eX 15 J (fun w' ab=>ay J (show _=some (aT .u8 (av.toNat:Int)) from (V.wk ab.1).b (k - 1) (av,b2) hep)) C<|ba [16,17] J C<|hn aq<|dG 1 J<|cd J (fun bL=> ?_) fun bL=> ?_;refine aJ 9 J<|tr<|bl 2 J<|aO J ?_;rw [CD U (AR U hek hep<|by show c.toNat≤av.toNat; omega)];exact ⟨J,aK.drew,fun s E=>by cases E⟩;refine aH 6 J<|p (ay J<|ae.az 1)<|an 1 J<|p (bF jE J J U<|V.ok U)<|an 1 J<|p (ay J (show _=some (aT .i64 z) from (V.wk ah).to k (c,z) hek))<|e<|a9 (ih M L z _ (Md.drew ah) (dX.drew aj) U U U bg) J ?_;rintro b1 ap ⟨rfl,ak,a3⟩;have Z:Md (fun q=>q=A∨q=ms) w ap:=Md.trans aK<|Md.gA ak;have aS:Wk w0 ap:=Md.trans' aQ Z aU;refine aI 9 J<|cb J (fun ac=> ?_) fun ac=> ?_;have a1:vs a f (M,L) z=none:=by simpa using ac
   refine aJ 8 J<|tr<|bl 2 J<|aO J ?_;rw [sU (k:=k+1) U (by rw [lI O hek]; exact a1)];exact ⟨J,Z,fun s E=>by cases E⟩;obtain ⟨ao,am⟩:∃ s,vs a f (M,L) z=some s:=lT.1<|by simpa using ac
   exact aJ 8 J<|tn<|⟨_,U,k+1,ao.1,ao.2,U,(by rw [lI O hek]; exact am),(ss aM hek fun q h0 a2=>by rw [hep] at a2; cases a2; show av.toNat < c.toNat; omega),aS,Z,(a3 _ am),(ak.B ae fun e=>by omega),J,J⟩
   refine ba [3,4,5,6,7,8,9,10,11,12,13,14,15,16,17] J C<|hn aq<|iC 8 J<|p (ay J<|ae.az 1)<|an 1 J<|p (bF jE J J U<|V.ok U)<|an 1 J<|p (ay J (show _=some (aT .i64 z) from (V.wk ah).to k (c,z) hek))<|e<|a9 (ih M L z _ (Md.drew ah) (dX.drew aj) U U U bg) J ?_;rintro b1 ap ⟨rfl,ak,a3⟩;have Z:Md (fun q=>q=A∨q=ms) w ap:=Md.trans aK<|Md.gA ak;have aS:Wk w0 ap:=Md.trans' aQ Z aU;refine aI 9 J<|cb J (fun ac=> ?_) fun ac=> ?_;have a1:vs a f (M,L) z=none:=by simpa using ac
   refine aJ 8 J<|tr<|bl 2 J<|aO J ?_;rw [sU (k:=k+1) U (by rw [lI O hek]; exact a1)];exact ⟨J,Z,fun s E=>by cases E⟩;obtain ⟨ao,am⟩:∃ s,vs a f (M,L) z=some s:=lT.1<|by simpa using ac
   exact aJ 8 J<|tn<|⟨_,U,k+1,ao.1,ao.2,U,(by rw [lI O hek]; exact am),(ss aM hek fun q h0 a2=>by omega),aS,Z,(a3 _ am),(ak.B ae fun e=>by omega),J,J⟩
   refine aJ 2 J<|cw<|dG 3 J ?_;obtain ⟨b3,bA⟩:=aj.eS;rw [show k=(aw a nx).2.length by omega,na] at O aM;have a0:=sV O U;simp only [im] at a0;have bZ:=CA U aM O;refine aH 4 J<|p (ay J<|aj.ax.az 2)<|an 1 J<|p (ia zM J J U)<|e<|dT yX J J J bA (by simp; omega) fun a4 bb bo=> ?_;have bV:aA a4.heap ms ((L.set nx 2).map ja):=by rw [← vz]; exact ⟨_,bo⟩
   have bu:dX ja a4 A ms aa a.length cA M (L.set nx 2):=⟨bb.B aj.ax al,bV,al⟩
   have bx:Md (fun q=>q=A∨q=ms) w a4:=Md.trans aK<|bb.mono fun k _ h=> .inr h;refine aB 8 J<|aO J ?_;rw [bZ,if_pos bT];exact ⟨J,bx,fun s E=>by cases E; exact bu⟩
set_option maxHeartbeats 1000000 in
theorem Jw (a:List aG) (aa:Option aZ) (cA:Nat) (w:ai) (ac:cU w.heap aa a) (av:a.length≤140737488355328) (am:∀ i,i < a.length→(aw a i).2.length≤1073741824):
 bp ar 50 (bD [.slice aa a.length cA]) w (fun v w'=>v= .int .i64 (oz a)∧Wk w w'):=by
 refine enter func50 J ntmps50 J<|aW 12 J<|gs (t:=8) J (fun ao=> ?_) fun ao=> ?_;exact aB 14 J<|aO J<|⟨iv (ib<|sE U).symm,Md.refl _ _⟩
 refine aI 6 J<|cd J (fun ak=> ?_) fun ak=> ?_;exact aJ 7 J<|aO J<|⟨iv (ib<|sE U).symm,Md.refl _ _⟩
 refine aH 7 J<|e<|eS (zv:= .bool false) JD J J J J U (by unfold maxLen; omega) fun A au aE E ap=> ?_;have ae:aA au.heap A ((cJ a.length 0).map ja):=by rw [tG]; exact vR<|ap _<|aV _
 refine p (eF (ps:= [(0,.slice aa a.length cA),(2,.slice (some ⟨A,0,none⟩) a.length a.length)]) (L:= [.slice aa a.length cA,.int .i64 0,.slice (some ⟨A,0,none⟩) a.length a.length]) JI J<|J)<|e<|nr J fun O ab aD Z ad=> ?_;have ah:dX ja ab O A aa a.length cA 0 (cJ a.length 0):=⟨ad,Z.md.B ae,by have :=E.size; omega⟩
 have V:Wk w ab:=Md.trans E.md Z.md;have aK:=E.md.size;refine an 6 J<|e<|a9 (Kq (a.length+1) a aa cA O A w 0 (cJ a.length 0) 0 _ ac U U V ah (by simp) U U U am<|CP _) J ?_;rintro v20 aq ⟨rfl,aj,bh⟩;have C:Wk w aq:=Md.trans' V aj fun k aF h=>by omega
 refine an 9 J<|gb (t:=23) J (fun I=> ?_) fun I=> ?_;have hn:vs a (a.length+1) (0,cJ a.length 0) 0=none:=by simpa using I
 exact aB 18 J<|aO J<|⟨iv (ib<|BI hn).symm,C⟩
 obtain ⟨aL,M⟩:∃ s,vs a (a.length+1) (0,cJ a.length 0) 0=some s:=lT.1<|by simpa using I
 have ag:=bh _ M;refine an 3 J<|bB J (ay J<|ag.ax.az 1)<|aI 6 J<|cd J (fun al=> ?_) fun al=> ?_;exact aJ 7 J<|aO J<|⟨iv (ib<|by rw [sF U U M]; exact decide_eq_false U).symm,C⟩
 exact aJ 8 J<|aO J<|⟨iv (oA<|by rw [sF U U M]; exact decide_eq_true U).symm,C⟩
end Go.Hb
end
section
namespace Go.Hb.gO
open Go.Hb.ei
theorem Kb {s:List UInt8} {i:Nat} (h:i < s.length):(s.drop i).take 1= [s.getD i 0]:=by
 rw [drop_cons 0 h]; rfl
def lE (l:List (Bool×ag)):List ag:=l.flatMap fun q=> [.bool q.1,q.2]
def iB (l:List (UInt8×Int)):List ag:=l.flatMap fun e=> [.int .u8 e.1.toNat,.int .i64 e.2]
theorem Tg.nP {F:Nat→Prop} {w w':ai} {B e n:Nat} {v:ag} {xs:List ag} (h:Tg w B e n v xs) (hm:Md F w w') (E:∀ k,F k→B≤k→∀ cur z,w.heap[k]?≠some (.cells cur e z)):Tg w' B e n v xs:=by
 obtain ⟨a,A,rfl,C,h | ⟨b,cur,z,rfl,hb,hg,L⟩⟩:=h
 · exact ⟨a,A,J,C,.inl h⟩
 · exact ⟨_,A,J,C,.inr ⟨b,cur,z,J,hb,by rw [hm.eY b (eM.1 hg).1 (fun I=>E b I hb cur z hg)]; exact hg,L⟩⟩
theorem AQ {w:ai} {k:Nat} (h:w.heap.size≤k) (cur:Array ag) (e:Nat) (z:Nat×Nat):w.heap[k]?≠some (.cells cur e z):=by
 rw [Array.getElem?_eq_none h]; intro h; cases h
def fS (w:ai) (B:Nat) (svs:List (Bool×ag)) (l:List aG):Prop :=svs.length=l.length∧∀ (i:Nat) q e,svs[i]? =some q→l[i]? =some e→q.1=e.1∧Tg w B 65 e.2.length q.2 (iB e.2)
theorem fS.nil (w:ai) (B:Nat):fS w B [] []:=⟨rfl,fun i q r A=>by simp at A⟩
theorem fS.md {F:Nat→Prop} {w w':ai} {B:Nat} {svs:List (Bool×ag)} {l:List aG} (h:fS w B svs l) (hm:Md F w w') (C:∀ k,F k→B≤k→∀ cur z,w.heap[k]?≠some (.cells cur 65 z)):fS w' B svs l:=
 ⟨h.1,fun i q r h1 A=>⟨(h.2 i q r h1 A).1,Tg.nP (h.2 i q r h1 A).2 hm C⟩⟩
theorem fS.wk {w w':ai} {B:Nat} {svs:List (Bool×ag)} {l:List aG} (h:fS w B svs l) (hm:Wk w w'):fS w' B svs l:=h.md hm fun _ A=>A.elim
theorem fS.snoc {w:ai} {B:Nat} {svs:List (Bool×ag)} {l:List aG} {v:ag} {e:aG} (ha:fS w B svs l) (E:Tg w B 65 e.2.length v (iB e.2)):fS w B (svs++ [(e.1,v)]) (l++ [e]):=by
 refine ⟨by rw [bL,bL,ha.1]; rfl,fun i q' r' h1 A=> ?_⟩;have C:=ha.1;by_cases hi:i < svs.length
 · rw [ey hi] at h1;rw [ey U] at A;exact ha.2 i q' r' h1 A
 · rw [ez U] at h1;rw [ez U,← C] at A;cases hj:i - svs.length with
   | zero=>rw [hj] at h1 A; cases h1; cases A; exact ⟨rfl,E⟩
   | succ j=>rw [hj] at h1; simp at h1
def fH (w:ai) (B:Nat) (v:ag) (l:List aG):Prop := ∃ svs,Tg w B 63 l.length v (lE svs)∧fS w B svs l
theorem fH.md {F:Nat→Prop} {w w':ai} {B:Nat} {v:ag} {l:List aG} (h:fH w B v l) (hm:Md F w w') (C:∀ k,F k→B≤k→∀ cur z,w.heap[k]?≠some (.cells cur 63 z)∧w.heap[k]?≠some (.cells cur 65 z)):fH w' B v l:=by
 obtain ⟨svs,h1,E⟩:=h;exact ⟨svs,Tg.nP h1 hm fun k A hb cur z=>(C k A hb cur z).1,E.md hm fun k A hb cur z=>(C k A hb cur z).2⟩
theorem fH.wk {w w':ai} {B:Nat} {v:ag} {l:List aG} (h:fH w B v l) (hm:Wk w w'):fH w' B v l:=h.md hm fun _ A=>A.elim
theorem fH.mono {w:ai} {B B':Nat} {v:ag} {l:List aG} (h:fH w B v l) (C:B'≤B):fH w B' v l:=by
 obtain ⟨svs,h1,I,A⟩:=h;exact ⟨svs,h1.mono C,I,fun i q e E he=>⟨(A i q e E he).1,(A i q e E he).2.mono C⟩⟩
theorem fH.jQ {w:ai} {B:Nat} {v:ag} {l:List aG} (h:fH w B v l):∃ aa cc,v= .slice aa l.length cc∧l.length≤cc∧cU w.heap aa l:=by
 obtain ⟨svs,h1,ah,ac⟩:=h;obtain ⟨aa,cc,rfl⟩:=h1.slice;obtain ⟨ad,I⟩:=h1.rh;refine ⟨aa,cc,J,ad,fun h0=>aU.ok I (pK (f:=fun q:Bool×ag=> [bG q.1,q.2]) (m:=2) (fun _=>rfl) aX U),fun i hi=> ?_⟩;have M:svs[i]? =some (svs[i]'U):=bK U;have ae:l[i]? =some (aw l i):=by
  unfold aw;rw [b9,bK hi]; rfl
 obtain ⟨ab,C⟩:=ac i _ _ M ae;obtain ⟨V,Z,O⟩:=C.slice;have E:=C;rw [O] at E;obtain ⟨_,A⟩:=E.rh;have L:=mg (f:=fun q:Bool×ag=> [bG q.1,q.2]) (m:=2) (fun _=>rfl) I M;refine ⟨V,Z,by rw [L 0 U,ab]; rfl,by rw [L 1 U,O]; rfl,fun h0=>aU.ok A (pK (f:=fun e:UInt8×Int=> [aT .u8 e.1.toNat,.int .i64 e.2]) (m:=2) (fun _=>rfl) aX h0),fun k e he=> ?_,fun k e he=> ?_⟩
 · exact mg (f:=fun e:UInt8×Int=> [aT .u8 e.1.toNat,.int .i64 e.2]) (m:=2) (fun _=>rfl) A he 0 U
 · exact mg (f:=fun e:UInt8×Int=> [aT .u8 e.1.toNat,.int .i64 e.2]) (m:=2) (fun _=>rfl) A he 1 U
theorem BH (svs:List (Bool×ag)) (q:Bool×ag):lE (svs++ [q])=lE svs++ [.bool q.1,q.2]:=by simp [lE]
theorem zu (es:List (UInt8×Int)) (e:UInt8×Int):iB (es++ [e])=iB es++ [.int .u8 e.1.toNat,.int .i64 e.2]:=by simp [iB]
section
variable {s:List UInt8} {n a e t p v k:Nat} {es:List (UInt8×Int)} {l:List aG}
theorem zw (h:s.length≤a):dO s n a= .error 60:=by unfold dO; rw [if_pos h]
theorem zx (h:¬s.length≤a) (h1:bf s (a+1)= .error e):dO s n a= .error e:=by unfold dO; rw [if_neg h,h1]
theorem zy (h:¬s.length≤a) (h1:bf s (a+1)= .ok (t,p)) (A:n≤t):dO s n a= .error 190:=by unfold dO; rw [if_neg h,h1]; exact if_pos A
theorem zz (h:¬s.length≤a) (h1:bf s (a+1)= .ok (t,p)) (A:¬n≤t):dO s n a= .ok ((s.getD a 0,(t:Int)),p):=by unfold dO; rw [if_neg h,h1]; exact if_neg A
theorem BY (h:bf s a= .error e):eT s n a= .error e:=by unfold eT; rw [h]
theorem BZ (h:bf s a= .ok (v,p)) (A:256 < v / 2):eT s n a= .error 190:=by unfold eT; rw [h]; exact if_pos A
theorem B5 (h:bf s a= .ok (v,p)) (A:¬256 < v / 2) (C:cm (dO s n) (v / 2) p= .error e):eT s n a= .error e:=by unfold eT; rw [h]; simp only; rw [if_neg A,C]
theorem B6 (h:bf s a= .ok (v,p)) (A:¬256 < v / 2) (C:cm (dO s n) (v / 2) p= .ok (es,t)):eT s n a= .ok ((decide (v % 2=1),es),t):=by unfold eT; rw [h]; simp only; rw [if_neg A,C]
theorem Br (h:bf s a= .error e):cM s a= .error e:=by unfold cM; rw [h]
theorem sB (h:bf s a= .ok (n,p)) (A:n=0∨1048576 < n):cM s a= .error 190:=by unfold cM; rw [h]; exact if_pos A
theorem ow (h:bf s a= .ok (n,p)) (A:¬(n=0∨1048576 < n)) (C:cm (eT s n) n p= .error e):cM s a= .error e:=by unfold cM; rw [h]; simp only; rw [if_neg A,C]
theorem Bs (h:bf s a= .ok (n,p)) (A:¬(n=0∨1048576 < n)) (C:cm (eT s n) n p= .ok (l,t)) (E:shaped l=false):cM s a= .error 190:=by unfold cM; rw [h]; simp only; rw [if_neg A,C]; simp only; rw [E]; rfl
theorem Bt (h:bf s a= .ok (n,p)) (A:¬(n=0∨1048576 < n)) (C:cm (eT s n) n p= .ok (l,t)) (E:shaped l=true):cM s a= .ok (l,t):=by unfold cM; rw [h]; simp only; rw [if_neg A,C]; simp only; rw [E]; rfl
end
theorem Jk (rb:Nat) (s:List UInt8) (a:Nat) (w:ai) (a7:aA w.heap rb [str s,.int .i64 (a:Nat)]) (aO:s.length≤1048576) (ha:a≤s.length):
 lX ar 45 (bD [.pointer (some ⟨rb,0,none⟩)]) w (fun v w'=> ∃ l p,cM s a= .ok (l,p)∧fH w' w.heap.size v l∧aA w'.heap rb [str s,.int .i64 (p:Nat)]∧Md (fun k=>k=rb) w w') (fun c w'=> ∃ e,cM s a= .error e∧c=ke e∧Md (fun k=>k=rb) w w'):=by
 have da:=a7.lt;refine pI func45 J ntmps45 J<|aW 7 J<|p mv<|eP J (dU ns (nS rb s (a) w a7 aO<|ha) J fun v10 br bY=> ?_) fun c w' A σ' O=>by obtain ⟨e,he,aq,al⟩:=A; exact ⟨e,Br he,aq,al⟩
 obtain ⟨n,a3,Z,rfl,bA,aT⟩:=bY;obtain ⟨cV,c0,c3⟩:=iJ Z;refine aI 3 J ?_;refine dv (fun bt a4=> ∃ (cC:Unit),(¬(n=0∨1048576 < n))∧(aA a4.heap rb [str s,.int .i64 (a3:Nat)])∧(Md (fun k=>k=rb) w a4)∧(Sl bt [(0,.pointer (some ⟨rb,0,none⟩)),(3,.int .u64 (n:Nat))])) ?_ ?_;refine aW 1 J<|p mv<|an 3 J<|gs (t:=14) J (fun ca=> ?_) fun ca=> ?_;refine an 3 J<|eP J (dU jb (jq _ _ _ br) J fun cD cF aZ=> ?_) fun c w' A σ' O=>⟨190,sB Z (by have :=of_decide_eq_false A.2.1; omega),A.1,by rw [A.2.2]; exact aT⟩
 obtain ⟨rfl,bp,rfl⟩:=aZ;have bp:=of_decide_eq_true bp;exact aB 1 J<|tn<|⟨(),U,bA,aT,J⟩
 refine an 3 J<|eP J (dU jb (jq _ _ _ br) J fun cD cF aZ=> ?_) fun c w' A σ' O=>⟨190,sB Z U,A.1,by rw [A.2.2]; exact aT⟩
 exact absurd aZ.2.1 aX;rintro bt a4 ⟨cC,au,bR,bX,cj⟩;refine bw cj<|bM 13 J<|lp (fun aj bu M=> ∃ (k:Nat) (l:List aG) (svs:List (Bool×ag)) (ac:ag) (q:Nat),(k≤n)∧(cm (eT s n) k a3= .ok (l,q))∧(q≤s.length)∧(cy M w.heap.size 63 2 ac svs.length<|lE svs)∧(fS M w.heap.size svs l)∧(aA M.heap rb [str s,.int .i64 (q:Nat)])∧(Md (fun k=>k=rb) w M)∧(Sl bu [(0,.pointer (some ⟨rb,0,none⟩)),(3,.int .u64 (n:Nat)),(4,ac),(19,.int .u64 (n:Nat)),(20,.int .u64 (k:Nat))])∧(n - k=aj)) _ ⟨0,[],[],.slice none 0 0,a3,U,J,U,(fF _ _ _ _),(fS.nil _ _),bR,bX,J,J⟩ ?_;rintro aj bu M ⟨k,l,svs,ac,q,C,I,c8,aM,bh,a8,ae,ck,rfl⟩;refine bw ck<|cg 6 J<|cd J (fun b7=> ?_) fun b7=> ?_;refine aH 7 J<|eP J (dU ns (nS rb s (q) M a8 aO U) J fun dq cG bZ=> ?_) fun c w' A σ' O=>by obtain ⟨e,he,aq,al⟩:=A; exact ⟨e,ow Z au (gD I (BY he) U),aq,ae.trans al⟩
 obtain ⟨v0,p1,aK,rfl,bC,aD⟩:=bZ;obtain ⟨cW,c1,c4⟩:=iJ aK;refine an 7 J<|p (qu J J U<|gi U)<|an 1 J<|eP J (dU jb (jq _ _ _ cG) J fun dr cH b0=> ?_) fun c w' A σ' O=>⟨190,ow Z au (gD I (BZ aK<|by have :=of_decide_eq_false A.2.1; omega) U),A.1,by rw [A.2.2]; exact ae.trans aD⟩
 obtain ⟨rfl,cu,rfl⟩:=b0;have bm:¬256 < v0 / 2:=by have :=of_decide_eq_true cu; omega
 have bW:=ae.trans aD;refine an 5 J<|p (rm J J U)<|an 1 J<|p (eF (ps:= [(0,.bool (decide ((v0:Int) % 2=1)))]) (L:= [.bool (decide ((v0:Int) % 2=1)),.slice none 0 0]) JL J<|J)<|e<|ek CS fun ad dE cR bj bJ=> ?_;have dl:=bj.size;refine e<|eK yZ J J J J bJ (by simp) fun ah bi bO=> ?_;have bP:aA ah.heap ad [.bool (decide ((v0:Int) % 2=1)),.slice none 0 0]:=⟨_,bO⟩
 have ax:Wk cH ah:=bj.md.trans' bi fun k C h=>by omega
 have bQ:=Wk.B ax bC;have dp:=ae.size;have dh:=aD.size;have dm:=ax.size;have dn:=bi.size;have bV:Md (fun k=>k=rb) w ah:=bW.trans<|ax.mono fun _ _ h=>h.elim;refine an 6 J<|p (qu J J U<|gi U)<|aI 4 J<|lp (fun aj bv ab=> ∃ (j:Nat) (es:List (UInt8×Int)) (aS:ag) (E:Nat),(j≤v0 / 2)∧(cm (dO s n) j p1= .ok (es,E))∧(E≤s.length)∧(cy ab ah.heap.size 65 2 aS es.length<|iB es)∧(aA ab.heap rb [str s,.int .i64 (E:Nat)])∧(aA ab.heap ad [.bool (decide ((v0:Int) % 2=1)),aS])∧(Md (fun k=>k=rb∨k=ad) ah ab)∧(Sl bv [(0,.pointer (some ⟨rb,0,none⟩)),(3,.int .u64 (n:Nat)),(4,ac),(5,.int .u64 (v0:Nat)),(6,.pointer (some ⟨ad,0,none⟩)),(19,.int .u64 (n:Nat)),(20,.int .u64 (k:Nat)),(34,.int .u64 ((v0 / 2:Nat):Int)),(35,.int .u64 (j:Nat))])∧(v0 / 2 - j=aj)) _ ⟨0,[],.slice none 0 0,p1,U,J,U,(fF _ _ _ _),bQ,bP,(Md.refl _ _),J,J⟩ ?_;rintro aj bv ab ⟨j,es,aS,E,cZ,aL,c9,av,ba,bb,ak,co,rfl⟩;refine bw co ?_;have cT:=gW aL;have a1:∀ e,dO s n E= .error e→j < v0 / 2→cM s a= .error e:=fun e he cb=>ow Z au<|gD I (B5 aK bm<|gD aL he cb) U;have az:Md (fun k=>k=rb) w ab:=bV.trans' ak fun k C h=>by rcases h with h | h; exact h; omega
 refine cg 6 J<|cd J (fun b8=> ?_) fun b8=> ?_;refine aH 7 J<|eP J (dU yK (Cj rb s E 1 ab ba aO U U) J fun ds cI b1=> ?_) fun c w' A σ' O=>⟨60,a1 _ (zw U) U,A.2.1,az.trans A.2.2⟩
 obtain ⟨dg,bn,bE,aY⟩:=b1;rw [Kb U] at bn;subst bn;refine p (rP 0 u9 J J<|by simp)<|an 6 J<|eP J (dU ns (nS rb s (E+1) cI bE aO U) J fun dt cJ b2=> ?_) fun c w' A σ' O=>by obtain ⟨e,he,aq,al⟩:=A; exact ⟨e,a1 _ (zx U he) U,aq,(az.trans aY).trans al⟩
 obtain ⟨to,cB,a0,rfl,bF,bg⟩:=b2;obtain ⟨cY,c2,c5⟩:=iJ a0;refine an 9 J<|eP J (dU jb (jq _ _ _ cJ) J fun dw dA b3=> ?_) fun c w' A σ' O=>⟨190,a1 _ (zy U a0<|by have :=of_decide_eq_false A.2.1; omega) U,A.1,by rw [A.2.2]; exact (az.trans aY).trans bg⟩
 obtain ⟨rfl,cv,rfl⟩:=b3;have ct:¬n≤to:=by have :=of_decide_eq_true cv; omega
 have aE:=aY.trans bg;have bc:=aE.B bb fun h=>by omega
 have cz:=ak.size;have di:=aE.size;refine an 4 J<|p (ay J<|bc.aN 1)<|an 2 J<|p (gr u3 lH J<|iN U)<|p (eF (ps:= [(0,.int .u8 (s.getD E 0).toNat),(1,.int .i64 (to:Nat))]) (L:= [.int .u8 (s.getD E 0).toNat,.int .i64 (to:Nat)]) JM J<|J)<|e<|nq BT J J J fun cN dB cP ao bG=> ?_;have dj:=ao.size;have ci:=bN (du av aE fun k C h=>by have :=de av C; omega) ao.md;refine e<|ap BT (ci) J U J (aU.fZ bG) (J) (J) U U fun dx dC bl aF cw b9=> ?_;have cw:=aF.size;have aP:∀ k,aS.ownBlock=some k→ah.heap.size≤k:=fun k h=>(de av h).1;have bT:=aF.B (Wk.B ao.md bc) fun h=>by have :=aP ad h; omega
 have bH:=aF.B (Wk.B ao.md bF) fun h=>by have :=aP rb h; omega
 obtain ⟨bx,bz,rfl⟩:=dK bl;refine an 1 J<|e<|st FQ J J (J) (bT) (by simp) fun dH aV bB=> ?_;have bS:=aV.B bH fun h=>by omega
 exact aB 7 J<|tn<|⟨_,U,j+1,es++ [(s.getD E 0,(to:Int))],.slice bx (es.length+1) bz,cB,U,(ll aL<|zz U a0 ct),U,(by rw [bL,zu]; exact du bl aV fun k C h=>by rcases b9 k C with a6 | a6; exact absurd (aP k a6) U; omega),bS,bB,((((ak.trans<|aE.mono fun _ _ h=> .inl h).trans<|ao.md.mono fun _ _ h=>h.elim).trans' aF fun k C h=>by have :=aP k h; omega).trans<|aV.mono fun _ _ h=> .inr h),J,J⟩
 refine aJ 2 J<|te _<|dG 2 J ?_;obtain ⟨a5,ce,rfl⟩:=dK av;obtain rfl :j=v0 / 2:=U;have c6:=gW I;have dd:=bh.1;have cs:=B6 aK bm aL;have cz:=ak.size;have bd:Md (fun k=>k=rb∨k=ad) M ab:=((aD.mono fun k _ h=> .inl h).trans<|ax.mono fun _ _ h=>h.elim).trans ak;have a2:=du aM bd fun k C h=>by have :=de aM C; omega
 have cr:=bh.md bd (fun k C hb=>by
  rcases C with C | C;omega;exact fun cur z=>AQ U cur _ z)
 refine aH 1 J<|p (rZ (ac) J)<|p (fu yo J (J) fun j _=>bb.aN j)<|e<|nq BS J J J fun cO dD cQ V bI=> ?_;have dk:=V.size;refine e<|ap BS (bN a2 V.md) J U J (aU.fZ bI) (J) (J) U U fun cE cK ch am cx cU=> ?_;have cx:=am.size;have bo:∀ k,ac.ownBlock=some k→w.heap.size≤k:=fun k h=>(de aM h).1;have bK:=am.B (Wk.B V.md ba) fun h=>by have :=bo rb h; omega
 have b6:Tg cK w.heap.size 65 es.length (.slice a5 es.length ce) (iB es):=Tg.nP (((Tg.r7 av).mono U).wk V.md) am fun k C _=>sj (bN a2 V.md) aX k C;have cq:=(cr.wk V.md).md am fun k C _=>sj (bN a2 V.md) aX k C;exact p aQ<|aB 7 J<|tn<|⟨_,U,k+1,l++ [(decide (v0 % 2=1),es)],svs++ [(decide ((v0:Int) % 2=1),.slice a5 es.length ce)],cE,E,U,(ll I cs),U,(by rw [bL,BH]; exact ch),(by rw [show decide ((v0:Int) % 2=1)=decide (v0 % 2=1) from decide_eq_decide.2 U] at*; exact fS.snoc (e:=(decide (v0 % 2=1),es)) cq b6),bK,((az.trans<|V.md.mono fun _ _ h=>h.elim).trans' am fun k C h=>by have :=bo k h; omega),J,J⟩
 refine aJ 2 J<|te _<|dG 3 J ?_;obtain rfl :k=n:=U;have bf:fH M w.heap.size ac l:=⟨svs,by have h:=Tg.r7 aM; rw [bh.1] at h; exact h,bh⟩
 obtain ⟨aa,cc,rfl,cS,b5⟩:=bf.jQ;have c7:=gW I;have cf:∀ x∈l,x.2.length≤256:=fun x aR=>(mj (R:=fun p=>p≤s.length) (S:=fun x:aG=>x.2.length≤256) (fun p x q' hr aR=>⟨(qt aR).2.1,(qt aR).2.2.1⟩) U I).2 x aR;refine aH 3 J<|e<|a9 (wQ l aa cc M b5 U fun i hi=>cX (cf _<|kY (d:=dI) hi) aX) J ?_;rintro dy cL ⟨rfl,aw⟩;refine an 1 J ?_;refine eP J (dU jb (jq _ _ _ cL) J fun dz dF b4=> ?_) (fun c w' A σ' O=>⟨190,Bs Z au I (by
  cases h:shaped l;rfl;exact absurd (show oz l=0 from oA h) (of_decide_eq_false A.2.1)),A.1,by rw [A.2.2]; exact ae.trans (aw.mono fun _ _ h=>h.elim)⟩)
 obtain ⟨rfl,bq,rfl⟩:=b4;have cp:shaped l=true :=by
  cases h:shaped l;rw [ib h] at bq; exact absurd (of_decide_eq_true bq) aX;rfl
 exact aB 9 J<|pL<|f1 J J<|⟨l,q,Bt Z au I cp,bf.wk aw,Wk.B aw a8,ae.trans<|aw.mono fun _ _ h=>h.elim⟩
end Go.Hb.gO
end
section
namespace Go.Hb.jA
open Go.Hb.ei
open Go.Hb.gO
theorem GZ (s A:List UInt8) (w:ai) (E:s.length≤1073741824) (hp:A.length≤1073741824):
 bp ar 65 (bD [str s,str A]) w (fun v w'=>v= .bool (decide (s.take A.length=A))∧Wk w w'):=by
 refine enter func65 J ntmps65 J<|aW 13 J<|gs (t:=10) J (fun C=> ?_) fun C=> ?_;exact an 3 J<|bB J (xc u9 J J U)<|aB 7 J<|aO J<|⟨J,Md.refl _ _⟩
 exact an 7 J<|p aQ<|aB 3 J<|aO J<|⟨by show bG false =_; rw [decide_eq_false (fun h=>by have :=congrArg oZ h; rw [cN] at this; omega)],Md.refl _ _⟩
theorem GY (s A:List UInt8) (w:ai) (E:s.length≤1073741824) (hp:A.length≤1073741824):
 bp ar 39 (bD [str s,str A]) w (fun v w'=>v= .bool (decide (s.take A.length=A))∧Wk w w'):=by
 refine enter func39 J ntmps39 J<|aW 9 J<|e<|a9 (GZ s A _ E hp) J ?_;rintro I L ⟨rfl,C⟩;exact aB 4 J<|aO J<|⟨J,C⟩
theorem F0 (p2 p3:Nat) (w:ai):
 CallsD ar 40 (bD [.pointer (some ⟨p2,0,none⟩),.pointer (some ⟨p3,0,none⟩)]) .returning w (fun A I w'=> ∃ v,A= .returned v∧I= .returning∧(fun w'=>Wk w w') w'):=by
 refine yM (v:= .nilIface) func40 J ntmps40 J (fun M cs E=> .inr ⟨by simp [recoverD,E],J,J⟩) ?_;exact p (Cb rY Lm J)<|p mv<|p (xt J J)<|p (xt J J)<|p aQ<|p aQ<|nl<|tn<|sq fun L C=>rg J<|p mv<|nl<|tn<|C _ _<|cf (J)<|BK<|f0 J<|Md.refl _ _
theorem FZ (p2 p3:Nat) (A:Int) (w:ai) (C:∃ L:List ag,L.length=7∧w.heap[p2]? =some (.cells L.toArray 42 (0,0))) (E:∃ v:ag,w.heap[p3]? =some (.cells [v].toArray 35 (0,0))) (V:p2≠p3):
 CallsD ar 40 (bD [.pointer (some ⟨p2,0,none⟩),.pointer (some ⟨p3,0,none⟩)]) (.panicking<|ke A) w (fun Z ah w'=> ∃ v,Z= .returned v∧ah=(.panicking [{v:= .iface 35 (.int .i64 A),recovered:=true}])∧(fun w'=>w'.heap[p2]? =some (.cells [aT .i64 0,str [],.slice none 0 0,.slice none 0 0,.slice none 0 0,.slice none 0 0,.slice none 0 0].toArray 42 (0,0))∧w'.heap[p3]? =some (.cells [.int .i64 A].toArray 35 (0,0))∧Md (fun k=>k=p2∨k=p3) w w') w'):=by
 obtain ⟨al,ad,C⟩:=C;obtain ⟨ap,E⟩:=E;have an:=(eM.1 C).1;have ao:=(eM.1 E).1;refine yM (v:= .iface 35<|.int .i64 A) func40 J ntmps40 J (fun am cs ae=> .inl<|by simp [recoverD,ae,ke]) ?_;refine p (Ca rY J)<|p mv<|p (xt J J)<|p (xt J J)<|p aQ<|p aQ<|nl<|tn<|sq fun ak ac=>rg J<|p mv<|nl<|tn<|ac _ _<|ct (J)<|rg J<|p (eF (ps:= []) (L:= [.int .i64 0,.string ⟨⟨[]⟩⟩,.slice none 0 0,.slice none 0 0,.slice none 0 0,.slice none 0 0,.slice none 0 0]) BV J<|J)<|p mv<|e<|eK rl J J J J C (by rw [ad]; decide) fun aj M I=>e<|dT uv J J (v:= .int .i64 A) J (M.ax E fun h=>V h.symm) (by show 0 < 1; decide) fun aq O ab=>nl<|f0 J ?_;have I:aj.heap[p2]? =some (.cells [aT .i64 0,str [],.slice none 0 0,.slice none 0 0,.slice none 0 0,.slice none 0 0,.slice none 0 0].toArray 42 (0,0)):=I.trans<|by rw [DN U]; rfl
 exact ⟨O.ax I V,ab,(M.mono fun _ _ h=> .inl h).trans' O fun _ _ h=> .inr h⟩
theorem y9 (p2 p3:Nat) (w:ai):(invoke (.fn (.func 40) #[aR p2,aR p3]) #[]).run ar w= .ok (.enter 40 #[aR p2,aR p3]) w:=by
 have h:=E8 #[aR p2,aR p3] w;simp [invoke,h]
theorem rE {n:Nat} {D:List Deferred} {G:List Nat} {σ:Nat→ag} {t:Nat} (h:t < n):ev ⟨n,D,G,none⟩ σ (.tmp t)=σ t:=by
 show cond (aF t n) (σ t) undef=_;rw [show aF t n=true from by simpa using h]; rfl
theorem F5 {n:Nat} {G:List Nat} {fn:Func} {R:ag→ai→Prop} {σ:Nat→ag} {w:ai} {p2 p3:Nat} {A:Int} (Z:fn.results= #[.cell 2 42,.cell 3 35]) (aP:3 < n) (ab:σ 2= .pointer (some ⟨p2,0,none⟩)) (ac:σ 3= .pointer (some ⟨p3,0,none⟩)) (C:∃ L:List ag,L.length=7∧w.heap[p2]? =some (.cells L.toArray 42 (0,0))) (E:∃ v:ag,w.heap[p3]? =some (.cells [v].toArray 35 (0,0))) (V:p2≠p3)
 (I:∀ w',Md (fun k=>k=p2∨k=p3) w w'→R (.tuple #[.agg [aT .i64 0,str [],.slice none 0 0,.slice none 0 0,.slice none 0 0,.slice none 0 0,.slice none 0 0].toArray,.int .i64 A]) w'):qb ⟨n,[{target:= .fn (.func 40) #[.pointer (some ⟨p2,0,none⟩),.pointer (some ⟨p3,0,none⟩)],args:= #[]}],G,none⟩ (kP ar fn R) (.panic<|ke A) σ w:=by
 refine Gz (y9 p2 p3 w) (FZ p2 p3 A w C E V) ?_;rintro w' ⟨M,O,hm⟩;exact ⟨_,sw Z (jt<|iI (cs:= [aT .i64 0,str [],.slice none 0 0,.slice none 0 0,.slice none 0 0,.slice none 0 0,.slice none 0 0]) ((rE U).trans ab) po J fun j _=>by rw [cK,eo M]; simp) (jt<|iH ((rE U).trans ac) yn<|(eo O).trans J),I w' hm⟩
theorem F6 {n:Nat} {G:List Nat} {fn:Func} {R:ag→ai→Prop} {σ:Nat→ag} {w:ai} {p2 p3:Nat} {v:ag} {L:List ag} (V:fn.results= #[.cell 2 42,.cell 3 35]) (aP:3 < n) (Z:σ 2= .pointer (some ⟨p2,0,none⟩)) (ab:σ 3= .pointer (some ⟨p3,0,none⟩)) (A:w.heap[p2]? =some (.cells L.toArray 42 (0,0))) (C:w.heap[p3]? =some (.cells [v].toArray 35 (0,0))) (E:L.length=7)
 (I:∀ w',Wk w w'→R (.tuple #[.agg L.toArray,v]) w'):qb ⟨n,[{target:= .fn (.func 40) #[.pointer (some ⟨p2,0,none⟩),.pointer (some ⟨p3,0,none⟩)],args:= #[]}],G,none⟩ (kP ar fn R) .ret σ w:=by
 refine Gy (y9 p2 p3 w) (F0 p2 p3 w) ?_;intro w' hm;have M:=Wk.ax hm A;have O:=Wk.ax hm C;exact ⟨_,sw V (jt<|iI (cs:=L) ((rE U).trans Z) po E fun j _=>by rw [cK,eo M]; simp) (jt<|iH ((rE U).trans ab) yn<|(eo O).trans J),I w' hm⟩
section
variable {s:List UInt8} {a e n m p1 p2 p3 p4 p5 p q ls:Nat} {t f:List UInt8} {rs:List (List UInt8×List UInt8)} {l:List (List aG)}
theorem Bj (h:cP s a= .error e):fM s a= .error e:=by unfold fM; rw [h]
theorem Bk (h:cP s a= .ok (f,p)) (A:cP s p= .error e):fM s a= .error e:=by unfold fM; rw [h]; simp only; rw [A]
theorem Bl (h:cP s a= .ok (f,p)) (A:cP s p= .ok (t,q)):fM s a= .ok ((f,t),q):=by unfold fM; rw [h]; simp only; rw [A]
theorem uy (hm:¬s.take 4=ew):bS s= .error 200:=if_neg hm
theorem ze (hm:s.take 4=ew) (h:bf s 4= .error e):bS s= .error e:=by unfold bS; rw [if_pos hm,h]
theorem zf (hm:s.take 4=ew) (h:bf s 4= .ok (n,p1)) (A:cP s p1= .error e):bS s= .error e:=by unfold bS; rw [if_pos hm,h]; simp only; rw [A]
theorem zg (hm:s.take 4=ew) (h:bf s 4= .ok (n,p1)) (A:cP s p1= .ok (t,p2)) (C:bf s p2= .error e):bS s= .error e:=by unfold bS; rw [if_pos hm,h]; simp only; rw [A]; simp only; rw [C]
theorem zh (hm:s.take 4=ew) (h:bf s 4= .ok (n,p1)) (A:cP s p1= .ok (t,p2)) (C:bf s p2= .ok (m,p3)) (E:256 < m):bS s= .error 201:=by unfold bS; rw [if_pos hm,h]; simp only; rw [A]; simp only; rw [C]; exact if_pos E
theorem rn (hm:s.take 4=ew) (h:bf s 4= .ok (n,p1)) (A:cP s p1= .ok (t,p2)) (C:bf s p2= .ok (m,p3)) (E:¬256 < m) (I:cm (fM s) m p3= .error e):bS s= .error e:=by unfold bS; rw [if_pos hm,h]; simp only; rw [A]; simp only; rw [C]; simp only; rw [if_neg E,I]
theorem zi (hm:s.take 4=ew) (h:bf s 4= .ok (n,p1)) (A:cP s p1= .ok (t,p2)) (C:bf s p2= .ok (m,p3)) (E:¬256 < m) (I:cm (fM s) m p3= .ok (rs,p4)):bS s=fk s (if n≤64 then n else 0) t rs p4:=by unfold bS; rw [if_pos hm,h]; simp only; rw [A]; simp only; rw [C]; simp only; rw [if_neg E,I]
theorem za (h:dR ls t rs=false):fk s ls t rs a= .error 201:=by unfold fk; rw [h]; rfl
theorem zb (h:dR ls t rs=true) (A:cm (cM s) 4 a= .error e):fk s ls t rs a= .error e:=by unfold fk; rw [if_pos h,A]
theorem zc (h:dR ls t rs=true) (A:cm (cM s) 4 a= .ok (l,p5)) (C:p5≠s.length):fk s ls t rs a= .error 202:=by unfold fk; rw [if_pos h,A]; exact if_neg C
theorem zd (h:dR ls t rs=true) (A:cm (cM s) 4 a= .ok (l,p5)) (C:p5=s.length):fk s ls t rs a= .ok ⟨ls,t,rs,l⟩:=by unfold fk; rw [if_pos h,A]; exact if_pos C
end
def nf (w:ai) (B:Nat) (cs:List ag) (b:cY):Prop := ∃ A rc vs,cs= [.int .i64 (b.least:Nat),str b.tr,.slice A b.jP.length rc]++vs∧vs.length=4∧aU w.heap A (b.jP.flatMap fA)∧∀ i,i < 4→fH w B (vs.getD i .nilFunc) (b.fC.getD i [])
theorem nf.wk {w w':ai} {B:Nat} {cs:List ag} {b:cY} (h:nf w B cs b) (hm:Wk w w'):nf w' B cs b:=by
 obtain ⟨I,rc,vs,h1,A,C,E⟩:=h;exact ⟨I,rc,vs,h1,A,C.wk hm,fun i hi=>(E i hi).wk hm⟩
def iW (s:List UInt8) (w:ai) (v:ag) (w':ai):Prop :=(match bS s with
 | .ok b=> ∃ cs,v= .tuple #[.agg cs.toArray,.int .i64 0]∧nf w' w.heap.size cs b
 | .error e=>v= .tuple #[.agg [aT .i64 0,str [],.slice none 0 0,.slice none 0 0,.slice none 0 0,.slice none 0 0,.slice none 0 0].toArray,.int .i64 (e:Nat)])∧Wk w w'
theorem iW.no {s:List UInt8} {w w':ai} {e:Nat} (h:bS s= .error e) (hm:Wk w w'):iW s w (.tuple #[.agg [aT .i64 0,str [],.slice none 0 0,.slice none 0 0,.slice none 0 0,.slice none 0 0,.slice none 0 0].toArray,.int .i64 (e:Nat)]) w':=by
 unfold iW; rw [h]; exact ⟨rfl,hm⟩
theorem BA {a b c v:ag} {vs:List ag} {k:Nat} :([a,b,c]++vs).set (0 +3 +((k:Nat):Int).toNat*1) v= [a,b,c]++vs.set k v:=by
 rw [show 0 +3 +((k:Nat):Int).toNat*1=k+1 +1 +1 from by omega]; rfl
theorem z7 {α:Type} {l:List α} {i k:Nat} {v d:α} (h:i≠k):(l.set k v).getD i d=l.getD i d:=by
 rw [b9,List.getElem?_set_ne (fun e=>h e.symm),b9]
theorem z6 {α:Type} {l:List α} {k:Nat} {v d:α} (h:k < l.length):(l.set k v).getD k d=v:=by
 rw [b9,List.getElem?_set_self h]; rfl
theorem z5 {α:Type} {l m:List α} {i:Nat} {d:α} (h:i < l.length):(l++m).getD i d=l.getD i d:=by
 rw [b9,ey h,b9]
theorem z4 {α:Type} {l:List α} {a d:α} {i:Nat} (h:i=l.length):(l++ [a]).getD i d=a:=by
 subst h;rw [b9,ez (aV _),tN]; rfl
structure fh (w0 w:ai) (b2 b3:Nat) (L:List ag):Prop where
 c2:w.heap[b2]? =some (.cells L.toArray 42 (0,0))
 c3:w.heap[b3]? =some (.cells [aT .i64 0].toArray 35 (0,0))
 len:L.length=7
 lo:w0.heap.size≤b2∧w0.heap.size≤b3∧b2≠b3
 wk:Wk w0 w
theorem fh.md {F:Nat→Prop} {w0 w w':ai} {A C:Nat} {L:List ag} (h:fh w0 w A C L) (hm:Md F w w') (E:¬F A) (I:¬F C) (J:∀ k,F k→w0.heap.size≤k):fh w0 w' A C L:=
 ⟨hm.ax h.c2 E,hm.ax h.c3 I,h.len,h.lo,h.wk.trans' hm fun k O M=>by have :=J k M; omega⟩
theorem fh.K0 {w0 w w':ai} {A C:Nat} {L:List ag} (h:fh w0 w A C L) (hm:Wk w w'):fh w0 w' A C L:=h.md hm (fun h=>h) (fun h=>h) fun _ h=>h.elim
theorem fh.rb {w0 w w':ai} {A C rb:Nat} {L:List ag} (h:fh w0 w A C L) (hm:Md (fun k=>k=rb) w w') (E:A≠rb) (I:C≠rb) (h0:w0.heap.size≤rb):fh w0 w' A C L:=h.md hm E I fun k J=>by omega
theorem j9 {n:Nat} {G:List Nat} {fn:Func} {σ:Nat→ag} {s:List UInt8} {w W:ai} {C E e:Nat} {L:List ag} (I:fn.results= #[.cell 2 42,.cell 3 35]) (aP:3 < n) (J:σ 2= .pointer (some ⟨C,0,none⟩)) (M:σ 3= .pointer (some ⟨E,0,none⟩)) (A:fh w W C E L) (O:bS s= .error e):qb ⟨n,[{target:= .fn (.func 40) #[.pointer (some ⟨C,0,none⟩),.pointer (some ⟨E,0,none⟩)],args:= #[]}],G,none⟩ (kP ar fn<|iW s w) (.panic<|ke (e:Nat)) σ W:=
 F5 I aP J M ⟨_,A.len,A.c2⟩ ⟨_,A.c3⟩ A.lo.2.2 (fun w' hm=>iW.no O<|A.wk.trans' hm fun k U h=>by rcases h with rfl | rfl; have :=A.lo.1; omega; have :=A.lo.2.1; omega)
theorem F7 (s:List UInt8) (w:ai) (aL:s.length≤1048576):
 bp ar 20 (bD [str s]) w (iW s w):=by
 refine Gj [2,3] func20 J ntmps20 J ?_;refine fD<|fq<|aW 1 J<|e<|ek CR fun C eX d3 b3 cD=>e<|ek Lg fun O cq d4 bB cI=> ?_;have eA:=b3.size;have eB:=bB.size;have c4:Wk w cq:=b3.md.trans bB.md;have dF:=Wk.ax bB.md cD;refine aB 1 J<|cn<|fD<|fD<|fq<|aW 2 J<|e<|a9 (GY s ew cq U aX) J ?_;rintro v10 eV ⟨rfl,a6⟩;have bS:=c4.trans a6;have ck:=Wk.ax a6 dF;have co:=Wk.ax a6 cI;have ey:=a6.size;refine aB 2 J<|cn<|fq<|cb J (fun aY=> ?_) fun aY=> ?_;have ac:¬s.take 4=ew:=fun h=>by rw [show s.take ew.length=ew from h] at aY; simp at aY
 refine aW 2 J<|p (eF (ps:= []) (L:= [.int .i64 0,.string ⟨⟨[]⟩⟩,.slice none 0 0,.slice none 0 0,.slice none 0 0,.slice none 0 0,.slice none 0 0]) BV J<|J)<|e<|eK rl J J J J ck aX fun e0 b0 cS=>e<|dT uv J J (v:= .int .i64 200) J (b0.ax co fun h=>by omega) aX fun d0 b2 cU=>aB 3 J<|IJ ?_;have ds:d0.heap[C]? =some (.cells [aT .i64 0,str [],.slice none 0 0,.slice none 0 0,.slice none 0 0,.slice none 0 0,.slice none 0 0].toArray 42 (0,0)):=(b2.ax cS fun h=>by omega).trans rfl;exact Gw (sw J (jt<|iI J J J fun j ed=>by rw [cK,eo ds]; simp)<|jt<|iH J J<|(eo cU).trans J)<|iW.no (uy ac)<|(bS.trans' b0 fun k E h=>by omega).trans' b2 fun k E h=>by omega
 have ac:s.take 4=ew:=Classical.byContradiction fun h=>by rw [decide_eq_false (show ¬s.take ew.length=ew from h)] at aY; cases aY
 have cx:4≤s.length:=by have :=congrArg oZ ac; rw [cN] at this; simp only [ew,dx,iU] at this; omega
 refine pN 1 J<|cn<|fD<|kd HL #[.pointer (some ⟨C,0,none⟩),.pointer (some ⟨O,0,none⟩)] J aX ?_;refine fD<|fq<|aW 2 J<|p (eF (ps:= [(0,str s),(1,.int .i64 4)]) (L:= [str s,.int .i64 4]) JG J<|J)<|e<|px J fun rb ae ev bc cC=> ?_;have ez:=bc.size;have cY:aA ae.heap rb [str s,.int .i64 ((4:Nat):Int)]:=⟨_,cC⟩
 have ce:fh w ae C O [aT .i64 0,str [],.slice none 0 0,.slice none 0 0,.slice none 0 0,.slice none 0 0,.slice none 0 0]:=⟨Wk.ax bc.md ck,Wk.ax bc.md co,rfl,⟨U,U,U⟩,bS.trans bc.md⟩
 refine aB 2 J<|cn<|JE (fun cu a4=> ∃ (n p1:Nat),(fh w a4 C O [.int .i64 ((if n≤64 then n else 0:Nat):Int),str [],.slice none 0 0,.slice none 0 0,.slice none 0 0,.slice none 0 0,.slice none 0 0])∧(aA a4.heap rb [str s,.int .i64 (p1:Nat)])∧(Md (fun k=>k=rb∨k=C) ae a4)∧(bf s 4= .ok (n,p1))∧(p1≤s.length)∧(Sl cu [(0,str s),(2,.pointer (some ⟨C,0,none⟩)),(3,.pointer (some ⟨O,0,none⟩)),(4,.pointer (some ⟨rb,0,none⟩))])) ?_ ?_;refine fD<|fq<|aW 2 J ?_;refine eP J (dU ns (nS rb s (4) ae cY aL<|cx) J fun eH eW c7=> ?_) (fun c w' I σ' A=>by
  obtain ⟨e,he,rfl,Z⟩:=I;exact j9 J aX ((A 2<|.head _).trans J) ((A 3<|.tail _<|.head _).trans J) ((ce).rb Z U U U) (ze ac he))
 obtain ⟨n,p1,ab,rfl,bQ,bv⟩:=c7;obtain ⟨d7,bF,ei⟩:=iJ ab;have a1:=ce.rb bv U U U;refine aB 2 J<|cn<|fD<|fq<|pN 4 J<|cn<|fq<|cd J (fun bE=> ?_) fun bE=> ?_;exact aW 2 J<|p (gr u3 lH J<|iN U)<|an 1 J<|e<|dT di J J (v:= .int .i64 (n:Nat)) J a1.c2 aX fun e3 ba cV=>aB 1 J<|yT<|⟨n,p1,(⟨by rw [if_pos U]; exact cV,ba.ax a1.c3 (fun h=>by omega),J,a1.lo,a1.wk.trans' ba fun k E h=>by omega⟩),(ba.B bQ fun h=>by omega),((bv.mono fun _ _ h=> .inl h).trans<|ba.mono fun _ _ h=> .inr h),ab,bF,J⟩
 exact pN 1 J<|yT<|⟨n,p1,(by rw [if_neg U]; exact a1),bQ,(bv.mono fun _ _ h=> .inl h),ab,bF,J⟩
 rintro cu a4 ⟨n,p1,cj,cX,c1,ab,bF,dJ⟩;refine Jt dJ ?_;refine fD<|fq<|aW 2 J ?_;refine eP J (dU ue (uS rb s (p1) a4 cX aL U) J fun eI eY c8=> ?_) (fun c w' I σ' A=>by
  obtain ⟨e,he,rfl,Z⟩:=I;exact j9 J aX ((A 2<|.head _).trans J) ((A 3<|.tail _<|.head _).trans J) ((cj).rb Z U U U) (zf ac ab he))
 obtain ⟨t,p2,aK,rfl,cG,bW⟩:=c8;obtain ⟨d8,ee,ej⟩:=nH aK;have bj:=cj.rb bW U U U;refine an 1 J<|e<|dT y7 J J (v:=str t) J bj.c2 (by simp) fun ct bb cW=> ?_;have ci:fh w ct C O [.int .i64 ((if n≤64 then n else 0:Nat):Int),str t,.slice none 0 0,.slice none 0 0,.slice none 0 0,.slice none 0 0,.slice none 0 0]:=⟨cW,bb.ax bj.c3 (fun h=>by omega),rfl,bj.lo,bj.wk.trans' bb fun k E h=>by omega⟩
 have cZ:=bb.B cG fun h=>by omega
 refine aB 1 J<|cn<|fD<|fq<|aW 2 J ?_;refine eP J (dU ns (nS rb s (p2) ct cZ aL U) J fun eJ dS c9=> ?_) (fun c w' I σ' A=>by
  obtain ⟨e,he,rfl,Z⟩:=I;exact j9 J aX ((A 2<|.head _).trans J) ((A 3<|.tail _<|.head _).trans J) ((ci).rb Z U U U) (zg ac ab aK he))
 obtain ⟨m,p3,aV,rfl,cH,bX⟩:=c9;obtain ⟨d9,ef,el⟩:=iJ aV;have cf:=ci.rb bX U U U;refine aB 2 J<|cn<|fD<|fq<|aW 4 J ?_;refine eP J (dU jb (jq _ _ _ dS) J fun eL eZ da=> ?_) (fun c w' I σ' A=>by
  obtain ⟨rfl,hb,rfl⟩:=I;exact j9 J aX ((A 2<|.head _).trans J) ((A 3<|.tail _<|.head _).trans J) (cf) (zh ac ab aK aV<|by have :=of_decide_eq_false hb; omega))
 obtain ⟨rfl,dO,rfl⟩:=da;have bG:¬256 < m:=by have :=of_decide_eq_true dO; omega
 refine aB 1 J<|cn<|fD<|fD<|fq<|pN 4 J<|cn<|fq<|cg 1 J<|lp (fun aO cv am=> ∃ (k:Nat) (rs:List (List UInt8×List UInt8)) (V:ag) (q:Nat),(k≤m)∧(cm (fM s) k p3= .ok (rs,q))∧(q≤s.length)∧(cy am ae.heap.size 60 2 V rs.length<|rs.flatMap fA)∧(aA am.heap rb [str s,.int .i64 (q:Nat)])∧(fh w am C O [.int .i64 ((if n≤64 then n else 0:Nat):Int),str t,V,.slice none 0 0,.slice none 0 0,.slice none 0 0,.slice none 0 0])∧(Md (fun k=>k=rb∨k=C) ae am)∧(Sl cv [(0,str s),(2,.pointer (some ⟨C,0,none⟩)),(3,.pointer (some ⟨O,0,none⟩)),(4,.pointer (some ⟨rb,0,none⟩)),(33,.int .u64 (m:Nat)),(34,.int .u64 (k:Nat))])∧(m - k=aO)) _ ⟨0,[],.slice none 0 0,p3,U,J,U,(fF _ _ _ _),cH,cf,(((c1.trans<|bW.mono fun _ _ h=> .inl h).trans<|bb.mono fun _ _ h=> .inr h).trans<|bX.mono fun _ _ h=> .inl h),J,J⟩ ?_;rintro aO cv am ⟨k,rs,V,q,eq,ak,et,ao,bR,a0,bt,dL,rfl⟩;refine bw dL<|cg 6 J<|cd J (fun dq=> ?_) fun dq=> ?_;refine aH 7 J ?_;refine eP J (dU ue (uS rb s (q) am bR aL U) J fun eM al dd=> ?_) (fun c w' I σ' A=>by
  obtain ⟨e,he,rfl,Z⟩:=I;exact j9 J aX ((A 2<|.head _).trans J) ((A 3<|.tail _<|.head _).trans J) ((a0).rb Z U U U) (rn ac ab aK aV bG<|gD ak (Bj he) U))
 obtain ⟨f,bI,bC,rfl,cO,a8⟩:=dd;obtain ⟨ea,eg,em⟩:=nH bC;have a2:=a0.rb a8 U U U;have dA:=du ao a8 fun k E h=>by have :=de ao E; omega
 have eC:=a8.size;have eG:=bt.size;have au:∀ k,V.ownBlock=some k→ae.heap.size≤k:=fun k h=>(de ao h).1;refine aI 3 J ?_;have bg:(fun w'=>Md (fun k=>k=rb∨V.ownBlock=some k) al w') al.drew:=(Md.refl _ _).drew;refine nO (fun w'=>Md (fun k=>k=rb∨V.ownBlock=some k) al w') 9 J wide bg<|u6 [0] J bg<|AA 1 J aq (fun w' dm=>ay J<|Md.az dm ((eo a2.c2).trans J) fun h=>by rcases h with h | h; omega; have :=au _ h; omega) bg<|u6 [2,3] J bg ?_;refine HH 4 J aq J (dU ue (uS rb s bI al.drew cO aL U) J fun eN cr dg=> ?_) (fun c w' I σ' A=>by
  obtain ⟨e,he,rfl,Z⟩:=I;exact j9 J aX ((A 2<|.head _).trans J) ((A 3<|.tail _<|.head _).trans J) (a2.rb (Md.gA Z) U U U) (rn ac ab aK aV bG<|gD ak (Bk bC he) U))
 obtain ⟨t2,dR,b8,rfl,cP,aR⟩:=dg;obtain ⟨eb,eh,ep⟩:=nH b8;have aR:=Md.gA aR;have b6:Md (fun k=>k=rb∨V.ownBlock=some k) al cr:=aR.mono fun _ _ h=> .inl h;have eD:=aR.size;have b4:(fun w'=>Md (fun k=>k=rb∨V.ownBlock=some k) al w') cr:=b6;refine ⟨b4,?_⟩;refine pV 5 J aq (fun _=>eF (ps:= [(0,str f),(1,str t2)]) (L:= [str f,str t2]) JK J<|J) (fun _=>b4)<|jn 6 J aq<|nq BR J J J fun d1 dX d5 bd cQ=> ?_;have eE:=bd.size;have b7:=b6.trans<|bd.md.mono fun _ _ h=>h.elim;have dB:=bN (du dA aR fun k E h=>by have :=de ao E; omega) bd.md;have dn:(fun w'=>Md (fun k=>k=rb∨V.ownBlock=some k) al w') dX:=b7;refine ⟨dn,?_⟩;refine jn 7 J aq<|ap BR (dB) J U J (aU.fZ cQ) (J) (J) (by have :=gW ak; omega) (by have :=gW ak; omega) fun eO dY ca bz dQ dv=> ?_;obtain ⟨bq,pB,rfl⟩:=dK ca;have aS:=b7.trans<|bz.mono fun _ _ h=> .inr h;have dQ:=bz.size;have dy:¬(C=rb∨V.ownBlock=some C):=fun h=>by rcases h with h | h; omega; have :=au _ h; omega
 have dz:¬(O=rb∨V.ownBlock=some O):=fun h=>by rcases h with h | h; omega; have :=au _ h; omega
 have dr:=aS.ax a2.c2 dy;have cR:=bz.B (Wk.B bd.md cP) fun h=>by have :=au _ h; omega
 have b5:(fun w'=>Md (fun k=>k=rb∨V.ownBlock=some k) al w') dY:=aS;refine ⟨b5,?_⟩;refine u6 [8] J b5<|nM 9 J aq aq<|dT FM J J (v:= .slice bq (rs.length+1) pB) J dr (by simp) fun cp aP cz=> ?_;have dC:fh w cp C O [.int .i64 ((if n≤64 then n else 0:Nat):Int),str t,.slice bq (rs.length+1) pB,.slice none 0 0,.slice none 0 0,.slice none 0 0,.slice none 0 0]:=⟨cz,aP.ax (aS.ax a2.c3 dz) (fun h=>by omega),rfl,a0.lo,(a2.wk.trans' aS fun k E h=>by rcases h with h | h; omega; have :=au _ h; omega).trans' aP fun k E h=>by omega⟩
 have cB:=aP.B cR fun h=>by omega
 have c0:Md (fun k=>k=rb∨k=C) ae cp:=((bt.trans<|a8.mono fun _ _ h=> .inl h).trans' aS fun k E h=>by rcases h with h | h; exact .inl h; have :=au _ h; omega).trans<|aP.mono fun _ _ h=> .inr h;exact nN aq<|bl 6 J<|tn<|⟨_,U,k+1,rs++ [(f,t2)],.slice bq (rs.length+1) pB,dR,U,(ll ak<|Bl bC b8),U,(by rw [bL,List.flatMap_append]; exact du ca aP fun k E h=>by rcases dv k E with bP | bP; exact absurd (au k bP) U; omega),cB,dC,c0,J,J⟩
 refine aJ 2 J<|te _<|bl 1 J<|cn<|fD<|fq ?_;obtain ⟨ad,rc,rfl⟩:=dK ao;obtain rfl :k=m:=U;obtain ⟨bn,dG⟩:∃ bn,bn=q:=⟨q,rfl⟩
 subst dG;have bh:=zi ac ab aK aV bG ak;have er:=gW ak;have dI:∀ r∈rs,r.1.length≤1048576∧r.2.length≤1048576:=fun r hr=>by
  have :=(mj (R:=fun _=>True) (S:=fun r:List UInt8×List UInt8=>r.1.length≤255∧r.2.length≤255) (fun p x q' _ dN=>⟨trivial,(I3 dN).2.2⟩) trivial ak).2 r hr;omega
 refine aW 2 J<|p (fu po J (J) (show ∀ j,j < 7→az am.heap C (0 +j)=([.int .i64 ((if n≤64 then n else 0:Nat):Int),str t,.slice ad rs.length rc,.slice none 0 0,.slice none 0 0,.slice none 0 0,.slice none 0 0]:List ag)[j]? from fun j _=>by rw [cK,eo a0.c2]; simp))<|e<|a9 (Js (if n≤64 then n else 0) t rs ad rc (.slice none 0 0) (.slice none 0 0) (.slice none 0 0) (.slice none 0 0) am (bV ao).2 (by split <;> omega) U U dI) J ?_;rintro eQ dZ ⟨rfl,a7⟩;have ch:=a0.K0 a7;refine eP J (dU jb (jq _ _ _ dZ) J fun eS e1 dh=> ?_) (fun c w' I σ' A=>by
  obtain ⟨rfl,hb,rfl⟩:=I;exact j9 J aX ((A 2<|.head _).trans J) ((A 3<|.tail _<|.head _).trans J) (ch) (by rw [bh,za hb]))
 obtain ⟨rfl,bH,rfl⟩:=dh;refine aB 1 J<|cn<|fD<|fD<|fq<|pN 3 J<|cn<|fq<|cg 1 J<|lp (fun aO cw aj=> ∃ (M:Nat) (ls:List (List aG)) (vs:List ag) (aM:Nat),(M≤4)∧(cm (cM s) M bn= .ok (ls,aM))∧(aM≤s.length)∧(vs.length=4)∧(aA aj.heap rb [str s,.int .i64 (aM:Nat)])∧(fh w aj C O<|[.int .i64 ((if n≤64 then n else 0:Nat):Int),str t,.slice ad rs.length rc]++vs)∧(∀ i,i < M→fH aj (rb+1) (vs.getD i .nilFunc) (ls.getD i []))∧(Md (fun k=>k=rb∨k=C) ae aj)∧(cy aj ae.heap.size 60 2 (.slice ad rs.length rc) rs.length<|rs.flatMap fA)∧(Sl cw [(0,str s),(2,.pointer (some ⟨C,0,none⟩)),(3,.pointer (some ⟨O,0,none⟩)),(4,.pointer (some ⟨rb,0,none⟩)),(52,.int .i64 (M:Nat))])∧(4 - M=aO)) _ ⟨0,[],[.slice none 0 0,.slice none 0 0,.slice none 0 0,.slice none 0 0],bn,U,J,U,J,(Wk.B a7 bR),ch,(fun i hi=>by omega),(bt.trans<|a7.mono fun _ _ h=>h.elim),(bN ao a7),J,J⟩ ?_;rintro aO cw aj ⟨M,ls,vs,aM,en,aZ,eu,a3,br,ah,bu,c5,bi,dM,rfl⟩;refine bw dM<|cg 6 J<|cd J (fun dt=> ?_) fun dt=> ?_;refine aH 13 J ?_;refine eP J (dU pB (Jk rb s aM aj br aL U) J fun eT e2 dj=> ?_) (fun c w' I σ' A=>by
  obtain ⟨e,he,rfl,Z⟩:=I;exact j9 J aX ((A 2<|.head _).trans J) ((A 3<|.tail _<|.head _).trans J) (ah.rb Z U U U) (by rw [bh,zb bH (gD aZ he (show M < 4 by omega))]))
 obtain ⟨av,bI,b9,bT,cT,b1⟩:=dj;obtain ⟨aa,cc,rfl,d6,d2⟩:=bT.jQ;have bm:=ah.rb b1 U U U;have ec:=Bu b9;refine an 1 J<|p (lh yC J J U)<|e<|dT FN J J (v:= .slice aa av.length cc) J bm.c2 (by simp only [bL,dx,iU,a3]; omega) fun bo aQ cE=> ?_;have dw:=gW aZ;have bE:bo.heap[C]? =some (.cells ([.int .i64 ((if n≤64 then n else 0:Nat):Int),str t,.slice ad rs.length rc]++vs.set M (.slice aa av.length cc)).toArray 42 (0,0)):=by rw [← BA]; exact cE
 have dD:fh w bo C O ([.int .i64 ((if n≤64 then n else 0:Nat):Int),str t,.slice ad rs.length rc]++vs.set M (.slice aa av.length cc)):=⟨bE,aQ.ax bm.c3 (fun h=>by omega),by simp [a3],bm.lo,bm.wk.trans' aQ fun k E h=>by omega⟩
 have cF:=aQ.B cT fun h=>by omega
 have ex:=br.lt;have bA:Md (fun k=>k=rb∨k=C) aj bo:=(b1.mono fun _ _ h=> .inl h).trans<|aQ.mono fun _ _ h=> .inr h;have c6:∀ i,i < M+1→fH bo (rb+1) ((vs.set M<|.slice aa av.length cc).getD i .nilFunc) ((ls++ [av]).getD i []):=fun i hi=>by
  rcases dk i M with h | h;rw [z7 U,z5 U];exact (bu i h).md bA fun k E hb=>absurd hb U;obtain rfl :i=M:=U;rw [z6 U,z4 dw.symm];exact (bT.mono U).md aQ fun k E hb=>absurd hb U
 exact aB 7 J<|tn<|⟨_,U,M+1,ls++ [av],vs.set M (.slice aa av.length cc),bI,U,(ll aZ b9),U,(by rw [im]; exact a3),cF,dD,c6,(c5.trans bA),(du bi bA fun k E h=>by have :=(de bi E).1; omega),J,J⟩
 refine aJ 2 J<|te _<|bl 1 J<|cn<|fD<|fq ?_;obtain rfl :M=4:=U;obtain ⟨aw,aD,aE,aF,rfl⟩:∃ aw aD aE aF,vs= [aw,aD,aE,aF]:=by
  match vs,a3 with
  | [aw,aD,aE,aF],_=>exact ⟨_,_,_,_,rfl⟩
 have a5:∀ i,i < 4→([aw,aD,aE,aF].getD i .nilFunc).oneCell'=true :=fun i hi=>by
  obtain ⟨_,_,e,_⟩:=(bu i hi).jQ;rw [e]; rfl
 have dE:([.int .i64 ((if n≤64 then n else 0:Nat):Int),str t,.slice ad rs.length rc,aw,aD,aE,aF]:List ag).all jx=true :=by
  have bJ:=a5 0 U;have bK:=a5 1 U;have bM:=a5 2 U;have bO:=a5 3 U;simp only [tB,DR] at bJ bK bM bO;simp only [DJ,DK,bJ,bK,bM,bO]; rfl
 refine aW 5 J<|p (ay J<|br.aN 1)<|an 3 J ?_;refine eP J (dU jb (jq _ _ _ aj) J fun eU cs dl=> ?_) (fun c w' I σ' A=>by
  obtain ⟨rfl,hb,rfl⟩:=I;exact j9 J aX ((A 2<|.head _).trans J) ((A 3<|.tail _<|.head _).trans J) (ah) (by rw [bh,zc bH aZ (fun h=>of_decide_eq_false hb<|by rw [h])]))
 obtain ⟨rfl,dP,rfl⟩:=dl;have dH:aM=s.length:=by have :=of_decide_eq_true dP; omega
 refine aB 1 J<|cn<|fD<|fq<|aW 1 J<|p (fu po J (J) (show ∀ j,j < 7→az cs.heap C (0 +j)=([.int .i64 ((if n≤64 then n else 0:Nat):Int),str t,.slice ad rs.length rc,aw,aD,aE,aF]:List ag)[j]? from fun j _=>by rw [cK,eo ah.c2]; simp))<|e<|eK rl J J J dE ah.c2 (by rw [ah.len]; decide) fun dV bY cJ=> ?_;have dp:dV.heap[C]? =some (.cells ([.int .i64 ((if n≤64 then n else 0:Nat):Int),str t,.slice ad rs.length rc]++ [aw,aD,aE,aF]).toArray 42 (0,0)):=cJ.trans<|by rw [DN (by rw [ah.len]; decide),qP,o8,List.append_nil]; rfl
 refine e<|dT uv J J (v:= .int .i64 0) J (bY.ax ah.c3 fun h=>by omega) aX fun dW bZ cL=>aB 1 J<|cn<|I9 ?_;exact F6 J aX J J (bZ.ax dp fun h=>by omega) cL J (fun w' hm=>by
  unfold iW;rw [bh,zd bH aZ dH];have bx:Md (fun k=>k=C∨k=O) cs dW:=(bY.mono fun _ _ h=> .inl h).trans<|bZ.mono fun _ _ h=> .inr h;refine ⟨⟨_,J,ad,rc,_,J,a3,(bV<|bN (du bi bx fun k E h=>by have :=(de bi E).1; omega) hm).2,fun i hi=>(((bu i hi).md bx fun k E hb=>absurd hb U).wk hm).mono U⟩,(ah.wk.trans' bx fun k E h=>by omega).trans hm⟩)
theorem pT {α:Type} {f:Nat→Except Nat (α×Nat)} (C:∀ a e,f a= .error e→e≠0):∀ {k a e:Nat},cm f k a= .error e→e≠0
 | 0,a,e,h=>by cases h
 | k+1,a,e,h=>by
   rw [cm] at h;split at h
   · rename_i E A;cases h;exact pT C A
   · split at h
     · rename_i E A;cases h;exact C _ _ A
     · cases h
theorem ot {s:List UInt8} {a e:Nat} (h:bf s a= .error e):e≠0:=by rcases wj h with h | h <;> omega
theorem uQ {s:List UInt8} {a e:Nat} (h:cP s a= .error e):e≠0:=by
 unfold cP at h;split at h
 · rename_i A; cases h; exact ot A
 · repeat' split at h
   all_goals first | (cases h; decide) | cases h
theorem I4 {s:List UInt8} {a e:Nat} (h:fM s a= .error e):e≠0:=by
 unfold fM at h;split at h
 · rename_i A; cases h; exact uQ A
 · split at h
   · rename_i A; cases h; exact uQ A
   · cases h
theorem Gh {s:List UInt8} {n a e:Nat} (h:dO s n a= .error e):e≠0:=by
 unfold dO at h;split at h
 · cases h; decide
 · split at h
   · rename_i A; cases h; exact ot A
   · split at h
     · cases h; decide
     · cases h
theorem JU {s:List UInt8} {n a e:Nat} (h:eT s n a= .error e):e≠0:=by
 unfold eT at h;split at h
 · rename_i A; cases h; exact ot A
 · split at h
   · cases h; decide
   · split at h
     · rename_i A; cases h; exact pT (fun _ _=>Gh) A
     · cases h
theorem Ji {s:List UInt8} {a e:Nat} (h:cM s a= .error e):e≠0:=by
 unfold cM at h;split at h
 · rename_i A; cases h; exact ot A
 · split at h
   · cases h; decide
   · split at h
     · rename_i A; cases h; exact pT (fun _ _=>JU) A
     · split at h
       · cases h
       · cases h; decide
theorem F4 {s:List UInt8} {e:Nat} (h:bS s= .error e):e≠0:=by
 unfold bS at h;split at h
 · split at h
   · rename_i A; cases h; exact ot A
   · split at h
     · rename_i A; cases h; exact uQ A
     · split at h
       · rename_i A; cases h; exact ot A
       · split at h
         · cases h; decide
         · split at h
           · rename_i A; cases h; exact pT (fun _ _=>I4) A
           · generalize (if _≤64 then _ else 0)=n0 at h;unfold fk at h;split at h
             · split at h
               · rename_i A; cases h; exact pT (fun _ _=>Ji) A
               · split at h
                 · cases h
                 · cases h; decide
             · cases h; decide
 · cases h; decide
theorem iW.form {s:List UInt8} {w w':ai} {v:ag} (h:iW s w v w'):∃ M O x2 V Z ab ac e,v= .tuple #[.agg [M,O,x2,V,Z,ab,ac].toArray,.int .i64 ((e:Nat):Int)]∧[M,O,x2,V,Z,ab,ac].all jx=true∧Wk w w'∧
 ((e≠0∧bS s= .error e)∨(e=0∧∃ b,bS s= .ok b∧nf w' w.heap.size [M,O,x2,V,Z,ab,ac] b)):=by
 obtain ⟨h,ak⟩:=h;cases hX:bS s with
 | error e=>
   rw [hX] at h;exact ⟨_,_,_,_,_,_,_,e,h,J,ak,.inl ⟨F4 hX,J⟩⟩
 | ok b=>
   rw [hX] at h;obtain ⟨cs,am,hb⟩:=h;obtain ⟨ap,rc,vs,rfl,an,ao,al⟩:=id hb;obtain ⟨C,E,I,L,rfl⟩:∃ C E I L,vs= [C,E,I,L]:=by
    match vs,an with
    | [C,E,I,L],_=>exact ⟨_,_,_,_,rfl⟩
   have A:∀ i,i < 4→([C,E,I,L].getD i .nilFunc).oneCell'=true :=fun i hi=>by
    obtain ⟨_,_,e,_⟩:=(al i hi).jQ;rw [e]; rfl
   have ad:=A 0 U;have ae:=A 1 U;have ah:=A 2 U;have aj:=A 3 U;simp only [tB,DR] at ad ae ah aj;exact ⟨_,_,_,_,_,_,_,0,am,by simp only [DJ,DK,ad,ae,ah,aj]; rfl,ak,.inr ⟨J,b,J,hb⟩⟩
def dm (w:ai) (B cb:Nat) (b:cY) (A:List UInt8):Prop := ∃ cs,aA w.heap cb (cs++ [str A])∧nf w B cs b∧B≤cb
theorem dm.wk {w w':ai} {B cb:Nat} {b:cY} {A:List UInt8} (h:dm w B cb b A) (hm:Wk w w'):dm w' B cb b A:=by
 obtain ⟨cs,h1,C,E⟩:=h;exact ⟨cs,Wk.B hm h1,C.wk hm,E⟩
def Ep (s:List UInt8) (w:ai) (v:ag) (w':ai):Prop :=(match bS s with
 | .ok b=> ∃ cb,v= .tuple #[.pointer (some ⟨cb,0,none⟩),.nilIface]∧dm w' w.heap.size cb b s
 | .error e=>v= .tuple #[.pointer none,.iface 35 (.int .i64 ((e:Nat):Int))])∧Wk w w'
theorem vw (s:List UInt8) (w:ai) (aD:s.length≤1048576):
 bp ar 6 (bD [str s]) w (Ep s w):=by
 refine enter func6 J ntmps6 J<|aW 8 J<|p mv<|e<|a9 (F7 s w aD) J fun aQ aE au=> ?_;obtain ⟨A,C,x2,E,I,M,O,ah,rfl,ay,ab,Z⟩:=iW.form au;have aP:=ab.size;refine p mv<|an 2 J<|e<|ek CR fun ae aS aG aj am=> ?_;have aM:=aj.size;refine e<|eK rl J J J ay am aX fun ad aq ao=> ?_;have ap:aA ad.heap ae [A,C,x2,E,I,M,O]:=⟨_,ao⟩
 have V:Wk aE ad:=aj.md.trans' aq fun k aK h=>by omega
 have aO:=V.size;refine aI 10 J<|cd J (fun ax=> ?_) fun ax=> ?_;have Z:ah≠0∧bS s= .error ah:=Z.resolve_right fun h=>by omega
 refine aH 3 J<|p (vE rY J)<|aB 6 J<|f2 J J J ?_;refine ⟨?_,ab.trans V⟩;rw [Z.2];exact J;obtain ⟨aJ,b,av,aw⟩:=Z.resolve_left fun h=>by omega
 refine aH 4 J<|p (fu po J (J) (show ∀ j,j < 7→az ad.heap ae (0 +j)=([A,C,x2,E,I,M,O]:List ag)[j]? from fun j _=>ap.aN j))<|p mv<|p (EY (ps:= [(0,.agg [A,C,x2,E,I,M,O].toArray),(1,str s)]) (L:= [A,C,x2,E,I,M,O,str s]) JN J<|by simp [Instr.fill,Value.cells,str])<|e<|px (L:= [A,C,x2,E,I,M,O,str s]) J fun ak aR aF ac al=> ?_;have aL:=ac.size;refine aB 5 J<|f2 J J J ?_;refine ⟨?_,(ab.trans V).trans ac.md⟩;rw [av];exact ⟨ak,J,_,⟨_,al⟩,aw.wk (V.trans ac.md),U⟩
end Go.Hb.jA
end
section
namespace Go.Hb.dm
open Go.Hb.ei
open Go.Hb.gO Go.Hb.jA
def fW (c:UInt8) (es:List (UInt8×Int)):Nat:=es.findIdx fun e=>e.1==c
theorem Ai {c:UInt8} {es:List (UInt8×Int)} {i:Nat} {e:UInt8×Int} (he:es[i]? =some e) (C:e.1=c) (I:∀ (j:Nat) (A:UInt8×Int),j < i→es[j]? =some A→A.1≠c):fW c es=i:=by
 unfold fW;obtain ⟨hi,rfl⟩:=cI.1 he;rw [List.findIdx_eq hi];refine ⟨by simpa using C,fun j E=> ?_⟩;have :=I j _ E<|bK U;simpa using this
theorem Aj {c:UInt8} {es:List (UInt8×Int)} (E:∀ (j:Nat) (A:UInt8×Int),es[j]? =some A→A.1≠c):fW c es=es.length:=by
 unfold fW;refine List.findIdx_eq_length.2 fun e he=> ?_;obtain ⟨j,C⟩:=List.mem_iff_getElem?.1 he;simpa using E j e C
def fi (l:List aG):Nat→List UInt8→Option Nat×Nat
 | n,[]=>(some n,0)
 | n,c::w=>if fW c (aw l n).2 < (aw l n).2.length then ((fi l ((aw l n).2.getD (fW c (aw l n).2) (0,0)).2.toNat w).1,(fi l ((aw l n).2.getD (fW c (aw l n).2) (0,0)).2.toNat w).2 +1) else (none,0)
def eE (l:List aG) (w:List UInt8):Option Nat×Nat:=if l= [] then (none,0) else fi l 0 w
def ej (l:List aG) (w:List UInt8):Bool:=match (eE l w).1 with
 | some n=>(aw l n).1
 | none=>false
def fK (l:List aG):Prop :=l.length≤1048576∧∀ x∈l,x.2.length≤256∧∀ e∈x.2,0≤e.2∧e.2 < l.length
theorem fK.nil:fK []:=⟨by simp,fun x A=>by simp at A⟩
theorem fK.st {l:List aG} (h:fK l) {n:Nat} (hn:n < l.length):(aw l n).2.length≤256∧∀ (i:Nat) e,(aw l n).2[i]? =some e→0≤e.2∧e.2 < l.length:=by
 have :=h.2 _<|kY (d:=dI) hn;exact ⟨this.1,fun i e he=>this.2 e<|gn he⟩
def bd (b:cY) (n:Int):List aG:=if 0≤n∧n < 4 then b.fC.getD n.toNat [] else []
theorem iK {s:List UInt8} {b:cY} (h:b.Is s) (n:Int):fK (bd b n):=by
 unfold bd;split
 · rename_i hn;have hm:b.fC.getD n.toNat []∈b.fC:=kY<|by rw [h.AS]; omega
   obtain ⟨_,A,C⟩:=h.fC _ hm;exact ⟨A,C⟩
 · exact fK.nil
theorem dm.sec {w:ai} {B cb:Nat} {b:cY} {I:List UInt8} (h:dm w B cb b I) {n:Nat} (hn:n < 4):∃ aa cc,az w.heap cb (3 +n)=some (.slice aa (b.fC.getD n []).length cc)∧cU w.heap aa (b.fC.getD n []):=by
 obtain ⟨cs,A,⟨L,rc,vs,rfl,J,_,C⟩,_⟩:=h;obtain ⟨aa,cc,e,_,E⟩:=(C n hn).jQ;refine ⟨aa,cc,?_,E⟩;rw [A.az,ey (by simp only [bL,dx,iU]; omega),ez (by simp)];rw [b9] at e;have :vs[n]? =some (vs[n]'U):=bK U;rw [this] at e;show vs[3 +n - 3]? =_;rw [D6,this,← e]; rfl
theorem cU.none (h:Array Obj):cU h none []:=⟨fun h=>by simp at h,fun i hi=>by simp at hi⟩
theorem wq (B E:Nat) (b:cY) (V:List UInt8) (n:Int) (w:ai) (I:dm w B E b V):
 bp ar 35 (bD [aR E,.int .i64 n]) w (fun v w'=>(∃ aa cc,v= .slice aa (bd b n).length cc∧cU w'.heap aa (bd b n))∧Wk w w'):=by
 refine enter func35 J ntmps35 J<|aW 9 J<|p (rB sR J J)<|an 1 J<|gb (t:=7) J (fun h=>absurd (h.symm.trans<|J) cQ) fun Z=>an 4 J<|gs (t:=11) J (fun M=> ?_) fun M=> ?_;refine aB 13 J<|aO J ?_;have A:bd b n= []:=if_neg U;rw [A];exact ⟨⟨none,0,J,cU.none _⟩,Md.refl _ _⟩;refine aI 5 J<|cd J (fun L=> ?_) fun L=> ?_;refine aJ 7 J<|aO J ?_;have A:bd b n= []:=if_neg U;rw [A];exact ⟨⟨none,0,J,cU.none _⟩,Md.refl _ _⟩;obtain ⟨k,rfl⟩:∃ k:Nat,n=(k:Int):=⟨n.toNat,U⟩
 have A:bd b (k:Int)=b.fC.getD k []:=if_pos U;obtain ⟨aa,cc,C,O⟩:=dm.sec I (n:=k) U;rw [show 3 +k=0 +0 +3 +((k:Nat):Int).toNat*1 by omega] at C;refine aH 9 J<|p (lh yC J J U)<|p (ay J<|C)<|p aQ<|aB 3 J<|aO J ?_;rw [A];exact ⟨⟨aa,cc,J,O⟩,Md.refl _ _⟩
theorem EG (C:UInt8×Int) (x:List UInt8) (i L I:Nat) (w:ai) (O:aA w.heap L [str x]) (M:aA w.heap I [aD i]) (hi:i < x.length):
 bp ar 60 (bD [.agg #[.int .u8 C.1.toNat,.int .i64 C.2],aR L,aR I]) w (fun v w'=>v= .bool (decide (C.1=x.getD i 0))∧Wk w w'):=by
 exact enter func60 J ntmps60 J<|aW 2 J<|e<|nr J fun Z ac ab E V=>aI 4 J<|fl fun A=>ba [0] J A<|da 1 J A (V.aN 0)<|da 2 J A ((Wk.B E.md O).aN 0)<|da 3 J A ((Wk.B E.md M).aN 0)<|dr 4 J (eH u9 J J U) A<|ba [5,6] J A<|hn aq<|bl 2 J<|aO J<|⟨bv (by rw [Int.ofNat_inj,jz]),E.md.drew⟩
theorem Hq (a:Option aZ) (c:Nat) (es:List (UInt8×Int)) (x:List UInt8) (i L I:Nat) (w:ai) (ab:kQ w.heap a es) (aj:aA w.heap L [str x]) (ah:aA w.heap I [aD i]) (hi:i < x.length) (an:es.length≤256):
 bp ar 59 (bD [.slice a es.length c,.func (.func 60) #[] #[aR L,aR I]]) w (fun v w'=>(∃ r:Int,v= .int .i64 r∧((r=(fW (x.getD i 0) es:Nat)∧fW (x.getD i 0) es < es.length)∨(r= -1∧fW (x.getD i 0) es=es.length)))∧Wk w w'):=by
 refine enter func59 J ntmps59 J<|aW 8 J<|p mv<|aI 5 J<|lp (fun V ae O=> ∃ (k:Nat),(k≤es.length)∧(∀ (j:Nat) (A:UInt8×Int),j < k→es[j]? =some A→A.1≠x.getD i 0)∧(Wk w O)∧(Sl ae [(0,.slice a es.length c),(1,.func (.func 60) #[] #[aR L,aR I]),(7,aD (es.length)),(8,aD k)])∧(es.length - k=V)) _ ⟨0,U,(fun j d ad=>by omega),(Md.refl _ _),J,J⟩ ?_;rintro V ae O ⟨k,am,M,C,al,rfl⟩;refine bw al<|cg 6 J<|cd J (fun ak=> ?_) fun ak=> ?_;refine bM 11 J ?_;obtain ⟨ag,he⟩:∃ d,es[k]? =some d:=⟨_,bK U⟩
 refine aH 4 J<|p (bF nE J J U<|ab.ok U)<|p (fu q6 J (J)<|(ab.wk C).two he)<|e<|uo E9 J (EG ag x i L I O (Wk.B C aj) (Wk.B C ah) hi) J ?_;rintro ao ap ⟨rfl,Z⟩;refine aI 2 J<|cb J (fun hm=> ?_) fun hm=> ?_;refine aJ 9 J<|tr<|bl 2 J<|aO J ?_;have ac:=Ai he (of_decide_eq_true hm) M;exact ⟨⟨(k:Nat),J,.inl ⟨by rw [ac],by rw [ac]; omega⟩⟩,C.trans Z⟩;exact aH 4 J<|p (cq<|k+1)<|aB 2 J<|tn<|⟨_,U,k+1,U,(fun j A ad E=>by rcases Nat.lt_succ_iff_lt_or_eq.1 ad with h | rfl; exact M j A h E; rw [he] at E; cases E; exact of_decide_eq_false hm),(C.trans Z),J,J⟩
 exact aJ 2 J<|cw<|bl 8 J<|aO J<|⟨⟨-1,J,.inr ⟨J,Aj fun j A E=>M j A (by have :=(cI.1 E).1; omega) E⟩⟩,C⟩
theorem yr {l:List aG} {n:Nat} :fi l n []=(some n,0):=rfl
theorem yt {l:List aG} {n:Nat} {c:UInt8} {w:List UInt8} (h:fW c (aw l n).2=(aw l n).2.length):fi l n (c::w)=(none,0):=by
 rw [fi,if_neg U]
theorem yq {l:List aG} {n m:Nat} {c:UInt8} {w:List UInt8} {e:UInt8×Int} (h:(aw l n).2[fW c (aw l n).2]? =some e) (he:e.2=(m:Int)):fi l n (c::w)=((fi l m w).1,(fi l m w).2 +1):=by
 have aP:=(cI.1 h).1;rw [fi,if_pos aP,b9,h];show ((fi l e.2.toNat w).1,(fi l e.2.toNat w).2 +1)=_;rw [he,j0]
theorem uB {x:List UInt8} {k:Nat} (h:k < x.length):x.drop k=x.getD k 0::x.drop (k+1):=by
 rw [List.drop_eq_getElem_cons h,b9,bK h]; rfl
def Ej (l:List aG) (x:List UInt8) (w:ai) (v:ag) (w':ai):Prop :=Wk w w'∧∃ p,v= .tuple #[p,.int .i64 ((eE l x).2:Nat)]∧match (eE l x).1 with
 | none=>p= .pointer none
 | some q=> ∃ A C,p= .pointer (some ⟨A,C,none⟩)∧az w'.heap A (C+0)=some (.bool (aw l q).1)
theorem tY (B ah:Nat) (b:cY) (aO:List UInt8) (n:Int) (x:List UInt8) (w:ai) (aV:dm w B ah b aO) (aE:fK (bd b n)) (bj:x.length≤4294967296):
 bp ar 33 (bD [aR ah,.int .i64 n,str x]) w (Ej (bd b n) x w):=by
 obtain ⟨bf,bg⟩:=id aE;refine enter func33 J ntmps33 J<|aW 2 J<|e<|E6 J J fun M bc bi ab ap=> ?_;have bn:=ab.size;refine an 6 J<|p mv<|p mv<|e<|a9 (wq B ah b aO n bc<|aV.wk ab.md) J ?_;rintro br bb ⟨⟨aa,cc,rfl,aZ⟩,hE14⟩;have av:=ab.md.trans hE14;refine p aQ<|an 5 J<|p mv<|aI 4 J<|cd J (fun a0=> ?_) fun a0=> ?_;have I:(bd b n).length=0:=U;refine aJ 8 J<|f2 J J J ?_;have C:eE (bd b n) x=(none,0):=if_pos<|kH I;refine ⟨av,.pointer none,by rw [C]; rfl,?_⟩;rw [C];have I:0 < (bd b n).length:=U;refine aH 10 J<|p (ay J<|(aA.aN ⟨_,Wk.ax hE14 ap⟩ 0:az bb.heap M 0=some (str x)))<|aI 5 J<|lp (fun ao aP L=> ∃ (k q:Nat),(k≤x.length)∧(q < (bd b n).length)∧(eE (bd b n) x=((fi (bd b n) q<|x.drop k).1,(fi (bd b n) q<|x.drop k).2 +k))∧(cU L.heap aa<|bd b n)∧(aA L.heap M [str x])∧(Wk w L)∧(Sl aP [(5,aR M),(8,.slice aa (bd b n).length cc),(9,aD q),(19,aD (x.length)),(20,aD k)])∧(x.length - k=ao)) _ ⟨0,0,U,I,(by rw [eE,if_neg (fun h=>by rw [h] at I; simp at I)]; rfl),aZ,(⟨_,Wk.ax hE14 ap⟩),av,J,J⟩ ?_;rintro ao aP L ⟨k,q,a3,ag,hg,E,ad,V,a6,rfl⟩;refine bw a6<|cg 6 J<|cd J (fun a1=> ?_) fun a1=> ?_;refine aH 7 J<|e<|ek Le fun ak bu bh aF aS=> ?_;have bm:=aF.size;refine e<|dT di J J J aS (by simp) fun aj aY aU=> ?_;have au:aA aj.heap ak [aD k]:=⟨_,aU⟩
 have A:Wk L aj:=Md.trans' aF.md aY fun k a3 h=>by omega
 have bo:=A.size;refine aI 3 J ?_;obtain ⟨al,am,ac,aX⟩:=E.two ag;have aK:=jS A ac;have Z:=aX.wk A;obtain ⟨a4,a5⟩:=aE.st ag;have aL:=uB (x:=x) (k:=k) U;refine aH 3 J<|p (bF kW J J U<|E.ok U)<|an 1 J<|p (ay J<|aK 1 U)<|p vD<|e<|a9 (Hq al am (aw (bd b n) q).2 x k M ak aj Z (A.B ad) au U a4) J ?_;rintro bt bv ⟨⟨bq,rfl,aM⟩,hE29⟩;refine aI 10 J<|cd J (fun a2=> ?_) fun a2=> ?_;have ae:=aM.resolve_left fun h=>by omega
 refine bM 1 J<|fl fun aG=>da 0 J aG ((hE29.B au).aN 0)<|ba [1,2] J aG<|hn aq<|bl 5 J<|tr<|bl 2 J<|f2 J J J ?_;have C:eE (bd b n) x=(none,k):=by rw [hg,aL,yt ae.2]; simp
 refine ⟨(V.trans<|A.trans hE29).drew,.pointer none,by rw [C]; rfl,?_⟩;rw [C];obtain ⟨rfl,ae⟩:=aM.resolve_right fun h=>by omega
 refine bM 2 J ?_;obtain ⟨⟨c,z⟩,he⟩:∃ e,(aw (bd b n) q).2[fW (x.getD k 0) (aw (bd b n) q).2]? =some e:=⟨_,bK ae⟩
 obtain ⟨a7,a8⟩:=a5 _ _ he;obtain ⟨m,rfl⟩:∃ m:Nat,z=(m:Int):=⟨z.toNat,by simp only at a7; omega⟩
 simp only at a8;exact aH 3 J<|p (bF kW J J U<|E.ok U)<|an 1 J<|p (ay J<|(jS hE29 aK) 1 U)<|an 1 J<|p (bF nE J J U<|Z.ok U)<|an 1 J<|p (ay J (show _=some (aT .i64 ((m:Nat):Int)) from (Z.wk hE29).to _ (c,_) he))<|an 5 J<|p (cq<|k+1)<|aB 2 J<|tn<|⟨_,U,k+1,m,U,U,(by rw [hg,aL,yq he J]; simp only [Prod.mk.injEq,true_and]; omega),(E.wk<|A.trans hE29),(Wk.B (A.trans hE29) ad),(V.trans<|A.trans hE29),J,J⟩
 refine aJ 2 J<|cw<|dG 3 J<|fl fun O=>ba [0,1] J O<|dr 2 J (bF kW J J U<|E.ok U) O<|da 3 J O (ad.aN 0)<|ba [4,5,6] J O<|hn aq<|bl 2 J<|f2 J J J ?_;obtain rfl :k=x.length:=U;have C:eE (bd b n) x=(some q,x.length):=by rw [hg,List.drop_length,yr]; simp
 refine ⟨Md.drew V,_,by rw [C]; rfl,?_⟩;rw [C];obtain ⟨al,am,ac,_⟩:=E.two ag;exact ⟨_,_,J,ac 0 U⟩
theorem Hf (B A:Nat) (b:cY) (E:List UInt8) (n:Int) (x:List UInt8) (w:ai) (I:dm w B A b E) (M:fK (bd b n)) (U:x.length≤4294967296) (C:(eE (bd b n) x).1=none):
 bp ar 13 (bD [aR A,.int .i64 n,str x]) w (fun v w'=>v= .bool (ej (bd b n) x)∧Wk w w'):=by
 refine enter func13 J ntmps13 J<|aW 7 J<|p mv<|p mv<|p mv<|e<|a9 (tY B A b E n x w I M U) J ?_;rintro Z ab ⟨L,p,rfl,hp⟩;rw [C] at hp;subst hp;refine p mv<|an 2 J<|p aQ<|an 5 J<|p mv<|p (vJ Cu J J)<|an 1 J<|gb (t:=18) J (fun h=>absurd (h.symm.trans<|J) cQ) fun V=>an 5 J<|p aQ<|aB 3 J<|aO J ?_;have O:ej (bd b n) x=false :=by rw [ej,C]
 rw [O];exact ⟨J,L⟩
theorem Hh (B A:Nat) (b:cY) (E:List UInt8) (n:Int) (x:List UInt8) (w:ai) (I:dm w B A b E) (M:fK (bd b n)) (V:x.length≤4294967296) (q:Nat) (C:(eE (bd b n) x).1=some q):
 bp ar 13 (bD [aR A,.int .i64 n,str x]) w (fun v w'=>v= .bool (ej (bd b n) x)∧Wk w w'):=by
 refine enter func13 J ntmps13 J<|aW 7 J<|p mv<|p mv<|p mv<|e<|a9 (tY B A b E n x w I M V) J ?_;rintro ad ae ⟨L,p,rfl,hp⟩;rw [C] at hp;obtain ⟨Z,ac,rfl,U⟩:=hp;refine p mv<|an 2 J<|p aQ<|an 5 J<|p mv<|p (vJ Cu J J)<|an 1 J<|gb (t:=18) J (fun ab=> ?_) fun h=>absurd ((J).symm.trans h) cQ;refine bB J mv<|an 2 J<|bB J (ay J<|U)<|aB 5 J<|aO J ?_;have O:ej (bd b n) x=(aw (bd b n) q).1:=by rw [ej,C]
 rw [O];exact ⟨J,L⟩
theorem nK (B A:Nat) (b:cY) (C:List UInt8) (n:Int) (x:List UInt8) (w:ai) (E:dm w B A b C) (I:fK (bd b n)) (J:x.length≤4294967296):bp ar 13 (bD [.pointer (some ⟨A,0,none⟩),.int .i64 n,str x]) w (fun v w'=>v= .bool (ej (bd b n) x)∧Wk w w'):=by
 cases hX:(eE (bd b n) x).1 with
 | none=>exact Hf B A b C n x w E I J hX
 | some q=>exact Hh B A b C n x w E I J q hX
theorem uj (B A:Nat) (b:cY) (C:List UInt8) (x:List UInt8) (w:ai) (E:dm w B A b C) (L:fK (bd b 0)) (M:x.length≤4294967296):
 bp ar 14 (bD [aR A,str x]) w (fun v w'=>v= .bool (ej (bd b 0) x)∧Wk w w'):=by
 refine enter func14 J ntmps14 J<|aW 7 J<|p mv<|p mv<|e<|a9 (nK B A b C 0 x w E L M) J ?_;rintro O U ⟨rfl,I⟩;exact aB 4 J<|aO J<|⟨J,I⟩
end Go.Hb.dm
end
section
namespace Go.Hb
open Go.Hb.gO Go.Hb.jA Go.Hb.dm
theorem G0 {x y z:ag} {ws:List ag} {i:Nat} (hi:i < ws.length):([x,y,z]++ws).toArray[0 +3 +((i:Nat):Int).toNat*1]? =some (ws.getD i .nilFunc):=by
 rw [List.getElem?_toArray,show 0 +3 +((i:Nat):Int).toNat*1=i+1 +1 +1 from by omega,b9,bK hi];show ws[i]? =_;rw [bK hi]; rfl
end Go.Hb
end
section
namespace Go.Hb
open Go.Hb.ei
open Go.Hb.gO
theorem HG {s:List UInt8} {a i:Nat} (h:a+i < s.length) (hb:(s.getD (a+i) 0).toNat < 128):(s.getD (a+i) 0).toNat=dA ((s.drop<|a+i).take<|i+1 - i):=by
 rw [show i+1 - i=1 by omega,drop_cons 0 h];show _=dA [s.getD (a+i) 0];rw [dA,dA]; omega
theorem HF {i b:Nat} (hi:i≤9) (hb:b < 128) (I:¬(i=9∧1 < b)):(b+1)*128 ^ i≤18446744073709551616:=by
 have E:(128:Nat) ^ 9=9223372036854775808:=aX;have C:(128:Nat) ^ 8=72057594037927936:=aX;rcases dk i 9 with h | h
 · have h1:(128:Nat) ^ i≤128 ^ 8:=qT aX U;have A:=Nat.mul_le_mul (show b+1≤128 by omega) h1;omega
 · obtain rfl :i=9:=U;have A:=kN (128 ^ 9) (show b+1≤2 by omega);omega
theorem HE {s:List UInt8} {a i k:Nat} (h:k < i) (ha:a+i < s.length) (hb:128≤(s.getD (a+k) 0).toNat):dA ((s.drop<|a+k).take<|i+1 - k)=dA ((s.drop<|a+(k+1)).take<|i+1 - (k+1))*128 +((s.getD (a+k) 0).toNat - 128):=by
 rw [drop_cons (i:=a+k) 0 U,show i+1 - k=(i+1 - (k+1))+1 by omega,List.take_succ_cons,dA,Nat.add_assoc a k 1];have :=lU<|s.getD (a+k) 0;omega
theorem E0 {n c k:Nat} (h:(n+1)*128 ^ (k+1)≤18446744073709551616) (A:c < 128):(n*128 +c+1)*128 ^ k≤18446744073709551616:=by
 refine cX ?_ h;rw [Nat.pow_succ,qS (128 ^ k) 128,← Nat.mul_assoc];exact kN _ U
theorem E1 {n k:Nat} (h:(n+1)*128 ^ (k+1)≤18446744073709551616):n*128 +128≤18446744073709551616:=by
 have h1:128 ^ 1≤128 ^ (k+1):=qT aX U;have A:=yg (n+1) h1;omega
theorem Jc (s:List UInt8) (a:Nat):∃ n C A:Nat,wi (bf s a)= .tuple #[.int .u64 (n:Nat),.int .i64 (C:Nat),.int .i64 (A:Nat)]∧((A=0∧bf s a= .ok (n,C))∨(A≠0∧bf s a= .error A)):=by
 cases h:bf s a with
 | ok x=>exact ⟨x.1,x.2,0,rfl,.inl ⟨rfl,rfl⟩⟩
 | error e=>
   refine ⟨0,0,e,J,.inr ⟨?_,J⟩⟩;rcases wj h with h | h <;> omega
theorem I6 (s:List UInt8) (a:Nat) (w:ai) (aU:s.length≤1048576) (ha:a≤s.length):
 bp ar 46 (bD [str s,aD a]) w (fun v w'=>v=wi (bf s a)∧Wk w w'):=by
 refine enter func46 J ntmps46 J<|aW 10 J<|p mv<|an 2 J<|gs (t:=13) J (fun h=>absurd h U) fun aR=>bB J mv<|bB J mv<|aI 5 J<|cd J (fun ao=> ?_) fun ao=> ?_;exact aJ 9 J<|f3 J J J J<|⟨by rw [sy (jm (k:=0) U (fun j Z=>by omega)<|.inr<|.inl U) U U]; rfl,Md.refl _ _⟩
 refine bM 7 J ?_;refine dv (fun ag ab=> ∃ (i:Nat),(i≤10)∧(∀ j,j < i→a+j < s.length∧128≤(s.getD (a+j) 0).toNat)∧(i=10∨s.length≤a+i∨(s.getD (a+i) 0).toNat < 128)∧(Wk w ab)∧(Sl ag [(0,str s),(1,aD a),(7,aD i)])) ?_ ?_;refine cg 1 J<|lp (fun E ah ad=> ∃ (i:Nat),(i≤10)∧(∀ j,j < i→a+j < s.length∧128≤(s.getD (a+j) 0).toNat)∧(Wk w ad)∧(Sl ah [(0,str s),(1,aD a),(7,aD i)])∧(10 - i=E)) _ ⟨0,U,(fun j Z=>by omega),(Md.refl _ _),J,J⟩ ?_;rintro E ah ad ⟨i,hi,C,L,aG,rfl⟩;refine bw aG<|aW 6 J<|gs (t:=21) J (fun ax=> ?_) fun ax=> ?_;refine an 8 J<|gs (t:=29) J (fun ay=> ?_) fun ay=> ?_;refine an 3 J<|bB J (cq<|a+i)<|bB J (eH u9 J J U)<|aI 4 J<|cd J (fun ap=> ?_) fun ap=> ?_;exact aH 5 J<|p (cq<|i+1)<|aB 3 J<|tn<|⟨_,U,i+1,U,(fun j Z=>by rcases dk j i with h | h <;> first | exact C j h | (have al:j=i:=U; subst al; exact ⟨U,U⟩)),L,J,J⟩
 exact aJ 2 J<|cw<|bl 1 J<|tn<|⟨i,hi,C,(.inr<|.inr U),L,J⟩
 exact aB 12 J<|cw<|bl 1 J<|tn<|⟨i,hi,C,(.inr<|.inl U),L,J⟩
 exact an 7 J<|p mv<|aB 12 J<|cw<|bl 1 J<|tn<|⟨i,hi,C,(.inl U),L,J⟩
 rintro ag ab ⟨i,hi,C,aM,A,aF⟩;refine bw aF ?_;have I:=jm (s:=s) (a:=a) (k:=i) hi C aM;refine bM 7 J<|cd J (fun aq=> ?_) fun aq=> ?_;exact aJ 9 J<|f3 J J J J<|⟨by rw [Bo U]; rfl,A⟩
 refine bM 13 J<|cd J (fun au=> ?_) fun au=> ?_;exact aJ 9 J<|f3 J J J J<|⟨by rw [sy I U U]; rfl,A⟩
 refine aH 7 J<|p (cq<|a+i)<|p (eH u9 J J U)<|aI 3 J ?_;refine dv (fun aj ac=> ∃ (aO:Unit),(¬((i=9∧1 < (s.getD (a+i) 0).toNat)∨(0 < i∧(s.getD (a+i) 0).toNat=0)))∧(Wk w ac)∧(Sl aj [(0,str s),(1,aD a),(7,aD i),(8,.int .u8 (s.getD (a+i) 0).toNat)])) ?_ ?_;refine aW 5 J<|gs (t:=54) J (fun az=> ?_) fun az=> ?_;refine an 4 J<|gs (t:=58) J (fun aA=> ?_) fun aA=> ?_;exact aB 18 J<|tr<|f3 J J J J<|⟨by rw [oo I U U U]; rfl,A⟩
 refine an 3 J<|gs (t:=61) J (fun O=> ?_) fun O=> ?_;refine aI 6 J<|cd J (fun M=> ?_) fun M=> ?_;exact aJ 8 J<|tr<|f3 J J J J<|⟨by rw [oo I U U U]; rfl,A⟩
 exact aJ 1 J<|tn<|⟨(),U,A,J⟩
 exact an 3 J<|p (lC J)<|aB 4 J<|tn<|⟨(),U,A,J⟩
 refine an 3 J<|p mv<|an 3 J<|gs (t:=61) J (fun O=> ?_) fun O=> ?_;refine aI 6 J<|cd J (fun M=> ?_) fun M=> ?_;exact aJ 8 J<|tr<|f3 J J J J<|⟨by rw [oo I U U U]; rfl,A⟩
 exact aJ 1 J<|tn<|⟨(),U,A,J⟩
 exact an 3 J<|p (lC J)<|aB 4 J<|tn<|⟨(),U,A,J⟩
 rintro aj ac ⟨aO,aw,am,aK⟩;refine bw aK<|aH 3 J<|p (gr oL xu J<|gi U)<|aI 12 J<|lp (fun E ak ae=> ∃ (k n:Nat) (x:Int),(k≤i)∧(x=(k:Int) - 1)∧(n=dA ((s.drop<|a+k).take<|i+1 - k))∧((n+1)*128 ^ k≤18446744073709551616)∧(Wk w ae)∧(Sl ak [(0,str s),(1,aD a),(7,aD i),(9,.int .u64 (n:Nat)),(10,.int .i64 x)])∧(k=E)) _ ⟨i,(s.getD (a+i) 0).toNat,(i:Int) - 1,U,J,(HG U U),(HF U U U),am,J,J⟩ ?_;rintro E ak ae ⟨k,n,x,aT,aV,hn,hb,V,aL,rfl⟩;refine bw aL<|cg 7 J<|cd J (fun av=> ?_) fun av=> ?_;obtain ⟨k,rfl⟩:∃ aN:Nat,k=aN+1:=⟨k - 1,U⟩
 obtain rfl :x=(k:Int):=U;obtain ⟨aS,aE⟩:=C k U;have aP:=E1 hb;have aQ:=lU<|s.getD (a+k) 0;exact aH 6 J<|p (vF ((n*128:Nat):Int) J J<|(gi U).trans U)<|an 3 J<|p (cq<|a+k)<|p (eH u9 J J U)<|p (wo (((s.getD (a+k) 0).toNat - 128:Nat):Int) J J<|(xF U).trans U)<|p (gr oL xu J<|gi U)<|p (tX ((n*128 +((s.getD (a+k) 0).toNat - 128):Nat):Int) J J<|(gi U).trans U)<|aB 9 J<|tn<|⟨_,U,k,n*128 +((s.getD (a+k) 0).toNat - 128),(k:Int) - 1,U,J,(by rw [hn]; exact (HE U U aE).symm),(E0 hb U),V,J,J⟩
 refine aJ 2 J<|cw<|iC 7 J<|p (cq<|a+i)<|p (cq<|a+i+1)<|aB 6 J<|f3 J J J J ?_;obtain rfl :k=0:=U;rw [jy,Nat.sub_zero] at hn;subst hn;exact ⟨by rw [sx I U U aw]; rfl,V⟩
theorem nU (rb:Nat) (s:List UInt8) (a f:Nat) (w:ai) (C:aA w.heap rb [str s,aD a,aD f]) (ax:s.length≤1048576) (ha:a≤s.length):
 bp ar 21 (bD [aR rb]) w (fun v w'=> ∃ n E q:Nat,v= .int .u64 (n:Nat)∧aA w'.heap rb [str s,aD E,aD q]∧E≤s.length∧n < 18446744073709551616∧((f=0∧q=0∧bf s a= .ok (n,E))∨(q≠0∧n=0∧((f≠0∧q=f)∨(f=0∧bf s a= .error q))))∧Md (fun k=>k=rb) w w'):=by
 refine enter func21 J ntmps21 J<|aW 8 J<|p mv<|an 2 J<|p (ay J<|C.aN 2)<|aI 3 J<|cd J (fun ap=> ?_) fun ap=> ?_;exact aJ 7 J<|aO J<|⟨0,a,f,J,C,ha,aX,.inr ⟨U,J,.inl ⟨U,J⟩⟩,Md.refl _ _⟩
 refine bM 3 J<|fl fun A=>dr 0 J (mv) A<|ba [1,2] J A<|da 3 J A (C.aN 0)<|dr 4 J (mv) A<|ba [5,6] J A<|da 7 J A (C.aN 1)<|he 8 J aq<|a9 (I6 s a w.drew ax ha) J ?_;rintro v20 aE ⟨ab,I⟩;obtain ⟨n,E,ag,aw,ac⟩:=Jc s a;rw [aw] at ab;subst ab;have O:=Wk.B (Md.gA I) C;have V:=(Md.gA I).mono (G:=fun k=>k=rb) fun _ _ h=>h.elim;have L:(fun w'=>Wk w w') aE:=A.trans I;refine ⟨L,?_⟩;refine dr 9 J (mv) L<|ba [10,11,12,13,14,15] J L<|hn aq<|dG 8 J<|cd J (fun M=> ?_) fun M=> ?_;obtain ⟨Z,az⟩:=ac.resolve_left fun h=>M<|by rw [h.1]; rfl
 refine aH 2 J<|p mv<|an 3 J<|e<|st di J J (J) (O) (by simp) fun aG al ah=> ?_;have ak:=V.trans al;exact aB 9 J<|aO J<|⟨0,a,ag,J,ah,ha,aX,.inr ⟨Z,J,.inr ⟨U,az⟩⟩,ak⟩
 obtain ⟨Z,ad⟩:=ac.resolve_right fun h=>M U;obtain ⟨aF,au,av⟩:=iJ ad;refine aH 4 J<|p mv<|an 3 J<|e<|st di J J (J) (O) (by simp) fun aK ao aj=> ?_;have am:=V.trans ao;exact aB 9 J<|aO J<|⟨n,E,0,J,(by have ae:f=0:=U; subst ae; exact aj),au,av,.inl ⟨U,J,ad⟩,am⟩
theorem uR (rb:Nat) (s:List UInt8) (a f:Nat) (w:ai) (ae:aA w.heap rb [str s,aD a,aD f]) (az:s.length≤1048576) (ha:a≤s.length):
 bp ar 22 (bD [aR rb]) w (fun v w'=> ∃ (x:List UInt8) (C q:Nat),v=str x∧aA w'.heap rb [str s,aD C,aD q]∧C≤s.length∧x.length≤255∧((f=0∧q=0∧cP s a= .ok (x,C))∨(q≠0∧((f≠0∧q=f)∨(f=0∧cP s a= .error q))))∧Md (fun k=>k=rb) w w'):=by
 refine enter func22 J ntmps22 J<|aW 7 J<|p mv<|e<|a9 (nU rb s a f w ae az<|ha) J ?_;rintro aM aP ⟨n,C,q,rfl,I,ab,aL,ac,M⟩;refine an 6 J<|p mv<|an 2 J<|p (ay J<|I.aN 2)<|aI 3 J<|cd J (fun V=> ?_) fun V=> ?_;obtain ⟨_,_,av⟩:=ac.resolve_left fun h=>V<|by rw [h.2.1]; rfl
 exact aJ 7 J<|aO J<|⟨[],C,q,J,I,ab,aX,.inr ⟨U,av.imp id fun ⟨ad,h⟩=>⟨ad,zW h⟩⟩,M⟩
 obtain ⟨Z,rfl,O⟩:=ac.resolve_right fun h=>V U;obtain ⟨aF,aG,aK⟩:=iJ O;refine bM 9 J<|cd J (fun aw=> ?_) fun aw=> ?_;refine aH 2 J<|p mv<|an 2 J<|e<|st di J J (J) (I) (by simp) fun aQ am ah=> ?_;have ao:=M.trans am;exact aB 9 J<|aO J<|⟨[],C,62,J,ah,ab,aX,.inr ⟨aX,.inr ⟨Z,zX O U⟩⟩,ao⟩
 refine bM 4 J<|fl fun E=>ba [0] J E<|dr 1 J (gr u3 lH J<|iN U) E<|dr 2 J (mv) E<|ba [3,4] J E<|da 5 J E (I.aN 0)<|ba [6] J E<|dr 7 J (mv) E<|ba [8,9] J E<|da 10 J E (I.aN 1)<|ba [11,12] J E<|hn aq<|dG 1 J<|cd J (fun ax=> ?_) fun ax=> ?_;refine aH 2 J<|p mv<|an 2 J<|e<|st di J J (J) (I) (by simp) fun aS ap aj=> ?_;have au:=M.trans<|Md.gA ap;exact aB 9 J<|aO J<|⟨[],C,60,J,aj,ab,aX,.inr ⟨aX,.inr ⟨Z,zY O U U⟩⟩,au⟩
 refine aH 4 J<|p mv<|p mv<|an 2 J<|p (ay J<|I.aN 1)<|an 1 J<|p (gr u3 lH J<|iN U)<|p (cq<|C+n)<|an 2 J<|e<|st di J J (J) (I) (by simp) fun aE ak ag=> ?_;have al:=M.trans<|Md.gA ak;have L:aA aE.heap rb [str s,aD (C+n),aD 0]:=ag;exact aI 3 J<|fl fun A=>dr 0 J (mv) A<|ba [1,2] J A<|da 3 J A (L.aN 0)<|dr 4 J (mv) A<|ba [5,6] J A<|da 7 J A (L.aN 1)<|ba [8] J A<|dr 9 J (gr u3 lH J<|iN U) A<|dr 10 J (qk<|C) A<|dr 11 J (mv) A<|ba [12,13] J A<|da 14 J A (L.aN 1)<|dr 15 J (sJ u9 J J J U) A<|ba [16] J A<|hn aq<|bl 2 J<|aO J<|⟨(s.drop C).take n,C+n,0,(by rw [← BM]; rfl),Wk.B A L,U,by rw [cN]; omega,.inl ⟨Z,J,zZ O U U⟩,Md.trans al<|Md.mono A fun _ _ h=>h.elim⟩
theorem Gf (rb:Nat) (s:List UInt8) (a n:Nat) (w:ai) (ak:aA w.heap rb [str s,aD a,aD 0]) (bm:s.length≤1048576) (ha:a≤s.length) (bv:n≤1048576):
 bp ar 49 (bD [aR rb,.int .u64 (n:Nat)]) w (fun v w'=> ∃ (c:UInt8) (t:Int) (E q:Nat),v= .agg #[aT .u8 c.toNat,.int .i64 t]∧aA w'.heap rb [str s,aD E,aD q]∧E≤s.length∧((q=0∧dO s n a= .ok ((c,t),E))∨(q≠0∧dO s n a= .error q))∧Md (fun k=>k=rb) w w'):=by
 have bx:=ak.lt;refine enter func49 J ntmps49 J<|aW 2 J<|e<|ek CQ fun V bG bt ac al=> ?_;have bA:=ac.size;have I:=Wk.B ac.md ak;refine aI 4 J<|fl fun A=>dr 0 J (mv) A<|ba [1,2] J A<|da 3 J A (I.aN 1)<|dr 4 J (mv) A<|ba [5,6] J A<|da 7 J A (I.aN 0)<|ba [8,9] J A<|hn aq<|dG 1 J<|cd J (fun bi=> ?_) fun bi=> ?_;refine aH 2 J<|p mv<|an 2 J<|e<|st di J J (J) (I) (by simp) fun bH ap a2=> ?_;have bf:=ap.ax al fun h=>by omega
 refine an 4 J<|p (eF (ps:= []) (L:= [.int .u8 0,.int .i64 0]) xe J<|J)<|e<|eK rj J J J J bf (by simp) fun br au a3=> ?_;have a4:aA br.heap V [aT .u8 0,.int .i64 0]:=⟨_,a3⟩
 have bc:=au.B a2 fun h=>by omega
 have bd:=((ac.md.mono fun _ _ h=>h.elim).trans (Md.mono A (fun _ _ h=>h.elim) |>.trans ap)).trans' au fun k aM h=>by omega
 exact aB 4 J<|rF J (iI (cs:= [aT .u8 0,.int .i64 0]) J qZ J fun j aL=>a4.aN j)<|⟨0,0,a,60,J,bc,ha,.inr ⟨aX,zw U⟩,bd⟩
 refine bM 3 J<|fl fun C=>dr 0 J (mv) C<|ba [1,2] J C<|da 3 J C (I.aN 0)<|dr 4 J (mv) C<|ba [5,6] J C<|da 7 J C (I.aN 1)<|dr 8 J (eH u9 J J U) C<|ba [9] J C<|hn aq<|iC 3 J<|p mv<|p mv<|an 2 J<|p (ay J<|I.aN 1)<|p (cq<|a+1)<|an 2 J<|e<|st di J J (J) (I) (by simp) fun aS aw a6=> ?_;have a5:aA aS.heap rb [str s,aD (a+1),aD 0]:=a6;have bg:=aw.ax al fun h=>by omega
 refine an 4 J<|p mv<|e<|a9 (nU rb s (a+1) 0 aS a5 bm U) J ?_;rintro bE bF ⟨t,E,q,rfl,ab,aP,bu,aQ,av⟩;have ag:=av.ax bg fun h=>by omega
 have M:=(((ac.md.mono (G:=fun k=>k=rb) fun _ _ h=>h.elim).trans<|Md.mono A fun _ _ h=>h.elim).trans<|Md.mono C fun _ _ h=>h.elim).trans<|aw.trans av;refine aI 3 J ?_;refine dv (fun aU Z=> ∃ (O:Nat),(aA Z.heap rb [str s,aD E,aD O])∧((O=0∧dO s n a= .ok ((s.getD a 0,((t:Nat):Int)),E)∧t < n)∨(O≠0∧dO s n a= .error O))∧(Z.heap[V]? =some (.cells [aT .u8 0,.int .i64 0].toArray 103 (0,0)))∧(Md (fun k=>k=rb) w Z)∧(w.heap.size≤Z.heap.size)∧(Sl aU [(0,aR rb),(1,.int .u64 (n:Nat)),(4,aR V),(5,.int .u8 (s.getD a 0).toNat),(6,.int .u64 (t:Nat))])) ?_ ?_;refine aW 2 J<|p mv<|an 2 J<|p (ay J<|ab.aN 2)<|an 2 J<|gs (t:=45) J (fun aK=> ?_) fun aK=> ?_;have aE:=(aQ.resolve_right fun h=>h.1 U).2.2;refine an 1 J<|bB J mv<|aI 4 J<|cd J (fun bj=> ?_) fun bj=> ?_;refine aH 1 J<|p mv<|an 2 J<|e<|st di J J (J) (ab) (by simp) fun bI ae a7=> ?_
 skip
 exact aB 1 J<|tn<|⟨190,a7,(.inr ⟨aX,zy U aE U⟩),(ae.ax ag fun h=>by omega),(M.trans ae),((M.trans ae).size),J⟩
 exact aJ 1 J<|tn<|⟨0,((by have aV:q=0:=U; subst aV; exact ab)),(.inl ⟨J,zz U aE U,U⟩),ag,M,M.size,J⟩
 have aG:=aQ.resolve_left fun h=>aK<|by rw [h.2.1]; rfl
 exact aB 8 J<|tn<|⟨q,ab,(.inr ⟨aG.1,aG.2.2.elim (fun h=>absurd J h.1) fun h=>zx U h.2⟩),ag,M,M.size,J⟩
 rintro aU Z ⟨O,ad,aj,aF,az,bC,bn⟩;refine bw bn<|aH 6 J<|p (ay J<|ad.aN 2)<|aI 3 J<|cd J (fun ah=> ?_) fun ah=> ?_;obtain ⟨bl,bh⟩:=aj.resolve_left fun h=>ah<|by rw [h.1]; rfl
 refine aH 2 J<|p (eF (ps:= []) (L:= [.int .u8 0,.int .i64 0]) xe J<|J)<|e<|eK rj J J J J aF (by simp) fun bo am aY=> ?_;have aZ:aA bo.heap V [aT .u8 0,.int .i64 0]:=⟨_,aY⟩
 have a8:=am.B ad fun h=>by omega
 exact aB 4 J<|rF J (iI (cs:= [aT .u8 0,.int .i64 0]) J qZ J fun j aL=>aZ.aN j)<|⟨0,0,E,O,J,a8,aP,.inr ⟨bl,bh⟩,az.trans' am fun k aM h=>by omega⟩
 obtain ⟨rfl,aO⟩:=aj.resolve_right fun h=>ah U;have bz:=aO.2;refine aH 6 J<|p (gr u3 lH J<|iN U)<|p (eF (ps:= [(0,aT .u8 (s.getD a 0).toNat),(1,aD t)]) (L:= [aT .u8 (s.getD a 0).toNat,aD t]) xe J<|J)<|e<|eK rj J J J J aF (by simp) fun bq ao a0=> ?_;have a1:aA bq.heap V [aT .u8 (s.getD a 0).toNat,aD t]:=⟨_,a0⟩
 have bb:=ao.B ad fun h=>by omega
 exact aB 3 J<|rF J (iI (cs:= [aT .u8 (s.getD a 0).toNat,aD t]) J qZ J fun j aL=>a1.aN j)<|⟨s.getD a 0,(t:Nat),E,0,J,bb,aP,.inl ⟨J,aO.1⟩,az.trans' ao fun k aM h=>by omega⟩
end Go.Hb
end
section
namespace Go.Hb
open Go.Hb.ei
theorem Ic {l:List UInt8} {j:Nat} {b:UInt8} (h:j < l.length):b∈l.take (j+1)↔b∈l.take j∨l.getD j 0=b:=by
 rw [Ci l j 0 h,List.mem_append,List.mem_singleton,eq_comm (a:=b)]
theorem vW (s:List UInt8) (w:ai) (ac:s.length≤1048576):
 bp ar 48 (bD [str s]) w (fun v w'=>v= .bool (fj s)∧Wk w w'):=by
 refine enter func48 J ntmps48 J<|cg 12 J<|lp (fun C L I=> ∃ (i:Nat),(i≤s.length)∧(∀ j,j < i→eQ (s.getD j 0)=true)∧(Wk w I)∧(Sl L [(0,str s),(3,.int .i64 i)])∧(s.length - i=C)) _ ⟨0,U,(fun j E=>by omega),(Md.refl _ _),J,J⟩ ?_;rintro C L I ⟨i,hi,hp,A,Z,rfl⟩;refine bw Z<|cg 9 J<|cd J (fun O=> ?_) fun O=> ?_;refine aH 8 J<|p (eH u9 J J U)<|an 2 J<|gs (t:=14) J (fun V=> ?_) fun V=> ?_;exact aB 16 J<|tr<|bl 2 J<|aO J<|⟨by show bG false =_; rw [py (i:=i) U (uM U)],A⟩
 refine an 2 J<|bB J (eH u9 J J U)<|aI 4 J<|cd J (fun M=> ?_) fun M=> ?_;exact aJ 8 J<|tr<|bl 2 J<|aO J<|⟨by show bG false =_; rw [py (i:=i) U (uM U)],A⟩
 have ab:eQ (s.getD i 0)=true :=GD U U;exact aJ 8 J<|tn<|⟨_,U,i+1,U,(fun j E=>by rcases dk j i with h | h <;> first | exact hp j h | (rw [show j=i by omega]; exact ab)),A,J,J⟩
 exact aJ 2 J<|cw<|bl 8 J<|aO J<|⟨by show bG true =_; rw [re (fun j E=>hp j U)],A⟩
theorem IX (s:List UInt8) (w:ai) (a0:s.length≤1048576):
 bp ar 47 (bD [str s]) w (fun v w'=>v= .tuple #[str (letE s).1,.int .i64 (letE s).2]∧Wk w w'):=by
 refine enter func47 J ntmps47 J<|aW 9 J<|e<|a9 (vW s _ a0) J ?_;rintro v10 a7 ⟨rfl,ac⟩;refine an 10 J<|gs (t:=14) J (fun av=> ?_) fun av=> ?_;exact aB 14 J<|f2 J J J<|⟨by show iR #[str [],.int .i64 21]=_; unfold letE; rw [if_pos (.inl<|tF.1 U)]; rfl,ac⟩
 refine aI 5 J<|cb J (fun ad=> ?_) fun ad=> ?_;exact aJ 8 J<|f2 J J J<|⟨by show iR #[str [],.int .i64 21]=_; unfold letE; rw [if_pos (.inr<|by simpa using ad)]; rfl,ac⟩
 refine aH 4 J<|e<|E2 iL fun aD aE a5 aO aM=> ?_;have aZ:cy aE w.heap.size 5 1 (.slice (some ⟨aD,0,none⟩) 0 0) (([]:List UInt8)).length (U8<|([]:List UInt8)):=aM _<|by have :=ac.size; omega
 have aN:Wk w aE:=Md.trans ac aO.md;refine aI 10 J<|lp (fun O aG ah=> ∃ (i:Nat) (ay:ag),(i≤s.length)∧(cy ah w.heap.size 5 1 (ay) (lets<|s.take i).length<|U8<|lets<|s.take i)∧(Wk w ah)∧(Sl aG [(0,str s),(5,ay),(6,.int .i64 i)])∧(s.length - i=O)) _ ⟨0,.slice (some ⟨aD,0,none⟩) 0 0,U,aZ,aN,J,J⟩ ?_;rintro O aG ah ⟨i,ay,hi,C,V,a1,rfl⟩;refine bw a1 ?_;obtain ⟨aj,ak,rfl⟩:=dK C;have aX:=vt<|s.take i;rw [cN] at aX;refine cg 9 J<|cd J (fun aS=> ?_) fun aS=> ?_;refine bM 16 J<|lp (fun O aK aF=> ∃ (j:Nat) (ob:Bool),(j≤(lets<|s.take i).length)∧(ob=decide (s.getD i 0∈(lets<|s.take i).take j))∧(Wk ah aF)∧(Sl aK [(0,str s),(5,.slice aj (lets<|s.take i).length ak),(6,.int .i64 i),(7,.bool ob),(8,.int .i64 j)])∧((lets<|s.take i).length - j=O)) _ ⟨0,false,U,J,(Md.refl _ _),J,J⟩ ?_;rintro O aK aF ⟨j,ob,a6,ae,A,a2,rfl⟩;refine bw a2<|aW 8 J<|gs (t:=29) J (fun aP=> ?_) fun aP=> ?_;refine aI 5 J<|cb J (fun au=> ?_) fun au=> ?_;have aY:¬s.getD i 0∈(lets<|s.take i).take j:=of_decide_eq_false<|by rw [← ae]; simpa using au
 exact bM 4 J<|fl fun M=>ba [0,1] J M<|dr 2 J (bF nD J J U<|aU.ok ((bV<|bN C A).2)<|Kg U) M<|da 3 J M (Ke (i:=j) (bV<|bN C A).2 U)<|ba [4,5] J M<|dr 6 J (eH u9 J J U) M<|ba [7,8] J M<|hn aq<|bl 7 J<|tn<|⟨_,U,j+1,decide (((lets<|s.take i).getD j 0).toNat=((s.getD i 0).toNat:Int)),U,(decide_eq_decide.2<|by rw [Ic U]; constructor <;> intro h <;> first | exact .inr (jz.1 U) | (rcases h with h | h <;> first | exact absurd h aY | (rw [h]))),(Md.trans A (Md.refl _ _).drew),J,J⟩
 have ab:ob=decide (s.getD i 0∈lets (s.take i)):=by
  have h1:ob=true :=by simpa using au
  rw [h1] at ae;rw [h1]; exact (decide_eq_true<|List.mem_of_mem_take<|of_decide_eq_true ae.symm).symm
 refine aJ 2 J<|cw<|dG 8 J<|cb J (fun I=> ?_) fun I=> ?_;have L:¬s.getD i 0∈lets (s.take i):=of_decide_eq_false<|by rw [← ab]; simpa using I
 refine aH 4 J<|p (eH u9 J J U)<|e<|j6 iL J J fun aL aA aR E al=> ?_;have Z:Wk w aA:=Md.trans (Md.trans V A) E.md;refine e<|ap iL (bN (bN C A) E.md) J (by have :=Z.size; omega) J (aU.fZ al) (J) (J) U U fun az a4 aw ao a3 aT=> ?_;have am:=Wk.own Z (bN (bN C A) E.md) ao<|aV _;have ax:=A7 aw;exact p aQ<|aB 8 J<|tn<|⟨_,U,i+1,az,U,(by rw [lr U,if_neg L]; exact ax),am,J,J⟩
 have L:s.getD i 0∈lets (s.take i):=of_decide_eq_true<|by rw [← ab]; simpa using I
 exact aJ 8 J<|tn<|⟨_,U,i+1,.slice aj (lets<|s.take i).length ak,U,(by rw [lr U,if_pos L]; exact bN C A),(Md.trans V A),J,J⟩
 have ab:ob=decide (s.getD i 0∈lets (s.take i)):=by rw [ae,fR U]
 refine aB 8 J<|cw<|dG 8 J<|cb J (fun I=> ?_) fun I=> ?_;have L:¬s.getD i 0∈lets (s.take i):=of_decide_eq_false<|by rw [← ab]; simpa using I
 refine aH 4 J<|p (eH u9 J J U)<|e<|j6 iL J J fun aL aA aR E al=> ?_;have Z:Wk w aA:=Md.trans (Md.trans V A) E.md;refine e<|ap iL (bN (bN C A) E.md) J (by have :=Z.size; omega) J (aU.fZ al) (J) (J) U U fun az a4 aw ao a3 aT=> ?_;have am:=Wk.own Z (bN (bN C A) E.md) ao<|aV _;have ax:=A7 aw;exact p aQ<|aB 8 J<|tn<|⟨_,U,i+1,az,U,(by rw [lr U,if_neg L]; exact ax),am,J,J⟩
 have L:s.getD i 0∈lets (s.take i):=of_decide_eq_true<|by rw [← ab]; simpa using I
 exact aJ 8 J<|tn<|⟨_,U,i+1,.slice aj (lets<|s.take i).length ak,U,(by rw [lr U,if_pos L]; exact bN C A),(Md.trans V A),J,J⟩
 exact aJ 2 J<|cw<|iC 5 J<|p (l7 q9 J ((bV C).2)<|J)<|aB 5 J<|f2 J J J<|⟨by show iR #[str (lets<|s.take i),.int .i64 0]=_; unfold letE; rw [if_neg (fun h=>h.elim (fun h=>by rw [h] at av; exact av J) fun h=>by rw [h] at ad; cases ad),show s.take i=s from fR U]; rfl,V⟩
end Go.Hb
end
