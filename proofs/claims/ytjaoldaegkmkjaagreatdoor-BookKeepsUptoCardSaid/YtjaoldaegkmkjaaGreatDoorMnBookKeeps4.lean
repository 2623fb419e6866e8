/-
  Walks and plain laws that the law rests on, laid together. No conditions but those that each theorem names.
-/
import Derived.Test.YtjaoldaegkmkjaaGreatDoorMnBookKeeps3
set_option linter.unusedVariables false
set_option maxRecDepth 20000
set_option maxHeartbeats 1000000
open Array renaming getElem?_eq_some_iff→eC
open BitVec renaming ofInt→gB,ofInt_natCast→Cx,toNat_ofNat→Cy
open Bool renaming and_eq_true→a9,noConfusion→cB
open Classical renaming not_not→qf
open Go renaming Addr→bh,Program→ar,TypeId→aq,Value→ag,World→ah
open Go.IntKind renaming u64→mP,u8→oo
open Go.Proofs.Tryz renaming prog→ak
open Go.Value renaming bool→bl,int→aT,oneCell'→eD,ownBlock→eE,pointer→sO,slice→dH,tuple→iF
open Go.World renaming ownsRow→bu,ownsRow_nil→e7
open Int renaming toNat_natCast→fO
open List renaming all_cons→kp,all_nil→mS,drop_eq_nil_of_le→sP,drop_take→Db,eq_nil_of_length_eq_zero→kr,getD_cons_succ→oA,getD_cons_zero→oB,getD_eq_getElem?_getD→cr,getElem?_append_left→eF,getElem?_append_right→eQ,getElem?_eq_getElem→bG,getElem?_eq_some_iff→cH,getElem?_map→ks,getElem?_set_ne→xy,getElem?_set_self→xz,length→oC,length_append→bQ,length_cons→dd,length_drop→ic,length_eq_zero_iff→sT,length_nil→fP,length_set→fy,length_take→cC,map_replicate→Di,mem_cons→fQ,mem_cons_of_mem→kv,mem_cons_self→ky,mem_of_getElem?→kz,replicate→cZ,set_cons_succ→oH,take_length→qt,take_of_length_le→jj,toArray→bj
open Nat renaming add_sub_cancel_left→Dt,add_zero→jl,beq→aN,blt→aD,eq_of_beq_eq_true→bH,eq_zero_or_pos→Dv,le_refl→aZ,le_trans→cS,lt_or_ge→di,mod_eq_of_lt→xE,mul_comm→xF,mul_le_mul_left→xG,mul_le_mul_right→iH,pow_le_pow_right→qx,zero_add→cy,zero_le→jM
open Option renaming isSome_iff_exists→lB
open Option.some renaming inj→gE,injEq→bD
open Prod renaming fst→fS
open UInt8 renaming toNat_inj→lC,toNat_lt→lD
open Go.Proofs.Tryz
open Go.Proofs

section
namespace Go.Hb
open Go.RowKit
def zc:Ck→Ck→Bool
 | .a,.a=>true
 | .z,.z=>true
 | .x,.x=>true
 | _,_=>false
def qS:List (AV×AV)→List (AV×AV)→Bool
 | [],[]=>true
 | p::l,q::m=>cond (ee p.1 q.1 && ee p.2 q.2) (qS l m) false
 | _,_=>false
def uc:AO→AO→Bool
 | .cells l e fz ex,.cells l' e' fz' ex'=>(aN e e' && aN fz fz') && (zc ex ex' && iS l l')
 | .map l,.map m=>qS l m
 | _,_=>false
theorem Fq:∀ {c d:Ck},zc c d=true→c=d
 | .a,.a,_ | .z,.z,_ | .x,.x,_=>rfl
theorem zb:∀ {a b:List (AV×AV)},qS a b=true→a=b
 | [],[],_=>rfl
 | p::l,q::m,h=>by
   unfold qS at h;cases hk:(ee p.1 q.1 && ee p.2 q.2)
   · rw [hk] at h; cases h
   · rw [hk] at h;simp only [a9] at hk;rw [zb h,Prod.ext (nj hk.1) (nj hk.2)]
theorem Fp {a b:AO} (h:uc a b=true):a=b:=by
 unfold uc at h;split at h
 · simp only [a9] at h;rw [bH h.1.1,bH h.1.2,Fq h.2.1,lP h.2.2]
 · rw [zb h]
 · cases h
def gY:Tr AO→Tr AO→Bool
 | .nil,_=>true
 | .nd l none r,.nil=>gY l .nil && gY r .nil
 | .nd _ (some _) _,.nil=>false
 | .nd l none r,.nd l' _ r'=>gY l l' && gY r r'
 | .nd l (some o) r,.nd l' (some o') r'=>uc o o' && (gY l l' && gY r r')
 | .nd _ (some _) _,.nd _ none _=>false
theorem kf:∀ {a b:Tr AO},gY a b=true→∀ {i:Nat} {o:AO},a.get i=some o→b.get i=some o
 | .nil,_,_,i,o,hi=>by rw [Tr.get_nil] at hi; cases hi
 | .nd l none r,.nil,h,i,o,hi=>by
   simp only [gY,a9] at h;cases i with
   | zero=>simp [Tr.get] at hi
   | succ n=>
     simp only [Tr.get] at hi;cases hb:aN (n % 2) 0
     · rw [hb] at hi; have :=kf h.2 hi; rw [Tr.get_nil] at this; cases this
     · rw [hb] at hi; have :=kf h.1 hi; rw [Tr.get_nil] at this; cases this
 | .nd l none r,.nd l' v' r',h,i,o,hi=>by
   simp only [gY,a9] at h;cases i with
   | zero=>simp [Tr.get] at hi
   | succ n=>
     simp only [Tr.get] at hi ⊢;cases hb:aN (n % 2) 0
     · rw [hb] at hi; exact kf h.2 hi
     · rw [hb] at hi; exact kf h.1 hi
 | .nd l (some u) r,.nd l' (some u') r',h,i,o,hi=>by
   simp only [gY,a9] at h;cases i with
   | zero=>
     simp only [Tr.get] at hi ⊢;rw [← Fp h.1]; exact hi
   | succ n=>
     simp only [Tr.get] at hi ⊢;cases hb:aN (n % 2) 0
     · rw [hb] at hi; exact kf h.2.2 hi
     · rw [hb] at hi; exact kf h.2.1 hi
def Tr.lf {α:Type} :Tr α→Tr α
 | .nil=> .nil
 | .nd l _ _=>l
def Tr.rt {α:Type} :Tr α→Tr α
 | .nil=> .nil
 | .nd _ _ r=>r
def Tr.vl {α:Type} :Tr α→Option α
 | .nil=>none
 | .nd _ v _=>v
theorem Tr.zN {α:Type} (t:Tr α):t.get 0=t.vl:=by cases t <;> rfl
theorem Tr.uC {α:Type} (t:Tr α) (n:Nat):t.get (n+1)=cond (aN (n % 2) 0) (t.lf.get<|n / 2) (t.rt.get<|n / 2):=by
 cases t
 · simp only [Tr.lf,Tr.rt,Tr.get_nil]; cases aN (n % 2) 0 <;> rfl
 · rfl
def pv (v b c:Option AO):Option AO:=match c with
 | some o=>some o
 | none=>match b with
   | some _=>none
   | none=>v
def kV:Tr AO→Tr AO→Tr AO→Tr AO
 | .nil,_,c=>c
 | .nd l v r,b,c=> .nd (kV l b.lf c.lf) (pv v b.vl c.vl)<|kV r b.rt c.rt
theorem va:∀ (a b c:Tr AO) (i:Nat),(∀ o,b.get i=some o→a.get i=some o)→(kV a b c).get i=pv (a.get i) (b.get i) (c.get i)
 | .nil,b,c,i,hb=>by
   have :b.get i=none:=by
    cases hx:b.get i with
    | none=>rfl
    | some o=>have :=hb o hx; rw [Tr.get_nil] at this; cases this
   rw [Tr.get_nil,this];show c.get i=_;unfold pv;cases c.get i <;> rfl
 | .nd l v r,b,c,0,_=>by
   rw [Tr.zN b,Tr.zN c]; rfl
 | .nd l v r,b,c,n+1,hb=>by
   rw [Tr.uC b,Tr.uC c];rw [Tr.uC b] at hb;show cond (aN (n % 2) 0) ((kV l b.lf c.lf).get<|n / 2) ((kV r b.rt c.rt).get<|n / 2)=pv (cond (aN (n % 2) 0) (l.get<|n / 2)<|r.get<|n / 2) _ _;have C:∀ o,cond (aN (n % 2) 0) (b.lf.get<|n / 2) (b.rt.get<|n / 2)=some o→cond (aN (n % 2) 0) (l.get<|n / 2) (r.get<|n / 2)=some o:=hb;cases hn:aN (n % 2) 0
   · rw [hn] at C; exact va r b.rt c.rt _ C
   · rw [hn] at C; exact va l b.lf c.lf _ C
def dA:List (Nat×AO)→Tr AO
 | []=> .nil
 | p::l=>(dA l).set p.1 p.2
section
variable {P:ar} {G:Nat} {X:Xt} {T:Nat} {r:Rn} {h h0 h1 h':Hp} {w:ah}
theorem HR.less (hr:HR P G r T h w) (C:∀ i o,h0.t.get i=some o→h.t.get i=some o) (hn:h0.nx=h.nx):HR P G r T h0 w:=
 ⟨fun i o hi=>hr.live i o (C i o hi),fun i j o E q q' hi I=>hr.inj i j o E q q' (C i o hi) (C j E I),fun i hi=>hr.new i U,hr.ew,by rw [hn]; exact hr.base⟩
theorem Fr.less {g k:Nat} (J:∀ i o,h0.t.get i=some o→h.t.get i=some o) (I:Fr g r h0 k):Fr g r h k:=by
 obtain ⟨i,o,q,h1,C,E⟩:=I;exact ⟨i,o,q,h1,J i o C,E⟩
theorem iK.less {f:Nat} {args:List AV} {v:AV} (C:iK P G f args h0 v h') (E:∀ i o,h1.t.get i=some o→h'.t.get i=some o) (hn:h1.nx=h'.nx):iK P G f args h0 v h1:=by
 obtain ⟨n,C⟩:=C;refine ⟨U,fun T r w L hT hr I=>(C T r w L U hr I).mono fun u w' hu=> ?_⟩;obtain ⟨r',J,st⟩:=hu;exact ⟨r',J,st.le,st.hr.less E hn,U,st.md,fun g hg k V O=>st.dE g hg k V (O.less E),fun i hi=>st.out i U⟩
theorem iK.more {f:Nat} {args:List AV} {v:AV} {ag:Hp} (ap:iK P G f args ag v h1) (ak:∀ i o,ag.t.get i=some o→h.t.get i=some o) (aL:∀ i o,h0.t.get i=some o→h.t.get i=some o) (aA:∀ i,h0.t.get i=none→ag.t.get i=none∨i < G) (hn:h.nx=ag.nx):iK P G f args h v ⟨kV h.t h0.t h1.t,h1.nx⟩:=by
 obtain ⟨n,ap⟩:=ap;refine ⟨by show h.nx≤h1.nx; omega,fun T r w L hT hr aH=>(ap T r w L hT (hr.less ak hn.symm) aH).mono fun u w' hu=> ?_⟩;obtain ⟨r',aI,st⟩:=hu;have ah:∀ {i o},(kV h.t h0.t h1.t).get i=some o→h1.t.get i=some o∨(h.t.get i=some o∧h0.t.get i=none):=fun {i o} hi=>by
  rw [va _ _ _ _ (fun o=>aL i o)] at hi;unfold pv at hi;split at hi
  · rename_i C; rw [C]; exact .inl hi
  · split at hi
    · cases hi
    · rename_i C E; exact .inr ⟨hi,E⟩
 have al:∀ {i o},h.t.get i=some o→h0.t.get i=none→∃ q,r i=some q∧q.an < w.heap.size∧OR P r q o w.heap[q.an]?∧¬Fr G r ag q.an:=fun {i o} hi C=>by
  obtain ⟨q,aj,au⟩:=hr.live i o hi;refine ⟨q,aj,hr.lt hi aj,au,fun ⟨i2,av,ad,am,I,O,ab⟩=> ?_⟩;have :=hr.inj i2 i av o ad q (ak _ _ I) hi O aj ab;subst this;rcases aA _ C with E | E
  · rw [E] at I; cases I
  · omega
 refine ⟨r',aI,st.le,⟨fun i o hi=> ?_,fun i j o ac q q' hi ai J I he=> ?_,fun i hi=>st.hr.new i hi,st.hr.ew,st.hr.base⟩,by show h.nx≤h1.nx; omega,st.md.mono fun k _ aq=>aq.less ak,fun g hg k aK aq=> ?_,fun i hi=>st.out i hi⟩
 · rcases ah hi with C | ⟨C,E⟩
   · exact st.hr.live i o C
   · obtain ⟨q,aj,aP,au,ar⟩:=al C E;refine ⟨q,st.le _ _ aj,?_⟩;rw [st.md.eW _ aP ar];exact au.le st.le
 · have aE:∀ {i j o ac q q'},h1.t.get i=some o→h.t.get j=some ac→h0.t.get j=none→r' i=some q→r' j=some q'→q.an=q'.an→i=j:=fun {i j o ac q q'} hi ai aB J I he=>by
    obtain ⟨ad,Z,aP,_,ar⟩:=al ai aB;have :=st.le _ _ Z;rw [I] at this; cases this;by_cases aC:j < G
    · by_cases aJ:i < G
      · obtain ⟨m1,O⟩:=st.hr.ew i aJ;obtain ⟨aM,ab⟩:=st.hr.ew j aC;rw [J] at O; cases O;rw [I] at ab; cases ab;exact he
      · exact absurd (st.dE G (aZ _) q'.an aP ⟨i,o,q,U,hi,J,he⟩) ar
    · obtain ⟨i2,av,ad,_,O,ab,aF⟩:=st.dE 0 (jM _) q'.an aP ⟨i,o,q,jM _,hi,J,he⟩;have :=hr.inj i2 j av ac ad q' (ak _ _ O) ai ab Z aF;subst this;rcases aA _ aB with E | E
      · rw [E] at O; cases O
      · exact absurd E aC
   rcases ah hi with C | ⟨C,E⟩
   · rcases ah ai with V | ⟨V,ao⟩
     · exact st.hr.inj i j o ac q q' C V J I he
     · exact aE C V ao J I he
   · rcases ah ai with V | ⟨V,ao⟩
     · exact (aE V C E I J he.symm).symm
     · obtain ⟨ad,Z,_⟩:=al C E;obtain ⟨aN,aD,_⟩:=al V ao;have ae:=st.le _ _ Z;rw [J] at ae; cases ae;have aw:=st.le _ _ aD;rw [I] at aw; cases aw;exact hr.inj i j o ac q q' C V Z aD he
 · obtain ⟨i,o,q,am,aG,ax,ay⟩:=aq;rcases ah aG with C | ⟨C,E⟩
   · exact (st.dE g hg k aK ⟨i,o,q,am,C,ax,ay⟩).less ak
   · obtain ⟨ad,Z,_⟩:=al C E;have ae:=st.le _ _ Z;rw [ax] at ae; cases ae;exact ⟨i,o,q,am,C,Z,ay⟩
def pK (G T:Nat) (E:Nat→Nat) (b:Tr AO):List Nat→Tr AO
 | []=>b
 | g::l=>(pK G T E b l).set g<|.cells [.eL T (.ptr (G+g) 0)] (E g) 0 .x
theorem Ba {E:Nat→Nat} {b:Tr AO} {i:Nat} :∀ {l:List Nat},(∀ g∈l,aD g bT=true)→(pK G T E b l).get i=if i∈l then some (.cells [.eL T (.ptr (G+i) 0)] (E i) 0 .x) else b.get i
 | [],_=>by simp [pK]
 | g::l,hl=>by
   simp only [pK];rw [Tr.jZ _ _ _ _ (hl g ky),Ba (fun g hg=>hl g<|kv _ hg)];by_cases h1:i=g
   · subst h1; simp
   · simp [h1]
def rV (G T:Nat) (t:Tr AO):List Nat→Bool
 | []=>true
 | g::l=>match t.get g with
   | some (.cells [.eL t' (.ptr b 0)] _ 0 .x)=>cond ((aD g G && aD g bT) && (aN t' T && aN b (G+g))) (rV G T t l) false
   | _=>false
def o0 (t:Tr AO) (g:Nat):Nat:=match t.get g with
 | some (.cells _ e _ _)=>e
 | _=>0
theorem Bh {t:Tr AO} :∀ {l:List Nat},rV G T t l=true→∀ g∈l,g < G∧aD g bT=true∧t.get g=some (.cells [.eL T (.ptr (G+g) 0)] (o0 t g) 0 .x)
 | [],_,g,hg=>nomatch hg
 | a::l,h,g,hg=>by
   unfold rV at h;split at h
   · rename_i t' b e C;have h1:((aD a G && aD a bT) && (aN t' T && aN b (G+a)))=true :=by
      cases hx:((aD a G && aD a bT) && (aN t' T && aN b (G+a)))
      · rw [hx] at h; cases h
      · rfl
     rw [h1] at h;simp only [a9] at h1;rcases fQ.1 hg with rfl | E
     · obtain rfl :=bH h1.2.1;obtain rfl :=bH h1.2.2;refine ⟨cn.1 h1.1.1,h1.1.2,?_⟩;rw [C];simp only [o0,C]
     · exact Bh h g E
   · cases h
structure Mm where
 f:Nat
 args:List AV
 h0:Hp
 v:AV
 h1:Hp
def Aj (G T:Nat) (S:List Nat) (m:Mm) (f:Nat) (args:List AV) (h:Hp):Option (AV×Hp):=cond (aN f m.f) (cond (iS args m.args && (aN h.nx m.h0.nx && (gY m.h0.t h.t && rV G T h.t S))) (some (m.v,⟨kV h.t m.h0.t m.h1.t,m.h1.nx⟩)) none) none
def ry (G T:Nat) (S:List Nat) (f:Nat) (args:List AV) (h:Hp):List Mm→Option (AV×Hp)
 | []=>none
 | m::l=>match Aj G T S m f args h with
   | some x=>some x
   | none=>ry G T S f args h l
def Mm.hp (G T:Nat) (S:List Nat) (m:Mm) (E:Nat→Nat):Hp:=⟨pK G T E m.h0.t S,m.h0.nx⟩
def Mm.Ok (P:ar) (G T:Nat) (S:List Nat) (m:Mm):Prop :=(∀ E,iK P G m.f m.args (m.hp G T S E) m.v m.h1)∧∃ fn c,P.funcs[m.f]? =some fn∧fn.body=some c
variable {S:List Nat}
theorem uX:∀ {l:List Mm},(∀ m∈l,m.Ok P G T S)→∀ {f:Nat} {args:List AV} {v:AV},ry G T S f args h l=some (v,h')→iK P G f args h v h'∧∃ fn c,P.funcs[f]? =some fn∧fn.body=some c
 | [],_,f,args,v,hf=>by cases hf
 | m::l,hl,f,args,v,hf=>by
   unfold ry at hf;split at hf
   · rename_i x C;obtain rfl :=gE hf;unfold Aj at C;replace C:=aX C; obtain ⟨J,C⟩:=C;replace C:=aX C; obtain ⟨E,C⟩:=C;cases C;simp only [a9] at E;obtain rfl :=bH J;obtain rfl :=lP E.1;obtain ⟨L,hb⟩:=hl m ky;have I:=Bh E.2.2.2;have hT:∀ i,(m.hp G T S<|o0 h.t).t.get i=if i∈S then some (.cells [.eL T (.ptr (G+i) 0)] (o0 h.t i) 0 .x) else m.h0.t.get i:=fun i=>Ba fun g hg=>(I g hg).2.1
     refine ⟨(L<|o0 h.t).more (fun i o hi=> ?_) (fun i o hi=>kf E.2.2.1 hi) (fun i hi=> ?_) (bH E.2.1),hb⟩
     · rw [hT] at hi;split at hi
       · rename_i hm;rw [← hi]; exact (I i hm).2.2
       · exact kf E.2.2.1 hi
     · rw [hT];split
       · rename_i hm;exact .inr (I i hm).1
       · exact .inl hi
   · exact uX (fun m hm=>hl m<|kv _ hm) hf
def dD (P:ar) (G:Nat) (X:Xt) (T:Nat) (S:List Nat) (M:List Mm):Nat→Tk→Rs
 | 0,_=> .no
 | n+1,.cl f args h=>match ry G T S f args h M with
   | some (v,h')=> .rv v h'
   | none=>eB P G X (dD P G X T S M n)<|.cl f args h
 | n+1,t=>eB P G X (dD P G X T S M n) t
theorem zn {M:List Mm} (I:∀ m∈M,m.Ok P G T S):∀ (k:Nat),(∀ f args h v h',dD P G X T S M k (.cl f args h)= .rv v h'→∃ fn c,P.funcs[f]? =some fn∧fn.body=some c)∧(∀ f args h v h',dD P G X T S M k (.df f args h)= .rv v h'→∃ fn c,P.funcs[f]? =some fn∧fn.body=some c)
 | 0=>⟨fun f args h v h' C=>(by cases C),fun f args h v h' C=>by cases C⟩
 | k+1=>by
   constructor
   · intro f args h v h' C;simp only [dD] at C;split at C
     · rename_i x J;exact (uX I J).2
     · simp only [eB] at C;split at C
       · rename_i fn E;split at C
         · rename_i c hb; exact ⟨fn,c,E,hb⟩
         · cases C
       · cases C
   · intro f args h v h' C;simp only [dD,eB] at C;split at C
     · rename_i fn E;split at C
       · rename_i c hb; exact ⟨fn,c,E,hb⟩
       · cases C
     · cases C
theorem uj {M:List Mm} (I:gF P G X) (E:fC P) (hm:P.follows .mixedOrders=true) (J:∀ m∈M,m.Ok P G T S):∀ k,Good P G (dD P G X T S M k)
 | 0=>fun t=>by cases t <;> trivial
 | k+1=>fun t=>by
   have C:=uj I E hm J k;obtain ⟨L,O⟩:=zn (P:=P) (G:=G) (X:=X) J k;cases t with
   | cd rd n c fr D h=>exact IY C I E (Fc C I E L hm) L rd n c fr D h
   | lp rd n c fr D h=>exact I2 C rd n c fr D h
   | cl f args h=>
     simp only [dD];split
     · rename_i x U;exact (uX J U).1
     · exact IZ C E O f args h
   | yl l args h=>exact I3 C l args h
   | df f args h=>exact I0 C I E L f args h
def gy (v:AV) (h1:Hp):Rs→Bool
 | .rv u h=>ee u v && (aN h1.nx h.nx && gY h1.t h.t)
 | _=>false
theorem Mm.of {M:List Mm} {k:Nat} {m:Mm} (L:gF P G X) (J:fC P) (hm:P.follows .mixedOrders=true) (I:∀ q∈M,q.Ok P G T S) (he:∀ E,gy m.v m.h1 (dD P G X T S M k<|.cl m.f m.args<|m.hp G T S E)=true):m.Ok P G T S:=by
 have hr:∀ E,∃ u C,dD P G X T S M k (.cl m.f m.args<|m.hp G T S E)= .rv u C∧u=m.v∧m.h1.nx=C.nx∧gY m.h1.t C.t=true :=fun E=>by
  have he:=he E;unfold gy at he;split at he
  · rename_i u C hr;simp only [a9] at he;exact ⟨u,C,hr,nj he.1,bH he.2.1,he.2.2⟩
  · cases he
 refine ⟨fun E=> ?_,?_⟩
 · obtain ⟨u,C,hr,rfl,hn,O⟩:=hr E;have hg:=uj L J hm I k<|.cl m.f m.args<|m.hp G T S E;rw [hr] at hg;exact iK.less hg (fun i o hi=>kf O hi) hn
 · obtain ⟨u,C,hr,_⟩:=hr fun _=>0;exact (zn I k).1 _ _ _ _ _ hr
theorem gQ:∀ q∈([]:List Mm),q.Ok P G T S:=fun _ h=>nomatch h
theorem iq {m:Mm} {l:List Mm} (h:m.Ok P G T S) (C:∀ q∈l,q.Ok P G T S):∀ q∈m::l,q.Ok P G T S:=fun q E=>by
 rcases fQ.1 E with rfl | h'
 · exact h
 · exact C q h'
theorem Fz {M:List Mm} {k f:Nat} {args:List AV} {h h':Hp} {v:AV} (I:gF P G X) (C:fC P) (hm:P.follows .mixedOrders=true) (E:∀ q∈M,q.Ok P G T S) (he:dD P G X T S M k (.cl f args h)= .rv v h'):iK P G f args h v h':=by
 have :=uj I C hm E k<|.cl f args h;rw [he] at this;exact this
end
end Go.Hb
end
section
namespace Go.Hb
def kP (P:ar) (t:aq):Bool:=match P.underlying t with
 | some (.interface _)=>true
 | _=>false
theorem kP.of {P:ar} {t:aq} (h:kP P t=true):∃ ms,P.underlying t=some (.interface ms):=by
 unfold kP at h;split at h
 · rename_i ms hm; exact ⟨ms,hm⟩
 · cases h
section
variable {P:ar} {N:Fm} {σ:Nat→ag} {w:ah} {dst:Option Nat} {ty:aq} {pos :String} {af:Array Edge} {g:Option (Nat×Bool)} {x y z:Operand} {t t' d:aq}
theorem zi (hu:kP P t=true):(Op.equal t .nilIface .nilIface).run P w= .ok true w:=by
 obtain ⟨ms,hm⟩:=kP.of hu;have h:∀ n,(Op.equalIn (n+1) t .nilIface .nilIface).run P w= .ok true w:=fun n=>by
  simp [Op.equalIn,bp hm]
 exact h 9999
theorem Ft (hu:kP P t=true) (C:ev N σ x= .nilIface):(execOp (ev N σ) ⟨dst,.binOp .eql t x (.const .nilIface) t',ty,pos,af,g⟩).run P w= .ok (.value<|.bool true) w:=by
 have E:ev N σ (.const .nilIface)= .nilIface:=rfl;have h:(binOp .eql t .nilIface .nilIface).run P w= .ok (.bool true) w:=by
  simp only [binOp]; simp [zi hu]
 simp [execOp,C,E,eqGuard,h]
theorem Hd (hu:kP P t=true) (C:ev N σ x= .nilIface):(execOp (ev N σ) ⟨dst,.binOp .neq t x (.const .nilIface) t',ty,pos,af,g⟩).run P w= .ok (.value<|.bool false) w:=by
 have E:ev N σ (.const .nilIface)= .nilIface:=rfl;have h:(binOp .neq t .nilIface .nilIface).run P w= .ok (.bool false) w:=by
  simp only [binOp]; simp [zi hu]
 simp [execOp,C,E,eqGuard,h]
end
end Go.Hb
end
section
namespace Go.Hb
section
variable {α:Type} {n:Nat} {base:Nat→α} {stp:Nat→(Nat→α)→α}
end
section
variable (pc:Nat→Nat→Bool) (n:Nat)
def bI (i k:Nat):Bool:=pc i k && !(decide (i=0) && decide (k=n))
end
section
variable {pc:Nat→Nat→Bool} {n:Nat}
end
section
variable {pc:Nat→Nat→Bool} {n i j:Nat} {T:Nat→Nat×Nat}
end
end Go.Hb
end
section
namespace Go.Hb
open Go Go.RowKit Go.ChangeShapes
theorem Ig {P:ar} {n:String} {W:ah} {g:Nat} {cs:Array ag} (hg:P.globalNamed n=some g) (C:W.var? P n=some cs):∃ e z,W.heap[g]? =some (.cells cs e z):=by
 unfold World.var? at C;rw [hg] at C;simp only [Option.bind_some] at C;split at C
 · rename_i c e z h;cases C;exact ⟨e,z,h⟩
 · cases C
theorem gW {P:ar} {n nm:String} {text:List UInt8} {r:List (String×DataW Unit)} {W:ah} {g:Nat} {L E te I:aq} {ms:Array (String×aq)} {f:Field}
 (h:laidMet P ((n,.iface nm (.ptr<|.agg [.lit (.string text)]))::r) W)
 (hg:P.globalNamed n=some g) (ai:(P.globals[g]?).map (·.type)=some L) (hi:P.underlying L=some (.interface ms)) (ae:∀ u,P.typeName? 3 u=some nm→u=E)
 (hp:P.underlying E=some (.pointer te)) (he:P.underlying te=some (.struct #[f])) (ac:f.type=I) (ab:f.offset=0) (ag:P.underlying I=some .string) (U:P.cellsOf te=1) (Z:P.cellsOf I=1):
 ∃ (a:bh) (e:Nat),a.spot=none∧W.heap[g]? =some (.cells #[.iface E (.pointer<|some a)] e (0,0)):=by
 obtain ⟨a,s,J,V,_,_⟩:=laid_sentinel h hg ai hi ae hp he ac ab ag U Z;obtain ⟨e,z,hw⟩:=Ig hg J;obtain ⟨ps,⟨am,t0,al,f0,ap,au,ad,ao,aj,an,_,O⟩,_,hrows⟩:=h;obtain rfl :=gE<|hg.symm.trans ad;subst O;have ak:=gE<|J.symm.trans aj;subst ak;obtain ⟨⟨c,t,C⟩,_⟩:=hrows g 0<|by simp [MemPlace.row]
 rw [hw] at C;simp only [bD,Obj.cells.injEq] at C;obtain ⟨_,_,rfl⟩:=C;exact ⟨a,e,World.cell?_spot V,hw⟩
theorem cM.nil {T:Nat} {w:ah} :cM T [] w:=fun g h=>by cases h
theorem cM.cons {T g:Nat} {l:List Nat} {w:ah} (h:∃ (a:bh) (e:Nat),a.spot=none∧w.heap[g]? =some (.cells #[.iface T (.pointer<|some a)] e (0,0))) (E:cM T l w):cM T (g::l) w:=fun k C=>by
 rcases fQ.1 C with rfl | C
 · exact h
 · exact E k C
theorem cM.sub {T:Nat} {l m:List Nat} {w:ah} (h:cM T l w) (C:∀ g∈m,g∈l):cM T m w:=fun g hg=>h g<|C g hg
end Go.Hb
end
section
namespace Go.Hb
abbrev aB (n:Nat):ag:= .int .i64 (n:Nat)
abbrev aK (b:Nat):ag:= .pointer<|some ⟨b,0,none⟩
variable {P:ar} {N:Fm} {ops:Array Oper} {Q:Exit→(Nat→ag)→ah→Prop} {σ:Nat→ag} {w:ah} {S:ah→Prop} {r fuel:Nat} {listed:Array Bool} {d:Nat} {op:Op} {ty:aq} {pos :String} {af:Array Edge} {v:ag}
theorem fX (i:Nat) (hi:ops[i]? =some ⟨some d,op,ty,pos,af,none⟩) (I:∀ w,S w→(execOp (ev N σ) ⟨some d,op,ty,pos,af,none⟩).run P w= .ok (.value v) w) (C:S w) (k:cj P N ops Q S fuel (listed.setIfInBounds i true) (bd σ d v) w) (E:dU N.F ops listed i=true :=by kernel_rfl):cj P N ops Q S (fuel+1) listed σ w:=hp i hi E I C k
theorem Ku (i:Nat) (hi:ops[i]? =some ⟨some d,op,ty,pos,af,none⟩) (I:∀ w,S w→(execOp (ev N σ) ⟨some d,op,ty,pos,af,none⟩).run P w= .ok (.value v) w) (C:S w) (k:cg P N ops Q S r fuel (listed.setIfInBounds i true) (bd σ d v) w) (E:uz N.F ops listed r i=true :=by kernel_rfl):cg P N ops Q S r (fuel+1) listed σ w:=Ag i hi E I C k
theorem Kw (i:Nat) (hi:ops[i]? =some ⟨some d,op,ty,pos,af,none⟩) (I:∀ w,(execOp (ev N σ) ⟨some d,op,ty,pos,af,none⟩).run P w= .ok (.value v) w) (C:listed.getD r false =false→S w) (k:cg P N ops Q S r fuel (listed.setIfInBounds i true) (bd σ d v) w) (E:lS N.F ops listed r i=true :=by kernel_rfl):cg P N ops Q S r (fuel+1) listed σ w:=pn i hi E I C k
theorem cw (i:Nat) (hi:ops[i]? =some ⟨some d,op,ty,pos,af,none⟩) (I:∀ {w},(execOp (ev N σ) ⟨some d,op,ty,pos,af,none⟩).run P w= .ok (.value v) w) (C:S w) (k:cj P N ops Q S fuel (listed.setIfInBounds i true) (bd σ d v) w) (E:dU N.F ops listed i=true :=by kernel_rfl):cj P N ops Q S (fuel+1) listed σ w:=hp i hi E (fun _ _=>I) C k
theorem jb (i:Nat) (hi:ops[i]? =some ⟨some d,op,ty,pos,af,none⟩) (I:∀ {w},(execOp (ev N σ) ⟨some d,op,ty,pos,af,none⟩).run P w= .ok (.value v) w) (C:S w) (k:cg P N ops Q S r fuel (listed.setIfInBounds i true) (bd σ d v) w) (E:nr N.F ops listed r i=true :=by kernel_rfl):cg P N ops Q S r (fuel+1) listed σ w:=lq i hi E (fun _ _=>I) C k
theorem Kv (i:Nat) (hi:ops[i]? =some ⟨some d,op,ty,pos,af,none⟩) (I:∀ {w},(execOp (ev N σ) ⟨some d,op,ty,pos,af,none⟩).run P w= .ok (.value v) w) (C:S w) (k:cg P N ops Q S r fuel (listed.setIfInBounds i true) (bd σ d v) w) (E:lS N.F ops listed r i=true :=by kernel_rfl):cg P N ops Q S r (fuel+1) listed σ w:=pn i hi E (fun _=>I) (fun _=>C) k
theorem lT {x:Operand} (i:Nat) (hi:ops[i]? =some ⟨some d,.move x,ty,pos,af,none⟩) (v:ag) (C:S w) (k:cj P N ops Q S fuel (listed.setIfInBounds i true) (bd σ d v) w) (I:ev N σ x=v:=by exact J) (E:dU N.F ops listed i=true :=by kernel_rfl):cj P N ops Q S (fuel+1) listed σ w:=hp i hi E (fun _ _=>rC v I) C k
theorem Kt {x:Operand} (i:Nat) (hi:ops[i]? =some ⟨some d,.move x,ty,pos,af,none⟩) (v:ag) (C:S w) (k:cg P N ops Q S r fuel (listed.setIfInBounds i true) (bd σ d v) w) (I:ev N σ x=v:=by exact J) (E:lS N.F ops listed r i=true :=by kernel_rfl):cg P N ops Q S r (fuel+1) listed σ w:=pn i hi E (fun _=>rC v I) (fun _=>C) k
theorem kG {P:ar} {f:FuncId} {fn:Func} (C:P.funcs[f]? =some fn) (hn:(fn.name== "runtime.NumGoroutine")=false :=by kernel_rfl) (hb:fn.body.isNone=false :=by kernel_rfl):fT P f:=tJ C hn hb
section
variable {rest:List Oper} {x:Operand} {K:(Nat→ag)→ah→Prop} {l:List Oper} {id:Nat} {y z:Code} {j t:Nat} {want b:Bool} {fn:Func} {R:ag→ah→Prop}
theorem Kz (h:∀ {K:(Nat→ag)→ah→Prop},(∀ {σ w},bA P N y Q σ w→gA K Q .normal σ w)→bA P N z (gA K Q) σ w):bA P N (.seq z y) Q σ w:=sq fun K C=>h fun hw=>C _ _ hw
theorem KA (h:∀ {K:(Nat→ag)→ah→Prop},(∀ {σ w},bA P N y Q σ w→gA K Q .normal σ w)→bL P N l.toArray (gA K Q) l σ w) (hr:jx N.r l=true :=by exact J):bA P N (.seq (.region id l.toArray false) y) Q σ w:=sq fun K C=>rg hr<|h fun hw=>C _ _ hw
theorem Kr (h:Q .normal (bd σ d<|ev N σ x) w):bL P N ops Q [⟨some d,.assign x,ty,pos,af,none⟩] σ w:=p aR<|nl h
theorem b9 {id:Nat} (h:Q (.exit id) σ w):gA K Q (.exit id) σ w:=h
theorem Kx (h:(dz ops j,aD t N.n,σ t,b==want)=(some t,true,.bool b,false)) (k:bL P N ops Q rest (bd σ d undef) w):bL P N ops Q (⟨some d,op,ty,pos,af,some (j,want)⟩::rest) σ w:=sk (congrArg fS h) (congrArg (·.2.1) h) (congrArg (·.2.2.1) h) (congrArg (·.2.2.2) h) k
theorem Ky (h:(dz ops j,aD t N.n,σ t)=(some t,true,undef)) (k:bL P N ops Q rest (bd σ d undef) w):bL P N ops Q (⟨some d,op,ty,pos,af,some (j,want)⟩::rest) σ w:=Bv (congrArg fS h) (congrArg (·.2.1) h) (congrArg (·.2.2) h) k
theorem bw (h:(dz ops j,aD t N.n,σ t)=(some t,true,.bool want)) (C:(execOp (ev N σ) ⟨some d,op,ty,pos,af,some (j,want)⟩).run P w= .ok (.value v) w) (k:bL P N ops Q rest (bd σ d v) w):bL P N ops Q (⟨some d,op,ty,pos,af,some (j,want)⟩::rest) σ w:=pg (congrArg fS h) (congrArg (·.2.1) h) (congrArg (·.2.2) h) C k
theorem Ks (i:Nat) (h:(ops[i]?,dz ops j,aD t N.n,σ t,b==want)=(some ⟨some d,op,ty,pos,af,some (j,want)⟩,some t,true,.bool b,false)) (C:S w) (k:cj P N ops Q S fuel (listed.setIfInBounds i true) (bd σ d undef) w) (E:dU N.F ops listed i=true :=by kernel_rfl):cj P N ops Q S (fuel+1) listed σ w:=q9 i (congrArg fS h) E (congrArg (·.2.1) h) (congrArg (·.2.2.1) h) (congrArg (·.2.2.2.1) h) (congrArg (·.2.2.2.2) h) C k
theorem cV (i:Nat) (h:(ops[i]?,dz ops j,aD t N.n,σ t)=(some ⟨some d,op,ty,pos,af,some (j,want)⟩,some t,true,.bool want)) (I:∀ w,S w→(execOp (ev N σ) ⟨some d,op,ty,pos,af,some (j,want)⟩).run P w= .ok (.value v) w) (C:S w) (k:cj P N ops Q S fuel (listed.setIfInBounds i true) (bd σ d v) w) (E:dU N.F ops listed i=true :=by kernel_rfl):cj P N ops Q S (fuel+1) listed σ w:=zP i (congrArg fS h) E (congrArg (·.2.1) h) (congrArg (·.2.2.1) h) (congrArg (·.2.2.2) h) I C k
theorem aO (h:(fn.results,ev N σ (.tmp t))=(#[.tmp t],v)) (C:R v w):fin P fn N R .ret σ w:=f1 (congrArg fS h) (congrArg Prod.snd h) C
theorem AR (v:ag) (h:bL P N ops Q rest (bd σ d v) w) (C:ev N σ x=v:=by exact J):bL P N ops Q (⟨some d,.move x,ty,pos,af,none⟩::rest) σ w:=p (rC v C) h
end
end Go.Hb
end
namespace Go.Hb.dR
theorem m4:cN ak 103=some (some 2):=aj
theorem kE:cN ak 31=some (some 7):=aj
theorem xM:cN ak 35=some none:=aj
theorem jo:cN ak 42=some (some 7):=aj
theorem DQ:cN ak 60=some (some 2):=aj
theorem tw:cN ak 63=some (some 2):=aj
theorem oN:cN ak 65=some (some 2):=aj
theorem DR:cN ak 77=some (some 2):=aj
theorem DS:cN ak 83=some (some 5):=aj
theorem tz:cN ak 93=some (some 2):=aj
theorem xY:jO ak 233=some (256,1):=aj
theorem tB:jO ak 29=some (4,1):=aj
theorem gG:jO ak 40=some (4,1):=aj
theorem yf:lK ak 162 5 9=true :=aj
theorem yg:fT ak 129:=kG func129
theorem Ej:fT ak 40:=kG func40
theorem m7:fT ak 41:=kG func41
theorem tH:fT ak 42:=kG func42
theorem iO:fT ak 43:=kG func43
theorem oT:fT ak 45:=kG func45
theorem Ek:fT ak 60:=kG func60
theorem yh:fT ak 67:=kG func67
theorem yy:∀ v w,(callFunc 174 #[v]).run ak w= .ok (.value v) w:=fun v w=>aj
theorem qM:bY ak 103=some 2:=aj
theorem tR:bY ak 162=some 1:=aj
theorem EM:bY ak 218=some 1:=aj
theorem EN:bY ak 27=some 1:=aj
theorem EO:bY ak 28=some 1:=aj
theorem dK:bY ak 3=some 1:=aj
theorem EP:bY ak 300=some 1:=aj
theorem lM:bY ak 31=some 7:=aj
theorem tS:bY ak 35=some 1:=aj
theorem yz:bY ak 38=some 1:=aj
theorem yA:bY ak 39=some 1:=aj
theorem tT:bY ak 4=some 1:=aj
theorem jR:bY ak 42=some 7:=aj
theorem ER:bY ak 45=some 1:=aj
theorem yB:bY ak 5=some 1:=aj
theorem ES:bY ak 55=some 1:=aj
theorem ET:bY ak 60=some 2:=aj
theorem yC:bY ak 61=some 1:=aj
theorem tU:bY ak 63=some 2:=aj
theorem oX:bY ak 65=some 2:=aj
theorem EU:bY ak 77=some 2:=aj
theorem EV:bY ak 83=some 5:=aj
theorem tV:bY ak 9=some 1:=aj
theorem yD:bY ak 91=some 1:=aj
theorem tW:bY ak 93=some 2:=aj
theorem o5:cT ak 162=some 1:=aj
theorem zm:cT ak 172=some 1:=aj
theorem uh:cT ak 27=some 2:=aj
theorem im:cT ak 28=some 2:=aj
theorem qU:cT ak 38=some 2:=aj
theorem fV:cT ak 39=some 2:=aj
theorem nn:cT ak 55=some 1:=aj
theorem kK:cT ak 61=some 2:=aj
theorem kL:cT ak 91=some 2:=aj
theorem FM:lQ ak 63 1=some 1:=aj
theorem zR:kP ak 24=true :=aj
theorem Ge:(ak.info? 220).isSome=true :=aj
theorem Gk:∀ (l:List UInt8) (c:UInt8) (w:ah),(callFunc 326 #[str l,.int .u8 c.toNat]).run ak w= .ok (.value<|.int .i64<|j2 c l) w:=H8 func326 aj aj aj aj
theorem rB:jt ak 35=true :=aj
theorem HB:ptrTo ak 299 5=true :=aj
theorem jC:dV ak 162 5 1 1=true :=aj
theorem IA:dV ak 172 4 1 1=true :=aj
theorem By:dV ak 27 77 2 32=true :=aj
theorem r7:dV ak 28 93 2 32=true :=aj
theorem r8:dV ak 38 60 2 32=true :=aj
theorem r9:dV ak 39 63 2 32=true :=aj
theorem Bz:dV ak 45 9 1 16=true :=aj
theorem IB:dV ak 55 3 1 8=true :=aj
theorem sd:dV ak 61 65 2 16=true :=aj
theorem se:dV ak 91 103 2 16=true :=aj
theorem sf:dX ak 103=some ([(0,1),(1,1)],[.int .u8 0,.int .i64 0]):=aj
theorem IE:dX ak 108=some ([(0,1),(1,1)],[.string ⟨⟨[]⟩⟩,.int .i64 0]):=aj
theorem IF:dX ak 164=some ([(0,1),(1,1),(2,1),(3,1)],[.slice none 0 0,.slice none 0 0,.slice none 0 0,.int .i64 0]):=aj
theorem IG:dX ak 174=some ([(0,1),(1,1),(2,1)],[.slice none 0 0,.int .i64 0,.slice none 0 0]):=aj
theorem IH:dX ak 231=some ([(0,1),(1,1),(2,1)],[.slice none 0 0,.int .i64 0,.slice none 0 0]):=aj
theorem n5:dX ak 31=some ([(0,1),(1,1),(2,1),(3,4)],[.int .i64 0,.string ⟨⟨[]⟩⟩,.slice none 0 0,.slice none 0 0,.slice none 0 0,.slice none 0 0,.slice none 0 0]):=aj
theorem vX:dX ak 42=some ([(0,1),(1,1),(2,1),(3,4)],[.int .i64 0,.string ⟨⟨[]⟩⟩,.slice none 0 0,.slice none 0 0,.slice none 0 0,.slice none 0 0,.slice none 0 0]):=aj
theorem II:dX ak 60=some ([(0,1),(1,1)],[.string ⟨⟨[]⟩⟩,.string ⟨⟨[]⟩⟩]):=aj
theorem IJ:dX ak 63=some ([(0,1),(1,1)],[.bool false,.slice none 0 0]):=aj
theorem BA:dX ak 65=some ([(0,1),(1,1)],[.int .u8 0,.int .i64 0]):=aj
theorem IK:dX ak 70=some ([(0,7),(7,1)],[.int .i64 0,.string ⟨⟨[]⟩⟩,.slice none 0 0,.slice none 0 0,.slice none 0 0,.slice none 0 0,.slice none 0 0,.string ⟨⟨[]⟩⟩]):=aj
theorem IL:dX ak 73=some ([(0,1),(1,1),(2,1)],[.string ⟨⟨[]⟩⟩,.int .i64 0,.int .i64 0]):=aj
theorem IM:dX ak 77=some ([(0,1),(1,1)],[.string ⟨⟨[]⟩⟩,.string ⟨⟨[]⟩⟩]):=aj
theorem IN:dX ak 83=some ([(0,1),(1,1),(2,1),(3,1),(4,1)],[.int .i64 0,.int .i64 0,.int .i64 0,.int .i64 0,.int .i64 0]):=aj
theorem BB:dX ak 93=some ([(0,1),(1,1)],[.bool false,.slice none 0 0]):=aj
theorem BW:ak.underlying 218=some (.pointer 220):=aj
theorem kg:ak.underlying 22=some (.pointer 70):=aj
theorem u3:ak.underlying 3=some (.int .i64):=aj
theorem Jg:ak.underlying 38=some (.slice 60):=aj
theorem Jh:ak.underlying 39=some (.slice 63):=aj
theorem u4:ak.underlying 4=some (.bool):=aj
theorem Ji:ak.underlying 61=some (.slice 65):=aj
theorem n9:ak.underlying 74=some (.int .u64):=aj
theorem u9:ak.underlying 9=some (.string):=aj
theorem wo:ak.underlying 94=some (.pointer 63):=aj
theorem BZ:mg ak 218 288 220 2=true :=aj
theorem wy:(ak.underlying 3).isSome=true :=aj
theorem wz:(ak.underlying 5).isSome=true :=aj
theorem k9:(ak.underlying 74).isSome=true :=aj
theorem wide:ak.follows .mixedOrders=true :=aj
theorem Ci:zeroOf ak 103=some (some [.int .u8 0,.int .i64 0]):=aj
theorem Ke:zeroOf ak 220=some (some [.pointer none,.slice none 0 0]):=aj
theorem Kf:zeroOf ak 3=some (some [.int .i64 0]):=aj
theorem Kg:zeroOf ak 300=some (some [.nilFunc]):=aj
theorem sx:zeroOf ak 31=some (some [.int .i64 0,.string ⟨⟨[]⟩⟩,.slice none 0 0,.slice none 0 0,.slice none 0 0,.slice none 0 0,.slice none 0 0]):=aj
theorem Kh:zeroOf ak 35=some (some [.int .i64 0]):=aj
theorem mF:zeroOf ak 42=some (some [.int .i64 0,.string ⟨⟨[]⟩⟩,.slice none 0 0,.slice none 0 0,.slice none 0 0,.slice none 0 0,.slice none 0 0]):=aj
theorem Ki:zeroOf ak 55=some (some [.slice none 0 0]):=aj
theorem Kj:zeroOf ak 60=some (some [.string ⟨⟨[]⟩⟩,.string ⟨⟨[]⟩⟩]):=aj
theorem xa:zeroOf ak 63=some (some [.bool false,.slice none 0 0]):=aj
theorem sy:zeroOf ak 65=some (some [.int .u8 0,.int .i64 0]):=aj
theorem Kk:zeroOf ak 77=some (some [.string ⟨⟨[]⟩⟩,.string ⟨⟨[]⟩⟩]):=aj
theorem Kl:zeroOf ak 83=some (some [.int .i64 0,.int .i64 0,.int .i64 0,.int .i64 0,.int .i64 0]):=aj
theorem xc:zeroOf ak 93=some (some [.bool false,.slice none 0 0]):=aj
theorem Km:zeroOf ak 233=some (some<|cZ 256<|.bool false):=aj
theorem Ko:zeroV ak 35=some (.int .i64 0):=aj
end Go.Hb.dR
section
namespace Go.Hb
open Go.Hb.dR
theorem EG (b:Nat) (C:Option bh) (I:ag) (w:ah) (hb:w.heap[b]? =some (.cells [sO C,I].toArray 220 (0,0))) (hp:C=none∨C=some ⟨b,0,none⟩):
 bc ak 128 (bj [aK b]) w (fun v w'=>v= .tuple #[]∧w'.heap[b]? =some (.cells [sO (some ⟨b,0,none⟩),I].toArray 220 (0,0))∧Md (fun k=>k=b) w w'):=by
 refine enter func128 J ntmps128 J<|aV 5 J<|p (ay J<|(bV hb).trans J)<|p (jV BW J J)<|aH 2 J<|cb J (fun E=> ?_) fun E=> ?_;obtain rfl :C=none:=by simpa using E
 exact aE 3 J<|p (BS BZ J hb J)<|p (EA yy J)<|p (zF BZ J hb J)<|ai 2 J<|e<|dq EM J J J hb (by simp) fun U O L=>aA 1 J<|f0 J<|⟨J,L,O⟩
 obtain rfl :C=some ⟨b,0,none⟩:=hp.resolve_left<|by rintro rfl; simp at E
 exact aE 5 J<|p (ay J<|(bV hb).trans J)<|ai 1 J<|p (He BW Ge J J)<|aA 4 J<|f0 J<|⟨J,hb,Md.refl _ _⟩
theorem J9 (b:Nat) (E:ag) (l:List UInt8) (c:UInt8) (w:ah) (hb:Bd 220 5 w b E l) (aF:l.length≤70368744177664):
 bc ak 90 (bj [aK b,.int .u8 c.toNat]) w (fun v w'=>v= .nilIface∧∃ V,Bd 220 5 w' b V (l++ [c])∧Md (BF b E) w w'∧∀ k,BF b V k→BF b E k∨w.heap.size≤k):=by
 obtain ⟨⟨aB,ae,aw⟩,hown,hnil⟩:=hb;have aP:b < w.heap.size:=(eC.1 ae).1;have aj:∀ k,E.ownBlock=some k→k≠b∧k < w.heap.size:=fun k C=>by have :=hown.lt k C; exact ⟨U,this.2⟩
 refine enter func90 J ntmps90 J<|aV 8 J<|e<|aQ (EG b aB E w ae aw) J ?_;rintro v6 aL ⟨_,ad,L⟩;have av:=cG hown L fun k C=>(aj k C).1;have aG:=L.size;refine ai 8 J<|p (ay J<|(bV ad).trans J)<|ai 1 J<|e<|oQ jC J J fun aC aH aE I ao=>e<|ap jC (bZ av I.md) J (by have :=I.size; omega) J (bt.gS ao) (J) (J) U U fun al aI O ab ax au=> ?_;have ar:=ab.an (Wk.an I.md ad) fun h=>(aj b h).1 rfl;refine ai 2 J<|e<|dq tR J J (by obtain ⟨a,c,h,_⟩:=nF O; exact congrArg eD h) ar (by simp) fun aJ ac aq=>aA 8 J<|aO J ?_;have am:∀ k,al.ownBlock=some k→k≠b:=fun k C=>by have :=O.lt k C; omega
 refine ⟨J,al,⟨⟨_,aq,.inr J⟩,?_,?_⟩,?_,?_⟩;rw [bQ,qB]; exact cG O ac fun k C=>am k C;rw [ax]; simp;refine Md.trans' (Md.trans' (Md.trans' (L.mono fun k _ h=> .inl h) I.md fun _ _ h=>h.elim) ab fun k _ h=> .inr h) ac fun k _ h=> .inl h;rintro k (rfl | C);exact .inl<|.inl J;by_cases h:E.ownBlock=some k;exact .inl<|.inr h;have :=au k C; have h1:=L.size; have aD:=I.md.size; exact .inr<|by rcases this with Z | Z; exact absurd Z h; omega
theorem I7 (b:Nat) (L:ag) (l:List UInt8) (w:ah) (hb:Bd 220 5 w b L l) (ae:l.length≤70368744177664):
 bc ak 91 (bj [aK b]) w (fun v w'=>v=str l∧Md (fun k=>L.ownBlock=some k) w w'):=by
 obtain ⟨⟨am,O,ai⟩,hown,hnil⟩:=hb;obtain ⟨a,c,rfl,ab,hle,ac,ad⟩:=nF hown;refine enter func91 J ntmps91 J<|bN 6 J ?_;have C:(fun w'=>Md (fun k=>(dH a l.length c).ownBlock=some k) w w') w.drew:=(Md.refl _ _).drew;refine bg (fun w'=>Md (fun k=>(dH a l.length c).ownBlock=some k) w w') J wide C<|aJ [0,1,2] J C<|fX 3 J (fun w' E=>ay J<|E.au ((bV O).trans J) fun h=>by have :=hown.lt _ h; omega) C<|aJ [5,6,7] J C<|fX 8 J (fun w' E=>ay J<|E.au ((bV O).trans J) fun h=>by have :=hown.lt _ h; omega) C<|aJ [9] J C ?_;refine cw 4 J (wG (v:= .nilFunc) J (by
  by_cases h:l= []
  have :=hnil.2 h; simp only [Value.slice.injEq] at this; exact .inl this.1;right; have :0 < l.length:=List.length_pos_iff.2 h; omega)) C ?_
 refine he 10 J aj<|Jq HB J J hown J U fun Z V al=> ?_;have I:(fun w'=>Md (fun k=>(dH a l.length c).ownBlock=some k) w w') Z:=C.trans' V fun _ _ h=>h;refine ⟨I,?_⟩;exact cw 11 J (aR) I<|hn aj<|bf 2 J<|aO J<|⟨J,I⟩
end Go.Hb
end
section
namespace Go.Hb
open Go.Hb.dR
theorem uu (b:UInt8):eJ b=decide (32 < (b.toNat:Int)∧(b.toNat:Int)≠127):=by
 unfold eJ; exact decide_eq_decide.2 U
theorem FJ {b:UInt8} (h:32 < (b.toNat:Int)) (h1:(b.toNat:Int)≠127):eJ b=true :=by rw [uu]; exact decide_eq_true ⟨h,h1⟩
theorem ur {b:UInt8} (h:¬(32 < (b.toNat:Int)∧(b.toNat:Int)≠127)):eJ b=false :=by rw [uu]; exact decide_eq_false h
theorem zw (b:UInt8) (w:ah):
 bc ak 94 (bj [.int .u8 b.toNat]) w (fun v w'=>v= .bool (eJ b)∧Wk w w'):=by
 refine enter func94 J ntmps94 J<|aV 10 J<|gs (t:=5) J (fun C=> ?_) fun C=> ?_;exact aA 7 J<|aO J<|⟨by show bl (decide _)=_; rw [uu]; exact bv (by constructor <;> intro h <;> first | exact ⟨U,h⟩ | exact h.2),Md.refl _ _⟩
 exact ai 3 J<|p aR<|aA 3 J<|aO J<|⟨by show bl false =_; rw [ur U],Md.refl _ _⟩
theorem Js (s:List UInt8) (w:ah) (ai:s.length≤1048576):
 bc ak 95 (bj [str s]) w (fun v w'=>v= .bool (mh s)∧Wk w w'):=by
 refine enter func95 J ntmps95 J<|aV 11 J<|gs (t:=6) J (fun I=> ?_) fun I=> ?_;exact aA 14 J<|aO J<|⟨by show bl false =_; unfold mh; rw [decide_eq_false (by rw [I]; simp)],Md.refl _ _⟩
 refine aH 6 J<|cd J (fun ad=> ?_) fun ad=> ?_;exact aG 7 J<|aO J<|⟨by show bl false =_; unfold mh; rw [decide_eq_false U],Md.refl _ _⟩
 refine bO 11 J<|lp (fun O ac ab=> ∃ (i:Nat),(i≤s.length∧1≤s.length∧s.length≤64)∧(∀ j,j < i→eJ (s.getD j 0)=true)∧(Wk w ab)∧(Sl ac [(0,str s),(12,.int .i64 s.length),(13,.int .i64 i)])∧(s.length - i=O)) _ ⟨0,(⟨U,by rcases Dv s.length with h | h <;> first | exact absurd (sT.1 h) I | exact h,U⟩),(fun j Z=>by omega),(Md.refl _ _),J,J⟩ ?_;rintro O ac ab ⟨i,hi,hp,C,ag,rfl⟩;refine bC ag<|bN 6 J<|cd J (fun ae=> ?_) fun ae=> ?_;refine aE 14 J<|p (eV u9 J J U)<|e<|aQ (zw (s.getD i 0) _) J ?_;rintro aj al ⟨rfl,V⟩;refine aH 3 J<|cb J (fun E=> ?_) fun E=> ?_;have L:eJ (s.getD i 0)=false :=by simpa using E
 exact aG 8 J<|tr<|bf 2 J<|aO J<|⟨by show bl false =_; unfold mh; rw [oS (i:=i) U L,decide_eq_false (by simp)],Md.trans C V⟩
 have L:eJ (s.getD i 0)=true :=by simpa using E
 exact aG 7 J<|tn<|⟨_,U,i+1,U,(fun j Z=>by rcases di j i with h | h <;> first | exact hp j h | (rw [show j=i by omega]; exact L)),(Md.trans C V),J,J⟩
 exact aG 2 J<|b9<|bf 8 J<|aO J<|⟨by show bl true =_; unfold mh; rw [qJ (fun j Z=>hp j U),decide_eq_true ⟨hi.2.1,hi.2.2,J⟩],C⟩
theorem GK (s:List UInt8) (w:ah) (a5:s.length≤1048576):
 bc ak 68 (bj [str s]) w (fun v w'=>v= .tuple #[str (letE s).1,.int .i64 (letE s).2]∧Wk w w'):=by
 refine enter func68 J ntmps68 J<|aV 8 J<|e<|al Km fun ab aY a0 O au=> ?_;have aM:ax aY.heap ab (marksOf []):=by rw [GZ]; exact au
 refine aH 9 J<|cd J (fun ap=> ?_) fun ap=> ?_;exact aG 8 J<|f2 J J J<|⟨by show iF #[str [],.int .i64 21]=_; unfold letE; rw [if_pos (.inl ap)]; rfl,O.md⟩
 refine aE 4 J<|e<|c7 Ke fun L bd a2 aD aN=>aH 11 J ?_;have a1:=au.lt;refine lp (fun ar aI Z=> ∃ (i:Nat) (C:ag),(i≤s.length)∧(∀ j,j < i→eJ (s.getD j 0)=true)∧(ax Z.heap ab<|marksOf<|lets<|s.take i)∧(Bd 220 5 Z L C<|lets<|s.take i)∧(Wk w Z)∧(Sl aI [(0,str s),(4,aK ab),(5,aK L),(10,.int .i64 s.length),(11,.int .i64 i)])∧(s.length - i=ar)) _ ⟨0,.slice none 0 0,U,(fun j aq=>by omega),(aD.md.B aM),(Bd.new aN),(Md.trans O.md aD.md),J,J⟩ ?_;rintro ar aI Z ⟨i,C,hi,hp,aC,ad,am,aW,rfl⟩;refine bC aW ?_;have aU:=uR<|s.take i;rw [cC] at aU;have a3:=aC.lt;refine bN 6 J<|cd J (fun aT=> ?_) fun aT=> ?_;refine aE 15 J<|p (eV u9 J J U)<|e<|aQ (zw (s.getD i 0) _) J ?_;rintro a7 aX ⟨rfl,E⟩;refine aH 3 J<|cb J (fun an=> ?_) fun an=> ?_;have V:eJ (s.getD i 0)=false :=by simpa using an
 exact aG 10 J<|tr<|bf 2 J<|f2 J J J<|⟨by show iF #[str [],.int .i64 21]=_; unfold letE; rw [if_pos (.inr<|oS U V)]; rfl,Md.trans am E⟩
 have V:eJ (s.getD i 0)=true :=by simpa using an
 have av:Wk w aX:=Md.trans am E;have ac:=E.B aC;have aj:=ad.md E fun _ _ h=>h;have a6:=E.size;refine aE 6 J<|p (eV u9 J J U)<|p (eK xY J J<|by have :=lD (s.getD i 0); omega)<|p (ay J<|G4 ac _)<|aH 3 J<|cb J (fun ao=> ?_) fun ao=> ?_;have I:¬s.getD i 0∈lets (s.take i):=of_decide_eq_false<|by simpa using ao
 refine aE 4 J<|p (eV u9 J J U)<|p (eK xY J J<|by have :=lD (s.getD i 0); omega)<|e<|st tT J J (J) (ac) (by rw [Ap]; have :=lD (s.getD i 0); omega) fun aZ aw aL=> ?_;have aS:=G5 aL;have aP:Wk w aZ:=Md.trans' av aw fun k aF h=>by omega
 have ae:=aj.md aw fun k aF h=>by have :=aj.q6 aF; omega
 refine ai 5 J<|p (eV u9 J J U)<|e<|aQ (J9 L C (lets<|s.take i) (s.getD i 0) _ ae U) J ?_;rintro a8 ba ⟨rfl,aJ,aO,aB,a4⟩;exact aA 7 J<|tn<|⟨_,U,i+1,aJ,U,(fun j aq=>by rcases di j i with h | h <;> first | exact hp j h | (rw [show j=i by omega]; exact V)),(by rw [kT U,if_neg I]; exact aB.B aS fun h=>by have :=ae.q6 h; omega),(by rw [kT U,if_neg I]; exact aO),(ae.step aP aB<|by have :=O.md.size; omega),J,J⟩
 have I:s.getD i 0∈lets (s.take i):=by simpa using ao
 exact aG 7 J<|tn<|⟨_,U,i+1,C,U,(fun j aq=>by rcases di j i with h | h <;> first | exact hp j h | (rw [show j=i by omega]; exact V)),(by rw [kT U,if_pos I]; exact ac),(by rw [kT U,if_pos I]; exact aj),av,J,J⟩
 refine aG 2 J<|b9<|gN 4 J<|e<|aQ (I7 L C (lets<|s.take i) _ ad<|by have :=uR (s.take i); rw [cC] at this; omega) J ?_;rintro a9 bb ⟨rfl,aR⟩;exact aA 5 J<|f2 J J J<|⟨by show iF #[str (lets<|s.take i),.int .i64 0]=_; unfold letE; rw [if_neg (by rw [qJ (fun j aq=>hp j U)]; exact fun h=>h.elim ap cB),show s.take i=s from jj U]; rfl,ad.IX am aR<|by have :=O.md.size; omega⟩
end Go.Hb
end
section
namespace Go.Hb
open Go.Hb.dR
def jX (e:Int):List PanicEntry:= [{v:= .iface 35 (.int .i64 e),recovered:=false}]
def HY:Except Nat (Nat×Nat)→Nat
 | .ok (n,_)=>n
 | .error _=>0
def HZ:Except Nat (Nat×Nat)→Nat
 | .ok (_,p)=>p
 | .error _=>0
def nO:Except Nat (Nat×Nat)→Nat
 | .ok _=>0
 | .error e=>e
def vA (r:Except Nat (Nat×Nat)):ag:= .tuple #[.int .u64 (HY r:Nat),.int .i64 (HZ r:Nat),.int .i64 (nO r:Nat)]
theorem vB {s:List UInt8} {a e:Nat} (h:a0 s a= .error e):e=60∨e=61:=by
 unfold a0 at h;split at h
 · cases h; exact .inr rfl
 · split at h
   · cases h; exact .inl rfl
   · split at h
     · cases h; exact .inr rfl
     · cases h
theorem H6 {s:List UInt8} {a:Nat} (h:((nO (a0 s a):Nat):Int)=0):∃ n p,a0 s a= .ok (n,p):=by
 cases hX:a0 s a with
 | ok x=>exact ⟨x.1,x.2,rfl⟩
 | error e=>
   rw [hX] at h;have :=vB hX;simp only [nO] at h; omega
theorem H5 {s:List UInt8} {a:Nat} (h:¬((nO (a0 s a):Nat):Int)=0):a0 s a= .error (nO<|a0 s a):=by
 cases hX:a0 s a with
 | ok x=>rw [hX] at h; simp [nO] at h
 | error e=>rfl
theorem Bw {s:List UInt8} {a n:Nat} :(s.take<|a+n).drop a=(s.drop a).take n:=by rw [Db,Dt]
theorem zA {s:List UInt8} {a e:Nat} (h:a0 s a= .error e):cF s a= .error e:=by unfold cF; rw [h]
theorem zB {s:List UInt8} {a n p:Nat} (h:a0 s a= .ok (n,p)) (hn:255 < n):cF s a= .error 62:=by unfold cF; rw [h]; exact if_pos hn
theorem zC {s:List UInt8} {a n p:Nat} (h:a0 s a= .ok (n,p)) (hn:¬255 < n) (hp:s.length < p+n):cF s a= .error 60:=by unfold cF; rw [h]; simp only; rw [if_neg hn,if_pos hp]
theorem zD {s:List UInt8} {a n p:Nat} (h:a0 s a= .ok (n,p)) (hn:¬255 < n) (hp:¬s.length < p+n):cF s a= .ok ((s.drop p).take n,p+n):=by unfold cF; rw [h]; simp only; rw [if_neg hn,if_neg hp]
theorem DZ:∀ r:Fin 256,oo.wrap (gB oo.bits ((r.val:Nat):Int) &&& gB oo.bits 127).toNat=((r.val % 128:Nat):Int):=by decide+kernel
theorem DY (b:UInt8):oo.wrap (gB oo.bits (b.toNat:Int) &&& gB oo.bits 127).toNat=((b.toNat % 128:Nat):Int):=DZ ⟨b.toNat,lD b⟩
theorem AP (i:Nat):(128:Nat) ^ i=2 ^ (7 *i):=by rw [Nat.pow_mul]
theorem Iv {x i:Nat} (hi:i≤9):mP.wrap (((x:Nat):Int)*2 ^ min ((7 *i:Nat):Int).toNat mP.bits)=((x*128 ^ i % 18446744073709551616:Nat):Int):=by
 have C:(mP.bits:Nat)=64:=rfl;rw [fO,C,Nat.min_eq_left U,IntKind.wrap_u64,AP];generalize 7 *i=m;rw [show ((x:Nat):Int)*2 ^ m=((x*2 ^ m:Nat):Int) by simp];omega
theorem Hw {n x i:Nat} (hi:i≤9) (hn:n < 128 ^ i):mP.wrap (gB mP.bits (n:Int) ||| gB mP.bits ((x*128 ^ i % 18446744073709551616:Nat):Int)).toNat=((n+x*128 ^ i % 18446744073709551616:Nat):Int):=by
 have E:(mP.bits:Nat)=64:=rfl;rw [AP] at hn ⊢;have J:x*2 ^ (7 *i) % 18446744073709551616=2 ^ (7 *i)*(x % 2 ^ (64 - 7 *i)):=by
  rw [show (18446744073709551616:Nat)=2 ^ (7 *i)*2 ^ (64 - 7 *i) by rw [← Nat.pow_add,show 7 *i+(64 - 7 *i)=64 by omega],xF x,Nat.mul_mod_mul_left]
 rw [J,E,Cx,Cx,BitVec.toNat_or,Cy,Cy];have C:x % 2 ^ (64 - 7 *i) < 2 ^ (64 - 7 *i):=Nat.mod_lt _<|Nat.two_pow_pos _;generalize x % 2 ^ (64 - 7 *i)=z at C;have hle:(2:Nat) ^ (7 *i)≤2 ^ 64:=qx aM U;have hmul:2 ^ (7 *i)*z+n < 2 ^ 64:=by
  have I:2 ^ (7 *i)*(z+1)≤2 ^ (7 *i)*2 ^ (64 - 7 *i):=xG _ C;rw [← Nat.pow_add,show 7 *i+(64 - 7 *i)=64 by omega,Nat.mul_succ] at I;omega
 rw [xE U,xE (show 2 ^ (7 *i)*z < 2 ^ 64 by omega),Nat.or_comm,← Nat.two_pow_add_eq_or_of_lt hn,gh U,Nat.add_comm]
theorem ru {s:List UInt8} {a i n:Nat} (hi:i≤9) (ha:a+i < s.length) (hn:n=dv ((s.drop a).take i)) (hb:i≤8∨(s.getD (a+i) 0).toNat≤1):n+(s.getD (a+i) 0).toNat % 128 *128 ^ i % 18446744073709551616=dv ((s.drop a).take<|i+1):=by
 have I:((s.drop a).take i).length=i:=by rw [cC,ic]; omega
 have J:(s.drop a)[i]? =some (s.getD (a+i) 0):=by
  rw [List.getElem?_drop,cr,bG U]; rfl
 rw [List.take_add_one,J,Option.toList_some,uQ,I,hn,dv,dv,Nat.mul_zero,jl];congr 1;have hm:(s.getD (a+i) 0).toNat % 128 < 128:=Nat.mod_lt _ aM;have C:i≤8∨(s.getD (a+i) 0).toNat % 128≤1:=hb.imp id fun h=>U;generalize (s.getD (a+i) 0).toNat % 128=x at hm C ⊢;rw [xF,xE];have O:(128:Nat) ^ 9=9223372036854775808:=aM;rcases C with hb | hb
 · have h1:128 ^ i*x < 128 ^ i*128:=Nat.mul_lt_mul_of_pos_left hm<|Nat.pow_pos aM;have L:(128:Nat) ^ i*128=128 ^ (i+1):=rfl;have E:(128:Nat) ^ (i+1)≤128 ^ 9:=qx aM U;omega
 · have E:(128:Nat) ^ i≤128 ^ 9:=qx aM U;have V:128 ^ i*x≤128 ^ i*1:=xG _ hb;omega
theorem H7 (s:List UInt8) (a:Nat) (w:ah) (ar:s.length≤1048576) (ha:a≤s.length):
 bc ak 66 (bj [str s,aB a]) w (fun v w'=>v=vA (a0 s a)∧Wk w w'):=by
 refine enter func66 J ntmps66 J<|aV 13 J<|gs (t:=11) J (fun h=>absurd h U) fun aq=>aH 7 J<|cd J (fun ae=> ?_) fun ae=> ?_;exact aG 9 J<|f3 J J J J<|⟨by rw [rS (k:=0) (ja U (fun j Z=>by omega)<|.inr<|.inl U) U U]; rfl,Md.refl _ _⟩
 refine bO 9 J<|lp (fun V ac ab=> ∃ (i n:Nat),(i≤10)∧(∀ j,j < i→a+j < s.length∧128≤(s.getD (a+j) 0).toNat)∧(i≤9→n=dv ((s.drop a).take i))∧(Wk w ab)∧(Sl ac [(0,str s),(1,aB a),(4,.int .u64 (n:Nat)),(17,aB i)])∧(10 - i=V)) _ ⟨0,0,U,(fun j Z=>by omega),(fun _=>rfl),(Md.refl _ _),J,J⟩ ?_;rintro V ac ab ⟨i,n,hi,I,hn,E,ap,rfl⟩;refine bC ap<|bN 6 J<|cd J (fun ag=> ?_) fun ag=> ?_;refine bO 21 J<|cd J (fun aj=> ?_) fun aj=> ?_;exact aG 11 J<|tr<|bf 2 J<|f3 J J J J<|⟨by rw [rS (k:=i) (ja U I<|.inr<|.inl U) U U]; rfl,E⟩
 refine aE 7 J<|p (cm<|a+i)<|p (eV u9 J J U)<|aH 4 J ?_;have ao:n < 128 ^ i:=by
  have h1:=rq<|(s.drop a).take i;rw [← hn U] at h1;have ad:((s.drop a).take i).length=i:=by rw [cC,ic]; omega
  rwa [ad] at h1
 refine aE 3 J<|p (cI J J<|DY _)<|p (gn n9 wz J<|gh U)<|ai 1 J<|p (u7 ((7 *i:Nat):Int) J J<|wQ U U)<|p (shl J J U<|Iv U)<|p (yc J J<|Hw U ao)<|aH 12 J<|cd J (fun al=> ?_) fun al=> ?_;have an:∀ j,j < i+1→a+j < s.length∧128≤(s.getD (a+j) 0).toNat:=fun j Z=>by
  rcases di j i with h | h;exact I j h;obtain rfl :j=i:=U;exact ⟨U,U⟩
 exact aE 6 J<|p (cm<|i+1)<|aA 2 J<|tn<|⟨_,U,i+1,n+(s.getD (a+i) 0).toNat % 128 *128 ^ i % 18446744073709551616,U,an,(fun h=>ru U U (hn U)<|.inl U),E,J,J⟩
 refine aE 6 J<|gs (t:=45) J (fun am=> ?_) fun am=> ?_;refine aH 6 J<|cd J (fun L=> ?_) fun L=> ?_;refine bO 2 J<|cd J (fun L=> ?_) fun L=> ?_;refine aG 12 J<|tr<|bf 2 J<|f3 J J J J ?_;have C:=ja (s:=s) (a:=a) (k:=i) U I<|.inr<|.inr U;exact ⟨by rw [nP C U U U]; rfl,E⟩;refine aE 8 J<|p (cm<|a+i)<|p (cm<|a+i+1)<|aA 8 J<|tr<|bf 2 J<|f3 J J J J ?_;exfalso; omega;refine aE 4 J<|gs (t:=51) J (fun O=> ?_) fun O=> ?_;refine aH 6 J<|cd J (fun L=> ?_) fun L=> ?_;refine aG 12 J<|tr<|bf 2 J<|f3 J J J J ?_;have C:=ja (s:=s) (a:=a) (k:=i) U I<|.inr<|.inr U;exact ⟨by rw [nP C U U U]; rfl,E⟩;refine aE 8 J<|p (cm<|a+i)<|p (cm<|a+i+1)<|aA 8 J<|tr<|bf 2 J<|f3 J J J J ?_;have C:=ja (s:=s) (a:=a) (k:=i) U I<|.inr<|.inr U;exact ⟨by rw [rR C U U U,← ru U U (hn U) U]; rfl,E⟩;refine ai 3 J<|p aR<|ai 11 J<|p (cm<|a+i)<|p (cm<|a+i+1)<|aA 8 J<|tr<|bf 2 J<|f3 J J J J ?_;exfalso; omega;refine ai 3 J<|p aR<|ai 7 J<|gs (t:=51) J (fun O=> ?_) fun O=> ?_;refine aH 6 J<|cd J (fun L=> ?_) fun L=> ?_;refine aG 12 J<|tr<|bf 2 J<|f3 J J J J ?_;have C:=ja (s:=s) (a:=a) (k:=i) U I<|.inr<|.inr U;exact ⟨by rw [nP C U U U]; rfl,E⟩;refine aE 8 J<|p (cm<|a+i)<|p (cm<|a+i+1)<|aA 8 J<|tr<|bf 2 J<|f3 J J J J ?_;have C:=ja (s:=s) (a:=a) (k:=i) U I<|.inr<|.inr U;exact ⟨by rw [rR C U U U,← ru U U (hn U) U]; rfl,E⟩;refine ai 3 J<|p aR<|ai 11 J<|p (cm<|a+i)<|p (cm<|a+i+1)<|aA 8 J<|tr<|bf 2 J<|f3 J J J J ?_;have C:=ja (s:=s) (a:=a) (k:=i) U I<|.inr<|.inr U;exact ⟨by rw [rR C U U U,← ru U U (hn U) U]; rfl,E⟩;refine aG 2 J<|b9<|bf 10 J<|f3 J J J J ?_;obtain rfl :i=10:=U;exact ⟨by rw [A8 (ja U I<|.inl J)]; rfl,E⟩
theorem jd (E:ag) (b:Bool) (e:Int) (w:ah):
 lH ak 43 (bj [E,.bool b,.int .i64 e]) w (fun v w'=>v=iF #[]∧b=true∧w'=w) (fun c w'=>c=jX e∧b=false∧w'=w):=by
 refine o4 func43 J ntmps43 J<|bN 6 J<|cb J (fun C=> ?_) fun C=> ?_;exact aE 2 J<|p (u6 rB J)<|Hz J fun σ' I=>⟨J,by simpa using C,J⟩
 refine aG 1 J<|o7<|f0 J ?_;exact ⟨J,by simpa using C,J⟩
theorem nz (rb:Nat) (s:List UInt8) (a:Nat) (w:ah) (I:ax w.heap rb [str s,.int .i64 (a:Nat)]) (ae:s.length≤1048576) (ha:a≤s.length):
 lH ak 41 (bj [.pointer (some ⟨rb,0,none⟩)]) w (fun v w'=> ∃ n p,a0 s a= .ok (n,p)∧v= .int .u64 (n:Nat)∧ax w'.heap rb [str s,.int .i64 (p:Nat)]∧Md (fun k=>k=rb) w w') (fun c w'=> ∃ e,a0 s a= .error e∧c=jX e∧Md (fun k=>k=rb) w w'):=by
 refine o4 func41 J ntmps41 J<|bN 6 J<|eh fun E=>aJ [0,1,2] J E<|cR 3 J E (I.aU 0)<|aJ [4,5,6] J E<|cR 7 J E (I.aU 1)<|he 8 J aj<|aQ (H7 s a w.drew ae ha) J ?_;rintro an U ⟨rfl,C⟩;have C:=Md.eT C;have O:(fun w'=>Wk w w') U:=C;refine ⟨O,?_⟩;refine hp 9 J aj (fun _ _=>mv) O<|aJ [10,11,12,13,14,15] J O<|hn aj<|gN 7 J<|eP J (dO iO (jd _ _ _ U) J fun ao ap ac=> ?_) fun c w' L σ' am=>⟨_,H5 (of_decide_eq_false L.2.1),L.1,by rw [L.2.2]; exact C.mono fun _ _ h=>h.elim⟩
 obtain ⟨rfl,ag,rfl⟩:=ac;obtain ⟨n,al,ad⟩:=H6<|of_decide_eq_true ag;have V:=Wk.B C I;refine ai 8 J<|e<|st dK J J (J) (V) (by simp) fun aq ab Z=>aA 9 J<|o7<|f1 J J ?_;rw [ad] at*;exact ⟨n,al,J,J,Z,Md.trans (C.mono fun _ _ h=>h.elim) ab⟩
theorem BQ (rb:Nat) (s:List UInt8) (a n:Nat) (w:ah) (L:ax w.heap rb [str s,.int .i64 (a:Nat)]) (ap:s.length≤1048576) (ha:a≤s.length) (ao:n≤1048576):
 lH ak 67 (bj [.pointer (some ⟨rb,0,none⟩),.int .i64 (n:Nat)]) w (fun v w'=>a+n≤s.length∧v=str ((s.drop a).take n)∧ax w'.heap rb [str s,.int .i64 ((a+n:Nat):Int)]∧Md (fun k=>k=rb) w w') (fun c w'=>s.length < a+n∧c=jX 60∧Md (fun k=>k=rb) w w'):=by
 refine o4 func67 J ntmps67 J<|bN 6 J<|eh fun E=>aJ [0,1,2,3,4] J E<|cR 5 J E (L.aU 0)<|aJ [6,7,8,9] J E<|cR 10 J E (L.aU 1)<|aJ [11,12] J E<|F4 13 J aj J (dO iO (jd _ _ _ w.drew) J fun aq Z al=> ?_) fun c w' O σ' an=>⟨by have :=of_decide_eq_false O.2.1; omega,O.1,by rw [O.2.2]; exact (Md.refl _ _).drew⟩
 obtain ⟨rfl,ac,V⟩:=al;have ac:=of_decide_eq_true ac;have ab:ax Z.heap rb [str s,.int .i64 (a:Nat)]:=by rw [V]; exact L
 have ae:Md (fun k=>k=rb) w Z:=by rw [V]; exact (Md.refl _ _).drew
 have am:(fun w'=>Wk w w') Z:=by rw [V]; exact (Md.refl _ _).drew
 refine ⟨am,?_⟩;refine hn aj<|gN 6 J<|p (ay J<|ab.aU 1)<|ai 1 J<|p (cm<|a+n)<|ai 2 J<|e<|st dK J J (J) (ab) (by simp) fun ar ag ad=> ?_;have I:=ad;exact aH 3 J<|eh fun C=>aJ [0,1,2] J C<|cR 3 J C (I.aU 0)<|aJ [4,5,6] J C<|cR 7 J C (I.aU 1)<|aJ [8] J C<|hp 9 J aj (fun _ _=>pL<|a) C<|aJ [10,11,12] J C<|cR 13 J C (I.aU 1)<|hp 14 J aj (fun _ _=>r6 u9 J J J U) C<|aJ [15] J C<|hn aj<|bf 2 J<|o7<|f1 J J<|⟨U,by rw [← Bw]; rfl,I,(ae.trans ag).drew⟩
theorem uy (rb:Nat) (s:List UInt8) (a:Nat) (w:ah) (Z:ax w.heap rb [str s,.int .i64 (a:Nat)]) (O:s.length≤1048576) (ha:a≤s.length):
 lH ak 42 (bj [.pointer (some ⟨rb,0,none⟩)]) w (fun v w'=> ∃ f p,cF s a= .ok (f,p)∧v=str f∧ax w'.heap rb [str s,.int .i64 (p:Nat)]∧Md (fun k=>k=rb) w w') (fun c w'=> ∃ e,cF s a= .error e∧c=jX e∧Md (fun k=>k=rb) w w'):=by
 refine o4 func42 J ntmps42 J<|aV 8 J<|eP J (dO m7 (nz rb s a w Z O ha) J fun aw an aj=> ?_) fun c w' C σ' L=>by obtain ⟨e,he,am,ad⟩:=C; exact ⟨e,zA he,am,ad⟩
 obtain ⟨n,q,E,rfl,ac,I⟩:=aj;obtain ⟨ap,aq,ar⟩:=iy E;refine ai 8 J<|eP J (dO iO (jd _ _ _ an) J fun ay ao al=> ?_) fun c w' C σ' L=>⟨62,zB E (by have :=of_decide_eq_false C.2.1; omega),C.1,by rw [C.2.2]; exact I⟩
 obtain ⟨rfl,V,rfl⟩:=al;have V:=of_decide_eq_true V;refine ai 6 J<|p (gn u3 k9 J<|iA U)<|eP J (dO yh (BQ rb s q n ao ac O U U) J fun av aB ag=> ?_) fun c w' C σ' L=>⟨60,zC E U C.1,C.2.1,I.trans C.2.2⟩
 obtain ⟨au,rfl,ab,ae⟩:=ag;exact aA 4 J<|o7<|f1 J J<|⟨_,_,zD E U U,J,ab,I.trans ae⟩
theorem BR {s:List UInt8} {i:Nat} (h:i < s.length):(s.take<|i+1).drop i= [s.getD i 0]:=by
 rw [Db,show i+1 - i=1 by omega,drop_cons 0 h]; rfl
theorem Jv (b:UInt8):mh [b]=eJ b:=by
 unfold mh fi;cases h:eJ b <;> simp [h]
def gp:List UInt8×List UInt8:=([],[])
def cX (r:List UInt8×List UInt8):List ag:= [str r.1,str r.2]
theorem A5 {h:Array Obj} {a:Option bh} {rs:List (List UInt8×List UInt8)} {i:Nat} (C:bt h a (rs.flatMap cX)) (hi:i < rs.length):∀ j,j < 2→Hb.au h (bk a) (fo a+i*2 +j)= [str (rs.getD i gp).1,str (rs.getD i gp).2][j]? :=
 eU (f:=cX) (m:=2) (fun _=>rfl) C (by rw [cr,bG hi]; rfl)
theorem A6 {rs:List (List UInt8×List UInt8)} (h:0 < rs.length):rs.flatMap cX≠[]:=gK (f:=cX) (m:=2) (fun _=>rfl) aM h
variable {ls:Nat} {t:List UInt8} {rs:List (List UInt8×List UInt8)}
theorem nT {b:Bool} (h:(!b)=true):b=false :=by cases b; rfl; cases h
theorem nU (h:ls < 1∨64 < ls∨256 < rs.length):dM ls t rs=false :=by
 unfold dM;rw [decide_eq_false U]; rfl
theorem rW (h:t≠[]) (C:letE t≠(t,0)):dM ls t rs=false :=by
 unfold dM;rw [decide_eq_false h,decide_eq_false C]; simp
theorem kZ {i:Nat} (h:i < rs.length) (C:gd (rs.getD i gp)=false):dM ls t rs=false :=by
 unfold dM;rw [xQ gp h C]; simp
theorem Bk (h:¬(ls < 1∨64 < ls∨256 < rs.length)) (C:t= []∨letE t=(t,0)) (E:∀ i,i < rs.length→gd (rs.getD i gp)=true):dM ls t rs=true :=by
 unfold dM;rw [decide_eq_true U,xR gp E];rcases C with C | C <;> simp [C]
theorem Bm {r:List UInt8×List UInt8} (h:r.1= []):gd r=false :=by unfold gd; simp [h]
theorem vI {r:List UInt8×List UInt8} (h:(fi r.1 && decide (r.1.length≤32))=false):gd r=false :=by unfold gd; rw [h]; simp
theorem vJ {r:List UInt8×List UInt8} (h:(fi r.2 && decide (r.2.length≤32))=false):gd r=false :=by unfold gd; rw [h]; simp
theorem Bn {r:List UInt8×List UInt8} (h0:r.1≠[]) (h:(fi r.1 && decide (r.1.length≤32))=true) (C:(fi r.2 && decide (r.2.length≤32))=true):gd r=true :=by unfold gd; rw [h,C,decide_eq_true h0]; rfl
theorem AQ (x:List UInt8) (m:Nat) (w:ah) (ag:x.length≤1048576):
 bc ak 69 (bj [str x,aB m]) w (fun v w'=>v= .bool (fi x && decide (x.length≤m))∧Wk w w'):=by
 refine enter func69 J ntmps69 J<|bN 14 J<|lp (fun L ac I=> ∃ (i:Nat),(i≤x.length)∧(∀ j,j < i→eJ (x.getD j 0)=true)∧(Wk w I)∧(Sl ac [(0,str x),(1,aB m),(7,aB (x.length)),(8,aB i)])∧(x.length - i=L)) _ ⟨0,U,(fun j Z=>by omega),(Md.refl _ _),J,J⟩ ?_;rintro L ac I ⟨i,hi,ab,C,ae,rfl⟩;refine bC ae<|bN 6 J<|cd J (fun ad=> ?_) fun ad=> ?_;refine aE 15 J<|p (cm<|i+1)<|p (r6 u9 J J J U)<|e<|aQ (Js ((x.take<|i+1).drop i) I<|by rw [BR U]; simp) J fun ai aj V=> ?_;rw [BR U,Jv] at V;obtain ⟨rfl,O⟩:=V;refine aH 3 J<|cb J (fun E=> ?_) fun E=> ?_;exact aG 8 J<|tr<|bf 2 J<|aO J<|⟨by rw [oS (i:=i) U (by simpa using E)]; rfl,C.trans O⟩
 exact aE 4 J<|p (cm<|i+1)<|aA 2 J<|tn<|⟨_,U,i+1,U,(fun j Z=>by rcases di j i with h | h <;> first | exact ab j h | (rw [show j=i by omega]; simpa using E)),(C.trans O),J,J⟩
 exact aG 2 J<|b9<|bf 12 J<|aO J<|⟨by rw [qJ (fun j Z=>ab j U),Bool.true_and]; exact bv U,C⟩
theorem Im (ls:Nat) (t:List UInt8) (rs:List (List UInt8×List UInt8)) (ac:Option bh) (rc:Nat) (aI v4 aJ v6:ag) (w:ah) (av:bt w.heap ac (rs.flatMap cX)) (bg:ls≤64) (bn:t.length≤1048576) (bi:rs.length≤1048576) (a3:∀ r∈rs,r.1.length≤1048576∧r.2.length≤1048576):
 bc ak 44 (bj [.agg #[aB ls,str t,.slice ac rs.length rc,aI,v4,aJ,v6]]) w (fun v w'=>v= .bool (dM ls t rs)∧Wk w w'):=by
 refine enter func44 J ntmps44 J<|aV 2 J<|e<|m6 J fun ar a8 ba Z E=>ai 7 J<|p (ay J<|E.aU 0)<|ai 2 J<|gs (t:=10) J (fun a1=> ?_) fun a1=> ?_;exact ai 4 J<|p mv<|aA 15 J<|aO J<|⟨(congrArg bl<|nU (t:=t) (rs:=rs)<|.inl (show ls < 1 by omega)).symm,Z.md⟩
 refine ai 1 J<|bw J (ay J<|E.aU 0)<|ai 3 J<|gs (t:=15) J (fun a2=> ?_) fun a2=> ?_;exact aA 15 J<|aO J<|⟨(congrArg bl<|nU (t:=t) (rs:=rs)<|.inr<|.inl (show 64 < ls by omega)).symm,Z.md⟩
 refine ai 1 J<|bw J (ay J<|E.aU 2)<|aH 5 J<|cd J (fun aZ=> ?_) fun aZ=> ?_;exact aG 7 J<|aO J<|⟨(congrArg bl<|nU<|.inr<|.inr (show 256 < rs.length by omega)).symm,Z.md⟩
 refine bO 2 J ?_;refine ej (fun aL ap=> ∃ (a7:Unit),(t= []∨letE t=(t,0))∧(Wk w ap)∧(ax ap.heap ar [aB ls,str t,.slice ac rs.length rc,aI,v4,aJ,v6])∧(Sl aL [(1,aK ar)])) ?_ ?_;refine aV 3 J<|p (ay J<|E.aU 1)<|e<|aQ (GK t a8 U) J ?_;rintro bo br ⟨rfl,aw⟩;have L:=Z.md.trans aw;have I:=Wk.B aw E;refine p mv<|ai 9 J<|p (ay J<|I.aU 1)<|ai 2 J<|gs (t:=30) J (fun ab=> ?_) fun ab=> ?_;refine ai 3 J<|gs (t:=33) J (fun al=> ?_) fun al=> ?_;exact ai 5 J<|p (pF J)<|aA 9 J<|tr<|aO J<|⟨(congrArg bl<|rW ab fun h=>by rw [h] at al; exact al J).symm,L⟩
 refine ai 2 J<|bw J (ay J<|I.aU 1)<|aH 5 J<|cd J (fun ae=> ?_) fun ae=> ?_;exact aG 6 J<|tr<|aO J<|⟨(congrArg bl<|rW ab fun h=>ae<|by rw [h]).symm,L⟩
 exact aG 1 J<|tn<|⟨(),(.inr<|Prod.ext (qf.1 ae)<|by show (letE t).2=0; omega),L,I,J⟩
 exact aA 13 J<|tn<|⟨(),(.inl<|qf.1 ab),L,I,J⟩
 rintro aL ap ⟨a7,a6,aW,aT,a4⟩;refine bC a4<|aE 4 J<|p (ay J<|aT.aU 2)<|aH 5 J<|lp (fun au aM aq=> ∃ (i:Nat),(i≤rs.length)∧(∀ j,j < i→gd (rs.getD j gp)=true)∧(Wk w aq)∧(Sl aM [(41,.slice ac rs.length rc),(42,aB (rs.length)),(43,aB i)])∧(rs.length - i=au)) _ ⟨0,U,(fun j aD=>by omega),aW,J,J⟩ ?_;rintro au aM aq ⟨i,hi,aF,C,a5,rfl⟩;refine bC a5<|bN 6 J<|cd J (fun a0=> ?_) fun a0=> ?_;refine aE 6 J<|p (bK qU J J U<|bt.ok (av.wk C)<|A6 U)<|p (dn DQ J (J)<|A5 (av.wk C) U)<|e<|c7 Kj fun aN bv bb aY aR=>e<|da ET J J J J aR (by simp) fun ao aX aS=> ?_;have ad:ax ao.heap aN [str (rs.getD i gp).1,str (rs.getD i gp).2]:=⟨_,aS⟩
 have V:Wk aq ao:=Md.trans' aY.md aX fun k bd h=>by omega
 have bm:=a3 _<|iX (d:=gp) (show i < rs.length by omega);refine ai 5 J<|p (ay J<|ad.aU 0)<|ai 2 J<|gs (t:=50) J (fun am=> ?_) fun am=> ?_;exact ai 5 J<|p mv<|aA 16 J<|tr<|bf 2 J<|aO J<|⟨(congrArg bl<|kZ (show i < rs.length by omega)<|Bm am).symm,C.trans V⟩
 refine ai 1 J<|bw J (ay J<|ad.aU 0)<|eg J J J<|aQ (AQ _ 32 ao U) J ?_;rintro bp a9 ⟨rfl,O⟩;have aP:=Wk.B O ad;refine ai 3 J<|gb (t:=56) J (fun an=> ?_) fun an=> ?_;exact aA 16 J<|tr<|bf 2 J<|aO J<|⟨(congrArg bl<|kZ (show i < rs.length by omega)<|vI<|nT an).symm,(C.trans V).trans O⟩
 refine ai 1 J<|bw J (ay J<|aP.aU 1)<|eg J J J<|aQ (AQ _ 32 a9 U) J ?_;rintro bq bu ⟨rfl,aC⟩;refine aH 4 J<|cb J (fun aj=> ?_) fun aj=> ?_;exact aG 8 J<|tr<|bf 2 J<|aO J<|⟨(congrArg bl<|kZ (show i < rs.length by omega)<|vJ<|nT aj).symm,((C.trans V).trans O).trans aC⟩
 exact aE 4 J<|p (cm<|i+1)<|aA 2 J<|tn<|⟨_,U,i+1,U,(fun j aD=>by rcases di j i with h | h <;> first | exact aF j h | (rw [show j=i by omega]; exact Bn am (by simpa using an)<|by simpa using aj)),(((C.trans V).trans O).trans aC),J,J⟩
 exact aG 2 J<|b9<|bf 8 J<|aO J<|⟨(congrArg bl<|Bk U a6 fun j aD=>aF j U).symm,C⟩
end Go.Hb
end
section
namespace Go.Hb
open Go.Hb.dR
structure dS (f:Nat→ag) (w:ah) (pA ms:Nat) (aa:Option bh) (n cA nx:Nat) (mk:List Nat):Prop where
 an:ax w.heap pA [.slice aa n cA,.int .i64 nx,.slice (some ⟨ms,0,none⟩) n n]
 fJ:ax w.heap ms (mk.map f)
 ne:pA≠ms
theorem dS.drew {f:Nat→ag} {w:ah} {C ms:Nat} {aa:Option bh} {n cA nx:Nat} {mk:List Nat} (h:dS f w C ms aa n cA nx mk):dS f w.drew C ms aa n cA nx mk:=⟨h.an,h.fJ,h.ne⟩
theorem uY {f:Nat→ag} {mk:List Nat} {i x:Nat} :(mk.map f).set (0 +i*1) (f x)=(mk.set i x).map f:=by rw [List.map_set,cy,Nat.mul_one]
section
variable {a:List aF} {f nx:Nat} {mk:List Nat} {n:Int}
theorem pV (h:n≠nx) (C:¬(0≤n∧n < nx)):vs a (f+1) (nx,mk) n=none:=by
 rw [wP h,if_neg (fun e=>C ⟨e.1,e.2.1⟩)]
theorem B3 (h:n≠nx) (h0:0≤n) (h1:n < nx):(vs a (f+1) (nx,mk) n).isSome=decide (((mk.getD n.toNat 0:Nat):Int)=2):=by
 rw [wP h];by_cases C:mk.getD n.toNat 0=2
 · rw [if_pos ⟨h0,h1,C⟩,decide_eq_true U]; rfl
 · rw [if_neg (fun e=>C e.2.2),decide_eq_false U]; rfl
theorem B4 {s:Nat×List Nat} (h:n≠nx) (C:vs a (f+1) (nx,mk) n=some s):s=(nx,mk):=by
 rw [wP h] at C;split at C
 · cases C; rfl
 · cases C
end
set_option maxHeartbeats 1000000 in
theorem Jt (f:Nat) (a:List aF) (aa:Option bh) (cA I ms:Nat) (w0:ah) (nx:Nat) (mk:List Nat) (n:Int) (w:ah) (bt:cD w0.heap aa a) (cz:w0.heap.size≤I) (hm:w0.heap.size≤ms) (a3:Wk w0 w) (L:dS iM w I ms aa a.length cA nx mk) (cv:mk.length=a.length) (cy:nx≤a.length) (cu:a.length < f+nx) (hb:a.length≤1048576) (b3:∀ i,i < a.length→(av a i).2.length≤1073741824):
 bc ak 93 (bj [aK I,.int .i64 n]) w (fun v w'=>v= .bool (vs a f (nx,mk) n).isSome∧Md (fun q=>q=I∨q=ms) w w'∧∀ s,vs a f (nx,mk) n=some s→dS iM w' I ms aa a.length cA s.1 s.2):=by
 induction f generalizing nx mk n w with
 | zero=>omega
 | succ f ih=>
   have a5:∀ k,k < w0.heap.size→(k=I∨k=ms)→False:=fun k h1 cn=>U;have cB:=L.an.lt;have cx:=L.fJ.lt;have ap:=L.ne;obtain ⟨ck,b0⟩:=L.an;refine enter func93 J ntmps93 J<|aV 12 J<|p (ay J<|L.an.au 1)<|aH 3 J<|cd J (fun aw=> ?_) fun aw=> ?_;refine aE 5 J<|gs (t:=16) J (fun b5=> ?_) fun b5=> ?_;refine ai 4 J<|bw J (ay J<|L.an.au 1)<|ai 3 J<|gs (t:=24) J (fun b6=> ?_) fun b6=> ?_;refine ai 3 J<|bw J (ay J<|L.an.au 2)<|ai 1 J<|bw J (ia o5 J J U)<|bw J (ay J (show _=some (aT .u8 ((mk.getD n.toNat 0:Nat):Int)) from m5 L.fJ (i:=n.toNat) U))<|aA 7 J<|aO J ?_;refine ⟨congrArg bl (B3 aw U U).symm,Md.refl _ _,fun s C=>by rw [B4 aw C]; exact L⟩;refine ai 9 J<|p aR<|aA 4 J<|aO J ?_;rw [pV aw U];exact ⟨J,Md.refl _ _,fun s C=>by cases C⟩;refine ai 7 J<|p mv<|ai 9 J<|p aR<|aA 4 J<|aO J ?_;rw [pV aw U];exact ⟨J,Md.refl _ _,fun s C=>by cases C⟩;obtain rfl :n=(nx:Int):=qf.1 aw;refine aE 9 J<|p (ay J<|L.an.au 0)<|aH 4 J<|cd J (fun b1=> ?_) fun b1=> ?_;refine aG 7 J<|aO J ?_;rw [B8 rfl U];exact ⟨J,Md.refl _ _,fun s C=>by cases C⟩;refine aE 7 J<|p (ay J<|L.an.au 1)<|p (cm<|nx+1)<|ai 2 J<|e<|dq dK J J J b0 (by simp) fun ch bA bL=> ?_;have bv:ax ch.heap I [.slice aa a.length cA,.int .i64 ((nx+1:Nat):Int),.slice (some ⟨ms,0,none⟩) a.length a.length]:=⟨_,bL⟩
   have cc:=bA.B L.fJ fun e=>ap e.symm;obtain ⟨em,bY⟩:=cc;refine ai 7 J<|p (ay J<|bv.au 2)<|ai 1 J<|p (ia o5 J J U)<|e<|dq yB J J J bY (by simp; omega) fun aU bB bM=> ?_;have ce:ax aU.heap ms ((mk.set nx 1).map iM):=by rw [← uY]; exact ⟨_,bM⟩
   have a6:dS iM aU I ms aa a.length cA (nx+1) (mk.set nx 1):=⟨bB.B bv ap,ce,ap⟩
   have ba:Md (fun q=>q=I∨q=ms) w aU:=Md.trans (bA.mono fun k _ h=> .inl h)<|bB.mono fun k _ h=> .inr h;have a4:Wk w0 aU:=Md.trans' a3 ba a5;obtain ⟨ag,al,bF,aI⟩:=bt.two (i:=nx) U;have cp:=aI.wk a4;refine ai 7 J<|p (ay J<|a6.an.au 0)<|ai 1 J<|p (bK fV J J U<|bt.ok U)<|p (dn tw J (J)<|eO a4 bF)<|e<|c7 xa fun ae cE cs bW bQ=>e<|da tU J J J J bQ (by simp) fun bq bU bR=> ?_;have bx:ax bq.heap ae [bl (av a nx).1,.slice ag (av a nx).2.length al]:=⟨_,bR⟩
   have aX:Wk aU bq:=Md.trans' bW.md bU fun k bD h=>by omega
   have bS:dS iM bq I ms aa a.length cA (nx+1) (mk.set nx 1):=⟨aX.B a6.an,aX.B a6.fJ,ap⟩
   have co:=ba.size;refine ai 6 J<|p (ay J<|bx.au 1)<|aH 5 J<|lp (fun br bE aB=> ∃ (k Z:Nat) (O:List Nat),(k≤(av a nx).2.length)∧(eZ a f (nx+1) (mk.set nx 1) ((av a nx).2.take k)=some (Z,O))∧(eG<|(av a nx).2.take k)∧(Wk w0 aB)∧(Md (fun q=>q=I∨q=ms) w aB)∧(dS iM aB I ms aa a.length cA Z O)∧(ax (aB).heap ae [bl (av a nx).1,.slice ag (av a nx).2.length al])∧(Sl bE [(0,aK I),(1,.int .i64 (nx:Int)),(5,aK ae),(62,.slice ag (av a nx).2.length al),(63,.int .i64 (av a nx).2.length),(64,.int .i64 k)])∧((av a nx).2.length - k=br)) _ ⟨0,nx+1,mk.set nx 1,U,J,List.Pairwise.nil,(Md.trans a4 aX),(Md.trans' ba aX fun k _ h=>h.elim),bS,bx,J,J⟩ ?_;rintro br bE aB ⟨k,Z,O,bD,ad,a1,aY,a8,aL,ar,cf,rfl⟩;refine bC cf<|bN 6 J<|cd J (fun b2=> ?_) fun b2=> ?_;refine bO 5 J ?_;have ct:=b3 nx U;obtain ⟨⟨c,z⟩,hek⟩:∃ e,(av a nx).2[k]? =some e:=⟨_,bG U⟩
   obtain ⟨⟨aW,ci⟩,hep⟩:∃ e,(av a nx).2[k - 1]? =some e:=⟨_,bG U⟩
   have bd:=sr ad U;simp only [fy] at bd;refine aE 2 J<|p (bK kK J J U<|aI.ok U)<|p (dn oN J (J)<|eO aY<|aI.two hek)<|e<|c7 sy fun aC cC cr bV bH=>ai 1 J<|e<|da oX J J J J bH (by simp) fun aS bT bI=> ?_;have a2:ax aS.heap aC [aT .u8 c.toNat,.int .i64 z]:=⟨_,bI⟩
   have V:Wk aB aS:=Md.trans' bV.md bT fun k bD h=>by omega
   have bz:dS iM aS I ms aa a.length cA Z O:=⟨V.B aL.an,V.B aL.fJ,ap⟩
   have a9:Md (fun q=>q=I∨q=ms) w aS:=Md.trans' a8 V fun k _ h=>h.elim;have cq:=a8.size;refine aH 3 J ?_;have E:(fun w'=>Wk w0 w'∧ax w'.heap ae [bl (av a nx).1,.slice ag (av a nx).2.length al]∧ax w'.heap aC [aT .u8 c.toNat,.int .i64 z]) aS.drew:=⟨(Md.trans aY V).drew,V.B ar,a2⟩
   refine bg (fun w'=>Wk w0 w'∧ax w'.heap ae [bl (av a nx).1,.slice ag (av a nx).2.length al]∧ax w'.heap aC [aT .u8 c.toNat,.int .i64 z]) J wide E<|aJ [0,1,2] J E<|kO (t:=71) J (fun b7=> ?_) fun b7=> ?_;refine aJ [3] J E<|cV 4 J (fun w' ac=>ay J<|ac.2.1.au 1) E<|aJ [5] J E<|cV 6 J (fun _ _=>pL<|k - 1) E<|cV 7 J (fun _ _=>bK kK J J U<|aI.ok U) E<|aJ [8] J E<|cV 9 J (fun w' ac=>ay J (show _=some (aT .u8 (aW.toNat:Int)) from (aI.wk ac.1).b (k - 1) (aW,ci) hep)) E<|aJ [10] J E<|cV 11 J (fun w' ac=>ay J<|ac.2.2.au 0) E<|aJ [12,13,14] J E<|kO (t:=83) J (fun b8=> ?_) fun b8=> ?_;refine aJ [15,16,17,18,19,20] J E<|hn aj<|bf 10 J<|tr<|bf 2 J<|aO J ?_;rw [B7 U (Av U hek hep<|by show c.toNat≤aW.toNat; omega)];exact ⟨J,a9.drew,fun s C=>by cases C⟩;refine aJ [15,16] J E<|cV 17 J (fun w' ac=>ay J<|ac.2.2.au 1) E<|nt 18 J aj J J J<|aQ (ih Z O z _ (Md.trans aY V).drew (dS.drew bz) U U U) J ?_;rintro cg aq ⟨rfl,ab,bn⟩;have am:Md (fun q=>q=I∨q=ms) w aq:=Md.trans a9<|Md.eT ab;have aD:Wk w0 aq:=Md.trans' a3 am a5;have aM:(fun w'=>Wk w0 w'∧ax w'.heap ae [bl (av a nx).1,.slice ag (av a nx).2.length al]∧ax w'.heap aC [aT .u8 c.toNat,.int .i64 z]) aq:=⟨aD,ab.B (V.B ar) (fun e=>by omega),ab.B a2 fun e=>by omega⟩
   refine ⟨aM,?_⟩;refine aJ [19,20] J aM<|hn aj<|c9 1 J<|cb J (fun ao=> ?_) fun ao=> ?_;have bi:vs a f (Z,O) z=none:=by simpa using ao
   refine aG 8 J<|tr<|bf 2 J<|aO J ?_;rw [sp (k:=k+1) U (by rw [lb ad hek]; exact bi)];exact ⟨J,am,fun s C=>by cases C⟩;obtain ⟨aP,aN⟩:∃ s,vs a f (Z,O) z=some s:=lB.1<|by simpa using ao
   exact aG 7 J<|tn<|⟨_,U,k+1,aP.1,aP.2,U,(by rw [lb ad hek]; exact aN),(rO a1 hek fun q h0 bm=>by rw [hep] at bm; cases bm; show aW.toNat < c.toNat; omega),aD,am,(bn _ aN),(ab.B (V.B ar) fun e=>by omega),J,J⟩
   refine aJ [3,4,5,6,7,8,9,10,11,12,13] J E<|cw 14 J (mv) E<|aJ [15,16] J E<|cV 17 J (fun w' ac=>ay J<|ac.2.2.au 1) E<|nt 18 J aj J J J<|aQ (ih Z O z _ (Md.trans aY V).drew (dS.drew bz) U U U) J ?_;rintro cg aq ⟨rfl,ab,bn⟩;have am:Md (fun q=>q=I∨q=ms) w aq:=Md.trans a9<|Md.eT ab;have aD:Wk w0 aq:=Md.trans' a3 am a5;have aM:(fun w'=>Wk w0 w'∧ax w'.heap ae [bl (av a nx).1,.slice ag (av a nx).2.length al]∧ax w'.heap aC [aT .u8 c.toNat,.int .i64 z]) aq:=⟨aD,ab.B (V.B ar) (fun e=>by omega),ab.B a2 fun e=>by omega⟩
   refine ⟨aM,?_⟩;refine aJ [19,20] J aM<|hn aj<|c9 1 J<|cb J (fun ao=> ?_) fun ao=> ?_;have bi:vs a f (Z,O) z=none:=by simpa using ao
   refine aG 8 J<|tr<|bf 2 J<|aO J ?_;rw [sp (k:=k+1) U (by rw [lb ad hek]; exact bi)];exact ⟨J,am,fun s C=>by cases C⟩;obtain ⟨aP,aN⟩:∃ s,vs a f (Z,O) z=some s:=lB.1<|by simpa using ao
   exact aG 7 J<|tn<|⟨_,U,k+1,aP.1,aP.2,U,(by rw [lb ad hek]; exact aN),(rO a1 hek fun q h0 bm=>by omega),aD,am,(bn _ aN),(ab.B (V.B ar) fun e=>by omega),J,J⟩
   refine aG 2 J<|b9<|c9 3 J ?_;obtain ⟨cj,bZ⟩:=aL.fJ;rw [show k=(av a nx).2.length by omega,qt] at ad a1;have bd:=sr ad U;simp only [fy] at bd;have bo:=B5 U a1 ad;refine aE 4 J<|p (ay J<|aL.an.au 2)<|ai 1 J<|p (ia o5 J J U)<|e<|dq yB J J J bZ (by simp; omega) fun bp a7 bJ=> ?_;have ca:ax bp.heap ms ((O.set nx 2).map iM):=by rw [← uY]; exact ⟨_,bJ⟩
   have aZ:dS iM bp I ms aa a.length cA Z (O.set nx 2):=⟨a7.B aL.an ap,ca,ap⟩
   have a0:Md (fun q=>q=I∨q=ms) w bp:=Md.trans a8<|a7.mono fun k _ h=> .inr h;have bu:=a7.B ar fun e=>by omega
   refine ai 5 J<|p (ay J<|bu.au 1)<|ai 3 J<|gs (t:=101) J (fun b4=> ?_) fun b4=> ?_;refine ai 3 J<|p mv<|ai 7 J<|p aR<|aA 3 J<|aO J ?_;rw [bo,if_pos (Ac U)];exact ⟨J,a0,fun s C=>by cases C; exact aZ⟩;refine ai 1 J<|bw J (ay J<|bu.au 0)<|ai 2 J<|gb (t:=105) J (fun bb=> ?_) fun bb=> ?_;refine ai 7 J<|p aR<|aA 3 J<|aO J ?_;rw [bo,if_pos (Ab bb)];exact ⟨J,a0,fun s C=>by cases C; exact aZ⟩;refine ai 3 J<|bw J (ay J<|aZ.an.au 0)<|aA 7 J<|aO J ?_;rw [bo,uP U bb];by_cases h1:a.length=1;rw [if_pos (decide_eq_true h1)];exact ⟨congrArg bl (decide_eq_true U),a0,fun s C=>by cases C; exact aZ⟩;rw [if_neg (by simpa using h1)];exact ⟨congrArg bl (decide_eq_false U),a0,fun s C=>by cases C⟩
def nV (a:List aF):Int:=if shaped a=true then 0 else 190
theorem gX {a:List aF} (h:shaped a=false):nV a=190:=if_neg<|by rw [h]; exact cB
theorem nW {a:List aF} (h:shaped a=true):nV a=0:=if_pos h
def iN (x:Nat):ag:= .bool<|decide (x=2)
theorem GX {mk:List Nat} {i:Nat} (h:mk.getD i 0=0):(mk.set i 1).map iN=mk.map iN:=by
 refine List.ext_getElem? fun j=> ?_;rw [ks,ks,List.getElem?_set];by_cases e:i=j
 · subst e;rw [if_pos rfl];by_cases C:i < mk.length
   · rw [if_pos C,bG C];rw [cr,bG C] at h;have h0:mk[i]=0:=h;rw [h0]; rfl
   · rw [if_neg C,List.getElem?_eq_none U]
 · rw [if_neg e]
theorem Ch (n:Nat):∀ i,0≤i→(cZ n 0).getD i 0=0:=fun i _=>by
 rw [cr,List.getElem?_replicate]; split <;> rfl
set_option maxHeartbeats 1000000 in
theorem vM (a:List aF) (aa:Option bh) (cA:Nat) (w:ah) (ae:cD w.heap aa a) (aI:a.length≤140737488355328) (ar:∀ i,i < a.length→(av a i).2.length≤1073741824):
 bc ak 62 (bj [.slice aa a.length cA]) w (fun v w'=>v= .int .i64 (nV a)∧Wk w w'):=by
 refine enter func62 J ntmps62 J<|aV 12 J<|gs (t:=7) J (fun aw=> ?_) fun aw=> ?_;exact aA 14 J<|aO J<|⟨iv (gX<|rX U).symm,Md.refl _ _⟩
 refine aH 6 J<|cd J (fun ap=> ?_) fun ap=> ?_;exact aG 7 J<|aO J<|⟨iv (gX<|rX U).symm,Md.refl _ _⟩
 refine aE 7 J<|e<|fJ (zv:= .int .u8 0) jC J J J J U (by unfold maxLen; omega) fun C aD aK I aB=> ?_;have aj:ax aD.heap C ((cZ a.length 0).map iM):=by rw [Di]; exact vk<|aB _<|aZ _
 refine p (dt (ps:= [(0,.slice aa a.length cA),(2,.slice (some ⟨C,0,none⟩) a.length a.length)]) (L:= [.slice aa a.length cA,.int .i64 0,.slice (some ⟨C,0,none⟩) a.length a.length]) IH J<|J)<|e<|m6 J fun Z ad aJ ac ag=> ?_;have am:dS iM ad Z C aa a.length cA 0 (cZ a.length 0):=⟨ag,ac.md.B aj,by have :=I.size; omega⟩
 have ab:Wk w ad:=Md.trans I.md ac.md;have aM:=I.md.size;refine ai 7 J<|e<|aQ (Jt (a.length+1) a aa cA Z C w 0 (cZ a.length 0) 0 _ ae U U ab am (by simp) U U U ar) J ?_;rintro aP aC ⟨rfl,ao,bg⟩;have E:Wk w aC:=Md.trans' ab ao fun k aL h=>by omega
 refine ai 2 J<|gb (t:=21) J (fun O=> ?_) fun O=> ?_;have hn:vs a (a.length+1) (0,cZ a.length 0) 0=none:=by simpa using O
 exact aA 18 J<|aO J<|⟨iv (gX<|Br hn).symm,E⟩
 obtain ⟨aN,V⟩:∃ s,vs a (a.length+1) (0,cZ a.length 0) 0=some s:=lB.1<|by simpa using O
 have al:=bg _ V;refine ai 3 J<|bw J (ay J<|al.an.au 1)<|aH 6 J<|cd J (fun aq=> ?_) fun aq=> ?_;exact aG 7 J<|aO J<|⟨iv (gX<|by rw [rY U U V]; exact decide_eq_false U).symm,E⟩
 exact aG 8 J<|aO J<|⟨iv (nW<|by rw [rY U U V]; exact decide_eq_true U).symm,E⟩
set_option maxHeartbeats 1000000 in
theorem Ju (f:Nat) (a:List aF) (aa:Option bh) (cA C ms:Nat) (w0:ah) (nx:Nat) (mk:List Nat) (n:Int) (w:ah) (a9:cD w0.heap aa a) (cj:w0.heap.size≤C) (hm:w0.heap.size≤ms) (aX:Wk w0 w) (L:dS iN w C ms aa a.length cA nx mk) (cg:mk.length=a.length) (ci:nx≤a.length) (cf:a.length < f+nx) (hb:a.length≤1048576) (bQ:∀ i,i < a.length→(av a i).2.length≤1073741824) (bn:∀ i,nx≤i→mk.getD i 0=0):
 bc ak 70 (bj [aK C,.int .i64 n]) w (fun v w'=>v= .bool (vs a f (nx,mk) n).isSome∧Md (fun q=>q=C∨q=ms) w w'∧∀ s,vs a f (nx,mk) n=some s→dS iN w' C ms aa a.length cA s.1 s.2):=by
 induction f generalizing nx mk n w with
 | zero=>omega
 | succ f ih=>
   have a0:∀ k,k < w0.heap.size→(k=C∨k=ms)→False:=fun k h1 b8=>U;have ck:=L.an.lt;have ch:=L.fJ.lt;have ar:=L.ne;obtain ⟨b7,bH⟩:=L.an;refine enter func70 J ntmps70 J<|aV 11 J<|gs (t:=10) J (fun bR=> ?_) fun bR=> ?_;refine ai 8 J<|p mv<|aA 17 J<|aO J ?_;rw [pV U U];exact ⟨J,Md.refl _ _,fun s I=>by cases I⟩;refine ai 4 J<|bw J (ay J<|L.an.au 0)<|ai 4 J<|gs (t:=19) J (fun bS=> ?_) fun bS=> ?_;refine aA 17 J<|aO J ?_;have b1:vs a (f+1) (nx,mk) n=none:=by
    by_cases h:n=nx;exact B8 h U;exact pV h U
   rw [b1];exact ⟨J,Md.refl _ _,fun s I=>by cases I⟩;refine ai 4 J<|bw J (ay J<|L.an.au 1)<|aH 4 J<|cd J (fun bI=> ?_) fun bI=> ?_;refine aG 7 J<|aO J ?_;rw [pV U U];exact ⟨J,Md.refl _ _,fun s I=>by cases I⟩;refine aE 9 J<|p (ay J<|L.an.au 1)<|aH 3 J<|cd J (fun bJ=> ?_) fun bJ=> ?_;exact aE 5 J<|p (ay J<|L.an.au 2)<|ai 1 J<|p (ia zm J J U)<|p (ay J (show _=some (bl<|decide (mk.getD n.toNat 0=2)) from m5 L.fJ (i:=n.toNat) U))<|aA 5 J<|aO J<|⟨congrArg bl ((B3 U U U).trans<|by rw [decide_eq_decide]; omega).symm,Md.refl _ _,fun s I=>by rw [B4 U I]; exact L⟩
   obtain rfl :n=(nx:Int):=U;refine aE 8 J<|p (ay J<|L.an.au 1)<|p (cm<|nx+1)<|ai 2 J<|e<|dq dK J J J bH (by simp) fun aU bi bv=> ?_;have a1:dS iN aU C ms aa a.length cA (nx+1) (mk.set nx 1):=⟨⟨_,bv⟩,by rw [GX (bn nx<|aZ _)]; exact bi.B L.fJ (fun e=>ar e.symm),ar⟩
   have a2:Md (fun q=>q=C∨q=ms) w aU:=bi.mono fun k _ h=> .inl h;have ba:Wk w0 aU:=Md.trans' aX a2 a0;obtain ⟨aL,aM,bt,ab⟩:=a9.two (i:=nx) U;refine ai 7 J<|p (ay J<|a1.an.au 0)<|ai 1 J<|p (bK im J J U<|a9.ok U)<|p (dn tz J (J)<|eO ba bt)<|e<|c7 xc fun ag cn cc bE bx=>e<|da tW J J J J bx (by simp) fun aD bB bz=> ?_;have aW:ax aD.heap ag [bl (av a nx).1,.slice aL (av a nx).2.length aM]:=⟨_,bz⟩
   have aN:Wk aU aD:=Md.trans' bE.md bB fun k bV h=>by omega
   have bb:dS iN aD C ms aa a.length cA (nx+1) (mk.set nx 1):=⟨aN.B a1.an,aN.B a1.fJ,ar⟩
   have ca:=a2.size;have bm:Md (fun q=>q=C∨q=ms) w aD:=Md.trans' a2 aN fun k _ h=>h.elim;refine aH 2 J ?_;refine ej (fun bq bp=>(fI a (av a nx)=true)∧(bp=aD)∧(Sl bq [(0,aK C),(1,.int .i64 (nx:Int)),(5,aK ag)])) ?_ ?_;refine aV 3 J<|p (ay J<|aW.au 1)<|ai 3 J<|gs (t:=59) J (fun bT=> ?_) fun bT=> ?_;refine ai 1 J<|bw J (ay J<|aW.au 0)<|ai 3 J<|gb (t:=64) J (fun aR=> ?_) fun aR=> ?_;refine ai 3 J<|bw J (ay J<|bb.an.au 0)<|aH 5 J<|cd J (fun bL=> ?_) fun bL=> ?_;refine aG 6 J<|tr<|aO J ?_;rw [Jw U (by rw [uP U (by simpa using aR)]; exact decide_eq_false U)];exact ⟨J,bm,fun s I=>by cases I⟩;exact aG 1 J<|tn<|⟨(by rw [uP U (by simpa using aR)]; exact decide_eq_true U),J,J⟩
   exact aA 11 J<|tn<|⟨(Ab<|by simpa using aR),J,J⟩
   exact ai 4 J<|p mv<|aA 11 J<|tn<|⟨(Ac U),J,J⟩
   rintro bq bp ⟨bW,b3,bZ⟩;refine bC bZ ?_;subst b3;refine bO 7 J<|lp (fun a8 br am=> ∃ (k V:Nat) (O:List Nat),(k≤(av a nx).2.length)∧(eZ a f (nx+1) (mk.set nx 1) ((av a nx).2.take k)=some (V,O))∧(eG<|(av a nx).2.take k)∧(Wk w0 am)∧(Md (fun q=>q=C∨q=ms) w am)∧(dS iN am C ms aa a.length cA V O)∧(ax (am).heap ag [bl (av a nx).1,.slice aL (av a nx).2.length aM])∧(Sl br [(0,aK C),(1,.int .i64 (nx:Int)),(5,aK ag),(6,.int .i64 k)])∧((av a nx).2.length - k=a8)) _ ⟨0,nx+1,mk.set nx 1,U,J,List.Pairwise.nil,(Md.trans ba aN),bm,bb,aW,J,J⟩ ?_;rintro a8 br am ⟨k,V,O,bV,Z,aS,ao,aP,ap,al,b0,rfl⟩;refine bC b0<|aV 5 J<|p (ay J<|al.au 1)<|aH 4 J<|cd J (fun bM=> ?_) fun bM=> ?_;refine bO 6 J ?_;have ce:=bQ nx U;obtain ⟨⟨c,z⟩,hek⟩:∃ e,(av a nx).2[k]? =some e:=⟨_,bG U⟩
   obtain ⟨⟨aI,b5⟩,hep⟩:∃ e,(av a nx).2[k - 1]? =some e:=⟨_,bG U⟩
   have a3:=sr Z U;simp only [fy] at a3;have bo:=JC Z fun i hi=>by rw [getD_set_ne _ _ U]; exact bn i U
   have E:(fun w'=>Wk w0 w'∧ax w'.heap ag [bl (av a nx).1,.slice aL (av a nx).2.length aM]) am.drew:=⟨ao.drew,al⟩
   refine bg (fun w'=>Wk w0 w'∧ax w'.heap ag [bl (av a nx).1,.slice aL (av a nx).2.length aM]) J wide E<|aJ [0,1,2] J E<|kO (t:=81) J (fun bU=> ?_) fun bU=> ?_;refine aJ [3] J E<|cV 4 J (fun w' ad=>ay J<|ad.2.au 1) E<|aJ [5] J E<|cV 6 J (fun _ _=>bK kL J J U<|ab.ok U) E<|aJ [7] J E<|cV 8 J (fun w' ad=>ay J (show _=some (aT .u8 (c.toNat:Int)) from (ab.wk ad.1).b k (c,z) hek)) E<|aJ [9] J E<|cV 10 J (fun w' ad=>ay J<|ad.2.au 1) E<|aJ [11] J E<|cV 12 J (fun _ _=>pL<|k - 1) E<|cV 13 J (fun _ _=>bK kL J J U<|ab.ok U) E<|aJ [14] J E<|cV 15 J (fun w' ad=>ay J (show _=some (aT .u8 (aI.toNat:Int)) from (ab.wk ad.1).b (k - 1) (aI,b5) hep)) E<|aJ [16,17] J E<|hn aj<|c9 1 J<|cd J (fun bN=> ?_) fun bN=> ?_;refine aG 9 J<|tr<|bf 2 J<|aO J ?_;rw [B7 U (Av U hek hep<|by show c.toNat≤aI.toNat; omega)];exact ⟨J,aP.drew,fun s I=>by cases I⟩;refine aE 6 J<|p (ay J<|al.au 1)<|ai 1 J<|p (bK kL J J U<|ab.ok U)<|ai 1 J<|p (ay J (show _=some (aT .i64 z) from (ab.wk ao).to k (c,z) hek))<|e<|aQ (ih V O z _ (Md.drew ao) (dS.drew ap) U U U bo) J ?_;rintro b4 aC ⟨rfl,aq,a6⟩;have ac:Md (fun q=>q=C∨q=ms) w aC:=Md.trans aP<|Md.eT aq;have aY:Wk w0 aC:=Md.trans' aX ac a0;refine aH 9 J<|cb J (fun ae=> ?_) fun ae=> ?_;have a4:vs a f (V,O) z=none:=by simpa using ae
   refine aG 8 J<|tr<|bf 2 J<|aO J ?_;rw [sp (k:=k+1) U (by rw [lb Z hek]; exact a4)];exact ⟨J,ac,fun s I=>by cases I⟩;obtain ⟨aB,aw⟩:∃ s,vs a f (V,O) z=some s:=lB.1<|by simpa using ae
   exact aG 8 J<|tn<|⟨_,U,k+1,aB.1,aB.2,U,(by rw [lb Z hek]; exact aw),(rO aS hek fun q h0 a5=>by rw [hep] at a5; cases a5; show aI.toNat < c.toNat; omega),aY,ac,(a6 _ aw),(aq.B al fun e=>by omega),J,J⟩
   refine aJ [3,4,5,6,7,8,9,10,11,12,13,14,15,16,17] J E<|hn aj<|gN 8 J<|p (ay J<|al.au 1)<|ai 1 J<|p (bK kL J J U<|ab.ok U)<|ai 1 J<|p (ay J (show _=some (aT .i64 z) from (ab.wk ao).to k (c,z) hek))<|e<|aQ (ih V O z _ (Md.drew ao) (dS.drew ap) U U U bo) J ?_;rintro b4 aC ⟨rfl,aq,a6⟩;have ac:Md (fun q=>q=C∨q=ms) w aC:=Md.trans aP<|Md.eT aq;have aY:Wk w0 aC:=Md.trans' aX ac a0;refine aH 9 J<|cb J (fun ae=> ?_) fun ae=> ?_;have a4:vs a f (V,O) z=none:=by simpa using ae
   refine aG 8 J<|tr<|bf 2 J<|aO J ?_;rw [sp (k:=k+1) U (by rw [lb Z hek]; exact a4)];exact ⟨J,ac,fun s I=>by cases I⟩;obtain ⟨aB,aw⟩:∃ s,vs a f (V,O) z=some s:=lB.1<|by simpa using ae
   exact aG 8 J<|tn<|⟨_,U,k+1,aB.1,aB.2,U,(by rw [lb Z hek]; exact aw),(rO aS hek fun q h0 a5=>by omega),aY,ac,(a6 _ aw),(aq.B al fun e=>by omega),J,J⟩
   refine aG 2 J<|b9<|c9 3 J ?_;obtain ⟨b6,bF⟩:=ap.fJ;rw [show k=(av a nx).2.length by omega,qt] at Z aS;have a3:=sr Z U;simp only [fy] at a3;have b2:=B5 U aS Z;refine aE 4 J<|p (ay J<|ap.an.au 2)<|ai 1 J<|p (ia zm J J U)<|e<|dq tT J J J bF (by simp; omega) fun a7 bd bu=> ?_;have bY:ax a7.heap ms ((O.set nx 2).map iN):=by rw [← uY]; exact ⟨_,bu⟩
   have bA:dS iN a7 C ms aa a.length cA V (O.set nx 2):=⟨bd.B ap.an ar,bY,ar⟩
   have bD:Md (fun q=>q=C∨q=ms) w a7:=Md.trans aP<|bd.mono fun k _ h=> .inr h;refine aA 8 J<|aO J ?_;rw [b2,if_pos bW];exact ⟨J,bD,fun s I=>by cases I; exact bA⟩
set_option maxHeartbeats 1000000 in
theorem It (a:List aF) (aa:Option bh) (cA:Nat) (w:ah) (ae:cD w.heap aa a) (aI:a.length≤140737488355328) (ar:∀ i,i < a.length→(av a i).2.length≤1073741824):
 bc ak 50 (bj [.slice aa a.length cA]) w (fun v w'=>v= .int .i64 (nV a)∧Wk w w'):=by
 refine enter func50 J ntmps50 J<|aV 12 J<|gs (t:=8) J (fun aw=> ?_) fun aw=> ?_;exact aA 14 J<|aO J<|⟨iv (gX<|rX U).symm,Md.refl _ _⟩
 refine aH 6 J<|cd J (fun ap=> ?_) fun ap=> ?_;exact aG 7 J<|aO J<|⟨iv (gX<|rX U).symm,Md.refl _ _⟩
 refine aE 7 J<|e<|fJ (zv:= .bool false) IA J J J J U (by unfold maxLen; omega) fun C aD aK I aB=> ?_;have aj:ax aD.heap C ((cZ a.length 0).map iN):=by rw [Di]; exact vk<|aB _<|aZ _
 refine p (dt (ps:= [(0,.slice aa a.length cA),(2,.slice (some ⟨C,0,none⟩) a.length a.length)]) (L:= [.slice aa a.length cA,.int .i64 0,.slice (some ⟨C,0,none⟩) a.length a.length]) IG J<|J)<|e<|m6 J fun Z ad aJ ac ag=> ?_;have am:dS iN ad Z C aa a.length cA 0 (cZ a.length 0):=⟨ag,ac.md.B aj,by have :=I.size; omega⟩
 have ab:Wk w ad:=Md.trans I.md ac.md;have aM:=I.md.size;refine ai 6 J<|e<|aQ (Ju (a.length+1) a aa cA Z C w 0 (cZ a.length 0) 0 _ ae U U ab am (by simp) U U U ar<|Ch _) J ?_;rintro v20 aC ⟨rfl,ao,bg⟩;have E:Wk w aC:=Md.trans' ab ao fun k aL h=>by omega
 refine ai 9 J<|gb (t:=23) J (fun O=> ?_) fun O=> ?_;have hn:vs a (a.length+1) (0,cZ a.length 0) 0=none:=by simpa using O
 exact aA 18 J<|aO J<|⟨iv (gX<|Br hn).symm,E⟩
 obtain ⟨aN,V⟩:∃ s,vs a (a.length+1) (0,cZ a.length 0) 0=some s:=lB.1<|by simpa using O
 have al:=bg _ V;refine ai 3 J<|bw J (ay J<|al.an.au 1)<|aH 6 J<|cd J (fun aq=> ?_) fun aq=> ?_;exact aG 7 J<|aO J<|⟨iv (gX<|by rw [rY U U V]; exact decide_eq_false U).symm,E⟩
 exact aG 8 J<|aO J<|⟨iv (nW<|by rw [rY U U V]; exact decide_eq_true U).symm,E⟩
end Go.Hb
end
section
namespace Go.Hb.gl
open Go.Hb.dR
theorem Je {s:List UInt8} {i:Nat} (h:i < s.length):(s.drop i).take 1= [s.getD i 0]:=by
 rw [drop_cons 0 h]; rfl
def dw (l:List (Bool×ag)):List ag:=l.flatMap fun q=> [.bool q.1,q.2]
def dT (l:List (UInt8×Int)):List ag:=l.flatMap fun e=> [.int .u8 e.1.toNat,.int .i64 e.2]
theorem Tg.l5 {F:Nat→Prop} {w w':ah} {B e n:Nat} {v:ag} {xs:List ag} (h:Tg w B e n v xs) (hm:Md F w w') (I:∀ k,F k→B≤k→∀ cur z,w.heap[k]?≠some (.cells cur e z)):Tg w' B e n v xs:=by
 obtain ⟨a,C,rfl,E,h | ⟨b,cur,z,rfl,hb,hg,O⟩⟩:=h
 · exact ⟨a,C,J,E,.inl h⟩
 · exact ⟨_,C,J,E,.inr ⟨b,cur,z,J,hb,by rw [hm.eW b (eC.1 hg).1 (fun L=>I b L hb cur z hg)]; exact hg,O⟩⟩
theorem Au {w:ah} {k:Nat} (h:w.heap.size≤k) (cur:Array ag) (e:Nat) (z:Nat×Nat):w.heap[k]?≠some (.cells cur e z):=by
 rw [Array.getElem?_eq_none h]; intro h; cases h
def et (w:ah) (B:Nat) (svs:List (Bool×ag)) (l:List aF):Prop :=svs.length=l.length∧∀ (i:Nat) q e,svs[i]? =some q→l[i]? =some e→q.1=e.1∧Tg w B 65 e.2.length q.2 (dT e.2)
theorem et.nil (w:ah) (B:Nat):et w B [] []:=⟨rfl,fun i q r C=>by simp at C⟩
theorem et.md {F:Nat→Prop} {w w':ah} {B:Nat} {svs:List (Bool×ag)} {l:List aF} (h:et w B svs l) (hm:Md F w w') (E:∀ k,F k→B≤k→∀ cur z,w.heap[k]?≠some (.cells cur 65 z)):et w' B svs l:=
 ⟨h.1,fun i q r h1 C=>⟨(h.2 i q r h1 C).1,Tg.l5 (h.2 i q r h1 C).2 hm E⟩⟩
theorem et.wk {w w':ah} {B:Nat} {svs:List (Bool×ag)} {l:List aF} (h:et w B svs l) (hm:Wk w w'):et w' B svs l:=h.md hm fun _ C=>C.elim
theorem et.snoc {w:ah} {B:Nat} {svs:List (Bool×ag)} {l:List aF} {v:ag} {e:aF} (ha:et w B svs l) (I:Tg w B 65 e.2.length v (dT e.2)):et w B (svs++ [(e.1,v)]) (l++ [e]):=by
 refine ⟨by rw [bQ,bQ,ha.1]; rfl,fun i q' r' h1 C=> ?_⟩;have E:=ha.1;by_cases hi:i < svs.length
 · rw [eF hi] at h1;rw [eF U] at C;exact ha.2 i q' r' h1 C
 · rw [eQ U] at h1;rw [eQ U,← E] at C;cases hj:i - svs.length with
   | zero=>rw [hj] at h1 C; cases h1; cases C; exact ⟨rfl,I⟩
   | succ j=>rw [hj] at h1; simp at h1
def fc (w:ah) (B:Nat) (v:ag) (l:List aF):Prop := ∃ svs,Tg w B 63 l.length v (dw svs)∧et w B svs l
theorem fc.md {F:Nat→Prop} {w w':ah} {B:Nat} {v:ag} {l:List aF} (h:fc w B v l) (hm:Md F w w') (E:∀ k,F k→B≤k→∀ cur z,w.heap[k]?≠some (.cells cur 63 z)∧w.heap[k]?≠some (.cells cur 65 z)):fc w' B v l:=by
 obtain ⟨svs,h1,I⟩:=h;exact ⟨svs,Tg.l5 h1 hm fun k C hb cur z=>(E k C hb cur z).1,I.md hm fun k C hb cur z=>(E k C hb cur z).2⟩
theorem fc.wk {w w':ah} {B:Nat} {v:ag} {l:List aF} (h:fc w B v l) (hm:Wk w w'):fc w' B v l:=h.md hm fun _ C=>C.elim
theorem fc.mono {w:ah} {B B':Nat} {v:ag} {l:List aF} (h:fc w B v l) (E:B'≤B):fc w B' v l:=by
 obtain ⟨svs,h1,J,C⟩:=h;exact ⟨svs,h1.mono E,J,fun i q e I he=>⟨(C i q e I he).1,(C i q e I he).2.mono E⟩⟩
theorem fc.dW {w:ah} {B:Nat} {v:ag} {l:List aF} (h:fc w B v l):∃ aa cc,v= .slice aa l.length cc∧l.length≤cc∧cD w.heap aa l:=by
 obtain ⟨svs,h1,ak,ae⟩:=h;obtain ⟨aa,cc,rfl⟩:=h1.slice;obtain ⟨ai,L⟩:=h1.oU;refine ⟨aa,cc,J,ai,fun h0=>bt.ok L (gK (f:=fun q:Bool×ag=> [bl q.1,q.2]) (m:=2) (fun _=>rfl) aM U),fun i hi=> ?_⟩;have V:svs[i]? =some (svs[i]'U):=bG U;have aj:l[i]? =some (av l i):=by
  unfold av;rw [cr,bG hi]; rfl
 obtain ⟨ad,E⟩:=ae i _ _ V aj;obtain ⟨ab,ac,Z⟩:=E.slice;have I:=E;rw [Z] at I;obtain ⟨_,C⟩:=I.oU;have O:=eU (f:=fun q:Bool×ag=> [bl q.1,q.2]) (m:=2) (fun _=>rfl) L V;refine ⟨ab,ac,by rw [O 0 U,ad]; rfl,by rw [O 1 U,Z]; rfl,fun h0=>bt.ok C (gK (f:=fun e:UInt8×Int=> [aT .u8 e.1.toNat,.int .i64 e.2]) (m:=2) (fun _=>rfl) aM h0),fun k e he=> ?_,fun k e he=> ?_⟩
 · exact eU (f:=fun e:UInt8×Int=> [aT .u8 e.1.toNat,.int .i64 e.2]) (m:=2) (fun _=>rfl) C he 0 U
 · exact eU (f:=fun e:UInt8×Int=> [aT .u8 e.1.toNat,.int .i64 e.2]) (m:=2) (fun _=>rfl) C he 1 U
theorem Bq (svs:List (Bool×ag)) (q:Bool×ag):dw (svs++ [q])=dw svs++ [.bool q.1,q.2]:=by simp [dw]
theorem yY (es:List (UInt8×Int)) (e:UInt8×Int):dT (es++ [e])=dT es++ [.int .u8 e.1.toNat,.int .i64 e.2]:=by simp [dT]
theorem vK (l:List (Bool×ag)):(dw l).length=l.length*2:=qZ (f:=fun q:Bool×ag=> [bl q.1,q.2]) (m:=2) (fun _=>rfl) l
theorem yX (l:List (UInt8×Int)):(dT l).length=l.length*2:=qZ (f:=fun e:UInt8×Int=> [aT .u8 e.1.toNat,.int .i64 e.2]) (m:=2) (fun _=>rfl) l
section
variable {s:List UInt8} {n a e t p v k:Nat} {es:List (UInt8×Int)} {l:List aF}
theorem yZ (h:s.length≤a):dL s n a= .error 60:=by unfold dL; rw [if_pos h]
theorem y7 (h:¬s.length≤a) (h1:a0 s (a+1)= .error e):dL s n a= .error e:=by unfold dL; rw [if_neg h,h1]
theorem y8 (h:¬s.length≤a) (h1:a0 s (a+1)= .ok (t,p)) (C:n≤t):dL s n a= .error 190:=by unfold dL; rw [if_neg h,h1]; exact if_pos C
theorem y9 (h:¬s.length≤a) (h1:a0 s (a+1)= .ok (t,p)) (C:¬n≤t):dL s n a= .ok ((s.getD a 0,(t:Int)),p):=by unfold dL; rw [if_neg h,h1]; exact if_neg C
theorem BD (h:a0 s a= .error e):eN s n a= .error e:=by unfold eN; rw [h]
theorem BE (h:a0 s a= .ok (v,p)) (C:256 < v / 2):eN s n a= .error 190:=by unfold eN; rw [h]; exact if_pos C
theorem BG (h:a0 s a= .ok (v,p)) (C:¬256 < v / 2) (E:bW (dL s n) (v / 2) p= .error e):eN s n a= .error e:=by unfold eN; rw [h]; simp only; rw [if_neg C,E]
theorem BH (h:a0 s a= .ok (v,p)) (C:¬256 < v / 2) (E:bW (dL s n) (v / 2) p= .ok (es,t)):eN s n a= .ok ((decide (v % 2=1),es),t):=by unfold eN; rw [h]; simp only; rw [if_neg C,E]
theorem Bb (h:a0 s a= .error e):cx s a= .error e:=by unfold cx; rw [h]
theorem rU (h:a0 s a= .ok (n,p)) (C:n=0∨1048576 < n):cx s a= .error 190:=by unfold cx; rw [h]; exact if_pos C
theorem nR (h:a0 s a= .ok (n,p)) (C:¬(n=0∨1048576 < n)) (E:bW (eN s n) n p= .error e):cx s a= .error e:=by unfold cx; rw [h]; simp only; rw [if_neg C,E]
theorem Bc (h:a0 s a= .ok (n,p)) (C:¬(n=0∨1048576 < n)) (E:bW (eN s n) n p= .ok (l,t)) (I:shaped l=false):cx s a= .error 190:=by unfold cx; rw [h]; simp only; rw [if_neg C,E]; simp only; rw [I]; rfl
theorem Be (h:a0 s a= .ok (n,p)) (C:¬(n=0∨1048576 < n)) (E:bW (eN s n) n p= .ok (l,t)) (I:shaped l=true):cx s a= .ok (l,t):=by unfold cx; rw [h]; simp only; rw [if_neg C,E]; simp only; rw [I]; rfl
end
theorem If (rb:Nat) (s:List UInt8) (a:Nat) (w:ah) (a9:ax w.heap rb [str s,.int .i64 (a:Nat)]) (aS:s.length≤1048576) (ha:a≤s.length):
 lH ak 45 (bj [.pointer (some ⟨rb,0,none⟩)]) w (fun v w'=> ∃ l p,cx s a= .ok (l,p)∧fc w' w.heap.size v l∧ax w'.heap rb [str s,.int .i64 (p:Nat)]∧Md (fun k=>k=rb) w w') (fun c w'=> ∃ e,cx s a= .error e∧c=jX e∧Md (fun k=>k=rb) w w'):=by
 have dl:=a9.lt;refine o4 func45 J ntmps45 J<|aV 7 J<|p mv<|eP J (dO m7 (nz rb s (a) w a9 aS<|ha) J fun v10 bw b4=> ?_) fun c w' C σ' Z=>by obtain ⟨e,he,av,aq⟩:=C; exact ⟨e,Bb he,av,aq⟩
 obtain ⟨n,a5,ac,rfl,bE,aY⟩:=b4;obtain ⟨c2,c6,dc⟩:=iy ac;refine aH 3 J ?_;refine ej (fun bx a6=> ∃ (cF:Unit),(¬(n=0∨1048576 < n))∧(ax a6.heap rb [str s,.int .i64 (a5:Nat)])∧(Md (fun k=>k=rb) w a6)∧(Sl bx [(0,.pointer (some ⟨rb,0,none⟩)),(3,.int .u64 (n:Nat))])) ?_ ?_;refine aV 1 J<|p mv<|ai 3 J<|gs (t:=14) J (fun cj=> ?_) fun cj=> ?_;refine ai 3 J<|eP J (dO iO (jd _ _ _ bw) J fun cH cJ a1=> ?_) fun c w' C σ' Z=>⟨190,rU ac (by have :=of_decide_eq_false C.2.1; omega),C.1,by rw [C.2.2]; exact aY⟩
 obtain ⟨rfl,br,rfl⟩:=a1;have br:=of_decide_eq_true br;exact aA 1 J<|tn<|⟨(),U,bE,aY,J⟩
 refine ai 3 J<|eP J (dO iO (jd _ _ _ bw) J fun cH cJ a1=> ?_) fun c w' C σ' Z=>⟨190,rU ac U,C.1,by rw [C.2.2]; exact aY⟩
 exact absurd a1.2.1 aM;rintro bx a6 ⟨cF,aw,bV,b3,cp⟩;refine bC cp<|bO 13 J<|lp (fun an bz V=> ∃ (k:Nat) (l:List aF) (svs:List (Bool×ag)) (ae:ag) (q:Nat),(k≤n)∧(bW (eN s n) k a5= .ok (l,q))∧(q≤s.length)∧(bu V w.heap.size 63 2 ae svs.length<|dw svs)∧(et V w.heap.size svs l)∧(ax V.heap rb [str s,.int .i64 (q:Nat)])∧(Md (fun k=>k=rb) w V)∧(Sl bz [(0,.pointer (some ⟨rb,0,none⟩)),(3,.int .u64 (n:Nat)),(4,ae),(19,.int .u64 (n:Nat)),(20,.int .u64 (k:Nat))])∧(n - k=an)) _ ⟨0,[],[],.slice none 0 0,a5,U,J,U,(e7 _ _ _ _),(et.nil _ _),bV,b3,J,J⟩ ?_;rintro an bz V ⟨k,l,svs,ae,q,E,O,dj,aP,bg,ba,al,cq,rfl⟩;refine bC cq<|bN 6 J<|cd J (fun cg=> ?_) fun cg=> ?_;refine aE 7 J<|eP J (dO m7 (nz rb s (q) V ba aS U) J fun dA cL b5=> ?_) fun c w' C σ' Z=>by obtain ⟨e,he,av,aq⟩:=C; exact ⟨e,nR ac aw (gx O (BD he) U),av,al.trans aq⟩
 obtain ⟨v0,p1,aN,rfl,bG,aJ⟩:=b5;obtain ⟨c3,c8,dd⟩:=iy aN;refine ai 7 J<|p (qu J J U<|gh U)<|ai 1 J<|eP J (dO iO (jd _ _ _ cL) J fun dB cM b6=> ?_) fun c w' C σ' Z=>⟨190,nR ac aw (gx O (BE aN<|by have :=of_decide_eq_false C.2.1; omega) U),C.1,by rw [C.2.2]; exact al.trans aJ⟩
 obtain ⟨rfl,cy,rfl⟩:=b6;have bo:¬256 < v0 / 2:=by have :=of_decide_eq_true cy; omega
 have b2:=al.trans aJ;refine ai 5 J<|p (rm J J U)<|ai 1 J<|p (dt (ps:= [(0,.bool (decide ((v0:Int) % 2=1)))]) (L:= [.bool (decide ((v0:Int) % 2=1)),.slice none 0 0]) IJ J<|J)<|e<|c7 xa fun aj dP cX bm bM=> ?_;have dv:=bm.size;refine e<|da tU J J J J bM (by simp) fun am bl bS=> ?_;have bT:ax am.heap aj [.bool (decide ((v0:Int) % 2=1)),.slice none 0 0]:=⟨_,bS⟩
 have aD:Wk cM am:=bm.md.trans' bl fun k E h=>by omega
 have bU:=Wk.B aD bG;have dz:=al.size;have dq:=aJ.size;have dx:=aD.size;have dy:=bl.size;have b1:Md (fun k=>k=rb) w am:=b2.trans<|aD.mono fun _ _ h=>h.elim;refine ai 6 J<|p (qu J J U<|gh U)<|aH 4 J<|lp (fun an bA ad=> ∃ (j:Nat) (es:List (UInt8×Int)) (aX:ag) (I:Nat),(j≤v0 / 2)∧(bW (dL s n) j p1= .ok (es,I))∧(I≤s.length)∧(bu ad am.heap.size 65 2 aX es.length<|dT es)∧(ax ad.heap rb [str s,.int .i64 (I:Nat)])∧(ax ad.heap aj [.bool (decide ((v0:Int) % 2=1)),aX])∧(Md (fun k=>k=rb∨k=aj) am ad)∧(Sl bA [(0,.pointer (some ⟨rb,0,none⟩)),(3,.int .u64 (n:Nat)),(4,ae),(5,.int .u64 (v0:Nat)),(6,.pointer (some ⟨aj,0,none⟩)),(19,.int .u64 (n:Nat)),(20,.int .u64 (k:Nat)),(34,.int .u64 ((v0 / 2:Nat):Int)),(35,.int .u64 (j:Nat))])∧(v0 / 2 - j=an)) _ ⟨0,[],.slice none 0 0,p1,U,J,U,(e7 _ _ _ _),bU,bT,(Md.refl _ _),J,J⟩ ?_;rintro an bA ad ⟨j,es,aX,I,c5,aO,dk,aB,bb,bc,ao,cr,rfl⟩;refine bC cr ?_;have c0:=gO aO;have a3:∀ e,dL s n I= .error e→j < v0 / 2→cx s a= .error e:=fun e he ck=>nR ac aw<|gx O (BG aN bo<|gx aO he ck) U;have aI:Md (fun k=>k=rb) w ad:=b1.trans' ao fun k E h=>by rcases h with h | h; exact h; omega
 refine bN 6 J<|cd J (fun ch=> ?_) fun ch=> ?_;refine aE 7 J<|eP J (dO yh (BQ rb s I 1 ad bb aS U U) J fun dC cN b7=> ?_) fun c w' C σ' Z=>⟨60,a3 _ (yZ U) U,C.2.1,aI.trans C.2.2⟩
 obtain ⟨dp,bp,bH,a0⟩:=b7;rw [Je U] at bp;subst bp;refine p (rj 0 u9 J J<|by simp)<|ai 6 J<|eP J (dO m7 (nz rb s (I+1) cN bH aS U) J fun dD cO b8=> ?_) fun c w' C σ' Z=>by obtain ⟨e,he,av,aq⟩:=C; exact ⟨e,a3 _ (y7 U he) U,av,(aI.trans a0).trans aq⟩
 obtain ⟨to,cE,a2,rfl,bI,bi⟩:=b8;obtain ⟨c4,db,de⟩:=iy a2;refine ai 9 J<|eP J (dO iO (jd _ _ _ cO) J fun dE dJ b9=> ?_) fun c w' C σ' Z=>⟨190,a3 _ (y8 U a2<|by have :=of_decide_eq_false C.2.1; omega) U,C.1,by rw [C.2.2]; exact (aI.trans a0).trans bi⟩
 obtain ⟨rfl,cz,rfl⟩:=b9;have cw:¬n≤to:=by have :=of_decide_eq_true cz; omega
 have aK:=a0.trans bi;have bd:=aK.B bc fun h=>by omega
 have cD:=ao.size;have dr:=aK.size;refine ai 4 J<|p (ay J<|bd.aU 1)<|ai 2 J<|p (gn u3 k9 J<|iA U)<|p (dt (ps:= [(0,.int .u8 (s.getD I 0).toNat),(1,.int .i64 (to:Nat))]) (L:= [.int .u8 (s.getD I 0).toNat,.int .i64 (to:Nat)]) BA J<|J)<|e<|kF sd J J J fun cR dK cU au bJ=> ?_;have ds:=au.size;have co:=bZ (cG aB aK fun k E h=>by have :=cK aB E; omega) au.md;refine e<|ap sd (co) J U J (bt.gS bJ) (J) (J) U U fun dF dM bn aL cB ci=> ?_;have cB:=aL.size;have aT:∀ k,aX.ownBlock=some k→am.heap.size≤k:=fun k h=>(cK aB h).1;have b0:=aL.B (Wk.B au.md bd) fun h=>by have :=aT aj h; omega
 have bK:=aL.B (Wk.B au.md bI) fun h=>by have :=aT rb h; omega
 obtain ⟨bB,bD,rfl⟩:=dg bn;refine ai 1 J<|e<|st yC J J (J) (b0) (by simp) fun dR aZ bF=> ?_;have bY:=aZ.B bK fun h=>by omega
 exact aA 7 J<|tn<|⟨_,U,j+1,es++ [(s.getD I 0,(to:Int))],.slice bB (es.length+1) bD,cE,U,(kR aO<|y9 U a2 cw),U,(by rw [bQ,yY]; exact cG bn aZ fun k E h=>by rcases ci k E with a8 | a8; exact absurd (aT k a8) U; omega),bY,bF,((((ao.trans<|aK.mono fun _ _ h=> .inl h).trans<|au.md.mono fun _ _ h=>h.elim).trans' aL fun k E h=>by have :=aT k h; omega).trans<|aZ.mono fun _ _ h=> .inr h),J,J⟩
 refine aG 2 J<|te _<|c9 2 J ?_;obtain ⟨a7,ce,rfl⟩:=dg aB;obtain rfl :j=v0 / 2:=U;have dh:=gO O;have dm:=bg.1;have cv:=BH aN bo aO;have cD:=ao.size;have bf:Md (fun k=>k=rb∨k=aj) V ad:=((aJ.mono fun k _ h=> .inl h).trans<|aD.mono fun _ _ h=>h.elim).trans ao;have a4:=cG aP bf fun k E h=>by have :=cK aP E; omega
 have cu:=bg.md bf (fun k E hb=>by
  rcases E with E | E;omega;exact fun cur z=>Au U cur _ z)
 refine aE 1 J<|p (rC (ae) J)<|p (dn tw J (J) fun j _=>bc.aU j)<|e<|kF r9 J J J fun cT dN cV ab bL=> ?_;have du:=ab.size;refine e<|ap r9 (bZ a4 ab.md) J U J (bt.gS bL) (J) (J) U U fun cI cP cn ar cC c1=> ?_;have cC:=ar.size;have bq:∀ k,ae.ownBlock=some k→w.heap.size≤k:=fun k h=>(cK aP h).1;have bR:=ar.B (Wk.B ab.md bb) fun h=>by have :=bq rb h; omega
 have cf:Tg cP w.heap.size 65 es.length (.slice a7 es.length ce) (dT es):=Tg.l5 (((Tg.l6 aB).mono U).wk ab.md) ar fun k E _=>j8 (bZ a4 ab.md) aM k E;have ct:=(cu.wk ab.md).md ar fun k E _=>j8 (bZ a4 ab.md) aM k E;exact p aR<|aA 7 J<|tn<|⟨_,U,k+1,l++ [(decide (v0 % 2=1),es)],svs++ [(decide ((v0:Int) % 2=1),.slice a7 es.length ce)],cI,I,U,(kR O cv),U,(by rw [bQ,Bq]; exact cn),(by rw [show decide ((v0:Int) % 2=1)=decide (v0 % 2=1) from decide_eq_decide.2 U] at*; exact et.snoc (e:=(decide (v0 % 2=1),es)) ct cf),bR,((aI.trans<|ab.md.mono fun _ _ h=>h.elim).trans' ar fun k E h=>by have :=bq k h; omega),J,J⟩
 refine aG 2 J<|te _<|c9 3 J ?_;obtain rfl :k=n:=U;have bh:fc V w.heap.size ae l:=⟨svs,by have h:=Tg.l6 aP; rw [bg.1] at h; exact h,bg⟩
 obtain ⟨aa,cc,rfl,cZ,cb⟩:=bh.dW;have di:=gO O;have cm:∀ x∈l,x.2.length≤256:=fun x aW=>(lV (R:=fun p=>p≤s.length) (S:=fun x:aF=>x.2.length≤256) (fun p x q' hr aW=>⟨(pR aW).2.1,(pR aW).2.2.1⟩) U O).2 x aW;refine aE 3 J<|e<|aQ (vM l aa cc V cb U fun i hi=>cS (cm _<|iX (d:=dI) hi) aM) J ?_;rintro dG cQ ⟨rfl,aC⟩;refine ai 1 J ?_;refine eP J (dO iO (jd _ _ _ cQ) J fun dH dQ ca=> ?_) (fun c w' C σ' Z=>⟨190,Bc ac aw O (by
  cases h:shaped l;rfl;exact absurd (show nV l=0 from nW h) (of_decide_eq_false C.2.1)),C.1,by rw [C.2.2]; exact al.trans (aC.mono fun _ _ h=>h.elim)⟩)
 obtain ⟨rfl,bv,rfl⟩:=ca;have cs:shaped l=true :=by
  cases h:shaped l;rw [gX h] at bv; exact absurd (of_decide_eq_true bv) aM;rfl
 exact aA 9 J<|o7<|f1 J J<|⟨l,q,Be ac aw O cs,bh.wk aC,Wk.B aC ba,al.trans<|aC.mono fun _ _ h=>h.elim⟩
end Go.Hb.gl
end
section
namespace Go.Hb.iJ
open Go.Hb.dR
open Go.Hb.gl
theorem F3 (s C:List UInt8) (w:ah) (I:s.length≤1073741824) (hp:C.length≤1073741824):
 bc ak 65 (bj [str s,str C]) w (fun v w'=>v= .bool (decide (s.take C.length=C))∧Wk w w'):=by
 refine enter func65 J ntmps65 J<|aV 13 J<|gs (t:=10) J (fun E=> ?_) fun E=> ?_;exact ai 3 J<|bw J (vV u9 J J U)<|aA 7 J<|aO J<|⟨J,Md.refl _ _⟩
 exact ai 7 J<|p aR<|aA 3 J<|aO J<|⟨by show bl false =_; rw [decide_eq_false (fun h=>by have :=congrArg oC h; rw [cC] at this; omega)],Md.refl _ _⟩
theorem F2 (s C:List UInt8) (w:ah) (I:s.length≤1073741824) (hp:C.length≤1073741824):
 bc ak 39 (bj [str s,str C]) w (fun v w'=>v= .bool (decide (s.take C.length=C))∧Wk w w'):=by
 refine enter func39 J ntmps39 J<|aV 9 J<|e<|aQ (F3 s C _ I hp) J ?_;rintro L O ⟨rfl,E⟩;exact aA 4 J<|aO J<|⟨J,E⟩
theorem E2 (p2 p3:Nat) (w:ah):
 CallsD ak 40 (bj [.pointer (some ⟨p2,0,none⟩),.pointer (some ⟨p3,0,none⟩)]) .returning w (fun C L w'=> ∃ v,C= .returned v∧L= .returning∧(fun w'=>Wk w w') w'):=by
 refine yj (v:= .nilIface) func40 J ntmps40 J (fun U cs I=> .inr ⟨by simp [recoverD,I],J,J⟩) ?_;exact p (BM rB Ko J)<|p mv<|p (xt J J)<|p (xt J J)<|p aR<|p aR<|nl<|tn<|sq fun O E=>rg J<|p mv<|nl<|tn<|E _ _<|cf (J)<|Bu<|f0 J<|Md.refl _ _
theorem E1 (p2 p3:Nat) (C:Int) (w:ah) (E:∃ L:List ag,L.length=7∧w.heap[p2]? =some (.cells L.toArray 42 (0,0))) (I:∃ v:ag,w.heap[p3]? =some (.cells [v].toArray 35 (0,0))) (ab:p2≠p3):
 CallsD ak 40 (bj [.pointer (some ⟨p2,0,none⟩),.pointer (some ⟨p3,0,none⟩)]) (.panicking<|jX C) w (fun ac al w'=> ∃ v,ac= .returned v∧al=(.panicking [{v:= .iface 35 (.int .i64 C),recovered:=true}])∧(fun w'=>w'.heap[p2]? =some (.cells [aT .i64 0,str [],.slice none 0 0,.slice none 0 0,.slice none 0 0,.slice none 0 0,.slice none 0 0].toArray 42 (0,0))∧w'.heap[p3]? =some (.cells [.int .i64 C].toArray 35 (0,0))∧Md (fun k=>k=p2∨k=p3) w w') w'):=by
 obtain ⟨ap,ai,E⟩:=E;obtain ⟨av,I⟩:=I;have ar:=(eC.1 E).1;have au:=(eC.1 I).1;refine yj (v:= .iface 35<|.int .i64 C) func40 J ntmps40 J (fun aq cs aj=> .inl<|by simp [recoverD,aj,jX]) ?_;refine p (BL rB J)<|p mv<|p (xt J J)<|p (xt J J)<|p aR<|p aR<|nl<|tn<|sq fun ao ae=>rg J<|p mv<|nl<|tn<|ae _ _<|ct (J)<|rg J<|p (dt (ps:= []) (L:= [.int .i64 0,.string ⟨⟨[]⟩⟩,.slice none 0 0,.slice none 0 0,.slice none 0 0,.slice none 0 0,.slice none 0 0]) vX J<|J)<|p mv<|e<|da jR J J J J E (by rw [ai]; decide) fun am V O=>e<|dq tS J J (v:= .int .i64 C) J (V.an I fun h=>ab h.symm) (by show 0 < 1; decide) fun aw Z ad=>nl<|f0 J ?_;have O:am.heap[p2]? =some (.cells [aT .i64 0,str [],.slice none 0 0,.slice none 0 0,.slice none 0 0,.slice none 0 0,.slice none 0 0].toArray 42 (0,0)):=O.trans<|by rw [sP U]; rfl
 exact ⟨Z.an O ab,ad,(V.mono fun _ _ h=> .inl h).trans' Z fun _ _ h=> .inr h⟩
theorem yE (p2 p3:Nat) (w:ah):(invoke (.fn (.func 40) #[aK p2,aK p3]) #[]).run ak w= .ok (.enter 40 #[aK p2,aK p3]) w:=by
 have h:=Ej #[aK p2,aK p3] w;simp [invoke,h]
theorem qW {n:Nat} {D:List Deferred} {G:List Nat} {σ:Nat→ag} {t:Nat} (h:t < n):ev ⟨n,D,G,none⟩ σ (.tmp t)=σ t:=by
 show cond (aD t n) (σ t) undef=_;rw [show aD t n=true from by simpa using h]; rfl
theorem E6 {n:Nat} {G:List Nat} {fn:Func} {R:ag→ah→Prop} {σ:Nat→ag} {w:ah} {p2 p3:Nat} {C:Int} (ac:fn.results= #[.cell 2 42,.cell 3 35]) (aP:3 < n) (ad:σ 2= .pointer (some ⟨p2,0,none⟩)) (ae:σ 3= .pointer (some ⟨p3,0,none⟩)) (E:∃ L:List ag,L.length=7∧w.heap[p2]? =some (.cells L.toArray 42 (0,0))) (I:∃ v:ag,w.heap[p3]? =some (.cells [v].toArray 35 (0,0))) (ab:p2≠p3)
 (O:∀ w',Md (fun k=>k=p2∨k=p3) w w'→R (.tuple #[.agg [aT .i64 0,str [],.slice none 0 0,.slice none 0 0,.slice none 0 0,.slice none 0 0,.slice none 0 0].toArray,.int .i64 C]) w'):qb ⟨n,[{target:= .fn (.func 40) #[.pointer (some ⟨p2,0,none⟩),.pointer (some ⟨p3,0,none⟩)],args:= #[]}],G,none⟩ (kB ak fn R) (.panic<|jX C) σ w:=by
 refine FE (yE p2 p3 w) (E1 p2 p3 C w E I ab) ?_;rintro w' ⟨V,Z,hm⟩;exact ⟨_,rQ ac (jg<|gz (cs:= [aT .i64 0,str [],.slice none 0 0,.slice none 0 0,.slice none 0 0,.slice none 0 0,.slice none 0 0]) ((qW U).trans ad) jo J fun j _=>by rw [cy,bV V]; simp) (jg<|ix ((qW U).trans ae) xM<|(bV Z).trans J),O w' hm⟩
theorem E7 {n:Nat} {G:List Nat} {fn:Func} {R:ag→ah→Prop} {σ:Nat→ag} {w:ah} {p2 p3:Nat} {v:ag} {L:List ag} (ab:fn.results= #[.cell 2 42,.cell 3 35]) (aP:3 < n) (ac:σ 2= .pointer (some ⟨p2,0,none⟩)) (ad:σ 3= .pointer (some ⟨p3,0,none⟩)) (C:w.heap[p2]? =some (.cells L.toArray 42 (0,0))) (E:w.heap[p3]? =some (.cells [v].toArray 35 (0,0))) (I:L.length=7)
 (O:∀ w',Wk w w'→R (.tuple #[.agg L.toArray,v]) w'):qb ⟨n,[{target:= .fn (.func 40) #[.pointer (some ⟨p2,0,none⟩),.pointer (some ⟨p3,0,none⟩)],args:= #[]}],G,none⟩ (kB ak fn R) .ret σ w:=by
 refine FD (yE p2 p3 w) (E2 p2 p3 w) ?_;intro w' hm;have V:=Wk.an hm C;have Z:=Wk.an hm E;exact ⟨_,rQ ab (jg<|gz (cs:=L) ((qW U).trans ac) jo I fun j _=>by rw [cy,bV V]; simp) (jg<|ix ((qW U).trans ad) xM<|(bV Z).trans J),O w' hm⟩
section
variable {s:List UInt8} {a e n m p1 p2 p3 p4 p5 p q ls:Nat} {t f:List UInt8} {rs:List (List UInt8×List UInt8)} {l:List (List aF)}
theorem A2 (h:cF s a= .error e):fK s a= .error e:=by unfold fK; rw [h]
theorem A3 (h:cF s a= .ok (f,p)) (C:cF s p= .error e):fK s a= .error e:=by unfold fK; rw [h]; simp only; rw [C]
theorem A4 (h:cF s a= .ok (f,p)) (C:cF s p= .ok (t,q)):fK s a= .ok ((f,t),q):=by unfold fK; rw [h]; simp only; rw [C]
theorem tX (hm:¬s.take 4=ei):bM s= .error 200:=if_neg hm
theorem yJ (hm:s.take 4=ei) (h:a0 s 4= .error e):bM s= .error e:=by unfold bM; rw [if_pos hm,h]
theorem yK (hm:s.take 4=ei) (h:a0 s 4= .ok (n,p1)) (C:cF s p1= .error e):bM s= .error e:=by unfold bM; rw [if_pos hm,h]; simp only; rw [C]
theorem yL (hm:s.take 4=ei) (h:a0 s 4= .ok (n,p1)) (C:cF s p1= .ok (t,p2)) (E:a0 s p2= .error e):bM s= .error e:=by unfold bM; rw [if_pos hm,h]; simp only; rw [C]; simp only; rw [E]
theorem yM (hm:s.take 4=ei) (h:a0 s 4= .ok (n,p1)) (C:cF s p1= .ok (t,p2)) (E:a0 s p2= .ok (m,p3)) (I:256 < m):bM s= .error 201:=by unfold bM; rw [if_pos hm,h]; simp only; rw [C]; simp only; rw [E]; exact if_pos I
theorem qN (hm:s.take 4=ei) (h:a0 s 4= .ok (n,p1)) (C:cF s p1= .ok (t,p2)) (E:a0 s p2= .ok (m,p3)) (I:¬256 < m) (J:bW (fK s) m p3= .error e):bM s= .error e:=by unfold bM; rw [if_pos hm,h]; simp only; rw [C]; simp only; rw [E]; simp only; rw [if_neg I,J]
theorem yN (hm:s.take 4=ei) (h:a0 s 4= .ok (n,p1)) (C:cF s p1= .ok (t,p2)) (E:a0 s p2= .ok (m,p3)) (I:¬256 < m) (J:bW (fK s) m p3= .ok (rs,p4)):bM s=fj s (if n≤64 then n else 0) t rs p4:=by unfold bM; rw [if_pos hm,h]; simp only; rw [C]; simp only; rw [E]; simp only; rw [if_neg I,J]
theorem yF (h:dM ls t rs=false):fj s ls t rs a= .error 201:=by unfold fj; rw [h]; rfl
theorem yG (h:dM ls t rs=true) (C:bW (cx s) 4 a= .error e):fj s ls t rs a= .error e:=by unfold fj; rw [if_pos h,C]
theorem yH (h:dM ls t rs=true) (C:bW (cx s) 4 a= .ok (l,p5)) (E:p5≠s.length):fj s ls t rs a= .error 202:=by unfold fj; rw [if_pos h,C]; exact if_neg E
theorem yI (h:dM ls t rs=true) (C:bW (cx s) 4 a= .ok (l,p5)) (E:p5=s.length):fj s ls t rs a= .ok ⟨ls,t,rs,l⟩:=by unfold fj; rw [if_pos h,C]; exact if_pos E
end
def mU (w:ah) (B:Nat) (cs:List ag) (b:cz):Prop := ∃ C rc vs,cs= [.int .i64 (b.least:Nat),str b.tr,.slice C b.bE.length rc]++vs∧vs.length=4∧bt w.heap C (b.bE.flatMap cX)∧∀ i,i < 4→fc w B (vs.getD i .nilFunc) (b.aW.getD i [])
theorem mU.wk {w w':ah} {B:Nat} {cs:List ag} {b:cz} (h:mU w B cs b) (hm:Wk w w'):mU w' B cs b:=by
 obtain ⟨J,rc,vs,h1,C,E,I⟩:=h;exact ⟨J,rc,vs,h1,C,E.wk hm,fun i hi=>(I i hi).wk hm⟩
def iI (s:List UInt8) (w:ah) (v:ag) (w':ah):Prop :=(match bM s with
 | .ok b=> ∃ cs,v= .tuple #[.agg cs.toArray,.int .i64 0]∧mU w' w.heap.size cs b
 | .error e=>v= .tuple #[.agg [aT .i64 0,str [],.slice none 0 0,.slice none 0 0,.slice none 0 0,.slice none 0 0,.slice none 0 0].toArray,.int .i64 (e:Nat)])∧Wk w w'
theorem iI.no {s:List UInt8} {w w':ah} {e:Nat} (h:bM s= .error e) (hm:Wk w w'):iI s w (.tuple #[.agg [aT .i64 0,str [],.slice none 0 0,.slice none 0 0,.slice none 0 0,.slice none 0 0,.slice none 0 0].toArray,.int .i64 (e:Nat)]) w':=by
 unfold iI; rw [h]; exact ⟨rfl,hm⟩
theorem vG {a b c v:ag} {vs:List ag} {k:Nat} :([a,b,c]++vs).set (0 +3 +((k:Nat):Int).toNat*1) v= [a,b,c]++vs.set k v:=by
 rw [show 0 +3 +((k:Nat):Int).toNat*1=k+1 +1 +1 from by omega]; rfl
theorem q8 {α:Type} {l:List α} {i k:Nat} {v d:α} (h:i≠k):(l.set k v).getD i d=l.getD i d:=by
 rw [cr,xy (fun e=>h e.symm),cr]
theorem o8 {α:Type} {l:List α} {k:Nat} {v d:α} (h:k < l.length):(l.set k v).getD k d=v:=by
 rw [cr,xz h]; rfl
theorem zL {α:Type} {l m:List α} {i:Nat} {d:α} (h:i < l.length):(l++m).getD i d=l.getD i d:=by
 rw [cr,eF h,cr]
theorem zK {α:Type} {l:List α} {a d:α} {i:Nat} (h:i=l.length):(l++ [a]).getD i d=a:=by
 subst h;rw [cr,eQ (aZ _),Nat.sub_self]; rfl
structure fg (w0 w:ah) (b2 b3:Nat) (L:List ag):Prop where
 c2:w.heap[b2]? =some (.cells L.toArray 42 (0,0))
 c3:w.heap[b3]? =some (.cells [aT .i64 0].toArray 35 (0,0))
 len:L.length=7
 lo:w0.heap.size≤b2∧w0.heap.size≤b3∧b2≠b3
 wk:Wk w0 w
theorem fg.md {F:Nat→Prop} {w0 w w':ah} {C E:Nat} {L:List ag} (h:fg w0 w C E L) (hm:Md F w w') (I:¬F C) (J:¬F E) (O:∀ k,F k→w0.heap.size≤k):fg w0 w' C E L:=
 ⟨hm.an h.c2 I,hm.an h.c3 J,h.len,h.lo,h.wk.trans' hm fun k V U=>by have :=O k U; omega⟩
theorem fg.J2 {w0 w w':ah} {C E:Nat} {L:List ag} (h:fg w0 w C E L) (hm:Wk w w'):fg w0 w' C E L:=h.md hm (fun h=>h) (fun h=>h) fun _ h=>h.elim
theorem fg.rb {w0 w w':ah} {C E rb:Nat} {L:List ag} (h:fg w0 w C E L) (hm:Md (fun k=>k=rb) w w') (I:C≠rb) (J:E≠rb) (h0:w0.heap.size≤rb):fg w0 w' C E L:=h.md hm I J fun k O=>by omega
theorem jS {n:Nat} {G:List Nat} {fn:Func} {σ:Nat→ag} {s:List UInt8} {w W:ah} {E I e:Nat} {L:List ag} (J:fn.results= #[.cell 2 42,.cell 3 35]) (aP:3 < n) (O:σ 2= .pointer (some ⟨E,0,none⟩)) (U:σ 3= .pointer (some ⟨I,0,none⟩)) (C:fg w W E I L) (V:bM s= .error e):qb ⟨n,[{target:= .fn (.func 40) #[.pointer (some ⟨E,0,none⟩),.pointer (some ⟨I,0,none⟩)],args:= #[]}],G,none⟩ (kB ak fn<|iI s w) (.panic<|jX (e:Nat)) σ W:=
 E6 J aP O U ⟨_,C.len,C.c2⟩ ⟨_,C.c3⟩ C.lo.2.2 (fun w' hm=>iI.no V<|C.wk.trans' hm fun k Z h=>by rcases h with rfl | rfl; have :=C.lo.1; omega; have :=C.lo.2.1; omega)
theorem E8 (s:List UInt8) (w:ah) (aO:s.length≤1048576):
 bc ak 20 (bj [str s]) w (iI s w):=by
 refine Fo [2,3] func20 J ntmps20 J ?_;refine fv<|fl<|aV 1 J<|e<|c7 mF fun E e5 eb b9 cJ=>e<|c7 Kh fun Z ct ec bF cP=> ?_;have eH:=b9.size;have eI:=bF.size;have de:Wk w ct:=b9.md.trans bF.md;have dP:=Wk.an bF.md cJ;refine aA 1 J<|bX<|fv<|fv<|fl<|aV 2 J<|e<|aQ (F2 s ei ct U aM) J ?_;rintro v10 e3 ⟨rfl,a9⟩;have b0:=de.trans a9;have cq:=Wk.an a9 dP;have cr:=Wk.an a9 cP;have eF:=a9.size;refine aA 2 J<|bX<|fl<|cb J (fun a1=> ?_) fun a1=> ?_;have ae:¬s.take 4=ei:=fun h=>by rw [show s.take ei.length=ei from h] at a1; simp at a1
 refine aV 2 J<|p (dt (ps:= []) (L:= [.int .i64 0,.string ⟨⟨[]⟩⟩,.slice none 0 0,.slice none 0 0,.slice none 0 0,.slice none 0 0,.slice none 0 0]) vX J<|J)<|e<|da jR J J J J cq aM fun e9 b6 cZ=>e<|dq tS J J (v:= .int .i64 200) J (b6.an cr fun h=>by omega) aM fun d8 b8 c1=>aA 3 J<|HA ?_;have dC:d8.heap[E]? =some (.cells [aT .i64 0,str [],.slice none 0 0,.slice none 0 0,.slice none 0 0,.slice none 0 0,.slice none 0 0].toArray 42 (0,0)):=(b8.an cZ fun h=>by omega).trans rfl;exact FB (rQ J (jg<|gz J J J fun j em=>by rw [cy,bV dC]; simp)<|jg<|ix J J<|(bV c1).trans J)<|iI.no (tX ae)<|(b0.trans' b6 fun k I h=>by omega).trans' b8 fun k I h=>by omega
 have ae:s.take 4=ei:=Classical.byContradiction fun h=>by rw [decide_eq_false (show ¬s.take ei.length=ei from h)] at a1; cases a1
 have cE:4≤s.length:=by have :=congrArg oC ae; rw [cC] at this; simp only [ei,dd,fP] at this; omega
 refine o9 1 J<|bX<|fv<|jU GJ #[.pointer (some ⟨E,0,none⟩),.pointer (some ⟨Z,0,none⟩)] J aM ?_;refine fv<|fl<|aV 2 J<|p (dt (ps:= [(0,str s),(1,.int .i64 4)]) (L:= [str s,.int .i64 4]) IE J<|J)<|e<|oR J fun rb am eC bh cI=> ?_;have eG:=bh.size;have c8:ax am.heap rb [str s,.int .i64 ((4:Nat):Int)]:=⟨_,cI⟩
 have ck:fg w am E Z [aT .i64 0,str [],.slice none 0 0,.slice none 0 0,.slice none 0 0,.slice none 0 0,.slice none 0 0]:=⟨Wk.an bh.md cq,Wk.an bh.md cr,rfl,⟨U,U,U⟩,b0.trans bh.md⟩
 refine aA 2 J<|bX<|IC (fun cz a7=> ∃ (n p1:Nat),(fg w a7 E Z [.int .i64 ((if n≤64 then n else 0:Nat):Int),str [],.slice none 0 0,.slice none 0 0,.slice none 0 0,.slice none 0 0,.slice none 0 0])∧(ax a7.heap rb [str s,.int .i64 (p1:Nat)])∧(Md (fun k=>k=rb∨k=E) am a7)∧(a0 s 4= .ok (n,p1))∧(p1≤s.length)∧(Sl cz [(0,str s),(2,.pointer (some ⟨E,0,none⟩)),(3,.pointer (some ⟨Z,0,none⟩)),(4,.pointer (some ⟨rb,0,none⟩))])) ?_ ?_;refine fv<|fl<|aV 2 J ?_;refine eP J (dO m7 (nz rb s (4) am c8 aO<|cE) J fun eR e4 dk=> ?_) (fun c w' O σ' C=>by
  obtain ⟨e,he,rfl,ac⟩:=O;exact jS J aM ((C 2<|.head _).trans J) ((C 3<|.tail _<|.head _).trans J) ((ck).rb ac U U U) (yJ ae he))
 obtain ⟨n,p1,ad,rfl,bU,bA⟩:=dk;obtain ⟨ef,bI,er⟩:=iy ad;have a4:=ck.rb bA U U U;refine aA 2 J<|bX<|fv<|fl<|o9 4 J<|bX<|fl<|cd J (fun bH=> ?_) fun bH=> ?_;exact aV 2 J<|p (gn u3 k9 J<|iA U)<|ai 1 J<|e<|dq dK J J (v:= .int .i64 (n:Nat)) J a4.c2 aM fun fd bd c4=>aA 1 J<|yv<|⟨n,p1,(⟨by rw [if_pos U]; exact c4,bd.an a4.c3 (fun h=>by omega),J,a4.lo,a4.wk.trans' bd fun k I h=>by omega⟩),(bd.B bU fun h=>by omega),((bA.mono fun _ _ h=> .inl h).trans<|bd.mono fun _ _ h=> .inr h),ad,bI,J⟩
 exact o9 1 J<|yv<|⟨n,p1,(by rw [if_neg U]; exact a4),bU,(bA.mono fun _ _ h=> .inl h),ad,bI,J⟩
 rintro cz a7 ⟨n,p1,cp,c6,dc,ad,bI,dT⟩;refine Iq dT ?_;refine fv<|fl<|aV 2 J ?_;refine eP J (dO tH (uy rb s (p1) a7 c6 aO U) J fun eS e6 dl=> ?_) (fun c w' O σ' C=>by
  obtain ⟨e,he,rfl,ac⟩:=O;exact jS J aM ((C 2<|.head _).trans J) ((C 3<|.tail _<|.head _).trans J) ((cp).rb ac U U U) (yK ae ad he))
 obtain ⟨t,p2,aN,rfl,cN,b2⟩:=dl;obtain ⟨eg,en,et⟩:=nq aN;have bo:=cp.rb b2 U U U;refine ai 1 J<|e<|dq tV J J (v:=str t) J bo.c2 (by simp) fun cw bg c5=> ?_;have co:fg w cw E Z [.int .i64 ((if n≤64 then n else 0:Nat):Int),str t,.slice none 0 0,.slice none 0 0,.slice none 0 0,.slice none 0 0,.slice none 0 0]:=⟨c5,bg.an bo.c3 (fun h=>by omega),rfl,bo.lo,bo.wk.trans' bg fun k I h=>by omega⟩
 have c9:=bg.B cN fun h=>by omega
 refine aA 1 J<|bX<|fv<|fl<|aV 2 J ?_;refine eP J (dO m7 (nz rb s (p2) cw c9 aO U) J fun eU d2 dm=> ?_) (fun c w' O σ' C=>by
  obtain ⟨e,he,rfl,ac⟩:=O;exact jS J aM ((C 2<|.head _).trans J) ((C 3<|.tail _<|.head _).trans J) ((co).rb ac U U U) (yL ae ad aN he))
 obtain ⟨m,p3,aZ,rfl,cO,b3⟩:=dm;obtain ⟨eh,eo,eu⟩:=iy aZ;have cm:=co.rb b3 U U U;refine aA 2 J<|bX<|fv<|fl<|aV 4 J ?_;refine eP J (dO iO (jd _ _ _ d2) J fun eV e8 dp=> ?_) (fun c w' O σ' C=>by
  obtain ⟨rfl,hb,rfl⟩:=O;exact jS J aM ((C 2<|.head _).trans J) ((C 3<|.tail _<|.head _).trans J) (cm) (yM ae ad aN aZ<|by have :=of_decide_eq_false hb; omega))
 obtain ⟨rfl,dY,rfl⟩:=dp;have bJ:¬256 < m:=by have :=of_decide_eq_true dY; omega
 refine aA 1 J<|bX<|fv<|fv<|fl<|o9 4 J<|bX<|fl<|bN 1 J<|lp (fun aR cB aw=> ∃ (k:Nat) (rs:List (List UInt8×List UInt8)) (ab:ag) (q:Nat),(k≤m)∧(bW (fK s) k p3= .ok (rs,q))∧(q≤s.length)∧(bu aw am.heap.size 60 2 ab rs.length<|rs.flatMap cX)∧(ax aw.heap rb [str s,.int .i64 (q:Nat)])∧(fg w aw E Z [.int .i64 ((if n≤64 then n else 0:Nat):Int),str t,ab,.slice none 0 0,.slice none 0 0,.slice none 0 0,.slice none 0 0])∧(Md (fun k=>k=rb∨k=E) am aw)∧(Sl cB [(0,str s),(2,.pointer (some ⟨E,0,none⟩)),(3,.pointer (some ⟨Z,0,none⟩)),(4,.pointer (some ⟨rb,0,none⟩)),(33,.int .u64 (m:Nat)),(34,.int .u64 (k:Nat))])∧(m - k=aR)) _ ⟨0,[],.slice none 0 0,p3,U,J,U,(e7 _ _ _ _),cO,cm,(((dc.trans<|b2.mono fun _ _ h=> .inl h).trans<|bg.mono fun _ _ h=> .inr h).trans<|b3.mono fun _ _ h=> .inl h),J,J⟩ ?_;rintro aR cB aw ⟨k,rs,ab,q,ey,ar,eA,aB,bY,a3,bx,dU,rfl⟩;refine bC dU<|bN 6 J<|cd J (fun dA=> ?_) fun dA=> ?_;refine aE 7 J ?_;refine eP J (dO tH (uy rb s (q) aw bY aO U) J fun eW av dr=> ?_) (fun c w' O σ' C=>by
  obtain ⟨e,he,rfl,ac⟩:=O;exact jS J aM ((C 2<|.head _).trans J) ((C 3<|.tail _<|.head _).trans J) ((a3).rb ac U U U) (qN ae ad aN aZ bJ<|gx ar (A2 he) U))
 obtain ⟨f,bL,bG,rfl,cS,bb⟩:=dr;obtain ⟨ej,ep,ev⟩:=nq bG;have a5:=a3.rb bb U U U;have dI:=cG aB bb fun k I h=>by have :=cK aB I; omega
 have eJ:=bb.size;have eQ:=bx.size;have aC:∀ k,ab.ownBlock=some k→am.heap.size≤k:=fun k h=>(cK aB h).1;refine aH 3 J ?_;have bl:(fun w'=>Md (fun k=>k=rb∨ab.ownBlock=some k) av w') av.drew:=(Md.refl _ _).drew;refine po (fun w'=>Md (fun k=>k=rb∨ab.ownBlock=some k) av w') 9 J wide bl<|uD [0] J bl<|Ag 1 J aj (fun w' dx=>ay J<|Md.au dx ((bV a5.c2).trans J) fun h=>by rcases h with h | h; omega; have :=aC _ h; omega) bl<|uD [2,3] J bl ?_;refine GG 4 J aj J (dO tH (uy rb s bL av.drew cS aO U) J fun eX cu ds=> ?_) (fun c w' O σ' C=>by
  obtain ⟨e,he,rfl,ac⟩:=O;exact jS J aM ((C 2<|.head _).trans J) ((C 3<|.tail _<|.head _).trans J) (a5.rb (Md.eT ac) U U U) (qN ae ad aN aZ bJ<|gx ar (A3 bG he) U))
 obtain ⟨t2,d1,ch,rfl,cT,aX⟩:=ds;obtain ⟨ek,eq,ex⟩:=nq ch;have aX:=Md.eT aX;have cf:Md (fun k=>k=rb∨ab.ownBlock=some k) av cu:=aX.mono fun _ _ h=> .inl h;have eN:=aX.size;have ca:(fun w'=>Md (fun k=>k=rb∨ab.ownBlock=some k) av w') cu:=cf;refine ⟨ca,?_⟩;refine pn 5 J aj (fun _=>dt (ps:= [(0,str f),(1,str t2)]) (L:= [str f,str t2]) II J<|J) (fun _=>ca)<|gP 6 J aj<|kF r8 J J J fun d9 d5 ed bi cU=> ?_;have eO:=bi.size;have cg:=cf.trans<|bi.md.mono fun _ _ h=>h.elim;have dJ:=bZ (cG dI aX fun k I h=>by have :=cK aB I; omega) bi.md;have dy:(fun w'=>Md (fun k=>k=rb∨ab.ownBlock=some k) av w') d5:=cg;refine ⟨dy,?_⟩;refine gP 7 J aj<|ap r8 (dJ) J U J (bt.gS cU) (J) (J) (by have :=gO ar; omega) (by have :=gO ar; omega) fun eY d6 cj bD d0 dE=> ?_;obtain ⟨bv,oT,rfl⟩:=dg cj;have aY:=cg.trans<|bD.mono fun _ _ h=> .inr h;have d0:=bD.size;have dG:¬(E=rb∨ab.ownBlock=some E):=fun h=>by rcases h with h | h; omega; have :=aC _ h; omega
 have dH:¬(Z=rb∨ab.ownBlock=some Z):=fun h=>by rcases h with h | h; omega; have :=aC _ h; omega
 have dB:=aY.an a5.c2 dG;have cV:=bD.B (Wk.B bi.md cT) fun h=>by have :=aC _ h; omega
 have ce:(fun w'=>Md (fun k=>k=rb∨ab.ownBlock=some k) av w') d6:=aY;refine ⟨ce,?_⟩;refine uD [8] J ce<|nw 9 J aj aj<|dq yz J J (v:= .slice bv (rs.length+1) oT) J dB (by simp) fun cs aS cF=> ?_;have dL:fg w cs E Z [.int .i64 ((if n≤64 then n else 0:Nat):Int),str t,.slice bv (rs.length+1) oT,.slice none 0 0,.slice none 0 0,.slice none 0 0,.slice none 0 0]:=⟨cF,aS.an (aY.an a5.c3 dH) (fun h=>by omega),rfl,a3.lo,(a5.wk.trans' aY fun k I h=>by rcases h with h | h; omega; have :=aC _ h; omega).trans' aS fun k I h=>by omega⟩
 have cH:=aS.B cV fun h=>by omega
 have db:Md (fun k=>k=rb∨k=E) am cs:=((bx.trans<|bb.mono fun _ _ h=> .inl h).trans' aY fun k I h=>by rcases h with h | h; exact .inl h; have :=aC _ h; omega).trans<|aS.mono fun _ _ h=> .inr h;exact ny aj<|bf 6 J<|tn<|⟨_,U,k+1,rs++ [(f,t2)],.slice bv (rs.length+1) oT,d1,U,(kR ar<|A4 bG ch),U,(by rw [bQ,List.flatMap_append]; exact cG cj aS fun k I h=>by rcases dE k I with bT | bT; exact absurd (aC k bT) U; omega),cH,dL,db,J,J⟩
 refine aG 2 J<|te _<|bf 1 J<|bX<|fv<|fl ?_;obtain ⟨al,rc,rfl⟩:=dg aB;obtain rfl :k=m:=U;obtain ⟨bq,dQ⟩:∃ bq,bq=q:=⟨q,rfl⟩
 subst dQ;have bm:=yN ae ad aN aZ bJ ar;have ez:=gO ar;have dS:∀ r∈rs,r.1.length≤1048576∧r.2.length≤1048576:=fun r hr=>by
  have :=(lV (R:=fun _=>True) (S:=fun r:List UInt8×List UInt8=>r.1.length≤255∧r.2.length≤255) (fun p x q' _ dX=>⟨trivial,(HP dX).2.2⟩) trivial ar).2 r hr;omega
 refine aV 2 J<|p (dn jo J (J) (show ∀ j,j < 7→au aw.heap E (0 +j)=([.int .i64 ((if n≤64 then n else 0:Nat):Int),str t,.slice al rs.length rc,.slice none 0 0,.slice none 0 0,.slice none 0 0,.slice none 0 0]:List ag)[j]? from fun j _=>by rw [cy,bV a3.c2]; simp))<|e<|aQ (Im (if n≤64 then n else 0) t rs al rc (.slice none 0 0) (.slice none 0 0) (.slice none 0 0) (.slice none 0 0) aw (eM aB).2 (by split <;> omega) U U dS) J ?_;rintro eZ d7 ⟨rfl,ba⟩;have cn:=a3.J2 ba;refine eP J (dO iO (jd _ _ _ d7) J fun e0 fa du=> ?_) (fun c w' O σ' C=>by
  obtain ⟨rfl,hb,rfl⟩:=O;exact jS J aM ((C 2<|.head _).trans J) ((C 3<|.tail _<|.head _).trans J) (cn) (by rw [bm,yF hb]))
 obtain ⟨rfl,bK,rfl⟩:=du;refine aA 1 J<|bX<|fv<|fv<|fl<|o9 3 J<|bX<|fl<|bN 1 J<|lp (fun aR cD aq=> ∃ (V:Nat) (ls:List (List aF)) (vs:List ag) (aP:Nat),(V≤4)∧(bW (cx s) V bq= .ok (ls,aP))∧(aP≤s.length)∧(vs.length=4)∧(ax aq.heap rb [str s,.int .i64 (aP:Nat)])∧(fg w aq E Z<|[.int .i64 ((if n≤64 then n else 0:Nat):Int),str t,.slice al rs.length rc]++vs)∧(∀ i,i < V→fc aq (rb+1) (vs.getD i .nilFunc) (ls.getD i []))∧(Md (fun k=>k=rb∨k=E) am aq)∧(bu aq am.heap.size 60 2 (.slice al rs.length rc) rs.length<|rs.flatMap cX)∧(Sl cD [(0,str s),(2,.pointer (some ⟨E,0,none⟩)),(3,.pointer (some ⟨Z,0,none⟩)),(4,.pointer (some ⟨rb,0,none⟩)),(52,.int .i64 (V:Nat))])∧(4 - V=aR)) _ ⟨0,[],[.slice none 0 0,.slice none 0 0,.slice none 0 0,.slice none 0 0],bq,U,J,U,J,(Wk.B ba bY),cn,(fun i hi=>by omega),(bx.trans<|ba.mono fun _ _ h=>h.elim),(bZ aB ba),J,J⟩ ?_;rintro aR cD aq ⟨V,ls,vs,aP,ew,a2,eB,a6,bw,ao,bz,dh,bn,dV,rfl⟩;refine bC dV<|bN 6 J<|cd J (fun dD=> ?_) fun dD=> ?_;refine aE 13 J ?_;refine eP J (dO oT (If rb s aP aq bw aO U) J fun e1 fb dv=> ?_) (fun c w' O σ' C=>by
  obtain ⟨e,he,rfl,ac⟩:=O;exact jS J aM ((C 2<|.head _).trans J) ((C 3<|.tail _<|.head _).trans J) (ao.rb ac U U U) (by rw [bm,yG bK (gx a2 he (show V < 4 by omega))]))
 obtain ⟨aD,bL,ci,b1,c0,b7⟩:=dv;obtain ⟨aa,cc,rfl,ee,ea⟩:=b1.dW;have bp:=ao.rb b7 U U U;have el:=Bf ci;refine ai 1 J<|p (eK gG J J U)<|e<|dq yA J J (v:= .slice aa aD.length cc) J bp.c2 (by simp only [bQ,dd,fP,a6]; omega) fun br aW cL=> ?_;have dF:=gO a2;have bH:br.heap[E]? =some (.cells ([.int .i64 ((if n≤64 then n else 0:Nat):Int),str t,.slice al rs.length rc]++vs.set V (.slice aa aD.length cc)).toArray 42 (0,0)):=by rw [← vG]; exact cL
 have dM:fg w br E Z ([.int .i64 ((if n≤64 then n else 0:Nat):Int),str t,.slice al rs.length rc]++vs.set V (.slice aa aD.length cc)):=⟨bH,aW.an bp.c3 (fun h=>by omega),by simp [a6],bp.lo,bp.wk.trans' aW fun k I h=>by omega⟩
 have cM:=aW.B c0 fun h=>by omega
 have eE:=bw.lt;have bE:Md (fun k=>k=rb∨k=E) aq br:=(b7.mono fun _ _ h=> .inl h).trans<|aW.mono fun _ _ h=> .inr h;have dj:∀ i,i < V+1→fc br (rb+1) ((vs.set V<|.slice aa aD.length cc).getD i .nilFunc) ((ls++ [aD]).getD i []):=fun i hi=>by
  rcases di i V with h | h;rw [q8 U,zL U];exact (bz i h).md bE fun k I hb=>absurd hb U;obtain rfl :i=V:=U;rw [o8 U,zK dF.symm];exact (b1.mono U).md aW fun k I hb=>absurd hb U
 exact aA 7 J<|tn<|⟨_,U,V+1,ls++ [aD],vs.set V (.slice aa aD.length cc),bL,U,(kR a2 ci),U,(by rw [fy]; exact a6),cM,dM,dj,(dh.trans bE),(cG bn bE fun k I h=>by have :=(cK bn I).1; omega),J,J⟩
 refine aG 2 J<|te _<|bf 1 J<|bX<|fv<|fl ?_;obtain rfl :V=4:=U;obtain ⟨aI,aJ,aK,aL,rfl⟩:∃ aI aJ aK aL,vs= [aI,aJ,aK,aL]:=by
  match vs,a6 with
  | [aI,aJ,aK,aL],_=>exact ⟨_,_,_,_,rfl⟩
 have a8:∀ i,i < 4→([aI,aJ,aK,aL].getD i .nilFunc).oneCell'=true :=fun i hi=>by
  obtain ⟨_,_,e,_⟩:=(bz i hi).dW;rw [e]; rfl
 have dN:([.int .i64 ((if n≤64 then n else 0:Nat):Int),str t,.slice al rs.length rc,aI,aJ,aK,aL]:List ag).all eD=true :=by
  have bM:=a8 0 U;have bO:=a8 1 U;have bR:=a8 2 U;have bS:=a8 3 U;simp only [oB,oA] at bM bO bR bS;simp only [kp,mS,bM,bO,bR,bS]; rfl
 refine aV 5 J<|p (ay J<|bw.aU 1)<|ai 3 J ?_;refine eP J (dO iO (jd _ _ _ aq) J fun e2 cv dw=> ?_) (fun c w' O σ' C=>by
  obtain ⟨rfl,hb,rfl⟩:=O;exact jS J aM ((C 2<|.head _).trans J) ((C 3<|.tail _<|.head _).trans J) (ao) (by rw [bm,yH bK a2 (fun h=>of_decide_eq_false hb<|by rw [h])]))
 obtain ⟨rfl,dZ,rfl⟩:=dw;have dR:aP=s.length:=by have :=of_decide_eq_true dZ; omega
 refine aA 1 J<|bX<|fv<|fl<|aV 1 J<|p (dn jo J (J) (show ∀ j,j < 7→au cv.heap E (0 +j)=([.int .i64 ((if n≤64 then n else 0:Nat):Int),str t,.slice al rs.length rc,aI,aJ,aK,aL]:List ag)[j]? from fun j _=>by rw [cy,bV ao.c2]; simp))<|e<|da jR J J J dN ao.c2 (by rw [ao.len]; decide) fun d3 b4 cQ=> ?_;have dz:d3.heap[E]? =some (.cells ([.int .i64 ((if n≤64 then n else 0:Nat):Int),str t,.slice al rs.length rc]++ [aI,aJ,aK,aL]).toArray 42 (0,0)):=cQ.trans<|by rw [sP (by rw [ao.len]; decide),List.take_zero,List.nil_append,List.append_nil]; rfl
 refine e<|dq tS J J (v:= .int .i64 0) J (b4.an ao.c3 fun h=>by omega) aM fun d4 b5 cR=>aA 1 J<|bX<|HX ?_;exact E7 J aM J J (b5.an dz fun h=>by omega) cR J (fun w' hm=>by
  unfold iI;rw [bm,yI bK a2 dR];have bB:Md (fun k=>k=E∨k=Z) cv d4:=(b4.mono fun _ _ h=> .inl h).trans<|b5.mono fun _ _ h=> .inr h;refine ⟨⟨_,J,al,rc,_,J,a6,(eM<|bZ (cG bn bB fun k I h=>by have :=(cK bn I).1; omega) hm).2,fun i hi=>(((bz i hi).md bB fun k I hb=>absurd hb U).wk hm).mono U⟩,(ao.wk.trans' bB fun k I h=>by omega).trans hm⟩)
theorem pj {α:Type} {f:Nat→Except Nat (α×Nat)} (E:∀ a e,f a= .error e→e≠0):∀ {k a e:Nat},bW f k a= .error e→e≠0
 | 0,a,e,h=>by cases h
 | k+1,a,e,h=>by
   rw [bW] at h;split at h
   · rename_i I C;cases h;exact pj E C
   · split at h
     · rename_i I C;cases h;exact E _ _ C
     · cases h
theorem nQ {s:List UInt8} {a e:Nat} (h:a0 s a= .error e):e≠0:=by rcases vB h with h | h <;> omega
theorem uw {s:List UInt8} {a e:Nat} (h:cF s a= .error e):e≠0:=by
 unfold cF at h;split at h
 · rename_i C; cases h; exact nQ C
 · repeat' split at h
   all_goals first | (cases h; decide) | cases h
theorem HQ {s:List UInt8} {a e:Nat} (h:fK s a= .error e):e≠0:=by
 unfold fK at h;split at h
 · rename_i C; cases h; exact uw C
 · split at h
   · rename_i C; cases h; exact uw C
   · cases h
theorem Fk {s:List UInt8} {n a e:Nat} (h:dL s n a= .error e):e≠0:=by
 unfold dL at h;split at h
 · cases h; decide
 · split at h
   · rename_i C; cases h; exact nQ C
   · split at h
     · cases h; decide
     · cases h
theorem IU {s:List UInt8} {n a e:Nat} (h:eN s n a= .error e):e≠0:=by
 unfold eN at h;split at h
 · rename_i C; cases h; exact nQ C
 · split at h
   · cases h; decide
   · split at h
     · rename_i C; cases h; exact pj (fun _ _=>Fk) C
     · cases h
theorem Ib {s:List UInt8} {a e:Nat} (h:cx s a= .error e):e≠0:=by
 unfold cx at h;split at h
 · rename_i C; cases h; exact nQ C
 · split at h
   · cases h; decide
   · split at h
     · rename_i C; cases h; exact pj (fun _ _=>IU) C
     · split at h
       · cases h
       · cases h; decide
theorem E5 {s:List UInt8} {e:Nat} (h:bM s= .error e):e≠0:=by
 unfold bM at h;split at h
 · split at h
   · rename_i C; cases h; exact nQ C
   · split at h
     · rename_i C; cases h; exact uw C
     · split at h
       · rename_i C; cases h; exact nQ C
       · split at h
         · cases h; decide
         · split at h
           · rename_i C; cases h; exact pj (fun _ _=>HQ) C
           · generalize (if _≤64 then _ else 0)=n0 at h;unfold fj at h;split at h
             · split at h
               · rename_i C; cases h; exact pj (fun _ _=>Ib) C
               · split at h
                 · cases h
                 · cases h; decide
             · cases h; decide
 · cases h; decide
theorem iI.form {s:List UInt8} {w w':ah} {v:ag} (h:iI s w v w'):∃ V Z x2 ab ac ad ae e,v= .tuple #[.agg [V,Z,x2,ab,ac,ad,ae].toArray,.int .i64 ((e:Nat):Int)]∧[V,Z,x2,ab,ac,ad,ae].all eD=true∧Wk w w'∧
 ((e≠0∧bM s= .error e)∨(e=0∧∃ b,bM s= .ok b∧mU w' w.heap.size [V,Z,x2,ab,ac,ad,ae] b)):=by
 obtain ⟨h,am⟩:=h;cases hX:bM s with
 | error e=>
   rw [hX] at h;exact ⟨_,_,_,_,_,_,_,e,h,J,am,.inl ⟨E5 hX,J⟩⟩
 | ok b=>
   rw [hX] at h;obtain ⟨cs,ao,hb⟩:=h;obtain ⟨ar,rc,vs,rfl,ap,aq,an⟩:=id hb;obtain ⟨E,I,L,O,rfl⟩:∃ E I L O,vs= [E,I,L,O]:=by
    match vs,ap with
    | [E,I,L,O],_=>exact ⟨_,_,_,_,rfl⟩
   have C:∀ i,i < 4→([E,I,L,O].getD i .nilFunc).oneCell'=true :=fun i hi=>by
    obtain ⟨_,_,e,_⟩:=(an i hi).dW;rw [e]; rfl
   have ai:=C 0 U;have aj:=C 1 U;have ak:=C 2 U;have al:=C 3 U;simp only [oB,oA] at ai aj ak al;exact ⟨_,_,_,_,_,_,_,0,ao,by simp only [kp,mS,ai,aj,ak,al]; rfl,am,.inr ⟨J,b,J,hb⟩⟩
def dj (w:ah) (B cb:Nat) (b:cz) (C:List UInt8):Prop := ∃ cs,ax w.heap cb (cs++ [str C])∧mU w B cs b∧B≤cb
theorem dj.wk {w w':ah} {B cb:Nat} {b:cz} {C:List UInt8} (h:dj w B cb b C) (hm:Wk w w'):dj w' B cb b C:=by
 obtain ⟨cs,h1,E,I⟩:=h;exact ⟨cs,Wk.B hm h1,E.wk hm,I⟩
def DF (s:List UInt8) (w:ah) (v:ag) (w':ah):Prop :=(match bM s with
 | .ok b=> ∃ cb,v= .tuple #[.pointer (some ⟨cb,0,none⟩),.nilIface]∧dj w' w.heap.size cb b s
 | .error e=>v= .tuple #[.pointer none,.iface 35 (.int .i64 ((e:Nat):Int))])∧Wk w w'
theorem uU (s:List UInt8) (w:ah) (aG:s.length≤1048576):
 bc ak 6 (bj [str s]) w (DF s w):=by
 refine enter func6 J ntmps6 J<|aV 8 J<|p mv<|e<|aQ (E8 s w aG) J fun aT aI ay=> ?_;obtain ⟨C,E,x2,I,O,V,Z,am,rfl,aF,ad,ac⟩:=iI.form ay;have aS:=ad.size;refine p mv<|ai 2 J<|e<|c7 mF fun al aX aK an aq=> ?_;have aP:=an.size;refine e<|da jR J J J aF aq aM fun aj aw ar=> ?_;have av:ax aj.heap al [C,E,x2,I,O,V,Z]:=⟨_,ar⟩
 have ab:Wk aI aj:=an.md.trans' aw fun k aN h=>by omega
 have aR:=ab.size;refine aH 10 J<|cd J (fun aD=> ?_) fun aD=> ?_;have ac:am≠0∧bM s= .error am:=ac.resolve_right fun h=>by omega
 refine aE 3 J<|p (u6 rB J)<|aA 6 J<|f2 J J J ?_;refine ⟨?_,ad.trans ab⟩;rw [ac.2];exact J;obtain ⟨aL,b,aB,aC⟩:=ac.resolve_left fun h=>by omega
 refine aE 4 J<|p (dn jo J (J) (show ∀ j,j < 7→au aj.heap al (0 +j)=([C,E,x2,I,O,V,Z]:List ag)[j]? from fun j _=>av.aU j))<|p mv<|p (Eb (ps:= [(0,.agg [C,E,x2,I,O,V,Z].toArray),(1,str s)]) (L:= [C,E,x2,I,O,V,Z,str s]) IK J<|by simp [Instr.fill,Value.cells,str])<|e<|oR (L:= [C,E,x2,I,O,V,Z,str s]) J fun ao aW aJ ae ap=> ?_;have aO:=ae.size;refine aA 5 J<|f2 J J J ?_;refine ⟨?_,(ad.trans ab).trans ae.md⟩;rw [aB];exact ⟨ao,J,_,⟨_,ap⟩,aC.wk (ab.trans ae.md),U⟩
end Go.Hb.iJ
end
section
namespace Go.Hb.dj
open Go.Hb.dR
open Go.Hb.gl Go.Hb.iJ
def fY (c:UInt8) (es:List (UInt8×Int)):Nat:=es.findIdx fun e=>e.1==c
theorem zU {c:UInt8} {es:List (UInt8×Int)} {i:Nat} {e:UInt8×Int} (he:es[i]? =some e) (C:e.1=c) (I:∀ (j:Nat) (e':UInt8×Int),j < i→es[j]? =some e'→e'.1≠c):fY c es=i:=by
 unfold fY;obtain ⟨hi,rfl⟩:=cH.1 he;rw [List.findIdx_eq hi];refine ⟨by simpa using C,fun j E=> ?_⟩;have :=I j _ E<|bG U;simpa using this
theorem zV {c:UInt8} {es:List (UInt8×Int)} (E:∀ (j:Nat) (e':UInt8×Int),es[j]? =some e'→e'.1≠c):fY c es=es.length:=by
 unfold fY;refine List.findIdx_eq_length.2 fun e he=> ?_;obtain ⟨j,C⟩:=List.mem_iff_getElem?.1 he;simpa using E j e C
def fF (l:List aF):Nat→List UInt8→Option Nat×Nat
 | n,[]=>(some n,0)
 | n,c::w=>if fY c (av l n).2 < (av l n).2.length then ((fF l ((av l n).2.getD (fY c (av l n).2) (0,0)).2.toNat w).1,(fF l ((av l n).2.getD (fY c (av l n).2) (0,0)).2.toNat w).2 +1) else (none,0)
def fG (l:List aF) (w:List UInt8):Option Nat×Nat:=if l= [] then (none,0) else fF l 0 w
def eH (l:List aF) (w:List UInt8):Bool:=match (fG l w).1 with
 | some n=>(av l n).1
 | none=>false
def fD (l:List aF):Prop :=l.length≤1048576∧∀ x∈l,x.2.length≤256∧∀ e∈x.2,0≤e.2∧e.2 < l.length
theorem fD.nil:fD []:=⟨by simp,fun x C=>by simp at C⟩
theorem fD.st {l:List aF} (h:fD l) {n:Nat} (hn:n < l.length):(av l n).2.length≤256∧∀ (i:Nat) e,(av l n).2[i]? =some e→0≤e.2∧e.2 < l.length:=by
 have :=h.2 _<|iX (d:=dI) hn;exact ⟨this.1,fun i e he=>this.2 e<|kz he⟩
def bR (b:cz) (n:Int):List aF:=if 0≤n∧n < 4 then b.aW.getD n.toNat [] else []
theorem pM {s:List UInt8} {b:cz} (h:b.Is s) (n:Int):fD (bR b n):=by
 unfold bR;split
 · rename_i hn;have hm:b.aW.getD n.toNat []∈b.aW:=iX<|by rw [h.pw]; omega
   obtain ⟨_,C,E⟩:=h.aW _ hm;exact ⟨C,E⟩
 · exact fD.nil
theorem dj.sec {w:ah} {B cb:Nat} {b:cz} {J:List UInt8} (h:dj w B cb b J) {n:Nat} (hn:n < 4):∃ aa cc,au w.heap cb (3 +n)=some (.slice aa (b.aW.getD n []).length cc)∧cD w.heap aa (b.aW.getD n []):=by
 obtain ⟨cs,C,⟨O,rc,vs,rfl,L,_,E⟩,_⟩:=h;obtain ⟨aa,cc,e,_,I⟩:=(E n hn).dW;refine ⟨aa,cc,?_,I⟩;rw [C.au,eF (by simp only [bQ,dd,fP]; omega),eQ (by simp)];rw [cr] at e;have :vs[n]? =some (vs[n]'U):=bG U;rw [this] at e;show vs[3 +n - 3]? =_;rw [Dt,this,← e]; rfl
theorem cD.none (h:Array Obj):cD h none []:=⟨fun h=>by simp at h,fun i hi=>by simp at hi⟩
theorem Ie (B I:Nat) (b:cz) (ab:List UInt8) (n:Int) (w:ah) (L:dj w B I b ab):
 bc ak 35 (bj [aK I,.int .i64 n]) w (fun v w'=>(∃ aa cc,v= .slice aa (bR b n).length cc∧cD w'.heap aa (bR b n))∧Wk w w'):=by
 refine enter func35 J ntmps35 J<|aV 9 J<|p (jV kg J J)<|ai 1 J<|gb (t:=7) J (fun h=>absurd (h.symm.trans<|J) cB) fun ac=>ai 4 J<|gs (t:=11) J (fun V=> ?_) fun V=> ?_;refine aA 13 J<|aO J ?_;have C:bR b n= []:=if_neg U;rw [C];exact ⟨⟨none,0,J,cD.none _⟩,Md.refl _ _⟩;refine aH 5 J<|cd J (fun O=> ?_) fun O=> ?_;refine aG 7 J<|aO J ?_;have C:bR b n= []:=if_neg U;rw [C];exact ⟨⟨none,0,J,cD.none _⟩,Md.refl _ _⟩;obtain ⟨k,rfl⟩:∃ k:Nat,n=(k:Int):=⟨n.toNat,U⟩
 have C:bR b (k:Int)=b.aW.getD k []:=if_pos U;obtain ⟨aa,cc,E,Z⟩:=dj.sec L (n:=k) U;rw [show 3 +k=0 +0 +3 +((k:Nat):Int).toNat*1 by omega] at E;refine aE 9 J<|p (eK gG J J U)<|p (ay J<|E)<|p aR<|aA 3 J<|aO J ?_;rw [C];exact ⟨⟨aa,cc,J,Z⟩,Md.refl _ _⟩
theorem vD (n:Int) (w:ah):
 bc ak 35 (bj [.pointer none,.int .i64 n]) w (fun v w'=>v= .slice none 0 0∧Wk w w'):=by
 refine enter func35 J ntmps35 J<|aV 9 J<|p (jV kg J J)<|ai 1 J<|gb (t:=7) J (fun C=> ?_) fun h=>absurd ((J).symm.trans h) cB;exact ai 3 J<|p mv<|aA 13 J<|aO J<|⟨J,Md.refl _ _⟩
theorem DV (E:UInt8×Int) (x:List UInt8) (i O L:Nat) (w:ah) (Z:ax w.heap O [str x]) (V:ax w.heap L [aB i]) (hi:i < x.length):
 bc ak 60 (bj [.agg #[.int .u8 E.1.toNat,.int .i64 E.2],aK O,aK L]) w (fun v w'=>v= .bool (decide (E.1=x.getD i 0))∧Wk w w'):=by
 exact enter func60 J ntmps60 J<|aV 2 J<|e<|m6 J fun ac ae ad I ab=>aH 4 J<|eh fun C=>aJ [0] J C<|cR 1 J C (ab.aU 0)<|cR 2 J C ((Wk.B I.md Z).aU 0)<|cR 3 J C ((Wk.B I.md V).aU 0)<|cw 4 J (eV u9 J J U) C<|aJ [5,6] J C<|hn aj<|bf 2 J<|aO J<|⟨bv (by rw [Int.ofNat_inj,lC]),I.md.drew⟩
theorem Gl (a:Option bh) (c:Nat) (es:List (UInt8×Int)) (x:List UInt8) (i L I:Nat) (w:ah) (ac:kC w.heap a es) (al:ax w.heap L [str x]) (aj:ax w.heap I [aB i]) (hi:i < x.length) (ap:es.length≤256):
 bc ak 59 (bj [.slice a es.length c,.func (.func 60) #[] #[aK L,aK I]]) w (fun v w'=>(∃ r:Int,v= .int .i64 r∧((r=(fY (x.getD i 0) es:Nat)∧fY (x.getD i 0) es < es.length)∨(r= -1∧fY (x.getD i 0) es=es.length)))∧Wk w w'):=by
 refine enter func59 J ntmps59 J<|aV 8 J<|p mv<|aH 5 J<|lp (fun Z ag V=> ∃ (k:Nat),(k≤es.length)∧(∀ (j:Nat) (e':UInt8×Int),j < k→es[j]? =some e'→e'.1≠x.getD i 0)∧(Wk w V)∧(Sl ag [(0,.slice a es.length c),(1,.func (.func 60) #[] #[aK L,aK I]),(7,aB (es.length)),(8,aB k)])∧(es.length - k=Z)) _ ⟨0,U,(fun j d ae=>by omega),(Md.refl _ _),J,J⟩ ?_;rintro Z ag V ⟨k,ao,O,C,an,rfl⟩;refine bC an<|bN 6 J<|cd J (fun am=> ?_) fun am=> ?_;refine bO 11 J ?_;obtain ⟨ai,he⟩:∃ d,es[k]? =some d:=⟨_,bG U⟩
 refine aE 4 J<|p (bK kK J J U<|ac.ok U)<|p (dn oN J (J)<|(ac.wk C).two he)<|e<|tP Ek J (DV ai x i L I V (Wk.B C al) (Wk.B C aj) hi) J ?_;rintro aq ar ⟨rfl,ab⟩;refine aH 2 J<|cb J (fun hm=> ?_) fun hm=> ?_;refine aG 9 J<|tr<|bf 2 J<|aO J ?_;have ad:=zU he (of_decide_eq_true hm) O;exact ⟨⟨(k:Nat),J,.inl ⟨by rw [ad],by rw [ad]; omega⟩⟩,C.trans ab⟩;exact aE 4 J<|p (cm<|k+1)<|aA 2 J<|tn<|⟨_,U,k+1,U,(fun j e' ae E=>by rcases Nat.lt_succ_iff_lt_or_eq.1 ae with h | rfl; exact O j e' h E; rw [he] at E; cases E; exact of_decide_eq_false hm),(C.trans ab),J,J⟩
 exact aG 2 J<|b9<|bf 8 J<|aO J<|⟨⟨-1,J,.inr ⟨J,zV fun j e' E=>O j e' (by have :=(cH.1 E).1; omega) E⟩⟩,C⟩
theorem xO {l:List aF} {n:Nat} :fF l n []=(some n,0):=rfl
theorem xP {l:List aF} {n:Nat} {c:UInt8} {w:List UInt8} (h:fY c (av l n).2=(av l n).2.length):fF l n (c::w)=(none,0):=by
 rw [fF,if_neg U]
theorem xN {l:List aF} {n m:Nat} {c:UInt8} {w:List UInt8} {e:UInt8×Int} (h:(av l n).2[fY c (av l n).2]? =some e) (he:e.2=(m:Int)):fF l n (c::w)=((fF l m w).1,(fF l m w).2 +1):=by
 have aP:=(cH.1 h).1;rw [fF,if_pos aP,cr,h];show ((fF l e.2.toNat w).1,(fF l e.2.toNat w).2 +1)=_;rw [he,fO]
theorem ub {x:List UInt8} {k:Nat} (h:k < x.length):x.drop k=x.getD k 0::x.drop (k+1):=by
 rw [List.drop_eq_getElem_cons h,cr,bG h]; rfl
def DC (l:List aF) (x:List UInt8) (w:ah) (v:ag) (w':ah):Prop :=Wk w w'∧∃ p,v= .tuple #[p,.int .i64 ((fG l x).2:Nat)]∧match (fG l x).1 with
 | none=>p= .pointer none
 | some q=> ∃ C E,p= .pointer (some ⟨C,E,none⟩)∧au w'.heap C (E+0)=some (.bool (av l q).1)
theorem xT (B ao:Nat) (b:cz) (aW:List UInt8) (n:Int) (x:List UInt8) (w:ah) (a0:dj w B ao b aW) (aL:fD (bR b n)) (bo:x.length≤4294967296):
 bc ak 33 (bj [aK ao,.int .i64 n,str x]) w (DC (bR b n) x w):=by
 obtain ⟨bi,bl⟩:=id aL;refine enter func33 J ntmps33 J<|aV 2 J<|e<|ye J J fun V bh bn ad aD=> ?_;have bq:=ad.size;refine ai 6 J<|p mv<|p mv<|e<|aQ (Ie B ao b aW n bh<|a0.wk ad.md) J ?_;rintro bu bg ⟨⟨aa,cc,rfl,a3⟩,hE14⟩;have aI:=ad.md.trans hE14;refine p aR<|ai 5 J<|p mv<|aH 4 J<|cd J (fun a4=> ?_) fun a4=> ?_;have L:(bR b n).length=0:=U;refine aG 8 J<|f2 J J J ?_;have E:fG (bR b n) x=(none,0):=if_pos<|kr L;refine ⟨aI,.pointer none,by rw [E]; rfl,?_⟩;rw [E];have L:0 < (bR b n).length:=U;refine aE 10 J<|p (ay J<|(ax.aU ⟨_,Wk.an hE14 aD⟩ 0:au bg.heap V 0=some (str x)))<|aH 5 J<|lp (fun aC aX O=> ∃ (k q:Nat),(k≤x.length)∧(q < (bR b n).length)∧(fG (bR b n) x=((fF (bR b n) q<|x.drop k).1,(fF (bR b n) q<|x.drop k).2 +k))∧(cD O.heap aa<|bR b n)∧(ax O.heap V [str x])∧(Wk w O)∧(Sl aX [(5,aK V),(8,.slice aa (bR b n).length cc),(9,aB q),(19,aB (x.length)),(20,aB k)])∧(x.length - k=aC)) _ ⟨0,0,U,L,(by rw [fG,if_neg (fun h=>by rw [h] at L; simp at L)]; rfl),a3,(⟨_,Wk.an hE14 aD⟩),aI,J,J⟩ ?_;rintro aC aX O ⟨k,q,a7,am,hg,I,ag,ab,ba,rfl⟩;refine bC ba<|bN 6 J<|cd J (fun a5=> ?_) fun a5=> ?_;refine aE 7 J<|e<|c7 Kf fun aq bw bm aM aY=> ?_;have bp:=aM.size;refine e<|dq dK J J J aY (by simp) fun ap a2 aZ=> ?_;have aF:ax ap.heap aq [aB k]:=⟨_,aZ⟩
 have C:Wk O ap:=Md.trans' aM.md a2 fun k a7 h=>by omega
 have br:=C.size;refine aH 3 J ?_;obtain ⟨ar,aw,ae,a1⟩:=I.two am;have aO:=eO C ae;have ac:=a1.wk C;obtain ⟨a8,a9⟩:=aL.st am;have aP:=ub (x:=x) (k:=k) U;refine aE 3 J<|p (bK fV J J U<|I.ok U)<|ai 1 J<|p (ay J<|aO 1 U)<|p u5<|e<|aQ (Gl ar aw (av (bR b n) q).2 x k V aq ap ac (C.B ag) aF U a8) J ?_;rintro bv bx ⟨⟨bt,rfl,aS⟩,hE29⟩;refine aH 10 J<|cd J (fun a6=> ?_) fun a6=> ?_;have al:=aS.resolve_left fun h=>by omega
 refine bO 1 J<|eh fun aN=>cR 0 J aN ((hE29.B aF).aU 0)<|aJ [1,2] J aN<|hn aj<|bf 5 J<|tr<|bf 2 J<|f2 J J J ?_;have E:fG (bR b n) x=(none,k):=by rw [hg,aP,xP al.2]; simp
 refine ⟨(ab.trans<|C.trans hE29).drew,.pointer none,by rw [E]; rfl,?_⟩;rw [E];obtain ⟨rfl,al⟩:=aS.resolve_right fun h=>by omega
 refine bO 2 J ?_;obtain ⟨⟨c,z⟩,he⟩:∃ e,(av (bR b n) q).2[fY (x.getD k 0) (av (bR b n) q).2]? =some e:=⟨_,bG al⟩
 obtain ⟨bb,bd⟩:=a9 _ _ he;obtain ⟨m,rfl⟩:∃ m:Nat,z=(m:Int):=⟨z.toNat,by simp only at bb; omega⟩
 simp only at bd;exact aE 3 J<|p (bK fV J J U<|I.ok U)<|ai 1 J<|p (ay J<|(eO hE29 aO) 1 U)<|ai 1 J<|p (bK kK J J U<|ac.ok U)<|ai 1 J<|p (ay J (show _=some (aT .i64 ((m:Nat):Int)) from (ac.wk hE29).to _ (c,_) he))<|ai 5 J<|p (cm<|k+1)<|aA 2 J<|tn<|⟨_,U,k+1,m,U,U,(by rw [hg,aP,xN he J]; simp only [Prod.mk.injEq,true_and]; omega),(I.wk<|C.trans hE29),(Wk.B (C.trans hE29) ag),(ab.trans<|C.trans hE29),J,J⟩
 refine aG 2 J<|b9<|c9 3 J<|eh fun Z=>aJ [0,1] J Z<|cw 2 J (bK fV J J U<|I.ok U) Z<|cR 3 J Z (ag.aU 0)<|aJ [4,5,6] J Z<|hn aj<|bf 2 J<|f2 J J J ?_;obtain rfl :k=x.length:=U;have E:fG (bR b n) x=(some q,x.length):=by rw [hg,List.drop_length,xO]; simp
 refine ⟨Md.drew ab,_,by rw [E]; rfl,?_⟩;rw [E];obtain ⟨ar,aw,ae,_⟩:=I.two am;exact ⟨_,_,J,ae 0 U⟩
theorem Ga (B C:Nat) (b:cz) (I:List UInt8) (n:Int) (x:List UInt8) (w:ah) (L:dj w B C b I) (U:fD (bR b n)) (Z:x.length≤4294967296) (E:(fG (bR b n) x).1=none):
 bc ak 13 (bj [aK C,.int .i64 n,str x]) w (fun v w'=>v= .bool (eH (bR b n) x)∧Wk w w'):=by
 refine enter func13 J ntmps13 J<|aV 7 J<|p mv<|p mv<|p mv<|e<|aQ (xT B C b I n x w L U Z) J ?_;rintro ac ad ⟨O,p,rfl,hp⟩;rw [E] at hp;subst hp;refine p mv<|ai 2 J<|p aR<|ai 5 J<|p mv<|p (rD wo J J)<|ai 1 J<|gb (t:=18) J (fun h=>absurd (h.symm.trans<|J) cB) fun ab=>ai 5 J<|p aR<|aA 3 J<|aO J ?_;have V:eH (bR b n) x=false :=by rw [eH,E]
 rw [V];exact ⟨J,O⟩
theorem Gc (B C:Nat) (b:cz) (I:List UInt8) (n:Int) (x:List UInt8) (w:ah) (L:dj w B C b I) (U:fD (bR b n)) (ab:x.length≤4294967296) (q:Nat) (E:(fG (bR b n) x).1=some q):
 bc ak 13 (bj [aK C,.int .i64 n,str x]) w (fun v w'=>v= .bool (eH (bR b n) x)∧Wk w w'):=by
 refine enter func13 J ntmps13 J<|aV 7 J<|p mv<|p mv<|p mv<|e<|aQ (xT B C b I n x w L U ab) J ?_;rintro ag aj ⟨O,p,rfl,hp⟩;rw [E] at hp;obtain ⟨ac,ae,rfl,Z⟩:=hp;refine p mv<|ai 2 J<|p aR<|ai 5 J<|p mv<|p (rD wo J J)<|ai 1 J<|gb (t:=18) J (fun ad=> ?_) fun h=>absurd ((J).symm.trans h) cB;refine bw J mv<|ai 2 J<|bw J (ay J<|Z)<|aA 5 J<|aO J ?_;have V:eH (bR b n) x=(av (bR b n) q).1:=by rw [eH,E]
 rw [V];exact ⟨J,O⟩
theorem uJ (B C:Nat) (b:cz) (E:List UInt8) (n:Int) (x:List UInt8) (w:ah) (I:dj w B C b E) (J:fD (bR b n)) (L:x.length≤4294967296):bc ak 13 (bj [.pointer (some ⟨C,0,none⟩),.int .i64 n,str x]) w (fun v w'=>v= .bool (eH (bR b n) x)∧Wk w w'):=by
 cases hX:(fG (bR b n) x).1 with
 | none=>exact Ga B C b E n x w I J L hX
 | some q=>exact Gc B C b E n x w I J L q hX
theorem tM (B C:Nat) (b:cz) (E:List UInt8) (x:List UInt8) (w:ah) (I:dj w B C b E) (O:fD (bR b 0)) (U:x.length≤4294967296):
 bc ak 14 (bj [aK C,str x]) w (fun v w'=>v= .bool (eH (bR b 0) x)∧Wk w w'):=by
 refine enter func14 J ntmps14 J<|aV 7 J<|p mv<|p mv<|e<|aQ (uJ B C b E 0 x w I O U) J ?_;rintro V Z ⟨rfl,L⟩;exact aA 4 J<|aO J<|⟨J,L⟩
end Go.Hb.dj
end
section
namespace Go.Hb.lE
open Go.Hb.dR
open Go.Hb.gl Go.Hb.iJ Go.Hb.dj
def ff (w:ah) (B k:Nat) (svs:List (Bool×ag)) (l:List aF):Prop :=svs.length=l.length∧∀ (i:Nat) q e,svs[i]? =some q→l[i]? =some e→q.1=e.1∧Tg w 0 65 e.2.length q.2 (dT e.2)∧(i < k→bu w B 65 2 q.2 e.2.length (dT e.2))
theorem nG {F:Nat→Prop} {w w':ah} {B e size n:Nat} {v:ag} {xs:List ag} (h:bu w B e size v n xs) (hm:Md F w w') (I:∀ k,F k→B≤k→∀ cur z,w.heap[k]?≠some (.cells cur e z)):bu w' B e size v n xs:=cG h hm fun k C J=>by
 have E:=(cK h C).1;rcases h.2 with ⟨rfl,_⟩ | ⟨g,cap,L,rfl,_,hg,_⟩
 · simp [eE] at C
 · simp only [eE,bD] at C; subst C; exact I _ J E _ _ hg
def fA (w:ah) (B:Nat) (v:ag) (l:List aF):Prop := ∃ svs:List (Bool×ag),bu w B 63 2 v l.length (dw svs)∧svs.length=l.length∧∀ (i:Nat) q e,svs[i]? =some q→l[i]? =some e→q.1=e.1∧bu w B 65 2 q.2 e.2.length (dT e.2)
theorem fA.g {w:ah} {B:Nat} {v:ag} {l:List aF} (h:fA w B v l):fc w B v l:=by
 obtain ⟨svs,h1,I,C⟩:=h;exact ⟨svs,Tg.l6 h1,I,fun i q e E he=>⟨(C i q e E he).1,Tg.l6 (C i q e E he).2⟩⟩
theorem fA.md {F:Nat→Prop} {w w':ah} {B:Nat} {v:ag} {l:List aF} (h:fA w B v l) (hm:Md F w w') (I:∀ k,F k→B≤k→∀ cur z,w.heap[k]?≠some (.cells cur 63 z)∧w.heap[k]?≠some (.cells cur 65 z)):fA w' B v l:=by
 obtain ⟨svs,h1,L,E⟩:=h;exact ⟨svs,nG h1 hm fun k C hb cur z=>(I k C hb cur z).1,L,fun i q e J he=>⟨(E i q e J he).1,nG (E i q e J he).2 hm fun k C hb cur z=>(I k C hb cur z).2⟩⟩
theorem et.q {w:ah} {B B':Nat} {svs:List (Bool×ag)} {l:List aF} (h:et w B svs l):ff w B' 0 svs l:=⟨h.1,fun i q e C he=>⟨(h.2 i q e C he).1,(h.2 i q e C he).2.mono (jM _),fun hi=>by omega⟩⟩
theorem ff.p {w:ah} {B:Nat} {svs:List (Bool×ag)} {l:List aF} (h:ff w B l.length svs l):∀ (i:Nat) q e,svs[i]? =some q→l[i]? =some e→q.1=e.1∧bu w B 65 2 q.2 e.2.length (dT e.2):=fun i q e C he=>⟨(h.2 i q e C he).1,(h.2 i q e C he).2.2 (cH.1 he).1⟩
theorem ff.md {F:Nat→Prop} {w w':ah} {B k:Nat} {svs:List (Bool×ag)} {l:List aF} (h:ff w B k svs l) (hm:Md F w w') (I:∀ k,F k→∀ cur z,w.heap[k]?≠some (.cells cur 65 z)):ff w' B k svs l:=
 ⟨h.1,fun i q e E he=>⟨(h.2 i q e E he).1,Tg.l5 (h.2 i q e E he).2.1 hm (fun k C _=>I k C),fun hi=>nG ((h.2 i q e E he).2.2 hi) hm fun k C _=>I k C⟩⟩
theorem ff.set {w:ah} {B k:Nat} {svs:List (Bool×ag)} {l:List aF} {f:Bool} {v:ag} {e:aF} (h:ff w B k svs l) (he:l[k]? =some e) (O:f=e.1) (I:bu w B 65 2 v e.2.length (dT e.2)):ff w B (k+1) (svs.set k (f,v)) l:=by
 refine ⟨by rw [fy,h.1],fun i q r C hr=> ?_⟩;have Z:=h.1;have V:=(cH.1 hr).1;by_cases E:k=i
 · subst E;rw [he] at hr; cases hr;rw [xz U] at C; cases C;exact ⟨O,(Tg.l6 I).mono (jM _),fun _=>I⟩
 · rw [xy E] at C;obtain ⟨h1,J,L⟩:=h.2 i q r C hr;exact ⟨h1,J,fun hi=>L U⟩
theorem Bo:∀ (svs:List (Bool×ag)) (k:Nat) (v:ag),k < svs.length→(dw svs).set (k*2 +1) v=dw (svs.set k ((svs.getD k (false,.nilFunc)).1,v))
 | [],k,v,h=>by simp at h
 | q::svs,0,v,_=>by simp [dw]
 | q::svs,k+1,v,h=>by
   have ih:=Bo svs k v<|by simpa using h
   rw [oH,oA];show (bl q.1::q.2::dw svs).set ((k+1)*2 +1) v= .bool q.1::q.2::dw _;rw [show (k+1)*2 +1=(k*2 +1)+1 +1 by omega,oH,oH,ih]
theorem Ip {w:ah} {B:Nat} {svs:List (Bool×ag)} {l:List aF} (h:et w B svs l):(dw svs).all eD=true :=by
 rw [List.all_eq_true];intro v C;obtain ⟨q,I,C⟩:=List.mem_flatMap.1 C;obtain ⟨i,hi⟩:=List.getElem?_of_mem I;have L:=(cH.1 hi).1;have O:=h.1;have he:l[i]? =some (l[i]'U):=bG U;obtain ⟨_,E⟩:=h.2 i _ _ hi he;obtain ⟨a,c,J⟩:=E.slice;simp only [fQ,List.not_mem_nil,or_false] at C;rcases C with rfl | rfl
 · rfl
 · rw [J]; rfl
theorem Fi (es:List (UInt8×Int)):(dT es).all eD=true :=zy (fun _=>rfl) es
theorem HS (l:List (List UInt8×List UInt8)):(l.flatMap cX).all eD=true :=zy (fun _=>rfl) l
theorem A7 (l:List (List UInt8×List UInt8)):(l.flatMap cX).length=l.length*2:=qZ (m:=2) (fun _=>rfl) l
theorem yn {h:Array Obj} {a:Option bh} {n m:Nat} {xs:List ag} (E:bt h a xs) (C:xs.length=n*m) (hm:0 < m) (ha:a=none):n=0:=by
 rcases Dv n with h0 | h0
 · exact h0
 · exfalso;have I:xs≠[]:=fun e=>by
    rw [e] at C;have :0 < n*m:=Nat.mul_pos h0 hm;simp only [fP] at C; omega
   have :=bt.ok E I;rw [ha] at this; cases this
theorem j0 {x y z:ag} {ws:List ag} {i:Nat} (hi:i < ws.length):([x,y,z]++ws).toArray[0 +3 +((i:Nat):Int).toNat*1]? =some (ws.getD i .nilFunc):=by
 rw [List.getElem?_toArray,show 0 +3 +((i:Nat):Int).toNat*1=i+1 +1 +1 from by omega,cr,bG hi];show ws[i]? =_;rw [bG hi]; rfl
theorem sg {l:List aF} {n:Nat} (h:n < l.length):l[n]? =some (av l n):=by
 unfold av;rw [cr,bG h]; rfl
theorem four {α:Type} {l:List α} (h:l.length=4):∃ a b c d,l= [a,b,c,d]:=by
 match l,h with
 | [a,b,c,d],_=>exact ⟨a,b,c,d,rfl⟩
theorem Tg.parts {w:ah} {B e n m:Nat} {v:ag} {xs:List ag} (h:Tg w B e n v xs) (E:xs.length=n*m) (hm:0 < m):∃ a c,v= .slice a n c∧bt w.heap a xs∧(a=none→n=0):=by
 obtain ⟨a,c,rfl⟩:=h.slice;obtain ⟨_,C⟩:=h.oU;exact ⟨a,c,J,C,yn C E hm⟩
def DD (b:cz) (w:ah) (v:ag) (w':ah):Prop := ∃ C rc vs,v= .agg ([.int .i64 (b.least:Nat),str b.tr,.slice C b.bE.length rc]++vs).toArray∧vs.length=4∧bu w' w.heap.size 60 2 (.slice C b.bE.length rc) b.bE.length (b.bE.flatMap cX)∧(∀ i,i < 4→fA w' w.heap.size (vs.getD i .nilFunc) (b.aW.getD i []))∧Wk w w'
theorem Ex (a:Option bh) (n c:Nat) (xs:List ag) (w:ah) (O:bt w.heap a xs) (ae:xs.length=n*2) (ha:a=none→n=0) (h1:xs.all eD=true) (hn:n≤1048576):
 bc ak 29 (bj [.slice a n c]) w (fun v w'=>bu w' w.heap.size 60 2 v n xs∧Wk w w'):=by
 refine enter func29 J ntmps29 J<|aV 9 J<|p (ug Jg J J)<|aH 2 J<|cb J (fun E=> ?_) fun E=> ?_;have ab:a=none:=by simpa using E
 refine aG 7 J<|aO J ?_;have ac:=ha ab;subst ac;obtain rfl :=kr (show xs.length=0 by omega);exact ⟨e7 _ _ _ _,Md.refl _ _⟩;refine aE 4 J<|e<|qI r8 fun an au ao C L=> ?_;have I:=L w.heap.size U;refine ai 1 J<|e<|ap r8 (I) J (by have :=C.size; omega) J (O.wk C.md) (ae) (h1) U U fun al am ad Z ar aq=> ?_;have V:=Wk.own C.md I Z<|aZ _;refine p aR<|aA 3 J<|aO J ?_;have aj:bu am w.heap.size 60 2 al n xs:=by simpa using ad
 exact ⟨aj,V⟩
theorem Ey (a:Option bh) (n c:Nat) (xs:List ag) (w:ah) (O:bt w.heap a xs) (ae:xs.length=n*2) (ha:a=none→n=0) (h1:xs.all eD=true) (hn:n≤1048576):
 bc ak 30 (bj [.slice a n c]) w (fun v w'=>bu w' w.heap.size 63 2 v n xs∧Wk w w'):=by
 refine enter func30 J ntmps30 J<|aV 9 J<|p (ug Jh J J)<|aH 2 J<|cb J (fun E=> ?_) fun E=> ?_;have ab:a=none:=by simpa using E
 refine aG 7 J<|aO J ?_;have ac:=ha ab;subst ac;obtain rfl :=kr (show xs.length=0 by omega);exact ⟨e7 _ _ _ _,Md.refl _ _⟩;refine aE 4 J<|e<|qI r9 fun an au ao C L=> ?_;have I:=L w.heap.size U;refine ai 1 J<|e<|ap r9 (I) J (by have :=C.size; omega) J (O.wk C.md) (ae) (h1) U U fun al am ad Z ar aq=> ?_;have V:=Wk.own C.md I Z<|aZ _;refine p aR<|aA 3 J<|aO J ?_;have aj:bu am w.heap.size 63 2 al n xs:=by simpa using ad
 exact ⟨aj,V⟩
theorem Ew (a:Option bh) (n c:Nat) (xs:List ag) (w:ah) (O:bt w.heap a xs) (ae:xs.length=n*2) (ha:a=none→n=0) (h1:xs.all eD=true) (hn:n≤1048576):
 bc ak 31 (bj [.slice a n c]) w (fun v w'=>bu w' w.heap.size 65 2 v n xs∧Wk w w'):=by
 refine enter func31 J ntmps31 J<|aV 9 J<|p (ug Ji J J)<|aH 2 J<|cb J (fun E=> ?_) fun E=> ?_;have ab:a=none:=by simpa using E
 refine aG 7 J<|aO J ?_;have ac:=ha ab;subst ac;obtain rfl :=kr (show xs.length=0 by omega);exact ⟨e7 _ _ _ _,Md.refl _ _⟩;refine aE 4 J<|e<|qI sd fun an au ao C L=> ?_;have I:=L w.heap.size U;refine ai 1 J<|e<|ap sd (I) J (by have :=C.size; omega) J (O.wk C.md) (ae) (h1) U U fun al am ad Z ar aq=> ?_;have V:=Wk.own C.md I Z<|aZ _;refine p aR<|aA 3 J<|aO J ?_;have aj:bu am w.heap.size 65 2 al n xs:=by simpa using ad
 exact ⟨aj,V⟩
theorem tF (B aO:Nat) (b:cz) (s:List UInt8) (w:ah) (ck:dj w B aO b s) (aF:b.Is s):
 bc ak 11 (bj [aK aO]) w (DD b w):=by
 obtain ⟨cs,b7,⟨br,rc,vs,rfl,c5,bF,aD⟩,hBk⟩:=ck;obtain ⟨aR,aS,aT,aX,rfl⟩:=four c5;have cP:aR.oneCell'=true :=by obtain ⟨a,c,h,_⟩:=(aD 0 U).dW; rw [show aR=_ from h]; rfl
 have cQ:aS.oneCell'=true :=by obtain ⟨a,c,h,_⟩:=(aD 1 U).dW; rw [show aS=_ from h]; rfl
 have cR:aT.oneCell'=true :=by obtain ⟨a,c,h,_⟩:=(aD 2 U).dW; rw [show aT=_ from h]; rfl
 have cS:aX.oneCell'=true :=by obtain ⟨a,c,h,_⟩:=(aD 3 U).dW; rw [show aX=_ from h]; rfl
 have c0:br=none→b.bE.length=0:=yn bF (A7 _) aM;refine enter func11 J ntmps11 J<|aV 2 J<|e<|c7 mF fun aY de dh bb cb=> ?_;have dp:=bb.size;refine ai 6 J<|p (jV kg J J)<|aH 2 J<|cf (J)<|aE 7 J<|p (dn jo J (J) (show ∀ j,j < 7→au de.heap aO (0 +j)=([aB (b.least),str b.tr,.slice br b.bE.length rc,aR,aS,aT,aX]:List ag)[j]? from fun j ae=>by rw [cy,(Wk.B bb.md b7).au]; exact eF<|by simpa using ae)) ?_;refine e<|c7 mF fun I dC di bd ch=> ?_;have ds:=bd.size;refine e<|da jR J J J (by simp only [kp,mS,cP,cQ,cR,cS]; rfl) ch aM fun b2 ba bB=> ?_;have bH:Wk w b2:=(bb.md.trans bd.md).trans' ba fun k C h=>by omega
 have dt:=ba.size;have cc:=ba.an (Wk.an bd.md cb) fun h=>by omega
 refine ai 5 J<|p (ay J<|(bV bB).trans J)<|e<|aQ (Ex br b.bE.length rc (b.bE.flatMap cX) b2 (bF.wk bH) (A7 _) c0 (HS _)<|by have :=aF.vf; omega) J ?_;rintro dz a7 ⟨bn,a1⟩;obtain ⟨Z,ab,rfl⟩:=dg bn;have dm:=a1.size;have cD:=Wk.an a1 bB;have ce:=Wk.an a1 cc;refine ai 1 J<|e<|dq yz J J (v:= .slice Z b.bE.length ab) J cD (by simp) fun b3 a3 ci=> ?_;have dv:=a3.size;have cp:Wk w b3:=(bH.trans a1).trans' a3 fun k C h=>by omega
 have cV:bu b3 w.heap.size 60 2 (.slice Z b.bE.length ab) b.bE.length (b.bE.flatMap cX):=cG (nH bn U) a3 fun k C h=>by have :=(cK bn C).1; omega
 have cg:=a3.an ce fun h=>by omega
 refine aH 9 J<|lp (fun ar b4 E=> ∃ (i:Nat) (ws:List ag),(i≤4)∧(ws.length=4)∧(E.heap[I]? =some (.cells ([aB (b.least),str b.tr,.slice Z b.bE.length ab]++ws).toArray 42 (0,0)))∧(E.heap[aY]? =some (.cells [.int .i64 0,str [],.slice none 0 0,.slice none 0 0,.slice none 0 0,.slice none 0 0,.slice none 0 0].toArray 42 (0,0)))∧(bu E w.heap.size 60 2 (.slice Z b.bE.length ab) b.bE.length<|b.bE.flatMap cX)∧(∀ j,j < i→fA E w.heap.size (ws.getD j .nilFunc) (b.aW.getD j []))∧(∀ j,i≤j→j < 4→ws.getD j .nilFunc= [aR,aS,aT,aX].getD j .nilFunc)∧(Wk w E)∧(I < E.heap.size)∧(Sl b4 [(0,aK aO),(2,aK aY),(3,aK I),(17,aB i)])∧(4 - i=ar)) _ ⟨0,[aR,aS,aT,aX],U,J,ci,cg,cV,(fun j ae=>by omega),(fun j _ _=>rfl),cp,U,J,J⟩ ?_;rintro ar b4 E ⟨i,ws,hi,bq,aL,a0,a5,aq,hold,aC,dy,c1,rfl⟩;refine bC c1<|bN 6 J<|cd J (fun cE=> ?_) fun cE=> ?_;refine bO 11 J ?_;obtain ⟨svs,cB,aJ⟩:=(aD i U).wk aC;obtain ⟨bw,bz,c3,cm,cM⟩:=Tg.parts (w:=E) (B:=B) (e:=63) (n:=(b.aW.getD i []).length) (xs:=dw svs) cB (m:=2) (by rw [vK,aJ.1]) aM;have cL:(b.aW.getD i []).length≤1048576:=(aF.aW _<|iX<|by rw [aF.pw]; omega).2.1;have cH:au E.heap I (0 +3 +((i:Nat):Int).toNat*1)=some (.slice bw (b.aW.getD i []).length bz):=by rw [bV aL,j0 U,hold i (aZ _) U,c3]
 refine aE 4 J<|p (eK gG J J U)<|p (ay J<|cH)<|e<|aQ (Ey bw (b.aW.getD i []).length bz (dw svs) E cm (by rw [vK,aJ.1]) cM (Ip aJ) cL) J ?_;rintro dA dB ⟨bo,a2⟩;obtain ⟨O,ac,rfl⟩:=dg bo;have dr:=a2.size;have bI:=Wk.an a2 aL;refine ai 1 J<|p (eK gG J J U)<|e<|dq yA J J (v:= .slice O (b.aW.getD i []).length ac) J bI (by simp only [bQ,dd,fP,bq]; omega) fun aP a4 cj=> ?_;have dx:=a4.size;have bJ:aP.heap[I]? =some (.cells ([aB (b.least),str b.tr,.slice Z b.bE.length ab]++ws.set i (.slice O (b.aW.getD i []).length ac)).toArray 42 (0,0)):=by rw [← vG]; exact cj
 have cT:bu aP E.heap.size 63 2 (.slice O (b.aW.getD i []).length ac) (b.aW.getD i []).length (dw svs):=cG bo a4 fun k C h=>by have :=(cK bo C).1; omega
 have cu:Md (fun k=>k=I) E aP:=(a2.mono fun _ _ h=>h.elim).trans a4;have cI:au aP.heap I (0 +3 +((i:Nat):Int).toNat*1)=some (.slice O (b.aW.getD i []).length ac):=by rw [bV bJ,j0 (by rw [fy]; omega),o8 U]
 have cx:ff aP w.heap.size 0 svs (b.aW.getD i []):=ff.md (et.q<|et.wk aJ a2) a4 fun k C cur z h=>by subst C; rw [bI] at h; cases h
 refine ai 6 J<|p (eK gG J J U)<|p (ay J<|cI)<|aH 5 J<|lp (fun ar b5 L=> ∃ (k:Nat) (us:List (Bool×ag)),(k≤(b.aW.getD i []).length)∧(us.length=(b.aW.getD i []).length)∧(bu L E.heap.size 63 2 (.slice O (b.aW.getD i []).length ac) (b.aW.getD i []).length<|dw us)∧(ff L w.heap.size k us<|b.aW.getD i [])∧(L.heap[I]? =some (.cells ([aB (b.least),str b.tr,.slice Z b.bE.length ab]++ws.set i (.slice O (b.aW.getD i []).length ac)).toArray 42 (0,0)))∧(Md (fun k=>k=I) E L)∧(Sl b5 [(0,aK aO),(2,aK aY),(3,aK I),(4,aB i),(17,aB i),(32,aB ((b.aW.getD i []).length)),(33,aB k)])∧((b.aW.getD i []).length - k=ar)) _ ⟨0,svs,U,aJ.1,cT,cx,bJ,cu,J,J⟩ ?_;rintro ar b5 L ⟨k,us,C,bY,aN,bg,bi,ad,c2,rfl⟩;refine bC c2<|bN 6 J<|cd J (fun cF=> ?_) fun cF=> ?_;refine bO 10 J ?_;have bM:au L.heap I (0 +3 +((i:Nat):Int).toNat*1)=some (.slice O (b.aW.getD i []).length ac):=by rw [bV bi,j0 (by rw [fy]; omega),o8 U]
 have bD:=(eM aN).2;obtain ⟨q,bp⟩:∃ q,us[k]? =some q:=⟨_,bG U⟩
 have bm:(b.aW.getD i [])[k]? =some (av (b.aW.getD i []) k):=sg U;have bT:=bt.ok bD<|gK (f:=fun q:Bool×ag=> [bl q.1,q.2]) (m:=2) (fun _=>rfl) aM U;obtain ⟨cZ,bU,_⟩:=bg.2 k q _ bp bm;generalize bL:(av (b.aW.getD i []) k).2=es at bU;obtain ⟨bx,bA,c4,cn,cN⟩:=Tg.parts (w:=L) (B:=0) (e:=65) (n:=es.length) (xs:=dT es) bU (m:=2) (yX _) aM;have dk:es.length≤256:=by rw [← bL]; exact (aF.aW _<|iX<|by rw [aF.pw]; omega).2.2 _ (kz bm) |>.1
 have cJ:au L.heap (bk O) (fo O+k*2 +1)=some (.slice bx es.length bA):=by
  rw [eU (f:=fun q:Bool×ag=> [bl q.1,q.2]) (m:=2) (fun _=>rfl) bD bp 1 U,← c4]; rfl
 refine Ah 16 fun V=>ey [0,1] J V<|jb 2 J (eK gG J J U) V<|vn 3 J V (bM)<|ey [4,5,6] J V<|jb 7 J (eK gG J J U) V<|vn 8 J V (bM)<|ey [9] J V<|jb 10 J (bK fV J J U<|bT) V<|ey [11] J V<|vn 12 J V (cJ)<|gP 13 J aj<|aQ (Ew bx es.length bA (dT es) L.drew (cn.wk (Md.refl _ _).drew) (yX _) cN (Fi _) U) J ?_;rintro a6 bv ⟨bS,aw⟩;have du:=aw.size;have bh:(fun w'=>Wk L w') bv:=V.trans aw;refine ⟨bh,?_⟩;refine gP 14 J aj<|g8 (bK fV J J U<|bT) ⟨bh,?_⟩;refine gP 15 J aj<|g8 (fa FM J) ⟨bh,?_⟩;refine nw 16 J aj aj<|BK (j:=k*2 +1) (u:=a6) (bZ aN<|Md.eT aw) yC J J (pE bS) (by rw [fO]; omega) U fun b1 aI bR=> ?_;have dl:=aI.size;have b0:∀ k,(dH O (b.aW.getD i []).length ac).ownBlock=some k→E.heap.size≤k:=fun k h=>(cK aN h).1;have a8:Wk L bv:=Md.eT aw;have cv:Md (fun k=>k=I) E b1:=(ad.trans<|a8.mono fun _ _ h=>h.elim).trans' aI fun k C h=>by have :=b0 k h; omega
 have cC:bu bv w.heap.size 65 2 a6 es.length (dT es):=nH bS<|by have :=aC.size; have :=ad.size; show w.heap.size≤L.heap.size; omega
 have bW:=j8 (e':=65) (bZ aN a8) aM;have cw:ff b1 w.heap.size (k+1) (us.set k (q.1,a6)) (b.aW.getD i []):=ff.set (ff.md (ff.md bg a8 fun _ h=>h.elim) aI bW) bm cZ<|by rw [bL]; exact nG cC aI fun k C _=>bW k C
 exact ny aj<|bf 6 J<|tn<|⟨_,U,k+1,us.set k (q.1,a6),U,(by rw [fy]; exact bY),(by rw [Bo _ _ _ U,show us.getD k (false,.nilFunc)=q from by rw [cr,bp]; rfl] at bR; exact bR),cw,(aI.an (Wk.an aw bi) fun h=>by have :=b0 I h; omega),cv,J,J⟩
 refine aG 2 J<|b9<|c9 3 J ?_;obtain rfl :k=(b.aW.getD i []).length:=U;have cq:Wk w L:=aC.trans' ad fun k C h=>by omega
 have cO:∀ j,j < i+1→fA L w.heap.size ((ws.set i<|.slice O (b.aW.getD i []).length ac).getD j .nilFunc) (b.aW.getD j []):=fun j ae=>by
  by_cases h:j=i;subst h;rw [o8 U];exact ⟨us,nH aN (show w.heap.size≤E.heap.size from aC.size),bY,ff.p bg⟩;rw [q8 U];exact (aq j U).md ad fun k C hb cur z=>by subst C; rw [aL]; exact ⟨by simp,by simp⟩
 exact aG 4 J<|tn<|⟨_,U,i+1,ws.set i (.slice O (b.aW.getD i []).length ac),U,(by rw [fy]; exact bq),bi,(ad.an a0 fun h=>by omega),(cG a5 ad fun k C h=>j8 a5 aM k C _ _<|h ▸ aL),cO,(fun j h1 b6=>by rw [q8 U]; exact hold j U b6),cq,(by have :=ad.size; omega),J,J⟩
 refine aG 2 J<|b9<|c9 3 J ?_;obtain rfl :i=4:=U;obtain ⟨al,am,ao,ap,rfl⟩:=four bq;have c6:al.oneCell'=true :=by obtain ⟨a,c,h,_⟩:=(aq 0 U).g.dW; rw [show al=_ from h]; rfl
 have c8:am.oneCell'=true :=by obtain ⟨a,c,h,_⟩:=(aq 1 U).g.dW; rw [show am=_ from h]; rfl
 have db:ao.oneCell'=true :=by obtain ⟨a,c,h,_⟩:=(aq 2 U).g.dW; rw [show ao=_ from h]; rfl
 have dc:ap.oneCell'=true :=by obtain ⟨a,c,h,_⟩:=(aq 3 U).g.dW; rw [show ap=_ from h]; rfl
 refine aE 1 J<|p (dn jo J (J) (show ∀ j,j < 7→au E.heap I (0 +j)=([aB (b.least),str b.tr,.slice Z b.bE.length ab,al,am,ao,ap]:List ag)[j]? from fun j ae=>by rw [cy,bV aL]; simp))<|e<|da jR J J J (by simp only [kp,mS,c6,c8,db,dc]; rfl) a0 aM fun a7 a9 b8=> ?_;have co:Wk w a7:=aC.trans' a9 fun k C h=>by omega
 have ct:∀ j,j < 4→fA a7 w.heap.size ([al,am,ao,ap].getD j .nilFunc) (b.aW.getD j []):=fun j ae=>(aq j ae).md a9 fun k C hb cur z=>by subst C; rw [a0]; exact ⟨by simp,by simp⟩
 have cU:=cG a5 a9 fun k C h=>j8 a5 aM k C _ _<|h ▸ a0;have ca:ax a7.heap aY [aB (b.least),str b.tr,.slice Z b.bE.length ab,al,am,ao,ap]:=⟨_,b8⟩
 exact aA 3 J<|np J (gz (cs:= [aB (b.least),str b.tr,.slice Z b.bE.length ab,al,am,ao,ap]) J jo J fun j ae=>ca.aU j)<|⟨Z,ab,[al,am,ao,ap],J,J,cU,ct,co⟩
end Go.Hb.lE
end
section
namespace Go.Hb.xI
open Go.Hb.gl Go.Hb.iJ Go.Hb.dj Go.Hb.lE
def dB (w:ah) (A M:Nat) (v:ag) (l:List aF):Prop :=(∀ k,v.ownBlock=some k→k < M)∧∃ svs:List (Bool×ag),bu w A 63 2 v l.length (dw svs)∧svs.length=l.length∧∀ (i:Nat) q e,svs[i]? =some q→l[i]? =some e→(∃ xs,bu w A 65 2 q.2 e.2.length xs)∧∀ k,q.2.ownBlock=some k→k < M
section
variable {w w':ah} {A A0 M n0 k:Nat} {v v0:ag} {l:List aF} {f:Bool} {xs0:List ag}
theorem fA.aw (h:fA w A v l):dB w A w.heap.size v l:=by
 obtain ⟨svs,h1,J,E⟩:=h;exact ⟨fun k C=>(cK h1 C).2,svs,h1,J,fun i q e I he=>⟨⟨_,(E i q e I he).2⟩,fun k C=>(cK (E i q e I he).2 C).2⟩⟩
theorem dB.md {F:Nat→Prop} (h:dB w A M v l) (hm:Md F w w') (E:∀ k,F k→A≤k→∀ cur z,w.heap[k]?≠some (.cells cur 63 z)∧w.heap[k]?≠some (.cells cur 65 z)):dB w' A M v l:=by
 obtain ⟨L,svs,h1,I,J⟩:=h;refine ⟨L,svs,nG h1 hm fun k C hb cur z=>(E k C hb cur z).1,I,fun i q e O he=> ?_⟩;obtain ⟨⟨xs,U⟩,hl⟩:=J i q e O he;exact ⟨⟨xs,nG U hm fun k C hb cur z=>(E k C hb cur z).2⟩,hl⟩
theorem dB.wk (h:dB w A M v l) (hm:Wk w w'):dB w' A M v l:=h.md hm fun _ C=>C.elim
theorem Bp:∀ (svs:List (Bool×ag)) (k:Nat) (f:Bool),k < svs.length→(dw svs).set (k*2) (.bool f)=dw (svs.set k (f,(svs.getD k (false,.nilFunc)).2))
 | [],k,f,h=>by simp at h
 | q::svs,0,f,_=>by simp [dw]
 | q::svs,k+1,f,h=>by
   have ih:=Bp svs k f<|by simpa using h
   rw [oH,oA];show (bl q.1::q.2::dw svs).set ((k+1)*2) (.bool f)= .bool q.1::q.2::dw _;rw [show (k+1)*2=(k*2)+1 +1 by omega,oH,oH,ih]
theorem dB.flag (h:dB w A M v l) (hm:Md (fun k=>v0.ownBlock=some k) w w') (h0:bu w A0 63 2 v0 n0 xs0) (ah:∀ B' I J ac,bu w B' 63 2 J I ac→bu w' B' 63 2 J I ac∨bu w' B' 63 2 J I (ac.set (k*2)<|.bool f)):dB w' A M v l:=by
 obtain ⟨ab,svs,h1,Z,U⟩:=h;have V:∀ J I xs,bu w A 65 2 J I xs→bu w' A 65 2 J I xs:=fun J I xs C=>cG C hm fun k O ai=>vm C h0 aM O ai;rcases ah _ _ _ _ h1 with L | L
 · refine ⟨ab,svs,L,Z,fun i q e E he=> ?_⟩;obtain ⟨⟨xs,C⟩,hl⟩:=U i q e E he;exact ⟨⟨xs,V _ _ _ C⟩,hl⟩
 · by_cases O:k < svs.length
   · rw [Bp _ _ _ O] at L;refine ⟨ab,_,L,by rw [fy]; exact Z,fun i q e E he=> ?_⟩;by_cases ae:k=i
     · subst ae;rw [xz O] at E;cases E;have ag:=U k _ e (bG O) he;have ad:(svs.getD k (false,.nilFunc)).2=svs[k].2:=by rw [cr,bG O]; rfl
       obtain ⟨⟨xs,C⟩,hl⟩:=ag;exact ⟨⟨xs,V _ _ _<|ad ▸ C⟩,ad ▸ hl⟩
     · rw [xy ae] at E;obtain ⟨⟨xs,C⟩,hl⟩:=U i q e E he;exact ⟨⟨xs,V _ _ _ C⟩,hl⟩
   · rw [List.set_eq_of_length_le (by rw [vK]; omega)] at L;refine ⟨ab,svs,L,Z,fun i q e E he=> ?_⟩;obtain ⟨⟨xs,C⟩,hl⟩:=U i q e E he;exact ⟨⟨xs,V _ _ _ C⟩,hl⟩
theorem dB.ng (h:dB w A M v l) (hm:Md (fun k=>v0.ownBlock=some k) w w') (h0:bu w A0 65 2 v0 n0 xs0) (O:∀ B' C E ac,bu w B' 65 2 E C ac→∃ ad,bu w' B' 65 2 E C ad):dB w' A M v l:=by
 obtain ⟨L,svs,h1,I,J⟩:=h;refine ⟨L,svs,cG h1 hm (fun k V U=>vm h1 h0 aM V U),I,fun i q e Z he=> ?_⟩;obtain ⟨⟨xs,ab⟩,hl⟩:=J i q e Z he;exact ⟨O _ _ _ _ ab,hl⟩
end
end Go.Hb.xI
end
section
namespace Go.Hb
open Go.Hb.dR
open Go.Hb.gl
theorem GF {s:List UInt8} {a i:Nat} (h:a+i < s.length) (hb:(s.getD (a+i) 0).toNat < 128):(s.getD (a+i) 0).toNat=dv ((s.drop<|a+i).take<|i+1 - i):=by
 rw [show i+1 - i=1 by omega,drop_cons 0 h];show _=dv [s.getD (a+i) 0];rw [dv,dv]; omega
theorem GD {i b:Nat} (hi:i≤9) (hb:b < 128) (J:¬(i=9∧1 < b)):(b+1)*128 ^ i≤18446744073709551616:=by
 have I:(128:Nat) ^ 9=9223372036854775808:=aM;have E:(128:Nat) ^ 8=72057594037927936:=aM;rcases di i 9 with h | h
 · have h1:(128:Nat) ^ i≤128 ^ 8:=qx aM U;have C:=Nat.mul_le_mul (show b+1≤128 by omega) h1;omega
 · obtain rfl :i=9:=U;have C:=iH (128 ^ 9) (show b+1≤2 by omega);omega
theorem GC {s:List UInt8} {a i k:Nat} (h:k < i) (ha:a+i < s.length) (hb:128≤(s.getD (a+k) 0).toNat):dv ((s.drop<|a+k).take<|i+1 - k)=dv ((s.drop<|a+(k+1)).take<|i+1 - (k+1))*128 +((s.getD (a+k) 0).toNat - 128):=by
 rw [drop_cons (i:=a+k) 0 U,show i+1 - k=(i+1 - (k+1))+1 by omega,List.take_succ_cons,dv,Nat.add_assoc a k 1];have :=lD<|s.getD (a+k) 0;omega
theorem Ed {n c k:Nat} (h:(n+1)*128 ^ (k+1)≤18446744073709551616) (C:c < 128):(n*128 +c+1)*128 ^ k≤18446744073709551616:=by
 refine cS ?_ h;rw [Nat.pow_succ,xF (128 ^ k) 128,← Nat.mul_assoc];exact iH _ U
theorem Ee {n k:Nat} (h:(n+1)*128 ^ (k+1)≤18446744073709551616):n*128 +128≤18446744073709551616:=by
 have h1:128 ^ 1≤128 ^ (k+1):=qx aM U;have C:=xG (n+1) h1;omega
theorem H0 (s:List UInt8) (a:Nat):∃ n E C:Nat,vA (a0 s a)= .tuple #[.int .u64 (n:Nat),.int .i64 (E:Nat),.int .i64 (C:Nat)]∧((C=0∧a0 s a= .ok (n,E))∨(C≠0∧a0 s a= .error C)):=by
 cases h:a0 s a with
 | ok x=>exact ⟨x.1,x.2,0,rfl,.inl ⟨rfl,rfl⟩⟩
 | error e=>
   refine ⟨0,0,e,J,.inr ⟨?_,J⟩⟩;rcases vB h with h | h <;> omega
theorem HU (s:List UInt8) (a:Nat) (w:ah) (aX:s.length≤1048576) (ha:a≤s.length):
 bc ak 46 (bj [str s,aB a]) w (fun v w'=>v=vA (a0 s a)∧Wk w w'):=by
 refine enter func46 J ntmps46 J<|aV 10 J<|p mv<|ai 2 J<|gs (t:=13) J (fun h=>absurd h U) fun aT=>bw J mv<|bw J mv<|aH 5 J<|cd J (fun ar=> ?_) fun ar=> ?_;exact aG 9 J<|f3 J J J J<|⟨by rw [rS (ja (k:=0) U (fun j ac=>by omega)<|.inr<|.inl U) U U]; rfl,Md.refl _ _⟩
 refine bO 7 J ?_;refine ej (fun al ad=> ∃ (i:Nat),(i≤10)∧(∀ j,j < i→a+j < s.length∧128≤(s.getD (a+j) 0).toNat)∧(i=10∨s.length≤a+i∨(s.getD (a+i) 0).toNat < 128)∧(Wk w ad)∧(Sl al [(0,str s),(1,aB a),(7,aB i)])) ?_ ?_;refine bN 1 J<|lp (fun I am ag=> ∃ (i:Nat),(i≤10)∧(∀ j,j < i→a+j < s.length∧128≤(s.getD (a+j) 0).toNat)∧(Wk w ag)∧(Sl am [(0,str s),(1,aB a),(7,aB i)])∧(10 - i=I)) _ ⟨0,U,(fun j ac=>by omega),(Md.refl _ _),J,J⟩ ?_;rintro I am ag ⟨i,hi,E,O,aL,rfl⟩;refine bC aL<|aV 6 J<|gs (t:=21) J (fun aC=> ?_) fun aC=> ?_;refine ai 8 J<|gs (t:=29) J (fun aD=> ?_) fun aD=> ?_;refine ai 3 J<|bw J (cm<|a+i)<|bw J (eV u9 J J U)<|aH 4 J<|cd J (fun au=> ?_) fun au=> ?_;exact aE 5 J<|p (cm<|i+1)<|aA 3 J<|tn<|⟨_,U,i+1,U,(fun j ac=>by rcases di j i with h | h <;> first | exact E j h | (have ap:j=i:=U; subst ap; exact ⟨U,U⟩)),O,J,J⟩
 exact aG 2 J<|b9<|bf 1 J<|tn<|⟨i,hi,E,(.inr<|.inr U),O,J⟩
 exact aA 12 J<|b9<|bf 1 J<|tn<|⟨i,hi,E,(.inr<|.inl U),O,J⟩
 exact ai 7 J<|p mv<|aA 12 J<|b9<|bf 1 J<|tn<|⟨i,hi,E,(.inl U),O,J⟩
 rintro al ad ⟨i,hi,E,aO,C,aK⟩;refine bC aK ?_;have L:=ja (s:=s) (a:=a) (k:=i) hi E aO;refine bO 7 J<|cd J (fun av=> ?_) fun av=> ?_;exact aG 9 J<|f3 J J J J<|⟨by rw [A8 U]; rfl,C⟩
 refine bO 13 J<|cd J (fun aw=> ?_) fun aw=> ?_;exact aG 9 J<|f3 J J J J<|⟨by rw [rS L U U]; rfl,C⟩
 refine aE 7 J<|p (cm<|a+i)<|p (eV u9 J J U)<|aH 3 J ?_;refine ej (fun an ae=> ∃ (aQ:Unit),(¬((i=9∧1 < (s.getD (a+i) 0).toNat)∨(0 < i∧(s.getD (a+i) 0).toNat=0)))∧(Wk w ae)∧(Sl an [(0,str s),(1,aB a),(7,aB i),(8,.int .u8 (s.getD (a+i) 0).toNat)])) ?_ ?_;refine aV 5 J<|gs (t:=54) J (fun aF=> ?_) fun aF=> ?_;refine ai 4 J<|gs (t:=58) J (fun aI=> ?_) fun aI=> ?_;exact aA 18 J<|tr<|f3 J J J J<|⟨by rw [nP L U U U]; rfl,C⟩
 refine ai 3 J<|gs (t:=61) J (fun Z=> ?_) fun Z=> ?_;refine aH 6 J<|cd J (fun V=> ?_) fun V=> ?_;exact aG 8 J<|tr<|f3 J J J J<|⟨by rw [nP L U U U]; rfl,C⟩
 exact aG 1 J<|tn<|⟨(),U,C,J⟩
 exact ai 3 J<|p (rL J)<|aA 4 J<|tn<|⟨(),U,C,J⟩
 refine ai 3 J<|p mv<|ai 3 J<|gs (t:=61) J (fun Z=> ?_) fun Z=> ?_;refine aH 6 J<|cd J (fun V=> ?_) fun V=> ?_;exact aG 8 J<|tr<|f3 J J J J<|⟨by rw [nP L U U U]; rfl,C⟩
 exact aG 1 J<|tn<|⟨(),U,C,J⟩
 exact ai 3 J<|p (rL J)<|aA 4 J<|tn<|⟨(),U,C,J⟩
 rintro an ae ⟨aQ,ay,aq,aM⟩;refine bC aM<|aE 3 J<|p (gn n9 wz J<|gh U)<|aH 12 J<|lp (fun I ao aj=> ∃ (k n:Nat) (x:Int),(k≤i)∧(x=(k:Int) - 1)∧(n=dv ((s.drop<|a+k).take<|i+1 - k))∧((n+1)*128 ^ k≤18446744073709551616)∧(Wk w aj)∧(Sl ao [(0,str s),(1,aB a),(7,aB i),(9,.int .u64 (n:Nat)),(10,.int .i64 x)])∧(k=I)) _ ⟨i,(s.getD (a+i) 0).toNat,(i:Int) - 1,U,J,(GF U U),(GD U U U),aq,J,J⟩ ?_;rintro I ao aj ⟨k,n,x,aW,aY,hn,hb,ab,aN,rfl⟩;refine bC aN<|bN 7 J<|cd J (fun ax=> ?_) fun ax=> ?_;obtain ⟨k,rfl⟩:∃ aP:Nat,k=aP+1:=⟨k - 1,U⟩
 obtain rfl :x=(k:Int):=U;obtain ⟨aU,aJ⟩:=E k U;have aR:=Ee hb;have aS:=lD<|s.getD (a+k) 0;exact aE 6 J<|p (u7 ((n*128:Nat):Int) J J<|(gh U).trans U)<|ai 3 J<|p (cm<|a+k)<|p (eV u9 J J U)<|p (vC (((s.getD (a+k) 0).toNat - 128:Nat):Int) J J<|(wV U).trans U)<|p (gn n9 wz J<|gh U)<|p (tv ((n*128 +((s.getD (a+k) 0).toNat - 128):Nat):Int) J J<|(gh U).trans U)<|aA 9 J<|tn<|⟨_,U,k,n*128 +((s.getD (a+k) 0).toNat - 128),(k:Int) - 1,U,J,(by rw [hn]; exact (GC U U aJ).symm),(Ed hb U),ab,J,J⟩
 refine aG 2 J<|b9<|gN 7 J<|p (cm<|a+i)<|p (cm<|a+i+1)<|aA 6 J<|f3 J J J J ?_;obtain rfl :k=0:=U;rw [jl,Nat.sub_zero] at hn;subst hn;exact ⟨by rw [rR L U U ay]; rfl,ab⟩
theorem nA (rb:Nat) (s:List UInt8) (a f:Nat) (w:ah) (E:ax w.heap rb [str s,aB a,aB f]) (aF:s.length≤1048576) (ha:a≤s.length):
 bc ak 21 (bj [aK rb]) w (fun v w'=> ∃ n I q:Nat,v= .int .u64 (n:Nat)∧ax w'.heap rb [str s,aB I,aB q]∧I≤s.length∧n < 18446744073709551616∧((f=0∧q=0∧a0 s a= .ok (n,I))∨(q≠0∧n=0∧((f≠0∧q=f)∨(f=0∧a0 s a= .error q))))∧Md (fun k=>k=rb) w w'):=by
 refine enter func21 J ntmps21 J<|aV 8 J<|p mv<|ai 2 J<|p (ay J<|E.aU 2)<|aH 3 J<|cd J (fun av=> ?_) fun av=> ?_;exact aG 7 J<|aO J<|⟨0,a,f,J,E,ha,aM,.inr ⟨U,J,.inl ⟨U,J⟩⟩,Md.refl _ _⟩
 refine bO 3 J<|eh fun C=>cw 0 J (mv) C<|aJ [1,2] J C<|cR 3 J C (E.aU 0)<|cw 4 J (mv) C<|aJ [5,6] J C<|cR 7 J C (E.aU 1)<|he 8 J aj<|aQ (HU s a w.drew aF ha) J ?_;rintro v20 aL ⟨ad,L⟩;obtain ⟨n,I,am,aD,ae⟩:=H0 s a;rw [aD] at ad;subst ad;have Z:=Wk.B (Md.eT L) E;have ab:=(Md.eT L).mono (G:=fun k=>k=rb) fun _ _ h=>h.elim;have O:(fun w'=>Wk w w') aL:=C.trans L;refine ⟨O,?_⟩;refine cw 9 J (mv) O<|aJ [10,11,12,13,14,15] J O<|hn aj<|c9 8 J<|cd J (fun V=> ?_) fun V=> ?_;obtain ⟨ac,aI⟩:=ae.resolve_left fun h=>V<|by rw [h.1]; rfl
 refine aE 2 J<|p mv<|ai 3 J<|e<|st dK J J (J) (Z) (by simp) fun aP aq an=> ?_;have ap:=ab.trans aq;exact aA 9 J<|aO J<|⟨0,a,am,J,an,ha,aM,.inr ⟨ac,J,.inr ⟨U,aI⟩⟩,ap⟩
 obtain ⟨ac,ag⟩:=ae.resolve_right fun h=>V U;obtain ⟨aN,aw,aC⟩:=iy ag;refine aE 4 J<|p mv<|ai 3 J<|e<|st dK J J (J) (Z) (by simp) fun aR au ao=> ?_;have ar:=ab.trans au;exact aA 9 J<|aO J<|⟨n,I,0,J,(by have al:f=0:=U; subst al; exact ao),aw,aC,.inl ⟨U,J,ag⟩,ar⟩
theorem ux (rb:Nat) (s:List UInt8) (a f:Nat) (w:ah) (al:ax w.heap rb [str s,aB a,aB f]) (aI:s.length≤1048576) (ha:a≤s.length):
 bc ak 22 (bj [aK rb]) w (fun v w'=> ∃ (x:List UInt8) (E q:Nat),v=str x∧ax w'.heap rb [str s,aB E,aB q]∧E≤s.length∧x.length≤255∧((f=0∧q=0∧cF s a= .ok (x,E))∨(q≠0∧((f≠0∧q=f)∨(f=0∧cF s a= .error q))))∧Md (fun k=>k=rb) w w'):=by
 refine enter func22 J ntmps22 J<|aV 7 J<|p mv<|e<|aQ (nA rb s a f w al aI<|ha) J ?_;rintro aT aW ⟨n,E,q,rfl,L,ad,aS,ae,V⟩;refine ai 6 J<|p mv<|ai 2 J<|p (ay J<|L.aU 2)<|aH 3 J<|cd J (fun ab=> ?_) fun ab=> ?_;obtain ⟨_,_,aC⟩:=ae.resolve_left fun h=>ab<|by rw [h.2.1]; rfl
 exact aG 7 J<|aO J<|⟨[],E,q,J,L,ad,aM,.inr ⟨U,aC.imp id fun ⟨ag,h⟩=>⟨ag,zA h⟩⟩,V⟩
 obtain ⟨ac,rfl,Z⟩:=ae.resolve_right fun h=>ab U;obtain ⟨aN,aP,aR⟩:=iy Z;refine bO 9 J<|cd J (fun aD=> ?_) fun aD=> ?_;refine aE 2 J<|p mv<|ai 2 J<|e<|st dK J J (J) (L) (by simp) fun aX ar an=> ?_;have au:=V.trans ar;exact aA 9 J<|aO J<|⟨[],E,62,J,an,ad,aM,.inr ⟨aM,.inr ⟨ac,zB Z U⟩⟩,au⟩
 refine bO 4 J<|eh fun I=>aJ [0] J I<|cw 1 J (gn u3 k9 J<|iA U) I<|cw 2 J (mv) I<|aJ [3,4] J I<|cR 5 J I (L.aU 0)<|aJ [6] J I<|cw 7 J (mv) I<|aJ [8,9] J I<|cR 10 J I (L.aU 1)<|aJ [11,12] J I<|hn aj<|c9 1 J<|cd J (fun aF=> ?_) fun aF=> ?_;refine aE 2 J<|p mv<|ai 2 J<|e<|st dK J J (J) (L) (by simp) fun aY av ao=> ?_;have aw:=V.trans<|Md.eT av;exact aA 9 J<|aO J<|⟨[],E,60,J,ao,ad,aM,.inr ⟨aM,.inr ⟨ac,zC Z U U⟩⟩,aw⟩
 refine aE 4 J<|p mv<|p mv<|ai 2 J<|p (ay J<|L.aU 1)<|ai 1 J<|p (gn u3 k9 J<|iA U)<|p (cm<|E+n)<|ai 2 J<|e<|st dK J J (J) (L) (by simp) fun aL ap am=> ?_;have aq:=V.trans<|Md.eT ap;have O:ax aL.heap rb [str s,aB (E+n),aB 0]:=am;exact aH 3 J<|eh fun C=>cw 0 J (mv) C<|aJ [1,2] J C<|cR 3 J C (O.aU 0)<|cw 4 J (mv) C<|aJ [5,6] J C<|cR 7 J C (O.aU 1)<|aJ [8] J C<|cw 9 J (gn u3 k9 J<|iA U) C<|cw 10 J (pL<|E) C<|cw 11 J (mv) C<|aJ [12,13] J C<|cR 14 J C (O.aU 1)<|cw 15 J (r6 u9 J J J U) C<|aJ [16] J C<|hn aj<|bf 2 J<|aO J<|⟨(s.drop E).take n,E+n,0,(by rw [← Bw]; rfl),Wk.B C O,U,by rw [cC]; omega,.inl ⟨ac,J,zD Z U U⟩,Md.trans aq<|Md.mono C fun _ _ h=>h.elim⟩
theorem Fg (rb:Nat) (s:List UInt8) (a n:Nat) (w:ah) (aq:ax w.heap rb [str s,aB a,aB 0]) (bq:s.length≤1048576) (ha:a≤s.length) (bA:n≤1048576):
 bc ak 49 (bj [aK rb,.int .u64 (n:Nat)]) w (fun v w'=> ∃ (c:UInt8) (t:Int) (I q:Nat),v= .agg #[aT .u8 c.toNat,.int .i64 t]∧ax w'.heap rb [str s,aB I,aB q]∧I≤s.length∧((q=0∧dL s n a= .ok ((c,t),I))∨(q≠0∧dL s n a= .error q))∧Md (fun k=>k=rb) w w'):=by
 have bB:=aq.lt;refine enter func49 J ntmps49 J<|aV 2 J<|e<|c7 Ci fun ab bI bx ae ar=> ?_;have bE:=ae.size;have O:=Wk.B ae.md aq;refine aH 4 J<|eh fun C=>cw 0 J (mv) C<|aJ [1,2] J C<|cR 3 J C (O.aU 1)<|cw 4 J (mv) C<|aJ [5,6] J C<|cR 7 J C (O.aU 0)<|aJ [8,9] J C<|hn aj<|c9 1 J<|cd J (fun bn=> ?_) fun bn=> ?_;refine aE 2 J<|p mv<|ai 2 J<|e<|st dK J J (J) (O) (by simp) fun bJ aw a6=> ?_;have bi:=aw.an ar fun h=>by omega
 refine ai 4 J<|p (dt (ps:= []) (L:= [.int .u8 0,.int .i64 0]) sf J<|J)<|e<|da qM J J J J bi (by simp) fun bv aC a7=> ?_;have a8:ax bv.heap ab [aT .u8 0,.int .i64 0]:=⟨_,a7⟩
 have bg:=aC.B a6 fun h=>by omega
 have bh:=((ae.md.mono fun _ _ h=>h.elim).trans (Md.mono C (fun _ _ h=>h.elim) |>.trans aw)).trans' aC fun k aS h=>by omega
 exact aA 4 J<|np J (gz (cs:= [aT .u8 0,.int .i64 0]) J m4 J fun j aR=>a8.aU j)<|⟨0,0,a,60,J,bg,ha,.inr ⟨aM,yZ U⟩,bh⟩
 refine bO 3 J<|eh fun E=>cw 0 J (mv) E<|aJ [1,2] J E<|cR 3 J E (O.aU 0)<|cw 4 J (mv) E<|aJ [5,6] J E<|cR 7 J E (O.aU 1)<|cw 8 J (eV u9 J J U) E<|aJ [9] J E<|hn aj<|gN 3 J<|p mv<|p mv<|ai 2 J<|p (ay J<|O.aU 1)<|p (cm<|a+1)<|ai 2 J<|e<|st dK J J (J) (O) (by simp) fun aZ aF ba=> ?_;have a9:ax aZ.heap rb [str s,aB (a+1),aB 0]:=ba;have bl:=aF.an ar fun h=>by omega
 refine ai 4 J<|p mv<|e<|aQ (nA rb s (a+1) 0 aZ a9 bq U) J ?_;rintro bG bH ⟨t,I,q,rfl,ad,aX,bz,aY,aD⟩;have am:=aD.an bl fun h=>by omega
 have V:=(((ae.md.mono (G:=fun k=>k=rb) fun _ _ h=>h.elim).trans<|Md.mono C fun _ _ h=>h.elim).trans<|Md.mono E fun _ _ h=>h.elim).trans<|aF.trans aD;refine aH 3 J ?_;refine ej (fun a0 ac=> ∃ (Z:Nat),(ax ac.heap rb [str s,aB I,aB Z])∧((Z=0∧dL s n a= .ok ((s.getD a 0,((t:Nat):Int)),I)∧t < n)∨(Z≠0∧dL s n a= .error Z))∧(ac.heap[ab]? =some (.cells [aT .u8 0,.int .i64 0].toArray 103 (0,0)))∧(Md (fun k=>k=rb) w ac)∧(w.heap.size≤ac.heap.size)∧(Sl a0 [(0,aK rb),(1,.int .u64 (n:Nat)),(4,aK ab),(5,.int .u8 (s.getD a 0).toNat),(6,.int .u64 (t:Nat))])) ?_ ?_;refine aV 2 J<|p mv<|ai 2 J<|p (ay J<|ad.aU 2)<|ai 2 J<|gs (t:=45) J (fun aP=> ?_) fun aP=> ?_;have aL:=(aY.resolve_right fun h=>h.1 U).2.2;refine ai 1 J<|bw J mv<|aH 4 J<|cd J (fun bo=> ?_) fun bo=> ?_;refine aE 1 J<|p mv<|ai 2 J<|e<|st dK J J (J) (ad) (by simp) fun bK al bb=> ?_
 skip
 exact aA 1 J<|tn<|⟨190,bb,(.inr ⟨aM,y8 U aL U⟩),(al.an am fun h=>by omega),(V.trans al),((V.trans al).size),J⟩
 exact aG 1 J<|tn<|⟨0,((by have a1:q=0:=U; subst a1; exact ad)),(.inl ⟨J,y9 U aL U,U⟩),am,V,V.size,J⟩
 have aO:=aY.resolve_left fun h=>aP<|by rw [h.2.1]; rfl
 exact aA 8 J<|tn<|⟨q,ad,(.inr ⟨aO.1,aO.2.2.elim (fun h=>absurd J h.1) fun h=>y7 U h.2⟩),am,V,V.size,J⟩
 rintro a0 ac ⟨Z,ag,ap,aN,aI,bF,br⟩;refine bC br<|aE 6 J<|p (ay J<|ag.aU 2)<|aH 3 J<|cd J (fun ao=> ?_) fun ao=> ?_;obtain ⟨bp,bm⟩:=ap.resolve_left fun h=>ao<|by rw [h.1]; rfl
 refine aE 2 J<|p (dt (ps:= []) (L:= [.int .u8 0,.int .i64 0]) sf J<|J)<|e<|da qM J J J J aN (by simp) fun bt au a2=> ?_;have a3:ax bt.heap ab [aT .u8 0,.int .i64 0]:=⟨_,a2⟩
 have bd:=au.B ag fun h=>by omega
 exact aA 4 J<|np J (gz (cs:= [aT .u8 0,.int .i64 0]) J m4 J fun j aR=>a3.aU j)<|⟨0,0,I,Z,J,bd,aX,.inr ⟨bp,bm⟩,aI.trans' au fun k aS h=>by omega⟩
 obtain ⟨rfl,aW⟩:=ap.resolve_right fun h=>ao U;have bD:=aW.2;refine aE 6 J<|p (gn u3 k9 J<|iA U)<|p (dt (ps:= [(0,aT .u8 (s.getD a 0).toNat),(1,aB t)]) (L:= [aT .u8 (s.getD a 0).toNat,aB t]) sf J<|J)<|e<|da qM J J J J aN (by simp) fun bu av a4=> ?_;have a5:ax bu.heap ab [aT .u8 (s.getD a 0).toNat,aB t]:=⟨_,a4⟩
 have bf:=av.B ag fun h=>by omega
 exact aA 3 J<|np J (gz (cs:= [aT .u8 (s.getD a 0).toNat,aB t]) J m4 J fun j aR=>a5.aU j)<|⟨s.getD a 0,(t:Nat),I,0,J,bf,aX,.inl ⟨J,aW.1⟩,aI.trans' av fun k aS h=>by omega⟩
end Go.Hb
end
section
namespace Go.Hb
open Go.Hb.dR
theorem G8 {l:List UInt8} {j:Nat} {b:UInt8} (h:j < l.length):b∈l.take (j+1)↔b∈l.take j∨l.getD j 0=b:=by
 rw [wg l j 0 h,List.mem_append,List.mem_singleton,eq_comm (a:=b)]
theorem vq (s:List UInt8) (w:ah) (ae:s.length≤1048576):
 bc ak 48 (bj [str s]) w (fun v w'=>v= .bool (fi s)∧Wk w w'):=by
 refine enter func48 J ntmps48 J<|bN 12 J<|lp (fun E O L=> ∃ (i:Nat),(i≤s.length)∧(∀ j,j < i→eJ (s.getD j 0)=true)∧(Wk w L)∧(Sl O [(0,str s),(3,.int .i64 i)])∧(s.length - i=E)) _ ⟨0,U,(fun j I=>by omega),(Md.refl _ _),J,J⟩ ?_;rintro E O L ⟨i,hi,hp,C,ac,rfl⟩;refine bC ac<|bN 9 J<|cd J (fun Z=> ?_) fun Z=> ?_;refine aE 8 J<|p (eV u9 J J U)<|ai 2 J<|gs (t:=14) J (fun ab=> ?_) fun ab=> ?_;exact aA 16 J<|tr<|bf 2 J<|aO J<|⟨by show bl false =_; rw [oS (i:=i) U (ur U)],C⟩
 refine ai 2 J<|bw J (eV u9 J J U)<|aH 4 J<|cd J (fun V=> ?_) fun V=> ?_;exact aG 8 J<|tr<|bf 2 J<|aO J<|⟨by show bl false =_; rw [oS (i:=i) U (ur U)],C⟩
 have ad:eJ (s.getD i 0)=true :=FJ U U;exact aG 8 J<|tn<|⟨_,U,i+1,U,(fun j I=>by rcases di j i with h | h <;> first | exact hp j h | (rw [show j=i by omega]; exact ad)),C,J,J⟩
 exact aG 2 J<|b9<|bf 8 J<|aO J<|⟨by show bl true =_; rw [qJ (fun j I=>hp j U)],C⟩
theorem HL (s:List UInt8) (w:ah) (a3:s.length≤1048576):
 bc ak 47 (bj [str s]) w (fun v w'=>v= .tuple #[str (letE s).1,.int .i64 (letE s).2]∧Wk w w'):=by
 refine enter func47 J ntmps47 J<|aV 9 J<|e<|aQ (vq s _ a3) J ?_;rintro v10 ba ⟨rfl,ae⟩;refine ai 10 J<|gs (t:=14) J (fun ax=> ?_) fun ax=> ?_;exact aA 14 J<|f2 J J J<|⟨by show iF #[str [],.int .i64 21]=_; unfold letE; rw [if_pos (.inl<|sT.1 U)]; rfl,ae⟩
 refine aH 5 J<|cb J (fun al=> ?_) fun al=> ?_;exact aG 8 J<|f2 J J J<|⟨by show iF #[str [],.int .i64 21]=_; unfold letE; rw [if_pos (.inr<|by simpa using al)]; rfl,ae⟩
 refine aE 4 J<|e<|qI jC fun aI aK a8 aU aS=> ?_;have a2:bu aK w.heap.size 5 1 (.slice (some ⟨aI,0,none⟩) 0 0) (([]:List UInt8)).length (U8<|([]:List UInt8)):=aS _<|by have :=ae.size; omega
 have aT:Wk w aK:=Md.trans ae aU.md;refine aH 10 J<|lp (fun Z aM an=> ∃ (i:Nat) (aC:ag),(i≤s.length)∧(bu an w.heap.size 5 1 (aC) (lets<|s.take i).length<|U8<|lets<|s.take i)∧(Wk w an)∧(Sl aM [(0,str s),(5,aC),(6,.int .i64 i)])∧(s.length - i=Z)) _ ⟨0,.slice (some ⟨aI,0,none⟩) 0 0,U,a2,aT,J,J⟩ ?_;rintro Z aM an ⟨i,aC,hi,E,ab,a4,rfl⟩;refine bC a4 ?_;obtain ⟨ao,aq,rfl⟩:=dg E;have a0:=uR<|s.take i;rw [cC] at a0;refine bN 9 J<|cd J (fun aX=> ?_) fun aX=> ?_;refine bO 16 J<|lp (fun Z aN aL=> ∃ (j:Nat) (ob:Bool),(j≤(lets<|s.take i).length)∧(ob=decide (s.getD i 0∈(lets<|s.take i).take j))∧(Wk an aL)∧(Sl aN [(0,str s),(5,.slice ao (lets<|s.take i).length aq),(6,.int .i64 i),(7,.bool ob),(8,.int .i64 j)])∧((lets<|s.take i).length - j=Z)) _ ⟨0,false,U,J,(Md.refl _ _),J,J⟩ ?_;rintro Z aN aL ⟨j,ob,a9,am,C,a5,rfl⟩;refine bC a5<|aV 8 J<|gs (t:=29) J (fun aP=> ?_) fun aP=> ?_;refine aH 5 J<|cb J (fun aw=> ?_) fun aw=> ?_;have a1:¬s.getD i 0∈(lets<|s.take i).take j:=of_decide_eq_false<|by rw [← am]; simpa using aw
 exact bO 4 J<|eh fun V=>aJ [0,1] J V<|cw 2 J (bK o5 J J U<|bt.ok ((eM<|bZ E C).2)<|Jl U) V<|cR 3 J V (Jj (i:=j) (eM<|bZ E C).2 U)<|aJ [4,5] J V<|cw 6 J (eV u9 J J U) V<|aJ [7,8] J V<|hn aj<|bf 7 J<|tn<|⟨_,U,j+1,decide (((lets<|s.take i).getD j 0).toNat=((s.getD i 0).toNat:Int)),U,(decide_eq_decide.2<|by rw [G8 U]; constructor <;> intro h <;> first | exact .inr (lC.1 U) | (rcases h with h | h <;> first | exact absurd h a1 | (rw [h]))),(Md.trans C (Md.refl _ _).drew),J,J⟩
 have ad:ob=decide (s.getD i 0∈lets (s.take i)):=by
  have h1:ob=true :=by simpa using aw
  rw [h1] at am;rw [h1]; exact (decide_eq_true<|List.mem_of_mem_take<|of_decide_eq_true am.symm).symm
 refine aG 2 J<|b9<|c9 8 J<|cb J (fun L=> ?_) fun L=> ?_;have O:¬s.getD i 0∈lets (s.take i):=of_decide_eq_false<|by rw [← ad]; simpa using L
 refine aE 4 J<|p (eV u9 J J U)<|e<|oQ jC J J fun aO aF aW I ar=> ?_;have ac:Wk w aF:=Md.trans (Md.trans ab C) I.md;refine e<|ap jC (bZ (bZ E C) I.md) J (by have :=ac.size; omega) J (bt.gS ar) (J) (J) U U fun aD a7 ay av a6 aY=> ?_;have au:=Wk.own ac (bZ (bZ E C) I.md) av<|aZ _;have aB:=AN ay;exact p aR<|aA 8 J<|tn<|⟨_,U,i+1,aD,U,(by rw [kT U,if_neg O]; exact aB),au,J,J⟩
 have O:s.getD i 0∈lets (s.take i):=of_decide_eq_true<|by rw [← ad]; simpa using L
 exact aG 8 J<|tn<|⟨_,U,i+1,.slice ao (lets<|s.take i).length aq,U,(by rw [kT U,if_pos O]; exact bZ E C),(Md.trans ab C),J,J⟩
 have ad:ob=decide (s.getD i 0∈lets (s.take i)):=by rw [am,jj U]
 refine aA 8 J<|b9<|c9 8 J<|cb J (fun L=> ?_) fun L=> ?_;have O:¬s.getD i 0∈lets (s.take i):=of_decide_eq_false<|by rw [← ad]; simpa using L
 refine aE 4 J<|p (eV u9 J J U)<|e<|oQ jC J J fun aO aF aW I ar=> ?_;have ac:Wk w aF:=Md.trans (Md.trans ab C) I.md;refine e<|ap jC (bZ (bZ E C) I.md) J (by have :=ac.size; omega) J (bt.gS ar) (J) (J) U U fun aD a7 ay av a6 aY=> ?_;have au:=Wk.own ac (bZ (bZ E C) I.md) av<|aZ _;have aB:=AN ay;exact p aR<|aA 8 J<|tn<|⟨_,U,i+1,aD,U,(by rw [kT U,if_neg O]; exact aB),au,J,J⟩
 have O:s.getD i 0∈lets (s.take i):=of_decide_eq_true<|by rw [← ad]; simpa using L
 exact aG 8 J<|tn<|⟨_,U,i+1,.slice ao (lets<|s.take i).length aq,U,(by rw [kT U,if_pos O]; exact bZ E C),(Md.trans ab C),J,J⟩
 exact aG 2 J<|b9<|gN 5 J<|p (oW yf J ((eM E).2)<|J)<|aA 5 J<|f2 J J J<|⟨by show iF #[str (lets<|s.take i),.int .i64 0]=_; unfold letE; rw [if_neg (fun h=>h.elim (fun h=>by rw [h] at ax; exact ax J) fun h=>by rw [h] at al; cases al),show s.take i=s from jj U]; rfl,ab⟩
end Go.Hb
end
