/-
  Walks and plain laws that the law rests on, laid together. No conditions but those that each theorem names.
-/
import Derived.Test.YtiagknaekaknhaaGreatDoorMnJoinedMade3
set_option linter.unusedVariables false
set_option maxRecDepth 20000
set_option maxHeartbeats 1000000
open Array renaming getElem?_eq_some_iff→dq
open BitVec renaming ofInt→iy,ofInt_natCast→Ef,toNat_ofNat→Eg
open Bool renaming and_eq_true→a9,noConfusion→c9,true_and→rl
open Classical renaming byContradiction→Ei,not_not→rn
open Go renaming Addr→bl,Program→av,Value→ag,World→ah
open Go.IntKind renaming u64→nV,u8→pK
open Go.Proofs.Tryz renaming prog→ar
open Go.Value renaming bool→bD,int→a0,oneCell'→eS,pointer→ui,slice→cz,tuple→nY
open Go.World renaming ownsRow→bj,ownsRow_nil→eT
open Int renaming toNat_natCast→pO
open List renaming all_cons→pP,all_nil→uk,append_nil→js,drop_eq_nil_of_le→EV,drop_take→EW,eq_nil_of_length_eq_zero→j4,filter_append→uo,flatMap_append→uq,flatMap_cons→pQ,flatten_cons→nZ,getD_cons_succ→yO,getD_cons_zero→ur,getD_eq_getElem?_getD→cn,getElem?_append_left→eU,getElem?_append_right→fm,getElem?_drop→iE,getElem?_eq_getElem→bt,getElem?_eq_some_iff→cB,getElem?_map→eV,getElem?_set_ne→E0,getElem?_set_self→E1,length→kE,length_append→bK,length_cons→dm,length_drop→ju,length_filter_le→E5,length_map→rF,length_nil→gY,length_set→iF,length_take→cV,map_append→gD,map_replicate→E8,mem_append→dx,mem_cons→eb,mem_cons_of_mem→gZ,mem_cons_self→hH,mem_flatMap→rG,mem_map→jv,mem_of_getElem?→j5,nil_append→n3,pairwise_iff_getElem→n4,replicate→dr,set_cons_succ→yS,take_add_one→uF,take_length→uG,take_of_length_le→j6,take_succ_eq_append_getElem→uH,toArray→bB
open Nat renaming add_sub_cancel_left→yT,beq→aP,blt→aE,eq_of_beq_eq_true→bL,eq_zero_or_pos→uI,le_refl→aQ,le_trans→cG,lt_irrefl→Fh,lt_or_ge→dD,mod_eq_of_lt→yV,mul_comm→uJ,mul_le_mul_left→Fk,pow_le_pow_right→rK,sub_self→yW,zero_add→cH,zero_le→hO
open Option renaming isSome_iff_exists→mF
open Option.some renaming inj→fD
open Prod renaming fst→gE
open UInt8 renaming toNat_lt→kF
open Go.Proofs.Tryz
open Go.Proofs

section
namespace Go.Hb
open Go.RowKit
def AB:Ck→Ck→Bool
 | .a,.a=>true
 | .z,.z=>true
 | .x,.x=>true
 | _,_=>false
def ss:List (AV×AV)→List (AV×AV)→Bool
 | [],[]=>true
 | p::l,q::m=>cond (eL p.1 q.1 && eL p.2 q.2) (ss l m) false
 | _,_=>false
def vz:AO→AO→Bool
 | .cells l e fz ex,.cells l' e' fz' ex'=>(aP e e' && aP fz fz') && (AB ex ex' && jJ l l')
 | .map l,.map m=>ss l m
 | _,_=>false
theorem Hy:∀ {c d:Ck},AB c d=true→c=d
 | .a,.a,_ | .z,.z,_ | .x,.x,_=>rfl
theorem AA:∀ {a b:List (AV×AV)},ss a b=true→a=b
 | [],[],_=>rfl
 | p::l,q::m,h=>by
   unfold ss at h;cases hk:(eL p.1 q.1 && eL p.2 q.2)
   · rw [hk] at h; cases h
   · rw [hk] at h;simp only [a9] at hk;rw [AA h,Prod.ext (oB hk.1) (oB hk.2)]
theorem Hx {a b:AO} (h:vz a b=true):a=b:=by
 unfold vz at h;split at h
 · simp only [a9] at h;rw [bL h.1.1,bL h.1.2,Hy h.2.1,mQ h.2.2]
 · rw [AA h]
 · cases h
def iU:Tr AO→Tr AO→Bool
 | .nil,_=>true
 | .nd l none r,.nil=>iU l .nil && iU r .nil
 | .nd _ (some _) _,.nil=>false
 | .nd l none r,.nd l' _ r'=>iU l l' && iU r r'
 | .nd l (some o) r,.nd l' (some o') r'=>vz o o' && (iU l l' && iU r r')
 | .nd _ (some _) _,.nd _ none _=>false
theorem ll:∀ {a b:Tr AO},iU a b=true→∀ {i:Nat} {o:AO},a.get i=some o→b.get i=some o
 | .nil,_,_,i,o,hi=>by rw [Tr.get_nil] at hi; cases hi
 | .nd l none r,.nil,h,i,o,hi=>by
   simp only [iU,a9] at h;cases i with
   | zero=>simp [Tr.get] at hi
   | succ n=>
     simp only [Tr.get] at hi;cases hb:aP (n % 2) 0
     · rw [hb] at hi; have :=ll h.2 hi; rw [Tr.get_nil] at this; cases this
     · rw [hb] at hi; have :=ll h.1 hi; rw [Tr.get_nil] at this; cases this
 | .nd l none r,.nd l' v' r',h,i,o,hi=>by
   simp only [iU,a9] at h;cases i with
   | zero=>simp [Tr.get] at hi
   | succ n=>
     simp only [Tr.get] at hi ⊢;cases hb:aP (n % 2) 0
     · rw [hb] at hi; exact ll h.2 hi
     · rw [hb] at hi; exact ll h.1 hi
 | .nd l (some u) r,.nd l' (some u') r',h,i,o,hi=>by
   simp only [iU,a9] at h;cases i with
   | zero=>
     simp only [Tr.get] at hi ⊢;rw [← Hx h.1]; exact hi
   | succ n=>
     simp only [Tr.get] at hi ⊢;cases hb:aP (n % 2) 0
     · rw [hb] at hi; exact ll h.2.2 hi
     · rw [hb] at hi; exact ll h.2.1 hi
def Tr.lf {α:Type} :Tr α→Tr α
 | .nil=> .nil
 | .nd l _ _=>l
def Tr.rt {α:Type} :Tr α→Tr α
 | .nil=> .nil
 | .nd _ _ r=>r
def Tr.vl {α:Type} :Tr α→Option α
 | .nil=>none
 | .nd _ v _=>v
theorem Tr.Bf {α:Type} (t:Tr α):t.get 0=t.vl:=by cases t <;> rfl
theorem Tr.vW {α:Type} (t:Tr α) (n:Nat):t.get (n+1)=cond (aP (n % 2) 0) (t.lf.get<|n / 2) (t.rt.get<|n / 2):=by
 cases t
 · simp only [Tr.lf,Tr.rt,Tr.get_nil]; cases aP (n % 2) 0 <;> rfl
 · rfl
def qK (v b c:Option AO):Option AO:=match c with
 | some o=>some o
 | none=>match b with
   | some _=>none
   | none=>v
def l9:Tr AO→Tr AO→Tr AO→Tr AO
 | .nil,_,c=>c
 | .nd l v r,b,c=> .nd (l9 l b.lf c.lf) (qK v b.vl c.vl)<|l9 r b.rt c.rt
theorem xa:∀ (a b c:Tr AO) (i:Nat),(∀ o,b.get i=some o→a.get i=some o)→(l9 a b c).get i=qK (a.get i) (b.get i) (c.get i)
 | .nil,b,c,i,hb=>by
   have :b.get i=none:=by
    cases hx:b.get i with
    | none=>rfl
    | some o=>have :=hb o hx; rw [Tr.get_nil] at this; cases this
   rw [Tr.get_nil,this];show c.get i=_;unfold qK;cases c.get i <;> rfl
 | .nd l v r,b,c,0,_=>by
   rw [Tr.Bf b,Tr.Bf c]; rfl
 | .nd l v r,b,c,n+1,hb=>by
   rw [Tr.vW b,Tr.vW c];rw [Tr.vW b] at hb;show cond (aP (n % 2) 0) ((l9 l b.lf c.lf).get<|n / 2) ((l9 r b.rt c.rt).get<|n / 2)=qK (cond (aP (n % 2) 0) (l.get<|n / 2)<|r.get<|n / 2) _ _;have A:∀ o,cond (aP (n % 2) 0) (b.lf.get<|n / 2) (b.rt.get<|n / 2)=some o→cond (aP (n % 2) 0) (l.get<|n / 2) (r.get<|n / 2)=some o:=hb;cases hn:aP (n % 2) 0
   · rw [hn] at A; exact xa r b.rt c.rt _ A
   · rw [hn] at A; exact xa l b.lf c.lf _ A
def cY:List (Nat×AO)→Tr AO
 | []=> .nil
 | p::l=>(cY l).set p.1 p.2
section
variable {P:av} {G:Nat} {X:Xt} {T:Nat} {r:Rn} {h h0 h1 h':Hp} {w:ah}
theorem HR.less (hr:HR P G r T h w) (A:∀ i o,h0.t.get i=some o→h.t.get i=some o) (hn:h0.nx=h.nx):HR P G r T h0 w:=
 ⟨fun i o hi=>hr.live i o (A i o hi),fun i j o C q q' hi E=>hr.inj i j o C q q' (A i o hi) (A j C E),fun i hi=>hr.new i ab,hr.fc,by rw [hn]; exact hr.base⟩
theorem Fr.less {g k:Nat} (I:∀ i o,h0.t.get i=some o→h.t.get i=some o) (E:Fr g r h0 k):Fr g r h k:=by
 obtain ⟨i,o,q,h1,A,C⟩:=E;exact ⟨i,o,q,h1,I i o A,C⟩
theorem jA.less {f:Nat} {args:List AV} {v:AV} (A:jA P G f args h0 v h') (C:∀ i o,h1.t.get i=some o→h'.t.get i=some o) (hn:h1.nx=h'.nx):jA P G f args h0 v h1:=by
 obtain ⟨n,A⟩:=A;refine ⟨ab,fun T r w L hT hr E=>(A T r w L ab hr E).mono fun u w' hu=> ?_⟩;obtain ⟨r',I,st⟩:=hu;exact ⟨r',I,st.le,st.hr.less C hn,ab,st.md,fun g M k O J=>st.dW g M k O (J.less C),fun i hi=>st.out i ab⟩
theorem jA.more {f:Nat} {args:List AV} {v:AV} {ad:Hp} (ao:jA P G f args ad v h1) (ai:∀ i o,ad.t.get i=some o→h.t.get i=some o) (aL:∀ i o,h0.t.get i=some o→h.t.get i=some o) (az:∀ i,h0.t.get i=none→ad.t.get i=none∨i < G) (hn:h.nx=ad.nx):jA P G f args h v ⟨l9 h.t h0.t h1.t,h1.nx⟩:=by
 obtain ⟨n,ao⟩:=ao;refine ⟨by show h.nx≤h1.nx; omega,fun T r w L hT hr aG=>(ao T r w L hT (hr.less ai hn.symm) aG).mono fun u w' hu=> ?_⟩;obtain ⟨r',aH,st⟩:=hu;have ae:∀ {i o},(l9 h.t h0.t h1.t).get i=some o→h1.t.get i=some o∨(h.t.get i=some o∧h0.t.get i=none):=fun {i o} hi=>by
  rw [xa _ _ _ _ (fun o=>aL i o)] at hi;unfold qK at hi;split at hi
  · rename_i A; rw [A]; exact .inl hi
  · split at hi
    · cases hi
    · rename_i A C; exact .inr ⟨hi,C⟩
 have aj:∀ {i o},h.t.get i=some o→h0.t.get i=none→∃ q,r i=some q∧q.an < w.heap.size∧OR P r q o w.heap[q.an]?∧¬Fr G r ad q.an:=fun {i o} hi A=>by
  obtain ⟨q,ah,au⟩:=hr.live i o hi;refine ⟨q,ah,hr.lt hi ah,au,fun ⟨i2,av,Z,al,E,J,U⟩=> ?_⟩;have :=hr.inj i2 i av o Z q (ai _ _ E) hi J ah U;subst this;rcases az _ A with C | C
  · rw [C] at E; cases E
  · omega
 refine ⟨r',aH,st.le,⟨fun i o hi=> ?_,fun i j o V q q' hi ag I E he=> ?_,fun i hi=>st.hr.new i hi,st.hr.fc,st.hr.base⟩,by show h.nx≤h1.nx; omega,st.md.mono fun k _ ap=>ap.less ai,fun g aI k aK ap=> ?_,fun i hi=>st.out i hi⟩
 · rcases ae hi with A | ⟨A,C⟩
   · exact st.hr.live i o A
   · obtain ⟨q,ah,ak,au,ar⟩:=aj A C;refine ⟨q,st.le _ _ ah,?_⟩;rw [st.md.dL _ ak ar];exact au.le st.le
 · have aD:∀ {i j o V q q'},h1.t.get i=some o→h.t.get j=some V→h0.t.get j=none→r' i=some q→r' j=some q'→q.an=q'.an→i=j:=fun {i j o V q q'} hi ag aA I E he=>by
    obtain ⟨Z,O,ak,_,ar⟩:=aj ag aA;have :=st.le _ _ O;rw [E] at this; cases this;by_cases aB:j < G
    · by_cases aJ:i < G
      · obtain ⟨m1,J⟩:=st.hr.fc i aJ;obtain ⟨aM,U⟩:=st.hr.fc j aB;rw [I] at J; cases J;rw [E] at U; cases U;exact he
      · exact absurd (st.dW G (aQ _) q'.an ak ⟨i,o,q,ab,hi,I,he⟩) ar
    · obtain ⟨i2,av,Z,_,J,U,aE⟩:=st.dW 0 (hO _) q'.an ak ⟨i,o,q,hO _,hi,I,he⟩;have :=hr.inj i2 j av V Z q' (ai _ _ J) ag U O aE;subst this;rcases az _ aA with C | C
      · rw [C] at J; cases J
      · exact absurd C aB
   rcases ae hi with A | ⟨A,C⟩
   · rcases ae ag with M | ⟨M,am⟩
     · exact st.hr.inj i j o V q q' A M I E he
     · exact aD A M am I E he
   · rcases ae ag with M | ⟨M,am⟩
     · exact (aD M A C E I he.symm).symm
     · obtain ⟨Z,O,_⟩:=aj A C;obtain ⟨aN,aC,_⟩:=aj M am;have ac:=st.le _ _ O;rw [I] at ac; cases ac;have aw:=st.le _ _ aC;rw [E] at aw; cases aw;exact hr.inj i j o V q q' A M O aC he
 · obtain ⟨i,o,q,al,aF,ax,ay⟩:=ap;rcases ae aF with A | ⟨A,C⟩
   · exact (st.dW g aI k aK ⟨i,o,q,al,A,ax,ay⟩).less ai
   · obtain ⟨Z,O,_⟩:=aj A C;have ac:=st.le _ _ O;rw [ax] at ac; cases ac;exact ⟨i,o,q,al,A,O,ay⟩
def qU (G T:Nat) (E:Nat→Nat) (b:Tr AO):List Nat→Tr AO
 | []=>b
 | g::l=>(qU G T E b l).set g<|.cells [.fy T (.ptr (G+g) 0)] (E g) 0 .x
theorem CL {E:Nat→Nat} {b:Tr AO} {i:Nat} :∀ {l:List Nat},(∀ g∈l,aE g cj=true)→(qU G T E b l).get i=if i∈l then some (.cells [.fy T (.ptr (G+i) 0)] (E i) 0 .x) else b.get i
 | [],_=>by simp [qU]
 | g::l,hl=>by
   simp only [qU];rw [Tr.kQ _ _ _ _ (hl g hH),CL (fun g A=>hl g<|gZ _ A)];by_cases h1:i=g
   · subst h1; simp
   · simp [h1]
def tC (G T:Nat) (t:Tr AO):List Nat→Bool
 | []=>true
 | g::l=>match t.get g with
   | some (.cells [.fy A (.ptr b 0)] _ 0 .x)=>cond ((aE g G && aE g cj) && (aP A T && aP b (G+g))) (tC G T t l) false
   | _=>false
def qp (t:Tr AO) (g:Nat):Nat:=match t.get g with
 | some (.cells _ e _ _)=>e
 | _=>0
theorem CR {t:Tr AO} :∀ {l:List Nat},tC G T t l=true→∀ g∈l,g < G∧aE g cj=true∧t.get g=some (.cells [.fy T (.ptr (G+g) 0)] (qp t g) 0 .x)
 | [],_,g,hg=>nomatch hg
 | a::l,h,g,hg=>by
   unfold tC at h;split at h
   · rename_i C b e A;have h1:((aE a G && aE a cj) && (aP C T && aP b (G+a)))=true :=by
      cases hx:((aE a G && aE a cj) && (aP C T && aP b (G+a)))
      · rw [hx] at h; cases h
      · rfl
     rw [h1] at h;simp only [a9] at h1;rcases eb.1 hg with rfl | E
     · obtain rfl :=bL h1.2.1;obtain rfl :=bL h1.2.2;refine ⟨cC.1 h1.1.1,h1.1.2,?_⟩;rw [A];simp only [qp,A]
     · exact CR h g E
   · cases h
structure Mm where
 f:Nat
 args:List AV
 h0:Hp
 v:AV
 h1:Hp
def BO (G T:Nat) (S:List Nat) (m:Mm) (f:Nat) (args:List AV) (h:Hp):Option (AV×Hp):=cond (aP f m.f) (cond (jJ args m.args && (aP h.nx m.h0.nx && (iU m.h0.t h.t && tC G T h.t S))) (some (m.v,⟨l9 h.t m.h0.t m.h1.t,m.h1.nx⟩)) none) none
def sS (G T:Nat) (S:List Nat) (f:Nat) (args:List AV) (h:Hp):List Mm→Option (AV×Hp)
 | []=>none
 | m::l=>match BO G T S m f args h with
   | some x=>some x
   | none=>sS G T S f args h l
def Mm.hp (G T:Nat) (S:List Nat) (m:Mm) (E:Nat→Nat):Hp:=⟨qU G T E m.h0.t S,m.h0.nx⟩
def Mm.Ok (P:av) (G T:Nat) (S:List Nat) (m:Mm):Prop :=(∀ E,jA P G m.f m.args (m.hp G T S E) m.v m.h1)∧∃ fn c,P.funcs[m.f]? =some fn∧fn.body=some c
variable {S:List Nat}
theorem wT:∀ {l:List Mm},(∀ m∈l,m.Ok P G T S)→∀ {f:Nat} {args:List AV} {v:AV},sS G T S f args h l=some (v,h')→jA P G f args h v h'∧∃ fn c,P.funcs[f]? =some fn∧fn.body=some c
 | [],_,f,args,v,hf=>by cases hf
 | m::l,hl,f,args,v,hf=>by
   unfold sS at hf;split at hf
   · rename_i x A;obtain rfl :=fD hf;unfold BO at A;replace A:=aZ A; obtain ⟨I,A⟩:=A;replace A:=aZ A; obtain ⟨C,A⟩:=A;cases A;simp only [a9] at C;obtain rfl :=bL I;obtain rfl :=mQ C.1;obtain ⟨J,hb⟩:=hl m hH;have E:=CR C.2.2.2;have hT:∀ i,(m.hp G T S<|qp h.t).t.get i=if i∈S then some (.cells [.fy T (.ptr (G+i) 0)] (qp h.t i) 0 .x) else m.h0.t.get i:=fun i=>CL fun g L=>(E g L).2.1
     refine ⟨(J<|qp h.t).more (fun i o hi=> ?_) (fun i o hi=>ll C.2.2.1 hi) (fun i hi=> ?_) (bL C.2.1),hb⟩
     · rw [hT] at hi;split at hi
       · rename_i hm;rw [← hi]; exact (E i hm).2.2
       · exact ll C.2.2.1 hi
     · rw [hT];split
       · rename_i hm;exact .inr (E i hm).1
       · exact .inl hi
   · exact wT (fun m hm=>hl m<|gZ _ hm) hf
def dB (P:av) (G:Nat) (X:Xt) (T:Nat) (S:List Nat) (M:List Mm):Nat→Tk→Rs
 | 0,_=> .no
 | n+1,.cl f args h=>match sS G T S f args h M with
   | some (v,h')=> .rv v h'
   | none=>fk P G X (dB P G X T S M n)<|.cl f args h
 | n+1,t=>fk P G X (dB P G X T S M n) t
theorem AL {M:List Mm} (E:∀ m∈M,m.Ok P G T S):∀ (k:Nat),(∀ f args h v h',dB P G X T S M k (.cl f args h)= .rv v h'→∃ fn c,P.funcs[f]? =some fn∧fn.body=some c)∧(∀ f args h v h',dB P G X T S M k (.df f args h)= .rv v h'→∃ fn c,P.funcs[f]? =some fn∧fn.body=some c)
 | 0=>⟨fun f args h v h' A=>(by cases A),fun f args h v h' A=>by cases A⟩
 | k+1=>by
   constructor
   · intro f args h v h' A;simp only [dB] at A;split at A
     · rename_i x I;exact (wT E I).2
     · simp only [fk] at A;split at A
       · rename_i fn C;split at A
         · rename_i c hb; exact ⟨fn,c,C,hb⟩
         · cases A
       · cases A
   · intro f args h v h' A;simp only [dB,fk] at A;split at A
     · rename_i fn C;split at A
       · rename_i c hb; exact ⟨fn,c,C,hb⟩
       · cases A
     · cases A
theorem vG {M:List Mm} (E:iG P G X) (C:gj P) (hm:P.follows .mixedOrders=true) (I:∀ m∈M,m.Ok P G T S):∀ k,Good P G (dB P G X T S M k)
 | 0=>fun t=>by cases t <;> trivial
 | k+1=>fun t=>by
   have A:=vG E C hm I k;obtain ⟨J,L⟩:=AL (P:=P) (G:=G) (X:=X) I k;cases t with
   | cd rd n c fr D h=>exact LJ A E C (Hl A E C J hm) J rd n c fr D h
   | lp rd n c fr D h=>exact LM A rd n c fr D h
   | cl f args h=>
     simp only [dB];split
     · rename_i x O;exact (wT I O).1
     · exact LK A C L f args h
   | yl l args h=>exact LN A l args h
   | df f args h=>exact LL A E C J f args h
def fM (v:AV) (h1:Hp):Rs→Bool
 | .rv u h=>eL u v && (aP h1.nx h.nx && iU h1.t h.t)
 | _=>false
theorem Mm.of {M:List Mm} {k:Nat} {m:Mm} (L:iG P G X) (J:gj P) (hm:P.follows .mixedOrders=true) (C:∀ q∈M,q.Ok P G T S) (he:∀ E,fM m.v m.h1 (dB P G X T S M k<|.cl m.f m.args<|m.hp G T S E)=true):m.Ok P G T S:=by
 have hr:∀ E,∃ u A,dB P G X T S M k (.cl m.f m.args<|m.hp G T S E)= .rv u A∧u=m.v∧m.h1.nx=A.nx∧iU m.h1.t A.t=true :=fun E=>by
  have he:=he E;unfold fM at he;split at he
  · rename_i u A hr;simp only [a9] at he;exact ⟨u,A,hr,oB he.1,bL he.2.1,he.2.2⟩
  · cases he
 refine ⟨fun E=> ?_,?_⟩
 · obtain ⟨u,A,hr,rfl,hn,O⟩:=hr E;have I:=vG L J hm C k<|.cl m.f m.args<|m.hp G T S E;rw [hr] at I;exact jA.less I (fun i o hi=>ll O hi) hn
 · obtain ⟨u,A,hr,_⟩:=hr fun _=>0;exact (AL C k).1 _ _ _ _ _ hr
theorem fZ:∀ q∈([]:List Mm),q.Ok P G T S:=fun _ h=>nomatch h
theorem gu {m:Mm} {l:List Mm} (h:m.Ok P G T S) (A:∀ q∈l,q.Ok P G T S):∀ q∈m::l,q.Ok P G T S:=fun q C=>by
 rcases eb.1 C with rfl | h'
 · exact h
 · exact A q h'
theorem HK {M:List Mm} {k f:Nat} {args:List AV} {h h':Hp} {v:AV} (E:iG P G X) (A:gj P) (hm:P.follows .mixedOrders=true) (C:∀ q∈M,q.Ok P G T S) (he:dB P G X T S M k (.cl f args h)= .rv v h'):jA P G f args h v h':=by
 have :=vG E A hm C k<|.cl f args h;rw [he] at this;exact this
end
end Go.Hb
end
section
namespace Go.Hb
open Go.RowKit
section
variable {P:av} {N:Fm} {σ:Nat→ag} {w:ah} {fn:Func} {R:ag→ah→Prop}
theorem KE {tmps:Array ag} {r s q p:ResultVar} {v u z y:ag} (h:fn.results= #[r,s,q,p]) (h1:(ir tmps r).run P w= .ok v w) (A:(ir tmps s).run P w= .ok u w) (C:(ir tmps q).run P w= .ok z w) (E:(ir tmps p).run P w= .ok y w):(results fn tmps).run P w= .ok (.tuple #[v,u,z,y]) w:=by
 have I:(results fn tmps)=(do let vs ← #[r,s,q,p].mapM (ir tmps); pure (if h:vs.size=1 then vs[0] else .tuple vs)):=by
  unfold results; rw [h]; rfl
 rw [I]; simp [List.mapM_toArray,h1,A,C,E]
theorem HO {r s q p:ResultVar} {v u z y:ag} (h:fn.results= #[r,s,q,p]) (h1:ib P N σ w r v) (A:ib P N σ w s u) (C:ib P N σ w q z) (E:ib P N σ w p y) (I:R (.tuple #[v,u,z,y]) w):fin P fn N R .ret σ w:=⟨_,KE h (gw h1) (gw A) (gw C) (gw E),I⟩
end
end Go.Hb
end
section
namespace Go.Hb
open Go Go.RowKit Go.ChangeShapes
theorem KX {P:av} {n:String} {W:ah} {g:Nat} {cs:Array ag} (C:P.globalNamed n=some g) (A:W.var? P n=some cs):∃ e z,W.heap[g]? =some (.cells cs e z):=by
 unfold World.var? at A;rw [C] at A;simp only [Option.bind_some] at A;split at A
 · rename_i c e z h;cases A;exact ⟨e,z,h⟩
 · cases A
theorem iT {P:av} {n nm:String} {text:List UInt8} {r:List (String×DataW Unit)} {W:ah} {g:Nat} {L E te I:TypeId} {ms:Array (String×TypeId)} {f:Field}
 (h:laidMet P ((n,.iface nm (.ptr<|.agg [.lit (.string text)]))::r) W)
 (A:P.globalNamed n=some g) (ag:(P.globals[g]?).map (·.type)=some L) (hi:P.underlying L=some (.interface ms)) (ad:∀ u,P.typeName? 3 u=some nm→u=E)
 (hp:P.underlying E=some (.pointer te)) (he:P.underlying te=some (.struct #[f])) (ab:f.type=I) (Z:f.offset=0) (ae:P.underlying I=some .string) (O:P.cellsOf te=1) (V:P.cellsOf I=1):
 ∃ (a:bl) (e:Nat),a.spot=none∧W.heap[g]? =some (.cells #[.iface E (.pointer<|some a)] e (0,0)):=by
 obtain ⟨a,s,J,U,_,_⟩:=laid_sentinel h A ag hi ad hp he ab Z ae O V;obtain ⟨e,z,hw⟩:=KX A J;obtain ⟨ps,⟨al,t0,ak,f0,ao,ap,ac,an,ai,am,_,M⟩,_,hrows⟩:=h;obtain rfl :=fD<|A.symm.trans ac;subst M;have aj:=fD<|J.symm.trans ai;subst aj;obtain ⟨⟨c,t,C⟩,_⟩:=hrows g 0<|by simp [MemPlace.row]
 rw [hw] at C;simp only [Option.some.injEq,Obj.cells.injEq] at C;obtain ⟨_,_,rfl⟩:=C;exact ⟨a,e,World.cell?_spot U,hw⟩
theorem cJ.nil {T:Nat} {w:ah} :cJ T [] w:=fun g h=>by cases h
theorem cJ.cons {T g:Nat} {l:List Nat} {w:ah} (h:∃ (a:bl) (e:Nat),a.spot=none∧w.heap[g]? =some (.cells #[.iface T (.pointer<|some a)] e (0,0))) (C:cJ T l w):cJ T (g::l) w:=fun k A=>by
 rcases eb.1 A with rfl | A
 · exact h
 · exact C k A
theorem cJ.sub {T:Nat} {l m:List Nat} {w:ah} (h:cJ T l w) (C:∀ g∈m,g∈l):cJ T m w:=fun g A=>h g<|C g A
end Go.Hb
end
section
namespace Go.Hb
abbrev aB (n:Nat):ag:= .int .i64 (n:Nat)
abbrev aU (b:Nat):ag:= .pointer<|some ⟨b,0,none⟩
variable {P:av} {N:Fm} {ops:Array Oper} {Q:Exit→(Nat→ag)→ah→Prop} {σ:Nat→ag} {w:ah} {S:ah→Prop} {r fuel:Nat} {listed:Array Bool} {d:Nat} {op:Op} {ty:TypeId} {pos :String} {af:Array Edge} {v:ag}
theorem qB (i:Nat) (hi:ops[i]? =some ⟨some d,op,ty,pos,af,none⟩) (E:∀ w,S w→(execOp (ev N σ) ⟨some d,op,ty,pos,af,none⟩).run P w= .ok (.value v) w) (A:S w) (k:cm P N ops Q S fuel (listed.setIfInBounds i true) (aX σ d v) w) (C:eE N.F ops listed i=true :=by kernel_rfl):cm P N ops Q S (fuel+1) listed σ w:=hp i hi C E A k
theorem Jh (i:Nat) (hi:ops[i]? =some ⟨some d,op,ty,pos,af,none⟩) (E:∀ w,S w→(execOp (ev N σ) ⟨some d,op,ty,pos,af,none⟩).run P w= .ok (.value v) w) (A:S w) (k:cx P N ops Q S r fuel (listed.setIfInBounds i true) (aX σ d v) w) (C:vT N.F ops listed r i=true :=by kernel_rfl):cx P N ops Q S r (fuel+1) listed σ w:=BL i hi C E A k
theorem BM (i:Nat) (hi:ops[i]? =some ⟨some d,op,ty,pos,af,none⟩) (E:∀ w,(execOp (ev N σ) ⟨some d,op,ty,pos,af,none⟩).run P w= .ok (.value v) w) (A:listed.getD r false =false→S w) (k:cx P N ops Q S r fuel (listed.setIfInBounds i true) (aX σ d v) w) (C:mV N.F ops listed r i=true :=by kernel_rfl):cx P N ops Q S r (fuel+1) listed σ w:=qH i hi C E A k
theorem dj (i:Nat) (hi:ops[i]? =some ⟨some d,op,ty,pos,af,none⟩) (E:∀ {w},(execOp (ev N σ) ⟨some d,op,ty,pos,af,none⟩).run P w= .ok (.value v) w) (A:S w) (k:cm P N ops Q S fuel (listed.setIfInBounds i true) (aX σ d v) w) (C:eE N.F ops listed i=true :=by kernel_rfl):cm P N ops Q S (fuel+1) listed σ w:=hp i hi C (fun _ _=>E) A k
theorem iO (i:Nat) (hi:ops[i]? =some ⟨some d,op,ty,pos,af,none⟩) (E:∀ {w},(execOp (ev N σ) ⟨some d,op,ty,pos,af,none⟩).run P w= .ok (.value v) w) (A:S w) (k:cx P N ops Q S r fuel (listed.setIfInBounds i true) (aX σ d v) w) (C:oH N.F ops listed r i=true :=by kernel_rfl):cx P N ops Q S r (fuel+1) listed σ w:=lq i hi C (fun _ _=>E) A k
theorem qI (i:Nat) (hi:ops[i]? =some ⟨some d,op,ty,pos,af,none⟩) (E:∀ {w},(execOp (ev N σ) ⟨some d,op,ty,pos,af,none⟩).run P w= .ok (.value v) w) (A:S w) (k:cx P N ops Q S r fuel (listed.setIfInBounds i true) (aX σ d v) w) (C:mV N.F ops listed r i=true :=by kernel_rfl):cx P N ops Q S r (fuel+1) listed σ w:=qH i hi C (fun _=>E) (fun _=>A) k
theorem mX {x:Operand} (i:Nat) (hi:ops[i]? =some ⟨some d,.move x,ty,pos,af,none⟩) (v:ag) (A:S w) (k:cm P N ops Q S fuel (listed.setIfInBounds i true) (aX σ d v) w) (E:ev N σ x=v:=by exact U) (C:eE N.F ops listed i=true :=by kernel_rfl):cm P N ops Q S (fuel+1) listed σ w:=hp i hi C (fun _ _=>m8 v E) A k
theorem Nt {x:Operand} (i:Nat) (hi:ops[i]? =some ⟨some d,.move x,ty,pos,af,none⟩) (v:ag) (A:S w) (k:cx P N ops Q S r fuel (listed.setIfInBounds i true) (aX σ d v) w) (E:ev N σ x=v:=by exact U) (C:mV N.F ops listed r i=true :=by kernel_rfl):cx P N ops Q S r (fuel+1) listed σ w:=qH i hi C (fun _=>m8 v E) (fun _=>A) k
theorem lR {P:av} {f:FuncId} {fn:Func} (A:P.funcs[f]? =some fn) (hn:(fn.name== "runtime.NumGoroutine")=false :=by kernel_rfl) (hb:fn.body.isNone=false :=by kernel_rfl):gk P f:=u6 A hn hb
section
variable {rest:List Oper} {x:Operand} {K:(Nat→ag)→ah→Prop} {l:List Oper} {id:Nat} {y z:Code} {j t:Nat} {want b:Bool} {fn:Func} {R:ag→ah→Prop}
theorem Nx (h:∀ {K:(Nat→ag)→ah→Prop},(∀ {σ w},bu P N y Q σ w→gS K Q .normal σ w)→bu P N z (gS K Q) σ w):bu P N (.seq z y) Q σ w:=sq fun K A=>h fun hw=>A _ _ hw
theorem Ny (h:∀ {K:(Nat→ag)→ah→Prop},(∀ {σ w},bu P N y Q σ w→gS K Q .normal σ w)→bQ P N l.toArray (gS K Q) l σ w) (hr:kj N.r l=true :=by exact U):bu P N (.seq (.region id l.toArray false) y) Q σ w:=sq fun K A=>rg hr<|h fun hw=>A _ _ hw
theorem Nq (h:Q .normal (aX σ d<|ev N σ x) w):bQ P N ops Q [⟨some d,.assign x,ty,pos,af,none⟩] σ w:=p aT<|nl h
theorem b9 {id:Nat} (h:Q (.exit id) σ w):gS K Q (.exit id) σ w:=h
theorem Nu (h:(dS ops j,aE t N.n,σ t,b==want)=(some t,true,.bool b,false)) (k:bQ P N ops Q rest (aX σ d undef) w):bQ P N ops Q (⟨some d,op,ty,pos,af,some (j,want)⟩::rest) σ w:=sk (congrArg gE h) (congrArg (·.2.1) h) (congrArg (·.2.2.1) h) (congrArg (·.2.2.2) h) k
theorem Nv (h:(dS ops j,aE t N.n,σ t)=(some t,true,undef)) (k:bQ P N ops Q rest (aX σ d undef) w):bQ P N ops Q (⟨some d,op,ty,pos,af,some (j,want)⟩::rest) σ w:=C6 (congrArg gE h) (congrArg (·.2.1) h) (congrArg (·.2.2) h) k
theorem bO (h:(dS ops j,aE t N.n,σ t)=(some t,true,.bool want)) (A:(execOp (ev N σ) ⟨some d,op,ty,pos,af,some (j,want)⟩).run P w= .ok (.value v) w) (k:bQ P N ops Q rest (aX σ d v) w):bQ P N ops Q (⟨some d,op,ty,pos,af,some (j,want)⟩::rest) σ w:=pg (congrArg gE h) (congrArg (·.2.1) h) (congrArg (·.2.2) h) A k
theorem Ns (i:Nat) (h:(ops[i]?,dS ops j,aE t N.n,σ t,b==want)=(some ⟨some d,op,ty,pos,af,some (j,want)⟩,some t,true,.bool b,false)) (A:S w) (k:cm P N ops Q S fuel (listed.setIfInBounds i true) (aX σ d undef) w) (C:eE N.F ops listed i=true :=by kernel_rfl):cm P N ops Q S (fuel+1) listed σ w:=sF i (congrArg gE h) C (congrArg (·.2.1) h) (congrArg (·.2.2.1) h) (congrArg (·.2.2.2.1) h) (congrArg (·.2.2.2.2) h) A k
theorem fI (i:Nat) (h:(ops[i]?,dS ops j,aE t N.n,σ t)=(some ⟨some d,op,ty,pos,af,some (j,want)⟩,some t,true,.bool want)) (E:∀ w,S w→(execOp (ev N σ) ⟨some d,op,ty,pos,af,some (j,want)⟩).run P w= .ok (.value v) w) (A:S w) (k:cm P N ops Q S fuel (listed.setIfInBounds i true) (aX σ d v) w) (C:eE N.F ops listed i=true :=by kernel_rfl):cm P N ops Q S (fuel+1) listed σ w:=bW i (congrArg gE h) C (congrArg (·.2.1) h) (congrArg (·.2.2.1) h) (congrArg (·.2.2.2) h) E A k
theorem aR (h:(fn.results,ev N σ (.tmp t))=(#[.tmp t],v)) (A:R v w):fin P fn N R .ret σ w:=f1 (congrArg gE h) (congrArg Prod.snd h) A
theorem tg (v:ag) (h:bQ P N ops Q rest (aX σ d v) w) (A:ev N σ x=v:=by exact U):bQ P N ops Q (⟨some d,.move x,ty,pos,af,none⟩::rest) σ w:=p (m8 v A) h
end
end Go.Hb
end
namespace Go.Hb.dO
theorem FI:db ar 100=some (some 2):=ai
theorem zb:db ar 143=some (some 2):=ai
theorem rV:db ar 167=some (some 2):=ai
theorem lO:db ar 27=some (some 7):=ai
theorem kH:db ar 44=some (some 7):=ai
theorem FJ:db ar 77=some (some 2):=ai
theorem zc:db ar 81=some (some 2):=ai
theorem rW:db ar 84=some (some 2):=ai
theorem zd:db ar 88=some none:=ai
theorem FR:kI ar 25=some (4,1):=ai
theorem zm:kI ar 303=some (256,1):=ai
theorem lP:kI ar 42=some (4,1):=ai
theorem zA:mL ar 150 5 9=true :=ai
theorem Gj:gk ar 47:=lR func47
theorem Gk:gk ar 53:=lR func53
theorem lQ:gk ar 54:=lR func54
theorem u0:gk ar 55:=lR func55
theorem e7:gk ar 56:=lR func56
theorem Gl:gk ar 58:=lR func58
theorem eD:gk ar 86:=lR func86
theorem zB:gk ar 90:=lR func90
theorem zQ:∀ v w,(callFunc 173 #[v]).run ar w= .ok (.value v) w:=fun v w=>ai
theorem GW:cD ar 100=some 2:=ai
theorem GX:cD ar 141=some 1:=ai
theorem zR:cD ar 143=some 2:=ai
theorem vj:cD ar 150=some 1:=ai
theorem se:cD ar 167=some 2:=ai
theorem GY:cD ar 212=some 1:=ai
theorem GZ:cD ar 23=some 1:=ai
theorem G0:cD ar 24=some 1:=ai
theorem kL:cD ar 27=some 7:=ai
theorem dc:cD ar 3=some 1:=ai
theorem qk:cD ar 31=some 1:=ai
theorem zS:cD ar 4=some 1:=ai
theorem zT:cD ar 40=some 1:=ai
theorem zU:cD ar 41=some 1:=ai
theorem lS:cD ar 44=some 7:=ai
theorem G4:cD ar 47=some 1:=ai
theorem zV:cD ar 5=some 1:=ai
theorem zW:cD ar 65=some 1:=ai
theorem G5:cD ar 77=some 2:=ai
theorem zX:cD ar 79=some 1:=ai
theorem zY:cD ar 81=some 2:=ai
theorem zZ:cD ar 84=some 2:=ai
theorem vk:cD ar 88=some 1:=ai
theorem vm:cD ar 9=some 1:=ai
theorem sw:cW ar 141=some 2:=ai
theorem qv:cW ar 150=some 1:=ai
theorem HF:cW ar 23=some 2:=ai
theorem HG:cW ar 24=some 2:=ai
theorem qw:cW ar 31=some 1:=ai
theorem HH:cW ar 40=some 2:=ai
theorem lW:cW ar 41=some 2:=ai
theorem dE:cW ar 47=some 1:=ai
theorem AK:cW ar 64=some 1:=ai
theorem vE:cW ar 67=some 1:=ai
theorem oD:cW ar 79=some 2:=ai
theorem H7:mT ar 81 1=some 1:=ai
theorem Ix:(ar.info? 214).isSome=true :=ai
theorem IG:∀ (l:List UInt8) (c:UInt8) (w:ah),(callFunc 325 #[str l,.int .u8 c.toNat]).run ar w= .ok (.value<|.int .i64<|kS c l) w:=KO func325 ai ai ai ai
theorem sV:kf ar 88=true :=ai
theorem Kf:ptrTo ar 302 5=true :=ai
theorem C9:dT ar 141 167 2 16=true :=ai
theorem kq:dT ar 150 5 1 1=true :=ai
theorem Da:dT ar 23 100 2 32=true :=ai
theorem Db:dT ar 24 143 2 32=true :=ai
theorem iw:dT ar 31 9 1 16=true :=ai
theorem tI:dT ar 40 77 2 32=true :=ai
theorem tJ:dT ar 41 81 2 32=true :=ai
theorem tK:dT ar 47 3 1 8=true :=ai
theorem Lf:dT ar 64 4 1 1=true :=ai
theorem Lg:dT ar 67 47 1 24=true :=ai
theorem tL:dT ar 79 84 2 16=true :=ai
theorem Ln:et ar 100=some ([(0,1),(1,1)],[.string ⟨⟨[]⟩⟩,.string ⟨⟨[]⟩⟩]):=ai
theorem Lo:et ar 143=some ([(0,1),(1,1)],[.bool false,.slice none 0 0]):=ai
theorem Lp:et ar 152=some ([(0,1),(1,1),(2,1),(3,1)],[.slice none 0 0,.slice none 0 0,.slice none 0 0,.int .i64 0]):=ai
theorem Lq:et ar 156=some ([(0,1),(1,1)],[.string ⟨⟨[]⟩⟩,.int .i64 0]):=ai
theorem xZ:et ar 167=some ([(0,1),(1,1)],[.int .u8 0,.int .i64 0]):=ai
theorem Lr:et ar 226=some ([(0,1),(1,1),(2,1)],[.slice none 0 0,.int .i64 0,.slice none 0 0]):=ai
theorem Lt:et ar 235=some ([(0,1),(1,1),(2,1)],[.slice none 0 0,.int .i64 0,.slice none 0 0]):=ai
theorem tM:et ar 27=some ([(0,1),(1,1),(2,1),(3,4)],[.int .i64 0,.string ⟨⟨[]⟩⟩,.slice none 0 0,.slice none 0 0,.slice none 0 0,.slice none 0 0,.slice none 0 0]):=ai
theorem x7:et ar 44=some ([(0,1),(1,1),(2,1),(3,4)],[.int .i64 0,.string ⟨⟨[]⟩⟩,.slice none 0 0,.slice none 0 0,.slice none 0 0,.slice none 0 0,.slice none 0 0]):=ai
theorem Lu:et ar 60=some ([(0,1),(1,1),(2,1),(3,1),(4,1)],[.int .i64 0,.int .i64 0,.int .i64 0,.int .i64 0,.int .i64 0]):=ai
theorem Lv:et ar 69=some ([(0,1),(1,1),(2,1)],[.slice none 0 0,.slice none 0 0,.slice none 0 0]):=ai
theorem Lw:et ar 74=some ([(0,7),(7,1)],[.int .i64 0,.string ⟨⟨[]⟩⟩,.slice none 0 0,.slice none 0 0,.slice none 0 0,.slice none 0 0,.slice none 0 0,.string ⟨⟨[]⟩⟩]):=ai
theorem Lx:et ar 77=some ([(0,1),(1,1)],[.string ⟨⟨[]⟩⟩,.string ⟨⟨[]⟩⟩]):=ai
theorem Ly:et ar 81=some ([(0,1),(1,1)],[.bool false,.slice none 0 0]):=ai
theorem Lz:et ar 84=some ([(0,1),(1,1)],[.int .u8 0,.int .i64 0]):=ai
theorem LA:et ar 96=some ([(0,1),(1,1),(2,1)],[.string ⟨⟨[]⟩⟩,.int .i64 0,.int .i64 0]):=ai
theorem DB:ar.underlying 212=some (.pointer 214):=ai
theorem nk:ar.underlying 22=some (.pointer 74):=ai
theorem u3:ar.underlying 3=some (.int .i64):=ai
theorem L0:ar.underlying 301=some (.int .u64):=ai
theorem u4:ar.underlying 4=some (.bool):=ai
theorem L1:ar.underlying 40=some (.slice 77):=ai
theorem L3:ar.underlying 41=some (.slice 81):=ai
theorem tO:ar.underlying 65=some (.pointer 69):=ai
theorem L4:ar.underlying 79=some (.slice 84):=ai
theorem u9:ar.underlying 9=some (.string):=ai
theorem pB:ar.underlying 97=some (.int .u64):=ai
theorem DE:np ar 212 291 214 2=true :=ai
theorem tR:(ar.underlying 3).isSome=true :=ai
theorem Mc:(ar.underlying 301).isSome=true :=ai
theorem q9:(ar.underlying 5).isSome=true :=ai
theorem mq:(ar.underlying 97).isSome=true :=ai
theorem wide:ar.follows .mixedOrders=true :=ai
theorem Ng:zeroOf ar 100=some (some [.string ⟨⟨[]⟩⟩,.string ⟨⟨[]⟩⟩]):=ai
theorem DW:zeroOf ar 143=some (some [.bool false,.slice none 0 0]):=ai
theorem DX:zeroOf ar 167=some (some [.int .u8 0,.int .i64 0]):=ai
theorem Nh:zeroOf ar 214=some (some [.pointer none,.slice none 0 0]):=ai
theorem pE:zeroOf ar 27=some (some [.int .i64 0,.string ⟨⟨[]⟩⟩,.slice none 0 0,.slice none 0 0,.slice none 0 0,.slice none 0 0,.slice none 0 0]):=ai
theorem ri:zeroOf ar 3=some (some [.int .i64 0]):=ai
theorem Ni:zeroOf ar 31=some (some [.slice none 0 0]):=ai
theorem pF:zeroOf ar 44=some (some [.int .i64 0,.string ⟨⟨[]⟩⟩,.slice none 0 0,.slice none 0 0,.slice none 0 0,.slice none 0 0,.slice none 0 0]):=ai
theorem Nj:zeroOf ar 47=some (some [.slice none 0 0]):=ai
theorem DY:zeroOf ar 65=some (some [.pointer none]):=ai
theorem Nk:zeroOf ar 77=some (some [.string ⟨⟨[]⟩⟩,.string ⟨⟨[]⟩⟩]):=ai
theorem DZ:zeroOf ar 81=some (some [.bool false,.slice none 0 0]):=ai
theorem D3:zeroOf ar 84=some (some [.int .u8 0,.int .i64 0]):=ai
theorem Nl:zeroOf ar 88=some (some [.int .i64 0]):=ai
theorem Nm:zeroOf ar 303=some (some<|dr 256<|.bool false):=ai
theorem Nn:zeroV ar 88=some (.int .i64 0):=ai
end Go.Hb.dO
section
namespace Go.Hb
open Go.Hb.dO
theorem GN (b:Nat) (A:Option bl) (E:ag) (w:ah) (hb:w.heap[b]? =some (.cells [ui A,E].toArray 214 (0,0))) (hp:A=none∨A=some ⟨b,0,none⟩):
 bo ar 126 (bB [aU b]) w (fun v w'=>v= .tuple #[]∧w'.heap[b]? =some (.cells [ui (some ⟨b,0,none⟩),E].toArray 214 (0,0))∧Md (fun k=>k=b) w w'):=by
 refine enter func126 U ntmps126 U<|aW 5 U<|p (ax U<|(bp hb).trans U)<|p (ji DB U U)<|aN 2 U<|cb U (fun C=> ?_) fun C=> ?_;obtain rfl :A=none:=by simpa using C
 exact aJ 3 U<|p (Dx DE U hb U)<|p (GF zQ U)<|p (A6 DE U hb U)<|aj 2 U<|e<|cU GY U U U hb (by simp) fun L J I=>az 1 U<|f0 U<|⟨U,I,J⟩
 obtain rfl :A=some ⟨b,0,none⟩:=hp.resolve_left<|by rintro rfl; simp at C
 exact aJ 5 U<|p (ax U<|(bp hb).trans U)<|aj 1 U<|p (JL DB Ix U U)<|az 4 U<|f0 U<|⟨U,hb,Md.refl _ _⟩
theorem M8 (b:Nat) (C:ag) (l:List UInt8) (c:UInt8) (w:ah) (hb:Bd 214 5 w b C l) (aD:l.length≤70368744177664):
 bo ar 83 (bB [aU b,.int .u8 c.toNat]) w (fun v w'=>v= .nilIface∧∃ L,Bd 214 5 w' b L (l++ [c])∧Md (BF b C) w w'∧∀ k,BF b L k→BF b C k∨w.heap.size≤k):=by
 obtain ⟨⟨ay,ac,av⟩,hown,hnil⟩:=hb;have aE:b < w.heap.size:=(dq.1 ac).1;have ad:∀ k,C.ownBlock=some k→k≠b∧k < w.heap.size:=fun k A=>by have :=hown.lt k A; exact ⟨ab,this.2⟩
 refine enter func83 U ntmps83 U<|aW 8 U<|e<|ba (GN b ay C w ac av) U ?_;rintro v6 aJ ⟨_,Z,I⟩;have au:=bN hown I fun k A=>(ad k A).1;have aF:=I.size;refine aj 8 U<|p (ax U<|(bp Z).trans U)<|aj 1 U<|e<|jD kq U U fun aA aG aC E ak=>e<|ap kq (bg au E.md) U (by have :=E.size; omega) U (aV.fL ak) (U) (U) ab ab fun ae aH J O aw ao=> ?_;have am:=O.an (Wk.an E.md Z) fun h=>(ad b h).1 rfl;refine aj 2 U<|e<|cU vj U U (by obtain ⟨a,c,h,_⟩:=td J; exact congrArg eS h) am (by simp) fun aI V al=>az 8 U<|aR U ?_;have ai:∀ k,ae.ownBlock=some k→k≠b:=fun k A=>by have :=J.lt k A; omega
 refine ⟨U,ae,⟨⟨_,al,.inr U⟩,?_,?_⟩,?_,?_⟩;rw [bK,rT]; exact bN J V fun k A=>ai k A;rw [aw]; simp;refine Md.trans' (Md.trans' (Md.trans' (I.mono fun k _ h=> .inl h) E.md fun _ _ h=>h.elim) O fun k _ h=> .inr h) V fun k _ h=> .inl h;rintro k (rfl | A);exact .inl<|.inl U;by_cases h:C.ownBlock=some k;exact .inl<|.inr h;have :=ao k A; have h1:=I.size; have aB:=E.md.size; exact .inr<|by rcases this with M | M; exact absurd M h; omega
theorem LQ (b:Nat) (I:ag) (l:List UInt8) (w:ah) (hb:Bd 214 5 w b I l) (ac:l.length≤70368744177664):
 bo ar 84 (bB [aU b]) w (fun v w'=>v=str l∧Md (fun k=>I.ownBlock=some k) w w'):=by
 obtain ⟨⟨aj,J,ad⟩,hown,hnil⟩:=hb;obtain ⟨a,c,rfl,O,hle,V,Z⟩:=td hown;refine enter func84 U ntmps84 U<|bT 6 U ?_;have A:(fun w'=>Md (fun k=>(cz a l.length c).ownBlock=some k) w w') w.drew:=(Md.refl _ _).drew;refine bq (fun w'=>Md (fun k=>(cz a l.length c).ownBlock=some k) w w') U wide A<|aH [0,1,2] U A<|qB 3 U (fun w' C=>ax U<|C.ay ((bp J).trans U) fun h=>by have :=hown.lt _ h; omega) A<|aH [5,6,7] U A<|qB 8 U (fun w' C=>ax U<|C.ay ((bp J).trans U) fun h=>by have :=hown.lt _ h; omega) A<|aH [9] U A ?_;refine dj 4 U (yh (v:= .nilFunc) U (by
  by_cases h:l= []
  have :=hnil.2 h; simp only [Value.slice.injEq] at this; exact .inl this.1;right; have :0 < l.length:=List.length_pos_iff.2 h; omega)) A ?_
 refine he 10 U ai<|Me Kf U U hown U ab fun M L ae=> ?_;have E:(fun w'=>Md (fun k=>(cz a l.length c).ownBlock=some k) w w') M:=A.trans' L fun _ _ h=>h;refine ⟨E,?_⟩;exact dj 11 U (aT) E<|hn ai<|bf 2 U<|aR U<|⟨U,E⟩
end Go.Hb
end
section
namespace Go.Hb
open Go.Hb.dO
theorem vL (b:UInt8):fw b=decide (32 < (b.toNat:Int)∧(b.toNat:Int)≠127):=by
 unfold fw; exact decide_eq_decide.2 ab
theorem HX {b:UInt8} (h:32 < (b.toNat:Int)) (h1:(b.toNat:Int)≠127):fw b=true :=by rw [vL]; exact decide_eq_true ⟨h,h1⟩
theorem vK {b:UInt8} (h:¬(32 < (b.toNat:Int)∧(b.toNat:Int)≠127)):fw b=false :=by rw [vL]; exact decide_eq_false h
theorem AX (b:UInt8) (w:ah):
 bo ar 127 (bB [.int .u8 b.toNat]) w (fun v w'=>v= .bool (fw b)∧Wk w w'):=by
 refine enter func127 U ntmps127 U<|aW 10 U<|gs (t:=5) U (fun A=> ?_) fun A=> ?_;exact az 7 U<|aR U<|⟨by show bD (decide _)=_; rw [vL]; exact bv (by constructor <;> intro h <;> first | exact ⟨ab,h⟩ | exact h.2),Md.refl _ _⟩
 exact aj 3 U<|p aT<|az 3 U<|aR U<|⟨by show bD false =_; rw [vK ab],Md.refl _ _⟩
theorem Mg (s:List UInt8) (w:ah) (ae:s.length≤1048576):
 bo ar 128 (bB [str s]) w (fun v w'=>v= .bool (nq s)∧Wk w w'):=by
 refine enter func128 U ntmps128 U<|aW 11 U<|gs (t:=6) U (fun E=> ?_) fun E=> ?_;exact az 14 U<|aR U<|⟨by show bD false =_; unfold nq; rw [decide_eq_false (by rw [E]; simp)],Md.refl _ _⟩
 refine aN 6 U<|cd U (fun Z=> ?_) fun Z=> ?_;exact aG 7 U<|aR U<|⟨by show bD false =_; unfold nq; rw [decide_eq_false ab],Md.refl _ _⟩
 refine bS 11 U<|lp (fun J V O=> ∃ (i:Nat),(i≤s.length∧1≤s.length∧s.length≤64)∧(∀ j,j < i→fw (s.getD j 0)=true)∧(Wk w O)∧(Sl V [(0,str s),(12,.int .i64 s.length),(13,.int .i64 i)])∧(s.length - i=J)) _ ⟨0,(⟨ab,by rcases uI s.length with h | h <;> first | exact absurd (List.length_eq_zero_iff.1 h) E | exact h,ab⟩),(fun j M=>by omega),(Md.refl _ _),U,U⟩ ?_;rintro J V O ⟨i,hi,hp,A,ad,rfl⟩;refine bF ad<|bT 6 U<|cd U (fun ac=> ?_) fun ac=> ?_;refine aJ 14 U<|p (fV u9 U U ab)<|e<|ba (AX (s.getD i 0) _) U ?_;rintro ag ai ⟨rfl,L⟩;refine aN 3 U<|cb U (fun C=> ?_) fun C=> ?_;have I:fw (s.getD i 0)=false :=by simpa using C
 exact aG 8 U<|tr<|bf 2 U<|aR U<|⟨by show bD false =_; unfold nq; rw [qf (i:=i) ab I,decide_eq_false (by simp)],Md.trans A L⟩
 have I:fw (s.getD i 0)=true :=by simpa using C
 exact aG 7 U<|tn<|⟨_,ab,i+1,ab,(fun j M=>by rcases dD j i with h | h <;> first | exact hp j h | (rw [show j=i by omega]; exact I)),(Md.trans A L),U,U⟩
 exact aG 2 U<|b9<|bf 8 U<|aR U<|⟨by show bD true =_; unfold nq; rw [r8 (fun j M=>hp j ab),decide_eq_true ⟨hi.2.1,hi.2.2,U⟩],A⟩
theorem I7 (s:List UInt8) (w:ah) (a2:s.length≤1048576):
 bo ar 91 (bB [str s]) w (fun v w'=>v= .tuple #[str (letE s).1,.int .i64 (letE s).2]∧Wk w w'):=by
 refine enter func91 U ntmps91 U<|aW 8 U<|e<|al Nm fun O aT aX J ap=> ?_;have aH:aA aT.heap O (marksOf []):=by rw [Ju]; exact ap
 refine aN 9 U<|cd U (fun am=> ?_) fun am=> ?_;exact aG 8 U<|f2 U U U<|⟨by show nY #[str [],.int .i64 21]=_; unfold letE; rw [if_pos (.inl am)]; rfl,J.md⟩
 refine aJ 4 U<|e<|dz Nh fun I a9 aZ aB aI=>aN 11 U ?_;have aY:=ap.lt;refine lp (fun ao aD M=> ∃ (i:Nat) (A:ag),(i≤s.length)∧(∀ j,j < i→fw (s.getD j 0)=true)∧(aA M.heap O<|marksOf<|lets<|s.take i)∧(Bd 214 5 M I A<|lets<|s.take i)∧(Wk w M)∧(Sl aD [(0,str s),(4,aU O),(5,aU I),(10,.int .i64 s.length),(11,.int .i64 i)])∧(s.length - i=ao)) _ ⟨0,.slice none 0 0,ab,(fun j an=>by omega),(aB.md.B aH),(Bd.new aI),(Md.trans J.md aB.md),U,U⟩ ?_;rintro ao aD M ⟨i,A,hi,hp,ay,Z,ae,aR,rfl⟩;refine bF aR ?_;have aQ:=wG<|s.take i;rw [cV] at aQ;have a0:=ay.lt;refine bT 6 U<|cd U (fun aP=> ?_) fun aP=> ?_;refine aJ 15 U<|p (fV u9 U U ab)<|e<|ba (AX (s.getD i 0) _) U ?_;rintro a4 aS ⟨rfl,C⟩;refine aN 3 U<|cb U (fun ai=> ?_) fun ai=> ?_;have L:fw (s.getD i 0)=false :=by simpa using ai
 exact aG 10 U<|tr<|bf 2 U<|f2 U U U<|⟨by show nY #[str [],.int .i64 21]=_; unfold letE; rw [if_pos (.inr<|qf ab L)]; rfl,Md.trans ae C⟩
 have L:fw (s.getD i 0)=true :=by simpa using ai
 have au:Wk w aS:=Md.trans ae C;have V:=C.B ay;have ad:=Z.md C fun _ _ h=>h;have a3:=C.size;refine aJ 6 U<|p (fV u9 U U ab)<|p (jj zm U U<|by have :=kF (s.getD i 0); omega)<|p (ax U<|Jw V _)<|aN 3 U<|cb U (fun ak=> ?_) fun ak=> ?_;have E:¬s.getD i 0∈lets (s.take i):=of_decide_eq_false<|by simpa using ak
 refine aJ 4 U<|p (fV u9 U U ab)<|p (jj zm U U<|by have :=kF (s.getD i 0); omega)<|e<|st zS U U (U) (V) (by rw [BU]; have :=kF (s.getD i 0); omega) fun aV av aF=> ?_;have aO:=Jx aF;have aL:Wk w aV:=Md.trans' au av fun k aC h=>by omega
 have ac:=ad.md av fun k aC h=>by have :=ad.sD aC; omega
 refine aj 5 U<|p (fV u9 U U ab)<|e<|ba (M8 I A (lets<|s.take i) (s.getD i 0) _ ac ab) U ?_;rintro a5 a7 ⟨rfl,aE,aK,aw,a1⟩;exact az 7 U<|tn<|⟨_,ab,i+1,aE,ab,(fun j an=>by rcases dD j i with h | h <;> first | exact hp j h | (rw [show j=i by omega]; exact L)),(by rw [l6 ab,if_neg E]; exact aw.B aO fun h=>by have :=ac.sD h; omega),(by rw [l6 ab,if_neg E]; exact aK),(ac.step aL aw<|by have :=J.md.size; omega),U,U⟩
 have E:s.getD i 0∈lets (s.take i):=by simpa using ak
 exact aG 7 U<|tn<|⟨_,ab,i+1,A,ab,(fun j an=>by rcases dD j i with h | h <;> first | exact hp j h | (rw [show j=i by omega]; exact L)),(by rw [l6 ab,if_pos E]; exact V),(by rw [l6 ab,if_pos E]; exact ad),au,U,U⟩
 refine aG 2 U<|b9<|gn 4 U<|e<|ba (LQ I A (lets<|s.take i) _ Z<|by have :=wG (s.take i); rw [cV] at this; omega) U ?_;rintro a6 a8 ⟨rfl,aM⟩;exact az 5 U<|f2 U U U<|⟨by show nY #[str (lets<|s.take i),.int .i64 0]=_; unfold letE; rw [if_neg (by rw [r8 (fun j an=>hp j ab)]; exact fun h=>h.elim am c9),show s.take i=s from j6 ab]; rfl,Z.LI ae aM<|by have :=J.md.size; omega⟩
end Go.Hb
end
section
namespace Go.Hb
open Go.Hb.dO
def kP (e:Int):List PanicEntry:= [{v:= .iface 88 (.int .i64 e),recovered:=false}]
def KH:Except Nat (Nat×Nat)→Nat
 | .ok (n,_)=>n
 | .error _=>0
def KI:Except Nat (Nat×Nat)→Nat
 | .ok (_,p)=>p
 | .error _=>0
def o7:Except Nat (Nat×Nat)→Nat
 | .ok _=>0
 | .error e=>e
def xD (r:Except Nat (Nat×Nat)):ag:= .tuple #[.int .u64 (KH r:Nat),.int .i64 (KI r:Nat),.int .i64 (o7 r:Nat)]
theorem xE {s:List UInt8} {a e:Nat} (h:bc s a= .error e):e=60∨e=61:=by
 unfold bc at h;split at h
 · cases h; exact .inr rfl
 · split at h
   · cases h; exact .inl rfl
   · split at h
     · cases h; exact .inr rfl
     · cases h
theorem KM {s:List UInt8} {a:Nat} (h:((o7 (bc s a):Nat):Int)=0):∃ n p,bc s a= .ok (n,p):=by
 cases hX:bc s a with
 | ok x=>exact ⟨x.1,x.2,rfl⟩
 | error e=>
   rw [hX] at h;have :=xE hX;simp only [o7] at h; omega
theorem KL {s:List UInt8} {a:Nat} (h:¬((o7 (bc s a):Nat):Int)=0):bc s a= .error (o7<|bc s a):=by
 cases hX:bc s a with
 | ok x=>rw [hX] at h; simp [o7] at h
 | error e=>rfl
theorem C7 {s:List UInt8} {a n:Nat} :(s.take<|a+n).drop a=(s.drop a).take n:=by rw [EW,yT]
theorem A1 {s:List UInt8} {a e:Nat} (h:bc s a= .error e):cN s a= .error e:=by unfold cN; rw [h]
theorem A2 {s:List UInt8} {a n p:Nat} (h:bc s a= .ok (n,p)) (hn:255 < n):cN s a= .error 62:=by unfold cN; rw [h]; exact if_pos hn
theorem A3 {s:List UInt8} {a n p:Nat} (h:bc s a= .ok (n,p)) (hn:¬255 < n) (hp:s.length < p+n):cN s a= .error 60:=by unfold cN; rw [h]; simp only; rw [if_neg hn,if_pos hp]
theorem A4 {s:List UInt8} {a n p:Nat} (h:bc s a= .ok (n,p)) (hn:¬255 < n) (hp:¬s.length < p+n):cN s a= .ok ((s.drop p).take n,p+n):=by unfold cN; rw [h]; simp only; rw [if_neg hn,if_neg hp]
theorem FO:∀ r:Fin 256,pK.wrap (iy pK.bits ((r.val:Nat):Int) &&& iy pK.bits 127).toNat=((r.val % 128:Nat):Int):=by decide+kernel
theorem FN (b:UInt8):pK.wrap (iy pK.bits (b.toNat:Int) &&& iy pK.bits 127).toNat=((b.toNat % 128:Nat):Int):=FO ⟨b.toNat,kF b⟩
theorem Cn (i:Nat):(128:Nat) ^ i=2 ^ (7 *i):=by rw [Nat.pow_mul]
theorem K9 {x i:Nat} (hi:i≤9):nV.wrap (((x:Nat):Int)*2 ^ min ((7 *i:Nat):Int).toNat nV.bits)=((x*128 ^ i % 18446744073709551616:Nat):Int):=by
 have A:(nV.bits:Nat)=64:=rfl;rw [pO,A,Nat.min_eq_left ab,IntKind.wrap_u64,Cn];generalize 7 *i=m;rw [show ((x:Nat):Int)*2 ^ m=((x*2 ^ m:Nat):Int) by simp];omega
theorem J7 {n x i:Nat} (hi:i≤9) (hn:n < 128 ^ i):nV.wrap (iy nV.bits (n:Int) ||| iy nV.bits ((x*128 ^ i % 18446744073709551616:Nat):Int)).toNat=((n+x*128 ^ i % 18446744073709551616:Nat):Int):=by
 have C:(nV.bits:Nat)=64:=rfl;rw [Cn] at hn ⊢;have I:x*2 ^ (7 *i) % 18446744073709551616=2 ^ (7 *i)*(x % 2 ^ (64 - 7 *i)):=by
  rw [show (18446744073709551616:Nat)=2 ^ (7 *i)*2 ^ (64 - 7 *i) by rw [← Nat.pow_add,show 7 *i+(64 - 7 *i)=64 by omega],uJ x,Nat.mul_mod_mul_left]
 rw [I,C,Ef,Ef,BitVec.toNat_or,Eg,Eg];have A:x % 2 ^ (64 - 7 *i) < 2 ^ (64 - 7 *i):=Nat.mod_lt _<|Nat.two_pow_pos _;generalize x % 2 ^ (64 - 7 *i)=z at A;have hle:(2:Nat) ^ (7 *i)≤2 ^ 64:=rK aF ab;have hmul:2 ^ (7 *i)*z+n < 2 ^ 64:=by
  have E:2 ^ (7 *i)*(z+1)≤2 ^ (7 *i)*2 ^ (64 - 7 *i):=Fk _ A;rw [← Nat.pow_add,show 7 *i+(64 - 7 *i)=64 by omega,Nat.mul_succ] at E;omega
 rw [yV ab,yV (show 2 ^ (7 *i)*z < 2 ^ 64 by omega),Nat.or_comm,← Nat.two_pow_add_eq_or_of_lt hn,gz ab,Nat.add_comm]
theorem sQ {s:List UInt8} {a i n:Nat} (hi:i≤9) (ha:a+i < s.length) (hn:n=dM ((s.drop a).take i)) (hb:i≤8∨(s.getD (a+i) 0).toNat≤1):n+(s.getD (a+i) 0).toNat % 128 *128 ^ i % 18446744073709551616=dM ((s.drop a).take<|i+1):=by
 have E:((s.drop a).take i).length=i:=by rw [cV,ju]; omega
 have I:(s.drop a)[i]? =some (s.getD (a+i) 0):=by
  rw [iE,cn,bt ab]; rfl
 rw [uF,I,Option.toList_some,wz,E,hn,dM,dM,Nat.mul_zero,Nat.add_zero];congr 1;have hm:(s.getD (a+i) 0).toNat % 128 < 128:=Nat.mod_lt _ aF;have A:i≤8∨(s.getD (a+i) 0).toNat % 128≤1:=hb.imp id fun h=>ab;generalize (s.getD (a+i) 0).toNat % 128=x at hm A ⊢;rw [uJ,yV];have L:(128:Nat) ^ 9=9223372036854775808:=aF;rcases A with hb | hb
 · have h1:128 ^ i*x < 128 ^ i*128:=Nat.mul_lt_mul_of_pos_left hm<|Nat.pow_pos aF;have J:(128:Nat) ^ i*128=128 ^ (i+1):=rfl;have C:(128:Nat) ^ (i+1)≤128 ^ 9:=rK aF ab;omega
 · have C:(128:Nat) ^ i≤128 ^ 9:=rK aF ab;have M:128 ^ i*x≤128 ^ i*1:=Fk _ hb;omega
theorem KN (s:List UInt8) (a:Nat) (w:ah) (ao:s.length≤1048576) (ha:a≤s.length):
 bo ar 89 (bB [str s,aB a]) w (fun v w'=>v=xD (bc s a)∧Wk w w'):=by
 refine enter func89 U ntmps89 U<|aW 13 U<|gs (t:=11) U (fun h=>absurd h ab) fun an=>aN 7 U<|cd U (fun ac=> ?_) fun ac=> ?_;exact aG 9 U<|f3 U U U U<|⟨by rw [tw (k:=0) (jV ab (fun j M=>by omega)<|.inr<|.inl ab) ab ab]; rfl,Md.refl _ _⟩
 refine bS 9 U<|lp (fun L V O=> ∃ (i n:Nat),(i≤10)∧(∀ j,j < i→a+j < s.length∧128≤(s.getD (a+j) 0).toNat)∧(i≤9→n=dM ((s.drop a).take i))∧(Wk w O)∧(Sl V [(0,str s),(1,aB a),(4,.int .u64 (n:Nat)),(17,aB i)])∧(10 - i=L)) _ ⟨0,0,ab,(fun j M=>by omega),(fun _=>rfl),(Md.refl _ _),U,U⟩ ?_;rintro L V O ⟨i,n,hi,E,hn,C,am,rfl⟩;refine bF am<|bT 6 U<|cd U (fun ad=> ?_) fun ad=> ?_;refine bS 21 U<|cd U (fun ae=> ?_) fun ae=> ?_;exact aG 11 U<|tr<|bf 2 U<|f3 U U U U<|⟨by rw [tw (k:=i) (jV ab E<|.inr<|.inl ab) ab ab]; rfl,C⟩
 refine aJ 7 U<|p (cg<|a+i)<|p (fV u9 U U ab)<|aN 4 U ?_;have al:n < 128 ^ i:=by
  have h1:=sP<|(s.drop a).take i;rw [← hn ab] at h1;have Z:((s.drop a).take i).length=i:=by rw [cV,ju]; omega
  rwa [Z] at h1
 refine aJ 3 U<|p (cR U U<|FN _)<|p (fH pB q9 U<|gz ab)<|aj 1 U<|p (wZ ((7 *i:Nat):Int) U U<|yn ab ab)<|p (shl U U ab<|K9 ab)<|p (zw U U<|J7 ab al)<|aN 12 U<|cd U (fun ag=> ?_) fun ag=> ?_;have ak:∀ j,j < i+1→a+j < s.length∧128≤(s.getD (a+j) 0).toNat:=fun j M=>by
  rcases dD j i with h | h;exact E j h;obtain rfl :j=i:=ab;exact ⟨ab,ab⟩
 exact aJ 6 U<|p (cg<|i+1)<|az 2 U<|tn<|⟨_,ab,i+1,n+(s.getD (a+i) 0).toNat % 128 *128 ^ i % 18446744073709551616,ab,ak,(fun h=>sQ ab ab (hn ab)<|.inl ab),C,U,U⟩
 refine aJ 6 U<|gs (t:=45) U (fun ai=> ?_) fun ai=> ?_;refine aN 6 U<|cd U (fun I=> ?_) fun I=> ?_;refine bS 2 U<|cd U (fun I=> ?_) fun I=> ?_;refine aG 12 U<|tr<|bf 2 U<|f3 U U U U ?_;have A:=jV (s:=s) (a:=a) (k:=i) ab E<|.inr<|.inr ab;exact ⟨by rw [o8 A ab ab ab]; rfl,C⟩;refine aJ 8 U<|p (cg<|a+i)<|p (cg<|a+i+1)<|az 8 U<|tr<|bf 2 U<|f3 U U U U ?_;exfalso; omega;refine aJ 4 U<|gs (t:=51) U (fun J=> ?_) fun J=> ?_;refine aN 6 U<|cd U (fun I=> ?_) fun I=> ?_;refine aG 12 U<|tr<|bf 2 U<|f3 U U U U ?_;have A:=jV (s:=s) (a:=a) (k:=i) ab E<|.inr<|.inr ab;exact ⟨by rw [o8 A ab ab ab]; rfl,C⟩;refine aJ 8 U<|p (cg<|a+i)<|p (cg<|a+i+1)<|az 8 U<|tr<|bf 2 U<|f3 U U U U ?_;have A:=jV (s:=s) (a:=a) (k:=i) ab E<|.inr<|.inr ab;exact ⟨by rw [tv A ab ab ab,← sQ ab ab (hn ab) ab]; rfl,C⟩;refine aj 3 U<|p aT<|aj 11 U<|p (cg<|a+i)<|p (cg<|a+i+1)<|az 8 U<|tr<|bf 2 U<|f3 U U U U ?_;exfalso; omega;refine aj 3 U<|p aT<|aj 7 U<|gs (t:=51) U (fun J=> ?_) fun J=> ?_;refine aN 6 U<|cd U (fun I=> ?_) fun I=> ?_;refine aG 12 U<|tr<|bf 2 U<|f3 U U U U ?_;have A:=jV (s:=s) (a:=a) (k:=i) ab E<|.inr<|.inr ab;exact ⟨by rw [o8 A ab ab ab]; rfl,C⟩;refine aJ 8 U<|p (cg<|a+i)<|p (cg<|a+i+1)<|az 8 U<|tr<|bf 2 U<|f3 U U U U ?_;have A:=jV (s:=s) (a:=a) (k:=i) ab E<|.inr<|.inr ab;exact ⟨by rw [tv A ab ab ab,← sQ ab ab (hn ab) ab]; rfl,C⟩;refine aj 3 U<|p aT<|aj 11 U<|p (cg<|a+i)<|p (cg<|a+i+1)<|az 8 U<|tr<|bf 2 U<|f3 U U U U ?_;have A:=jV (s:=s) (a:=a) (k:=i) ab E<|.inr<|.inr ab;exact ⟨by rw [tv A ab ab ab,← sQ ab ab (hn ab) ab]; rfl,C⟩;refine aG 2 U<|b9<|bf 10 U<|f3 U U U U ?_;obtain rfl :i=10:=ab;exact ⟨by rw [CJ (jV ab E<|.inl U)]; rfl,C⟩
theorem jX (C:ag) (b:Bool) (e:Int) (w:ah):
 mI ar 56 (bB [C,.bool b,.int .i64 e]) w (fun v w'=>v=nY #[]∧b=true∧w'=w) (fun c w'=>c=kP e∧b=false∧w'=w):=by
 refine qt func56 U ntmps56 U<|bT 6 U<|cb U (fun A=> ?_) fun A=> ?_;exact aJ 2 U<|p (wY sV U)<|Ke U fun σ' E=>⟨U,by simpa using A,U⟩
 refine aG 1 U<|qy<|f0 U ?_;exact ⟨U,by simpa using A,U⟩
theorem oP (rb:Nat) (s:List UInt8) (a:Nat) (w:ah) (E:aA w.heap rb [str s,.int .i64 (a:Nat)]) (ac:s.length≤1048576) (ha:a≤s.length):
 mI ar 54 (bB [.pointer (some ⟨rb,0,none⟩)]) w (fun v w'=> ∃ n p,bc s a= .ok (n,p)∧v= .int .u64 (n:Nat)∧aA w'.heap rb [str s,.int .i64 (p:Nat)]∧Md (fun k=>k=rb) w w') (fun c w'=> ∃ e,bc s a= .error e∧c=kP e∧Md (fun k=>k=rb) w w'):=by
 refine qt func54 U ntmps54 U<|bT 6 U<|fJ fun C=>aH [0,1,2] U C<|di 3 U C (E.aO 0)<|aH [4,5,6] U C<|di 7 U C (E.aO 1)<|he 8 U ai<|ba (KN s a w.drew ac ha) U ?_;rintro ak L ⟨rfl,A⟩;have A:=Md.de A;have J:(fun w'=>Wk w w') L:=A;refine ⟨J,?_⟩;refine hp 9 U ai (fun _ _=>mv) J<|aH [10,11,12,13,14,15] U J<|hn ai<|gn 7 U<|eP U (eu e7 (jX _ _ _ L) U fun al am Z=> ?_) fun c w' I σ' ag=>⟨_,KL (of_decide_eq_false I.2.1),I.1,by rw [I.2.2]; exact A.mono fun _ _ h=>h.elim⟩
 obtain ⟨rfl,ad,rfl⟩:=Z;obtain ⟨n,ae,ab⟩:=KM<|of_decide_eq_true ad;have M:=Wk.B A E;refine aj 8 U<|e<|st dc U U (U) (M) (by simp) fun an V O=>az 9 U<|qy<|f1 U U ?_;rw [ab] at*;exact ⟨n,ae,U,U,O,Md.trans (A.mono fun _ _ h=>h.elim) V⟩
theorem Dv (rb:Nat) (s:List UInt8) (a n:Nat) (w:ah) (I:aA w.heap rb [str s,.int .i64 (a:Nat)]) (am:s.length≤1048576) (ha:a≤s.length) (al:n≤1048576):
 mI ar 90 (bB [.pointer (some ⟨rb,0,none⟩),.int .i64 (n:Nat)]) w (fun v w'=>a+n≤s.length∧v=str ((s.drop a).take n)∧aA w'.heap rb [str s,.int .i64 ((a+n:Nat):Int)]∧Md (fun k=>k=rb) w w') (fun c w'=>s.length < a+n∧c=kP 60∧Md (fun k=>k=rb) w w'):=by
 refine qt func90 U ntmps90 U<|bT 6 U<|fJ fun C=>aH [0,1,2,3,4] U C<|di 5 U C (I.aO 0)<|aH [6,7,8,9] U C<|di 10 U C (I.aO 1)<|aH [11,12] U C<|Ir 13 U ai U (eu e7 (jX _ _ _ w.drew) U fun an M ae=> ?_) fun c w' J σ' ak=>⟨by have :=of_decide_eq_false J.2.1; omega,J.1,by rw [J.2.2]; exact (Md.refl _ _).drew⟩
 obtain ⟨rfl,V,L⟩:=ae;have V:=of_decide_eq_true V;have O:aA M.heap rb [str s,.int .i64 (a:Nat)]:=by rw [L]; exact I
 have ac:Md (fun k=>k=rb) w M:=by rw [L]; exact (Md.refl _ _).drew
 have ag:(fun w'=>Wk w w') M:=by rw [L]; exact (Md.refl _ _).drew
 refine ⟨ag,?_⟩;refine hn ai<|gn 6 U<|p (ax U<|O.aO 1)<|aj 1 U<|p (cg<|a+n)<|aj 2 U<|e<|st dc U U (U) (O) (by simp) fun ao ad Z=> ?_;have E:=Z;exact aN 3 U<|fJ fun A=>aH [0,1,2] U A<|di 3 U A (E.aO 0)<|aH [4,5,6] U A<|di 7 U A (E.aO 1)<|aH [8] U A<|hp 9 U ai (fun _ _=>pb<|a) A<|aH [10,11,12] U A<|di 13 U A (E.aO 1)<|hp 14 U ai (fun _ _=>mj u9 U U U ab) A<|aH [15] U A<|hn ai<|bf 2 U<|qy<|f1 U U<|⟨ab,by rw [← C7]; rfl,E,(ac.trans ad).drew⟩
theorem vS (rb:Nat) (s:List UInt8) (a:Nat) (w:ah) (M:aA w.heap rb [str s,.int .i64 (a:Nat)]) (J:s.length≤1048576) (ha:a≤s.length):
 mI ar 55 (bB [.pointer (some ⟨rb,0,none⟩)]) w (fun v w'=> ∃ f p,cN s a= .ok (f,p)∧v=str f∧aA w'.heap rb [str s,.int .i64 (p:Nat)]∧Md (fun k=>k=rb) w w') (fun c w'=> ∃ e,cN s a= .error e∧c=kP e∧Md (fun k=>k=rb) w w'):=by
 refine qt func55 U ntmps55 U<|aW 8 U<|eP U (eu lQ (oP rb s a w M J ha) U fun av ak ae=> ?_) fun c w' A σ' I=>by obtain ⟨e,he,ai,Z⟩:=A; exact ⟨e,A1 he,ai,Z⟩
 obtain ⟨n,q,C,rfl,V,E⟩:=ae;obtain ⟨am,an,ao⟩:=jq C;refine aj 8 U<|eP U (eu e7 (jX _ _ _ ak) U fun aw al ag=> ?_) fun c w' A σ' I=>⟨62,A2 C (by have :=of_decide_eq_false A.2.1; omega),A.1,by rw [A.2.2]; exact E⟩
 obtain ⟨rfl,L,rfl⟩:=ag;have L:=of_decide_eq_true L;refine aj 6 U<|p (fH u3 mq U<|gU ab)<|eP U (eu zB (Dv rb s q n al V J ab ab) U fun au ax ad=> ?_) fun c w' A σ' I=>⟨60,A3 C ab A.1,A.2.1,E.trans A.2.2⟩
 obtain ⟨ap,rfl,O,ac⟩:=ad;exact az 4 U<|qy<|f1 U U<|⟨_,_,A4 C ab ab,U,O,E.trans ac⟩
theorem Dw {s:List UInt8} {i:Nat} (h:i < s.length):(s.take<|i+1).drop i= [s.getD i 0]:=by
 rw [EW,show i+1 - i=1 by omega,drop_cons 0 h]; rfl
theorem Mj (b:UInt8):nq [b]=fw b:=by
 unfold nq fT;cases h:fw b <;> simp [h]
def ic:List UInt8×List UInt8:=([],[])
def ej (r:List UInt8×List UInt8):List ag:= [str r.1,str r.2]
theorem CE {h:Array Obj} {a:Option bl} {rs:List (List UInt8×List UInt8)} {i:Nat} (A:aV h a (rs.flatMap ej)) (hi:i < rs.length):∀ j,j < 2→Hb.ay h (bk a) (fo a+i*2 +j)= [str (rs.getD i ic).1,str (rs.getD i ic).2][j]? :=
 lX (f:=ej) (m:=2) (fun _=>rfl) A (by rw [cn,bt hi]; rfl)
theorem CF {rs:List (List UInt8×List UInt8)} (h:0 < rs.length):rs.flatMap ej≠[]:=oE (f:=ej) (m:=2) (fun _=>rfl) aF h
variable {ls:Nat} {t:List UInt8} {rs:List (List UInt8×List UInt8)}
theorem nT {b:Bool} (h:(!b)=true):b=false :=by cases b; rfl; cases h
theorem pj (h:ls < 1∨64 < ls∨256 < rs.length):ek ls t rs=false :=by
 unfold ek;rw [decide_eq_false ab]; rfl
theorem tD (h:t≠[]) (A:letE t≠(t,0)):ek ls t rs=false :=by
 unfold ek;rw [decide_eq_false h,decide_eq_false A]; simp
theorem mh {i:Nat} (h:i < rs.length) (A:gR (rs.getD i ic)=false):ek ls t rs=false :=by
 unfold ek;rw [zg ic h A]; simp
theorem CV (h:¬(ls < 1∨64 < ls∨256 < rs.length)) (A:t= []∨letE t=(t,0)) (C:∀ i,i < rs.length→gR (rs.getD i ic)=true):ek ls t rs=true :=by
 unfold ek;rw [decide_eq_true ab,zh ic C];rcases A with A | A <;> simp [A]
theorem CX {r:List UInt8×List UInt8} (h:r.1= []):gR r=false :=by unfold gR; simp [h]
theorem xK {r:List UInt8×List UInt8} (h:(fT r.1 && decide (r.1.length≤32))=false):gR r=false :=by unfold gR; rw [h]; simp
theorem xL {r:List UInt8×List UInt8} (h:(fT r.2 && decide (r.2.length≤32))=false):gR r=false :=by unfold gR; rw [h]; simp
theorem CY {r:List UInt8×List UInt8} (h0:r.1≠[]) (h:(fT r.1 && decide (r.1.length≤32))=true) (A:(fT r.2 && decide (r.2.length≤32))=true):gR r=true :=by unfold gR; rw [h,A,decide_eq_true h0]; rfl
theorem Cq (x:List UInt8) (m:Nat) (w:ah) (ad:x.length≤1048576):
 bo ar 92 (bB [str x,aB m]) w (fun v w'=>v= .bool (fT x && decide (x.length≤m))∧Wk w w'):=by
 refine enter func92 U ntmps92 U<|bT 14 U<|lp (fun I V E=> ∃ (i:Nat),(i≤x.length)∧(∀ j,j < i→fw (x.getD j 0)=true)∧(Wk w E)∧(Sl V [(0,str x),(1,aB m),(7,aB (x.length)),(8,aB i)])∧(x.length - i=I)) _ ⟨0,ab,(fun j M=>by omega),(Md.refl _ _),U,U⟩ ?_;rintro I V E ⟨i,hi,O,A,ac,rfl⟩;refine bF ac<|bT 6 U<|cd U (fun Z=> ?_) fun Z=> ?_;refine aJ 15 U<|p (cg<|i+1)<|p (mj u9 U U U ab)<|e<|ba (Mg ((x.take<|i+1).drop i) E<|by rw [Dw ab]; simp) U fun ae ag L=> ?_;rw [Dw ab,Mj] at L;obtain ⟨rfl,J⟩:=L;refine aN 3 U<|cb U (fun C=> ?_) fun C=> ?_;exact aG 8 U<|tr<|bf 2 U<|aR U<|⟨by rw [qf (i:=i) ab (by simpa using C)]; rfl,A.trans J⟩
 exact aJ 4 U<|p (cg<|i+1)<|az 2 U<|tn<|⟨_,ab,i+1,ab,(fun j M=>by rcases dD j i with h | h <;> first | exact O j h | (rw [show j=i by omega]; simpa using C)),(A.trans J),U,U⟩
 exact aG 2 U<|b9<|bf 12 U<|aR U<|⟨by rw [r8 (fun j M=>O j ab),rl]; exact bv ab,A⟩
theorem K3 (ls:Nat) (t:List UInt8) (rs:List (List UInt8×List UInt8)) (V:Option bl) (rc:Nat) (aD v4 aE v6:ag) (w:ah) (au:aV w.heap V (rs.flatMap ej)) (bc:ls≤64) (bh:t.length≤1048576) (bd:rs.length≤1048576) (a1:∀ r∈rs,r.1.length≤1048576∧r.2.length≤1048576):
 bo ar 57 (bB [.agg #[aB ls,str t,.slice V rs.length rc,aD,v4,aE,v6]]) w (fun v w'=>v= .bool (ek ls t rs)∧Wk w w'):=by
 refine enter func57 U ntmps57 U<|aW 2 U<|e<|oo U fun ao a6 a8 M C=>aj 7 U<|p (ax U<|C.aO 0)<|aj 2 U<|gs (t:=10) U (fun aZ=> ?_) fun aZ=> ?_;exact aj 4 U<|p mv<|az 15 U<|aR U<|⟨(congrArg bD<|pj (t:=t) (rs:=rs)<|.inl (show ls < 1 by omega)).symm,M.md⟩
 refine aj 1 U<|bO U (ax U<|C.aO 0)<|aj 3 U<|gs (t:=15) U (fun a0=> ?_) fun a0=> ?_;exact az 15 U<|aR U<|⟨(congrArg bD<|pj (t:=t) (rs:=rs)<|.inr<|.inl (show 64 < ls by omega)).symm,M.md⟩
 refine aj 1 U<|bO U (ax U<|C.aO 2)<|aN 5 U<|cd U (fun aX=> ?_) fun aX=> ?_;exact aG 7 U<|aR U<|⟨(congrArg bD<|pj<|.inr<|.inr (show 256 < rs.length by omega)).symm,M.md⟩
 refine bS 2 U ?_;refine dY (fun aF am=> ∃ (a5:Unit),(t= []∨letE t=(t,0))∧(Wk w am)∧(aA am.heap ao [aB ls,str t,.slice V rs.length rc,aD,v4,aE,v6])∧(Sl aF [(1,aU ao)])) ?_ ?_;refine aW 3 U<|p (ax U<|C.aO 1)<|e<|ba (I7 t a6 ab) U ?_;rintro bi bn ⟨rfl,av⟩;have I:=M.md.trans av;have E:=Wk.B av C;refine p mv<|aj 9 U<|p (ax U<|E.aO 1)<|aj 2 U<|gs (t:=30) U (fun O=> ?_) fun O=> ?_;refine aj 3 U<|gs (t:=33) U (fun ae=> ?_) fun ae=> ?_;exact aj 5 U<|p (mg U)<|az 9 U<|tr<|aR U<|⟨(congrArg bD<|tD O fun h=>by rw [h] at ae; exact ae U).symm,I⟩
 refine aj 2 U<|bO U (ax U<|E.aO 1)<|aN 5 U<|cd U (fun ac=> ?_) fun ac=> ?_;exact aG 6 U<|tr<|aR U<|⟨(congrArg bD<|tD O fun h=>ac<|by rw [h]).symm,I⟩
 exact aG 1 U<|tn<|⟨(),(.inr<|Prod.ext (rn.1 ac)<|by show (letE t).2=0; omega),I,E,U⟩
 exact az 13 U<|tn<|⟨(),(.inl<|rn.1 O),I,E,U⟩
 rintro aF am ⟨a5,a4,aQ,aP,a2⟩;refine bF a2<|aJ 4 U<|p (ax U<|aP.aO 2)<|aN 5 U<|lp (fun ap aH an=> ∃ (i:Nat),(i≤rs.length)∧(∀ j,j < i→gR (rs.getD j ic)=true)∧(Wk w an)∧(Sl aH [(41,.slice V rs.length rc),(42,aB (rs.length)),(43,aB i)])∧(rs.length - i=ap)) _ ⟨0,ab,(fun j ay=>by omega),aQ,U,U⟩ ?_;rintro ap aH an ⟨i,hi,aC,A,a3,rfl⟩;refine bF a3<|bT 6 U<|cd U (fun aY=> ?_) fun aY=> ?_;refine aJ 6 U<|p (bG HH U U ab<|aV.ok (au.wk A)<|CF ab)<|p (fg FJ U (U)<|CE (au.wk A) ab)<|e<|dz Nk fun aI bq a9 aT aL=>e<|dZ G5 U U U U aL (by simp) fun al aS aM=> ?_;have Z:aA al.heap aI [str (rs.getD i ic).1,str (rs.getD i ic).2]:=⟨_,aM⟩
 have L:Wk an al:=Md.trans' aT.md aS fun k bb h=>by omega
 have bg:=a1 _<|jP (d:=ic) (show i < rs.length by omega);refine aj 5 U<|p (ax U<|Z.aO 0)<|aj 2 U<|gs (t:=50) U (fun ai=> ?_) fun ai=> ?_;exact aj 5 U<|p mv<|az 16 U<|tr<|bf 2 U<|aR U<|⟨(congrArg bD<|mh (show i < rs.length by omega)<|CX ai).symm,A.trans L⟩
 refine aj 1 U<|bO U (ax U<|Z.aO 0)<|eg U U U<|ba (Cq _ 32 al ab) U ?_;rintro bj a7 ⟨rfl,J⟩;have aK:=Wk.B J Z;refine aj 3 U<|gb (t:=56) U (fun ak=> ?_) fun ak=> ?_;exact az 16 U<|tr<|bf 2 U<|aR U<|⟨(congrArg bD<|mh (show i < rs.length by omega)<|xK<|nT ak).symm,(A.trans L).trans J⟩
 refine aj 1 U<|bO U (ax U<|aK.aO 1)<|eg U U U<|ba (Cq _ 32 a7 ab) U ?_;rintro bm bp ⟨rfl,aw⟩;refine aN 4 U<|cb U (fun ad=> ?_) fun ad=> ?_;exact aG 8 U<|tr<|bf 2 U<|aR U<|⟨(congrArg bD<|mh (show i < rs.length by omega)<|xL<|nT ad).symm,((A.trans L).trans J).trans aw⟩
 exact aJ 4 U<|p (cg<|i+1)<|az 2 U<|tn<|⟨_,ab,i+1,ab,(fun j ay=>by rcases dD j i with h | h <;> first | exact aC j h | (rw [show j=i by omega]; exact CY ai (by simpa using ak)<|by simpa using ad)),(((A.trans L).trans J).trans aw),U,U⟩
 exact aG 2 U<|b9<|bf 8 U<|aR U<|⟨(congrArg bD<|CV ab a4 fun j ay=>aC j ab).symm,A⟩
end Go.Hb
end
section
namespace Go.Hb
open Go.Hb.dO
structure ez (f:Nat→ag) (w:ah) (pA ms:Nat) (aa:Option bl) (n cA nx:Nat) (mk:List Nat):Prop where
 an:aA w.heap pA [.slice aa n cA,.int .i64 nx,.slice (some ⟨ms,0,none⟩) n n]
 gr:aA w.heap ms (mk.map f)
 ne:pA≠ms
theorem ez.drew {f:Nat→ag} {w:ah} {A ms:Nat} {aa:Option bl} {n cA nx:Nat} {mk:List Nat} (h:ez f w A ms aa n cA nx mk):ez f w.drew A ms aa n cA nx mk:=⟨h.an,h.gr,h.ne⟩
theorem wU {f:Nat→ag} {mk:List Nat} {i x:Nat} :(mk.map f).set (0 +i*1) (f x)=(mk.set i x).map f:=by rw [List.map_set,cH,Nat.mul_one]
section
variable {a:List aM} {f nx:Nat} {mk:List Nat} {n:Int}
theorem re (h:n≠nx) (A:¬(0≤n∧n < nx)):vs a (f+1) (nx,mk) n=none:=by
 rw [ym h,if_neg (fun e=>A ⟨e.1,e.2.1⟩)]
theorem DH (h:n≠nx) (h0:0≤n) (h1:n < nx):(vs a (f+1) (nx,mk) n).isSome=decide (((mk.getD n.toNat 0:Nat):Int)=2):=by
 rw [ym h];by_cases A:mk.getD n.toNat 0=2
 · rw [if_pos ⟨h0,h1,A⟩,decide_eq_true ab]; rfl
 · rw [if_neg (fun e=>A e.2.2),decide_eq_false ab]; rfl
theorem DI {s:Nat×List Nat} (h:n≠nx) (A:vs a (f+1) (nx,mk) n=some s):s=(nx,mk):=by
 rw [ym h] at A;split at A
 · cases A; rfl
 · cases A
end
set_option maxHeartbeats 1000000 in
theorem Mh (f:Nat) (a:List aM) (aa:Option bl) (cA E ms:Nat) (w0:ah) (nx:Nat) (mk:List Nat) (n:Int) (w:ah) (bm:eA w0.heap aa a) (cw:w0.heap.size≤E) (hm:w0.heap.size≤ms) (aZ:Wk w0 w) (I:ez jF w E ms aa a.length cA nx mk) (ct:mk.length=a.length) (cv:nx≤a.length) (cs:a.length < f+nx) (hb:a.length≤1048576) (b1:∀ i,i < a.length→(aD a i).2.length≤1073741824):
 bo ar 87 (bB [aU E,.int .i64 n]) w (fun v w'=>v= .bool (vs a f (nx,mk) n).isSome∧Md (fun q=>q=E∨q=ms) w w'∧∀ s,vs a f (nx,mk) n=some s→ez jF w' E ms aa a.length cA s.1 s.2):=by
 induction f generalizing nx mk n w with
 | zero=>omega
 | succ f ih=>
   have a2:∀ k,k < w0.heap.size→(k=E∨k=ms)→False:=fun k h1 ck=>ab;have cx:=I.an.lt;have cu:=I.gr.lt;have al:=I.ne;obtain ⟨cj,bY⟩:=I.an;refine enter func87 U ntmps87 U<|aW 12 U<|p (ax U<|I.an.ay 1)<|aN 3 U<|cd U (fun ap=> ?_) fun ap=> ?_;refine aJ 5 U<|gs (t:=16) U (fun b3=> ?_) fun b3=> ?_;refine aj 4 U<|bO U (ax U<|I.an.ay 1)<|aj 3 U<|gs (t:=24) U (fun b4=> ?_) fun b4=> ?_;refine aj 3 U<|bO U (ax U<|I.an.ay 2)<|aj 1 U<|bO U (ia qv U U ab)<|bO U (ax U (show _=some (a0 .u8 ((mk.getD n.toNat 0:Nat):Int)) from zt I.gr (i:=n.toNat) ab))<|az 7 U<|aR U ?_;refine ⟨congrArg bD (DH ap ab ab).symm,Md.refl _ _,fun s A=>by rw [DI ap A]; exact I⟩;refine aj 9 U<|p aT<|az 4 U<|aR U ?_;rw [re ap ab];exact ⟨U,Md.refl _ _,fun s A=>by cases A⟩;refine aj 7 U<|p mv<|aj 9 U<|p aT<|az 4 U<|aR U ?_;rw [re ap ab];exact ⟨U,Md.refl _ _,fun s A=>by cases A⟩;obtain rfl :n=(nx:Int):=rn.1 ap;refine aJ 9 U<|p (ax U<|I.an.ay 0)<|aN 4 U<|cd U (fun bZ=> ?_) fun bZ=> ?_;refine aG 7 U<|aR U ?_;rw [DM rfl ab];exact ⟨U,Md.refl _ _,fun s A=>by cases A⟩;refine aJ 7 U<|p (ax U<|I.an.ay 1)<|p (cg<|nx+1)<|aj 2 U<|e<|cU dc U U U bY (by simp) fun cf bv bJ=> ?_;have bp:aA cf.heap E [.slice aa a.length cA,.int .i64 ((nx+1:Nat):Int),.slice (some ⟨ms,0,none⟩) a.length a.length]:=⟨_,bJ⟩
   have b8:=bv.B I.gr fun e=>al e.symm;obtain ⟨em,bW⟩:=b8;refine aj 7 U<|p (ax U<|bp.ay 2)<|aj 1 U<|p (ia qv U U ab)<|e<|cU zV U U U bW (by simp; omega) fun aL bw bK=> ?_;have ca:aA aL.heap ms ((mk.set nx 1).map jF):=by rw [← wU]; exact ⟨_,bK⟩
   have a3:ez jF aL E ms aa a.length cA (nx+1) (mk.set nx 1):=⟨bw.B bp al,ca,al⟩
   have a7:Md (fun q=>q=E∨q=ms) w aL:=Md.trans (bv.mono fun k _ h=> .inl h)<|bw.mono fun k _ h=> .inr h;have a1:Wk w0 aL:=Md.trans' aZ a7 a2;obtain ⟨ad,ae,bA,aB⟩:=bm.two (i:=nx) ab;have cn:=aB.wk a1;refine aj 7 U<|p (ax U<|a3.an.ay 0)<|aj 1 U<|p (bG lW U U ab<|bm.ok ab)<|p (fg zc U (U)<|px a1 bA)<|e<|dz DZ fun ac cz cq bU bL=>e<|dZ zY U U U U bL (by simp) fun bi bQ bM=> ?_;have br:aA bi.heap ac [bD (aD a nx).1,.slice ad (aD a nx).2.length ae]:=⟨_,bM⟩
   have aP:Wk aL bi:=Md.trans' bU.md bQ fun k bx h=>by omega
   have bN:ez jF bi E ms aa a.length cA (nx+1) (mk.set nx 1):=⟨aP.B a3.an,aP.B a3.gr,al⟩
   have cm:=a7.size;refine aj 6 U<|p (ax U<|br.ay 1)<|aN 5 U<|lp (fun bj bz au=> ∃ (k M:Nat) (J:List Nat),(k≤(aD a nx).2.length)∧(fO a f (nx+1) (mk.set nx 1) ((aD a nx).2.take k)=some (M,J))∧(dP<|(aD a nx).2.take k)∧(Wk w0 au)∧(Md (fun q=>q=E∨q=ms) w au)∧(ez jF au E ms aa a.length cA M J)∧(aA (au).heap ac [bD (aD a nx).1,.slice ad (aD a nx).2.length ae])∧(Sl bz [(0,aU E),(1,.int .i64 (nx:Int)),(5,aU ac),(62,.slice ad (aD a nx).2.length ae),(63,.int .i64 (aD a nx).2.length),(64,.int .i64 k)])∧((aD a nx).2.length - k=bj)) _ ⟨0,nx+1,mk.set nx 1,ab,U,List.Pairwise.nil,(Md.trans a1 aP),(Md.trans' a7 aP fun k _ h=>h.elim),bN,br,U,U⟩ ?_;rintro bj bz au ⟨k,M,J,bx,Z,aX,aQ,a5,aC,ao,cc,rfl⟩;refine bF cc<|bT 6 U<|cd U (fun b0=> ?_) fun b0=> ?_;refine bS 5 U ?_;have cr:=b1 nx ab;obtain ⟨⟨c,z⟩,hek⟩:∃ e,(aD a nx).2[k]? =some e:=⟨_,bt ab⟩
   obtain ⟨⟨aO,ch⟩,hep⟩:∃ e,(aD a nx).2[k - 1]? =some e:=⟨_,bt ab⟩
   have a9:=tU Z ab;simp only [iF] at a9;refine aJ 2 U<|p (bG oD U U ab<|aB.ok ab)<|p (fg rW U (U)<|px aQ<|aB.two hek)<|e<|dz D3 fun av cy cp bR bE=>aj 1 U<|e<|dZ zZ U U U U bE (by simp) fun aK bP bH=> ?_;have aY:aA aK.heap av [a0 .u8 c.toNat,.int .i64 z]:=⟨_,bH⟩
   have L:Wk au aK:=Md.trans' bR.md bP fun k bx h=>by omega
   have bu:ez jF aK E ms aa a.length cA M J:=⟨L.B aC.an,L.B aC.gr,al⟩
   have a6:Md (fun q=>q=E∨q=ms) w aK:=Md.trans' a5 L fun k _ h=>h.elim;have co:=a5.size;refine aN 3 U ?_;have C:(fun w'=>Wk w0 w'∧aA w'.heap ac [bD (aD a nx).1,.slice ad (aD a nx).2.length ae]∧aA w'.heap av [a0 .u8 c.toNat,.int .i64 z]) aK.drew:=⟨(Md.trans aQ L).drew,L.B ao,aY⟩
   refine bq (fun w'=>Wk w0 w'∧aA w'.heap ac [bD (aD a nx).1,.slice ad (aD a nx).2.length ae]∧aA w'.heap av [a0 .u8 c.toNat,.int .i64 z]) U wide C<|aH [0,1,2] U C<|jR (t:=71) U (fun b5=> ?_) fun b5=> ?_;refine aH [3] U C<|fI 4 U (fun w' V=>ax U<|V.2.1.ay 1) C<|aH [5] U C<|fI 6 U (fun _ _=>pb<|k - 1) C<|fI 7 U (fun _ _=>bG oD U U ab<|aB.ok ab) C<|aH [8] U C<|fI 9 U (fun w' V=>ax U (show _=some (a0 .u8 (aO.toNat:Int)) from (aB.wk V.1).b (k - 1) (aO,ch) hep)) C<|aH [10] U C<|fI 11 U (fun w' V=>ax U<|V.2.2.ay 0) C<|aH [12,13,14] U C<|jR (t:=83) U (fun b6=> ?_) fun b6=> ?_;refine aH [15,16,17,18,19,20] U C<|hn ai<|bf 10 U<|tr<|bf 2 U<|aR U ?_;rw [DL ab (B6 ab hek hep<|by show c.toNat≤aO.toNat; omega)];exact ⟨U,a6.drew,fun s A=>by cases A⟩;refine aH [15,16] U C<|fI 17 U (fun w' V=>ax U<|V.2.2.ay 1) C<|Bh 18 U ai U U U<|ba (ih M J z _ (Md.trans aQ L).drew (ez.drew bu) ab ab ab) U ?_;rintro ce am ⟨rfl,O,bd⟩;have ag:Md (fun q=>q=E∨q=ms) w am:=Md.trans a6<|Md.de O;have aw:Wk w0 am:=Md.trans' aZ ag a2;have aE:(fun w'=>Wk w0 w'∧aA w'.heap ac [bD (aD a nx).1,.slice ad (aD a nx).2.length ae]∧aA w'.heap av [a0 .u8 c.toNat,.int .i64 z]) am:=⟨aw,O.B (L.B ao) (fun e=>by omega),O.B aY fun e=>by omega⟩
   refine ⟨aE,?_⟩;refine aH [19,20] U aE<|hn ai<|dn 1 U<|cb U (fun ak=> ?_) fun ak=> ?_;have bb:vs a f (M,J) z=none:=by simpa using ak
   refine aG 8 U<|tr<|bf 2 U<|aR U ?_;rw [tT (k:=k+1) ab (by rw [mr Z hek]; exact bb)];exact ⟨U,ag,fun s A=>by cases A⟩;obtain ⟨aI,aF⟩:∃ s,vs a f (M,J) z=some s:=mF.1<|by simpa using ak
   exact aG 7 U<|tn<|⟨_,ab,k+1,aI.1,aI.2,ab,(by rw [mr Z hek]; exact aF),(tl aX hek fun q h0 bc=>by rw [hep] at bc; cases bc; show aO.toNat < c.toNat; omega),aw,ag,(bd _ aF),(O.B (L.B ao) fun e=>by omega),U,U⟩
   refine aH [3,4,5,6,7,8,9,10,11,12,13] U C<|dj 14 U (mv) C<|aH [15,16] U C<|fI 17 U (fun w' V=>ax U<|V.2.2.ay 1) C<|Bh 18 U ai U U U<|ba (ih M J z _ (Md.trans aQ L).drew (ez.drew bu) ab ab ab) U ?_;rintro ce am ⟨rfl,O,bd⟩;have ag:Md (fun q=>q=E∨q=ms) w am:=Md.trans a6<|Md.de O;have aw:Wk w0 am:=Md.trans' aZ ag a2;have aE:(fun w'=>Wk w0 w'∧aA w'.heap ac [bD (aD a nx).1,.slice ad (aD a nx).2.length ae]∧aA w'.heap av [a0 .u8 c.toNat,.int .i64 z]) am:=⟨aw,O.B (L.B ao) (fun e=>by omega),O.B aY fun e=>by omega⟩
   refine ⟨aE,?_⟩;refine aH [19,20] U aE<|hn ai<|dn 1 U<|cb U (fun ak=> ?_) fun ak=> ?_;have bb:vs a f (M,J) z=none:=by simpa using ak
   refine aG 8 U<|tr<|bf 2 U<|aR U ?_;rw [tT (k:=k+1) ab (by rw [mr Z hek]; exact bb)];exact ⟨U,ag,fun s A=>by cases A⟩;obtain ⟨aI,aF⟩:∃ s,vs a f (M,J) z=some s:=mF.1<|by simpa using ak
   exact aG 7 U<|tn<|⟨_,ab,k+1,aI.1,aI.2,ab,(by rw [mr Z hek]; exact aF),(tl aX hek fun q h0 bc=>by omega),aw,ag,(bd _ aF),(O.B (L.B ao) fun e=>by omega),U,U⟩
   refine aG 2 U<|b9<|dn 3 U ?_;obtain ⟨ci,bX⟩:=aC.gr;rw [show k=(aD a nx).2.length by omega,uG] at Z aX;have a9:=tU Z ab;simp only [iF] at a9;have bg:=DJ ab aX Z;refine aJ 4 U<|p (ax U<|aC.an.ay 2)<|aj 1 U<|p (ia qv U U ab)<|e<|cU zV U U U bX (by simp; omega) fun bh a4 bI=> ?_;have b7:aA bh.heap ms ((J.set nx 2).map jF):=by rw [← wU]; exact ⟨_,bI⟩
   have aS:ez jF bh E ms aa a.length cA M (J.set nx 2):=⟨a4.B aC.an al,b7,al⟩
   have aV:Md (fun q=>q=E∨q=ms) w bh:=Md.trans a5<|a4.mono fun k _ h=> .inr h;have bn:=a4.B ao fun e=>by omega
   refine aj 5 U<|p (ax U<|bn.ay 1)<|aj 3 U<|gs (t:=101) U (fun b2=> ?_) fun b2=> ?_;refine aj 3 U<|p mv<|aj 7 U<|p aT<|az 3 U<|aR U ?_;rw [bg,if_pos (BD ab)];exact ⟨U,aV,fun s A=>by cases A; exact aS⟩;refine aj 1 U<|bO U (ax U<|bn.ay 0)<|aj 2 U<|gb (t:=105) U (fun a8=> ?_) fun a8=> ?_;refine aj 7 U<|p aT<|az 3 U<|aR U ?_;rw [bg,if_pos (BC a8)];exact ⟨U,aV,fun s A=>by cases A; exact aS⟩;refine aj 3 U<|bO U (ax U<|aS.an.ay 0)<|az 7 U<|aR U ?_;rw [bg,wy ab a8];by_cases h1:a.length=1;rw [if_pos (decide_eq_true h1)];exact ⟨congrArg bD (decide_eq_true ab),aV,fun s A=>by cases A; exact aS⟩;rw [if_neg (by simpa using h1)];exact ⟨congrArg bD (decide_eq_false ab),aV,fun s A=>by cases A⟩
def qW (a:List aM):Int:=if shaped a=true then 0 else 190
theorem j1 {a:List aM} (h:shaped a=false):qW a=190:=if_neg<|by rw [h]; exact c9
theorem qX {a:List aM} (h:shaped a=true):qW a=0:=if_pos h
def jG (x:Nat):ag:= .bool<|decide (x=2)
theorem Js {mk:List Nat} {i:Nat} (h:mk.getD i 0=0):(mk.set i 1).map jG=mk.map jG:=by
 refine List.ext_getElem? fun j=> ?_;rw [eV,eV,List.getElem?_set];by_cases e:i=j
 · subst e;rw [if_pos rfl];by_cases A:i < mk.length
   · rw [if_pos A,bt A];rw [cn,bt A] at h;have h0:mk[i]=0:=h;rw [h0]; rfl
   · rw [if_neg A,List.getElem?_eq_none ab]
 · rw [if_neg e]
theorem Nf (n:Nat):∀ i,0≤i→(dr n 0).getD i 0=0:=fun i _=>by
 rw [cn,List.getElem?_replicate]; split <;> rfl
set_option maxHeartbeats 1000000 in
theorem C2 (a:List aM) (aa:Option bl) (cA:Nat) (w:ah) (ac:eA w.heap aa a) (aB:a.length≤140737488355328) (ao:∀ i,i < a.length→(aD a i).2.length≤1073741824):
 bo ar 50 (bB [.slice aa a.length cA]) w (fun v w'=>v= .int .i64 (qW a)∧Wk w w'):=by
 refine enter func50 U ntmps50 U<|aW 12 U<|gs (t:=7) U (fun ap=> ?_) fun ap=> ?_;exact az 14 U<|aR U<|⟨iv (j1<|tE ab).symm,Md.refl _ _⟩
 refine aN 6 U<|cd U (fun al=> ?_) fun al=> ?_;exact aG 7 U<|aR U<|⟨iv (j1<|tE ab).symm,Md.refl _ _⟩
 refine aJ 7 U<|e<|gr (zv:= .int .u8 0) kq U U U U ab (by unfold maxLen; omega) fun A aw aE E au=> ?_;have ae:aA aw.heap A ((dr a.length 0).map jF):=by rw [E8]; exact Cj<|au _<|aQ _
 refine p (eC (ps:= [(0,.slice aa a.length cA),(2,.slice (some ⟨A,0,none⟩) a.length a.length)]) (L:= [.slice aa a.length cA,.int .i64 0,.slice (some ⟨A,0,none⟩) a.length a.length]) Lr U<|U)<|e<|oo U fun M Z aC V ad=> ?_;have ai:ez jF Z M A aa a.length cA 0 (dr a.length 0):=⟨ad,V.md.B ae,by have :=E.size; omega⟩
 have O:Wk w Z:=Md.trans E.md V.md;have aH:=E.md.size;refine aj 7 U<|e<|ba (Mh (a.length+1) a aa cA M A w 0 (dr a.length 0) 0 _ ac ab ab O ai (by simp) ab ab ab ao) U ?_;rintro aK av ⟨rfl,ak,bq⟩;have C:Wk w av:=Md.trans' O ak fun k aF h=>by omega
 refine aj 2 U<|gb (t:=21) U (fun I=> ?_) fun I=> ?_;have hn:vs a (a.length+1) (0,dr a.length 0) 0=none:=by simpa using I
 exact az 18 U<|aR U<|⟨iv (j1<|C3 hn).symm,C⟩
 obtain ⟨aI,J⟩:∃ s,vs a (a.length+1) (0,dr a.length 0) 0=some s:=mF.1<|by simpa using I
 have ag:=bq _ J;refine aj 3 U<|bO U (ax U<|ag.an.ay 1)<|aN 6 U<|cd U (fun am=> ?_) fun am=> ?_;exact aG 7 U<|aR U<|⟨iv (j1<|by rw [tF ab ab J]; exact decide_eq_false ab).symm,C⟩
 exact aG 8 U<|aR U<|⟨iv (qX<|by rw [tF ab ab J]; exact decide_eq_true ab).symm,C⟩
set_option maxHeartbeats 1000000 in
theorem Mi (f:Nat) (a:List aM) (aa:Option bl) (cA A ms:Nat) (w0:ah) (nx:Nat) (mk:List Nat) (n:Int) (w:ah) (a6:eA w0.heap aa a) (ci:w0.heap.size≤A) (hm:w0.heap.size≤ms) (aS:Wk w0 w) (I:ez jG w A ms aa a.length cA nx mk) (ce:mk.length=a.length) (ch:nx≤a.length) (cc:a.length < f+nx) (hb:a.length≤1048576) (bM:∀ i,i < a.length→(aD a i).2.length≤1073741824) (bd:∀ i,nx≤i→mk.getD i 0=0):
 bo ar 93 (bB [aU A,.int .i64 n]) w (fun v w'=>v= .bool (vs a f (nx,mk) n).isSome∧Md (fun q=>q=A∨q=ms) w w'∧∀ s,vs a f (nx,mk) n=some s→ez jG w' A ms aa a.length cA s.1 s.2):=by
 induction f generalizing nx mk n w with
 | zero=>omega
 | succ f ih=>
   have aV:∀ k,k < w0.heap.size→(k=A∨k=ms)→False:=fun k h1 b6=>ab;have cj:=I.an.lt;have cf:=I.gr.lt;have ao:=I.ne;obtain ⟨b5,bE⟩:=I.an;refine enter func93 U ntmps93 U<|aW 11 U<|gs (t:=10) U (fun bN=> ?_) fun bN=> ?_;refine aj 8 U<|p mv<|az 17 U<|aR U ?_;rw [re ab ab];exact ⟨U,Md.refl _ _,fun s E=>by cases E⟩;refine aj 4 U<|bO U (ax U<|I.an.ay 0)<|aj 4 U<|gs (t:=19) U (fun bP=> ?_) fun bP=> ?_;refine az 17 U<|aR U ?_;have bZ:vs a (f+1) (nx,mk) n=none:=by
    by_cases h:n=nx;exact DM h ab;exact re h ab
   rw [bZ];exact ⟨U,Md.refl _ _,fun s E=>by cases E⟩;refine aj 4 U<|bO U (ax U<|I.an.ay 1)<|aN 4 U<|cd U (fun bH=> ?_) fun bH=> ?_;refine aG 7 U<|aR U ?_;rw [re ab ab];exact ⟨U,Md.refl _ _,fun s E=>by cases E⟩;refine aJ 9 U<|p (ax U<|I.an.ay 1)<|aN 3 U<|cd U (fun bI=> ?_) fun bI=> ?_;exact aJ 5 U<|p (ax U<|I.an.ay 2)<|aj 1 U<|p (ia AK U U ab)<|p (ax U (show _=some (bD<|decide (mk.getD n.toNat 0=2)) from zt I.gr (i:=n.toNat) ab))<|az 5 U<|aR U<|⟨congrArg bD ((DH ab ab ab).trans<|by rw [decide_eq_decide]; omega).symm,Md.refl _ _,fun s E=>by rw [DI ab E]; exact I⟩
   obtain rfl :n=(nx:Int):=ab;refine aJ 8 U<|p (ax U<|I.an.ay 1)<|p (cg<|nx+1)<|aj 2 U<|e<|cU dc U U U bE (by simp) fun aO bb bp=> ?_;have aX:ez jG aO A ms aa a.length cA (nx+1) (mk.set nx 1):=⟨⟨_,bp⟩,by rw [Js (bd nx<|aQ _)]; exact bb.B I.gr (fun e=>ao e.symm),ao⟩
   have aY:Md (fun q=>q=A∨q=ms) w aO:=bb.mono fun k _ h=> .inl h;have a7:Wk w0 aO:=Md.trans' aS aY aV;obtain ⟨aC,aE,bm,O⟩:=a6.two (i:=nx) ab;refine aj 7 U<|p (ax U<|aX.an.ay 0)<|aj 1 U<|p (bG HG U U ab<|a6.ok ab)<|p (fg zb U (U)<|px a7 bm)<|e<|dz DW fun ad ck b8 bz br=>e<|dZ zR U U U U br (by simp) fun aw bw bu=> ?_;have aP:aA aw.heap ad [bD (aD a nx).1,.slice aC (aD a nx).2.length aE]:=⟨_,bu⟩
   have aF:Wk aO aw:=Md.trans' bz.md bw fun k bT h=>by omega
   have a8:ez jG aw A ms aa a.length cA (nx+1) (mk.set nx 1):=⟨aF.B aX.an,aF.B aX.gr,ao⟩
   have b7:=aY.size;have bc:Md (fun q=>q=A∨q=ms) w aw:=Md.trans' aY aF fun k _ h=>h.elim;refine aN 2 U ?_;refine dY (fun bi bh=>(gp a (aD a nx)=true)∧(bh=aw)∧(Sl bi [(0,aU A),(1,.int .i64 (nx:Int)),(5,aU ad)])) ?_ ?_;refine aW 3 U<|p (ax U<|aP.ay 1)<|aj 3 U<|gs (t:=59) U (fun bQ=> ?_) fun bQ=> ?_;refine aj 1 U<|bO U (ax U<|aP.ay 0)<|aj 3 U<|gb (t:=64) U (fun aK=> ?_) fun aK=> ?_;refine aj 3 U<|bO U (ax U<|a8.an.ay 0)<|aN 5 U<|cd U (fun bJ=> ?_) fun bJ=> ?_;refine aG 6 U<|tr<|aR U ?_;rw [Mk ab (by rw [wy ab (by simpa using aK)]; exact decide_eq_false ab)];exact ⟨U,bc,fun s E=>by cases E⟩;exact aG 1 U<|tn<|⟨(by rw [wy ab (by simpa using aK)]; exact decide_eq_true ab),U,U⟩
   exact az 11 U<|tn<|⟨(BC<|by simpa using aK),U,U⟩
   exact aj 4 U<|p mv<|az 11 U<|tn<|⟨(BD ab),U,U⟩
   rintro bi bh ⟨bU,b1,bX⟩;refine bF bX ?_;subst b1;refine bS 7 U<|lp (fun a5 bj ag=> ∃ (k L:Nat) (J:List Nat),(k≤(aD a nx).2.length)∧(fO a f (nx+1) (mk.set nx 1) ((aD a nx).2.take k)=some (L,J))∧(dP<|(aD a nx).2.take k)∧(Wk w0 ag)∧(Md (fun q=>q=A∨q=ms) w ag)∧(ez jG ag A ms aa a.length cA L J)∧(aA (ag).heap ad [bD (aD a nx).1,.slice aC (aD a nx).2.length aE])∧(Sl bj [(0,aU A),(1,.int .i64 (nx:Int)),(5,aU ad),(6,.int .i64 k)])∧((aD a nx).2.length - k=a5)) _ ⟨0,nx+1,mk.set nx 1,ab,U,List.Pairwise.nil,(Md.trans a7 aF),bc,a8,aP,U,U⟩ ?_;rintro a5 bj ag ⟨k,L,J,bT,M,aL,ak,aI,al,ae,bY,rfl⟩;refine bF bY<|aW 5 U<|p (ax U<|ae.ay 1)<|aN 4 U<|cd U (fun bK=> ?_) fun bK=> ?_;refine bS 6 U ?_;have ca:=bM nx ab;obtain ⟨⟨c,z⟩,hek⟩:∃ e,(aD a nx).2[k]? =some e:=⟨_,bt ab⟩
   obtain ⟨⟨aB,b3⟩,hep⟩:∃ e,(aD a nx).2[k - 1]? =some e:=⟨_,bt ab⟩
   have aZ:=tU M ab;simp only [iF] at aZ;have bg:=Mr M fun i hi=>by rw [getD_set_ne _ _ ab]; exact bd i ab
   have C:(fun w'=>Wk w0 w'∧aA w'.heap ad [bD (aD a nx).1,.slice aC (aD a nx).2.length aE]) ag.drew:=⟨ak.drew,ae⟩
   refine bq (fun w'=>Wk w0 w'∧aA w'.heap ad [bD (aD a nx).1,.slice aC (aD a nx).2.length aE]) U wide C<|aH [0,1,2] U C<|jR (t:=81) U (fun bR=> ?_) fun bR=> ?_;refine aH [3] U C<|fI 4 U (fun w' Z=>ax U<|Z.2.ay 1) C<|aH [5] U C<|fI 6 U (fun _ _=>bG sw U U ab<|O.ok ab) C<|aH [7] U C<|fI 8 U (fun w' Z=>ax U (show _=some (a0 .u8 (c.toNat:Int)) from (O.wk Z.1).b k (c,z) hek)) C<|aH [9] U C<|fI 10 U (fun w' Z=>ax U<|Z.2.ay 1) C<|aH [11] U C<|fI 12 U (fun _ _=>pb<|k - 1) C<|fI 13 U (fun _ _=>bG sw U U ab<|O.ok ab) C<|aH [14] U C<|fI 15 U (fun w' Z=>ax U (show _=some (a0 .u8 (aB.toNat:Int)) from (O.wk Z.1).b (k - 1) (aB,b3) hep)) C<|aH [16,17] U C<|hn ai<|dn 1 U<|cd U (fun bL=> ?_) fun bL=> ?_;refine aG 9 U<|tr<|bf 2 U<|aR U ?_;rw [DL ab (B6 ab hek hep<|by show c.toNat≤aB.toNat; omega)];exact ⟨U,aI.drew,fun s E=>by cases E⟩;refine aJ 6 U<|p (ax U<|ae.ay 1)<|aj 1 U<|p (bG sw U U ab<|O.ok ab)<|aj 1 U<|p (ax U (show _=some (a0 .i64 z) from (O.wk ak).to k (c,z) hek))<|e<|ba (ih L J z _ (Md.drew ak) (ez.drew al) ab ab ab bg) U ?_;rintro b2 av ⟨rfl,am,a3⟩;have V:Md (fun q=>q=A∨q=ms) w av:=Md.trans aI<|Md.de am;have aT:Wk w0 av:=Md.trans' aS V aV;refine aN 9 U<|cb U (fun ac=> ?_) fun ac=> ?_;have a1:vs a f (L,J) z=none:=by simpa using ac
   refine aG 8 U<|tr<|bf 2 U<|aR U ?_;rw [tT (k:=k+1) ab (by rw [mr M hek]; exact a1)];exact ⟨U,V,fun s E=>by cases E⟩;obtain ⟨au,ap⟩:∃ s,vs a f (L,J) z=some s:=mF.1<|by simpa using ac
   exact aG 8 U<|tn<|⟨_,ab,k+1,au.1,au.2,ab,(by rw [mr M hek]; exact ap),(tl aL hek fun q h0 a2=>by rw [hep] at a2; cases a2; show aB.toNat < c.toNat; omega),aT,V,(a3 _ ap),(am.B ae fun e=>by omega),U,U⟩
   refine aH [3,4,5,6,7,8,9,10,11,12,13,14,15,16,17] U C<|hn ai<|gn 8 U<|p (ax U<|ae.ay 1)<|aj 1 U<|p (bG sw U U ab<|O.ok ab)<|aj 1 U<|p (ax U (show _=some (a0 .i64 z) from (O.wk ak).to k (c,z) hek))<|e<|ba (ih L J z _ (Md.drew ak) (ez.drew al) ab ab ab bg) U ?_;rintro b2 av ⟨rfl,am,a3⟩;have V:Md (fun q=>q=A∨q=ms) w av:=Md.trans aI<|Md.de am;have aT:Wk w0 av:=Md.trans' aS V aV;refine aN 9 U<|cb U (fun ac=> ?_) fun ac=> ?_;have a1:vs a f (L,J) z=none:=by simpa using ac
   refine aG 8 U<|tr<|bf 2 U<|aR U ?_;rw [tT (k:=k+1) ab (by rw [mr M hek]; exact a1)];exact ⟨U,V,fun s E=>by cases E⟩;obtain ⟨au,ap⟩:∃ s,vs a f (L,J) z=some s:=mF.1<|by simpa using ac
   exact aG 8 U<|tn<|⟨_,ab,k+1,au.1,au.2,ab,(by rw [mr M hek]; exact ap),(tl aL hek fun q h0 a2=>by omega),aT,V,(a3 _ ap),(am.B ae fun e=>by omega),U,U⟩
   refine aG 2 U<|b9<|dn 3 U ?_;obtain ⟨b4,bA⟩:=al.gr;rw [show k=(aD a nx).2.length by omega,uG] at M aL;have aZ:=tU M ab;simp only [iF] at aZ;have b0:=DJ ab aL M;refine aJ 4 U<|p (ax U<|al.an.ay 2)<|aj 1 U<|p (ia AK U U ab)<|e<|cU zS U U U bA (by simp; omega) fun a4 a9 bn=> ?_;have bW:aA a4.heap ms ((J.set nx 2).map jG):=by rw [← wU]; exact ⟨_,bn⟩
   have bv:ez jG a4 A ms aa a.length cA L (J.set nx 2):=⟨a9.B al.an ao,bW,ao⟩
   have bx:Md (fun q=>q=A∨q=ms) w a4:=Md.trans aI<|a9.mono fun k _ h=> .inr h;refine az 8 U<|aR U ?_;rw [b0,if_pos bU];exact ⟨U,bx,fun s E=>by cases E; exact bv⟩
set_option maxHeartbeats 1000000 in
theorem K7 (a:List aM) (aa:Option bl) (cA:Nat) (w:ah) (ac:eA w.heap aa a) (aB:a.length≤140737488355328) (ao:∀ i,i < a.length→(aD a i).2.length≤1073741824):
 bo ar 63 (bB [.slice aa a.length cA]) w (fun v w'=>v= .int .i64 (qW a)∧Wk w w'):=by
 refine enter func63 U ntmps63 U<|aW 12 U<|gs (t:=8) U (fun ap=> ?_) fun ap=> ?_;exact az 14 U<|aR U<|⟨iv (j1<|tE ab).symm,Md.refl _ _⟩
 refine aN 6 U<|cd U (fun al=> ?_) fun al=> ?_;exact aG 7 U<|aR U<|⟨iv (j1<|tE ab).symm,Md.refl _ _⟩
 refine aJ 7 U<|e<|gr (zv:= .bool false) Lf U U U U ab (by unfold maxLen; omega) fun A aw aE E au=> ?_;have ae:aA aw.heap A ((dr a.length 0).map jG):=by rw [E8]; exact Cj<|au _<|aQ _
 refine p (eC (ps:= [(0,.slice aa a.length cA),(2,.slice (some ⟨A,0,none⟩) a.length a.length)]) (L:= [.slice aa a.length cA,.int .i64 0,.slice (some ⟨A,0,none⟩) a.length a.length]) Lt U<|U)<|e<|oo U fun M Z aC V ad=> ?_;have ai:ez jG Z M A aa a.length cA 0 (dr a.length 0):=⟨ad,V.md.B ae,by have :=E.size; omega⟩
 have O:Wk w Z:=Md.trans E.md V.md;have aH:=E.md.size;refine aj 6 U<|e<|ba (Mi (a.length+1) a aa cA M A w 0 (dr a.length 0) 0 _ ac ab ab O ai (by simp) ab ab ab ao<|Nf _) U ?_;rintro v20 av ⟨rfl,ak,bq⟩;have C:Wk w av:=Md.trans' O ak fun k aF h=>by omega
 refine aj 9 U<|gb (t:=23) U (fun I=> ?_) fun I=> ?_;have hn:vs a (a.length+1) (0,dr a.length 0) 0=none:=by simpa using I
 exact az 18 U<|aR U<|⟨iv (j1<|C3 hn).symm,C⟩
 obtain ⟨aI,J⟩:∃ s,vs a (a.length+1) (0,dr a.length 0) 0=some s:=mF.1<|by simpa using I
 have ag:=bq _ J;refine aj 3 U<|bO U (ax U<|ag.an.ay 1)<|aN 6 U<|cd U (fun am=> ?_) fun am=> ?_;exact aG 7 U<|aR U<|⟨iv (j1<|by rw [tF ab ab J]; exact decide_eq_false ab).symm,C⟩
 exact aG 8 U<|aR U<|⟨iv (qX<|by rw [tF ab ab J]; exact decide_eq_true ab).symm,C⟩
end Go.Hb
end
section
namespace Go.Hb.fE
open Go.Hb.dO
theorem LY {s:List UInt8} {i:Nat} (h:i < s.length):(s.drop i).take 1= [s.getD i 0]:=by
 rw [drop_cons 0 h]; rfl
def fA (l:List (Bool×ag)):List ag:=l.flatMap fun q=> [.bool q.1,q.2]
def e9 (l:List (UInt8×Int)):List ag:=l.flatMap fun e=> [.int .u8 e.1.toNat,.int .i64 e.2]
theorem Tg.kW {F:Nat→Prop} {w w':ah} {B e n:Nat} {v:ag} {xs:List ag} (h:Tg w B e n v xs) (hm:Md F w w') (I:∀ k,F k→B≤k→∀ cur z,w.heap[k]?≠some (.cells cur e z)):Tg w' B e n v xs:=by
 obtain ⟨a,C,rfl,E,h | ⟨b,cur,z,rfl,hb,A,L⟩⟩:=h
 · exact ⟨a,C,U,E,.inl h⟩
 · exact ⟨_,C,U,E,.inr ⟨b,cur,z,U,hb,by rw [hm.dL b (dq.1 A).1 (fun J=>I b J hb cur z A)]; exact A,L⟩⟩
theorem B5 {w:ah} {k:Nat} (h:w.heap.size≤k) (cur:Array ag) (e:Nat) (z:Nat×Nat):w.heap[k]?≠some (.cells cur e z):=by
 rw [Array.getElem?_eq_none h]; intro h; cases h
def eH (w:ah) (B:Nat) (A:List (Bool×ag)) (l:List aM):Prop :=A.length=l.length∧∀ (i:Nat) q e,A[i]? =some q→l[i]? =some e→q.1=e.1∧Tg w B 84 e.2.length q.2 (e9 e.2)
theorem eH.nil (w:ah) (B:Nat):eH w B [] []:=⟨rfl,fun i q r A=>by simp at A⟩
theorem eH.md {F:Nat→Prop} {w w':ah} {B:Nat} {C:List (Bool×ag)} {l:List aM} (h:eH w B C l) (hm:Md F w w') (E:∀ k,F k→B≤k→∀ cur z,w.heap[k]?≠some (.cells cur 84 z)):eH w' B C l:=
 ⟨h.1,fun i q r h1 A=>⟨(h.2 i q r h1 A).1,Tg.kW (h.2 i q r h1 A).2 hm E⟩⟩
theorem eH.wk {w w':ah} {B:Nat} {A:List (Bool×ag)} {l:List aM} (h:eH w B A l) (hm:Wk w w'):eH w' B A l:=h.md hm fun _ C=>C.elim
theorem eH.snoc {w:ah} {B:Nat} {C:List (Bool×ag)} {l:List aM} {v:ag} {e:aM} (ha:eH w B C l) (I:Tg w B 84 e.2.length v (e9 e.2)):eH w B (C++ [(e.1,v)]) (l++ [e]):=by
 refine ⟨by rw [bK,bK,ha.1]; rfl,fun i q' r' h1 A=> ?_⟩;have E:=ha.1;by_cases hi:i < C.length
 · rw [eU hi] at h1;rw [eU ab] at A;exact ha.2 i q' r' h1 A
 · rw [fm ab] at h1;rw [fm ab,← E] at A;cases hj:i - C.length with
   | zero=>rw [hj] at h1 A; cases h1; cases A; exact ⟨rfl,I⟩
   | succ j=>rw [hj] at h1; simp at h1
def eY (w:ah) (B:Nat) (v:ag) (l:List aM):Prop := ∃ A,Tg w B 81 l.length v (fA A)∧eH w B A l
theorem eY.md {F:Nat→Prop} {w w':ah} {B:Nat} {v:ag} {l:List aM} (h:eY w B v l) (hm:Md F w w') (C:∀ k,F k→B≤k→∀ cur z,w.heap[k]?≠some (.cells cur 81 z)∧w.heap[k]?≠some (.cells cur 84 z)):eY w' B v l:=by
 obtain ⟨I,h1,E⟩:=h;exact ⟨I,Tg.kW h1 hm fun k A hb cur z=>(C k A hb cur z).1,E.md hm fun k A hb cur z=>(C k A hb cur z).2⟩
theorem eY.wk {w w':ah} {B:Nat} {v:ag} {l:List aM} (h:eY w B v l) (hm:Wk w w'):eY w' B v l:=h.md hm fun _ A=>A.elim
theorem eY.mono {w:ah} {B B':Nat} {v:ag} {l:List aM} (h:eY w B v l) (C:B'≤B):eY w B' v l:=by
 obtain ⟨J,h1,I,A⟩:=h;exact ⟨J,h1.mono C,I,fun i q e E he=>⟨(A i q e E he).1,(A i q e E he).2.mono C⟩⟩
theorem eY.eG {w:ah} {B:Nat} {v:ag} {l:List aM} (h:eY w B v l):∃ aa cc,v= .slice aa l.length cc∧l.length≤cc∧eA w.heap aa l:=by
 obtain ⟨O,h1,aj,ad⟩:=h;obtain ⟨aa,cc,rfl⟩:=h1.slice;obtain ⟨ae,I⟩:=h1.qg;refine ⟨aa,cc,U,ae,fun h0=>aV.ok I (oE (f:=fun q:Bool×ag=> [bD q.1,q.2]) (m:=2) (fun _=>rfl) aF ab),fun i hi=> ?_⟩;have L:O[i]? =some (O[i]'ab):=bt ab;have ai:l[i]? =some (aD l i):=by
  unfold aD;rw [cn,bt hi]; rfl
 obtain ⟨ac,C⟩:=ad i _ _ L ai;obtain ⟨V,Z,M⟩:=C.slice;have E:=C;rw [M] at E;obtain ⟨_,A⟩:=E.qg;have J:=lX (f:=fun q:Bool×ag=> [bD q.1,q.2]) (m:=2) (fun _=>rfl) I L;refine ⟨V,Z,by rw [J 0 ab,ac]; rfl,by rw [J 1 ab,M]; rfl,fun h0=>aV.ok A (oE (f:=fun e:UInt8×Int=> [a0 .u8 e.1.toNat,.int .i64 e.2]) (m:=2) (fun _=>rfl) aF h0),fun k e he=> ?_,fun k e he=> ?_⟩
 · exact lX (f:=fun e:UInt8×Int=> [a0 .u8 e.1.toNat,.int .i64 e.2]) (m:=2) (fun _=>rfl) A he 0 ab
 · exact lX (f:=fun e:UInt8×Int=> [a0 .u8 e.1.toNat,.int .i64 e.2]) (m:=2) (fun _=>rfl) A he 1 ab
theorem C1 (A:List (Bool×ag)) (q:Bool×ag):fA (A++ [q])=fA A++ [.bool q.1,q.2]:=by simp [fA]
theorem Ap (es:List (UInt8×Int)) (e:UInt8×Int):e9 (es++ [e])=e9 es++ [.int .u8 e.1.toNat,.int .i64 e.2]:=by simp [e9]
theorem CZ (l:List (Bool×ag)):(fA l).length=l.length*2:=sC (f:=fun q:Bool×ag=> [bD q.1,q.2]) (m:=2) (fun _=>rfl) l
theorem Ao (l:List (UInt8×Int)):(e9 l).length=l.length*2:=sC (f:=fun e:UInt8×Int=> [a0 .u8 e.1.toNat,.int .i64 e.2]) (m:=2) (fun _=>rfl) l
section
variable {s:List UInt8} {n a e t p v k:Nat} {es:List (UInt8×Int)} {l:List aM}
theorem Aq (h:s.length≤a):eh s n a= .error 60:=by unfold eh; rw [if_pos h]
theorem Ar (h:¬s.length≤a) (h1:bc s (a+1)= .error e):eh s n a= .error e:=by unfold eh; rw [if_neg h,h1]
theorem As (h:¬s.length≤a) (h1:bc s (a+1)= .ok (t,p)) (A:n≤t):eh s n a= .error 190:=by unfold eh; rw [if_neg h,h1]; exact if_pos A
theorem Au (h:¬s.length≤a) (h1:bc s (a+1)= .ok (t,p)) (A:¬n≤t):eh s n a= .ok ((s.getD a 0,(t:Int)),p):=by unfold eh; rw [if_neg h,h1]; exact if_neg A
theorem Dg (h:bc s a= .error e):fB s n a= .error e:=by unfold fB; rw [h]
theorem Dh (h:bc s a= .ok (v,p)) (A:256 < v / 2):fB s n a= .error 190:=by unfold fB; rw [h]; exact if_pos A
theorem Di (h:bc s a= .ok (v,p)) (A:¬256 < v / 2) (C:cr (eh s n) (v / 2) p= .error e):fB s n a= .error e:=by unfold fB; rw [h]; simp only; rw [if_neg A,C]
theorem Dj (h:bc s a= .ok (v,p)) (A:¬256 < v / 2) (C:cr (eh s n) (v / 2) p= .ok (es,t)):fB s n a= .ok ((decide (v % 2=1),es),t):=by unfold fB; rw [h]; simp only; rw [if_neg A,C]
theorem CM (h:bc s a= .error e):cI s a= .error e:=by unfold cI; rw [h]
theorem tB (h:bc s a= .ok (n,p)) (A:n=0∨1048576 < n):cI s a= .error 190:=by unfold cI; rw [h]; exact if_pos A
theorem pd (h:bc s a= .ok (n,p)) (A:¬(n=0∨1048576 < n)) (C:cr (fB s n) n p= .error e):cI s a= .error e:=by unfold cI; rw [h]; simp only; rw [if_neg A,C]
theorem CN (h:bc s a= .ok (n,p)) (A:¬(n=0∨1048576 < n)) (C:cr (fB s n) n p= .ok (l,t)) (E:shaped l=false):cI s a= .error 190:=by unfold cI; rw [h]; simp only; rw [if_neg A,C]; simp only; rw [E]; rfl
theorem CO (h:bc s a= .ok (n,p)) (A:¬(n=0∨1048576 < n)) (C:cr (fB s n) n p= .ok (l,t)) (E:shaped l=true):cI s a= .ok (l,t):=by unfold cI; rw [h]; simp only; rw [if_neg A,C]; simp only; rw [E]; rfl
end
theorem KW (rb:Nat) (s:List UInt8) (a:Nat) (w:ah) (a8:aA w.heap rb [str s,.int .i64 (a:Nat)]) (aQ:s.length≤1048576) (ha:a≤s.length):
 mI ar 58 (bB [.pointer (some ⟨rb,0,none⟩)]) w (fun v w'=> ∃ l p,cI s a= .ok (l,p)∧eY w' w.heap.size v l∧aA w'.heap rb [str s,.int .i64 (p:Nat)]∧Md (fun k=>k=rb) w w') (fun c w'=> ∃ e,cI s a= .error e∧c=kP e∧Md (fun k=>k=rb) w w'):=by
 have de:=a8.lt;refine qt func58 U ntmps58 U<|aW 7 U<|p mv<|eP U (eu lQ (oP rb s (a) w a8 aQ<|ha) U fun v10 bv b2=> ?_) fun c w' A σ' M=>by obtain ⟨e,he,av,an⟩:=A; exact ⟨e,CM he,av,an⟩
 obtain ⟨n,a4,V,rfl,bD,aX⟩:=b2;obtain ⟨c0,c4,c7⟩:=jq V;refine aN 3 U ?_;refine dY (fun bw a5=> ∃ (cE:Unit),(¬(n=0∨1048576 < n))∧(aA a5.heap rb [str s,.int .i64 (a4:Nat)])∧(Md (fun k=>k=rb) w a5)∧(Sl bw [(0,.pointer (some ⟨rb,0,none⟩)),(3,.int .u64 (n:Nat))])) ?_ ?_;refine aW 1 U<|p mv<|aj 3 U<|gs (t:=14) U (fun ch=> ?_) fun ch=> ?_;refine aj 3 U<|eP U (eu e7 (jX _ _ _ bv) U fun cF cJ a0=> ?_) fun c w' A σ' M=>⟨190,tB V (by have :=of_decide_eq_false A.2.1; omega),A.1,by rw [A.2.2]; exact aX⟩
 obtain ⟨rfl,bt,rfl⟩:=a0;have bt:=of_decide_eq_true bt;exact az 1 U<|tn<|⟨(),ab,bD,aX,U⟩
 refine aj 3 U<|eP U (eu e7 (jX _ _ _ bv) U fun cF cJ a0=> ?_) fun c w' A σ' M=>⟨190,tB V ab,A.1,by rw [A.2.2]; exact aX⟩
 exact absurd a0.2.1 aF;rintro bw a5 ⟨cE,aw,bW,b1,cn⟩;refine bF cn<|bS 13 U<|lp (fun al bx J=> ∃ (k:Nat) (l:List aM) (ai:List (Bool×ag)) (ac:ag) (q:Nat),(k≤n)∧(cr (fB s n) k a4= .ok (l,q))∧(q≤s.length)∧(bj J w.heap.size 81 2 ac ai.length<|fA ai)∧(eH J w.heap.size ai l)∧(aA J.heap rb [str s,.int .i64 (q:Nat)])∧(Md (fun k=>k=rb) w J)∧(Sl bx [(0,.pointer (some ⟨rb,0,none⟩)),(3,.int .u64 (n:Nat)),(4,ac),(19,.int .u64 (n:Nat)),(20,.int .u64 (k:Nat))])∧(n - k=al)) _ ⟨0,[],[],.slice none 0 0,a4,ab,U,ab,(eT _ _ _ _),(eH.nil _ _),bW,b1,U,U⟩ ?_;rintro al bx J ⟨k,l,ai,ac,q,C,I,dc,aP,bq,a9,ae,co,rfl⟩;refine bF co<|bT 6 U<|cd U (fun cb=> ?_) fun cb=> ?_;refine aJ 7 U<|eP U (eu lQ (oP rb s (q) J a9 aQ ab) U fun dt cL b3=> ?_) fun c w' A σ' M=>by obtain ⟨e,he,av,an⟩:=A; exact ⟨e,pd V aw (im I (Dg he) ab),av,ae.trans an⟩
 obtain ⟨v0,p1,aK,rfl,bG,aE⟩:=b3;obtain ⟨c1,c5,c8⟩:=jq aK;refine aj 7 U<|p (qu U U ab<|gz ab)<|aj 1 U<|eP U (eu e7 (jX _ _ _ cL) U fun du cM b4=> ?_) fun c w' A σ' M=>⟨190,pd V aw (im I (Dh aK<|by have :=of_decide_eq_false A.2.1; omega) ab),A.1,by rw [A.2.2]; exact ae.trans aE⟩
 obtain ⟨rfl,cw,rfl⟩:=b4;have bo:¬256 < v0 / 2:=by have :=of_decide_eq_true cw; omega
 have b0:=ae.trans aE;refine aj 5 U<|p (rm U U ab)<|aj 1 U<|p (eC (ps:= [(0,.bool (decide ((v0:Int) % 2=1)))]) (L:= [.bool (decide ((v0:Int) % 2=1)),.slice none 0 0]) Ly U<|U)<|e<|dz DZ fun ad dG cW bm bO=> ?_;have dp:=bm.size;refine e<|dZ zY U U U U bO (by simp) fun ak bl bQ=> ?_;have bR:aA ak.heap ad [.bool (decide ((v0:Int) % 2=1)),.slice none 0 0]:=⟨_,bQ⟩
 have aC:Wk cM ak:=bm.md.trans' bl fun k C h=>by omega
 have bU:=Wk.B aC bG;have ds:=ae.size;have di:=aE.size;have dq:=aC.size;have dr:=bl.size;have bZ:Md (fun k=>k=rb) w ak:=b0.trans<|aC.mono fun _ _ h=>h.elim;refine aj 6 U<|p (qu U U ab<|gz ab)<|aN 4 U<|lp (fun al bz Z=> ∃ (j:Nat) (es:List (UInt8×Int)) (aU:ag) (E:Nat),(j≤v0 / 2)∧(cr (eh s n) j p1= .ok (es,E))∧(E≤s.length)∧(bj Z ak.heap.size 84 2 aU es.length<|e9 es)∧(aA Z.heap rb [str s,.int .i64 (E:Nat)])∧(aA Z.heap ad [.bool (decide ((v0:Int) % 2=1)),aU])∧(Md (fun k=>k=rb∨k=ad) ak Z)∧(Sl bz [(0,.pointer (some ⟨rb,0,none⟩)),(3,.int .u64 (n:Nat)),(4,ac),(5,.int .u64 (v0:Nat)),(6,.pointer (some ⟨ad,0,none⟩)),(19,.int .u64 (n:Nat)),(20,.int .u64 (k:Nat)),(34,.int .u64 ((v0 / 2:Nat):Int)),(35,.int .u64 (j:Nat))])∧(v0 / 2 - j=al)) _ ⟨0,[],.slice none 0 0,p1,ab,U,ab,(eT _ _ _ _),bU,bR,(Md.refl _ _),U,U⟩ ?_;rintro al bz Z ⟨j,es,aU,E,c3,aL,dd,ay,bb,bc,am,cp,rfl⟩;refine bF cp ?_;have cY:=iN aL;have a2:∀ e,eh s n E= .error e→j < v0 / 2→cI s a= .error e:=fun e he ci=>pd V aw<|im I (Di aK bo<|im aL he ci) ab;have aD:Md (fun k=>k=rb) w Z:=bZ.trans' am fun k C h=>by rcases h with h | h; exact h; omega
 refine bT 6 U<|cd U (fun cf=> ?_) fun cf=> ?_;refine aJ 7 U<|eP U (eu zB (Dv rb s E 1 Z bb aQ ab ab) U fun dv cN b5=> ?_) fun c w' A σ' M=>⟨60,a2 _ (Aq ab) ab,A.2.1,aD.trans A.2.2⟩
 obtain ⟨dh,bp,bH,aZ⟩:=b5;rw [LY ab] at bp;subst bp;refine p (sK 0 u9 U U<|by simp)<|aj 6 U<|eP U (eu lQ (oP rb s (E+1) cN bH aQ ab) U fun dw cO b6=> ?_) fun c w' A σ' M=>by obtain ⟨e,he,av,an⟩:=A; exact ⟨e,a2 _ (Ar ab he) ab,av,(aD.trans aZ).trans an⟩
 obtain ⟨to,cD,a1,rfl,bI,bi⟩:=b6;obtain ⟨c2,c6,c9⟩:=jq a1;refine aj 9 U<|eP U (eu e7 (jX _ _ _ cO) U fun dx dC b7=> ?_) fun c w' A σ' M=>⟨190,a2 _ (As ab a1<|by have :=of_decide_eq_false A.2.1; omega) ab,A.1,by rw [A.2.2]; exact (aD.trans aZ).trans bi⟩
 obtain ⟨rfl,cx,rfl⟩:=b7;have cv:¬n≤to:=by have :=of_decide_eq_true cx; omega
 have aH:=aZ.trans bi;have bd:=aH.B bc fun h=>by omega
 have cC:=am.size;have dj:=aH.size;refine aj 4 U<|p (ax U<|bd.aO 1)<|aj 2 U<|p (fH u3 mq U<|gU ab)<|p (eC (ps:= [(0,.int .u8 (s.getD E 0).toNat),(1,.int .i64 (to:Nat))]) (L:= [.int .u8 (s.getD E 0).toNat,.int .i64 (to:Nat)]) Lz U<|U)<|e<|om tL U U U fun cR dD cU au bJ=> ?_;have dl:=au.size;have cm:=bg (bN ay aH fun k C h=>by have :=cy ay C; omega) au.md;refine e<|ap tL (cm) U ab U (aV.fL bJ) (U) (U) ab ab fun dy dE bn aI cz cg=> ?_;have cz:=aI.size;have aR:∀ k,aU.ownBlock=some k→ak.heap.size≤k:=fun k h=>(cy ay h).1;have bY:=aI.B (Wk.B au.md bd) fun h=>by have :=aR ad h; omega
 have bL:=aI.B (Wk.B au.md bI) fun h=>by have :=aR rb h; omega
 obtain ⟨bA,lQ,rfl⟩:=cT bn;refine aj 1 U<|e<|st zX U U (U) (bY) (by simp) fun dJ aY bE=> ?_;have bX:=aY.B bL fun h=>by omega
 exact az 7 U<|tn<|⟨_,ab,j+1,es++ [(s.getD E 0,(to:Int))],.slice bA (es.length+1) lQ,cD,ab,(lZ aL<|Au ab a1 cv),ab,(by rw [bK,Ap]; exact bN bn aY fun k C h=>by rcases cg k C with a7 | a7; exact absurd (aR k a7) ab; omega),bX,bE,((((am.trans<|aH.mono fun _ _ h=> .inl h).trans<|au.md.mono fun _ _ h=>h.elim).trans' aI fun k C h=>by have :=aR k h; omega).trans<|aY.mono fun _ _ h=> .inr h),U,U⟩
 refine aG 2 U<|te _<|dn 2 U ?_;obtain ⟨a6,ce,rfl⟩:=cT ay;obtain rfl :j=v0 / 2:=ab;have da:=iN I;have dg:=bq.1;have cu:=Dj aK bo aL;have cC:=am.size;have bf:Md (fun k=>k=rb∨k=ad) J Z:=((aE.mono fun k _ h=> .inl h).trans<|aC.mono fun _ _ h=>h.elim).trans am;have a3:=bN aP bf fun k C h=>by have :=cy aP C; omega
 have ct:=bq.md bf (fun k C hb=>by
  rcases C with C | C;omega;exact fun cur z=>B5 ab cur _ z)
 refine aJ 1 U<|p (m8 (ac) U)<|p (fg zc U (U) fun j _=>bc.aO j)<|e<|om tJ U U U fun cS dF cV O bM=> ?_;have dm:=O.size;refine e<|ap tJ (bg a3 O.md) U ab U (aV.fL bM) (U) (U) ab ab fun cH cP ck ao cB cZ=> ?_;have cB:=ao.size;have br:∀ k,ac.ownBlock=some k→w.heap.size≤k:=fun k h=>(cy aP h).1;have bP:=ao.B (Wk.B O.md bb) fun h=>by have :=br rb h; omega
 have ca:Tg cP w.heap.size 84 es.length (.slice a6 es.length ce) (e9 es):=Tg.kW (((Tg.oS ay).mono ab).wk O.md) ao fun k C _=>gP (bg a3 O.md) aF k C;have cs:=(ct.wk O.md).md ao fun k C _=>gP (bg a3 O.md) aF k C;exact p aT<|az 7 U<|tn<|⟨_,ab,k+1,l++ [(decide (v0 % 2=1),es)],ai++ [(decide ((v0:Int) % 2=1),.slice a6 es.length ce)],cH,E,ab,(lZ I cu),ab,(by rw [bK,C1]; exact ck),(by rw [show decide ((v0:Int) % 2=1)=decide (v0 % 2=1) from decide_eq_decide.2 ab] at*; exact eH.snoc (e:=(decide (v0 % 2=1),es)) cs ca),bP,((aD.trans<|O.md.mono fun _ _ h=>h.elim).trans' ao fun k C h=>by have :=br k h; omega),U,U⟩
 refine aG 2 U<|te _<|dn 3 U ?_;obtain rfl :k=n:=ab;have bh:eY J w.heap.size ac l:=⟨ai,by have h:=Tg.oS aP; rw [bq.1] at h; exact h,bq⟩
 obtain ⟨aa,cc,rfl,cX,b9⟩:=bh.eG;have db:=iN I;have cj:∀ x∈l,x.2.length≤256:=fun x aS=>(mZ (R:=fun p=>p≤s.length) (S:=fun x:aM=>x.2.length≤256) (fun p x q' hr aS=>⟨(q6 aS).2.1,(q6 aS).2.2.1⟩) ab I).2 x aS;refine aJ 3 U<|e<|ba (C2 l aa cc J b9 ab fun i hi=>cG (cj _<|jP (d:=dI) hi) aF) U ?_;rintro dA cQ ⟨rfl,aB⟩;refine aj 1 U ?_;refine eP U (eu e7 (jX _ _ _ cQ) U fun dB dH b8=> ?_) (fun c w' A σ' M=>⟨190,CN V aw I (by
  cases h:shaped l;rfl;exact absurd (show qW l=0 from qX h) (of_decide_eq_false A.2.1)),A.1,by rw [A.2.2]; exact ae.trans (aB.mono fun _ _ h=>h.elim)⟩)
 obtain ⟨rfl,bu,rfl⟩:=b8;have cq:shaped l=true :=by
  cases h:shaped l;rw [j1 h] at bu; exact absurd (of_decide_eq_true bu) aF;rfl
 exact az 9 U<|qy<|f1 U U<|⟨l,q,CO V aw I cq,bh.wk aB,Wk.B aB a9,ae.trans<|aB.mono fun _ _ h=>h.elim⟩
end Go.Hb.fE
end
section
namespace Go.Hb.gF
open Go.Hb.dO
open Go.Hb.fE
theorem Ip (s A:List UInt8) (w:ah) (E:s.length≤1073741824) (hp:A.length≤1073741824):
 bo ar 88 (bB [str s,str A]) w (fun v w'=>v= .bool (decide (s.take A.length=A))∧Wk w w'):=by
 refine enter func88 U ntmps88 U<|aW 13 U<|gs (t:=10) U (fun C=> ?_) fun C=> ?_;exact aj 3 U<|bO U (xW u9 U U ab)<|az 7 U<|aR U<|⟨U,Md.refl _ _⟩
 exact aj 7 U<|p aT<|az 3 U<|aR U<|⟨by show bD false =_; rw [decide_eq_false (fun h=>by have :=congrArg kE h; rw [cV] at this; omega)],Md.refl _ _⟩
theorem Io (s A:List UInt8) (w:ah) (E:s.length≤1073741824) (hp:A.length≤1073741824):
 bo ar 52 (bB [str s,str A]) w (fun v w'=>v= .bool (decide (s.take A.length=A))∧Wk w w'):=by
 refine enter func52 U ntmps52 U<|aW 9 U<|e<|ba (Ip s A _ E hp) U ?_;rintro I J ⟨rfl,C⟩;exact az 4 U<|aR U<|⟨U,C⟩
theorem Hc (p2 p3:Nat) (w:ah):
 CallsD ar 53 (bB [.pointer (some ⟨p2,0,none⟩),.pointer (some ⟨p3,0,none⟩)]) .returning w (fun A I w'=> ∃ v,A= .returned v∧I= .returning∧(fun w'=>Wk w w') w'):=by
 refine zD (v:= .nilIface) func53 U ntmps53 U (fun L cs E=> .inr ⟨by simp [recoverD,E],U,U⟩) ?_;exact p (Dp sV Nn U)<|p mv<|p (xt U U)<|p (xt U U)<|p aT<|p aT<|nl<|tn<|sq fun J C=>rg U<|p mv<|nl<|tn<|C _ _<|cf (U)<|C5<|f0 U<|Md.refl _ _
theorem Ha (p2 p3:Nat) (A:Int) (w:ah) (C:∃ L:List ag,L.length=7∧w.heap[p2]? =some (.cells L.toArray 44 (0,0))) (E:∃ v:ag,w.heap[p3]? =some (.cells [v].toArray 88 (0,0))) (O:p2≠p3):
 CallsD ar 53 (bB [.pointer (some ⟨p2,0,none⟩),.pointer (some ⟨p3,0,none⟩)]) (.panicking<|kP A) w (fun V ai w'=> ∃ v,V= .returned v∧ai=(.panicking [{v:= .iface 88 (.int .i64 A),recovered:=true}])∧(fun w'=>w'.heap[p2]? =some (.cells [a0 .i64 0,str [],.slice none 0 0,.slice none 0 0,.slice none 0 0,.slice none 0 0,.slice none 0 0].toArray 44 (0,0))∧w'.heap[p3]? =some (.cells [.int .i64 A].toArray 88 (0,0))∧Md (fun k=>k=p2∨k=p3) w w') w'):=by
 obtain ⟨al,ad,C⟩:=C;obtain ⟨au,E⟩:=E;have ao:=(dq.1 C).1;have ap:=(dq.1 E).1;refine zD (v:= .iface 88<|.int .i64 A) func53 U ntmps53 U (fun am cs ae=> .inl<|by simp [recoverD,ae,kP]) ?_;refine p (Dn sV U)<|p mv<|p (xt U U)<|p (xt U U)<|p aT<|p aT<|nl<|tn<|sq fun ak ac=>rg U<|p mv<|nl<|tn<|ac _ _<|ct (U)<|rg U<|p (eC (ps:= []) (L:= [.int .i64 0,.string ⟨⟨[]⟩⟩,.slice none 0 0,.slice none 0 0,.slice none 0 0,.slice none 0 0,.slice none 0 0]) x7 U<|U)<|p mv<|e<|dZ lS U U U U C (by rw [ad]; decide) fun aj J I=>e<|cU vk U U (v:= .int .i64 A) U (J.an E fun h=>O h.symm) (by show 0 < 1; decide) fun av M Z=>nl<|f0 U ?_;have I:aj.heap[p2]? =some (.cells [a0 .i64 0,str [],.slice none 0 0,.slice none 0 0,.slice none 0 0,.slice none 0 0,.slice none 0 0].toArray 44 (0,0)):=I.trans<|by rw [EV ab]; rfl
 exact ⟨M.an I O,Z,(J.mono fun _ _ h=> .inl h).trans' M fun _ _ h=> .inr h⟩
theorem z0 (p2 p3:Nat) (w:ah):(invoke (.fn (.func 53) #[aU p2,aU p3]) #[]).run ar w= .ok (.enter 53 #[aU p2,aU p3]) w:=by
 have h:=Gk #[aU p2,aU p3] w;simp [invoke,h]
theorem sy {n:Nat} {D:List Deferred} {G:List Nat} {σ:Nat→ag} {t:Nat} (h:t < n):ev ⟨n,D,G,none⟩ σ (.tmp t)=σ t:=by
 show cond (aE t n) (σ t) undef=_;rw [show aE t n=true from by simpa using h]; rfl
theorem He {n:Nat} {G:List Nat} {fn:Func} {R:ag→ah→Prop} {σ:Nat→ag} {w:ah} {p2 p3:Nat} {A:Int} (V:fn.results= #[.cell 2 44,.cell 3 88]) (ad:3 < n) (Z:σ 2= .pointer (some ⟨p2,0,none⟩)) (ac:σ 3= .pointer (some ⟨p3,0,none⟩)) (C:∃ L:List ag,L.length=7∧w.heap[p2]? =some (.cells L.toArray 44 (0,0))) (E:∃ v:ag,w.heap[p3]? =some (.cells [v].toArray 88 (0,0))) (O:p2≠p3)
 (I:∀ w',Md (fun k=>k=p2∨k=p3) w w'→R (.tuple #[.agg [a0 .i64 0,str [],.slice none 0 0,.slice none 0 0,.slice none 0 0,.slice none 0 0,.slice none 0 0].toArray,.int .i64 A]) w'):qb ⟨n,[{target:= .fn (.func 53) #[.pointer (some ⟨p2,0,none⟩),.pointer (some ⟨p3,0,none⟩)],args:= #[]}],G,none⟩ (lK ar fn R) (.panic<|kP A) σ w:=by
 refine HT (z0 p2 p3 w) (Ha p2 p3 A w C E O) ?_;rintro w' ⟨J,M,hm⟩;exact ⟨_,tu V (gw<|iq (cs:= [a0 .i64 0,str [],.slice none 0 0,.slice none 0 0,.slice none 0 0,.slice none 0 0,.slice none 0 0]) ((sy ab).trans Z) kH U fun j _=>by rw [cH,bp J]; simp) (gw<|jo ((sy ab).trans ac) zd<|(bp M).trans U),I w' hm⟩
theorem Hf {n:Nat} {G:List Nat} {fn:Func} {R:ag→ah→Prop} {σ:Nat→ag} {w:ah} {p2 p3:Nat} {v:ag} {L:List ag} (O:fn.results= #[.cell 2 44,.cell 3 88]) (ac:3 < n) (V:σ 2= .pointer (some ⟨p2,0,none⟩)) (Z:σ 3= .pointer (some ⟨p3,0,none⟩)) (A:w.heap[p2]? =some (.cells L.toArray 44 (0,0))) (C:w.heap[p3]? =some (.cells [v].toArray 88 (0,0))) (E:L.length=7)
 (I:∀ w',Wk w w'→R (.tuple #[.agg L.toArray,v]) w'):qb ⟨n,[{target:= .fn (.func 53) #[.pointer (some ⟨p2,0,none⟩),.pointer (some ⟨p3,0,none⟩)],args:= #[]}],G,none⟩ (lK ar fn R) .ret σ w:=by
 refine HS (z0 p2 p3 w) (Hc p2 p3 w) ?_;intro w' hm;have J:=Wk.an hm A;have M:=Wk.an hm C;exact ⟨_,tu O (gw<|iq (cs:=L) ((sy ab).trans V) kH E fun j _=>by rw [cH,bp J]; simp) (gw<|jo ((sy ab).trans Z) zd<|(bp M).trans U),I w' hm⟩
section
variable {s:List UInt8} {a e n m p1 p2 p3 p4 p5 p q ls:Nat} {t f:List UInt8} {rs:List (List UInt8×List UInt8)} {l:List (List aM)}
theorem CB (h:cN s a= .error e):gv s a= .error e:=by unfold gv; rw [h]
theorem CC (h:cN s a= .ok (f,p)) (A:cN s p= .error e):gv s a= .error e:=by unfold gv; rw [h]; simp only; rw [A]
theorem CD (h:cN s a= .ok (f,p)) (A:cN s p= .ok (t,q)):gv s a= .ok ((f,t),q):=by unfold gv; rw [h]; simp only; rw [A]
theorem vn (hm:¬s.take 4=eN):bI s= .error 200:=if_neg hm
theorem z8 (hm:s.take 4=eN) (h:bc s 4= .error e):bI s= .error e:=by unfold bI; rw [if_pos hm,h]
theorem z9 (hm:s.take 4=eN) (h:bc s 4= .ok (n,p1)) (A:cN s p1= .error e):bI s= .error e:=by unfold bI; rw [if_pos hm,h]; simp only; rw [A]
theorem Aa (hm:s.take 4=eN) (h:bc s 4= .ok (n,p1)) (A:cN s p1= .ok (t,p2)) (C:bc s p2= .error e):bI s= .error e:=by unfold bI; rw [if_pos hm,h]; simp only; rw [A]; simp only; rw [C]
theorem Ab (hm:s.take 4=eN) (h:bc s 4= .ok (n,p1)) (A:cN s p1= .ok (t,p2)) (C:bc s p2= .ok (m,p3)) (E:256 < m):bI s= .error 201:=by unfold bI; rw [if_pos hm,h]; simp only; rw [A]; simp only; rw [C]; exact if_pos E
theorem sf (hm:s.take 4=eN) (h:bc s 4= .ok (n,p1)) (A:cN s p1= .ok (t,p2)) (C:bc s p2= .ok (m,p3)) (E:¬256 < m) (I:cr (gv s) m p3= .error e):bI s= .error e:=by unfold bI; rw [if_pos hm,h]; simp only; rw [A]; simp only; rw [C]; simp only; rw [if_neg E,I]
theorem Ac (hm:s.take 4=eN) (h:bc s 4= .ok (n,p1)) (A:cN s p1= .ok (t,p2)) (C:bc s p2= .ok (m,p3)) (E:¬256 < m) (I:cr (gv s) m p3= .ok (rs,p4)):bI s=fU s (if n≤64 then n else 0) t rs p4:=by unfold bI; rw [if_pos hm,h]; simp only; rw [A]; simp only; rw [C]; simp only; rw [if_neg E,I]
theorem z4 (h:ek ls t rs=false):fU s ls t rs a= .error 201:=by unfold fU; rw [h]; rfl
theorem z5 (h:ek ls t rs=true) (A:cr (cI s) 4 a= .error e):fU s ls t rs a= .error e:=by unfold fU; rw [if_pos h,A]
theorem z6 (h:ek ls t rs=true) (A:cr (cI s) 4 a= .ok (l,p5)) (C:p5≠s.length):fU s ls t rs a= .error 202:=by unfold fU; rw [if_pos h,A]; exact if_neg C
theorem z7 (h:ek ls t rs=true) (A:cr (cI s) 4 a= .ok (l,p5)) (C:p5=s.length):fU s ls t rs a= .ok ⟨ls,t,rs,l⟩:=by unfold fU; rw [if_pos h,A]; exact if_pos C
end
def lL (w:ah) (B:Nat) (cs:List ag) (b:dH):Prop := ∃ A rc vs,cs= [.int .i64 (b.least:Nat),str b.tr,.slice A b.cZ.length rc]++vs∧vs.length=4∧aV w.heap A (b.cZ.flatMap ej)∧∀ i,i < 4→eY w B (vs.getD i .nilFunc) (b.au.getD i [])
theorem lL.wk {w w':ah} {B:Nat} {cs:List ag} {b:dH} (h:lL w B cs b) (hm:Wk w w'):lL w' B cs b:=by
 obtain ⟨I,rc,vs,h1,A,C,E⟩:=h;exact ⟨I,rc,vs,h1,A,C.wk hm,fun i hi=>(E i hi).wk hm⟩
def jz (s:List UInt8) (w:ah) (v:ag) (w':ah):Prop :=(match bI s with
 | .ok b=> ∃ cs,v= .tuple #[.agg cs.toArray,.int .i64 0]∧lL w' w.heap.size cs b
 | .error e=>v= .tuple #[.agg [a0 .i64 0,str [],.slice none 0 0,.slice none 0 0,.slice none 0 0,.slice none 0 0,.slice none 0 0].toArray,.int .i64 (e:Nat)])∧Wk w w'
theorem jz.no {s:List UInt8} {w w':ah} {e:Nat} (h:bI s= .error e) (hm:Wk w w'):jz s w (.tuple #[.agg [a0 .i64 0,str [],.slice none 0 0,.slice none 0 0,.slice none 0 0,.slice none 0 0,.slice none 0 0].toArray,.int .i64 (e:Nat)]) w':=by
 unfold jz; rw [h]; exact ⟨rfl,hm⟩
theorem xI {a b c v:ag} {vs:List ag} {k:Nat} :([a,b,c]++vs).set (0 +3 +((k:Nat):Int).toNat*1) v= [a,b,c]++vs.set k v:=by
 rw [show 0 +3 +((k:Nat):Int).toNat*1=k+1 +1 +1 from by omega]; rfl
theorem qz {α:Type} {l:List α} {i k:Nat} {v d:α} (h:i≠k):(l.set k v).getD i d=l.getD i d:=by
 rw [cn,E0 (fun e=>h e.symm),cn]
theorem oI {α:Type} {l:List α} {k:Nat} {v d:α} (h:k < l.length):(l.set k v).getD k d=v:=by
 rw [cn,E1 h]; rfl
theorem Bc {α:Type} {l m:List α} {i:Nat} {d:α} (h:i < l.length):(l++m).getD i d=l.getD i d:=by
 rw [cn,eU h,cn]
theorem Bb {α:Type} {l:List α} {a d:α} {i:Nat} (h:i=l.length):(l++ [a]).getD i d=a:=by
 subst h;rw [cn,fm (aQ _),yW]; rfl
structure fS (w0 w:ah) (b2 b3:Nat) (L:List ag):Prop where
 c2:w.heap[b2]? =some (.cells L.toArray 44 (0,0))
 c3:w.heap[b3]? =some (.cells [a0 .i64 0].toArray 88 (0,0))
 len:L.length=7
 lo:w0.heap.size≤b2∧w0.heap.size≤b3∧b2≠b3
 wk:Wk w0 w
theorem fS.md {F:Nat→Prop} {w0 w w':ah} {A C:Nat} {L:List ag} (h:fS w0 w A C L) (hm:Md F w w') (E:¬F A) (I:¬F C) (J:∀ k,F k→w0.heap.size≤k):fS w0 w' A C L:=
 ⟨hm.an h.c2 E,hm.an h.c3 I,h.len,h.lo,h.wk.trans' hm fun k O M=>by have :=J k M; omega⟩
theorem fS.MZ {w0 w w':ah} {A C:Nat} {L:List ag} (h:fS w0 w A C L) (hm:Wk w w'):fS w0 w' A C L:=h.md hm (fun h=>h) (fun h=>h) fun _ h=>h.elim
theorem fS.rb {w0 w w':ah} {A C rb:Nat} {L:List ag} (h:fS w0 w A C L) (hm:Md (fun k=>k=rb) w w') (E:A≠rb) (I:C≠rb) (h0:w0.heap.size≤rb):fS w0 w' A C L:=h.md hm E I fun k J=>by omega
theorem kM {n:Nat} {G:List Nat} {fn:Func} {σ:Nat→ag} {s:List UInt8} {w W:ah} {C E e:Nat} {L:List ag} (J:fn.results= #[.cell 2 44,.cell 3 88]) (I:3 < n) (M:σ 2= .pointer (some ⟨C,0,none⟩)) (O:σ 3= .pointer (some ⟨E,0,none⟩)) (A:fS w W C E L) (U:bI s= .error e):qb ⟨n,[{target:= .fn (.func 53) #[.pointer (some ⟨C,0,none⟩),.pointer (some ⟨E,0,none⟩)],args:= #[]}],G,none⟩ (lK ar fn<|jz s w) (.panic<|kP (e:Nat)) σ W:=
 He J I M O ⟨_,A.len,A.c2⟩ ⟨_,A.c3⟩ A.lo.2.2 (fun w' hm=>jz.no U<|A.wk.trans' hm fun k V h=>by rcases h with rfl | rfl; have :=A.lo.1; omega; have :=A.lo.2.1; omega)
theorem Hg (s:List UInt8) (w:ah) (aK:s.length≤1048576):
 bo ar 32 (bB [str s]) w (jz s w):=by
 refine Hw [2,3] func32 U ntmps32 U ?_;refine cP<|cO<|aW 1 U<|e<|dz pF fun C e6 d9 b9 cJ=>e<|dz Nl fun M cu ea bH cR=> ?_;have eI:=b9.size;have eJ:=bH.size;have dg:Wk w cu:=b9.md.trans bH.md;have dN:=Wk.an bH.md cJ;refine az 1 U<|bC<|cP<|cP<|cO<|aW 2 U<|e<|ba (Io s eN cu ab aF) U ?_;rintro v10 e4 ⟨rfl,a6⟩;have b0:=dg.trans a6;have cq:=Wk.an a6 dN;have cs:=Wk.an a6 cR;have eF:=a6.size;refine az 2 U<|bC<|cO<|cb U (fun aX=> ?_) fun aX=> ?_;have ac:¬s.take 4=eN:=fun h=>by rw [show s.take eN.length=eN from h] at aX; simp at aX
 refine aW 2 U<|p (eC (ps:= []) (L:= [.int .i64 0,.string ⟨⟨[]⟩⟩,.slice none 0 0,.slice none 0 0,.slice none 0 0,.slice none 0 0,.slice none 0 0]) x7 U<|U)<|e<|dZ lS U U U U cq aF fun fa b6 c1=>e<|cU vk U U (v:= .int .i64 200) U (b6.an cs fun h=>by omega) aF fun d6 b8 c5=>az 3 U<|xo ?_;have dB:d6.heap[C]? =some (.cells [a0 .i64 0,str [],.slice none 0 0,.slice none 0 0,.slice none 0 0,.slice none 0 0,.slice none 0 0].toArray 44 (0,0)):=(b8.an c1 fun h=>by omega).trans rfl;exact HP (tu U (gw<|iq U U U fun j el=>by rw [cH,bp dB]; simp)<|gw<|jo U U<|(bp c5).trans U)<|jz.no (vn ac)<|(b0.trans' b6 fun k E h=>by omega).trans' b8 fun k E h=>by omega
 have ac:s.take 4=eN:=Ei fun h=>by rw [decide_eq_false (show ¬s.take eN.length=eN from h)] at aX; cases aX
 have cD:4≤s.length:=by have :=congrArg kE ac; rw [cV] at this; simp only [eN,dm,gY] at this; omega
 refine jQ 1 U<|bC<|cP<|kO I6 #[.pointer (some ⟨C,0,none⟩),.pointer (some ⟨M,0,none⟩)] U aF ?_;refine cP<|cO<|aW 2 U<|p (eC (ps:= [(0,str s),(1,.int .i64 4)]) (L:= [str s,.int .i64 4]) Lq U<|U)<|e<|r7 U fun rb ae eD bd cG=> ?_;have eH:=bd.size;have c9:aA ae.heap rb [str s,.int .i64 ((4:Nat):Int)]:=⟨_,cG⟩
 have ck:fS w ae C M [a0 .i64 0,str [],.slice none 0 0,.slice none 0 0,.slice none 0 0,.slice none 0 0,.slice none 0 0]:=⟨Wk.an bd.md cq,Wk.an bd.md cs,rfl,⟨ab,ab,ab⟩,b0.trans bd.md⟩
 refine az 2 U<|bC<|Ll (fun cz a4=> ∃ (n p1:Nat),(fS w a4 C M [.int .i64 ((if n≤64 then n else 0:Nat):Int),str [],.slice none 0 0,.slice none 0 0,.slice none 0 0,.slice none 0 0,.slice none 0 0])∧(aA a4.heap rb [str s,.int .i64 (p1:Nat)])∧(Md (fun k=>k=rb∨k=C) ae a4)∧(bc s 4= .ok (n,p1))∧(p1≤s.length)∧(Sl cz [(0,str s),(2,.pointer (some ⟨C,0,none⟩)),(3,.pointer (some ⟨M,0,none⟩)),(4,.pointer (some ⟨rb,0,none⟩))])) ?_ ?_;refine cP<|cO<|aW 2 U ?_;refine eP U (eu lQ (oP rb s (4) ae c9 aK<|cD) U fun eQ e5 dj=> ?_) (fun c w' I σ' A=>by
  obtain ⟨e,he,rfl,V⟩:=I;exact kM U aF ((A 2<|.head _).trans U) ((A 3<|.tail _<|.head _).trans U) ((ck).rb V ab ab ab) (z8 ac he))
 obtain ⟨n,p1,Z,rfl,bY,bA⟩:=dj;obtain ⟨ed,bL,eq⟩:=jq Z;have a1:=ck.rb bA ab ab ab;refine az 2 U<|bC<|cP<|cO<|jQ 4 U<|bC<|cO<|cd U (fun bJ=> ?_) fun bJ=> ?_;exact aW 2 U<|p (fH u3 mq U<|gU ab)<|aj 1 U<|e<|cU dc U U (v:= .int .i64 (n:Nat)) U a1.c2 aF fun fd a9 c6=>az 1 U<|zN<|⟨n,p1,(⟨by rw [if_pos ab]; exact c6,a9.an a1.c3 (fun h=>by omega),U,a1.lo,a1.wk.trans' a9 fun k E h=>by omega⟩),(a9.B bY fun h=>by omega),((bA.mono fun _ _ h=> .inl h).trans<|a9.mono fun _ _ h=> .inr h),Z,bL,U⟩
 exact jQ 1 U<|zN<|⟨n,p1,(by rw [if_neg ab]; exact a1),bY,(bA.mono fun _ _ h=> .inl h),Z,bL,U⟩
 rintro cz a4 ⟨n,p1,cp,c8,dd,Z,bL,dR⟩;refine K5 dR ?_;refine cP<|cO<|aW 2 U ?_;refine eP U (eu u0 (vS rb s (p1) a4 c8 aK ab) U fun eR e8 dl=> ?_) (fun c w' I σ' A=>by
  obtain ⟨e,he,rfl,V⟩:=I;exact kM U aF ((A 2<|.head _).trans U) ((A 3<|.tail _<|.head _).trans U) ((cp).rb V ab ab ab) (z9 ac Z he))
 obtain ⟨t,p2,aI,rfl,cN,b2⟩:=dl;obtain ⟨ee,em,er⟩:=oG aI;have bn:=cp.rb b2 ab ab ab;refine aj 1 U<|e<|cU vm U U (v:=str t) U bn.c2 (by simp) fun cx bb c7=> ?_;have co:fS w cx C M [.int .i64 ((if n≤64 then n else 0:Nat):Int),str t,.slice none 0 0,.slice none 0 0,.slice none 0 0,.slice none 0 0,.slice none 0 0]:=⟨c7,bb.an bn.c3 (fun h=>by omega),rfl,bn.lo,bn.wk.trans' bb fun k E h=>by omega⟩
 have da:=bb.B cN fun h=>by omega
 refine az 1 U<|bC<|cP<|cO<|aW 2 U ?_;refine eP U (eu lQ (oP rb s (p2) cx da aK ab) U fun eU d0 dn=> ?_) (fun c w' I σ' A=>by
  obtain ⟨e,he,rfl,V⟩:=I;exact kM U aF ((A 2<|.head _).trans U) ((A 3<|.tail _<|.head _).trans U) ((co).rb V ab ab ab) (Aa ac Z aI he))
 obtain ⟨m,p3,aU,rfl,cQ,b3⟩:=dn;obtain ⟨ef,en,et⟩:=jq aU;have cm:=co.rb b3 ab ab ab;refine az 2 U<|bC<|cP<|cO<|aW 4 U ?_;refine eP U (eu e7 (jX _ _ _ d0) U fun eV e9 dp=> ?_) (fun c w' I σ' A=>by
  obtain ⟨rfl,hb,rfl⟩:=I;exact kM U aF ((A 2<|.head _).trans U) ((A 3<|.tail _<|.head _).trans U) (cm) (Ab ac Z aI aU<|by have :=of_decide_eq_false hb; omega))
 obtain ⟨rfl,dV,rfl⟩:=dp;have bM:¬256 < m:=by have :=of_decide_eq_true dV; omega
 refine az 1 U<|bC<|cP<|cP<|cO<|jQ 4 U<|bC<|cO<|bT 1 U<|lp (fun aP cB au=> ∃ (k:Nat) (rs:List (List UInt8×List UInt8)) (O:ag) (q:Nat),(k≤m)∧(cr (gv s) k p3= .ok (rs,q))∧(q≤s.length)∧(bj au ae.heap.size 77 2 O rs.length<|rs.flatMap ej)∧(aA au.heap rb [str s,.int .i64 (q:Nat)])∧(fS w au C M [.int .i64 ((if n≤64 then n else 0:Nat):Int),str t,O,.slice none 0 0,.slice none 0 0,.slice none 0 0,.slice none 0 0])∧(Md (fun k=>k=rb∨k=C) ae au)∧(Sl cB [(0,str s),(2,.pointer (some ⟨C,0,none⟩)),(3,.pointer (some ⟨M,0,none⟩)),(4,.pointer (some ⟨rb,0,none⟩)),(33,.int .u64 (m:Nat)),(34,.int .u64 (k:Nat))])∧(m - k=aP)) _ ⟨0,[],.slice none 0 0,p3,ab,U,ab,(eT _ _ _ _),cQ,cm,(((dd.trans<|b2.mono fun _ _ h=> .inl h).trans<|bb.mono fun _ _ h=> .inr h).trans<|b3.mono fun _ _ h=> .inl h),U,U⟩ ?_;rintro aP cB au ⟨k,rs,O,q,ey,am,eA,av,bZ,aZ,bx,dS,rfl⟩;refine bF dS<|bT 6 U<|cd U (fun dy=> ?_) fun dy=> ?_;refine aJ 7 U ?_;refine eP U (eu u0 (vS rb s (q) au bZ aK ab) U fun eW ao dq=> ?_) (fun c w' I σ' A=>by
  obtain ⟨e,he,rfl,V⟩:=I;exact kM U aF ((A 2<|.head _).trans U) ((A 3<|.tail _<|.head _).trans U) ((aZ).rb V ab ab ab) (sf ac Z aI aU bM<|im am (CB he) ab))
 obtain ⟨f,bP,bI,rfl,cX,a8⟩:=dq;obtain ⟨eg,eo,ev⟩:=oG bI;have a2:=aZ.rb a8 ab ab ab;have dI:=bN av a8 fun k E h=>by have :=cy av E; omega
 have eK:=a8.size;have eO:=bx.size;have aw:∀ k,O.ownBlock=some k→ae.heap.size≤k:=fun k h=>(cy av h).1;refine aN 3 U ?_;have bi:(fun w'=>Md (fun k=>k=rb∨O.ownBlock=some k) ao w') ao.drew:=(Md.refl _ _).drew;refine kV (fun w'=>Md (fun k=>k=rb∨O.ownBlock=some k) ao w') 9 U wide bi<|qA [0] U bi<|BL 1 U ai (fun w' dv=>ax U<|Md.ay dv ((bp a2.c2).trans U) fun h=>by rcases h with h | h; omega; have :=aw _ h; omega) bi<|qA [2,3] U bi ?_;refine I4 4 U ai U (eu u0 (vS rb s bP ao.drew cX aK ab) U fun eX cv dr=> ?_) (fun c w' I σ' A=>by
  obtain ⟨e,he,rfl,V⟩:=I;exact kM U aF ((A 2<|.head _).trans U) ((A 3<|.tail _<|.head _).trans U) (a2.rb (Md.de V) ab ab ab) (sf ac Z aI aU bM<|im am (CC bI he) ab))
 obtain ⟨t2,dY,ch,rfl,cY,aS⟩:=dr;obtain ⟨eh,ep,ex⟩:=oG ch;have aS:=Md.de aS;have cf:Md (fun k=>k=rb∨O.ownBlock=some k) ao cv:=aS.mono fun _ _ h=> .inl h;have eL:=aS.size;have ca:(fun w'=>Md (fun k=>k=rb∨O.ownBlock=some k) ao w') cv:=cf;refine ⟨ca,?_⟩;refine qH 5 U ai (fun _=>eC (ps:= [(0,str f),(1,str t2)]) (L:= [str f,str t2]) Lx U<|U) (fun _=>ca)<|ei 6 U ai<|om tI U U U fun d7 d3 eb bh cZ=> ?_;have eM:=bh.size;have cg:=cf.trans<|bh.md.mono fun _ _ h=>h.elim;have dJ:=bg (bN dI aS fun k E h=>by have :=cy av E; omega) bh.md;have dw:(fun w'=>Md (fun k=>k=rb∨O.ownBlock=some k) ao w') d3:=cg;refine ⟨dw,?_⟩;refine ei 7 U ai<|ap tI (dJ) U ab U (aV.fL cZ) (U) (U) (by have :=iN am; omega) (by have :=iN am; omega) fun eZ d4 cj bE dX dE=> ?_;obtain ⟨bu,bv,rfl⟩:=cT cj;have aT:=cg.trans<|bE.mono fun _ _ h=> .inr h;have dX:=bE.size;have dG:¬(C=rb∨O.ownBlock=some C):=fun h=>by rcases h with h | h; omega; have :=aw _ h; omega
 have dH:¬(M=rb∨O.ownBlock=some M):=fun h=>by rcases h with h | h; omega; have :=aw _ h; omega
 have dA:=aT.an a2.c2 dG;have c0:=bE.B (Wk.B bh.md cY) fun h=>by have :=aw _ h; omega
 have ce:(fun w'=>Md (fun k=>k=rb∨O.ownBlock=some k) ao w') d4:=aT;refine ⟨ce,?_⟩;refine qA [8] U ce<|jk 9 U ai ai<|cU zT U U (v:= .slice bu (rs.length+1) bv) U dA (by simp) fun ct aQ cE=> ?_;have dK:fS w ct C M [.int .i64 ((if n≤64 then n else 0:Nat):Int),str t,.slice bu (rs.length+1) bv,.slice none 0 0,.slice none 0 0,.slice none 0 0,.slice none 0 0]:=⟨cE,aQ.an (aT.an a2.c3 dH) (fun h=>by omega),rfl,aZ.lo,(a2.wk.trans' aT fun k E h=>by rcases h with h | h; omega; have :=aw _ h; omega).trans' aQ fun k E h=>by omega⟩
 have cF:=aQ.B c0 fun h=>by omega
 have db:Md (fun k=>k=rb∨k=C) ae ct:=((bx.trans<|a8.mono fun _ _ h=> .inl h).trans' aT fun k E h=>by rcases h with h | h; exact .inl h; have :=aw _ h; omega).trans<|aQ.mono fun _ _ h=> .inr h;exact jl ai<|bf 6 U<|tn<|⟨_,ab,k+1,rs++ [(f,t2)],.slice bu (rs.length+1) bv,dY,ab,(lZ am<|CD bI ch),ab,(by rw [bK,uq]; exact bN cj aQ fun k E h=>by rcases dE k E with bX | bX; exact absurd (aw k bX) ab; omega),cF,dK,db,U,U⟩
 refine aG 2 U<|te _<|bf 1 U<|bC<|cP<|cO ?_;obtain ⟨ad,rc,rfl⟩:=cT av;obtain rfl :k=m:=ab;obtain ⟨br,dO⟩:∃ br,br=q:=⟨q,rfl⟩
 subst dO;have bl:=Ac ac Z aI aU bM am;have ez:=iN am;have dQ:∀ r∈rs,r.1.length≤1048576∧r.2.length≤1048576:=fun r hr=>by
  have :=(mZ (R:=fun _=>True) (S:=fun r:List UInt8×List UInt8=>r.1.length≤255∧r.2.length≤255) (fun p x q' _ dU=>⟨trivial,(KB dU).2.2⟩) trivial am).2 r hr;omega
 refine aW 2 U<|p (fg kH U (U) (show ∀ j,j < 7→ay au.heap C (0 +j)=([.int .i64 ((if n≤64 then n else 0:Nat):Int),str t,.slice ad rs.length rc,.slice none 0 0,.slice none 0 0,.slice none 0 0,.slice none 0 0]:List ag)[j]? from fun j _=>by rw [cH,bp aZ.c2]; simp))<|e<|ba (K3 (if n≤64 then n else 0) t rs ad rc (.slice none 0 0) (.slice none 0 0) (.slice none 0 0) (.slice none 0 0) au (bU av).2 (by split <;> omega) ab ab dQ) U ?_;rintro e0 d5 ⟨rfl,a7⟩;have cn:=aZ.MZ a7;refine eP U (eu e7 (jX _ _ _ d5) U fun e1 fb ds=> ?_) (fun c w' I σ' A=>by
  obtain ⟨rfl,hb,rfl⟩:=I;exact kM U aF ((A 2<|.head _).trans U) ((A 3<|.tail _<|.head _).trans U) (cn) (by rw [bl,z4 hb]))
 obtain ⟨rfl,bO,rfl⟩:=ds;refine az 1 U<|bC<|cP<|cP<|cO<|jQ 3 U<|bC<|cO<|bT 1 U<|lp (fun aP cC al=> ∃ (J:Nat) (ls:List (List aM)) (vs:List ag) (aL:Nat),(J≤4)∧(cr (cI s) J br= .ok (ls,aL))∧(aL≤s.length)∧(vs.length=4)∧(aA al.heap rb [str s,.int .i64 (aL:Nat)])∧(fS w al C M<|[.int .i64 ((if n≤64 then n else 0:Nat):Int),str t,.slice ad rs.length rc]++vs)∧(∀ i,i < J→eY al (rb+1) (vs.getD i .nilFunc) (ls.getD i []))∧(Md (fun k=>k=rb∨k=C) ae al)∧(bj al ae.heap.size 77 2 (.slice ad rs.length rc) rs.length<|rs.flatMap ej)∧(Sl cC [(0,str s),(2,.pointer (some ⟨C,0,none⟩)),(3,.pointer (some ⟨M,0,none⟩)),(4,.pointer (some ⟨rb,0,none⟩)),(52,.int .i64 (J:Nat))])∧(4 - J=aP)) _ ⟨0,[],[.slice none 0 0,.slice none 0 0,.slice none 0 0,.slice none 0 0],br,ab,U,ab,U,(Wk.B a7 bZ),cn,(fun i hi=>by omega),(bx.trans<|a7.mono fun _ _ h=>h.elim),(bg av a7),U,U⟩ ?_;rintro aP cC al ⟨J,ls,vs,aL,ew,aY,eB,a3,bw,ak,bz,dh,bm,dT,rfl⟩;refine bF dT<|bT 6 U<|cd U (fun dC=> ?_) fun dC=> ?_;refine aJ 13 U ?_;refine eP U (eu Gl (KW rb s aL al bw aK ab) U fun e2 fc dt=> ?_) (fun c w' I σ' A=>by
  obtain ⟨e,he,rfl,V⟩:=I;exact kM U aF ((A 2<|.head _).trans U) ((A 3<|.tail _<|.head _).trans U) (ak.rb V ab ab ab) (by rw [bl,z5 bO (im aY he (show J < 4 by omega))]))
 obtain ⟨aB,bP,ci,b1,c4,b7⟩:=dt;obtain ⟨aa,cc,rfl,ec,d8⟩:=b1.eG;have bq:=ak.rb b7 ab ab ab;have ek:=CP ci;refine aj 1 U<|p (jj lP U U ab)<|e<|cU zU U U (v:= .slice aa aB.length cc) U bq.c2 (by simp only [bK,dm,gY,a3]; omega) fun bt aR cL=> ?_;have dF:=iN aY;have bJ:bt.heap[C]? =some (.cells ([.int .i64 ((if n≤64 then n else 0:Nat):Int),str t,.slice ad rs.length rc]++vs.set J (.slice aa aB.length cc)).toArray 44 (0,0)):=by rw [← xI]; exact cL
 have dL:fS w bt C M ([.int .i64 ((if n≤64 then n else 0:Nat):Int),str t,.slice ad rs.length rc]++vs.set J (.slice aa aB.length cc)):=⟨bJ,aR.an bq.c3 (fun h=>by omega),by simp [a3],bq.lo,bq.wk.trans' aR fun k E h=>by omega⟩
 have cM:=aR.B c4 fun h=>by omega
 have eE:=bw.lt;have bG:Md (fun k=>k=rb∨k=C) al bt:=(b7.mono fun _ _ h=> .inl h).trans<|aR.mono fun _ _ h=> .inr h;have di:∀ i,i < J+1→eY bt (rb+1) ((vs.set J<|.slice aa aB.length cc).getD i .nilFunc) ((ls++ [aB]).getD i []):=fun i hi=>by
  rcases dD i J with h | h;rw [qz ab,Bc ab];exact (bz i h).md bG fun k E hb=>absurd hb ab;obtain rfl :i=J:=ab;rw [oI ab,Bb dF.symm];exact (b1.mono ab).md aR fun k E hb=>absurd hb ab
 exact az 7 U<|tn<|⟨_,ab,J+1,ls++ [aB],vs.set J (.slice aa aB.length cc),bP,ab,(lZ aY ci),ab,(by rw [iF]; exact a3),cM,dL,di,(dh.trans bG),(bN bm bG fun k E h=>by have :=(cy bm E).1; omega),U,U⟩
 refine aG 2 U<|te _<|bf 1 U<|bC<|cP<|cO ?_;obtain rfl :J=4:=ab;obtain ⟨aC,aD,aE,aH,rfl⟩:∃ aC aD aE aH,vs= [aC,aD,aE,aH]:=by
  match vs,a3 with
  | [aC,aD,aE,aH],_=>exact ⟨_,_,_,_,rfl⟩
 have a5:∀ i,i < 4→([aC,aD,aE,aH].getD i .nilFunc).oneCell'=true :=fun i hi=>by
  obtain ⟨_,_,e,_⟩:=(bz i hi).eG;rw [e]; rfl
 have dM:([.int .i64 ((if n≤64 then n else 0:Nat):Int),str t,.slice ad rs.length rc,aC,aD,aE,aH]:List ag).all eS=true :=by
  have bQ:=a5 0 ab;have bR:=a5 1 ab;have bS:=a5 2 ab;have bW:=a5 3 ab;simp only [ur,yO] at bQ bR bS bW;simp only [pP,uk,bQ,bR,bS,bW]; rfl
 refine aW 5 U<|p (ax U<|bw.aO 1)<|aj 3 U ?_;refine eP U (eu e7 (jX _ _ _ al) U fun e3 cw du=> ?_) (fun c w' I σ' A=>by
  obtain ⟨rfl,hb,rfl⟩:=I;exact kM U aF ((A 2<|.head _).trans U) ((A 3<|.tail _<|.head _).trans U) (ak) (by rw [bl,z6 bO aY (fun h=>of_decide_eq_false hb<|by rw [h])]))
 obtain ⟨rfl,dW,rfl⟩:=du;have dP:aL=s.length:=by have :=of_decide_eq_true dW; omega
 refine az 1 U<|bC<|cP<|cO<|aW 1 U<|p (fg kH U (U) (show ∀ j,j < 7→ay cw.heap C (0 +j)=([.int .i64 ((if n≤64 then n else 0:Nat):Int),str t,.slice ad rs.length rc,aC,aD,aE,aH]:List ag)[j]? from fun j _=>by rw [cH,bp ak.c2]; simp))<|e<|dZ lS U U U dM ak.c2 (by rw [ak.len]; decide) fun d1 b4 cS=> ?_;have dx:d1.heap[C]? =some (.cells ([.int .i64 ((if n≤64 then n else 0:Nat):Int),str t,.slice ad rs.length rc]++ [aC,aD,aE,aH]).toArray 44 (0,0)):=cS.trans<|by rw [EV (by rw [ak.len]; decide),List.take_zero,n3,js]; rfl
 refine e<|cU vk U U (v:= .int .i64 0) U (b4.an ak.c3 fun h=>by omega) aF fun d2 b5 cW=>az 1 U<|bC<|CI ?_;exact Hf U aF U U (b5.an dx fun h=>by omega) cW U (fun w' hm=>by
  unfold jz;rw [bl,z7 bO aY dP];have bD:Md (fun k=>k=C∨k=M) cw d2:=(b4.mono fun _ _ h=> .inl h).trans<|b5.mono fun _ _ h=> .inr h;refine ⟨⟨_,U,ad,rc,_,U,a3,(bU<|bg (bN bm bD fun k E h=>by have :=(cy bm E).1; omega) hm).2,fun i hi=>(((bz i hi).md bD fun k E hb=>absurd hb ab).wk hm).mono ab⟩,(ak.wk.trans' bD fun k E h=>by omega).trans hm⟩)
theorem qF {α:Type} {f:Nat→Except Nat (α×Nat)} (C:∀ a e,f a= .error e→e≠0):∀ {k a e:Nat},cr f k a= .error e→e≠0
 | 0,a,e,h=>by cases h
 | k+1,a,e,h=>by
   rw [cr] at h;split at h
   · rename_i E A;cases h;exact qF C A
   · split at h
     · rename_i E A;cases h;exact C _ _ A
     · cases h
theorem o9 {s:List UInt8} {a e:Nat} (h:bc s a= .error e):e≠0:=by rcases xE h with h | h <;> omega
theorem vQ {s:List UInt8} {a e:Nat} (h:cN s a= .error e):e≠0:=by
 unfold cN at h;split at h
 · rename_i A; cases h; exact o9 A
 · repeat' split at h
   all_goals first | (cases h; decide) | cases h
theorem KC {s:List UInt8} {a e:Nat} (h:gv s a= .error e):e≠0:=by
 unfold gv at h;split at h
 · rename_i A; cases h; exact vQ A
 · split at h
   · rename_i A; cases h; exact vQ A
   · cases h
theorem Ht {s:List UInt8} {n a e:Nat} (h:eh s n a= .error e):e≠0:=by
 unfold eh at h;split at h
 · cases h; decide
 · split at h
   · rename_i A; cases h; exact o9 A
   · split at h
     · cases h; decide
     · cases h
theorem LG {s:List UInt8} {n a e:Nat} (h:fB s n a= .error e):e≠0:=by
 unfold fB at h;split at h
 · rename_i A; cases h; exact o9 A
 · split at h
   · cases h; decide
   · split at h
     · rename_i A; cases h; exact qF (fun _ _=>Ht) A
     · cases h
theorem KQ {s:List UInt8} {a e:Nat} (h:cI s a= .error e):e≠0:=by
 unfold cI at h;split at h
 · rename_i A; cases h; exact o9 A
 · split at h
   · cases h; decide
   · split at h
     · rename_i A; cases h; exact qF (fun _ _=>LG) A
     · split at h
       · cases h
       · cases h; decide
theorem Hd {s:List UInt8} {e:Nat} (h:bI s= .error e):e≠0:=by
 unfold bI at h;split at h
 · split at h
   · rename_i A; cases h; exact o9 A
   · split at h
     · rename_i A; cases h; exact vQ A
     · split at h
       · rename_i A; cases h; exact o9 A
       · split at h
         · cases h; decide
         · split at h
           · rename_i A; cases h; exact qF (fun _ _=>KC) A
           · generalize (if _≤64 then _ else 0)=n0 at h;unfold fU at h;split at h
             · split at h
               · rename_i A; cases h; exact qF (fun _ _=>KQ) A
               · split at h
                 · cases h
                 · cases h; decide
             · cases h; decide
 · cases h; decide
theorem jz.form {s:List UInt8} {w w':ah} {v:ag} (h:jz s w v w'):∃ L M x2 O V Z ac e,v= .tuple #[.agg [L,M,x2,O,V,Z,ac].toArray,.int .i64 ((e:Nat):Int)]∧[L,M,x2,O,V,Z,ac].all eS=true∧Wk w w'∧
 ((e≠0∧bI s= .error e)∨(e=0∧∃ b,bI s= .ok b∧lL w' w.heap.size [L,M,x2,O,V,Z,ac] b)):=by
 obtain ⟨h,ak⟩:=h;cases hX:bI s with
 | error e=>
   rw [hX] at h;exact ⟨_,_,_,_,_,_,_,e,h,U,ak,.inl ⟨Hd hX,U⟩⟩
 | ok b=>
   rw [hX] at h;obtain ⟨cs,am,hb⟩:=h;obtain ⟨ap,rc,vs,rfl,an,ao,al⟩:=id hb;obtain ⟨C,E,I,J,rfl⟩:∃ C E I J,vs= [C,E,I,J]:=by
    match vs,an with
    | [C,E,I,J],_=>exact ⟨_,_,_,_,rfl⟩
   have A:∀ i,i < 4→([C,E,I,J].getD i .nilFunc).oneCell'=true :=fun i hi=>by
    obtain ⟨_,_,e,_⟩:=(al i hi).eG;rw [e]; rfl
   have ad:=A 0 ab;have ae:=A 1 ab;have ai:=A 2 ab;have aj:=A 3 ab;simp only [ur,yO] at ad ae ai aj;exact ⟨_,_,_,_,_,_,_,0,am,by simp only [pP,uk,ad,ae,ai,aj]; rfl,ak,.inr ⟨U,b,U,hb⟩⟩
def cQ (w:ah) (B cb:Nat) (b:dH) (A:List UInt8):Prop := ∃ cs,aA w.heap cb (cs++ [str A])∧lL w B cs b∧B≤cb
theorem cQ.wk {w w':ah} {B cb:Nat} {b:dH} {A:List UInt8} (h:cQ w B cb b A) (hm:Wk w w'):cQ w' B cb b A:=by
 obtain ⟨cs,h1,C,E⟩:=h;exact ⟨cs,Wk.B hm h1,C.wk hm,E⟩
def Fv (s:List UInt8) (w:ah) (v:ag) (w':ah):Prop :=(match bI s with
 | .ok b=> ∃ cb,v= .tuple #[.pointer (some ⟨cb,0,none⟩),.nilIface]∧cQ w' w.heap.size cb b s
 | .error e=>v= .tuple #[.pointer none,.iface 88 (.int .i64 ((e:Nat):Int))])∧Wk w w'
theorem BJ (s:List UInt8) (w:ah) (aD:s.length≤1048576):
 bo ar 19 (bB [str s]) w (Fv s w):=by
 refine enter func19 U ntmps19 U<|aW 8 U<|p mv<|e<|ba (Hg s w aD) U fun aR aE av=> ?_;obtain ⟨A,C,x2,E,I,J,M,ai,rfl,aC,Z,V⟩:=jz.form av;have aQ:=Z.size;refine p mv<|aj 2 U<|e<|dz pF fun ae aT aH ak an=> ?_;have aM:=ak.size;refine e<|dZ lS U U U aC an aF fun ad au ao=> ?_;have ap:aA ad.heap ae [A,C,x2,E,I,J,M]:=⟨_,ao⟩
 have O:Wk aE ad:=ak.md.trans' au fun k aK h=>by omega
 have aP:=O.size;refine aN 10 U<|cd U (fun aB=> ?_) fun aB=> ?_;have V:ai≠0∧bI s= .error ai:=V.resolve_right fun h=>by omega
 refine aJ 3 U<|p (wY sV U)<|az 6 U<|f2 U U U ?_;refine ⟨?_,Z.trans O⟩;rw [V.2];exact U;obtain ⟨aI,b,aw,ax⟩:=V.resolve_left fun h=>by omega
 refine aJ 4 U<|p (fg kH U (U) (show ∀ j,j < 7→ay ad.heap ae (0 +j)=([A,C,x2,E,I,J,M]:List ag)[j]? from fun j _=>ap.aO j))<|p mv<|p (FY (ps:= [(0,.agg [A,C,x2,E,I,J,M].toArray),(1,str s)]) (L:= [A,C,x2,E,I,J,M,str s]) Lw U<|by simp [Instr.fill,Value.cells,str])<|e<|r7 (L:= [A,C,x2,E,I,J,M,str s]) U fun al aS aG ac am=> ?_;have aL:=ac.size;refine az 5 U<|f2 U U U ?_;refine ⟨?_,(Z.trans O).trans ac.md⟩;rw [aw];exact ⟨al,U,_,⟨_,am⟩,ax.wk (O.trans ac.md),ab⟩
end Go.Hb.gF
end
section
namespace Go.Hb.cQ
open Go.Hb.dO
open Go.Hb.fE Go.Hb.gF
def eF (c:UInt8) (es:List (UInt8×Int)):Nat:=es.findIdx fun e=>e.1==c
theorem Bk {c:UInt8} {es:List (UInt8×Int)} {i:Nat} {e:UInt8×Int} (he:es[i]? =some e) (A:e.1=c) (E:∀ (j:Nat) (e':UInt8×Int),j < i→es[j]? =some e'→e'.1≠c):eF c es=i:=by
 unfold eF;obtain ⟨hi,rfl⟩:=cB.1 he;rw [List.findIdx_eq hi];refine ⟨by simpa using A,fun j C=> ?_⟩;have :=E j _ C<|bt ab;simpa using this
theorem IE {c:UInt8} {es:List (UInt8×Int)} (C:∀ (j:Nat) (e':UInt8×Int),es[j]? =some e'→e'.1≠c):eF c es=es.length:=by
 unfold eF;refine List.findIdx_eq_length.2 fun e he=> ?_;obtain ⟨j,A⟩:=List.mem_iff_getElem?.1 he;simpa using C j e A
def iH (l:List aM):Nat→List UInt8→Option Nat×Nat
 | n,[]=>(some n,0)
 | n,c::w=>if eF c (aD l n).2 < (aD l n).2.length then ((iH l ((aD l n).2.getD (eF c (aD l n).2) (0,0)).2.toNat w).1,(iH l ((aD l n).2.getD (eF c (aD l n).2) (0,0)).2.toNat w).2 +1) else (none,0)
def ze (l:List aM) (w:List UInt8):Option Nat×Nat:=if l= [] then (none,0) else iH l 0 w
def kG (l:List aM) (w:List UInt8):Bool:=match (ze l w).1 with
 | some n=>(aD l n).1
 | none=>false
def j7 (l:List aM):Prop :=l.length≤1048576∧∀ x∈l,x.2.length≤256∧∀ e∈x.2,0≤e.2∧e.2 < l.length
theorem j7.nil:j7 []:=⟨by simp,fun x A=>by simp at A⟩
theorem j7.st {l:List aM} (h:j7 l) {n:Nat} (hn:n < l.length):(aD l n).2.length≤256∧∀ (i:Nat) e,(aD l n).2[i]? =some e→0≤e.2∧e.2 < l.length:=by
 have :=h.2 _<|jP (d:=dI) hn;exact ⟨this.1,fun i e he=>this.2 e<|j5 he⟩
def iu (b:dH) (n:Int):List aM:=if 0≤n∧n < 4 then b.au.getD n.toNat [] else []
theorem KR {s:List UInt8} {b:dH} (h:b.Is s) (n:Int):j7 (iu b n):=by
 unfold iu;split
 · rename_i hn;have hm:b.au.getD n.toNat []∈b.au:=jP<|by rw [h.qL]; omega
   obtain ⟨_,A,C⟩:=h.au _ hm;exact ⟨A,C⟩
 · exact j7.nil
theorem cQ.sec {w:ah} {B cb:Nat} {b:dH} {I:List UInt8} (h:cQ w B cb b I) {n:Nat} (hn:n < 4):∃ aa cc,ay w.heap cb (3 +n)=some (.slice aa (b.au.getD n []).length cc)∧eA w.heap aa (b.au.getD n []):=by
 obtain ⟨cs,A,⟨L,rc,vs,rfl,J,_,C⟩,_⟩:=h;obtain ⟨aa,cc,e,_,E⟩:=(C n hn).eG;refine ⟨aa,cc,?_,E⟩;rw [A.ay,eU (by simp only [bK,dm,gY]; omega),fm (by simp)];rw [cn] at e;have :vs[n]? =some (vs[n]'ab):=bt ab;rw [this] at e;show vs[3 +n - 3]? =_;rw [yT,this,← e]; rfl
theorem eA.none (h:Array Obj):eA h none []:=⟨fun h=>by simp at h,fun i hi=>by simp at hi⟩
theorem KV (B E:Nat) (b:dH) (O:List UInt8) (n:Int) (w:ah) (I:cQ w B E b O):
 bo ar 31 (bB [aU E,.int .i64 n]) w (fun v w'=>(∃ aa cc,v= .slice aa (iu b n).length cc∧eA w'.heap aa (iu b n))∧Wk w w'):=by
 refine enter func31 U ntmps31 U<|aW 9 U<|p (ji nk U U)<|aj 1 U<|gb (t:=7) U (fun h=>absurd (h.symm.trans<|U) c9) fun V=>aj 4 U<|gs (t:=11) U (fun L=> ?_) fun L=> ?_;refine az 13 U<|aR U ?_;have A:iu b n= []:=if_neg ab;rw [A];exact ⟨⟨none,0,U,eA.none _⟩,Md.refl _ _⟩;refine aN 5 U<|cd U (fun J=> ?_) fun J=> ?_;refine aG 7 U<|aR U ?_;have A:iu b n= []:=if_neg ab;rw [A];exact ⟨⟨none,0,U,eA.none _⟩,Md.refl _ _⟩;obtain ⟨k,rfl⟩:∃ k:Nat,n=(k:Int):=⟨n.toNat,ab⟩
 have A:iu b (k:Int)=b.au.getD k []:=if_pos ab;obtain ⟨aa,cc,C,M⟩:=cQ.sec I (n:=k) ab;rw [show 3 +k=0 +0 +3 +((k:Nat):Int).toNat*1 by omega] at C;refine aJ 9 U<|p (jj lP U U ab)<|p (ax U<|C)<|p aT<|az 3 U<|aR U ?_;rw [A];exact ⟨⟨aa,cc,U,M⟩,Md.refl _ _⟩
theorem KS (n:Int) (w:ah):
 bo ar 31 (bB [.pointer none,.int .i64 n]) w (fun v w'=>v= .slice none 0 0∧Wk w w'):=by
 refine enter func31 U ntmps31 U<|aW 9 U<|p (ji nk U U)<|aj 1 U<|gb (t:=7) U (fun A=> ?_) fun h=>absurd ((U).symm.trans h) c9;exact aj 3 U<|p mv<|az 13 U<|aR U<|⟨U,Md.refl _ _⟩
end Go.Hb.cQ
end
section
namespace Go.Hb
open Go.Hb.cQ
def gN (l:List aM) (s:Nat) (c:UInt8):Option Nat:=if eF c (aD l s).2 < (aD l s).2.length then some ((aD l s).2.getD (eF c (aD l s).2) (0,0)).2.toNat else none
def gK (l:List aM) (u:List UInt8):Option Nat:=(iH l 0 u).1
theorem rY (l:List aM) (n:Nat) (c:UInt8) (u:List UInt8):(iH l n (c::u)).1=(gN l n c).bind fun s=>(iH l s u).1:=by
 rw [iH]; unfold gN;split <;> rfl
theorem uU (l:List aM):∀ (u:List UInt8) (n:Nat) (c:UInt8),(iH l n<|u++ [c]).1=(iH l n u).1.bind fun s=>gN l s c
 | [],n,c=>by
   rw [n3,rY];show (gN l n c).bind (fun s=>some s)=gN l n c;cases gN l n c <;> rfl
 | a::u,n,c=>by
   rw [List.cons_append,rY,rY];cases gN l n a with
   | none=>rfl
   | some s=>exact uU l u s c
theorem zf (l:List aM):∀ (v u:List UInt8) (n:Nat),(iH l n u).1=none→(iH l n<|u++v).1=none
 | [],u,n,h=>by rw [js]; exact h
 | c::v,u,n,h=>by
   rw [show u++c::v=(u++ [c])++v by simp];refine zf l v _ n ?_;rw [uU,h]; rfl
def oF (l:List aM):Option Nat→Bool
 | some n=>(aD l n).1
 | none=>false
def cq (w:List UInt8) (i k:Nat):List UInt8:=(w.drop i).take<|k - i
def aI (l:List aM) (least:Nat) (w:List UInt8) (i k:Nat):Bool:=decide (i < k∧k≤w.length∧least≤k - i) && oF l (gK l<|cq w i k)
theorem GP (w:List UInt8) (i:Nat):cq w i i= []:=by unfold cq; rw [yW]; rfl
theorem GR {w:List UInt8} {i k:Nat} (hi:i≤k) (A:k < w.length):cq w i (k+1)=cq w i k++ [w.getD k 0]:=by
 unfold cq;rw [show k+1 - i=(k - i)+1 by omega,uF,iE,show i+(k - i)=k by omega,cn,bt A]; rfl
theorem GQ {w:List UInt8} {i k m:Nat} (hi:i≤k) (A:k≤m):∃ v,cq w i m=cq w i k++v:=by
 unfold cq;exact ⟨_,by rw [show m - i=(k - i)+(m - k) by omega,List.take_add]⟩
theorem Bg {l:List aM} {w:List UInt8} {i k:Nat} (hi:i≤k) (A:k < w.length):gK l (cq w i<|k+1)=(gK l<|cq w i k).bind fun s=>gN l s (w.getD k 0):=by
 unfold gK;rw [GR hi A,uU]
theorem Il {l:List aM} {w:List UInt8} {i k m:Nat} (hi:i≤k) (A:k≤m) (h:gK l (cq w i k)=none):gK l (cq w i m)=none:=by
 obtain ⟨v,C⟩:=GQ (w:=w) hi A;unfold gK at h ⊢;rw [C]; exact zf l v _ 0 h
def jh (l:List aM) (least:Nat) (w:List UInt8) (i k:Nat):List Nat:=(List.range' (i+1)<|k - i).filter<|aI l least w i
theorem Hu (l:List aM) (least:Nat) (w:List UInt8) (i:Nat):jh l least w i i= []:=by unfold jh; rw [yW]; rfl
theorem Aw {l:List aM} {least:Nat} {w:List UInt8} {i k:Nat} (hi:i≤k):jh l least w i (k+1)=jh l least w i k++if aI l least w i (k+1)=true then [k+1] else []:=by
 unfold jh;rw [show k+1 - i=(k - i)+1 by omega,List.range'_1_concat,uo,show i+1 +(k - i)=k+1 by omega];congr 1;cases h:aI l least w i (k+1) <;> simp [h]
theorem Ka {l:List aM} {least:Nat} {w:List UInt8} {i k s:Nat} (hi:i≤k) (C:k < w.length) (A:gK l (cq w i<|k+1)=some s):aI l least w i (k+1)=((aD l s).1 && decide (least≤k+1 - i)):=by
 unfold aI;rw [A];simp only [oF];cases (aD l s).1
 · simp
 · simp only [Bool.and_true,rl];exact decide_eq_decide.2 ⟨fun h=>h.2.2,fun h=>⟨ab,ab,h⟩⟩
theorem Av {l:List aM} {least:Nat} {w:List UInt8} {i k:Nat} (hi:i≤k) (C:k≤w.length) (h:k=w.length∨gK l (cq w i<|k+1)=none):jh l least w i k=jE (aI l least w) w.length i:=by
 rcases h with rfl | h
 · rfl
 · have :∀ d,k+d≤w.length→jh l least w i (k+d)=jh l least w i k:=fun d=>by
    induction d with
    | zero=>intro _; rfl
    | succ d ih=>
      intro A;rw [← Nat.add_assoc,Aw ab,ih ab];have hn:=Il (m:=k+d+1) ab ab h;have :aI l least w i (k+d+1)=false :=by unfold aI; rw [hn]; simp [oF]
      rw [this]; simp
   have h1:=this (w.length - k) ab;rw [show k+(w.length - k)=w.length by omega] at h1;exact h1.symm
theorem IF {c:UInt8} {es:List (UInt8×Int)} (hr:dP es) {i:Nat} (J:∀ (j:Nat) e,j < i→es[j]? =some e→e.1.toNat < c.toNat) (M:∀ (j:Nat) e,i≤j→es[j]? =some e→c.toNat≤e.1.toNat):(i < es.length∧(es.getD i (0,0)).1=c→eF c es=i)∧(¬(i < es.length∧(es.getD i (0,0)).1=c)→eF c es=es.length):=by
 constructor
 · rintro ⟨h1,A⟩;rw [cn,bt h1] at A;refine Bk (bt h1) A fun j e E he h=> ?_;have :=J j e E he;rw [h] at this; omega
 · intro h;refine IE fun j e he C=>h ?_;have V:¬j < i:=fun E=>by have :=J j e E he; rw [C] at this; omega
   have I:=(cB.1 he).1;by_cases O:i=j
   · subst O;refine ⟨I,?_⟩;rw [cn,he]; exact C
   · exfalso;have h1:es[i]? =some (es[i]'ab):=bt ab;have A:=M i _ (aQ _) h1;have L:=n4.1 hr i j ab I ab;obtain ⟨U,rfl⟩:=cB.1 he;rw [C] at L;omega
theorem y9 {l:List aM} (h:l≠[]) (u:List UInt8):kG l u=oF l (gK l u):=by
 unfold kG ze gK;rw [if_neg h];cases (iH l 0 u).1 <;> rfl
theorem Kb {l:List aM} {least:Nat} {w:List UInt8} {i k:Nat} :aI l least w i k=true↔(i < k∧k≤w.length∧least≤k - i)∧oF l (gK l<|cq w i k)=true :=by
 unfold aI;rw [a9,decide_eq_true_iff]
def cw (l:List aM) (least:Nat) (w:List UInt8):List (List UInt8):=if w.length≤1024∧(jC (aI l least w) w.length 0).1≠0 then (gH (aI l least w) w.length 0).map fun p=>cq w p.1 p.2 else []
def gG (l:List aM) (least:Nat) (w:List UInt8):Nat×Bool:=if w= []∨1024 < w.length then (0,true) else if fi < (jC (aI l least w) w.length 0).2 then (0,false) else ((jC (aI l least w) w.length 0).2,true)
section
variable {l:List aM} {least:Nat} {w:List UInt8}
theorem II:(jC (aI l least []) 0 0).1=0:=by rw [oK]
theorem De (h:(jC (aI l least w) w.length 0).1≠0):0 < w.length∧fu (aI l least w) w.length 0:=by
 have h0:0 < w.length:=by
  rcases uI w.length with h1 | h1
  · rw [h1,oK] at h; exact absurd rfl h
  · exact h1
 exact ⟨h0,.inr ⟨h0,h⟩⟩
theorem xX:(cw l least w= []∧(w.length≤1024→(jC (aI l least w) w.length 0).1=0))∨(w.length≤1024∧0 < w.length∧fu (aI l least w) w.length 0∧(jC (aI l least w) w.length 0).1≠0∧cw l least w=(gH (aI l least w) w.length 0).map fun p=>cq w p.1 p.2):=by
 unfold cw;split
 · rename_i h;obtain ⟨h1,A⟩:=De h.2;exact .inr ⟨h.1,h1,A,h.2,U⟩
 · rename_i h;exact .inl ⟨U,fun h1=>Ei fun A=>h ⟨h1,A⟩⟩
theorem Lj (h:cw l least w≠[]):(cw l least w).length=(jC (aI l least w) w.length 0).1:=by
 rcases xX (l:=l) (least:=least) (w:=w) with ⟨h1,_⟩ | ⟨_,_,A,_,e⟩
 · exact absurd h1 h
 · rw [e,rF,vi A]
theorem Dd (hw:w.length≤1024):cw l least w≠[]↔(jC (aI l least w) w.length 0).1≠0:=by
 rcases xX (l:=l) (least:=least) (w:=w) with ⟨h1,A⟩ | ⟨_,h0,E,C,e⟩
 · exact ⟨fun h=>absurd h1 h,fun h=>absurd (A hw) h⟩
 · refine ⟨fun _=>C,fun _=> ?_⟩;rw [e];intro h;exact GU E h0<|List.map_eq_nil_iff.1 h
theorem Dc (hw:1024 < w.length):cw l least w= []:=by unfold cw; rw [if_neg ab]
theorem Lk:(cw l least w).length≠1:=by
 rcases xX (l:=l) (least:=least) (w:=w) with ⟨h1,_⟩ | ⟨_,h0,A,_,e⟩
 · rw [h1]; decide
 · intro h;rw [e,rF,vi A] at h;obtain ⟨E,I,_,J,L,C⟩:=A.next h0
   unfold fu at C;omega
theorem zL:(gG l least w).2=true→(0 < (gG l least w).1↔cw l least w≠[]):=by
 unfold gG;split
 · rename_i h;intro _;refine ⟨fun h=>absurd h aF,fun h1=> ?_⟩;exfalso; apply h1;rcases h with h | h
   · subst h;unfold cw;rw [if_neg (fun e=>e.2 II)]
   · exact Dc h
 · rename_i h;have hw:w.length≤1024:=ab;have h0:0 < w.length:=by
    rcases uI w.length with h1 | h1
    · exact absurd (.inl<|j4 h1) h
    · exact h1
   split
   · intro h; cases h
   · intro _;rw [Dd hw];obtain ⟨h1,A⟩:=Ms (pc:=aI l least w) (n:=w.length) 0<|hO _;show 0 < (jC (aI l least w) w.length 0).2↔_;rw [h1,ne_eq,A h0];have :fi=1099511627776:=rfl;omega
end
end Go.Hb
end
section
namespace Go.Hb
open Go.Hb.cQ
section
variable {l od:List Nat} {a:List aM}
def jO:List UInt8→List UInt8→Bool
 | [],_=>true
 | _::_,[]=>false
 | c::f,d::v=>if d.toNat < c.toNat then false else if d=c then jO f v else true
def iM (a:List aM) (t:List UInt8) (i:Nat) (f:List UInt8):List (List UInt8):=((gW a i).filter<|jO f).map (t++ ·)
def eM (a:List aM) (t:List UInt8) (i:Nat) (f:List UInt8):List (List UInt8):=if (aD a i).1=true∧f= [] then [t] else []
def mi (f:List UInt8) (b:UInt8):Bool:=match f with | []=>false | c::_=>decide (b.toNat < c.toNat)
def kp (f:List UInt8) (b:UInt8):List UInt8:=match f with | []=> [] | c::f=>if b=c then f else []
def dR (a:List aM) (t f:List UInt8) (es:List (UInt8×Int)):List (List UInt8):=es.flatMap fun e=>if mi f e.1=true then [] else iM a (t++ [e.1]) e.2.toNat (kp f e.1)
theorem Ig (f:List UInt8) (b:UInt8) (v:List UInt8):jO f (b::v)=(!mi f b && jO (kp f b) v):=by
 cases f with
 | nil=>rfl
 | cons c f=>
   show (if b.toNat < c.toNat then false else if b=c then jO f v else true)=(!(decide (b.toNat < c.toNat)) && jO (if b=c then f else []) v)
   by_cases h1:b.toNat < c.toNat
   · rw [if_pos h1,decide_eq_true h1]; rfl
   · rw [if_neg h1,decide_eq_false h1];by_cases A:b=c
     · rw [if_pos A,if_pos A]; rfl
     · rw [if_neg A,if_neg A]; rfl
theorem A8 (h:fG a l) {i:Nat} (hi:i < a.length) (t f:List UInt8):iM a t i f=eM a t i f++dR a t f (aD a i).2:=by
 unfold iM eM dR;rw [h.gW hi,uo,gD];congr 1
 · by_cases h1:(aD a i).1=true
   · rw [if_pos h1];cases f with
     | nil=>rw [if_pos ⟨h1,rfl⟩]; simp [jO]
     | cons c f=>rw [if_neg (fun e=>by cases e.2)]; simp [jO]
   · rw [if_neg h1,if_neg (fun e=>h1 e.1)]; rfl
 · generalize (aD a i).2=es
   induction es with
   | nil=>rfl
   | cons e es ih=>
     rw [pQ,pQ,uo,gD,ih,List.filter_map];congr 1;have :(jO f∘fun v=>e.1::v)=fun v=>(!mi f e.1 && jO (kp f e.1) v):=funext fun v=>Ig f e.1 v;rw [this];cases mi f e.1
     · simp only [Bool.not_false,rl,Bool.false_eq_true,if_false];unfold iM;rw [List.map_map];apply List.map_congr_left;intro x _;simp
     · simp
theorem Ic {t f:List UInt8} {q:Nat} {es:List (UInt8×Int)} {e:UInt8×Int} (he:es[q]? =some e):dR a t f (es.take<|q+1)=dR a t f (es.take q)++if mi f e.1=true then [] else iM a (t++ [e.1]) e.2.toNat (kp f e.1):=by
 obtain ⟨A,rfl⟩:=cB.1 he;rw [uH A];unfold dR; rw [uq]; simp
theorem LW {α:Type} {xs A:List α} {m:Nat} (h:(xs.take m).length=m):(xs++A).take m=xs.take m:=by
 rw [cV] at h;rw [List.take_append_of_le_length ab]
theorem LX {α:Type} {xs:List α} {m:Nat} (h:(xs.take m).length≠m):xs.take m=xs∧xs.length < m:=by
 rw [cV] at h;exact ⟨j6 ab,ab⟩
theorem B8 (L:fG a l) {i:Nat} (hi:i < a.length) {c:UInt8} {m:Nat} :gN a i c=some m↔∃ e∈(aD a i).2,e.1=c∧e.2.toNat=m:=by
 have hr:=L.tk hi;unfold gN;constructor
 · intro h;split at h
   · rename_i C;cases h;refine ⟨_,List.getElem_mem C,?_,?_⟩
     · have h1:=List.findIdx_getElem (p:=fun e:UInt8×Int=>e.1==c) (w:=C);exact eq_of_beq h1
     · rw [cn,bt C]; rfl
   · cases h
 · rintro ⟨e,he,E,rfl⟩;obtain ⟨j,A,I⟩:=List.mem_iff_getElem.1 he;have h1:(aD a i).2[j]? =some e:=by rw [bt A,I]
   have J:eF c (aD a i).2=j:=Bk h1 E fun k e' O M h=>by
    obtain ⟨V,U⟩:=cB.1 M;have :=n4.1 hr k j V A O;rw [U,I,h,E] at this;omega
   rw [J,if_pos A,cn,h1]; rfl
theorem yt (A:fG a l):∀ (u:List UInt8) (i:Nat),i < a.length→(u∈gW a i↔oF a (iH a i u).1=true)
 | [],i,hi=>by
   rw [A.gW hi];show _↔(aD a i).1=true;constructor
   · intro h;rcases dx.1 h with h | h
     · split at h
       · assumption
       · cases h
     · obtain ⟨e,_,h⟩:=rG.1 h;obtain ⟨v,_,h⟩:=jv.1 h;cases h
   · intro h;rw [if_pos h]; simp
 | c::u,i,hi=>by
   rw [A.gW hi,rY];constructor
   · intro h;rcases dx.1 h with h | h
     · split at h <;> simp at h
     · obtain ⟨e,he,h⟩:=rG.1 h;obtain ⟨v,C,h⟩:=jv.1 h;cases h;rw [(B8 A hi).2 ⟨e,he,rfl,rfl⟩];exact (yt A u _ (A.oz hi he).2.1).1 C
   · intro h;cases hx:gN a i c with
     | none=>rw [hx] at h; cases h
     | some m=>
       rw [hx] at h;obtain ⟨e,he,rfl,rfl⟩:=(B8 A hi).1 hx;exact List.mem_append_right _<|rG.2 ⟨e,he,jv.2 ⟨u,(yt A u _ (A.oz hi he).2.1).2 h,U⟩⟩
theorem M5 (A:fG a l) (u:List UInt8):u∈gW a 0↔kG a u=true :=by
 have h0:=A.pos;rw [y9 (fun e=>by rw [e] at h0; simp at h0),yt A u 0 h0]; rfl
theorem M7 (A:fG a l):∀ (r i:Nat) (u:List UInt8),i < a.length→l.idxOf i < r→u∈gW a i→u.length≤l.idxOf i:=fun r=>by
 induction r with
 | zero=>intro i u _ h; omega
 | succ r ih=>
   intro i u hi hr hu;rw [A.gW hi] at hu;rcases dx.1 hu with h | h
   · split at h
     · rw [List.mem_singleton.1 h]; exact hO _
     · cases h
   · obtain ⟨e,he,h⟩:=rG.1 h;obtain ⟨v,E,rfl⟩:=jv.1 h;obtain ⟨_,C,I⟩:=A.oz hi he;have :=ih _ v C ab E;rw [dm]; omega
theorem M6 (A:fG a l) {u:List UInt8} (hu:u∈gW a 0):u.length≤1048576:=by
 have h1:=M7 A (l.idxOf 0 +1) 0 u A.pos ab hu;have C:=A.rk A.pos;have :=A.le;omega
end
section
variable {l:List aM} {least:Nat}
def gq (least:Nat) (L:List (List UInt8)):List (List UInt8):=L.filter fun p=>decide (least≤p.length)
theorem BH {least q:Nat} {L:List (List UInt8)} {p:List UInt8} (h:L[q]? =some p):gq least (L.take<|q+1)=gq least (L.take q)++if least≤p.length then [p] else []:=by
 obtain ⟨A,rfl⟩:=cB.1 h;unfold gq;rw [uH A,uo];congr 1;by_cases h:least≤L[q].length
 · rw [if_pos h]; simp [h]
 · rw [if_neg h]; simp [h]
theorem Jf {least:Nat} {L:List (List UInt8)} {p:List UInt8} (h:p∈gq least L):p∈L∧least≤p.length:=by
 unfold gq at h;rw [List.mem_filter] at h;exact ⟨h.1,of_decide_eq_true h.2⟩
theorem BG (least:Nat) (L:List (List UInt8)):(gq least L).length≤L.length:=E5 _ _
theorem Cp (A:l≠[]) {pre p post w:List UInt8} (hw:w=pre++p++post) (h1:0 < p.length) (C:least≤p.length) (ha:kG l p=true):aI l least w pre.length (pre.length+p.length)=true :=by
 refine Kb.2 ⟨⟨ab,by rw [hw]; simp only [bK]; omega,ab⟩,?_⟩;have :cq w pre.length (pre.length+p.length)=p:=by
  unfold cq;rw [hw,List.append_assoc,List.drop_left,yT,List.take_left]
 rw [this,← y9 A]; exact ha
theorem BZ (I:l≠[]) {ps:List (List UInt8)} (E:∀ p∈ps,0 < p.length∧least≤p.length∧kG l p=true):∀ (A pre:List (List UInt8)),ps=pre++A→A≠[]→(pre≠[]∨2≤A.length)→(jC (aI l least ps.flatten) ps.flatten.length pre.flatten.length).1≠0∧(jC (aI l least ps.flatten) ps.flatten.length pre.flatten.length).1≤A.length
 | [],_,_,h,_=>absurd rfl h
 | [p],pre,e,_,h=>by
   have hp:=E p<|by rw [e]; simp
   have O:pre≠[]:=h.resolve_right<|by simp
   have h0:0 < pre.flatten.length:=by
    cases pre with
    | nil=>exact absurd rfl O
    | cons x xs=>
      have :=(E x<|by rw [e]; simp).1;rw [nZ,bK]; omega
   have C:ps.flatten=pre.flatten++p++ []:=by rw [e]; simp
   have J:=Cp (least:=least) I C hp.1 hp.2.1 hp.2.2;have hn:pre.flatten.length+p.length=ps.flatten.length:=by rw [C]; simp
   rw [hn] at J;have :=AQ (pc:=aI l least ps.flatten) (n:=ps.flatten.length) ab (aQ _) J (.inl h0)<|.inl rfl;rw [oK] at this;exact this
 | p::q::A,pre,e,_,_=>by
   have hp:=E p<|by rw [e]; simp
   have V:=E q<|by rw [e]; simp
   have ih:=BZ I E (q::A) (pre++ [p]) (by rw [e]; simp) (by simp)<|.inl<|by simp
   have C:ps.flatten=pre.flatten++p++(q::A).flatten:=by rw [e]; simp
   have M:(pre++ [p]).flatten.length=pre.flatten.length+p.length:=by simp
   rw [M] at ih;have hn:=congrArg kE C;rw [nZ] at hn;simp only [bK] at hn;have :=AQ (pc:=aI l least ps.flatten) (n:=ps.flatten.length) (i:=pre.flatten.length) (k:=pre.flatten.length+p.length) ab ab (Cp I C hp.1 hp.2.1 hp.2.2) (.inr ab)<|.inr ih.1;refine ⟨this.1,?_⟩;have L:=ih.2;have U:=this.2;simp only [dm] at L ⊢;omega
theorem made (J:l≠[]) {ps:List (List UInt8)} (L:∀ p∈ps,0 < p.length∧least≤p.length∧kG l p=true) (A:2≤ps.length) (hw:ps.flatten.length≤1024):2≤(cw l least ps.flatten).length∧(cw l least ps.flatten).length≤ps.length:=by
 obtain ⟨E,I⟩:=BZ (least:=least) J L ps [] rfl (fun e=>by rw [e] at A; simp at A) (.inr A);have C:=(Dd (l:=l) (least:=least) hw).2 E;have M:=Lj C;have O:=Lk (l:=l) (least:=least) (w:=ps.flatten);have U:(cw l least ps.flatten).length≠0:=fun e=>C<|j4 e;have V:(jC (aI l least ps.flatten) ps.flatten.length 0).1≤ps.length:=I;omega
end
end Go.Hb
end
section
namespace Go.Hb.jy
open Go.Hb.dO
open Go.Hb.fE Go.Hb.gF Go.Hb.cQ
def fR (w:ah) (B k:Nat) (A:List (Bool×ag)) (l:List aM):Prop :=A.length=l.length∧∀ (i:Nat) q e,A[i]? =some q→l[i]? =some e→q.1=e.1∧Tg w 0 84 e.2.length q.2 (e9 e.2)∧(i < k→Tg w B 84 e.2.length q.2 (e9 e.2))
theorem eH.q {w:ah} {B B':Nat} {C:List (Bool×ag)} {l:List aM} (h:eH w B C l):fR w B' 0 C l:=⟨h.1,fun i q e A he=>⟨(h.2 i q e A he).1,(h.2 i q e A he).2.mono (hO _),fun hi=>by omega⟩⟩
theorem fR.p {w:ah} {B:Nat} {C:List (Bool×ag)} {l:List aM} (h:fR w B l.length C l):eH w B C l:=⟨h.1,fun i q e A he=>⟨(h.2 i q e A he).1,(h.2 i q e A he).2.2 (cB.1 he).1⟩⟩
theorem fR.md {F:Nat→Prop} {w w':ah} {B k:Nat} {I:List (Bool×ag)} {l:List aM} (h:fR w B k I l) (hm:Md F w w') (E:∀ k,F k→∀ cur z,w.heap[k]?≠some (.cells cur 84 z)):fR w' B k I l:=
 ⟨h.1,fun i q e C he=>⟨(h.2 i q e C he).1,Tg.kW (h.2 i q e C he).2.1 hm (fun k A _=>E k A),fun hi=>Tg.kW ((h.2 i q e C he).2.2 hi) hm fun k A _=>E k A⟩⟩
theorem fR.set {w:ah} {B k:Nat} {I:List (Bool×ag)} {l:List aM} {f:Bool} {v:ag} {e:aM} (h:fR w B k I l) (he:l[k]? =some e) (M:f=e.1) (E:Tg w B 84 e.2.length v (e9 e.2)):fR w B (k+1) (I.set k (f,v)) l:=by
 refine ⟨by rw [iF,h.1],fun i q r A hr=> ?_⟩;have U:=h.1;have O:=(cB.1 hr).1;by_cases C:k=i
 · subst C;rw [he] at hr; cases hr;rw [E1 ab] at A; cases A;exact ⟨M,E.mono (hO _),fun _=>E⟩
 · rw [E0 C] at A;obtain ⟨h1,J,L⟩:=h.2 i q r A hr;exact ⟨h1,J,fun hi=>L ab⟩
theorem C0:∀ (A:List (Bool×ag)) (k:Nat) (v:ag),k < A.length→(fA A).set (k*2 +1) v=fA (A.set k ((A.getD k (false,.nilFunc)).1,v))
 | [],k,v,h=>by simp at h
 | q::A,0,v,_=>by simp [fA]
 | q::A,k+1,v,h=>by
   have ih:=C0 A k v<|by simpa using h
   rw [yS,yO];show (bD q.1::q.2::fA A).set ((k+1)*2 +1) v= .bool q.1::q.2::fA _;rw [show (k+1)*2 +1=(k*2 +1)+1 +1 by omega,yS,yS,ih]
theorem K4 {w:ah} {B:Nat} {C:List (Bool×ag)} {l:List aM} (h:eH w B C l):(fA C).all eS=true :=by
 rw [List.all_eq_true];intro v A;obtain ⟨q,I,A⟩:=rG.1 A;obtain ⟨i,hi⟩:=List.getElem?_of_mem I;have L:=(cB.1 hi).1;have M:=h.1;have he:l[i]? =some (l[i]'ab):=bt ab;obtain ⟨_,E⟩:=h.2 i _ _ hi he;obtain ⟨a,c,J⟩:=E.slice;simp only [eb,List.not_mem_nil,or_false] at A;rcases A with rfl | rfl
 · rfl
 · rw [J]; rfl
theorem Hr (es:List (UInt8×Int)):(e9 es).all eS=true :=AZ (fun _=>rfl) es
theorem KD (l:List (List UInt8×List UInt8)):(l.flatMap ej).all eS=true :=AZ (fun _=>rfl) l
theorem CG (l:List (List UInt8×List UInt8)):(l.flatMap ej).length=l.length*2:=sC (m:=2) (fun _=>rfl) l
theorem zG {h:Array Obj} {a:Option bl} {n m:Nat} {xs:List ag} (C:aV h a xs) (A:xs.length=n*m) (hm:0 < m) (ha:a=none):n=0:=by
 rcases uI n with h0 | h0
 · exact h0
 · exfalso;have E:xs≠[]:=fun e=>by
    rw [e] at A;have :0 < n*m:=Nat.mul_pos h0 hm;simp only [gY] at A; omega
   have :=aV.ok C E;rw [ha] at this; cases this
theorem vY {x y z:ag} {ws:List ag} {i:Nat} (hi:i < ws.length):([x,y,z]++ws).toArray[0 +3 +((i:Nat):Int).toNat*1]? =some (ws.getD i .nilFunc):=by
 rw [List.getElem?_toArray,show 0 +3 +((i:Nat):Int).toNat*1=i+1 +1 +1 from by omega,cn,bt hi];show ws[i]? =_;rw [bt hi]; rfl
theorem LF {l:List aM} {n:Nat} (h:n < l.length):l[n]? =some (aD l n):=by
 unfold aD;rw [cn,bt h]; rfl
theorem four {α:Type} {l:List α} (h:l.length=4):∃ a b c d,l= [a,b,c,d]:=by
 match l,h with
 | [a,b,c,d],_=>exact ⟨a,b,c,d,rfl⟩
theorem Tg.parts {w:ah} {B e n m:Nat} {v:ag} {xs:List ag} (h:Tg w B e n v xs) (C:xs.length=n*m) (hm:0 < m):∃ a c,v= .slice a n c∧aV w.heap a xs∧(a=none→n=0):=by
 obtain ⟨a,c,rfl⟩:=h.slice;obtain ⟨_,A⟩:=h.qg;exact ⟨a,c,U,A,zG A C hm⟩
theorem GB (a:Option bl) (n c:Nat) (xs:List ag) (w:ah) (J:aV w.heap a xs) (ac:xs.length=n*2) (ha:a=none→n=0) (h1:xs.all eS=true) (hn:n≤1048576):
 bo ar 26 (bB [.slice a n c]) w (fun v w'=>bj w' w.heap.size 77 2 v n xs∧Wk w w'):=by
 refine enter func26 U ntmps26 U<|aW 9 U<|p (vD L1 U U)<|aN 2 U<|cb U (fun C=> ?_) fun C=> ?_;have O:a=none:=by simpa using C
 refine aG 7 U<|aR U ?_;have V:=ha O;subst V;obtain rfl :=j4 (show xs.length=0 by omega);exact ⟨eT _ _ _ _,Md.refl _ _⟩;refine aJ 4 U<|e<|r6 tI fun ak ao al A I=> ?_;have E:=I w.heap.size ab;refine aj 1 U<|e<|ap tI (E) U (by have :=A.size; omega) U (J.wk A.md) (ac) (h1) ab ab fun ae ai Z M an am=> ?_;have L:=Wk.own A.md E M<|aQ _;refine p aT<|az 3 U<|aR U ?_;have ad:bj ai w.heap.size 77 2 ae n xs:=by simpa using Z
 exact ⟨ad,L⟩
theorem GC (a:Option bl) (n c:Nat) (xs:List ag) (w:ah) (J:aV w.heap a xs) (ac:xs.length=n*2) (ha:a=none→n=0) (h1:xs.all eS=true) (hn:n≤1048576):
 bo ar 27 (bB [.slice a n c]) w (fun v w'=>bj w' w.heap.size 81 2 v n xs∧Wk w w'):=by
 refine enter func27 U ntmps27 U<|aW 9 U<|p (vD L3 U U)<|aN 2 U<|cb U (fun C=> ?_) fun C=> ?_;have O:a=none:=by simpa using C
 refine aG 7 U<|aR U ?_;have V:=ha O;subst V;obtain rfl :=j4 (show xs.length=0 by omega);exact ⟨eT _ _ _ _,Md.refl _ _⟩;refine aJ 4 U<|e<|r6 tJ fun ak ao al A I=> ?_;have E:=I w.heap.size ab;refine aj 1 U<|e<|ap tJ (E) U (by have :=A.size; omega) U (J.wk A.md) (ac) (h1) ab ab fun ae ai Z M an am=> ?_;have L:=Wk.own A.md E M<|aQ _;refine p aT<|az 3 U<|aR U ?_;have ad:bj ai w.heap.size 81 2 ae n xs:=by simpa using Z
 exact ⟨ad,L⟩
theorem GA (a:Option bl) (n c:Nat) (xs:List ag) (w:ah) (J:aV w.heap a xs) (ac:xs.length=n*2) (ha:a=none→n=0) (h1:xs.all eS=true) (hn:n≤1048576):
 bo ar 28 (bB [.slice a n c]) w (fun v w'=>bj w' w.heap.size 84 2 v n xs∧Wk w w'):=by
 refine enter func28 U ntmps28 U<|aW 9 U<|p (vD L4 U U)<|aN 2 U<|cb U (fun C=> ?_) fun C=> ?_;have O:a=none:=by simpa using C
 refine aG 7 U<|aR U ?_;have V:=ha O;subst V;obtain rfl :=j4 (show xs.length=0 by omega);exact ⟨eT _ _ _ _,Md.refl _ _⟩;refine aJ 4 U<|e<|r6 tL fun ak ao al A I=> ?_;have E:=I w.heap.size ab;refine aj 1 U<|e<|ap tL (E) U (by have :=A.size; omega) U (J.wk A.md) (ac) (h1) ab ab fun ae ai Z M an am=> ?_;have L:=Wk.own A.md E M<|aQ _;refine p aT<|az 3 U<|aR U ?_;have ad:bj ai w.heap.size 84 2 ae n xs:=by simpa using Z
 exact ⟨ad,L⟩
theorem zu (B aL:Nat) (b:dH) (s:List UInt8) (w:ah) (cj:cQ w B aL b s) (aC:b.Is s):
 bo ar 16 (bB [aU aL]) w (fun v w'=> ∃ cs,v= .agg cs.toArray∧lL w' w.heap.size cs b∧Wk w w'):=by
 obtain ⟨cs,b6,⟨bu,rc,vs,rfl,c5,bI,aw⟩,hBk⟩:=cj;obtain ⟨aR,aS,aT,aX,rfl⟩:=four c5;have cO:aR.oneCell'=true :=by obtain ⟨a,c,h,_⟩:=(aw 0 ab).eG; rw [show aR=_ from h]; rfl
 have cP:aS.oneCell'=true :=by obtain ⟨a,c,h,_⟩:=(aw 1 ab).eG; rw [show aS=_ from h]; rfl
 have cR:aT.oneCell'=true :=by obtain ⟨a,c,h,_⟩:=(aw 2 ab).eG; rw [show aT=_ from h]; rfl
 have cS:aX.oneCell'=true :=by obtain ⟨a,c,h,_⟩:=(aw 3 ab).eG; rw [show aX=_ from h]; rfl
 have cY:bu=none→b.cZ.length=0:=zG bI (CG _) aF;refine enter func16 U ntmps16 U<|aW 2 U<|e<|dz pF fun aY da db bb ca=> ?_;have di:=bb.size;refine aj 6 U<|p (ji nk U U)<|aN 2 U<|cf (U)<|aJ 7 U<|p (fg kH U (U) (show ∀ j,j < 7→ay da.heap aL (0 +j)=([aB (b.least),str b.tr,.slice bu b.cZ.length rc,aR,aS,aT,aX]:List ag)[j]? from fun j al=>by rw [cH,(Wk.B bb.md b6).ay]; exact eU<|by simpa using al)) ?_;refine e<|dz pF fun E dx dc bc cg=> ?_;have dl:=bc.size;refine e<|dZ lS U U U (by simp only [pP,uk,cO,cP,cR,cS]; rfl) cg aF fun b1 a9 bE=> ?_;have bJ:Wk w b1:=(bb.md.trans bc.md).trans' a9 fun k A h=>by omega
 have dp:=a9.size;have cb:=a9.an (Wk.an bc.md ca) fun h=>by omega
 refine aj 5 U<|p (ax U<|(bp bE).trans U)<|e<|ba (GB bu b.cZ.length rc (b.cZ.flatMap ej) b1 (bI.wk bJ) (CG _) cY (KD _)<|by have :=aC.JT; omega) U ?_;rintro du a6 ⟨bm,a0⟩;obtain ⟨J,M,rfl⟩:=cT bm;have dh:=a0.size;have cC:=Wk.an a0 bE;have cc:=Wk.an a0 cb;refine aj 1 U<|e<|cU zT U U (v:= .slice J b.cZ.length M) U cC (by simp) fun b2 a2 ch=> ?_;have dr:=a2.size;have cp:Wk w b2:=(bJ.trans a0).trans' a2 fun k A h=>by omega
 have cW:bj b2 w.heap.size 77 2 (.slice J b.cZ.length M) b.cZ.length (b.cZ.flatMap ej):=bN (me bm ab) a2 fun k A h=>by have :=(cy bm A).1; omega
 have ce:=a2.an cc fun h=>by omega
 refine aN 9 U<|lp (fun ao b3 C=> ∃ (i:Nat) (ws:List ag),(i≤4)∧(ws.length=4)∧(C.heap[E]? =some (.cells ([aB (b.least),str b.tr,.slice J b.cZ.length M]++ws).toArray 44 (0,0)))∧(C.heap[aY]? =some (.cells [.int .i64 0,str [],.slice none 0 0,.slice none 0 0,.slice none 0 0,.slice none 0 0,.slice none 0 0].toArray 44 (0,0)))∧(bj C w.heap.size 77 2 (.slice J b.cZ.length M) b.cZ.length<|b.cZ.flatMap ej)∧(∀ j,j < i→eY C w.heap.size (ws.getD j .nilFunc) (b.au.getD j []))∧(∀ j,i≤j→j < 4→ws.getD j .nilFunc= [aR,aS,aT,aX].getD j .nilFunc)∧(Wk w C)∧(E < C.heap.size)∧(Sl b3 [(0,aU aL),(2,aU aY),(3,aU E),(17,aB i)])∧(4 - i=ao)) _ ⟨0,[aR,aS,aT,aX],ab,U,ch,ce,cW,(fun j al=>by omega),(fun j _ _=>rfl),cp,ab,U,U⟩ ?_;rintro ao b3 C ⟨i,ws,hi,br,aI,aZ,a4,am,hold,av,dt,c0,rfl⟩;refine bF c0<|bT 6 U<|cd U (fun cD=> ?_) fun cD=> ?_;refine bS 11 U ?_;obtain ⟨aM,cx,aH⟩:=(aw i ab).wk av;obtain ⟨bw,bz,c3,ck,cL⟩:=Tg.parts (w:=C) (B:=B) (e:=81) (n:=(b.au.getD i []).length) (xs:=fA aM) cx (m:=2) (by rw [CZ,aH.1]) aF;have cJ:(b.au.getD i []).length≤1048576:=(aC.au _<|jP<|by rw [aC.qL]; omega).2.1;have cF:ay C.heap E (0 +3 +((i:Nat):Int).toNat*1)=some (.slice bw (b.au.getD i []).length bz):=by rw [bp aI,vY ab,hold i (aQ _) ab,c3]
 refine aJ 4 U<|p (jj lP U U ab)<|p (ax U<|cF)<|e<|ba (GC bw (b.au.getD i []).length bz (fA aM) C ck (by rw [CZ,aH.1]) cL (K4 aH) cJ) U ?_;rintro dv dw ⟨bn,a1⟩;obtain ⟨L,V,rfl⟩:=cT bn;have dj:=a1.size;have bL:=Wk.an a1 aI;refine aj 1 U<|p (jj lP U U ab)<|e<|cU zU U U (v:= .slice L (b.au.getD i []).length V) U bL (by simp only [bK,dm,gY,br]; omega) fun aP a3 ci=> ?_;have ds:=a3.size;have bM:aP.heap[E]? =some (.cells ([aB (b.least),str b.tr,.slice J b.cZ.length M]++ws.set i (.slice L (b.au.getD i []).length V)).toArray 44 (0,0)):=by rw [← xI]; exact ci
 have cV:bj aP C.heap.size 81 2 (.slice L (b.au.getD i []).length V) (b.au.getD i []).length (fA aM):=bN bn a3 fun k A h=>by have :=(cy bn A).1; omega
 have ct:Md (fun k=>k=E) C aP:=(a1.mono fun _ _ h=>h.elim).trans a3;have cG:ay aP.heap E (0 +3 +((i:Nat):Int).toNat*1)=some (.slice L (b.au.getD i []).length V):=by rw [bp bM,vY (by rw [iF]; omega),oI ab]
 have cw:fR aP w.heap.size 0 aM (b.au.getD i []):=fR.md (eH.q<|eH.wk aH a1) a3 fun k A cur z h=>by subst A; rw [bL] at h; cases h
 refine aj 6 U<|p (jj lP U U ab)<|p (ax U<|cG)<|aN 5 U<|lp (fun ao b4 I=> ∃ (k:Nat) (us:List (Bool×ag)),(k≤(b.au.getD i []).length)∧(us.length=(b.au.getD i []).length)∧(bj I C.heap.size 81 2 (.slice L (b.au.getD i []).length V) (b.au.getD i []).length<|fA us)∧(fR I w.heap.size k us<|b.au.getD i [])∧(I.heap[E]? =some (.cells ([aB (b.least),str b.tr,.slice J b.cZ.length M]++ws.set i (.slice L (b.au.getD i []).length V)).toArray 44 (0,0)))∧(Md (fun k=>k=E) C I)∧(Sl b4 [(0,aU aL),(2,aU aY),(3,aU E),(4,aB i),(17,aB i),(32,aB ((b.au.getD i []).length)),(33,aB k)])∧((b.au.getD i []).length - k=ao)) _ ⟨0,aM,ab,aH.1,cV,cw,bM,ct,U,U⟩ ?_;rintro ao b4 I ⟨k,us,A,c2,aK,bd,bi,ak,c1,rfl⟩;refine bF c1<|bT 6 U<|cd U (fun cE=> ?_) fun cE=> ?_;refine bS 10 U ?_;have bP:ay I.heap E (0 +3 +((i:Nat):Int).toNat*1)=some (.slice L (b.au.getD i []).length V):=by rw [bp bi,vY (by rw [iF]; omega),oI ab]
 have bH:=(bU aK).2;obtain ⟨q,bq⟩:∃ q,us[k]? =some q:=⟨_,bt ab⟩
 have bl:(b.au.getD i [])[k]? =some (aD (b.au.getD i []) k):=LF ab;have bW:=aV.ok bH<|oE (f:=fun q:Bool×ag=> [bD q.1,q.2]) (m:=2) (fun _=>rfl) aF ab;obtain ⟨cX,bX,_⟩:=bd.2 k q _ bq bl;generalize bO:(aD (b.au.getD i []) k).2=es at bX;obtain ⟨bx,bA,c4,cm,cM⟩:=Tg.parts (w:=I) (B:=0) (e:=84) (n:=es.length) (xs:=e9 es) bX (m:=2) (Ao _) aF;have dd:es.length≤256:=by rw [← bO]; exact (aC.au _<|jP<|by rw [aC.qL]; omega).2.2 _ (j5 bl) |>.1
 have cI:ay I.heap (bk L) (fo L+k*2 +1)=some (.slice bx es.length bA):=by
  rw [lX (f:=fun q:Bool×ag=> [bD q.1,q.2]) (m:=2) (fun _=>rfl) bH bq 1 ab,← c4]; rfl
 refine sR 16 fun O=>dJ [0,1] U O<|iO 2 U (jj lP U U ab) O<|jZ 3 U O (bP)<|dJ [4,5,6] U O<|iO 7 U (jj lP U U ab) O<|jZ 8 U O (bP)<|dJ [9] U O<|iO 10 U (bG lW U U ab<|bW) O<|dJ [11] U O<|jZ 12 U O (cI)<|ei 13 U ai<|ba (GA bx es.length bA (e9 es) I.drew (cm.wk (Md.refl _ _).drew) (Ao _) cM (Hr _) ab) U ?_;rintro a5 bv ⟨bR,ap⟩;have dq:=ap.size;have bh:(fun w'=>Wk I w') bv:=O.trans ap;refine ⟨bh,?_⟩;refine ei 14 U ai<|gV (bG lW U U ab<|bW) ⟨bh,?_⟩;refine ei 15 U ai<|gV (fa H7 U) ⟨bh,?_⟩;refine jk 16 U ai ai<|ni (j:=k*2 +1) (u:=a5) (bg aK<|Md.de ap) zX U U (xm bR) (by rw [pO]; omega) ab fun b0 aE bQ=> ?_;have dg:=aE.size;have bZ:∀ k,(cz L (b.au.getD i []).length V).ownBlock=some k→C.heap.size≤k:=fun k h=>(cy aK h).1;have a7:Wk I bv:=Md.de ap;have cu:Md (fun k=>k=E) C b0:=(ak.trans<|a7.mono fun _ _ h=>h.elim).trans' aE fun k A h=>by have :=bZ k h; omega
 have cB:Tg bv w.heap.size 84 es.length a5 (e9 es):=(Tg.oS bR).mono<|by have :=av.size; have :=ak.size; show w.heap.size≤I.heap.size; omega
 have bY:=gP (e':=84) (bg aK a7) aF;have cv:fR b0 w.heap.size (k+1) (us.set k (q.1,a5)) (b.au.getD i []):=fR.set (fR.md (fR.md bd a7 fun _ h=>h.elim) aE bY) bl cX<|by rw [bO]; exact Tg.kW cB aE fun k A _=>bY k A
 exact jl ai<|bf 6 U<|tn<|⟨_,ab,k+1,us.set k (q.1,a5),ab,(by rw [iF]; exact c2),(by rw [C0 _ _ _ ab,show us.getD k (false,.nilFunc)=q from by rw [cn,bq]; rfl] at bQ; exact bQ),cv,(aE.an (Wk.an ap bi) fun h=>by have :=bZ E h; omega),cu,U,U⟩
 refine aG 2 U<|b9<|dn 3 U ?_;obtain rfl :k=(b.au.getD i []).length:=ab;have cq:Wk w I:=av.trans' ak fun k A h=>by omega
 have cN:∀ j,j < i+1→eY I w.heap.size ((ws.set i<|.slice L (b.au.getD i []).length V).getD j .nilFunc) (b.au.getD j []):=fun j al=>by
  by_cases h:j=i;subst h;rw [oI ab];refine ⟨us,?_,fR.p bd⟩;have :=Tg.oS<|me aK (show w.heap.size≤C.heap.size from av.size);exact this;rw [qz ab];exact (am j ab).md ak fun k A hb cur z=>by subst A; rw [aI]; exact ⟨by simp,by simp⟩
 exact aG 4 U<|tn<|⟨_,ab,i+1,ws.set i (.slice L (b.au.getD i []).length V),ab,(by rw [iF]; exact br),bi,(ak.an aZ fun h=>by omega),(bN a4 ak fun k A h=>gP a4 aF k A _ _<|h ▸ aI),cN,(fun j h1 b5=>by rw [qz ab]; exact hold j ab b5),cq,(by have :=ak.size; omega),U,U⟩
 refine aG 2 U<|b9<|dn 3 U ?_;obtain rfl :i=4:=ab;obtain ⟨Z,ac,ad,ae,rfl⟩:=four br;have c6:Z.oneCell'=true :=by obtain ⟨a,c,h,_⟩:=(am 0 ab).eG; rw [show Z=_ from h]; rfl
 have c7:ac.oneCell'=true :=by obtain ⟨a,c,h,_⟩:=(am 1 ab).eG; rw [show ac=_ from h]; rfl
 have c8:ad.oneCell'=true :=by obtain ⟨a,c,h,_⟩:=(am 2 ab).eG; rw [show ad=_ from h]; rfl
 have c9:ae.oneCell'=true :=by obtain ⟨a,c,h,_⟩:=(am 3 ab).eG; rw [show ae=_ from h]; rfl
 refine aJ 1 U<|p (fg kH U (U) (show ∀ j,j < 7→ay C.heap E (0 +j)=([aB (b.least),str b.tr,.slice J b.cZ.length M,Z,ac,ad,ae]:List ag)[j]? from fun j al=>by rw [cH,bp aI]; simp))<|e<|dZ lS U U U (by simp only [pP,uk,c6,c7,c8,c9]; rfl) aZ aF fun a6 a8 b7=> ?_;have co:Wk w a6:=av.trans' a8 fun k A h=>by omega
 have cr:lL a6 w.heap.size [aB (b.least),str b.tr,.slice J b.cZ.length M,Z,ac,ad,ae] b:=⟨J,M,[Z,ac,ad,ae],rfl,rfl,(bU<|bN a4 a8 fun k A h=>gP a4 aF k A _ _<|h ▸ aZ).2,fun j al=>(am j al).md a8 fun k A hb cur z=>by subst A; rw [aZ]; exact ⟨by simp,by simp⟩⟩
 have b8:aA a6.heap aY [aB (b.least),str b.tr,.slice J b.cZ.length M,Z,ac,ad,ae]:=⟨_,b7⟩
 exact az 3 U<|qx U (iq (cs:= [aB (b.least),str b.tr,.slice J b.cZ.length M,Z,ac,ad,ae]) U kH U fun j al=>b8.aO j)<|⟨[aB (b.least),str b.tr,.slice J b.cZ.length M,Z,ac,ad,ae],U,cr,co⟩
end Go.Hb.jy
end
section
namespace Go.Hb
open Go.Hb.dO
open Go.Hb.cQ Go.Hb.jy Go.Hb.fE Go.Hb.gF
theorem Kr {es:List (UInt8×Int)} (hr:dP es) {m k:Nat} {d e:UInt8×Int} {x:Nat} (C:es[m]? =some d) (h:d.1.toNat < x) (I:k≤m) (he:es[k]? =some e):e.1.toNat < x:=by
 obtain ⟨h1,rfl⟩:=cB.1 C;obtain ⟨A,rfl⟩:=cB.1 he;by_cases E:k=m
 · subst E; exact h
 · have :=n4.1 hr k m A h1 ab;omega
theorem Kq {es:List (UInt8×Int)} (hr:dP es) {m k:Nat} {d e:UInt8×Int} {x:Nat} (C:es[m]? =some d) (h:x≤d.1.toNat) (I:m≤k) (he:es[k]? =some e):x≤e.1.toNat:=by
 obtain ⟨h1,rfl⟩:=cB.1 C;obtain ⟨A,rfl⟩:=cB.1 he;by_cases E:m=k
 · subst E; exact h
 · have :=n4.1 hr m k h1 A ab;omega
theorem Ax {l:List aM} {least:Nat} {x:List UInt8} {i k:Nat} :(jh l least x i k).length≤k - i:=by
 unfold jh;exact cG (E5 _ _)<|by rw [List.length_range']; exact aQ _
theorem Co (A:UInt8×Int) (c:UInt8) (w:ah):
 bo ar 86 (bB [.agg #[.int .u8 A.1.toNat,.int .i64 A.2],.int .u8 c.toNat]) w (fun v w'=>v= .int .i64 ((A.1.toNat:Int) - (c.toNat:Int))∧Wk w w'):=by
 have L:=kF A.1;have I:=kF c;exact enter func86 U ntmps86 U<|aW 2 U<|e<|oo U fun J M I E C=>aj 6 U<|p (ax U<|C.aO 0)<|p (fH u3 q9 U<|gU ab)<|aj 1 U<|p (fH u3 q9 U<|gU ab)<|az 5 U<|aR U<|⟨U,E.md⟩
theorem F6 (a:Option bl) (c:Nat) (es:List (UInt8×Int)) (x:UInt8) (w:ah) (J:lM w.heap a es) (hr:dP es) (ax:es.length≤256):
 bo ar 85 (bB [.slice a es.length c,.int .u8 x.toNat,.func (.func 86) #[] #[]]) w (fun v w'=>(∃ r:Nat,v= .tuple #[aB r,.bool (decide (eF x es < es.length))]∧(eF x es < es.length→r=eF x es))∧Wk w w'):=by
 refine enter func85 U ntmps85 U<|bT 22 U<|lp (fun O ak M=> ∃ (i j:Nat),(i≤j)∧(j≤es.length)∧(∀ (k:Nat) e,k < i→es[k]? =some e→e.1.toNat < x.toNat)∧(∀ (k:Nat) e,j≤k→es[k]? =some e→x.toNat≤e.1.toNat)∧(Wk w M)∧(Sl ak [(0,.slice a es.length c),(1,.int .u8 x.toNat),(2,.func (.func 86) #[] #[]),(8,aB (es.length)),(9,aB i),(10,aB j)])∧(j - i=O)) _ ⟨0,es.length,ab,ab,(fun k e h=>by omega),(fun k e h he=>by have :=(cB.1 he).1; omega),(Md.refl _ _),U,U⟩ ?_;rintro O ak M ⟨i,j,av,aw,ae,Z,C,au,rfl⟩;refine bF au<|bT 8 U<|cd U (fun am=> ?_) fun am=> ?_;refine aJ 7 U<|p (cg<|i+j)<|p (fH L0 tR U<|gz ab)<|p (shr U U aF<|La<|i+j)<|p (fH u3 Mc U<|gU ab)<|aN 4 U ?_;obtain ⟨A,E⟩:∃ d,es[(i+j) / 2]? =some d:=⟨_,bt ab⟩
 refine aJ 4 U<|p (bG oD U U ab<|J.ok ab)<|p (fg rW U (U)<|(J.wk C).two E)<|aj 1 U<|e<|zK eD U (Co A x M) U ?_;rintro v30 aA ⟨rfl,V⟩;refine aN 3 U<|cd U (fun an=> ?_) fun an=> ?_;exact aJ 2 U<|p (cg<|(i+j) / 2 +1)<|az 3 U<|tn<|⟨_,ab,(i+j) / 2 +1,j,ab,ab,(fun k e ad he=>Kr hr E ab ab he),Z,(C.trans V),U,U⟩
 exact aG 5 U<|tn<|⟨_,ab,i,(i+j) / 2,ab,ab,ae,(fun k e ad he=>Kq hr E ab ad he),(C.trans V),U,U⟩
 refine aG 2 U<|b9<|dn 3 U ?_;obtain rfl :i=j:=ab;have L:=IF hr ae Z;refine aJ 6 U<|gs (t:=39) U (fun ap=> ?_) fun ap=> ?_;obtain ⟨A,E⟩:∃ d,es[i]? =some d:=⟨_,bt ab⟩
 refine aj 3 U<|bO U (bG oD U U ab<|J.ok ab)<|bO U (fg rW U (U)<|(J.wk C).two E)<|aj 1 U<|eg U U U<|zK eD U (Co A x M) U ?_;rintro ay aC ⟨rfl,al⟩;refine az 7 U<|f2 U U U ?_;have ao:es.getD i (0,0)=A:=by rw [cn,E]; rfl
 rw [ao] at L;have ac:i < es.length:=ab;have ai:A.1=x→eF x es=i:=fun h=>L.1 ⟨ac,h⟩;have ag:A.1≠x→eF x es=es.length:=fun h=>L.2 fun I=>h I.2;have hb:decide ((A.1.toNat:Int) - (x.toNat:Int)=0)=decide (eF x es < es.length):=by
  by_cases h:A.1=x;rw [ai h,decide_eq_true ac,h]; exact decide_eq_true ab;rw [ag h,decide_eq_false (Fh _)];exact decide_eq_false fun e=>h<|UInt8.toNat_inj.1 ab
 refine ⟨⟨i,by rw [← hb]; rfl,fun h=> ?_⟩,C.trans al⟩;by_cases I:A.1=x;exact (ai I).symm;rw [ag I] at h; omega;refine aj 10 U<|p aT<|az 3 U<|f2 U U U ?_;have hn:eF x es=es.length:=L.2 fun h=>by omega
 exact ⟨⟨i,by rw [hn,decide_eq_false (Fh _)]; rfl,fun h=>by omega⟩,C⟩
theorem Kd (a:Option bl) (c:Nat) (l:List aM) (x:List UInt8) (i least:Nat) (w:ah) (ay:eA w.heap a l) (aS:j7 l) (h0:0 < l.length) (hr:∀ n,n < l.length→dP (aD l n).2) (bn:x.length≤1024) (hi:i≤x.length) (hle:least≤64):
 bo ar 46 (bB [.slice a l.length c,str x,aB i,aB least]) w (fun v w'=>bj w' w.heap.size 3 1 v (jE (aI l least x) x.length i).length ((jE (aI l least x) x.length i).map nv)∧Wk w w'):=by
 refine enter func46 U ntmps46 U<|bT 23 U<|lp (fun av aF M=> ∃ (k q:Nat) (C:ag),(i≤k)∧(k≤x.length)∧(gK l (cq x i k)=some q)∧(q < l.length)∧(bj M w.heap.size 3 1 C (jh l least x i k).length<|(jh l least x i k).map nv)∧(eA M.heap a l)∧(Wk w M)∧(Sl aF [(0,.slice a l.length c),(1,str x),(2,aB i),(3,aB least),(9,C),(10,aB q),(11,aB k)])∧(x.length - k=av)) _ ⟨i,0,.slice none 0 0,ab,hi,(by rw [GP]; rfl),h0,(by rw [Hu]; exact eT _ _ _ _),ay,(Md.refl _ _),U,U⟩ ?_;rintro av aF M ⟨k,q,C,O,bm,aC,au,I,E,J,a5,rfl⟩;refine bF a5<|bT 9 U<|cd U (fun aX=> ?_) fun aX=> ?_;refine bS 5 U ?_;obtain ⟨aL,aO,aA,ae⟩:=E.two au;obtain ⟨a2,a3⟩:=aS.st au;refine fJ fun L=>aH [0,1] U L<|dj 2 U (bG lW U U ab<|E.ok ab) L<|aH [3] U L<|di 4 U L (aA 1 ab)<|aH [5,6] U L<|dj 7 U (fV u9 U U ab) L<|he 8 U ai<|ba (F6 aL aO (aD l q).2 (x.getD k 0) M.drew ae (hr q au) a2) U ?_;rintro v30 a9 ⟨⟨br,rfl,a4⟩,A⟩;have A:=Md.de A;have al:(fun w'=>Wk M w') a9:=A;refine ⟨al,?_⟩;refine dj 9 U (mv) al<|aH [10,11,12,13] U al<|hn ai<|dn 8 U<|cb U (fun am=> ?_) fun am=> ?_;have V:¬eF (x.getD k 0) (aD l q).2 < (aD l q).2.length:=by simpa using am
 refine aG 4 U<|b9<|gn 4 U<|tg (C)<|p (zo (C) U)<|az 3 U<|aR U ?_;have hn:gK l (cq x i<|k+1)=none:=by
  rw [Bg O ab,aC];show gN l q (x.getD k 0)=none;unfold gN;rw [if_neg V]
 rw [Av O ab (.inr hn)] at I;exact ⟨bg I A,J.trans A⟩;have V:eF (x.getD k 0) (aD l q).2 < (aD l q).2.length:=by simpa using am
 obtain rfl :=a4 V;refine bS 3 U ?_;obtain ⟨⟨aK,z⟩,he⟩:∃ e,(aD l q).2[eF (x.getD k 0) (aD l q).2]? =some e:=⟨_,bt V⟩
 obtain ⟨a6,a7⟩:=a3 _ _ he;obtain ⟨m,rfl⟩:∃ m:Nat,z=(m:Int):=⟨z.toNat,by simp only at a6; omega⟩
 simp only at a7;have ad:m < l.length:=ab;obtain ⟨bd,bf,aW,_⟩:=E.two ad;have ac:gK l (cq x i<|k+1)=some m:=by
  rw [Bg ab ab,aC];show gN l q (x.getD k 0)=_;unfold gN;rw [if_pos V,cn,he]; rfl
 have ao:=Ka (least:=least) O ab ac;have an:=Aw (l:=l) (least:=least) (w:=x) O;refine aJ 3 U<|p (bG lW U U ab<|E.ok ab)<|aj 1 U<|p (ax U<|(px A aA) 1 ab)<|aj 1 U<|p (bG oD U U ab<|ae.ok ab)<|aj 1 U<|p (ax U (show _=some (a0 .i64 ((m:Nat):Int)) from (ae.wk A).to _ (aK,_) he))<|aj 7 U<|p (bG lW U U ab<|E.ok ab)<|aj 1 U<|p (ax U<|(px A aW) 0 ab)<|aj 1 U<|gb (t:=49) U (fun Z=> ?_) fun Z=> ?_;refine aj 1 U<|bO U (cg<|k+1)<|aj 1 U<|bO U (pb<|k+1 - i)<|aN 5 U<|cd U (fun aY=> ?_) fun aY=> ?_;refine aJ 1 U<|tg (C)<|aj 1 U<|p (cg<|k+1)<|e<|jD tK U U fun bc bu bh ak aP=> ?_;have bp:=ak.size;have aE:=bg (bg I A) ak.md;refine e<|ap tK (aE) U (by have :=J.size; have :=A.size; omega) U (aV.fL aP) (U) (U) (by have :=Ax (l:=l) (least:=least) (x:=x) (i:=i) (k:=k); omega) (by have :=Ax (l:=l) (least:=least) (x:=x) (i:=i) (k:=k); omega) fun a8 bb a1 aU bq bi=> ?_;have aw:Wk w bb:=Wk.own ((J.trans A).trans ak.md) aE aU<|aQ _;exact p aT<|aj 5 U<|p (cg<|k+1)<|az 2 U<|tn<|⟨_,ab,k+1,m,a8,ab,ab,ac,ad,(by rw [an,if_pos (show aI l least x i (k+1)=true from by rw [ao,Z,rl]; exact decide_eq_true ab),bK,gD]; exact a1),(ay.wk aw),aw,U,U⟩
 exact aJ 5 U<|p (cg<|k+1)<|az 2 U<|tn<|⟨_,ab,k+1,m,C,ab,ab,ac,ad,(by rw [an,if_neg (show ¬aI l least x i (k+1)=true from by rw [ao,Z,rl]; exact fun h=>absurd (of_decide_eq_true h) ab),js]; exact bg I A),(E.wk A),(J.trans A),U,U⟩
 exact aj 15 U<|p (cg<|k+1)<|az 2 U<|tn<|⟨_,ab,k+1,m,C,ab,ab,ac,ad,(by rw [an,if_neg (show ¬aI l least x i (k+1)=true from by rw [ao,Z,Bool.false_and]; exact c9),js]; exact bg I A),(E.wk A),(J.trans A),U,U⟩
 refine aG 2 U<|b9<|gn 4 U<|tg (C)<|p (zo (C) U)<|az 3 U<|aR U ?_;have aZ:k=x.length:=ab;rw [Av O ab (.inl aZ)] at I;exact ⟨I,J⟩
end Go.Hb
end
