/-
  Walks and plain laws that the law rests on, laid together. No conditions but those that each theorem names.
-/
import Derived.Test.YtchkamdekbbgeaaGreatDoorMnAnalyseMakes6
set_option linter.unusedVariables false
set_option maxRecDepth 20000
set_option maxHeartbeats 1000000
open Array renaming getElem?_eq_none→p7,getElem?_eq_some_iff→bY,getElem?_modify→IT,getElem?_toList→uE
open Bool renaming false_eq_true→IY,noConfusion→dv,or_eq_true→sN
open Classical renaming byContradiction→uI
open Go.Calls renaming mono→jX
open Go.Instr renaming checkKey→nv,findAsking→qZ,findKey→q4,findNow→q5
open Go.Op renaming equalIn→o7
open Go.Proofs.SlLaysF0 renaming n6→Xw
open Go.Proofs.Tryz renaming prog→ao
open Go.Proofs renaming ltOf→uO
open Go.Result renaming andThen_ok→ny
open Go.Sem renaming run_bind→nz
open Go.Sort renaming ahead→uP,grow→Jn
open Go.Value renaming bool→bU,int→fG,oneCell'→eO,slice→bE
open Go.World renaming ownsRow→bq,ownsRow_nil→dS
open Int renaming toNat_natCast→jq
open List.Perm renaming refl→Jx
open List renaming any_eq_true→yd,append_nil→ep,drop_left→Jz,eq_nil_of_length_eq_zero→gx,filter_cons→qh,flatMap_cons→jr,getD_eq_getElem?_getD→cR,getElem?_eq_getElem→bW,getElem?_eq_some_iff→eQ,getElem?_map→fH,getElem?_take_of_lt→JH,getElem?_zip_eq_some→jg,length_append→bK,length_cons→bX,length_filter_le→o8,length_map→e8,length_nil→fZ,length_range→sX,length_singleton→iR,length_take→ee,map_append→iw,mem_append→js,mem_append_right→uY,mem_cons→eB,mem_cons_of_mem→oq,mem_cons_self→pc,mem_filter→sY,mem_filterMap→JL,mem_flatMap→pd,mem_map→gQ,mem_of_getElem?→fz,mem_of_mem_take→JN,mem_range→nG,mem_singleton→iS,of_mem_zip→JP,pairwise_cons→nH,pairwise_flatMap→Cz,pairwise_lt_range→yu,pairwise_map→yv,range→fI,take_add_one→CB,take_append_drop→vb,take_left→JR,take_length→JS,take_of_length_le→e9,toArray→ba
open Nat renaming add_le_add→JW,le_refl→cz,le_trans→ea,lt_succ_iff_lt_or_eq→pj,mul_add→vd,mul_comm→s7,mul_le_mul_right→ou,zero_add→fQ,zero_le→ki
open Nat.le renaming dest→Ka
open Option renaming bind_assoc→Kd,bind_eq_some_iff→ql,bind_some→pn,isSome_iff_exists→l9,map_eq_some_iff→ma
open Prod renaming fst→gk
open Go.Proofs.Tryz
open Go.Hb.dF Go.Proofs Go.Hb.et Go.Hb.ff Go.Hb.gR Go.Hb.fj Go.Hb.gI Go.Hb.iD Go.Hb.iT Go.Hb.jL Go.Hb.lD

section
namespace Go.Hb
noncomputable def ud (F:aC) (xs:List bj) (n f s p:Int):Option Tx:=if 0≤n∧n < xs.length then fM F xs n.toNat f s p else none
theorem S4 {F:aC} {xs:List bj} {n f s p:Int} (h:¬(0≤n∧n < xs.length)):ud F xs n f s p=none:=if_neg h
theorem sg {F:aC} {xs:List bj} {k:Nat} {f s p:Int} (h:k < xs.length):ud F xs k f s p=fM F xs k f s p:=by unfold ud; rw [if_pos ab,jq]
def lX (F:aC) (xs:List bj) (k:Nat) (f:Int):Nat→List Nat
 | 0=>aK F (flagsOf xs k) 2
 | 1=>aK F (bH F f) 2
 | _=>aK F (flagsOf xs k) 1
def oO (f s p:Int):Nat→Int
 | 0=>f
 | 1=>s
 | _=>p
noncomputable def jT (F:aC) (xs:List bj) (k:Nat) (f s p:Int):Nat→Option Tx
 | 0=>some (xs.getD k ([],[])).1
 | i+1=>(jT F xs k f s p i).bind<|fE F (lX F xs k f i)<|oO f s p i
section
variable {F:aC} {xs:List bj} {k:Nat} {f s p:Int}
theorem AI (h:f= -1∧s≠ -1):fM F xs k f s p=none:=if_pos h
theorem ug (h:¬(f= -1∧s≠ -1)):fM F xs k f s p=(jT F xs k f s p 3).bind fun u=>if eS F xs k f s p=true then some u else none:=by
 unfold fM
 rw [if_neg h]
 show _=(((some (xs.getD k ([],[])).1).bind<|fE F (aK F (flagsOf xs k) 2) f).bind (fE F (aK F (bH F f) 2) s) |>.bind (fE F (aK F (flagsOf xs k) 1) p)).bind _
 rw [pn,Kd,Kd]
theorem GJ {i:Nat} (h:jT F xs k f s p i=none):∀ j,jT F xs k f s p (i+j)=none
 | 0=>h
 | j+1=>by
   show (jT F xs k f s p<|i+j).bind _=none
   rw [GJ h j]; rfl
theorem Bv {L:List Nat} {n:Int} {u v:Tx} (a:∀ i∈L,i < F.rules.length) (c: -1≤n) (h:fE F L n u=some v):Rn F n:=by
 unfold fE at h
 unfold Rn
 by_cases h1:n= -1
 · exact .inl h1
 · rw [if_neg h1] at h
   by_cases h2:n.toNat∈L
   · have :=a _ h2; omega
   · rw [if_neg h2] at h; cases h
theorem VK {L:List Nat} {n:Nat} {u:Tx} (h:n∈L):fE F L n u=dp (F.rules.getD n dd) u:=by unfold fE; rw [if_neg ab,jq,if_pos h]
theorem VM {L:List Nat} {n:Nat} {u:Tx} (h:n∉L):fE F L n u=none:=by unfold fE; rw [if_neg ab,jq,if_neg h]
theorem ue (i:Nat):∀ j∈lX F xs k f i,j < F.rules.length:=by
 intro j a
 unfold lX at a
 split at a <;> exact (my.1 a).1
theorem S5 (i:Nat):(lX F xs k f i).length≤F.rules.length:=by
 unfold lX
 split <;> exact si _ _ _
theorem GK {u:Tx} (a: -1≤f) (hs: -1≤s) (hp: -1≤p) (h:jT F xs k f s p 3=some u):Rn F f∧Rn F s∧Rn F p:=by
 obtain ⟨q,h2,h3⟩:=ql.1 (show (jT F xs k f s p 2).bind _=some u from h)
 obtain ⟨c,h1,h2⟩:=ql.1 (show (jT F xs k f s p 1).bind _=some q from h2)
 obtain ⟨A,_,h1⟩:=ql.1 (show (jT F xs k f s p 0).bind _=some c from h1)
 exact ⟨Bv (ue 0) a h1,Bv (ue 1) hs h2,Bv (ue 2) hp h3⟩
end
theorem VL {F:aC} {xs:List bj} (c:dW F xs) {L:List Nat} {n:Int} {u v:Tx} (q:∀ i∈L,i < F.rules.length) (h:fE F L n u=some v):v.length≤u.length+32:=by
 unfold fE at h
 by_cases h1:n= -1
 · rw [if_pos h1] at h; cases h; omega
 · rw [if_neg h1] at h
   by_cases h2:n.toNat∈L
   · rw [if_pos h2] at h
     obtain ⟨r,a⟩:∃ r,F.rules[n.toNat]? =some r:=⟨_,bW<|q _ h2⟩
     rw [cR,a] at h
     exact (rH (il c a).2.2.2 h).2
   · rw [if_neg h2] at h; cases h
def He (p:Value×Value):List Value:= [p.1,p.2]
theorem RB (a:Option Addr) (c:Nat) (l:List Nat) (x:Nat) (w:World) (E:aG w.heap a (l.map fA)) (av:l.length≤1048576):
 bf ao 144 (ba [.slice a l.length c,aj x]) w (fun v w'=>(∃ k:Int,v= .int .i64 k∧(0≤k↔x∈l)∧ -1≤k∧k≤1048576)∧Wk w w'):=by
 refine enter func144 aa ntmps144 aa<|ak fun O=>ay<|O<|az fun V=>ak fun Y=>au (.slice a l.length c)<|p (bP oQ aa aa)<|p mv<|nl<|Y<|aB<|lp (fun C q M=> ∃ (i:Nat),(i≤l.length)∧(∀ j,j < i→l.getD j 0≠x)∧(M=w)∧(q 0= .slice a l.length c)∧(q 1=aj x)∧(q 7=aj (l.length))∧(q 8=aj i)∧(l.length - i=C)) _ ⟨0,ab,(fun j I=>by omega),aa,aa,aa,aa,aa,aa⟩ ?_
 rintro C q M ⟨i,hi,J,ai,am,an,ap,aq,rfl⟩
 refine fx 0 am<|fx 1 an<|fx 7 ap<|fx 8 aq ?_
 subst ai
 refine ak fun Z=>p (lt aa aa)<|nl<|Z<|az fun ac=>cd aa (fun al=> ?_) fun al=> ?_
 refine aR<|ac<|az fun A=>aB<|ak fun ae=>au (aj i)<|p (cj (aj i) aa)<|nl<|ae<|ak fun ag=>au (aj x)<|au (.slice a l.length c)<|au (aj i)<|p (bd oH aa aa ab<|aG.ok (E)<|db ab)<|p (ld bO aa<|aG.jk E (show (l.map fA)[i]? =some (aj<|l.getD i 0) by rw [fH,cR,bW (by omega :i < l.length)]; rfl)) ?_
 refine p (cw aa aa)<|nl<|ag<|cd aa (fun G=> ?_) fun G=> ?_
 exact ak fun ah=>au (aj i)<|p (cj (aj i) aa)<|nl<|ah<|rt<|br<|tr<|tr<|br<|tr<|bc aa<|⟨⟨(i:Nat),aa,⟨fun _=>by obtain rfl :x=l.getD i 0:=ab; exact eZ ab,fun _=>by omega⟩,ab,ab⟩,Md.refl _ _⟩
 exact aR<|bn<|A<|rg aa<|p (ad aa aa<|cC ab)<|p mv<|nl<|tn<|⟨_,ab,i+1,ab,(fun j I=>by rcases Nat.lt_or_ge j i with h | h <;> first | exact J j h | (rw [show j=i by omega]; exact fun h2=>G<|by rw [h2])),aa,aa,aa,aa,aa,aa⟩
 exact ext<|bh<|bh<|be<|V<|ak fun A=>p aE<|nl<|A<|rt<|bc aa<|⟨⟨-1,aa,⟨fun h=>absurd h ab,fun h=>by obtain ⟨j,I,e⟩:=oN 0 h; exact absurd e<|J j ab⟩,ab,ab⟩,Md.refl _ _⟩
theorem Ob (a:Option Addr) (c:Nat) (l:List Nat) (x:Nat) (w:World) (C:aG w.heap a (l.map fA)) (I:l.length≤1048576):
 bf ao 88 (ba [.slice a l.length c,aj x]) w (fun v w'=>v= .bool (decide (x∈l))∧Wk w w'):=by
 refine enter func88 aa ntmps88 aa<|ak fun q=>ay<|q<|ak fun A=>au (.slice a l.length c)<|au (aj x)<|e<|cl LM (RB a c l x w C I) aa fun O V E=> ?_
 obtain ⟨⟨J,rfl,G,M⟩,hE7⟩:=E
 exact p (ge aa aa)<|ay<|A<|rt<|bc aa<|⟨by show bU (decide (J≥0))=_; exact congrArg bU (decide_eq_decide.2 G),hE7⟩
theorem VN (F:aC) (xs:List bj) (G:dW F xs) (ar:Option Addr) (cr:Nat) (rn:List Value) (a:Option Addr) (c:Nat) (L:List Nat) (n:Int) (u:Tx) (w:World) (J:aG w.heap ar (fX<|F.rules.zip rn)) (ap:rn.length=F.rules.length) (ae:aG w.heap a (L.map fA)) (aj:∀ i∈L,i < F.rules.length) (ai:L.length≤1048576) (au: -1≤n) (av:u.length≤1048576):
 bf ao 48 (ba [.slice ar F.rules.length cr,.slice a L.length c,.int .i64 n,str u]) w (fun v w'=>v=xd (fE F L n u)∧Wk w w'):=by
 refine enter func48 aa ntmps48 aa<|ak fun V=>p aE<|ay<|V<|az fun Y=>az fun Z=>rg aa<|p mv<|p (cw aa aa)<|nl<|Z<|cd aa (fun h1=> ?_) fun h1=> ?_
 obtain rfl :n= -1:=h1
 exact ak fun C=>p mv<|p aE<|ay<|C<|rt<|tr<|f2 aa aa aa<|⟨by rw [uy]; rfl,Md.refl _ _⟩
 obtain ⟨m,rfl⟩:∃ m:Nat,n=(m:Int):=⟨n.toNat,ab⟩
 refine aR<|Y<|az fun C=>ak fun ac=>p mv<|p mv<|e<|cl MW (Ob a c L m w ae ai) aa fun aw aq ag=> ?_
 obtain ⟨rfl,A⟩:=ag
 refine p (no aa)<|nl<|ac<|cb aa (fun I=> ?_) fun I=> ?_
 have al:m∉L:=by simpa using I
 exact ak fun E=>p aE<|ay<|E<|rt<|tr<|f2 aa aa aa<|⟨by rw [VM al]; rfl,A⟩
 have M:m∈L:=by simpa using I
 obtain ⟨r,q⟩:∃ r,F.rules[m]? =some r:=⟨_,bW<|aj m M⟩
 have an:=(eQ.1 q).1
 have O:(F.rules.zip rn)[m]? =some (r,rn[m]'(by rw [ap]; exact an)):=jg.2 ⟨q,bW _⟩
 have am:F.rules.getD m dd=r:=by rw [cR,q]; rfl
 refine aR<|C<|ak fun E=>p mv<|p mv<|p (bd ky aa aa ab<|aG.ok (J.wk A)<|kV O)<|p (cg ju aa (aa)<|gr (f:=dC) (m:=7) (fun _=>rfl) (J.wk A) O)<|p mv<|e<|cl vI (vy r _ u aq (il G q).1 (il G q).2.1 (il G q).2.2.1 ab) aa fun v22 ax ah=> ?_
 obtain ⟨rfl,ad⟩:=ah
 exact p (xt aa aa)<|p (xt aa aa)<|p aE<|ay<|E<|rt<|f2 aa aa aa<|⟨by rw [VK M,am]; rfl,A.trans ad⟩
theorem Gz (B tb:Nat) (U:ej) (F:aC) (xs:List bj) (bi:Tx) (n f s a:Int) (w:World) (bK:dT w B tb U F xs) (E:dW F xs) (cN: -1≤f) (c4: -1≤s) (cX: -1≤a):
 bf ao 25 (ba [aU tb,.agg [str bi,.int .i64 n,.int .i64 f,.int .i64 s,.int .i64 a].toArray]) w (fun v w'=>v=xd (ud F xs n f s a)∧Wk w w'):=by
 refine enter func25 aa ntmps25 aa<|ak fun b3=>e<|iJ aa fun aO b0 a1 aV cm=> ?_
 have ds:=aV.size
 have cG:=bK.wk aV.md
 have a1:bD b0.heap aO [str bi,.int .i64 n,.int .i64 f,.int .i64 s,.int .i64 a]:=cm
 refine p aE<|ay<|b3<|ak fun b6=>p mv<|p (fa oJ aa)<|p (ld bO aa<|a1.bp 1)<|e<|cl rM (tG B tb U F xs n b0 cG E) aa fun dv de cz=> ?_
 obtain ⟨⟨dg,rfl,cV⟩,hE16⟩:=cz
 obtain ⟨cc,ch,rfl⟩:=cT cV
 have dr:=hE16.size
 refine p mv<|p (xt aa aa)<|p (xt aa aa)<|e<|al oX fun bq dA bS bG cn=> ?_
 have du:=bG.size
 refine e<|cM jv aa aa aa aa (cn) (by simp) fun bl bE ck=> ?_
 have cv:Wk de bl:=bG.md.trans' bE fun q cY h=>by omega
 have dp:=bE.size
 have bS:bD bl.heap bq [str (iL xs n),.slice cc (flagsOf xs n).length ch]:=ck
 have bz:=hE16.trans cv
 have ad:=aV.md.trans bz
 have aF:=bK.wk ad
 have a2:=Wk.B bz a1
 refine ay<|b6 ?_
 refine e6 (fun aJ bk=>(bk=bl)∧(0≤n∧n < xs.length)∧(¬(f= -1∧s≠ -1))∧(aJ 0=aU tb)∧(aJ 3=aU aO)∧(aJ 6=aU bq)) ?_ ?_
 refine ak fun an=>p mv<|p (no aa)<|p mv<|gb (t:=21) aa (fun aq=> ?_) fun aq=> ?_
 have cW:¬(0≤n∧n < xs.length):=fun h=>by rw [decide_eq_true h] at aq; cases aq
 exact aT aa<|aT aa<|aT aa<|aT aa<|fN aa<|fN aa<|fN aa<|aT aa<|p (bR aa)<|nl<|an<|ct aa<|ak fun ap=>p aE<|p aE<|nl<|ap<|rt<|tr<|f2 aa aa aa<|⟨by rw [S4 cW]; rfl,ad⟩
 have a9:0≤n∧n < xs.length:=uI fun h=>by rw [decide_eq_false h] at aq; cases aq
 refine aY aa (fa lP aa)<|aY aa (ld bO aa<|a2.bp 2)<|aY aa (cw aa aa)<|aY aa mv<|gs (t:=25) aa (fun a4=> ?_) fun a4=> ?_
 refine aY aa (fa lQ aa)<|aY aa (ld bO aa<|a2.bp 3)<|aY aa (gE aa aa)<|aY aa (bR aa)<|p (bI aa)<|nl<|an<|cd aa (fun bc=> ?_) fun bc=> ?_
 refine ak fun ap=>p aE<|ay<|ap<|rt<|tr<|f2 aa aa aa ?_
 obtain ⟨k,rfl⟩:∃ m:Nat,n=(m:Int):=⟨n.toNat,ab⟩
 exact ⟨by rw [sg ab,AI ⟨a4,bc⟩]; rfl,ad⟩
 exact aR<|tn<|⟨aa,a9,(fun h=>bc h.2),aa,aa,aa⟩
 exact aT aa<|aT aa<|aT aa<|aY aa (bI aa)<|p (bI aa)<|nl<|an<|cf aa<|aR<|tn<|⟨aa,a9,(fun h=>a4 h.1),aa,aa,aa⟩
 rintro aJ bk ⟨dc,a9,a5,c1,c2,c3⟩
 refine fx 0 c1<|fx 3 c2<|fx 6 c3 ?_
 subst dc
 refine ak fun an=>au (aU tb)<|p (nc aa)<|p (fa tM aa)<|p (ld eX aa<|(a7 aF.cells).trans aa)<|e<|cl tw (tg B U.fb U.mc F U.V bk aF.fl (by have :=E.len; omega) E.nx) aa fun v35 I cA=> ?_
 obtain ⟨⟨⟨v9,v10,v11,v12,sa,rn⟩,rfl,hax⟩,hE35⟩:=cA
 obtain ⟨ar,cr,bg⟩:=cT hax.eo
 have bg:v12=_:=bg
 subst bg
 have dt:=hE35.size
 have bY:rn.length=F.rules.length:=by have :=hax.nx.1; rwa [e8] at this
 have bx:aG I.heap ar (fX<|F.rules.zip rn):=(a6 hax.eo).2
 have Y:=Wk.B hE35 a2
 have cK:=Wk.B hE35 bS
 have bM:=(aF.wk hE35).wk (Md.refl _ _).drew
 refine p (zI zJ aa aa)<|ay<|an<|ak fun ap=>p (fa wx aa)<|p (ld cH aa<|cK.bp 0)<|ay<|ap<|az fun b7=>az fun b8=> ?_
 have c:(fun w'=>Wk I w') I.drew:=(Md.refl _ _).drew
 refine bT (fun w'=>Wk I w') aa wide c<|bQ 0 aa (aU tb) c<|aH 1 aa (fun _ _=>fa oJ aa) c<|aH 2 aa (fun w' G=>ld bO aa<|Wk.aM G<|Y.bp 1) c<|aH 4 aa (fun _ _=>fa lP aa) c<|aH 5 aa (fun w' G=>ld bO aa<|Wk.aM G<|Y.bp 2) c<|bQ 7 aa (aU tb) c<|aH 8 aa (fun _ _=>fa lP aa) c<|aH 9 aa (fun w' G=>ld bO aa<|Wk.aM G<|Y.bp 2) c<|aH 11 aa (fun _ _=>fa lQ aa) c<|aH 12 aa (fun w' G=>ld bO aa<|Wk.aM G<|Y.bp 3) c<|bQ 14 aa (aU tb) c<|aH 15 aa (fun _ _=>fa oJ aa) c<|aH 16 aa (fun w' G=>ld bO aa<|Wk.aM G<|Y.bp 1) c<|aH 18 aa (fun _ _=>fa nS aa) c<|aH 19 aa (fun w' G=>ld bO aa<|Wk.aM G<|Y.bp 4) c<|aH 23 aa (fun _ _=>mv) c<|he 3 aa ag<|cl DL (HV B tb U F xs n I.drew bM E) aa fun dw b1 cB=> ?_
 obtain ⟨bU,aP⟩:=cB
 obtain ⟨Z,ae,rfl⟩:=cT bU
 have bN:=bM.wk aP
 have aZ:(fun w'=>Wk I w') b1:=c.trans aP
 refine ⟨aZ,?_⟩
 refine aH 6 aa (fun _ _=>di (ps:= [(0,.slice Z (aK F (flagsOf xs n) 2).length ae),(1,.int .i64 f)]) (L:= [.slice Z (aK F (flagsOf xs n) 2).length ae,.int .i64 f]) Bq aa<|aa) aZ<|he 10 aa ag<|cl zb (Bg B tb U F xs f b1 bN E) aa fun v49 b2 cC=> ?_
 obtain ⟨bV,aQ⟩:=cC
 obtain ⟨a49,ah,rfl⟩:=cT bV
 have cI:=bN.wk aQ
 have aW:(fun w'=>Wk I w') b2:=aZ.trans aQ
 refine ⟨aW,?_⟩
 refine aH 13 aa (fun _ _=>di (ps:= [(0,.slice a49 (aK F (bH F f) 2).length ah),(1,.int .i64 s)]) (L:= [.slice a49 (aK F (bH F f) 2).length ah,.int .i64 s]) Bq aa<|aa) aW<|he 17 aa ag<|cl DM (Hg B tb U F xs n b2 cI E) aa fun dx df cD=> ?_
 obtain ⟨bX,aS⟩:=cD
 obtain ⟨ac,ai,rfl⟩:=cT bX
 have aX:(fun w'=>Wk I w') df:=aW.trans aS
 refine ⟨aX,?_⟩
 refine aH 20 aa (fun _ _=>di (ps:= [(0,.slice ac (aK F (flagsOf xs n) 1).length ai),(1,.int .i64 a)]) (L:= [.slice ac (aK F (flagsOf xs n) 1).length ai,.int .i64 a]) Bq aa<|aa) aX<|he 21 aa ag<|Lr [[.slice Z (aK F (flagsOf xs n) 2).length ae,.int .i64 f],[.slice a49 (aK F (bH F f) 2).length ah,.int .i64 s],[.slice ac (aK F (flagsOf xs n) 1).length ai,.int .i64 a]] Vm aa aa aa aa fun bs ax dh aD co=> ?_
 obtain ⟨k,rfl⟩:∃ m:Nat,n=(m:Int):=⟨n.toNat,ab⟩
 obtain ⟨A,bu,bv,bw⟩:∃ A:Nat→Option Addr,A 0=Z∧A 1=a49∧A 2=ac:=⟨fun i=>match i with | 0=>Z | 1=>a49 | _=>ac,rfl,rfl,rfl⟩
 obtain ⟨C,cq,cs,cu⟩:∃ C:Nat→Nat,C 0=ae∧C 1=ah∧C 2=ai:=⟨fun i=>match i with | 0=>ae | 1=>ah | _=>ai,rfl,rfl,rfl⟩
 have bC:=aQ.trans<|aS.trans aD.md
 have M:Wk I ax:=((Md.refl (fun _=>False) I).drew.trans aP).trans bC
 have cQ:∀ i,i < 3→([(.slice Z (aK F (flagsOf xs k) 2).length ae,.int .i64 f),(.slice a49 (aK F (bH F f) 2).length ah,.int .i64 s),(.slice ac (aK F (flagsOf xs k) 1).length ai,.int .i64 a)]:List (Value×Value))[i]? =some (.slice (A i) (lX F xs k f i).length (C i),.int .i64 (oO f s a i)):=by
  intro i hi
  rcases (show i=0∨i=1∨i=2 by omega) with rfl | rfl | rfl
  rw [bu,cq]; rfl
  rw [bv,cs]; rfl
  rw [bw,cu]; rfl
 have cL:∀ i,i < 3→aG ax.heap (A i) ((lX F xs k f i).map fA):=by
  intro i hi
  rcases (show i=0∨i=1∨i=2 by omega) with rfl | rfl | rfl
  rw [bu]; exact (a6 bU).2.wk bC
  rw [bv]; exact (a6 bV).2.wk<|aS.trans aD.md
  rw [bw]; exact (a6 bX).2.wk aD.md
 have cZ:∀ i,i < 3→∀ {W:World},Wk ax W→∀ j,j < 2→Hb.aM W.heap bs (0 +i*2 +j)=(He (.slice (A i) (lX F xs k f i).length (C i),.int .i64 (oO f s a i)))[j]? :=fun i hi W cJ=>gr (f:=He) (m:=2) (fun _=>rfl) ((aG.fV ⟨_,co⟩).wk cJ)<|cQ i hi
 have dd:iL xs (k:Int)=(xs.getD k ([],[])).1:=by
  obtain ⟨x,aw⟩:∃ x,xs[k]? =some x:=⟨_,bW ab⟩
  rw [(rI aw).1,cR,aw]; rfl
 have dn:(iL xs (k:Int)).length≤1000:=by
  obtain ⟨x,aw⟩:∃ x,xs[k]? =some x:=⟨_,bW ab⟩
  rw [(rI aw).1]; have :=(E.tH x<|fz aw).1; omega
 have bJ:(fun w'=>Wk I w') ax:=aX.trans aD.md
 refine ⟨bJ,?_⟩
 refine aH 22 aa (fun _ _=>bP Wp aa aa) bJ<|hn ag<|b8<|aB<|lp (fun bt J aI=> ∃ (i:Nat) (u:Tx),(i≤3)∧(jT F xs k f s a i=some u)∧(u.length≤1000 +i*32)∧(Wk ax aI)∧(J 0=aU tb)∧(J 3=aU aO)∧(J 8= .slice ar F.rules.length cr)∧(J 9=str u)∧(J 60= .slice (some ⟨bs,0,none⟩) 3 3)∧(J 61= .int .i64 3)∧(J 62=aj i)∧(3 - i=bt)) _ ⟨0,iL xs (k:Int),ab,(by rw [dd]; rfl),ab,(Md.refl _ _),aa,aa,aa,(by first | rfl | exact congrArg str bZ),aa,aa,aa,aa⟩ ?_
 rintro bt J aI ⟨i,u,hi,av,dk,O,c5,c6,da,db,c7,c8,c9,rfl⟩
 refine fx 0 c5<|fx 3 c6<|fx 8 da<|fx 9 db<|fx 60 c7<|fx 61 c8<|fx 62 c9<|ak fun b9=>p (lt aa aa)<|nl<|b9<|az fun ca=>cd aa (fun cO=> ?_) fun cO=> ?_
 refine aR<|ca<|az fun aN=>aB<|az fun aL=> ?_
 have cP:i < 3:=ab
 refine rg aa<|p (ia PR aa aa ab)<|p (cg KA aa (aa)<|cZ i ab O)<|e<|al Xg fun ce dz a0 bF ci=> ?_
 have dq:=bF.size
 refine e<|cM OC aa aa aa aa (ci) (by simp) fun bo cy cp=> ?_
 have cx:Wk aI bo:=bF.md.trans' cy fun q cY h=>by omega
 have a0:bD bo.heap ce [.slice (A i) (lX F xs k f i).length (C i),.int .i64 (oO f s a i)]:=cp
 have aA:=O.trans cx
 refine nl<|aL<|ak fun am=>au (.slice ar F.rules.length cr)<|p (fa QC aa)<|p (ld vt aa<|a0.bp 0)<|p (fa QD aa)<|p (ld bO aa<|a0.bp 1)<|au (str u)<|e<|cl MD (VN F xs E ar cr rn (A i) (C i) (lX F xs k f i) (oO f s a i) u bo (bx.wk<|M.trans aA) bY ((cL i cP).wk aA) (ue i) (by have :=S5 (F:=F) (xs:=xs) (k:=k) (f:=f) i; have :=E.len; omega) (by unfold oO; split <;> assumption) ab) aa fun dy dB cE=> ?_
 obtain ⟨rfl,bA⟩:=cE
 refine p mv<|p (xt aa aa)<|p (xt aa aa)<|p aE<|ay<|am<|az fun b4=>rg aa<|p mv<|p (no aa)<|nl<|b4<|cb aa (fun a3=> ?_) fun a3=> ?_
 have cU:fE F (lX F xs k f i) (oO f s a i) u=none:=by simpa using a3
 refine ak fun b5=>p aE<|ay<|b5<|rt<|br<|tr<|tr<|br<|tr<|f2 aa aa aa ?_
 have cS:jT F xs k f s a 3=none:=by rw [show 3=(i+1)+(2 - i) by omega]; exact GJ (by show (jT F xs k f s a i).bind _=none; rw [av]; exact cU) _
 exact ⟨by rw [sg ab,ug a5,cS]; rfl,ad.trans<|hE35.trans<|M.trans<|aA.trans bA⟩
 obtain ⟨v,bd⟩:∃ v,fE F (lX F xs k f i) (oO f s a i) u=some v:=l9.1<|by simpa using a3
 have dl:=VL E (ue i) bd
 have c0:jT F xs k f s a (i+1)=some v:=by show (jT F xs k f s a i).bind _=_; rw [av]; exact bd
 have bZ:(fE F (lX F xs k f i) (oO f s a i) u).getD []=v:=by rw [bd]; rfl
 exact aR<|bn<|aN<|rg aa<|p (bL ((i+1:Nat):Int) aa aa<|bm ab ab)<|p mv<|nl<|tn<|⟨_,ab,i+1,v,ab,c0,ab,(aA.trans bA),aa,aa,aa,(by first | rfl | exact congrArg str bZ),aa,aa,aa,aa⟩
 refine ext<|bh<|bh<|be<|b7<|az fun aN=>az fun aL=> ?_
 obtain rfl :i=3:=ab
 have bb:=GK cN c4 cX av
 refine rg aa<|au (aU tb)<|au (.slice ar F.rules.length cr)<|p (cg hZ aa (aa) fun j dj=>(Wk.B (M.trans O) Y).bp j)<|e<|cl zc (Ae B tb U F xs ar cr rn bi k f s a aI (aF.wk<|hE35.trans<|M.trans O) E (bx.wk<|M.trans O) bY bb.1 bb.2.1 bb.2.2) aa fun v82 dC cF=> ?_
 obtain ⟨rfl,bB⟩:=cF
 refine p (no aa)<|nl<|aL<|cb aa (fun a8=> ?_) fun a8=> ?_
 exact ak fun am=>p aE<|ay<|am<|rt<|tr<|f2 aa aa aa<|⟨by rw [sg ab,ug a5,av,pn,if_neg (by simpa using a8)]; rfl,ad.trans<|hE35.trans<|M.trans<|O.trans bB⟩
 exact aR<|aN<|ak fun am=>au (str u)<|p (cj (str u) aa)<|p aE<|nl<|am<|rt<|f2 aa aa aa<|⟨by rw [sg ab,ug a5,av,pn,if_pos (by simpa using a8)]; rfl,ad.trans<|hE35.trans<|M.trans<|O.trans bB⟩
end Go.Hb
end
namespace Go.Hb
theorem Hx {r:cK} {v:Value} (h:v.oneCell'=true):(dC (r,v)).all eO=true :=by
 unfold dC
 simp only [List.all_cons,List.all_nil,h]
 rfl
def rK (a b:bu):Bool:=if a.fst≠b.fst then decide (a.fst < b.fst) else if a.snd≠b.snd then decide (a.snd < b.snd) else decide (a.pre < b.pre)
theorem A9 (R:Nat):(l0 R).Pairwise (· < ·):=by
 unfold l0
 rw [nH]
 exact ⟨fun x a=>by obtain ⟨i,_,rfl⟩:=gQ.1 a; omega,yv.2<|yu.imp fun h=>by omega⟩
theorem A8 {R:Nat} {x:Int} (h:x∈l0 R): -1≤x:=by
 rcases eB.1 h with h | h
 · omega
 · obtain ⟨i,_,rfl⟩:=gQ.1 h; omega
theorem se {F:aC} {xs:List bj} {e:Nat} {f s:Int} {d:bu} (h:d∈qD F xs e f s):d.dw=e∧d.fst=f∧d.snd=s∧d.pre∈l0 F.rules.length∧fM F xs e d.fst d.snd d.pre=some d.c5:=by
 obtain ⟨p,hp,h⟩:=JL.1 h
 obtain ⟨u,hu,rfl⟩:=ma.1 h
 exact ⟨aa,aa,aa,hp,hu⟩
theorem AE {F:aC} {xs:List bj} {e:Nat} {f:Int} {d:bu} (h:d∈tJ F xs e f):d∈qD F xs e f d.snd∧d.snd∈l0 F.rules.length:=by
 obtain ⟨s,hs,h⟩:=pd.1 h
 have :=(se h).2.2.1
 subst this
 exact ⟨h,hs⟩
theorem sd {F:aC} {xs:List bj} {e:Nat} {d:bu} (h:d∈gW F xs e):d.dw=e∧ -1≤d.fst∧ -1≤d.snd∧ -1≤d.pre∧fM F xs e d.fst d.snd d.pre=some d.c5:=by
 rw [zt] at h
 obtain ⟨f,q,h⟩:=pd.1 h
 obtain ⟨h1,h2⟩:=AE h
 obtain ⟨a,b,c,d,e⟩:=se h1
 exact ⟨a,by rw [b]; exact A8 q,A8 h2,A8 d,e⟩
theorem O0 (F:aC) (xs:List bj) (e:Nat):(gW F xs e).Pairwise fun a b=>rK a b=true :=by
 rw [zt,Cz]
 refine ⟨fun f _=> ?_,(A9 _).imp fun {a b} c x q y A=> ?_⟩
 · unfold tJ
   rw [Cz]
   refine ⟨fun s _=> ?_,(A9 _).imp fun {a b} c x q y A=> ?_⟩
   · unfold qD
     rw [List.pairwise_filterMap]
     refine (A9 _).imp fun {a b} c x q y A=> ?_
     obtain ⟨u,_,rfl⟩:=ma.1 q
     obtain ⟨v,_,rfl⟩:=ma.1 A
     unfold rK
     rw [if_neg (fun h=>h rfl),if_neg (fun h=>h rfl)]
     exact decide_eq_true c
   · obtain ⟨_,a2,a3,_⟩:=se q
     obtain ⟨_,C,E,_⟩:=se A
     unfold rK
     rw [if_neg (fun h=>h<|by rw [a2,C]),if_pos (by rw [a3,E]; omega),a3,E]
     exact decide_eq_true c
 · have a2:=(se (AE q).1).2.1
   have C:=(se (AE A).1).2.1
   unfold rK
   rw [if_pos (by rw [a2,C]; omega),a2,C]
   exact decide_eq_true c
end Go.Hb
section
namespace Go.Hb
open Go.Hb.pw
noncomputable def mV (r:cK) (u:Tx):Option Tx:=if gA r u=true then some u else none
noncomputable def eV (r:cK) (w:Tx):Option Tx:=
 if r.kind=2 then (if r.add.length≤w.length∧w.drop (w.length - r.add.length)=r.add then mV r (w.take (w.length - r.add.length)++r.strip) else none)
 else if r.kind=1 then (if w.take r.add.length=r.add then mV r (r.strip++w.drop r.add.length) else none)
 else none
section
variable {r:cK} {s u w:Tx}
theorem Wy (hk:r.kind=2):eV r s=if decide (r.add.length≤s.length∧s.drop (s.length - r.add.length)=r.add)=true then mV r (kf s r.add++r.strip) else none:=by
 unfold eV kf
 rw [if_pos hk]
 by_cases h:r.add.length≤s.length∧s.drop (s.length - r.add.length)=r.add
 · rw [if_pos h,if_pos h,decide_eq_true h,if_pos rfl]
 · rw [if_neg h,decide_eq_false h]; rfl
theorem Wx (hk:r.kind=1):eV r s=if decide (s.take r.add.length=r.add)=true then mV r (r.strip++eN s r.add) else none:=by
 unfold eV eN
 rw [if_neg ab,if_pos hk]
 by_cases h:s.take r.add.length=r.add
 · rw [if_pos h,if_pos h,decide_eq_true h,if_pos rfl]
 · rw [if_neg h,decide_eq_false h]; rfl
theorem Ww (h1:r.kind≠1) (h2:r.kind≠2):eV r s=none:=by unfold eV; rw [if_neg h2,if_neg h1]
theorem D3 {v:Tx} (h:mV r u=some v):v=u:=by unfold mV at h; split at h <;> cases h; rfl
theorem Il {v:Tx} (h:eV r s=some v):v.length≤s.length+r.strip.length:=by
 unfold eV at h
 split at h
 · split at h
   · rw [D3 h,bK,ee]; omega
   · cases h
 · split at h
   · split at h
     · rw [D3 h,bK,List.length_drop]; omega
     · cases h
   · cases h
theorem BH (hk:r.kind=1∨r.kind=2) (h:dp r u=some w):eV r w=some u:=by
 have a:gA r u=true :=by
  cases a:gA r u with
  | true =>rfl
  | false =>rw [CZ a] at h; cases h
 obtain ⟨A,h2,h1⟩:=wa a
 by_cases c:r.kind=2
 · rw [K0 a c] at h
   cases h
   have h3:=h2 c
   unfold eV
   have el:(u.take (u.length - r.strip.length)++r.add).length - r.add.length=(u.take<|u.length - r.strip.length).length:=by rw [bK]; omega
   rw [if_pos c,el,Jz,JR,if_pos ⟨by rw [bK]; omega,rfl⟩]
   have q:u.take (u.length - r.strip.length)++r.strip=u:=by
    conv =>lhs; rhs; rw [← h3]
    exact vb _ _
   rw [q]; unfold mV; rw [if_pos a]
 · rw [KY a c] at h
   cases h
   have h3:=h1 c
   unfold eV
   rw [if_neg c,if_pos (hk.resolve_right c),JR,if_pos rfl,Jz]
   have q:r.strip++u.drop r.strip.length=u:=by
    conv =>lhs; lhs; rw [← h3]
    exact vb _ _
   rw [q]; unfold mV; rw [if_pos a]
end
section
variable (F:aC) (xs:List bj) (w:Tx)
def mu (stem:Tx) (f s p:Int) (d:bu):Prop := ∃ n x,xs[n]? =some x∧x.1=stem∧d=⟨w,n,f,s,p⟩∧fM F xs n f s p=some w
def ek (n z:Nat):List Nat:=(fI n).filter fun i=>decide (z∈aK F (bH F (i:Int)) 2)
def mU (word:Tx) (p:Int) (k:Nat) (d:bu):Prop :=mu F xs w word (-1) (-1) p d∨
 ∃ i r,i < k∧F.rules[i]? =some r∧r.kind=2∧∃ st,eV r word=some st∧(mu F xs w st i (-1) p d∨∃ f∈ek F F.rules.length i,∃ rt,eV (F.rules.getD f dd) st=some rt∧mu F xs w rt f i p d)
def np (k:Nat) (d:bu):Prop :=mU F xs w w (-1) F.rules.length d∨∃ i r,i < k∧F.rules[i]? =some r∧r.kind=1∧∃ rest,eV r w=some rest∧mU F xs w rest i F.rules.length d
variable {F xs w}
theorem OZ {e:Nat} {f s p:Int} {u:Tx} (a:Rn F f) (hs:Rn F s) (hp:Rn F p) (h:fM F xs e f s p=some u):(⟨u,e,f,s,p⟩:bu)∈gW F xs e:=by
 have rm:∀ {n:Int},Rn F n→n∈l0 F.rules.length:=fun {n} hn=>by
  rcases hn with h | h
  · exact eB.2<|.inl h
  · exact eB.2<|.inr<|gQ.2 ⟨n.toNat,nG.2 ab,ab⟩
 rw [zt]
 refine pd.2 ⟨f,rm a,pd.2 ⟨s,rm hs,JL.2 ⟨p,rm hp,?_⟩⟩⟩
 rw [h]; rfl
theorem S6 {e:Nat} {f s p:Int} {u:Tx} (c: -1≤f) (hs: -1≤s) (hp: -1≤p) (h:fM F xs e f s p=some u):Rn F f∧Rn F s∧Rn F p:=by
 have a:¬(f= -1∧s≠ -1):=fun a=>by rw [AI a] at h; cases h
 rw [ug a] at h
 obtain ⟨v,q,_⟩:=ql.1 h
 exact GK c hs hp q
theorem wS {n:Nat} {d:bu} :d∈lI F xs n↔∃ e,e < n∧d∈gW F xs e:=by
 unfold lI
 rw [pd]
 exact ⟨fun ⟨e,h,h1⟩=>⟨e,nG.1 h,h1⟩,fun ⟨e,h,h1⟩=>⟨e,nG.2 h,h1⟩⟩
theorem Az {stem:Tx} {f s p:Int} {d:bu} (a: -1≤f) (hs: -1≤s) (hp: -1≤p) (h:mu F xs w stem f s p d):d∈lI F xs xs.length∧d.c5=w:=by
 obtain ⟨n,x,c,_,rfl,hm⟩:=h
 obtain ⟨h1,h2,h3⟩:=S6 a hs hp hm
 exact ⟨wS.2 ⟨n,(eQ.1 c).1,OZ h1 h2 h3 hm⟩,aa⟩
theorem DY {word:Tx} {p:Int} {k:Nat} {d:bu} (hp: -1≤p) (h:mU F xs w word p k d):d∈lI F xs xs.length∧d.c5=w:=by
 rcases h with h | ⟨i,r,_,_,_,st,_,h | ⟨f,_,rt,_,h⟩⟩
 · exact Az ab ab hp h
 · exact Az ab ab hp h
 · exact Az ab ab hp h
theorem xB {L:List Nat} {n:Int} {u v:Tx} (hn: -1≤n) (h:fE F L n u=some v):(n= -1∧v=u)∨∃ m:Nat,n=(m:Int)∧m∈L∧dp (F.rules.getD m dd) u=some v:=by
 unfold fE at h
 by_cases h1:n= -1
 · rw [if_pos h1] at h; cases h; exact .inl ⟨h1,rfl⟩
 · rw [if_neg h1] at h
   by_cases h2:n.toNat∈L
   · rw [if_pos h2] at h; exact .inr ⟨n.toNat,ab,h2,h⟩
   · rw [if_neg h2] at h; cases h
theorem Bf {m:Nat} (h:m < F.rules.length):F.rules[m]? =some (F.rules.getD m dd):=by
 rw [cR,bW h]; rfl
theorem M5 {n:Nat} {x:bj} {f s p:Int} {q:Tx} (c:xs[n]? =some x) (J: -1≤f) (hs: -1≤s) (E:¬(f= -1∧s≠ -1)) (h2:jT F xs n f s p 2=some q) (hm:fM F xs n f s p=some w):
 mU F xs w q p F.rules.length ⟨w,n,f,s,p⟩:=by
 obtain ⟨A,h1,h2⟩:=ql.1 (show (jT F xs n f s p 1).bind _=some q from h2)
 obtain ⟨V,C,h1⟩:=ql.1 (show (jT F xs n f s p 0).bind _=some A from h1)
 cases C
 have O:(xs.getD n ([],[])).1=x.1:=by rw [cR,c]; rfl
 rw [O] at h1
 have kd:∀ {fs:List Nat} {m:Nat},m∈aK F fs 2→m < F.rules.length∧(F.rules.getD m dd).kind=2:=fun h=>⟨(my.1 h).1,(my.1 h).2.1⟩
 rcases xB J h1 with ⟨rfl,rfl⟩ | ⟨i,rfl,hi,G⟩
 · obtain rfl :s= -1:=uI fun h=>E ⟨rfl,h⟩
   rcases xB hs h2 with ⟨_,rfl⟩ | ⟨m,h,_⟩
   · exact .inl ⟨n,x,c,aa,aa,hm⟩
   · omega
 · have hi:i∈aK F (flagsOf xs n) 2:=hi
   have hu:=BH (.inr (kd hi).2) G
   rcases xB hs h2 with ⟨rfl,rfl⟩ | ⟨z,rfl,a,I⟩
   · exact .inr ⟨i,_,(kd hi).1,Bf (kd hi).1,(kd hi).2,x.1,hu,.inl ⟨n,x,c,aa,aa,hm⟩⟩
   · have a:z∈aK F (bH F (i:Int)) 2:=a
     have M:=BH (.inr (kd a).2) I
     exact .inr ⟨z,_,(kd a).1,Bf (kd a).1,(kd a).2,A,M,.inr ⟨i,sY.2 ⟨nG.2 (kd hi).1,decide_eq_true a⟩,x.1,hu,n,x,c,aa,aa,hm⟩⟩
theorem HB (d:bu):np F xs w F.rules.length d↔d∈lI F xs xs.length∧d.c5=w:=by
 constructor
 · rintro (h | ⟨i,r,_,_,_,rest,_,h⟩)
   · exact DY ab h
   · exact DY ab h
 · rintro ⟨hd,hw⟩
   obtain ⟨e,he,hd⟩:=wS.1 hd
   obtain ⟨A,C,hs,hp,hm⟩:=sd hd
   obtain ⟨M,en,f,s,p⟩:=d
   simp only at A C hs hp hm hw
   subst A
   subst hw
   obtain ⟨x,J⟩:∃ x,xs[en]? =some x:=⟨_,bW he⟩
   have a:¬(f= -1∧s≠ -1):=fun a=>by rw [AI a] at hm; cases hm
   have E:=hm
   rw [ug a] at E
   obtain ⟨v,I,c⟩:=ql.1 E
   split at c
   case isFalse=>cases c
   cases c
   obtain ⟨O,h2,h3⟩:=ql.1 (show (jT F xs en f s p 2).bind _=some M from I)
   have q:=M5 J C hs a h2 hm
   rcases xB hp h3 with ⟨rfl,rfl⟩ | ⟨i,rfl,hi,G⟩
   · exact .inl q
   · have hi:i∈aK F (flagsOf xs en) 1:=hi
     exact .inr ⟨i,_,(my.1 hi).1,Bf (my.1 hi).1,(my.1 hi).2.1,O,BH (.inl (my.1 hi).2.1) G,q⟩
end
theorem Oy (s pr:List UInt8) (w:World) (hs:s.length≤1099511627776) (hp:pr.length≤1099511627776):
 bf ao 162 (ba [str s,str pr]) w (fun v w'=>v= .tuple #[str (kf s pr),.bool (decide (pr.length≤s.length∧s.drop (s.length - pr.length)=pr))]∧Wk w w'):=by
 refine enter func162 aa ntmps162 aa<|ak fun C=>p aE<|ay<|C<|az fun E=>az fun G=>rg aa<|au (str s)<|au (str pr)<|e<|cl vH (wz s pr _ hs hp) aa fun J M I=> ?_
 obtain ⟨rfl,A⟩:=I
 refine p (no aa)<|nl<|G<|cb aa (fun a=> ?_) fun a=> ?_
 have c:¬(pr.length≤s.length∧s.drop (s.length - pr.length)=pr):=fun h=>by rw [decide_eq_true h] at a; cases a
 exact ak fun q=>au (str s)<|p (cj (str s) aa)<|ay<|q<|rt<|tr<|f2 aa aa aa<|⟨by unfold kf; rw [if_neg c,decide_eq_false c]; rfl,A⟩
 have c:pr.length≤s.length∧s.drop (s.length - pr.length)=pr:=uI fun h=>by rw [decide_eq_false h] at a; cases a
 exact aR<|E<|ak fun q=>au (str s)<|au (str s)<|p (dB u9 aa aa)<|au (str pr)<|p (dB u9 aa aa)<|p (dt ((s.length - pr.length:Nat):Int) aa aa<|bm ab ab)<|p (su u9 aa aa ab)<|p aE<|ay<|q<|rt<|f2 aa aa aa<|⟨by unfold kf; rw [if_pos c,decide_eq_true c]; rfl,A⟩
theorem Oz (s pr:List UInt8) (w:World) (hs:s.length≤1099511627776) (hp:pr.length≤1099511627776):
 bf ao 102 (ba [str s,str pr]) w (fun v w'=>v= .tuple #[str (kf s pr),.bool (decide (pr.length≤s.length∧s.drop (s.length - pr.length)=pr))]∧Wk w w'):=by
 refine enter func102 aa ntmps102 aa<|ak fun a=>p aE<|ay<|a<|ak fun c=>au (str s)<|au (str pr)<|e<|cl LO (Oy s pr _ hs hp) aa fun C E A=> ?_
 obtain ⟨rfl,q⟩:=A
 exact p (xt aa aa)<|p (xt aa aa)<|p aE<|ay<|c<|rt<|f2 aa aa aa<|⟨aa,q⟩
theorem BI (r:cK) (u:Value) (s:Tx) (w:World) (aO:r.strip.length≤32) (aC:r.add.length≤1048576) (aD:r.cond.length≤1048576) (aP:s.length≤16777216):
 bf ao 59 (ba [.agg (dC (r,u)).toArray,str s]) w (fun v w'=>v=xd (eV r s)∧Wk w w'):=by
 refine enter func59 aa ntmps59 aa<|ak fun ai=>e<|iJ aa fun M Z aI V an=> ?_
 have aN:((r,u):cK×Value).1.strip.length=r.strip.length:=rfl
 have aM:((r,u):cK×Value).1.kind=r.kind:=rfl
 have aL:((r,u):cK×Value).1.add.length=r.add.length:=rfl
 have q:bD Z.heap M (dC (r,u)):=an
 have aV:(kf s r.add).length≤s.length:=by unfold kf; split <;> simp <;> omega
 have aS:(eN s r.add).length≤s.length:=by unfold eN; split <;> simp
 refine p aE<|ay<|ai<|ak fun aj=>p aE<|nl<|aj<|ak fun al=>ay<|al ?_
 refine e6 (fun I G=> ∃ (sm:Tx) (ok:Bool),(eV r s=if ok=true then mV r sm else none)∧(sm.length≤s.length+r.strip.length)∧(Wk w G)∧(bD G.heap M<|dC (r,u))∧(I 2=aU M)∧(I 6=str sm)∧(I 7= .bool ok)) ?_ ?_
 refine ak fun J=>p (fa tO aa)<|p (ld bO aa<|q.bp 0)<|nl<|J<|aB<|az fun C=>rg aa<|p (cw aa aa)<|ay<|C<|cd aa (fun aA=> ?_) fun aA=> ?_
 refine ak fun a=>p mv<|p (fa tQ aa)<|p (ld cH aa<|q.bp 4)<|e<|cl Lw (Oz s r.add Z ab ab) aa fun aW aZ ap=> ?_
 obtain ⟨rfl,ac⟩:=ap
 have ag:=Wk.B ac q
 exact p mv<|p (xt aa aa)<|p (xt aa aa)<|p aE<|ay<|a<|rg aa<|p mv<|p (fa pM aa)<|p (ld cH aa<|ag.bp 3)<|p (cc aa aa ab)<|p aE<|nl<|bn<|tn<|⟨kf s r.add++r.strip,_,(Wy ab),(by rw [bK]; omega),(V.md.trans ac),ag,aa,aa,aa⟩
 refine ak fun a=>p (cw aa aa)<|ay<|a<|cd aa (fun ax=> ?_) fun ax=> ?_
 refine ak fun am=>p mv<|p (fa tQ aa)<|p (ld cH aa<|q.bp 4)<|e<|cl Da (Eg s r.add Z ab ab) aa fun aX a0 aq=> ?_
 obtain ⟨rfl,ad⟩:=aq
 have ah:=Wk.B ad q
 exact p mv<|p (xt aa aa)<|p (xt aa aa)<|p aE<|ay<|am<|rg aa<|p (fa pM aa)<|p (ld cH aa<|ah.bp 3)<|p mv<|p (cc aa aa ab)<|p aE<|nl<|bn<|tn<|⟨r.strip++eN s r.add,_,(Wx ab),(by rw [bK]; omega),(V.md.trans ad),ah,aa,aa,aa⟩
 exact aR<|bn<|tn<|⟨[],false,(Ww ab ab),(ki _),V.md,q,aa,aa,aa⟩
 rintro I G ⟨sm,ok,c,aQ,O,aw,aF,aG,aH⟩
 refine fx 2 aF<|fx 6 aG<|fx 7 aH<|az fun J=>ak fun C=>au (.bool ok)<|p (no aa)<|p mv<|gb (t:=38) aa (fun E=> ?_) fun E=> ?_
 refine aT aa<|aT aa<|aT aa<|aT aa<|p (bR aa)<|nl<|C<|ct aa<|ak fun a=>p aE<|ay<|a<|rt<|tr<|f2 aa aa aa ?_
 have A:ok=false :=by simpa using E
 rw [A] at c
 exact ⟨by rw [c]; rfl,O⟩
 refine aY aa (cg ju aa (aa) fun j aK=>aw.bp j)<|aY aa (aJ (str sm) aa)<|eg aa aa aa<|cl Db (E5 r u sm G ab aC aD ab) aa fun v41 a1 av=> ?_
 obtain ⟨rfl,ae⟩:=av
 refine aY aa (no aa)<|p (bI aa)<|nl<|C<|cb aa (fun Y=> ?_) fun Y=> ?_
 refine ak fun a=>p aE<|ay<|a<|rt<|tr<|f2 aa aa aa ?_
 have A:ok=true :=by simpa using E
 rw [A,if_pos rfl] at c
 unfold mV at c
 exact ⟨by rw [c,if_neg (by simpa using Y)]; rfl,O.trans ae⟩
 refine aR<|J<|ak fun a=>au (str sm)<|p (cj (str sm) aa)<|p aE<|nl<|a<|rt<|f2 aa aa aa ?_
 have A:ok=true :=by simpa using E
 rw [A,if_pos rfl] at c
 unfold mV at c
 exact ⟨by rw [c,if_pos (by simpa using Y)]; rfl,O.trans ae⟩
end Go.Hb
end
section
namespace Go.Hb
theorem vR {a b:bu} (h:a.c5=b.c5∧a.dw=b.dw∧a.fst=b.fst∧a.snd=b.snd∧a.pre=b.pre):a=b:=by
 obtain ⟨s,e,f,g,p⟩:=a
 obtain ⟨E,c,q,A,C⟩:=b
 obtain ⟨h1,h2,h3,h4,h5⟩:=h
 simp only at h1 h2 h3 h4 h5
 subst h1 h2 h3 h4 h5
 rfl
instance XB:DecidableEq bu:=fun a b=>decidable_of_iff (a.c5=b.c5∧a.dw=b.dw∧a.fst=b.fst∧a.snd=b.snd∧a.pre=b.pre) ⟨vR,fun h=>by subst h; exact ⟨rfl,rfl,rfl,rfl,rfl⟩⟩
def dN (d:bu):Value:= .agg (cB d).toArray
def oK (v:Value):Prop := ∃ d,v=dN d
theorem VO {a b:Tx} (h:str a=str b):a=b:=by unfold str at h; simpa using h
theorem Ao {a b:bu} (h:dN a=dN b):a=b:=by
 unfold dN cB at h
 injection h with h
 have h:([str a.c5,.int .i64 (a.dw:Nat),.int .i64 a.fst,.int .i64 a.snd,.int .i64 a.pre]:List Value)= [str b.c5,.int .i64 (b.dw:Nat),.int .i64 b.fst,.int .i64 b.snd,.int .i64 b.pre]:=congrArg Array.toList h
 simp only [List.cons.injEq,Value.int.injEq,true_and,and_true] at h
 obtain ⟨h1,h2,h3,h4,h5⟩:=h
 exact vR ⟨VO h1,ab,h3,h4,h5⟩
theorem PH (a b:bu) (w:World):(Op.equal 49 (dN a)<|dN b).run ao w= .ok (decide (a=b)) w:=by
 have h:=EG a.c5 b.c5 a.dw a.fst a.snd a.pre b.dw b.fst b.snd b.pre w
 rw [run_eql_struct] at h
 have e:(Op.equal 49 (dN a)<|dN b)=o7 10000 49 (dN a) (dN b):=rfl
 rw [e]
 show (o7 10000 49 (.agg (cB a).toArray)<|.agg (cB b).toArray).run ao w=_
 unfold cB
 generalize (o7 10000 49 _ _).run ao w=X at h
 have hd:decide (a.c5=b.c5∧(a.dw:Int)=b.dw∧a.fst=b.fst∧a.snd=b.snd∧a.pre=b.pre)=decide (a=b):=by
  exact decide_eq_decide.2 ⟨fun ⟨h1,h2,h3,h4,h5⟩=>vR ⟨h1,ab,h3,h4,h5⟩,fun h=>by subst h; exact ⟨aa,aa,aa,aa,aa⟩⟩
 rw [hd] at h
 cases X with
 | ok c w'=>
   have h:Result.ok (bU c) w'= .ok (.bool<|decide (a=b)) w:=h
   injection h with h1 h2
   injection h1 with h1
   subst h1 h2
   rfl
 | halt a b=>cases h
theorem xe {P:Program} {t:TypeId} {cs:Array Value} {o:Nat} {v:Value} {q:IntKind} (a:P.underlying t=some (.int q)) (c:cs[o]? =some v) (w:World):(part t cs o).run P w= .ok v w:=by
 simp [part,isAgg,c4 a,c]
theorem Nl (em:Bool) (d:bu) (w:World):(nv em 10000 49<|dN d).run ao w= .ok () w:=by
 have q:=underlying49
 have c:=underlying9
 have a:=underlying3
 have A:∀ w,(part 9 #[str d.c5,.int .i64 (d.dw:Nat),.int .i64 d.fst,.int .i64 d.snd,.int .i64 d.pre] 0).run ao w= .ok (str d.c5) w:=fun w=>TU c rfl rfl w
 have C:∀ w,(part 3 #[str d.c5,.int .i64 (d.dw:Nat),.int .i64 d.fst,.int .i64 d.snd,.int .i64 d.pre] 1).run ao w= .ok (.int .i64 (d.dw:Nat)) w:=fun w=>xe a rfl w
 have E:∀ w,(part 3 #[str d.c5,.int .i64 (d.dw:Nat),.int .i64 d.fst,.int .i64 d.snd,.int .i64 d.pre] 2).run ao w= .ok (.int .i64 d.fst) w:=fun w=>xe a rfl w
 have G:∀ w,(part 3 #[str d.c5,.int .i64 (d.dw:Nat),.int .i64 d.fst,.int .i64 d.snd,.int .i64 d.pre] 3).run ao w= .ok (.int .i64 d.snd) w:=fun w=>xe a rfl w
 have I:∀ w,(part 3 #[str d.c5,.int .i64 (d.dw:Nat),.int .i64 d.fst,.int .i64 d.snd,.int .i64 d.pre] 4).run ao w= .ok (.int .i64 d.pre) w:=fun w=>xe a rfl w
 show (nv em (9998 +1 +1) 49<|.agg #[str d.c5,.int .i64 (d.dw:Nat),.int .i64 d.fst,.int .i64 d.snd,.int .i64 d.pre]).run ao w=_
 rw [nv]
 simp only [nz,c4 q,ny]
 rw [← Array.forIn_toList]
 simp only [List.forIn_cons,List.forIn_nil,nz,A,C,E,G,I,ne_eq,String.reduceEq,not_false_eq_true,if_true,ny,D1 c,M9 a,Sem.run_pure]
theorem findD:∀ (es:List MapEntry) (w:World) (d:bu) (i:Nat),(∀ e∈es,oK e.key)→
 ((qZ 49 (dN d) es i).run ao w= .ok none w∧∀ e∈es,e.key≠dN d)∨∃ j e,(qZ 49 (dN d) es i).run ao w= .ok (some (i+j,e.val)) w∧es[j]? =some e∧e.key=dN d
 | [],w,d,i,_=> .inl ⟨by simp [qZ],fun _ h=>by simp at h⟩
 | e::es,w,d,i,hk=>by
   obtain ⟨g,q⟩:=hk e<|by simp
   have he:=PH d g w
   rw [← q] at he
   by_cases a:d=g
   · subst a
     refine .inr ⟨0,e,?_,aa,q⟩
     simp [qZ,he]
   · have C:e.key≠dN d:=by rw [q]; exact fun h=>a (Ao h).symm
     rcases findD es w d (i+1) (fun e he=>hk e<|by simp [he]) with ⟨h1,h2⟩ | ⟨j,c,h1,h2,h3⟩
     · refine .inl ⟨by simp [qZ,he,a,h1],fun c A=> ?_⟩
       rcases eB.1 A with rfl | A
       · exact C
       · exact h2 c A
     · refine .inr ⟨j+1,c,?_,h2,h3⟩
       simp only [qZ,nz,he,a,ny,decide_false,Sem.run_ite,IY,if_false,h1]; rw [show i+1 +j=i+(j+1) from by omega]
theorem R7:s9 ao 49 oK where
 check em w v hv:=by obtain ⟨d,rfl⟩:=hv; exact Nl em d w
 find w x es hx hes:=by
  obtain ⟨d,rfl⟩:=hx
  have c:=underlying49
  have q:es≠[]→(q4 49 (dN d) es).run ao w=(qZ 49 (dN d) es).run ao w:=by
   intro a
   cases es with
   | nil=>exact absurd rfl a
   | cons e es=>simp [q4,c4 c,q5,Instr.sameNow,dN]
  by_cases a:es= []
  · subst a; exact .inl ⟨by simp [q4,c4 c,q5],fun _ h=>by simp at h⟩
  · rw [q a]
    rcases findD es w d 0 hes with h1 | ⟨j,e,h1,h2,h3⟩
    · exact .inl h1
    · exact .inr ⟨j,e,by rw [h1,fQ],h2,h3⟩
theorem Gb:k5 ao 49 oK where
 key:=R7
 stays w v hv:=by obtain ⟨d,rfl⟩:=hv; simp [Instr.keyThatStays,Instr.sameBits,dN,cB,str,yM]
def jt (h:Array Obj) (b:Nat) (S:bu→Prop):Prop := ∃ f,kp h b oK f∧(∀ d,(f<|dN d).isSome=true↔S d)∧∀ k v,f k=some v→∃ n:Int,v= .int .i64 n
theorem jt.md {G:Nat→Prop} {w w':World} {b:Nat} {S:bu→Prop} (h:jt w.heap b S) (hm:Md G w w') (a:¬G b):jt w'.heap b S:=let ⟨f,h1,h2⟩:=h; ⟨f,h1.md hm a,h2⟩
theorem jt.congr {h:Array Obj} {b:Nat} {S a:bu→Prop} (hm:jt h b S) (he:∀ d,a d↔S d):jt h b a:=let ⟨f,h1,h2,h3⟩:=hm; ⟨f,h1,fun d=>(h2 d).trans (he d).symm,h3⟩
theorem jt.put {h:Array Obj} {b:Nat} {S:bu→Prop} {f:Value→Option Value} {d:bu} {v:Value} {n:Int} (h2:∀ d,(f<|dN d).isSome=true↔S d) (h3:∀ k v,f k=some v→∃ n:Int,v= .int .i64 n) (hm:kp h b oK (bA (bA f (dN d) v) (dN d)<|.int .i64 n)):jt h b (fun x=>S x∨x=d):=by
 refine ⟨_,hm,fun x=> ?_,fun k u hu=> ?_⟩
 · by_cases a:x=d
   · subst a; rw [mA]; exact ⟨fun _=> .inr rfl,fun _=>rfl⟩
   · have hk:dN x≠dN d:=fun h=>a<|Ao h
     rw [kU hk,kU hk,h2]
     exact ⟨.inl,fun h=>h.resolve_right a⟩
 · by_cases hk:k=dN d
   · subst hk; rw [mA] at hu; cases hu; exact ⟨n,rfl⟩
   · rw [kU hk,kU hk] at hu; exact h3 k u hu
def vl (h:Array Obj) (b:Nat) (kx zv v:Value):Prop := ∃ g,bS h b oK g∧(g kx).getD zv=v
section
variable {P:Program} {N:Fm} {σ:Nat→Value} {w:World} {dst:Option Nat} {ty:TypeId} {pos :String} {af:Array Edge} {g:Option (Nat×Bool)} {x y:Operand}
theorem Sx {t e:TypeId} {b:Nat} {kx v zv:Value} (a:ao.underlying t=some (.map 49 e)) (A:zeroV ao e=some zv) (hm:vl w.heap b kx zv v) (c:ev N σ x= .map (some b)) (q:ev N σ y=kx) (hi:oK kx):
 (execOp (ev N σ) ⟨dst,.lookup t x y false,ty,pos,af,g⟩).run ao w= .ok (.value v) w:=by
 obtain ⟨f,h1,h2⟩:=hm
 exact lh a A Gb h1 c q hi h2
end
def CF (w:World) (fm:Nat) (F:aC):Prop := ∃ f,bS w.heap fm (jQ .i64) f∧∀ z:Nat,z < F.rules.length→∃ a c B,(f<|.int .i64 (z:Nat)).getD (.slice none 0 0)= .slice a (ek F F.rules.length z).length c∧bq w B 3 1 (.slice a (ek F F.rules.length z).length c) (ek F F.rules.length z).length ((ek F F.rules.length z).map fA)
def HL (tb:Nat) (F:aC) (ar:Option Addr) (cr fm dm:Nat):List Value:= [.pointer (some ⟨tb,0,none⟩),.slice ar F.rules.length cr,.map (some fm),.map (some dm)]
structure j4 (w0 wB:World) (B kb tb:Nat) (U:ej) (F:aC) (xs:List bj) (ar:Option Addr) (cr:Nat) (rn:List Value) (fm dm:Nat):Prop where
 Wb:dT w0 B tb U F xs
 wk:Wk w0 wB
 lo:w0.heap.size≤dm
 cells:wB.heap[kb]? =some (.cells (HL tb F ar cr fm dm).toArray 132 (0,0))
 ru:∃ B',bq wB B' 134 7 (.slice ar F.rules.length cr) F.rules.length (fX<|F.rules.zip rn)
 UN:rn.length=F.rules.length
 ro:∀ u∈rn,u.oneCell'=true
 fs:CF wB fm F
 ne:fm≠dm
 EA:∃ es c,wB.heap[dm]? =some (.map es c)
section
variable {w0 wB w:World} {B kb tb:Nat} {U:ej} {F:aC} {xs:List bj} {ar:Option Addr} {cr:Nat} {rn:List Value} {fm dm:Nat}
theorem j4.tf (h:j4 w0 wB B kb tb U F xs ar cr rn fm dm):TF wB [1] (fun k=>k=dm):=TF.eq (by obtain ⟨es,c,h1⟩:=h.EA; unfold tag; rw [h1]) aw
theorem j4.at (h:j4 w0 wB B kb tb U F xs ar cr rn fm dm) (hm:Md (fun k=>k=dm) wB w):w.heap[kb]? =some (.cells (HL tb F ar cr fm dm).toArray 132 (0,0)):=hm.gT h.tf h.cells aw
theorem j4.rules (h:j4 w0 wB B kb tb U F xs ar cr rn fm dm) (hm:Md (fun k=>k=dm) wB w):aG w.heap ar (fX<|F.rules.zip rn):=by
 obtain ⟨B',h1⟩:=h.ru
 exact (a6<|cX h1 hm h.tf aw).2
theorem j4.Bx (h:j4 w0 wB B kb tb U F xs ar cr rn fm dm) (hm:Md (fun k=>k=dm) wB w):dT w B tb U F xs:=h.Wb.wk<|h.wk.trans' hm fun k hk h2=>by have :=h.lo; omega
theorem j4.ek (h:j4 w0 wB B kb tb U F xs ar cr rn fm dm) (hm:Md (fun k=>k=dm) wB w):CF w fm F:=by
 obtain ⟨f,h1,h2⟩:=h.fs
 refine ⟨f,h1.md hm h.ne,fun z q=> ?_⟩
 obtain ⟨a,c,B,h3,h4⟩:=h2 z q
 exact ⟨a,c,B,h3,cX h4 hm h.tf aw⟩
theorem j4.lt (h:j4 w0 wB B kb tb U F xs ar cr rn fm dm):dm < wB.heap.size:=by obtain ⟨es,c,h1⟩:=h.EA; exact (bY.1 h1).1
theorem j4.im (h:j4 w0 wB B kb tb U F xs ar cr rn fm dm) {k:Nat} {r:cK} (a:F.rules[k]? =some r):∃ u,(F.rules.zip rn)[k]? =some (r,u):=by
 have hk:=(eQ.1 a).1
 have c:k < rn.length:=by rw [h.UN]; exact hk
 exact ⟨rn[k],jg.2 ⟨a,bW c⟩⟩
end
theorem AF {s:Tx} {xs:List bj} {n:Nat} :n∈idxs s xs↔∃ x,xs[n]? =some x∧x.1=s:=by
 unfold idxs
 rw [sY,nG,decide_eq_true_iff]
 constructor
 · rintro ⟨h1,h2⟩
   refine ⟨xs[n],bW h1,?_⟩
   rw [cR,bW h1] at h2; exact h2
 · rintro ⟨x,a,rfl⟩
   exact ⟨(eQ.1 a).1,by rw [cR,a]; rfl⟩
def nV (F:aC) (xs:List bj) (wd stem:Tx) (f s p:Int) (S:bu→Prop) (i:Nat) (d:bu):Prop :=S d∨∃ j,j < i∧d=⟨wd,(idxs stem xs).getD j 0,f,s,p⟩∧fM F xs ((idxs stem xs).getD j 0) f s p=some wd
section
variable {F:aC} {xs:List bj} {wd stem:Tx} {f s p:Int} {S:bu→Prop} {i:Nat}
theorem Su (h:fM F xs ((idxs stem xs).getD i 0) f s p=some wd) (d:bu):nV F xs wd stem f s p S (i+1) d↔(nV F xs wd stem f s p S i d∨d=⟨wd,(idxs stem xs).getD i 0,f,s,p⟩):=by
 unfold nV
 constructor
 · rintro (h1 | ⟨j,a,h1,h2⟩)
   · exact .inl<|.inl h1
   · rcases pj.1 a with a | rfl
     · exact .inl<|.inr ⟨j,a,h1,h2⟩
     · exact .inr h1
 · rintro ((h1 | ⟨j,a,h1⟩) | h1)
   · exact .inl h1
   · exact .inr ⟨j,ab,h1⟩
   · exact .inr ⟨i,ab,h1,h⟩
theorem Gs (h:fM F xs ((idxs stem xs).getD i 0) f s p≠some wd) (d:bu):nV F xs wd stem f s p S (i+1) d↔nV F xs wd stem f s p S i d:=by
 unfold nV
 constructor
 · rintro (h1 | ⟨j,a,h1,h2⟩)
   · exact .inl h1
   · rcases pj.1 a with a | rfl
     · exact .inr ⟨j,a,h1,h2⟩
     · exact absurd h2 h
 · rintro (h1 | ⟨j,a,h1⟩)
   · exact .inl h1
   · exact .inr ⟨j,ab,h1⟩
theorem Ss (d:bu):nV F xs wd stem f s p S (idxs stem xs).length d↔(S d∨mu F xs wd stem f s p d):=by
 unfold nV mu
 constructor
 · rintro (h | ⟨j,a,h1,h2⟩)
   · exact .inl h
   · obtain ⟨x,c,hs⟩:=AF.1<|eZ (d:=0) a
     exact .inr ⟨_,x,c,hs,h1,h2⟩
 · rintro (h | ⟨n,x,c,hs,h1,h2⟩)
   · exact .inl h
   · obtain ⟨j,a,e⟩:=oN 0<|AF.2 ⟨x,c,hs⟩
     exact .inr ⟨j,a,by rw [e]; exact h1,by rw [e]; exact h2⟩
end
theorem AA (w0 wB:World) (B kb tb:Nat) (U:ej) (F:aC) (xs:List bj) (ar:Option Addr) (cr:Nat) (rn:List Value) (fm dm:Nat) (I:j4 w0 wB B kb tb U F xs ar cr rn fm dm) (aS:dW F xs) (wd stem:Tx) (aP:Nat) (f s pp:Int) (S:bu→Prop) (w:World) (hm:Md (fun k=>k=dm) wB w) (bz:jt w.heap dm S) (bJ: -1≤f) (hs: -1≤s) (bZ: -1≤pp):
 bf ao 101 (ba [aU kb,str stem,.agg [str wd,aj aP,.int .i64 f,.int .i64 s,.int .i64 pp].toArray]) w (fun v w'=>v= .tuple #[]∧jt w'.heap dm (fun d=>S d∨mu F xs wd stem f s pp d)∧Md (fun k=>k=dm) w w'):=by
 have ce:=aS.xl
 have cb:=I.lt
 have cc:=hm.size
 have b9:(idxs stem xs).length≤xs.length:=by unfold idxs; exact ea (o8 _ _)<|by simp
 refine enter func101 aa ntmps101 aa<|ak fun bg=>e<|pG aa fun O aq b8 ah bt=> ?_
 have ci:=ah.size
 have ai:Md (fun k=>k=dm) wB aq:=hm.trans' ah.md fun _ _ h=>h.elim
 have bF:aq.heap[O]? =some (.cells [str wd,.int .i64 ((aP:Nat):Int),.int .i64 f,.int .i64 s,.int .i64 pp].toArray 49 (0,0)):=bt
 have bB:=bz.md ah.md id
 refine nl<|bg<|ak fun bi=>p mv<|p (nc aa)<|p (fa Fh aa)<|p (ld lH aa<|(a7<|I.at ai).trans aa)<|p (nc aa)<|p (fa Fg aa)<|p (ld CO aa<|(a7 (I.Bx ai).cells).trans aa)<|p mv<|e<|cl LN (O1 B U.wb U.mb U.va U.vs xs aq (I.Bx ai).wd ab stem) aa fun cj ck bE=> ?_
 obtain ⟨bc,Y⟩:=bE
 obtain ⟨aN,aO,rfl⟩:=cT bc
 have bx:=ah.md.trans Y
 have ch:=Y.size
 refine p (bP oQ aa aa)<|p mv<|nl<|bi<|aB<|lp (fun aQ M J=> ∃ (i:Nat) (en:Int),(i≤(idxs stem xs).length)∧(Md (fun k=>k=dm) wB J)∧(Md (fun k=>k=dm) w J)∧(jt J.heap dm<|nV F xs wd stem f s pp S<|i)∧(J.heap[O]? =some (.cells [str wd,.int .i64 en,.int .i64 f,.int .i64 s,.int .i64 pp].toArray 49 (0,0)))∧(bq J aq.heap.size 3 1 (.slice aN (idxs stem xs).length aO) (idxs stem xs).length<|(idxs stem xs).map fA)∧(M 0=aU kb)∧(M 5=aU O)∧(M 18= .slice aN (idxs stem xs).length aO)∧(M 19=aj ((idxs stem xs).length))∧(M 20=aj i)∧((idxs stem xs).length - i=aQ)) _ ⟨0,_,ab,(ai.trans' Y fun _ _ h=>h.elim),(bx.mono fun _ _ h=>h.elim),((bB.md Y id).congr fun d=>⟨fun h=>h.resolve_right (fun ⟨j,a5,_⟩=>by omega),.inl⟩),(Wk.aB Y bF),bc,aa,aa,aa,aa,aa,aa⟩ ?_
 rintro aQ M J ⟨i,en,hi,bS,a9,aV,bH,an,b0,b4,b1,b2,b3,rfl⟩
 refine fx 0 b0<|fx 5 b4<|fx 18 b1<|fx 19 b2<|fx 20 b3<|ak fun bk=>p (lt aa aa)<|nl<|bk<|az fun bl=>cd aa (fun bM=> ?_) fun bM=> ?_
 refine aR<|bl<|az fun au=>aB<|ak fun bm=>p (bd oH aa aa ab<|aG.ok ((a6 an).2)<|db ab)<|p (ld bO aa<|aG.jk (i:=i) (a6 an).2<|r6 ab)<|ay<|bm<|ak fun bo=>p mv<|p (fa oJ aa)<|e<|dy jN aa aa (v:= .int .i64 ((((idxs stem xs).getD i 0):Nat):Int)) aa bH (by show 1 < 5; omega) fun E ae bs=> ?_
 have a3:E.heap[O]? =some (.cells [str wd,.int .i64 ((((idxs stem xs).getD i 0):Nat):Int),.int .i64 f,.int .i64 s,.int .i64 pp].toArray 49 (0,0)):=bs
 have aA:Md (fun k=>k=dm) wB E:=bS.trans' ae fun q ac h=>by omega
 have bU:Md (fun k=>k=dm) w E:=a9.trans' ae fun q ac h=>by omega
 have bb:¬(dm=O):=ab
 have bA:=aV.md ae bb
 have bX:=cx an ae fun q ac h=>by have :=(cV an ac).1; omega
 have bW:=(eQ.1 (AF.1<|eZ (d:=0) (show i < (idxs stem xs).length by omega)).choose_spec.1).1
 refine nl<|bo<|az fun br=> ?_
 have G:(fun w'=>Wk E w') E.drew:=(Md.refl _ _).drew
 refine bT (fun w'=>Wk E w') aa wide G<|bQ 0 aa (aU kb) G<|aH 1 aa (fun _ _=>nc aa) G<|aH 2 aa (fun _ _=>fa Fh aa) G<|aH 3 aa (fun w' c=>ld lH aa<|Wk.aM c<|(a7<|I.at aA).trans aa) G<|aH 4 aa (fun w' c=>cg hZ aa (aa) fun j a5=>(Wk.B c<|lJ a3).bp j) G<|he 5 aa ag<|cl DB (Gz B tb U F xs wd (((idxs stem xs).getD i 0):Nat) f s pp E.drew (I.Bx aA.drew) aS bJ hs bZ) aa fun v32 C aX=> ?_
 rw [sg bW] at aX
 obtain ⟨rfl,bw⟩:=aX
 have a:(fun w'=>Wk E w') C:=G.trans bw
 refine ⟨a,?_⟩
 refine aH 6 aa (fun _ _=>mv) a<|aH 7 aa (fun _ _=>xt aa aa) a<|aH 8 aa (fun _ _=>xt aa aa) a<|aH 9 aa (fun _ _=>aE) a<|aH 10 aa (fun _ _=>aE) a<|hn ag<|br<|az fun aL=> ?_
 have al:Md (fun k=>k=dm) wB C:=aA.trans' a fun _ _ h=>h.elim
 have aD:Md (fun k=>k=dm) w C:=bU.trans' a fun _ _ h=>h.elim
 have av:=bA.md a id
 have Z:=Wk.aB a a3
 have aI:=a8 bX a
 refine rg aa<|p mv<|p mv<|gb (t:=36) aa (fun ap=> ?_) fun ap=> ?_
 obtain ⟨v,b5⟩:∃ v,fM F xs ((idxs stem xs).getD i 0) f s pp=some v:=l9.1<|by simpa using ap
 refine aY aa mv<|aY aa (fa wv aa)<|aY aa (ld cH aa<|(a7 Z).trans aa)<|aY aa (jP aa aa)<|p (bR aa)<|nl<|aL<|cd aa (fun heq=> ?_) fun heq=> ?_
 have b6:fM F xs ((idxs stem xs).getD i 0) f s pp=some wd:=by rw [b5] at heq ⊢; exact congrArg some heq
 have ca:(dN ⟨wd,((idxs stem xs).getD i 0),f,s,pp⟩)= .agg [str wd,.int .i64 ((((idxs stem xs).getD i 0):Nat):Int),.int .i64 f,.int .i64 s,.int .i64 pp].toArray:=rfl
 obtain ⟨fd,ax,bK,a4⟩:=av
 obtain ⟨V,a2⟩:∃ V:Int,(fd<|dN ⟨wd,((idxs stem xs).getD i 0),f,s,pp⟩).getD (.int .i64 0)= .int .i64 V:=by
  cases ac:fd (dN ⟨wd,((idxs stem xs).getD i 0),f,s,pp⟩) with
  | none=>exact ⟨0,rfl⟩
  | some u=>obtain ⟨n,rfl⟩:=a4 _ _ ac; exact ⟨n,rfl⟩
 have A:(fun w'=>Md (fun k=>k=dm) C w'∧vl w'.heap dm (dN ⟨wd,((idxs stem xs).getD i 0),f,s,pp⟩) (.int .i64 0) (.int .i64 V)) C.drew:=⟨(Md.refl _ _).drew,fd,ax.wV,a2⟩
 refine eL (fun w'=>Md (fun k=>k=dm) C w'∧vl w'.heap dm (dN ⟨wd,((idxs stem xs).getD i 0),f,s,pp⟩) (.int .i64 0) (.int .i64 V)) 9 aa wide A<|lq 0 aa ag (fun _ _=>aJ (aU kb) aa) A<|lq 1 aa ag (fun _ _=>nc aa) A<|lq 2 aa ag (fun _ _=>fa Fi aa) A<|lq 3 aa ag (fun w' c=>ld CL aa<|(a7<|I.at<|al.trans c.1).trans aa) A<|lq 4 aa ag (fun w' c=>cg hZ aa (aa) fun j a5=>(Md.B c.1 (lJ Z) fun h=>bb h.symm).bp j) A<|lq 5 aa ag (fun w' c=>Sx BA mH c.2 aa aa ⟨_,aa⟩) A<|lq 6 aa ag (fun _ _=>bL _ rfl aa aa) A<|ja 7 aa ag<|SV BA mH (kx:=dN ⟨wd,((idxs stem xs).getD i 0),f,s,pp⟩) Gb ax aa aa ⟨_,aa⟩ fun xz b7 aW aZ=> ?_
 have a0:(fun w'=>Md (fun k=>k=dm) C w'∧vl w'.heap dm (dN ⟨wd,((idxs stem xs).getD i 0),f,s,pp⟩) (.int .i64 0) (.int .i64 V)) b7:=⟨A.1.trans aW,_,aZ.Ta.wV,by rw [mA]; exact a2⟩
 refine ⟨a0,?_⟩
 refine lq 8 aa ag (fun _ _=>xt aa aa) a0<|dq 9 aa ag ag<|SY aZ aa aa aa fun aK bD bv=> ?_
 have am:=(Md.refl (fun k=>k=dm) C).drew.trans<|aW.trans bD
 have bN:Md (fun k=>k=dm) wB aK:=al.trans am
 have bV:Md (fun k=>k=dm) w aK:=aD.trans am
 have bC:jt aK.heap dm (nV F xs wd stem f s pp S<|i+1):=(jt.put bK a4 bv).congr<|Su b6
 have a1:TF C [1] (fun k=>k=dm):=TF.eq (xE ax.wV.choose_spec.1) aw
 have bG:=am.gT a1 Z aw
 have bY:=cX aI am a1 aw
 exact eK ag<|bn<|au<|rg aa<|p (ad aa aa<|cC ab)<|p mv<|nl<|tn<|⟨_,ab,i+1,_,ab,bN,bV,bC,bG,bY,aa,aa,aa,aa,aa,aa⟩
 have aF:fM F xs ((idxs stem xs).getD i 0) f s pp≠some wd:=fun h=>heq<|by rw [h]; rfl
 exact aR<|bn<|au<|rg aa<|p (ad aa aa<|cC ab)<|p mv<|nl<|tn<|⟨_,ab,i+1,_,ab,al,aD,(av.congr<|Gs aF),Z,aI,aa,aa,aa,aa,aa,aa⟩
 have aF:fM F xs ((idxs stem xs).getD i 0) f s pp≠some wd:=fun h=>by rw [h] at ap; cases ap
 exact aT aa<|aT aa<|aT aa<|aT aa<|p (bI aa)<|nl<|aL<|cf aa<|aR<|bn<|au<|rg aa<|p (ad aa aa<|cC ab)<|p mv<|nl<|tn<|⟨_,ab,i+1,_,ab,al,aD,(av.congr<|Gs aF),Z,aI,aa,aa,aa,aa,aa,aa⟩
 refine ext<|bh<|bh<|be<|f0 aa ?_
 obtain rfl :i=(idxs stem xs).length:=ab
 exact ⟨aa,aV.congr (fun d=>(Ss d).symm),a9⟩
end Go.Hb
end
section
namespace Go.Hb
section
variable {F:aC} {xs:List bj} {wd word:Tx} {p:Int} {S:bu→Prop} {i:Nat}
def mT (F:aC) (xs:List bj) (wd word:Tx) (p:Int) (S:bu→Prop) (i:Nat) (d:bu):Prop :=S d∨mU F xs wd word p i d
def ml (F:aC) (xs:List bj) (wd word sm:Tx) (p:Int) (S:bu→Prop) (i j:Nat) (d:bu):Prop :=(mT F xs wd word p S i d∨mu F xs wd sm i (-1) p d)∨
 ∃ k rt,k < j∧eV (F.rules.getD ((ek F F.rules.length i).getD k 0) dd) sm=some rt∧mu F xs wd rt ((ek F F.rules.length i).getD k 0:Nat) i p d
theorem M0 (d:bu):mT F xs wd word p S 0 d↔(S d∨mu F xs wd word (-1) (-1) p d):=by
 unfold mT mU
 constructor
 · rintro (h | h | ⟨i,r,h,_⟩)
   · exact .inl h
   · exact .inr h
   · omega
 · rintro (h | h)
   · exact .inl h
   · exact .inr<|.inl h
theorem DX {r:cK} (q:F.rules[i]? =some r) (h:r.kind≠2∨eV r word=none) (d:bu):mT F xs wd word p S (i+1) d↔mT F xs wd word p S i d:=by
 unfold mT mU
 constructor
 · rintro (h1 | h1 | ⟨k,c,hk,a,h2,st,h3,h4⟩)
   · exact .inl h1
   · exact .inr<|.inl h1
   · rcases pj.1 hk with hk | rfl
     · exact .inr<|.inr ⟨k,c,hk,a,h2,st,h3,h4⟩
     · rw [q] at a; cases a
       rcases h with h | h
       · exact absurd h2 h
       · rw [h] at h3; cases h3
 · rintro (h1 | h1 | ⟨k,c,hk,h2⟩)
   · exact .inl h1
   · exact .inr<|.inl h1
   · exact .inr<|.inr ⟨k,c,ab,h2⟩
theorem M1 {r:cK} {sm:Tx} (q:F.rules[i]? =some r) (hk:r.kind=2) (hu:eV r word=some sm) (d:bu):mT F xs wd word p S (i+1) d↔ml F xs wd word sm p S i (ek F F.rules.length i).length d:=by
 unfold ml mT mU
 constructor
 · rintro (h1 | h1 | ⟨k,C,a,A,h2,st,h3,h4⟩)
   · exact .inl<|.inl<|.inl h1
   · exact .inl<|.inl<|.inr<|.inl h1
   · rcases pj.1 a with a | rfl
     · exact .inl<|.inl<|.inr<|.inr ⟨k,C,a,A,h2,st,h3,h4⟩
     · rw [q] at A; cases A
       rw [hu] at h3; cases h3
       rcases h4 with h4 | ⟨f,E,rt,h5,c⟩
       · exact .inl<|.inr h4
       · obtain ⟨m,hm,e⟩:=oN 0 E
         exact .inr ⟨m,rt,hm,by rw [e]; exact h5,by rw [e]; exact c⟩
 · rintro (((h1 | h1 | ⟨k,C,a,h2⟩) | h1) | ⟨m,rt,hm,h5,c⟩)
   · exact .inl h1
   · exact .inr<|.inl h1
   · exact .inr<|.inr ⟨k,C,ab,h2⟩
   · exact .inr<|.inr ⟨i,r,ab,q,hk,sm,hu,.inl h1⟩
   · exact .inr<|.inr ⟨i,r,ab,q,hk,sm,hu,.inr ⟨_,eZ (d:=0) hm,rt,h5,c⟩⟩
theorem M4 {sm:Tx} (d:bu):ml F xs wd word sm p S i 0 d↔(mT F xs wd word p S i d∨mu F xs wd sm i (-1) p d):=by
 unfold ml
 exact ⟨fun h=>h.resolve_right (fun ⟨k,_,h,_⟩=>by omega),.inl⟩
theorem M2 {sm:Tx} {j:Nat} (h:eV (F.rules.getD ((ek F F.rules.length i).getD j 0) dd) sm=none) (d:bu):ml F xs wd word sm p S i (j+1) d↔ml F xs wd word sm p S i j d:=by
 unfold ml
 constructor
 · rintro (h1 | ⟨k,rt,hk,h2,h3⟩)
   · exact .inl h1
   · rcases pj.1 hk with hk | rfl
     · exact .inr ⟨k,rt,hk,h2,h3⟩
     · rw [h] at h2; cases h2
 · rintro (h1 | ⟨k,rt,hk,h2⟩)
   · exact .inl h1
   · exact .inr ⟨k,rt,ab,h2⟩
theorem M3 {sm rt:Tx} {j:Nat} (h:eV (F.rules.getD ((ek F F.rules.length i).getD j 0) dd) sm=some rt) (d:bu):ml F xs wd word sm p S i (j+1) d↔(ml F xs wd word sm p S i j d∨mu F xs wd rt ((ek F F.rules.length i).getD j 0:Nat) i p d):=by
 unfold ml
 constructor
 · rintro (h1 | ⟨k,a,hk,h2,h3⟩)
   · exact .inl<|.inl h1
   · rcases pj.1 hk with hk | rfl
     · exact .inl<|.inr ⟨k,a,hk,h2,h3⟩
     · rw [h] at h2; cases h2; exact .inr h3
 · rintro ((h1 | ⟨k,a,hk,h2⟩) | h1)
   · exact .inl h1
   · exact .inr ⟨k,a,ab,h2⟩
   · exact .inr ⟨j,rt,ab,h,h1⟩
end
theorem P6 {F:aC} {n z i:Nat} (h:i∈ek F n z):i < n:=nG.1 (sY.1 h).1
theorem DZ (w0 wB:World) (B kb tb:Nat) (U:ej) (F:aC) (xs:List bj) (ar:Option Addr) (cr:Nat) (rn:List Value) (fm dm:Nat) (a:j4 w0 wB B kb tb U F xs ar cr rn fm dm) (c:dW F xs) (wd word:Tx) (E:Nat) (pp:Int) (S:bu→Prop) (w:World) (hm:Md (fun k=>k=dm) wB w) (cv:jt w.heap dm S) (aQ: -1≤pp) (dH:word.length≤4194304):
 bf ao 58 (ba [aU kb,str word,.agg [str wd,aj E,.int .i64 (-1),.int .i64 (-1),.int .i64 pp].toArray]) w (fun v w'=>v= .tuple #[]∧jt w'.heap dm (fun d=>S d∨mU F xs wd word pp F.rules.length d)∧Md (fun k=>k=dm) w w'):=by
 have dI:=c.xl
 have dz:=a.lt
 have dG:=hm.size
 have dB:=c.len
 refine enter func58 aa ntmps58 aa<|ak fun bX=>e<|pG aa fun C aV dv an cq=> ?_
 have dJ:=an.size
 have bx:Md (fun k=>k=dm) wB aV:=hm.trans' an.md fun _ _ h=>h.elim
 have bl:aV.heap[C]? =some (.cells [str wd,aj E,.int .i64 (-1),.int .i64 (-1),.int .i64 pp].toArray 49 (0,0)):=cq
 have cy:=cv.md an.md id
 have ac:¬(C=dm):=ab
 refine nl<|bX<|ak fun b7=>p mv<|p mv<|p (cg hZ aa (aa) fun q I=>(lJ bl).bp q)<|e<|cl yQ (AA w0 wB B kb tb U F xs ar cr rn fm dm a c wd word E (-1) (-1) pp S aV bx cy ab ab aQ) aa fun v17 bN cG=> ?_
 obtain ⟨rfl,cw,ax⟩:=cG
 have bt:Md (fun k=>k=dm) wB bN:=bx.trans ax
 have cL:=ax.aB bl ac
 have c0:Md (fun k=>k=dm) w bN:=(an.md.mono fun _ _ h=>h.elim).trans ax
 refine nl<|b7<|ak fun cc=>p mv<|p (nc aa)<|p (fa wj aa)<|p (ld jM aa<|(a7<|a.at bt).trans aa)<|p (bP pX aa aa)<|p mv<|nl<|cc<|aB<|lp (fun V M O=> ∃ (i:Nat) (bT z2:Int),(i≤F.rules.length)∧(Md (fun k=>k=dm) wB O)∧(Md (fun k=>k=dm) w O)∧(jt O.heap dm<|mT F xs wd word pp S<|i)∧(O.heap[C]? =some (.cells [str wd,aj E,.int .i64 bT,.int .i64 z2,.int .i64 pp].toArray 49 (0,0)))∧(M 0=aU kb)∧(M 1=str word)∧(M 5=aU C)∧(M 21= .slice ar F.rules.length cr)∧(M 22=aj (F.rules.length))∧(M 23=aj i)∧(F.rules.length - i=V)) _ ⟨0,_,_,ab,bt,c0,(cw.congr M0),cL,aa,aa,aa,aa,aa,aa,aa⟩ ?_
 rintro V M O ⟨i,bT,z2,hi,aO,bB,a4,cO,c8,c9,df,da,dc,de,rfl⟩
 refine fx 0 c8<|fx 1 c9<|fx 5 df<|fx 21 da<|fx 22 dc<|fx 23 de<|ak fun ce=>p (lt aa aa)<|nl<|ce<|az fun cf=>cd aa (fun cU=> ?_) fun cU=> ?_
 refine aR<|cf<|az fun av=>aB<|az fun ch=> ?_
 obtain ⟨r,G⟩:∃ r,F.rules[i]? =some r:=⟨_,bW ab⟩
 obtain ⟨u,aT⟩:=a.im G
 have dt:=a.ro u (JP<|fz aT).2
 refine rg aa<|au (aj i)<|p (bd ky aa aa ab<|aG.ok (a.rules aO)<|kV aT)<|p (cg ju aa (aa)<|gr (f:=dC) (m:=7) (fun _=>rfl) (a.rules aO) aT)<|e<|gn oW fun cm dN aF a9 cs=> ?_
 have dK:=a9.size
 refine p (cj (aj i) aa)<|e<|fY mZ aa aa aa (Hx dt) cs aw fun ag cD cp=> ?_
 have ai:Wk O ag:=a9.md.trans' cD fun q I h=>by omega
 have aF:bD ag.heap cm (dC (r,u)):=⟨_,cp⟩
 have bw:Md (fun k=>k=dm) wB ag:=aO.trans' ai fun _ _ h=>h.elim
 have bE:Md (fun k=>k=dm) w ag:=bB.trans' ai fun _ _ h=>h.elim
 have a2:=a4.md ai id
 have bk:=Wk.aB ai cO
 refine nl<|ch<|az fun ci=>ak fun ck=>p (fa tO aa)<|p (ld bO aa<|aF.bp 0)<|p (gE aa aa)<|nl<|ck<|cd aa (fun hk=> ?_) fun hk=> ?_
 have aJ:=DX (xs:=xs) (wd:=wd) (word:=word) (p:=pp) (S:=S) G<|.inl (show r.kind≠2 by have h:=hk; dsimp only at h; omega)
 exact ext<|bh<|be<|av<|rg aa<|p (bL ((i+1:Nat):Int) aa aa<|bm ab ab)<|p mv<|nl<|tn<|⟨_,ab,i+1,_,_,ab,bw,bE,(a2.congr aJ),bk,aa,aa,aa,aa,aa,aa,aa⟩
 have cW:r.kind=2:=by have h:=hk; dsimp only at h; omega
 refine aR<|ci<|ak fun bY=>p (cg ju aa (aa) fun q I=>aF.bp q)<|au (str word)<|e<|cl zd (BI r u word ag (c.im G).2.2.1 (il c G).2.1 (il c G).2.2.1 ab) aa fun dL bQ cH=> ?_
 obtain ⟨rfl,ah⟩:=cH
 have bv:Md (fun k=>k=dm) wB bQ:=bw.trans' ah fun _ _ h=>h.elim
 have bC:Md (fun k=>k=dm) w bQ:=bE.trans' ah fun _ _ h=>h.elim
 have a1:=a2.md ah id
 have bi:=Wk.aB ah bk
 refine p mv<|p (xt aa aa)<|p (xt aa aa)<|p aE<|ay<|bY<|az fun bZ=>ak fun b0=>p mv<|p (no aa)<|nl<|b0<|cb aa (fun aH=> ?_) fun aH=> ?_
 have aJ:=DX (xs:=xs) (wd:=wd) (p:=pp) (S:=S) G<|.inr (show eV r word=none by simpa using aH)
 exact ext<|bh<|be<|av<|rg aa<|p (bL ((i+1:Nat):Int) aa aa<|bm ab ab)<|p mv<|nl<|tn<|⟨_,ab,i+1,_,_,ab,bv,bC,(a1.congr aJ),bi,aa,aa,aa,aa,aa,aa,aa⟩
 obtain ⟨sm,aS⟩:∃ sm,eV r word=some sm:=l9.1<|by simpa using aH
 have dF:=Il aS
 have dA:=(il c G).1
 have ap:(eV r word).getD []=sm:=by rw [aS]; rfl
 have dE:r.strip.length≤32:=(c.im G).2.2.1
 refine aR<|bZ<|ak fun b1=>au (aj i)<|p (fa lP aa)<|e<|dy jN aa aa (v:=aj i) aa bi (by show 2 < 5; omega) fun dO cF cu=>p (fa lQ aa)<|e<|dy jN aa aa (v:= .int .i64<|-1) aa cu (by show 3 < 5; omega) fun aq cE ct=> ?_
 have bo:aq.heap[C]? =some (.cells [str wd,aj E,aj i,.int .i64 (-1),.int .i64 pp].toArray 49 (0,0)):=ct
 have aD:=cF.trans cE
 have bA:Md (fun k=>k=dm) wB aq:=bv.trans' aD fun q I h=>by omega
 have c3:Md (fun k=>k=dm) w aq:=bC.trans' aD fun q I h=>by omega
 have cA:=a1.md aD fun h=>ac h.symm
 refine nl<|b1<|ak fun b2=>au (aU kb)<|p mv<|p (cg hZ aa (aa) fun q I=>(lJ bo).bp q)<|e<|cl yQ (AA w0 wB B kb tb U F xs ar cr rn fm dm a c wd ((eV r word).getD []) E (i:Nat) (-1) pp (mT F xs wd word pp S<|i) aq bA cA ab ab aQ) aa fun v45 bR bb=> ?_
 rw [ap] at bb
 obtain ⟨rfl,cx,aA⟩:=bb
 have aN:Md (fun k=>k=dm) wB bR:=bA.trans aA
 have c1:Md (fun k=>k=dm) w bR:=c3.trans aA
 have cM:=aA.aB bo ac
 obtain ⟨fo,cQ,cS⟩:=a.ek aN
 obtain ⟨aY,aZ,bV,cT,c6⟩:=cS i ab
 have dw:(ek F F.rules.length i).length≤F.rules.length:=by have :=o8 (fun q:Nat=>decide (i∈aK F (bH F (q:Int)) 2)) (fI F.rules.length); unfold ek; rw [sX] at this; exact this
 refine nl<|b2<|ak fun b3=>au (aU kb)<|p (nc aa)<|p (fa zX aa)<|p (ld yF aa<|(a7<|a.at aN).trans aa)<|au (aj i)<|p (lh Bz xS Ar (cQ) aa aa (⟨_,aa⟩)<|cT)<|p (bP oQ aa aa)<|p mv<|nl<|b3<|aB<|lp (fun V A J=> ∃ (j:Nat) (bU z3:Int),(j≤(ek F F.rules.length i).length)∧(Md (fun k=>k=dm) wB J)∧(Md (fun k=>k=dm) w J)∧(jt J.heap dm<|ml F xs wd word sm pp S i<|j)∧(J.heap[C]? =some (.cells [str wd,aj E,.int .i64 bU,.int .i64 z3,.int .i64 pp].toArray 49 (0,0)))∧(bq J bV 3 1 (.slice aY (ek F F.rules.length i).length aZ) (ek F F.rules.length i).length<|(ek F F.rules.length i).map fA)∧(A 0=aU kb)∧(A 1=str word)∧(A 5=aU C)∧(A 6=aj i)∧(A 8=str sm)∧(A 21= .slice ar F.rules.length cr)∧(A 22=aj (F.rules.length))∧(A 23=aj i)∧(A 51= .slice aY (ek F F.rules.length i).length aZ)∧(A 52=aj ((ek F F.rules.length i).length))∧(A 53=aj j)∧((ek F F.rules.length i).length - j=V)) _ ⟨0,_,_,ab,aN,c1,(cx.congr M4),cM,c6,aa,aa,aa,aa,(by first | rfl | exact congrArg str ap),aa,aa,aa,aa,aa,aa,aa⟩ ?_
 rintro V A J ⟨j,bU,z3,dx,Z,bG,a5,br,aP,dg,dh,dl,dr,ds,di,dj,dk,dn,dp,dq,rfl⟩
 refine fx 0 dg<|fx 1 dh<|fx 5 dl<|fx 6 dr<|fx 8 ds<|fx 21 di<|fx 22 dj<|fx 23 dk<|fx 51 dn<|fx 52 dp<|fx 53 dq<|ak fun b4=>p (lt aa aa)<|nl<|b4<|az fun b5=>cd aa (fun cV=> ?_) fun cV=> ?_
 refine aR<|b5<|az fun aX=>aB<|ak fun b6=>p (bd oH aa aa ab<|aG.ok ((a6 aP).2)<|db ab)<|p (ld bO aa<|aG.jk (i:=j) (a6 aP).2<|r6 ab)<|ay<|b6<|az fun b8=> ?_
 have cP:((ek F F.rules.length i).getD j 0) < F.rules.length:=P6<|eZ (d:=0) (show j < (ek F F.rules.length i).length by omega)
 obtain ⟨rf,ad⟩:∃ r,F.rules[((ek F F.rules.length i).getD j 0)]? =some r:=⟨_,bW cP⟩
 have bJ:F.rules.getD ((ek F F.rules.length i).getD j 0) dd=rf:=by rw [cR,ad]; rfl
 obtain ⟨du,bM⟩:=a.im ad
 refine rg aa<|au (aU kb)<|p (nc aa)<|p (fa wj aa)<|p (ld jM aa<|(a7<|a.at Z).trans aa)<|p mv<|p (bd ky aa aa ab<|aG.ok (a.rules Z)<|kV bM)<|p (cg ju aa (aa)<|gr (f:=dC) (m:=7) (fun _=>rfl) (a.rules Z) bM)<|au (str sm)<|e<|cl zd (BI rf du sm J (c.im ad).2.2.1 (il c ad).2.1 (il c ad).2.2.1 ab) aa fun v66 aW cI=> ?_
 obtain ⟨rfl,Y⟩:=cI
 have bz:Md (fun k=>k=dm) wB aW:=Z.trans' Y fun _ _ h=>h.elim
 have bF:Md (fun k=>k=dm) w aW:=bG.trans' Y fun _ _ h=>h.elim
 have a3:=a5.md Y id
 have aM:=Wk.aB Y br
 have bI:=a8 aP Y
 refine p mv<|p (xt aa aa)<|p (xt aa aa)<|p aE<|ay<|b8<|az fun b9=>rg aa<|p mv<|nl<|b9<|cb aa (fun aI=> ?_) fun aI=> ?_
 obtain ⟨rt,bK⟩:∃ rt,eV rf sm=some rt:=l9.1<|by simpa using aI
 have c7:(eV rf sm).getD []=rt:=by rw [bK]; rfl
 have aL:=M3 (xs:=xs) (wd:=wd) (word:=word) (p:=pp) (S:=S) (i:=i) (j:=j)<|by rw [bJ]; exact bK
 refine ak fun ca=>p mv<|au (aj i)<|p (fa lP aa)<|e<|dy jN aa aa (v:= .int .i64 ((((ek F F.rules.length i).getD j 0):Nat):Int)) aa aM (by show 2 < 5; omega) fun dM cC co=>p (fa lQ aa)<|e<|dy jN aa aa (v:=aj i) aa co (by show 3 < 5; omega) fun ae cB cn=> ?_
 have bg:ae.heap[C]? =some (.cells [str wd,aj E,.int .i64 ((((ek F F.rules.length i).getD j 0):Nat):Int),aj i,.int .i64 pp].toArray 49 (0,0)):=cn
 have am:=cC.trans cB
 have bs:Md (fun k=>k=dm) wB ae:=bz.trans' am fun q I h=>by omega
 have cZ:Md (fun k=>k=dm) w ae:=bF.trans' am fun q I h=>by omega
 have a0:=a3.md am fun h=>ac h.symm
 have cJ:TF aW [51] (fun q=>q=C):=TF.eq (dD aM) aw
 have c4:=cX bI am cJ aw
 refine nl<|ca<|rg aa<|au (aU kb)<|p mv<|p (cg hZ aa (aa) fun q I=>(lJ bg).bp q)<|e<|cl yQ (AA w0 wB B kb tb U F xs ar cr rn fm dm a c wd ((eV rf sm).getD []) E ((((ek F F.rules.length i).getD j 0):Nat):Int) (i:Nat) pp (ml F xs wd word sm pp S i<|j) ae bs a0 ab ab aQ) aa fun v77 bS bc=> ?_
 rw [c7] at bc
 obtain ⟨rfl,cz,al⟩:=bc
 have cY:Md (fun k=>k=dm) wB bS:=bs.trans al
 have c2:Md (fun k=>k=dm) w bS:=cZ.trans al
 have cN:=al.aB bg ac
 have cK:TF ae [1] (fun q=>q=dm):=TF.eq (xE a0.choose_spec.1.wV.choose_spec.1) aw
 have c5:=cX c4 al cK aw
 exact nl<|bn<|aX<|rg aa<|p (bL ((j+1:Nat):Int) aa aa<|bm ab ab)<|p mv<|nl<|tn<|⟨_,ab,j+1,_,_,ab,cY,c2,(cz.congr aL),cN,c5,aa,aa,aa,aa,(by first | rfl | exact congrArg str ap),aa,aa,aa,aa,aa,aa,aa⟩
 have aL:=M2 (xs:=xs) (wd:=wd) (word:=word) (p:=pp) (S:=S) (i:=i) (j:=j) (show eV (F.rules.getD _ dd) sm=none by rw [bJ]; simpa using aI)
 exact aR<|bn<|aX<|rg aa<|p (bL ((j+1:Nat):Int) aa aa<|bm ab ab)<|p mv<|nl<|tn<|⟨_,ab,j+1,_,_,ab,bz,bF,(a3.congr aL),aM,bI,aa,aa,aa,aa,(by first | rfl | exact congrArg str ap),aa,aa,aa,aa,aa,aa,aa⟩
 exact ext<|bh<|bh<|be<|bn<|av<|rg aa<|p (bL ((i+1:Nat):Int) aa aa<|bm ab ab)<|p mv<|nl<|tn<|⟨_,ab,i+1,_,_,ab,Z,bG,(a5.congr<|by rw [show j=(ek F F.rules.length i).length by omega]; exact M1 G cW aS),br,aa,aa,aa,aa,aa,aa,aa⟩
 refine ext<|bh<|bh<|be<|f0 aa ?_
 obtain rfl :i=F.rules.length:=ab
 exact ⟨aa,a4,bB⟩
structure jJ (w:World) (B:Nat) (f:Value→Option Value) (Pz:Nat→List Nat):Prop where
 own:∀ z:Nat,bq w B 3 1 ((f<|.int .i64 (z:Nat)).getD<|bE none 0 0) (Pz z).length ((Pz z).map fA)
 sep:∀ (z y k:Nat),z≠y→((f<|.int .i64 (z:Nat)).getD<|bE none 0 0).ownBlock=some k→((f<|.int .i64 (y:Nat)).getD<|bE none 0 0).ownBlock≠some k
theorem jJ.md {G:Nat→Prop} {w w':World} {B:Nat} {f:Value→Option Value} {a:Nat→List Nat} (h:jJ w B f a) (hm:Md G w w') (c:∀ k,G k→∀ cur z,w.heap[k]?≠some (.cells cur 3 z)):jJ w' B f a:=
 ⟨fun z=>cx (h.own z) hm (fun k hk A=>nm (h.own z) hk fun cur y q=>c k A cur y q),h.sep⟩
theorem jJ.wk {w w':World} {B:Nat} {f:Value→Option Value} {a:Nat→List Nat} (h:jJ w B f a) (hm:Wk w w'):jJ w' B f a:=h.md hm fun _ h=>h.elim
theorem jJ.congr {w:World} {B:Nat} {f:Value→Option Value} {a c:Nat→List Nat} (h:jJ w B f a) (he:∀ z,c z=a z):jJ w B f c:=by rw [show c=a from funext he]; exact h
theorem jJ.nil (w:World) (B:Nat):jJ w B (fun _=>none) (fun _=> []):=⟨fun z=>dS _ _ _ _,fun z y k _ h=>by cases h⟩
theorem wH {a b:Nat} (h:fG .i64 (a:Nat)= .int .i64 (b:Nat)):a=b:=by injection h with _ h; omega
theorem jJ.put {w C V:World} {B mb z0 i:Nat} {f:Value→Option Value} {c:Nat→List Nat} {v:Value} (h:jJ w B f c) (hm:Md (fun k=>((f<|.int .i64 (z0:Nat)).getD<|bE none 0 0).ownBlock=some k) w C)
 (M:bq C B 3 1 v (c z0++ [i]).length ((c z0++ [i]).map fA)) (G:∀ k,v.ownBlock=some k→((f<|.int .i64 (z0:Nat)).getD<|bE none 0 0).ownBlock=some k∨w.heap.size≤k) (J:∀ cur z,C.heap[mb]?≠some (.cells cur 3 z)) (I:Md (fun k=>k=mb) C V):
 jJ V B (bA f (.int .i64 (z0:Nat)) v) (fun z=>if z=z0 then c z++ [i] else c z):=by
 refine ⟨fun z=> ?_,fun z y k A hk=> ?_⟩
 · by_cases a:z=z0
   · subst a
     rw [mA,if_pos rfl]
     exact cx M I fun k hk q=>nm M hk fun cur y E=>J cur y<|q ▸ E
   · rw [kU (fun e=>a<|wH e),if_neg a]
     have h1:=cx (h.own z) hm fun k hk q=>h.sep z0 z k (fun e=>a e.symm) q hk
     exact cx h1 I fun k hk q=>nm h1 hk fun cur y E=>J cur y<|q ▸ E
 · by_cases a:z=z0
   · subst a
     rw [mA] at hk
     rw [kU (fun e=>A (wH e).symm)]
     rcases G k hk with h1 | h1
     · exact h.sep z y k A h1
     · exact fun h2=>by have :=(cV (h.own y) h2).2; omega
   · rw [kU (fun e=>a<|wH e)] at hk
     by_cases O:y=z0
     · subst O
       rw [mA]
       intro h2
       rcases G k h2 with h1 | h1
       · exact h.sep z y k A hk h1
       · have :=(cV (h.own z) hk).2; omega
     · rw [kU (fun e=>O<|wH e)]
       exact h.sep z y k A hk
theorem P7 (F:aC) (i z:Nat):ek F (i+1) z=ek F i z++(if z∈aK F (bH F (i:Int)) 2 then [i] else []):=by
 unfold ek
 rw [List.range_succ,List.filter_append]
 congr 1
 by_cases h:z∈aK F (bH F (i:Int)) 2
 · rw [if_pos h,qh,if_pos (decide_eq_true h)]; rfl
 · rw [if_neg h,qh,if_neg (by simpa using h)]; rfl
def nb (F:aC) (i j z:Nat):List Nat:=ek F i z++(if z∈(aK F (bH F (i:Int)) 2).take j then [i] else [])
theorem QP (F:aC) (i z:Nat):nb F i 0 z=ek F i z:=by unfold nb; rw [List.take_zero,if_neg (fun h=>by cases h),ep]
theorem QN (F:aC) (i z:Nat):ek F (i+1) z=nb F i (aK F (bH F (i:Int)) 2).length z:=by unfold nb; rw [JS,P7]
theorem QO {F:aC} {i j:Nat} (c:j < (aK F (bH F (i:Int)) 2).length) (z:Nat):nb F i (j+1) z=if z=(aK F (bH F (i:Int)) 2).getD j 0 then nb F i j z++ [i] else nb F i j z:=by
 unfold nb
 have hs:((aK F (bH F (i:Int)) 2).take<|j+1)=(aK F (bH F (i:Int)) 2).take j++ [(aK F (bH F (i:Int)) 2).getD j 0]:=kX _ j 0 c
 have q:(aK F (bH F (i:Int)) 2).Nodup:=(AL F _ 2).imp fun h=>ab
 have A:(aK F (bH F (i:Int)) 2).getD j 0∉(aK F (bH F (i:Int)) 2).take j:=fun hm=>by
  have h2:=(List.take_sublist (j+1)<|aK F (bH F (i:Int)) 2).nodup q
  rw [hs,List.nodup_append] at h2
  exact h2.2.2 _ hm _ (iS.2 aa) aa
 rw [hs]
 by_cases a:z=(aK F (bH F (i:Int)) 2).getD j 0
 · subst a
   rw [if_pos rfl,if_pos (uY _<|iS.2 rfl),if_neg A,ep]
 · rw [if_neg a]
   congr 1
   have :z∈(aK F (bH F (i:Int)) 2).take j++ [(aK F (bH F (i:Int)) 2).getD j 0]↔z∈(aK F (bH F (i:Int)) 2).take j:=by
    rw [js,iS]; exact ⟨fun h=>h.resolve_right a,.inl⟩
   by_cases hm:z∈(aK F (bH F (i:Int)) 2).take j
   · rw [if_pos hm,if_pos (this.2 hm)]
   · rw [if_neg hm,if_neg (fun h=>hm<|this.1 h)]
theorem U0 (B tb:Nat) (U:ej) (F:aC) (xs:List bj) (w:World) (ax:dT w B tb U F xs) (am:dW F xs):
 bf ao 57 (ba [aU tb]) w (fun v w'=> ∃ kb ar cr rn fm dm,v=aU kb∧j4 w w' B kb tb U F xs ar cr rn fm dm∧jt w'.heap dm (fun _=>False)∧Wk w w'):=by
 have cC:=am.len
 refine enter func57 aa ntmps57 aa<|ak fun bs=>ay<|bs<|ak fun bx=>p mv<|p mv<|p (nc aa)<|p (fa tM aa)<|p (ld eX aa<|(a7 ax.cells).trans aa)<|e<|cl tw (tg B U.fb U.mc F U.V w ax.fl (by have :=am.len; omega) am.nx) aa fun v12 cK bR=> ?_
 obtain ⟨⟨⟨v9,v10,v11,v12,sa,rn⟩,rfl,hax⟩,hE12⟩:=bR
 obtain ⟨ar,cr,aW⟩:=cT hax.eo
 have aW:v12=_:=aW
 subst aW
 have cD:=hE12.size
 have ca:rn.length=F.rules.length:=by have :=hax.nx.1; rwa [e8] at this
 have cb:∀ u∈rn,u.oneCell'=true :=fun u hu=>List.all_eq_true.1 (vw hax.nx) u hu
 have b8:=hax.eo
 refine p (zI zJ aa aa)<|e<|qM fun A cL cu a2 bI=> ?_
 have cE:=a2.size
 refine e<|qM fun G cM cv aO bJ=> ?_
 have cF:=aO.size
 refine p (di (ps:= [(0,aU tb),(1,.slice ar F.rules.length cr),(2,.map (some A)),(3,.map (some G))]) (L:= [aU tb,.slice ar F.rules.length cr,.map (some A),.map (some G)]) VA aa<|aa)<|e<|pG aa fun E Y cw aq aZ=> ?_
 have cG:=aq.size
 have a0:=(a2.md.trans aO.md).trans aq.md
 have aN:=hE12.trans a0
 have bi:Y.heap[A]? =some (.map #[] 0):=Wk.aB (aO.md.trans aq.md) bI
 have b4:Y.heap[G]? =some (.map #[] 0):=Wk.aB aq.md bJ
 have b9:=a8 b8 a0
 refine ay<|bx<|az fun bz=>ak fun bB=>p mv<|p (nc aa)<|p (fa wj aa)<|p (ld jM aa<|(a7 aZ).trans aa)<|p (bP pX aa aa)<|p mv<|nl<|bB<|aB<|lp (fun ad al J=> ∃ (i:Nat) (f:Value→Option Value),(i≤F.rules.length)∧(Md (fun k=>k=A) Y J)∧(bS J.heap A (jQ .i64) f)∧(jJ J Y.heap.size f fun z=>ek F i z)∧(J.heap[E]? =some (.cells [aU tb,.slice ar F.rules.length cr,.map (some A),.map (some G)].toArray 132 (0,0)))∧(al 0=aU tb)∧(al 3=aU E)∧(al 22=aj (F.rules.length))∧(al 23=aj i)∧(F.rules.length - i=ad)) _ ⟨0,_,ab,(Md.refl _ _),(bS.nil bi),((jJ.nil _ _).congr fun z=>rfl),aZ,aa,aa,aa,aa,aa⟩ ?_
 rintro ad al J ⟨i,f,hi,ac,bk,aA,a5,cc,cg,ce,cf,rfl⟩
 refine fx 0 cc<|fx 3 cg<|fx 22 ce<|fx 23 cf ?_
 have bX:Wk w J:=aN.trans' ac fun k hk h=>by omega
 refine ak fun bC=>p (lt aa aa)<|nl<|bC<|az fun bD=>cd aa (fun b2=> ?_) fun b2=> ?_
 refine aR<|bD<|az fun aI=>aB<|ak fun bF=>au (aj i)<|p (cj (aj i) aa)<|nl<|bF<|ak fun bG=>au (aU tb)<|au (aj i)<|e<|cl zb (Bg B tb U F xs (i:Nat) J (ax.wk bX) am) aa fun v28 aY bT=> ?_
 obtain ⟨aV,ae⟩:=bT
 obtain ⟨aL,aM,rfl⟩:=cT aV
 have cH:=ae.size
 have cB:=si F (bH F (i:Int)) 2
 refine p (bP oQ aa aa)<|p mv<|nl<|bG<|aB<|lp (fun ad O M=> ∃ (j:Nat) (g:Value→Option Value),(j≤(aK F (bH F (i:Int)) 2).length)∧(Md (fun k=>k=A) Y M)∧(bS M.heap A (jQ .i64) g)∧(jJ M Y.heap.size g fun z=>nb F i j z)∧(M.heap[E]? =some (.cells [aU tb,.slice ar F.rules.length cr,.map (some A),.map (some G)].toArray 132 (0,0)))∧(bq M J.heap.size 3 1 (.slice aL (aK F (bH F (i:Int)) 2).length aM) (aK F (bH F (i:Int)) 2).length<|(aK F (bH F (i:Int)) 2).map fA)∧(∀ (z k:Nat),((g<|aj z).getD<|bE none 0 0).ownBlock=some k→k < J.heap.size∨aY.heap.size≤k)∧(aY.heap.size≤M.heap.size)∧(O 0=aU tb)∧(O 3=aU E)∧(O 4=aj i)∧(O 22=aj (F.rules.length))∧(O 23=aj i)∧(O 28= .slice aL (aK F (bH F (i:Int)) 2).length aM)∧(O 29= .int .i64 ((aK F (bH F (i:Int)) 2).length:Nat))∧(O 30=aj j)∧((aK F (bH F (i:Int)) 2).length - j=ad)) _ ⟨0,f,ab,(ac.trans' ae fun _ _ h=>h.elim),(bk.wk ae),((aA.wk ae).congr fun z=>QP F i z),(Wk.aB ae a5),aV,(fun z k hk=> .inl (cV (aA.own z) hk).2),(cz _),aa,aa,aa,aa,aa,aa,aa,aa,aa⟩ ?_
 rintro ad O M ⟨j,g,cA,aT,aE,Z,aP,aF,aS,cs,ch,co,cq,ci,ck,cm,cn,cp,rfl⟩
 refine fx 0 ch<|fx 3 co<|fx 4 cq<|fx 22 ci<|fx 23 ck<|fx 28 cm<|fx 29 cn<|fx 30 cp<|ak fun bt=>p (lt aa aa)<|nl<|bt<|az fun bu=>cd aa (fun b3=> ?_) fun b3=> ?_
 refine aR<|bu<|az fun bv=>aB<|ak fun bw=>p (bd oH aa aa ab<|aG.ok ((a6 aF).2)<|db ab)<|p (ld bO aa<|aG.jk (i:=j) (a6 aF).2<|r6 ab)<|ay<|bw ?_
 have bg:(nb F i j<|(aK F (bH F (i:Int)) 2).getD j 0).length≤F.rules.length+1:=by
  have :=o8 (fun q:Nat=>decide (((aK F (bH F (i:Int)) 2).getD j 0)∈aK F (bH F (q:Int)) 2))<|fI i
  unfold nb ek; rw [bK]; rw [sX] at this; split <;> simp only [iR,fZ] <;> omega
 have C:(fun w'=>w'.heap[E]? =some (.cells [aU tb,.slice ar F.rules.length cr,.map (some A),.map (some G)].toArray 132 (0,0))∧bS w'.heap A (jQ .i64) g) M.drew:=⟨aP,aE⟩
 refine eL (fun w'=>w'.heap[E]? =some (.cells [aU tb,.slice ar F.rules.length cr,.map (some A),.map (some G)].toArray 132 (0,0))∧bS w'.heap A (jQ .i64) g) 14 aa wide C<|lq 0 aa ag (fun _ _=>aJ (aU E) aa) C<|lq 1 aa ag (fun _ _=>nc aa) C<|lq 2 aa ag (fun _ _=>fa zX aa) C<|lq 3 aa ag (fun w' ai=>ld yF aa<|(a7 ai.1).trans aa) C<|lq 4 aa ag (fun _ _=>mv) C<|lq 5 aa ag (fun _ _=>aJ (aU E) aa) C<|lq 6 aa ag (fun _ _=>nc aa) C<|lq 7 aa ag (fun _ _=>fa zX aa) C<|lq 8 aa ag (fun w' ai=>ld yF aa<|(a7 ai.1).trans aa) C<|lq 9 aa ag (fun _ _=>mv) C<|lq 10 aa ag (fun w' ai=>lh Bz xS Ar (ai.2) aa aa (⟨_,aa⟩)<|aa) C<|lq 11 aa ag (fun _ _=>aJ (aj i) aa) C<|ja 12 aa ag<|lK nq aa aa fun ct bp cy av bM=> ?_
 have cI:=av.size
 have I:Wk M bp:=(Md.refl _ M).drew.trans av.md
 have bU:(fun w'=>w'.heap[E]? =some (.cells [aU tb,.slice ar F.rules.length cr,.map (some A),.map (some G)].toArray 132 (0,0))∧bS w'.heap A (jQ .i64) g) bp:=⟨Wk.aB av.md C.1,C.2.wk av.md⟩
 refine ⟨bU,?_⟩
 refine ja 13 aa ag<|ap nq (a8 (Z.own<|(aK F (bH F (i:Int)) 2).getD j 0) I) aa (by have :=I.size; have :=aT.size; omega) aa (aG.fV bM) (aa) (aa) (by have :=bg; omega) (by have :=bg; omega) fun aX aH b6 ah cJ bb=> ?_
 have a4:aH.heap[E]? =some (.cells [aU tb,.slice ar F.rules.length cr,.map (some A),.map (some G)].toArray 132 (0,0)):=ah.gT (TF.own (L:= [5]) (a8 (Z.own<|(aK F (bH F (i:Int)) 2).getD j 0) I) aw) (Wk.aB I aP) aw
 have aD:bS aH.heap A (jQ .i64) g:=(aE.wk I).md ah fun hk=>nm (a8 (Z.own<|(aK F (bH F (i:Int)) 2).getD j 0) I) hk fun cur z aQ=>(aE.wk I).nj aQ
 have bV:(fun w'=>w'.heap[E]? =some (.cells [aU tb,.slice ar F.rules.length cr,.map (some A),.map (some G)].toArray 132 (0,0))∧bS w'.heap A (jQ .i64) g) aH:=⟨a4,aD⟩
 refine ⟨bV,?_⟩
 refine dq 14 aa ag ag<|qV Bz Ar (aD) aa aa aa (⟨_,aa⟩) fun br an bQ=> ?_
 have a1:Md (fun k=>k=A∨((g<|.int .i64 ((((aK F (bH F (i:Int)) 2).getD j 0):Nat):Int)).getD<|bE none 0 0).ownBlock=some k) M br:=((I.mono fun _ _ h=>h.elim).trans<|ah.mono fun k _ h=> .inr h).trans<|an.mono fun k _ h=> .inl h
 have b0:=Z.own<|(aK F (bH F (i:Int)) 2).getD j 0
 have bN:Md (fun k=>k=A) Y br:=aT.trans' a1 fun k hk h=>h.elim id fun h2=>by have :=(cV b0 h2).1; omega
 have b1:=jJ.put (i:=i) (Z.wk I) ah (by rw [bK,iw]; exact b6) bb (fun cur z aQ=>aD.nj aQ) an
 have a3:TF aH [1] (fun k=>k=A):=TF.eq (xE aD.choose_spec.1) aw
 have bY:=an.gT a3 a4 aw
 have b5:∀ k,(bE aL (aK F (bH F (i:Int)) 2).length aM).ownBlock=some k→((g<|.int .i64 ((((aK F (bH F (i:Int)) 2).getD j 0):Nat):Int)).getD<|bE none 0 0).ownBlock≠some k:=fun k hk h2=>by
  have h3:=cV aF hk
  have h4:=cV aV hk
  have h5:=aS _ k h2
  omega
 have b7:=cX (cx (a8 aF I) ah fun k hk h2=>b5 k hk h2) an a3 aw
 have bZ:∀ (z k:Nat),((bA g (.int .i64 ((((aK F (bH F (i:Int)) 2).getD j 0):Nat):Int)) aX<|aj z).getD<|bE none 0 0).ownBlock=some k→k < J.heap.size∨aY.heap.size≤k:=fun z k hk=>by
  by_cases bo:(fG .i64 (z:Nat))=(.int .i64 ((((aK F (bH F (i:Int)) 2).getD j 0):Nat):Int))
  have hk:((bA g (.int .i64 ((((aK F (bH F (i:Int)) 2).getD j 0):Nat):Int)) aX<|.int .i64 ((((aK F (bH F (i:Int)) 2).getD j 0):Nat):Int)).getD<|bE none 0 0).ownBlock=some k:=(congrArg (fun q=>((bA g (.int .i64 ((((aK F (bH F (i:Int)) 2).getD j 0):Nat):Int)) aX q).getD<|bE none 0 0).ownBlock) bo).symm.trans hk
  rw [mA] at hk
  rcases bb k hk with h1 | h1
  exact aS _ k h1
  have :=I.size; have :=cs; exact .inr ab
  rw [kU bo] at hk; exact aS z k hk
 exact eK ag<|bn<|bv<|rg aa<|p (bL ((j+1:Nat):Int) aa aa<|bm ab ab)<|p mv<|nl<|tn<|⟨_,ab,j+1,_,ab,bN,bQ,(b1.congr fun z=>QO ab z),bY,b7,bZ,(by have :=a1.size; omega),aa,aa,aa,aa,aa,aa,aa,aa,aa⟩
 exact ext<|bh<|bh<|be<|bn<|aI<|rg aa<|p (bL ((i+1:Nat):Int) aa aa<|bm ab ab)<|p mv<|nl<|tn<|⟨_,ab,i+1,_,ab,aT,aE,(Z.congr fun z=>by rw [show j=(aK F (bH F (i:Int)) 2).length by omega]; exact QN F i z),aP,aa,aa,aa,aa,aa⟩
 refine ext<|bh<|bh<|be<|bz<|ak fun aI=>au (aU E)<|p (cj (aU E) aa)<|nl<|aI<|rt<|bc aa ?_
 obtain rfl :i=F.rules.length:=ab
 have bW:TF Y [1] (fun k=>k=A):=TF.eq (by unfold tag; rw [bi]) aw
 have bl:G≠A:=ab
 have a9:J.heap[G]? =some (.map #[] 0):=ac.aB b4 bl
 exact ⟨E,ar,cr,rn,A,G,aa,⟨ax,aN.trans' ac (fun k hk h=>by omega),ab,a5,⟨_,cX b9 ac bW aw⟩,ca,cb,⟨f,bk,fun z _=>by obtain ⟨a,c,h1⟩:=cT (aA.own z); exact ⟨a,c,_,h1,h1 ▸ aA.own z⟩⟩,fun h=>bl h.symm,⟨_,_,a9⟩⟩,⟨_,kp.nil a9,fun d=>⟨(fun h=>by cases h),fun h=>h.elim⟩,fun k v h=>by cases h⟩,aN.trans' ac fun k hk h=>by omega⟩
end Go.Hb
end
section
namespace Go.Hb.tc
def ig (a b:Int):Int:=if a < b then -1 else if a > b then 1 else 0
def lk:List Int→Int
 | []=>0
 | x::l=>if x≠0 then x else lk l
def nY (a b:bu):Int:=lk [ig a.dw b.dw,ig a.fst b.fst,ig a.snd b.snd,ig a.pre b.pre]
def ke (a b:bu):Prop :=(a.dw:Int) < b.dw∨((a.dw:Int)=b.dw∧(a.fst < b.fst∨(a.fst=b.fst∧(a.snd < b.snd∨(a.snd=b.snd∧a.pre < b.pre)))))
theorem NZ (a b:Int):ig a b < 0↔a < b:=by
 unfold ig
 repeat' split
 all_goals omega
theorem NY (a b:Int):ig a b=0↔a=b:=by
 unfold ig
 repeat' split
 all_goals omega
theorem TM {x:Int} {l:List Int} (h:x≠0):lk (x::l)=x:=if_pos h
theorem TL {x:Int} {l:List Int} (h:¬x≠0):lk (x::l)=lk l:=if_neg h
theorem TK (x:Int) (l:List Int):lk (x::l) < 0↔(x < 0∨(x=0∧lk l < 0)):=by show (if x≠0 then x else lk l) < 0↔_; split <;> omega
theorem TN (a b:bu):nY a b < 0↔ke a b:=by
 have c:¬lk [] < 0:=by unfold lk; omega
 unfold nY ke
 simp only [TK,NZ,NY,c,and_false,or_false]
instance XC:Inhabited bu:=⟨⟨[],0,0,0,0⟩⟩
theorem Gy (a b:bu):uO nY a b=true↔ke a b:=by unfold uO; rw [decide_eq_true_iff]; exact TN a b
theorem AB (a b:bu):uO nY a b=false↔¬ke a b:=by rw [← Gy]; cases uO nY a b <;> simp
theorem VT:Go.Sort.SWO (uO nY) where
 irrefl x:=by rw [AB]; unfold ke; omega
 trans x y z h1 h2:=by rw [Gy] at*; unfold ke at*; omega
 ntrans x y z h1 h2:=by rw [AB] at*; unfold ke at*; omega
def Uu:Go.Shelf.Ren:=⟨fun n=>if n=6 then 60 else if n=14 then 105 else if n=15 then 66 else if n=20 then 169 else if n=21 then 170 else if n=22 then 171 else if n=23 then 172 else if n=24 then 173 else if n=25 then 174 else if n=26 then 175 else if n=27 then 176 else if n=28 then 123 else if n=29 then 124 else if n=46 then 222 else if n=47 then 184 else if n=48 then 185 else if n=49 then 223 else if n=50 then 224 else if n=57 then 260 else 0,fun n=>if n=0 then 0 else if n=3 then 3 else if n=4 then 4 else if n=5 then 5 else if n=9 then 9 else if n=22 then 29 else if n=25 then 137 else if n=39 then 145 else if n=45 then 232 else if n=46 then 233 else if n=50 then 237 else if n=53 then 240 else if n=55 then 242 else if n=66 then 287 else if n=70 then 291 else if n=76 then 335 else if n=77 then 219 else if n=24 then 49 else 0,fun n=>n⟩
theorem Gh:Xw ao Uu where
 mixed:=ag
 f6:= .intro "slices.SortFunc[[]hornbook/api.Derived,hornbook/api.Derived]" ⟨ag,ag⟩
 f14:= .intro "slices.pdqsortCmpFunc[hornbook/api.Derived]" ⟨ag,ag⟩
 f15:=ag
 f20:= .intro "slices.insertionSortCmpFunc[hornbook/api.Derived]" ⟨ag,ag⟩
 f21:= .intro "slices.heapSortCmpFunc[hornbook/api.Derived]" ⟨ag,ag⟩
 f22:= .intro "slices.breakPatternsCmpFunc[hornbook/api.Derived]" ⟨ag,ag⟩
 f23:= .intro "slices.choosePivotCmpFunc[hornbook/api.Derived]" ⟨ag,ag⟩
 f24:= .intro "slices.reverseRangeCmpFunc[hornbook/api.Derived]" ⟨ag,ag⟩
 f25:= .intro "slices.partialInsertionSortCmpFunc[hornbook/api.Derived]" ⟨ag,ag⟩
 f26:= .intro "slices.partitionEqualCmpFunc[hornbook/api.Derived]" ⟨ag,ag⟩
 f27:= .intro "slices.partitionCmpFunc[hornbook/api.Derived]" ⟨ag,ag⟩
 f28:=ag
 f29:=ag
 f46:= .intro "slices.siftDownCmpFunc[hornbook/api.Derived]" ⟨ag,ag⟩
 f47:=ag
 f48:=ag
 f49:= .intro "slices.medianAdjacentCmpFunc[hornbook/api.Derived]" ⟨ag,ag⟩
 f50:= .intro "slices.medianCmpFunc[hornbook/api.Derived]" ⟨ag,ag⟩
 f57:= .intro "slices.order2CmpFunc[hornbook/api.Derived]" ⟨ag,ag⟩
 t0:=ag
 a0:=fun _=>ag
 z0:=fun _=>ag
 v0:=fun _=>ag
 t3:=ag
 a3:=fun _=>ag
 z3:=fun _=>ag
 v3:=fun _=>ag
 t4:=ag
 a4:=fun _=>ag
 z4:=fun _=>ag
 v4:=fun _=>ag
 t5:=ag
 a5:=fun _=>ag
 z5:=fun _=>ag
 v5:=fun _=>ag
 t9:=ag
 a9:=fun _=>ag
 z9:=fun _=>ag
 v9:=fun _=>ag
 t22:=ag
 a22:=fun _=>ag
 z22:=fun _=>ag
 v22:=fun _=>ag
 t25:=ag
 a25:=fun _=>ag
 z25:=fun _=>ag
 v25:=fun _=>ag
 t39:=ag
 a39:=fun _=>ag
 z39:=fun _=>ag
 v39:=fun _=>ag
 t45:=ag
 a45:=fun _=>ag
 z45:=fun _=>ag
 v45:=fun _=>ag
 t46:=ag
 a46:=fun _=>ag
 z46:=fun _=>ag
 v46:=fun _=>ag
 t50:=ag
 a50:=fun _=>ag
 z50:=fun _=>ag
 v50:=fun _=>ag
 t53:=ag
 a53:=fun _=>ag
 z53:=fun _=>ag
 v53:=fun _=>ag
 t55:=ag
 a55:=fun _=>ag
 z55:=fun _=>ag
 v55:=fun _=>ag
 t66:=ag
 a66:=fun _=>ag
 z66:=fun _=>ag
 v66:=fun _=>ag
 t70:=ag
 a70:=fun _=>ag
 z70:=fun _=>ag
 v70:=fun _=>ag
 t76:=ag
 a76:=fun _=>ag
 z76:=fun _=>ag
 v76:=fun _=>ag
 t77:=ag
 a77:=fun _=>ag
 z77:=fun _=>ag
 v77:=fun _=>ag
section
open Go.Sort Go.ChangeShapes Go.WideShapes
variable {w:World} {g n:Nat} {os:Array Obj} {cur:Array Value} {e:TypeId}
theorem Rr {L:List Value} (a:w.heap[g]? =some (.cells cur e (0,0))) (A:cur.toList.take L.length=L):Holds id w g 0 L.toArray:=by
 intro j q
 have c:j < L.length:=by simpa using q
 refine ⟨?_,by simp [World.frozen?,a]⟩
 have h1:(cur.toList.take L.length)[j]? =L[j]? :=by rw [A]
 rw [JH c] at h1
 simp only [World.cell?,a,fQ]
 simp only [Option.isSome_none,IY,if_false]
 rw [← uE,h1]
 simp [c]
theorem Ro (d:Array Value) (a:w.heap[g]? =some (.cells cur e (0,0))):(grow (putRow id (uP w n) g 0 d) os).heap[g]? =some (.cells (putCells id 0 d cur) e (0,0)):=by
 have c:g < w.heap.size:=(bY.1 a).1
 rw [heap_grow_old _ _ (by simpa using c)]
 simp [putRow,mapBlock,uP,IT,a,onCells]
theorem QY (d:Array Value):w.grownBy (grow (putRow id (uP w n) g 0 d) os) (some g):=by
 refine ⟨aa,aa,aa,by simp,fun k hk a=> ?_⟩
 rw [heap_grow_old _ _ (by simpa using hk)]
 have :g≠k:=fun e=>a<|by rw [e]
 simp [putRow,mapBlock,uP,IT,this]
theorem V6 (cur:Array Value) (L:List Value) (h:L.length≤cur.size):(putCells id 0 L.toArray cur).toList.take L.length=L:=by
 apply List.ext_getElem?
 intro j
 by_cases a:j < L.length
 · rw [JH a,uE]
   simp [putCells,a,show j < cur.size by omega]
 · rw [List.getElem?_take_eq_none ab,List.getElem?_eq_none ab]
theorem Fb (L:List bu):flatK cB 5 L.toArray=(dI L).toArray:=by
 have q:(dI L).length=L.length*5:=mr (f:=cB) (m:=5) (fun _=>rfl) L
 apply Array.ext_getElem?
 intro t
 by_cases a:t < L.length*5
 · have c:t / 5 < L.length:=ab
   have h1:(dI L)[t]? =(cB L[t / 5])[t % 5]? :=by
    have :=wc (f:=cB) (m:=5) (fun _=>rfl) (bW c) (show t % 5 < 5 by omega)
    rwa [show t / 5 *5 +t % 5=t by omega] at this
   have h2:=get_flatK cB 5 L.toArray t<|by simpa using a
   have h3:(flatK cB 5 L.toArray)[t]? =some (flatK cB 5 L.toArray)[t]! :=by
    rw [Array.getElem?_eq_getElem (by simpa using a),getElem!_pos _ _ (by simpa using a)]
   rw [h3,h2,List.getElem?_toArray,h1,show L.toArray[t / 5]! =L[t / 5] by simp [c]]
   rw [bW (show t % 5 < (cB L[t / 5]).length by show t % 5 < 5; omega),getElem!_pos (cB L[t / 5]) (t % 5) (show t % 5 < (cB L[t / 5]).length by show t % 5 < 5; omega)]
 · rw [p7 (by simp; omega),p7 (by simp; omega)]
end
theorem F7 (a:Int) (w:World):
 bf ao 177 (ba [.int .i64 a]) w (fun v w'=>v= .bool false∧w'=w):=by
 exact enter func177 aa ntmps177 aa<|ak fun c=>ay<|c<|ak fun q=>au (.int .i64 a)<|au (.int .i64 a)<|p (gE aa aa)<|ay<|q<|rt<|bc aa<|⟨congrArg bU (decide_eq_false fun h=>h aa),aa⟩
theorem vK (a b:Int) (w:World):
 bf ao 107 (ba [.int .i64 a,.int .i64 b]) w (fun v w'=>v= .int .i64 (ig a b)∧w'=w):=by
 refine enter func107 aa ntmps107 aa<|ak fun A=>ay<|A<|ak fun E=>au (.int .i64 a)<|e<|cl Dl (F7 a w) aa fun ad ac ab=> ?_
 obtain ⟨rfl,rfl⟩:=ab
 refine ay<|E<|ak fun G=>au (.int .i64 b)<|e<|cl Dl (F7 b ac) aa fun v10 ae Z=> ?_
 obtain ⟨rfl,rfl⟩:=Z
 refine ay<|G<|az fun I=>ak fun J=>p mv<|nl<|J<|cf aa<|aR<|I<|az fun M=>ak fun O=>p mv ?_
 refine nl<|O<|cf aa<|aR<|M<|az fun V=>ak fun Y=>au (.int .i64 a)<|au (.int .i64 b)<|p (lt aa aa)<|nl<|Y<|cd aa (fun h1=> ?_) fun h1=> ?_
 exact ak fun c=>ay<|c<|rt<|tr<|bc aa<|⟨congrArg (fG .i64) (show (-1:Int)=ig a b by unfold ig; rw [if_pos h1]),aa⟩
 refine aR<|V<|az fun c=>ak fun C=>au (.int .i64 a)<|au (.int .i64 b)<|p (gt aa aa)<|nl<|C<|cd aa (fun h2=> ?_) fun h2=> ?_
 exact ak fun q=>ay<|q<|rt<|tr<|bc aa<|⟨congrArg (fG .i64) (show (1:Int)=ig a b by unfold ig; rw [if_neg h1,if_pos h2]),aa⟩
 exact aR<|c<|ak fun q=>ay<|q<|rt<|bc aa<|⟨congrArg (fG .i64) (show (0:Int)=ig a b by unfold ig; rw [if_neg h1,if_neg h2]),aa⟩
theorem TJ (l:List Int) (a:Option Addr) (c:Nat) (w:World) (I:aG w.heap a (l.map<|fG .i64)) (av:l.length≤1000):
 bf ao 106 (ba [.slice a l.length c]) w (fun v w'=>v= .int .i64 (lk l)∧w'=w):=by
 refine enter func106 aa ntmps106 aa<|ak fun O=>ay<|O<|ak fun Y=>p aE<|nl<|Y<|az fun Z=>ak fun ac=>au (.slice a l.length c)<|p (bP oQ aa aa)<|p mv<|nl<|ac<|aB<|lp (fun G q M=> ∃ (i:Nat),(i≤l.length)∧(lk (l.drop i)=lk l)∧(M=w)∧(q 3= .int .i64 0)∧(q 6= .slice a l.length c)∧(q 7=aj (l.length))∧(q 8=aj i)∧(l.length - i=G)) _ ⟨0,ab,aa,aa,aa,aa,aa,aa,aa⟩ ?_
 rintro G q M ⟨i,hi,A,ai,am,an,ap,aq,rfl⟩
 refine fx 3 am<|fx 6 an<|fx 7 ap<|fx 8 aq ?_
 subst ai
 refine ak fun ad=>p (lt aa aa)<|nl<|ad<|az fun ae=>cd aa (fun al=> ?_) fun al=> ?_
 refine aR<|ae<|az fun C=>aB<|az fun ag=> ?_
 have J:l.drop i=l.getD i 0::l.drop (i+1):=by rw [List.drop_eq_getElem_cons (show i < l.length by omega),cR,bW (show i < l.length by omega)]; rfl
 refine rg aa<|p (bd oH aa aa ab<|aG.ok (I)<|db ab)<|p (ld bO aa<|aG.jk I (show (l.map<|fG .i64)[i]? =some (.int .i64<|l.getD i 0) by rw [fH,cR,bW (by omega :i < l.length)]; rfl)) ?_
 refine ay<|ag<|ak fun ah=>p mv<|au (.int .i64 0)<|p (gE aa aa)<|nl<|ah<|cd aa (fun E=> ?_) fun E=> ?_
 exact ak fun V=>p mv<|ay<|V<|rt<|br<|tr<|tr<|br<|tr<|bc aa<|⟨congrArg (fG .i64) (show l.getD i 0=lk l by rw [← A,J,TM E]),aa⟩
 exact aR<|bn<|C<|rg aa<|p (bL ((i+1:Nat):Int) aa aa<|bm ab ab)<|p mv<|nl<|tn<|⟨_,ab,i+1,ab,(by rw [← A,J,TL E]),aa,aa,aa,aa,aa,aa⟩
 refine ext<|bh<|bh<|be<|Z<|ak fun C=>au (.int .i64 0)<|p (cj (.int .i64 0) aa)<|nl<|C<|rt<|bc aa ?_
 rw [List.drop_eq_nil_of_le ab] at A
 exact ⟨by rw [← A]; rfl,aa⟩
def k4 (w w':World):Prop := ∃ q os,w'=Jn (w.drewN q) os
theorem k4.refl (w:World):k4 w w:=⟨0,#[],by simp [World.drewN]⟩
theorem k4.nw {w a c:World} (h:k4 w a) (hn:Nw a c):k4 w c:=by
 obtain ⟨q,os,rfl⟩:=h
 obtain ⟨o,rfl⟩:=hn.one
 exact ⟨q,os.push o,by simp [Jn]⟩
theorem k4.drew {w a:World} (h:k4 w a):k4 w a.drew:=by
 obtain ⟨q,os,rfl⟩:=h
 exact ⟨q+1,os,aa⟩
theorem TO (a b:bu) (w:World):
 bf ao 61 (ba [.agg (cB a).toArray,.agg (cB b).toArray]) w (fun v w'=>v= .int .i64 (nY a b)∧k4 w w'):=by
 refine enter func61 aa ntmps61 aa<|ak fun ap=>e<|iJ aa fun au aS C aL ax=> ?_
 have C:bD aS.heap au (cB a):=ax
 refine e<|iJ aa fun aw A E O aB=> ?_
 have E:bD A.heap aw (cB b):=aB
 have C:=Wk.B O.md C
 have aJ:=((k4.refl w).nw aL).nw O
 refine ay<|ap<|az fun aq=> ?_
 have c:(fun w'=>Wk A w') A.drew:=(Md.refl _ _).drew
 refine bT (fun w'=>Wk A w') aa wide c<|aH 0 aa (fun _ _=>fa oJ aa) c<|aH 1 aa (fun w' q=>ld bO aa<|Wk.aM q<|C.bp 1) c<|aH 2 aa (fun _ _=>fa oJ aa) c<|aH 3 aa (fun w' q=>ld bO aa<|Wk.aM q<|E.bp 1) c<|aH 5 aa (fun _ _=>fa lP aa) c<|aH 6 aa (fun w' q=>ld bO aa<|Wk.aM q<|C.bp 2) c<|aH 7 aa (fun _ _=>fa lP aa) c<|aH 8 aa (fun w' q=>ld bO aa<|Wk.aM q<|E.bp 2) c<|aH 10 aa (fun _ _=>fa lQ aa) c<|aH 11 aa (fun w' q=>ld bO aa<|Wk.aM q<|C.bp 3) c<|aH 12 aa (fun _ _=>fa lQ aa) c<|aH 13 aa (fun w' q=>ld bO aa<|Wk.aM q<|E.bp 3) c<|aH 15 aa (fun _ _=>fa nS aa) c<|aH 16 aa (fun w' q=>ld bO aa<|Wk.aM q<|C.bp 4) c<|aH 17 aa (fun _ _=>fa nS aa) c<|aH 18 aa (fun w' q=>ld bO aa<|Wk.aM q<|E.bp 4) c<|he 4 aa ag<|cl vE (vK (a.dw:Nat) (b.dw:Nat) A.drew) aa fun v9 J aR=> ?_
 obtain ⟨rfl,al⟩:=aR
 have aK:k4 w J:=al ▸ aJ.drew
 have ac:(fun w'=>Wk A w') J:=al ▸ c
 refine ⟨ac,?_⟩
 refine he 9 aa ag<|cl vE (vK a.fst b.fst J) aa fun aV G aN=> ?_
 obtain ⟨rfl,ae⟩:=aN
 have aC:k4 w G:=ae ▸ aK
 have ad:(fun w'=>Wk A w') G:=ae ▸ ac
 refine ⟨ad,?_⟩
 refine he 14 aa ag<|cl vE (vK a.snd b.snd G) aa fun aW I aO=> ?_
 obtain ⟨rfl,ah⟩:=aO
 have aD:k4 w I:=ah ▸ aC
 have V:(fun w'=>Wk A w') I:=ah ▸ ad
 refine ⟨V,?_⟩
 refine he 19 aa ag<|cl vE (vK a.pre b.pre I) aa fun v24 am aP=> ?_
 obtain ⟨rfl,ai⟩:=aP
 have aF:k4 w am:=ai ▸ aD
 have Y:(fun w'=>Wk A w') am:=ai ▸ V
 refine ⟨Y,?_⟩
 refine he 20 aa ag<|qy (L:= [.int .i64 (ig (a.dw:Nat) (b.dw:Nat)),.int .i64 (ig a.fst b.fst),.int .i64 (ig a.snd b.snd),.int .i64 (ig a.pre b.pre)]) nq aa aa aa aa fun av an aU M aA=> ?_
 have aI:=aF.nw M
 have Z:(fun w'=>Wk A w') an:=Y.trans M.md
 refine ⟨Z,?_⟩
 refine he 21 aa ag<|cl Lx (TJ [ig (a.dw:Nat) (b.dw:Nat),ig a.fst b.fst,ig a.snd b.snd,ig a.pre b.pre] (some ⟨av,0,none⟩) 4 an (aG.fV ⟨_,aA⟩)<|by show 4≤1000; omega) aa fun v26 aT aQ=> ?_
 obtain ⟨rfl,aj⟩:=aQ
 have ab:(fun w'=>Wk A w') aT:=aj ▸ Z
 refine ⟨ab,?_⟩
 exact aH 22 aa (fun _ _=>aE) ab<|hn ag<|aq<|rt<|bc aa<|⟨aa,aj ▸ aI⟩
section
open Go.Sort Go.ChangeShapes Go.WideShapes
theorem NX (aB size:Nat) (w:World):CmpLays ao 61 #[] cB 5 nY aB 0 size w:=by
 intro m os a _ x y
 refine jX (TO x y<|sortWorldK cB 5 w aB 0 m a os) ?_
 rintro e w' ⟨v,rfl,rfl,h⟩
 exact ⟨aa,h⟩
theorem Bo (L:List bu) (h:SortedIn (ltOf nY) 0 L.toArray.size L.toArray):L.Pairwise fun a b=> ¬ke b a:=by
 rw [List.pairwise_iff_getElem]
 intro i j hi c q
 have :=h i j (ki _) q<|by simpa using c
 rw [AB] at this
 simpa [hi,c] using this
theorem Vn (B n:Nat) (v:Value) (L:List bu) (w:World) (I:bq w B 49 5 v n (dI L)) (G:L.length=n) (hn:n < 4611686018427387904):
 bf ao 60 [v,.func (.func 61) #[] #[]].toArray w (fun ad w'=>ad= .tuple #[]∧∃ c:List bu,c.Perm L∧(c.Pairwise fun a b=> ¬ke b a)∧bq w' B 49 5 v n (dI c)∧Md (fun k=>v.ownBlock=some k) w w'):=by
 rcases I.2 with ⟨rfl,ae⟩ | ⟨g,cap,cur,rfl,J,C,h1,h2,h3,h4⟩
 · subst G
   have ac:L= []:=gx ab
   subst ac
   refine jX (AnyF.slices_SortFunc_none Gh none 0 _ w) ?_
   rintro e w' ⟨rfl,rfl⟩
   exact ⟨_,aa,aa,[],Jx _,List.Pairwise.nil,I,Md.refl _ _⟩
 · subst G
   have V:(dI L).length=L.length*5:=mr (f:=cB) (m:=5) (fun _=>rfl) L
   have hH:HoldsK cB 5 w g 0 L.toArray:=by
    show Holds id w g 0 (flatK cB 5 L.toArray)
    rw [Fb]
    exact Rr C<|by rw [V]; exact h4
   refine jX (AnyQ.slices_SortFunc Gh 5 (fun _=>by kernel_rfl) (fun _=>by kernel_rfl) cB (fun _=>rfl) (fun x u hu=> ?_) nY VT 61 #[] g 0 cap L.toArray w (fun args w=> ?_) (NX g _ w) hH (bY.1 C).1 (by simpa using hn)) ?_
   · simp only [cB,eB,List.not_mem_nil,or_false] at hu
     rcases hu with rfl | rfl | rfl | rfl | rfl <;> rfl
   · exact MI args w
   · rintro e w' ⟨rfl,d',m,os,hp,hs,rfl⟩
     obtain ⟨c,rfl⟩:∃ c:List bu,d'=c.toArray:=⟨d'.toList,by simp⟩
     have A:c.length=L.length:=by simpa using hp.1
     have Z:c.Perm L:=by
      have :=hp.2.2
      have M:List.take L.length c=c:=e9 ab
      have O:List.take c.length L=L:=e9 ab
      simpa [M,O] using this
     have hw:sortWorldK cB 5 w g 0 m c.toArray os=grow (putRow id (uP w m) g 0 (dI c).toArray) os:=by
      unfold sortWorldK putRowK; rw [Fb]
     rw [hw]
     have E:(dI c).length=c.length*5:=mr (f:=cB) (m:=5) (fun _=>rfl) c
     have q:=QY (w:=w) (g:=g) (n:=m) (os:=os) (dI c).toArray
     refine ⟨_,aa,aa,c,Z,Bo c (by rw [show c.toArray.size=L.toArray.size by simpa using A]; exact hs),⟨by rw [E,A],.inr ⟨g,cap,_,aa,J,Ro _ C,h1,h2,by simp [putCells,h3],?_⟩⟩,⟨q.os,q.output,q.size,fun k hk Y=>q.block k hk fun he=>Y ?_⟩⟩
     · rw [← A,← E]
       exact V6 cur (dI c)<|by rw [E,A]; omega
     · simp only [Value.ownBlock]; exact he.symm
end
end Go.Hb.tc
end
section
namespace Go.Hb
open Go.Hb.tc
noncomputable def gq (F:aC) (xs:List bj) (w:Tx):List bu:=(lI F xs xs.length).filter fun d=>decide (d.c5=w)
section
variable {F:aC} {xs:List bj} {wd:Tx} {i:Nat}
theorem U3 (d:bu):np F xs wd 0 d↔(False∨mU F xs wd wd (-1) F.rules.length d):=by
 unfold np
 exact ⟨fun h=> .inr (h.resolve_right fun ⟨i,_,h,_⟩=>by omega),fun h=> .inl<|h.resolve_left id⟩
theorem HA {r:cK} (q:F.rules[i]? =some r) (h:r.kind≠1∨eV r wd=none) (d:bu):np F xs wd (i+1) d↔np F xs wd i d:=by
 unfold np
 constructor
 · rintro (h1 | ⟨k,c,hk,a,h2,st,h3,h4⟩)
   · exact .inl h1
   · rcases pj.1 hk with hk | rfl
     · exact .inr ⟨k,c,hk,a,h2,st,h3,h4⟩
     · rw [q] at a; cases a
       rcases h with h | h
       · exact absurd h2 h
       · rw [h] at h3; cases h3
 · rintro (h1 | ⟨k,c,hk,h2⟩)
   · exact .inl h1
   · exact .inr ⟨k,c,ab,h2⟩
theorem U2 {r:cK} {rest:Tx} (A:F.rules[i]? =some r) (hk:r.kind=1) (hu:eV r wd=some rest) (d:bu):np F xs wd (i+1) d↔(np F xs wd i d∨mU F xs wd rest (i:Nat) F.rules.length d):=by
 unfold np
 constructor
 · rintro (h1 | ⟨k,q,a,c,h2,st,h3,h4⟩)
   · exact .inl<|.inl h1
   · rcases pj.1 a with a | rfl
     · exact .inl<|.inr ⟨k,q,a,c,h2,st,h3,h4⟩
     · rw [A] at c; cases c
       rw [hu] at h3; cases h3
       exact .inr h4
 · rintro ((h1 | ⟨k,q,a,h2⟩) | h1)
   · exact .inl h1
   · exact .inr ⟨k,q,ab,h2⟩
   · exact .inr ⟨i,r,ab,A,hk,rest,hu,h1⟩
end
theorem H9 {α:Type} (p q:α→Bool) (h:∀ x,p x=true→q x=false):∀ l:List α,(l.filter p).length+(l.filter q).length≤l.length
 | []=>cz _
 | x::l=>by
   have a:=H9 p q h l
   rw [qh,qh,bX]
   by_cases hp:p x=true
   · rw [if_pos hp,if_neg (by rw [h x hp]; exact dv),bX]; omega
   · rw [if_neg hp]
     split
     · rw [bX]; omega
     · omega
def lj (F:aC) (k:Nat):Nat:=((fI F.rules.length).filter fun i=>decide ((F.rules.getD i dd).kind=k)).length
theorem Tc (F:aC):lj F 1 +lj F 2≤F.rules.length:=by
 have :=H9 (fun i=>decide ((F.rules.getD i dd).kind=1)) (fun i=>decide ((F.rules.getD i dd).kind=2)) (fun i h=>by have :=of_decide_eq_true h; exact decide_eq_false ab)<|fI F.rules.length
 unfold lj; rw [sX] at this; exact this
theorem filter_le {α:Type} {p q:α→Bool} (h:∀ x,p x=true→q x=true):∀ l:List α,(l.filter p).length≤(l.filter q).length
 | []=>cz _
 | x::l=>by
   have a:=filter_le h l
   rw [qh,qh]
   by_cases hp:p x=true
   · rw [if_pos hp,if_pos (h x hp),bX,bX]; omega
   · rw [if_neg hp]; split
     · rw [bX]; omega
     · exact a
theorem AJ (F:aC) (fs:List Nat) (k:Nat):(aK F fs k).length≤lj F k:=filter_le (fun i h=>decide_eq_true (of_decide_eq_true h).1) _
theorem wg {α β:Type} {g:α→List β} {m:Nat} (h:∀ x,(g x).length≤m):∀ l:List α,(l.flatMap g).length≤l.length*m
 | []=>ki _
 | x::l=>by
   have :=wg h l; have :=h x
   rw [jr,bK,bX,Nat.succ_mul]; omega
theorem zg (F:aC) (xs:List bj) (e:Nat) (u:Tx) (f s:Int):(eR F xs e u f s).length≤lj F 1 +1:=by
 unfold eR kt
 have h1:=List.length_filterMap_le (iK F xs e u f s)<|aK F (flagsOf xs e) 1
 have h2:=AJ F (flagsOf xs e) 1
 rw [bK]
 split <;> simp only [iR,fZ] <;> omega
theorem OX (F:aC) (xs:List bj) (e:Nat):(gW F xs e).length≤(lj F 1 +1)+lj F 2 *((lj F 1 +1)+lj F 2 *(lj F 1 +1)):=by
 have h1:∀ u f z,(jF F xs e u f z).length≤lj F 1 +1:=fun u f z=>by
  unfold jF; split
  · exact ki _
  · exact zg ..
 have h2:∀ s,(gB F xs e s).length≤(lj F 1 +1)+lj F 2 *(lj F 1 +1):=fun s=>by
  unfold gB; split
  · exact ki _
  · rename_i u _
    rw [bK]
    refine JW (zg ..)<|ea (wg (fun z=>h1 u s z) _)<|ou _<|AJ ..
 unfold gW
 rw [bK]
 exact JW (zg ..)<|ea (wg h2 _)<|ou _<|AJ ..
theorem Uf {p s:Nat} (h:p+s≤1024):(p+1)+s*((p+1)+s*(p+1))≤269748225:=by
 obtain ⟨a,rfl⟩:∃ a,s=1024 - p - a:=⟨1024 - p - s,ab⟩
 have hs:1024 - p - a≤1024 - p:=Nat.sub_le _ _
 have hp:p≤1024:=ab
 have h4:∀ x y:Nat,x+y≤1026→x*y≤263169:=fun x y G=>by
  rcases Nat.le_total x y with hle | hle
  · obtain ⟨d,rfl⟩:=Ka hle
    have h1:x≤513:=ab
    have h2:x+d≤1026 - x:=ab
    refine ea (Nat.mul_le_mul_left x h2) ?_
    obtain ⟨q,C,rfl⟩:∃ q,q≤513∧x=513 - q:=⟨513 - x,ab,ab⟩
    rw [show 1026 - (513 - q)=513 +q by omega,Nat.sub_mul,vd,vd]
    have :q*513=513 *q:=s7 _ _
    omega
  · obtain ⟨d,rfl⟩:=Ka hle
    have h1:y≤513:=ab
    have h2:y+d≤1026 - y:=ab
    refine ea (ou y h2) ?_
    obtain ⟨q,C,rfl⟩:∃ q,q≤513∧y=513 - q:=⟨513 - y,ab,ab⟩
    rw [show 1026 - (513 - q)=513 +q by omega,s7,Nat.sub_mul,vd,vd]
    have :q*513=513 *q:=s7 _ _
    omega
 generalize 1024 - p - a=s at hs
 have h5:=h4 (p+1) (s+1) ab
 have c:(p+1)+s*((p+1)+s*(p+1))≤((p+1)*(s+1))*(s+1):=by
  have A:((p+1)*(s+1))*(s+1)=(p+1)+s*((p+1)+s*(p+1))+s*(p+1):=by
   simp only [vd,Nat.add_mul,Nat.mul_one,Nat.one_mul]
   have E:s*p=p*s:=s7 _ _
   have a2:s*(s*p)=p*s*s:=by rw [s7 s p,s7]
   omega
  rw [A]; exact Nat.le_add_right _ _
 refine ea c<|ea (Nat.mul_le_mul h5 (show s+1≤1025 by omega)) aw
theorem CS {F:aC} {xs:List bj} (a:F.rules.length≤1024) (c:xs.length≤8192):(lI F xs xs.length).length≤2209777459200:=by
 have h1:∀ e,(gW F xs e).length≤269748225:=fun e=>ea (OX F xs e)<|Uf<|ea (Tc F) a
 have h2:=wg h1<|fI xs.length
 unfold lI
 rw [sX] at h2
 omega
theorem Lh {a b:bu} (h:rK a b=true) (he:a.dw=b.dw):ke a b:=by
 unfold rK at h
 unfold ke
 split at h
 · have :=of_decide_eq_true h; omega
 · split at h
   · have :=of_decide_eq_true h; omega
   · have :=of_decide_eq_true h; omega
theorem KJ (F:aC) (xs:List bj) (n:Nat):(lI F xs n).Pairwise ke:=by
 unfold lI
 rw [Cz]
 refine ⟨fun e _=> ?_,yu.imp fun {a b} E x A y C=> ?_⟩
 · refine (O0 F xs e).imp_of_mem fun {a b} c q h=> ?_
   exact Lh h<|by rw [(sd c).1,(sd q).1]
 · unfold ke
   have h1:=(sd A).1
   have h2:=(sd C).1
   omega
theorem EO (F:aC) (xs:List bj) (w:Tx):(gq F xs w).Pairwise ke:=(KJ F xs xs.length).sublist List.filter_sublist
theorem PY (F:aC) (xs:List bj) (w:Tx):(gq F xs w).Nodup:=(EO F xs w).imp fun h e=>by subst e; unfold ke at h; omega
theorem uc {F:aC} {xs:List bj} {w:Tx} {d:bu} :d∈gq F xs w↔d∈lI F xs xs.length∧d.c5=w:=by
 unfold gq; rw [sY,decide_eq_true_iff]
theorem EP {w:Tx} :∀ (l m:List bu),(l.Pairwise fun a b=> ¬ke b a)→m.Pairwise ke→(∀ d∈m,d.c5=w)→l.Perm m→l=m
 | [],m,_,_,_,hp=>by rw [hp.symm.eq_nil]
 | a::l,[],_,_,_,hp=>by have :=hp.length_eq; simp at this
 | a::l,b::m,hl,hm,hw,hp=>by
   rw [nH] at hl hm
   have c:a=b:=by
    have h1:a∈b::m:=hp.subset<|pc ..
    have h2:b∈a::l:=hp.symm.subset<|pc ..
    rcases eB.1 h1 with h1 | h1
    · exact h1
    · rcases eB.1 h2 with h2 | h2
      · exact h2.symm
      · exact absurd (hm.1 a h1)<|hl.1 b h2
   subst c
   rw [EP l m hl.2 hm.2 (fun d hd=>hw d<|oq _ hd) ((List.perm_cons a).1 hp)]
theorem HU {α:Type} [DecidableEq α]:∀ (l m:List α),l.Nodup→(∀ x∈l,x∈m)→l.length≤m.length
 | [],_,_,_=>ki _
 | a::l,m,hl,hs=>by
   rw [List.nodup_cons] at hl
   have h1:=HU l (m.erase a) hl.2 fun x c=>(List.mem_erase_of_ne fun e=>by subst e; exact hl.1 c).2<|hs x<|oq _ c
   have h2:=List.length_erase_of_mem<|hs a<|pc ..
   have h3:=List.length_pos_of_mem<|hs a<|pc ..
   rw [bX]; omega
theorem F8 {f:Value→Option Value} {left :List (Value×Value)} (a:∀ k v,f k=some v↔(k,v)∈left) (d:bu):(f<|dN d).isSome=true↔dN d∈left.map gk:=by
 rw [l9,gQ]
 exact ⟨fun ⟨v,h⟩=>⟨_,(a _ v).1 h,aa⟩,fun ⟨⟨k,v⟩,h,e⟩=>⟨v,(a _ v).2<|by rw [← e]; exact h⟩⟩
theorem Sh {left :List (Value×Value)} {m:List bu} (hk:∀ p∈left,oK p.1) (hn:(left.map gk).Nodup) (hm:∀ d,d∈m↔dN d∈left.map gk):left.length≤m.length:=by
 haveI :DecidableEq Value:=fun a b=>Classical.propDecidable<|a=b
 have :=HU (left.map gk) (m.map dN) hn (fun x c=>by
  obtain ⟨p,hp,rfl⟩:=gQ.1 c
  obtain ⟨d,hd⟩:=hk p hp
  rw [hd]
  exact List.mem_map_of_mem ((hm d).2<|by rw [← hd]; exact c))
 simpa using this
theorem HE (B tb:Nat) (U:ej) (F:aC) (xs:List bj) (wd:Tx) (w:World) (cS:dT w B tb U F xs) (c:dW F xs) (cQ:F.rules.length≤1024) (dL:wd.length≤2097152):
 bf ao 30 (ba [aU tb,str wd]) w (fun v w'=>bq w' w.heap.size 49 5 v (gq F xs wd).length (dI<|gq F xs wd)∧Wk w w'):=by
 have dM:=c.xl
 have dH:=c.len
 have cU:=CS cQ c.xl
 refine enter func30 aa ntmps30 aa<|ak fun b1=>ay<|b1<|az fun b3=>ak fun b4=>p mv<|p (lN sB aa aa)<|nl<|b4<|cf (aa)<|aR<|b3<|az fun b5=>rg aa<|p mv<|e<|cl MG (U0 B tb U F xs w cS c) aa fun dX M cN=> ?_
 obtain ⟨kb,ar,cr,rn,fm,dm,rfl,A,cA,a4⟩:=cN
 have dD:=A.lt
 have dz:=A.lo
 refine ay<|b5<|ak fun b6=>p mv<|p (di (ps:= [(0,str wd),(2,.int .i64 (-1)),(3,.int .i64 (-1)),(4,.int .i64 (-1))]) (L:= [str wd,.int .i64 0,.int .i64 (-1),.int .i64 (-1),.int .i64 (-1)]) xz aa<|aa)<|e<|gn p6 fun ad d2 dv bt cs=> ?_
 have dQ:=bt.size
 refine e<|fY pI aa aa aa aa cs aw fun aq cH cq=> ?_
 have a5:Wk M aq:=bt.md.trans' cH fun q G h=>by omega
 have bC:aq.heap[ad]? =some (.cells [str wd,.int .i64 0,.int .i64 (-1),.int .i64 (-1),.int .i64 (-1)].toArray 49 (0,0)):=cq
 have bN:Md (fun k=>k=dm) M aq:=a5.mono fun _ _ h=>h.elim
 have cD:=cA.md a5 id
 have aT:¬(ad=dm):=ab
 refine nl<|b6<|ak fun b7=>p mv<|p mv<|p (cg hZ aa (aa) fun q G=>(lJ bC).bp q)<|e<|cl DO (DZ w M B kb tb U F xs ar cr rn fm dm A c wd wd 0 (-1) (fun _=>False) aq bN cD ab ab) aa fun v22 d0 cO=> ?_
 obtain ⟨rfl,cC,bk⟩:=cO
 have bJ:=bN.trans bk
 have cX:=bk.aB bC aT
 refine nl<|b7<|az fun b8=>ak fun b9=>p mv<|p (nc aa)<|p (fa wj aa)<|p (ld jM aa<|(a7<|A.at bJ).trans aa)<|p (bP pX aa aa)<|p mv<|nl<|b9<|aB<|lp (fun ae Y ai=> ∃ (i:Nat) (bY:Int),(i≤F.rules.length)∧(Md (fun k=>k=dm) M ai)∧(jt ai.heap dm<|np F xs wd<|i)∧(ai.heap[ad]? =some (.cells [str wd,.int .i64 0,.int .i64 (-1),.int .i64 (-1),.int .i64 bY].toArray 49 (0,0)))∧(Y 1=str wd)∧(Y 5=aU kb)∧(Y 6=aU ad)∧(Y 26= .slice ar F.rules.length cr)∧(Y 27=aj (F.rules.length))∧(Y 28=aj i)∧(F.rules.length - i=ae)) _ ⟨0,_,ab,bJ,(cC.congr U3),cX,aa,aa,aa,aa,aa,aa,aa⟩ ?_
 rintro ae Y ai ⟨i,bY,hi,J,bg,cZ,dc,dg,dh,dd,de,df,rfl⟩
 refine fx 1 dc<|fx 5 dg<|fx 6 dh<|fx 26 dd<|fx 27 de<|fx 28 df<|ak fun ca=>p (lt aa aa)<|nl<|ca<|az fun b2=>cd aa (fun c3=> ?_) fun c3=> ?_
 refine aR<|b2<|az fun Z=>aB<|az fun aA=> ?_
 obtain ⟨r,I⟩:∃ r,F.rules[i]? =some r:=⟨_,bW ab⟩
 obtain ⟨u,aY⟩:=A.im I
 have dn:=A.ro u (JP<|fz aY).2
 refine rg aa<|au (aj i)<|p (bd ky aa aa ab<|aG.ok (A.rules J)<|kV aY)<|p (cg ju aa (aa)<|gr (f:=dC) (m:=7) (fun _=>rfl) (A.rules J) aY)<|e<|gn oW fun ch d4 aO bw cu=> ?_
 have dV:=bw.size
 refine p (cj (aj i) aa)<|e<|fY mZ aa aa aa (Hx dn) cu aw fun av cI cv=> ?_
 have aK:Wk ai av:=bw.md.trans' cI fun q G h=>by omega
 have aO:bD av.heap ch (dC (r,u)):=⟨_,cv⟩
 have bQ:Md (fun k=>k=dm) M av:=J.trans' aK fun _ _ h=>h.elim
 have bb:=bg.md aK id
 have bE:=Wk.aB aK cZ
 refine nl<|aA<|az fun aD=>ak fun aF=>p (fa tO aa)<|p (ld bO aa<|aO.bp 0)<|p (gE aa aa)<|nl<|aF<|cd aa (fun hk=> ?_) fun hk=> ?_
 have aQ:=HA (xs:=xs) (wd:=wd) I<|.inl (show r.kind≠1 by have h:=hk; dsimp only at h; omega)
 exact ext<|bh<|be<|Z<|rg aa<|p (bL ((i+1:Nat):Int) aa aa<|bm ab ab)<|p mv<|nl<|tn<|⟨_,ab,i+1,_,ab,bQ,(bb.congr aQ),bE,aa,aa,aa,aa,aa,aa,aa⟩
 have c4:r.kind=1:=by have h:=hk; dsimp only at h; omega
 refine aR<|aD<|ak fun aH=>p (cg ju aa (aa) fun q G=>aO.bp q)<|au (str wd)<|e<|cl zd (BI r u wd av (c.im I).2.2.1 (il c I).2.1 (il c I).2.2.1 ab) aa fun v39 dr cP=> ?_
 obtain ⟨rfl,aJ⟩:=cP
 have bM:Md (fun k=>k=dm) M dr:=bQ.trans' aJ fun _ _ h=>h.elim
 have a9:=bb.md aJ id
 have bB:=Wk.aB aJ bE
 refine p mv<|p (xt aa aa)<|p (xt aa aa)<|p aE<|ay<|aH<|az fun ac=>rg aa<|p mv<|nl<|ac<|cb aa (fun aP=> ?_) fun aP=> ?_
 obtain ⟨rest,aX⟩:∃ rest,eV r wd=some rest:=l9.1<|by simpa using aP
 have dK:=Il aX
 have dG:=(il c I).1
 have dJ:r.strip.length≤32:=(c.im I).2.2.1
 have bV:(eV r wd).getD []=rest:=by rw [aX]; rfl
 have cW:=U2 (xs:=xs) I c4 aX
 refine ak fun aI=>au (aj i)<|p (fa nS aa)<|e<|dy jN aa aa (v:=aj i) aa bB (by show 4 < 5; omega) fun a0 bi cn=> ?_
 have bA:a0.heap[ad]? =some (.cells [str wd,.int .i64 0,.int .i64 (-1),.int .i64 (-1),aj i].toArray 49 (0,0)):=cn
 have bI:Md (fun k=>k=dm) M a0:=bM.trans' bi fun q G h=>by omega
 have cz:=a9.md bi fun h=>aT h.symm
 refine nl<|aI<|rg aa<|au (aU kb)<|p mv<|p (cg hZ aa (aa) fun q G=>(lJ bA).bp q)<|e<|cl DO (DZ w M B kb tb U F xs ar cr rn fm dm A c wd ((eV r wd).getD []) 0 (i:Nat) (np F xs wd<|i) a0 bI cz ab<|by rw [bV]; omega) aa fun dY d1 bx=> ?_
 rw [bV] at bx
 obtain ⟨rfl,cE,bl⟩:=bx
 have c7:=bI.trans bl
 have cY:=bl.aB bA aT
 exact nl<|bn<|Z<|rg aa<|p (bL ((i+1:Nat):Int) aa aa<|bm ab ab)<|p mv<|nl<|tn<|⟨_,ab,i+1,_,ab,c7,(cE.congr cW),cY,aa,aa,aa,aa,aa,aa,aa⟩
 have aQ:=HA (xs:=xs) (wd:=wd) I<|.inr (show eV r wd=none by simpa using aP)
 exact aR<|bn<|Z<|rg aa<|p (bL ((i+1:Nat):Int) aa aa<|bm ab ab)<|p mv<|nl<|tn<|⟨_,ab,i+1,_,ab,bM,(a9.congr aQ),bB,aa,aa,aa,aa,aa,aa,aa⟩
 refine ext<|bh<|bh<|be<|b8<|ak fun Z=>p aE<|nl<|Z<|az fun aA=>az fun aD=> ?_
 obtain rfl :i=F.rules.length:=ab
 obtain ⟨fd,c2,bF,dB⟩:=bg
 refine rg aa<|au (aU kb)<|p (nc aa)<|p (fa Fi aa)<|p (ld CL aa<|(a7<|A.at J).trans aa)<|e<|UI BA c2 aa fun ah V left dF bs cF bG bR bH=> ?_
 have dP:=bs.size
 have al:Wk w V:=(a4.trans' J fun k hk h=>by omega).trans bs.md
 have dE:left.length≤2209777459200:=by
  have :=Sh bG bR fun d=>(show d∈gq F xs wd↔_ from uc.trans<|(HB d).symm.trans<|(bF d).symm.trans<|F8 bH d)
  exact ea this<|ea (o8 _ _) cU
 refine nl<|aD<|aB<|lp (fun ae a2 ax=> ∃ (an:List (Value×Value)) (a:List bu) (C:Option Addr) (E:Nat),((left.map gk).Perm<|a.map dN++an.map gk)∧(oA ax.heap ah dm an)∧(bq ax V.heap.size 49 5 (.slice C a.length E) a.length<|dI a)∧(Md (fun k=>k=ah) V ax)∧(a2 11= .slice C a.length E)∧(a2 54=aU ah)∧(an.length=ae)) _ ⟨left,[],none,0,(Jx _),cF,(dS _ _ _ _),(Md.refl _ _),aa,aa,aa⟩ ?_
 rintro ae a2 ax ⟨an,a,C,E,O,cK,am,aL,dj,dk,rfl⟩
 refine fx 11 dj<|fx 54 dk<|ak fun aF=>e<|Tt cK aa fun dt dp aZ b0 ck cm=>p (Tu aa)<|nl<|aF<|az fun aH=>cb aa (fun aN=> ?_) fun aN=> ?_
 obtain ⟨aW,aM,a6⟩:=cm aN
 obtain ⟨kx,vx⟩:=dp
 obtain ⟨d,rfl⟩:oK kx:=by
  have h1:kx∈left.map gk:=O.mem_iff.2<|uY _<|(aW.map gk).mem_iff.2<|by simp
  obtain ⟨q,G,rfl⟩:=gQ.1 h1
  exact bG q G
 have c6:=aW.length_eq
 have aS:=O.length_eq
 simp only [bK,e8,bX] at c6 aS
 refine aR<|aH<|aB<|az fun ac=> ?_
 have bS:=cx am aM fun k hk h=>by have :=(cV am hk).1; omega
 refine rg aa<|p (dw a6 aa)<|p (xt aa aa)<|e<|gn p6 fun ce dZ bz br co=> ?_
 have dO:=br.size
 refine e<|fY pI aa aa aa aa co aw fun bZ cG cp=> ?_
 have cw:Wk b0 bZ:=br.md.trans' cG fun q G h=>by omega
 have bz:bD bZ.heap ce (cB d):=⟨_,cp⟩
 refine nl<|ac<|rg aa<|au (.slice C a.length E)<|p (cg hZ aa (aa) fun q G=>bz.bp q)<|e<|nM pW aa aa aa fun du d3 dx bv ct=> ?_
 have dR:=bv.size
 have ag:=cw.trans bv.md
 refine e<|ap pW (a8 bS ag) aa (by have :=ag.size; have :=aM.size; have :=aL.size; omega) aa (aG.fV ct) (aa) (aa) ab ab fun dq a1 c8 bo dU dA=> ?_
 have bT:bq a1 V.heap.size 49 5 dq (a++ [d]).length (dI<|a++ [d]):=by rw [show dI (a++ [d])=dI a++cB d from by unfold dI; rw [List.flatMap_append,List.flatMap_singleton],bK]; exact c8
 have aV:=a8 bS ag
 have cL:oA a1.heap ah dm aZ:=((a6.Tb).md (ag.trans<|Md.refl _ _) id id).md bo (fun h=>by have :=(cV aV h).1; have :=J.size; omega) fun h=>by have :=(cV aV h).1; have :=J.size; omega
 have cy:Md (fun k=>k=ah) V a1:=(aL.trans aM).trans' (ag.mono (fun _ _ h=>h.elim) |>.trans' bo (fun k hk h=>h)) fun k hk h=>by have :=(cV aV h).1; omega
 obtain ⟨cc,ci,rfl⟩:=cT bT
 have cM:(left.map gk).Perm ((a++ [d]).map dN++aZ.map gk):=by
  refine O.trans ?_
  rw [iw,List.append_assoc]
  exact (aW.map gk).append_left _
 exact p aE<|nl<|bn<|tn<|⟨_,ab,aZ,a++ [d],cc,ci,cM,cL,bT,cy,aa,aa,aa⟩
 obtain ⟨c5,rfl⟩:=ck aN
 refine ext<|bh<|bh<|be<|aA<|az fun ac=> ?_
 have aS:=O.length_eq
 simp only [bK,e8] at aS
 rw [c5,List.map_nil,ep] at O
 refine rg aa<|au (.slice C a.length E)<|e<|cl MH (Vn V.heap.size a.length (.slice C a.length E) a b0 am aa ab) aa fun v64 ds cR=> ?_
 obtain ⟨rfl,a3,bU,dl,c9,cJ⟩:=cR
 refine nl<|ac<|ak fun aI=>au (.slice C a.length E)<|p (cj (.slice C a.length E) aa)<|nl<|aI<|rt<|bc aa ?_
 have c1:a.Nodup:=by
  have h1:(a.map dN).Nodup:=O.nodup_iff.1 bR
  exact (yv.1 h1).imp fun h e=>h<|congrArg dN e
 have c0:∀ d,d∈a↔d∈gq F xs wd:=fun d=>by
  have h1:dN d∈left.map gk↔dN d∈a.map dN:=O.mem_iff
  rw [uc,← HB,← bF,F8 bH,h1,gQ]
  exact ⟨fun h=>⟨d,h,aa⟩,fun ⟨e,he,hk⟩=>Ao hk ▸ he⟩
 have db:a3.Perm (gq F xs wd):=bU.trans<|(List.perm_ext_iff_of_nodup c1<|PY F xs wd).2 c0
 obtain rfl :=EP a3 _ dl (EO F xs wd) (fun d hd=>(uc.1 hd).2) db
 have da:∀ n,n=a.length→bq ds V.heap.size 49 5 (.slice C a.length E) n (dI<|gq F xs wd):=by intro n hn; rw [hn]; exact c9
 exact ⟨e5 (da _ bU.length_eq) (by have :=al.size; omega),(al.trans' aL fun k hk h=>by have :=al.size; have :=a4.size; have :=J.size; omega).trans' cJ fun k hk h=>by have :=(cV am h).1; have :=al.size; omega⟩
theorem U4 (wd:Tx) (w:World):
 bf ao 30 (ba [.pointer none,str wd]) w (fun v w'=>v= .slice none 0 0∧Wk w w'):=by
 exact enter func30 aa ntmps30 aa<|ak fun a=>ay<|a<|az fun A=>ak fun c=>p mv<|p (lN sB aa aa)<|nl<|c<|ct (aa)<|ak fun q=>p aE<|nl<|q<|rt<|tr<|bc aa<|⟨aa,Md.refl _ _⟩
end Go.Hb
end
section
namespace Go.Hb.yy
open Go.Hb.tc
theorem Pe (l:List bu):(dI l).length=l.length*5:=mr (f:=cB) (m:=5) (fun _=>rfl) l
theorem Pf (l:List bu):(dI l).all eO=true :=zS (fun _=>rfl) l
noncomputable def e7 (F:aC) (xs:List bj) (w:Tx) (most:Int):List bu:=(gq F xs w).take (min most 1000).toNat
theorem Pg (l:List bu) (k:Nat):dI (l.take k)=(dI l).take (k*5):=by
 induction l generalizing k with
 | nil=>simp [dI]
 | cons a l c=>
   cases k with
   | zero=>simp [dI]
   | succ k=>
     show cB a++dI (l.take k)=(cB a++dI l).take _
     rw [c,show (k+1)*5=(cB a).length+k*5 by show _=5 +k*5; omega,List.take_length_add_append]
theorem WV {F:aC} {xs:List bj} {w:Tx} {most:Int} :(gq F xs w).take (max 0<|min (min most 1000) ((gq F xs w).length:Nat)).toNat=e7 F xs w most:=by
 unfold e7
 by_cases h:(min most 1000).toNat≤(gq F xs w).length
 · congr 1; omega
 · rw [e9 ab,e9 ab]
noncomputable def mX (F:aC) (xs:List bj) (w:Tx) (fb:Bool):Bool:=(gq F xs w).any fun d=>decide (lW F xs d.dw 1=fb)
section
variable {P:Program} {N:Fm} {σ:Nat→Value} {w:World} {dst:Option Nat} {ty:TypeId} {pos :String} {af:Array Edge} {g:Option (Nat×Bool)} {x y z:Operand}
theorem GL {k:IntKind} {a b c:Int} {at_:Array TypeId} (q:ev N σ x= .int k a) (A:ev N σ y= .int k b) (C:ev N σ z= .int k c):
 (execOp (ev N σ) ⟨dst,.call ⟨.builtin .min,#[x,y,z],at_⟩,ty,pos,af,g⟩).run P w= .ok (.value<|.int k<|min (min a b) c) w:=by
 have h1:(if b < a then b else a)=min a b:=ab
 have h2:(if c < min a b then c else min a b)=min (min a b) c:=ab
 simp [execOp,resolve,invoke,builtin,Builtin.min_,Builtin.min2,q,A,C,h1,h2]
end
theorem A3 {w:World} {B e size n cap:Nat} {xs:List Value} (h:bq w B e size (.slice none n cap) n xs):n=0:=by
 rcases h.2 with ⟨h1,h2⟩ | ⟨g,c,cur,h1,_⟩
 · injection h1 with _ h3 _
 · injection h1 with h2 _ _; cases h2
theorem D7 (a:Option Addr) (n c:Nat) (xs:List Value) (w:World) (O:aG w.heap a xs) (ag:xs.length=n*5) (Z:a=none→n=0) (h1:xs.all eO=true) (hn:n≤1048576):
 bf ao 31 (ba [.slice a n c]) w (fun v w'=>bq w' w.heap.size 49 5 v n xs∧Wk w w'):=by
 refine enter func31 aa ntmps31 aa<|ak fun G=>ay<|G<|az fun I=>ak fun J=>au (.slice a n c)<|p (pK l6 aa aa)<|nl<|J<|cb aa (fun C=> ?_) fun C=> ?_
 have ac:a=none:=by simpa using C
 refine ak fun q=>ay<|q<|rt<|tr<|bc aa ?_
 have ad:=Z ac
 subst ad
 obtain rfl :=gx (show xs.length=0 by omega)
 exact ⟨dS _ _ _ _,Md.refl _ _⟩
 refine aR<|I<|ak fun q=>e<|pF pW fun al av am A M=> ?_
 have E:=M w.heap.size ab
 refine au (.slice a n c)<|e<|ap pW (E) aa (by have :=A.size; omega) aa (O.wk A.md) (ag) (h1) ab ab fun ai aj ae Y aq an=> ?_
 have V:=Wk.own A.md E Y<|cz _
 refine ay<|q<|rt<|bc aa ?_
 have ah:bq aj w.heap.size 49 5 ai n xs:=by simpa using ae
 exact ⟨ah,V⟩
theorem BM (B tb:Nat) (U:ej) (F:aC) (xs:List bj) (wd:Tx) (most:Int) (w:World) (ad:dT w B tb U F xs) (V:dW F xs) (ac:F.rules.length≤1024) (ah:wd.length≤2097152):
 bf ao 11 (ba [aU tb,str wd,.int .i64 most]) w (fun v w'=>bq w' w.heap.size 49 5 v (e7 F xs wd most).length (dI<|e7 F xs wd most)∧Wk w w'):=by
 refine enter func11 aa ntmps11 aa<|ak fun G=>ay<|G<|ak fun I=>p mv<|p mv<|e<|cl y8 (HE B tb U F xs wd w ad V ac ah) aa fun v10 ai Z=> ?_
 obtain ⟨a,A⟩:=Z
 obtain ⟨M,O,rfl⟩:=cT a
 have am:=(a6 a).1
 obtain ⟨K,c⟩:∃ K:Nat,(max 0 (min (min most 1000) ((gq F xs wd).length:Nat)):Int)=(K:Int):=⟨(max 0 (min (min most 1000) ((gq F xs wd).length:Nat)):Int).toNat,ab⟩
 have q:=WV (F:=F) (xs:=xs) (w:=wd) (most:=most)
 rw [c,jq] at q
 have al:K≤(gq F xs wd).length:=ab
 have aj:K≤1000:=ab
 have E:(e7 F xs wd most).length=K:=by rw [← q,ee]; omega
 refine ay<|I<|ak fun J=>p mv<|p mv<|p mv<|p (bP l6 aa aa)<|p (GL aa aa aa)<|p (mx aa aa)<|p (ss pL aa aa ab)<|e<|cl DI (D7 M (max 0 (min (min most 1000) ((gq F xs wd).length:Nat)):Int).toNat O (dI<|e7 F xs wd most) ai (by rw [← q,Pg]; exact aG.take (a6 a).2 _) (by rw [Pe,E,c,jq]) (fun ae=>by subst ae; have :=A3 a; omega) (Pf _) ab) aa fun an ap C=> ?_
 rw [c,jq,← E] at C
 obtain ⟨ag,Y⟩:=C
 exact ay<|J<|rt<|bc aa<|⟨e5 ag (by have :=A.size; omega),A.trans Y⟩
theorem W5 (wd:Tx) (most:Int) (w:World):
 bf ao 11 (ba [.pointer none,str wd,.int .i64 most]) w (fun v w'=>bq w' w.heap.size 49 5 v 0 []∧Wk w w'):=by
 refine enter func11 aa ntmps11 aa<|ak fun A=>ay<|A<|ak fun C=>p mv<|p mv<|e<|cl y8 (U4 wd w) aa fun v10 M I=> ?_
 obtain ⟨rfl,c⟩:=I
 have a:(max 0 (min (min most 1000) ((0:Nat):Int)):Int)=0:=ab
 refine ay<|C<|ak fun E=>p mv<|p mv<|p mv<|p (bP l6 aa aa)<|p (GL aa aa aa)<|p (mx aa aa)<|p (ss pL aa aa ab)<|e<|cl DI (D7 none (max 0 (min (min most 1000) ((0:Nat):Int)):Int).toNat 0 [] M (aG.nil _ _) (by rw [a]; rfl) (fun _=>by rw [a]; rfl) aa<|by rw [a]; decide) aa fun O V J=> ?_
 obtain ⟨q,G⟩:=J
 refine ay<|E<|rt<|bc aa ?_
 rw [a] at q
 exact ⟨e5 q c.size,c.trans G⟩
theorem N2 (B tb:Nat) (U:ej) (F:aC) (xs:List bj) (d:bu) (fb:Bool) (E G:Nat) (w:World) (ac:dT w B tb U F xs) (V:dW F xs) (ad:ji w E (some ⟨tb,0,none⟩)) (ah:w.heap[G]? =some (.cells [.bool fb].toArray 4 (0,0))):
 bf ao 64 (ba [.agg (cB d).toArray,aU E,aU G]) w (fun v w'=>v= .bool (decide (lW F xs d.dw 1=fb))∧Wk w w'):=by
 refine enter func64 aa ntmps64 aa<|ak fun J=>e<|iJ aa fun O c I A Y=> ?_
 have I:bD c.heap O (cB d):=Y
 have ae:=Wk.aB A.md ad
 have ai:=Wk.aB A.md ah
 refine ay<|J<|az fun M=> ?_
 have a:(fun w'=>Wk c w') c.drew:=(Md.refl _ _).drew
 refine bT (fun w'=>Wk c w') aa wide a<|aH 0 aa (fun w' q=>ld lH aa<|Wk.aM q<|(a7 ae).trans aa) a<|aH 1 aa (fun _ _=>fa oJ aa) a<|aH 2 aa (fun w' q=>ld bO aa<|Wk.aM q<|I.bp 1) a<|aH 4 aa (fun w' q=>ld pC aa<|Wk.aM q<|(a7 ai).trans aa) a<|he 3 aa ag<|cl Dx (GC B tb U F xs (d.dw:Nat) 1 c.drew (ac.wk A.md.drew) V) aa fun al aj ab=> ?_
 obtain ⟨rfl,Z⟩:=ab
 have C:(fun w'=>Wk c w') aj:=a.trans Z
 refine ⟨C,?_⟩
 exact aH 5 aa (fun _ _=>PK u4 aa aa) C<|aH 6 aa (fun _ _=>aE) C<|hn ag<|M<|rt<|bc aa<|⟨aa,A.md.trans C⟩
theorem Rz (B tb:Nat) (U:ej) (F:aC) (xs:List bj) (fb:Bool) (A C:Nat) (a:Option Addr) (c:Nat) (L:List bu) (w:World) (ap:dT w B tb U F xs) (am:dW F xs) (aq:ji w A (some ⟨tb,0,none⟩)) (av:w.heap[C]? =some (.cells [.bool fb].toArray 4 (0,0))) (O:aG w.heap a (dI L)) (aH:L.length≤4000000000000):
 bf ao 113 (ba [.slice a L.length c,.func (.func 64) #[] #[aU A,aU C]]) w (fun v w'=>(∃ k:Int,v= .int .i64 k∧(0≤k↔(L.any fun d=>decide (lW F xs d.dw 1=fb))=true))∧Wk w w'):=by
 refine enter func113 aa ntmps113 aa<|ak fun Z=>ay<|Z<|az fun ac=>ak fun ad=>p mv<|p (bP l6 aa aa)<|p mv<|nl<|ad<|aB<|lp (fun M G J=> ∃ (i:Nat),(i≤L.length)∧(∀ j d,j < i→L[j]? =some d→¬(lW F xs d.dw 1=fb))∧(Wk w J)∧(G 0= .slice a L.length c)∧(G 1= .func (.func 64) #[] #[aU A,aU C])∧(G 7=aj (L.length))∧(G 8=aj i)∧(L.length - i=M)) _ ⟨0,ab,(fun j d E=>by omega),(Md.refl _ _),aa,aa,aa,aa,aa⟩ ?_
 rintro M G J ⟨i,hi,Y,q,ax,aA,aD,aF,rfl⟩
 refine fx 0 ax<|fx 1 aA<|fx 7 aD<|fx 8 aF<|ak fun ae=>p (lt aa aa)<|nl<|ae<|az fun ag=>cd aa (fun aw=> ?_) fun aw=> ?_
 refine aR<|ag<|az fun I=>aB<|ak fun ah=>au (aj i)<|p (cj (aj i) aa)<|nl<|ah<|az fun ai=> ?_
 obtain ⟨d,hd⟩:∃ d,L[i]? =some d:=⟨_,bW ab⟩
 refine rg aa<|au (.func (.func 64) #[] #[aU A,aU C])<|au (.slice a L.length c)<|au (aj i)<|p (bd pL aa aa ab<|aG.ok (O.wk q)<|rV ab)<|p (cg hZ aa (aa)<|gr (f:=cB) (m:=5) (fun _=>rfl) (O.wk q) hd)<|e<|NU MK aa (N2 B tb U F xs d fb A C J (ap.wk q) am (Wk.aB q aq)<|Wk.aB q av) aa fun aI aJ an=> ?_
 obtain ⟨rfl,V⟩:=an
 refine nl<|ai<|cb aa (fun hm=> ?_) fun hm=> ?_
 exact ak fun al=>au (aj i)<|p (cj (aj i) aa)<|nl<|al<|rt<|br<|tr<|tr<|br<|tr<|bc aa<|⟨⟨(i:Nat),aa,fun _=>yd.2 ⟨d,fz hd,decide_eq_true<|of_decide_eq_true hm⟩,fun _=>by omega⟩,q.trans V⟩
 exact aR<|bn<|I<|rg aa<|p (bL ((i+1:Nat):Int) aa aa<|bm ab ab)<|p mv<|nl<|tn<|⟨_,ab,i+1,ab,(fun j e E he=>by rcases pj.1 E with h | rfl; exact Y j e h he; rw [hd] at he; cases he; exact of_decide_eq_false hm),(q.trans V),aa,aa,aa,aa,aa⟩
 exact ext<|bh<|bh<|be<|ac<|ak fun I=>p aE<|nl<|I<|rt<|bc aa<|⟨⟨-1,aa,fun h=>absurd h ab,fun h=>by obtain ⟨d,hd,h1⟩:=yd.1 h; obtain ⟨j,E⟩:=List.getElem?_of_mem hd; exact absurd (of_decide_eq_true h1)<|Y j d (by have :=(eQ.1 E).1; omega) E⟩,q⟩
theorem N9 (B tb:Nat) (U:ej) (F:aC) (xs:List bj) (fb:Bool) (q A:Nat) (a:Option Addr) (c:Nat) (L:List bu) (w:World) (O:dT w B tb U F xs) (G:dW F xs) (V:ji w q (some ⟨tb,0,none⟩)) (Y:w.heap[A]? =some (.cells [.bool fb].toArray 4 (0,0))) (I:aG w.heap a (dI L)) (J:L.length≤4000000000000):
 bf ao 63 (ba [.slice a L.length c,.func (.func 64) #[] #[aU q,aU A]]) w (fun v w'=>v= .bool (L.any fun d=>decide (lW F xs d.dw 1=fb))∧Wk w w'):=by
 refine enter func63 aa ntmps63 aa<|ak fun C=>ay<|C<|ak fun E=>p mv<|p mv<|e<|cl Ly (Rz B tb U F xs fb q A a c L w O G V Y I J) aa fun ac ad M=> ?_
 obtain ⟨⟨ab,rfl,Z⟩,hE7⟩:=M
 exact p (ge aa aa)<|ay<|E<|rt<|bc aa<|⟨by show bU (decide (ab≥0))=_; exact congrArg bU (by rw [Bool.eq_iff_iff,decide_eq_true_iff]; exact Z),hE7⟩
theorem Ed (B tb:Nat) (U:ej) (F:aC) (xs:List bj) (wd:Tx) (fb:Bool) (w:World) (G:dT w B tb U F xs) (c:dW F xs) (E:F.rules.length≤1024) (al:wd.length≤2097152):
 bf ao 33 (ba [aU tb,str wd,.bool fb]) w (fun v w'=>v= .bool (mX F xs wd fb)∧Wk w w'):=by
 refine enter func33 aa ntmps33 aa<|ak fun J=>e<|qz aa aa fun V aw ap ag ac=>e<|qz aa aa fun Y am aq C ad=> ?_
 have A:=Wk.aB C.md ac
 have q:=ag.md.trans C.md
 refine ay<|J<|ak fun M=>p (ld lH aa<|(a7 A).trans aa)<|p mv<|e<|cl y8 (HE B tb U F xs wd am (G.wk q) c E al) aa fun v9 an ai=> ?_
 obtain ⟨I,a⟩:=ai
 obtain ⟨O,Z,rfl⟩:=cT I
 have aj:=CS E c.xl
 have au:(gq F xs wd).length≤2209777459200:=ea (o8 _ _) aj
 refine p AG<|e<|cl MJ (N9 B tb U F xs fb V Y O Z (gq F xs wd) an (G.wk<|q.trans a) c (Wk.aB a A) (Wk.aB a ad) (a6 I).2 ab) aa fun v11 av ah=> ?_
 obtain ⟨rfl,ae⟩:=ah
 exact ay<|M<|rt<|bc aa<|⟨aa,(q.trans a).trans ae⟩
theorem KK (B tb:Nat) (U:ej) (F:aC) (xs:List bj) (wd:Tx) (w:World) (G:dT w B tb U F xs) (q:dW F xs) (C:F.rules.length≤1024) (I:wd.length≤2097152):
 bf ao 14 (ba [aU tb,str wd]) w (fun v w'=>v= .bool (mX F xs wd false)∧Wk w w'):=by
 refine enter func14 aa ntmps14 aa<|ak fun a=>ay<|a<|ak fun c=>p mv<|p mv<|e<|cl DJ (Ed B tb U F xs wd false w G q C I) aa fun J M E=> ?_
 obtain ⟨rfl,A⟩:=E
 exact ay<|c<|rt<|bc aa<|⟨aa,A⟩
theorem QH (B tb:Nat) (U:ej) (F:aC) (xs:List bj) (wd:Tx) (w:World) (G:dT w B tb U F xs) (q:dW F xs) (C:F.rules.length≤1024) (I:wd.length≤2097152):
 bf ao 15 (ba [aU tb,str wd]) w (fun v w'=>v= .bool (mX F xs wd true)∧Wk w w'):=by
 refine enter func15 aa ntmps15 aa<|ak fun a=>ay<|a<|ak fun c=>p mv<|p mv<|e<|cl DJ (Ed B tb U F xs wd true w G q C I) aa fun J M E=> ?_
 obtain ⟨rfl,A⟩:=E
 exact ay<|c<|rt<|bc aa<|⟨aa,A⟩
theorem CH (B tb:Nat) (U:ej) (F:aC) (xs:List bj) (wd:Tx) (w:World) (E:dT w B tb U F xs) (A:dW F xs) (C:F.rules.length≤1024) (G:wd.length≤2097152):
 bf ao 16 (ba [aU tb,str wd]) w (fun v w'=>v= .bool (mX F xs wd false && !mX F xs wd true)∧Wk w w'):=by
 refine enter func16 aa ntmps16 aa<|ak fun I=>ay<|I<|ak fun q=>p mv<|p mv<|e<|cl LI (KK B tb U F xs wd w E A C G) aa fun Y V O=> ?_
 obtain ⟨rfl,a⟩:=O
 refine p mv<|gb (t:=8) aa (fun c=> ?_) fun c=> ?_
 refine aY aa mv<|aY aa mv<|eg aa aa aa<|cl tv (QH B tb U F xs wd V (E.wk a) A C G) aa fun v11 Z M=> ?_
 obtain ⟨rfl,J⟩:=M
 exact aY aa (no aa)<|p (bR aa)<|ay<|q<|rt<|bc aa<|⟨by rw [c]; rfl,a.trans J⟩
 exact aT aa<|aT aa<|aT aa<|aT aa<|p (bI aa)<|ay<|q<|rt<|bc aa<|⟨by rw [c]; rfl,a⟩
end Go.Hb.yy
end
section
namespace Go.Hb
open Go.Hb.tc Go.Hb.yy
theorem Rk {eof ln:Nat} {F F':aC} {hs:List Tx} {rows rows':List Rw} {row:List Tx} (a:ca eof F hs rows ln row= .ok (F',rows')):F'.rules=F.rules∨F'.rules.length≤1024:=by
 unfold ca at a
 split at a
 · unfold jV at a; split at a <;> cases a; exact .inl rfl
 split at a
 · unfold kB at a
   split at a
   · cases a
   · split at a <;> cases a; exact .inl rfl
 split at a
 · unfold mD at a; split at a <;> cases a; exact .inl rfl
 split at a
 · unfold mE at a; split at a <;> cases a; exact .inl rfl
 split at a
 · unfold kE at a
   split at a
   · cases a
   · split at a <;> cases a; exact .inl rfl
 split at a
 · unfold kH at a
   split at a
   · cases a
   · split at a <;> cases a; exact .inl rfl
 split at a
 · unfold j6 at a
   split at a
   · cases a
   · split at a
     · cases a
     · split at a <;> cases a; exact .inl rfl
 unfold gV at a
 split at a
 · cases a
 split at a
 · cases a
 split at a
 · cases a
 split at a
 · cases a
 split at a
 · cases a
 rename_i r c
 cases a
 have h1:=(tX _ _ _ c).2.1
 refine .inr ?_
 rw [bK]
 omega
theorem Kz {s:Tx} {F:aC} (h:fR s= .ok F):F.rules.length≤1024:=by
 refine yC (Q:=fun F=>F.rules.length≤1024) (ki _) ?_ h
 intro eof ln F F' hs rows rows' row a c
 rcases Rk c with h | h
 · rw [h]; exact a
 · exact h
theorem VY {a t:Tx} {T:aC×List bj} (h:lu a t=some T):T.1.rules.length≤1024:=by
 unfold lu at h
 split at h
 · cases h
 · rename_i F c
   split at h
   · cases h
   · cases h; exact Kz c
theorem WR:lu sF xM=some (fO,gY):=HW WG WK
theorem Ip:lI fO gY gY.length= [⟨[103,97,115],0,-1,-1,-1⟩,⟨[103,97],1,-1,-1,-1⟩,⟨[103,97,115],1,0,-1,-1⟩]:=by
 unfold lI
 rw [show fI gY.length= [0,1] by rfl,jr,jr,List.flatMap_nil,WI,WJ]
 rfl
theorem Iq:gq fO gY [103,97,115]=xN:=by unfold gq; rw [Ip]; decide
theorem WL:gq fO gY [103]= []:=by unfold gq; rw [Ip]; decide
theorem WS:e7 fO gY [103,97,115] 9=xN:=by unfold e7; rw [Iq]; rfl
theorem WE:(mX fO gY [103,97,115] false && !mX fO gY [103,97,115] true)=true :=by unfold mX; rw [Iq]; decide
theorem WM:(mX fO gY [103] false && !mX fO gY [103] true)=false :=by unfold mX; rw [WL]; rfl
theorem Iu (w:World):
 bf ao 10 (ba []) w (fun v w'=>v= .bool true∧Wk w w'):=by
 refine enter func10 aa ntmps10 aa<|ak fun ab=>ay<|ab<|ak fun ac=>e<|cl rL (By sF xM w aw aw) aa fun v5 av am=> ?_
 obtain ⟨⟨pp,aL,aM,aN,rfl,Z⟩,hE5⟩:=am
 rw [WR] at Z
 obtain ⟨B,tb,U,aC,rfl,ap,c⟩:=Z
 refine p mv<|p (xt aa aa)<|p (xt aa aa)<|e<|al oc fun az aP aD A ag=> ?_
 have aK:=A.size
 refine p aE<|e<|cM iV aa aa aa aa (ag) (by simp) fun E J aB=> ?_
 have ah:Wk w E:=(hE5.trans A.md).trans' J fun q aq h=>by have :=hE5.size; omega
 have ai:Wk av E:=A.md.trans' J fun q aq h=>by omega
 have Y:=ap.wk ai
 have C:fO.rules.length≤1024:=aw
 refine nl<|ac<|ak fun ad=>p mv<|e<|cl kr (BM B tb U fO gY [103,97,115] 9 E Y c C aw) aa fun v9 ax an=> ?_
 obtain ⟨a,I⟩:=an
 rw [WS] at a
 obtain ⟨a9,aA,rfl⟩:=cT a
 have V:=Y.wk I
 refine ay<|ad<|ak fun ae=>p mv<|p (bP l6 aa aa)<|p (cw aa aa)<|p mv<|gs (t:=13) aa (fun aF=> ?_) fun h=>absurd aa h
 refine aY aa mv<|aY aa (bd pL aa aa aw<|aG.ok (nZ a)<|rV aw)<|aY aa (fa oJ aa)<|aY aa (ld bO aa<|gr (f:=cB) (m:=5) (i:=0) (fun _=>rfl) (nZ a) (show xN[0]? =some ⟨[103,97,115],0,-1,-1,-1⟩ from aa) 1 aw)<|aY aa (cw aa aa)<|p (bR aa)<|p mv<|gs (t:=20) aa (fun aH=> ?_) fun h=>absurd aa h
 refine aY aa mv<|aY aa (bd pL aa aa aw<|aG.ok (nZ a)<|rV aw)<|aY aa (cg hZ aa (aa)<|gr (f:=cB) (m:=5) (i:=1) (fun _=>rfl) (nZ a) (show xN[1]? =some ⟨[103,97,115],1,0,-1,-1⟩ from aa))<|aY aa (di (ps:= [(0,str [103,97,115]),(1,.int .i64 1),(2,.int .i64 0),(3,.int .i64 (-1)),(4,.int .i64 (-1))]) (L:= [str [103,97,115],.int .i64 1,.int .i64 0,.int .i64 (-1),.int .i64 (-1)]) xz aa<|aa)<|aY aa (EF aa aa)<|p (bR aa)<|p mv<|gs (t:=27) aa (fun aI=> ?_) fun h=>absurd ⟨aa,aa,aa,aa,aa⟩ h
 refine aY aa mv<|eg aa aa aa<|cl Di (CH B tb U fO gY [103,97,115] ax V c C aw) aa fun aO au M=> ?_
 rw [WE] at M
 obtain ⟨rfl,G⟩:=M
 refine p (bR aa)<|p mv<|gb (t:=31) aa (fun aJ=> ?_) fun h=>absurd ((aa).symm.trans h) dv
 refine aY aa mv<|eg aa aa aa<|cl Di (CH B tb U fO gY [103] au (V.wk G) c C aw) aa fun v33 aQ O=> ?_
 rw [WM] at O
 obtain ⟨rfl,aj⟩:=O
 exact aY aa (no aa)<|p (bR aa)<|ay<|ae<|rt<|bc aa<|⟨aa,((ah.trans I).trans G).trans aj⟩
end Go.Hb
end
section
namespace Go.Hb
open Go.Hb.vk Go.Hb.tc Go.Hb.yy
theorem V0 (most:Int):ir [] most= []:=by unfold ir; split <;> simp
theorem SU {L:List bu} {most:Int} {d:bu} (h:d∈ir L most):d∈L:=by
 unfold ir at h
 split at h
 · cases h
 · exact JN h
theorem VZ {L:List bu} {most:Nat} :(ir L (most:Int)).length≤most:=by
 unfold ir
 split
 · exact ki _
 · rw [ee,jq]; omega
theorem Iv {F:aC} {xs:List bj} {w:Tx} {m:Nat} (hm:m≤1000):(e7 F xs w (m:Int)).length≤m:=by
 unfold e7; rw [ee]; omega
theorem WU {F:aC} {xs:List bj} {w:Tx} {m:Int} {d:bu} (h:d∈e7 F xs w m):d.c5=w∧d.dw < xs.length∧ -1≤d.fst∧ -1≤d.snd∧ -1≤d.pre∧ud F xs (d.dw:Nat) d.fst d.snd d.pre=some d.c5:=by
 obtain ⟨h1,h2⟩:=uc.1<|JN h
 obtain ⟨e,he,hd⟩:=wS.1 h1
 obtain ⟨rfl,a,b,c,hm⟩:=sd hd
 exact ⟨h2,he,a,b,c,by rw [sg he]; exact hm⟩
theorem OV {F:aC} {xs:List bj} {n:Int} {d:bu} (h:d∈gJ F xs n):d∈gq F xs d.c5:=by
 by_cases hn:0≤n∧n < xs.length
 · obtain ⟨k,rfl⟩:∃ k:Nat,n=(k:Int):=⟨n.toNat,ab⟩
   rw [vP ab] at h
   exact uc.2 ⟨wS.2 ⟨k,ab,h⟩,aa⟩
 · rw [Ew hn] at h; cases h
def kP (W:List bu) (d:bu) (k:Nat):Bool:=decide ((W.length:Int)=1000) || decide (d∈W.take k)
theorem Qy (W:List bu) (d:bu):decide ((W.length:Int)=1000)=kP W d 0:=by unfold kP; simp
theorem Qw {W:List bu} {d:bu} {k:Nat} (h:kP W d k=true):true =kP W d (k+1):=by
 unfold kP at*
 rw [sN,decide_eq_true_iff,decide_eq_true_iff] at h
 refine Eq.symm ?_
 rw [sN,decide_eq_true_iff,decide_eq_true_iff]
 exact h.imp id fun h=>by rw [CB]; exact List.mem_append_left _ h
theorem Qv {W:List bu} {d e:bu} {k:Nat} (h:kP W d k=false) (he:W[k]? =some e):decide (e.c5=d.c5∧(e.dw:Int)=d.dw∧e.fst=d.fst∧e.snd=d.snd∧e.pre=d.pre)=kP W d (k+1):=by
 unfold kP at*
 rw [Bool.or_eq_false_iff] at h
 rw [h.1,Bool.false_or]
 refine decide_eq_decide.2 ⟨fun ⟨h1,h2,h3,h4,h5⟩=> ?_,fun hm=> ?_⟩
 · rw [show d=e from (vR ⟨h1,ab,h3,h4,h5⟩).symm,CB,he]; simp
 · rw [CB,he] at hm
   rcases js.1 hm with hm | hm
   · exact absurd hm<|of_decide_eq_false h.2
   · obtain rfl :d=e:=by simpa using hm
     exact ⟨aa,aa,aa,aa,aa⟩
theorem Qx {F:aC} {xs:List bj} {d:bu} (h:d∈gq F xs d.c5):kP (e7 F xs d.c5 1000) d (e7 F xs d.c5 1000).length=true :=by
 unfold kP
 rw [JS,sN,decide_eq_true_iff,decide_eq_true_iff]
 by_cases a:((e7 F xs d.c5 1000).length:Int)=1000
 · exact .inl a
 · refine .inr ?_
   unfold e7 at a ⊢
   rw [ee] at a
   rwa [e9 ab]
theorem SJ (a t wd:Tx) (n:Int) (w:World) (cv:a.length≤1048576) (c7:t.length≤1048576) (dr:wd.length≤1048576) (F:aC) (xs:List bj) (bq:lu a t=some (F,xs)):
 bf ao 7 (ba [.agg [str a,str t,str wd,.int .i64 n].toArray]) w (fun v w'=>v= .bool true∧Wk w w'):=by
 have a8:F.rules.length≤1024:=VY bq
 refine enter func7 aa ntmps7 aa<|ak fun bv=>e<|iJ aa fun aQ br bb a2 b2=> ?_
 have bb:bD br.heap aQ [str a,str t,str wd,.int .i64 n]:=b2
 have ds:=a2.size
 refine ay<|bv<|az fun bC=>ak fun bH=>e<|cl k8 (Iu br) aa fun dE c8 co=> ?_
 obtain ⟨rfl,ai⟩:=co
 have dx:=ai.size
 have aA:=Wk.B ai bb
 refine p (no aa)<|nl<|bH<|cf (aa)<|aR<|bC<|ak fun bJ=>p (fa Fu aa)<|p (ld cH aa<|aA.bp 0)<|p (fa Fv aa)<|p (ld cH aa<|aA.bp 1)<|e<|cl rL (By a t c8 cv c7) aa fun v23 bs cp=> ?_
 obtain ⟨⟨pp,dB,dC,dD,rfl,bl⟩,hE23⟩:=cp
 rw [bq] at bl
 have dy:=hE23.size
 obtain ⟨B,tb,U,de,rfl,aq,C⟩:=bl
 have aq:dT bs B tb U F xs:=aq
 have C:dW F xs:=C
 refine p mv<|p (xt aa aa)<|p (xt aa aa)<|e<|al oc fun dc dJ df a5 b7=> ?_
 have dz:=a5.size
 refine p aE<|e<|cM iV aa aa aa aa (b7) (by simp) fun bu cm dd=> ?_
 have am:Wk bs bu:=a5.md.trans' cm fun q I h=>by omega
 have cc:=((a2.md.trans ai).trans hE23).trans am
 have bg:=Wk.B (hE23.trans am) aA
 have a9:=aq.wk am
 refine nl<|bJ<|ak fun bK=>p (fa Fw aa)<|p (ld cH aa<|bg.bp 2)<|p aE<|nl<|bK<|az fun bM=>ak fun bN=>p mv<|p mv<|e<|cl kr (BM B tb U F xs wd 300 bu a9 C a8 ab) aa fun v30 c9 cq=> ?_
 obtain ⟨aH,an⟩:=cq
 obtain ⟨bV,b0,rfl⟩:=cT aH
 have cz:=Wk.B an bg
 have av:=a9.wk an
 have dl:(e7 F xs wd 300).length≤300:=Iv (m:=300) aw
 refine p (bP l6 aa aa)<|p mv<|nl<|bN<|aB<|lp (fun A G Z=> ∃ (i:Nat),(i≤(e7 F xs wd 300).length)∧(Wk c9 Z)∧(G 1=aU aQ)∧(G 3=aU tb)∧(G 5=str wd)∧(G 30= .slice bV (e7 F xs wd 300).length b0)∧(G 31=aj ((e7 F xs wd 300).length))∧(G 32=aj i)∧((e7 F xs wd 300).length - i=A)) _ ⟨0,ab,(Md.refl _ _),aa,aa,aa,aa,aa,aa,aa⟩ ?_
 rintro A G Z ⟨i,hi,E,cL,cN,cR,cO,cP,cQ,rfl⟩
 refine fx 1 cL<|fx 3 cN<|fx 5 cR<|fx 30 cO<|fx 31 cP<|fx 32 cQ<|ak fun bQ=>p (lt aa aa)<|nl<|bQ<|az fun bS=>cd aa (fun cI=> ?_) fun cI=> ?_
 refine aR<|bS<|az fun ac=>aB<|az fun ad=> ?_
 obtain ⟨d,hd⟩:∃ d,(e7 F xs wd 300)[i]? =some d:=⟨_,bW ab⟩
 obtain ⟨bo,dh,cC,cD,cE,cF⟩:=WU<|fz hd
 refine rg aa<|p (bd pL aa aa ab<|aG.ok ((nZ aH).wk E)<|rV ab)<|p (cg hZ aa (aa)<|gr (f:=cB) (m:=5) (fun _=>rfl) ((nZ aH).wk E) hd)<|e<|al p6 fun bY dK aD a6 b8=> ?_
 have dA:=a6.size
 refine e<|cM pI aa aa aa aa (b8) (by simp) fun aO cn b9=> ?_
 have ch:Wk Z aO:=a6.md.trans' cn fun q I h=>by omega
 have aD:bD aO.heap bY (cB d):=b9
 have a0:=E.trans ch
 refine nl<|ad<|ak fun ae=>au (aU tb)<|p (cg hZ aa (aa) fun q I=>aD.bp q)<|e<|cl DB (Gz B tb U F xs d.c5 (d.dw:Nat) d.fst d.snd d.pre aO (av.wk a0) C cC cD cE) aa fun v39 dI a7=> ?_
 rw [cF] at a7
 obtain ⟨rfl,aW⟩:=a7
 have cA:=Wk.B aW aD
 exact p mv<|p (xt aa aa)<|p (xt aa aa)<|p aE<|ay<|ae<|az fun ag=>rg aa<|p mv<|p (no aa)<|p mv<|gb (t:=44) aa (fun h=>absurd (h.symm.trans<|aa) dv) fun di=>aY aa mv<|aY aa (aJ (str wd) aa)<|aY aa (qO aa aa)<|p (bI aa)<|p mv<|gs (t:=49) aa (fun h=>absurd h fun h=>h bo) fun dj=>aY aa (fa wv aa)<|aY aa (ld cH aa<|cA.bp 0)<|aY aa (aJ (str wd) aa)<|aY aa (qO aa aa)<|p (bI aa)<|nl<|ag<|cd aa (fun h=>absurd h fun h=>h bo) fun dg=>aR<|bn<|ac<|rg aa<|p (bL ((i+1:Nat):Int) aa aa<|bm ab ab)<|p mv<|nl<|tn<|⟨_,ab,i+1,ab,(a0.trans aW),aa,aa,aa,aa,aa,aa,aa⟩
 refine ext<|bh<|bh<|be<|bM<|az fun ac=>ak fun ad=>au (aU tb)<|p (fa Fy aa)<|p (ld bO aa<|(Wk.B E cz).bp 3)<|e<|cl DC (Sr B tb U F xs n 20 Z (av.wk E) C ab) aa fun v59 da cs=> ?_
 obtain ⟨aI,aX⟩:=cs
 obtain ⟨aP,aV,rfl⟩:=cT aI
 have cu:=(av.wk E).wk aX
 have ce:=((cc.trans an).trans E).trans aX
 have dn:(ir (gJ F xs n) 20).length≤20:=VZ (most:=20)
 refine p (bP l6 aa aa)<|p mv<|nl<|ad<|aB<|lp (fun A M aL=> ∃ (j:Nat),(j≤(ir (gJ F xs n) 20).length)∧(Wk da aL)∧(M 3=aU tb)∧(M 59= .slice aP (ir (gJ F xs n) 20).length aV)∧(M 60=aj ((ir (gJ F xs n) 20).length))∧(M 61=aj j)∧((ir (gJ F xs n) 20).length - j=A)) _ ⟨0,ab,(Md.refl _ _),aa,aa,aa,aa,aa⟩ ?_
 rintro A M aL ⟨j,dk,V,cS,cU,cV,cW,rfl⟩
 refine fx 3 cS<|fx 59 cU<|fx 60 cV<|fx 61 cW<|ak fun ae=>p (lt aa aa)<|nl<|ae<|az fun ag=>cd aa (fun cJ=> ?_) fun cJ=> ?_
 refine aR<|ag<|az fun ah=>aB<|az fun bw=> ?_
 obtain ⟨d,hd⟩:∃ d,(ir (gJ F xs n) 20)[j]? =some d:=⟨_,bW ab⟩
 have bk:=SU<|fz hd
 have dq:=(OW C n d bk).2
 refine rg aa<|p (bd pL aa aa ab<|aG.ok ((nZ aI).wk V)<|rV ab)<|p (cg hZ aa (aa)<|gr (f:=cB) (m:=5) (fun _=>rfl) ((nZ aI).wk V) hd)<|e<|al p6 fun aS dG ax a3 b3=> ?_
 have dt:=a3.size
 refine e<|cM pI aa aa aa aa (b3) (by simp) fun aN cj b4=> ?_
 have ca:Wk aL aN:=a3.md.trans' cj fun q I h=>by omega
 have ax:bD aN.heap aS (cB d):=b4
 have a1:=V.trans ca
 refine nl<|bw<|ak fun bx=>au (aU tb)<|p (fa wv aa)<|p (ld cH aa<|ax.bp 0)<|e<|cl kr (BM B tb U F xs d.c5 1000 aN (cu.wk a1) C a8 ab) aa fun dF db ct=> ?_
 obtain ⟨aK,aZ⟩:=ct
 obtain ⟨bT,bZ,rfl⟩:=cT aK
 have cy:=Wk.B aZ ax
 have dp:(e7 F xs d.c5 1000).length≤1000:=Iv (m:=1000) aw
 have ci:=a1.trans aZ
 refine ay<|bx<|ak fun bz=>p mv<|p (bP l6 aa aa)<|p (cw aa aa)<|ay<|bz<|az fun bA=>ak fun bB=>p mv<|p (bP l6 aa aa)<|p mv<|nl<|bB<|aB ?_
 have J:=Qy (e7 F xs d.c5 1000) d
 refine lp (fun A c aM=> ∃ (k:Nat),(k≤(e7 F xs d.c5 1000).length)∧(Wk db aM)∧(c 3=aU tb)∧(c 59= .slice aP (ir (gJ F xs n) 20).length aV)∧(c 60=aj ((ir (gJ F xs n) 20).length))∧(c 61=aj j)∧(c 11=aU aS)∧(c 13= .bool (kP (e7 F xs d.c5 1000) d k))∧(c 72= .slice bT (e7 F xs d.c5 1000).length bZ)∧(c 73=aj ((e7 F xs d.c5 1000).length))∧(c 74=aj k)∧((e7 F xs d.c5 1000).length - k=A)) _ ⟨0,ab,(Md.refl _ _),aa,aa,aa,aa,aa,(congrArg bU J),aa,aa,aa,aa⟩ ?_
 rintro A c aM ⟨k,hk,Y,cZ,c0,c1,c2,cX,cY,c3,c4,c6,rfl⟩
 refine fx 3 cZ<|fx 59 c0<|fx 60 c1<|fx 61 c2<|fx 11 cX<|fx 13 cY<|fx 72 c3<|fx 73 c4<|fx 74 c6<|ak fun bE=>p (lt aa aa)<|nl<|bE<|az fun bF=>cd aa (fun cK=> ?_) fun cK=> ?_
 refine aR<|bF<|az fun O=>aB<|az fun bG=> ?_
 obtain ⟨b1,he⟩:∃ d2,(e7 F xs d.c5 1000)[k]? =some d2:=⟨_,bW ab⟩
 refine rg aa<|p (bd pL aa aa ab<|aG.ok ((nZ aK).wk Y)<|rV ab)<|p (cg hZ aa (aa)<|gr (f:=cB) (m:=5) (fun _=>rfl) ((nZ aK).wk Y) he)<|e<|al p6 fun bX dH bi a4 b5=> ?_
 have du:=a4.size
 refine e<|cM pI aa aa aa aa (b5) (by simp) fun bt ck b6=> ?_
 have cb:Wk aM bt:=a4.md.trans' ck fun q I h=>by omega
 have bi:bD bt.heap bX (cB b1):=b6
 have ap:=Y.trans cb
 have cx:=Wk.B ap cy
 refine nl<|bG<|rg aa<|au (.bool<|kP (e7 F xs d.c5 1000) d k)<|au (.bool<|kP (e7 F xs d.c5 1000) d k)<|gb (t:=79) aa (fun aF=> ?_) fun aF=> ?_
 have J:=Qw aF
 exact aT aa<|aT aa<|aT aa<|p (bR aa)<|p aE<|nl<|bn<|O<|rg aa<|p (bL ((k+1:Nat):Int) aa aa<|bm ab ab)<|p mv<|nl<|tn<|⟨_,ab,k+1,ab,ap,aa,aa,aa,aa,aa,(congrArg bU J),aa,aa,aa,aa⟩
 have J:=Qv (by simpa using aF) he
 exact aY aa (cg hZ aa (aa) fun q I=>bi.bp q)<|aY aa (cg hZ aa (aa) fun q I=>cx.bp q)<|aY aa (EF aa aa)<|p (bI aa)<|p aE<|nl<|bn<|O<|rg aa<|p (bL ((k+1:Nat):Int) aa aa<|bm ab ab)<|p mv<|nl<|tn<|⟨_,ab,k+1,ab,ap,aa,aa,aa,aa,aa,(congrArg bU J),aa,aa,aa,aa⟩
 refine ext<|bh<|bh<|be<|bA<|az fun O=> ?_
 have cG:kP (e7 F xs d.c5 1000) d k=true :=by rw [show k=(e7 F xs d.c5 1000).length by omega]; exact Qx<|OV bk
 exact rg aa<|au (.bool<|kP (e7 F xs d.c5 1000) d k)<|p (no aa)<|nl<|O<|cf (congrArg bU<|by rw [cG]; rfl)<|aR<|bn<|ah<|rg aa<|p (bL ((j+1:Nat):Int) aa aa<|bm ab ab)<|p mv<|nl<|tn<|⟨_,ab,j+1,ab,(ci.trans Y),aa,aa,aa,aa,aa⟩
 exact ext<|bh<|bh<|be<|ac<|ak fun ah=>p aE<|nl<|ah<|rt<|bc aa<|⟨aa,ce.trans V⟩
theorem SI (a t wd:Tx) (n:Int) (w:World) (aV:a.length≤1048576) (a3:t.length≤1048576) (br:wd.length≤1048576) (a4:lu a t=none):
 bf ao 7 (ba [.agg [str a,str t,str wd,.int .i64 n].toArray]) w (fun v w'=>v= .bool true∧Wk w w'):=by
 refine enter func7 aa ntmps7 aa<|ak fun ap=>e<|iJ aa fun O ai ae ac aJ=> ?_
 have ae:bD ai.heap O [str a,str t,str wd,.int .i64 n]:=aJ
 have bs:=ac.size
 refine ay<|ap<|az fun aA=>ak fun aC=>e<|cl k8 (Iu ai) aa fun bB a5 aP=> ?_
 obtain ⟨rfl,E⟩:=aP
 have bt:=E.size
 have G:=Wk.B E ae
 refine p (no aa)<|nl<|aC<|cf (aa)<|aR<|aA<|ak fun aD=>p (fa Fu aa)<|p (ld cH aa<|G.bp 0)<|p (fa Fv aa)<|p (ld cH aa<|G.bp 1)<|e<|cl rL (By a t a5 aV a3) aa fun v23 a6 aQ=> ?_
 obtain ⟨⟨pp,bx,bz,bA,rfl,C⟩,hE23⟩:=aQ
 rw [a4] at C
 have bv:=hE23.size
 have C:pp=none:=C
 subst C
 refine p mv<|p (xt aa aa)<|p (xt aa aa)<|e<|al oc fun bg bC bl ad aK=> ?_
 have bw:=ad.size
 refine p aE<|e<|cM iV aa aa aa aa (aK) (by simp) fun an aO bk=> ?_
 have V:Wk a6 an:=ad.md.trans' aO fun q bo h=>by omega
 have aL:=((ac.md.trans E).trans hE23).trans V
 have ag:=Wk.B (hE23.trans V) G
 refine nl<|aD<|ak fun aF=>p (fa Fw aa)<|p (ld cH aa<|ag.bp 2)<|p aE<|nl<|aF<|az fun aG=>ak fun aH=>p mv<|p mv<|e<|cl kr (W5 wd 300 an) aa fun v30 aj aS=> ?_
 obtain ⟨I,Y⟩:=aS
 have I:bq aj _ _ 5 v30 ([]:List bu).length []:=I
 obtain ⟨bd,bj,rfl⟩:=cT I
 have aW:=Wk.B Y ag
 refine p (bP l6 aa aa)<|p mv<|nl<|aH<|aB<|lp (fun c A J=>(Wk aj J)∧(A 1=aU O)∧(A 3= .pointer none)∧(A 31= .int .i64 0)∧(A 32= .int .i64 0)∧(0=c)) _ ⟨(Md.refl _ _),aa,aa,aa,aa,aa⟩ ?_
 rintro c A J ⟨Z,aX,aY,aZ,a0,rfl⟩
 refine fx 1 aX<|fx 3 aY<|fx 31 aZ<|fx 32 a0<|ak fun aI=>p (lt aa aa)<|nl<|aI<|az fun a9=>cd aa (fun h=>absurd h ab) fun bm=>ext<|bh<|bh<|be<|aG<|az fun aq=>ak fun av=>au (.pointer none)<|p (fa Fy aa)<|p (ld bO aa<|(Wk.B Z aW).bp 3)<|e<|cl DC (Sp n 20 J ab) aa fun v59 a7 aT=> ?_
 obtain ⟨ah,aM⟩:=aT
 rw [V0] at ah
 obtain ⟨bb,bi,rfl⟩:=cT ah
 refine p (bP l6 aa aa)<|p mv<|nl<|av<|aB<|lp (fun c M am=>(Wk a7 am)∧(M 60= .int .i64 0)∧(M 61= .int .i64 0)∧(0=c)) _ ⟨(Md.refl _ _),aa,aa,aa⟩ ?_
 rintro c M am ⟨aN,a1,a2,rfl⟩
 exact fx 60 a1<|fx 61 a2<|ak fun aw=>p (lt aa aa)<|nl<|aw<|az fun a8=>cd aa (fun h=>absurd h ab) fun bn=>ext<|bh<|bh<|be<|aq<|ak fun ax=>p aE<|nl<|ax<|rt<|bc aa<|⟨aa,(((aL.trans Y).trans Z).trans aM).trans aN⟩
theorem SK (a t wd:Tx) (n:Int) (w:World) (c:a.length≤1048576) (q:t.length≤1048576) (A:wd.length≤1048576):bf ao 7 [.agg [str a,str t,str wd,.int .i64 n].toArray].toArray w (fun v w'=>v= .bool true∧Wk w w'):=by
 cases hx:lu a t with
 | none=>exact SI a t wd n w c q A hx
 | some Y=>obtain ⟨F,xs⟩:=Y; exact SJ a t wd n w c q A F xs hx
end Go.Hb
end
