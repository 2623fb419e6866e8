/-
  Walks and plain laws that the law rests on, laid together. No conditions but those that each theorem names.
-/
import Derived.Test.YtchkamdekbbgeaaGreatDoorMnAnalyseCounts6
set_option linter.unusedVariables false
set_option maxRecDepth 20000
set_option maxHeartbeats 1000000
open Array renaming getElem?_eq_none→p7,getElem?_eq_some_iff→bT,getElem?_modify→IN,getElem?_toList→uL
open Bool renaming false_eq_true→IU,noConfusion→c7
open Classical renaming byContradiction→uP
open Go.Calls renaming mono→j7
open Go.Instr renaming checkKey→nC,findAsking→qV,findKey→qW,findNow→qX
open Go.Op renaming equalIn→pw
open Go.Proofs.SlLaysF0 renaming n6→XB
open Go.Proofs.Tryz renaming prog→ao
open Go.Proofs renaming ltOf→uV
open Go.Result renaming andThen_ok→nD
open Go.Sem renaming run_bind→nE
open Go.Sort renaming ahead→uW,grow→Jj
open Go.Value renaming bool→bU,int→fL,oneCell'→eQ,ownBlock→gH,slice→bC
open Go.World renaming ownsRow→bq,ownsRow_nil→eh
open Int renaming toNat_natCast→jL
open List.Perm renaming refl→Jt
open List renaming any_eq_true→ya,append_nil→eu,drop_left→Jv,eq_nil_of_length_eq_zero→gq,filter_cons→pA,flatMap_cons→jt,getD_eq_getElem?_getD→cU,getElem?_eq_getElem→bX,getElem?_eq_some_iff→eR,getElem?_map→fF,getElem?_take_of_lt→JD,getElem?_zip_eq_some→jj,length_append→bJ,length_cons→bS,length_filter_le→mM,length_map→e9,length_nil→gJ,length_range→sV,length_singleton→iG,length_take→eE,map_append→gV,map_congr_left→JF,map_cons→mO,mem_append→iW,mem_append_left→sW,mem_append_right→qh,mem_cons→ew,mem_cons_of_mem→nM,mem_cons_self→nN,mem_filter→sX,mem_filterMap→JI,mem_flatMap→nO,mem_map→gW,mem_of_getElem?→fU,mem_range→nP,mem_singleton→gK,nodup_append→rh,nodup_cons→ri,nodup_nil→JL,of_mem_zip→JM,pairwise_cons→nQ,pairwise_flatMap→CG,pairwise_lt_range→yo,pairwise_map→yq,range→fM,sum_cons→ys,take_add_one→JP,take_append_drop→vg,take_left→JQ,take_length→CH,take_of_length_le→fu,toArray→a7
open Nat renaming add_le_add→JU,le_refl→cj,le_trans→dS,lt_succ_iff_lt_or_eq→nS,mul_add→vk,mul_comm→s7,mul_le_mul_right→oD,succ_mul→nT,zero_add→fN,zero_le→ku
open Nat.le renaming dest→JZ
open Option renaming bind_assoc→Kb,bind_eq_some_iff→qj,bind_some→pC,isSome_iff_exists→me,map_eq_some_iff→mg
open Prod renaming fst→gr
open Go.Proofs.Tryz
open Go.Hb.dI Go.Proofs Go.Hb.ez Go.Hb.ff Go.Hb.gX Go.Hb.fw Go.Hb.gL Go.Hb.iJ Go.Hb.iX Go.Hb.jQ Go.Hb.lL

section
namespace Go.Hb
noncomputable def wP (F:aC) (xs:List bg) (n f s p:Int):Option Tx:=if 0≤n∧n < xs.length then fR F xs n.toNat f s p else none
theorem Th {F:aC} {xs:List bg} {n f s p:Int} (h:¬(0≤n∧n < xs.length)):wP F xs n f s p=none:=if_neg h
theorem ug {F:aC} {xs:List bg} {k:Nat} {f s p:Int} (h:k < xs.length):wP F xs k f s p=fR F xs k f s p:=by unfold wP; rw [if_pos ab,jL]
def l2 (F:aC) (xs:List bg) (k:Nat) (f:Int):Nat→List Nat
 | 0=>aM F (flagsOf xs k) 2
 | 1=>aM F (bI F f) 2
 | _=>aM F (flagsOf xs k) 1
def oZ (f s p:Int):Nat→Int
 | 0=>f
 | 1=>s
 | _=>p
noncomputable def jY (F:aC) (xs:List bg) (k:Nat) (f s p:Int):Nat→Option Tx
 | 0=>some (xs.getD k ([],[])).1
 | i+1=>(jY F xs k f s p i).bind<|fJ F (l2 F xs k f i)<|oZ f s p i
section
variable {F:aC} {xs:List bg} {k:Nat} {f s p:Int}
theorem AN (h:f= -1∧s≠ -1):fR F xs k f s p=none:=if_pos h
theorem ui (h:¬(f= -1∧s≠ -1)):fR F xs k f s p=(jY F xs k f s p 3).bind fun u=>if eU F xs k f s p=true then some u else none:=by
 unfold fR
 rw [if_neg h]
 show _=(((some (xs.getD k ([],[])).1).bind<|fJ F (aM F (flagsOf xs k) 2) f).bind (fJ F (aM F (bI F f) 2) s) |>.bind (fJ F (aM F (flagsOf xs k) 1) p)).bind _
 rw [pC,Kb,Kb]
theorem GH {i:Nat} (h:jY F xs k f s p i=none):∀ j,jY F xs k f s p (i+j)=none
 | 0=>h
 | j+1=>by
   show (jY F xs k f s p<|i+j).bind _=none
   rw [GH h j]; rfl
theorem BD {L:List Nat} {n:Int} {u v:Tx} (c:∀ i∈L,i < F.rules.length) (A: -1≤n) (h:fJ F L n u=some v):Rn F n:=by
 unfold fJ at h
 unfold Rn
 by_cases h1:n= -1
 · exact .inl h1
 · rw [if_neg h1] at h
   by_cases h2:n.toNat∈L
   · have :=c _ h2; omega
   · rw [if_neg h2] at h; cases h
theorem VT {L:List Nat} {n:Nat} {u:Tx} (h:n∈L):fJ F L n u=dy (F.rules.getD n dq) u:=by unfold fJ; rw [if_neg ab,jL,if_pos h]
theorem VV {L:List Nat} {n:Nat} {u:Tx} (h:n∉L):fJ F L n u=none:=by unfold fJ; rw [if_neg ab,jL,if_neg h]
theorem uh (i:Nat):∀ j∈l2 F xs k f i,j < F.rules.length:=by
 intro j c
 unfold l2 at c
 split at c <;> exact (mz.1 c).1
theorem Ti (i:Nat):(l2 F xs k f i).length≤F.rules.length:=by
 unfold l2
 split <;> exact se _ _ _
theorem GI {u:Tx} (c: -1≤f) (hs: -1≤s) (hp: -1≤p) (h:jY F xs k f s p 3=some u):Rn F f∧Rn F s∧Rn F p:=by
 obtain ⟨C,h2,h3⟩:=qj.1 (show (jY F xs k f s p 2).bind _=some u from h)
 obtain ⟨A,h1,h2⟩:=qj.1 (show (jY F xs k f s p 1).bind _=some C from h2)
 obtain ⟨E,_,h1⟩:=qj.1 (show (jY F xs k f s p 0).bind _=some A from h1)
 exact ⟨BD (uh 0) c h1,BD (uh 1) hs h2,BD (uh 2) hp h3⟩
end
theorem VU {F:aC} {xs:List bg} (A:dU F xs) {L:List Nat} {n:Int} {u v:Tx} (C:∀ i∈L,i < F.rules.length) (h:fJ F L n u=some v):v.length≤u.length+32:=by
 unfold fJ at h
 by_cases h1:n= -1
 · rw [if_pos h1] at h; cases h; omega
 · rw [if_neg h1] at h
   by_cases h2:n.toNat∈L
   · rw [if_pos h2] at h
     obtain ⟨r,c⟩:∃ r,F.rules[n.toNat]? =some r:=⟨_,bX<|C _ h2⟩
     rw [cU,c] at h
     exact (rF (iw A c).2.2.2 h).2
   · rw [if_neg h2] at h; cases h
def Hc (p:Value×Value):List Value:= [p.1,p.2]
theorem RQ (a:Option Addr) (c:Nat) (l:List Nat) (x:Nat) (w:World) (G:aG w.heap a (l.map fG)) (ax:l.length≤1048576):
 bf ao 144 (a7 [.slice a l.length c,aj x]) w (fun v w'=>(∃ k:Int,v= .int .i64 k∧(0≤k↔x∈l)∧ -1≤k∧k≤1048576)∧Wk w w'):=by
 refine enter func144 aa ntmps144 aa<|ak fun Y=>ay<|Y<|aB fun Z=>ak fun ac=>au (.slice a l.length c)<|p (bP o3 aa aa)<|p mv<|nl<|ac<|az<|lp (fun E A V=> ∃ (i:Nat),(i≤l.length)∧(∀ j,j < i→l.getD j 0≠x)∧(V=w)∧(A 0= .slice a l.length c)∧(A 1=aj x)∧(A 7=aj (l.length))∧(A 8=aj i)∧(l.length - i=E)) _ ⟨0,ab,(fun j J=>by omega),aa,aa,aa,aa,aa,aa⟩ ?_
 rintro E A V ⟨i,hi,O,am,ap,aq,av,aw,rfl⟩
 refine fx 0 ap<|fx 1 aq<|fx 7 av<|fx 8 aw ?_
 subst am
 refine ak fun ae=>p (lt aa aa)<|nl<|ae<|aB fun ag=>cd aa (fun an=> ?_) fun an=> ?_
 refine aR<|ag<|aB fun C=>az<|ak fun ah=>au (aj i)<|p (cg (aj i) aa)<|nl<|ah<|ak fun ai=>au (aj x)<|au (.slice a l.length c)<|au (aj i)<|p (bc oS aa aa ab<|aG.ok (G)<|c8 ab)<|p (ld bH aa<|aG.iY G (show (l.map fG)[i]? =some (aj<|l.getD i 0) by rw [fF,cU,bX (by omega :i < l.length)]; rfl)) ?_
 refine p (cx aa aa)<|nl<|ai<|cd aa (fun I=> ?_) fun I=> ?_
 exact ak fun al=>au (aj i)<|p (cg (aj i) aa)<|nl<|al<|rt<|br<|tr<|tr<|br<|tr<|a8 aa<|⟨⟨(i:Nat),aa,⟨fun _=>by obtain rfl :x=l.getD i 0:=ab; exact e6 ab,fun _=>by omega⟩,ab,ab⟩,Md.refl _ _⟩
 exact aR<|bn<|C<|rg aa<|p (ad aa aa<|cz ab)<|p mv<|nl<|tn<|⟨_,ab,i+1,ab,(fun j J=>by rcases Nat.lt_or_ge j i with h | h <;> first | exact O j h | (rw [show j=i by omega]; exact fun h2=>I<|by rw [h2])),aa,aa,aa,aa,aa,aa⟩
 exact ext<|bj<|bj<|be<|Z<|ak fun C=>p aE<|nl<|C<|rt<|a8 aa<|⟨⟨-1,aa,⟨fun h=>absurd h ab,fun h=>by obtain ⟨j,J,e⟩:=oY 0 h; exact absurd e<|O j ab⟩,ab,ab⟩,Md.refl _ _⟩
theorem On (a:Option Addr) (c:Nat) (l:List Nat) (x:Nat) (w:World) (E:aG w.heap a (l.map fG)) (J:l.length≤1048576):
 bf ao 88 (a7 [.slice a l.length c,aj x]) w (fun v w'=>v= .bool (decide (x∈l))∧Wk w w'):=by
 refine enter func88 aa ntmps88 aa<|ak fun A=>ay<|A<|ak fun C=>au (.slice a l.length c)<|au (aj x)<|e<|cl LR (RQ a c l x w E J) aa fun Y Z G=> ?_
 obtain ⟨⟨O,rfl,I,V⟩,hE7⟩:=G
 exact p (ge aa aa)<|ay<|C<|rt<|a8 aa<|⟨by show bU (decide (O≥0))=_; exact congrArg bU (decide_eq_decide.2 I),hE7⟩
theorem VW (F:aC) (xs:List bg) (I:dU F xs) (ar:Option Addr) (cr:Nat) (rn:List Value) (a:Option Addr) (c:Nat) (L:List Nat) (n:Int) (u:Tx) (w:World) (O:aG w.heap ar (gd<|F.rules.zip rn)) (au:rn.length=F.rules.length) (ah:aG w.heap a (L.map fG)) (am:∀ i∈L,i < F.rules.length) (al:L.length≤1048576) (aw: -1≤n) (ax:u.length≤1048576):
 bf ao 48 (a7 [.slice ar F.rules.length cr,.slice a L.length c,.int .i64 n,str u]) w (fun v w'=>v=xa (fJ F L n u)∧Wk w w'):=by
 refine enter func48 aa ntmps48 aa<|ak fun Z=>p aE<|ay<|Z<|aB fun ac=>aB fun ad=>rg aa<|p mv<|p (cx aa aa)<|nl<|ad<|cd aa (fun h1=> ?_) fun h1=> ?_
 obtain rfl :n= -1:=h1
 exact ak fun E=>p mv<|p aE<|ay<|E<|rt<|tr<|f2 aa aa aa<|⟨by rw [uC]; rfl,Md.refl _ _⟩
 obtain ⟨m,rfl⟩:∃ m:Nat,n=(m:Int):=⟨n.toNat,ab⟩
 refine aR<|ac<|aB fun E=>ak fun ae=>p mv<|p mv<|e<|cl M4 (On a c L m w ah al) aa fun az av ai=> ?_
 obtain ⟨rfl,C⟩:=ai
 refine p (no aa)<|nl<|ae<|cb aa (fun J=> ?_) fun J=> ?_
 have an:m∉L:=by simpa using J
 exact ak fun G=>p aE<|ay<|G<|rt<|tr<|f2 aa aa aa<|⟨by rw [VV an]; rfl,C⟩
 have V:m∈L:=by simpa using J
 obtain ⟨r,A⟩:∃ r,F.rules[m]? =some r:=⟨_,bX<|am m V⟩
 have aq:=(eR.1 A).1
 have Y:(F.rules.zip rn)[m]? =some (r,rn[m]'(by rw [au]; exact aq)):=jj.2 ⟨A,bX _⟩
 have ap:F.rules.getD m dq=r:=by rw [cU,A]; rfl
 refine aR<|E<|ak fun G=>p mv<|p mv<|p (bc kG aa aa ab<|aG.ok (O.wk C)<|k3 Y)<|p (cE jx aa (aa)<|ic (f:=dG) (m:=7) (fun _=>rfl) (O.wk C) Y)<|p mv<|e<|cl vL (vA r _ u av (iw I A).1 (iw I A).2.1 (iw I A).2.2.1 ab) aa fun v22 aA aj=> ?_
 obtain ⟨rfl,ag⟩:=aj
 exact p (xt aa aa)<|p (xt aa aa)<|p aE<|ay<|G<|rt<|f2 aa aa aa<|⟨by rw [VT V,ap]; rfl,C.trans ag⟩
theorem SY (B tb:Nat) (U:ek) (F:aC) (xs:List bg) (bm:Tx) (n f s c:Int) (w:World) (bQ:dK w B tb U F xs) (G:dU F xs) (cN: -1≤f) (c4: -1≤s) (cX: -1≤c):
 bf ao 25 (a7 [aU tb,.agg [str bm,.int .i64 n,.int .i64 f,.int .i64 s,.int .i64 c].toArray]) w (fun v w'=>v=xa (wP F xs n f s c)∧Wk w w'):=by
 refine enter func25 aa ntmps25 aa<|ak fun b5=>e<|jm aa fun aQ b2 a4 aZ cn=> ?_
 have dt:=aZ.size
 have cI:=bQ.wk aZ.md
 have a4:bE b2.heap aQ [str bm,.int .i64 n,.int .i64 f,.int .i64 s,.int .i64 c]:=cn
 refine p aE<|ay<|b5<|ak fun b8=>p mv<|p (fa oU aa)<|p (ld bH aa<|a4.bu 1)<|e<|cl rK (tG B tb U F xs n b2 cI G) aa fun dx dg cA=> ?_
 obtain ⟨⟨di,rfl,cV⟩,hE16⟩:=cA
 obtain ⟨ch,cj,rfl⟩:=c5 cV
 have ds:=hE16.size
 refine p mv<|p (xt aa aa)<|p (xt aa aa)<|e<|al pd fun bs dC bU bM co=> ?_
 have dw:=bM.size
 refine e<|dd jy aa aa aa aa (co) (by simp) fun bp bJ cm=> ?_
 have cw:Wk dg bp:=bM.md.trans' bJ fun q cY h=>by omega
 have dq:=bJ.size
 have bU:bE bp.heap bs [str (iQ xs n),.slice ch (flagsOf xs n).length cj]:=cm
 have bB:=hE16.trans cw
 have ah:=aZ.md.trans bB
 have aI:=bQ.wk ah
 have a5:=Wk.B bB a4
 refine ay<|b8 ?_
 refine e8 (fun aN bo=>(bo=bp)∧(0≤n∧n < xs.length)∧(¬(f= -1∧s≠ -1))∧(aN 0=aU tb)∧(aN 3=aU aQ)∧(aN 6=aU bs)) ?_ ?_
 refine ak fun aq=>p mv<|p (no aa)<|p mv<|gb (t:=21) aa (fun aw=> ?_) fun aw=> ?_
 have cW:¬(0≤n∧n < xs.length):=fun h=>by rw [decide_eq_true h] at aw; cases aw
 exact aT aa<|aT aa<|aT aa<|aT aa<|fS aa<|fS aa<|fS aa<|aT aa<|p (bO aa)<|nl<|aq<|ct aa<|ak fun av=>p aE<|p aE<|nl<|av<|rt<|tr<|f2 aa aa aa<|⟨by rw [Th cW]; rfl,ah⟩
 have bc:0≤n∧n < xs.length:=uP fun h=>by rw [decide_eq_false h] at aw; cases aw
 refine a6 aa (fa lT aa)<|a6 aa (ld bH aa<|a5.bu 2)<|a6 aa (cx aa aa)<|a6 aa mv<|gs (t:=25) aa (fun a9=> ?_) fun a9=> ?_
 refine a6 aa (fa lU aa)<|a6 aa (ld bH aa<|a5.bu 3)<|a6 aa (gF aa aa)<|a6 aa (bO aa)<|p (bG aa)<|nl<|aq<|cd aa (fun bh=> ?_) fun bh=> ?_
 refine ak fun av=>p aE<|ay<|av<|rt<|tr<|f2 aa aa aa ?_
 obtain ⟨k,rfl⟩:∃ m:Nat,n=(m:Int):=⟨n.toNat,ab⟩
 exact ⟨by rw [ug ab,AN ⟨a9,bh⟩]; rfl,ah⟩
 exact aR<|tn<|⟨aa,bc,(fun h=>bh h.2),aa,aa,aa⟩
 exact aT aa<|aT aa<|aT aa<|a6 aa (bG aa)<|p (bG aa)<|nl<|aq<|cf aa<|aR<|tn<|⟨aa,bc,(fun h=>a9 h.1),aa,aa,aa⟩
 rintro aN bo ⟨de,bc,ba,c1,c2,c3⟩
 refine fx 0 c1<|fx 3 c2<|fx 6 c3 ?_
 subst de
 refine ak fun aq=>au (aU tb)<|p (nc aa)<|p (fa tN aa)<|p (ld eY aa<|(aV aI.cells).trans aa)<|e<|cl tw (th B U.fb U.mc F U.V bo aI.fl (by have :=G.len; omega) G.nx) aa fun v35 J cB=> ?_
 obtain ⟨⟨⟨v9,v10,v11,v12,sa,rn⟩,rfl,hax⟩,hE35⟩:=cB
 obtain ⟨ar,cr,bk⟩:=c5 hax.et
 have bk:v12=_:=bk
 subst bk
 have dv:=hE35.size
 have b0:rn.length=F.rules.length:=by have :=hax.nx.1; rwa [e9] at this
 have bA:aG J.heap ar (gd<|F.rules.zip rn):=(aY hax.et).2
 have ac:=Wk.B hE35 a5
 have cL:=Wk.B hE35 bU
 have bS:=(aI.wk hE35).wk (Md.refl _ _).drew
 refine p (zK zL aa aa)<|ay<|aq<|ak fun av=>p (fa wq aa)<|p (ld cR aa<|cL.bu 0)<|ay<|av<|aB fun b9=>aB fun ca=> ?_
 have E:(fun w'=>Wk J w') J.drew:=(Md.refl _ _).drew
 refine bR (fun w'=>Wk J w') aa wide E<|bY 0 aa (aU tb) E<|aK 1 aa (fun _ _=>fa oU aa) E<|aK 2 aa (fun w' I=>ld bH aa<|Wk.aJ I<|ac.bu 1) E<|aK 4 aa (fun _ _=>fa lT aa) E<|aK 5 aa (fun w' I=>ld bH aa<|Wk.aJ I<|ac.bu 2) E<|bY 7 aa (aU tb) E<|aK 8 aa (fun _ _=>fa lT aa) E<|aK 9 aa (fun w' I=>ld bH aa<|Wk.aJ I<|ac.bu 2) E<|aK 11 aa (fun _ _=>fa lU aa) E<|aK 12 aa (fun w' I=>ld bH aa<|Wk.aJ I<|ac.bu 3) E<|bY 14 aa (aU tb) E<|aK 15 aa (fun _ _=>fa oU aa) E<|aK 16 aa (fun w' I=>ld bH aa<|Wk.aJ I<|ac.bu 1) E<|aK 18 aa (fun _ _=>fa n4 aa) E<|aK 19 aa (fun w' I=>ld bH aa<|Wk.aJ I<|ac.bu 4) E<|aK 23 aa (fun _ _=>mv) E<|he 3 aa ag<|cl DR (HU B tb U F xs n J.drew bS G) aa fun dy b3 cC=> ?_
 obtain ⟨bV,aS⟩:=cC
 obtain ⟨ad,ai,rfl⟩:=c5 bV
 have bT:=bS.wk aS
 have a2:(fun w'=>Wk J w') b3:=E.trans aS
 refine ⟨a2,?_⟩
 refine aK 6 aa (fun _ _=>du (ps:= [(0,.slice ad (aM F (flagsOf xs n) 2).length ai),(1,.int .i64 f)]) (L:= [.slice ad (aM F (flagsOf xs n) 2).length ai,.int .i64 f]) Bz aa<|aa) a2<|he 10 aa ag<|cl za (Bp B tb U F xs f b3 bT G) aa fun v49 b4 cD=> ?_
 obtain ⟨bW,aW⟩:=cD
 obtain ⟨a49,am,rfl⟩:=c5 bW
 have cJ:=bT.wk aW
 have a0:(fun w'=>Wk J w') b4:=a2.trans aW
 refine ⟨a0,?_⟩
 refine aK 13 aa (fun _ _=>du (ps:= [(0,.slice a49 (aM F (bI F f) 2).length am),(1,.int .i64 s)]) (L:= [.slice a49 (aM F (bI F f) 2).length am,.int .i64 s]) Bz aa<|aa) a0<|he 17 aa ag<|cl DS (Hd B tb U F xs n b4 cJ G) aa fun dz dh cF=> ?_
 obtain ⟨bZ,aX⟩:=cF
 obtain ⟨ae,an,rfl⟩:=c5 bZ
 have a1:(fun w'=>Wk J w') dh:=a0.trans aX
 refine ⟨a1,?_⟩
 refine aK 20 aa (fun _ _=>du (ps:= [(0,.slice ae (aM F (flagsOf xs n) 1).length an),(1,.int .i64 c)]) (L:= [.slice ae (aM F (flagsOf xs n) 1).length an,.int .i64 c]) Bz aa<|aa) a1<|he 21 aa ag<|Lu [[.slice ad (aM F (flagsOf xs n) 2).length ai,.int .i64 f],[.slice a49 (aM F (bI F f) 2).length am,.int .i64 s],[.slice ae (aM F (flagsOf xs n) 1).length an,.int .i64 c]] Vv aa aa aa aa fun bt aD dj aH cp=> ?_
 obtain ⟨k,rfl⟩:∃ m:Nat,n=(m:Int):=⟨n.toNat,ab⟩
 obtain ⟨A,bw,bx,bz⟩:∃ A:Nat→Option Addr,A 0=ad∧A 1=a49∧A 2=ae:=⟨fun i=>match i with | 0=>ad | 1=>a49 | _=>ae,rfl,rfl,rfl⟩
 obtain ⟨C,cs,cu,cv⟩:∃ C:Nat→Nat,C 0=ai∧C 1=am∧C 2=an:=⟨fun i=>match i with | 0=>ai | 1=>am | _=>an,rfl,rfl,rfl⟩
 have bF:=aW.trans<|aX.trans aH.md
 have Y:Wk J aD:=((Md.refl (fun _=>False) J).drew.trans aS).trans bF
 have cQ:∀ i,i < 3→([(.slice ad (aM F (flagsOf xs k) 2).length ai,.int .i64 f),(.slice a49 (aM F (bI F f) 2).length am,.int .i64 s),(.slice ae (aM F (flagsOf xs k) 1).length an,.int .i64 c)]:List (Value×Value))[i]? =some (.slice (A i) (l2 F xs k f i).length (C i),.int .i64 (oZ f s c i)):=by
  intro i hi
  rcases (show i=0∨i=1∨i=2 by omega) with rfl | rfl | rfl
  rw [bw,cs]; rfl
  rw [bx,cu]; rfl
  rw [bz,cv]; rfl
 have cM:∀ i,i < 3→aG aD.heap (A i) ((l2 F xs k f i).map fG):=by
  intro i hi
  rcases (show i=0∨i=1∨i=2 by omega) with rfl | rfl | rfl
  rw [bw]; exact (aY bV).2.wk bF
  rw [bx]; exact (aY bW).2.wk<|aX.trans aH.md
  rw [bz]; exact (aY bZ).2.wk aH.md
 have cZ:∀ i,i < 3→∀ {W:World},Wk aD W→∀ j,j < 2→Hb.aJ W.heap bt (0 +i*2 +j)=(Hc (.slice (A i) (l2 F xs k f i).length (C i),.int .i64 (oZ f s c i)))[j]? :=fun i hi W cK=>ic (f:=Hc) (m:=2) (fun _=>rfl) ((aG.gl ⟨_,cp⟩).wk cK)<|cQ i hi
 have df:iQ xs (k:Int)=(xs.getD k ([],[])).1:=by
  obtain ⟨x,aA⟩:∃ x,xs[k]? =some x:=⟨_,bX ab⟩
  rw [(rG aA).1,cU,aA]; rfl
 have dp:(iQ xs (k:Int)).length≤1000:=by
  obtain ⟨x,aA⟩:∃ x,xs[k]? =some x:=⟨_,bX ab⟩
  rw [(rG aA).1]; have :=(G.tH x<|fU aA).1; omega
 have bN:(fun w'=>Wk J w') aD:=a1.trans aH.md
 refine ⟨bN,?_⟩
 refine aK 22 aa (fun _ _=>bP Wy aa aa) bN<|hn ag<|ca<|az<|lp (fun bv O aL=> ∃ (i:Nat) (u:Tx),(i≤3)∧(jY F xs k f s c i=some u)∧(u.length≤1000 +i*32)∧(Wk aD aL)∧(O 0=aU tb)∧(O 3=aU aQ)∧(O 8= .slice ar F.rules.length cr)∧(O 9=str u)∧(O 60= .slice (some ⟨bt,0,none⟩) 3 3)∧(O 61= .int .i64 3)∧(O 62=aj i)∧(3 - i=bv)) _ ⟨0,iQ xs (k:Int),ab,(by rw [df]; rfl),ab,(Md.refl _ _),aa,aa,aa,(by first | rfl | exact congrArg str b1),aa,aa,aa,aa⟩ ?_
 rintro bv O aL ⟨i,u,hi,ax,dl,Z,c6,c7,db,dc,c8,c9,da,rfl⟩
 refine fx 0 c6<|fx 3 c7<|fx 8 db<|fx 9 dc<|fx 60 c8<|fx 61 c9<|fx 62 da<|ak fun cc=>p (lt aa aa)<|nl<|cc<|aB fun ce=>cd aa (fun cO=> ?_) fun cO=> ?_
 refine aR<|ce<|aB fun aP=>az<|aB fun aO=> ?_
 have cP:i < 3:=ab
 refine rg aa<|p (ia P7 aa aa ab)<|p (cE Kz aa (aa)<|cZ i ab Z)<|e<|al Xn fun ci dB a3 bL ck=> ?_
 have dr:=bL.size
 refine e<|dd OR aa aa aa aa (ck) (by simp) fun bq cz cq=> ?_
 have cy:Wk aL bq:=bL.md.trans' cz fun q cY h=>by omega
 have a3:bE bq.heap ci [.slice (A i) (l2 F xs k f i).length (C i),.int .i64 (oZ f s c i)]:=cq
 have aF:=Z.trans cy
 refine nl<|aO<|ak fun ap=>au (.slice ar F.rules.length cr)<|p (fa QP aa)<|p (ld vv aa<|a3.bu 0)<|p (fa QQ aa)<|p (ld bH aa<|a3.bu 1)<|au (str u)<|e<|cl MK (VW F xs G ar cr rn (A i) (C i) (l2 F xs k f i) (oZ f s c i) u bq (bA.wk<|Y.trans aF) b0 ((cM i cP).wk aF) (uh i) (by have :=Ti (F:=F) (xs:=xs) (k:=k) (f:=f) i; have :=G.len; omega) (by unfold oZ; split <;> assumption) ab) aa fun dA dD cG=> ?_
 obtain ⟨rfl,bC⟩:=cG
 refine p mv<|p (xt aa aa)<|p (xt aa aa)<|p aE<|ay<|ap<|aB fun b6=>rg aa<|p mv<|p (no aa)<|nl<|b6<|cb aa (fun a8=> ?_) fun a8=> ?_
 have cT:fJ F (l2 F xs k f i) (oZ f s c i) u=none:=by simpa using a8
 refine ak fun b7=>p aE<|ay<|b7<|rt<|br<|tr<|tr<|br<|tr<|f2 aa aa aa ?_
 have cS:jY F xs k f s c 3=none:=by rw [show 3=(i+1)+(2 - i) by omega]; exact GH (by show (jY F xs k f s c i).bind _=none; rw [ax]; exact cT) _
 exact ⟨by rw [ug ab,ui ba,cS]; rfl,ah.trans<|hE35.trans<|Y.trans<|aF.trans bC⟩
 obtain ⟨v,bi⟩:∃ v,fJ F (l2 F xs k f i) (oZ f s c i) u=some v:=me.1<|by simpa using a8
 have dn:=VU G (uh i) bi
 have c0:jY F xs k f s c (i+1)=some v:=by show (jY F xs k f s c i).bind _=_; rw [ax]; exact bi
 have b1:(fJ F (l2 F xs k f i) (oZ f s c i) u).getD []=v:=by rw [bi]; rfl
 exact aR<|bn<|aP<|rg aa<|p (bK ((i+1:Nat):Int) aa aa<|bl ab ab)<|p mv<|nl<|tn<|⟨_,ab,i+1,v,ab,c0,ab,(aF.trans bC),aa,aa,aa,(by first | rfl | exact congrArg str b1),aa,aa,aa,aa⟩
 refine ext<|bj<|bj<|be<|b9<|aB fun aP=>aB fun aO=> ?_
 obtain rfl :i=3:=ab
 have bd:=GI cN c4 cX ax
 refine rg aa<|au (aU tb)<|au (.slice ar F.rules.length cr)<|p (cE kR aa (aa) fun j dk=>(Wk.B (Y.trans Z) ac).bu j)<|e<|cl zb (Ah B tb U F xs ar cr rn bm k f s c aL (aI.wk<|hE35.trans<|Y.trans Z) G (bA.wk<|Y.trans Z) b0 bd.1 bd.2.1 bd.2.2) aa fun v82 dE cH=> ?_
 obtain ⟨rfl,bD⟩:=cH
 refine p (no aa)<|nl<|aO<|cb aa (fun bb=> ?_) fun bb=> ?_
 exact ak fun ap=>p aE<|ay<|ap<|rt<|tr<|f2 aa aa aa<|⟨by rw [ug ab,ui ba,ax,pC,if_neg (by simpa using bb)]; rfl,ah.trans<|hE35.trans<|Y.trans<|Z.trans bD⟩
 exact aR<|aP<|ak fun ap=>au (str u)<|p (cg (str u) aa)<|p aE<|nl<|ap<|rt<|f2 aa aa aa<|⟨by rw [ug ab,ui ba,ax,pC,if_pos (by simpa using bb)]; rfl,ah.trans<|hE35.trans<|Y.trans<|Z.trans bD⟩
end Go.Hb
end
namespace Go.Hb
theorem Ht {r:cJ} {v:Value} (h:v.oneCell'=true):(dG (r,v)).all eQ=true :=by
 unfold dG
 simp only [List.all_cons,List.all_nil,h]
 rfl
def rI (a b:bo):Bool:=if a.fst≠b.fst then decide (a.fst < b.fst) else if a.snd≠b.snd then decide (a.snd < b.snd) else decide (a.pre < b.pre)
theorem Bf (R:Nat):(l5 R).Pairwise (· < ·):=by
 unfold l5
 rw [nQ]
 exact ⟨fun x c=>by obtain ⟨i,_,rfl⟩:=gW.1 c; omega,yq.2<|yo.imp fun h=>by omega⟩
theorem Be {R:Nat} {x:Int} (h:x∈l5 R): -1≤x:=by
 rcases ew.1 h with h | h
 · omega
 · obtain ⟨i,_,rfl⟩:=gW.1 h; omega
theorem sc {F:aC} {xs:List bg} {e:Nat} {f s:Int} {d:bo} (h:d∈qB F xs e f s):d.dW=e∧d.fst=f∧d.snd=s∧d.pre∈l5 F.rules.length∧fR F xs e d.fst d.snd d.pre=some d.cy:=by
 obtain ⟨p,hp,h⟩:=JI.1 h
 obtain ⟨u,hu,rfl⟩:=mg.1 h
 exact ⟨aa,aa,aa,hp,hu⟩
theorem AI {F:aC} {xs:List bg} {e:Nat} {f:Int} {d:bo} (h:d∈tJ F xs e f):d∈qB F xs e f d.snd∧d.snd∈l5 F.rules.length:=by
 obtain ⟨s,hs,h⟩:=nO.1 h
 have :=(sc h).2.2.1
 subst this
 exact ⟨h,hs⟩
theorem ue {F:aC} {xs:List bg} {e:Nat} {d:bo} (h:d∈gi F xs e):d.dW=e∧ -1≤d.fst∧ -1≤d.snd∧ -1≤d.pre∧fR F xs e d.fst d.snd d.pre=some d.cy:=by
 rw [zt] at h
 obtain ⟨f,A,h⟩:=nO.1 h
 obtain ⟨h1,h2⟩:=AI h
 obtain ⟨a,b,c,d,e⟩:=sc h1
 exact ⟨a,by rw [b]; exact Be A,Be h2,Be d,e⟩
theorem Pe (F:aC) (xs:List bg) (e:Nat):(gi F xs e).Pairwise fun a b=>rI a b=true :=by
 rw [zt,CG]
 refine ⟨fun f _=> ?_,(Bf _).imp fun {a b} c x A y C=> ?_⟩
 · unfold tJ
   rw [CG]
   refine ⟨fun s _=> ?_,(Bf _).imp fun {a b} c x A y C=> ?_⟩
   · unfold qB
     rw [List.pairwise_filterMap]
     refine (Bf _).imp fun {a b} c x A y C=> ?_
     obtain ⟨u,_,rfl⟩:=mg.1 A
     obtain ⟨v,_,rfl⟩:=mg.1 C
     unfold rI
     rw [if_neg (fun h=>h rfl),if_neg (fun h=>h rfl)]
     exact decide_eq_true c
   · obtain ⟨_,a2,a3,_⟩:=sc A
     obtain ⟨_,E,G,_⟩:=sc C
     unfold rI
     rw [if_neg (fun h=>h<|by rw [a2,E]),if_pos (by rw [a3,G]; omega),a3,G]
     exact decide_eq_true c
 · have a2:=(sc (AI A).1).2.1
   have E:=(sc (AI C).1).2.1
   unfold rI
   rw [if_pos (by rw [a2,E]; omega),a2,E]
   exact decide_eq_true c
end Go.Hb
section
namespace Go.Hb
open Go.Hb.pF
noncomputable def mW (r:cJ) (u:Tx):Option Tx:=if gB r u=true then some u else none
noncomputable def eX (r:cJ) (w:Tx):Option Tx:=
 if r.kind=2 then (if r.add.length≤w.length∧w.drop (w.length - r.add.length)=r.add then mW r (w.take (w.length - r.add.length)++r.strip) else none)
 else if r.kind=1 then (if w.take r.add.length=r.add then mW r (r.strip++w.drop r.add.length) else none)
 else none
section
variable {r:cJ} {s u w:Tx}
theorem WH (hk:r.kind=2):eX r s=if decide (r.add.length≤s.length∧s.drop (s.length - r.add.length)=r.add)=true then mW r (kq s r.add++r.strip) else none:=by
 unfold eX kq
 rw [if_pos hk]
 by_cases h:r.add.length≤s.length∧s.drop (s.length - r.add.length)=r.add
 · rw [if_pos h,if_pos h,decide_eq_true h,if_pos rfl]
 · rw [if_neg h,decide_eq_false h]; rfl
theorem WG (hk:r.kind=1):eX r s=if decide (s.take r.add.length=r.add)=true then mW r (r.strip++eO s r.add) else none:=by
 unfold eX eO
 rw [if_neg ab,if_pos hk]
 by_cases h:s.take r.add.length=r.add
 · rw [if_pos h,if_pos h,decide_eq_true h,if_pos rfl]
 · rw [if_neg h,decide_eq_false h]; rfl
theorem WE (h1:r.kind≠1) (h2:r.kind≠2):eX r s=none:=by unfold eX; rw [if_neg h2,if_neg h1]
theorem D7 {v:Tx} (h:mW r u=some v):v=u:=by unfold mW at h; split at h <;> cases h; rfl
theorem Ii {v:Tx} (h:eX r s=some v):v.length≤s.length+r.strip.length:=by
 unfold eX at h
 split at h
 · split at h
   · rw [D7 h,bJ,eE]; omega
   · cases h
 · split at h
   · split at h
     · rw [D7 h,bJ,List.length_drop]; omega
     · cases h
   · cases h
theorem BN (hk:r.kind=1∨r.kind=2) (h:dy r u=some w):eX r w=some u:=by
 have c:gB r u=true :=by
  cases c:gB r u with
  | true =>rfl
  | false =>rw [C7 c] at h; cases h
 obtain ⟨E,h2,h1⟩:=vZ c
 by_cases A:r.kind=2
 · rw [Lc c A] at h
   cases h
   have h3:=h2 A
   unfold eX
   have el:(u.take (u.length - r.strip.length)++r.add).length - r.add.length=(u.take<|u.length - r.strip.length).length:=by rw [bJ]; omega
   rw [if_pos A,el,Jv,JQ,if_pos ⟨by rw [bJ]; omega,rfl⟩]
   have C:u.take (u.length - r.strip.length)++r.strip=u:=by
    conv =>lhs; rhs; rw [← h3]
    exact vg _ _
   rw [C]; unfold mW; rw [if_pos c]
 · rw [La c A] at h
   cases h
   have h3:=h1 A
   unfold eX
   rw [if_neg A,if_pos (hk.resolve_right A),JQ,if_pos rfl,Jv]
   have C:r.strip++u.drop r.strip.length=u:=by
    conv =>lhs; lhs; rw [← h3]
    exact vg _ _
   rw [C]; unfold mW; rw [if_pos c]
end
section
variable (F:aC) (xs:List bg) (w:Tx)
def my (stem:Tx) (f s p:Int) (d:bo):Prop := ∃ n x,xs[n]? =some x∧x.1=stem∧d=⟨w,n,f,s,p⟩∧fR F xs n f s p=some w
def ep (n z:Nat):List Nat:=(fM n).filter fun i=>decide (z∈aM F (bI F (i:Int)) 2)
def mV (word:Tx) (p:Int) (k:Nat) (d:bo):Prop :=my F xs w word (-1) (-1) p d∨
 ∃ i r,i < k∧F.rules[i]? =some r∧r.kind=2∧∃ st,eX r word=some st∧(my F xs w st i (-1) p d∨∃ f∈ep F F.rules.length i,∃ rt,eX (F.rules.getD f dq) st=some rt∧my F xs w rt f i p d)
def nr (k:Nat) (d:bo):Prop :=mV F xs w w (-1) F.rules.length d∨∃ i r,i < k∧F.rules[i]? =some r∧r.kind=1∧∃ rest,eX r w=some rest∧mV F xs w rest i F.rules.length d
variable {F xs w}
theorem Pd {e:Nat} {f s p:Int} {u:Tx} (c:Rn F f) (hs:Rn F s) (hp:Rn F p) (h:fR F xs e f s p=some u):(⟨u,e,f,s,p⟩:bo)∈gi F xs e:=by
 have rm:∀ {n:Int},Rn F n→n∈l5 F.rules.length:=fun {n} hn=>by
  rcases hn with h | h
  · exact ew.2<|.inl h
  · exact ew.2<|.inr<|gW.2 ⟨n.toNat,nP.2 ab,ab⟩
 rw [zt]
 refine nO.2 ⟨f,rm c,nO.2 ⟨s,rm hs,JI.2 ⟨p,rm hp,?_⟩⟩⟩
 rw [h]; rfl
theorem Tj {e:Nat} {f s p:Int} {u:Tx} (A: -1≤f) (hs: -1≤s) (hp: -1≤p) (h:fR F xs e f s p=some u):Rn F f∧Rn F s∧Rn F p:=by
 have c:¬(f= -1∧s≠ -1):=fun c=>by rw [AN c] at h; cases h
 rw [ui c] at h
 obtain ⟨v,C,_⟩:=qj.1 h
 exact GI A hs hp C
theorem GF {n:Nat} {d:bo} :d∈c4 F xs n↔∃ e,e < n∧d∈gi F xs e:=by
 unfold c4
 rw [nO]
 exact ⟨fun ⟨e,h,h1⟩=>⟨e,nP.1 h,h1⟩,fun ⟨e,h,h1⟩=>⟨e,nP.2 h,h1⟩⟩
theorem AE {stem:Tx} {f s p:Int} {d:bo} (c: -1≤f) (hs: -1≤s) (hp: -1≤p) (h:my F xs w stem f s p d):d∈c4 F xs xs.length∧d.cy=w:=by
 obtain ⟨n,x,A,_,rfl,hm⟩:=h
 obtain ⟨h1,h2,h3⟩:=Tj c hs hp hm
 exact ⟨GF.2 ⟨n,(eR.1 A).1,Pd h1 h2 h3 hm⟩,aa⟩
theorem D3 {word:Tx} {p:Int} {k:Nat} {d:bo} (hp: -1≤p) (h:mV F xs w word p k d):d∈c4 F xs xs.length∧d.cy=w:=by
 rcases h with h | ⟨i,r,_,_,_,st,_,h | ⟨f,_,rt,_,h⟩⟩
 · exact AE ab ab hp h
 · exact AE ab ab hp h
 · exact AE ab ab hp h
theorem xB {L:List Nat} {n:Int} {u v:Tx} (hn: -1≤n) (h:fJ F L n u=some v):(n= -1∧v=u)∨∃ m:Nat,n=(m:Int)∧m∈L∧dy (F.rules.getD m dq) u=some v:=by
 unfold fJ at h
 by_cases h1:n= -1
 · rw [if_pos h1] at h; cases h; exact .inl ⟨h1,rfl⟩
 · rw [if_neg h1] at h
   by_cases h2:n.toNat∈L
   · rw [if_pos h2] at h; exact .inr ⟨n.toNat,ab,h2,h⟩
   · rw [if_neg h2] at h; cases h
theorem Bo {m:Nat} (h:m < F.rules.length):F.rules[m]? =some (F.rules.getD m dq):=by
 rw [cU,bX h]; rfl
theorem Nd {n:Nat} {x:bg} {f s p:Int} {C:Tx} (A:xs[n]? =some x) (V: -1≤f) (hs: -1≤s) (I:¬(f= -1∧s≠ -1)) (h2:jY F xs n f s p 2=some C) (hm:fR F xs n f s p=some w):
 mV F xs w C p F.rules.length ⟨w,n,f,s,p⟩:=by
 obtain ⟨E,h1,h2⟩:=qj.1 (show (jY F xs n f s p 1).bind _=some C from h2)
 obtain ⟨ab,G,h1⟩:=qj.1 (show (jY F xs n f s p 0).bind _=some E from h1)
 cases G
 have Z:(xs.getD n ([],[])).1=x.1:=by rw [cU,A]; rfl
 rw [Z] at h1
 have kd:∀ {fs:List Nat} {m:Nat},m∈aM F fs 2→m < F.rules.length∧(F.rules.getD m dq).kind=2:=fun h=>⟨(mz.1 h).1,(mz.1 h).2.1⟩
 rcases xB V h1 with ⟨rfl,rfl⟩ | ⟨i,rfl,hi,J⟩
 · obtain rfl :s= -1:=uP fun h=>I ⟨rfl,h⟩
   rcases xB hs h2 with ⟨_,rfl⟩ | ⟨m,h,_⟩
   · exact .inl ⟨n,x,A,aa,aa,hm⟩
   · omega
 · have hi:i∈aM F (flagsOf xs n) 2:=hi
   have hu:=BN (.inr (kd hi).2) J
   rcases xB hs h2 with ⟨rfl,rfl⟩ | ⟨z,rfl,c,O⟩
   · exact .inr ⟨i,_,(kd hi).1,Bo (kd hi).1,(kd hi).2,x.1,hu,.inl ⟨n,x,A,aa,aa,hm⟩⟩
   · have c:z∈aM F (bI F (i:Int)) 2:=c
     have Y:=BN (.inr (kd c).2) O
     exact .inr ⟨z,_,(kd c).1,Bo (kd c).1,(kd c).2,E,Y,.inr ⟨i,sX.2 ⟨nP.2 (kd hi).1,decide_eq_true c⟩,x.1,hu,n,x,A,aa,aa,hm⟩⟩
theorem Hx (d:bo):nr F xs w F.rules.length d↔d∈c4 F xs xs.length∧d.cy=w:=by
 constructor
 · rintro (h | ⟨i,r,_,_,_,rest,_,h⟩)
   · exact D3 ab h
   · exact D3 ab h
 · rintro ⟨hd,hw⟩
   obtain ⟨e,he,hd⟩:=GF.1 hd
   obtain ⟨E,G,hs,hp,hm⟩:=ue hd
   obtain ⟨Y,en,f,s,p⟩:=d
   simp only at E G hs hp hm hw
   subst E
   subst hw
   obtain ⟨x,V⟩:∃ x,xs[en]? =some x:=⟨_,bX he⟩
   have c:¬(f= -1∧s≠ -1):=fun c=>by rw [AN c] at hm; cases hm
   have I:=hm
   rw [ui c] at I
   obtain ⟨v,O,A⟩:=qj.1 I
   split at A
   case isFalse=>cases A
   cases A
   obtain ⟨Z,h2,h3⟩:=qj.1 (show (jY F xs en f s p 2).bind _=some Y from O)
   have C:=Nd V G hs c h2 hm
   rcases xB hp h3 with ⟨rfl,rfl⟩ | ⟨i,rfl,hi,J⟩
   · exact .inl C
   · have hi:i∈aM F (flagsOf xs en) 1:=hi
     exact .inr ⟨i,_,(mz.1 hi).1,Bo (mz.1 hi).1,(mz.1 hi).2.1,Z,BN (.inl (mz.1 hi).2.1) J,C⟩
end
theorem ON (s pr:List UInt8) (w:World) (hs:s.length≤1099511627776) (hp:pr.length≤1099511627776):
 bf ao 162 (a7 [str s,str pr]) w (fun v w'=>v= .tuple #[str (kq s pr),.bool (decide (pr.length≤s.length∧s.drop (s.length - pr.length)=pr))]∧Wk w w'):=by
 refine enter func162 aa ntmps162 aa<|ak fun G=>p aE<|ay<|G<|aB fun I=>aB fun J=>rg aa<|au (str s)<|au (str pr)<|e<|cl vJ (wv s pr _ hs hp) aa fun V Y O=> ?_
 obtain ⟨rfl,E⟩:=O
 refine p (no aa)<|nl<|J<|cb aa (fun c=> ?_) fun c=> ?_
 have A:¬(pr.length≤s.length∧s.drop (s.length - pr.length)=pr):=fun h=>by rw [decide_eq_true h] at c; cases c
 exact ak fun C=>au (str s)<|p (cg (str s) aa)<|ay<|C<|rt<|tr<|f2 aa aa aa<|⟨by unfold kq; rw [if_neg A,decide_eq_false A]; rfl,E⟩
 have A:pr.length≤s.length∧s.drop (s.length - pr.length)=pr:=uP fun h=>by rw [decide_eq_false h] at c; cases c
 exact aR<|I<|ak fun C=>au (str s)<|au (str s)<|p (dC u9 aa aa)<|au (str pr)<|p (dC u9 aa aa)<|p (dz ((s.length - pr.length:Nat):Int) aa aa<|bl ab ab)<|p (sr u9 aa aa ab)<|p aE<|ay<|C<|rt<|f2 aa aa aa<|⟨by unfold kq; rw [if_pos A,decide_eq_true A]; rfl,E⟩
theorem OO (s pr:List UInt8) (w:World) (hs:s.length≤1099511627776) (hp:pr.length≤1099511627776):
 bf ao 102 (a7 [str s,str pr]) w (fun v w'=>v= .tuple #[str (kq s pr),.bool (decide (pr.length≤s.length∧s.drop (s.length - pr.length)=pr))]∧Wk w w'):=by
 refine enter func102 aa ntmps102 aa<|ak fun c=>p aE<|ay<|c<|ak fun A=>au (str s)<|au (str pr)<|e<|cl LU (ON s pr _ hs hp) aa fun G I E=> ?_
 obtain ⟨rfl,C⟩:=E
 exact p (xt aa aa)<|p (xt aa aa)<|p aE<|ay<|A<|rt<|f2 aa aa aa<|⟨aa,C⟩
theorem BO (r:cJ) (u:Value) (s:Tx) (w:World) (aS:r.strip.length≤32) (aG:r.add.length≤1048576) (aI:r.cond.length≤1048576) (aV:s.length≤16777216):
 bf ao 59 (a7 [.agg (dG (r,u)).toArray,str s]) w (fun v w'=>v=xa (eX r s)∧Wk w w'):=by
 refine enter func59 aa ntmps59 aa<|ak fun am=>e<|jm aa fun Y ae aM ac av=> ?_
 have aQ:((r,u):cJ×Value).1.strip.length=r.strip.length:=rfl
 have aP:((r,u):cJ×Value).1.kind=r.kind:=rfl
 have aO:((r,u):cJ×Value).1.add.length=r.add.length:=rfl
 have C:bE ae.heap Y (dG (r,u)):=av
 have aY:(kq s r.add).length≤s.length:=by unfold kq; split <;> simp <;> omega
 have aX:(eO s r.add).length≤s.length:=by unfold eO; split <;> simp
 refine p aE<|ay<|am<|ak fun an=>p aE<|nl<|an<|ak fun ap=>ay<|ap ?_
 refine e8 (fun O J=> ∃ (sm:Tx) (ok:Bool),(eX r s=if ok=true then mW r sm else none)∧(sm.length≤s.length+r.strip.length)∧(Wk w J)∧(bE J.heap Y<|dG (r,u))∧(O 2=aU Y)∧(O 6=str sm)∧(O 7= .bool ok)) ?_ ?_
 refine ak fun V=>p (fa tP aa)<|p (ld bH aa<|C.bu 0)<|nl<|V<|az<|aB fun G=>rg aa<|p (cx aa aa)<|ay<|G<|cd aa (fun aF=> ?_) fun aF=> ?_
 refine ak fun c=>p mv<|p (fa tR aa)<|p (ld cR aa<|C.bu 4)<|e<|cl LB (OO s r.add ae ab ab) aa fun aZ a1 aw=> ?_
 obtain ⟨rfl,ag⟩:=aw
 have aj:=Wk.B ag C
 exact p mv<|p (xt aa aa)<|p (xt aa aa)<|p aE<|ay<|c<|rg aa<|p mv<|p (fa pO aa)<|p (ld cR aa<|aj.bu 3)<|p (cc aa aa ab)<|p aE<|nl<|bn<|tn<|⟨kq s r.add++r.strip,_,(WH ab),(by rw [bJ]; omega),(ac.md.trans ag),aj,aa,aa,aa⟩
 refine ak fun c=>p (cx aa aa)<|ay<|c<|cd aa (fun aD=> ?_) fun aD=> ?_
 refine ak fun aq=>p mv<|p (fa tR aa)<|p (ld cR aa<|C.bu 4)<|e<|cl Di (Ek s r.add ae ab ab) aa fun a0 a2 ax=> ?_
 obtain ⟨rfl,ah⟩:=ax
 have al:=Wk.B ah C
 exact p mv<|p (xt aa aa)<|p (xt aa aa)<|p aE<|ay<|aq<|rg aa<|p (fa pO aa)<|p (ld cR aa<|al.bu 3)<|p mv<|p (cc aa aa ab)<|p aE<|nl<|bn<|tn<|⟨r.strip++eO s r.add,_,(WG ab),(by rw [bJ]; omega),(ac.md.trans ah),al,aa,aa,aa⟩
 exact aR<|bn<|tn<|⟨[],false,(WE ab ab),(ku _),ac.md,C,aa,aa,aa⟩
 rintro O J ⟨sm,ok,A,aW,Z,aC,aJ,aK,aL⟩
 refine fx 2 aJ<|fx 6 aK<|fx 7 aL<|aB fun V=>ak fun G=>au (.bool ok)<|p (no aa)<|p mv<|gb (t:=38) aa (fun I=> ?_) fun I=> ?_
 refine aT aa<|aT aa<|aT aa<|aT aa<|p (bO aa)<|nl<|G<|ct aa<|ak fun c=>p aE<|ay<|c<|rt<|tr<|f2 aa aa aa ?_
 have E:ok=false :=by simpa using I
 rw [E] at A
 exact ⟨by rw [A]; rfl,Z⟩
 refine a6 aa (cE jx aa (aa) fun j aN=>aC.bu j)<|a6 aa (aH (str sm) aa)<|eg aa aa aa<|cl Dj (E7 r u sm J ab aG aI ab) aa fun v41 a3 aA=> ?_
 obtain ⟨rfl,ai⟩:=aA
 refine a6 aa (no aa)<|p (bG aa)<|nl<|G<|cb aa (fun ad=> ?_) fun ad=> ?_
 refine ak fun c=>p aE<|ay<|c<|rt<|tr<|f2 aa aa aa ?_
 have E:ok=true :=by simpa using I
 rw [E,if_pos rfl] at A
 unfold mW at A
 exact ⟨by rw [A,if_neg (by simpa using ad)]; rfl,Z.trans ai⟩
 refine aR<|V<|ak fun c=>au (str sm)<|p (cg (str sm) aa)<|p aE<|nl<|c<|rt<|f2 aa aa aa ?_
 have E:ok=true :=by simpa using I
 rw [E,if_pos rfl] at A
 unfold mW at A
 exact ⟨by rw [A,if_pos (by simpa using ad)]; rfl,Z.trans ai⟩
end Go.Hb
end
section
namespace Go.Hb
theorem zy {a b:bo} (h:a.cy=b.cy∧a.dW=b.dW∧a.fst=b.fst∧a.snd=b.snd∧a.pre=b.pre):a=b:=by
 obtain ⟨s,e,f,g,p⟩:=a
 obtain ⟨G,c,A,C,E⟩:=b
 obtain ⟨h1,h2,h3,h4,h5⟩:=h
 simp only at h1 h2 h3 h4 h5
 subst h1 h2 h3 h4 h5
 rfl
instance XG:DecidableEq bo:=fun a b=>decidable_of_iff (a.cy=b.cy∧a.dW=b.dW∧a.fst=b.fst∧a.snd=b.snd∧a.pre=b.pre) ⟨zy,fun h=>by subst h; exact ⟨rfl,rfl,rfl,rfl,rfl⟩⟩
def dP (d:bo):Value:= .agg (cT d).toArray
def oV (v:Value):Prop := ∃ d,v=dP d
theorem VX {a b:Tx} (h:str a=str b):a=b:=by unfold str at h; simpa using h
theorem Ar {a b:bo} (h:dP a=dP b):a=b:=by
 unfold dP cT at h
 injection h with h
 have h:([str a.cy,.int .i64 (a.dW:Nat),.int .i64 a.fst,.int .i64 a.snd,.int .i64 a.pre]:List Value)= [str b.cy,.int .i64 (b.dW:Nat),.int .i64 b.fst,.int .i64 b.snd,.int .i64 b.pre]:=congrArg Array.toList h
 simp only [List.cons.injEq,Value.int.injEq,true_and,and_true] at h
 obtain ⟨h1,h2,h3,h4,h5⟩:=h
 exact zy ⟨VX h1,ab,h3,h4,h5⟩
theorem PW (a b:bo) (w:World):(Op.equal 49 (dP a)<|dP b).run ao w= .ok (decide (a=b)) w:=by
 have h:=EJ a.cy b.cy a.dW a.fst a.snd a.pre b.dW b.fst b.snd b.pre w
 rw [run_eql_struct] at h
 have e:(Op.equal 49 (dP a)<|dP b)=pw 10000 49 (dP a) (dP b):=rfl
 rw [e]
 show (pw 10000 49 (.agg (cT a).toArray)<|.agg (cT b).toArray).run ao w=_
 unfold cT
 generalize (pw 10000 49 _ _).run ao w=X at h
 have hd:decide (a.cy=b.cy∧(a.dW:Int)=b.dW∧a.fst=b.fst∧a.snd=b.snd∧a.pre=b.pre)=decide (a=b):=by
  exact decide_eq_decide.2 ⟨fun ⟨h1,h2,h3,h4,h5⟩=>zy ⟨h1,ab,h3,h4,h5⟩,fun h=>by subst h; exact ⟨aa,aa,aa,aa,aa⟩⟩
 rw [hd] at h
 cases X with
 | ok c w'=>
   have h:Result.ok (bU c) w'= .ok (.bool<|decide (a=b)) w:=h
   injection h with h1 h2
   injection h1 with h1
   subst h1 h2
   rfl
 | halt a b=>cases h
theorem xd {P:Program} {t:TypeId} {cs:Array Value} {o:Nat} {v:Value} {q:IntKind} (c:P.underlying t=some (.int q)) (A:cs[o]? =some v) (w:World):(part t cs o).run P w= .ok v w:=by
 simp [part,isAgg,db c,A]
theorem Nu (em:Bool) (d:bo) (w:World):(nC em 10000 49<|dP d).run ao w= .ok () w:=by
 have C:=underlying49
 have A:=underlying9
 have c:=underlying3
 have E:∀ w,(part 9 #[str d.cy,.int .i64 (d.dW:Nat),.int .i64 d.fst,.int .i64 d.snd,.int .i64 d.pre] 0).run ao w= .ok (str d.cy) w:=fun w=>T5 A rfl rfl w
 have G:∀ w,(part 3 #[str d.cy,.int .i64 (d.dW:Nat),.int .i64 d.fst,.int .i64 d.snd,.int .i64 d.pre] 1).run ao w= .ok (.int .i64 (d.dW:Nat)) w:=fun w=>xd c rfl w
 have I:∀ w,(part 3 #[str d.cy,.int .i64 (d.dW:Nat),.int .i64 d.fst,.int .i64 d.snd,.int .i64 d.pre] 2).run ao w= .ok (.int .i64 d.fst) w:=fun w=>xd c rfl w
 have J:∀ w,(part 3 #[str d.cy,.int .i64 (d.dW:Nat),.int .i64 d.fst,.int .i64 d.snd,.int .i64 d.pre] 3).run ao w= .ok (.int .i64 d.snd) w:=fun w=>xd c rfl w
 have O:∀ w,(part 3 #[str d.cy,.int .i64 (d.dW:Nat),.int .i64 d.fst,.int .i64 d.snd,.int .i64 d.pre] 4).run ao w= .ok (.int .i64 d.pre) w:=fun w=>xd c rfl w
 show (nC em (9998 +1 +1) 49<|.agg #[str d.cy,.int .i64 (d.dW:Nat),.int .i64 d.fst,.int .i64 d.snd,.int .i64 d.pre]).run ao w=_
 rw [nC]
 simp only [nE,db C,nD]
 rw [← Array.forIn_toList]
 simp only [List.forIn_cons,List.forIn_nil,nE,E,G,I,J,O,ne_eq,String.reduceEq,not_false_eq_true,if_true,nD,D5 A,Ni c,Sem.run_pure]
theorem findD:∀ (es:List MapEntry) (w:World) (d:bo) (i:Nat),(∀ e∈es,oV e.key)→
 ((qV 49 (dP d) es i).run ao w= .ok none w∧∀ e∈es,e.key≠dP d)∨∃ j e,(qV 49 (dP d) es i).run ao w= .ok (some (i+j,e.val)) w∧es[j]? =some e∧e.key=dP d
 | [],w,d,i,_=> .inl ⟨by simp [qV],fun _ h=>by simp at h⟩
 | e::es,w,d,i,hk=>by
   obtain ⟨g,C⟩:=hk e<|by simp
   have he:=PW d g w
   rw [← C] at he
   by_cases c:d=g
   · subst c
     refine .inr ⟨0,e,?_,aa,C⟩
     simp [qV,he]
   · have G:e.key≠dP d:=by rw [C]; exact fun h=>c (Ar h).symm
     rcases findD es w d (i+1) (fun e he=>hk e<|by simp [he]) with ⟨h1,h2⟩ | ⟨j,A,h1,h2,h3⟩
     · refine .inl ⟨by simp [qV,he,c,h1],fun A E=> ?_⟩
       rcases ew.1 E with rfl | E
       · exact G
       · exact h2 A E
     · refine .inr ⟨j+1,A,?_,h2,h3⟩
       simp only [qV,nE,he,c,nD,decide_false,Sem.run_ite,IU,if_false,h1]; rw [show i+1 +j=i+(j+1) from by omega]
theorem Sm:ta ao 49 oV where
 check em w v hv:=by obtain ⟨d,rfl⟩:=hv; exact Nu em d w
 find w x es hx hes:=by
  obtain ⟨d,rfl⟩:=hx
  have A:=underlying49
  have C:es≠[]→(qW 49 (dP d) es).run ao w=(qV 49 (dP d) es).run ao w:=by
   intro c
   cases es with
   | nil=>exact absurd rfl c
   | cons e es=>simp [qW,db A,qX,Instr.sameNow,dP]
  by_cases c:es= []
  · subst c; exact .inl ⟨by simp [qW,db A,qX],fun _ h=>by simp at h⟩
  · rw [C c]
    rcases findD es w d 0 hes with h1 | ⟨j,e,h1,h2,h3⟩
    · exact .inl h1
    · exact .inr ⟨j,e,by rw [h1,fN],h2,h3⟩
theorem F8:lg ao 49 oV where
 key:=Sm
 stays w v hv:=by obtain ⟨d,rfl⟩:=hv; simp [Instr.keyThatStays,Instr.sameBits,dP,cT,str,yM]
def jv (h:Array Obj) (b:Nat) (S:bo→Prop):Prop := ∃ f,kB h b oV f∧(∀ d,(f<|dP d).isSome=true↔S d)∧∀ k v,f k=some v→∃ n:Int,v= .int .i64 n
theorem jv.md {G:Nat→Prop} {w w':World} {b:Nat} {S:bo→Prop} (h:jv w.heap b S) (hm:Md G w w') (c:¬G b):jv w'.heap b S:=let ⟨f,h1,h2⟩:=h; ⟨f,h1.md hm c,h2⟩
theorem jv.congr {h:Array Obj} {b:Nat} {S c:bo→Prop} (hm:jv h b S) (he:∀ d,c d↔S d):jv h b c:=let ⟨f,h1,h2,h3⟩:=hm; ⟨f,h1,fun d=>(h2 d).trans (he d).symm,h3⟩
theorem jv.put {h:Array Obj} {b:Nat} {S:bo→Prop} {f:Value→Option Value} {d:bo} {v:Value} {n:Int} (h2:∀ d,(f<|dP d).isSome=true↔S d) (h3:∀ k v,f k=some v→∃ n:Int,v= .int .i64 n) (hm:kB h b oV (bz (bz f (dP d) v) (dP d)<|.int .i64 n)):jv h b (fun x=>S x∨x=d):=by
 refine ⟨_,hm,fun x=> ?_,fun k u hu=> ?_⟩
 · by_cases c:x=d
   · subst c; rw [mB]; exact ⟨fun _=> .inr rfl,fun _=>rfl⟩
   · have hk:dP x≠dP d:=fun h=>c<|Ar h
     rw [k0 hk,k0 hk,h2]
     exact ⟨.inl,fun h=>h.resolve_right c⟩
 · by_cases hk:k=dP d
   · subst hk; rw [mB] at hu; cases hu; exact ⟨n,rfl⟩
   · rw [k0 hk,k0 hk] at hu; exact h3 k u hu
def vo (h:Array Obj) (b:Nat) (kx zv v:Value):Prop := ∃ g,bQ h b oV g∧(g kx).getD zv=v
section
variable {P:Program} {N:Fm} {σ:Nat→Value} {w:World} {dst:Option Nat} {ty:TypeId} {pos :String} {af:Array Edge} {g:Option (Nat×Bool)} {x y:Operand}
theorem SL {t e:TypeId} {b:Nat} {kx v zv:Value} (c:ao.underlying t=some (.map 49 e)) (E:zeroV ao e=some zv) (hm:vo w.heap b kx zv v) (A:ev N σ x= .map (some b)) (C:ev N σ y=kx) (hi:oV kx):
 (execOp (ev N σ) ⟨dst,.lookup t x y false,ty,pos,af,g⟩).run ao w= .ok (.value v) w:=by
 obtain ⟨f,h1,h2⟩:=hm
 exact lB c E F8 h1 A C hi h2
end
def CL (w:World) (fm:Nat) (F:aC):Prop := ∃ f,bQ w.heap fm (jU .i64) f∧∀ z:Nat,z < F.rules.length→∃ a c B,(f<|.int .i64 (z:Nat)).getD (.slice none 0 0)= .slice a (ep F F.rules.length z).length c∧bq w B 3 1 (.slice a (ep F F.rules.length z).length c) (ep F F.rules.length z).length ((ep F F.rules.length z).map fG)
def HK (tb:Nat) (F:aC) (ar:Option Addr) (cr fm dm:Nat):List Value:= [.pointer (some ⟨tb,0,none⟩),.slice ar F.rules.length cr,.map (some fm),.map (some dm)]
structure kf (w0 wB:World) (B kb tb:Nat) (U:ek) (F:aC) (xs:List bg) (ar:Option Addr) (cr:Nat) (rn:List Value) (fm dm:Nat):Prop where
 Wl:dK w0 B tb U F xs
 wk:Wk w0 wB
 lo:w0.heap.size≤dm
 cells:wB.heap[kb]? =some (.cells (HK tb F ar cr fm dm).toArray 132 (0,0))
 ru:∃ B',bq wB B' 134 7 (.slice ar F.rules.length cr) F.rules.length (gd<|F.rules.zip rn)
 UZ:rn.length=F.rules.length
 ro:∀ u∈rn,u.oneCell'=true
 fs:CL wB fm F
 ne:fm≠dm
 EC:∃ es c,wB.heap[dm]? =some (.map es c)
section
variable {w0 wB w:World} {B kb tb:Nat} {U:ek} {F:aC} {xs:List bg} {ar:Option Addr} {cr:Nat} {rn:List Value} {fm dm:Nat}
theorem kf.tf (h:kf w0 wB B kb tb U F xs ar cr rn fm dm):TF wB [1] (fun k=>k=dm):=TF.eq (by obtain ⟨es,c,h1⟩:=h.EC; unfold tag; rw [h1]) aw
theorem kf.at (h:kf w0 wB B kb tb U F xs ar cr rn fm dm) (hm:Md (fun k=>k=dm) wB w):w.heap[kb]? =some (.cells (HK tb F ar cr fm dm).toArray 132 (0,0)):=hm.gZ h.tf h.cells aw
theorem kf.rules (h:kf w0 wB B kb tb U F xs ar cr rn fm dm) (hm:Md (fun k=>k=dm) wB w):aG w.heap ar (gd<|F.rules.zip rn):=by
 obtain ⟨B',h1⟩:=h.ru
 exact (aY<|cX h1 hm h.tf aw).2
theorem kf.BG (h:kf w0 wB B kb tb U F xs ar cr rn fm dm) (hm:Md (fun k=>k=dm) wB w):dK w B tb U F xs:=h.Wl.wk<|h.wk.trans' hm fun k hk h2=>by have :=h.lo; omega
theorem kf.ep (h:kf w0 wB B kb tb U F xs ar cr rn fm dm) (hm:Md (fun k=>k=dm) wB w):CL w fm F:=by
 obtain ⟨f,h1,h2⟩:=h.fs
 refine ⟨f,h1.md hm h.ne,fun z A=> ?_⟩
 obtain ⟨a,c,B,h3,h4⟩:=h2 z A
 exact ⟨a,c,B,h3,cX h4 hm h.tf aw⟩
theorem kf.lt (h:kf w0 wB B kb tb U F xs ar cr rn fm dm):dm < wB.heap.size:=by obtain ⟨es,c,h1⟩:=h.EC; exact (bT.1 h1).1
theorem kf.iy (h:kf w0 wB B kb tb U F xs ar cr rn fm dm) {k:Nat} {r:cJ} (c:F.rules[k]? =some r):∃ u,(F.rules.zip rn)[k]? =some (r,u):=by
 have hk:=(eR.1 c).1
 have A:k < rn.length:=by rw [h.UZ]; exact hk
 exact ⟨rn[k],jj.2 ⟨c,bX A⟩⟩
end
theorem AK {s:Tx} {xs:List bg} {n:Nat} :n∈idxs s xs↔∃ x,xs[n]? =some x∧x.1=s:=by
 unfold idxs
 rw [sX,nP,decide_eq_true_iff]
 constructor
 · rintro ⟨h1,h2⟩
   refine ⟨xs[n],bX h1,?_⟩
   rw [cU,bX h1] at h2; exact h2
 · rintro ⟨x,c,rfl⟩
   exact ⟨(eR.1 c).1,by rw [cU,c]; rfl⟩
def oa (F:aC) (xs:List bg) (wd stem:Tx) (f s p:Int) (S:bo→Prop) (i:Nat) (d:bo):Prop :=S d∨∃ j,j < i∧d=⟨wd,(idxs stem xs).getD j 0,f,s,p⟩∧fR F xs ((idxs stem xs).getD j 0) f s p=some wd
section
variable {F:aC} {xs:List bg} {wd stem:Tx} {f s p:Int} {S:bo→Prop} {i:Nat}
theorem SI (h:fR F xs ((idxs stem xs).getD i 0) f s p=some wd) (d:bo):oa F xs wd stem f s p S (i+1) d↔(oa F xs wd stem f s p S i d∨d=⟨wd,(idxs stem xs).getD i 0,f,s,p⟩):=by
 unfold oa
 constructor
 · rintro (h1 | ⟨j,c,h1,h2⟩)
   · exact .inl<|.inl h1
   · rcases nS.1 c with c | rfl
     · exact .inl<|.inr ⟨j,c,h1,h2⟩
     · exact .inr h1
 · rintro ((h1 | ⟨j,c,h1⟩) | h1)
   · exact .inl h1
   · exact .inr ⟨j,ab,h1⟩
   · exact .inr ⟨i,ab,h1,h⟩
theorem Gm (h:fR F xs ((idxs stem xs).getD i 0) f s p≠some wd) (d:bo):oa F xs wd stem f s p S (i+1) d↔oa F xs wd stem f s p S i d:=by
 unfold oa
 constructor
 · rintro (h1 | ⟨j,c,h1,h2⟩)
   · exact .inl h1
   · rcases nS.1 c with c | rfl
     · exact .inr ⟨j,c,h1,h2⟩
     · exact absurd h2 h
 · rintro (h1 | ⟨j,c,h1⟩)
   · exact .inl h1
   · exact .inr ⟨j,ab,h1⟩
theorem SH (d:bo):oa F xs wd stem f s p S (idxs stem xs).length d↔(S d∨my F xs wd stem f s p d):=by
 unfold oa my
 constructor
 · rintro (h | ⟨j,c,h1,h2⟩)
   · exact .inl h
   · obtain ⟨x,A,hs⟩:=AK.1<|e6 (d:=0) c
     exact .inr ⟨_,x,A,hs,h1,h2⟩
 · rintro (h | ⟨n,x,A,hs,h1,h2⟩)
   · exact .inl h
   · obtain ⟨j,c,e⟩:=oY 0<|AK.2 ⟨x,A,hs⟩
     exact .inr ⟨j,c,by rw [e]; exact h1,by rw [e]; exact h2⟩
end
theorem AF (w0 wB:World) (B kb tb:Nat) (U:ek) (F:aC) (xs:List bg) (ar:Option Addr) (cr:Nat) (rn:List Value) (fm dm:Nat) (J:kf w0 wB B kb tb U F xs ar cr rn fm dm) (aX:dU F xs) (wd stem:Tx) (aS:Nat) (f s pp:Int) (S:bo→Prop) (w:World) (hm:Md (fun k=>k=dm) wB w) (bB:jv w.heap dm S) (bN: -1≤f) (hs: -1≤s) (b2: -1≤pp):
 bf ao 101 (a7 [aU kb,str stem,.agg [str wd,aj aS,.int .i64 f,.int .i64 s,.int .i64 pp].toArray]) w (fun v w'=>v= .tuple #[]∧jv w'.heap dm (fun d=>S d∨my F xs wd stem f s pp d)∧Md (fun k=>k=dm) w w'):=by
 have ci:=aX.xl
 have cg:=J.lt
 have ch:=hm.size
 have cc:(idxs stem xs).length≤xs.length:=by unfold idxs; exact dS (mM _ _)<|by simp
 refine enter func101 aa ntmps101 aa<|ak fun bk=>e<|pL aa fun Y av cb al bw=> ?_
 have ck:=al.size
 have am:Md (fun k=>k=dm) wB av:=hm.trans' al.md fun _ _ h=>h.elim
 have bJ:av.heap[Y]? =some (.cells [str wd,.int .i64 ((aS:Nat):Int),.int .i64 f,.int .i64 s,.int .i64 pp].toArray 49 (0,0)):=bw
 have bD:=bB.md al.md id
 refine nl<|bk<|ak fun bl=>p mv<|p (nc aa)<|p (fa Fi aa)<|p (ld gM aa<|(aV<|J.at am).trans aa)<|p (nc aa)<|p (fa zY aa)<|p (ld yG aa<|(aV (J.BG am).cells).trans aa)<|p mv<|e<|cl LS (Pf B U.wb U.mb U.va U.vs xs av (J.BG am).wd ab stem) aa fun cm cn bI=> ?_
 obtain ⟨bi,ac⟩:=bI
 obtain ⟨aP,aQ,rfl⟩:=c5 bi
 have bA:=al.md.trans ac
 have cj:=ac.size
 refine p (bP o3 aa aa)<|p mv<|nl<|bl<|az<|lp (fun aW V O=> ∃ (i:Nat) (en:Int),(i≤(idxs stem xs).length)∧(Md (fun k=>k=dm) wB O)∧(Md (fun k=>k=dm) w O)∧(jv O.heap dm<|oa F xs wd stem f s pp S<|i)∧(O.heap[Y]? =some (.cells [str wd,.int .i64 en,.int .i64 f,.int .i64 s,.int .i64 pp].toArray 49 (0,0)))∧(bq O av.heap.size 3 1 (.slice aP (idxs stem xs).length aQ) (idxs stem xs).length<|(idxs stem xs).map fG)∧(V 0=aU kb)∧(V 5=aU Y)∧(V 18= .slice aP (idxs stem xs).length aQ)∧(V 19=aj ((idxs stem xs).length))∧(V 20=aj i)∧((idxs stem xs).length - i=aW)) _ ⟨0,_,ab,(am.trans' ac fun _ _ h=>h.elim),(bA.mono fun _ _ h=>h.elim),((bD.md ac id).congr fun d=>⟨fun h=>h.resolve_right (fun ⟨j,bb,_⟩=>by omega),.inl⟩),(Wk.az ac bJ),bi,aa,aa,aa,aa,aa,aa⟩ ?_
 rintro aW V O ⟨i,en,hi,bU,bd,aZ,bM,aq,b3,b7,b4,b5,b6,rfl⟩
 refine fx 0 b3<|fx 5 b7<|fx 18 b4<|fx 19 b5<|fx 20 b6<|ak fun bm=>p (lt aa aa)<|nl<|bm<|aB fun bp=>cd aa (fun bS=> ?_) fun bS=> ?_
 refine aR<|bp<|aB fun ax=>az<|ak fun br=>p (bc oS aa aa ab<|aG.ok ((aY aq).2)<|c8 ab)<|p (ld bH aa<|aG.iY (i:=i) (aY aq).2<|r5 ab)<|ay<|br<|ak fun bs=>p mv<|p (fa oU aa)<|e<|bW eZ aa aa (v:= .int .i64 ((((idxs stem xs).getD i 0):Nat):Int)) aa bM (by show 1 < 5; omega) fun G ai bv=> ?_
 have a8:G.heap[Y]? =some (.cells [str wd,.int .i64 ((((idxs stem xs).getD i 0):Nat):Int),.int .i64 f,.int .i64 s,.int .i64 pp].toArray 49 (0,0)):=bv
 have aF:Md (fun k=>k=dm) wB G:=bU.trans' ai fun q ah h=>by omega
 have bV:Md (fun k=>k=dm) w G:=bd.trans' ai fun q ah h=>by omega
 have bh:¬(dm=Y):=ab
 have bC:=aZ.md ai bh
 have b0:=cD aq ai fun q ah h=>by have :=(da aq ah).1; omega
 have bZ:=(eR.1 (AK.1<|e6 (d:=0) (show i < (idxs stem xs).length by omega)).choose_spec.1).1
 refine nl<|bs<|aB fun bt=> ?_
 have I:(fun w'=>Wk G w') G.drew:=(Md.refl _ _).drew
 refine bR (fun w'=>Wk G w') aa wide I<|bY 0 aa (aU kb) I<|aK 1 aa (fun _ _=>nc aa) I<|aK 2 aa (fun _ _=>fa Fi aa) I<|aK 3 aa (fun w' A=>ld gM aa<|Wk.aJ A<|(aV<|J.at aF).trans aa) I<|aK 4 aa (fun w' A=>cE kR aa (aa) fun j bb=>(Wk.B A<|lj a8).bu j) I<|he 5 aa ag<|cl Mm (SY B tb U F xs wd (((idxs stem xs).getD i 0):Nat) f s pp G.drew (J.BG aF.drew) aX bN hs b2) aa fun v32 E a1=> ?_
 rw [ug bZ] at a1
 obtain ⟨rfl,bz⟩:=a1
 have c:(fun w'=>Wk G w') E:=I.trans bz
 refine ⟨c,?_⟩
 refine aK 6 aa (fun _ _=>mv) c<|aK 7 aa (fun _ _=>xt aa aa) c<|aK 8 aa (fun _ _=>xt aa aa) c<|aK 9 aa (fun _ _=>aE) c<|aK 10 aa (fun _ _=>aE) c<|hn ag<|bt<|aB fun aO=> ?_
 have an:Md (fun k=>k=dm) wB E:=aF.trans' c fun _ _ h=>h.elim
 have aI:Md (fun k=>k=dm) w E:=bV.trans' c fun _ _ h=>h.elim
 have aA:=bC.md c id
 have ae:=Wk.az c a8
 have aM:=ba b0 c
 refine rg aa<|p mv<|p mv<|gb (t:=36) aa (fun au=> ?_) fun au=> ?_
 obtain ⟨v,b8⟩:∃ v,fR F xs ((idxs stem xs).getD i 0) f s pp=some v:=me.1<|by simpa using au
 refine a6 aa mv<|a6 aa (fa r4 aa)<|a6 aa (ld cR aa<|(aV ae).trans aa)<|a6 aa (jD aa aa)<|p (bO aa)<|nl<|aO<|cd aa (fun heq=> ?_) fun heq=> ?_
 have b9:fR F xs ((idxs stem xs).getD i 0) f s pp=some wd:=by rw [b8] at heq ⊢; exact congrArg some heq
 have ce:(dP ⟨wd,((idxs stem xs).getD i 0),f,s,pp⟩)= .agg [str wd,.int .i64 ((((idxs stem xs).getD i 0):Nat):Int),.int .i64 f,.int .i64 s,.int .i64 pp].toArray:=rfl
 obtain ⟨fd,aD,bQ,a9⟩:=aA
 obtain ⟨Z,a5⟩:∃ Z:Int,(fd<|dP ⟨wd,((idxs stem xs).getD i 0),f,s,pp⟩).getD (.int .i64 0)= .int .i64 Z:=by
  cases ah:fd (dP ⟨wd,((idxs stem xs).getD i 0),f,s,pp⟩) with
  | none=>exact ⟨0,rfl⟩
  | some u=>obtain ⟨n,rfl⟩:=a9 _ _ ah; exact ⟨n,rfl⟩
 have C:(fun w'=>Md (fun k=>k=dm) E w'∧vo w'.heap dm (dP ⟨wd,((idxs stem xs).getD i 0),f,s,pp⟩) (.int .i64 0) (.int .i64 Z)) E.drew:=⟨(Md.refl _ _).drew,fd,aD.wT,a5⟩
 refine eG (fun w'=>Md (fun k=>k=dm) E w'∧vo w'.heap dm (dP ⟨wd,((idxs stem xs).getD i 0),f,s,pp⟩) (.int .i64 0) (.int .i64 Z)) 9 aa wide C<|lq 0 aa ag (fun _ _=>aH (aU kb) aa) C<|lq 1 aa ag (fun _ _=>nc aa) C<|lq 2 aa ag (fun _ _=>fa Fj aa) C<|lq 3 aa ag (fun w' A=>ld CR aa<|(aV<|J.at<|an.trans A.1).trans aa) C<|lq 4 aa ag (fun w' A=>cE kR aa (aa) fun j bb=>(Md.B A.1 (lj ae) fun h=>bh h.symm).bu j) C<|lq 5 aa ag (fun w' A=>SL BI mH A.2 aa aa ⟨_,aa⟩) C<|lq 6 aa ag (fun _ _=>bK _ rfl aa aa) C<|iV 7 aa ag<|S9 BI mH (kx:=dP ⟨wd,((idxs stem xs).getD i 0),f,s,pp⟩) F8 aD aa aa ⟨_,aa⟩ fun xz ca a0 a2=> ?_
 have a3:(fun w'=>Md (fun k=>k=dm) E w'∧vo w'.heap dm (dP ⟨wd,((idxs stem xs).getD i 0),f,s,pp⟩) (.int .i64 0) (.int .i64 Z)) ca:=⟨C.1.trans a0,_,a2.To.wT,by rw [mB]; exact a5⟩
 refine ⟨a3,?_⟩
 refine lq 8 aa ag (fun _ _=>xt aa aa) a3<|dw 9 aa ag ag<|Tb a2 aa aa aa fun aN bF bx=> ?_
 have ap:=(Md.refl (fun k=>k=dm) E).drew.trans<|a0.trans bF
 have bT:Md (fun k=>k=dm) wB aN:=an.trans ap
 have bX:Md (fun k=>k=dm) w aN:=aI.trans ap
 have bE:jv aN.heap dm (oa F xs wd stem f s pp S<|i+1):=(jv.put bQ a9 bx).congr<|SI b9
 have a4:TF E [1] (fun k=>k=dm):=TF.eq (xC aD.wT.choose_spec.1) aw
 have bL:=ap.gZ a4 ae aw
 have b1:=cX aM ap a4 aw
 exact eF ag<|bn<|ax<|rg aa<|p (ad aa aa<|cz ab)<|p mv<|nl<|tn<|⟨_,ab,i+1,_,ab,bT,bX,bE,bL,b1,aa,aa,aa,aa,aa,aa⟩
 have aL:fR F xs ((idxs stem xs).getD i 0) f s pp≠some wd:=fun h=>heq<|by rw [h]; rfl
 exact aR<|bn<|ax<|rg aa<|p (ad aa aa<|cz ab)<|p mv<|nl<|tn<|⟨_,ab,i+1,_,ab,an,aI,(aA.congr<|Gm aL),ae,aM,aa,aa,aa,aa,aa,aa⟩
 have aL:fR F xs ((idxs stem xs).getD i 0) f s pp≠some wd:=fun h=>by rw [h] at au; cases au
 exact aT aa<|aT aa<|aT aa<|aT aa<|p (bG aa)<|nl<|aO<|cf aa<|aR<|bn<|ax<|rg aa<|p (ad aa aa<|cz ab)<|p mv<|nl<|tn<|⟨_,ab,i+1,_,ab,an,aI,(aA.congr<|Gm aL),ae,aM,aa,aa,aa,aa,aa,aa⟩
 refine ext<|bj<|bj<|be<|f0 aa ?_
 obtain rfl :i=(idxs stem xs).length:=ab
 exact ⟨aa,aZ.congr (fun d=>(SH d).symm),bd⟩
end Go.Hb
end
section
namespace Go.Hb
section
variable {F:aC} {xs:List bg} {wd word:Tx} {p:Int} {S:bo→Prop} {i:Nat}
def mU (F:aC) (xs:List bg) (wd word:Tx) (p:Int) (S:bo→Prop) (i:Nat) (d:bo):Prop :=S d∨mV F xs wd word p i d
def mm (F:aC) (xs:List bg) (wd word sm:Tx) (p:Int) (S:bo→Prop) (i j:Nat) (d:bo):Prop :=(mU F xs wd word p S i d∨my F xs wd sm i (-1) p d)∨
 ∃ k rt,k < j∧eX (F.rules.getD ((ep F F.rules.length i).getD k 0) dq) sm=some rt∧my F xs wd rt ((ep F F.rules.length i).getD k 0:Nat) i p d
theorem M8 (d:bo):mU F xs wd word p S 0 d↔(S d∨my F xs wd word (-1) (-1) p d):=by
 unfold mU mV
 constructor
 · rintro (h | h | ⟨i,r,h,_⟩)
   · exact .inl h
   · exact .inr h
   · omega
 · rintro (h | h)
   · exact .inl h
   · exact .inr<|.inl h
theorem D2 {r:cJ} (C:F.rules[i]? =some r) (h:r.kind≠2∨eX r word=none) (d:bo):mU F xs wd word p S (i+1) d↔mU F xs wd word p S i d:=by
 unfold mU mV
 constructor
 · rintro (h1 | h1 | ⟨k,A,hk,c,h2,st,h3,h4⟩)
   · exact .inl h1
   · exact .inr<|.inl h1
   · rcases nS.1 hk with hk | rfl
     · exact .inr<|.inr ⟨k,A,hk,c,h2,st,h3,h4⟩
     · rw [C] at c; cases c
       rcases h with h | h
       · exact absurd h2 h
       · rw [h] at h3; cases h3
 · rintro (h1 | h1 | ⟨k,A,hk,h2⟩)
   · exact .inl h1
   · exact .inr<|.inl h1
   · exact .inr<|.inr ⟨k,A,ab,h2⟩
theorem M9 {r:cJ} {sm:Tx} (C:F.rules[i]? =some r) (hk:r.kind=2) (hu:eX r word=some sm) (d:bo):mU F xs wd word p S (i+1) d↔mm F xs wd word sm p S i (ep F F.rules.length i).length d:=by
 unfold mm mU mV
 constructor
 · rintro (h1 | h1 | ⟨k,G,c,E,h2,st,h3,h4⟩)
   · exact .inl<|.inl<|.inl h1
   · exact .inl<|.inl<|.inr<|.inl h1
   · rcases nS.1 c with c | rfl
     · exact .inl<|.inl<|.inr<|.inr ⟨k,G,c,E,h2,st,h3,h4⟩
     · rw [C] at E; cases E
       rw [hu] at h3; cases h3
       rcases h4 with h4 | ⟨f,I,rt,h5,A⟩
       · exact .inl<|.inr h4
       · obtain ⟨m,hm,e⟩:=oY 0 I
         exact .inr ⟨m,rt,hm,by rw [e]; exact h5,by rw [e]; exact A⟩
 · rintro (((h1 | h1 | ⟨k,G,c,h2⟩) | h1) | ⟨m,rt,hm,h5,A⟩)
   · exact .inl h1
   · exact .inr<|.inl h1
   · exact .inr<|.inr ⟨k,G,ab,h2⟩
   · exact .inr<|.inr ⟨i,r,ab,C,hk,sm,hu,.inl h1⟩
   · exact .inr<|.inr ⟨i,r,ab,C,hk,sm,hu,.inr ⟨_,e6 (d:=0) hm,rt,h5,A⟩⟩
theorem Nc {sm:Tx} (d:bo):mm F xs wd word sm p S i 0 d↔(mU F xs wd word p S i d∨my F xs wd sm i (-1) p d):=by
 unfold mm
 exact ⟨fun h=>h.resolve_right (fun ⟨k,_,h,_⟩=>by omega),.inl⟩
theorem Na {sm:Tx} {j:Nat} (h:eX (F.rules.getD ((ep F F.rules.length i).getD j 0) dq) sm=none) (d:bo):mm F xs wd word sm p S i (j+1) d↔mm F xs wd word sm p S i j d:=by
 unfold mm
 constructor
 · rintro (h1 | ⟨k,rt,hk,h2,h3⟩)
   · exact .inl h1
   · rcases nS.1 hk with hk | rfl
     · exact .inr ⟨k,rt,hk,h2,h3⟩
     · rw [h] at h2; cases h2
 · rintro (h1 | ⟨k,rt,hk,h2⟩)
   · exact .inl h1
   · exact .inr ⟨k,rt,ab,h2⟩
theorem Nb {sm rt:Tx} {j:Nat} (h:eX (F.rules.getD ((ep F F.rules.length i).getD j 0) dq) sm=some rt) (d:bo):mm F xs wd word sm p S i (j+1) d↔(mm F xs wd word sm p S i j d∨my F xs wd rt ((ep F F.rules.length i).getD j 0:Nat) i p d):=by
 unfold mm
 constructor
 · rintro (h1 | ⟨k,c,hk,h2,h3⟩)
   · exact .inl<|.inl h1
   · rcases nS.1 hk with hk | rfl
     · exact .inl<|.inr ⟨k,c,hk,h2,h3⟩
     · rw [h] at h2; cases h2; exact .inr h3
 · rintro ((h1 | ⟨k,c,hk,h2⟩) | h1)
   · exact .inl h1
   · exact .inr ⟨k,c,ab,h2⟩
   · exact .inr ⟨j,rt,ab,h,h1⟩
end
theorem Qn {F:aC} {n z i:Nat} (h:i∈ep F n z):i < n:=nP.1 (sX.1 h).1
theorem D4 (w0 wB:World) (B kb tb:Nat) (U:ek) (F:aC) (xs:List bg) (ar:Option Addr) (cr:Nat) (rn:List Value) (fm dm:Nat) (c:kf w0 wB B kb tb U F xs ar cr rn fm dm) (A:dU F xs) (wd word:Tx) (G:Nat) (pp:Int) (S:bo→Prop) (w:World) (hm:Md (fun k=>k=dm) wB w) (cx:jv w.heap dm S) (aT: -1≤pp) (dJ:word.length≤4194304):
 bf ao 58 (a7 [aU kb,str word,.agg [str wd,aj G,.int .i64 (-1),.int .i64 (-1),.int .i64 pp].toArray]) w (fun v w'=>v= .tuple #[]∧jv w'.heap dm (fun d=>S d∨mV F xs wd word pp F.rules.length d)∧Md (fun k=>k=dm) w w'):=by
 have dK:=A.xl
 have dB:=c.lt
 have dI:=hm.size
 have dE:=A.len
 refine enter func58 aa ntmps58 aa<|ak fun b0=>e<|pL aa fun E aZ dy aq ct=> ?_
 have dL:=aq.size
 have bA:Md (fun k=>k=dm) wB aZ:=hm.trans' aq.md fun _ _ h=>h.elim
 have br:aZ.heap[E]? =some (.cells [str wd,aj G,.int .i64 (-1),.int .i64 (-1),.int .i64 pp].toArray 49 (0,0)):=ct
 have cA:=cx.md aq.md id
 have ae:¬(E=dm):=ab
 refine nl<|b0<|ak fun ca=>p mv<|p mv<|p (cE kR aa (aa) fun q J=>(lj br).bu q)<|e<|cl yQ (AF w0 wB B kb tb U F xs ar cr rn fm dm c A wd word G (-1) (-1) pp S aZ bA cA ab ab aT) aa fun v17 bR cJ=> ?_
 obtain ⟨rfl,cy,aD⟩:=cJ
 have bw:Md (fun k=>k=dm) wB bR:=bA.trans aD
 have cO:=aD.az br ae
 have c3:Md (fun k=>k=dm) w bR:=(aq.md.mono fun _ _ h=>h.elim).trans aD
 refine nl<|ca<|ak fun ch=>p mv<|p (nc aa)<|p (fa wi aa)<|p (ld jR aa<|(aV<|c.at bw).trans aa)<|p (bP pY aa aa)<|p mv<|nl<|ch<|az<|lp (fun Z V Y=> ∃ (i:Nat) (bV z2:Int),(i≤F.rules.length)∧(Md (fun k=>k=dm) wB Y)∧(Md (fun k=>k=dm) w Y)∧(jv Y.heap dm<|mU F xs wd word pp S<|i)∧(Y.heap[E]? =some (.cells [str wd,aj G,.int .i64 bV,.int .i64 z2,.int .i64 pp].toArray 49 (0,0)))∧(V 0=aU kb)∧(V 1=str word)∧(V 5=aU E)∧(V 21= .slice ar F.rules.length cr)∧(V 22=aj (F.rules.length))∧(V 23=aj i)∧(F.rules.length - i=Z)) _ ⟨0,_,_,ab,bw,c3,(cy.congr M8),cO,aa,aa,aa,aa,aa,aa,aa⟩ ?_
 rintro Z V Y ⟨i,bV,z2,hi,aQ,bD,a9,cR,dc,dd,dh,de,df,dg,rfl⟩
 refine fx 0 dc<|fx 1 dd<|fx 5 dh<|fx 21 de<|fx 22 df<|fx 23 dg<|ak fun ci=>p (lt aa aa)<|nl<|ci<|aB fun cj=>cd aa (fun cY=> ?_) fun cY=> ?_
 refine aR<|cj<|aB fun aA=>az<|aB fun ck=> ?_
 obtain ⟨r,I⟩:∃ r,F.rules[i]? =some r:=⟨_,bX ab⟩
 obtain ⟨u,aX⟩:=c.iy I
 have dw:=c.ro u (JM<|fU aX).2
 refine rg aa<|au (aj i)<|p (bc kG aa aa ab<|aG.ok (c.rules aQ)<|k3 aX)<|p (cE jx aa (aa)<|ic (f:=dG) (m:=7) (fun _=>rfl) (c.rules aQ) aX)<|e<|dY pc fun co dP aI bd cu=> ?_
 have dM:=bd.size
 refine p (cg (aj i) aa)<|e<|fk na aa aa aa (Ht dw) cu aw fun ai cG cs=> ?_
 have am:Wk Y ai:=bd.md.trans' cG fun q J h=>by omega
 have aI:bE ai.heap co (dG (r,u)):=⟨_,cs⟩
 have bz:Md (fun k=>k=dm) wB ai:=aQ.trans' am fun _ _ h=>h.elim
 have bG:Md (fun k=>k=dm) w ai:=bD.trans' am fun _ _ h=>h.elim
 have a6:=a9.md am id
 have bp:=Wk.az am cR
 refine nl<|ck<|aB fun cm=>ak fun cn=>p (fa tP aa)<|p (ld bH aa<|aI.bu 0)<|p (gF aa aa)<|nl<|cn<|cd aa (fun hk=> ?_) fun hk=> ?_
 have aL:=D2 (xs:=xs) (wd:=wd) (word:=word) (p:=pp) (S:=S) I<|.inl (show r.kind≠2 by have h:=hk; dsimp only at h; omega)
 exact ext<|bj<|be<|aA<|rg aa<|p (bK ((i+1:Nat):Int) aa aa<|bl ab ab)<|p mv<|nl<|tn<|⟨_,ab,i+1,_,_,ab,bz,bG,(a6.congr aL),bp,aa,aa,aa,aa,aa,aa,aa⟩
 have c0:r.kind=2:=by have h:=hk; dsimp only at h; omega
 refine aR<|cm<|ak fun b1=>p (cE jx aa (aa) fun q J=>aI.bu q)<|au (str word)<|e<|cl zc (BO r u word ai (A.iy I).2.2.1 (iw A I).2.1 (iw A I).2.2.1 ab) aa fun dN bS cK=> ?_
 obtain ⟨rfl,al⟩:=cK
 have bx:Md (fun k=>k=dm) wB bS:=bz.trans' al fun _ _ h=>h.elim
 have bF:Md (fun k=>k=dm) w bS:=bG.trans' al fun _ _ h=>h.elim
 have a5:=a6.md al id
 have bm:=Wk.az al bp
 refine p mv<|p (xt aa aa)<|p (xt aa aa)<|p aE<|ay<|b1<|aB fun b2=>ak fun b3=>p mv<|p (no aa)<|nl<|b3<|cb aa (fun aJ=> ?_) fun aJ=> ?_
 have aL:=D2 (xs:=xs) (wd:=wd) (p:=pp) (S:=S) I<|.inr (show eX r word=none by simpa using aJ)
 exact ext<|bj<|be<|aA<|rg aa<|p (bK ((i+1:Nat):Int) aa aa<|bl ab ab)<|p mv<|nl<|tn<|⟨_,ab,i+1,_,_,ab,bx,bF,(a5.congr aL),bm,aa,aa,aa,aa,aa,aa,aa⟩
 obtain ⟨sm,aW⟩:∃ sm,eX r word=some sm:=me.1<|by simpa using aJ
 have dH:=Ii aW
 have dC:=(iw A I).1
 have av:(eX r word).getD []=sm:=by rw [aW]; rfl
 have dF:r.strip.length≤32:=(A.iy I).2.2.1
 refine aR<|b2<|ak fun b4=>au (aj i)<|p (fa lT aa)<|e<|bW eZ aa aa (v:=aj i) aa bm (by show 2 < 5; omega) fun dQ cI cw=>p (fa lU aa)<|e<|bW eZ aa aa (v:= .int .i64<|-1) aa cw (by show 3 < 5; omega) fun ax cH cv=> ?_
 have bs:ax.heap[E]? =some (.cells [str wd,aj G,aj i,.int .i64 (-1),.int .i64 pp].toArray 49 (0,0)):=cv
 have aH:=cI.trans cH
 have bC:Md (fun k=>k=dm) wB ax:=bx.trans' aH fun q J h=>by omega
 have c6:Md (fun k=>k=dm) w ax:=bF.trans' aH fun q J h=>by omega
 have cC:=a5.md aH fun h=>ae h.symm
 refine nl<|b4<|ak fun b5=>au (aU kb)<|p mv<|p (cE kR aa (aa) fun q J=>(lj bs).bu q)<|e<|cl yQ (AF w0 wB B kb tb U F xs ar cr rn fm dm c A wd ((eX r word).getD []) G (i:Nat) (-1) pp (mU F xs wd word pp S<|i) ax bC cC ab ab aT) aa fun v45 bT bh=> ?_
 rw [av] at bh
 obtain ⟨rfl,cz,aF⟩:=bh
 have aP:Md (fun k=>k=dm) wB bT:=bC.trans aF
 have c4:Md (fun k=>k=dm) w bT:=c6.trans aF
 have cP:=aF.az bs ae
 obtain ⟨fo,cT,cV⟩:=c.ep aP
 obtain ⟨a2,a3,bZ,cW,da⟩:=cV i ab
 have dz:(ep F F.rules.length i).length≤F.rules.length:=by have :=mM (fun q:Nat=>decide (i∈aM F (bI F (q:Int)) 2)) (fM F.rules.length); unfold ep; rw [sV] at this; exact this
 refine nl<|b5<|ak fun b6=>au (aU kb)<|p (nc aa)<|p (fa z1 aa)<|p (ld yC aa<|(aV<|c.at aP).trans aa)<|au (aj i)<|p (lB BH xR Av (cT) aa aa (⟨_,aa⟩)<|cW)<|p (bP o3 aa aa)<|p mv<|nl<|b6<|az<|lp (fun Z C O=> ∃ (j:Nat) (bY z3:Int),(j≤(ep F F.rules.length i).length)∧(Md (fun k=>k=dm) wB O)∧(Md (fun k=>k=dm) w O)∧(jv O.heap dm<|mm F xs wd word sm pp S i<|j)∧(O.heap[E]? =some (.cells [str wd,aj G,.int .i64 bY,.int .i64 z3,.int .i64 pp].toArray 49 (0,0)))∧(bq O bZ 3 1 (.slice a2 (ep F F.rules.length i).length a3) (ep F F.rules.length i).length<|(ep F F.rules.length i).map fG)∧(C 0=aU kb)∧(C 1=str word)∧(C 5=aU E)∧(C 6=aj i)∧(C 8=str sm)∧(C 21= .slice ar F.rules.length cr)∧(C 22=aj (F.rules.length))∧(C 23=aj i)∧(C 51= .slice a2 (ep F F.rules.length i).length a3)∧(C 52=aj ((ep F F.rules.length i).length))∧(C 53=aj j)∧((ep F F.rules.length i).length - j=Z)) _ ⟨0,_,_,ab,aP,c4,(cz.congr Nc),cP,da,aa,aa,aa,aa,(by first | rfl | exact congrArg str av),aa,aa,aa,aa,aa,aa,aa⟩ ?_
 rintro Z C O ⟨j,bY,z3,dA,ad,bL,bb,bt,aS,di,dj,dp,du,dv,dk,dl,dn,dr,ds,dt,rfl⟩
 refine fx 0 di<|fx 1 dj<|fx 5 dp<|fx 6 du<|fx 8 dv<|fx 21 dk<|fx 22 dl<|fx 23 dn<|fx 51 dr<|fx 52 ds<|fx 53 dt<|ak fun b7=>p (lt aa aa)<|nl<|b7<|aB fun b8=>cd aa (fun cZ=> ?_) fun cZ=> ?_
 refine aR<|b8<|aB fun a1=>az<|ak fun b9=>p (bc oS aa aa ab<|aG.ok ((aY aS).2)<|c8 ab)<|p (ld bH aa<|aG.iY (i:=j) (aY aS).2<|r5 ab)<|ay<|b9<|aB fun cc=> ?_
 have cS:((ep F F.rules.length i).getD j 0) < F.rules.length:=Qn<|e6 (d:=0) (show j < (ep F F.rules.length i).length by omega)
 obtain ⟨rf,ag⟩:∃ r,F.rules[((ep F F.rules.length i).getD j 0)]? =some r:=⟨_,bX cS⟩
 have bN:F.rules.getD ((ep F F.rules.length i).getD j 0) dq=rf:=by rw [cU,ag]; rfl
 obtain ⟨dx,bQ⟩:=c.iy ag
 refine rg aa<|au (aU kb)<|p (nc aa)<|p (fa wi aa)<|p (ld jR aa<|(aV<|c.at ad).trans aa)<|p mv<|p (bc kG aa aa ab<|aG.ok (c.rules ad)<|k3 bQ)<|p (cE jx aa (aa)<|ic (f:=dG) (m:=7) (fun _=>rfl) (c.rules ad) bQ)<|au (str sm)<|e<|cl zc (BO rf dx sm O (A.iy ag).2.2.1 (iw A ag).2.1 (iw A ag).2.2.1 ab) aa fun v66 a0 cL=> ?_
 obtain ⟨rfl,ac⟩:=cL
 have bB:Md (fun k=>k=dm) wB a0:=ad.trans' ac fun _ _ h=>h.elim
 have bJ:Md (fun k=>k=dm) w a0:=bL.trans' ac fun _ _ h=>h.elim
 have a8:=bb.md ac id
 have aO:=Wk.az ac bt
 have bM:=ba aS ac
 refine p mv<|p (xt aa aa)<|p (xt aa aa)<|p aE<|ay<|cc<|aB fun ce=>rg aa<|p mv<|nl<|ce<|cb aa (fun aK=> ?_) fun aK=> ?_
 obtain ⟨rt,bO⟩:∃ rt,eX rf sm=some rt:=me.1<|by simpa using aK
 have db:(eX rf sm).getD []=rt:=by rw [bO]; rfl
 have aN:=Nb (xs:=xs) (wd:=wd) (word:=word) (p:=pp) (S:=S) (i:=i) (j:=j)<|by rw [bN]; exact bO
 refine ak fun cf=>p mv<|au (aj i)<|p (fa lT aa)<|e<|bW eZ aa aa (v:= .int .i64 ((((ep F F.rules.length i).getD j 0):Nat):Int)) aa aO (by show 2 < 5; omega) fun dO cF cq=>p (fa lU aa)<|e<|bW eZ aa aa (v:=aj i) aa cq (by show 3 < 5; omega) fun ah cD cp=> ?_
 have bk:ah.heap[E]? =some (.cells [str wd,aj G,.int .i64 ((((ep F F.rules.length i).getD j 0):Nat):Int),aj i,.int .i64 pp].toArray 49 (0,0)):=cp
 have ap:=cF.trans cD
 have bv:Md (fun k=>k=dm) wB ah:=bB.trans' ap fun q J h=>by omega
 have c2:Md (fun k=>k=dm) w ah:=bJ.trans' ap fun q J h=>by omega
 have a4:=a8.md ap fun h=>ae h.symm
 have cM:TF a0 [51] (fun q=>q=E):=TF.eq (dD aO) aw
 have c7:=cX bM ap cM aw
 refine nl<|cf<|rg aa<|au (aU kb)<|p mv<|p (cE kR aa (aa) fun q J=>(lj bk).bu q)<|e<|cl yQ (AF w0 wB B kb tb U F xs ar cr rn fm dm c A wd ((eX rf sm).getD []) G ((((ep F F.rules.length i).getD j 0):Nat):Int) (i:Nat) pp (mm F xs wd word sm pp S i<|j) ah bv a4 ab ab aT) aa fun v77 bU bi=> ?_
 rw [db] at bi
 obtain ⟨rfl,cB,an⟩:=bi
 have c1:Md (fun k=>k=dm) wB bU:=bv.trans an
 have c5:Md (fun k=>k=dm) w bU:=c2.trans an
 have cQ:=an.az bk ae
 have cN:TF ah [1] (fun q=>q=dm):=TF.eq (xC a4.choose_spec.1.wT.choose_spec.1) aw
 have c9:=cX c7 an cN aw
 exact nl<|bn<|a1<|rg aa<|p (bK ((j+1:Nat):Int) aa aa<|bl ab ab)<|p mv<|nl<|tn<|⟨_,ab,j+1,_,_,ab,c1,c5,(cB.congr aN),cQ,c9,aa,aa,aa,aa,(by first | rfl | exact congrArg str av),aa,aa,aa,aa,aa,aa,aa⟩
 have aN:=Na (xs:=xs) (wd:=wd) (word:=word) (p:=pp) (S:=S) (i:=i) (j:=j) (show eX (F.rules.getD _ dq) sm=none by rw [bN]; simpa using aK)
 exact aR<|bn<|a1<|rg aa<|p (bK ((j+1:Nat):Int) aa aa<|bl ab ab)<|p mv<|nl<|tn<|⟨_,ab,j+1,_,_,ab,bB,bJ,(a8.congr aN),aO,bM,aa,aa,aa,aa,(by first | rfl | exact congrArg str av),aa,aa,aa,aa,aa,aa,aa⟩
 exact ext<|bj<|bj<|be<|bn<|aA<|rg aa<|p (bK ((i+1:Nat):Int) aa aa<|bl ab ab)<|p mv<|nl<|tn<|⟨_,ab,i+1,_,_,ab,ad,bL,(bb.congr<|by rw [show j=(ep F F.rules.length i).length by omega]; exact M9 I c0 aW),bt,aa,aa,aa,aa,aa,aa,aa⟩
 refine ext<|bj<|bj<|be<|f0 aa ?_
 obtain rfl :i=F.rules.length:=ab
 exact ⟨aa,a9,bD⟩
structure jO (w:World) (B:Nat) (f:Value→Option Value) (Pz:Nat→List Nat):Prop where
 own:∀ z:Nat,bq w B 3 1 ((f<|.int .i64 (z:Nat)).getD<|bC none 0 0) (Pz z).length ((Pz z).map fG)
 sep:∀ (z y k:Nat),z≠y→((f<|.int .i64 (z:Nat)).getD<|bC none 0 0).ownBlock=some k→((f<|.int .i64 (y:Nat)).getD<|bC none 0 0).ownBlock≠some k
theorem jO.md {G:Nat→Prop} {w w':World} {B:Nat} {f:Value→Option Value} {c:Nat→List Nat} (h:jO w B f c) (hm:Md G w w') (A:∀ k,G k→∀ cur z,w.heap[k]?≠some (.cells cur 3 z)):jO w' B f c:=
 ⟨fun z=>cD (h.own z) hm (fun k hk E=>np (h.own z) hk fun cur y C=>A k E cur y C),h.sep⟩
theorem jO.wk {w w':World} {B:Nat} {f:Value→Option Value} {c:Nat→List Nat} (h:jO w B f c) (hm:Wk w w'):jO w' B f c:=h.md hm fun _ h=>h.elim
theorem jO.congr {w:World} {B:Nat} {f:Value→Option Value} {c A:Nat→List Nat} (h:jO w B f c) (he:∀ z,A z=c z):jO w B f A:=by rw [show A=c from funext he]; exact h
theorem jO.nil (w:World) (B:Nat):jO w B (fun _=>none) (fun _=> []):=⟨fun z=>eh _ _ _ _,fun z y k _ h=>by cases h⟩
theorem wx {a b:Nat} (h:fL .i64 (a:Nat)= .int .i64 (b:Nat)):a=b:=by injection h with _ h; omega
theorem jO.put {w G aa:World} {B mb z0 i:Nat} {f:Value→Option Value} {A:Nat→List Nat} {v:Value} (h:jO w B f A) (hm:Md (fun k=>((f<|.int .i64 (z0:Nat)).getD<|bC none 0 0).ownBlock=some k) w G)
 (Y:bq G B 3 1 v (A z0++ [i]).length ((A z0++ [i]).map fG)) (J:∀ k,v.ownBlock=some k→((f<|.int .i64 (z0:Nat)).getD<|bC none 0 0).ownBlock=some k∨w.heap.size≤k) (V:∀ cur z,G.heap[mb]?≠some (.cells cur 3 z)) (O:Md (fun k=>k=mb) G aa):
 jO aa B (bz f (.int .i64 (z0:Nat)) v) (fun z=>if z=z0 then A z++ [i] else A z):=by
 refine ⟨fun z=> ?_,fun z y k E hk=> ?_⟩
 · by_cases c:z=z0
   · subst c
     rw [mB,if_pos rfl]
     exact cD Y O fun k hk C=>np Y hk fun cur y I=>V cur y<|C ▸ I
   · rw [k0 (fun e=>c<|wx e),if_neg c]
     have h1:=cD (h.own z) hm fun k hk C=>h.sep z0 z k (fun e=>c e.symm) C hk
     exact cD h1 O fun k hk C=>np h1 hk fun cur y I=>V cur y<|C ▸ I
 · by_cases c:z=z0
   · subst c
     rw [mB] at hk
     rw [k0 (fun e=>E (wx e).symm)]
     rcases J k hk with h1 | h1
     · exact h.sep z y k E h1
     · exact fun h2=>by have :=(da (h.own y) h2).2; omega
   · rw [k0 (fun e=>c<|wx e)] at hk
     by_cases Z:y=z0
     · subst Z
       rw [mB]
       intro h2
       rcases J k h2 with h1 | h1
       · exact h.sep z y k E hk h1
       · have :=(da (h.own z) hk).2; omega
     · rw [k0 (fun e=>Z<|wx e)]
       exact h.sep z y k E hk
theorem Qo (F:aC) (i z:Nat):ep F (i+1) z=ep F i z++(if z∈aM F (bI F (i:Int)) 2 then [i] else []):=by
 unfold ep
 rw [List.range_succ,List.filter_append]
 congr 1
 by_cases h:z∈aM F (bI F (i:Int)) 2
 · rw [if_pos h,pA,if_pos (decide_eq_true h)]; rfl
 · rw [if_neg h,pA,if_neg (by simpa using h)]; rfl
def ni (F:aC) (i j z:Nat):List Nat:=ep F i z++(if z∈(aM F (bI F (i:Int)) 2).take j then [i] else [])
theorem Q2 (F:aC) (i z:Nat):ni F i 0 z=ep F i z:=by unfold ni; rw [List.take_zero,if_neg (fun h=>by cases h),eu]
theorem Q0 (F:aC) (i z:Nat):ep F (i+1) z=ni F i (aM F (bI F (i:Int)) 2).length z:=by unfold ni; rw [CH,Qo]
theorem Q1 {F:aC} {i j:Nat} (A:j < (aM F (bI F (i:Int)) 2).length) (z:Nat):ni F i (j+1) z=if z=(aM F (bI F (i:Int)) 2).getD j 0 then ni F i j z++ [i] else ni F i j z:=by
 unfold ni
 have hs:((aM F (bI F (i:Int)) 2).take<|j+1)=(aM F (bI F (i:Int)) 2).take j++ [(aM F (bI F (i:Int)) 2).getD j 0]:=k8 _ j 0 A
 have C:(aM F (bI F (i:Int)) 2).Nodup:=(AQ F _ 2).imp fun h=>ab
 have E:(aM F (bI F (i:Int)) 2).getD j 0∉(aM F (bI F (i:Int)) 2).take j:=fun hm=>by
  have h2:=(List.take_sublist (j+1)<|aM F (bI F (i:Int)) 2).nodup C
  rw [hs,rh] at h2
  exact h2.2.2 _ hm _ (gK.2 aa) aa
 rw [hs]
 by_cases c:z=(aM F (bI F (i:Int)) 2).getD j 0
 · subst c
   rw [if_pos rfl,if_pos (qh _<|gK.2 rfl),if_neg E,eu]
 · rw [if_neg c]
   congr 1
   have :z∈(aM F (bI F (i:Int)) 2).take j++ [(aM F (bI F (i:Int)) 2).getD j 0]↔z∈(aM F (bI F (i:Int)) 2).take j:=by
    rw [iW,gK]; exact ⟨fun h=>h.resolve_right c,.inl⟩
   by_cases hm:z∈(aM F (bI F (i:Int)) 2).take j
   · rw [if_pos hm,if_pos (this.2 hm)]
   · rw [if_neg hm,if_neg (fun h=>hm<|this.1 h)]
theorem Va (B tb:Nat) (U:ek) (F:aC) (xs:List bg) (w:World) (aA:dK w B tb U F xs) (an:dU F xs):
 bf ao 57 (a7 [aU tb]) w (fun v w'=> ∃ kb ar cr rn fm dm,v=aU kb∧kf w w' B kb tb U F xs ar cr rn fm dm∧jv w'.heap dm (fun _=>False)∧Wk w w'):=by
 have cC:=an.len
 refine enter func57 aa ntmps57 aa<|ak fun bt=>ay<|bt<|ak fun bA=>p mv<|p mv<|p (nc aa)<|p (fa tN aa)<|p (ld eY aa<|(aV aA.cells).trans aa)<|e<|cl tw (th B U.fb U.mc F U.V w aA.fl (by have :=an.len; omega) an.nx) aa fun v12 cL bT=> ?_
 obtain ⟨⟨⟨v9,v10,v11,v12,sa,rn⟩,rfl,hax⟩,hE12⟩:=bT
 obtain ⟨ar,cr,aZ⟩:=c5 hax.et
 have aZ:v12=_:=aZ
 subst aZ
 have cE:=hE12.size
 have cb:rn.length=F.rules.length:=by have :=hax.nx.1; rwa [e9] at this
 have cc:∀ u∈rn,u.oneCell'=true :=fun u hu=>List.all_eq_true.1 (vz hax.nx) u hu
 have b9:=hax.et
 refine p (zK zL aa aa)<|e<|qK fun A cM cw a5 bM=> ?_
 have cF:=a5.size
 refine e<|qK fun G cN cx aP bN=> ?_
 have cG:=aP.size
 refine p (du (ps:= [(0,aU tb),(1,.slice ar F.rules.length cr),(2,.map (some A)),(3,.map (some G))]) (L:= [aU tb,.slice ar F.rules.length cr,.map (some A),.map (some G)]) VJ aa<|aa)<|e<|pL aa fun E Z cy av a2=> ?_
 have cH:=av.size
 have a3:=(a5.md.trans aP.md).trans av.md
 have aO:=hE12.trans a3
 have bk:Z.heap[A]? =some (.map #[] 0):=Wk.az (aP.md.trans av.md) bM
 have b5:Z.heap[G]? =some (.map #[] 0):=Wk.az av.md bN
 have ca:=ba b9 a3
 refine ay<|bA<|aB fun bB=>ak fun bD=>p mv<|p (nc aa)<|p (fa wi aa)<|p (ld jR aa<|(aV a2).trans aa)<|p (bP pY aa aa)<|p mv<|nl<|bD<|az<|lp (fun ae am J=> ∃ (i:Nat) (f:Value→Option Value),(i≤F.rules.length)∧(Md (fun k=>k=A) Z J)∧(bQ J.heap A (jU .i64) f)∧(jO J Z.heap.size f fun z=>ep F i z)∧(J.heap[E]? =some (.cells [aU tb,.slice ar F.rules.length cr,.map (some A),.map (some G)].toArray 132 (0,0)))∧(am 0=aU tb)∧(am 3=aU E)∧(am 22=aj (F.rules.length))∧(am 23=aj i)∧(F.rules.length - i=ae)) _ ⟨0,_,ab,(Md.refl _ _),(bQ.nil bk),((jO.nil _ _).congr fun z=>rfl),a2,aa,aa,aa,aa,aa⟩ ?_
 rintro ae am J ⟨i,f,hi,ad,bm,aD,bb,ce,ci,cf,ch,rfl⟩
 refine fx 0 ce<|fx 3 ci<|fx 22 cf<|fx 23 ch ?_
 have bY:Wk w J:=aO.trans' ad fun k hk h=>by omega
 refine ak fun bE=>p (lt aa aa)<|nl<|bE<|aB fun bF=>cd aa (fun b3=> ?_) fun b3=> ?_
 refine aR<|bF<|aB fun aK=>az<|ak fun bG=>au (aj i)<|p (cg (aj i) aa)<|nl<|bG<|ak fun bL=>au (aU tb)<|au (aj i)<|e<|cl za (Bp B tb U F xs (i:Nat) J (aA.wk bY) an) aa fun v28 a1 bU=> ?_
 obtain ⟨aX,ah⟩:=bU
 obtain ⟨aL,aN,rfl⟩:=c5 aX
 have cI:=ah.size
 have cB:=se F (bI F (i:Int)) 2
 refine p (bP o3 aa aa)<|p mv<|nl<|bL<|az<|lp (fun ae Y O=> ∃ (j:Nat) (g:Value→Option Value),(j≤(aM F (bI F (i:Int)) 2).length)∧(Md (fun k=>k=A) Z O)∧(bQ O.heap A (jU .i64) g)∧(jO O Z.heap.size g fun z=>ni F i j z)∧(O.heap[E]? =some (.cells [aU tb,.slice ar F.rules.length cr,.map (some A),.map (some G)].toArray 132 (0,0)))∧(bq O J.heap.size 3 1 (.slice aL (aM F (bI F (i:Int)) 2).length aN) (aM F (bI F (i:Int)) 2).length<|(aM F (bI F (i:Int)) 2).map fG)∧(∀ (z k:Nat),((g<|aj z).getD<|bC none 0 0).ownBlock=some k→k < J.heap.size∨a1.heap.size≤k)∧(a1.heap.size≤O.heap.size)∧(Y 0=aU tb)∧(Y 3=aU E)∧(Y 4=aj i)∧(Y 22=aj (F.rules.length))∧(Y 23=aj i)∧(Y 28= .slice aL (aM F (bI F (i:Int)) 2).length aN)∧(Y 29= .int .i64 ((aM F (bI F (i:Int)) 2).length:Nat))∧(Y 30=aj j)∧((aM F (bI F (i:Int)) 2).length - j=ae)) _ ⟨0,f,ab,(ad.trans' ah fun _ _ h=>h.elim),(bm.wk ah),((aD.wk ah).congr fun z=>Q2 F i z),(Wk.az ah bb),aX,(fun z k hk=> .inl (da (aD.own z) hk).2),(cj _),aa,aa,aa,aa,aa,aa,aa,aa,aa⟩ ?_
 rintro ae Y O ⟨j,g,cA,aW,aF,ac,aQ,aI,aT,cu,ck,cq,ct,cm,cn,co,cp,cs,rfl⟩
 refine fx 0 ck<|fx 3 cq<|fx 4 ct<|fx 22 cm<|fx 23 cn<|fx 28 co<|fx 29 cp<|fx 30 cs<|ak fun bu=>p (lt aa aa)<|nl<|bu<|aB fun bv=>cd aa (fun b4=> ?_) fun b4=> ?_
 refine aR<|bv<|aB fun bw=>az<|ak fun bx=>p (bc oS aa aa ab<|aG.ok ((aY aI).2)<|c8 ab)<|p (ld bH aa<|aG.iY (i:=j) (aY aI).2<|r5 ab)<|ay<|bx ?_
 have bi:(ni F i j<|(aM F (bI F (i:Int)) 2).getD j 0).length≤F.rules.length+1:=by
  have :=mM (fun q:Nat=>decide (((aM F (bI F (i:Int)) 2).getD j 0)∈aM F (bI F (q:Int)) 2))<|fM i
  unfold ni ep; rw [bJ]; rw [sV] at this; split <;> simp only [iG,gJ] <;> omega
 have C:(fun w'=>w'.heap[E]? =some (.cells [aU tb,.slice ar F.rules.length cr,.map (some A),.map (some G)].toArray 132 (0,0))∧bQ w'.heap A (jU .i64) g) O.drew:=⟨aQ,aF⟩
 refine eG (fun w'=>w'.heap[E]? =some (.cells [aU tb,.slice ar F.rules.length cr,.map (some A),.map (some G)].toArray 132 (0,0))∧bQ w'.heap A (jU .i64) g) 14 aa wide C<|lq 0 aa ag (fun _ _=>aH (aU E) aa) C<|lq 1 aa ag (fun _ _=>nc aa) C<|lq 2 aa ag (fun _ _=>fa z1 aa) C<|lq 3 aa ag (fun w' al=>ld yC aa<|(aV al.1).trans aa) C<|lq 4 aa ag (fun _ _=>mv) C<|lq 5 aa ag (fun _ _=>aH (aU E) aa) C<|lq 6 aa ag (fun _ _=>nc aa) C<|lq 7 aa ag (fun _ _=>fa z1 aa) C<|lq 8 aa ag (fun w' al=>ld yC aa<|(aV al.1).trans aa) C<|lq 9 aa ag (fun _ _=>mv) C<|lq 10 aa ag (fun w' al=>lB BH xR Av (al.2) aa aa (⟨_,aa⟩)<|aa) C<|lq 11 aa ag (fun _ _=>aH (aj i) aa) C<|iV 12 aa ag<|lk nu aa aa fun cv br cz ax bO=> ?_
 have cJ:=ax.size
 have I:Wk O br:=(Md.refl _ O).drew.trans ax.md
 have bV:(fun w'=>w'.heap[E]? =some (.cells [aU tb,.slice ar F.rules.length cr,.map (some A),.map (some G)].toArray 132 (0,0))∧bQ w'.heap A (jU .i64) g) br:=⟨Wk.az ax.md C.1,C.2.wk ax.md⟩
 refine ⟨bV,?_⟩
 refine iV 13 aa ag<|ap nu (ba (ac.own<|(aM F (bI F (i:Int)) 2).getD j 0) I) aa (by have :=I.size; have :=aW.size; omega) aa (aG.gl bO) (aa) (aa) (by have :=bi; omega) (by have :=bi; omega) fun a0 aJ b7 ai cK bh=> ?_
 have a9:aJ.heap[E]? =some (.cells [aU tb,.slice ar F.rules.length cr,.map (some A),.map (some G)].toArray 132 (0,0)):=ai.gZ (TF.own (L:= [5]) (ba (ac.own<|(aM F (bI F (i:Int)) 2).getD j 0) I) aw) (Wk.az I aQ) aw
 have aE:bQ aJ.heap A (jU .i64) g:=(aF.wk I).md ai fun hk=>np (ba (ac.own<|(aM F (bI F (i:Int)) 2).getD j 0) I) hk fun cur z aS=>(aF.wk I).nm aS
 have bW:(fun w'=>w'.heap[E]? =some (.cells [aU tb,.slice ar F.rules.length cr,.map (some A),.map (some G)].toArray 132 (0,0))∧bQ w'.heap A (jU .i64) g) aJ:=⟨a9,aE⟩
 refine ⟨bW,?_⟩
 refine dw 14 aa ag ag<|qR BH Av (aE) aa aa aa (⟨_,aa⟩) fun bs aq bS=> ?_
 have a4:Md (fun k=>k=A∨((g<|.int .i64 ((((aM F (bI F (i:Int)) 2).getD j 0):Nat):Int)).getD<|bC none 0 0).ownBlock=some k) O bs:=((I.mono fun _ _ h=>h.elim).trans<|ai.mono fun k _ h=> .inr h).trans<|aq.mono fun k _ h=> .inl h
 have b1:=ac.own<|(aM F (bI F (i:Int)) 2).getD j 0
 have bR:Md (fun k=>k=A) Z bs:=aW.trans' a4 fun k hk h=>h.elim id fun h2=>by have :=(da b1 h2).1; omega
 have b2:=jO.put (i:=i) (ac.wk I) ai (by rw [bJ,gV]; exact b7) bh (fun cur z aS=>aE.nm aS) aq
 have a6:TF aJ [1] (fun k=>k=A):=TF.eq (xC aE.choose_spec.1) aw
 have bZ:=aq.gZ a6 a9 aw
 have b6:∀ k,(bC aL (aM F (bI F (i:Int)) 2).length aN).ownBlock=some k→((g<|.int .i64 ((((aM F (bI F (i:Int)) 2).getD j 0):Nat):Int)).getD<|bC none 0 0).ownBlock≠some k:=fun k hk h2=>by
  have h3:=da aI hk
  have h4:=da aX hk
  have h5:=aT _ k h2
  omega
 have b8:=cX (cD (ba aI I) ai fun k hk h2=>b6 k hk h2) aq a6 aw
 have b0:∀ (z k:Nat),((bz g (.int .i64 ((((aM F (bI F (i:Int)) 2).getD j 0):Nat):Int)) a0<|aj z).getD<|bC none 0 0).ownBlock=some k→k < J.heap.size∨a1.heap.size≤k:=fun z k hk=>by
  by_cases bp:(fL .i64 (z:Nat))=(.int .i64 ((((aM F (bI F (i:Int)) 2).getD j 0):Nat):Int))
  have hk:((bz g (.int .i64 ((((aM F (bI F (i:Int)) 2).getD j 0):Nat):Int)) a0<|.int .i64 ((((aM F (bI F (i:Int)) 2).getD j 0):Nat):Int)).getD<|bC none 0 0).ownBlock=some k:=(congrArg (fun q=>((bz g (.int .i64 ((((aM F (bI F (i:Int)) 2).getD j 0):Nat):Int)) a0 q).getD<|bC none 0 0).ownBlock) bp).symm.trans hk
  rw [mB] at hk
  rcases bh k hk with h1 | h1
  exact aT _ k h1
  have :=I.size; have :=cu; exact .inr ab
  rw [k0 bp] at hk; exact aT z k hk
 exact eF ag<|bn<|bw<|rg aa<|p (bK ((j+1:Nat):Int) aa aa<|bl ab ab)<|p mv<|nl<|tn<|⟨_,ab,j+1,_,ab,bR,bS,(b2.congr fun z=>Q1 ab z),bZ,b8,b0,(by have :=a4.size; omega),aa,aa,aa,aa,aa,aa,aa,aa,aa⟩
 exact ext<|bj<|bj<|be<|bn<|aK<|rg aa<|p (bK ((i+1:Nat):Int) aa aa<|bl ab ab)<|p mv<|nl<|tn<|⟨_,ab,i+1,_,ab,aW,aF,(ac.congr fun z=>by rw [show j=(aM F (bI F (i:Int)) 2).length by omega]; exact Q0 F i z),aQ,aa,aa,aa,aa,aa⟩
 refine ext<|bj<|bj<|be<|bB<|ak fun aK=>au (aU E)<|p (cg (aU E) aa)<|nl<|aK<|rt<|a8 aa ?_
 obtain rfl :i=F.rules.length:=ab
 have bX:TF Z [1] (fun k=>k=A):=TF.eq (by unfold tag; rw [bk]) aw
 have bo:G≠A:=ab
 have bd:J.heap[G]? =some (.map #[] 0):=ad.az b5 bo
 exact ⟨E,ar,cr,rn,A,G,aa,⟨aA,aO.trans' ad (fun k hk h=>by omega),ab,bb,⟨_,cX ca ad bX aw⟩,cb,cc,⟨f,bm,fun z _=>by obtain ⟨a,c,h1⟩:=c5 (aD.own z); exact ⟨a,c,_,h1,h1 ▸ aD.own z⟩⟩,fun h=>bo h.symm,⟨_,_,bd⟩⟩,⟨_,kB.nil bd,fun d=>⟨(fun h=>by cases h),fun h=>h.elim⟩,fun k v h=>by cases h⟩,aO.trans' ad fun k hk h=>by omega⟩
end Go.Hb
end
section
namespace Go.Hb.td
def iq (a b:Int):Int:=if a < b then -1 else if a > b then 1 else 0
def lD:List Int→Int
 | []=>0
 | x::l=>if x≠0 then x else lD l
def og (a b:bo):Int:=lD [iq a.dW b.dW,iq a.fst b.fst,iq a.snd b.snd,iq a.pre b.pre]
def ko (a b:bo):Prop :=(a.dW:Int) < b.dW∨((a.dW:Int)=b.dW∧(a.fst < b.fst∨(a.fst=b.fst∧(a.snd < b.snd∨(a.snd=b.snd∧a.pre < b.pre)))))
theorem N8 (a b:Int):iq a b < 0↔a < b:=by
 unfold iq
 repeat' split
 all_goals omega
theorem N7 (a b:Int):iq a b=0↔a=b:=by
 unfold iq
 repeat' split
 all_goals omega
theorem TX {x:Int} {l:List Int} (h:x≠0):lD (x::l)=x:=if_pos h
theorem TW {x:Int} {l:List Int} (h:¬x≠0):lD (x::l)=lD l:=if_neg h
theorem TV (x:Int) (l:List Int):lD (x::l) < 0↔(x < 0∨(x=0∧lD l < 0)):=by show (if x≠0 then x else lD l) < 0↔_; split <;> omega
theorem TY (a b:bo):og a b < 0↔ko a b:=by
 have c:¬lD [] < 0:=by unfold lD; omega
 unfold og ko
 simp only [TV,N8,N7,c,and_false,or_false]
instance XH:Inhabited bo:=⟨⟨[],0,0,0,0⟩⟩
theorem Gs (a b:bo):uV og a b=true↔ko a b:=by unfold uV; rw [decide_eq_true_iff]; exact TY a b
theorem AG (a b:bo):uV og a b=false↔¬ko a b:=by rw [← Gs]; cases uV og a b <;> simp
theorem V5:Go.Sort.SWO (uV og) where
 irrefl x:=by rw [AG]; unfold ko; omega
 trans x y z h1 h2:=by rw [Gs] at*; unfold ko at*; omega
 ntrans x y z h1 h2:=by rw [AG] at*; unfold ko at*; omega
def UF:Go.Shelf.Ren:=⟨fun n=>if n=6 then 60 else if n=14 then 105 else if n=15 then 66 else if n=20 then 169 else if n=21 then 170 else if n=22 then 171 else if n=23 then 172 else if n=24 then 173 else if n=25 then 174 else if n=26 then 175 else if n=27 then 176 else if n=28 then 123 else if n=29 then 124 else if n=46 then 222 else if n=47 then 184 else if n=48 then 185 else if n=49 then 223 else if n=50 then 224 else if n=57 then 260 else 0,fun n=>if n=0 then 0 else if n=3 then 3 else if n=4 then 4 else if n=5 then 5 else if n=9 then 9 else if n=22 then 29 else if n=25 then 137 else if n=39 then 145 else if n=45 then 232 else if n=46 then 233 else if n=50 then 237 else if n=53 then 240 else if n=55 then 242 else if n=66 then 287 else if n=70 then 291 else if n=76 then 335 else if n=77 then 219 else if n=24 then 49 else 0,fun n=>n⟩
theorem Ge:XB ao UF where
 mixed:=ag
 f6:= .intro "slices.SortFunc[[]hornbook/api.Derived,hornbook/api.Derived]" ⟨ag,ag⟩
 f14:= .intro "slices.pdqsortCmpFunc[hornbook/api.Derived]" ⟨ag,ag⟩
 f15:=ag
 f20:= .intro "slices.insertionSortCmpFunc[hornbook/api.Derived]" ⟨ag,ag⟩
 f21:= .intro "slices.heapSortCmpFunc[hornbook/api.Derived]" ⟨ag,ag⟩
 f22:= .intro "slices.breakPatternsCmpFunc[hornbook/api.Derived]" ⟨ag,ag⟩
 f23:= .intro "slices.choosePivotCmpFunc[hornbook/api.Derived]" ⟨ag,ag⟩
 f24:= .intro "slices.reverseRangeCmpFunc[hornbook/api.Derived]" ⟨ag,ag⟩
 f25:= .intro "slices.partialInsertionSortCmpFunc[hornbook/api.Derived]" ⟨ag,ag⟩
 f26:= .intro "slices.partitionEqualCmpFunc[hornbook/api.Derived]" ⟨ag,ag⟩
 f27:= .intro "slices.partitionCmpFunc[hornbook/api.Derived]" ⟨ag,ag⟩
 f28:=ag
 f29:=ag
 f46:= .intro "slices.siftDownCmpFunc[hornbook/api.Derived]" ⟨ag,ag⟩
 f47:=ag
 f48:=ag
 f49:= .intro "slices.medianAdjacentCmpFunc[hornbook/api.Derived]" ⟨ag,ag⟩
 f50:= .intro "slices.medianCmpFunc[hornbook/api.Derived]" ⟨ag,ag⟩
 f57:= .intro "slices.order2CmpFunc[hornbook/api.Derived]" ⟨ag,ag⟩
 t0:=ag
 a0:=fun _=>ag
 z0:=fun _=>ag
 v0:=fun _=>ag
 t3:=ag
 a3:=fun _=>ag
 z3:=fun _=>ag
 v3:=fun _=>ag
 t4:=ag
 a4:=fun _=>ag
 z4:=fun _=>ag
 v4:=fun _=>ag
 t5:=ag
 a5:=fun _=>ag
 z5:=fun _=>ag
 v5:=fun _=>ag
 t9:=ag
 a9:=fun _=>ag
 z9:=fun _=>ag
 v9:=fun _=>ag
 t22:=ag
 a22:=fun _=>ag
 z22:=fun _=>ag
 v22:=fun _=>ag
 t25:=ag
 a25:=fun _=>ag
 z25:=fun _=>ag
 v25:=fun _=>ag
 t39:=ag
 a39:=fun _=>ag
 z39:=fun _=>ag
 v39:=fun _=>ag
 t45:=ag
 a45:=fun _=>ag
 z45:=fun _=>ag
 v45:=fun _=>ag
 t46:=ag
 a46:=fun _=>ag
 z46:=fun _=>ag
 v46:=fun _=>ag
 t50:=ag
 a50:=fun _=>ag
 z50:=fun _=>ag
 v50:=fun _=>ag
 t53:=ag
 a53:=fun _=>ag
 z53:=fun _=>ag
 v53:=fun _=>ag
 t55:=ag
 a55:=fun _=>ag
 z55:=fun _=>ag
 v55:=fun _=>ag
 t66:=ag
 a66:=fun _=>ag
 z66:=fun _=>ag
 v66:=fun _=>ag
 t70:=ag
 a70:=fun _=>ag
 z70:=fun _=>ag
 v70:=fun _=>ag
 t76:=ag
 a76:=fun _=>ag
 z76:=fun _=>ag
 v76:=fun _=>ag
 t77:=ag
 a77:=fun _=>ag
 z77:=fun _=>ag
 v77:=fun _=>ag
section
open Go.Sort Go.ChangeShapes Go.WideShapes
variable {w:World} {g n:Nat} {os:Array Obj} {cur:Array Value} {e:TypeId}
theorem RF {L:List Value} (c:w.heap[g]? =some (.cells cur e (0,0))) (E:cur.toList.take L.length=L):Holds id w g 0 L.toArray:=by
 intro j C
 have A:j < L.length:=by simpa using C
 refine ⟨?_,by simp [World.frozen?,c]⟩
 have h1:(cur.toList.take L.length)[j]? =L[j]? :=by rw [E]
 rw [JD A] at h1
 simp only [World.cell?,c,fN]
 simp only [Option.isSome_none,IU,if_false]
 rw [← uL,h1]
 simp [A]
theorem RC (d:Array Value) (c:w.heap[g]? =some (.cells cur e (0,0))):(grow (putRow id (uW w n) g 0 d) os).heap[g]? =some (.cells (putCells id 0 d cur) e (0,0)):=by
 have A:g < w.heap.size:=(bT.1 c).1
 rw [heap_grow_old _ _ (by simpa using A)]
 simp [putRow,mapBlock,uW,IN,c,onCells]
theorem Rb (d:Array Value):w.grownBy (grow (putRow id (uW w n) g 0 d) os) (some g):=by
 refine ⟨aa,aa,aa,by simp,fun k hk c=> ?_⟩
 rw [heap_grow_old _ _ (by simpa using hk)]
 have :g≠k:=fun e=>c<|by rw [e]
 simp [putRow,mapBlock,uW,IN,this]
theorem Wf (cur:Array Value) (L:List Value) (h:L.length≤cur.size):(putCells id 0 L.toArray cur).toList.take L.length=L:=by
 apply List.ext_getElem?
 intro j
 by_cases c:j < L.length
 · rw [JD c,uL]
   simp [putCells,c,show j < cur.size by omega]
 · rw [List.getElem?_take_eq_none ab,List.getElem?_eq_none ab]
theorem Fe (L:List bo):flatK cT 5 L.toArray=(fA L).toArray:=by
 have C:(fA L).length=L.length*5:=mu (f:=cT) (m:=5) (fun _=>rfl) L
 apply Array.ext_getElem?
 intro t
 by_cases c:t < L.length*5
 · have A:t / 5 < L.length:=ab
   have h1:(fA L)[t]? =(cT L[t / 5])[t % 5]? :=by
    have :=wa (f:=cT) (m:=5) (fun _=>rfl) (bX A) (show t % 5 < 5 by omega)
    rwa [show t / 5 *5 +t % 5=t by omega] at this
   have h2:=get_flatK cT 5 L.toArray t<|by simpa using c
   have h3:(flatK cT 5 L.toArray)[t]? =some (flatK cT 5 L.toArray)[t]! :=by
    rw [Array.getElem?_eq_getElem (by simpa using c),getElem!_pos _ _ (by simpa using c)]
   rw [h3,h2,List.getElem?_toArray,h1,show L.toArray[t / 5]! =L[t / 5] by simp [A]]
   rw [bX (show t % 5 < (cT L[t / 5]).length by show t % 5 < 5; omega),getElem!_pos (cT L[t / 5]) (t % 5) (show t % 5 < (cT L[t / 5]).length by show t % 5 < 5; omega)]
 · rw [p7 (by simp; omega),p7 (by simp; omega)]
end
theorem F4 (a:Int) (w:World):
 bf ao 177 (a7 [.int .i64 a]) w (fun v w'=>v= .bool false∧w'=w):=by
 exact enter func177 aa ntmps177 aa<|ak fun c=>ay<|c<|ak fun A=>au (.int .i64 a)<|au (.int .i64 a)<|p (gF aa aa)<|ay<|A<|rt<|a8 aa<|⟨congrArg bU (decide_eq_false fun h=>h aa),aa⟩
theorem vN (a b:Int) (w:World):
 bf ao 107 (a7 [.int .i64 a,.int .i64 b]) w (fun v w'=>v= .int .i64 (iq a b)∧w'=w):=by
 refine enter func107 aa ntmps107 aa<|ak fun C=>ay<|C<|ak fun G=>au (.int .i64 a)<|e<|cl Du (F4 a w) aa fun ag ae ad=> ?_
 obtain ⟨rfl,rfl⟩:=ad
 refine ay<|G<|ak fun I=>au (.int .i64 b)<|e<|cl Du (F4 b ae) aa fun v10 ah ac=> ?_
 obtain ⟨rfl,rfl⟩:=ac
 refine ay<|I<|aB fun J=>ak fun O=>p mv<|nl<|O<|cf aa<|aR<|J<|aB fun V=>ak fun Y=>p mv ?_
 refine nl<|Y<|cf aa<|aR<|V<|aB fun Z=>ak fun ab=>au (.int .i64 a)<|au (.int .i64 b)<|p (lt aa aa)<|nl<|ab<|cd aa (fun h1=> ?_) fun h1=> ?_
 exact ak fun c=>ay<|c<|rt<|tr<|a8 aa<|⟨congrArg (fL .i64) (show (-1:Int)=iq a b by unfold iq; rw [if_pos h1]),aa⟩
 refine aR<|Z<|aB fun c=>ak fun E=>au (.int .i64 a)<|au (.int .i64 b)<|p (gt aa aa)<|nl<|E<|cd aa (fun h2=> ?_) fun h2=> ?_
 exact ak fun A=>ay<|A<|rt<|tr<|a8 aa<|⟨congrArg (fL .i64) (show (1:Int)=iq a b by unfold iq; rw [if_neg h1,if_pos h2]),aa⟩
 exact aR<|c<|ak fun A=>ay<|A<|rt<|a8 aa<|⟨congrArg (fL .i64) (show (0:Int)=iq a b by unfold iq; rw [if_neg h1,if_neg h2]),aa⟩
theorem TU (l:List Int) (a:Option Addr) (c:Nat) (w:World) (J:aG w.heap a (l.map<|fL .i64)) (ax:l.length≤1000):
 bf ao 106 (a7 [.slice a l.length c]) w (fun v w'=>v= .int .i64 (lD l)∧w'=w):=by
 refine enter func106 aa ntmps106 aa<|ak fun Y=>ay<|Y<|ak fun ac=>p aE<|nl<|ac<|aB fun ad=>ak fun ae=>au (.slice a l.length c)<|p (bP o3 aa aa)<|p mv<|nl<|ae<|az<|lp (fun I A V=> ∃ (i:Nat),(i≤l.length)∧(lD (l.drop i)=lD l)∧(V=w)∧(A 3= .int .i64 0)∧(A 6= .slice a l.length c)∧(A 7=aj (l.length))∧(A 8=aj i)∧(l.length - i=I)) _ ⟨0,ab,aa,aa,aa,aa,aa,aa,aa⟩ ?_
 rintro I A V ⟨i,hi,C,am,ap,aq,av,aw,rfl⟩
 refine fx 3 ap<|fx 6 aq<|fx 7 av<|fx 8 aw ?_
 subst am
 refine ak fun ag=>p (lt aa aa)<|nl<|ag<|aB fun ah=>cd aa (fun an=> ?_) fun an=> ?_
 refine aR<|ah<|aB fun E=>az<|aB fun ai=> ?_
 have O:l.drop i=l.getD i 0::l.drop (i+1):=by rw [List.drop_eq_getElem_cons (show i < l.length by omega),cU,bX (show i < l.length by omega)]; rfl
 refine rg aa<|p (bc oS aa aa ab<|aG.ok (J)<|c8 ab)<|p (ld bH aa<|aG.iY J (show (l.map<|fL .i64)[i]? =some (.int .i64<|l.getD i 0) by rw [fF,cU,bX (by omega :i < l.length)]; rfl)) ?_
 refine ay<|ai<|ak fun al=>p mv<|au (.int .i64 0)<|p (gF aa aa)<|nl<|al<|cd aa (fun G=> ?_) fun G=> ?_
 exact ak fun Z=>p mv<|ay<|Z<|rt<|br<|tr<|tr<|br<|tr<|a8 aa<|⟨congrArg (fL .i64) (show l.getD i 0=lD l by rw [← C,O,TX G]),aa⟩
 exact aR<|bn<|E<|rg aa<|p (bK ((i+1:Nat):Int) aa aa<|bl ab ab)<|p mv<|nl<|tn<|⟨_,ab,i+1,ab,(by rw [← C,O,TW G]),aa,aa,aa,aa,aa,aa⟩
 refine ext<|bj<|bj<|be<|ad<|ak fun E=>au (.int .i64 0)<|p (cg (.int .i64 0) aa)<|nl<|E<|rt<|a8 aa ?_
 rw [List.drop_eq_nil_of_le ab] at C
 exact ⟨by rw [← C]; rfl,aa⟩
def lf (w w':World):Prop := ∃ q os,w'=Jj (w.drewN q) os
theorem lf.refl (w:World):lf w w:=⟨0,#[],by simp [World.drewN]⟩
theorem lf.nw {w c A:World} (h:lf w c) (hn:Nw c A):lf w A:=by
 obtain ⟨q,os,rfl⟩:=h
 obtain ⟨o,rfl⟩:=hn.one
 exact ⟨q,os.push o,by simp [Jj]⟩
theorem lf.drew {w c:World} (h:lf w c):lf w c.drew:=by
 obtain ⟨q,os,rfl⟩:=h
 exact ⟨q+1,os,aa⟩
theorem TZ (a b:bo) (w:World):
 bf ao 61 (a7 [.agg (cT a).toArray,.agg (cT b).toArray]) w (fun v w'=>v= .int .i64 (og a b)∧lf w w'):=by
 refine enter func61 aa ntmps61 aa<|ak fun au=>e<|jm aa fun aw aU E aO aA=> ?_
 have E:bE aU.heap aw (cT a):=aA
 refine e<|jm aa fun az C G Y aD=> ?_
 have G:bE C.heap az (cT b):=aD
 have E:=Wk.B Y.md E
 have aM:=((lf.refl w).nw aO).nw Y
 refine ay<|au<|aB fun av=> ?_
 have c:(fun w'=>Wk C w') C.drew:=(Md.refl _ _).drew
 refine bR (fun w'=>Wk C w') aa wide c<|aK 0 aa (fun _ _=>fa oU aa) c<|aK 1 aa (fun w' A=>ld bH aa<|Wk.aJ A<|E.bu 1) c<|aK 2 aa (fun _ _=>fa oU aa) c<|aK 3 aa (fun w' A=>ld bH aa<|Wk.aJ A<|G.bu 1) c<|aK 5 aa (fun _ _=>fa lT aa) c<|aK 6 aa (fun w' A=>ld bH aa<|Wk.aJ A<|E.bu 2) c<|aK 7 aa (fun _ _=>fa lT aa) c<|aK 8 aa (fun w' A=>ld bH aa<|Wk.aJ A<|G.bu 2) c<|aK 10 aa (fun _ _=>fa lU aa) c<|aK 11 aa (fun w' A=>ld bH aa<|Wk.aJ A<|E.bu 3) c<|aK 12 aa (fun _ _=>fa lU aa) c<|aK 13 aa (fun w' A=>ld bH aa<|Wk.aJ A<|G.bu 3) c<|aK 15 aa (fun _ _=>fa n4 aa) c<|aK 16 aa (fun w' A=>ld bH aa<|Wk.aJ A<|E.bu 4) c<|aK 17 aa (fun _ _=>fa n4 aa) c<|aK 18 aa (fun w' A=>ld bH aa<|Wk.aJ A<|G.bu 4) c<|he 4 aa ag<|cl vG (vN (a.dW:Nat) (b.dW:Nat) C.drew) aa fun v9 O aT=> ?_
 obtain ⟨rfl,an⟩:=aT
 have aN:lf w O:=an ▸ aM.drew
 have ae:(fun w'=>Wk C w') O:=an ▸ c
 refine ⟨ae,?_⟩
 refine he 9 aa ag<|cl vG (vN a.fst b.fst O) aa fun aX I aP=> ?_
 obtain ⟨rfl,ai⟩:=aP
 have aF:lf w I:=ai ▸ aN
 have ah:(fun w'=>Wk C w') I:=ai ▸ ae
 refine ⟨ah,?_⟩
 refine he 14 aa ag<|cl vG (vN a.snd b.snd I) aa fun aY J aQ=> ?_
 obtain ⟨rfl,aj⟩:=aQ
 have aH:lf w J:=aj ▸ aF
 have Z:(fun w'=>Wk C w') J:=aj ▸ ah
 refine ⟨Z,?_⟩
 refine he 19 aa ag<|cl vG (vN a.pre b.pre J) aa fun v24 ap aR=> ?_
 obtain ⟨rfl,al⟩:=aR
 have aI:lf w ap:=al ▸ aH
 have ab:(fun w'=>Wk C w') ap:=al ▸ Z
 refine ⟨ab,?_⟩
 refine he 20 aa ag<|qu (L:= [.int .i64 (iq (a.dW:Nat) (b.dW:Nat)),.int .i64 (iq a.fst b.fst),.int .i64 (iq a.snd b.snd),.int .i64 (iq a.pre b.pre)]) nu aa aa aa aa fun ax aq aW V aC=> ?_
 have aL:=aI.nw V
 have ac:(fun w'=>Wk C w') aq:=ab.trans V.md
 refine ⟨ac,?_⟩
 refine he 21 aa ag<|cl LC (TU [iq (a.dW:Nat) (b.dW:Nat),iq a.fst b.fst,iq a.snd b.snd,iq a.pre b.pre] (some ⟨ax,0,none⟩) 4 aq (aG.gl ⟨_,aC⟩)<|by show 4≤1000; omega) aa fun v26 aV aS=> ?_
 obtain ⟨rfl,am⟩:=aS
 have ad:(fun w'=>Wk C w') aV:=am ▸ ac
 refine ⟨ad,?_⟩
 exact aK 22 aa (fun _ _=>aE) ad<|hn ag<|av<|rt<|a8 aa<|⟨aa,am ▸ aL⟩
section
open Go.Sort Go.ChangeShapes Go.WideShapes
theorem N6 (az size:Nat) (w:World):CmpLays ao 61 #[] cT 5 og az 0 size w:=by
 intro m os c _ x y
 refine j7 (TZ x y<|sortWorldK cT 5 w az 0 m c os) ?_
 rintro e w' ⟨v,rfl,rfl,h⟩
 exact ⟨aa,h⟩
theorem Bx (L:List bo) (h:SortedIn (ltOf og) 0 L.toArray.size L.toArray):L.Pairwise fun a b=> ¬ko b a:=by
 rw [List.pairwise_iff_getElem]
 intro i j hi c A
 have :=h i j (ku _) A<|by simpa using c
 rw [AG] at this
 simpa [hi,c] using this
theorem Vw (B n:Nat) (v:Value) (L:List bo) (w:World) (J:bq w B 49 5 v n (fA L)) (I:L.length=n) (hn:n < 4611686018427387904):
 bf ao 60 [v,.func (.func 61) #[] #[]].toArray w (fun ag w'=>ag= .tuple #[]∧∃ c:List bo,c.Perm L∧(c.Pairwise fun a b=> ¬ko b a)∧bq w' B 49 5 v n (fA c)∧Md (fun k=>v.ownBlock=some k) w w'):=by
 rcases J.2 with ⟨rfl,ah⟩ | ⟨g,cap,cur,rfl,O,E,h1,h2,h3,h4⟩
 · subst I
   have ae:L= []:=gq ab
   subst ae
   refine j7 (AnyF.slices_SortFunc_none Ge none 0 _ w) ?_
   rintro e w' ⟨rfl,rfl⟩
   exact ⟨_,aa,aa,[],Jt _,List.Pairwise.nil,J,Md.refl _ _⟩
 · subst I
   have Z:(fA L).length=L.length*5:=mu (f:=cT) (m:=5) (fun _=>rfl) L
   have hH:HoldsK cT 5 w g 0 L.toArray:=by
    show Holds id w g 0 (flatK cT 5 L.toArray)
    rw [Fe]
    exact RF E<|by rw [Z]; exact h4
   refine j7 (AnyQ.slices_SortFunc Ge 5 (fun _=>by kernel_rfl) (fun _=>by kernel_rfl) cT (fun _=>rfl) (fun x u hu=> ?_) og V5 61 #[] g 0 cap L.toArray w (fun args w=> ?_) (N6 g _ w) hH (bT.1 E).1 (by simpa using hn)) ?_
   · simp only [cT,ew,List.not_mem_nil,or_false] at hu
     rcases hu with rfl | rfl | rfl | rfl | rfl <;> rfl
   · exact MQ args w
   · rintro e w' ⟨rfl,d',m,os,hp,hs,rfl⟩
     obtain ⟨c,rfl⟩:∃ c:List bo,d'=c.toArray:=⟨d'.toList,by simp⟩
     have C:c.length=L.length:=by simpa using hp.1
     have ad:c.Perm L:=by
      have :=hp.2.2
      have V:List.take L.length c=c:=fu ab
      have Y:List.take c.length L=L:=fu ab
      simpa [V,Y] using this
     have hw:sortWorldK cT 5 w g 0 m c.toArray os=grow (putRow id (uW w m) g 0 (fA c).toArray) os:=by
      unfold sortWorldK putRowK; rw [Fe]
     rw [hw]
     have G:(fA c).length=c.length*5:=mu (f:=cT) (m:=5) (fun _=>rfl) c
     have A:=Rb (w:=w) (g:=g) (n:=m) (os:=os) (fA c).toArray
     refine ⟨_,aa,aa,c,ad,Bx c (by rw [show c.toArray.size=L.toArray.size by simpa using C]; exact hs),⟨by rw [G,C],.inr ⟨g,cap,_,aa,O,RC _ E,h1,h2,by simp [putCells,h3],?_⟩⟩,⟨A.os,A.output,A.size,fun k hk ac=>A.block k hk fun he=>ac ?_⟩⟩
     · rw [← C,← G]
       exact Wf cur (fA c)<|by rw [G,C]; omega
     · simp only [gH]; exact he.symm
end
end Go.Hb.td
end
section
namespace Go.Hb
open Go.Hb.td
noncomputable def fi (F:aC) (xs:List bg) (w:Tx):List bo:=(c4 F xs xs.length).filter fun d=>decide (d.cy=w)
section
variable {F:aC} {xs:List bg} {wd:Tx} {i:Nat}
theorem Vd (d:bo):nr F xs wd 0 d↔(False∨mV F xs wd wd (-1) F.rules.length d):=by
 unfold nr
 exact ⟨fun h=> .inr (h.resolve_right fun ⟨i,_,h,_⟩=>by omega),fun h=> .inl<|h.resolve_left id⟩
theorem Hw {r:cJ} (C:F.rules[i]? =some r) (h:r.kind≠1∨eX r wd=none) (d:bo):nr F xs wd (i+1) d↔nr F xs wd i d:=by
 unfold nr
 constructor
 · rintro (h1 | ⟨k,A,hk,c,h2,st,h3,h4⟩)
   · exact .inl h1
   · rcases nS.1 hk with hk | rfl
     · exact .inr ⟨k,A,hk,c,h2,st,h3,h4⟩
     · rw [C] at c; cases c
       rcases h with h | h
       · exact absurd h2 h
       · rw [h] at h3; cases h3
 · rintro (h1 | ⟨k,A,hk,h2⟩)
   · exact .inl h1
   · exact .inr ⟨k,A,ab,h2⟩
theorem Vc {r:cJ} {rest:Tx} (E:F.rules[i]? =some r) (hk:r.kind=1) (hu:eX r wd=some rest) (d:bo):nr F xs wd (i+1) d↔(nr F xs wd i d∨mV F xs wd rest (i:Nat) F.rules.length d):=by
 unfold nr
 constructor
 · rintro (h1 | ⟨k,C,c,A,h2,st,h3,h4⟩)
   · exact .inl<|.inl h1
   · rcases nS.1 c with c | rfl
     · exact .inl<|.inr ⟨k,C,c,A,h2,st,h3,h4⟩
     · rw [E] at A; cases A
       rw [hu] at h3; cases h3
       exact .inr h4
 · rintro ((h1 | ⟨k,C,c,h2⟩) | h1)
   · exact .inl h1
   · exact .inr ⟨k,C,ab,h2⟩
   · exact .inr ⟨i,r,ab,E,hk,rest,hu,h1⟩
end
theorem H6 {α:Type} (p q:α→Bool) (h:∀ x,p x=true→q x=false):∀ l:List α,(l.filter p).length+(l.filter q).length≤l.length
 | []=>cj _
 | x::l=>by
   have c:=H6 p q h l
   rw [pA,pA,bS]
   by_cases hp:p x=true
   · rw [if_pos hp,if_neg (by rw [h x hp]; exact c7),bS]; omega
   · rw [if_neg hp]
     split
     · rw [bS]; omega
     · omega
def lC (F:aC) (k:Nat):Nat:=((fM F.rules.length).filter fun i=>decide ((F.rules.getD i dq).kind=k)).length
theorem Tq (F:aC):lC F 1 +lC F 2≤F.rules.length:=by
 have :=H6 (fun i=>decide ((F.rules.getD i dq).kind=1)) (fun i=>decide ((F.rules.getD i dq).kind=2)) (fun i h=>by have :=of_decide_eq_true h; exact decide_eq_false ab)<|fM F.rules.length
 unfold lC; rw [sV] at this; exact this
theorem filter_le {α:Type} {p q:α→Bool} (h:∀ x,p x=true→q x=true):∀ l:List α,(l.filter p).length≤(l.filter q).length
 | []=>cj _
 | x::l=>by
   have c:=filter_le h l
   rw [pA,pA]
   by_cases hp:p x=true
   · rw [if_pos hp,if_pos (h x hp),bS,bS]; omega
   · rw [if_neg hp]; split
     · rw [bS]; omega
     · exact c
theorem AO (F:aC) (fs:List Nat) (k:Nat):(aM F fs k).length≤lC F k:=filter_le (fun i h=>decide_eq_true (of_decide_eq_true h).1) _
theorem wc {α β:Type} {g:α→List β} {m:Nat} (h:∀ x,(g x).length≤m):∀ l:List α,(l.flatMap g).length≤l.length*m
 | []=>ku _
 | x::l=>by
   have :=wc h l; have :=h x
   rw [jt,bJ,bS,nT]; omega
theorem zf (F:aC) (xs:List bg) (e:Nat) (u:Tx) (f s:Int):(eT F xs e u f s).length≤lC F 1 +1:=by
 unfold eT kE
 have h1:=List.length_filterMap_le (iO F xs e u f s)<|aM F (flagsOf xs e) 1
 have h2:=AO F (flagsOf xs e) 1
 rw [bJ]
 split <;> simp only [iG,gJ] <;> omega
theorem Pb (F:aC) (xs:List bg) (e:Nat):(gi F xs e).length≤(lC F 1 +1)+lC F 2 *((lC F 1 +1)+lC F 2 *(lC F 1 +1)):=by
 have h1:∀ u f z,(jK F xs e u f z).length≤lC F 1 +1:=fun u f z=>by
  unfold jK; split
  · exact ku _
  · exact zf ..
 have h2:∀ s,(gC F xs e s).length≤(lC F 1 +1)+lC F 2 *(lC F 1 +1):=fun s=>by
  unfold gC; split
  · exact ku _
  · rename_i u _
    rw [bJ]
    refine JU (zf ..)<|dS (wc (fun z=>h1 u s z) _)<|oD _<|AO ..
 unfold gi
 rw [bJ]
 exact JU (zf ..)<|dS (wc h2 _)<|oD _<|AO ..
theorem Uq {p s:Nat} (h:p+s≤1024):(p+1)+s*((p+1)+s*(p+1))≤269748225:=by
 obtain ⟨a,rfl⟩:∃ a,s=1024 - p - a:=⟨1024 - p - s,ab⟩
 have hs:1024 - p - a≤1024 - p:=Nat.sub_le _ _
 have hp:p≤1024:=ab
 have h4:∀ x y:Nat,x+y≤1026→x*y≤263169:=fun x y G=>by
  rcases Nat.le_total x y with hle | hle
  · obtain ⟨d,rfl⟩:=JZ hle
    have h1:x≤513:=ab
    have h2:x+d≤1026 - x:=ab
    refine dS (Nat.mul_le_mul_left x h2) ?_
    obtain ⟨q,C,rfl⟩:∃ q,q≤513∧x=513 - q:=⟨513 - x,ab,ab⟩
    rw [show 1026 - (513 - q)=513 +q by omega,Nat.sub_mul,vk,vk]
    have :q*513=513 *q:=s7 _ _
    omega
  · obtain ⟨d,rfl⟩:=JZ hle
    have h1:y≤513:=ab
    have h2:y+d≤1026 - y:=ab
    refine dS (oD y h2) ?_
    obtain ⟨q,C,rfl⟩:∃ q,q≤513∧y=513 - q:=⟨513 - y,ab,ab⟩
    rw [show 1026 - (513 - q)=513 +q by omega,s7,Nat.sub_mul,vk,vk]
    have :q*513=513 *q:=s7 _ _
    omega
 generalize 1024 - p - a=s at hs
 have h5:=h4 (p+1) (s+1) ab
 have c:(p+1)+s*((p+1)+s*(p+1))≤((p+1)*(s+1))*(s+1):=by
  have A:((p+1)*(s+1))*(s+1)=(p+1)+s*((p+1)+s*(p+1))+s*(p+1):=by
   simp only [vk,Nat.add_mul,Nat.mul_one,Nat.one_mul]
   have E:s*p=p*s:=s7 _ _
   have a2:s*(s*p)=p*s*s:=by rw [s7 s p,s7]
   omega
  rw [A]; exact Nat.le_add_right _ _
 refine dS c<|dS (Nat.mul_le_mul h5 (show s+1≤1025 by omega)) aw
theorem C0 {F:aC} {xs:List bg} (c:F.rules.length≤1024) (A:xs.length≤8192):(c4 F xs xs.length).length≤2209777459200:=by
 have h1:∀ e,(gi F xs e).length≤269748225:=fun e=>dS (Pb F xs e)<|Uq<|dS (Tq F) c
 have h2:=wc h1<|fM xs.length
 unfold c4
 rw [sV] at h2
 omega
theorem Lk {a b:bo} (h:rI a b=true) (he:a.dW=b.dW):ko a b:=by
 unfold rI at h
 unfold ko
 split at h
 · have :=of_decide_eq_true h; omega
 · split at h
   · have :=of_decide_eq_true h; omega
   · have :=of_decide_eq_true h; omega
theorem KM (F:aC) (xs:List bg) (n:Nat):(c4 F xs n).Pairwise ko:=by
 unfold c4
 rw [CG]
 refine ⟨fun e _=> ?_,yo.imp fun {a b} G x C y E=> ?_⟩
 · refine (Pe F xs e).imp_of_mem fun {a b} c A h=> ?_
   exact Lk h<|by rw [(ue c).1,(ue A).1]
 · unfold ko
   have h1:=(ue C).1
   have h2:=(ue E).1
   omega
theorem ER (F:aC) (xs:List bg) (w:Tx):(fi F xs w).Pairwise ko:=(KM F xs xs.length).sublist List.filter_sublist
theorem Qf (F:aC) (xs:List bg) (w:Tx):(fi F xs w).Nodup:=(ER F xs w).imp fun h e=>by subst e; unfold ko at h; omega
theorem AJ {F:aC} {xs:List bg} {w:Tx} {d:bo} :d∈fi F xs w↔d∈c4 F xs xs.length∧d.cy=w:=by
 unfold fi; rw [sX,decide_eq_true_iff]
theorem ES {w:Tx} :∀ (l m:List bo),(l.Pairwise fun a b=> ¬ko b a)→m.Pairwise ko→(∀ d∈m,d.cy=w)→l.Perm m→l=m
 | [],m,_,_,_,hp=>by rw [hp.symm.eq_nil]
 | a::l,[],_,_,_,hp=>by have :=hp.length_eq; simp at this
 | a::l,b::m,hl,hm,hw,hp=>by
   rw [nQ] at hl hm
   have c:a=b:=by
    have h1:a∈b::m:=hp.subset<|nN ..
    have h2:b∈a::l:=hp.symm.subset<|nN ..
    rcases ew.1 h1 with h1 | h1
    · exact h1
    · rcases ew.1 h2 with h2 | h2
      · exact h2.symm
      · exact absurd (hm.1 a h1)<|hl.1 b h2
   subst c
   rw [ES l m hl.2 hm.2 (fun d hd=>hw d<|nM _ hd) ((List.perm_cons a).1 hp)]
theorem HT {α:Type} [DecidableEq α]:∀ (l m:List α),l.Nodup→(∀ x∈l,x∈m)→l.length≤m.length
 | [],_,_,_=>ku _
 | a::l,m,hl,hs=>by
   rw [ri] at hl
   have h1:=HT l (m.erase a) hl.2 fun x c=>(List.mem_erase_of_ne fun e=>by subst e; exact hl.1 c).2<|hs x<|nM _ c
   have h2:=List.length_erase_of_mem<|hs a<|nN ..
   have h3:=List.length_pos_of_mem<|hs a<|nN ..
   rw [bS]; omega
theorem F5 {f:Value→Option Value} {left :List (Value×Value)} (c:∀ k v,f k=some v↔(k,v)∈left) (d:bo):(f<|dP d).isSome=true↔dP d∈left.map gr:=by
 rw [me,gW]
 exact ⟨fun ⟨v,h⟩=>⟨_,(c _ v).1 h,aa⟩,fun ⟨⟨k,v⟩,h,e⟩=>⟨v,(c _ v).2<|by rw [← e]; exact h⟩⟩
theorem Sz {left :List (Value×Value)} {m:List bo} (hk:∀ p∈left,oV p.1) (hn:(left.map gr).Nodup) (hm:∀ d,d∈m↔dP d∈left.map gr):left.length≤m.length:=by
 haveI :DecidableEq Value:=fun a b=>Classical.propDecidable<|a=b
 have :=HT (left.map gr) (m.map dP) hn (fun x c=>by
  obtain ⟨p,hp,rfl⟩:=gW.1 c
  obtain ⟨d,hd⟩:=hk p hp
  rw [hd]
  exact List.mem_map_of_mem ((hm d).2<|by rw [← hd]; exact c))
 simpa using this
theorem HA (B tb:Nat) (U:ek) (F:aC) (xs:List bg) (wd:Tx) (w:World) (cV:dK w B tb U F xs) (A:dU F xs) (cS:F.rules.length≤1024) (dM:wd.length≤2097152):
 bf ao 30 (a7 [aU tb,str wd]) w (fun v w'=>bq w' w.heap.size 49 5 v (fi F xs wd).length (fA<|fi F xs wd)∧Wk w w'):=by
 have dN:=A.xl
 have dI:=A.len
 have cW:=C0 cS A.xl
 refine enter func30 aa ntmps30 aa<|ak fun b4=>ay<|b4<|aB fun b6=>ak fun b7=>p mv<|p (iZ nz aa aa)<|nl<|b7<|cf (aa)<|aR<|b6<|aB fun b8=>rg aa<|p mv<|e<|cl MO (Va B tb U F xs w cV A) aa fun dZ V cP=> ?_
 obtain ⟨kb,ar,cr,rn,fm,dm,rfl,C,cB,a9⟩:=cP
 have dD:=C.lt
 have dA:=C.lo
 refine ay<|b8<|ak fun b9=>p mv<|p (du (ps:= [(0,str wd),(2,.int .i64 (-1)),(3,.int .i64 (-1)),(4,.int .i64 (-1))]) (L:= [str wd,.int .i64 0,.int .i64 (-1),.int .i64 (-1),.int .i64 (-1)]) xz aa<|aa)<|e<|dY sI fun ag d4 dy bw cu=> ?_
 have dR:=bw.size
 refine e<|fk rP aa aa aa aa cu aw fun ax cJ ct=> ?_
 have bb:Wk V ax:=bw.md.trans' cJ fun q I h=>by omega
 have bF:ax.heap[ag]? =some (.cells [str wd,.int .i64 0,.int .i64 (-1),.int .i64 (-1),.int .i64 (-1)].toArray 49 (0,0)):=ct
 have bR:Md (fun k=>k=dm) V ax:=bb.mono fun _ _ h=>h.elim
 have cF:=cB.md bb id
 have aX:¬(ag=dm):=ab
 refine nl<|b9<|ak fun ca=>p mv<|p mv<|p (cE kR aa (aa) fun q I=>(lj bF).bu q)<|e<|cl DT (D4 w V B kb tb U F xs ar cr rn fm dm C A wd wd 0 (-1) (fun _=>False) ax bR cF ab ab) aa fun v22 d2 cQ=> ?_
 obtain ⟨rfl,cC,bp⟩:=cQ
 have bO:=bR.trans bp
 have cY:=bp.az bF aX
 refine nl<|ca<|aB fun cc=>ak fun ce=>p mv<|p (nc aa)<|p (fa wi aa)<|p (ld jR aa<|(aV<|C.at bO).trans aa)<|p (bP pY aa aa)<|p mv<|nl<|ce<|az<|lp (fun ah ac am=> ∃ (i:Nat) (b1:Int),(i≤F.rules.length)∧(Md (fun k=>k=dm) V am)∧(jv am.heap dm<|nr F xs wd<|i)∧(am.heap[ag]? =some (.cells [str wd,.int .i64 0,.int .i64 (-1),.int .i64 (-1),.int .i64 b1].toArray 49 (0,0)))∧(ac 1=str wd)∧(ac 5=aU kb)∧(ac 6=aU ag)∧(ac 26= .slice ar F.rules.length cr)∧(ac 27=aj (F.rules.length))∧(ac 28=aj i)∧(F.rules.length - i=ah)) _ ⟨0,_,ab,bO,(cC.congr Vd),cY,aa,aa,aa,aa,aa,aa,aa⟩ ?_
 rintro ah ac am ⟨i,b1,hi,O,bk,c0,df,dj,dk,dg,dh,di,rfl⟩
 refine fx 1 df<|fx 5 dj<|fx 6 dk<|fx 26 dg<|fx 27 dh<|fx 28 di<|ak fun ch=>p (lt aa aa)<|nl<|ch<|aB fun b5=>cd aa (fun c4=> ?_) fun c4=> ?_
 refine aR<|b5<|aB fun ad=>az<|aB fun aF=> ?_
 obtain ⟨r,J⟩:∃ r,F.rules[i]? =some r:=⟨_,bX ab⟩
 obtain ⟨u,a1⟩:=C.iy J
 have dq:=C.ro u (JM<|fU a1).2
 refine rg aa<|au (aj i)<|p (bc kG aa aa ab<|aG.ok (C.rules O)<|k3 a1)<|p (cE jx aa (aa)<|ic (f:=dG) (m:=7) (fun _=>rfl) (C.rules O) a1)<|e<|dY pc fun ck d6 aQ bz cw=> ?_
 have dX:=bz.size
 refine p (cg (aj i) aa)<|e<|fk na aa aa aa (Ht dq) cw aw fun aA cK cx=> ?_
 have aM:Wk am aA:=bz.md.trans' cK fun q I h=>by omega
 have aQ:bE aA.heap ck (dG (r,u)):=⟨_,cx⟩
 have bT:Md (fun k=>k=dm) V aA:=O.trans' aM fun _ _ h=>h.elim
 have bi:=bk.md aM id
 have bG:=Wk.az aM c0
 refine nl<|aF<|aB fun aH=>ak fun aI=>p (fa tP aa)<|p (ld bH aa<|aQ.bu 0)<|p (gF aa aa)<|nl<|aI<|cd aa (fun hk=> ?_) fun hk=> ?_
 have aT:=Hw (xs:=xs) (wd:=wd) J<|.inl (show r.kind≠1 by have h:=hk; dsimp only at h; omega)
 exact ext<|bj<|be<|ad<|rg aa<|p (bK ((i+1:Nat):Int) aa aa<|bl ab ab)<|p mv<|nl<|tn<|⟨_,ab,i+1,_,ab,bT,(bi.congr aT),bG,aa,aa,aa,aa,aa,aa,aa⟩
 have c6:r.kind=1:=by have h:=hk; dsimp only at h; omega
 refine aR<|aH<|ak fun aJ=>p (cE jx aa (aa) fun q I=>aQ.bu q)<|au (str wd)<|e<|cl zc (BO r u wd aA (A.iy J).2.2.1 (iw A J).2.1 (iw A J).2.2.1 ab) aa fun v39 dt cR=> ?_
 obtain ⟨rfl,aL⟩:=cR
 have bQ:Md (fun k=>k=dm) V dt:=bT.trans' aL fun _ _ h=>h.elim
 have bh:=bi.md aL id
 have bD:=Wk.az aL bG
 refine p mv<|p (xt aa aa)<|p (xt aa aa)<|p aE<|ay<|aJ<|aB fun ae=>rg aa<|p mv<|nl<|ae<|cb aa (fun aS=> ?_) fun aS=> ?_
 obtain ⟨rest,a0⟩:∃ rest,eX r wd=some rest:=me.1<|by simpa using aS
 have dL:=Ii a0
 have dH:=(iw A J).1
 have dJ:r.strip.length≤32:=(A.iy J).2.2.1
 have b0:(eX r wd).getD []=rest:=by rw [a0]; rfl
 have cX:=Vc (xs:=xs) J c6 a0
 refine ak fun aK=>au (aj i)<|p (fa n4 aa)<|e<|bW eZ aa aa (v:=aj i) aa bD (by show 4 < 5; omega) fun a3 bm cp=> ?_
 have bC:a3.heap[ag]? =some (.cells [str wd,.int .i64 0,.int .i64 (-1),.int .i64 (-1),aj i].toArray 49 (0,0)):=cp
 have bN:Md (fun k=>k=dm) V a3:=bQ.trans' bm fun q I h=>by omega
 have cA:=bh.md bm fun h=>aX h.symm
 refine nl<|aK<|rg aa<|au (aU kb)<|p mv<|p (cE kR aa (aa) fun q I=>(lj bC).bu q)<|e<|cl DT (D4 w V B kb tb U F xs ar cr rn fm dm C A wd ((eX r wd).getD []) 0 (i:Nat) (nr F xs wd<|i) a3 bN cA ab<|by rw [b0]; omega) aa fun d0 d3 bA=> ?_
 rw [b0] at bA
 obtain ⟨rfl,cG,br⟩:=bA
 have c9:=bN.trans br
 have cZ:=br.az bC aX
 exact nl<|bn<|ad<|rg aa<|p (bK ((i+1:Nat):Int) aa aa<|bl ab ab)<|p mv<|nl<|tn<|⟨_,ab,i+1,_,ab,c9,(cG.congr cX),cZ,aa,aa,aa,aa,aa,aa,aa⟩
 have aT:=Hw (xs:=xs) (wd:=wd) J<|.inr (show eX r wd=none by simpa using aS)
 exact aR<|bn<|ad<|rg aa<|p (bK ((i+1:Nat):Int) aa aa<|bl ab ab)<|p mv<|nl<|tn<|⟨_,ab,i+1,_,ab,bQ,(bh.congr aT),bD,aa,aa,aa,aa,aa,aa,aa⟩
 refine ext<|bj<|bj<|be<|cc<|ak fun ad=>p aE<|nl<|ad<|aB fun aF=>aB fun aH=> ?_
 obtain rfl :i=F.rules.length:=ab
 obtain ⟨fd,c3,bI,dC⟩:=bk
 refine rg aa<|au (aU kb)<|p (nc aa)<|p (fa Fj aa)<|p (ld CR aa<|(aV<|C.at O).trans aa)<|e<|UT BI c3 aa fun al Z left dF bv cH bL bU bM=> ?_
 have dQ:=bv.size
 have an:Wk w Z:=(a9.trans' O fun k hk h=>by omega).trans bv.md
 have dE:left.length≤2209777459200:=by
  have :=Sz bL bU fun d=>(show d∈fi F xs wd↔_ from AJ.trans<|(Hx d).symm.trans<|(bI d).symm.trans<|F5 bM d)
  exact dS this<|dS (mM _ _) cW
 refine nl<|aH<|az<|lp (fun ah a5 aD=> ∃ (av:List (Value×Value)) (c:List bo) (E:Option Addr) (G:Nat),((left.map gr).Perm<|c.map dP++av.map gr)∧(oJ aD.heap al dm av)∧(bq aD Z.heap.size 49 5 (.slice E c.length G) c.length<|fA c)∧(Md (fun k=>k=al) Z aD)∧(a5 11= .slice E c.length G)∧(a5 54=aU al)∧(av.length=ah)) _ ⟨left,[],none,0,(Jt _),cH,(eh _ _ _ _),(Md.refl _ _),aa,aa,aa⟩ ?_
 rintro ah a5 aD ⟨av,c,E,G,Y,cM,aq,aN,dl,dn,rfl⟩
 refine fx 11 dl<|fx 54 dn<|ak fun aI=>e<|TI cM aa fun dw dr a2 b3 cn co=>p (TJ aa)<|nl<|aI<|aB fun aJ=>cb aa (fun aP=> ?_) fun aP=> ?_
 obtain ⟨aZ,aO,bd⟩:=co aP
 obtain ⟨kx,vx⟩:=dr
 obtain ⟨d,rfl⟩:oV kx:=by
  have h1:kx∈left.map gr:=Y.mem_iff.2<|qh _<|(aZ.map gr).mem_iff.2<|by simp
  obtain ⟨q,I,rfl⟩:=gW.1 h1
  exact bL q I
 have c8:=aZ.length_eq
 have aW:=Y.length_eq
 simp only [bJ,e9,bS] at c8 aW
 refine aR<|aJ<|az<|aB fun ae=> ?_
 have bV:=cD aq aO fun k hk h=>by have :=(da aq hk).1; omega
 refine rg aa<|p (dW bd aa)<|p (xt aa aa)<|e<|dY sI fun cj d1 bB bt cq=> ?_
 have dO:=bt.size
 refine e<|fk rP aa aa aa aa cq aw fun b2 cI cs=> ?_
 have cy:Wk b3 b2:=bt.md.trans' cI fun q I h=>by omega
 have bB:bE b2.heap cj (cT d):=⟨_,cs⟩
 refine nl<|ae<|rg aa<|au (.slice E c.length G)<|p (cE kR aa (aa) fun q I=>bB.bu q)<|e<|pK xu aa aa aa fun dx d5 dz bx cv=> ?_
 have dT:=bx.size
 have ai:=cy.trans bx.md
 refine e<|ap xu (ba bV ai) aa (by have :=ai.size; have :=aO.size; have :=aN.size; omega) aa (aG.gl cv) (aa) (aa) ab ab fun ds a4 db bs dV dB=> ?_
 have bY:bq a4 Z.heap.size 49 5 ds (c++ [d]).length (fA<|c++ [d]):=by rw [show fA (c++ [d])=fA c++cT d from by unfold fA; rw [List.flatMap_append,List.flatMap_singleton],bJ]; exact db
 have aY:=ba bV ai
 have cN:oJ a4.heap al dm a2:=((bd.Tp).md (ai.trans<|Md.refl _ _) id id).md bs (fun h=>by have :=(da aY h).1; have :=O.size; omega) fun h=>by have :=(da aY h).1; have :=O.size; omega
 have cz:Md (fun k=>k=al) Z a4:=(aN.trans aO).trans' (ai.mono (fun _ _ h=>h.elim) |>.trans' bs (fun k hk h=>h)) fun k hk h=>by have :=(da aY h).1; omega
 obtain ⟨ci,cm,rfl⟩:=c5 bY
 have cO:(left.map gr).Perm ((c++ [d]).map dP++a2.map gr):=by
  refine Y.trans ?_
  rw [gV,List.append_assoc]
  exact (aZ.map gr).append_left _
 exact p aE<|nl<|bn<|tn<|⟨_,ab,a2,c++ [d],ci,cm,cO,cN,bY,cz,aa,aa,aa⟩
 obtain ⟨c7,rfl⟩:=cn aP
 refine ext<|bj<|bj<|be<|aF<|aB fun ae=> ?_
 have aW:=Y.length_eq
 simp only [bJ,e9] at aW
 rw [c7,List.map_nil,eu] at Y
 refine rg aa<|au (.slice E c.length G)<|e<|cl MP (Vw Z.heap.size c.length (.slice E c.length G) c b3 aq aa ab) aa fun v64 dv cU=> ?_
 obtain ⟨rfl,a6,bZ,dp,dc,cL⟩:=cU
 refine nl<|ae<|ak fun aK=>au (.slice E c.length G)<|p (cg (.slice E c.length G) aa)<|nl<|aK<|rt<|a8 aa ?_
 have c2:c.Nodup:=by
  have h1:(c.map dP).Nodup:=Y.nodup_iff.1 bU
  exact (yq.1 h1).imp fun h e=>h<|congrArg dP e
 have c1:∀ d,d∈c↔d∈fi F xs wd:=fun d=>by
  have h1:dP d∈left.map gr↔dP d∈c.map dP:=Y.mem_iff
  rw [AJ,← Hx,← bI,F5 bM,h1,gW]
  exact ⟨fun h=>⟨d,h,aa⟩,fun ⟨e,he,hk⟩=>Ar hk ▸ he⟩
 have de:a6.Perm (fi F xs wd):=bZ.trans<|(List.perm_ext_iff_of_nodup c2<|Qf F xs wd).2 c1
 obtain rfl :=ES a6 _ dp (ER F xs wd) (fun d hd=>(AJ.1 hd).2) de
 have dd:∀ n,n=c.length→bq dv Z.heap.size 49 5 (.slice E c.length G) n (fA<|fi F xs wd):=by intro n hn; rw [hn]; exact dc
 exact ⟨fj (dd _ bZ.length_eq) (by have :=an.size; omega),(an.trans' aN fun k hk h=>by have :=an.size; have :=a9.size; have :=O.size; omega).trans' cL fun k hk h=>by have :=(da aq h).1; have :=an.size; omega⟩
end Go.Hb
end
section
namespace Go.Hb.yv
open Go.Hb.td
theorem Pv (l:List bo):(fA l).length=l.length*5:=mu (f:=cT) (m:=5) (fun _=>rfl) l
theorem Pw (l:List bo):(fA l).all eQ=true :=zU (fun _=>rfl) l
noncomputable def ot (F:aC) (xs:List bg) (w:Tx) (most:Int):List bo:=(fi F xs w).take (min most 1000).toNat
theorem Px (l:List bo) (k:Nat):fA (l.take k)=(fA l).take (k*5):=by
 induction l generalizing k with
 | nil=>simp [fA]
 | cons a l c=>
   cases k with
   | zero=>simp [fA]
   | succ k=>
     show cT a++fA (l.take k)=(cT a++fA l).take _
     rw [c,show (k+1)*5=(cT a).length+k*5 by show _=5 +k*5; omega,List.take_length_add_append]
theorem W6 {F:aC} {xs:List bg} {w:Tx} {most:Int} :(fi F xs w).take (max 0<|min (min most 1000) ((fi F xs w).length:Nat)).toNat=ot F xs w most:=by
 unfold ot
 by_cases h:(min most 1000).toNat≤(fi F xs w).length
 · congr 1; omega
 · rw [fu ab,fu ab]
noncomputable def mY (F:aC) (xs:List bg) (w:Tx) (fb:Bool):Bool:=(fi F xs w).any fun d=>decide (l0 F xs d.dW 1=fb)
section
variable {P:Program} {N:Fm} {σ:Nat→Value} {w:World} {dst:Option Nat} {ty:TypeId} {pos :String} {af:Array Edge} {g:Option (Nat×Bool)} {x y z:Operand}
theorem Tn {k:IntKind} {a b c:Int} {at_:Array TypeId} (A:ev N σ x= .int k a) (C:ev N σ y= .int k b) (E:ev N σ z= .int k c):
 (execOp (ev N σ) ⟨dst,.call ⟨.builtin .min,#[x,y,z],at_⟩,ty,pos,af,g⟩).run P w= .ok (.value<|.int k<|min (min a b) c) w:=by
 have h1:(if b < a then b else a)=min a b:=ab
 have h2:(if c < min a b then c else min a b)=min (min a b) c:=ab
 simp [execOp,resolve,invoke,builtin,Builtin.min_,Builtin.min2,A,C,E,h1,h2]
end
theorem A7 {w:World} {B e size n cap:Nat} {xs:List Value} (h:bq w B e size (.slice none n cap) n xs):n=0:=by
 rcases h.2 with ⟨h1,h2⟩ | ⟨g,c,cur,h1,_⟩
 · injection h1 with _ h3 _
 · injection h1 with h2 _ _; cases h2
theorem NF (a:Option Addr) (n c:Nat) (xs:List Value) (w:World) (Y:aG w.heap a xs) (ai:xs.length=n*5) (ad:a=none→n=0) (h1:xs.all eQ=true) (hn:n≤1048576):
 bf ao 31 (a7 [.slice a n c]) w (fun v w'=>bq w' w.heap.size 49 5 v n xs∧Wk w w'):=by
 refine enter func31 aa ntmps31 aa<|ak fun I=>ay<|I<|aB fun J=>ak fun O=>au (.slice a n c)<|p (pN uF aa aa)<|nl<|O<|cb aa (fun E=> ?_) fun E=> ?_
 have ae:a=none:=by simpa using E
 refine ak fun A=>ay<|A<|rt<|tr<|a8 aa ?_
 have ag:=ad ae
 subst ag
 obtain rfl :=gq (show xs.length=0 by omega)
 exact ⟨eh _ _ _ _,Md.refl _ _⟩
 refine aR<|J<|ak fun A=>e<|pJ xu fun an ax aq C V=> ?_
 have G:=V w.heap.size ab
 refine au (.slice a n c)<|e<|ap xu (G) aa (by have :=C.size; omega) aa (Y.wk C.md) (ai) (h1) ab ab fun al am ah ac aw av=> ?_
 have Z:=Wk.own C.md G ac<|cj _
 refine ay<|A<|rt<|a8 aa ?_
 have aj:bq am w.heap.size 49 5 al n xs:=by simpa using ah
 exact ⟨aj,Z⟩
theorem Ir (B tb:Nat) (U:ek) (F:aC) (xs:List bg) (wd:Tx) (most:Int) (w:World) (ah:dK w B tb U F xs) (ac:dU F xs) (ag:F.rules.length≤1024) (al:wd.length≤2097152):
 bf ao 11 (a7 [aU tb,str wd,.int .i64 most]) w (fun v w'=>bq w' w.heap.size 49 5 v (ot F xs wd most).length (fA<|ot F xs wd most)∧Wk w w'):=by
 refine enter func11 aa ntmps11 aa<|ak fun J=>ay<|J<|ak fun O=>p mv<|p mv<|e<|cl DM (HA B tb U F xs wd w ah ac ag al) aa fun v10 am ae=> ?_
 obtain ⟨c,E⟩:=ae
 obtain ⟨Y,Z,rfl⟩:=c5 c
 have aq:=(aY c).1
 obtain ⟨K,A⟩:∃ K:Nat,(max 0 (min (min most 1000) ((fi F xs wd).length:Nat)):Int)=(K:Int):=⟨(max 0 (min (min most 1000) ((fi F xs wd).length:Nat)):Int).toNat,ab⟩
 have C:=W6 (F:=F) (xs:=xs) (w:=wd) (most:=most)
 rw [A,jL] at C
 have ap:K≤(fi F xs wd).length:=ab
 have an:K≤1000:=ab
 have I:(ot F xs wd most).length=K:=by rw [← C,eE]; omega
 refine ay<|O<|ak fun V=>p mv<|p mv<|p mv<|p (bP uF aa aa)<|p (Tn aa aa aa)<|p (mx aa aa)<|p (ux vU aa aa ab)<|e<|cl MG (NF Y (max 0 (min (min most 1000) ((fi F xs wd).length:Nat)):Int).toNat Z (fA<|ot F xs wd most) am (by rw [← C,Px]; exact aG.take (aY c).2 _) (by rw [Pv,I,A,jL]) (fun ai=>by subst ai; have :=A7 c; omega) (Pw _) ab) aa fun au av G=> ?_
 rw [A,jL,← I] at G
 obtain ⟨aj,ad⟩:=G
 exact ay<|V<|rt<|a8 aa<|⟨fj aj (by have :=E.size; omega),E.trans ad⟩
theorem Od (B tb:Nat) (U:ek) (F:aC) (xs:List bg) (d:bo) (fb:Bool) (I J:Nat) (w:World) (ah:dK w B tb U F xs) (ab:dU F xs) (ai:ju w I (some ⟨tb,0,none⟩)) (al:w.heap[J]? =some (.cells [.bool fb].toArray 4 (0,0))):
 bf ao 64 (a7 [.agg (cT d).toArray,aU I,aU J]) w (fun v w'=>v= .bool (decide (l0 F xs d.dW 1=fb))∧Wk w w'):=by
 refine enter func64 aa ntmps64 aa<|ak fun V=>e<|jm aa fun Z A O E ac=> ?_
 have O:bE A.heap Z (cT d):=ac
 have aj:=Wk.az E.md ai
 have am:=Wk.az E.md al
 refine ay<|V<|aB fun Y=> ?_
 have c:(fun w'=>Wk A w') A.drew:=(Md.refl _ _).drew
 refine bR (fun w'=>Wk A w') aa wide c<|aK 0 aa (fun w' C=>ld gM aa<|Wk.aJ C<|(aV aj).trans aa) c<|aK 1 aa (fun _ _=>fa oU aa) c<|aK 2 aa (fun w' C=>ld bH aa<|Wk.aJ C<|O.bu 1) c<|aK 4 aa (fun w' C=>ld jS aa<|Wk.aJ C<|(aV am).trans aa) c<|he 3 aa ag<|cl DF (Gv B tb U F xs (d.dW:Nat) 1 A.drew (ah.wk E.md.drew) ab) aa fun ap an ae=> ?_
 obtain ⟨rfl,ad⟩:=ae
 have G:(fun w'=>Wk A w') an:=c.trans ad
 refine ⟨G,?_⟩
 exact aK 5 aa (fun _ _=>P0 u4 aa aa) G<|aK 6 aa (fun _ _=>aE) G<|hn ag<|Y<|rt<|a8 aa<|⟨aa,E.md.trans G⟩
theorem RO (B tb:Nat) (U:ek) (F:aC) (xs:List bg) (fb:Bool) (C E:Nat) (a:Option Addr) (c:Nat) (L:List bo) (w:World) (av:dK w B tb U F xs) (ap:dU F xs) (aw:ju w C (some ⟨tb,0,none⟩)) (ax:w.heap[E]? =some (.cells [.bool fb].toArray 4 (0,0))) (Y:aG w.heap a (fA L)) (aJ:L.length≤4000000000000):
 bf ao 113 (a7 [.slice a L.length c,.func (.func 64) #[] #[aU C,aU E]]) w (fun v w'=>(∃ k:Int,v= .int .i64 k∧(0≤k↔(L.any fun d=>decide (l0 F xs d.dW 1=fb))=true))∧Wk w w'):=by
 refine enter func113 aa ntmps113 aa<|ak fun ad=>ay<|ad<|aB fun ae=>ak fun ag=>p mv<|p (bP uF aa aa)<|p mv<|nl<|ag<|az<|lp (fun V I O=> ∃ (i:Nat),(i≤L.length)∧(∀ j d,j < i→L[j]? =some d→¬(l0 F xs d.dW 1=fb))∧(Wk w O)∧(I 0= .slice a L.length c)∧(I 1= .func (.func 64) #[] #[aU C,aU E])∧(I 7=aj (L.length))∧(I 8=aj i)∧(L.length - i=V)) _ ⟨0,ab,(fun j d G=>by omega),(Md.refl _ _),aa,aa,aa,aa,aa⟩ ?_
 rintro V I O ⟨i,hi,ac,A,aD,aF,aH,aI,rfl⟩
 refine fx 0 aD<|fx 1 aF<|fx 7 aH<|fx 8 aI<|ak fun ah=>p (lt aa aa)<|nl<|ah<|aB fun ai=>cd aa (fun aA=> ?_) fun aA=> ?_
 refine aR<|ai<|aB fun J=>az<|ak fun al=>au (aj i)<|p (cg (aj i) aa)<|nl<|al<|aB fun am=> ?_
 obtain ⟨d,hd⟩:∃ d,L[i]? =some d:=⟨_,bX ab⟩
 refine rg aa<|au (.func (.func 64) #[] #[aU C,aU E])<|au (.slice a L.length c)<|au (aj i)<|p (bc vU aa aa ab<|aG.ok (Y.wk A)<|zz ab)<|p (cE kR aa (aa)<|ic (f:=cT) (m:=5) (fun _=>rfl) (Y.wk A) hd)<|e<|N3 MS aa (Od B tb U F xs d fb C E O (av.wk A) ap (Wk.az A aw)<|Wk.az A ax) aa fun aK aL aq=> ?_
 obtain ⟨rfl,Z⟩:=aq
 refine nl<|am<|cb aa (fun hm=> ?_) fun hm=> ?_
 exact ak fun an=>au (aj i)<|p (cg (aj i) aa)<|nl<|an<|rt<|br<|tr<|tr<|br<|tr<|a8 aa<|⟨⟨(i:Nat),aa,fun _=>ya.2 ⟨d,fU hd,decide_eq_true<|of_decide_eq_true hm⟩,fun _=>by omega⟩,A.trans Z⟩
 exact aR<|bn<|J<|rg aa<|p (bK ((i+1:Nat):Int) aa aa<|bl ab ab)<|p mv<|nl<|tn<|⟨_,ab,i+1,ab,(fun j e G he=>by rcases nS.1 G with h | rfl; exact ac j e h he; rw [hd] at he; cases he; exact of_decide_eq_false hm),(A.trans Z),aa,aa,aa,aa,aa⟩
 exact ext<|bj<|bj<|be<|ae<|ak fun J=>p aE<|nl<|J<|rt<|a8 aa<|⟨⟨-1,aa,fun h=>absurd h ab,fun h=>by obtain ⟨d,hd,h1⟩:=ya.1 h; obtain ⟨j,G⟩:=List.getElem?_of_mem hd; exact absurd (of_decide_eq_true h1)<|ac j d (by have :=(eR.1 G).1; omega) G⟩,A⟩
theorem Ol (B tb:Nat) (U:ek) (F:aC) (xs:List bg) (fb:Bool) (A C:Nat) (a:Option Addr) (c:Nat) (L:List bo) (w:World) (Y:dK w B tb U F xs) (I:dU F xs) (Z:ju w A (some ⟨tb,0,none⟩)) (ab:w.heap[C]? =some (.cells [.bool fb].toArray 4 (0,0))) (J:aG w.heap a (fA L)) (O:L.length≤4000000000000):
 bf ao 63 (a7 [.slice a L.length c,.func (.func 64) #[] #[aU A,aU C]]) w (fun v w'=>v= .bool (L.any fun d=>decide (l0 F xs d.dW 1=fb))∧Wk w w'):=by
 refine enter func63 aa ntmps63 aa<|ak fun E=>ay<|E<|ak fun G=>p mv<|p mv<|e<|cl LD (RO B tb U F xs fb A C a c L w Y I Z ab J O) aa fun ae ag V=> ?_
 obtain ⟨⟨ad,rfl,ac⟩,hE7⟩:=V
 exact p (ge aa aa)<|ay<|G<|rt<|a8 aa<|⟨by show bU (decide (ad≥0))=_; exact congrArg bU (by rw [Bool.eq_iff_iff,decide_eq_true_iff]; exact ac),hE7⟩
theorem Eh (B tb:Nat) (U:ek) (F:aC) (xs:List bg) (wd:Tx) (fb:Bool) (w:World) (J:dK w B tb U F xs) (A:dU F xs) (I:F.rules.length≤1024) (ap:wd.length≤2097152):
 bf ao 33 (a7 [aU tb,str wd,.bool fb]) w (fun v w'=>v= .bool (mY F xs wd fb)∧Wk w w'):=by
 refine enter func33 aa ntmps33 aa<|ak fun V=>e<|rJ aa aa fun ac aB av aj ag=>e<|rJ aa aa fun ad aq aw G ah=> ?_
 have E:=Wk.az G.md ag
 have C:=aj.md.trans G.md
 refine ay<|V<|ak fun Y=>p (ld gM aa<|(aV E).trans aa)<|p mv<|e<|cl DM (HA B tb U F xs wd aq (J.wk C) A I ap) aa fun v9 au am=> ?_
 obtain ⟨O,c⟩:=am
 obtain ⟨Z,ae,rfl⟩:=c5 O
 have an:=C0 I A.xl
 have ax:(fi F xs wd).length≤2209777459200:=dS (mM _ _) an
 refine p AL<|e<|cl MR (Ol B tb U F xs fb ac ad Z ae (fi F xs wd) au (J.wk<|C.trans c) A (Wk.az c E) (Wk.az c ah) (aY O).2 ab) aa fun v11 aA al=> ?_
 obtain ⟨rfl,ai⟩:=al
 exact ay<|Y<|rt<|a8 aa<|⟨aa,(C.trans c).trans ai⟩
theorem KN (B tb:Nat) (U:ek) (F:aC) (xs:List bg) (wd:Tx) (w:World) (J:dK w B tb U F xs) (C:dU F xs) (G:F.rules.length≤1024) (O:wd.length≤2097152):
 bf ao 14 (a7 [aU tb,str wd]) w (fun v w'=>v= .bool (mY F xs wd false)∧Wk w w'):=by
 refine enter func14 aa ntmps14 aa<|ak fun c=>ay<|c<|ak fun A=>p mv<|p mv<|e<|cl DP (Eh B tb U F xs wd false w J C G O) aa fun V Y I=> ?_
 obtain ⟨rfl,E⟩:=I
 exact ay<|A<|rt<|a8 aa<|⟨aa,E⟩
theorem QU (B tb:Nat) (U:ek) (F:aC) (xs:List bg) (wd:Tx) (w:World) (J:dK w B tb U F xs) (C:dU F xs) (G:F.rules.length≤1024) (O:wd.length≤2097152):
 bf ao 15 (a7 [aU tb,str wd]) w (fun v w'=>v= .bool (mY F xs wd true)∧Wk w w'):=by
 refine enter func15 aa ntmps15 aa<|ak fun c=>ay<|c<|ak fun A=>p mv<|p mv<|e<|cl DP (Eh B tb U F xs wd true w J C G O) aa fun V Y I=> ?_
 obtain ⟨rfl,E⟩:=I
 exact ay<|A<|rt<|a8 aa<|⟨aa,E⟩
theorem CN (B tb:Nat) (U:ek) (F:aC) (xs:List bg) (wd:Tx) (w:World) (I:dK w B tb U F xs) (E:dU F xs) (G:F.rules.length≤1024) (J:wd.length≤2097152):
 bf ao 16 (a7 [aU tb,str wd]) w (fun v w'=>v= .bool (mY F xs wd false && !mY F xs wd true)∧Wk w w'):=by
 refine enter func16 aa ntmps16 aa<|ak fun O=>ay<|O<|ak fun C=>p mv<|p mv<|e<|cl LN (KN B tb U F xs wd w I E G J) aa fun ac ab Z=> ?_
 obtain ⟨rfl,c⟩:=Z
 refine p mv<|gb (t:=8) aa (fun A=> ?_) fun A=> ?_
 refine a6 aa mv<|a6 aa mv<|eg aa aa aa<|cl tv (QU B tb U F xs wd ab (I.wk c) E G J) aa fun v11 ad Y=> ?_
 obtain ⟨rfl,V⟩:=Y
 exact a6 aa (no aa)<|p (bO aa)<|ay<|C<|rt<|a8 aa<|⟨by rw [A]; rfl,c.trans V⟩
 exact aT aa<|aT aa<|aT aa<|aT aa<|p (bG aa)<|ay<|C<|rt<|a8 aa<|⟨by rw [A]; rfl,c⟩
end Go.Hb.yv
end
section
namespace Go.Hb
open Go.Hb.td Go.Hb.yv
theorem Rz {eof ln:Nat} {F F':aC} {hs:List Tx} {rows rows':List Rw} {row:List Tx} (c:ca eof F hs rows ln row= .ok (F',rows')):F'.rules=F.rules∨F'.rules.length≤1024:=by
 unfold ca at c
 split at c
 · unfold j0 at c; split at c <;> cases c; exact .inl rfl
 split at c
 · unfold kJ at c
   split at c
   · cases c
   · split at c <;> cases c; exact .inl rfl
 split at c
 · unfold mD at c; split at c <;> cases c; exact .inl rfl
 split at c
 · unfold mE at c; split at c <;> cases c; exact .inl rfl
 split at c
 · unfold kK at c
   split at c
   · cases c
   · split at c <;> cases c; exact .inl rfl
 split at c
 · unfold kN at c
   split at c
   · cases c
   · split at c <;> cases c; exact .inl rfl
 split at c
 · unfold kh at c
   split at c
   · cases c
   · split at c
     · cases c
     · split at c <;> cases c; exact .inl rfl
 unfold hZ at c
 split at c
 · cases c
 split at c
 · cases c
 split at c
 · cases c
 split at c
 · cases c
 split at c
 · cases c
 rename_i r A
 cases c
 have h1:=(tZ _ _ _ A).2.1
 refine .inr ?_
 rw [bJ]
 omega
theorem Ky {s:Tx} {F:aC} (h:fW s= .ok F):F.rules.length≤1024:=by
 refine yz (Q:=fun F=>F.rules.length≤1024) (ku _) ?_ h
 intro eof ln F F' hs rows rows' row c A
 rcases Rz A with h | h
 · rw [h]; exact c
 · exact h
theorem Wc {a t:Tx} {T:aC×List bg} (h:k6 a t=some T):T.1.rules.length≤1024:=by
 unfold k6 at h
 split at h
 · cases h
 · rename_i F c
   split at h
   · cases h
   · cases h; exact Ky c
theorem WZ:k6 sB xL=some (fT,ig):=HW WO WT
theorem Il:c4 fT ig ig.length= [⟨[103,97,115],0,-1,-1,-1⟩,⟨[103,97],1,-1,-1,-1⟩,⟨[103,97,115],1,0,-1,-1⟩]:=by
 unfold c4
 rw [show fM ig.length= [0,1] by rfl,jt,jt,List.flatMap_nil,WR,WS]
 rfl
theorem Im:fi fT ig [103,97,115]=xM:=by unfold fi; rw [Il]; decide
theorem WU:fi fT ig [103]= []:=by unfold fi; rw [Il]; decide
theorem W0:ot fT ig [103,97,115] 9=xM:=by unfold ot; rw [Im]; rfl
theorem WN:(mY fT ig [103,97,115] false && !mY fT ig [103,97,115] true)=true :=by unfold mY; rw [Im]; decide
theorem WV:(mY fT ig [103] false && !mY fT ig [103] true)=false :=by unfold mY; rw [WU]; rfl
theorem BS (w:World):
 bf ao 10 (a7 []) w (fun v w'=>v= .bool true∧Wk w w'):=by
 refine enter func10 aa ntmps10 aa<|ak fun ad=>ay<|ad<|ak fun ae=>e<|cl qv (xF sB xL w aw aw) aa fun v5 az ap=> ?_
 obtain ⟨⟨pp,aN,aO,aP,rfl,ac⟩,hE5⟩:=ap
 rw [WZ] at ac
 obtain ⟨B,tb,U,aF,rfl,au,A⟩:=ac
 refine p mv<|p (xt aa aa)<|p (xt aa aa)<|e<|al nB fun aB aR aH C ai=> ?_
 have aM:=C.size
 refine p aE<|e<|dd iP aa aa aa aa (ai) (by simp) fun G O aD=> ?_
 have aj:Wk w G:=(hE5.trans C.md).trans' O fun q av h=>by have :=hE5.size; omega
 have am:Wk az G:=C.md.trans' O fun q av h=>by omega
 have ab:=au.wk am
 have E:fT.rules.length≤1024:=aw
 refine nl<|ae<|ak fun ag=>p mv<|e<|cl ll (Ir B tb U fT ig [103,97,115] 9 G ab A E aw) aa fun v9 aA aq=> ?_
 obtain ⟨c,J⟩:=aq
 rw [W0] at c
 obtain ⟨a9,aC,rfl⟩:=c5 c
 have Z:=ab.wk J
 refine ay<|ag<|ak fun ah=>p mv<|p (bP uF aa aa)<|p (cx aa aa)<|p mv<|gs (t:=13) aa (fun aI=> ?_) fun h=>absurd aa h
 refine a6 aa mv<|a6 aa (bc vU aa aa aw<|aG.ok (xc c)<|zz aw)<|a6 aa (fa oU aa)<|a6 aa (ld bH aa<|ic (f:=cT) (m:=5) (i:=0) (fun _=>rfl) (xc c) (show xM[0]? =some ⟨[103,97,115],0,-1,-1,-1⟩ from aa) 1 aw)<|a6 aa (cx aa aa)<|p (bO aa)<|p mv<|gs (t:=20) aa (fun aJ=> ?_) fun h=>absurd aa h
 refine a6 aa mv<|a6 aa (bc vU aa aa aw<|aG.ok (xc c)<|zz aw)<|a6 aa (cE kR aa (aa)<|ic (f:=cT) (m:=5) (i:=1) (fun _=>rfl) (xc c) (show xM[1]? =some ⟨[103,97,115],1,0,-1,-1⟩ from aa))<|a6 aa (du (ps:= [(0,str [103,97,115]),(1,.int .i64 1),(2,.int .i64 0),(3,.int .i64 (-1)),(4,.int .i64 (-1))]) (L:= [str [103,97,115],.int .i64 1,.int .i64 0,.int .i64 (-1),.int .i64 (-1)]) xz aa<|aa)<|a6 aa (PX aa aa)<|p (bO aa)<|p mv<|gs (t:=27) aa (fun aK=> ?_) fun h=>absurd ⟨aa,aa,aa,aa,aa⟩ h
 refine a6 aa mv<|eg aa aa aa<|cl Dr (CN B tb U fT ig [103,97,115] aA Z A E aw) aa fun aQ ax V=> ?_
 rw [WN] at V
 obtain ⟨rfl,I⟩:=V
 refine p (bO aa)<|p mv<|gb (t:=31) aa (fun aL=> ?_) fun h=>absurd ((aa).symm.trans h) c7
 refine a6 aa mv<|eg aa aa aa<|cl Dr (CN B tb U fT ig [103] ax (Z.wk I) A E aw) aa fun v33 aS Y=> ?_
 rw [WV] at Y
 obtain ⟨rfl,an⟩:=Y
 exact a6 aa (no aa)<|p (bO aa)<|ay<|ah<|rt<|a8 aa<|⟨aa,((aj.trans J).trans I).trans an⟩
end Go.Hb
end
section
namespace Go.Hb
open Go.Hb.s9 Go.Hb.td Go.Hb.yv
def cY (l:List bo):List Tx:=l.foldl (fun S d=>if d.cy∈S then S else S++ [d.cy]) []
theorem HD (l:List bo) (x:bo):cY (l++ [x])=if x.cy∈cY l then cY l else cY l++ [x.cy]:=by unfold cY; rw [List.foldl_append]; rfl
theorem HC {l:List bo} {x:bo} (h:x.cy∈cY l):cY (l++ [x])=cY l:=by rw [HD,if_pos h]
theorem HB {l:List bo} {x:bo} (h:x.cy∉cY l):cY (l++ [x])=cY l++ [x.cy]:=by rw [HD,if_neg h]
theorem Vu {α:Type} {Q:List α→Prop} (A:Q []) (h1:∀ l x,Q l→Q (l++ [x])) (l:List α):Q l:=by
 have h:∀ n (l:List α),l.length=n→Q l:=by
  intro n
  induction n with
  | zero=>intro l c; rw [gq c]; exact A
  | succ n E=>
    intro l c
    have C:l≠[]:=fun h=>by subst h; cases c
    rw [← List.dropLast_concat_getLast C]
    exact h1 _ _<|E _<|by rw [List.length_dropLast]; omega
 exact h _ l aa
theorem Bq (l:List bo):(cY l).Nodup∧(cY l).length≤l.length∧∀ d∈l,d.cy∈cY l:=by
 refine Vu (Q:=fun l=>(cY l).Nodup∧(cY l).length≤l.length∧∀ d∈l,d.cy∈cY l) ⟨JL,cj _,fun _ h=>by cases h⟩ (fun l x ⟨h1,h2,h3⟩=> ?_) l
 by_cases c:x.cy∈cY l
 · rw [HC c]
   refine ⟨h1,by rw [bJ]; omega,fun d hd=> ?_⟩
   rcases iW.1 hd with hd | hd
   · exact h3 d hd
   · rw [gK.1 hd]; exact c
 · rw [HB c]
   refine ⟨rh.2 ⟨h1,ri.2 ⟨(fun h=>by cases h),JL⟩,fun a A b C e=>c<|by rw [← gK.1 C,← e]; exact A⟩,by rw [bJ,bJ]; exact Nat.add_le_add_right h2 1,fun d hd=> ?_⟩
   rcases iW.1 hd with hd | hd
   · exact sW _<|h3 d hd
   · rw [gK.1 hd]; exact qh _<|gK.2 rfl
noncomputable def lu (F:aC) (xs:List bg) (S:List Tx):Nat:=(S.map fun s=>(fi F xs s).length).sum
theorem Ob (F:aC) (xs:List bg) (S:List Tx) (s:Tx):lu F xs (S++ [s])=lu F xs S+(fi F xs s).length:=by unfold lu; simp
theorem Eg {F:aC} {xs:List bg} {m:Nat} (h:(c4 F xs xs.length).length≤m):∀ S:List Tx,lu F xs S≤S.length*m
 | []=>ku _
 | s::S=>by
   have h1:=Eg h S
   have h2:(fi F xs s).length≤m:=dS (mM _ _) h
   unfold lu at h1 ⊢
   rw [mO,ys,bS,nT]; omega
theorem HV (c:Tx) (g:Tx→Nat):∀ S:List Tx,S.Nodup→c∈S→(S.map fun s=>(if c=s then 1 else 0)+g s).sum=1 +(S.map g).sum
 | [],_,h=>by cases h
 | s::S,hn,hm=>by
   rw [ri] at hn
   rw [mO,mO,ys,ys]
   by_cases hs:c=s
   · subst hs
     have C:∀ T:List Tx,c∉T→(T.map fun s=>(if c=s then 1 else 0)+g s).sum=(T.map g).sum:=by
      intro T A
      congr 1
      refine JF fun s hs=> ?_
      rw [if_neg (fun e=>by subst e; exact A hs),fN]
     rw [if_pos rfl,C S hn.1]; omega
   · rw [if_neg hs,HV c g S hn.2 ((ew.1 hm).resolve_left hs)]; omega
theorem G5 (S:List Tx) (hn:S.Nodup):∀ L:List bo,(∀ d∈L,d.cy∈S)→(S.map fun s=>(L.filter fun d=>decide (d.cy=s)).length).sum=L.length
 | [],_=>by
   have :∀ T:List Tx,(T.map fun _=>0).sum=0:=fun T=>by
    induction T with
    | nil=>rfl
    | cons a T c=>rw [mO,ys,c]
   exact this S
 | d::L,h=>by
   have c:=G5 S hn L fun e he=>h e<|nM _ he
   have A:(S.map fun s=>((d::L).filter fun d=>decide (d.cy=s)).length)=S.map fun s=>(if d.cy=s then 1 else 0)+(L.filter fun d=>decide (d.cy=s)).length:=by
    refine JF fun s _=> ?_
    rw [pA]
    by_cases hs:d.cy=s
    · rw [if_pos (decide_eq_true hs),if_pos hs,bS]; omega
    · rw [if_neg (by simpa using hs),if_neg hs]; omega
   rw [A,HV d.cy _ S hn (h d<|nN ..),c,bS]; omega
theorem Oa (F:aC) (xs:List bg):lu F xs (cY<|c4 F xs xs.length)=(c4 F xs xs.length).length:=by
 obtain ⟨h1,_,h3⟩:=Bq<|c4 F xs xs.length
 exact G5 _ h1 _ h3
theorem W5 {F:aC} {xs:List bg} {s:Tx} (h:(c4 F xs xs.length).length≤300):ot F xs s 1000=fi F xs s:=by
 have h2:(fi F xs s).length≤300:=dS (mM _ _) h
 unfold ot; exact fu ab
theorem GB {L:List bo} {m:Int} (h:(jX L m).2.2=true):(jX L m).1=(L.length:Nat):=by
 unfold jX at*
 split at h
 · cases h
 · rename_i h2; rw [if_neg h2]
theorem RK {S:List Tx} {s:Tx} {k:Nat} (h:decide (s∈S.take k)=true):true =decide (s∈S.take (k+1)):=by
 refine (decide_eq_true ?_).symm
 rw [JP]; exact sW _<|of_decide_eq_true h
theorem RJ {S:List Tx} {s u:Tx} {k:Nat} (h:decide (s∈S.take k)=false) (hu:S[k]? =some u):decide (u=s)=decide (s∈S.take (k+1)):=by
 refine decide_eq_decide.2 ?_
 rw [JP,hu]
 constructor
 · rintro rfl; exact qh _<|by simp
 · intro hm
   rcases iW.1 hm with hm | hm
   · exact absurd hm<|of_decide_eq_false h
   · simpa using (show s=u by simpa using hm).symm
theorem Ox (a t:Tx) (w:World) (ay:a.length≤1048576) (aD:t.length≤1048576) (aF:k6 a t=none):
 bf ao 8 (a7 [str a,str t]) w (fun v w'=>v= .bool true∧Wk w w'):=by
 refine qA [] func8 aa ntmps8 aa ?_
 refine cG<|cV<|rg aa<|e<|dY uK fun aL aI aO V ag=> ?_
 have a0:=V.size
 refine nl<|cK<|cG<|cG<|cV<|rg aa<|e<|cl kU (BS aI) aa fun a6 aG au=> ?_
 obtain ⟨rfl,C⟩:=au
 have aU:=C.size
 have aA:=Wk.az C ag
 refine p (no aa)<|nl<|cK<|cV<|cf (aa)<|aR<|cK<|cG<|cV<|rg aa<|p mv<|p mv<|e<|cl qv (xF a t aG ay aD) aa fun v21 aH av=> ?_
 obtain ⟨⟨pp,a3,a4,a5,rfl,A⟩,hE21⟩:=av
 rw [aF] at A
 have aW:=hE21.size
 have A:pp=none:=A
 subst A
 refine p mv<|p (xt aa aa)<|p (xt aa aa)<|e<|dY BY fun ad ba aP Y ah=> ?_
 have a1:=Y.size
 refine e<|dY nB fun aM bb aQ I ai=> ?_
 have a2:=I.size
 refine e<|bW zq aa aa (v:= .pointer none) aa (Wk.az I.md ah) (by simp) fun a9 G ae=> ?_
 have aZ:=G.size
 have aj:=G.az ai fun h=>by omega
 refine e<|fk iP aa aa aa aa aj aw fun J E aN=> ?_
 have aY:=E.size
 have O:Wk aH J:=((Y.md.trans I.md).trans' G fun q ac h=>by omega).trans' E fun q ac h=>by omega
 have am:=((V.md.trans C).trans hE21).trans O
 have ab:J.heap[ad]? =some (.cells [.pointer none].toArray 24 (0,0)):=E.az ae fun h=>by omega
 have aC:=Wk.az (hE21.trans O) aA
 refine nl<|cK<|cG<|cV<|rg aa<|p (ld gM aa<|(aV ab).trans aa)<|e<|cl y6 (S8 4000 J) aa fun v26 a8 ax=> ?_
 obtain ⟨rfl,c⟩:=ax
 have aX:=c.size
 have al:=am.trans c
 have Z:=Wk.az c ab
 have aB:=Wk.az c aC
 refine p mv<|p (xt aa aa)<|p (xt aa aa)<|p (xt aa aa)<|p aE<|p aE<|p aE<|nl<|cK<|cG<|cG<|cV<|rg aa<|p (ld gM aa<|(aV Z).trans aa)<|p (iZ nz aa aa)<|p mv<|gb (t:=32) aa (fun aS=> ?_) fun h=>absurd ((aa).symm.trans h) c7
 refine sk aa aa aa aa<|sk aa aa aa aa<|p (bO aa)<|p mv<|sk aa aa aa aa<|sk aa aa aa aa<|p (bO aa)<|nl<|cK<|cV<|ct aa<|sq fun aK ap=>rg aa<|p (ld gM aa<|(aV Z).trans aa)<|p (iZ nz aa aa)<|p mv<|gb (t:=42) aa (fun aT=> ?_) fun h=>absurd ((aa).symm.trans h) c7
 refine sk aa aa aa aa<|sk aa aa aa aa<|p (bO aa)<|p mv<|sk aa aa aa aa<|sk aa aa aa aa<|p (bO aa)<|e<|bW nb aa aa (v:= .bool true) aa aB (by simp) fun aJ aq ak=> ?_
 have an:Wk w aJ:=al.trans' aq fun q ac h=>by omega
 refine nl<|tn<|ap _ _<|rt<|prt<|zI aa (gR aa jS<|(aV ak).trans aa) ?_
 exact ⟨aa,an⟩
theorem Ov (a t:Tx) (w:World) (aK:a.length≤1048576) (aP:t.length≤1048576) (F:aC) (xs:List bg) (aQ:k6 a t=some (F,xs)) (an:¬((jX (c4 F xs xs.length) 4000).2.2=true∧(jX (c4 F xs xs.length) 4000).1≤300)):
 bf ao 8 (a7 [str a,str t]) w (fun v w'=>v= .bool true∧Wk w w'):=by
 refine qA [] func8 aa ntmps8 aa ?_
 refine cG<|cV<|rg aa<|e<|dY uK fun aU aT aZ aj ay=> ?_
 have ba:=aj.size
 refine nl<|cK<|cG<|cG<|cV<|rg aa<|e<|cl kU (BS aT) aa fun bj aS aG=> ?_
 obtain ⟨rfl,G⟩:=aG
 have a4:=G.size
 have aL:=Wk.az G ay
 refine p (no aa)<|nl<|cK<|cV<|cf (aa)<|aR<|cK<|cG<|cV<|rg aa<|p mv<|p mv<|e<|cl qv (xF a t aS aK aP) aa fun v21 aq aH=> ?_
 obtain ⟨⟨pp,bd,bh,bi,rfl,ap⟩,hE21⟩:=aH
 rw [aQ] at ap
 have a5:=hE21.size
 obtain ⟨B,tb,U,aY,rfl,ac,C⟩:=ap
 have ac:dK aq B tb U F xs:=ac
 have C:dU F xs:=C
 refine p mv<|p (xt aa aa)<|p (xt aa aa)<|e<|dY BY fun av bm a0 ak aA=> ?_
 have bb:=ak.size
 refine e<|dY nB fun aW bn a1 ab aB=> ?_
 have bc:=ab.size
 refine e<|bW zq aa aa (v:= .pointer<|some ⟨tb,0,none⟩) aa (Wk.az ab.md aA) (by simp) fun bl Y ax=> ?_
 have a9:=Y.size
 have aD:=Y.az aB fun h=>by omega
 refine e<|fk iP aa aa aa aa aD aw fun ag V aX=> ?_
 have a8:=V.size
 have I:Wk aq ag:=((ak.md.trans ab.md).trans' Y fun q ae h=>by omega).trans' V fun q ae h=>by omega
 have aF:=((aj.md.trans G).trans hE21).trans I
 have am:ag.heap[av]? =some (.cells [.pointer (some ⟨tb,0,none⟩)].toArray 24 (0,0)):=V.az ax fun h=>by omega
 have aM:=Wk.az (hE21.trans I) aL
 have aJ:=ac.wk I
 refine nl<|cK<|cG<|cV<|rg aa<|p (ld gM aa<|(aV am).trans aa)<|e<|cl y6 (GC B tb U F xs 4000 ag aJ C) aa fun v26 bk aI=> ?_
 obtain ⟨rfl,A⟩:=aI
 have a6:=A.size
 have ai:=aF.trans A
 have ad:=Wk.az A am
 have al:=Wk.az A aM
 refine p mv<|p (xt aa aa)<|p (xt aa aa)<|p (xt aa aa)<|p aE<|p aE<|p aE<|nl<|cK<|cG<|cG<|cV<|rg aa<|p (ld gM aa<|(aV ad).trans aa)<|p (iZ nz aa aa)<|p mv<|gb (t:=32) aa (fun h=>absurd (h.symm.trans<|aa) c7) fun a3=>pg aa aa aa mv<|pg aa aa aa (no aa)<|p (bG aa)<|p mv<|gb (t:=36) aa (fun c=> ?_) fun c=> ?_
 refine sk aa aa aa aa<|sk aa aa aa aa<|p (bO aa)<|nl<|cK<|cV<|ct aa<|sq fun au O=>rg aa<|p (ld gM aa<|(aV ad).trans aa)<|p (iZ nz aa aa)<|p mv<|gb (t:=42) aa (fun h=>absurd (h.symm.trans<|aa) c7) fun aN=>pg aa aa aa mv<|pg aa aa aa (no aa)<|p (bG aa)<|p mv<|gb (t:=46) aa (fun aO=> ?_) fun h=>absurd ((c).symm.trans h) c7
 refine sk aa aa aa aa<|sk aa aa aa aa<|p (bO aa)<|e<|bW nb aa aa (v:= .bool true) aa al (by simp) fun ah Z E=> ?_
 have J:Wk w ah:=ai.trans' Z fun q ae h=>by omega
 refine nl<|tn<|O _ _<|rt<|prt<|zI aa (gR aa jS<|(aV E).trans aa) ?_
 exact ⟨aa,J⟩
 refine pg aa aa aa mv<|pg aa aa aa (gt aa aa)<|p (bG aa)<|nl<|cK<|cV<|cd aa (fun a2=> ?_) fun h=>absurd (Int.not_le.1 fun h=>an ⟨by simpa using c,h⟩) h
 refine sq fun au O=>rg aa<|p (ld gM aa<|(aV ad).trans aa)<|p (iZ nz aa aa)<|p mv<|gb (t:=42) aa (fun h=>absurd (h.symm.trans<|aa) c7) fun aN=>pg aa aa aa mv<|pg aa aa aa (no aa)<|p (bG aa)<|p mv<|gb (t:=46) aa (fun h=>absurd (h.symm.trans<|c) c7) fun aO=>pg aa aa aa mv<|pg aa aa aa (gt aa aa)<|p (bG aa)<|e<|bW nb aa (congrArg bU<|decide_eq_true<|Int.not_le.1 fun h=>an ⟨by simpa using c,h⟩) (v:= .bool true) aa al (by simp) fun ah Z E=> ?_
 have J:Wk w ah:=ai.trans' Z fun q ae h=>by omega
 refine nl<|tn<|O _ _<|rt<|prt<|zI aa (gR aa jS<|(aV E).trans aa) ?_
 exact ⟨aa,J⟩
theorem Ow (a t:Tx) (w:World) (cP:a.length≤1048576) (dy:t.length≤1048576) (F:aC) (xs:List bg) (b1:k6 a t=some (F,xs)) (bb:(jX (c4 F xs xs.length) 4000).2.2=true) (hn:(jX (c4 F xs xs.length) 4000).1≤300):
 bf ao 8 (a7 [str a,str t]) w (fun v w'=>v= .bool true∧Wk w w'):=by
 have cM:F.rules.length≤1024:=Wc b1
 have a9:(c4 F xs xs.length).length≤300:=by rw [GB bb] at hn; omega
 refine qA [] func8 aa ntmps8 aa ?_
 refine cG<|cV<|rg aa<|e<|dY uK fun b8 dE d0 bz ck=> ?_
 have eo:=bz.size
 refine nl<|cK<|cG<|cG<|cV<|rg aa<|e<|cl kU (BS dE) aa fun eA dC cI=> ?_
 obtain ⟨rfl,aN⟩:=cI
 have ei:=aN.size
 have c1:=Wk.az aN ck
 refine p (no aa)<|nl<|cK<|cV<|cf (aa)<|aR<|cK<|cG<|cV<|rg aa<|p mv<|p mv<|e<|cl qv (xF a t dC cP dy) aa fun v21 b2 cJ=> ?_
 obtain ⟨⟨pp,ex,ey,ez,rfl,bV⟩,hE21⟩:=cJ
 rw [b1] at bV
 have ek:=hE21.size
 obtain ⟨B,tb,U,dT,rfl,a1,ai⟩:=bV
 have a1:dK b2 B tb U F xs:=a1
 have ai:dU F xs:=ai
 refine p mv<|p (xt aa aa)<|p (xt aa aa)<|e<|dY BY fun bp eJ d1 bA cm=> ?_
 have ep:=bA.size
 refine e<|dY nB fun dN eL d2 a0 co=> ?_
 have es:=a0.size
 refine e<|bW zq aa aa (v:= .pointer<|some ⟨tb,0,none⟩) aa (Wk.az a0.md cm) (by simp) fun eI aW ci=> ?_
 have en:=aW.size
 have cp:=aW.az co fun h=>by omega
 refine e<|fk iP aa aa aa aa cp aw fun bi aU dR=> ?_
 have em:=aU.size
 have aP:Wk b2 bi:=((bA.md.trans a0.md).trans' aW fun q ay h=>by omega).trans' aU fun q ay h=>by omega
 have cv:=((bz.md.trans aN).trans hE21).trans aP
 have bL:bi.heap[bp]? =some (.cells [.pointer (some ⟨tb,0,none⟩)].toArray 24 (0,0)):=aU.az ci fun h=>by omega
 have c2:=Wk.az (hE21.trans aP) c1
 have bE:=a1.wk aP
 refine nl<|cK<|cG<|cV<|rg aa<|p (ld gM aa<|(aV bL).trans aa)<|e<|cl y6 (GC B tb U F xs 4000 bi bE ai) aa fun v26 ad cL=> ?_
 obtain ⟨rfl,an⟩:=cL
 have el:=an.size
 have cu:=cv.trans an
 have a5:=Wk.az an bL
 have bI:=Wk.az an c2
 have bD:=bE.wk an
 refine p mv<|p (xt aa aa)<|p (xt aa aa)<|p (xt aa aa)<|p aE<|p aE<|p aE<|nl<|cK<|cG<|cG<|cV<|rg aa<|p (ld gM aa<|(aV a5).trans aa)<|p (iZ nz aa aa)<|p mv<|gb (t:=32) aa (fun h=>absurd (h.symm.trans<|aa) c7) fun ea=>pg aa aa aa mv<|pg aa aa aa (no aa)<|p (bG aa)<|p mv<|gb (t:=36) aa (fun h=>absurd (h.symm.trans<|by rw [bb]) c7) fun eb=>pg aa aa aa mv<|pg aa aa aa (gt aa aa)<|p (bG aa)<|nl<|cK<|cV<|cd aa (fun h=>absurd h ab) fun d5=> ?_
 refine aR<|cK<|cG<|cV<|rg aa<|e<|dY IL fun ae eC dW bx b9=> ?_
 have ef:=bx.size
 refine nl<|cK<|cG<|cV<|rg aa<|e<|dY sH fun V eD dX aZ ca=> ?_
 have eg:=aZ.size
 refine e<|bW eZ aa aa (v:= .int .i64 0) aa ca (by simp) fun b3 aX cs=> ?_
 have ev:=aX.size
 have bv:Wk ad b3:=(bx.md.trans aZ.md).trans' aX fun q ay h=>by omega
 have cS:=aX.az (Wk.az aZ.md b9) fun h=>by omega
 refine nl<|cK<|cG<|cG<|cV<|rg aa<|p (ld gM aa<|(aV<|Wk.az bv a5).trans aa)<|e<|cl y7 (yH (some ⟨tb,0,none⟩) b3) aa fun v51 bj cN=> ?_
 obtain ⟨ah,rfl,d4,bM,aI⟩:=cN
 have er:=aI.size
 have bQ:ae < bj.heap.size:=ab
 have bR:V < bj.heap.size:=ab
 have de:=(bT.1 bM).1
 have dB:ad.heap.size≤bj.heap.size:=ab
 refine nl<|cK ?_
 apply Bg (oR) (c4 F xs xs.length) (fun W=>dK W B tb U F xs∧ju W ah (some ⟨tb,0,none⟩)) (fun pre fp A=> ∃ v,A.heap[ae]? =some (.cells [v].toArray 35 (0,0))∧bq A ad.heap.size 9 1 v (cY pre).length ((cY pre).map str)∧(∀ k,v.ownBlock=some k↔fp k)∧dA A V (lu F xs (cY pre):Nat)∧ju A ah (some ⟨tb,0,none⟩)∧Wk ad A) (fun r pre fp A=>true =false∧r=r) rfl vK (fun _=>rfl) (CZ B tb U F xs ai ah) (⟨.slice none 0 0,Wk.az aI cS,eh _ _ _ _,fun k=>by simp [gH],Wk.az aI cs,bM,bv.trans aI⟩) (fun pre fp W ⟨v,h1,h2,h3,h4,h5,C⟩=>⟨⟨bD.wk C,h5⟩,fun k hk=>(da h2<|(h3 k).2 hk).2⟩) (fun r pre fp W ⟨h,_⟩=>by cases h) (fun pre fp W b7 F ⟨v,h1,h2,h3,h4,h5,C⟩ hm aq=>⟨v,iD h1 hm bQ aq,V6 h2 hm (fun k hk=>(h3 k).1 hk) aq,h3,iD h4 hm bR aq,iD h5 hm de aq,V7 C hm dB aq⟩) (fun r pre fp W b7 F h _ _=>h) (fun x b A=>A.heap[b]? =some (.cells (cT x).toArray 49 (0,0))) (yJ (f:=cT))
 intro l x A K O
 exact rg aa<|e<|dY sI fun aM eE dZ cH cc=>e<|fk rP aa aa aa aa cc aw fun eK cF cn=>nl<|tn<|O aM _ (cH.md.trans' cF fun q ay h=>by omega) cn
 intro l pre x rest fp aM A b0 aQ aF
 obtain ⟨v,h1,h2,h3,h4,h5,C⟩:=aQ
 obtain ⟨bo,br,rfl⟩:=c5 h2
 have ew:=C.size
 have dj:=congrArg List.length b0
 simp only [bJ,bS] at dj
 have ee:=(Bq pre).2.1
 have dx:=(Bq<|pre++ [x]).2.1
 rw [bJ,iG] at dx
 have d6:=Eg a9<|cY pre
 have d7:(cY pre).length*300≤90000:=ab
 have ed:=(CX ai x<|by rw [b0]; exact qh _<|nN ..).2
 have d9:(fi F xs x.cy).length≤300:=dS (mM _ _) a9
 refine az<|sq fun dF cz=>rg aa<|p aE<|nl<|tn<|cz _ _<|sq fun dG cA=>sq fun dH cB=>rg aa<|p (ld mS aa<|(aV h1).trans aa)<|p (bP gU aa aa)<|p mv<|nl<|tn<|cB _ _<|az ?_
 have ax:false =decide (x.cy∈(cY pre).take 0):=by simp
 refine lp (fun bs J aL=> ∃ (k:Nat),(k≤(cY pre).length)∧(Wk A aL)∧(J 4= .pointer (some ⟨b8,0,none⟩))∧(J 5= .pointer (some ⟨bp,0,none⟩))∧(J 10= .pointer (some ⟨ae,0,none⟩))∧(J 11= .pointer (some ⟨V,0,none⟩))∧(J 12= .pointer (some ⟨aM,0,none⟩))∧(J 13= .bool (decide (x.cy∈(cY pre).take k)))∧(J 53= .slice bo (cY pre).length br)∧(J 54= .int .i64 ((cY pre).length:Nat))∧(J 55= .int .i64 (k:Nat))∧((cY pre).length - k=bs)) _ ⟨0,ab,(Md.refl _ _),aa,aa,aa,aa,aa,(congrArg bU ax),aa,aa,aa,aa⟩ ?_
 rintro bs J aL ⟨k,hk,G,dq,dr,dk,dl,dn,dp,ds,dt,du,rfl⟩
 refine fx 4 dq<|fx 5 dr<|fx 10 dk<|fx 11 dl<|fx 12 dn<|fx 13 dp<|fx 53 ds<|fx 54 dt<|fx 55 du<|sq fun dI cC=>rg aa<|p (lt aa aa)<|nl<|tn<|cC _ _<|sq fun dJ cD=>cd aa (fun dd=> ?_) fun dd=> ?_
 refine aR<|tn<|cD _ _<|sq fun b4 au=>az<|sq fun b5 aS=> ?_
 obtain ⟨u,hu⟩:∃ u,(cY pre)[k]? =some u:=⟨_,bX ab⟩
 refine rg aa<|p (bc ec aa aa ab<|aG.ok ((aY h2).2.wk G)<|c8 ab)<|p (ld cR aa<|aG.iY ((aY h2).2.wk G) (show ((cY pre).map str)[k]? =some (str u) by rw [fF,hu]; rfl)) ?_
 refine p aE<|nl<|tn<|aS _ _<|rg aa<|p (aH (.bool<|decide (x.cy∈(cY pre).take k)) aa)<|p (aH (.bool<|decide (x.cy∈(cY pre).take k)) aa)<|gb (t:=60) aa (fun a8=> ?_) fun a8=> ?_
 have ax:=RK a8
 exact sk aa aa aa aa<|sk aa aa aa aa<|sk aa aa aa aa<|sk aa aa aa aa<|p (bO aa)<|p aE<|nl<|bn<|tn<|au _ _<|rg aa<|p (bK ((k+1:Nat):Int) aa aa<|bl ab ab)<|p mv<|nl<|tn<|⟨_,ab,k+1,ab,G,aa,aa,aa,aa,aa,(congrArg bU ax),aa,aa,aa,aa⟩
 have ax:=RJ (by simpa using a8) hu
 exact pg aa aa aa mv<|pg aa aa aa (fa r4 aa)<|pg aa aa aa (ld cR aa<|(Wk.B G<|lj aF).bu 0)<|pg aa aa aa (jD aa aa)<|p (bG aa)<|p aE<|nl<|bn<|tn<|au _ _<|rg aa<|p (bK ((k+1:Nat):Int) aa aa<|bl ab ab)<|p mv<|nl<|tn<|⟨_,ab,k+1,ab,G,aa,aa,aa,aa,aa,(congrArg bU ax),aa,aa,aa,aa⟩
 refine ext<|te _<|te _<|be<|tn<|cA _ _<|sq fun b4 au=>sq fun b5 aS=>rg aa<|p (aH (.bool<|decide (x.cy∈(cY pre).take k)) aa)<|p (no aa)<|nl<|tn<|aS _ _<|cb aa (fun a6=> ?_) fun a6=> ?_
 have dg:x.cy∉(cY pre):=by
  have h:=a6
  rw [show k=(cY pre).length by omega,CH] at h
  simpa using h
 refine sq fun b6 aT=>rg aa<|p (ld mS aa<|(aV<|Wk.az G h1).trans aa)<|p (fa r4 aa)<|p (ld cR aa<|(Wk.B G<|lj aF).bu 0)<|e<|lk kp aa aa fun dO eM d3 bB cq=> ?_
 have et:=bB.size
 have c:=G.trans bB.md
 refine e<|ap kp (ba h2 c) aa (by have :=C.size; have :=c.size; omega) aa (aG.gl cq) (aa) (aa) ab ab fun eB bk bY Z dz dc=> ?_
 have bF:=Wk.az c h1
 have am:=ba h2 c
 have cw:=Wk.own (C.trans c) am Z<|cj _
 have a3:=Z.az bF fun h=>dQ am bF aw h
 obtain ⟨aB,aD,rfl⟩:=c5 bY
 have c9:ju bk ah (some ⟨tb,0,none⟩):=Z.az (Wk.az c h5) fun h=>dQ am (Wk.az c h5) aw h
 have cW:dA bk V (lu F xs (cY pre):Nat):=Z.az (Wk.az c h4) fun h=>dQ am (Wk.az c h4) aw h
 have c0:=Z.az (Wk.az c aF) fun h=>dQ am (Wk.az c aF) aw h
 have dz:=Z.size
 refine e<|bW Er aa aa (v:= .slice aB ((cY pre).length+1) aD) aa a3 (by simp) fun I Y ce=> ?_
 have ej:=Y.size
 have ac:(cY<|pre++ [x])=(cY pre)++ [x.cy]:=HB dg
 have bd:(cY<|pre++ [x]).length=(cY pre).length+1:=by rw [ac]; simp
 have aO:Wk ad I:=cw.trans' Y fun k hk h=>by omega
 have aK:TF bk [37] (fun q=>q=ae):=TF.eq (dD a3) aw
 have dh:bq I ad.heap.size 9 1 (.slice aB (cY<|pre++ [x]).length aD) (cY<|pre++ [x]).length ((cY<|pre++ [x]).map str):=cX (by rw [bd,ac,gV]; exact bY) Y aK aw
 have c3:ju I ah (some ⟨tb,0,none⟩):=Y.gZ aK c9 aw
 have a4:dA I V (lu F xs (cY pre):Nat):=Y.gZ aK cW aw
 have cZ:=Y.gZ aK c0 aw
 have cQ:I.heap[ae]? =some (.cells [.slice aB (cY<|pre++ [x]).length aD].toArray 35 (0,0)):=by rw [bd]; exact ce
 refine nl<|tn<|aT _ _ ?_
 have al:(fun w'=>Wk I w') I.drew:=(Md.refl _ _).drew
 refine eG (fun w'=>Wk I w') 7 aa wide al<|lq 0 aa ag (fun w' av=>ld bH aa<|Wk.aJ av<|(aV a4).trans aa) al<|lq 1 aa ag (fun w' av=>ld gM aa<|Wk.aJ av<|(aV<|Wk.az aO a5).trans aa) al<|lq 2 aa ag (fun _ _=>fa r4 aa) al<|lq 3 aa ag (fun w' av=>ld cR aa<|Wk.aJ av<|(lj cZ).bu 0) al<|iV 4 aa ag<|cl ll (Ir B tb U F xs x.cy 1000 I.drew ((bD.wk aO).wk (Md.refl _ _).drew) ai cM ab) aa fun v78 bm cO=> ?_
 obtain ⟨bZ,bt⟩:=cO
 rw [W5 a9] at bZ
 obtain ⟨dM,dP,rfl⟩:=c5 bZ
 have eu:=bt.size
 have E:(fun w'=>Wk I w') bm:=al.trans bt
 refine ⟨E,?_⟩
 refine lq 5 aa ag (fun _ _=>bP uF aa aa) E<|lq 6 aa ag (fun _ _=>bK ((lu F xs (cY pre)+(fi F xs x.cy).length:Nat):Int) aa aa<|bl ab ab) E<|dw 7 aa ag ag<|bW eZ aa aa (v:= .int .i64 ((lu F xs (cY pre)+(fi F xs x.cy).length:Nat):Int)) aa (Wk.az E a4) (by simp) fun bh ak cg=> ?_
 have bN:bm.heap[V]? =some (.cells [.int .i64 (lu F xs (cY pre):Nat)].toArray 3 (0,0)):=Wk.az E a4
 have a2:TF bm [5] (fun q=>q=V):=TF.eq (dD bN) aw
 have aA:=ak.gZ a2 (Wk.az E cQ) aw
 have di:=cX (ba dh E) ak a2 aw
 have c6:ju bh ah (some ⟨tb,0,none⟩):=ak.gZ a2 (Wk.az E c3) aw
 have cU:dA bh V (lu F xs (cY<|pre++ [x]):Nat):=by rw [ac,Ob]; exact cg
 have ct:Wk ad bh:=(aO.trans E).trans' ak fun k hk h=>by omega
 refine eF ag<|tn<|au _ _<|sq fun dL cE=>rg aa<|p (ld mS aa<|(aV aA).trans aa)<|p (bP gU aa aa)<|p (gt aa aa)<|nl<|tn<|cE _ _<|cd aa (fun h=>absurd h ab) fun db=> ?_
 exact aR<|bn<|⟨((eS.wk c).trans<|eS.md Z<|sj am).trans ((eS.md Y fun k hk=>⟨_,_,_,hk ▸ a3⟩).trans<|(eS.wk E).trans<|eS.md ak fun k hk=>⟨_,_,_,hk ▸ bN⟩),fun k=>(bC aB ((cY pre).length+1) aD).ownBlock=some k,(Gw.wk c).trans ((Gw.md Z (fun k hk=> .inl<|(h3 k).1 hk) fun k hk=>(dc k hk).imp (fun h=>(h3 k).1 h) id).trans<|(Gw.md Y (fun k hk=> .inr<|by subst hk; exact bQ) fun _ h=> .inl h).trans<|(Gw.wk E).trans<|Gw.md ak (fun k hk=> .inr<|by subst hk; exact bR) fun _ h=> .inl h),⟨_,aA,di,(fun _=>by rw [bd]),cU,c6,ct⟩⟩
 have df:x.cy∈(cY pre):=by
  have h:=a6
  rw [show k=(cY pre).length by omega,CH] at h
  simpa using h
 have ac:(cY<|pre++ [x])=(cY pre):=HC df
 have aj:Wk A aL:=G
 have aA:aL.heap[ae]? =some (.cells [.slice bo (cY<|pre++ [x]).length br].toArray 35 (0,0)):=by rw [ac]; exact Wk.az G h1
 exact aR<|tn<|au _ _<|sq fun b6 aT=>rg aa<|p (ld mS aa<|(aV aA).trans aa)<|p (bP gU aa aa)<|p (gt aa aa)<|nl<|tn<|aT _ _<|cd aa (fun h=>absurd h ab) fun db=>aR<|bn<|⟨eS.wk aj,fp,Gw.wk aj,⟨_,aA,by rw [ac]; exact ba h2 aj,(by rw [ac]; exact h3),by rw [ac]; exact Wk.az aj h4,Wk.az aj h5,C.trans aj⟩⟩
 intro D A dV aQ O
 obtain ⟨fp,v,h1,h2,h3,h4,h5,C⟩:=aQ
 have ay:((lu F xs (cY<|c4 F xs xs.length):Nat):Int)=(jX (c4 F xs xs.length) 4000).1:=by rw [GB bb,Oa]
 refine cK<|cG<|cV<|rg aa<|p (ld bH aa<|(aV h4).trans aa)<|p mv<|p ((cx aa aa).trans<|by rw [decide_eq_true ay])<|e<|bW nb aa aa (v:= .bool true) aa (Wk.az C bI) (by simp) fun eH bw ch=> ?_
 have O:=(bw.dv D (bT.1 O).1 fun h=>by have h:=h; subst h; rw [Wk.az C bI] at O; cases O).trans O
 refine nl<|cK<|sn<|Qb aa O (gR aa jS<|lP ((aV ch).trans aa) O fun _ _ _ h=>by cases h) ?_
 exact ⟨aa,((cu.trans C).trans' bw fun k hk d8=>by omega).trans' (l1 _ _ _) fun k hk h=>by omega⟩
 exact fun _ _ _ _ _ h _=>by obtain ⟨_,h,_⟩:=h; cases h
 exact fun _ _ _ _ _ h _=>by obtain ⟨_,h,_⟩:=h; cases h
theorem Oy (a t:Tx) (w:World) (c:a.length≤1048576) (A:t.length≤1048576):bf ao 8 [str a,str t].toArray w (fun v w'=>v= .bool true∧Wk w w'):=by
 cases hx:k6 a t with
 | none=>exact Ox a t w c A hx
 | some Y=>
   obtain ⟨F,xs⟩:=Y
   by_cases h:(jX (c4 F xs xs.length) 4000).2.2=true∧(jX (c4 F xs xs.length) 4000).1≤300
   · exact Ow a t w c A F xs hx h.1 h.2
   · exact Ov a t w c A F xs hx h
end Go.Hb
end
