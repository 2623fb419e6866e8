/-
  Walks and plain laws that the law rests on, laid together. No conditions but those that each theorem names.
-/
import Derived.Test.YtchkamdekbbgeaaGreatDoorMnAnalyseStems8
set_option linter.unusedVariables false
set_option maxRecDepth 20000
set_option maxHeartbeats 1000000
open Array renaming getElem?_eq_getElem→vZ,getElem?_eq_none→rK,getElem?_eq_some_iff→dT,getElem?_modify→PU,getElem?_toList→wg,toList_setIfInBounds→yy
open Bool renaming and_eq_true→iq,noConfusion→eA
open Go.Calls renaming mono→lU
open Go.Proofs.SlLaysF0 renaming n6→aeQ
open Go.Proofs.Tryz renaming prog→aE
open Go.Proofs renaming ltOf→yH
open Go.Shelf renaming Ren→Ql
open Go.Sort renaming ahead→yI,grow→Qm
open Go.Value renaming bool→cy,int→gY,oneCell'→gI,ownBlock→jU,slice→cg
open Go.World renaming ownsRow→bB,ownsRow_nil→dC
open Int renaming toNat_natCast→kH
open List.Perm renaming refl→Qw
open List renaming any_eq_true→B4,append_assoc→e6,append_nil→eJ,drop_drop→rR,eq_nil_of_length_eq_zero→fY,filter_append→s9,filter_cons→o3,flatMap_append→o4,flatMap_cons→kI,getD_eq_getElem?_getD→da,getElem?_drop→qJ,getElem?_eq_getElem→cz,getElem?_map→gi,getElem?_take_of_lt→QM,length→jV,length_append→bP,length_cons→db,length_drop→fM,length_filter_le→o5,length_map→fH,length_mergeSort→Hr,length_nil→gC,length_range→wy,length_singleton→fE,length_take→dM,map_append→fZ,mem_append→gq,mem_append_right→wz,mem_cons→eL,mem_cons_of_mem→om,mem_cons_self→o6,mem_filter→oo,mem_map→iT,mem_of_getElem?→gL,mem_range→nr,mem_singleton→gD,of_mem_zip→QT,pairwise_cons→lz,range→gZ,range_succ→Ce,take_add_one→QZ,take_append→uw,take_of_length_le→eK,take_zero→oq,toArray→bl
open Nat renaming add_le_add→Q5,le_refl→cU,le_trans→fu,lt_succ_iff_lt_or_eq→qc,mul_add→yU,mul_comm→wP,mul_le_mul_right→qO,mul_one→nu,zero_le→iK
open Nat.le renaming dest→Hu
open Option renaming isSome_iff_exists→ot
open Prod renaming fst→iW
open Go.Proofs.Tryz
open Go.Hb.dX Go.Proofs Go.Hb.eX Go.Hb.fI Go.Hb.iY Go.Hb.gr Go.Hb.ir Go.Hb.jm Go.Hb.jK Go.Hb.jW Go.Hb.ku Go.Hb.qd

section
namespace Go.Hb
section
variable {F:aX} {xs:List bE} {wd word:Tx} {p:Int} {S:bO→Prop} {i:Nat}
def pB (F:aX) (xs:List bE) (wd word:Tx) (p:Int) (S:bO→Prop) (i:Nat) (d:bO):Prop :=S d∨pC F xs wd word p i d
def oD (F:aX) (xs:List bE) (wd word sm:Tx) (p:Int) (S:bO→Prop) (i j:Nat) (d:bO):Prop :=(pB F xs wd word p S i d∨oN F xs wd sm i (-1) p d)∨
 ∃ k rt,k < j∧gH (F.rules.getD ((fW F F.rules.length i).getD k 0) dU) sm=some rt∧oN F xs wd rt ((fW F F.rules.length i).getD k 0:Nat) i p d
theorem Uv (d:bO):pB F xs wd word p S 0 d↔(S d∨oN F xs wd word (-1) (-1) p d):=by
 unfold pB pC;constructor
 · rintro (h | h | ⟨i,r,h,_⟩)
   · exact .inl h
   · exact .inr h
   · omega
 · rintro (h | h)
   · exact .inl h
   · exact .inr<|.inl h
theorem Jk {r:dd} (E:F.rules[i]? =some r) (h:r.kind≠2∨gH r word=none) (d:bO):pB F xs wd word p S (i+1) d↔pB F xs wd word p S i d:=by
 unfold pB pC;constructor
 · rintro (h1 | h1 | ⟨k,C,hk,A,h2,st,h3,h4⟩)
   · exact .inl h1
   · exact .inr<|.inl h1
   · rcases qc.1 hk with hk | rfl
     · exact .inr<|.inr ⟨k,C,hk,A,h2,st,h3,h4⟩
     · rw [E] at A; cases A;rcases h with h | h
       · exact absurd h2 h
       · rw [h] at h3; cases h3
 · rintro (h1 | h1 | ⟨k,C,hk,h2⟩)
   · exact .inl h1
   · exact .inr<|.inl h1
   · exact .inr<|.inr ⟨k,C,aj,h2⟩
theorem Uw {r:dd} {sm:Tx} (E:F.rules[i]? =some r) (hk:r.kind=2) (hu:gH r word=some sm) (d:bO):pB F xs wd word p S (i+1) d↔oD F xs wd word sm p S i (fW F F.rules.length i).length d:=by
 unfold oD pB pC;constructor
 · rintro (h1 | h1 | ⟨k,I,A,G,h2,st,h3,h4⟩)
   · exact .inl<|.inl<|.inl h1
   · exact .inl<|.inl<|.inr<|.inl h1
   · rcases qc.1 A with A | rfl
     · exact .inl<|.inl<|.inr<|.inr ⟨k,I,A,G,h2,st,h3,h4⟩
     · rw [E] at G; cases G;rw [hu] at h3; cases h3;rcases h4 with h4 | ⟨f,J,rt,h5,C⟩
       · exact .inl<|.inr h4
       · obtain ⟨m,hm,e⟩:=mY 0 J;exact .inr ⟨m,rt,hm,by rw [e]; exact h5,by rw [e]; exact C⟩
 · rintro (((h1 | h1 | ⟨k,I,A,h2⟩) | h1) | ⟨m,rt,hm,h5,C⟩)
   · exact .inl h1
   · exact .inr<|.inl h1
   · exact .inr<|.inr ⟨k,I,aj,h2⟩
   · exact .inr<|.inr ⟨i,r,aj,E,hk,sm,hu,.inl h1⟩
   · exact .inr<|.inr ⟨i,r,aj,E,hk,sm,hu,.inr ⟨_,ek (d:=0) hm,rt,h5,C⟩⟩
theorem Uz {sm:Tx} (d:bO):oD F xs wd word sm p S i 0 d↔(pB F xs wd word p S i d∨oN F xs wd sm i (-1) p d):=by
 unfold oD;exact ⟨fun h=>h.resolve_right (fun ⟨k,_,h,_⟩=>by omega),.inl⟩
theorem Ux {sm:Tx} {j:Nat} (h:gH (F.rules.getD ((fW F F.rules.length i).getD j 0) dU) sm=none) (d:bO):oD F xs wd word sm p S i (j+1) d↔oD F xs wd word sm p S i j d:=by
 unfold oD;constructor
 · rintro (h1 | ⟨k,rt,hk,h2,h3⟩)
   · exact .inl h1
   · rcases qc.1 hk with hk | rfl
     · exact .inr ⟨k,rt,hk,h2,h3⟩
     · rw [h] at h2; cases h2
 · rintro (h1 | ⟨k,rt,hk,h2⟩)
   · exact .inl h1
   · exact .inr ⟨k,rt,aj,h2⟩
theorem Uy {sm rt:Tx} {j:Nat} (h:gH (F.rules.getD ((fW F F.rules.length i).getD j 0) dU) sm=some rt) (d:bO):oD F xs wd word sm p S i (j+1) d↔(oD F xs wd word sm p S i j d∨oN F xs wd rt ((fW F F.rules.length i).getD j 0:Nat) i p d):=by
 unfold oD;constructor
 · rintro (h1 | ⟨k,A,hk,h2,h3⟩)
   · exact .inl<|.inl h1
   · rcases qc.1 hk with hk | rfl
     · exact .inl<|.inr ⟨k,A,hk,h2,h3⟩
     · rw [h] at h2; cases h2; exact .inr h3
 · rintro ((h1 | ⟨k,A,hk,h2⟩) | h1)
   · exact .inl h1
   · exact .inr ⟨k,A,aj,h2⟩
   · exact .inr ⟨j,rt,aj,h,h1⟩
end
theorem Xx {F:aX} {n z i:Nat} (h:i∈fW F n z):i < n:=nr.1 (oo.1 h).1
theorem Jm (w0 wB:World) (B kb tb:Nat) (U:gO) (F:aX) (xs:List bE) (ar:Option Addr) (cr:Nat) (rn:List Value) (fm dm:Nat) (A:lC w0 wB B kb tb U F xs ar cr rn fm dm) (C:eH F xs) (wd word:Tx) (G:Nat) (pp:Int) (S:bO→Prop) (w:World) (hm:Md (fun k=>k=dm) wB w) (cy:kK w.heap dm S) (aO: -1≤pp) (ds:word.length≤4194304):
 bw aE 58 (bl [a6 kb,str word,.agg [str wd,ay G,.int .i64 (-1),.int .i64 (-1),.int .i64 pp].toArray]) w (fun v w'=>v= .tuple #[]∧kK w'.heap dm (fun d=>S d∨pC F xs wd word pp F.rules.length d)∧Md (fun k=>k=dm) w w'):=by
 have dt:=C.xl;have dj:=A.lt;have dr:=hm.size;have dl:=C.len;refine enter func58 ag ntmps58 ag<|ak fun b2=>e<|oB ag fun E aS dg ao cu=> ?_;have du:=ao.size;have bv:Md (fun k=>k=dm) wB aS:=hm.trans' ao.md fun _ _ h=>h.elim;have bi:aS.heap[E]? =some (.cells [str wd,ay G,.int .i64 (-1),.int .i64 (-1),.int .i64 pp].toArray 49 (0,0)):=cu;have cC:=cy.md ao.md id;have ab:¬(E=dm):=aj;refine nl<|b2<|ak fun ce=>p mv<|p mv<|p (dp oz ag (ag) fun q J=>(pw bi).bF q)<|e<|cl CI (EY w0 wB B kb tb U F xs ar cr rn fm dm A C wd word G (-1) (-1) pp S aS bv cC aj aj aO) ag ?_;rintro v17 bR ⟨rfl,cA,av⟩;have bs:Md (fun k=>k=dm) wB bR:=bv.trans av;have cN:=av.aW bi ab;have c1:Md (fun k=>k=dm) w bR:=(ao.md.mono fun _ _ h=>h.elim).trans av;refine nl<|ce<|ak fun ci=>p mv<|p (nc ag)<|p (fa Ab ag)<|p (ld nB ag<|(bo<|A.at bs).trans ag)<|p (bN sR ag ag)<|p mv<|nl<|ci<|aW<|lp (fun Y b0 V=> ∃ (i:Nat) (bW z2:Int),(i≤F.rules.length)∧(Md (fun k=>k=dm) wB V)∧(Md (fun k=>k=dm) w V)∧(kK V.heap dm<|pB F xs wd word pp S<|i)∧(V.heap[E]? =some (.cells [str wd,ay G,.int .i64 bW,.int .i64 z2,.int .i64 pp].toArray 49 (0,0)))∧(Sl b0 [(0,a6 kb),(1,str word),(5,a6 E),(21,.slice ar F.rules.length cr),(22,ay (F.rules.length)),(23,ay i)])∧(F.rules.length - i=Y)) _ ⟨0,_,_,aj,bs,c1,(cA.congr Uv),cN,ag,ag⟩ ?_;rintro Y b0 V ⟨i,bW,z2,hi,aL,bA,a5,cQ,db,rfl⟩;refine bH db<|ak fun cj=>p (lt ag ag)<|nl<|cj<|aH fun ck=>cd ag (fun cW=> ?_) fun cW=> ?_;refine aT<|ck<|aH fun au=>aW<|aH fun cm=> ?_;obtain ⟨r,I⟩:∃ r,F.rules[i]? =some r:=⟨_,cz aj⟩
 obtain ⟨u,aQ⟩:=A.jG I;have de:=A.ro u (QT<|gL aQ).2;refine rg ag<|aw (ay i)<|p (bh nH ag ag aj<|aR.ok (A.rules aL)<|oV aQ)<|p (dp l6 ag (ag)<|fO (f:=fk) (m:=7) (fun _=>rfl) (A.rules aL) aQ)<|e<|hU rH fun cp dz aB a8 cv=> ?_;have dv:=a8.size;refine p (cV (ay i) ag)<|e<|gS pI ag ag ag (Og de) cv aM fun ah cI ct=> ?_;have al:Wk V ah:=a8.md.trans' cI fun q J h=>by omega
 have aB:bX ah.heap cp (fk (r,u)):=⟨_,ct⟩
 have bu:Md (fun k=>k=dm) wB ah:=aL.trans' al fun _ _ h=>h.elim;have bD:Md (fun k=>k=dm) w ah:=bA.trans' al fun _ _ h=>h.elim;have a3:=a5.md al id;have bf:=Wk.aW al cQ;refine nl<|cm<|aH fun cn=>ak fun co=>p (fa xC ag)<|p (ld bL ag<|aB.bF 0)<|p (dw ag ag)<|nl<|co<|cd ag (fun hk=> ?_) fun hk=> ?_;have aF:=Jk (xs:=xs) (wd:=wd) (word:=word) (p:=pp) (S:=S) I<|.inl (show r.kind≠2 by have h:=hk; dsimp only at h; omega);exact ext<|bj<|be<|au<|rg ag<|p (bJ ((i+1:Nat):Int) ag ag<|bp aj aj)<|p mv<|nl<|tn<|⟨_,aj,i+1,_,_,aj,bu,bD,(a3.congr aF),bf,ag,ag⟩
 have cY:r.kind=2:=by have h:=hk; dsimp only at h; omega
 refine aT<|cn<|ak fun b3=>p (dp l6 ag (ag) fun q J=>aB.bF q)<|aw (str word)<|e<|cl Da (GC r u word ah (C.jG I).2.2.1 (oS C I).2.1 (oS C I).2.2.1 aj) ag ?_;rintro dx bS ⟨rfl,ai⟩;have bt:Md (fun k=>k=dm) wB bS:=bu.trans' ai fun _ _ h=>h.elim;have bC:Md (fun k=>k=dm) w bS:=bD.trans' ai fun _ _ h=>h.elim;have a2:=a3.md ai id;have bd:=Wk.aW ai bf;refine p mv<|p (xt ag ag)<|p (xt ag ag)<|p aJ<|az<|b3<|aH fun b4=>ak fun b5=>p mv<|p (no ag)<|nl<|b5<|cb ag (fun aC=> ?_) fun aC=> ?_;have aF:=Jk (xs:=xs) (wd:=wd) (p:=pp) (S:=S) I<|.inr (show gH r word=none by simpa using aC);exact ext<|bj<|be<|au<|rg ag<|p (bJ ((i+1:Nat):Int) ag ag<|bp aj aj)<|p mv<|nl<|tn<|⟨_,aj,i+1,_,_,aj,bt,bC,(a2.congr aF),bd,ag,ag⟩
 obtain ⟨sm,aP⟩:∃ sm,gH r word=some sm:=ot.1<|by simpa using aC
 have dq:=Pq aP;have dk:=(oS C I).1;have ap:(gH r word).getD []=sm:=by rw [aP]; rfl
 have dn:r.strip.length≤32:=(C.jG I).2.2.1;refine aT<|b4<|ak fun b6=>aw (ay i)<|p (fa nJ ag)<|e<|dB hZ ag ag (v:=ay i) ag bd (by show 2 < 5; omega) fun dA cK cx=>p (fa nK ag)<|e<|dB hZ ag ag (v:= .int .i64<|-1) ag cx (by show 3 < 5; omega) fun aq cJ cw=> ?_;have bk:aq.heap[E]? =some (.cells [str wd,ay G,ay i,.int .i64 (-1),.int .i64 pp].toArray 49 (0,0)):=cw;have aA:=cK.trans cJ;have bz:Md (fun k=>k=dm) wB aq:=bt.trans' aA fun q J h=>by omega
 have c4:Md (fun k=>k=dm) w aq:=bC.trans' aA fun q J h=>by omega
 have cE:=a2.md aA fun h=>ab h.symm;refine nl<|b6<|ak fun b7=>aw (a6 kb)<|p mv<|p (dp oz ag (ag) fun q J=>(pw bk).bF q)<|e<|cl CI (EY w0 wB B kb tb U F xs ar cr rn fm dm A C wd ((gH r word).getD []) G (i:Nat) (-1) pp (pB F xs wd word pp S<|i) aq bz cE aj aj aO) ag fun v45 bT a9=> ?_;rw [ap] at a9;obtain ⟨rfl,cB,ax⟩:=a9;have aK:Md (fun k=>k=dm) wB bT:=bz.trans ax;have c2:Md (fun k=>k=dm) w bT:=c4.trans ax;have cO:=ax.aW bk ab;obtain ⟨fo,cS,cT⟩:=A.fW aK;obtain ⟨aZ,a0,b1,cU,c8⟩:=cT i aj;have dh:(fW F F.rules.length i).length≤F.rules.length:=by have :=o5 (fun q:Nat=>decide (i∈bq F (cH F (q:Int)) 2)) (gZ F.rules.length); unfold fW; rw [wy] at this; exact this
 refine nl<|b7<|ak fun b8=>aw (a6 kb)<|p (nc ag)<|p (fa D2 ag)<|p (ld Cr ag<|(bo<|A.at aK).trans ag)<|aw (ay i)<|p (mX Gu BK EI (cS) ag ag (⟨_,ag⟩)<|cU)<|p (bN mI ag ag)<|p mv<|nl<|b8<|aW<|lp (fun Y aV O=> ∃ (j:Nat) (bZ z3:Int),(j≤(fW F F.rules.length i).length)∧(Md (fun k=>k=dm) wB O)∧(Md (fun k=>k=dm) w O)∧(kK O.heap dm<|oD F xs wd word sm pp S i<|j)∧(O.heap[E]? =some (.cells [str wd,ay G,.int .i64 bZ,.int .i64 z3,.int .i64 pp].toArray 49 (0,0)))∧(bB O b1 3 1 (.slice aZ (fW F F.rules.length i).length a0) (fW F F.rules.length i).length<|(fW F F.rules.length i).map bV)∧(aV 8=str sm)∧(Sl aV [(0,a6 kb),(1,str word),(5,a6 E),(6,ay i),(21,.slice ar F.rules.length cr),(22,ay (F.rules.length)),(23,ay i),(51,.slice aZ (fW F F.rules.length i).length a0),(52,ay ((fW F F.rules.length i).length)),(53,ay j)])∧((fW F F.rules.length i).length - j=Y)) _ ⟨0,_,_,aj,aK,c2,(cB.congr Uz),cO,c8,(by first | rfl | exact congrArg str ap),ag,ag⟩ ?_;rintro Y aV O ⟨j,bZ,z3,di,aa,bI,a7,bm,aN,dd,dc,rfl⟩;refine bH dc<|fx 8 dd<|ak fun b9=>p (lt ag ag)<|nl<|b9<|aH fun ca=>cd ag (fun cX=> ?_) fun cX=> ?_;refine aT<|ca<|aH fun aY=>aW<|ak fun cc=>p (bh kp ag ag aj<|aR.ok ((bg aN).2)<|bY aj)<|p (ld bL ag<|aR.gQ (i:=j) (bg aN).2<|oL aj)<|az<|cc<|aH fun cf=> ?_;have cR:((fW F F.rules.length i).getD j 0) < F.rules.length:=Xx<|ek (d:=0) (show j < (fW F F.rules.length i).length by omega);obtain ⟨rf,ac⟩:∃ r,F.rules[((fW F F.rules.length i).getD j 0)]? =some r:=⟨_,cz cR⟩
 have bM:F.rules.getD ((fW F F.rules.length i).getD j 0) dU=rf:=by rw [da,ac]; rfl
 obtain ⟨df,bQ⟩:=A.jG ac;refine rg ag<|aw (a6 kb)<|p (nc ag)<|p (fa Ab ag)<|p (ld nB ag<|(bo<|A.at aa).trans ag)<|p mv<|p (bh nH ag ag aj<|aR.ok (A.rules aa)<|oV bQ)<|p (dp l6 ag (ag)<|fO (f:=fk) (m:=7) (fun _=>rfl) (A.rules aa) bQ)<|aw (str sm)<|e<|cl Da (GC rf df sm O (C.jG ac).2.2.1 (oS C ac).2.1 (oS C ac).2.2.1 aj) ag ?_;rintro v66 aU ⟨rfl,Z⟩;have bx:Md (fun k=>k=dm) wB aU:=aa.trans' Z fun _ _ h=>h.elim;have bG:Md (fun k=>k=dm) w aU:=bI.trans' Z fun _ _ h=>h.elim;have a4:=a7.md Z id;have aI:=Wk.aW Z bm;have bK:=bc aN Z;refine p mv<|p (xt ag ag)<|p (xt ag ag)<|p aJ<|az<|cf<|aH fun cg=>rg ag<|p mv<|nl<|cg<|cb ag (fun aD=> ?_) fun aD=> ?_;obtain ⟨rt,bP⟩:∃ rt,gH rf sm=some rt:=ot.1<|by simpa using aD
 have c9:(gH rf sm).getD []=rt:=by rw [bP]; rfl
 have aG:=Uy (xs:=xs) (wd:=wd) (word:=word) (p:=pp) (S:=S) (i:=i) (j:=j)<|by rw [bM]; exact bP
 refine ak fun ch=>p mv<|aw (ay i)<|p (fa nJ ag)<|e<|dB hZ ag ag (v:= .int .i64 ((((fW F F.rules.length i).getD j 0):Nat):Int)) ag aI (by show 2 < 5; omega) fun dy cG cs=>p (fa nK ag)<|e<|dB hZ ag ag (v:=ay i) ag cs (by show 3 < 5; omega) fun ae cF cq=> ?_;have bb:ae.heap[E]? =some (.cells [str wd,ay G,.int .i64 ((((fW F F.rules.length i).getD j 0):Nat):Int),ay i,.int .i64 pp].toArray 49 (0,0)):=cq;have an:=cG.trans cF;have br:Md (fun k=>k=dm) wB ae:=bx.trans' an fun q J h=>by omega
 have c0:Md (fun k=>k=dm) w ae:=bG.trans' an fun q J h=>by omega
 have a1:=a4.md an fun h=>ab h.symm;have cL:TF aU [51] (fun q=>q=E):=TF.eq (dS aI) aM;have c5:=c7 bK an cL aM;refine nl<|ch<|rg ag<|aw (a6 kb)<|p mv<|p (dp oz ag (ag) fun q J=>(pw bb).bF q)<|e<|cl CI (EY w0 wB B kb tb U F xs ar cr rn fm dm A C wd ((gH rf sm).getD []) G ((((fW F F.rules.length i).getD j 0):Nat):Int) (i:Nat) pp (oD F xs wd word sm pp S i<|j) ae br a1 aj aj aO) ag fun v77 bU ba=> ?_;rw [c9] at ba;obtain ⟨rfl,cD,am⟩:=ba;have cZ:Md (fun k=>k=dm) wB bU:=br.trans am;have c3:Md (fun k=>k=dm) w bU:=c0.trans am;have cP:=am.aW bb ab;have cM:TF ae [1] (fun q=>q=dm):=TF.eq (Bn a1.choose_spec.1.AI.choose_spec.1) aM;have c6:=c7 c5 am cM aM;exact nl<|bn<|aY<|rg ag<|p (bJ ((j+1:Nat):Int) ag ag<|bp aj aj)<|p mv<|nl<|tn<|⟨_,aj,j+1,_,_,aj,cZ,c3,(cD.congr aG),cP,c6,(by first | rfl | exact congrArg str ap),ag,ag⟩
 have aG:=Ux (xs:=xs) (wd:=wd) (word:=word) (p:=pp) (S:=S) (i:=i) (j:=j) (show gH (F.rules.getD _ dU) sm=none by rw [bM]; simpa using aD);exact aT<|bn<|aY<|rg ag<|p (bJ ((j+1:Nat):Int) ag ag<|bp aj aj)<|p mv<|nl<|tn<|⟨_,aj,j+1,_,_,aj,bx,bG,(a4.congr aG),aI,bK,(by first | rfl | exact congrArg str ap),ag,ag⟩
 exact ext<|bj<|bj<|be<|bn<|au<|rg ag<|p (bJ ((i+1:Nat):Int) ag ag<|bp aj aj)<|p mv<|nl<|tn<|⟨_,aj,i+1,_,_,aj,aa,bI,(a7.congr<|by rw [show j=(fW F F.rules.length i).length by omega]; exact Uw I cY aP),bm,ag,ag⟩
 refine ext<|bj<|bj<|be<|f0 ag ?_;obtain rfl :i=F.rules.length:=aj;exact ⟨ag,a5,bA⟩
structure k3 (w:World) (B:Nat) (f:Value→Option Value) (Pz:Nat→List Nat):Prop where
 own:∀ z:Nat,bB w B 3 1 ((f<|.int .i64 (z:Nat)).getD<|cg none 0 0) (Pz z).length ((Pz z).map bV)
 sep:∀ (z y k:Nat),z≠y→((f<|.int .i64 (z:Nat)).getD<|cg none 0 0).ownBlock=some k→((f<|.int .i64 (y:Nat)).getD<|cg none 0 0).ownBlock≠some k
theorem k3.md {G:Nat→Prop} {w w':World} {B:Nat} {f:Value→Option Value} {A:Nat→List Nat} (h:k3 w B f A) (hm:Md G w w') (C:∀ k,G k→∀ cur z,w.heap[k]?≠some (.cells cur 3 z)):k3 w' B f A:=
 ⟨fun z=>dz (h.own z) hm (fun k hk I=>pV (h.own z) hk fun cur y E=>C k I cur y E),h.sep⟩
theorem k3.wk {w w':World} {B:Nat} {f:Value→Option Value} {A:Nat→List Nat} (h:k3 w B f A) (hm:Wk w w'):k3 w' B f A:=h.md hm fun _ h=>h.elim
theorem k3.congr {w:World} {B:Nat} {f:Value→Option Value} {A C:Nat→List Nat} (h:k3 w B f A) (he:∀ z,C z=A z):k3 w B f C:=by rw [show C=A from funext he]; exact h
theorem k3.nil (w:World) (B:Nat):k3 w B (fun _=>none) (fun _=> []):=⟨fun z=>dC _ _ _ _,fun z y k _ h=>by cases h⟩
theorem Av {a b:Nat} (h:gY .i64 (a:Nat)= .int .i64 (b:Nat)):a=b:=by injection h with _ h; omega
theorem k3.put {w I ab:World} {B mb z0 i:Nat} {f:Value→Option Value} {C:Nat→List Nat} {v:Value} (h:k3 w B f C) (hm:Md (fun k=>((f<|.int .i64 (z0:Nat)).getD<|cg none 0 0).ownBlock=some k) w I)
 (Z:bB I B 3 1 v (C z0++ [i]).length ((C z0++ [i]).map bV)) (O:∀ k,v.ownBlock=some k→((f<|.int .i64 (z0:Nat)).getD<|cg none 0 0).ownBlock=some k∨w.heap.size≤k) (Y:∀ cur z,I.heap[mb]?≠some (.cells cur 3 z)) (V:Md (fun k=>k=mb) I ab):
 k3 ab B (bZ f (.int .i64 (z0:Nat)) v) (fun z=>if z=z0 then C z++ [i] else C z):=by
 refine ⟨fun z=> ?_,fun z y k G hk=> ?_⟩
 · by_cases A:z=z0
   · subst A;rw [oR,if_pos rfl];exact dz Z V fun k hk E=>pV Z hk fun cur y J=>Y cur y<|E ▸ J
   · rw [mF (fun e=>A<|Av e),if_neg A];have h1:=dz (h.own z) hm fun k hk E=>h.sep z0 z k (fun e=>A e.symm) E hk;exact dz h1 V fun k hk E=>pV h1 hk fun cur y J=>Y cur y<|E ▸ J
 · by_cases A:z=z0
   · subst A;rw [oR] at hk;rw [mF (fun e=>G (Av e).symm)];rcases O k hk with h1 | h1
     · exact h.sep z y k G h1
     · exact fun h2=>by have :=(dK (h.own y) h2).2; omega
   · rw [mF (fun e=>A<|Av e)] at hk;by_cases aa:y=z0
     · subst aa;rw [oR];intro h2;rcases O k h2 with h1 | h1
       · exact h.sep z y k G hk h1
       · have :=(dK (h.own z) hk).2; omega
     · rw [mF (fun e=>aa<|Av e)];exact h.sep z y k G hk
theorem Xy (F:aX) (i z:Nat):fW F (i+1) z=fW F i z++(if z∈bq F (cH F (i:Int)) 2 then [i] else []):=by
 unfold fW;rw [Ce,s9];congr 1;by_cases h:z∈bq F (cH F (i:Int)) 2
 · rw [if_pos h,o3,if_pos (decide_eq_true h)]; rfl
 · rw [if_neg h,o3,if_neg (by simpa using h)]; rfl
def pO (F:aX) (i j z:Nat):List Nat:=fW F i z++(if z∈(bq F (cH F (i:Int)) 2).take j then [i] else [])
theorem X5 (F:aX) (i z:Nat):pO F i 0 z=fW F i z:=by unfold pO; rw [oq,if_neg (fun h=>by cases h),eJ]
theorem X3 (F:aX) (i z:Nat):fW F (i+1) z=pO F i (bq F (cH F (i:Int)) 2).length z:=by unfold pO; rw [List.take_length,Xy]
theorem X4 {F:aX} {i j:Nat} (C:j < (bq F (cH F (i:Int)) 2).length) (z:Nat):pO F i (j+1) z=if z=(bq F (cH F (i:Int)) 2).getD j 0 then pO F i j z++ [i] else pO F i j z:=by
 unfold pO;have hs:((bq F (cH F (i:Int)) 2).take<|j+1)=(bq F (cH F (i:Int)) 2).take j++ [(bq F (cH F (i:Int)) 2).getD j 0]:=fX _ j 0 C;have E:(bq F (cH F (i:Int)) 2).Nodup:=(E9 F _ 2).imp fun h=>aj;have G:(bq F (cH F (i:Int)) 2).getD j 0∉(bq F (cH F (i:Int)) 2).take j:=fun hm=>by
  have h2:=(List.take_sublist (j+1)<|bq F (cH F (i:Int)) 2).nodup E;rw [hs,List.nodup_append] at h2;exact h2.2.2 _ hm _ (gD.2 ag) ag
 rw [hs];by_cases A:z=(bq F (cH F (i:Int)) 2).getD j 0
 · subst A;rw [if_pos rfl,if_pos (wz _<|gD.2 rfl),if_neg G,eJ]
 · rw [if_neg A];congr 1;have :z∈(bq F (cH F (i:Int)) 2).take j++ [(bq F (cH F (i:Int)) 2).getD j 0]↔z∈(bq F (cH F (i:Int)) 2).take j:=by
    rw [gq,gD]; exact ⟨fun h=>h.resolve_right A,.inl⟩
   by_cases hm:z∈(bq F (cH F (i:Int)) 2).take j
   · rw [if_pos hm,if_pos (this.2 hm)]
   · rw [if_neg hm,if_neg (fun h=>hm<|this.1 h)]
theorem aco (B tb:Nat) (U:gO) (F:aX) (xs:List bE) (w:World) (ao:gj w B tb U F xs) (ai:eH F xs):
 bw aE 57 (bl [a6 tb]) w (fun v w'=> ∃ kb ar cr rn fm dm,v=a6 kb∧lC w w' B kb tb U F xs ar cr rn fm dm∧kK w'.heap dm (fun _=>False)∧Wk w w'):=by
 have cp:=ai.len;refine enter func57 ag ntmps57 ag<|ak fun br=>az<|br<|ak fun bx=>p mv<|p mv<|p (nc ag)<|p (fa Aa ag)<|p (ld gP ag<|(bo ao.cells).trans ag)<|e<|cl zq (y1 B U.fb U.mc F U.V w ao.fl (by have :=ai.len; omega) ai.nx) ag ?_;rintro v12 cy ⟨⟨⟨v9,v10,v11,v12,sa,rn⟩,rfl,hax⟩,hE12⟩;obtain ⟨ar,cr,aP⟩:=cM hax.dR;have aP:v12=_:=aP;subst aP;have cq:=hE12.size;have ca:rn.length=F.rules.length:=by have :=hax.nx.1; rwa [fH] at this
 have cb:∀ u∈rn,u.oneCell'=true :=fun u hu=>List.all_eq_true.1 (zd hax.nx) u hu;have b8:=hax.dR;refine p (KE KF ag ag)<|e<|tN fun A cz ci aZ bI=> ?_;have cs:=aZ.size;refine e<|tN fun G cA cj aI bK=> ?_;have ct:=aI.size;refine p (dt (ps:= [(0,a6 tb),(1,.slice ar F.rules.length cr),(2,.map (some A)),(3,.map (some G))]) (L:= [a6 tb,.slice ar F.rules.length cr,.map (some A),.map (some G)]) ac0 ag<|ag)<|e<|oB ag fun E Y ck am aU=> ?_;have cu:=am.size;have aV:=(aZ.md.trans aI.md).trans am.md;have aG:=hE12.trans aV;have a7:Y.heap[A]? =some (.map #[] 0):=Wk.aW (aI.md.trans am.md) bI;have b4:Y.heap[G]? =some (.map #[] 0):=Wk.aW am.md bK;have b9:=bc b8 aV;refine az<|bx<|aH fun bz=>ak fun bA=>p mv<|p (nc ag)<|p (fa Ab ag)<|p (ld nB ag<|(bo aU).trans ag)<|p (bN sR ag ag)<|p mv<|nl<|bA<|aW<|lp (fun ab bk J=> ∃ (i:Nat) (f:Value→Option Value),(i≤F.rules.length)∧(Md (fun k=>k=A) Y J)∧(dq J.heap A (lf .i64) f)∧(k3 J Y.heap.size f fun z=>fW F i z)∧(J.heap[E]? =some (.cells [a6 tb,.slice ar F.rules.length cr,.map (some A),.map (some G)].toArray 132 (0,0)))∧(Sl bk [(0,a6 tb),(3,a6 E),(22,ay (F.rules.length)),(23,ay i)])∧(F.rules.length - i=ab)) _ ⟨0,_,aj,(Md.refl _ _),(dq.nil a7),((k3.nil _ _).congr fun z=>rfl),aU,ag,ag⟩ ?_;rintro ab bk J ⟨i,f,hi,aa,a9,aq,a2,cc,rfl⟩;refine bH cc ?_;have bU:Wk w J:=aG.trans' aa fun k hk h=>by omega
 refine ak fun bC=>p (lt ag ag)<|nl<|bC<|aH fun bD=>cd ag (fun b2=> ?_) fun b2=> ?_;refine aT<|bD<|aH fun aC=>aW<|ak fun bF=>aw (ay i)<|p (cV (ay i) ag)<|nl<|bF<|ak fun bG=>aw (a6 tb)<|aw (ay i)<|e<|cl Ja (Om B tb U F xs (i:Nat) J (ao.wk bU) ai) ag ?_;rintro v28 aS ⟨aO,ac⟩;obtain ⟨aD,aF,rfl⟩:=cM aO;have cv:=ac.size;have co:=vC F (cH F (i:Int)) 2;refine p (bN mI ag ag)<|p mv<|nl<|bG<|aW<|lp (fun ab bm O=> ∃ (j:Nat) (g:Value→Option Value),(j≤(bq F (cH F (i:Int)) 2).length)∧(Md (fun k=>k=A) Y O)∧(dq O.heap A (lf .i64) g)∧(k3 O Y.heap.size g fun z=>pO F i j z)∧(O.heap[E]? =some (.cells [a6 tb,.slice ar F.rules.length cr,.map (some A),.map (some G)].toArray 132 (0,0)))∧(bB O J.heap.size 3 1 (.slice aD (bq F (cH F (i:Int)) 2).length aF) (bq F (cH F (i:Int)) 2).length<|(bq F (cH F (i:Int)) 2).map bV)∧(∀ (z k:Nat),((g<|ay z).getD<|cg none 0 0).ownBlock=some k→k < J.heap.size∨aS.heap.size≤k)∧(aS.heap.size≤O.heap.size)∧(Sl bm [(0,a6 tb),(3,a6 E),(4,ay i),(22,ay (F.rules.length)),(23,ay i),(28,.slice aD (bq F (cH F (i:Int)) 2).length aF),(29,.int .i64 ((bq F (cH F (i:Int)) 2).length:Nat)),(30,ay j)])∧((bq F (cH F (i:Int)) 2).length - j=ab)) _ ⟨0,f,aj,(aa.trans' ac fun _ _ h=>h.elim),(a9.wk ac),((aq.wk ac).congr fun z=>X5 F i z),(Wk.aW ac a2),aO,(fun z k hk=> .inl (dK (aq.own z) hk).2),(cU _),ag,ag⟩ ?_;rintro ab bm O ⟨j,g,cn,aN,ax,Z,aJ,aA,aL,cf,ce,rfl⟩;refine bH ce<|ak fun bs=>p (lt ag ag)<|nl<|bs<|aH fun bt=>cd ag (fun b3=> ?_) fun b3=> ?_;refine aT<|bt<|aH fun bu=>aW<|ak fun bv=>p (bh kp ag ag aj<|aR.ok ((bg aA).2)<|bY aj)<|p (ld bL ag<|aR.gQ (i:=j) (bg aA).2<|oL aj)<|az<|bv ?_;have a5:(pO F i j<|(bq F (cH F (i:Int)) 2).getD j 0).length≤F.rules.length+1:=by
  have :=o5 (fun q:Nat=>decide (((bq F (cH F (i:Int)) 2).getD j 0)∈bq F (cH F (q:Int)) 2))<|gZ i;unfold pO fW; rw [bP]; rw [wy] at this; split <;> simp only [fE,gC] <;> omega
 have C:(fun w'=>w'.heap[E]? =some (.cells [a6 tb,.slice ar F.rules.length cr,.map (some A),.map (some G)].toArray 132 (0,0))∧dq w'.heap A (lf .i64) g) O.drew:=⟨aJ,ax⟩
 refine fj (fun w'=>w'.heap[E]? =some (.cells [a6 tb,.slice ar F.rules.length cr,.map (some A),.map (some G)].toArray 132 (0,0))∧dq w'.heap A (lf .i64) g) 14 ag wide C<|eR 0 ag (a8 (a6 E) ag) C<|eR 1 ag (nc ag) C<|eR 2 ag (fa D2 ag) C<|lq 3 ag au (fun w' ah=>ld Cr ag<|(bo ah.1).trans ag) C<|eR 4 ag (mv) C<|eR 5 ag (a8 (a6 E) ag) C<|eR 6 ag (nc ag) C<|eR 7 ag (fa D2 ag) C<|lq 8 ag au (fun w' ah=>ld Cr ag<|(bo ah.1).trans ag) C<|eR 9 ag (mv) C<|lq 10 ag au (fun w' ah=>mX Gu BK EI (ah.2) ag ag (⟨_,ag⟩)<|ag) C<|eR 11 ag (a8 (ay i) ag) C<|ic 12 ag au<|fU lR ag ag fun ch bf cm an bM=> ?_;have cw:=an.size;have I:Wk O bf:=(Md.refl _ O).drew.trans an.md;have bR:(fun w'=>w'.heap[E]? =some (.cells [a6 tb,.slice ar F.rules.length cr,.map (some A),.map (some G)].toArray 132 (0,0))∧dq w'.heap A (lf .i64) g) bf:=⟨Wk.aW an.md C.1,C.2.wk an.md⟩
 refine ⟨bR,?_⟩;refine ic 13 ag au<|ap lR (bc (Z.own<|(bq F (cH F (i:Int)) 2).getD j 0) I) ag (by have :=I.size; have :=aN.size; omega) ag (aR.dZ bM) (ag) (ag) (by have :=a5; omega) (by have :=a5; omega) fun aQ aB b6 ae cx a4=> ?_;have a1:aB.heap[E]? =some (.cells [a6 tb,.slice ar F.rules.length cr,.map (some A),.map (some G)].toArray 132 (0,0)):=ae.jd (TF.own (L:= [5]) (bc (Z.own<|(bq F (cH F (i:Int)) 2).getD j 0) I) aM) (Wk.aW I aJ) aM;have av:dq aB.heap A (lf .i64) g:=(ax.wk I).md ae fun hk=>pV (bc (Z.own<|(bq F (cH F (i:Int)) 2).getD j 0) I) hk fun cur z aK=>(ax.wk I).pT aK;have bS:(fun w'=>w'.heap[E]? =some (.cells [a6 tb,.slice ar F.rules.length cr,.map (some A),.map (some G)].toArray 132 (0,0))∧dq w'.heap A (lf .i64) g) aB:=⟨a1,av⟩
 refine ⟨bS,?_⟩;refine eb 14 ag au au<|tZ Gu EI (av) ag ag ag (⟨_,ag⟩) fun bi al bQ=> ?_;have aY:Md (fun k=>k=A∨((g<|.int .i64 ((((bq F (cH F (i:Int)) 2).getD j 0):Nat):Int)).getD<|cg none 0 0).ownBlock=some k) O bi:=((I.mono fun _ _ h=>h.elim).trans<|ae.mono fun k _ h=> .inr h).trans<|al.mono fun k _ h=> .inl h;have b0:=Z.own<|(bq F (cH F (i:Int)) 2).getD j 0;have bO:Md (fun k=>k=A) Y bi:=aN.trans' aY fun k hk h=>h.elim id fun h2=>by have :=(dK b0 h2).1; omega
 have b1:=k3.put (i:=i) (Z.wk I) ae (by rw [bP,fZ]; exact b6) a4 (fun cur z aK=>av.pT aK) al;have a0:TF aB [1] (fun k=>k=A):=TF.eq (Bn av.choose_spec.1) aM;have bW:=al.jd a0 a1 aM;have b5:∀ k,(cg aD (bq F (cH F (i:Int)) 2).length aF).ownBlock=some k→((g<|.int .i64 ((((bq F (cH F (i:Int)) 2).getD j 0):Nat):Int)).getD<|cg none 0 0).ownBlock≠some k:=fun k hk h2=>by
  have h3:=dK aA hk;have h4:=dK aO hk;have h5:=aL _ k h2;omega
 have b7:=c7 (dz (bc aA I) ae fun k hk h2=>b5 k hk h2) al a0 aM;have bX:∀ (z k:Nat),((bZ g (.int .i64 ((((bq F (cH F (i:Int)) 2).getD j 0):Nat):Int)) aQ<|ay z).getD<|cg none 0 0).ownBlock=some k→k < J.heap.size∨aS.heap.size≤k:=fun z k hk=>by
  by_cases bd:(gY .i64 (z:Nat))=(.int .i64 ((((bq F (cH F (i:Int)) 2).getD j 0):Nat):Int))
  have hk:((bZ g (.int .i64 ((((bq F (cH F (i:Int)) 2).getD j 0):Nat):Int)) aQ<|.int .i64 ((((bq F (cH F (i:Int)) 2).getD j 0):Nat):Int)).getD<|cg none 0 0).ownBlock=some k:=(congrArg (fun q=>((bZ g (.int .i64 ((((bq F (cH F (i:Int)) 2).getD j 0):Nat):Int)) aQ q).getD<|cg none 0 0).ownBlock) bd).symm.trans hk;rw [oR] at hk;rcases a4 k hk with h1 | h1;exact aL _ k h1;have :=I.size; have :=cf; exact .inr aj;rw [mF bd] at hk; exact aL z k hk
 exact fi au<|bn<|bu<|rg ag<|p (bJ ((j+1:Nat):Int) ag ag<|bp aj aj)<|p mv<|nl<|tn<|⟨_,aj,j+1,_,aj,bO,bQ,(b1.congr fun z=>X4 aj z),bW,b7,bX,(by have :=aY.size; omega),ag,ag⟩
 exact ext<|bj<|bj<|be<|bn<|aC<|rg ag<|p (bJ ((i+1:Nat):Int) ag ag<|bp aj aj)<|p mv<|nl<|tn<|⟨_,aj,i+1,_,aj,aN,ax,(Z.congr fun z=>by rw [show j=(bq F (cH F (i:Int)) 2).length by omega]; exact X3 F i z),aJ,ag,ag⟩
 refine ext<|bj<|bj<|be<|bz<|ak fun aC=>aw (a6 E)<|p (cV (a6 E) ag)<|nl<|aC<|rt<|ba ag ?_;obtain rfl :i=F.rules.length:=aj;have bT:TF Y [1] (fun k=>k=A):=TF.eq (by unfold tag; rw [a7]) aM;have bb:G≠A:=aj;have a3:J.heap[G]? =some (.map #[] 0):=aa.aW b4 bb;exact ⟨E,ar,cr,rn,A,G,ag,⟨ao,aG.trans' aa (fun k hk h=>by omega),aj,a2,⟨_,c7 b9 aa bT aM⟩,ca,cb,⟨f,a9,fun z _=>by obtain ⟨a,c,h1⟩:=cM (aq.own z); exact ⟨a,c,_,h1,h1 ▸ aq.own z⟩⟩,fun h=>bb h.symm,⟨_,_,a3⟩⟩,⟨_,l3.nil a3,fun d=>⟨(fun h=>by cases h),fun h=>h.elim⟩,fun k v h=>by cases h⟩,aG.trans' aa fun k hk h=>by omega⟩
end Go.Hb
end
section
namespace Go.Hb.tk
def jZ (a b:Int):Int:=if a < b then -1 else if a > b then 1 else 0
def na:List Int→Int
 | []=>0
 | x::l=>if x≠0 then x else na l
def qv (a b:bO):Int:=na [jZ a.dQ b.dQ,jZ a.fst b.fst,jZ a.snd b.snd,jZ a.pre b.pre]
def lP (a b:bO):Prop :=(a.dQ:Int) < b.dQ∨((a.dQ:Int)=b.dQ∧(a.fst < b.fst∨(a.fst=b.fst∧(a.snd < b.snd∨(a.snd=b.snd∧a.pre < b.pre)))))
theorem Vp (a b:Int):jZ a b < 0↔a < b:=by
 unfold jZ
 repeat' split
 all_goals omega
theorem Vo (a b:Int):jZ a b=0↔a=b:=by
 unfold jZ
 repeat' split
 all_goals omega
theorem aa7 {x:Int} {l:List Int} (h:x≠0):na (x::l)=x:=if_pos h
theorem aa6 {x:Int} {l:List Int} (h:¬x≠0):na (x::l)=na l:=if_neg h
theorem aa5 (x:Int) (l:List Int):na (x::l) < 0↔(x < 0∨(x=0∧na l < 0)):=by show (if x≠0 then x else na l) < 0↔_; split <;> omega
theorem aa8 (a b:bO):qv a b < 0↔lP a b:=by
 have A:¬na [] < 0:=by unfold na; omega
 unfold qv lP;simp only [aa5,Vp,Vo,A,and_false,or_false]
instance aeW:Inhabited bO:=⟨⟨[],0,0,0,0⟩⟩
theorem MX (a b:bO):yH qv a b=true↔lP a b:=by unfold yH; rw [decide_eq_true_iff]; exact aa8 a b
theorem EZ (a b:bO):yH qv a b=false↔¬lP a b:=by rw [← MX]; cases yH qv a b <;> simp
theorem adA:Go.Sort.SWO (yH qv) where
 irrefl x:=by rw [EZ]; unfold lP; omega
 trans x y z h1 h2:=by rw [MX] at*; unfold lP at*; omega
 ntrans x y z h1 h2:=by rw [EZ] at*; unfold lP at*; omega
def abL:Ql:=⟨fun n=>if n=6 then 60 else if n=14 then 105 else if n=15 then 66 else if n=20 then 169 else if n=21 then 170 else if n=22 then 171 else if n=23 then 172 else if n=24 then 173 else if n=25 then 174 else if n=26 then 175 else if n=27 then 176 else if n=28 then 123 else if n=29 then 124 else if n=46 then 222 else if n=47 then 184 else if n=48 then 185 else if n=49 then 223 else if n=50 then 224 else if n=57 then 260 else 0,fun n=>if n=0 then 0 else if n=3 then 3 else if n=4 then 4 else if n=5 then 5 else if n=9 then 9 else if n=22 then 29 else if n=25 then 137 else if n=39 then 145 else if n=45 then 232 else if n=46 then 233 else if n=50 then 237 else if n=53 then 240 else if n=55 then 242 else if n=66 then 287 else if n=70 then 291 else if n=76 then 335 else if n=77 then 219 else if n=24 then 49 else 0,fun n=>n⟩
theorem ML:aeQ aE abL where
 mixed:=au
 f6:= .intro "slices.SortFunc[[]hornbook/api.Derived,hornbook/api.Derived]" ⟨au,au⟩
 f14:= .intro "slices.pdqsortCmpFunc[hornbook/api.Derived]" ⟨au,au⟩
 f15:=au
 f20:= .intro "slices.insertionSortCmpFunc[hornbook/api.Derived]" ⟨au,au⟩
 f21:= .intro "slices.heapSortCmpFunc[hornbook/api.Derived]" ⟨au,au⟩
 f22:= .intro "slices.breakPatternsCmpFunc[hornbook/api.Derived]" ⟨au,au⟩
 f23:= .intro "slices.choosePivotCmpFunc[hornbook/api.Derived]" ⟨au,au⟩
 f24:= .intro "slices.reverseRangeCmpFunc[hornbook/api.Derived]" ⟨au,au⟩
 f25:= .intro "slices.partialInsertionSortCmpFunc[hornbook/api.Derived]" ⟨au,au⟩
 f26:= .intro "slices.partitionEqualCmpFunc[hornbook/api.Derived]" ⟨au,au⟩
 f27:= .intro "slices.partitionCmpFunc[hornbook/api.Derived]" ⟨au,au⟩
 f28:=au
 f29:=au
 f46:= .intro "slices.siftDownCmpFunc[hornbook/api.Derived]" ⟨au,au⟩
 f47:=au
 f48:=au
 f49:= .intro "slices.medianAdjacentCmpFunc[hornbook/api.Derived]" ⟨au,au⟩
 f50:= .intro "slices.medianCmpFunc[hornbook/api.Derived]" ⟨au,au⟩
 f57:= .intro "slices.order2CmpFunc[hornbook/api.Derived]" ⟨au,au⟩
 t0:=au
 a0:=fun _=>au
 z0:=fun _=>au
 v0:=fun _=>au
 t3:=au
 a3:=fun _=>au
 z3:=fun _=>au
 v3:=fun _=>au
 t4:=au
 a4:=fun _=>au
 z4:=fun _=>au
 v4:=fun _=>au
 t5:=au
 a5:=fun _=>au
 z5:=fun _=>au
 v5:=fun _=>au
 t9:=au
 a9:=fun _=>au
 z9:=fun _=>au
 v9:=fun _=>au
 t22:=au
 a22:=fun _=>au
 z22:=fun _=>au
 v22:=fun _=>au
 t25:=au
 a25:=fun _=>au
 z25:=fun _=>au
 v25:=fun _=>au
 t39:=au
 a39:=fun _=>au
 z39:=fun _=>au
 v39:=fun _=>au
 t45:=au
 a45:=fun _=>au
 z45:=fun _=>au
 v45:=fun _=>au
 t46:=au
 a46:=fun _=>au
 z46:=fun _=>au
 v46:=fun _=>au
 t50:=au
 a50:=fun _=>au
 z50:=fun _=>au
 v50:=fun _=>au
 t53:=au
 a53:=fun _=>au
 z53:=fun _=>au
 v53:=fun _=>au
 t55:=au
 a55:=fun _=>au
 z55:=fun _=>au
 v55:=fun _=>au
 t66:=au
 a66:=fun _=>au
 z66:=fun _=>au
 v66:=fun _=>au
 t70:=au
 a70:=fun _=>au
 z70:=fun _=>au
 v70:=fun _=>au
 t76:=au
 a76:=fun _=>au
 z76:=fun _=>au
 v76:=fun _=>au
 t77:=au
 a77:=fun _=>au
 z77:=fun _=>au
 v77:=fun _=>au
section
open Go.Sort Go.ChangeShapes Go.WideShapes
variable {w:World} {g n:Nat} {os:Array Obj} {cur:Array Value} {e:TypeId}
theorem Y9 {L:List Value} (A:w.heap[g]? =some (.cells cur e (0,0))) (G:cur.toList.take L.length=L):Holds id w g 0 L.toArray:=by
 intro j E;have C:j < L.length:=by simpa using E
 refine ⟨?_,by simp [World.frozen?,A]⟩;have h1:(cur.toList.take L.length)[j]? =L[j]? :=by rw [G]
 rw [QM C] at h1;simp only [World.cell?,A,Nat.zero_add];simp only [Option.isSome_none,Bool.false_eq_true,if_false];rw [← wg,h1];simp [C]
theorem Y6 (d:Array Value) (A:w.heap[g]? =some (.cells cur e (0,0))):(grow (putRow id (yI w n) g 0 d) os).heap[g]? =some (.cells (putCells id 0 d cur) e (0,0)):=by
 have C:g < w.heap.size:=(dT.1 A).1;rw [heap_grow_old _ _ (by simpa using C)];simp [putRow,mapBlock,yI,PU,A,onCells]
theorem YA (d:Array Value):w.grownBy (grow (putRow id (yI w n) g 0 d) os) (some g):=by
 refine ⟨ag,ag,ag,by simp,fun k hk A=> ?_⟩;rw [heap_grow_old _ _ (by simpa using hk)];have :g≠k:=fun e=>A<|by rw [e]
 simp [putRow,mapBlock,yI,PU,this]
theorem adH (cur:Array Value) (L:List Value) (h:L.length≤cur.size):(putCells id 0 L.toArray cur).toList.take L.length=L:=by
 apply List.ext_getElem?;intro j;by_cases A:j < L.length
 · rw [QM A,wg];simp [putCells,A,show j < cur.size by omega]
 · rw [List.getElem?_take_eq_none aj,List.getElem?_eq_none aj]
theorem Lk (L:List bO):flatK ei 5 L.toArray=(gl L).toArray:=by
 have E:(gl L).length=L.length*5:=mV (f:=ei) (m:=5) (fun _=>rfl) L;apply Array.ext_getElem?;intro t;by_cases A:t < L.length*5
 · have C:t / 5 < L.length:=aj;have h1:(gl L)[t]? =(ei L[t / 5])[t % 5]? :=by
    have :=zZ (f:=ei) (m:=5) (fun _=>rfl) (cz C) (show t % 5 < 5 by omega);rwa [show t / 5 *5 +t % 5=t by omega] at this
   have h2:=get_flatK ei 5 L.toArray t<|by simpa using A
   have h3:(flatK ei 5 L.toArray)[t]? =some (flatK ei 5 L.toArray)[t]! :=by
    rw [vZ (by simpa using A),getElem!_pos _ _ (by simpa using A)]
   rw [h3,h2,List.getElem?_toArray,h1,show L.toArray[t / 5]! =L[t / 5] by simp [C]];rw [cz (show t % 5 < (ei L[t / 5]).length by show t % 5 < 5; omega),getElem!_pos (ei L[t / 5]) (t % 5) (show t % 5 < (ei L[t / 5]).length by show t % 5 < 5; omega)]
 · rw [rK (by simp; omega),rK (by simp; omega)]
end
theorem Mu (a:Int) (w:World):
 bw aE 177 (bl [.int .i64 a]) w (fun v w'=>v= .bool false∧w'=w):=by
 exact enter func177 ag ntmps177 ag<|ak fun A=>az<|A<|ak fun C=>aw (.int .i64 a)<|aw (.int .i64 a)<|p (dw ag ag)<|az<|C<|rt<|ba ag<|⟨congrArg cy (decide_eq_false fun h=>h ag),ag⟩
theorem zz (a b:Int) (w:World):
 bw aE 107 (bl [.int .i64 a,.int .i64 b]) w (fun v w'=>v= .int .i64 (jZ a b)∧w'=w):=by
 refine enter func107 ag ntmps107 ag<|ak fun E=>az<|E<|ak fun I=>aw (.int .i64 a)<|e<|cl IB (Mu a w) ag ?_;rintro ae ac ⟨rfl,rfl⟩;refine az<|I<|ak fun J=>aw (.int .i64 b)<|e<|cl IB (Mu b ac) ag ?_;rintro v10 ah ⟨rfl,rfl⟩;refine az<|J<|aH fun O=>ak fun V=>p mv<|nl<|V<|cf ag<|aT<|O<|aH fun Y=>ak fun Z=>p mv ?_;refine nl<|Z<|cf ag<|aT<|Y<|aH fun aa=>ak fun ab=>aw (.int .i64 a)<|aw (.int .i64 b)<|p (lt ag ag)<|nl<|ab<|cd ag (fun h1=> ?_) fun h1=> ?_;exact ak fun A=>az<|A<|rt<|tr<|ba ag<|⟨congrArg (gY .i64) (show (-1:Int)=jZ a b by unfold jZ; rw [if_pos h1]),ag⟩
 refine aT<|aa<|aH fun A=>ak fun G=>aw (.int .i64 a)<|aw (.int .i64 b)<|p (gt ag ag)<|nl<|G<|cd ag (fun h2=> ?_) fun h2=> ?_;exact ak fun C=>az<|C<|rt<|tr<|ba ag<|⟨congrArg (gY .i64) (show (1:Int)=jZ a b by unfold jZ; rw [if_neg h1,if_pos h2]),ag⟩
 exact aT<|A<|ak fun C=>az<|C<|rt<|ba ag<|⟨congrArg (gY .i64) (show (0:Int)=jZ a b by unfold jZ; rw [if_neg h1,if_neg h2]),ag⟩
theorem aa4 (l:List Int) (a:Option Addr) (c:Nat) (w:World) (I:aR w.heap a (l.map<|gY .i64)) (ap:l.length≤1000):
 bw aE 106 (bl [.slice a l.length c]) w (fun v w'=>v= .int .i64 (na l)∧w'=w):=by
 refine enter func106 ag ntmps106 ag<|ak fun Y=>az<|Y<|ak fun aa=>p aJ<|nl<|aa<|aH fun ab=>ak fun ac=>aw (.slice a l.length c)<|p (bN mI ag ag)<|p mv<|nl<|ac<|aW<|lp (fun G V O=> ∃ (i:Nat),(i≤l.length)∧(na (l.drop i)=na l)∧(O=w)∧(Sl V [(3,.int .i64 0),(6,.slice a l.length c),(7,ay (l.length)),(8,ay i)])∧(l.length - i=G)) _ ⟨0,aj,ag,ag,ag,ag⟩ ?_;rintro G V O ⟨i,hi,A,am,ao,rfl⟩;refine bH ao ?_;subst am;refine ak fun ae=>p (lt ag ag)<|nl<|ae<|aH fun ah=>cd ag (fun an=> ?_) fun an=> ?_;refine aT<|ah<|aH fun C=>aW<|aH fun ai=> ?_;have J:l.drop i=l.getD i 0::l.drop (i+1):=by rw [List.drop_eq_getElem_cons (show i < l.length by omega),da,cz (show i < l.length by omega)]; rfl
 refine rg ag<|p (bh kp ag ag aj<|aR.ok (I)<|bY aj)<|p (ld bL ag<|aR.gQ I (show (l.map<|gY .i64)[i]? =some (.int .i64<|l.getD i 0) by rw [gi,da,cz (by omega :i < l.length)]; rfl)) ?_;refine az<|ai<|ak fun al=>p mv<|aw (.int .i64 0)<|p (dw ag ag)<|nl<|al<|cd ag (fun E=> ?_) fun E=> ?_;exact ak fun Z=>p mv<|az<|Z<|rt<|br<|tr<|tr<|br<|tr<|ba ag<|⟨congrArg (gY .i64) (show l.getD i 0=na l by rw [← A,J,aa7 E]),ag⟩
 exact aT<|bn<|C<|rg ag<|p (bJ ((i+1:Nat):Int) ag ag<|bp aj aj)<|p mv<|nl<|tn<|⟨_,aj,i+1,aj,(by rw [← A,J,aa6 E]),ag,ag,ag⟩
 refine ext<|bj<|bj<|be<|ab<|ak fun C=>aw (.int .i64 0)<|p (cV (.int .i64 0) ag)<|nl<|C<|rt<|ba ag ?_;rw [List.drop_eq_nil_of_le aj] at A;exact ⟨by rw [← A]; rfl,ag⟩
def mO (w w':World):Prop := ∃ q os,w'=Qm (w.drewN q) os
theorem mO.refl (w:World):mO w w:=⟨0,#[],by simp [World.drewN]⟩
theorem mO.nw {w A C:World} (h:mO w A) (hn:Nw A C):mO w C:=by
 obtain ⟨q,os,rfl⟩:=h;obtain ⟨o,rfl⟩:=hn.one;exact ⟨q,os.push o,by simp [Qm]⟩
theorem mO.drew {w A:World} (h:mO w A):mO w A.drew:=by
 obtain ⟨q,os,rfl⟩:=h;exact ⟨q+1,os,ag⟩
theorem aba (a b:bO) (w:World):
 bw aE 61 (bl [.agg (ei a).toArray,.agg (ei b).toArray]) w (fun v w'=>v= .int .i64 (qv a b)∧mO w w'):=by
 refine enter func61 ag ntmps61 ag<|ak fun av=>e<|je ag fun ax aO G aN aB=> ?_;have G:bX aO.heap ax (ei a):=aB;refine e<|je ag fun aA E I Z aD=> ?_;have I:bX E.heap aA (ei b):=aD;have G:=Wk.B Z.md G;have aL:=((mO.refl w).nw aN).nw Z;refine az<|av<|aH fun aw=> ?_;have A:(fun w'=>Wk E w') E.drew:=(Md.refl _ _).drew;refine cj (fun w'=>Wk E w') ag wide A<|aU 0 ag (fa pN ag) A<|bS 1 ag (fun w' C=>ld bL ag<|Wk.a7 C<|G.bF 1) A<|aU 2 ag (fa pN ag) A<|bS 3 ag (fun w' C=>ld bL ag<|Wk.a7 C<|I.bF 1) A<|aU 5 ag (fa nJ ag) A<|bS 6 ag (fun w' C=>ld bL ag<|Wk.a7 C<|G.bF 2) A<|aU 7 ag (fa nJ ag) A<|bS 8 ag (fun w' C=>ld bL ag<|Wk.a7 C<|I.bF 2) A<|aU 10 ag (fa nK ag) A<|bS 11 ag (fun w' C=>ld bL ag<|Wk.a7 C<|G.bF 3) A<|aU 12 ag (fa nK ag) A<|bS 13 ag (fun w' C=>ld bL ag<|Wk.a7 C<|I.bF 3) A<|aU 15 ag (fa rk ag) A<|bS 16 ag (fun w' C=>ld bL ag<|Wk.a7 C<|G.bF 4) A<|aU 17 ag (fa rk ag) A<|bS 18 ag (fun w' C=>ld bL ag<|Wk.a7 C<|I.bF 4) A<|he 4 ag au<|cl zh (zz (a.dQ:Nat) (b.dQ:Nat) E.drew) ag ?_;rintro v9 V ⟨rfl,ao⟩;have aM:mO w V:=ao ▸ aL.drew;have ah:(fun w'=>Wk E w') V:=ao ▸ A;refine ⟨ah,?_⟩;refine he 9 ag au<|cl zh (zz a.fst b.fst V) ag ?_;rintro aS J ⟨rfl,aj⟩;have aF:mO w J:=aj ▸ aM;have ai:(fun w'=>Wk E w') J:=aj ▸ ah;refine ⟨ai,?_⟩;refine he 14 ag au<|cl zh (zz a.snd b.snd J) ag ?_;rintro aT O ⟨rfl,al⟩;have aG:mO w O:=al ▸ aF;have aa:(fun w'=>Wk E w') O:=al ▸ ai;refine ⟨aa,?_⟩;refine he 19 ag au<|cl zh (zz a.pre b.pre O) ag ?_;rintro v24 ap ⟨rfl,am⟩;have aI:mO w ap:=am ▸ aG;have ab:(fun w'=>Wk E w') ap:=am ▸ aa;refine ⟨ab,?_⟩;refine he 20 ag au<|tx (L:= [.int .i64 (jZ (a.dQ:Nat) (b.dQ:Nat)),.int .i64 (jZ a.fst b.fst),.int .i64 (jZ a.snd b.snd),.int .i64 (jZ a.pre b.pre)]) lR ag ag ag ag fun ay aq aQ Y aC=> ?_;have aK:=aI.nw Y;have ac:(fun w'=>Wk E w') aq:=ab.trans Y.md;refine ⟨ac,?_⟩;refine he 21 ag au<|cl Sv (aa4 [jZ (a.dQ:Nat) (b.dQ:Nat),jZ a.fst b.fst,jZ a.snd b.snd,jZ a.pre b.pre] (some ⟨ay,0,none⟩) 4 aq (aR.dZ ⟨_,aC⟩)<|by show 4≤1000; omega) ag ?_;rintro v26 aP ⟨rfl,an⟩;have ae:(fun w'=>Wk E w') aP:=an ▸ ac;refine ⟨ae,?_⟩;exact aU 22 ag (aJ) ae<|hn au<|aw<|rt<|ba ag<|⟨ag,an ▸ aK⟩
section
open Go.Sort Go.ChangeShapes Go.WideShapes
theorem Vn (aW size:Nat) (w:World):CmpLays aE 61 #[] ei 5 qv aW 0 size w:=by
 intro m os A _ x y;refine lU (aba x y<|sortWorldK ei 5 w aW 0 m A os) ?_;rintro e w' ⟨v,rfl,rfl,h⟩;exact ⟨ag,h⟩
theorem F9 (L:List bO) (h:SortedIn (ltOf qv) 0 L.toArray.size L.toArray):L.Pairwise fun a b=> ¬lP b a:=by
 rw [List.pairwise_iff_getElem];intro i j hi A C;have :=h i j (iK _) C<|by simpa using A
 rw [EZ] at this;simpa [hi,A] using this
theorem acM (B n:Nat) (v:Value) (L:List bO) (w:World) (O:bB w B 49 5 v n (gl L)) (J:L.length=n) (hn:n < 4611686018427387904):
 bw aE 60 [v,.func (.func 61) #[] #[]].toArray w (fun ah w'=>ah= .tuple #[]∧∃ A:List bO,A.Perm L∧(A.Pairwise fun a b=> ¬lP b a)∧bB w' B 49 5 v n (gl A)∧Md (fun k=>v.ownBlock=some k) w w'):=by
 rcases O.2 with ⟨rfl,ai⟩ | ⟨g,cap,cur,rfl,V,G,h1,h2,h3,h4⟩
 · subst J;have ae:L= []:=fY aj;subst ae;refine lU (AnyF.slices_SortFunc_none ML none 0 _ w) ?_;rintro e w' ⟨rfl,rfl⟩;exact ⟨_,ag,ag,[],Qw _,List.Pairwise.nil,O,Md.refl _ _⟩
 · subst J;have aa:(gl L).length=L.length*5:=mV (f:=ei) (m:=5) (fun _=>rfl) L;have hH:HoldsK ei 5 w g 0 L.toArray:=by
    show Holds id w g 0 (flatK ei 5 L.toArray);rw [Lk];exact Y9 G<|by rw [aa]; exact h4
   refine lU (AnyQ.slices_SortFunc ML 5 (fun _=>by kernel_rfl) (fun _=>by kernel_rfl) ei (fun _=>rfl) (fun x u hu=> ?_) qv adA 61 #[] g 0 cap L.toArray w (fun args w=> ?_) (Vn g _ w) hH (dT.1 G).1 (by simpa using hn)) ?_
   · simp only [ei,eL,List.not_mem_nil,or_false] at hu;rcases hu with rfl | rfl | rfl | rfl | rfl <;> rfl
   · exact Ua args w
   · rintro e w' ⟨rfl,d',m,os,hp,hs,rfl⟩;obtain ⟨A,rfl⟩:∃ A:List bO,d'=A.toArray:=⟨d'.toList,by simp⟩
     have E:A.length=L.length:=by simpa using hp.1
     have ac:A.Perm L:=by
      have :=hp.2.2;have Y:List.take L.length A=A:=eK aj;have Z:List.take A.length L=L:=eK aj;simpa [Y,Z] using this
     have hw:sortWorldK ei 5 w g 0 m A.toArray os=grow (putRow id (yI w m) g 0 (gl A).toArray) os:=by
      unfold sortWorldK putRowK; rw [Lk]
     rw [hw];have I:(gl A).length=A.length*5:=mV (f:=ei) (m:=5) (fun _=>rfl) A;have C:=YA (w:=w) (g:=g) (n:=m) (os:=os) (gl A).toArray;refine ⟨_,ag,ag,A,ac,F9 A (by rw [show A.toArray.size=L.toArray.size by simpa using E]; exact hs),⟨by rw [I,E],.inr ⟨g,cap,_,ag,V,Y6 _ G,h1,h2,by simp [putCells,h3],?_⟩⟩,⟨C.os,C.output,C.size,fun k hk ab=>C.block k hk fun he=>ab ?_⟩⟩
     · rw [← E,← I];exact adH cur (gl A)<|by rw [I,E]; omega
     · simp only [jU]; exact he.symm
end
end Go.Hb.tk
end
section
namespace Go.Hb
open Go.Hb.tk
noncomputable def dV (F:aX) (xs:List bE) (w:Tx):List bO:=(kN F xs xs.length).filter fun d=>decide (d.eZ=w)
section
variable {F:aX} {xs:List bE} {wd:Tx} {i:Nat}
theorem acr (d:bO):pW F xs wd 0 d↔(False∨pC F xs wd wd (-1) F.rules.length d):=by
 unfold pW;exact ⟨fun h=> .inr (h.resolve_right fun ⟨i,_,h,_⟩=>by omega),fun h=> .inl<|h.resolve_left id⟩
theorem Oj {r:dd} (E:F.rules[i]? =some r) (h:r.kind≠1∨gH r wd=none) (d:bO):pW F xs wd (i+1) d↔pW F xs wd i d:=by
 unfold pW;constructor
 · rintro (h1 | ⟨k,C,hk,A,h2,st,h3,h4⟩)
   · exact .inl h1
   · rcases qc.1 hk with hk | rfl
     · exact .inr ⟨k,C,hk,A,h2,st,h3,h4⟩
     · rw [E] at A; cases A;rcases h with h | h
       · exact absurd h2 h
       · rw [h] at h3; cases h3
 · rintro (h1 | ⟨k,C,hk,h2⟩)
   · exact .inl h1
   · exact .inr ⟨k,C,aj,h2⟩
theorem acq {r:dd} {rest:Tx} (G:F.rules[i]? =some r) (hk:r.kind=1) (hu:gH r wd=some rest) (d:bO):pW F xs wd (i+1) d↔(pW F xs wd i d∨pC F xs wd rest (i:Nat) F.rules.length d):=by
 unfold pW;constructor
 · rintro (h1 | ⟨k,E,A,C,h2,st,h3,h4⟩)
   · exact .inl<|.inl h1
   · rcases qc.1 A with A | rfl
     · exact .inl<|.inr ⟨k,E,A,C,h2,st,h3,h4⟩
     · rw [G] at C; cases C;rw [hu] at h3; cases h3;exact .inr h4
 · rintro ((h1 | ⟨k,E,A,h2⟩) | h1)
   · exact .inl h1
   · exact .inr ⟨k,E,aj,h2⟩
   · exact .inr ⟨i,r,aj,G,hk,rest,hu,h1⟩
end
theorem Pe {α:Type} (p q:α→Bool) (h:∀ x,p x=true→q x=false):∀ l:List α,(l.filter p).length+(l.filter q).length≤l.length
 | []=>cU _
 | x::l=>by
   have A:=Pe p q h l;rw [o3,o3,db];by_cases hp:p x=true
   · rw [if_pos hp,if_neg (by rw [h x hp]; exact eA),db]; omega
   · rw [if_neg hp];split
     · rw [db]; omega
     · omega
def mZ (F:aX) (k:Nat):Nat:=((gZ F.rules.length).filter fun i=>decide ((F.rules.getD i dU).kind=k)).length
theorem aaE (F:aX):mZ F 1 +mZ F 2≤F.rules.length:=by
 have :=Pe (fun i=>decide ((F.rules.getD i dU).kind=1)) (fun i=>decide ((F.rules.getD i dU).kind=2)) (fun i h=>by have :=of_decide_eq_true h; exact decide_eq_false aj)<|gZ F.rules.length;unfold mZ; rw [wy] at this; exact this
theorem filter_le {α:Type} {p q:α→Bool} (h:∀ x,p x=true→q x=true):∀ l:List α,(l.filter p).length≤(l.filter q).length
 | []=>cU _
 | x::l=>by
   have A:=filter_le h l;rw [o3,o3];by_cases hp:p x=true
   · rw [if_pos hp,if_pos (h x hp),db,db]; omega
   · rw [if_neg hp]; split
     · rw [db]; omega
     · exact A
theorem E7 (F:aX) (fs:List Nat) (k:Nat):(bq F fs k).length≤mZ F k:=filter_le (fun i h=>decide_eq_true (of_decide_eq_true h).1) _
theorem z1 {α β:Type} {g:α→List β} {m:Nat} (h:∀ x,(g x).length≤m):∀ l:List α,(l.flatMap g).length≤l.length*m
 | []=>iK _
 | x::l=>by
   have :=z1 h l; have :=h x;rw [kI,bP,db,Nat.succ_mul]; omega
theorem Dh (F:aX) (xs:List bE) (e:Nat) (u:Tx) (f s:Int):(iL F xs e u f s).length≤mZ F 1 +1:=by
 unfold iL oE;have h1:=List.length_filterMap_le (nE F xs e u f s)<|bq F (flagsOf xs e) 1;have h2:=E7 F (flagsOf xs e) 1;rw [bP];split <;> simp only [fE,gC] <;> omega
theorem Wq (F:aX) (xs:List bE) (e:Nat):(kg F xs e).length≤(mZ F 1 +1)+mZ F 2 *((mZ F 1 +1)+mZ F 2 *(mZ F 1 +1)):=by
 have h1:∀ u f z,(nZ F xs e u f z).length≤mZ F 1 +1:=fun u f z=>by
  unfold nZ; split
  · exact iK _
  · exact Dh ..
 have h2:∀ s,(mh F xs e s).length≤(mZ F 1 +1)+mZ F 2 *(mZ F 1 +1):=fun s=>by
  unfold mh; split
  · exact iK _
  · rename_i u _;rw [bP];refine Q5 (Dh ..)<|fu (z1 (fun z=>h1 u s z) _)<|qO _<|E7 ..
 unfold kg;rw [bP];exact Q5 (Dh ..)<|fu (z1 h2 _)<|qO _<|E7 ..
theorem abx {p s:Nat} (h:p+s≤1024):(p+1)+s*((p+1)+s*(p+1))≤269748225:=by
 obtain ⟨a,rfl⟩:∃ a,s=1024 - p - a:=⟨1024 - p - s,aj⟩
 have hs:1024 - p - a≤1024 - p:=Nat.sub_le _ _;have hp:p≤1024:=aj;have h4:∀ x y:Nat,x+y≤1026→x*y≤263169:=fun x y I=>by
  rcases Nat.le_total x y with hle | hle
  · obtain ⟨d,rfl⟩:=Hu hle;have h1:x≤513:=aj;have h2:x+d≤1026 - x:=aj;refine fu (Nat.mul_le_mul_left x h2) ?_;obtain ⟨q,E,rfl⟩:∃ q,q≤513∧x=513 - q:=⟨513 - x,aj,aj⟩
    rw [show 1026 - (513 - q)=513 +q by omega,Nat.sub_mul,yU,yU];have :q*513=513 *q:=wP _ _;omega
  · obtain ⟨d,rfl⟩:=Hu hle;have h1:y≤513:=aj;have h2:y+d≤1026 - y:=aj;refine fu (qO y h2) ?_;obtain ⟨q,E,rfl⟩:∃ q,q≤513∧y=513 - q:=⟨513 - y,aj,aj⟩
    rw [show 1026 - (513 - q)=513 +q by omega,wP,Nat.sub_mul,yU,yU];have :q*513=513 *q:=wP _ _;omega
 generalize 1024 - p - a=s at hs;have h5:=h4 (p+1) (s+1) aj;have A:(p+1)+s*((p+1)+s*(p+1))≤((p+1)*(s+1))*(s+1):=by
  have C:((p+1)*(s+1))*(s+1)=(p+1)+s*((p+1)+s*(p+1))+s*(p+1):=by
   simp only [yU,Nat.add_mul,nu,Nat.one_mul];have G:s*p=p*s:=wP _ _;have a2:s*(s*p)=p*s*s:=by rw [wP s p,wP]
   omega
  rw [C]; exact Nat.le_add_right _ _
 refine fu A<|fu (Nat.mul_le_mul h5 (show s+1≤1025 by omega)) aM
theorem zb {F:aX} {xs:List bE} (A:F.rules.length≤1024) (C:xs.length≤8192):(kN F xs xs.length).length≤2209777459200:=by
 have h1:∀ e,(kg F xs e).length≤269748225:=fun e=>fu (Wq F xs e)<|abx<|fu (aaE F) A;have h2:=z1 h1<|gZ xs.length;unfold kN;rw [wy] at h2;omega
theorem R8 {a b:bO} (h:uO a b=true) (he:a.dQ=b.dQ):lP a b:=by
 unfold uO at h;unfold lP;split at h
 · have :=of_decide_eq_true h; omega
 · split at h
   · have :=of_decide_eq_true h; omega
   · have :=of_decide_eq_true h; omega
theorem RM (F:aX) (xs:List bE) (n:Nat):(kN F xs n).Pairwise lP:=by
 unfold kN;rw [List.pairwise_flatMap];refine ⟨fun e _=> ?_,List.pairwise_lt_range.imp fun {a b} I x E y G=> ?_⟩
 · refine (Wu F xs e).imp_of_mem fun {a b} A C h=> ?_;exact R8 h<|by rw [(tK A).1,(tK C).1]
 · unfold lP;have h1:=(tK E).1;have h2:=(tK G).1;omega
theorem KG (F:aX) (xs:List bE) (w:Tx):(dV F xs w).Pairwise lP:=(RM F xs xs.length).sublist List.filter_sublist
theorem Xo (F:aX) (xs:List bE) (w:Tx):(dV F xs w).Nodup:=(KG F xs w).imp fun h e=>by subst e; unfold lP at h; omega
theorem AF {F:aX} {xs:List bE} {w:Tx} {d:bO} :d∈dV F xs w↔d∈kN F xs xs.length∧d.eZ=w:=by
 unfold dV; rw [oo,decide_eq_true_iff]
theorem KH {w:Tx} :∀ (l m:List bO),(l.Pairwise fun a b=> ¬lP b a)→m.Pairwise lP→(∀ d∈m,d.eZ=w)→l.Perm m→l=m
 | [],m,_,_,_,hp=>by rw [hp.symm.eq_nil]
 | a::l,[],_,_,_,hp=>by have :=hp.length_eq; simp at this
 | a::l,b::m,hl,hm,hw,hp=>by
   rw [lz] at hl hm;have A:a=b:=by
    have h1:a∈b::m:=hp.subset<|o6 ..;have h2:b∈a::l:=hp.symm.subset<|o6 ..;rcases eL.1 h1 with h1 | h1
    · exact h1
    · rcases eL.1 h2 with h2 | h2
      · exact h2.symm
      · exact absurd (hm.1 a h1)<|hl.1 b h2
   subst A;rw [KH l m hl.2 hm.2 (fun d hd=>hw d<|om _ hd) ((List.perm_cons a).1 hp)]
theorem O2 {α:Type} [DecidableEq α]:∀ (l m:List α),l.Nodup→(∀ x∈l,x∈m)→l.length≤m.length
 | [],_,_,_=>iK _
 | a::l,m,hl,hs=>by
   rw [List.nodup_cons] at hl;have h1:=O2 l (m.erase a) hl.2 fun x A=>(List.mem_erase_of_ne fun e=>by subst e; exact hl.1 A).2<|hs x<|om _ A;have h2:=List.length_erase_of_mem<|hs a<|o6 ..;have h3:=List.length_pos_of_mem<|hs a<|o6 ..;rw [db]; omega
theorem Mv {f:Value→Option Value} {left :List (Value×Value)} (A:∀ k v,f k=some v↔(k,v)∈left) (d:bO):(f<|fg d).isSome=true↔fg d∈left.map iW:=by
 rw [ot,iT];exact ⟨fun ⟨v,h⟩=>⟨_,(A _ v).1 h,ag⟩,fun ⟨⟨k,v⟩,h,e⟩=>⟨v,(A _ v).2<|by rw [← e]; exact h⟩⟩
theorem Z1 {left :List (Value×Value)} {m:List bO} (hk:∀ p∈left,rp p.1) (hn:(left.map iW).Nodup) (hm:∀ d,d∈m↔fg d∈left.map iW):left.length≤m.length:=by
 haveI :DecidableEq Value:=fun a b=>Classical.propDecidable<|a=b
 have :=O2 (left.map iW) (m.map fg) hn (fun x A=>by
  obtain ⟨p,hp,rfl⟩:=iT.1 A;obtain ⟨d,hd⟩:=hk p hp;rw [hd];exact List.mem_map_of_mem ((hm d).2<|by rw [← hd]; exact A))
 simpa using this
theorem F3 (B tb:Nat) (U:gO) (F:aX) (xs:List bE) (wd:Tx) (w:World) (cP:gj w B tb U F xs) (C:eH F xs) (cO:F.rules.length≤1024) (dD:wd.length≤2097152):
 bw aE 30 (bl [a6 tb,str wd]) w (fun v w'=>bB w' w.heap.size 49 5 v (dV F xs wd).length (gl<|dV F xs wd)∧Wk w w'):=by
 have dE:=C.xl;have dx:=C.len;have cQ:=zb cO C.xl;refine enter func30 ag ntmps30 ag<|ak fun b4=>az<|b4<|aH fun b6=>ak fun b7=>p mv<|p (lJ yq ag ag)<|nl<|b7<|cf (ag)<|aT<|b6<|aH fun b8=>rg ag<|p mv<|e<|cl T8 (aco B tb U F xs w cP C) ag ?_;rintro dM Y ⟨kb,ar,cr,rn,fm,dm,rfl,E,cB,a5⟩;have dr:=E.lt;have dl:=E.lo;refine az<|b8<|ak fun b9=>p mv<|p (dt (ps:= [(0,str wd),(2,.int .i64 (-1)),(3,.int .i64 (-1)),(4,.int .i64 (-1))]) (L:= [str wd,.int .i64 0,.int .i64 (-1),.int .i64 (-1),.int .i64 (-1)]) Gg ag<|ag)<|e<|hU GQ fun ae dS dj br ct=> ?_;have dH:=br.size;refine e<|gS Dt ag ag ag ag ct aM fun au cH cs=> ?_;have a7:Wk Y au:=br.md.trans' cH fun q J h=>by omega
 have bA:au.heap[ae]? =some (.cells [str wd,.int .i64 0,.int .i64 (-1),.int .i64 (-1),.int .i64 (-1)].toArray 49 (0,0)):=cs;have bR:Md (fun k=>k=dm) Y au:=a7.mono fun _ _ h=>h.elim;have cD:=cB.md a7 id;have aU:¬(ae=dm):=aj;refine nl<|b9<|ak fun ca=>p mv<|p mv<|p (dp oz ag (ag) fun q J=>(pw bA).bF q)<|e<|cl Jb (Jm w Y B kb tb U F xs ar cr rn fm dm E C wd wd 0 (-1) (fun _=>False) au bR cD aj aj) ag ?_;rintro v22 dP ⟨rfl,cC,bg⟩;have bM:=bR.trans bg;have cS:=bg.aW bA aU;refine nl<|ca<|aH fun cc=>ak fun ce=>p mv<|p (nc ag)<|p (fa Ab ag)<|p (ld nB ag<|(bo<|E.at bM).trans ag)<|p (bN sR ag ag)<|p mv<|nl<|ce<|aW<|lp (fun ah b2 am=> ∃ (i:Nat) (bZ:Int),(i≤F.rules.length)∧(Md (fun k=>k=dm) Y am)∧(kK am.heap dm<|pW F xs wd<|i)∧(am.heap[ae]? =some (.cells [str wd,.int .i64 0,.int .i64 (-1),.int .i64 (-1),.int .i64 bZ].toArray 49 (0,0)))∧(Sl b2 [(1,str wd),(5,a6 kb),(6,a6 ae),(26,.slice ar F.rules.length cr),(27,ay (F.rules.length)),(28,ay i)])∧(F.rules.length - i=ah)) _ ⟨0,_,aj,bM,(cC.congr acr),cS,ag,ag⟩ ?_;rintro ah b2 am ⟨i,bZ,hi,V,bd,cU,c8,rfl⟩;refine bH c8<|ak fun cg=>p (lt ag ag)<|nl<|cg<|aH fun b5=>cd ag (fun cZ=> ?_) fun cZ=> ?_;refine aT<|b5<|aH fun ab=>aW<|aH fun aA=> ?_;obtain ⟨r,O⟩:∃ r,F.rules[i]? =some r:=⟨_,cz aj⟩
 obtain ⟨u,a0⟩:=E.jG O;have dc:=E.ro u (QT<|gL a0).2;refine rg ag<|aw (ay i)<|p (bh nH ag ag aj<|aR.ok (E.rules V)<|oV a0)<|p (dp l6 ag (ag)<|fO (f:=fk) (m:=7) (fun _=>rfl) (E.rules V) a0)<|e<|hU rH fun cj dU aO bt cv=> ?_;have dL:=bt.size;refine p (cV (ay i) ag)<|e<|gS pI ag ag ag (Og dc) cv aM fun av cI cw=> ?_;have aI:Wk am av:=bt.md.trans' cI fun q J h=>by omega
 have aO:bX av.heap cj (fk (r,u)):=⟨_,cw⟩
 have bS:Md (fun k=>k=dm) Y av:=V.trans' aI fun _ _ h=>h.elim;have bb:=bd.md aI id;have bC:=Wk.aW aI cU;refine nl<|aA<|aH fun aB=>ak fun aC=>p (fa xC ag)<|p (ld bL ag<|aO.bF 0)<|p (dw ag ag)<|nl<|aC<|cd ag (fun hk=> ?_) fun hk=> ?_;have aQ:=Oj (xs:=xs) (wd:=wd) O<|.inl (show r.kind≠1 by have h:=hk; dsimp only at h; omega);exact ext<|bj<|be<|ab<|rg ag<|p (bJ ((i+1:Nat):Int) ag ag<|bp aj aj)<|p mv<|nl<|tn<|⟨_,aj,i+1,_,aj,bS,(bb.congr aQ),bC,ag,ag⟩
 have c0:r.kind=1:=by have h:=hk; dsimp only at h; omega
 refine aT<|aB<|ak fun aD=>p (dp l6 ag (ag) fun q J=>aO.bF q)<|aw (str wd)<|e<|cl Da (GC r u wd av (C.jG O).2.2.1 (oS C O).2.1 (oS C O).2.2.1 aj) ag ?_;rintro v39 df ⟨rfl,aG⟩;have bQ:Md (fun k=>k=dm) Y df:=bS.trans' aG fun _ _ h=>h.elim;have a9:=bb.md aG id;have bz:=Wk.aW aG bC;refine p mv<|p (xt ag ag)<|p (xt ag ag)<|p aJ<|az<|aD<|aH fun ac=>rg ag<|p mv<|nl<|ac<|cb ag (fun aP=> ?_) fun aP=> ?_;obtain ⟨rest,aZ⟩:∃ rest,gH r wd=some rest:=ot.1<|by simpa using aP
 have dA:=Pq aZ;have dv:=(oS C O).1;have dy:r.strip.length≤32:=(C.jG O).2.2.1;have bY:(gH r wd).getD []=rest:=by rw [aZ]; rfl
 have cR:=acq (xs:=xs) O c0 aZ;refine ak fun aF=>aw (ay i)<|p (fa rk ag)<|e<|dB hZ ag ag (v:=ay i) ag bz (by show 4 < 5; omega) fun a2 bf co=> ?_;have bx:a2.heap[ae]? =some (.cells [str wd,.int .i64 0,.int .i64 (-1),.int .i64 (-1),ay i].toArray 49 (0,0)):=co;have bK:Md (fun k=>k=dm) Y a2:=bQ.trans' bf fun q J h=>by omega
 have cA:=a9.md bf fun h=>aU h.symm;refine nl<|aF<|rg ag<|aw (a6 kb)<|p mv<|p (dp oz ag (ag) fun q J=>(pw bx).bF q)<|e<|cl Jb (Jm w Y B kb tb U F xs ar cr rn fm dm E C wd ((gH r wd).getD []) 0 (i:Nat) (pW F xs wd<|i) a2 bK cA aj<|by rw [bY]; omega) ag fun dN dR bu=> ?_;rw [bY] at bu;obtain ⟨rfl,cE,bi⟩:=bu;have c3:=bK.trans bi;have cT:=bi.aW bx aU;exact nl<|bn<|ab<|rg ag<|p (bJ ((i+1:Nat):Int) ag ag<|bp aj aj)<|p mv<|nl<|tn<|⟨_,aj,i+1,_,aj,c3,(cE.congr cR),cT,ag,ag⟩
 have aQ:=Oj (xs:=xs) (wd:=wd) O<|.inr (show gH r wd=none by simpa using aP);exact aT<|bn<|ab<|rg ag<|p (bJ ((i+1:Nat):Int) ag ag<|bp aj aj)<|p mv<|nl<|tn<|⟨_,aj,i+1,_,aj,bQ,(a9.congr aQ),bz,ag,ag⟩
 refine ext<|bj<|bj<|be<|cc<|ak fun ab=>p aJ<|nl<|ab<|aH fun aA=>aH fun aB=> ?_;obtain rfl :i=F.rules.length:=aj;obtain ⟨fd,cY,bD,dq⟩:=bd;refine rg ag<|aw (a6 kb)<|p (nc ag)<|p (fa Lr ag)<|p (ld HO ag<|(bo<|E.at V).trans ag)<|e<|rgm Gv cY ag fun al aa left du bq cF bG bT bI=> ?_;have dG:=bq.size;have an:Wk w aa:=(a5.trans' V fun k hk h=>by omega).trans bq.md;have ds:left.length≤2209777459200:=by
  have :=Z1 bG bT fun d=>(show d∈dV F xs wd↔_ from AF.trans<|(Ol d).symm.trans<|(bD d).symm.trans<|Mv bI d)
  exact fu this<|fu (o5 _ _) cQ
 refine nl<|aB<|aW<|lp (fun ah b3 ax=> ∃ (aq:List (Value×Value)) (A:List bO) (G:Option Addr) (I:Nat),((left.map iW).Perm<|A.map fg++aq.map iW)∧(qU ax.heap al dm aq)∧(bB ax aa.heap.size 49 5 (.slice G A.length I) A.length<|gl A)∧(Md (fun k=>k=al) aa ax)∧(Sl b3 [(11,.slice G A.length I),(54,a6 al)])∧(aq.length=ah)) _ ⟨left,[],none,0,(Qw _),cF,(dC _ _ _ _),(Md.refl _ _),ag,ag⟩ ?_;rintro ah b3 ax ⟨aq,A,G,I,Z,cK,ao,aK,c9,rfl⟩;refine bH c9<|ak fun aC=>e<|nxb cK ag fun dh dd a1 b1 cm cn=>p (nxe ag)<|nl<|aC<|aH fun aD=>cb ag (fun aN=> ?_) fun aN=> ?_;obtain ⟨aY,aL,a8⟩:=cn aN;obtain ⟨kx,vx⟩:=dd;obtain ⟨d,rfl⟩:rp kx:=by
  have h1:kx∈left.map iW:=Z.mem_iff.2<|wz _<|(aY.map iW).mem_iff.2<|by simp
  obtain ⟨q,J,rfl⟩:=iT.1 h1;exact bG q J
 have c2:=aY.length_eq;have aS:=Z.length_eq;simp only [bP,fH,db] at c2 aS;refine aT<|aD<|aW<|aH fun ac=> ?_;have bU:=dz ao aL fun k hk h=>by have :=(dK ao hk).1; omega
 refine rg ag<|p (dQ a8 ag)<|p (xt ag ag)<|e<|hU GQ fun ci dO bv bm cp=> ?_;have dF:=bm.size;refine e<|gS Dt ag ag ag ag cp aM fun b0 cG cq=> ?_;have cx:Wk b1 b0:=bm.md.trans' cG fun q J h=>by omega
 have bv:bX b0.heap ci (ei d):=⟨_,cq⟩
 refine nl<|ac<|rg ag<|aw (.slice G A.length I)<|p (dp oz ag (ag) fun q J=>bv.bF q)<|e<|lF Bb ag ag ag fun di dT dk bs cu=> ?_;have dI:=bs.size;have ai:=cx.trans bs.md;refine e<|ap Bb (bc bU ai) ag (by have :=ai.size; have :=aL.size; have :=aK.size; omega) ag (aR.dZ cu) (ag) (ag) aj aj fun de a3 c4 bk dJ dn=> ?_;have bV:bB a3 aa.heap.size 49 5 de (A++ [d]).length (gl<|A++ [d]):=by rw [show gl (A++ [d])=gl A++ei d from by unfold gl; rw [o4,List.flatMap_singleton],bP]; exact c4
 have aV:=bc bU ai;have cL:qU a3.heap al dm a1:=((a8.mri).md (ai.trans<|Md.refl _ _) id id).md bk (fun h=>by have :=(dK aV h).1; have :=V.size; omega) fun h=>by have :=(dK aV h).1; have :=V.size; omega
 have cy:Md (fun k=>k=al) aa a3:=(aK.trans aL).trans' (ai.mono (fun _ _ h=>h.elim) |>.trans' bk (fun k hk h=>h)) fun k hk h=>by have :=(dK aV h).1; omega
 obtain ⟨ch,ck,rfl⟩:=cM bV;have cN:(left.map iW).Perm ((A++ [d]).map fg++a1.map iW):=by
  refine Z.trans ?_;rw [fZ,e6];exact (aY.map iW).append_left _
 exact p aJ<|nl<|bn<|tn<|⟨_,aj,a1,A++ [d],ch,ck,cN,cL,bV,cy,ag,ag⟩
 obtain ⟨c1,rfl⟩:=cm aN;refine ext<|bj<|bj<|be<|aA<|aH fun ac=> ?_;have aS:=Z.length_eq;simp only [bP,fH] at aS;rw [c1,List.map_nil,eJ] at Z;refine rg ag<|aw (.slice G A.length I)<|e<|cl T9 (acM aa.heap.size A.length (.slice G A.length I) A b1 ao ag aj) ag ?_;rintro v64 dg ⟨rfl,a4,bW,da,c5,cJ⟩;refine nl<|ac<|ak fun aF=>aw (.slice G A.length I)<|p (cV (.slice G A.length I) ag)<|nl<|aF<|rt<|ba ag ?_;have cX:A.Nodup:=by
  have h1:(A.map fg).Nodup:=Z.nodup_iff.1 bT;exact (List.pairwise_map.1 h1).imp fun h e=>h<|congrArg fg e
 have cW:∀ d,d∈A↔d∈dV F xs wd:=fun d=>by
  have h1:fg d∈left.map iW↔fg d∈A.map fg:=Z.mem_iff;rw [AF,← Ol,← bD,Mv bI,h1,iT];exact ⟨fun h=>⟨d,h,ag⟩,fun ⟨e,he,hk⟩=>EH hk ▸ he⟩
 have c7:a4.Perm (dV F xs wd):=bW.trans<|(List.perm_ext_iff_of_nodup cX<|Xo F xs wd).2 cW;obtain rfl :=KH a4 _ da (KG F xs wd) (fun d hd=>(AF.1 hd).2) c7;have c6:∀ n,n=A.length→bB dg aa.heap.size 49 5 (.slice G A.length I) n (gl<|dV F xs wd):=by intro n hn; rw [hn]; exact c5
 exact ⟨eT (c6 _ bW.length_eq) (by have :=an.size; omega),(an.trans' aK fun k hk h=>by have :=an.size; have :=a5.size; have :=V.size; omega).trans' cJ fun k hk h=>by have :=(dK ao h).1; have :=an.size; omega⟩
theorem acs (wd:Tx) (w:World):
 bw aE 30 (bl [.pointer none,str wd]) w (fun v w'=>v= .slice none 0 0∧Wk w w'):=by
 exact enter func30 ag ntmps30 ag<|ak fun A=>az<|A<|aH fun G=>ak fun C=>p mv<|p (lJ yq ag ag)<|nl<|C<|ct (ag)<|ak fun E=>p aJ<|nl<|E<|rt<|tr<|ba ag<|⟨ag,Md.refl _ _⟩
end Go.Hb
end
section
namespace Go.Hb.wT
open Go.Hb.tk
theorem WH (l:List bO):(gl l).length=l.length*5:=mV (f:=ei) (m:=5) (fun _=>rfl) l
theorem WI (l:List bO):(gl l).all gI=true :=DV (fun _=>rfl) l
noncomputable def sV (F:aX) (xs:List bE) (w:Tx) (most:Int):List bO:=(dV F xs w).take (min most 1000).toNat
theorem WJ (l:List bO) (k:Nat):gl (l.take k)=(gl l).take (k*5):=by
 induction l generalizing k with
 | nil=>simp [gl]
 | cons a l A=>
   cases k with
   | zero=>simp [gl]
   | succ k=>
     show ei a++gl (l.take k)=(ei a++gl l).take _;rw [A,show (k+1)*5=(ei a).length+k*5 by show _=5 +k*5; omega,List.take_length_add_append]
theorem aeo {F:aX} {xs:List bE} {w:Tx} {most:Int} :(dV F xs w).take (max 0<|min (min most 1000) ((dV F xs w).length:Nat)).toNat=sV F xs w most:=by
 unfold sV;by_cases h:(min most 1000).toNat≤(dV F xs w).length
 · congr 1; omega
 · rw [eK aj,eK aj]
noncomputable def pG (F:aX) (xs:List bE) (w:Tx) (fb:Bool):Bool:=(dV F xs w).any fun d=>decide (gV F xs d.dQ 1=fb)
section
variable {P:Program} {N:Fm} {σ:Nat→Value} {w:World} {dst:Option Nat} {ty:TypeId} {pos :String} {af:Array Edge} {g:Option (Nat×Bool)} {x y z:Operand}
theorem mn3 {k:IntKind} {a b c:Int} {at_:Array TypeId} (A:ev N σ x= .int k a) (C:ev N σ y= .int k b) (E:ev N σ z= .int k c):
 (execOp (ev N σ) ⟨dst,.call ⟨.builtin .min,#[x,y,z],at_⟩,ty,pos,af,g⟩).run P w= .ok (.value<|.int k<|min (min a b) c) w:=by
 have h1:(if b < a then b else a)=min a b:=aj;have h2:(if c < min a b then c else min a b)=min (min a b) c:=aj;simp [execOp,resolve,invoke,builtin,Builtin.min_,Builtin.min2,A,C,E,h1,h2]
end
theorem Fv {w:World} {B e size n cap:Nat} {xs:List Value} (h:bB w B e size (.slice none n cap) n xs):n=0:=by
 rcases h.2 with ⟨h1,h2⟩ | ⟨g,c,cur,h1,_⟩
 · injection h1 with _ h3 _
 · injection h1 with h2 _ _; cases h2
theorem UR (a:Option Addr) (n c:Nat) (xs:List Value) (w:World) (Y:aR w.heap a xs) (ai:xs.length=n*5) (ab:a=none→n=0) (h1:xs.all gI=true) (hn:n≤1048576):
 bw aE 31 (bl [.slice a n c]) w (fun v w'=>bB w' w.heap.size 49 5 v n xs∧Wk w w'):=by
 refine enter func31 ag ntmps31 ag<|ak fun I=>az<|I<|aH fun J=>ak fun O=>aw (.slice a n c)<|p (sh vQ ag ag)<|nl<|O<|cb ag (fun E=> ?_) fun E=> ?_;have ac:a=none:=by simpa using E
 refine ak fun A=>az<|A<|rt<|tr<|ba ag ?_;have ae:=ab ac;subst ae;obtain rfl :=fY (show xs.length=0 by omega);exact ⟨dC _ _ _ _,Md.refl _ _⟩;refine aT<|J<|ak fun A=>e<|mQ Bb fun ao ax aq C V=> ?_;have G:=V w.heap.size aj;refine aw (.slice a n c)<|e<|ap Bb (G) ag (by have :=C.size; omega) ag (Y.wk C.md) (ai) (h1) aj aj fun am an ah aa av au=> ?_;have Z:=Wk.own C.md G aa<|cU _;refine az<|A<|rt<|ba ag ?_;have al:bB an w.heap.size 49 5 am n xs:=by simpa using ah
 exact ⟨al,Z⟩
theorem aew (B tb:Nat) (U:gO) (F:aX) (xs:List bE) (wd:Tx) (most:Int) (w:World) (ah:gj w B tb U F xs) (ab:eH F xs) (ae:F.rules.length≤1024) (am:wd.length≤2097152):
 bw aE 11 (bl [a6 tb,str wd,.int .i64 most]) w (fun v w'=>bB w' w.heap.size 49 5 v (sV F xs wd most).length (gl<|sV F xs wd most)∧Wk w w'):=by
 refine enter func11 ag ntmps11 ag<|ak fun O=>az<|O<|ak fun V=>p mv<|p mv<|e<|cl zo (F3 B tb U F xs wd w ah ab ae am) ag ?_;rintro v10 an ⟨A,G⟩;obtain ⟨Z,aa,rfl⟩:=cM A;have aq:=(bg A).1;obtain ⟨K,C⟩:∃ K:Nat,(max 0 (min (min most 1000) ((dV F xs wd).length:Nat)):Int)=(K:Int):=⟨(max 0 (min (min most 1000) ((dV F xs wd).length:Nat)):Int).toNat,aj⟩
 have E:=aeo (F:=F) (xs:=xs) (w:=wd) (most:=most);rw [C,kH] at E;have ap:K≤(dV F xs wd).length:=aj;have ao:K≤1000:=aj;have J:(sV F xs wd most).length=K:=by rw [← E,dM]; omega
 refine az<|V<|ak fun Y=>p mv<|p mv<|p mv<|p (bN vQ ag ag)<|p (mn3 ag ag ag)<|p (mx ag ag)<|p (sO xw ag ag aj)<|e<|cl TY (UR Z (max 0 (min (min most 1000) ((dV F xs wd).length:Nat)):Int).toNat aa (gl<|sV F xs wd most) an (by rw [← E,WJ]; exact aR.take (bg A).2 _) (by rw [WH,J,C,kH]) (fun ai=>by subst ai; have :=Fv A; omega) (WI _) aj) ag fun au av I=> ?_;rw [C,kH,← J] at I;obtain ⟨al,ac⟩:=I;exact az<|Y<|rt<|ba ag<|⟨eT al (by have :=G.size; omega),G.trans ac⟩
theorem Vs (B tb:Nat) (U:gO) (F:aX) (xs:List bE) (d:bO) (fb:Bool) (J O:Nat) (w:World) (ah:gj w B tb U F xs) (ab:eH F xs) (ai:Ck w J (some ⟨tb,0,none⟩)) (al:w.heap[O]? =some (.cells [.bool fb].toArray 4 (0,0))):
 bw aE 64 (bl [.agg (ei d).toArray,a6 J,a6 O]) w (fun v w'=>v= .bool (decide (gV F xs d.dQ 1=fb))∧Wk w w'):=by
 refine enter func64 ag ntmps64 ag<|ak fun Y=>e<|je ag fun aa C V G ac=> ?_;have V:bX C.heap aa (ei d):=ac;have aj:=Wk.aW G.md ai;have am:=Wk.aW G.md al;refine az<|Y<|aH fun Z=> ?_;have A:(fun w'=>Wk C w') C.drew:=(Md.refl _ _).drew;refine cj (fun w'=>Wk C w') ag wide A<|bS 0 ag (fun w' E=>ld y6 ag<|Wk.a7 E<|(bo aj).trans ag) A<|aU 1 ag (fa pN ag) A<|bS 2 ag (fun w' E=>ld bL ag<|Wk.a7 E<|V.bF 1) A<|bS 4 ag (fun w' E=>ld nC ag<|Wk.a7 E<|(bo am).trans ag) A<|he 3 ag au<|cl CY (xV B tb U F xs (d.dQ:Nat) 1 C.drew (ah.wk G.md.drew) ab) ag ?_;rintro ao an ⟨rfl,ae⟩;have I:(fun w'=>Wk C w') an:=A.trans ae;refine ⟨I,?_⟩;exact aU 5 ag (DF u4 ag ag) I<|aU 6 ag (aJ) I<|hn au<|Z<|rt<|ba ag<|⟨ag,G.md.trans I⟩
theorem Zi (B tb:Nat) (U:gO) (F:aX) (xs:List bE) (fb:Bool) (C E:Nat) (a:Option Addr) (c:Nat) (L:List bO) (w:World) (ap:gj w B tb U F xs) (ao:eH F xs) (aq:Ck w C (some ⟨tb,0,none⟩)) (au:w.heap[E]? =some (.cells [.bool fb].toArray 4 (0,0))) (V:aR w.heap a (gl L)) (aA:L.length≤4000000000000):
 bw aE 113 (bl [.slice a L.length c,.func (.func 64) #[] #[a6 C,a6 E]]) w (fun v w'=>(∃ k:Int,v= .int .i64 k∧(0≤k↔(L.any fun d=>decide (gV F xs d.dQ 1=fb))=true))∧Wk w w'):=by
 refine enter func113 ag ntmps113 ag<|ak fun ab=>az<|ab<|aH fun ac=>ak fun ae=>p mv<|p (bN vQ ag ag)<|p mv<|nl<|ae<|aW<|lp (fun O aa J=> ∃ (i:Nat),(i≤L.length)∧(∀ j d,j < i→L[j]? =some d→¬(gV F xs d.dQ 1=fb))∧(Wk w J)∧(Sl aa [(0,.slice a L.length c),(1,.func (.func 64) #[] #[a6 C,a6 E]),(7,ay (L.length)),(8,ay i)])∧(L.length - i=O)) _ ⟨0,aj,(fun j d G=>by omega),(Md.refl _ _),ag,ag⟩ ?_;rintro O aa J ⟨i,hi,Z,A,ax,rfl⟩;refine bH ax<|ak fun ah=>p (lt ag ag)<|nl<|ah<|aH fun ai=>cd ag (fun av=> ?_) fun av=> ?_;refine aT<|ai<|aH fun I=>aW<|ak fun al=>aw (ay i)<|p (cV (ay i) ag)<|nl<|al<|aH fun am=> ?_;obtain ⟨d,hd⟩:∃ d,L[i]? =some d:=⟨_,cz aj⟩
 refine rg ag<|aw (.func (.func 64) #[] #[a6 C,a6 E])<|aw (.slice a L.length c)<|aw (ay i)<|p (bh xw ag ag aj<|aR.ok (V.wk A)<|zN aj)<|p (dp oz ag (ag)<|fO (f:=ei) (m:=5) (fun _=>rfl) (V.wk A) hd)<|e<|Vk Ud ag (Vs B tb U F xs d fb C E J (ap.wk A) ao (Wk.aW A aq)<|Wk.aW A au) ag ?_;rintro aB aC ⟨rfl,Y⟩;refine nl<|am<|cb ag (fun hm=> ?_) fun hm=> ?_;exact ak fun an=>aw (ay i)<|p (cV (ay i) ag)<|nl<|an<|rt<|br<|tr<|tr<|br<|tr<|ba ag<|⟨⟨(i:Nat),ag,fun _=>B4.2 ⟨d,gL hd,decide_eq_true<|of_decide_eq_true hm⟩,fun _=>by omega⟩,A.trans Y⟩
 exact aT<|bn<|I<|rg ag<|p (bJ ((i+1:Nat):Int) ag ag<|bp aj aj)<|p mv<|nl<|tn<|⟨_,aj,i+1,aj,(fun j e G he=>by rcases qc.1 G with h | rfl; exact Z j e h he; rw [hd] at he; cases he; exact of_decide_eq_false hm),(A.trans Y),ag,ag⟩
 exact ext<|bj<|bj<|be<|ac<|ak fun I=>p aJ<|nl<|I<|rt<|ba ag<|⟨⟨-1,ag,fun h=>absurd h aj,fun h=>by obtain ⟨d,hd,h1⟩:=B4.1 h; obtain ⟨j,G⟩:=List.getElem?_of_mem hd; exact absurd (of_decide_eq_true h1)<|Z j d (by have :=(List.getElem?_eq_some_iff.1 G).1; omega) G⟩,A⟩
theorem Vw (B tb:Nat) (U:gO) (F:aX) (xs:List bE) (fb:Bool) (A C:Nat) (a:Option Addr) (c:Nat) (L:List bO) (w:World) (V:gj w B tb U F xs) (I:eH F xs) (Y:Ck w A (some ⟨tb,0,none⟩)) (Z:w.heap[C]? =some (.cells [.bool fb].toArray 4 (0,0))) (J:aR w.heap a (gl L)) (O:L.length≤4000000000000):
 bw aE 63 (bl [.slice a L.length c,.func (.func 64) #[] #[a6 A,a6 C]]) w (fun v w'=>v= .bool (L.any fun d=>decide (gV F xs d.dQ 1=fb))∧Wk w w'):=by
 refine enter func63 ag ntmps63 ag<|ak fun E=>az<|E<|ak fun G=>p mv<|p mv<|e<|cl Sz (Zi B tb U F xs fb A C a c L w V I Y Z J O) ag ?_;rintro ac ae ⟨⟨ab,rfl,aa⟩,hE7⟩;exact p (ge ag ag)<|az<|G<|rt<|ba ag<|⟨by show cy (decide (ab≥0))=_; exact congrArg cy (by rw [Bool.eq_iff_iff,decide_eq_true_iff]; exact aa),hE7⟩
theorem Jz (B tb:Nat) (U:gO) (F:aX) (xs:List bE) (wd:Tx) (fb:Bool) (w:World) (O:gj w B tb U F xs) (C:eH F xs) (J:F.rules.length≤1024) (ao:wd.length≤2097152):
 bw aE 33 (bl [a6 tb,str wd,.bool fb]) w (fun v w'=>v= .bool (pG F xs wd fb)∧Wk w w'):=by
 refine enter func33 ag ntmps33 ag<|ak fun Y=>e<|CF ag ag fun ab ay au am ah=>e<|CF ag ag fun ac ap av I ai=> ?_;have G:=Wk.aW I.md ah;have E:=am.md.trans I.md;refine az<|Y<|ak fun Z=>p (ld y6 ag<|(bo G).trans ag)<|p mv<|e<|cl zo (F3 B tb U F xs wd ap (O.wk E) C J ao) ag ?_;rintro v9 aq ⟨V,A⟩;obtain ⟨aa,ae,rfl⟩:=cM V;have an:=zb J C.xl;have aw:(dV F xs wd).length≤2209777459200:=fu (o5 _ _) an;refine p M9<|e<|cl Uc (Vw B tb U F xs fb ab ac aa ae (dV F xs wd) aq (O.wk<|E.trans A) C (Wk.aW A G) (Wk.aW A ai) (bg V).2 aj) ag ?_;rintro v11 ax ⟨rfl,al⟩;exact az<|Z<|rt<|ba ag<|⟨ag,(E.trans A).trans al⟩
theorem RN (B tb:Nat) (U:gO) (F:aX) (xs:List bE) (wd:Tx) (w:World) (J:gj w B tb U F xs) (E:eH F xs) (I:F.rules.length≤1024) (O:wd.length≤2097152):
 bw aE 14 (bl [a6 tb,str wd]) w (fun v w'=>v= .bool (pG F xs wd false)∧Wk w w'):=by
 refine enter func14 ag ntmps14 ag<|ak fun A=>az<|A<|ak fun C=>p mv<|p mv<|e<|cl I5 (Jz B tb U F xs wd false w J E I O) ag ?_;rintro V Y ⟨rfl,G⟩;exact az<|C<|rt<|ba ag<|⟨ag,G⟩
theorem XY (B tb:Nat) (U:gO) (F:aX) (xs:List bE) (wd:Tx) (w:World) (J:gj w B tb U F xs) (E:eH F xs) (I:F.rules.length≤1024) (O:wd.length≤2097152):
 bw aE 15 (bl [a6 tb,str wd]) w (fun v w'=>v= .bool (pG F xs wd true)∧Wk w w'):=by
 refine enter func15 ag ntmps15 ag<|ak fun A=>az<|A<|ak fun C=>p mv<|p mv<|e<|cl I5 (Jz B tb U F xs wd true w J E I O) ag ?_;rintro V Y ⟨rfl,G⟩;exact az<|C<|rt<|ba ag<|⟨ag,G⟩
theorem HD (B tb:Nat) (U:gO) (F:aX) (xs:List bE) (wd:Tx) (w:World) (J:gj w B tb U F xs) (G:eH F xs) (I:F.rules.length≤1024) (O:wd.length≤2097152):
 bw aE 16 (bl [a6 tb,str wd]) w (fun v w'=>v= .bool (pG F xs wd false && !pG F xs wd true)∧Wk w w'):=by
 refine enter func16 ag ntmps16 ag<|ak fun V=>az<|V<|ak fun E=>p mv<|p mv<|e<|cl SI (RN B tb U F xs wd w J G I O) ag ?_;rintro aa Z ⟨rfl,A⟩;refine p mv<|gb (t:=8) ag (fun C=> ?_) fun C=> ?_;refine aV ag mv<|aV ag mv<|eg ag ag ag<|cl xj (XY B tb U F xs wd Z (J.wk A) G I O) ag ?_;rintro v11 ab ⟨rfl,Y⟩;exact aV ag (no ag)<|p (bI ag)<|az<|E<|rt<|ba ag<|⟨by rw [C]; rfl,A.trans Y⟩
 exact aQ ag<|aQ ag<|aQ ag<|aQ ag<|p (bD ag)<|az<|E<|rt<|ba ag<|⟨by rw [C]; rfl,A⟩
end Go.Hb.wT
end
namespace Go.Hb
def abN:Ql:=⟨fun n=>if n=125 then 66 else if n=128 then 123 else if n=129 then 124 else if n=190 then 35 else if n=258 then 65 else if n=302 then 114 else if n=303 then 115 else if n=304 then 116 else if n=305 then 117 else if n=306 then 118 else if n=307 then 119 else if n=308 then 120 else if n=309 then 121 else if n=310 then 122 else if n=329 then 184 else if n=330 then 185 else if n=333 then 183 else if n=334 then 186 else if n=335 then 187 else if n=336 then 188 else if n=344 then 231 else 0,fun n=>if n=0 then 0 else if n=3 then 3 else if n=4 then 4 else if n=5 then 5 else if n=9 then 9 else if n=31 then 35 else if n=46 then 145 else if n=51 then 240 else if n=53 then 242 else if n=131 then 237 else if n=182 then 232 else if n=183 then 233 else if n=218 then 287 else if n=222 then 291 else if n=228 then 335 else if n=229 then 219 else 0,fun n=>n⟩
theorem MN:Go.Proofs.Lays.n190 aE abN where
 mixed:=au
 f125:=au
 f128:=au
 f129:=au
 f190:=au
 f258:=au
 f302:=au
 f303:=au
 f304:=au
 f305:=au
 f306:=au
 f307:=au
 f308:=au
 f309:=au
 f310:=au
 f329:=au
 f330:=au
 f333:=au
 f334:=au
 f335:=au
 f336:=au
 f344:=au
 t0:=au
 a0:=fun _=>au
 z0:=fun _=>au
 v0:=fun _=>au
 t3:=au
 a3:=fun _=>au
 z3:=fun _=>au
 v3:=fun _=>au
 t4:=au
 a4:=fun _=>au
 z4:=fun _=>au
 v4:=fun _=>au
 t5:=au
 a5:=fun _=>au
 z5:=fun _=>au
 v5:=fun _=>au
 t9:=au
 a9:=fun _=>au
 z9:=fun _=>au
 v9:=fun _=>au
 t31:=au
 a31:=fun _=>au
 z31:=fun _=>au
 v31:=fun _=>au
 t46:=au
 a46:=fun _=>au
 z46:=fun _=>au
 v46:=fun _=>au
 t51:=au
 a51:=fun _=>au
 z51:=fun _=>au
 v51:=fun _=>au
 t53:=au
 a53:=fun _=>au
 z53:=fun _=>au
 v53:=fun _=>au
 t131:=au
 a131:=fun _=>au
 z131:=fun _=>au
 v131:=fun _=>au
 t182:=au
 a182:=fun _=>au
 z182:=fun _=>au
 v182:=fun _=>au
 t183:=au
 a183:=fun _=>au
 z183:=fun _=>au
 v183:=fun _=>au
 t218:=au
 a218:=fun _=>au
 z218:=fun _=>au
 v218:=fun _=>au
 t222:=au
 a222:=fun _=>au
 z222:=fun _=>au
 v222:=fun _=>au
 t228:=au
 a228:=fun _=>au
 z228:=fun _=>au
 v228:=fun _=>au
 t229:=au
 a229:=fun _=>au
 z229:=fun _=>au
 v229:=fun _=>au
theorem OL (B n:Nat) (v:Value) (A:List (List UInt8)) (w:World) (G:bB w B 9 1 v n (A.map str)) (J:A.length < 4611686018427387904):
 bw aE 35 [v].toArray w (fun Y w'=>Y= .tuple #[]∧bB w' B 9 1 v n ((A.mergeSort fun x y=>decide (x≤y)).map str)∧Md (fun k=>v.ownBlock=some k) w w'):=by
 have hn:A.length=n:=by have :=G.1; simpa using this
 have hlen:(A.mergeSort fun x y=>decide (x≤y)).length=A.length:=Hr _;rcases G.2 with ⟨rfl,Z⟩ | ⟨g,cap,cur,rfl,I,E,h1,h2,h3,h4⟩
 · have V:A= []:=fY aj;subst V;refine lU (Any.slices_Sort_string_none MN none 0 w) ?_;rintro e w' ⟨rfl,rfl⟩;exact ⟨_,ag,ag,by rw [List.mergeSort_nil]; exact G,Md.refl _ _⟩
 · subst hn;rw [nu] at h4;refine lU (calls_of_every_depth fun D=>AnyS.slices_Sort_string_alone MN D g 0 cap A w (holds_of_block E h4) (dT.1 E).1 J) ?_;rintro e w' ⟨rfl,m,os,rfl⟩;have C:=grownBy_sorted (w:=w) (g:=g) (n:=m) (os:=os) (A.mergeSort fun x y=>decide (x≤y)).toArray;refine ⟨_,ag,ag,ownsRow_sorted hlen I E h1 h2 h3,⟨C.os,C.output,C.size,fun k hk O=>C.block k hk fun he=>O ?_⟩⟩;simp only [jU]; exact he.symm
end Go.Hb
section
namespace Go.Hb
def iM:List Tx→List Tx
 | []=> []
 | [x]=> [x]
 | x::y::l=>if x=y then iM (y::l) else x::iM (y::l)
theorem Wa (x y:Tx):∀ l:List Tx,iM (l++ [x,y])=if x=y then iM (l++ [x]) else iM (l++ [x])++ [y]:=by
 intro l
 induction l with
 | nil=>by_cases h:x=y <;> simp [iM,h]
 | cons a l A=>
   cases l with
   | nil=>by_cases h:a=x <;> by_cases h2:x=y <;> simp_all [iM]
   | cons b l=>
     simp only [List.cons_append] at A ⊢;rw [iM,A,iM];by_cases h:a=b <;> by_cases h2:x=y <;> simp [h,h2]
theorem JX (x:Tx):∀ l:List Tx,x∈iM l↔x∈l:=by
 intro l
 induction l with
 | nil=>simp [iM]
 | cons a l A=>
   cases l with
   | nil=>simp [iM]
   | cons b l=>
     rw [iM];by_cases h:a=b
     · subst h; rw [if_pos rfl,A]; simp
     · rw [if_neg h,eL,A,eL (a:=x) (b:=a)]
section
variable {d:Array Tx}
theorem Gs (d:Array Tx) (i:Nat):d.toList.getD i []=d[i]! :=by
 rw [da,wg];by_cases h:i < d.size
 · rw [vZ h,getElem!_pos d i h]; rfl
 · rw [rK aj,getElem!_neg d i h]; rfl
theorem vN (d:Array Tx):d.toList.length=d.size:=by simp
theorem Bq {i:Nat} (h:i < d.size):d.toList.take (i+1)=d.toList.take i++ [d[i]!]:=by
 rw [fX d.toList i [] (by simpa using h),Gs]
theorem zE {q:Nat} (h1:1≤q) (h:q < d.size):iM (d.toList.take<|q+1)=if d[q - 1]! =d[q]! then iM (d.toList.take q) else iM (d.toList.take q)++ [d[q]!]:=by
 obtain ⟨q,rfl⟩:∃ k,q=k+1:=⟨q - 1,aj⟩
 rw [Bq h,Bq aj,e6,Nat.add_sub_cancel];exact Wa _ _ _
theorem zL {d2:Array Tx} {k j:Nat} (h:d.toList.drop k=d2.toList.drop k) (hk:k≤j):d[j]! =d2[j]! :=by
 have :=congrArg (fun l=>l.getD (j - k) []) h;simp only [da,qJ,show k+(j - k)=j from by omega] at this;rw [← Gs,← Gs]; simpa [da] using this
theorem acu {k m:Nat} {v:Tx} (h:k < m):(d.setIfInBounds k v).toList.drop m=d.toList.drop m:=by
 rw [yy,List.drop_set,if_pos h]
theorem acv {k:Nat} {v:Tx} (h:k < d.size):(d.setIfInBounds k v).toList.take (k+1)=d.toList.take k++ [v]:=by
 rw [yy,List.set_eq_take_append_cons_drop,if_pos (by simpa using h),uw,dM,Array.length_toList,Nat.min_eq_left aj,Nat.add_sub_cancel_left,eK (by rw [dM]; omega)];rfl
theorem EK {h:Array Obj} {a:Option Addr} {i j:Nat} (A:aR h a ((LE str d).drop i)) (hi:i+j < d.size):Hb.a7 h (bk a) (fo a+j*1)=some (str d[i+j]!):=by
 refine A.gQ ?_;rw [qJ]; exact EO hi
theorem EL {i:Nat} (h:i < d.size):(LE str d).drop i≠[]:=by
 intro e; have :=congrArg jV e; rw [fM,sE,gC] at this; omega
theorem vK {w:World} {B e n cp i:Nat} {a:Option Addr} (h:w.ownsRow B e 1 (.slice a n cp) n (LE str d)):aR w.heap (fR a cp i 1) ((LE str d).drop i):=by
 have :=(bg h).2.drop (cap:=cp) (k:=i) (size:=1)<|by rw [sE]; have h1:=gd h; have h2:=(bg h).1; omega
 rwa [nu] at this
theorem adD (d:Array Tx) (k:Nat):(LE str d).take k=(d.toList.take k).map str:=by simp [LE,List.map_take]
theorem abb {w:World} {B e size n cp:Nat} {a:Option Addr} {xs:List Value} (h:bB w B e size (.slice a n cp) n xs) (hn:0 < n):a≠none:=by
 rintro rfl;rcases h.2 with ⟨_,h5⟩ | ⟨g,cap,cur,h4,_⟩
 · omega
 · simp at h4
end
theorem JA (d:Array Tx) (B n cp:Nat) (A:Option Addr) (w:World) (hO:w.ownsRow B 9 1 (.slice A n cp) n (LE str d)) (bi:n≤4000000000000):
 bw aE 36 (bl [.slice A n cp]) w (fun v w'=> ∃ k,v= .slice A k cp∧k=(iM d.toList).length∧bB w' B 9 1 (.slice A k cp) k ((iM d.toList).map str)∧Md (fun q=>(cg A n cp).ownBlock=some q) w w'):=by
 have bf:=gd hO;have bb:=(bg hO).1;refine enter func36 ag ntmps36 ag<|ak fun aC=>az<|aC<|aH fun aM=>ak fun aN=>aw (.slice A n cp)<|p (bN ee ag ag)<|p (lt ag ag)<|nl<|aN<|cd ag (fun a0=> ?_) fun a0=> ?_;refine ak fun am=>aw (.slice A n cp)<|p (cV (.slice A n cp) ag)<|nl<|am<|rt<|tr<|ba ag ?_;have ai:iM d.toList=d.toList:=by
  have ap:d.toList.length < 2:=by rw [vN]; omega
  revert ap;generalize d.toList=l;intro ap
  match l,ap with
  | [],_=>rfl
  | [x],_=>rfl
 exact ⟨n,ag,by rw [ai,vN]; omega,by rw [ai]; exact hO,Md.refl _ _⟩;refine aT<|aM<|aH fun am=>ak fun aO=>az<|aO<|aW<|lp (fun Z aA ac=> ∃ (i:Nat),(1≤i∧i≤n∧2≤n)∧(iM (d.toList.take i)=d.toList.take i)∧(Wk w ac)∧(Sl aA [(0,.slice A n cp),(3,ay i)])∧(n - i=Z)) _ ⟨1,aj,(by have h1:=Bq (d:=d) (i:=0) aj; rw [h1]; rfl),(Md.refl _ _),ag,ag⟩ ?_;rintro Z aA ac ⟨i,hi,aa,J,a8,rfl⟩;refine bH a8<|aH fun aP=>ak fun aQ=>aw (ay i)<|aw (.slice A n cp)<|p (bN ee ag ag)<|p (lt ag ag)<|nl<|aQ<|cd ag (fun aY=> ?_) fun aY=> ?_;refine aT<|aP<|aH fun an=>aW<|aH fun aS=> ?_;have E:(fun w'=>Wk ac w') ac.drew:=(Md.refl _ _).drew;refine cj (fun w'=>Wk ac w') ag wide E<|bQ 0 ag (.slice A n cp) E<|bQ 1 ag (ay i) E<|aU 2 ag (bh cE ag ag aj<|aR.ok ((bg hO).2)<|cX aj) E<|bS 3 ag (fun w' O=>ld bW ag<|Wk.a7 O<|dY (i:=i) (bg<|bc hO J).2 aj) E<|bQ 4 ag (.slice A n cp) E<|bQ 5 ag (ay i) E<|aU 6 ag (ed ((i - 1:Nat):Int) ag ag<|bp aj aj) E<|aU 7 ag (bh cE ag ag aj<|aR.ok ((bg hO).2)<|cX aj) E<|bS 8 ag (fun w' O=>ld bW ag<|Wk.a7 O<|dY (i:=i - 1) (bg<|bc hO J).2 aj) E<|aU 9 ag (ew ag ag) E<|hn au<|aS<|cd ag (fun aq=> ?_) fun aq=> ?_;have heq:d[i - 1]! =d[i]! :=aq.symm;refine ak fun aD=>aw (.slice A n cp)<|aw (ay i)<|p (sP cE ag ag aj)<|az<|aD<|aH fun aF=>ak fun aG=>az<|aG<|aW<|lp (fun Z aB Y=> ∃ (k i2:Nat) (G:Array Tx),(1≤k∧k < i+i2∧1≤i2∧i2≤n - i)∧(G.toList.drop k=d.toList.drop k)∧(G.toList.take k=iM (d.toList.take<|i+i2))∧(Y.ownsRow B 9 1 (.slice A n cp) n<|LE str G)∧(Md (fun q=>(cg A n cp).ownBlock=some q) w Y)∧(Sl aB [(0,.slice A n cp),(3,ay k),(4,.slice (fR A cp i 1) (n - i) (cp - i)),(5,ay i2)])∧(n - i2=Z)) _ ⟨i,1,d,aj,ag,(by rw [zE aj aj,if_pos heq,aa]),(bc hO<|Md.trans J (Md.refl _ _).drew),((Md.trans J (Md.refl _ _).drew).mono fun _ _ h=>h.elim),ag,ag⟩ ?_;rintro Z aB Y ⟨k,i2,G,hk,V,ab,I,ao,a9,rfl⟩;refine bH a9 ?_;have bd:=gd I;refine aH fun aI=>ak fun aK=>aw (ay i2)<|aw (.slice (fR A cp i 1) (n - i)<|cp - i)<|p (bN ee ag ag)<|p (lt ag ag)<|nl<|aK<|cd ag (fun aZ=> ?_) fun aZ=> ?_;refine aT<|aI<|aH fun ae=>aW<|aH fun al=> ?_;have C:(fun w'=>Wk Y w') Y.drew:=(Md.refl _ _).drew;refine cj (fun w'=>Wk Y w') ag wide C<|bQ 0 ag (.slice (fR A cp i 1) (n - i)<|cp - i) C<|bQ 1 ag (ay i2) C<|aU 2 ag (bh cE ag ag aj<|aR.ok (vK I)<|EL aj) C<|bS 3 ag (fun w' O=>ld bW ag<|Wk.a7 O<|EK (j:=i2) (vK I) aj) C<|bQ 4 ag (.slice (fR A cp i 1) (n - i)<|cp - i) C<|bQ 5 ag (ay i2) C<|aU 6 ag (ed ((i2 - 1:Nat):Int) ag ag<|bp aj aj) C<|aU 7 ag (bh cE ag ag aj<|aR.ok (vK I)<|EL aj) C<|bS 8 ag (fun w' O=>ld bW ag<|Wk.a7 O<|EK (j:=i2 - 1) (vK I) aj) C<|aU 9 ag (nR ag ag) C<|hn au<|al<|cd ag (fun av=> ?_) fun av=> ?_;have ah:=bc I C;have g1:=zL V (show k≤i+i2 by omega);have g2:=zL V (show k≤i+(i2 - 1) by omega);have a3:¬d[i+i2 - 1]! =d[i+i2]! :=by rw [show i+i2 - 1=i+(i2 - 1) by omega,← g1,← g2]; exact fun h=>av h.symm
 exact ak fun aL=>aw (.slice A n cp)<|aw (ay k)<|aw (.slice (fR A cp i 1) (n - i)<|cp - i)<|aw (ay i2)<|p (bh cE ag ag aj<|aR.ok (vK ah)<|EL aj)<|p (ld bW ag<|EK (j:=i2) (vK ah) aj)<|p (bh cE ag ag aj<|aR.ok ((bg ah).2)<|cX aj)<|e<|gW (u:=G[i+i2]!) (k) ah lI ag ag ag aj fun bk aV a5=>nl<|aL<|rg ag<|aw (ay k)<|p (bJ ((k+1:Nat):Int) ag ag<|bp aj aj)<|p aJ<|nl<|bn<|ae<|rg ag<|aw (ay i2)<|p (bJ ((i2+1:Nat):Int) ag ag<|bp aj aj)<|p aJ<|nl<|tn<|⟨_,aj,k+1,i2+1,G.setIfInBounds k G[i+i2]!,aj,(by rw [acu aj]; have h3:=congrArg (List.drop 1) V; rwa [rR,rR] at h3),(by rw [acv aj,ab,show i+(i2+1)=i+i2+1 from ag,zE aj aj,if_neg a3,g1]),a5,(Md.trans ao<|Md.trans (C.mono fun _ _ h=>h.elim) aV),ag,ag⟩
 have g1:=zL V (show k≤i+i2 by omega);have g2:=zL V (show k≤i+(i2 - 1) by omega);have a1:d[i+i2 - 1]! =d[i+i2]! :=by rw [show i+i2 - 1=i+(i2 - 1) by omega,← g1,← g2]; exact (Classical.not_not.1 av).symm
 exact aT<|bn<|ae<|rg ag<|aw (ay i2)<|p (bJ ((i2+1:Nat):Int) ag ag<|bp aj aj)<|p aJ<|nl<|tn<|⟨_,aj,k,i2+1,G,aj,V,(by rw [ab,show i+(i2+1)=i+i2+1 from ag,zE aj aj,if_pos a1]),(bc I (Md.refl _ _).drew),ao.drew,ag,ag⟩
 refine ext<|bj<|bj<|be<|aF<|ak fun ae=>aw (.slice A n cp)<|aw (ay k)<|p (sP cE ag ag aj)<|e<|Jt (k:=k) ee zv9 ag I ag ag aj fun bm aX a6=>nl<|ae<|ak fun al=>aw (.slice A n cp)<|aw (ay k)<|p (sO cE ag ag aj)<|az<|al<|rt<|br<|tr<|tr<|br<|tr<|ba ag ?_;have ai:d.toList.take (i+i2)=d.toList:=eK<|by rw [vN]; omega
 rw [ai] at ab;have a2:k=(iM d.toList).length:=by rw [← ab,dM,vN]; omega
 refine ⟨k,ag,a2,?_,Md.trans ao aX⟩;have ax:=Fw a6 (show k≤n by omega)<|abb hO aj;rw [nu,uw,eK (l:=(LE str G).take k) (by rw [dM]; omega),dM,sE,show k - min k G.size=0 by omega,oq,eJ,adD,ab] at ax;exact ax;have a4:¬d[i - 1]! =d[i]! :=fun h=>aq h.symm;exact aT<|bn<|an<|rg ag<|aw (ay i)<|p (ad ag ag<|cR aj)<|p aJ<|nl<|tn<|⟨_,aj,i+1,aj,(by rw [zE aj aj,if_neg a4,aa,Bq aj]),(Md.trans J (Md.refl _ _).drew),ag,ag⟩
 refine ext<|bj<|bj<|be<|am<|ak fun an=>aw (.slice A n cp)<|p (cV (.slice A n cp) ag)<|nl<|an<|rt<|ba ag ?_;rw [show d.toList.take i=d.toList from eK (by rw [vN]; omega)] at aa;exact ⟨n,ag,by rw [aa,vN]; omega,by rw [aa]; exact bc hO J,J.mono fun _ _ h=>h.elim⟩
end Go.Hb
end
section
namespace Go.Hb
open Go.Hb.tk Go.Hb.wT
noncomputable def gn (F:aX) (xs:List bE) (l:List bO):List Tx:=(l.filter fun d=> !gV F xs d.dQ 1).map fun d=>kQ xs d.dQ
section
variable {F:aX} {xs:List bE} {l:List bO} {i:Nat} {d:bO}
theorem ade (h:l[i]? =some d) (hm:gV F xs d.dQ 1=false):gn F xs (l.take<|i+1)=gn F xs (l.take i)++ [kQ xs d.dQ]:=by
 unfold gn;rw [QZ,h,s9,fZ];simp [hm]
theorem Bj (h:l[i]? =some d) (hm:gV F xs d.dQ 1=true):gn F xs (l.take<|i+1)=gn F xs (l.take i):=by
 unfold gn;rw [QZ,h,s9,fZ];simp [hm]
theorem Gj (F:aX) (xs:List bE) (l:List bO):(gn F xs l).length≤l.length:=by unfold gn; rw [fH]; exact o5 _ _
theorem aas {s:Tx} :s∈gn F xs l↔∃ d∈l,gV F xs d.dQ 1=false∧kQ xs d.dQ=s:=by
 unfold gn;rw [iT];constructor
 · rintro ⟨d,hd,rfl⟩;have h:=oo.1 hd;exact ⟨d,h.1,by simpa using h.2,ag⟩
 · rintro ⟨d,hd,hm,rfl⟩;exact ⟨d,oo.2 ⟨hd,by rw [hm]; rfl⟩,ag⟩
end
def Bi (l:List Tx):List Tx:=iM<|l.mergeSort fun x y=>decide (x≤y)
theorem EP (x y:Tx):decide (x≤y)= !fy y x:=by
 have h:fy y x=decide (y < x):=Go.Proofs.bytesLess_eq y x;rw [h];by_cases A:y < x
 · rw [decide_eq_true A,decide_eq_false (fun h=>h A)]; rfl
 · rw [decide_eq_false A,decide_eq_true (show x≤y from A)]; rfl
theorem V9:∀ l:List Tx,(l.Pairwise fun a b=>fy b a=false)→(iM l).Pairwise fun a b=>fy a b=true :=by
 intro l
 induction l with
 | nil=>intro _; exact List.Pairwise.nil
 | cons a l C=>
   intro h;cases l with
   | nil=>simp [iM]
   | cons b l=>
     rw [lz] at h;rw [iM];by_cases h1:a=b
     · rw [if_pos h1]; exact C h.2
     · rw [if_neg h1,lz];refine ⟨fun y A=> ?_,C h.2⟩;have A:=(JX y _).1 A;have h2:fy a b=true :=by
        rcases tS a b with h3 | h3 | h3
        · exact h3
        · exact absurd h3 h1
        · rw [h.1 b (by simp)] at h3; cases h3
       rcases eL.1 A with rfl | A
       · exact h2
       · have h4:=(lz.1 h.2).1 y A;rcases tS b y with h5 | h5 | h5
         · exact tT h2 h5
         · exact h5 ▸ h2
         · rw [h4] at h5; cases h5
theorem acX (l:List Tx):(Bi l).Pairwise fun a b=>fy a b=true :=by
 refine V9 _ ?_;have h:=List.pairwise_mergeSort (le:=fun x y:Tx=>decide (x≤y)) (fun a b c h1 h2=> ?_) (fun a b=> ?_) l
 · exact h.imp fun {a b} A=>by rw [EP] at A; simpa using A
 · simp only [EP,Bool.not_eq_true'] at h1 h2 ⊢;rcases tS a b with h3 | rfl | h3
   · rcases tS b c with h4 | rfl | h4
     · exact A5<|tT h3 h4
     · exact h1
     · rw [h2] at h4; cases h4
   · exact h2
   · rw [h1] at h3; cases h3
 · simp only [EP];rcases tS a b with h3 | rfl | h3
   · rw [A5 h3]; rfl
   · rw [yh]; rfl
   · rw [A5 h3]; simp
theorem acW {l:List Tx} {x:Tx} :x∈Bi l↔x∈l:=by unfold Bi; rw [JX]; exact (List.mergeSort_perm l _).mem_iff
theorem ZW (l:List Tx):LE str l.toArray=l.map str:=by simp [LE]
noncomputable def gp (F:aX) (xs:List bE) (w:Tx):List Tx:=Bi<|gn F xs<|dV F xs w
theorem Gk (B tb:Nat) (U:gO) (F:aX) (xs:List bE) (wd:Tx) (w:World) (aF:gj w B tb U F xs) (V:eH F xs) (aD:F.rules.length≤1024) (bR:wd.length≤2097152):
 bw aE 19 (bl [a6 tb,str wd]) w (fun v w'=>bB w' w.heap.size 9 1 v (gp F xs wd).length ((gp F xs wd).map str)∧Wk w w'):=by
 have bz:=zb aD V.xl;refine enter func19 ag ntmps19 ag<|ak fun aO=>az<|aO<|ak fun aQ=>p aJ<|nl<|aQ<|aH fun aS=>ak fun aU=>p mv<|p mv<|e<|cl zo (F3 B tb U F xs wd w aF V aD bR) ag ?_;rintro v12 I ⟨am,ac⟩;obtain ⟨a0,a5,rfl⟩:=cM am;have b1:(dV F xs wd).length≤2209777459200:=fu (o5 _ _) bz;have aG:=aF.wk ac;have b5:=ac.size;refine p (bN vQ ag ag)<|p mv<|nl<|aU<|aW<|lp (fun av au J=> ∃ (i:Nat) (A:Option Addr) (C:Nat),(i≤(dV F xs wd).length)∧(Wk I J)∧(bB J I.heap.size 9 1 (.slice A (gn F xs<|(dV F xs wd).take<|i).length C) (gn F xs<|(dV F xs wd).take<|i).length<|(gn F xs<|(dV F xs wd).take<|i).map str)∧(au 5= .slice A (gn F xs<|(dV F xs wd).take<|i).length C)∧(Sl au [(0,a6 tb),(12,.slice a0 (dV F xs wd).length a5),(13,ay ((dV F xs wd).length)),(14,ay i)])∧((dV F xs wd).length - i=av)) _ ⟨0,none,0,aj,(Md.refl _ _),(dC _ _ _ _),(by first | rfl | (rw [Bj hd G]; rfl)),ag,ag⟩ ?_;rintro av au J ⟨i,A,C,hi,E,aM,bQ,bO,rfl⟩;refine bH bO<|fx 5 bQ ?_;have b3:(gn F xs<|(dV F xs wd).take<|i).length≤(dV F xs wd).length:=fu (Gj ..)<|by rw [dM]; omega
 refine ak fun aV=>p (lt ag ag)<|nl<|aV<|aH fun aY=>cd ag (fun bD=> ?_) fun bD=> ?_;refine aT<|aY<|aH fun O=>aW<|aH fun ab=> ?_;obtain ⟨d,hd⟩:∃ d,(dV F xs wd)[i]? =some d:=⟨_,cz aj⟩
 refine rg ag<|p (bh xw ag ag aj<|aR.ok ((bg am).2.wk E)<|zN aj)<|p (dp oz ag (ag)<|fO (f:=ei) (m:=5) (fun _=>rfl) ((bg am).2.wk E) hd)<|e<|al GQ fun a3 cj ah aB bf=> ?_;have ce:=aB.size;refine e<|dy Dt ag ag ag ag (bf) (by simp) fun ao bu bb=> ?_;have ae:Wk J ao:=aB.md.trans' bu fun q bM h=>by omega
 have ah:bX ao.heap a3 (ei d):=bb;have aA:=E.trans ae;have ca:=ae.size;refine nl<|ab<|ak fun aZ=>aw (a6 tb)<|p (fa pN ag)<|p (ld bL ag<|ah.bF 1)<|e<|cl qZ (xq B tb U F xs (d.dQ:Nat) ao (aG.wk aA) V) ag ?_;rintro v22 bT ⟨⟨a22,rfl,bG⟩,hE22⟩;obtain ⟨a1,a7,rfl⟩:=cM bG;have b6:=hE22.size;refine p mv<|p (xt ag ag)<|p (xt ag ag)<|e<|al rJ fun a4 ck aI aC bi=> ?_;have cf:=aC.size;refine e<|dy kO ag ag ag ag (bi) (by simp) fun aq bv bd=> ?_;have bq:Wk bT aq:=aC.md.trans' bv fun q bM h=>by omega
 have aI:bX aq.heap a4 [str (kQ xs d.dQ),.slice a1 (flagsOf xs d.dQ).length a7]:=bd;have Y:=hE22.trans bq;have bA:=Wk.B Y ah;have cc:=Y.size;refine az<|aZ<|ak fun aP=>aw (a6 tb)<|p (fa pN ag)<|p (ld bL ag<|bA.bF 1)<|e<|cl CY (xV B tb U F xs (d.dQ:Nat) 1 aq (aG.wk<|aA.trans Y) V) ag ?_;rintro v28 cg ⟨rfl,ax⟩;have Z:=(ae.trans Y).trans ax;have bC:=Wk.B ax aI;have an:=bc aM Z;have b7:=Z.size;refine p (no ag)<|nl<|aP<|cb ag (fun ai=> ?_) fun ai=> ?_;have G:gV F xs d.dQ 1=false :=by simpa using ai
 refine rg ag<|aw (.slice A (gn F xs<|(dV F xs wd).take<|i).length C)<|p (fa Aj ag)<|p (ld bW ag<|bC.bF 0)<|e<|fU eY ag ag fun bY ch bZ aa a9=> ?_;have b8:=aa.size;refine e<|ap eY (bc an aa.md) ag (by have :=E.size; omega) ag (aR.dZ a9) (ag) (ag) aj aj fun bS bU bI br b9 b0=> ?_;have bk:=Wk.own ((E.trans Z).trans aa.md) (bc an aa.md) br<|cU _;have aK:bB bU I.heap.size 9 1 bS (gn F xs<|(dV F xs wd).take<|i+1).length ((gn F xs<|(dV F xs wd).take<|i+1).map str):=by rw [ade hd G,bP,fZ]; exact bI
 obtain ⟨a2,a8,rfl⟩:=cM aK;exact p aJ<|nl<|bn<|O<|rg ag<|p (bJ ((i+1:Nat):Int) ag ag<|bp aj aj)<|p mv<|nl<|tn<|⟨_,aj,i+1,a2,a8,aj,bk,aK,(by first | rfl | (rw [Bj hd G]; rfl)),ag,ag⟩
 have G:gV F xs d.dQ 1=true :=by simpa using ai
 exact aT<|bn<|O<|rg ag<|p (bJ ((i+1:Nat):Int) ag ag<|bp aj aj)<|p mv<|nl<|tn<|⟨_,aj,i+1,A,C,aj,(E.trans Z),(by rw [Bj hd G]; exact an),(by first | rfl | (rw [Bj hd G]; rfl)),ag,ag⟩
 refine ext<|bj<|bj<|be<|aS<|aH fun O=> ?_;have bx:(gn F xs<|(dV F xs wd).take<|i)=(gn F xs<|dV F xs wd):=by rw [eK aj]
 have aN:bB J I.heap.size 9 1 (.slice A (gn F xs<|(dV F xs wd).take<|i).length C) (gn F xs<|(dV F xs wd).take<|i).length ((gn F xs<|dV F xs wd).map str):=by
  have h:=aM;rw [show (gn F xs<|(dV F xs wd).take<|i).map str=(gn F xs<|dV F xs wd).map str from congrArg (List.map str) bx] at h;exact h
 have b4:(gn F xs<|dV F xs wd).length≤(dV F xs wd).length:=Gj ..;refine rg ag<|aw (.slice A (gn F xs<|(dV F xs wd).take<|i).length C)<|e<|cl I6 (OL I.heap.size (gn F xs<|(dV F xs wd).take<|i).length (.slice A (gn F xs<|(dV F xs wd).take<|i).length C) (gn F xs<|dV F xs wd) J aN aj) ag ?_;rintro v37 bV ⟨rfl,aL,bs⟩;have bm:=Wk.own E aN bs<|cU _;have b2:=Hr (le:=fun x y:Tx=>decide (x≤y))<|gn F xs<|dV F xs wd;refine nl<|O<|ak fun ab=>aw (.slice A (gn F xs<|(dV F xs wd).take<|i).length C)<|e<|cl I7 (JA ((gn F xs<|dV F xs wd).mergeSort fun x y=>decide (x≤y)).toArray I.heap.size (gn F xs<|(dV F xs wd).take<|i).length C A bV (by rw [ZW]; exact aL) aj) ag ?_;rintro v39 ci ⟨k,rfl,hk,bK,bt⟩;have bo:=Wk.own bm aL bt<|cU _;exact az<|ab<|rt<|ba ag<|⟨by rw [← show k=(gp F xs wd).length from hk]; exact eT bK aj,ac.trans bo⟩
theorem adn (wd:Tx) (w:World):
 bw aE 19 (bl [.pointer none,str wd]) w (fun v w'=>bB w' w.heap.size 9 1 v 0 []∧Wk w w'):=by
 refine enter func19 ag ntmps19 ag<|ak fun I=>az<|I<|ak fun J=>p aJ<|nl<|J<|aH fun O=>ak fun V=>p mv<|p mv<|e<|cl zo (acs wd w) ag ?_;rintro v12 an ⟨rfl,ab⟩;refine p (bN vQ ag ag)<|p mv<|nl<|V<|aW<|lp (fun C G A=>(Wk an A)∧(Sl G [(0,.pointer none),(5,.slice none 0 0),(13,.int .i64 0),(14,.int .i64 0)])∧(0=C)) _ ⟨(Md.refl _ _),ag,ag⟩ ?_;rintro C G A ⟨ah,am,rfl⟩;refine bH am<|ak fun Y=>p (lt ag ag)<|nl<|Y<|aH fun ao=>cd ag (fun h=>absurd h aj) fun ap=>ext<|bj<|bj<|be<|O<|ak fun Z=>aw (.slice none 0 0)<|e<|cl I6 (OL A.heap.size 0 (.slice none 0 0) [] A (dC _ _ _ _) aM) ag ?_;rintro v37 E ⟨rfl,aq,ai⟩;have ac:Wk A E:=ai.mono fun k _ h=>by cases h
 refine nl<|Z<|ak fun aa=>aw (.slice none 0 0)<|e<|cl I7 (JA #[] A.heap.size 0 0 none E (dC _ _ _ _) aM) ag ?_;rintro v39 av ⟨k,rfl,hk,au,al⟩;have ae:=ac.trans<|al.mono fun k _ h=>by cases h
 obtain rfl :k=0:=hk;exact az<|aa<|rt<|ba ag<|⟨dC _ _ _ _,(ab.trans ah).trans ae⟩
end Go.Hb
end
namespace Go.Hb.HC
set_option maxHeartbeats 1000000 in
theorem aav (C G:Tl) (J Y:Option Addr) (O kb:Nat) (w:World) (ab:cw w.heap J C) (ai:cw w.heap Y G) (aK:C.Pairwise (fun x y=>fy x y=true)) (bG:G.Pairwise (fun x y=>fy x y=true)) (hlen:C.length+G.length≤4294967296):
 bw aE 69 (bl [.slice J C.length O,.slice Y G.length kb]) w (fun v w'=>Wk w w'∧bB w' w.heap.size 9 1 v (lu<|C++G).length ((lu<|C++G).map str)):=by
 refine enter func69 ag ntmps69 ag<|ak fun a1=>az<|a1<|ak fun a2=>p aJ<|nl<|a2<|ak fun a3=>az<|a3<|aH fun a4=>rg ag<|az<|a4<|aH fun a5=>aW<|lp (fun aN aX av=> ∃ (i j:Nat) (m:Tl) (v:Value),(i≤C.length)∧(j≤G.length)∧(Wk w av)∧(bB av w.heap.size 9 1 v m.length<|m.map str)∧(MG C G i j m)∧(Sl aX [(0,.slice J C.length O),(1,.slice Y G.length kb),(5,v),(6,.int .i64 i),(7,.int .i64 j)])∧((C.length - i)+(G.length - j)=aN)) _ ⟨0,0,[],.slice none 0 0,aj,aj,(Md.refl _ _),(dC _ _ _ _),(MG.zero _ _),ag,ag⟩ ?_;rintro aN aX av ⟨i,j,m,v,hi,bX,I,ah,an,bA,rfl⟩;refine bH bA ?_;have bZ:=an.len;refine ez (fun aY aa=>(i < C.length∨j < G.length)∧(aa=av)∧(Sl aY [(0,.slice J C.length O),(1,.slice Y G.length kb),(5,v),(6,.int .i64 i),(7,.int .i64 j)])) ?_ ?_;refine ak fun V=>aw (.int .i64 i)<|aw (.slice J C.length O)<|p (bN ee ag ag)<|p (lt ag ag)<|p mv<|gs (t:=12) ag (fun bq=> ?_) fun bq=> ?_;exact aQ ag<|aQ ag<|aQ ag<|aQ ag<|p (bI ag)<|nl<|V<|ct ag<|aT<|tn<|⟨(.inl aj),ag,ag⟩
 refine aV ag (a8 (.int .i64 j) ag)<|aV ag (a8 (.slice Y G.length kb) ag)<|aV ag (bN ee ag ag)<|aV ag (lt ag ag)<|p (bD ag)<|nl<|V<|cd ag (fun bk=> ?_) fun bk=> ?_;exact aT<|tn<|⟨(.inr aj),ag,ag⟩
 refine ext<|bj<|bj<|be<|a5<|ak fun am=>aw (v)<|p (cV (v) ag)<|nl<|am<|rt<|ba ag ?_;refine ⟨I,?_⟩;rw [← an.done aj aj]; exact ah;rintro aY aa ⟨bT,bK,bC⟩;refine bH bC ?_;subst bK;refine aW ?_;refine ez (fun aZ al=>(j < G.length)∧(i < C.length→fy (C.getD i []) (G.getD j [])=false)∧(Wk w al)∧(bB al w.heap.size 9 1 v m.length<|m.map str)∧(Sl aZ [(0,.slice J C.length O),(1,.slice Y G.length kb),(5,v),(6,.int .i64 i),(7,.int .i64 j)])) ?_ ?_;refine aH fun V=> ?_;have A:(fun w'=>Wk aa w') aa.drew:=(Md.refl _ _).drew;refine cj (fun w'=>Wk aa w') ag wide A<|bQ 0 ag (.int .i64 j) A<|bQ 1 ag (.slice Y G.length kb) A<|aU 2 ag (bN ee ag ag) A<|aU 3 ag (ge ag ag) A<|aU 4 ag (mv) A<|iP (t:=22) ag (fun br=> ?_) fun br=> ?_;refine bf 5 ag A<|bf 6 ag A<|bf 7 ag A<|bf 8 ag A<|bf 9 ag A<|j4 10 ag au ag ag ag A<|j4 11 ag au ag ag ag A<|j4 12 ag au ag ag ag A<|j4 13 ag au ag ag ag A<|j4 14 ag au ag ag ag A<|j4 15 ag au ag ag ag A<|j4 16 ag au ag ag ag A<|j4 17 ag au ag ag ag A<|j4 18 ag au ag ag ag A<|bf 19 ag A<|aU 20 ag (bI ag) A<|hn au<|V<|ct ag<|ak fun am=>aw (v)<|aw (.slice J C.length O) ?_;refine aw (.int .i64 i)<|p (bh cE ag ag aj<|aR.ok (ab.wk<|I.drew)<|bY aj)<|p (ld bW ag<|cw.get (i:=i) (ab.wk<|I.drew) aj)<|e<|fU eY ag ag fun a6 bM bi Z ay=>e<|ap eY (bc (bc ah (Md.refl _ _).drew) Z.md) ag (by have :=Z.size; have :=I.size; have a9:aa.drew.heap.size=aa.heap.size:=ag; omega) ag (aR.dZ ay) (ag) (ag) aj aj fun v45 aL aF aB bL bo=> ?_;have aA:=Wk.own (Md.trans I.drew Z.md) (bc (bc ah (Md.refl _ _).drew) Z.md) aB<|cU _;have aG:bB aL w.heap.size 9 1 v45 (m++ [C.getD i []]).length ((m++ [C.getD i []]).map str):=by rw [bP,fZ]; exact aF
 exact az<|am<|ak fun ax=>aw (.int .i64 i)<|p (bJ ((i+1:Nat):Int) ag ag<|bp aj aj)<|p aJ<|nl<|ax<|ext<|bj<|be<|tn<|⟨_,aj,i+1,j,m++ [C.getD i []],v45,aj,aj,aA,aG,(an.a aK aj fun h=>by omega),ag,ag⟩
 refine bm 5 ag (fun _ _=>a8 (.int .i64 i) ag) A<|bm 6 ag (fun _ _=>a8 (.slice J C.length O) ag) A<|bm 7 ag (fun _ _=>bN ee ag ag) A<|bm 8 ag (fun _ _=>lt ag ag) A<|bm 9 ag (fun _ _=>mv) A<|iP (t:=27) ag (fun bs=> ?_) fun bs=> ?_;refine bm 10 ag (fun _ _=>a8 (.slice J C.length O) ag) A<|bm 11 ag (fun _ _=>a8 (.int .i64 i) ag) A<|bm 12 ag (fun _ _=>bh cE ag ag aj<|aR.ok (ab.wk I)<|bY aj) A<|bm 13 ag (fun w' ae=>ld bW ag<|Wk.a7 ae<|cw.get (i:=i) (ab.wk I) aj) A<|bm 14 ag (fun _ _=>a8 (.slice Y G.length kb) ag) A<|bm 15 ag (fun _ _=>a8 (.int .i64 j) ag) A<|bm 16 ag (fun _ _=>bh cE ag ag aj<|aR.ok (ai.wk I)<|bY aj) A<|bm 17 ag (fun w' ae=>ld bW ag<|Wk.a7 ae<|cw.get (i:=j) (ai.wk I) aj) A<|bm 18 ag (fun _ _=>lts ag ag) A<|bm 19 ag (fun _ _=>bI ag) A<|aU 20 ag (bD ag) A<|hn au<|V<|cb ag (fun aC=> ?_) fun aC=> ?_;refine ak fun am=>aw (v)<|aw (.slice J C.length O)<|aw (.int .i64 i)<|p (bh cE ag ag aj<|aR.ok (ab.wk<|I.drew)<|bY aj)<|p (ld bW ag<|cw.get (i:=i) (ab.wk<|I.drew) aj)<|e<|fU eY ag ag fun a6 bM bi Z ay=>e<|ap eY (bc (bc ah (Md.refl _ _).drew) Z.md) ag (by have :=Z.size; have :=I.size; have a9:aa.drew.heap.size=aa.heap.size:=ag; omega) ag (aR.dZ ay) (ag) (ag) aj aj fun v45 aL aF aB bL bo=> ?_;have aA:=Wk.own (Md.trans I.drew Z.md) (bc (bc ah (Md.refl _ _).drew) Z.md) aB<|cU _;have aG:bB aL w.heap.size 9 1 v45 (m++ [C.getD i []]).length ((m++ [C.getD i []]).map str):=by rw [bP,fZ]; exact aF
 exact az<|am<|ak fun ax=>aw (.int .i64 i)<|p (bJ ((i+1:Nat):Int) ag ag<|bp aj aj)<|p aJ<|nl<|ax<|ext<|bj<|be<|tn<|⟨_,aj,i+1,j,m++ [C.getD i []],v45,aj,aj,aA,aG,(an.a aK aj fun _=>aC),ag,ag⟩
 exact aT<|tn<|⟨aj,(fun _=>aC),I.drew,(bc ah (Md.refl _ _).drew),ag⟩
 exact bf 10 ag A<|bf 11 ag A<|bf 12 ag A<|bf 13 ag A<|bf 14 ag A<|bf 15 ag A<|bf 16 ag A<|bf 17 ag A<|bf 18 ag A<|bm 19 ag (fun _ _=>bD ag) A<|aU 20 ag (bD ag) A<|hn au<|V<|cf ag<|aT<|tn<|⟨aj,(fun h=>by omega),I.drew,(bc ah (Md.refl _ _).drew),ag⟩
 rintro aZ al ⟨bu,bv,ac,aI,bE⟩;refine bH bE ?_;refine ez (fun a0 aM=> ∃ (i2:Nat),((i2=i∧(i < C.length→C.getD i []≠G.getD j []))∨(i2=i+1∧i < C.length∧C.getD i []=G.getD j []))∧(Wk w aM)∧(bB aM w.heap.size 9 1 v m.length<|m.map str)∧(Sl a0 [(0,.slice J C.length O),(1,.slice Y G.length kb),(5,v),(6,.int .i64 i2),(7,.int .i64 j)])) ?_ ?_;refine aH fun V=> ?_;have E:(fun w'=>Wk al w') al.drew:=(Md.refl _ _).drew;refine cj (fun w'=>Wk al w') ag wide E<|bQ 0 ag (.int .i64 i) E<|bQ 1 ag (.slice J C.length O) E<|aU 2 ag (bN ee ag ag) E<|aU 3 ag (lt ag ag) E<|aU 4 ag (mv) E<|iP (t:=52) ag (fun bt=> ?_) fun bt=> ?_;refine bm 5 ag (fun _ _=>a8 (.slice J C.length O) ag) E<|bm 6 ag (fun _ _=>a8 (.int .i64 i) ag) E<|bm 7 ag (fun _ _=>bh cE ag ag aj<|aR.ok (ab.wk ac)<|bY aj) E<|bm 8 ag (fun w' ae=>ld bW ag<|Wk.a7 ae<|cw.get (i:=i) (ab.wk ac) aj) E<|bm 9 ag (fun _ _=>a8 (.slice Y G.length kb) ag) E<|bm 10 ag (fun _ _=>a8 (.int .i64 j) ag) E<|bm 11 ag (fun _ _=>bh cE ag ag aj<|aR.ok (ai.wk ac)<|bY aj) E<|bm 12 ag (fun w' ae=>ld bW ag<|Wk.a7 ae<|cw.get (i:=j) (ai.wk ac) aj) E<|bm 13 ag (fun _ _=>ew ag ag) E<|aU 14 ag (bI ag) E<|hn au<|V<|cd ag (fun aD=> ?_) fun aD=> ?_;exact rg ag<|aw (.int .i64 i)<|p (bJ ((i+1:Nat):Int) ag ag<|bp aj aj)<|p aJ<|nl<|tn<|⟨i+1,(.inr ⟨ag,aj,aD⟩),ac.drew,(bc aI (Md.refl _ _).drew),ag⟩
 exact aT<|tn<|⟨i,(.inl ⟨ag,fun _=>aD⟩),ac.drew,(bc aI (Md.refl _ _).drew),ag⟩
 exact bf 5 ag E<|bf 6 ag E<|bf 7 ag E<|bf 8 ag E<|bf 9 ag E<|bf 10 ag E<|bf 11 ag E<|bf 12 ag E<|bf 13 ag E<|aU 14 ag (bD ag) E<|hn au<|V<|cf ag<|aT<|tn<|⟨i,(.inl ⟨ag,fun h=>by omega⟩),ac.drew,(bc aI (Md.refl _ _).drew),ag⟩
 rintro a0 aM ⟨i2,aO,ao,aP,bF⟩;refine bH bF ?_;have bV:i2≤C.length∧i≤i2:=by rcases aO with h | h <;> omega
 refine ak fun V=>aw (v)<|aw (.slice Y G.length kb)<|aw (.int .i64 j)<|p (bh cE ag ag aj<|aR.ok (ai.wk ao)<|bY aj)<|p (ld bW ag<|cw.get (i:=j) (ai.wk ao) aj)<|e<|fU eY ag ag fun bR b1 bS aq bb=>e<|ap eY (bc aP aq.md) ag (by have :=aq.size; have :=ao.size; omega) ag (aR.dZ bb) (ag) (ag) aj aj fun aS bO bx bg b0 bU=> ?_;have bd:=Wk.own (Md.trans ao aq.md) (bc aP aq.md) bg<|cU _;have bz:bB bO w.heap.size 9 1 aS (m++ [G.getD j []]).length ((m++ [G.getD j []]).map str):=by rw [bP,fZ]; exact bx
 exact az<|V<|rg ag<|aw (.int .i64 j)<|p (bJ ((j+1:Nat):Int) ag ag<|bp aj aj)<|p aJ<|nl<|bn<|tn<|⟨_,aj,i2,j+1,m++ [G.getD j []],aS,aj,aj,bd,bz,(an.b aK bG bu bv aO),ag,ag⟩
theorem AO (n:Nat) (l:Tl) (a:Option Addr) (cap:Nat) (w:World) (aC:l.length=n) (A:cw w.heap a l) (aB:n≤cap) (hlen:n≤1073741824):
 bw aE 38 (bl [.slice a n cap]) w (fun v w'=>Wk w w'∧bB w' w.heap.size 9 1 v (lu l).length ((lu l).map str)):=by
 induction n using Nat.strongRecOn generalizing l a cap w with
 | _ n Y=>
   refine enter func38 ag ntmps38 ag<|ak fun Z=>az<|Z<|aH fun aa=>ak fun ab=>aw (.slice a n cap)<|p (bN ee ag ag)<|p (bT ag ag)<|nl<|ab<|cd ag (fun aq=> ?_) fun aq=> ?_;refine ak fun C=>az<|C<|rt<|tr<|ba ag ?_;have al:l= []:=fY aj;subst al;exact ⟨Md.refl _ _,dC _ _ _ _⟩;refine aT<|aa<|aH fun C=>ak fun ac=>aw (.slice a n cap)<|p (bN ee ag ag)<|p (bT ag ag)<|nl<|ac<|cd ag (fun ap=> ?_) fun ap=> ?_;refine ak fun E=>aw (.slice a n cap)<|p (bh cE ag ag aj<|aR.ok (A)<|bY aj)<|p (ld bW ag<|cw.get (i:=0) A aj)<|e<|Si eY ag ag fun ay aF aA ao am=>p aJ<|nl<|E<|rt<|tr<|ba ag ?_;obtain ⟨x,rfl⟩:∃ x,l= [x]:=List.length_eq_one_iff.1 aj;exact ⟨ao.md,am _ aj⟩;refine aT<|C<|ak fun E=>aw (.slice a n cap)<|aw (.slice a n cap)<|p (bN ee ag ag)<|p (qw ((n / 2:Nat):Int) ag ag aj<|bp aj aj)<|p (sO cE ag ag aj)<|e<|cl C9 (Y (n / 2) aj (l.take<|n / 2) a cap _ (by rw [dM]; omega) (A.take _) aj aj) ag ?_;rintro v20 aG ⟨G,ax⟩;refine az<|E<|ak fun ae=>aw (.slice a n cap)<|aw (.slice a n cap)<|p (bN ee ag ag)<|p (qw ((n / 2:Nat):Int) ag ag aj<|bp aj aj)<|p (sP cE ag ag aj)<|e<|cl C9 (Y (n - n / 2) aj (l.drop<|n / 2) (fR a cap (n / 2) 1) (cap - n / 2) _ (by rw [fM]; omega) (cw.wk (A.drop aj) G) aj aj) ag ?_;rintro v26 aI ⟨I,O⟩;have J:=bc ax I;have au:=Ou<|l.take<|n / 2;have av:=Ou<|l.drop<|n / 2;rw [dM] at au;rw [fM] at av;obtain ⟨ai,c1,rfl⟩:=cM J;obtain ⟨a2,c2,rfl⟩:=cM O;refine az<|ae<|ak fun ah=>p mv<|p mv<|e<|cl zr (aav (lu<|l.take<|n / 2) (lu<|l.drop<|n / 2) ai a2 c1 c2 _ (bg J).2 (bg O).2 (vG _) (vG _) aj) ag ?_;rintro aD aK ⟨an,V⟩;have e:lu (lu (l.take<|n / 2)++lu (l.drop<|n / 2))=lu l:=GD (vG _) (vG _) fun x=>by
    rw [vA,gq,vA,vA,vA,← gq,List.take_append_drop]
   rw [e] at V;exact az<|ah<|rt<|ba ag<|⟨Md.trans (Md.trans G I) an,eT V<|by have :=G.size; have :=I.size; omega⟩
end Go.Hb.HC
section
namespace Go.Hb.Hy
open Go.Hb.jX Go.Hb.k5 Go.Hb.uC Go.Hb.tk Go.Hb.wT Go.Hb.HC
noncomputable def mg (F:aX) (xs:List bE) (w:Tx) (n:Int):List bO:=(q7 F xs n).filter<|sJ<|some w
noncomputable def sj (F:aX) (xs:List bE) (w:Tx) (i:Nat):List bO:=(kN F xs i).filter<|sJ<|some w
theorem ZL {most:Int} (C:most≤2000) {L:List bO} (A:∀ d∈L,d.eZ.length≤200):oM most 1152921504606846976 [] L=rB L most:=by
 by_cases hm:most < 1
 · rw [adC hm,Ax (decide_eq_true<|Or.inl<|by simp only [gC]; omega)]
 · unfold rB; rw [if_neg hm];have :=ZK (most:=most) (limit:=1152921504606846976) 200 aj aj L [] A (by simp only [gC]; omega)<|iK _;rw [this]; rfl
section
variable {F:aX} {xs:List bE} {w:Tx} {m n:Int} {i:Nat}
theorem ZM (A:eH F xs) (C:m≤2000):ju (some w) m 1152921504606846976 [] (q7 F xs n)=rB (mg F xs w n) m:=ZL C fun d hd=>(Wp A n d (oo.1 hd).1).2
theorem Xl:sj F xs w xs.length=dV F xs w:=rfl
theorem Xn (h:i < xs.length):sj F xs w (i+1)=sj F xs w i++mg F xs w (i:Int):=by unfold sj mg; rw [RK,s9,zJ h]
theorem Xm (h:i≤xs.length):sj F xs w i <+:dV F xs w:=by
 obtain ⟨k,hk⟩:=Hu h;rw [← Xl,← hk];clear hk;unfold sj kN;rw [List.range_add,o4,s9];exact List.prefix_append ..
theorem XE {d:bO} (h:d∈mg F xs w (i:Int)) (hi:i < xs.length):d.dQ=i∧d.eZ=w:=by
 have h1:=oo.1 h;rw [zJ hi] at h1;exact ⟨(tK h1.1).1,of_decide_eq_true h1.2⟩
theorem O5 {L:List bO} :0 < (rB L 1).length↔L≠[]:=by
 unfold rB;rw [if_neg aM,dM];cases L with
 | nil=>simp
 | cons a l=>simp
noncomputable def j7 (F:aX) (xs:List bE) (w:Tx) (i:Nat):List Tx:=((gZ i).filter fun k=> !gV F xs (k:Nat) 1 && !(mg F xs w (k:Nat)).isEmpty).map fun k=>kQ xs (k:Nat)
theorem OV:j7 F xs w (i+1)=j7 F xs w i++if (!gV F xs (i:Nat) 1 && !(mg F xs w (i:Nat)).isEmpty)=true then [kQ xs (i:Nat)] else []:=by
 unfold j7;rw [Ce,s9,fZ];congr 1;by_cases h:(!gV F xs (i:Nat) 1 && !(mg F xs w (i:Nat)).isEmpty)=true
 · rw [if_pos h,o3,if_pos h]; rfl
 · rw [if_neg h,o3,if_neg h]; rfl
theorem adh (hm:gV F xs (i:Nat) 1=false) (A:mg F xs w (i:Nat)≠[]):j7 F xs w (i+1)=j7 F xs w i++ [kQ xs (i:Nat)]:=by
 rw [OV,if_pos]; simpa [hm] using A
theorem OU (h:gV F xs (i:Nat) 1=true∨mg F xs w (i:Nat)= []):j7 F xs w (i+1)=j7 F xs w i:=by
 rw [OV,if_neg,eJ];rcases h with h | h <;> simp [h]
theorem adf:(j7 F xs w i).length≤i:=by unfold j7; rw [fH]; exact fu (o5 _ _)<|by simp
theorem adg (s:Tx):s∈j7 F xs w xs.length↔s∈gn F xs (dV F xs w):=by
 rw [aas];unfold j7;rw [iT];constructor
 · rintro ⟨k,hk,rfl⟩;obtain ⟨h1,h2⟩:=oo.1 hk;have hk:=nr.1 h1;rw [iq] at h2;obtain ⟨d,hd⟩:=List.exists_mem_of_ne_nil (mg F xs w (k:Int))<|by simpa using h2.2
   obtain ⟨rfl,_⟩:=XE hd hk;refine ⟨d,(Xm (F:=F) (w:=w) (show d.dQ+1≤xs.length by omega)).subset ?_,by simpa using h2.1,ag⟩;rw [Xn hk]; exact wz _ hd
 · rintro ⟨d,hd,hm,rfl⟩;obtain ⟨C,hs⟩:=AF.1 hd;obtain ⟨e,he,A⟩:=vy.1 C;obtain ⟨rfl,_⟩:=tK A;refine ⟨d.dQ,oo.2 ⟨nr.2 he,?_⟩,ag⟩;rw [iq];refine ⟨by rw [hm]; rfl,?_⟩;have :d∈mg F xs w (d.dQ:Int):=oo.2 ⟨by rw [zJ he]; exact A,decide_eq_true hs⟩;cases hq:mg F xs w (d.dQ:Int) with
   | nil=>rw [hq] at this; cases this
   | cons a l=>rfl
theorem adj:gp F xs w=lu (j7 F xs w xs.length):=Ot (acX _) fun s=>acW.trans (adg s).symm
end
theorem FQ (B tb fb:Nat) (V:eM) (ve:Value) (F:aX) (xs:List bE) (n:Int) (wd:Tx) (most:Int) (w:World) (ac:gN w B tb fb V ve F xs) (E:eH F xs) (I:most≤2000):
 bw aE 32 (bl [a6 tb,.int .i64 n,str wd,.int .i64 most]) w (fun v w'=>bB w' w.heap.size 74 5 v (rB (mg F xs wd n) most).length (gl<|rB (mg F xs wd n) most)∧Wk w w'):=by
 refine enter func32 ag ntmps32 ag<|ak fun O=>az<|O<|ak fun Y=>aw (str wd)<|aw (.int .i64 most)<|p (dt (ps:= [(0,.bool true),(1,.bool true),(2,str wd),(3,.int .i64 most),(4,.int .i64 1152921504606846976)]) (L:= [.bool true,.bool true,str wd,.int .i64 most,.int .i64 1152921504606846976,.int .i64 0,.int .i64 0,.slice none 0 0]) ac1 ag<|ag)<|e<|oB ag fun A J an G ab=> ?_;have ah:jn J (fun q=>q=A) w.heap.size A true (some wd) most 1152921504606846976 []:=⟨aj,⟨.slice none 0 0,ab,by rw [if_pos rfl]; exact dC _ _ _ _,fun q=>by simp [jU]⟩,uC.Bd.nil⟩
 refine az<|Y<|ak fun Z=>aw (a6 tb)<|aw (.int .i64 n)<|p mv<|e<|cl Ub (aen B tb fb V ve F xs w.heap.size A true (some wd) most 1152921504606846976 [] (fun q=>q=A) n J (ac.wk G.md) E ah<|.inl I) ag ?_;rintro v17 aq ⟨rfl,am,ai,ae⟩;obtain ⟨v,al,C,ao⟩:=ai.ex;rw [if_pos rfl] at C;refine nl<|Z<|ak fun aa=>p mv<|p (nc ag)<|p (fa D3 ag)<|p (ld HR ag<|(bo al).trans ag)<|az<|aa<|rt<|ba ag ?_;rw [ZM E I] at C;exact ⟨C,G.md.trans' ae.md fun q ap h=>by omega⟩
theorem acb (B tb fb:Nat) (V:eM) (ve:Value) (F:aX) (xs:List bE) (wd:Tx) (w:World) (Y:gN w B tb fb V ve F xs) (ab:eH F xs):
 bw aE 20 (bl [a6 tb,str wd]) w (fun v w'=>bB w' w.heap.size 9 1 v (gp F xs wd).length ((gp F xs wd).map str)∧Wk w w'):=by
 have bt:=ab.xl;refine enter func20 ag ntmps20 ag<|ak fun aD=>az<|aD<|ak fun aF=>p aJ<|nl<|aF<|aH fun aG=>ak fun aI=>az<|aI<|aW<|lp (fun al ah O=> ∃ (i:Nat) (A:Option Addr) (C:Nat),(i≤xs.length)∧(Wk w O)∧(bB O w.heap.size 9 1 (.slice A (j7 F xs wd i).length C) (j7 F xs wd i).length<|(j7 F xs wd i).map str)∧(ah 5= .slice A (j7 F xs wd i).length C)∧(Sl ah [(0,a6 tb),(1,str wd),(6,ay i)])∧(xs.length - i=al)) _ ⟨0,none,0,aj,(Md.refl _ _),(dC _ _ _ _),(by first | rfl | (rw [E]; rfl)),ag,ag⟩ ?_;rintro al ah O ⟨i,A,C,hi,I,ae,a5,a4,rfl⟩;refine bH a4<|fx 5 a5 ?_;have bs:=adf (F:=F) (xs:=xs) (w:=wd) (i:=i);refine aH fun aK=>ak fun aL=>aw (ay i)<|aw (a6 tb)<|p (nc ag)<|p (fa vq ag)<|p (ld uK ag<|(Y.wk I).GG.choose_spec.choose_spec)<|p (bN Bx ag ag)<|p (lt ag ag)<|nl<|aL<|cd ag (fun a1=> ?_) fun a1=> ?_;refine aT<|aK<|aH fun G=>aW<|ak fun aN=>aw (a6 tb)<|aw (ay i)<|e<|cl I8 (N8 B tb fb V ve F xs (i:Nat) 1 O (Y.wk I) ab) ag ?_;rintro v20 a9 ⟨rfl,an⟩;have aq:=I.trans an;refine az<|aN<|ak fun aO=>aw (a6 tb)<|aw (ay i)<|aw (str wd)<|e<|cl zp (FQ B tb fb V ve F xs (i:Int) wd 1 a9 (Y.wk aq) ab aj) ag ?_;rintro v24 bx ⟨a2,ao⟩;obtain ⟨bd,bk,rfl⟩:=cM a2;have J:=aq.trans ao;have aa:=bc ae<|an.trans ao;obtain ⟨x,aC⟩:∃ x,xs[i]? =some x:=⟨_,cz aj⟩
 obtain ⟨bf,bm,ws,a,c,a7,am,aA,bo⟩:=(Y.wk J).dQ aC;have hex:=(tw aC).1;refine az<|aO<|ak fun ai=>p mv<|p (no ag)<|p mv<|gb (t:=27) ag (fun ac=> ?_) fun ac=> ?_;refine aV ag mv<|aV ag (bN u32 ag ag)<|aV ag (gt ag ag)<|p (bI ag)<|nl<|ai<|cd ag (fun ax=> ?_) fun ax=> ?_;refine rg ag<|aw (.slice A (j7 F xs wd i).length C)<|aw (a6 tb)<|p (nc ag)<|p (fa vq ag)<|p (ld uK ag<|a7)<|aw (ay i)<|p (bh DH ag ag aj<|aR.ok (am)<|uZ aA)<|p (fa LC ag)<|p (ld bW ag<|fO (f:=qk) (m:=2) (fun _=>rfl) am aA 0 aM)<|e<|fU eY ag ag fun bi bz bq Z aU=> ?_;have bu:=Z.size;refine e<|ap eY (bc aa Z.md) ag (by have :=J.size; omega) ag (aR.dZ aU) (ag) (ag) aj aj fun a8 bb a3 a0 bv br=> ?_;have aY:=Wk.own (J.trans Z.md) (bc aa Z.md) a0<|cU _;have aB:=adh (F:=F) (w:=wd) (show gV F xs (i:Nat) 1=false by simpa using ac)<|O5.1 (show 0 < (rB (mg F xs wd (i:Int)) 1).length by omega);rw [hex] at aB;have au:bB bb w.heap.size 9 1 a8 (j7 F xs wd<|i+1).length ((j7 F xs wd<|i+1).map str):=by rw [aB,bP,fZ]; exact a3
 obtain ⟨aP,aS,rfl⟩:=cM au;exact p aJ<|nl<|bn<|G<|rg ag<|aw (ay i)<|p (bJ ((i+1:Nat):Int) ag ag<|bp aj aj)<|p aJ<|nl<|tn<|⟨_,aj,i+1,aP,aS,aj,aY,au,(by first | rfl | (rw [E]; rfl)),ag,ag⟩
 have E:=OU (F:=F) (w:=wd)<|.inr<|Classical.byContradiction fun h=>ax<|by have :=(O5 (L:=mg F xs wd (i:Int))).2 h; omega
 exact aT<|bn<|G<|rg ag<|aw (ay i)<|p (bJ ((i+1:Nat):Int) ag ag<|bp aj aj)<|p aJ<|nl<|tn<|⟨_,aj,i+1,A,C,aj,J,(by rw [E]; exact aa),(by first | rfl | (rw [E]; rfl)),ag,ag⟩
 have E:=OU (F:=F) (xs:=xs) (w:=wd)<|.inl (show gV F xs (i:Nat) 1=true by simpa using ac);exact aQ ag<|aQ ag<|aQ ag<|p (bD ag)<|nl<|ai<|cf ag<|aT<|bn<|G<|rg ag<|aw (ay i)<|p (bJ ((i+1:Nat):Int) ag ag<|bp aj aj)<|p aJ<|nl<|tn<|⟨_,aj,i+1,A,C,aj,J,(by rw [E]; exact aa),(by first | rfl | (rw [E]; rfl)),ag,ag⟩
 refine ext<|bj<|bj<|be<|aG<|ak fun G=>aw (.slice A (j7 F xs wd i).length C)<|e<|cl C9 (AO (j7 F xs wd i).length (j7 F xs wd i) A C O ag ((bg ae).2) (bg ae).1 aj) ag ?_;rintro v44 bA ⟨aZ,av⟩;refine az<|G<|rt<|ba ag ?_;rw [← show gp F xs wd=lu (j7 F xs wd i) by rw [show i=xs.length by omega]; exact adj] at av;exact ⟨eT av I.size,I.trans aZ⟩
end Go.Hb.Hy
end
section
namespace Go.Hb
open Go.Hb.jX Go.Hb.k5 Go.Hb.tk Go.Hb.wT
theorem Y3 {eof ln:Nat} {F F':aX} {hs:List Tx} {rows rows':List Rw} {row:List Tx} (A:cW eof F hs rows ln row= .ok (F',rows')):F'.rules=F.rules∨F'.rules.length≤1024:=by
 unfold cW at A;split at A
 · unfold kF at A; split at A <;> cases A; exact .inl rfl
 split at A
 · unfold kW at A;split at A
   · cases A
   · split at A <;> cases A; exact .inl rfl
 split at A
 · unfold nb at A; split at A <;> cases A; exact .inl rfl
 split at A
 · unfold nk at A; split at A <;> cases A; exact .inl rfl
 split at A
 · unfold lj at A;split at A
   · cases A
   · split at A <;> cases A; exact .inl rfl
 split at A
 · unfold kE at A;split at A
   · cases A
   · split at A <;> cases A; exact .inl rfl
 split at A
 · unfold kn at A;split at A
   · cases A
   · split at A
     · cases A
     · split at A <;> cases A; exact .inl rfl
 unfold iu at A;split at A
 · cases A
 split at A
 · cases A
 split at A
 · cases A
 split at A
 · cases A
 split at A
 · cases A
 rename_i r C;cases A;have h1:=(xP _ _ _ C).2.1;refine .inr ?_;rw [bP];omega
theorem RC {s:Tx} {F:aX} (h:ga s= .ok F):F.rules.length≤1024:=by
 refine Co (Q:=fun F=>F.rules.length≤1024) (iK _) ?_ h;intro eof ln F F' hs rows rows' row A C;rcases Y3 C with h | h
 · rw [h]; exact A
 · exact h
theorem adB {a t:Tx} {T:aX×List bE} (h:lx a t=some T):T.1.rules.length≤1024:=by
 unfold lx at h;split at h
 · cases h
 · rename_i F A;split at h
   · cases h
   · cases h; exact RC A
theorem ael:lx vS BD=some (il,jS):=Gp aeb aef
theorem Pv:kN il jS jS.length= [⟨[103,97,115],0,-1,-1,-1⟩,⟨[103,97],1,-1,-1,-1⟩,⟨[103,97,115],1,0,-1,-1⟩]:=by
 unfold kN;rw [show gZ jS.length= [0,1] by rfl,kI,kI,List.flatMap_nil,aed,aee];rfl
theorem Pw:dV il jS [103,97,115]=BE:=by unfold dV; rw [Pv]; decide
theorem aeg:dV il jS [103]= []:=by unfold dV; rw [Pv]; decide
theorem aem:sV il jS [103,97,115] 9=BE:=by unfold sV; rw [Pw]; rfl
theorem aea:(pG il jS [103,97,115] false && !pG il jS [103,97,115] true)=true :=by unfold pG; rw [Pw]; decide
theorem aeh:(pG il jS [103] false && !pG il jS [103] true)=false :=by unfold pG; rw [aeg]; rfl
theorem PC (w:World):
 bw aE 10 (bl []) w (fun v w'=>v= .bool true∧Wk w w'):=by
 refine enter func10 ag ntmps10 ag<|ak fun ae=>az<|ae<|ak fun ah=>e<|cl xm (O9 vS BD w aM aM) ag ?_;rintro v5 aw ⟨⟨pp,aK,aL,aN,rfl,ac⟩,hE5⟩;rw [ael] at ac;obtain ⟨B,tb,U,aB,rfl,aq,C⟩:=ac;refine p mv<|p (xt ag ag)<|p (xt ag ag)<|e<|al rI fun ay aP aC E am=> ?_;have aI:=E.size;refine p aJ<|e<|dy kz ag ag ag ag (am) (by simp) fun I V aA=> ?_;have an:Wk w I:=(hE5.trans E.md).trans' V fun q au h=>by have :=hE5.size; omega
 have ao:Wk aw I:=E.md.trans' V fun q au h=>by omega
 have ab:=aq.wk ao;have G:il.rules.length≤1024:=aM;refine nl<|ah<|ak fun ai=>p mv<|e<|cl lG (aew B tb U il jS [103,97,115] 9 I ab C G aM) ag ?_;rintro v9 ax ⟨A,O⟩;rw [aem] at A;obtain ⟨a9,c9,rfl⟩:=cM A;have aa:=ab.wk O;refine az<|ai<|ak fun aj=>p mv<|p (bN vQ ag ag)<|p (bT ag ag)<|p mv<|gs (t:=13) ag (fun aD=> ?_) fun h=>absurd ag h;refine aV ag mv<|aV ag (bh xw ag ag aM<|aR.ok (AT A)<|zN aM)<|aV ag (fa pN ag)<|aV ag (ld bL ag<|fO (f:=ei) (m:=5) (i:=0) (fun _=>rfl) (AT A) (show BE[0]? =some ⟨[103,97,115],0,-1,-1,-1⟩ from ag) 1 aM)<|aV ag (bT ag ag)<|p (bI ag)<|p mv<|gs (t:=20) ag (fun aF=> ?_) fun h=>absurd ag h;refine aV ag mv<|aV ag (bh xw ag ag aM<|aR.ok (AT A)<|zN aM)<|aV ag (dp oz ag (ag)<|fO (f:=ei) (m:=5) (i:=1) (fun _=>rfl) (AT A) (show BE[1]? =some ⟨[103,97,115],1,0,-1,-1⟩ from ag))<|aV ag (dt (ps:= [(0,str [103,97,115]),(1,.int .i64 1),(2,.int .i64 0),(3,.int .i64 (-1)),(4,.int .i64 (-1))]) (L:= [str [103,97,115],.int .i64 1,.int .i64 0,.int .i64 (-1),.int .i64 (-1)]) Gg ag<|ag)<|aV ag (W6 ag ag)<|p (bI ag)<|p mv<|gs (t:=27) ag (fun aG=> ?_) fun h=>absurd ⟨ag,ag,ag,ag,ag⟩ h;refine aV ag mv<|eg ag ag ag<|cl Iy (HD B tb U il jS [103,97,115] ax aa C G aM) ag fun aO av Y=> ?_;rw [aea] at Y;obtain ⟨rfl,J⟩:=Y;refine p (bI ag)<|p mv<|gb (t:=31) ag (fun aH=> ?_) fun h=>absurd ((ag).symm.trans h) eA;refine aV ag mv<|eg ag ag ag<|cl Iy (HD B tb U il jS [103] av (aa.wk J) C G aM) ag fun v33 aQ Z=> ?_;rw [aeh] at Z;obtain ⟨rfl,ap⟩:=Z;exact aV ag (no ag)<|p (bI ag)<|az<|aj<|rt<|ba ag<|⟨ag,((an.trans O).trans J).trans ap⟩
theorem N0 (a t:Tx) (w:World) (aa:a.length≤1048576) (ab:t.length≤1048576):
 bw aE 9 (bl [str a,str t]) w (fun v w'=>(match lx a t with | none=>v= .tuple #[.pointer none,.pointer none,.bool true] | some T=> ∃ B tb U G E fb V ve,v= .tuple #[a6 tb,a6 E,.bool true]∧gj w' B tb U T.1 T.2∧eH T.1 T.2∧gN w' G E fb V ve T.1 T.2)∧Wk w w'):=by
 refine enter func9 ag ntmps9 ag<|ak fun ae=>p aJ<|p aJ<|az<|ae<|aH fun ah=>rg ag<|aw (str a)<|aw (str t)<|e<|cl xm (O9 a t w aa ab) ag ?_;rintro aY ax ⟨⟨aQ,aS,aT,aU,rfl,A⟩,hE14⟩;have aN:=hE14.size;refine p mv<|p (xt ag ag)<|p (xt ag ag)<|e<|al rI fun aC a0 aK Z ao=> ?_;have aP:=Z.size;refine p aJ<|e<|dy kz ag ag ag ag (ao) (by simp) fun ac O aD=> ?_;have J:Wk ax ac:=Z.md.trans' O fun q av h=>by omega
 have aL:=O.size;refine nl<|ah<|ak fun ai=>aw (str a)<|aw (str t)<|e<|cl TR (ace a t ac aa ab) ag ?_;rintro v20 ay ⟨⟨aR,aV,aW,aX,rfl,C⟩,hE20⟩;have aO:=hE20.size;refine p mv<|p (xt ag ag)<|p (xt ag ag)<|e<|al PQ fun aB aZ aI Y an=> ?_;have aM:=Y.size;refine p aJ<|e<|dy zD ag ag ag ag (an) (by simp) fun aA aq aF=> ?_;have I:Wk ay aA:=Y.md.trans' aq fun q av h=>by omega
 refine nl<|ai<|ak fun aj=>p mv<|p mv<|p mv<|p (lJ yq ag ag)<|p mv<|p (lJ Gy ag ag)<|p (DF u4 ag ag)<|p aJ<|p aJ<|az<|aj<|rt<|f3 ag ag ag ag ?_;refine ⟨?_,hE14.trans<|J.trans<|hE20.trans I⟩;cases hx:lx a t with
 | none=>rw [hx] at A C; subst A C; rfl
 | some T=>
   rw [hx] at A C;obtain ⟨B,tb,U,aG,rfl,au,am⟩:=A;obtain ⟨G,E,fb,V,ve,rfl,ap⟩:=C;exact ⟨B,tb,U,G,E,fb,V,ve,ag,au.wk (J.trans<|hE20.trans I),am,ap.wk I⟩
end Go.Hb
end
section
namespace Go.Hb
open Go.Hb.jX Go.Hb.k5 Go.Hb.uC Go.Hb.tk Go.Hb.wT Go.Hb.Hy
theorem Wb:∀ l:List Tx,(iM l).length≤l.length:=by
 intro l
 induction l with
 | nil=>exact cU _
 | cons a l A=>
   cases l with
   | nil=>exact cU _
   | cons b l=>rw [iM]; split <;> simp only [db] at* <;> omega
theorem adi {F:aX} {xs:List bE} {w:Tx} (A:F.rules.length≤1024) (C:xs.length≤8192):(gp F xs w).length≤4000000000000:=by
 have h1:(gp F xs w).length≤_:=Wb _;have h2:=Hr (le:=fun x y:Tx=>decide (x≤y))<|gn F xs<|dV F xs w;have h3:=Gj F xs<|dV F xs w;have h4:(dV F xs w).length≤(kN F xs xs.length).length:=o5 _ _;have h5:=zb A C;omega
theorem A2 (L:List Tx) (a b:Option Addr) (c d:Nat) (w:World) (O:aR w.heap a (L.map str)) (V:aR w.heap b (L.map str)) (ax:L.length≤4000000000000):
 bw aE 21 (bl [.slice a L.length c,.slice b L.length d]) w (fun v w'=>v= .bool true∧Wk w w'):=by
 refine enter func21 ag ntmps21 ag<|ak fun aa=>az<|aa<|aH fun ac=>ak fun ae=>p mv<|p (bN ee ag ag)<|p mv<|p (bN ee ag ag)<|p (dw ag ag)<|nl<|ae<|cd ag (fun h=>absurd h fun h=>h ag) fun aq=>aT<|ac<|aH fun ah=>ak fun ai=>p mv<|p (bN ee ag ag)<|p mv<|nl<|ai<|aW<|lp (fun J Z E=> ∃ (i:Nat),(i≤L.length)∧(Wk w E)∧(Sl Z [(0,.slice a L.length c),(1,.slice b L.length d),(12,ay (L.length)),(13,ay i)])∧(L.length - i=J)) _ ⟨0,aj,(Md.refl _ _),ag,ag⟩ ?_;rintro J Z E ⟨i,hi,C,ap,rfl⟩;refine bH ap<|ak fun al=>p (lt ag ag)<|nl<|al<|aH fun am=>cd ag (fun ao=> ?_) fun ao=> ?_;refine aT<|am<|aH fun G=>aW<|aH fun an=> ?_;obtain ⟨x,Y⟩:∃ x,L[i]? =some x:=⟨_,cz aj⟩
 refine rg ag<|aw (ay i)<|p (cV (ay i) ag)<|nl<|an<|aH fun ab=> ?_;have A:(fun w'=>Wk E w') E.drew:=(Md.refl _ _).drew;refine cj (fun w'=>Wk E w') ag wide A<|bQ 0 ag (.slice a L.length c) A<|bQ 1 ag (ay i) A<|aU 2 ag (bh cE ag ag aj<|aR.ok (O.wk C)<|bY aj) A<|bS 3 ag (fun w' I=>ld bW ag<|aR.gQ ((O.wk C).wk I) (show (L.map str)[i]? =some (str x) by rw [gi,Y]; rfl)) A ?_;refine bQ 4 ag (.slice b L.length d) A<|bQ 5 ag (ay i) A<|aU 6 ag (bh cE ag ag aj<|aR.ok (V.wk C)<|bY aj) A<|bS 7 ag (fun w' I=>ld bW ag<|aR.gQ ((V.wk C).wk I) (show (L.map str)[i]? =some (str x) by rw [gi,Y]; rfl)) A ?_;exact aU 8 ag (nR ag ag) A<|hn au<|ab<|cd ag (fun h=>absurd h fun h=>h ag) fun av=>aT<|bn<|G<|rg ag<|p (bJ ((i+1:Nat):Int) ag ag<|bp aj aj)<|p mv<|nl<|tn<|⟨_,aj,i+1,aj,(C.trans A),ag,ag⟩
 exact ext<|bj<|bj<|be<|ah<|ak fun G=>p aJ<|nl<|G<|rt<|ba ag<|⟨ag,C⟩
theorem adl (a t wd:Tx) (w:World) (bQ:a.length≤1048576) (bX:t.length≤1048576) (b6:wd.length≤1048576) (F:aX) (xs:List bE) (a0:lx a t=some (F,xs)):
 bw aE 5 (bl [str a,str t,str wd]) w (fun v w'=>v= .bool true∧Wk w w'):=by
 have al:F.rules.length≤1024:=adB a0;refine enter func5 ag ntmps5 ag<|ak fun a7=>az<|a7<|ak fun bo=>p mv<|p mv<|e<|cl c9 (N0 a t w bQ bX) ag ?_;rintro v17 bZ ⟨aO,bC⟩;rw [a0] at aO;obtain ⟨B,tb,U,aF,a1,fb,V,ve,bY,aa,I,au⟩:=aO;subst bY;have aa:gj _ B tb U F xs:=aa;have I:eH F xs:=I;have au:gN _ aF a1 fb V ve F xs:=au;have am:(gp F xs wd).length≤4000000000000:=adi al I.xl;refine p mv<|p (xt ag ag)<|p (xt ag ag)<|p (xt ag ag)<|p aJ<|p aJ<|p aJ<|nl<|bo<|aH fun bq=>ak fun br=>p mv<|p (no ag)<|p mv<|gb (t:=23) ag (fun h=>absurd (h.symm.trans<|ag) eA) fun b4=> ?_;refine eg ag ag ag<|cl l8 (PC bZ) ag ?_;rintro v24 ao ⟨rfl,Z⟩;have bF:=bC.trans Z;refine aV ag (no ag)<|p (bD ag)<|nl<|br<|cf (ag)<|aT<|bq<|aH fun bs=>rg ag<|p mv<|p mv<|e<|cl zk (Gk B tb U F xs wd ao (aa.wk Z) I al aj) ag ?_;rintro ca a2 ⟨ab,ac⟩;obtain ⟨E,G,rfl⟩:=cM ab;have bP:=(aa.wk Z).wk ac;have b7:=ac.size;refine az<|bs<|aH fun bt=>ak fun bu=>p mv<|p (lJ Gy ag ag)<|nl<|bu<|cf (ag)<|aT<|bt<|ak fun bv=>p mv<|p mv<|e<|cl S8 (acb aF a1 fb V ve F xs wd a2 ((au.wk Z).wk ac) I) ag ?_;rintro v37 a3 ⟨aQ,ae⟩;obtain ⟨A,C,rfl⟩:=cM aQ;have b8:=ae.size;refine az<|bv<|ak fun bx=>p mv<|p mv<|e<|cl zk (Gk B tb U F xs wd a3 (bP.wk ae) I al aj) ag ?_;rintro v40 b0 ⟨aB,ai⟩;obtain ⟨O,Y,rfl⟩:=cM aB;have aP:=bc (bc ab ae) ai;have aA:=bc aQ ai;have b9:=ai.size;refine az<|bx<|aH fun a9=>ak fun bb=>p mv<|p mv<|e<|cl zm (A2 (gp F xs wd) E A G C b0 (bg aP).2 (bg aA).2 am) ag ?_;rintro cb b1 ⟨rfl,aq⟩;refine p (no ag)<|p mv<|gb (t:=45) ag (fun h=>absurd (h.symm.trans<|ag) eA) fun b5=>aV ag mv<|aV ag mv<|eg ag ag ag<|cl zm (A2 (gp F xs wd) O A Y C b1 ((bg aB).2.wk aq) ((bg aA).2.wk aq) am) ag ?_;rintro cc a4 ⟨rfl,bG⟩;have ah:=aq.trans bG;have bT:=bc aP ah;have aS:=bc aA ah;have aY:=bc aB ah;have bM:Wk ao a4:=((ac.trans ae).trans ai).trans ah;refine aV ag (no ag)<|p (bD ag)<|nl<|bb<|cf (ag)<|aT<|a9<|aH fun bd=>ak fun bf=>p mv<|p (bN ee ag ag)<|p mv<|nl<|bf<|aW<|lp (fun aG a5 J=> ∃ (i:Nat) (an:List Value),(i≤(gp F xs wd).length)∧(an.length=(gp F xs wd).length)∧(Md (fun q=>(cg E (gp F xs wd).length G).ownBlock=some q) a4 J)∧(bB J ao.heap.size 9 1 (.slice E (gp F xs wd).length G) (gp F xs wd).length an)∧(bB J a2.heap.size 9 1 (.slice A (gp F xs wd).length C) (gp F xs wd).length<|(gp F xs wd).map str)∧(bB J a3.heap.size 9 1 (.slice O (gp F xs wd).length Y) (gp F xs wd).length<|(gp F xs wd).map str)∧(Sl a5 [(2,str wd),(7,a6 tb),(10,.slice E (gp F xs wd).length G),(11,.slice A (gp F xs wd).length C),(12,.slice O (gp F xs wd).length Y),(52,ay ((gp F xs wd).length)),(53,ay i)])∧((gp F xs wd).length - i=aG)) _ ⟨0,(gp F xs wd).map str,aj,(fH _),(Md.refl _ _),bT,aS,aY,ag,ag⟩ ?_;rintro aG a5 J ⟨i,an,hi,aN,aM,aC,ax,aU,bW,rfl⟩;refine bH bW ?_;have bL:Wk ao J:=bM.trans' aM fun k hk h=>by have :=(dK ab h).1; omega
 refine ak fun bi=>p (lt ag ag)<|nl<|bi<|aH fun bk=>cd ag (fun bR=> ?_) fun bR=> ?_;refine aT<|bk<|aH fun ap=>aW<|ak fun bm=>aw (ay i)<|p (cV (ay i) ag)<|nl<|bm<|rg ag<|aw (.slice E (gp F xs wd).length G)<|aw (ay i)<|p (bh cE ag ag aj<|aR.ok ((bg aC).2)<|by intro e; have :=congrArg jV e; rw [aN,gC] at this; omega)<|e<|tV (j:=i) (u:=str [109,97,114,107]) aC lI ag ag ag (by rw [kH,nu]) aj fun ci av bS=> ?_;have bO:=aM.trans av;have bU:=dz ax av fun q aD hk=>by have h1:=dK aC hk; have h2:=dK aS aD; have h3:=dK ab (show (cg E (gp F xs wd).length G).ownBlock=some q from hk); omega
 have bV:=dz aU av fun q aD hk=>by have h2:=dK aY aD; have h3:=dK ab (show (cg E (gp F xs wd).length G).ownBlock=some q from hk); omega
 exact nl<|bn<|ap<|rg ag<|p (bJ ((i+1:Nat):Int) ag ag<|bp aj aj)<|p mv<|nl<|tn<|⟨_,aj,i+1,an.set i (str [109,97,114,107]),aj,(by rw [List.length_set]; exact aN),bO,bS,bU,bV,ag,ag⟩
 refine ext<|bj<|bj<|be<|bd<|ak fun ap=>aw (.slice O (gp F xs wd).length Y)<|aw (.slice A (gp F xs wd).length C)<|e<|cl zm (A2 (gp F xs wd) O A Y C J (bg aU).2 (bg ax).2 am) ag ?_;rintro ce b2 ⟨rfl,aI⟩;have aL:=bL.trans aI;refine p mv<|aV ag (a8 (a6 tb) ag)<|aV ag (a8 (str wd) ag)<|eg ag ag ag<|cl zk (Gk B tb U F xs wd b2 (aa.wk<|Z.trans aL) I al aj) ag ?_;rintro v66 b3 ⟨aZ,aK⟩;obtain ⟨bz,bA,rfl⟩:=cM aZ;refine aV ag (a8 (.slice A (gp F xs wd).length C) ag)<|eg ag ag ag<|cl zm (A2 (gp F xs wd) bz A bA C b3 (bg aZ).2 ((bg ax).2.wk<|aI.trans aK) am) ag ?_;rintro ch cj ⟨rfl,bK⟩;exact p (bI ag)<|az<|ap<|rt<|ba ag<|⟨ag,((bF.trans aL).trans aK).trans bK⟩
theorem adk (a t wd:Tx) (w:World) (ae:a.length≤1048576) (ah:t.length≤1048576) (aw:wd.length≤1048576) (aj:lx a t=none):
 bw aE 5 (bl [str a,str t,str wd]) w (fun v w'=>v= .bool true∧Wk w w'):=by
 refine enter func5 ag ntmps5 ag<|ak fun E=>az<|E<|ak fun G=>p mv<|p mv<|e<|cl c9 (N0 a t w ae ah) ag ?_;rintro v17 am ⟨C,Z⟩;rw [aj] at C;have ai:v17=_:=C;subst ai;refine p mv<|p (xt ag ag)<|p (xt ag ag)<|p (xt ag ag)<|p aJ<|p aJ<|p aJ<|nl<|G<|aH fun I=>ak fun J=>p mv<|p (no ag)<|p mv<|gb (t:=23) ag (fun h=>absurd (h.symm.trans<|ag) eA) fun av=> ?_;refine eg ag ag ag<|cl l8 (PC am) ag ?_;rintro v24 an ⟨rfl,aa⟩;have ab:=Z.trans aa;refine aV ag (no ag)<|p (bD ag)<|nl<|J<|cf (ag)<|aT<|I<|aH fun O=>rg ag<|p mv<|p mv<|e<|cl zk (adn wd an) ag ?_;rintro al ao ⟨A,ac⟩;have A:bB ao _ _ 1 al ([]:List Tx).length []:=A;obtain ⟨aq,au,rfl⟩:=cM A;exact az<|O<|aH fun ap=>ak fun V=>p mv<|p (lJ Gy ag ag)<|nl<|V<|ct (ag)<|ak fun Y=>p mv<|p (bN ee ag ag)<|p (bT ag ag)<|az<|Y<|rt<|tr<|ba ag<|⟨ag,ab.trans ac⟩
theorem adm (a t wd:Tx) (w:World) (A:a.length≤1048576) (C:t.length≤1048576) (E:wd.length≤1048576):bw aE 5 [str a,str t,str wd].toArray w (fun v w'=>v= .bool true∧Wk w w'):=by
 cases hx:lx a t with
 | none=>exact adk a t wd w A C E hx
 | some Y=>obtain ⟨F,xs⟩:=Y; exact adl a t wd w A C E F xs hx
end Go.Hb
end
