/-
  Walks and plain laws that the law rests on, laid together. No conditions but those that each theorem names.
-/
import Derived.Test.YtchkamdekbbgeaaGreatDoorMnAnalyseAccepts7
set_option linter.unusedVariables false
set_option maxRecDepth 20000
set_option maxHeartbeats 1000000
open Array renaming getElem?_eq_none→ti,getElem?_eq_some_iff→dD,getElem?_modify→LN,getElem?_toList→zL
open Bool renaming noConfusion→dM
open Go.Calls renaming mono→mm
open Go.Proofs.SlLaysF0 renaming n6→ZS
open Go.Proofs.Tryz renaming prog→az
open Go.Proofs renaming ltOf→xp
open Go.Sort renaming ahead→xq,grow→Mj
open Go renaming Value→ag,World→ak
open Go.Value renaming bool→bR,int→gq,oneCell'→fX,ownBlock→jS,slice→bQ
open Go.World renaming ownsRow→bo,ownsRow_nil→dE
open Int renaming toNat_natCast→kg
open List.Perm renaming refl→Mv
open List renaming any_eq_true→xv,append_nil→ez,eq_nil_of_length_eq_zero→fY,filter_append→q9,filter_cons→pD,flatMap_append→nM,flatMap_cons→kt,getD_eq_getElem?_getD→cH,getElem?_eq_getElem→bY,getElem?_take_of_lt→MR,length_append→bG,length_cons→cC,length_filter_le→qg,length_map→fC,length_nil→gr,length_range→u6,length_singleton→fg,length_take→dJ,map_append→gS,mem_append_right→u7,mem_cons→fi,mem_cons_of_mem→nO,mem_cons_self→mY,mem_filter→qh,mem_map→je,mem_of_getElem?→gB,mem_singleton→iS,of_mem_zip→Ah,range→gT,take_of_length_le→eY,toArray→a7
open Nat renaming add_le_add→M8,le_refl→cE,le_trans→e7,lt_succ_iff_lt_or_eq→pI,mul_add→xB,mul_comm→vf,mul_le_mul_right→qo,zero_le→gY
open Nat.le renaming dest→EA
open Option renaming isSome_iff_exists→nP
open Prod renaming fst→gU
open Go.Proofs.Tryz
open Go.Hb.dP Go.Proofs Go.Hb.eH Go.Hb.fj Go.Hb.iF Go.Hb.fZ Go.Hb.gZ Go.Hb.iU Go.Hb.jt Go.Hb.jH Go.Hb.ki Go.Hb.pJ

section
namespace Go.Hb
section
variable {F:aE} {xs:List bp} {wd word:Tx} {p:Int} {S:bE→Prop} {i:Nat}
def oQ (F:aE) (xs:List bp) (wd word:Tx) (p:Int) (S:bE→Prop) (i:Nat) (d:bE):Prop :=S d∨oR F xs wd word p i d
def nX (F:aE) (xs:List bp) (wd word sm:Tx) (p:Int) (S:bE→Prop) (i j:Nat) (d:bE):Prop :=(oQ F xs wd word p S i d∨oo F xs wd sm i (-1) p d)∨
 ∃ k rt,k < j∧gp (F.rules.getD ((fE F F.rules.length i).getD k 0) dF) sm=some rt∧oo F xs wd rt ((fE F F.rules.length i).getD k 0:Nat) i p d
theorem OM (d:bE):oQ F xs wd word p S 0 d↔(S d∨oo F xs wd word (-1) (-1) p d):=by
 unfold oQ oR;constructor
 · rintro (h | h | ⟨i,r,h,_⟩)
   · exact .inl h
   · exact .inr h
   · omega
 · rintro (h | h)
   · exact .inl h
   · exact .inr<|.inl h
theorem FA {r:cJ} (E:F.rules[i]? =some r) (h:r.kind≠2∨gp r word=none) (d:bE):oQ F xs wd word p S (i+1) d↔oQ F xs wd word p S i d:=by
 unfold oQ oR;constructor
 · rintro (h1 | h1 | ⟨k,C,hk,A,h2,st,h3,h4⟩)
   · exact .inl h1
   · exact .inr<|.inl h1
   · rcases pI.1 hk with hk | rfl
     · exact .inr<|.inr ⟨k,C,hk,A,h2,st,h3,h4⟩
     · rw [E] at A; cases A;rcases h with h | h
       · exact absurd h2 h
       · rw [h] at h3; cases h3
 · rintro (h1 | h1 | ⟨k,C,hk,h2⟩)
   · exact .inl h1
   · exact .inr<|.inl h1
   · exact .inr<|.inr ⟨k,C,ab,h2⟩
theorem ON {r:cJ} {sm:Tx} (E:F.rules[i]? =some r) (hk:r.kind=2) (hu:gp r word=some sm) (d:bE):oQ F xs wd word p S (i+1) d↔nX F xs wd word sm p S i (fE F F.rules.length i).length d:=by
 unfold nX oQ oR;constructor
 · rintro (h1 | h1 | ⟨k,I,A,G,h2,st,h3,h4⟩)
   · exact .inl<|.inl<|.inl h1
   · exact .inl<|.inl<|.inr<|.inl h1
   · rcases pI.1 A with A | rfl
     · exact .inl<|.inl<|.inr<|.inr ⟨k,I,A,G,h2,st,h3,h4⟩
     · rw [E] at G; cases G;rw [hu] at h3; cases h3;rcases h4 with h4 | ⟨f,J,rt,h5,C⟩
       · exact .inl<|.inr h4
       · obtain ⟨m,hm,e⟩:=mM 0 J;exact .inr ⟨m,rt,hm,by rw [e]; exact h5,by rw [e]; exact C⟩
 · rintro (((h1 | h1 | ⟨k,I,A,h2⟩) | h1) | ⟨m,rt,hm,h5,C⟩)
   · exact .inl h1
   · exact .inr<|.inl h1
   · exact .inr<|.inr ⟨k,I,ab,h2⟩
   · exact .inr<|.inr ⟨i,r,ab,E,hk,sm,hu,.inl h1⟩
   · exact .inr<|.inr ⟨i,r,ab,E,hk,sm,hu,.inr ⟨_,dR (d:=0) hm,rt,h5,C⟩⟩
theorem OQ {sm:Tx} (d:bE):nX F xs wd word sm p S i 0 d↔(oQ F xs wd word p S i d∨oo F xs wd sm i (-1) p d):=by
 unfold nX;exact ⟨fun h=>h.resolve_right (fun ⟨k,_,h,_⟩=>by omega),.inl⟩
theorem OO {sm:Tx} {j:Nat} (h:gp (F.rules.getD ((fE F F.rules.length i).getD j 0) dF) sm=none) (d:bE):nX F xs wd word sm p S i (j+1) d↔nX F xs wd word sm p S i j d:=by
 unfold nX;constructor
 · rintro (h1 | ⟨k,rt,hk,h2,h3⟩)
   · exact .inl h1
   · rcases pI.1 hk with hk | rfl
     · exact .inr ⟨k,rt,hk,h2,h3⟩
     · rw [h] at h2; cases h2
 · rintro (h1 | ⟨k,rt,hk,h2⟩)
   · exact .inl h1
   · exact .inr ⟨k,rt,ab,h2⟩
theorem OP {sm rt:Tx} {j:Nat} (h:gp (F.rules.getD ((fE F F.rules.length i).getD j 0) dF) sm=some rt) (d:bE):nX F xs wd word sm p S i (j+1) d↔(nX F xs wd word sm p S i j d∨oo F xs wd rt ((fE F F.rules.length i).getD j 0:Nat) i p d):=by
 unfold nX;constructor
 · rintro (h1 | ⟨k,A,hk,h2,h3⟩)
   · exact .inl<|.inl h1
   · rcases pI.1 hk with hk | rfl
     · exact .inl<|.inr ⟨k,A,hk,h2,h3⟩
     · rw [h] at h2; cases h2; exact .inr h3
 · rintro ((h1 | ⟨k,A,hk,h2⟩) | h1)
   · exact .inl h1
   · exact .inr ⟨k,A,ab,h2⟩
   · exact .inr ⟨j,rt,ab,h,h1⟩
end
theorem RQ {F:aE} {n z i:Nat} (h:i∈fE F n z):i < n:=List.mem_range.1 (qh.1 h).1
theorem FC (w0 wB:ak) (B kb tb:Nat) (U:gE) (F:aE) (xs:List bp) (ar:Option Addr) (cr:Nat) (rn:List ag) (fm dm:Nat) (A:k8 w0 wB B kb tb U F xs ar cr rn fm dm) (C:ec F xs) (wd word:Tx) (G:Nat) (pp:Int) (S:bE→Prop) (w:ak) (hm:Md (fun k=>k=dm) wB w) (ce:kz w.heap dm S) (aS: -1≤pp) (c4:word.length≤4194304):
 ba az 58 (a7 [bj kb,str word,.agg [str wd,ay G,.int .i64 (-1),.int .i64 (-1),.int .i64 pp].toArray]) w (fun v w'=>v= .tuple #[]∧kz w'.heap dm (fun d=>S d∨oR F xs wd word pp F.rules.length d)∧Md (fun k=>k=dm) w w'):=by
 have c5:=C.xl;have cY:=A.lt;have c3:=hm.size;have c0:=C.len;refine enter func58 aa ntmps58 aa<|bg 2 aa<|e<|nU aa fun E aW cV ap b8=> ?_;have c6:=ap.size;have bD:Md (fun k=>k=dm) wB aW:=hm.trans' ap.md fun _ _ h=>h.elim;have br:aW.heap[E]? =some (.cells [str wd,ay G,.int .i64 (-1),.int .i64 (-1),.int .i64 pp].toArray 49 (0,0)):=b8;have ch:=ce.md ap.md id;have ae:¬(E=dm):=ab;refine au 4 aa<|p mv<|p mv<|p (cQ oN aa (aa) fun q J=>(oP br).bu q)<|e<|aM (Ci w0 wB B kb tb U F xs ar cr rn fm dm A C wd word G (-1) (-1) pp S aW bD ch ab ab aS) aa ?_;rintro v17 bU ⟨rfl,cf,ax⟩;have bw:Md (fun k=>k=dm) wB bU:=bD.trans ax;have ct:=ax.bl br ae;have cG:Md (fun k=>k=dm) w bU:=(ap.md.mono fun _ _ h=>h.elim).trans ax;refine au 4 aa<|p mv<|au 2 aa<|p (ld1 aa<|(a8<|A.at bw).trans aa)<|aQ 5 aa<|lp (fun Y b2 V=> ∃ (i:Nat) (b0 z2:Int),(i≤F.rules.length)∧(Md (fun k=>k=dm) wB V)∧(Md (fun k=>k=dm) w V)∧(kz V.heap dm<|oQ F xs wd word pp S<|i)∧(V.heap[E]? =some (.cells [str wd,ay G,.int .i64 b0,.int .i64 z2,.int .i64 pp].toArray 49 (0,0)))∧(Sl b2 [(0,bj kb),(1,str word),(5,bj E),(21,.slice ar F.rules.length cr),(22,ay (F.rules.length)),(23,ay i)])∧(F.rules.length - i=Y)) _ ⟨0,_,_,ab,bw,cG,(cf.congr OM),ct,aa,aa⟩ ?_;rintro Y b2 V ⟨i,b0,z2,hi,aP,bH,a9,cw,cP,rfl⟩;refine bA cP<|bq 6 aa<|cd aa (fun cB=> ?_) fun cB=> ?_;refine bz 5 aa ?_;obtain ⟨r,I⟩:∃ r,F.rules[i]? =some r:=⟨_,bY ab⟩
 obtain ⟨u,aV⟩:=A.jm I;have cT:=A.ro u (Ah<|gB aV).2;refine aH 2 aa<|p (a6 nk aa aa ab<|aB.ok (A.rules aP)<|oA aV)<|p (cQ lI aa (aa)<|fI (f:=eS) (m:=7) (fun _=>rfl) (A.rules aP) aV)<|e<|gK qZ fun b4 da aF bd b9=> ?_;have c7:=bd.size;refine au 1 aa<|e<|gA oW aa aa aa (Kc cT) b9 aw fun aj cn b7=> ?_;have am:Wk V aj:=bd.md.trans' cn fun q J h=>by omega
 have aF:bO aj.heap b4 (eS (r,u)):=⟨_,b7⟩
 have bB:Md (fun k=>k=dm) wB aj:=aP.trans' am fun _ _ h=>h.elim;have bL:Md (fun k=>k=dm) w aj:=bH.trans' am fun _ _ h=>h.elim;have a4:=a9.md am id;have bn:=Wk.bl am cw;refine au 6 aa<|p (ld1 aa<|aF.bu 0)<|aQ 3 aa<|cd aa (fun hk=> ?_) fun hk=> ?_;have aK:=FA (xs:=xs) (wd:=wd) (word:=word) (p:=pp) (S:=S) I<|.inl (show r.kind≠2 by have h:=hk; dsimp only at h; omega);exact aH 5 aa<|p (bC<|i+1)<|aC 2 aa<|tn<|⟨_,ab,i+1,_,_,ab,bB,bL,(a4.congr aK),bn,aa,aa⟩
 have cD:r.kind=2:=by have h:=hk; dsimp only at h; omega
 refine aH 4 aa<|p (cQ lI aa (aa) fun q J=>aF.bu q)<|au 1 aa<|e<|aM (DI r u word aj (C.jm I).2.2.1 (ox C I).2.1 (ox C I).2.2.1 ab) aa ?_;rintro c8 bW ⟨rfl,al⟩;have bx:Md (fun k=>k=dm) wB bW:=bB.trans' al fun _ _ h=>h.elim;have bI:Md (fun k=>k=dm) w bW:=bL.trans' al fun _ _ h=>h.elim;have a3:=a4.md al id;have bm:=Wk.bl al bn;refine p mv<|aQ 13 aa<|cb aa (fun aG=> ?_) fun aG=> ?_;have aK:=FA (xs:=xs) (wd:=wd) (p:=pp) (S:=S) I<|.inr (show gp r word=none by simpa using aG);exact aH 5 aa<|p (bC<|i+1)<|aC 2 aa<|tn<|⟨_,ab,i+1,_,_,ab,bx,bI,(a3.congr aK),bm,aa,aa⟩
 obtain ⟨sm,aT⟩:∃ sm,gp r word=some sm:=nP.1<|by simpa using aG
 have c2:=Li aT;have cZ:=(ox C I).1;have aq:(gp r word).getD []=sm:=by rw [aT]; rfl
 have c1:r.strip.length≤32:=(C.jm I).2.2.1;refine aH 6 aa<|e<|dd gM aa aa (v:=ay i) aa bm (by show 2 < 5; omega) fun db cp cc=>au 1 aa<|e<|dd gM aa aa (v:= .int .i64<|-1) aa cc (by show 3 < 5; omega) fun av co ca=> ?_;have bs:av.heap[E]? =some (.cells [str wd,ay G,ay i,.int .i64 (-1),.int .i64 pp].toArray 49 (0,0)):=ca;have aD:=cp.trans co;have bG:Md (fun k=>k=dm) wB av:=bx.trans' aD fun q J h=>by omega
 have cK:Md (fun k=>k=dm) w av:=bI.trans' aD fun q J h=>by omega
 have ck:=a3.md aD fun h=>ae h.symm;refine au 6 aa<|p (cQ oN aa (aa) fun q J=>(oP bs).bu q)<|e<|aM (Ci w0 wB B kb tb U F xs ar cr rn fm dm A C wd ((gp r word).getD []) G (i:Nat) (-1) pp (oQ F xs wd word pp S<|i) av bG ck ab ab aS) aa fun v45 bX bf=> ?_;rw [aq] at bf;obtain ⟨rfl,cg,aA⟩:=bf;have aO:Md (fun k=>k=dm) wB bX:=bG.trans aA;have cI:Md (fun k=>k=dm) w bX:=cK.trans aA;have cu:=aA.bl bs ae;obtain ⟨fo,cy,cz⟩:=A.fE aO;obtain ⟨a0,a1,b3,cA,cN⟩:=cz i ab;have cW:(fE F F.rules.length i).length≤F.rules.length:=by have :=qg (fun q:Nat=>decide (i∈bh F (bV F (q:Int)) 2)) (gT F.rules.length); unfold fE; rw [u6] at this; exact this
 refine au 7 aa<|p (ld1 aa<|(a8<|A.at aO).trans aa)<|au 1 aa<|p (mL DB zK B7 (cy) aa aa (⟨_,aa⟩)<|cA)<|aQ 5 aa<|lp (fun Y aZ O=> ∃ (j:Nat) (b1 z3:Int),(j≤(fE F F.rules.length i).length)∧(Md (fun k=>k=dm) wB O)∧(Md (fun k=>k=dm) w O)∧(kz O.heap dm<|nX F xs wd word sm pp S i<|j)∧(O.heap[E]? =some (.cells [str wd,ay G,.int .i64 b1,.int .i64 z3,.int .i64 pp].toArray 49 (0,0)))∧(bo O b3 3 1 (.slice a0 (fE F F.rules.length i).length a1) (fE F F.rules.length i).length<|(fE F F.rules.length i).map bJ)∧(aZ 8=str sm)∧(Sl aZ [(0,bj kb),(1,str word),(5,bj E),(6,ay i),(21,.slice ar F.rules.length cr),(22,ay (F.rules.length)),(23,ay i),(51,.slice a0 (fE F F.rules.length i).length a1),(52,ay ((fE F F.rules.length i).length)),(53,ay j)])∧((fE F F.rules.length i).length - j=Y)) _ ⟨0,_,_,ab,aO,cI,(cg.congr OQ),cu,cN,(by first | rfl | exact congrArg str aq),aa,aa⟩ ?_;rintro Y aZ O ⟨j,b1,z3,cX,ac,bN,bb,bt,aR,cS,cR,rfl⟩;refine bA cR<|fx 8 cS<|bq 6 aa<|cd aa (fun cC=> ?_) fun cC=> ?_;refine aH 6 aa<|p (a6 ke aa aa ab<|aB.ok ((aX aR).2)<|bS ab)<|p (ld1 aa<|aB.gV (i:=j) (aX aR).2<|oh ab)<|aQ 4 aa ?_;have cx:((fE F F.rules.length i).getD j 0) < F.rules.length:=RQ<|dR (d:=0) (show j < (fE F F.rules.length i).length by omega);obtain ⟨rf,ah⟩:∃ r,F.rules[((fE F F.rules.length i).getD j 0)]? =some r:=⟨_,bY cx⟩
 have bQ:F.rules.getD ((fE F F.rules.length i).getD j 0) dF=rf:=by rw [cH,ah]; rfl
 obtain ⟨cU,bT⟩:=A.jm ah;refine aH 4 aa<|p (ld1 aa<|(a8<|A.at ac).trans aa)<|au 1 aa<|p (a6 nk aa aa ab<|aB.ok (A.rules ac)<|oA bT)<|p (cQ lI aa (aa)<|fI (f:=eS) (m:=7) (fun _=>rfl) (A.rules ac) bT)<|au 1 aa<|e<|aM (DI rf cU sm O (C.jm ah).2.2.1 (ox C ah).2.1 (ox C ah).2.2.1 ab) aa ?_;rintro v66 aY ⟨rfl,Z⟩;have bF:Md (fun k=>k=dm) wB aY:=ac.trans' Z fun _ _ h=>h.elim;have bM:Md (fun k=>k=dm) w aY:=bN.trans' Z fun _ _ h=>h.elim;have a5:=bb.md Z id;have aN:=Wk.bl Z bt;have bP:=aU aR Z;refine p mv<|aQ 11 aa<|cb aa (fun aI=> ?_) fun aI=> ?_;obtain ⟨rt,bR⟩:∃ rt,gp rf sm=some rt:=nP.1<|by simpa using aI
 have cO:(gp rf sm).getD []=rt:=by rw [bR]; rfl
 have aL:=OP (xs:=xs) (wd:=wd) (word:=word) (p:=pp) (S:=S) (i:=i) (j:=j)<|by rw [bQ]; exact bR
 refine aH 5 aa<|e<|dd gM aa aa (v:= .int .i64 ((((fE F F.rules.length i).getD j 0):Nat):Int)) aa aN (by show 2 < 5; omega) fun c9 cm b6=>au 1 aa<|e<|dd gM aa aa (v:=ay i) aa b6 (by show 3 < 5; omega) fun ai cl b5=> ?_;have bk:ai.heap[E]? =some (.cells [str wd,ay G,.int .i64 ((((fE F F.rules.length i).getD j 0):Nat):Int),ay i,.int .i64 pp].toArray 49 (0,0)):=b5;have ao:=cm.trans cl;have bv:Md (fun k=>k=dm) wB ai:=bF.trans' ao fun q J h=>by omega
 have cF:Md (fun k=>k=dm) w ai:=bM.trans' ao fun q J h=>by omega
 have a2:=a5.md ao fun h=>ae h.symm;have cq:TF aY [51] (fun q=>q=E):=TF.eq (dC aN) aw;have cL:=cj bP ao cq aw;refine au 5 aa<|p (cQ oN aa (aa) fun q J=>(oP bk).bu q)<|e<|aM (Ci w0 wB B kb tb U F xs ar cr rn fm dm A C wd ((gp rf sm).getD []) G ((((fE F F.rules.length i).getD j 0):Nat):Int) (i:Nat) pp (nX F xs wd word sm pp S i<|j) ai bv a2 ab ab aS) aa fun v77 bZ bi=> ?_;rw [cO] at bi;obtain ⟨rfl,ci,an⟩:=bi;have cE:Md (fun k=>k=dm) wB bZ:=bv.trans an;have cJ:Md (fun k=>k=dm) w bZ:=cF.trans an;have cv:=an.bl bk ae;have cs:TF ai [1] (fun q=>q=dm):=TF.eq (zr a2.choose_spec.1.yM.choose_spec.1) aw;have cM:=cj cL an cs aw;exact au 4 aa<|p (bC<|j+1)<|aC 2 aa<|tn<|⟨_,ab,j+1,_,_,ab,cE,cJ,(ci.congr aL),cv,cM,(by first | rfl | exact congrArg str aq),aa,aa⟩
 have aL:=OO (xs:=xs) (wd:=wd) (word:=word) (p:=pp) (S:=S) (i:=i) (j:=j) (show gp (F.rules.getD _ dF) sm=none by rw [bQ]; simpa using aI);exact aH 4 aa<|p (bC<|j+1)<|aC 2 aa<|tn<|⟨_,ab,j+1,_,_,ab,bF,bM,(a5.congr aL),aN,bP,(by first | rfl | exact congrArg str aq),aa,aa⟩
 exact aJ 2 aa<|bK<|dq 4 aa<|p (bC<|i+1)<|aC 2 aa<|tn<|⟨_,ab,i+1,_,_,ab,ac,bN,(bb.congr<|by rw [show j=(fE F F.rules.length i).length by omega]; exact ON I cD aT),bt,aa,aa⟩
 refine aJ 2 aa<|bK<|bc 1 aa<|f0 aa ?_;obtain rfl :i=F.rules.length:=ab;exact ⟨aa,a9,bH⟩
structure kO (w:ak) (B:Nat) (f:ag→Option ag) (Pz:Nat→List Nat):Prop where
 own:∀ z:Nat,bo w B 3 1 ((f<|.int .i64 (z:Nat)).getD<|bQ none 0 0) (Pz z).length ((Pz z).map bJ)
 sep:∀ (z y k:Nat),z≠y→((f<|.int .i64 (z:Nat)).getD<|bQ none 0 0).ownBlock=some k→((f<|.int .i64 (y:Nat)).getD<|bQ none 0 0).ownBlock≠some k
theorem kO.md {G:Nat→Prop} {w w':ak} {B:Nat} {f:ag→Option ag} {A:Nat→List Nat} (h:kO w B f A) (hm:Md G w w') (C:∀ k,G k→∀ cur z,w.heap[k]?≠some (.cells cur 3 z)):kO w' B f A:=
 ⟨fun z=>da (h.own z) hm (fun k hk I=>pc (h.own z) hk fun cur y E=>C k I cur y E),h.sep⟩
theorem kO.wk {w w':ak} {B:Nat} {f:ag→Option ag} {A:Nat→List Nat} (h:kO w B f A) (hm:Wk w w'):kO w' B f A:=h.md hm fun _ h=>h.elim
theorem kO.congr {w:ak} {B:Nat} {f:ag→Option ag} {A C:Nat→List Nat} (h:kO w B f A) (he:∀ z,C z=A z):kO w B f C:=by rw [show C=A from funext he]; exact h
theorem kO.nil (w:ak) (B:Nat):kO w B (fun _=>none) (fun _=> []):=⟨fun z=>dE _ _ _ _,fun z y k _ h=>by cases h⟩
theorem yA {a b:Nat} (h:gq .i64 (a:Nat)= .int .i64 (b:Nat)):a=b:=by injection h with _ h; omega
theorem kO.put {w I ab:ak} {B mb z0 i:Nat} {f:ag→Option ag} {C:Nat→List Nat} {v:ag} (h:kO w B f C) (hm:Md (fun k=>((f<|.int .i64 (z0:Nat)).getD<|bQ none 0 0).ownBlock=some k) w I)
 (Z:bo I B 3 1 v (C z0++ [i]).length ((C z0++ [i]).map bJ)) (O:∀ k,v.ownBlock=some k→((f<|.int .i64 (z0:Nat)).getD<|bQ none 0 0).ownBlock=some k∨w.heap.size≤k) (Y:∀ cur z,I.heap[mb]?≠some (.cells cur 3 z)) (V:Md (fun k=>k=mb) I ab):
 kO ab B (bM f (.int .i64 (z0:Nat)) v) (fun z=>if z=z0 then C z++ [i] else C z):=by
 refine ⟨fun z=> ?_,fun z y k G hk=> ?_⟩
 · by_cases A:z=z0
   · subst A;rw [ow,if_pos rfl];exact da Z V fun k hk E=>pc Z hk fun cur y J=>Y cur y<|E ▸ J
   · rw [me (fun e=>A<|yA e),if_neg A];have h1:=da (h.own z) hm fun k hk E=>h.sep z0 z k (fun e=>A e.symm) E hk;exact da h1 V fun k hk E=>pc h1 hk fun cur y J=>Y cur y<|E ▸ J
 · by_cases A:z=z0
   · subst A;rw [ow] at hk;rw [me (fun e=>G (yA e).symm)];rcases O k hk with h1 | h1
     · exact h.sep z y k G h1
     · exact fun h2=>by have :=(dH (h.own y) h2).2; omega
   · rw [me (fun e=>A<|yA e)] at hk;by_cases aa:y=z0
     · subst aa;rw [ow];intro h2;rcases O k h2 with h1 | h1
       · exact h.sep z y k G hk h1
       · have :=(dH (h.own z) hk).2; omega
     · rw [me (fun e=>aa<|yA e)];exact h.sep z y k G hk
theorem RR (F:aE) (i z:Nat):fE F (i+1) z=fE F i z++(if z∈bh F (bV F (i:Int)) 2 then [i] else []):=by
 unfold fE;rw [List.range_succ,q9];congr 1;by_cases h:z∈bh F (bV F (i:Int)) 2
 · rw [if_pos h,pD,if_pos (decide_eq_true h)]; rfl
 · rw [if_neg h,pD,if_neg (by simpa using h)]; rfl
def o0 (F:aE) (i j z:Nat):List Nat:=fE F i z++(if z∈(bh F (bV F (i:Int)) 2).take j then [i] else [])
theorem Sb (F:aE) (i z:Nat):o0 F i 0 z=fE F i z:=by unfold o0; rw [List.take_zero,if_neg (fun h=>by cases h),ez]
theorem R9 (F:aE) (i z:Nat):fE F (i+1) z=o0 F i (bh F (bV F (i:Int)) 2).length z:=by unfold o0; rw [List.take_length,RR]
theorem Sa {F:aE} {i j:Nat} (C:j < (bh F (bV F (i:Int)) 2).length) (z:Nat):o0 F i (j+1) z=if z=(bh F (bV F (i:Int)) 2).getD j 0 then o0 F i j z++ [i] else o0 F i j z:=by
 unfold o0;have hs:((bh F (bV F (i:Int)) 2).take<|j+1)=(bh F (bV F (i:Int)) 2).take j++ [(bh F (bV F (i:Int)) 2).getD j 0]:=fN _ j 0 C;have E:(bh F (bV F (i:Int)) 2).Nodup:=(Ct F _ 2).imp fun h=>ab;have G:(bh F (bV F (i:Int)) 2).getD j 0∉(bh F (bV F (i:Int)) 2).take j:=fun hm=>by
  have h2:=(List.take_sublist (j+1)<|bh F (bV F (i:Int)) 2).nodup E;rw [hs,List.nodup_append] at h2;exact h2.2.2 _ hm _ (iS.2 aa) aa
 rw [hs];by_cases A:z=(bh F (bV F (i:Int)) 2).getD j 0
 · subst A;rw [if_pos rfl,if_pos (u7 _<|iS.2 rfl),if_neg G,ez]
 · rw [if_neg A];congr 1;have :z∈(bh F (bV F (i:Int)) 2).take j++ [(bh F (bV F (i:Int)) 2).getD j 0]↔z∈(bh F (bV F (i:Int)) 2).take j:=by
    rw [List.mem_append,iS]; exact ⟨fun h=>h.resolve_right A,.inl⟩
   by_cases hm:z∈(bh F (bV F (i:Int)) 2).take j
   · rw [if_pos hm,if_pos (this.2 hm)]
   · rw [if_neg hm,if_neg (fun h=>hm<|this.1 h)]
theorem Xi (B tb:Nat) (U:gE) (F:aE) (xs:List bp) (w:ak) (hT:fS w B tb U F xs) (am:ec F xs):
 ba az 57 (a7 [bj tb]) w (fun v w'=> ∃ kb ar cr rn fm dm,v=bj kb∧k8 w w' B kb tb U F xs ar cr rn fm dm∧kz w'.heap dm (fun _=>False)∧Wk w w'):=by
 have cb:=am.len;refine enter func57 aa ntmps57 aa<|bg 7 aa<|p mv<|p mv<|au 2 aa<|p (ld1 aa<|(a8 hT.cells).trans aa)<|e<|aM (xI B U.fb U.mc F U.V w hT.fl (by have :=am.len; omega) am.nx) aa ?_;rintro v12 cl ⟨⟨⟨v9,v10,v11,v12,sa,rn⟩,rfl,hax⟩,hE12⟩;obtain ⟨ar,cr,aV⟩:=cz hax.dB;have aV:v12=_:=aV;subst aV;have cc:=hE12.size;have bZ:rn.length=F.rules.length:=by have :=hax.nx.1; rwa [fC] at this
 have b0:∀ u∈rn,u.oneCell'=true :=fun u hu=>List.all_eq_true.1 (xM hax.nx) u hu;have bX:=hax.dB;refine p (GU GV aa aa)<|e<|sY fun A cm b5 a2 bu=> ?_;have ce:=a2.size;refine e<|sY fun C cn b6 aL bv=> ?_;have cf:=aL.size;refine p (cV (ps:= [(0,bj tb),(1,.slice ar F.rules.length cr),(2,.map (some A)),(3,.map (some C))]) (L:= [bj tb,.slice ar F.rules.length cr,.map (some A),.map (some C)]) XS aa<|aa)<|e<|nU aa fun J Y b7 ao aZ=> ?_;have cg:=ao.size;have a0:=(a2.md.trans aL.md).trans ao.md;have aK:=hE12.trans a0;have bf:Y.heap[A]? =some (.map #[] 0):=Wk.bl (aL.md.trans ao.md) bu;have bR:Y.heap[C]? =some (.map #[] 0):=Wk.bl ao.md bv;have bY:=aU bX a0;refine au 9 aa<|p (ld1 aa<|(a8 aZ).trans aa)<|aQ 5 aa<|lp (fun ae bs G=> ∃ (i:Nat) (f:ag→Option ag),(i≤F.rules.length)∧(Md (fun k=>k=A) Y G)∧(cR G.heap A (kV .i64) f)∧(kO G Y.heap.size f fun z=>fE F i z)∧(G.heap[J]? =some (.cells [bj tb,.slice ar F.rules.length cr,.map (some A),.map (some C)].toArray 132 (0,0)))∧(Sl bs [(0,bj tb),(3,bj J),(22,ay (F.rules.length)),(23,ay i)])∧(F.rules.length - i=ae)) _ ⟨0,_,ab,(Md.refl _ _),(cR.nil bf),((kO.nil _ _).congr fun z=>rfl),aZ,aa,aa⟩ ?_;rintro ae bs G ⟨i,f,hi,ac,bi,av,a5,b1,rfl⟩;refine bA b1 ?_;have bF:Wk w G:=aK.trans' ac fun k hk h=>by omega
 refine bq 6 aa<|cd aa (fun bO=> ?_) fun bO=> ?_;refine aH 14 aa<|e<|aM (Kh B tb U F xs (i:Nat) G (hT.wk bF) am) aa ?_;rintro v28 aY ⟨aT,ah⟩;obtain ⟨aG,aI,rfl⟩:=cz aT;have ch:=ah.size;have ca:=ur F (bV F (i:Int)) 2;refine aQ 5 aa<|lp (fun ae bt I=> ∃ (j:Nat) (g:ag→Option ag),(j≤(bh F (bV F (i:Int)) 2).length)∧(Md (fun k=>k=A) Y I)∧(cR I.heap A (kV .i64) g)∧(kO I Y.heap.size g fun z=>o0 F i j z)∧(I.heap[J]? =some (.cells [bj tb,.slice ar F.rules.length cr,.map (some A),.map (some C)].toArray 132 (0,0)))∧(bo I G.heap.size 3 1 (.slice aG (bh F (bV F (i:Int)) 2).length aI) (bh F (bV F (i:Int)) 2).length<|(bh F (bV F (i:Int)) 2).map bJ)∧(∀ (z k:Nat),((g<|ay z).getD<|bQ none 0 0).ownBlock=some k→k < G.heap.size∨aY.heap.size≤k)∧(aY.heap.size≤I.heap.size)∧(Sl bt [(0,bj tb),(3,bj J),(4,ay i),(22,ay (F.rules.length)),(23,ay i),(28,.slice aG (bh F (bV F (i:Int)) 2).length aI),(29,.int .i64 ((bh F (bV F (i:Int)) 2).length:Nat)),(30,ay j)])∧((bh F (bV F (i:Int)) 2).length - j=ae)) _ ⟨0,f,ab,(ac.trans' ah fun _ _ h=>h.elim),(bi.wk ah),((av.wk ah).congr fun z=>Sb F i z),(Wk.bl ah a5),aT,(fun z k hk=> .inl (dH (av.own z) hk).2),(cE _),aa,aa⟩ ?_;rintro ae bt I ⟨j,g,b9,aS,aA,Z,aN,aD,aP,b3,b2,rfl⟩;refine bA b2<|bq 6 aa<|cd aa (fun bP=> ?_) fun bP=> ?_;refine aH 6 aa<|p (a6 ke aa aa ab<|aB.ok ((aX aD).2)<|bS ab)<|p (ld1 aa<|aB.gV (i:=j) (aX aD).2<|oh ab)<|aQ 3 aa ?_;have bd:(o0 F i j<|(bh F (bV F (i:Int)) 2).getD j 0).length≤F.rules.length+1:=by
  have :=qg (fun q:Nat=>decide (((bh F (bV F (i:Int)) 2).getD j 0)∈bh F (bV F (q:Int)) 2))<|gT i;unfold o0 fE; rw [bG]; rw [u6] at this; split <;> simp only [fg,gr] <;> omega
 have O:(fun w'=>w'.heap[J]? =some (.cells [bj tb,.slice ar F.rules.length cr,.map (some A),.map (some C)].toArray 132 (0,0))∧cR w'.heap A (kV .i64) g) I.drew:=⟨aN,aA⟩
 refine gO (fun w'=>w'.heap[J]? =some (.cells [bj tb,.slice ar F.rules.length cr,.map (some A),.map (some C)].toArray 132 (0,0))∧cR w'.heap A (kV .i64) g) 14 aa wide O<|gH [0,1,2] aa O<|lq 3 aa aj (fun w' al=>ld1 aa<|(a8 al.1).trans aa) O<|gH [4,5,6,7] aa O<|lq 8 aa aj (fun w' al=>ld1 aa<|(a8 al.1).trans aa) O<|gH [9] aa O<|lq 10 aa aj (fun w' al=>mL DB zK B7 (al.2) aa aa (⟨_,aa⟩)<|aa) O<|gH [11] aa O<|gN 12 aa aj<|gv lx aa aa fun b4 bn b8 aq bw=> ?_;have ci:=aq.size;have E:Wk I bn:=(Md.refl _ I).drew.trans aq.md;have bB:(fun w'=>w'.heap[J]? =some (.cells [bj tb,.slice ar F.rules.length cr,.map (some A),.map (some C)].toArray 132 (0,0))∧cR w'.heap A (kV .i64) g) bn:=⟨Wk.bl aq.md O.1,O.2.wk aq.md⟩
 refine ⟨bB,?_⟩;refine gN 13 aa aj<|ap lx (aU (Z.own<|(bh F (bV F (i:Int)) 2).getD j 0) E) aa (by have :=E.size; have :=aS.size; omega) aa (aB.dT bw) (aa) (aa) (by have :=bd; omega) (by have :=bd; omega) fun aW aF bU ai ck bb=> ?_;have a4:aF.heap[J]? =some (.cells [bj tb,.slice ar F.rules.length cr,.map (some A),.map (some C)].toArray 132 (0,0)):=ai.iK (TF.own (L:= [5]) (aU (Z.own<|(bh F (bV F (i:Int)) 2).getD j 0) E) aw) (Wk.bl E aN) aw;have ax:cR aF.heap A (kV .i64) g:=(aA.wk E).md ai fun hk=>pc (aU (Z.own<|(bh F (bV F (i:Int)) 2).getD j 0) E) hk fun cur z aO=>(aA.wk E).o7 aO;have bD:(fun w'=>w'.heap[J]? =some (.cells [bj tb,.slice ar F.rules.length cr,.map (some A),.map (some C)].toArray 132 (0,0))∧cR w'.heap A (kV .i64) g) aF:=⟨a4,ax⟩
 refine ⟨bD,?_⟩;refine dK 14 aa aj aj<|tc DB B7 (ax) aa aa aa (⟨_,aa⟩) fun br an bz=> ?_;have a1:Md (fun k=>k=A∨((g<|.int .i64 ((((bh F (bV F (i:Int)) 2).getD j 0):Nat):Int)).getD<|bQ none 0 0).ownBlock=some k) I br:=((E.mono fun _ _ h=>h.elim).trans<|ai.mono fun k _ h=> .inr h).trans<|an.mono fun k _ h=> .inl h;have bL:=Z.own<|(bh F (bV F (i:Int)) 2).getD j 0;have bx:Md (fun k=>k=A) Y br:=aS.trans' a1 fun k hk h=>h.elim id fun h2=>by have :=(dH bL h2).1; omega
 have bN:=kO.put (i:=i) (Z.wk E) ai (by rw [bG,gS]; exact bU) bb (fun cur z aO=>ax.o7 aO) an;have a3:TF aF [1] (fun k=>k=A):=TF.eq (zr ax.choose_spec.1) aw;have bH:=an.iK a3 a4 aw;have bT:∀ k,(bQ aG (bh F (bV F (i:Int)) 2).length aI).ownBlock=some k→((g<|.int .i64 ((((bh F (bV F (i:Int)) 2).getD j 0):Nat):Int)).getD<|bQ none 0 0).ownBlock≠some k:=fun k hk h2=>by
  have h3:=dH aD hk;have h4:=dH aT hk;have h5:=aP _ k h2;omega
 have bW:=cj (da (aU aD E) ai fun k hk h2=>bT k hk h2) an a3 aw;have bI:∀ (z k:Nat),((bM g (.int .i64 ((((bh F (bV F (i:Int)) 2).getD j 0):Nat):Int)) aW<|ay z).getD<|bQ none 0 0).ownBlock=some k→k < G.heap.size∨aY.heap.size≤k:=fun z k hk=>by
  by_cases bm:(gq .i64 (z:Nat))=(.int .i64 ((((bh F (bV F (i:Int)) 2).getD j 0):Nat):Int))
  have hk:((bM g (.int .i64 ((((bh F (bV F (i:Int)) 2).getD j 0):Nat):Int)) aW<|.int .i64 ((((bh F (bV F (i:Int)) 2).getD j 0):Nat):Int)).getD<|bQ none 0 0).ownBlock=some k:=(congrArg (fun q=>((bM g (.int .i64 ((((bh F (bV F (i:Int)) 2).getD j 0):Nat):Int)) aW q).getD<|bQ none 0 0).ownBlock) bm).symm.trans hk;rw [ow] at hk;rcases bb k hk with h1 | h1;exact aP _ k h1;have :=E.size; have :=b3; exact .inr ab;rw [me bm] at hk; exact aP z k hk
 exact eQ aj<|dq 3 aa<|p (bC<|j+1)<|aC 2 aa<|tn<|⟨_,ab,j+1,_,ab,bx,bz,(bN.congr fun z=>Sa ab z),bH,bW,bI,(by have :=a1.size; omega),aa,aa⟩
 exact aJ 2 aa<|bK<|dq 4 aa<|p (bC<|i+1)<|aC 2 aa<|tn<|⟨_,ab,i+1,_,ab,aS,aA,(Z.congr fun z=>by rw [show j=(bh F (bV F (i:Int)) 2).length by omega]; exact R9 F i z),aN,aa,aa⟩
 refine aJ 2 aa<|bK<|bc 9 aa<|aR aa ?_;obtain rfl :i=F.rules.length:=ab;have bE:TF Y [1] (fun k=>k=A):=TF.eq (by unfold tag; rw [bf]) aw;have bk:C≠A:=ab;have a9:G.heap[C]? =some (.map #[] 0):=ac.bl bR bk;exact ⟨J,ar,cr,rn,A,C,aa,⟨hT,aK.trans' ac (fun k hk h=>by omega),ab,a5,⟨_,cj bY ac bE aw⟩,bZ,b0,⟨f,bi,fun z _=>by obtain ⟨a,c,h1⟩:=cz (av.own z); exact ⟨a,c,_,h1,h1 ▸ av.own z⟩⟩,fun h=>bk h.symm,⟨_,_,a9⟩⟩,⟨_,lG.nil a9,fun d=>⟨(fun h=>by cases h),fun h=>h.elim⟩,fun k v h=>by cases h⟩,aK.trans' ac fun k hk h=>by omega⟩
end Go.Hb
end
section
namespace Go.Hb.sG
def jL (a b:Int):Int:=if a < b then -1 else if a > b then 1 else 0
def mO:List Int→Int
 | []=>0
 | x::l=>if x≠0 then x else mO l
def pY (a b:bE):Int:=mO [jL a.eu b.eu,jL a.fst b.fst,jL a.snd b.snd,jL a.pre b.pre]
def lr (a b:bE):Prop :=(a.eu:Int) < b.eu∨((a.eu:Int)=b.eu∧(a.fst < b.fst∨(a.fst=b.fst∧(a.snd < b.snd∨(a.snd=b.snd∧a.pre < b.pre)))))
theorem PN (a b:Int):jL a b < 0↔a < b:=by
 unfold jL
 repeat' split
 all_goals omega
theorem PM (a b:Int):jL a b=0↔a=b:=by
 unfold jL
 repeat' split
 all_goals omega
theorem VP {x:Int} {l:List Int} (h:x≠0):mO (x::l)=x:=if_pos h
theorem VO {x:Int} {l:List Int} (h:¬x≠0):mO (x::l)=mO l:=if_neg h
theorem VN (x:Int) (l:List Int):mO (x::l) < 0↔(x < 0∨(x=0∧mO l < 0)):=by show (if x≠0 then x else mO l) < 0↔_; split <;> omega
theorem VQ (a b:bE):pY a b < 0↔lr a b:=by
 have A:¬mO [] < 0:=by unfold mO; omega
 unfold pY lr;simp only [VN,PN,PM,A,and_false,or_false]
instance Z0:Inhabited bE:=⟨⟨[],0,0,0,0⟩⟩
theorem IT (a b:bE):xp pY a b=true↔lr a b:=by unfold xp; rw [decide_eq_true_iff]; exact VQ a b
theorem Cj (a b:bE):xp pY a b=false↔¬lr a b:=by rw [← IT]; cases xp pY a b <;> simp
theorem Yi:Go.Sort.SWO (xp pY) where
 irrefl x:=by rw [Cj]; unfold lr; omega
 trans x y z h1 h2:=by rw [IT] at*; unfold lr at*; omega
 ntrans x y z h1 h2:=by rw [Cj] at*; unfold lr at*; omega
def Wz:Go.Shelf.Ren:=⟨fun n=>if n=6 then 60 else if n=14 then 105 else if n=15 then 66 else if n=20 then 169 else if n=21 then 170 else if n=22 then 171 else if n=23 then 172 else if n=24 then 173 else if n=25 then 174 else if n=26 then 175 else if n=27 then 176 else if n=28 then 123 else if n=29 then 124 else if n=46 then 222 else if n=47 then 184 else if n=48 then 185 else if n=49 then 223 else if n=50 then 224 else if n=57 then 260 else 0,fun n=>if n=0 then 0 else if n=3 then 3 else if n=4 then 4 else if n=5 then 5 else if n=9 then 9 else if n=22 then 29 else if n=25 then 137 else if n=39 then 145 else if n=45 then 232 else if n=46 then 233 else if n=50 then 237 else if n=53 then 240 else if n=55 then 242 else if n=66 then 287 else if n=70 then 291 else if n=76 then 335 else if n=77 then 219 else if n=24 then 49 else 0,fun n=>n⟩
theorem IF:ZS az Wz where
 mixed:=aj
 f6:= .intro "slices.SortFunc[[]hornbook/api.Derived,hornbook/api.Derived]" ⟨aj,aj⟩
 f14:= .intro "slices.pdqsortCmpFunc[hornbook/api.Derived]" ⟨aj,aj⟩
 f15:=aj
 f20:= .intro "slices.insertionSortCmpFunc[hornbook/api.Derived]" ⟨aj,aj⟩
 f21:= .intro "slices.heapSortCmpFunc[hornbook/api.Derived]" ⟨aj,aj⟩
 f22:= .intro "slices.breakPatternsCmpFunc[hornbook/api.Derived]" ⟨aj,aj⟩
 f23:= .intro "slices.choosePivotCmpFunc[hornbook/api.Derived]" ⟨aj,aj⟩
 f24:= .intro "slices.reverseRangeCmpFunc[hornbook/api.Derived]" ⟨aj,aj⟩
 f25:= .intro "slices.partialInsertionSortCmpFunc[hornbook/api.Derived]" ⟨aj,aj⟩
 f26:= .intro "slices.partitionEqualCmpFunc[hornbook/api.Derived]" ⟨aj,aj⟩
 f27:= .intro "slices.partitionCmpFunc[hornbook/api.Derived]" ⟨aj,aj⟩
 f28:=aj
 f29:=aj
 f46:= .intro "slices.siftDownCmpFunc[hornbook/api.Derived]" ⟨aj,aj⟩
 f47:=aj
 f48:=aj
 f49:= .intro "slices.medianAdjacentCmpFunc[hornbook/api.Derived]" ⟨aj,aj⟩
 f50:= .intro "slices.medianCmpFunc[hornbook/api.Derived]" ⟨aj,aj⟩
 f57:= .intro "slices.order2CmpFunc[hornbook/api.Derived]" ⟨aj,aj⟩
 t0:=aj
 a0:=fun _=>aj
 z0:=fun _=>aj
 v0:=fun _=>aj
 t3:=aj
 a3:=fun _=>aj
 z3:=fun _=>aj
 v3:=fun _=>aj
 t4:=aj
 a4:=fun _=>aj
 z4:=fun _=>aj
 v4:=fun _=>aj
 t5:=aj
 a5:=fun _=>aj
 z5:=fun _=>aj
 v5:=fun _=>aj
 t9:=aj
 a9:=fun _=>aj
 z9:=fun _=>aj
 v9:=fun _=>aj
 t22:=aj
 a22:=fun _=>aj
 z22:=fun _=>aj
 v22:=fun _=>aj
 t25:=aj
 a25:=fun _=>aj
 z25:=fun _=>aj
 v25:=fun _=>aj
 t39:=aj
 a39:=fun _=>aj
 z39:=fun _=>aj
 v39:=fun _=>aj
 t45:=aj
 a45:=fun _=>aj
 z45:=fun _=>aj
 v45:=fun _=>aj
 t46:=aj
 a46:=fun _=>aj
 z46:=fun _=>aj
 v46:=fun _=>aj
 t50:=aj
 a50:=fun _=>aj
 z50:=fun _=>aj
 v50:=fun _=>aj
 t53:=aj
 a53:=fun _=>aj
 z53:=fun _=>aj
 v53:=fun _=>aj
 t55:=aj
 a55:=fun _=>aj
 z55:=fun _=>aj
 v55:=fun _=>aj
 t66:=aj
 a66:=fun _=>aj
 z66:=fun _=>aj
 v66:=fun _=>aj
 t70:=aj
 a70:=fun _=>aj
 z70:=fun _=>aj
 v70:=fun _=>aj
 t76:=aj
 a76:=fun _=>aj
 z76:=fun _=>aj
 v76:=fun _=>aj
 t77:=aj
 a77:=fun _=>aj
 z77:=fun _=>aj
 v77:=fun _=>aj
section
open Go.Sort Go.ChangeShapes Go.WideShapes
variable {w:ak} {g n:Nat} {os:Array Obj} {cur:Array ag} {e:TypeId}
theorem Tr {L:List ag} (A:w.heap[g]? =some (.cells cur e (0,0))) (G:cur.toList.take L.length=L):Holds id w g 0 L.toArray:=by
 intro j E;have C:j < L.length:=by simpa using E
 refine ⟨?_,by simp [World.frozen?,A]⟩;have h1:(cur.toList.take L.length)[j]? =L[j]? :=by rw [G]
 rw [MR C] at h1;simp only [World.cell?,A,Nat.zero_add];simp only [Option.isSome_none,Bool.false_eq_true,if_false];rw [← zL,h1];simp [C]
theorem To (d:Array ag) (A:w.heap[g]? =some (.cells cur e (0,0))):(grow (putRow id (xq w n) g 0 d) os).heap[g]? =some (.cells (putCells id 0 d cur) e (0,0)):=by
 have C:g < w.heap.size:=(dD.1 A).1;rw [heap_grow_old _ _ (by simpa using C)];simp [putRow,mapBlock,xq,LN,A,onCells]
theorem SN (d:Array ag):w.grownBy (grow (putRow id (xq w n) g 0 d) os) (some g):=by
 refine ⟨aa,aa,aa,by simp,fun k hk A=> ?_⟩;rw [heap_grow_old _ _ (by simpa using hk)];have :g≠k:=fun e=>A<|by rw [e]
 simp [putRow,mapBlock,xq,LN,this]
theorem Yq (cur:Array ag) (L:List ag) (h:L.length≤cur.size):(putCells id 0 L.toArray cur).toList.take L.length=L:=by
 apply List.ext_getElem?;intro j;by_cases A:j < L.length
 · rw [MR A,zL];simp [putCells,A,show j < cur.size by omega]
 · rw [List.getElem?_take_eq_none ab,List.getElem?_eq_none ab]
theorem Hs (L:List bE):flatK dS 5 L.toArray=(fM L).toArray:=by
 have E:(fM L).length=L.length*5:=mJ (f:=dS) (m:=5) (fun _=>rfl) L;apply Array.ext_getElem?;intro t;by_cases A:t < L.length*5
 · have C:t / 5 < L.length:=ab;have h1:(fM L)[t]? =(dS L[t / 5])[t % 5]? :=by
    have :=yl (f:=dS) (m:=5) (fun _=>rfl) (bY C) (show t % 5 < 5 by omega);rwa [show t / 5 *5 +t % 5=t by omega] at this
   have h2:=get_flatK dS 5 L.toArray t<|by simpa using A
   have h3:(flatK dS 5 L.toArray)[t]? =some (flatK dS 5 L.toArray)[t]! :=by
    rw [Array.getElem?_eq_getElem (by simpa using A),getElem!_pos _ _ (by simpa using A)]
   rw [h3,h2,List.getElem?_toArray,h1,show L.toArray[t / 5]! =L[t / 5] by simp [C]];rw [bY (show t % 5 < (dS L[t / 5]).length by show t % 5 < 5; omega),getElem!_pos (dS L[t / 5]) (t % 5) (show t % 5 < (dS L[t / 5]).length by show t % 5 < 5; omega)]
 · rw [ti (by simp; omega),ti (by simp; omega)]
end
theorem Iq (a:Int) (w:ak):
 ba az 177 (a7 [.int .i64 a]) w (fun v w'=>v= .bool false∧w'=w):=by
 exact enter func177 aa ntmps177 aa<|nm 14 aa<|aR aa<|⟨congrArg bR (decide_eq_false fun h=>h aa),aa⟩
theorem xW (a b:Int) (w:ak):
 ba az 107 (a7 [.int .i64 a,.int .i64 b]) w (fun v w'=>v= .int .i64 (jL a b)∧w'=w):=by
 refine enter func107 aa ntmps107 aa<|bg 8 aa<|e<|aM (Iq a w) aa ?_;rintro C A ⟨rfl,rfl⟩;refine au 6 aa<|e<|aM (Iq b A) aa ?_;rintro v10 E ⟨rfl,rfl⟩;refine aQ 29 aa<|cd aa (fun h1=> ?_) fun h1=> ?_;exact aJ 7 aa<|aR aa<|⟨congrArg (gq .i64) (show (-1:Int)=jL a b by unfold jL; rw [if_pos h1]),aa⟩
 refine bz 10 aa<|cd aa (fun h2=> ?_) fun h2=> ?_;exact aJ 7 aa<|aR aa<|⟨congrArg (gq .i64) (show (1:Int)=jL a b by unfold jL; rw [if_neg h1,if_pos h2]),aa⟩
 exact aJ 8 aa<|aR aa<|⟨congrArg (gq .i64) (show (0:Int)=jL a b by unfold jL; rw [if_neg h1,if_neg h2]),aa⟩
theorem VM (l:List Int) (a:Option Addr) (c:Nat) (w:ak) (G:aB w.heap a (l.map<|gq .i64)) (ac:l.length≤1000):
 ba az 106 (a7 [.slice a l.length c]) w (fun v w'=>v= .int .i64 (mO l)∧w'=w):=by
 refine enter func106 aa ntmps106 aa<|bq 19 aa<|lp (fun E O J=> ∃ (i:Nat),(i≤l.length)∧(mO (l.drop i)=mO l)∧(J=w)∧(Sl O [(3,.int .i64 0),(6,.slice a l.length c),(7,ay (l.length)),(8,ay i)])∧(l.length - i=E)) _ ⟨0,ab,aa,aa,aa,aa⟩ ?_;rintro E O J ⟨i,hi,A,V,Z,rfl⟩;refine bA Z ?_;subst V;refine bq 6 aa<|cd aa (fun Y=> ?_) fun Y=> ?_;refine bz 5 aa ?_;have I:l.drop i=l.getD i 0::l.drop (i+1):=by rw [List.drop_eq_getElem_cons (show i < l.length by omega),cH,bY (show i < l.length by omega)]; rfl
 refine aH 1 aa<|p (a6 ke aa aa ab<|aB.ok (G)<|bS ab)<|p (ld1 aa<|aB.gV G (show (l.map<|gq .i64)[i]? =some (.int .i64<|l.getD i 0) by rw [List.getElem?_map,cH,bY (by omega :i < l.length)]; rfl)) ?_;refine aQ 10 aa<|cd aa (fun C=> ?_) fun C=> ?_;exact aJ 9 aa<|tr<|bc 2 aa<|aR aa<|⟨congrArg (gq .i64) (show l.getD i 0=mO l by rw [← A,I,VP C]),aa⟩
 exact aH 4 aa<|p (bC<|i+1)<|aC 2 aa<|tn<|⟨_,ab,i+1,ab,(by rw [← A,I,VO C]),aa,aa,aa⟩
 refine aJ 2 aa<|bK<|bc 9 aa<|aR aa ?_;rw [List.drop_eq_nil_of_le ab] at A;exact ⟨by rw [← A]; rfl,aa⟩
def mC (w w':ak):Prop := ∃ q os,w'=Mj (w.drewN q) os
theorem mC.refl (w:ak):mC w w:=⟨0,#[],by simp [World.drewN]⟩
theorem mC.nw {w A C:ak} (h:mC w A) (hn:Nw A C):mC w C:=by
 obtain ⟨q,os,rfl⟩:=h;obtain ⟨o,rfl⟩:=hn.one;exact ⟨q,os.push o,by simp [Mj]⟩
theorem mC.drew {w A:ak} (h:mC w A):mC w A.drew:=by
 obtain ⟨q,os,rfl⟩:=h;exact ⟨q+1,os,aa⟩
theorem VT (a b:bE) (w:ak):
 ba az 61 (a7 [.agg (dS a).toArray,.agg (dS b).toArray]) w (fun v w'=>v= .int .i64 (pY a b)∧mC w w'):=by
 refine enter func61 aa ntmps61 aa<|bg 2 aa<|e<|iL aa fun au aJ E aI ax=> ?_;have E:bO aJ.heap au (dS a):=ax;refine e<|iL aa fun aw C G Y aA=> ?_;have G:bO C.heap aw (dS b):=aA;have E:=Wk.B Y.md E;have aG:=((mC.refl w).nw aI).nw Y;refine aQ 4 aa<|dZ fun A=>aT [0] aa A<|cw 1 aa A (E.bu 1)<|aT [2] aa A<|cw 3 aa A (G.bu 1)<|aT [5] aa A<|cw 6 aa A (E.bu 2)<|aT [7] aa A<|cw 8 aa A (G.bu 2)<|aT [10] aa A<|cw 11 aa A (E.bu 3)<|aT [12] aa A<|cw 13 aa A (G.bu 3)<|aT [15] aa A<|cw 16 aa A (E.bu 4)<|aT [17] aa A<|cw 18 aa A (G.bu 4)<|he 4 aa aj<|aM (xW (a.eu:Nat) (b.eu:Nat) C.drew) aa ?_;rintro v9 O ⟨rfl,ao⟩;have aH:mC w O:=ao ▸ aG.drew;have ag:(fun w'=>Wk C w') O:=ao ▸ A;refine ⟨ag,?_⟩;refine he 9 aa aj<|aM (xW a.fst b.fst O) aa ?_;rintro aN I ⟨rfl,ai⟩;have aC:mC w I:=ai ▸ aH;have ah:(fun w'=>Wk C w') I:=ai ▸ ag;refine ⟨ah,?_⟩;refine he 14 aa aj<|aM (xW a.snd b.snd I) aa ?_;rintro aO J ⟨rfl,al⟩;have aD:mC w J:=al ▸ aC;have Z:(fun w'=>Wk C w') J:=al ▸ ah;refine ⟨Z,?_⟩;refine he 19 aa aj<|aM (xW a.pre b.pre J) aa ?_;rintro v24 ap ⟨rfl,am⟩;have aE:mC w ap:=am ▸ aD;have ab:(fun w'=>Wk C w') ap:=am ▸ Z;refine ⟨ab,?_⟩;refine he 20 aa aj<|sK (L:= [.int .i64 (jL (a.eu:Nat) (b.eu:Nat)),.int .i64 (jL a.fst b.fst),.int .i64 (jL a.snd b.snd),.int .i64 (jL a.pre b.pre)]) lx aa aa aa aa fun av aq aL V ay=> ?_;have aF:=aE.nw V;have ac:(fun w'=>Wk C w') aq:=ab.trans V.md;refine ⟨ac,?_⟩;refine he 21 aa aj<|aM (VM [jL (a.eu:Nat) (b.eu:Nat),jL a.fst b.fst,jL a.snd b.snd,jL a.pre b.pre] (some ⟨av,0,none⟩) 4 aq (aB.dT ⟨_,ay⟩)<|by show 4≤1000; omega) aa ?_;rintro v26 aK ⟨rfl,an⟩;have ae:(fun w'=>Wk C w') aK:=an ▸ ac;refine ⟨ae,?_⟩;exact aT [22] aa ae<|hn aj<|bc 2 aa<|aR aa<|⟨aa,an ▸ aF⟩
section
open Go.Sort Go.ChangeShapes Go.WideShapes
theorem PL (bl size:Nat) (w:ak):CmpLays az 61 #[] dS 5 pY bl 0 size w:=by
 intro m os A _ x y;refine mm (VT x y<|sortWorldK dS 5 w bl 0 m A os) ?_;rintro e w' ⟨v,rfl,rfl,h⟩;exact ⟨aa,h⟩
theorem Di (L:List bE) (h:SortedIn (ltOf pY) 0 L.toArray.size L.toArray):L.Pairwise fun a b=> ¬lr b a:=by
 rw [List.pairwise_iff_getElem];intro i j hi A C;have :=h i j (gY _) C<|by simpa using A
 rw [Cj] at this;simpa [hi,A] using this
theorem XG (B n:Nat) (v:ag) (L:List bE) (w:ak) (O:bo w B 49 5 v n (fM L)) (J:L.length=n) (hn:n < 4611686018427387904):
 ba az 60 [v,.func (.func 61) #[] #[]].toArray w (fun aj w'=>aj= .tuple #[]∧∃ A:List bE,A.Perm L∧(A.Pairwise fun a b=> ¬lr b a)∧bo w' B 49 5 v n (fM A)∧Md (fun k=>v.ownBlock=some k) w w'):=by
 rcases O.2 with ⟨rfl,al⟩ | ⟨g,cap,cur,rfl,V,G,h1,h2,h3,h4⟩
 · subst J;have ai:L= []:=fY ab;subst ai;refine mm (AnyF.slices_SortFunc_none IF none 0 _ w) ?_;rintro e w' ⟨rfl,rfl⟩;exact ⟨_,aa,aa,[],Mv _,List.Pairwise.nil,O,Md.refl _ _⟩
 · subst J;have ac:(fM L).length=L.length*5:=mJ (f:=dS) (m:=5) (fun _=>rfl) L;have hH:HoldsK dS 5 w g 0 L.toArray:=by
    show Holds id w g 0 (flatK dS 5 L.toArray);rw [Hs];exact Tr G<|by rw [ac]; exact h4
   refine mm (AnyQ.slices_SortFunc IF 5 (fun _=>by kernel_rfl) (fun _=>by kernel_rfl) dS (fun _=>rfl) (fun x u hu=> ?_) pY Yi 61 #[] g 0 cap L.toArray w (fun args w=> ?_) (PL g _ w) hH (dD.1 G).1 (by simpa using hn)) ?_
   · simp only [dS,fi,List.not_mem_nil,or_false] at hu;rcases hu with rfl | rfl | rfl | rfl | rfl <;> rfl
   · exact OE args w
   · rintro e w' ⟨rfl,d',m,os,hp,hs,rfl⟩;obtain ⟨A,rfl⟩:∃ A:List bE,d'=A.toArray:=⟨d'.toList,by simp⟩
     have E:A.length=L.length:=by simpa using hp.1
     have ah:A.Perm L:=by
      have :=hp.2.2;have Y:List.take L.length A=A:=eY ab;have Z:List.take A.length L=L:=eY ab;simpa [Y,Z] using this
     have hw:sortWorldK dS 5 w g 0 m A.toArray os=grow (putRow id (xq w m) g 0 (fM A).toArray) os:=by
      unfold sortWorldK putRowK; rw [Hs]
     rw [hw];have I:(fM A).length=A.length*5:=mJ (f:=dS) (m:=5) (fun _=>rfl) A;have C:=SN (w:=w) (g:=g) (n:=m) (os:=os) (fM A).toArray;refine ⟨_,aa,aa,A,ah,Di A (by rw [show A.toArray.size=L.toArray.size by simpa using E]; exact hs),⟨by rw [I,E],.inr ⟨g,cap,_,aa,V,To _ G,h1,h2,by simp [putCells,h3],?_⟩⟩,⟨C.os,C.output,C.size,fun k hk ae=>C.block k hk fun he=>ae ?_⟩⟩
     · rw [← E,← I];exact Yq cur (fM A)<|by rw [I,E]; omega
     · simp only [jS]; exact he.symm
end
end Go.Hb.sG
end
section
namespace Go.Hb
open Go.Hb.sG
noncomputable def iM (F:aE) (xs:List bp) (w:Tx):List bE:=(kB F xs xs.length).filter fun d=>decide (d.eI=w)
section
variable {F:aE} {xs:List bp} {wd:Tx} {i:Nat}
theorem Xm (d:bE):pd F xs wd 0 d↔(False∨oR F xs wd wd (-1) F.rules.length d):=by
 unfold pd;exact ⟨fun h=> .inr (h.resolve_right fun ⟨i,_,h,_⟩=>by omega),fun h=> .inl<|h.resolve_left id⟩
theorem Kf {r:cJ} (E:F.rules[i]? =some r) (h:r.kind≠1∨gp r wd=none) (d:bE):pd F xs wd (i+1) d↔pd F xs wd i d:=by
 unfold pd;constructor
 · rintro (h1 | ⟨k,C,hk,A,h2,st,h3,h4⟩)
   · exact .inl h1
   · rcases pI.1 hk with hk | rfl
     · exact .inr ⟨k,C,hk,A,h2,st,h3,h4⟩
     · rw [E] at A; cases A;rcases h with h | h
       · exact absurd h2 h
       · rw [h] at h3; cases h3
 · rintro (h1 | ⟨k,C,hk,h2⟩)
   · exact .inl h1
   · exact .inr ⟨k,C,ab,h2⟩
theorem Xl {r:cJ} {rest:Tx} (G:F.rules[i]? =some r) (hk:r.kind=1) (hu:gp r wd=some rest) (d:bE):pd F xs wd (i+1) d↔(pd F xs wd i d∨oR F xs wd rest (i:Nat) F.rules.length d):=by
 unfold pd;constructor
 · rintro (h1 | ⟨k,E,A,C,h2,st,h3,h4⟩)
   · exact .inl<|.inl h1
   · rcases pI.1 A with A | rfl
     · exact .inl<|.inr ⟨k,E,A,C,h2,st,h3,h4⟩
     · rw [G] at C; cases C;rw [hu] at h3; cases h3;exact .inr h4
 · rintro ((h1 | ⟨k,E,A,h2⟩) | h1)
   · exact .inl h1
   · exact .inr ⟨k,E,ab,h2⟩
   · exact .inr ⟨i,r,ab,G,hk,rest,hu,h1⟩
end
theorem La {α:Type} (p q:α→Bool) (h:∀ x,p x=true→q x=false):∀ l:List α,(l.filter p).length+(l.filter q).length≤l.length
 | []=>cE _
 | x::l=>by
   have A:=La p q h l;rw [pD,pD,cC];by_cases hp:p x=true
   · rw [if_pos hp,if_neg (by rw [h x hp]; exact dM),cC]; omega
   · rw [if_neg hp];split
     · rw [cC]; omega
     · omega
def mN (F:aE) (k:Nat):Nat:=((gT F.rules.length).filter fun i=>decide ((F.rules.getD i dF).kind=k)).length
theorem Ve (F:aE):mN F 1 +mN F 2≤F.rules.length:=by
 have :=La (fun i=>decide ((F.rules.getD i dF).kind=1)) (fun i=>decide ((F.rules.getD i dF).kind=2)) (fun i h=>by have :=of_decide_eq_true h; exact decide_eq_false ab)<|gT F.rules.length;unfold mN; rw [u6] at this; exact this
theorem filter_le {α:Type} {p q:α→Bool} (h:∀ x,p x=true→q x=true):∀ l:List α,(l.filter p).length≤(l.filter q).length
 | []=>cE _
 | x::l=>by
   have A:=filter_le h l;rw [pD,pD];by_cases hp:p x=true
   · rw [if_pos hp,if_pos (h x hp),cC,cC]; omega
   · rw [if_neg hp]; split
     · rw [cC]; omega
     · exact A
theorem Cr (F:aE) (fs:List Nat) (k:Nat):(bh F fs k).length≤mN F k:=filter_le (fun i h=>decide_eq_true (of_decide_eq_true h).1) _
theorem ym {α β:Type} {g:α→List β} {m:Nat} (h:∀ x,(g x).length≤m):∀ l:List α,(l.flatMap g).length≤l.length*m
 | []=>gY _
 | x::l=>by
   have :=ym h l; have :=h x;rw [kt,bG,cC,Nat.succ_mul]; omega
theorem AP (F:aE) (xs:List bp) (e:Nat) (u:Tx) (f s:Int):(iq F xs e u f s).length≤mN F 1 +1:=by
 unfold iq nY;have h1:=List.length_filterMap_le (ni F xs e u f s)<|bh F (flagsOf xs e) 1;have h2:=Cr F (flagsOf xs e) 1;rw [bG];split <;> simp only [fg,gr] <;> omega
theorem QM (F:aE) (xs:List bp) (e:Nat):(jX F xs e).length≤(mN F 1 +1)+mN F 2 *((mN F 1 +1)+mN F 2 *(mN F 1 +1)):=by
 have h1:∀ u f z,(nI F xs e u f z).length≤mN F 1 +1:=fun u f z=>by
  unfold nI; split
  · exact gY _
  · exact AP ..
 have h2:∀ s,(lN F xs e s).length≤(mN F 1 +1)+mN F 2 *(mN F 1 +1):=fun s=>by
  unfold lN; split
  · exact gY _
  · rename_i u _;rw [bG];refine M8 (AP ..)<|e7 (ym (fun z=>h1 u s z) _)<|qo _<|Cr ..
 unfold jX;rw [bG];exact M8 (AP ..)<|e7 (ym h2 _)<|qo _<|Cr ..
theorem Wi {p s:Nat} (h:p+s≤1024):(p+1)+s*((p+1)+s*(p+1))≤269748225:=by
 obtain ⟨a,rfl⟩:∃ a,s=1024 - p - a:=⟨1024 - p - s,ab⟩
 have hs:1024 - p - a≤1024 - p:=Nat.sub_le _ _;have hp:p≤1024:=ab;have h4:∀ x y:Nat,x+y≤1026→x*y≤263169:=fun x y I=>by
  rcases Nat.le_total x y with hle | hle
  · obtain ⟨d,rfl⟩:=EA hle;have h1:x≤513:=ab;have h2:x+d≤1026 - x:=ab;refine e7 (Nat.mul_le_mul_left x h2) ?_;obtain ⟨q,E,rfl⟩:∃ q,q≤513∧x=513 - q:=⟨513 - x,ab,ab⟩
    rw [show 1026 - (513 - q)=513 +q by omega,Nat.sub_mul,xB,xB];have :q*513=513 *q:=vf _ _;omega
  · obtain ⟨d,rfl⟩:=EA hle;have h1:y≤513:=ab;have h2:y+d≤1026 - y:=ab;refine e7 (qo y h2) ?_;obtain ⟨q,E,rfl⟩:∃ q,q≤513∧y=513 - q:=⟨513 - y,ab,ab⟩
    rw [show 1026 - (513 - q)=513 +q by omega,vf,Nat.sub_mul,xB,xB];have :q*513=513 *q:=vf _ _;omega
 generalize 1024 - p - a=s at hs;have h5:=h4 (p+1) (s+1) ab;have A:(p+1)+s*((p+1)+s*(p+1))≤((p+1)*(s+1))*(s+1):=by
  have C:((p+1)*(s+1))*(s+1)=(p+1)+s*((p+1)+s*(p+1))+s*(p+1):=by
   simp only [xB,Nat.add_mul,Nat.mul_one,Nat.one_mul];have G:s*p=p*s:=vf _ _;have a2:s*(s*p)=p*s*s:=by rw [vf s p,vf]
   omega
  rw [C]; exact Nat.le_add_right _ _
 refine e7 A<|e7 (Nat.mul_le_mul h5 (show s+1≤1025 by omega)) aw
theorem EZ {F:aE} {xs:List bp} (A:F.rules.length≤1024) (C:xs.length≤8192):(kB F xs xs.length).length≤2209777459200:=by
 have h1:∀ e,(jX F xs e).length≤269748225:=fun e=>e7 (QM F xs e)<|Wi<|e7 (Ve F) A;have h2:=ym h1<|gT xs.length;unfold kB;rw [u6] at h2;omega
theorem Ob {a b:bE} (h:tS a b=true) (he:a.eu=b.eu):lr a b:=by
 unfold tS at h;unfold lr;split at h
 · have :=of_decide_eq_true h; omega
 · split at h
   · have :=of_decide_eq_true h; omega
   · have :=of_decide_eq_true h; omega
theorem NU (F:aE) (xs:List bp) (n:Nat):(kB F xs n).Pairwise lr:=by
 unfold kB;rw [List.pairwise_flatMap];refine ⟨fun e _=> ?_,List.pairwise_lt_range.imp fun {a b} I x E y G=> ?_⟩
 · refine (QP F xs e).imp_of_mem fun {a b} A C h=> ?_;exact Ob h<|by rw [(um A).1,(um C).1]
 · unfold lr;have h1:=(um E).1;have h2:=(um G).1;omega
theorem GX (F:aE) (xs:List bp) (w:Tx):(iM F xs w).Pairwise lr:=(NU F xs xs.length).sublist List.filter_sublist
theorem RH (F:aE) (xs:List bp) (w:Tx):(iM F xs w).Nodup:=(GX F xs w).imp fun h e=>by subst e; unfold lr at h; omega
theorem Cm {F:aE} {xs:List bp} {w:Tx} {d:bE} :d∈iM F xs w↔d∈kB F xs xs.length∧d.eI=w:=by
 unfold iM; rw [qh,decide_eq_true_iff]
theorem GY {w:Tx} :∀ (l m:List bE),(l.Pairwise fun a b=> ¬lr b a)→m.Pairwise lr→(∀ d∈m,d.eI=w)→l.Perm m→l=m
 | [],m,_,_,_,hp=>by rw [hp.symm.eq_nil]
 | a::l,[],_,_,_,hp=>by have :=hp.length_eq; simp at this
 | a::l,b::m,hl,hm,hw,hp=>by
   rw [List.pairwise_cons] at hl hm;have A:a=b:=by
    have h1:a∈b::m:=hp.subset<|mY ..;have h2:b∈a::l:=hp.symm.subset<|mY ..;rcases fi.1 h1 with h1 | h1
    · exact h1
    · rcases fi.1 h2 with h2 | h2
      · exact h2.symm
      · exact absurd (hm.1 a h1)<|hl.1 b h2
   subst A;rw [GY l m hl.2 hm.2 (fun d hd=>hw d<|nO _ hd) ((List.perm_cons a).1 hp)]
theorem KV {α:Type} [DecidableEq α]:∀ (l m:List α),l.Nodup→(∀ x∈l,x∈m)→l.length≤m.length
 | [],_,_,_=>gY _
 | a::l,m,hl,hs=>by
   rw [List.nodup_cons] at hl;have h1:=KV l (m.erase a) hl.2 fun x A=>(List.mem_erase_of_ne fun e=>by subst e; exact hl.1 A).2<|hs x<|nO _ A;have h2:=List.length_erase_of_mem<|hs a<|mY ..;have h3:=List.length_pos_of_mem<|hs a<|mY ..;rw [cC]; omega
theorem Ir {f:ag→Option ag} {left :List (ag×ag)} (A:∀ k v,f k=some v↔(k,v)∈left) (d:bE):(f<|eO d).isSome=true↔eO d∈left.map gU:=by
 rw [nP,je];exact ⟨fun ⟨v,h⟩=>⟨_,(A _ v).1 h,aa⟩,fun ⟨⟨k,v⟩,h,e⟩=>⟨v,(A _ v).2<|by rw [← e]; exact h⟩⟩
theorem Up {left :List (ag×ag)} {m:List bE} (hk:∀ p∈left,qJ p.1) (hn:(left.map gU).Nodup) (hm:∀ d,d∈m↔eO d∈left.map gU):left.length≤m.length:=by
 haveI :DecidableEq ag:=fun a b=>Classical.propDecidable<|a=b
 have :=KV (left.map gU) (m.map eO) hn (fun x A=>by
  obtain ⟨p,hp,rfl⟩:=je.1 A;obtain ⟨d,hd⟩:=hk p hp;rw [hd];exact List.mem_map_of_mem ((hm d).2<|by rw [← hd]; exact A))
 simpa using this
theorem Kk (B tb:Nat) (U:gE) (F:aE) (xs:List bp) (wd:Tx) (w:ak) (hT:fS w B tb U F xs) (C:ec F xs) (cx:F.rules.length≤1024) (dh:wd.length≤2097152):
 ba az 30 (a7 [bj tb,str wd]) w (fun v w'=>bo w' w.heap.size 49 5 v (iM F xs wd).length (fM<|iM F xs wd)∧Wk w w'):=by
 have di:=C.xl;have de:=C.len;have cy:=EZ cx C.xl;refine enter func30 aa ntmps30 aa<|bg 8 aa<|p mv<|p (lh xc aa aa)<|aQ 2 aa<|cf (aa)<|aH 4 aa<|p mv<|e<|aM (Xi B tb U F xs w hT C) aa ?_;rintro dr O ⟨kb,ar,cr,rn,fm,dm,rfl,E,ck,a1⟩;have c8:=E.lt;have c5:=E.lo;refine p bm<|au 4 aa<|p mv<|p (cV (ps:= [(0,str wd),(2,.int .i64 (-1)),(3,.int .i64 (-1)),(4,.int .i64 (-1))]) (L:= [str wd,.int .i64 0,.int .i64 (-1),.int .i64 (-1),.int .i64 (-1)]) Dq aa<|aa)<|e<|gK LI fun ac dw c3 bk ca=> ?_;have dl:=bk.size;refine e<|gA Gc aa aa aa aa ca aw fun aq cq b9=> ?_;have a2:Wk O aq:=bk.md.trans' cq fun q G h=>by omega
 have bx:aq.heap[ac]? =some (.cells [str wd,.int .i64 0,.int .i64 (-1),.int .i64 (-1),.int .i64 (-1)].toArray 49 (0,0)):=b9;have bM:Md (fun k=>k=dm) O aq:=a2.mono fun _ _ h=>h.elim;have cm:=ck.md a2 id;have aP:¬(ac=dm):=ab;refine au 4 aa<|p mv<|p mv<|p (cQ oN aa (aa) fun q G=>(oP bx).bu q)<|e<|aM (FC w O B kb tb U F xs ar cr rn fm dm E C wd wd 0 (-1) (fun _=>False) aq bM cm ab ab) aa ?_;rintro v22 du ⟨rfl,cl,bc⟩;have bJ:=bM.trans bc;have cB:=bc.bl bx aP;refine au 5 aa<|p mv<|au 2 aa<|p (ld1 aa<|(a8<|E.at bJ).trans aa)<|aQ 5 aa<|lp (fun ah bX al=> ∃ (i:Nat) (bU:Int),(i≤F.rules.length)∧(Md (fun k=>k=dm) O al)∧(kz al.heap dm<|pd F xs wd<|i)∧(al.heap[ac]? =some (.cells [str wd,.int .i64 0,.int .i64 (-1),.int .i64 (-1),.int .i64 bU].toArray 49 (0,0)))∧(Sl bX [(1,str wd),(5,bj kb),(6,bj ac),(26,.slice ar F.rules.length cr),(27,ay (F.rules.length)),(28,ay i)])∧(F.rules.length - i=ah)) _ ⟨0,_,ab,bJ,(cl.congr Xm),cB,aa,aa⟩ ?_;rintro ah bX al ⟨i,bU,hi,J,a9,cE,cS,rfl⟩;refine bA cS<|bq 6 aa<|cd aa (fun cI=> ?_) fun cI=> ?_;refine bz 5 aa ?_;obtain ⟨r,I⟩:∃ r,F.rules[i]? =some r:=⟨_,bY ab⟩
 obtain ⟨u,aW⟩:=E.jm I;have cW:=E.ro u (Ah<|gB aW).2;refine aH 2 aa<|p (a6 nk aa aa ab<|aB.ok (E.rules J)<|oA aW)<|p (cQ lI aa (aa)<|fI (f:=eS) (m:=7) (fun _=>rfl) (E.rules J) aW)<|e<|gK qZ fun b2 dy aK br ce=> ?_;have dq:=br.size;refine au 1 aa<|e<|gA oW aa aa aa (Kc cW) ce aw fun av cs cg=> ?_;have aD:Wk al av:=br.md.trans' cs fun q G h=>by omega
 have aK:bO av.heap b2 (eS (r,u)):=⟨_,cg⟩
 have bN:Md (fun k=>k=dm) O av:=J.trans' aD fun _ _ h=>h.elim;have a5:=a9.md aD id;have bB:=Wk.bl aD cE;refine au 6 aa<|p (ld1 aa<|aK.bu 0)<|aQ 3 aa<|cd aa (fun hk=> ?_) fun hk=> ?_;have aN:=Kf (xs:=xs) (wd:=wd) I<|.inl (show r.kind≠1 by have h:=hk; dsimp only at h; omega);exact aH 5 aa<|p (bC<|i+1)<|aC 2 aa<|tn<|⟨_,ab,i+1,_,ab,bN,(a5.congr aN),bB,aa,aa⟩
 have cJ:r.kind=1:=by have h:=hk; dsimp only at h; omega
 refine aH 4 aa<|p (cQ lI aa (aa) fun q G=>aK.bu q)<|au 1 aa<|e<|aM (DI r u wd av (C.jm I).2.2.1 (ox C I).2.1 (ox C I).2.2.1 ab) aa ?_;rintro v39 cZ ⟨rfl,aA⟩;have bL:Md (fun k=>k=dm) O cZ:=bN.trans' aA fun _ _ h=>h.elim;have a4:=a5.md aA id;have bw:=Wk.bl aA bB;refine p mv<|aQ 11 aa<|cb aa (fun aL=> ?_) fun aL=> ?_;obtain ⟨rest,aV⟩:∃ rest,gp r wd=some rest:=nP.1<|by simpa using aL
 have dg:=Li aV;have dc:=(ox C I).1;have df:r.strip.length≤32:=(C.jm I).2.2.1;have bT:(gp r wd).getD []=rest:=by rw [aV]; rfl
 have cA:=Xl (xs:=xs) I cJ aV;refine aH 4 aa<|e<|dd gM aa aa (v:=ay i) aa bw (by show 4 < 5; omega) fun aY bb b6=> ?_;have bv:aY.heap[ac]? =some (.cells [str wd,.int .i64 0,.int .i64 (-1),.int .i64 (-1),ay i].toArray 49 (0,0)):=b6;have bI:Md (fun k=>k=dm) O aY:=bL.trans' bb fun q G h=>by omega
 have cj:=a4.md bb fun h=>aP h.symm;refine au 5 aa<|p (cQ oN aa (aa) fun q G=>(oP bv).bu q)<|e<|aM (FC w O B kb tb U F xs ar cr rn fm dm E C wd ((gp r wd).getD []) 0 (i:Nat) (pd F xs wd<|i) aY bI cj ab<|by rw [bT]; omega) aa fun ds dv bs=> ?_;rw [bT] at bs;obtain ⟨rfl,cn,bd⟩:=bs;have cM:=bI.trans bd;have cD:=bd.bl bv aP;exact au 4 aa<|p (bC<|i+1)<|aC 2 aa<|tn<|⟨_,ab,i+1,_,ab,cM,(cn.congr cA),cD,aa,aa⟩
 have aN:=Kf (xs:=xs) (wd:=wd) I<|.inr (show gp r wd=none by simpa using aL);exact aH 4 aa<|p (bC<|i+1)<|aC 2 aa<|tn<|⟨_,ab,i+1,_,ab,bL,(a4.congr aN),bw,aa,aa⟩
 refine aJ 2 aa<|bK<|dz 9 aa ?_;obtain rfl :i=F.rules.length:=ab;obtain ⟨fd,cH,bD,c7⟩:=a9;refine aH 4 aa<|p (ld1 aa<|(a8<|E.at J).trans aa)<|e<|WQ DC cH aa fun aj Y left db bi co bF bP bH=> ?_;have dk:=bi.size;have am:Wk w Y:=(a1.trans' J fun k hk h=>by omega).trans bi.md;have c9:left.length≤2209777459200:=by
  have :=Up bF bP fun d=>(show d∈iM F xs wd↔_ from Cm.trans<|(Kg d).symm.trans<|(bD d).symm.trans<|Ir bH d)
  exact e7 this<|e7 (qg _ _) cy
 refine aQ 3 aa<|lp (fun ah bZ ax=> ∃ (ao:List (ag×ag)) (A:List bE) (Z:Option Addr) (ae:Nat),((left.map gU).Perm<|A.map eO++ao.map gU)∧(qv ax.heap aj dm ao)∧(bo ax Y.heap.size 49 5 (.slice Z A.length ae) A.length<|fM A)∧(Md (fun k=>k=aj) Y ax)∧(Sl bZ [(11,.slice Z A.length ae),(54,bj aj)])∧(ao.length=ah)) _ ⟨left,[],none,0,(Mv _),co,(dE _ _ _ _),(Md.refl _ _),aa,aa⟩ ?_;rintro ah bZ ax ⟨ao,A,Z,ae,V,cu,an,aF,cT,rfl⟩;refine bA cT<|bg 2 aa<|e<|Vx cu aa fun c1 cX aX bW b4 b5=>p (Vy aa)<|aQ 3 aa<|cb aa (fun aI=> ?_) fun aI=> ?_;obtain ⟨aT,aG,a3⟩:=b5 aI;obtain ⟨kx,vx⟩:=cX;obtain ⟨d,rfl⟩:qJ kx:=by
  have h1:kx∈left.map gU:=V.mem_iff.2<|u7 _<|(aT.map gU).mem_iff.2<|by simp
  obtain ⟨q,G,rfl⟩:=je.1 h1;exact bF q G
 have cL:=aT.length_eq;have aO:=V.length_eq;simp only [bG,fC,cC] at cL aO;refine bz 4 aa ?_;have bQ:=da an aG fun k hk h=>by have :=(dH an hk).1; omega
 refine aH 1 aa<|p (eu a3 aa)<|au 1 aa<|e<|gK LI fun b1 dt bt bh b7=> ?_;have dj:=bh.size;refine e<|gA Gc aa aa aa aa b7 aw fun bV cp b8=> ?_;have ch:Wk bW bV:=bh.md.trans' cp fun q G h=>by omega
 have bt:bO bV.heap b1 (dS d):=⟨_,b8⟩
 refine au 4 aa<|p (cQ oN aa (aa) fun q G=>bt.bu q)<|e<|lf zk aa aa aa fun c2 dx c4 bn cc=> ?_;have dn:=bn.size;have ai:=ch.trans bn.md;refine e<|ap zk (aU bQ ai) aa (by have :=ai.size; have :=aG.size; have :=aF.size; omega) aa (aB.dT cc) (aa) (aa) ab ab fun cY aZ cN bf dp c6=> ?_;have bR:bo aZ Y.heap.size 49 5 cY (A++ [d]).length (fM<|A++ [d]):=by rw [show fM (A++ [d])=fM A++dS d from by unfold fM; rw [nM,List.flatMap_singleton],bG]; exact cN
 have aS:=aU bQ ai;have cv:qv aZ.heap aj dm aX:=((a3.Vd).md (ai.trans<|Md.refl _ _) id id).md bf (fun h=>by have :=(dH aS h).1; have :=J.size; omega) fun h=>by have :=(dH aS h).1; have :=J.size; omega
 have ci:Md (fun k=>k=aj) Y aZ:=(aF.trans aG).trans' (ai.mono (fun _ _ h=>h.elim) |>.trans' bf (fun k hk h=>h)) fun k hk h=>by have :=(dH aS h).1; omega
 obtain ⟨b0,b3,rfl⟩:=cz bR;have cw:(left.map gU).Perm ((A++ [d]).map eO++aX.map gU):=by
  refine V.trans ?_;rw [gS,List.append_assoc];exact (aT.map gU).append_left _
 exact p bm<|aC 2 aa<|tn<|⟨_,ab,aX,A++ [d],b0,b3,cw,cv,bR,ci,aa,aa⟩
 obtain ⟨cK,rfl⟩:=b4 aI;refine aJ 2 aa<|bK<|dz 3 aa ?_;have aO:=V.length_eq;simp only [bG,fC] at aO;rw [cK,List.map_nil,ez] at V;refine aH 2 aa<|e<|aM (XG Y.heap.size A.length (.slice Z A.length ae) A bW an aa ab) aa ?_;rintro v64 c0 ⟨rfl,a0,bS,cU,cO,ct⟩;refine aC 9 aa<|aR aa ?_;have cG:A.Nodup:=by
  have h1:(A.map eO).Nodup:=V.nodup_iff.1 bP;exact (List.pairwise_map.1 h1).imp fun h e=>h<|congrArg eO e
 have cF:∀ d,d∈A↔d∈iM F xs wd:=fun d=>by
  have h1:eO d∈left.map gU↔eO d∈A.map eO:=V.mem_iff;rw [Cm,← Kg,← bD,Ir bH,h1,je];exact ⟨fun h=>⟨d,h,aa⟩,fun ⟨e,he,hk⟩=>B6 hk ▸ he⟩
 have cR:a0.Perm (iM F xs wd):=bS.trans<|(List.perm_ext_iff_of_nodup cG<|RH F xs wd).2 cF;obtain rfl :=GY a0 _ cU (GX F xs wd) (fun d hd=>(Cm.1 hd).2) cR;have cP:∀ n,n=A.length→bo c0 Y.heap.size 49 5 (.slice Z A.length ae) n (fM<|iM F xs wd):=by intro n hn; rw [hn]; exact cO
 exact ⟨eR (cP _ bS.length_eq) (by have :=am.size; omega),(am.trans' aF fun k hk h=>by have :=am.size; have :=a1.size; have :=J.size; omega).trans' ct fun k hk h=>by have :=(dH an h).1; have :=am.size; omega⟩
theorem Xn (wd:Tx) (w:ak):
 ba az 30 (a7 [.pointer none,str wd]) w (fun v w'=>v= .slice none 0 0∧Wk w w'):=by
 exact enter func30 aa ntmps30 aa<|bg 8 aa<|p mv<|p (lh xc aa aa)<|aQ 2 aa<|ct (aa)<|aJ 7 aa<|aR aa<|⟨aa,Md.refl _ _⟩
end Go.Hb
end
section
namespace Go.Hb.vl
open Go.Hb.sG
theorem Q1 (l:List bE):(fM l).length=l.length*5:=mJ (f:=dS) (m:=5) (fun _=>rfl) l
theorem Q2 (l:List bE):(fM l).all fX=true :=Bw (fun _=>rfl) l
noncomputable def sc (F:aE) (xs:List bp) (w:Tx) (most:Int):List bE:=(iM F xs w).take (min most 1000).toNat
theorem Q3 (l:List bE) (k:Nat):fM (l.take k)=(fM l).take (k*5):=by
 induction l generalizing k with
 | nil=>simp [fM]
 | cons a l A=>
   cases k with
   | zero=>simp [fM]
   | succ k=>
     show dS a++fM (l.take k)=(dS a++fM l).take _;rw [A,show (k+1)*5=(dS a).length+k*5 by show _=5 +k*5; omega,List.take_length_add_append]
theorem Zk {F:aE} {xs:List bp} {w:Tx} {most:Int} :(iM F xs w).take (max 0<|min (min most 1000) ((iM F xs w).length:Nat)).toNat=sc F xs w most:=by
 unfold sc;by_cases h:(min most 1000).toNat≤(iM F xs w).length
 · congr 1; omega
 · rw [eY ab,eY ab]
noncomputable def lL (F:aE) (xs:List bp) (w:Tx) (fb:Bool):Bool:=(iM F xs w).any fun d=>decide (jP F xs d.eu 1=fb)
section
variable {P:Program} {N:Fm} {σ:Nat→ag} {w:ak} {dst:Option Nat} {ty:TypeId} {pos :String} {af:Array Edge} {g:Option (Nat×Bool)} {x y z:Operand}
theorem Vb {k:IntKind} {a b c:Int} {at_:Array TypeId} (A:ev N σ x= .int k a) (C:ev N σ y= .int k b) (E:ev N σ z= .int k c):
 (execOp (ev N σ) ⟨dst,.call ⟨.builtin .min,#[x,y,z],at_⟩,ty,pos,af,g⟩).run P w= .ok (.value<|.int k<|min (min a b) c) w:=by
 have h1:(if b < a then b else a)=min a b:=ab;have h2:(if c < min a b then c else min a b)=min (min a b) c:=ab;simp [execOp,resolve,invoke,builtin,Builtin.min_,Builtin.min2,A,C,E,h1,h2]
end
theorem CL {w:ak} {B e size n cap:Nat} {xs:List ag} (h:bo w B e size (.slice none n cap) n xs):n=0:=by
 rcases h.2 with ⟨h1,h2⟩ | ⟨g,c,cur,h1,_⟩
 · injection h1 with _ h3 _
 · injection h1 with h2 _ _; cases h2
theorem O8 (a:Option Addr) (n c:Nat) (xs:List ag) (w:ak) (I:aB w.heap a xs) (ae:xs.length=n*5) (V:a=none→n=0) (h1:xs.all fX=true) (hn:n≤1048576):
 ba az 31 (a7 [.slice a n c]) w (fun v w'=>bo w' w.heap.size 49 5 v n xs∧Wk w w'):=by
 refine enter func31 aa ntmps31 aa<|bg 9 aa<|p (rF YL aa aa)<|aQ 2 aa<|cb aa (fun C=> ?_) fun C=> ?_;have Y:a=none:=by simpa using C
 refine aJ 7 aa<|aR aa ?_;have Z:=V Y;subst Z;obtain rfl :=fY (show xs.length=0 by omega);exact ⟨dE _ _ _ _,Md.refl _ _⟩;refine aH 4 aa<|e<|mF zk fun al aq am A G=> ?_;have E:=G w.heap.size ab;refine au 1 aa<|e<|ap zk (E) aa (by have :=A.size; omega) aa (I.wk A.md) (ae) (h1) ab ab fun ai aj ac O ao an=> ?_;have J:=Wk.own A.md E O<|cE _;refine p bm<|aC 3 aa<|aR aa ?_;have ah:bo aj w.heap.size 49 5 ai n xs:=by simpa using ac
 exact ⟨ah,J⟩
theorem Zt (B tb:Nat) (U:gE) (F:aE) (xs:List bp) (wd:Tx) (most:Int) (w:ak) (hT:fS w B tb U F xs) (Y:ec F xs) (ac:F.rules.length≤1024) (ah:wd.length≤2097152):
 ba az 11 (a7 [bj tb,str wd,.int .i64 most]) w (fun v w'=>bo w' w.heap.size 49 5 v (sc F xs wd most).length (fM<|sc F xs wd most)∧Wk w w'):=by
 refine enter func11 aa ntmps11 aa<|bg 7 aa<|p mv<|p mv<|e<|aM (Kk B tb U F xs wd w hT Y ac ah) aa ?_;rintro v10 ai ⟨A,G⟩;obtain ⟨O,V,rfl⟩:=cz A;have am:=(aX A).1;obtain ⟨K,C⟩:∃ K:Nat,(max 0 (min (min most 1000) ((iM F xs wd).length:Nat)):Int)=(K:Int):=⟨(max 0 (min (min most 1000) ((iM F xs wd).length:Nat)):Int).toNat,ab⟩
 have E:=Zk (F:=F) (xs:=xs) (w:=wd) (most:=most);rw [C,kg] at E;have al:K≤(iM F xs wd).length:=ab;have aj:K≤1000:=ab;have J:(sc F xs wd most).length=K:=by rw [← E,dJ]; omega
 refine p bm<|au 4 aa<|p mv<|p mv<|p mv<|au 1 aa<|p (Vb aa aa aa)<|p (mx aa aa)<|p (uy yc aa aa ab)<|e<|aM (O8 O (max 0 (min (min most 1000) ((iM F xs wd).length:Nat)):Int).toNat V (fM<|sc F xs wd most) ai (by rw [← E,Q3]; exact aB.take (aX A).2 _) (by rw [Q1,J,C,kg]) (fun ae=>by subst ae; have :=CL A; omega) (Q2 _) ab) aa fun an ao I=> ?_;rw [C,kg,← J] at I;obtain ⟨ag,Z⟩:=I;exact p bm<|aC 3 aa<|aR aa<|⟨eR ag (by have :=G.size; omega),G.trans Z⟩
theorem PR (B tb:Nat) (U:gE) (F:aE) (xs:List bp) (d:bE) (fb:Bool) (I J:Nat) (w:ak) (hT:fS w B tb U F xs) (Y:ec F xs) (ac:Ao w I (some ⟨tb,0,none⟩)) (ag:w.heap[J]? =some (.cells [.bool fb].toArray 4 (0,0))):
 ba az 64 (a7 [.agg (dS d).toArray,bj I,bj J]) w (fun v w'=>v= .bool (decide (jP F xs d.eu 1=fb))∧Wk w w'):=by
 refine enter func64 aa ntmps64 aa<|bg 2 aa<|e<|iL aa fun V G O C Z=> ?_;have O:bO G.heap V (dS d):=Z;have ae:=Wk.bl C.md ac;have ah:=Wk.bl C.md ag;refine aQ 4 aa<|dZ fun A=>cw 0 aa A ((a8 ae).trans aa)<|aT [1] aa A<|cw 2 aa A (O.bu 1)<|cw 4 aa A ((a8 ah).trans aa)<|he 3 aa aj<|aM (yI B tb U F xs (d.eu:Nat) 1 G.drew (hT.wk C.md.drew) Y) aa ?_;rintro al ai ⟨rfl,ab⟩;have E:(fun w'=>Wk G w') ai:=A.trans ab;refine ⟨E,?_⟩;exact bP 5 aa (Be u4 aa aa) E<|aT [6] aa E<|hn aj<|bc 2 aa<|aR aa<|⟨aa,C.md.trans E⟩
theorem TG (B tb:Nat) (U:gE) (F:aE) (xs:List bp) (fb:Bool) (E G:Nat) (a:Option Addr) (c:Nat) (L:List bE) (w:ak) (hT:fS w B tb U F xs) (ac:ec F xs) (ae:Ao w E (some ⟨tb,0,none⟩)) (ag:w.heap[G]? =some (.cells [.bool fb].toArray 4 (0,0))) (O:aB w.heap a (fM L)) (aj:L.length≤4000000000000):
 ba az 113 (a7 [.slice a L.length c,.func (.func 64) #[] #[bj E,bj G]]) w (fun v w'=>(∃ k:Int,v= .int .i64 k∧(0≤k↔(L.any fun d=>decide (jP F xs d.eu 1=fb))=true))∧Wk w w'):=by
 refine enter func113 aa ntmps113 aa<|bg 8 aa<|p mv<|aQ 5 aa<|lp (fun J Z I=> ∃ (i:Nat),(i≤L.length)∧(∀ j d,j < i→L[j]? =some d→¬(jP F xs d.eu 1=fb))∧(Wk w I)∧(Sl Z [(0,.slice a L.length c),(1,.func (.func 64) #[] #[bj E,bj G]),(7,ay (L.length)),(8,ay i)])∧(L.length - i=J)) _ ⟨0,ab,(fun j d C=>by omega),(Md.refl _ _),aa,aa⟩ ?_;rintro J Z I ⟨i,hi,Y,A,ai,rfl⟩;refine bA ai<|bq 6 aa<|cd aa (fun ah=> ?_) fun ah=> ?_;refine bz 11 aa ?_;obtain ⟨d,hd⟩:∃ d,L[i]? =some d:=⟨_,bY ab⟩
 refine aH 4 aa<|p (a6 yc aa aa ab<|aB.ok (O.wk A)<|A9 ab)<|p (cQ oN aa (aa)<|fI (f:=dS) (m:=5) (fun _=>rfl) (O.wk A) hd)<|e<|PE OF aa (PR B tb U F xs d fb E G I (hT.wk A) ac (Wk.bl A ae)<|Wk.bl A ag) aa ?_;rintro al am ⟨rfl,V⟩;refine aQ 2 aa<|cb aa (fun hm=> ?_) fun hm=> ?_;exact aJ 9 aa<|tr<|bc 2 aa<|aR aa<|⟨⟨(i:Nat),aa,fun _=>xv.2 ⟨d,gB hd,decide_eq_true<|of_decide_eq_true hm⟩,fun _=>by omega⟩,A.trans V⟩
 exact aH 4 aa<|p (bC<|i+1)<|aC 2 aa<|tn<|⟨_,ab,i+1,ab,(fun j e C he=>by rcases pI.1 C with h | rfl; exact Y j e h he; rw [hd] at he; cases he; exact of_decide_eq_false hm),(A.trans V),aa,aa⟩
 exact aJ 2 aa<|bK<|bc 8 aa<|aR aa<|⟨⟨-1,aa,fun h=>absurd h ab,fun h=>by obtain ⟨d,hd,h1⟩:=xv.1 h; obtain ⟨j,C⟩:=List.getElem?_of_mem hd; exact absurd (of_decide_eq_true h1)<|Y j d (by have :=(List.getElem?_eq_some_iff.1 C).1; omega) C⟩,A⟩
theorem PV (B tb:Nat) (U:gE) (F:aE) (xs:List bp) (fb:Bool) (A C:Nat) (a:Option Addr) (c:Nat) (L:List bE) (w:ak) (hT:fS w B tb U F xs) (E:ec F xs) (J:Ao w A (some ⟨tb,0,none⟩)) (O:w.heap[C]? =some (.cells [.bool fb].toArray 4 (0,0))) (G:aB w.heap a (fM L)) (I:L.length≤4000000000000):
 ba az 63 (a7 [.slice a L.length c,.func (.func 64) #[] #[bj A,bj C]]) w (fun v w'=>v= .bool (L.any fun d=>decide (jP F xs d.eu 1=fb))∧Wk w w'):=by
 refine enter func63 aa ntmps63 aa<|bg 7 aa<|p mv<|p mv<|e<|aM (TG B tb U F xs fb A C a c L w hT E J O G I) aa ?_;rintro Z ab ⟨⟨Y,rfl,V⟩,hE7⟩;exact aC 5 aa<|aR aa<|⟨by show bR (decide (Y≥0))=_; exact congrArg bR (by rw [Bool.eq_iff_iff,decide_eq_true_iff]; exact V),hE7⟩
theorem FQ (B tb:Nat) (U:gE) (F:aE) (xs:List bp) (wd:Tx) (fb:Bool) (w:ak) (hT:fS w B tb U F xs) (C:ec F xs) (J:F.rules.length≤1024) (al:wd.length≤2097152):
 ba az 33 (a7 [bj tb,str wd,.bool fb]) w (fun v w'=>v= .bool (lL F xs wd fb)∧Wk w w'):=by
 refine enter func33 aa ntmps33 aa<|bg 2 aa<|e<|vz aa aa fun Y aw ao ai ae=>e<|vz aa aa fun Z am ap I ag=> ?_;have G:=Wk.bl I.md ae;have E:=ai.md.trans I.md;refine au 5 aa<|p (ld1 aa<|(a8 G).trans aa)<|p mv<|e<|aM (Kk B tb U F xs wd am (hT.wk E) C J al) aa ?_;rintro v9 an ⟨O,A⟩;obtain ⟨V,ac,rfl⟩:=cz O;have aj:=EZ J C.xl;have aq:(iM F xs wd).length≤2209777459200:=e7 (qg _ _) aj;refine p Co<|e<|aM (PV B tb U F xs fb Y Z V ac (iM F xs wd) an (hT.wk<|E.trans A) C (Wk.bl A G) (Wk.bl A ag) (aX O).2 ab) aa ?_;rintro v11 av ⟨rfl,ah⟩;exact aC 4 aa<|aR aa<|⟨aa,(E.trans A).trans ah⟩
theorem E3 (B tb:Nat) (U:gE) (F:aE) (xs:List bp) (wd:Tx) (w:ak) (hT:fS w B tb U F xs) (A:ec F xs) (E:F.rules.length≤1024) (G:wd.length≤2097152):
 ba az 14 (a7 [bj tb,str wd]) w (fun v w'=>v= .bool (lL F xs wd false)∧Wk w w'):=by
 refine enter func14 aa ntmps14 aa<|bg 7 aa<|p mv<|p mv<|e<|aM (FQ B tb U F xs wd false w hT A E G) aa ?_;rintro I J ⟨rfl,C⟩;exact aC 4 aa<|aR aa<|⟨aa,C⟩
theorem Hz (B tb:Nat) (U:gE) (F:aE) (xs:List bp) (wd:Tx) (w:ak) (hT:fS w B tb U F xs) (A:ec F xs) (E:F.rules.length≤1024) (G:wd.length≤2097152):
 ba az 15 (a7 [bj tb,str wd]) w (fun v w'=>v= .bool (lL F xs wd true)∧Wk w w'):=by
 refine enter func15 aa ntmps15 aa<|bg 7 aa<|p mv<|p mv<|e<|aM (FQ B tb U F xs wd true w hT A E G) aa ?_;rintro I J ⟨rfl,C⟩;exact aC 4 aa<|aR aa<|⟨aa,C⟩
theorem Aq (B tb:Nat) (U:gE) (F:aE) (xs:List bp) (wd:Tx) (w:ak) (hT:fS w B tb U F xs) (E:ec F xs) (G:F.rules.length≤1024) (I:wd.length≤2097152):
 ba az 16 (a7 [bj tb,str wd]) w (fun v w'=>v= .bool (lL F xs wd false && !lL F xs wd true)∧Wk w w'):=by
 refine enter func16 aa ntmps16 aa<|bg 7 aa<|p mv<|p mv<|e<|aM (E3 B tb U F xs wd w hT E G I) aa ?_;rintro V O ⟨rfl,A⟩;refine au 1 aa<|gb (t:=8) aa (fun C=> ?_) fun C=> ?_;refine bI aa mv<|bI aa mv<|eg aa aa aa<|aM (Hz B tb U F xs wd O (hT.wk A) E G I) aa ?_;rintro v11 Y ⟨rfl,J⟩;exact aC 6 aa<|aR aa<|⟨by rw [C]; rfl,A.trans J⟩
 exact au 5 aa<|p bm<|aC 3 aa<|aR aa<|⟨by rw [C]; rfl,A⟩
end Go.Hb.vl
end
section
namespace Go.Hb
open Go.Hb.sG Go.Hb.vl
theorem TJ (f:ag) (w:ak):
 ba az 113 (a7 [.slice none 0 0,f]) w (fun v w'=>v= .int .i64 (-1)∧Wk w w'):=by
 refine enter func113 aa ntmps113 aa<|bg 8 aa<|p mv<|aQ 5 aa<|lp (fun A E C=>(Wk w C)∧(Sl E [(7,.int .i64 0),(8,.int .i64 0)])∧(0=A)) _ ⟨(Md.refl _ _),aa,aa⟩ ?_;rintro A E C ⟨G,I,rfl⟩;exact bA I<|bq 6 aa<|cd aa (fun h=>absurd h ab) fun J=>aJ 2 aa<|bK<|bc 8 aa<|aR aa<|⟨aa,G⟩
theorem PY (f:ag) (w:ak):
 ba az 63 (a7 [.slice none 0 0,f]) w (fun v w'=>v= .bool false∧Wk w w'):=by
 refine enter func63 aa ntmps63 aa<|bg 7 aa<|p mv<|p mv<|e<|aM (TJ f w) aa ?_;rintro C E ⟨rfl,A⟩;exact aC 5 aa<|aR aa<|⟨aa,A⟩
theorem FP (wd:Tx) (fb:Bool) (w:ak):
 ba az 33 (a7 [.pointer none,str wd,.bool fb]) w (fun v w'=>v= .bool false∧Wk w w'):=by
 refine enter func33 aa ntmps33 aa<|bg 2 aa<|e<|vz aa aa fun C ai ae Y G=>e<|vz aa aa fun E Z ag A ac=> ?_;have I:=Wk.bl A.md G;have O:=Y.md.trans A.md;refine au 5 aa<|p (ld1 aa<|(a8 I).trans aa)<|p mv<|e<|aM (Xn wd Z) aa ?_;rintro v9 ab ⟨rfl,V⟩;refine p Co<|e<|aM (PY (.func (.func 64) #[] #[bj C,bj E]) ab) aa ?_;rintro v11 ah ⟨rfl,J⟩;exact aC 4 aa<|aR aa<|⟨aa,(O.trans V).trans J⟩
theorem E2 (wd:Tx) (w:ak):
 ba az 14 (a7 [.pointer none,str wd]) w (fun v w'=>v= .bool false∧Wk w w'):=by
 refine enter func14 aa ntmps14 aa<|bg 7 aa<|p mv<|p mv<|e<|aM (FP wd false w) aa ?_;rintro C E ⟨rfl,A⟩;exact aC 4 aa<|aR aa<|⟨aa,A⟩
theorem RZ (wd:Tx) (w:ak):
 ba az 15 (a7 [.pointer none,str wd]) w (fun v w'=>v= .bool false∧Wk w w'):=by
 refine enter func15 aa ntmps15 aa<|bg 7 aa<|p mv<|p mv<|e<|aM (FP wd true w) aa ?_;rintro C E ⟨rfl,A⟩;exact aC 4 aa<|aR aa<|⟨aa,A⟩
theorem NA (wd:Tx) (w:ak):
 ba az 16 (a7 [.pointer none,str wd]) w (fun v w'=>v= .bool false∧Wk w w'):=by
 refine enter func16 aa ntmps16 aa<|bg 7 aa<|p mv<|p mv<|e<|aM (E2 wd w) aa ?_;rintro C E ⟨rfl,A⟩;exact au 6 aa<|p bm<|aC 3 aa<|aR aa<|⟨aa,A⟩
end Go.Hb
end
section
namespace Go.Hb.EF
open Go.Hb.jJ Go.Hb.kQ Go.Hb.tI Go.Hb.sG Go.Hb.vl
noncomputable def qG (F:aE) (xs:List bp) (w:Tx) (n:Int):List bE:=(qD F xs n).filter<|rU<|some w
noncomputable def pR (F:aE) (xs:List bp) (w:Tx) (i:Nat):List bE:=(kB F xs i).filter<|rU<|some w
theorem Ua {most:Int} (C:most≤2000) {L:List bE} (A:∀ d∈L,d.eI.length≤200):om most 1152921504606846976 [] L=r7 L most:=by
 by_cases hm:most < 1
 · rw [Ym hm,yC (decide_eq_true<|Or.inl<|by simp only [gr]; omega)]
 · unfold r7; rw [if_neg hm];have :=T9 (most:=most) (limit:=1152921504606846976) 200 ab ab L [] A (by simp only [gr]; omega)<|gY _;rw [this]; rfl
section
variable {F:aE} {xs:List bp} {w:Tx} {m n:Int} {i:Nat}
theorem Ub (A:ec F xs) (C:m≤2000):jb (some w) m 1152921504606846976 [] (qD F xs n)=r7 (qG F xs w n) m:=Ua C fun d hd=>(QL A n d (qh.1 hd).1).2
theorem RF:pR F xs w xs.length=iM F xs w:=rfl
theorem GW (h:i < xs.length):pR F xs w (i+1)=pR F xs w i++qG F xs w (i:Int):=by unfold pR qG; rw [NS,q9,A1 h]
theorem RG (h:i≤xs.length):pR F xs w i <+:iM F xs w:=by
 obtain ⟨k,hk⟩:=EA h;rw [← RF,← hk];clear hk;unfold pR kB;rw [List.range_add,nM,q9];exact List.prefix_append ..
theorem Hx {d:bE} (h:d∈qG F xs w (i:Int)) (hi:i < xs.length):d.eu=i∧d.eI=w:=by
 have h1:=qh.1 h;rw [A1 hi] at h1;exact ⟨(um h1.1).1,of_decide_eq_true h1.2⟩
noncomputable def pO (F:aE) (xs:List bp) (w:Tx) (fb:Bool) (i:Nat):Bool:=(pR F xs w i).any fun d=>decide (jP F xs d.eu 1=fb)
theorem PK (fb:Bool):pO F xs w fb 0=false :=by unfold pO pR kB; simp
theorem FO {fb:Bool} (h:i < xs.length):pO F xs w fb (i+1)=(pO F xs w fb i || (qG F xs w (i:Int)).any fun d=>decide (jP F xs d.eu 1=fb)):=by unfold pO; rw [GW h,List.any_append]
theorem PI {fb:Bool} (h:i < xs.length) (A:pO F xs w fb i=false) (hm:jP F xs i 1≠fb):pO F xs w fb (i+1)=false :=by
 rw [FO h,A,Bool.false_or,List.any_eq_false];intro d hd;rw [(Hx hd h).1];simpa using hm
theorem PG {fb:Bool} (h:i < xs.length) (A:pO F xs w fb i=false) (C:qG F xs w (i:Int)= []):pO F xs w fb (i+1)=false :=by rw [FO h,A,C]; rfl
theorem PJ {fb:Bool} (h:i < xs.length) (hm:jP F xs i 1=fb) (A:qG F xs w (i:Int)≠[]):lL F xs w fb=true :=by
 obtain ⟨d,hd⟩:=List.exists_mem_of_ne_nil _ A;refine xv.2 ⟨d,(RG (F:=F) (w:=w) (show i+1≤xs.length by omega)).subset ?_,decide_eq_true<|by rw [(Hx hd h).1]; exact hm⟩;rw [GW h]; exact u7 _ hd
theorem KZ {L:List bE} :0 < (r7 L 1).length↔L≠[]:=by
 unfold r7;rw [if_neg aw,dJ];cases L with
 | nil=>simp
 | cons a l=>simp
end
theorem C3 (B tb fb:Nat) (V:eo) (ve:ag) (F:aE) (xs:List bp) (n:Int) (wd:Tx) (most:Int) (w:ak) (Y:ga w B tb fb V ve F xs) (E:ec F xs) (I:most≤2000):
 ba az 32 (a7 [bj tb,.int .i64 n,str wd,.int .i64 most]) w (fun v w'=>bo w' w.heap.size 74 5 v (r7 (qG F xs wd n) most).length (fM<|r7 (qG F xs wd n) most)∧Wk w w'):=by
 refine enter func32 aa ntmps32 aa<|bg 9 aa<|p (cV (ps:= [(0,.bool true),(1,.bool true),(2,str wd),(3,.int .i64 most),(4,.int .i64 1152921504606846976)]) (L:= [.bool true,.bool true,str wd,.int .i64 most,.int .i64 1152921504606846976,.int .i64 0,.int .i64 0,.slice none 0 0]) XT aa<|aa)<|e<|nU aa fun A J aj G O=> ?_;have ac:iV J (fun q=>q=A) w.heap.size A true (some wd) most 1152921504606846976 []:=⟨ab,⟨.slice none 0 0,O,by rw [if_pos rfl]; exact dE _ _ _ _,fun q=>by simp [jS]⟩,tI.Bd.nil⟩
 refine au 8 aa<|e<|aM (Zj B tb fb V ve F xs w.heap.size A true (some wd) most 1152921504606846976 [] (fun q=>q=A) n J (Y.wk G.md) E ac<|.inl I) aa ?_;rintro v17 an ⟨rfl,ai,ae,Z⟩;obtain ⟨v,ah,C,al⟩:=ae.ex;rw [if_pos rfl] at C;refine au 7 aa<|p (ld1 aa<|(a8 ah).trans aa)<|p bm<|aC 3 aa<|aR aa ?_;rw [Ub E I] at C;exact ⟨C,G.md.trans' Z.md fun q am h=>by omega⟩
theorem JN (B tb fb:Nat) (V:eo) (ve:ag) (F:aE) (xs:List bp) (wd:Tx) (A:Bool) (w:ak) (I:ga w B tb fb V ve F xs) (E:ec F xs):
 ba az 34 (a7 [bj tb,str wd,.bool A]) w (fun v w'=>v= .bool (lL F xs wd A)∧Wk w w'):=by
 have av:=E.xl;refine enter func34 aa ntmps34 aa<|bq 12 aa<|lp (fun Z ah Y=> ∃ (i:Nat),(i≤xs.length)∧(Wk w Y)∧(pO F xs wd A i=false)∧(Sl ah [(0,bj tb),(1,str wd),(2,.bool A),(7,ay i)])∧(xs.length - i=Z)) _ ⟨0,ab,(Md.refl _ _),(PK A),aa,aa⟩ ?_;rintro Z ah Y ⟨i,hi,C,O,an,rfl⟩;refine bA an<|bg 7 aa<|p (ld1 aa<|(I.wk C).DK.choose_spec.choose_spec)<|aQ 4 aa<|cd aa (fun al=> ?_) fun al=> ?_;refine aH 8 aa<|e<|aM (J2 B tb fb V ve F xs (i:Nat) 1 Y (I.wk C) E) aa ?_;rintro v21 ao ⟨rfl,ai⟩;have G:=C.trans ai;refine au 8 aa<|p (wc u4 aa aa)<|aQ 2 aa<|cd aa (fun J=> ?_) fun J=> ?_;exact aH 6 aa<|p (bC<|i+1)<|aC 2 aa<|tn<|⟨_,ab,i+1,ab,G,(PI ab O J),aa,aa⟩
 refine aH 7 aa<|e<|aM (C3 B tb fb V ve F xs (i:Int) wd 1 ao (I.wk G) E ab) aa ?_;rintro v28 aw ⟨am,aj⟩;obtain ⟨ap,aq,rfl⟩:=cz am;have ac:=G.trans aj;refine p bm<|au 4 aa<|p mv<|aQ 4 aa<|cd aa (fun ae=> ?_) fun ae=> ?_;exact aJ 8 aa<|tr<|bc 2 aa<|aR aa<|⟨congrArg bR (PJ (show i < xs.length by omega) (Classical.not_not.1 J)<|KZ.1 ab).symm,ac⟩
 exact aH 5 aa<|p (bC<|i+1)<|aC 2 aa<|tn<|⟨_,ab,i+1,ab,ac,(PG ab O<|Classical.byContradiction fun h=>ae<|by have :=KZ.2 h; omega),aa,aa⟩
 exact aJ 2 aa<|bK<|bc 8 aa<|aR aa<|⟨congrArg bR (show false =lL F xs wd A by rw [← O,show i=xs.length by omega]; rfl),C⟩
theorem Wq (B tb fb:Nat) (V:eo) (ve:ag) (F:aE) (xs:List bp) (wd:Tx) (w:ak) (E:ga w B tb fb V ve F xs) (A:ec F xs):
 ba az 17 (a7 [bj tb,str wd]) w (fun v w'=>v= .bool (lL F xs wd false)∧Wk w w'):=by
 refine enter func17 aa ntmps17 aa<|bg 7 aa<|p mv<|p mv<|e<|aM (JN B tb fb V ve F xs wd false w E A) aa ?_;rintro G I ⟨rfl,C⟩;exact aC 4 aa<|aR aa<|⟨aa,C⟩
theorem WN (B tb fb:Nat) (V:eo) (ve:ag) (F:aE) (xs:List bp) (wd:Tx) (w:ak) (E:ga w B tb fb V ve F xs) (A:ec F xs):
 ba az 18 (a7 [bj tb,str wd]) w (fun v w'=>v= .bool (lL F xs wd true)∧Wk w w'):=by
 refine enter func18 aa ntmps18 aa<|bg 7 aa<|p mv<|p mv<|e<|aM (JN B tb fb V ve F xs wd true w E A) aa ?_;rintro G I ⟨rfl,C⟩;exact aC 4 aa<|aR aa<|⟨aa,C⟩
end Go.Hb.EF
end
section
namespace Go.Hb
open Go.Hb.jJ Go.Hb.kQ Go.Hb.sG Go.Hb.vl
theorem Tk {eof ln:Nat} {F F':aE} {hs:List Tx} {rows rows':List Rw} {row:List Tx} (A:ca eof F hs rows ln row= .ok (F',rows')):F'.rules=F.rules∨F'.rules.length≤1024:=by
 unfold ca at A;split at A
 · unfold kp at A; split at A <;> cases A; exact .inl rfl
 split at A
 · unfold kI at A;split at A
   · cases A
   · split at A <;> cases A; exact .inl rfl
 split at A
 · unfold mP at A; split at A <;> cases A; exact .inl rfl
 split at A
 · unfold mT at A; split at A <;> cases A; exact .inl rfl
 split at A
 · unfold kX at A;split at A
   · cases A
   · split at A <;> cases A; exact .inl rfl
 split at A
 · unfold ko at A;split at A
   · cases A
   · split at A <;> cases A; exact .inl rfl
 split at A
 · unfold j9 at A;split at A
   · cases A
   · split at A
     · cases A
     · split at A <;> cases A; exact .inl rfl
 unfold hU at A;split at A
 · cases A
 split at A
 · cases A
 split at A
 · cases A
 split at A
 · cases A
 split at A
 · cases A
 rename_i r C;cases A;have h1:=(vO _ _ _ C).2.1;refine .inr ?_;rw [bG];omega
theorem NL {s:Tx} {F:aE} (h:fH s= .ok F):F.rules.length≤1024:=by
 refine Au (Q:=fun F=>F.rules.length≤1024) (gY _) ?_ h;intro eof ln F F' hs rows rows' row A C;rcases Tk C with h | h
 · rw [h]; exact A
 · exact h
theorem Yl {a t:Tx} {T:aE×List bp} (h:k4 a t=some T):T.1.rules.length≤1024:=by
 unfold k4 at h;split at h
 · cases h
 · rename_i F A;split at h
   · cases h
   · cases h; exact NL A
theorem Zg:k4 uH zC=some (gX,jF):=Dw Y6 Za
theorem Lm:kB gX jF jF.length= [⟨[103,97,115],0,-1,-1,-1⟩,⟨[103,97],1,-1,-1,-1⟩,⟨[103,97,115],1,0,-1,-1⟩]:=by
 unfold kB;rw [show gT jF.length= [0,1] by rfl,kt,kt,List.flatMap_nil,Y8,Y9];rfl
theorem Ln:iM gX jF [103,97,115]=zD:=by unfold iM; rw [Lm]; decide
theorem Zb:iM gX jF [103]= []:=by unfold iM; rw [Lm]; decide
theorem Zh:sc gX jF [103,97,115] 9=zD:=by unfold sc; rw [Ln]; rfl
theorem Y5:(lL gX jF [103,97,115] false && !lL gX jF [103,97,115] true)=true :=by unfold lL; rw [Ln]; decide
theorem Zc:(lL gX jF [103] false && !lL gX jF [103] true)=false :=by unfold lL; rw [Zb]; rfl
theorem Lt (w:ak):
 ba az 10 (a7 []) w (fun v w'=>v= .bool true∧Wk w w'):=by
 refine enter func10 aa ntmps10 aa<|bg 7 aa<|e<|aM (K5 uH zC w aw aw) aa ?_;rintro v5 ap ⟨⟨pp,aJ,aK,aL,rfl,ae⟩,hE5⟩;rw [Zg] at ae;obtain ⟨B,tb,U,aA,rfl,am,C⟩:=ae;refine p mv<|au 2 aa<|e<|al q4 fun av aO aD E ag=> ?_;have aI:=E.size;refine p bm<|e<|c8 kj aa aa aa aa (ag) (by simp) fun I V ay=> ?_;have ah:Wk w I:=(hE5.trans E.md).trans' V fun q an h=>by have :=hE5.size; omega
 have ai:Wk ap I:=E.md.trans' V fun q an h=>by omega
 have ac:=am.wk ai;have G:gX.rules.length≤1024:=aw;refine au 4 aa<|p mv<|e<|aM (Zt B tb U gX jF [103,97,115] 9 I ac C G aw) aa ?_;rintro v9 aq ⟨A,O⟩;rw [Zh] at A;obtain ⟨a9,ax,rfl⟩:=cz A;have ab:=ac.wk O;refine p bm<|au 4 aa<|p mv<|au 3 aa<|gs (t:=13) aa (fun aE=> ?_) fun h=>absurd aa h;refine bI aa mv<|bI aa (a6 yc aa aa aw<|aB.ok (yY A)<|A9 aw)<|au 1 aa<|bI aa (ld1 aa<|fI (f:=dS) (m:=5) (i:=0) (fun _=>rfl) (yY A) (show zD[0]? =some ⟨[103,97,115],0,-1,-1,-1⟩ from aa) 1 aw)<|au 3 aa<|gs (t:=20) aa (fun aF=> ?_) fun h=>absurd aa h;refine bI aa mv<|bI aa (a6 yc aa aa aw<|aB.ok (yY A)<|A9 aw)<|bI aa (cQ oN aa (aa)<|fI (f:=dS) (m:=5) (i:=1) (fun _=>rfl) (yY A) (show zD[1]? =some ⟨[103,97,115],1,0,-1,-1⟩ from aa))<|bI aa (cV (ps:= [(0,str [103,97,115]),(1,.int .i64 1),(2,.int .i64 0),(3,.int .i64 (-1)),(4,.int .i64 (-1))]) (L:= [str [103,97,115],.int .i64 1,.int .i64 0,.int .i64 (-1),.int .i64 (-1)]) Dq aa<|aa)<|bI aa (Ro aa aa)<|au 2 aa<|gs (t:=27) aa (fun aG=> ?_) fun h=>absurd ⟨aa,aa,aa,aa,aa⟩ h;refine bI aa mv<|eg aa aa aa<|aM (Aq B tb U gX jF [103,97,115] aq ab C G aw) aa fun aN ao Y=> ?_;rw [Y5] at Y;obtain ⟨rfl,J⟩:=Y;refine au 2 aa<|gb (t:=31) aa (fun aH=> ?_) fun h=>absurd ((aa).symm.trans h) dM;refine bI aa mv<|eg aa aa aa<|aM (Aq B tb U gX jF [103] ao (ab.wk J) C G aw) aa fun v33 aP Z=> ?_;rw [Zc] at Z;obtain ⟨rfl,aj⟩:=Z;exact aC 6 aa<|aR aa<|⟨aa,((ah.trans O).trans J).trans aj⟩
theorem JU (a t:Tx) (w:ak) (ab:a.length≤1048576) (ac:t.length≤1048576):
 ba az 9 (a7 [str a,str t]) w (fun v w'=>(match k4 a t with | none=>v= .tuple #[.pointer none,.pointer none,.bool true] | some T=> ∃ B tb U G E fb V ve,v= .tuple #[bj tb,bj E,.bool true]∧fS w' B tb U T.1 T.2∧ec T.1 T.2∧ga w' G E fb V ve T.1 T.2)∧Wk w w'):=by
 refine enter func9 aa ntmps9 aa<|bg 11 aa<|e<|aM (K5 a t w ab ac) aa ?_;rintro aS ao ⟨⟨aJ,aL,aN,aO,rfl,A⟩,hE14⟩;have aG:=hE14.size;refine p mv<|au 2 aa<|e<|al q4 fun aw aU aD Z ai=> ?_;have aI:=Z.size;refine p bm<|e<|c8 kj aa aa aa aa (ai) (by simp) fun ae O ax=> ?_;have J:Wk ao ae:=Z.md.trans' O fun q an h=>by omega
 have aE:=O.size;refine au 6 aa<|e<|aM (W9 a t ae ab ac) aa ?_;rintro v20 ap ⟨⟨aK,aP,aQ,aR,rfl,C⟩,hE20⟩;have aH:=hE20.size;refine p mv<|au 2 aa<|e<|al LJ fun av aT aB Y ah=> ?_;have aF:=Y.size;refine p bm<|e<|c8 x2 aa aa aa aa (ah) (by simp) fun aq am ay=> ?_;have I:Wk ap aq:=Y.md.trans' am fun q an h=>by omega
 refine au 4 aa<|p mv<|p mv<|p mv<|p (lh xc aa aa)<|p mv<|p (lh DE aa aa)<|p (Be u4 aa aa)<|p bm<|p bm<|aC 4 aa<|f3 aa aa aa aa ?_;refine ⟨?_,hE14.trans<|J.trans<|hE20.trans I⟩;cases hx:k4 a t with
 | none=>rw [hx] at A C; subst A C; rfl
 | some T=>
   rw [hx] at A C;obtain ⟨B,tb,U,aA,rfl,hT,ag⟩:=A;obtain ⟨G,E,fb,V,ve,rfl,aj⟩:=C;exact ⟨B,tb,U,G,E,fb,V,ve,aa,hT.wk (J.trans<|hE20.trans I),ag,aj.wk I⟩
end Go.Hb
end
section
namespace Go.Hb
open Go.Hb.jJ Go.Hb.kQ Go.Hb.tI Go.Hb.sG Go.Hb.vl Go.Hb.EF
theorem NC (a t:Tx) (ws:List Tx) (ax:Option Addr) (ai:Nat) (w:ak) (aG:a.length≤1048576) (aN:t.length≤1048576) (ap:bW w.heap ax ws) (a1:ws.length≤1048576) (aP:∀ i,(ws.getD i []).length≤1048576) (F:aE) (xs:List bp) (av:k4 a t=some (F,xs)):
 ba az 4 (a7 [str a,str t,.slice ax ws.length ai]) w (fun v w'=>v= .bool true∧Wk w w'):=by
 have Z:F.rules.length≤1024:=Yl av;refine enter func4 aa ntmps4 aa<|bg 7 aa<|p mv<|p mv<|e<|aM (JU a t w aG aN) aa ?_;rintro v17 aS ⟨aq,aA⟩;rw [av] at aq;obtain ⟨B,tb,U,J,I,fb,V,ve,aO,hT,C,G⟩:=aq;subst aO;have hT:fS _ B tb U F xs:=hT;have C:ec F xs:=C;have G:ga _ J I fb V ve F xs:=G;refine p mv<|au 3 aa<|p bm<|p bm<|au 9 aa<|gb (t:=23) aa (fun h=>absurd (h.symm.trans<|aa) dM) fun aY=>eg aa aa aa<|aM (Lt aS) aa ?_;rintro v24 aT ⟨rfl,E⟩;have O:=aA.trans E;refine aQ 4 aa<|cf (aa)<|aH 5 aa<|p mv<|aQ 5 aa<|lp (fun aj aw ah=> ∃ (i:Nat),(i≤ws.length)∧(Wk aT ah)∧(Sl aw [(7,bj tb),(8,bj I),(27,.slice ax ws.length ai),(28,ay (ws.length)),(29,ay i)])∧(ws.length - i=aj)) _ ⟨0,ab,(Md.refl _ _),aa,aa⟩ ?_;rintro aj aw ah ⟨i,hi,A,aL,rfl⟩;refine bA aL ?_;have ag:(ws.getD i []).length≤2097152:=by have :=aP i; omega
 refine bq 6 aa<|cd aa (fun aK=> ?_) fun aK=> ?_;refine aH 6 aa<|p (a6 cM aa aa ab<|aB.ok (ap.wk<|O.trans A)<|bS ab)<|p (ld1 aa<|bW.get (i:=i) (ap.wk<|O.trans A) ab)<|au 7 aa<|p (lh DE aa aa)<|aQ 2 aa<|cf (aa)<|aH 6 aa<|e<|aM (Wq J I fb V ve F xs (ws.getD i []) ah (G.wk<|E.trans A) C) aa ?_;rintro v50 aU ⟨rfl,al⟩;refine au 2 aa<|e<|aM (WN J I fb V ve F xs (ws.getD i []) aU ((G.wk<|E.trans A).wk al) C) aa ?_;rintro v53 aV ⟨rfl,aD⟩;have an:=al.trans aD;have ac:=(hT.wk<|E.trans A).wk an;refine au 8 aa<|e<|aM (E3 B tb U F xs (ws.getD i []) aV ac C Z ag) aa ?_;rintro a2 aW ⟨rfl,Y⟩;refine au 1 aa<|p (wc u4 aa aa)<|au 1 aa<|gs (t:=59) aa (fun h=>absurd h fun h=>h aa) fun aZ=>au 2 aa<|eg aa aa aa<|aM (Hz B tb U F xs (ws.getD i []) aW (ac.wk Y) C Z ag) aa ?_;rintro a3 aX ⟨rfl,am⟩;refine au 1 aa<|bI aa (wc u4 aa aa)<|au 2 aa<|gs (t:=66) aa (fun h=>absurd h fun h=>h aa) fun a0=>au 2 aa<|eg aa aa aa<|aM (Aq B tb U F xs (ws.getD i []) aX ((ac.wk Y).wk am) C Z ag) aa ?_;rintro a4 a5 ⟨rfl,aF⟩;have ao:=((an.trans Y).trans am).trans aF;refine au 2 aa<|gb (t:=71) aa (fun ae=> ?_) fun ae=> ?_;exact au 3 aa<|bI aa (wc u4 aa aa)<|aQ 3 aa<|cd aa (fun h=>absurd h fun h=>h<|by rw [ae]; rfl) fun aI=>aH 4 aa<|p (bC<|i+1)<|aC 2 aa<|tn<|⟨_,ab,i+1,ab,(A.trans ao),aa,aa⟩
 exact au 3 aa<|bI aa (wc u4 aa aa)<|aQ 3 aa<|cd aa (fun h=>absurd h fun h=>h<|by rw [ae]; rfl) fun aI=>aH 4 aa<|p (bC<|i+1)<|aC 2 aa<|tn<|⟨_,ab,i+1,ab,(A.trans ao),aa,aa⟩
 exact aJ 2 aa<|bK<|bc 8 aa<|aR aa<|⟨aa,O.trans A⟩
theorem NB (a t:Tx) (ws:List Tx) (ax:Option Addr) (G:Nat) (w:ak) (ai:a.length≤1048576) (am:t.length≤1048576) (J:bW w.heap ax ws) (aF:ws.length≤1048576) (ao:∀ i,(ws.getD i []).length≤1048576) (ap:k4 a t=none):
 ba az 4 (a7 [str a,str t,.slice ax ws.length G]) w (fun v w'=>v= .bool true∧Wk w w'):=by
 refine enter func4 aa ntmps4 aa<|bg 7 aa<|p mv<|p mv<|e<|aM (JU a t w ai am) aa ?_;rintro v17 aq ⟨O,Y⟩;rw [ap] at O;have an:v17=_:=O;subst an;refine p mv<|au 3 aa<|p bm<|p bm<|au 9 aa<|gb (t:=23) aa (fun h=>absurd (h.symm.trans<|aa) dM) fun aD=>eg aa aa aa<|aM (Lt aq) aa ?_;rintro v24 av ⟨rfl,Z⟩;have C:=Y.trans Z;refine aQ 4 aa<|cf (aa)<|aH 5 aa<|p mv<|aQ 5 aa<|lp (fun I V E=> ∃ (i:Nat),(i≤ws.length)∧(Wk av E)∧(Sl V [(7,.pointer none),(8,.pointer none),(27,.slice ax ws.length G),(28,ay (ws.length)),(29,ay i)])∧(ws.length - i=I)) _ ⟨0,ab,(Md.refl _ _),aa,aa⟩ ?_;rintro I V E ⟨i,hi,A,al,rfl⟩;refine bA al ?_;have aE:(ws.getD i []).length≤2097152:=by have :=ao i; omega
 refine bq 6 aa<|cd aa (fun aj=> ?_) fun aj=> ?_;refine aH 6 aa<|p (a6 cM aa aa ab<|aB.ok (J.wk<|C.trans A)<|bS ab)<|p (ld1 aa<|bW.get (i:=i) (J.wk<|C.trans A) ab)<|au 7 aa<|p (lh DE aa aa)<|aQ 2 aa<|ct (aa)<|aH 5 aa<|e<|aM (E2 (ws.getD i []) E) aa ?_;rintro v37 aw ⟨rfl,ac⟩;refine au 3 aa<|eg aa aa aa<|aM (RZ (ws.getD i []) aw) aa ?_;rintro v41 aA ⟨rfl,ae⟩;refine au 4 aa<|eg aa aa aa<|aM (NA (ws.getD i []) aA) aa ?_;rintro v46 aG ⟨rfl,ag⟩;have ah:=(ac.trans ae).trans ag;exact au 11 aa<|p (bC<|i+1)<|aC 2 aa<|tn<|⟨_,ab,i+1,ab,(A.trans ah),aa,aa⟩
 exact aJ 2 aa<|bK<|bc 8 aa<|aR aa<|⟨aa,C.trans A⟩
theorem Zi (ws:List Tx) (i:Nat):(ws.getD i []).length≤qW ws:=by
 induction ws generalizing i with
 | nil=>simp
 | cons x l A=>
   cases i with
   | zero=>simp [qW]
   | succ i=>
     have :=A i;simp only [List.getD_cons_succ,qW,List.map_cons,List.sum_cons] at*;omega
theorem ND (a t:Tx) (ws:List Tx) (ax:Option Addr) (A:Nat) (w:ak) (E:a.length≤1048576) (G:t.length≤1048576) (C:bW w.heap ax ws) (J:ws.length+qW ws≤1048576):ba az 4 [str a,str t,.slice ax ws.length A].toArray w (fun v w'=>v= .bool true∧Wk w w'):=by
 have I:∀ i,(ws.getD i []).length≤1048576:=fun i=>by have :=Zi ws i; omega
 cases hx:k4 a t with
 | none=>exact NB a t ws ax A w E G C ab I hx
 | some Y=>obtain ⟨F,xs⟩:=Y; exact NC a t ws ax A w E G C ab I F xs hx
end Go.Hb
end
