/-
  Walks and plain laws that the law rests on, laid together. No conditions but those that each theorem names.
-/
import Derived.Test.YtchkamdekbbgeaaGreatDoorMnAnalyseWords8
set_option linter.unusedVariables false
set_option maxRecDepth 20000
set_option maxHeartbeats 1000000
open Array renaming getElem?_eq_none→sH,getElem?_eq_some_iff→dO,getElem?_modify→Pc,getElem?_toList→yd
open Bool renaming noConfusion→ep
open Go.Calls renaming mono→mu
open Go.Proofs.SlLaysF0 renaming n6→ad5
open Go.Proofs.Tryz renaming prog→aw
open Go.Proofs renaming ltOf→yo
open Go.Sort renaming ahead→yp,grow→PG
open Go.Value renaming bool→ca,int→gP,oneCell'→gw,ownBlock→jN,slice→bW
open Go.World renaming ownsRow→bz,ownsRow_nil→dK
open Int renaming toNat_natCast→kQ
open List.Perm renaming refl→PR
open List renaming any_eq_true→BB,append_assoc→eS,append_nil→eB,eq_nil_of_length_eq_zero→fR,filter_append→yv,filter_cons→qy,flatMap_append→nU,flatMap_cons→ku,flatMap_singleton→pU,getD_eq_getElem?_getD→cX,getElem?_eq_getElem→cx,getElem?_take_of_lt→P5,length_append→bL,length_cons→cV,length_filter_le→sS,length_map→fP,length_nil→gB,length_range→vR,length_singleton→fu,length_take→dP,map_append→gW,mem_append_right→yB,mem_cons→fG,mem_cons_of_mem→nW,mem_cons_self→oS,mem_filter→ua,mem_map→jn,mem_of_getElem?→gC,mem_singleton→iK,of_mem_zip→Qd,range→gX,take_length→Qk,take_of_length_le→e9,take_zero→mA,toArray→bh
open Nat renaming add_le_add→Qp,le_refl→cU,le_trans→fz,lt_succ_iff_lt_or_eq→pX,mul_add→yF,mul_comm→vU,mul_le_mul_right→qD,zero_le→hZ
open Nat.le renaming dest→GP
open Option renaming isSome_iff_exists→nX
open Prod renaming fst→iN
open Go.Proofs.Tryz
open Go.Hb.dZ Go.Proofs Go.Hb.eT Go.Hb.fI Go.Hb.iZ Go.Hb.gy Go.Hb.iw Go.Hb.jq Go.Hb.jO Go.Hb.jX Go.Hb.kB Go.Hb.qF

section
namespace Go.Hb
section
variable {F:aU} {xs:List bC} {wd word:Tx} {p:Int} {S:bK→Prop} {i:Nat}
def o8 (F:aU) (xs:List bC) (wd word:Tx) (p:Int) (S:bK→Prop) (i:Nat) (d:bK):Prop :=S d∨pc F xs wd word p i d
def om (F:aU) (xs:List bC) (wd word sm:Tx) (p:Int) (S:bK→Prop) (i j:Nat) (d:bK):Prop :=(o8 F xs wd word p S i d∨oD F xs wd sm i (-1) p d)∨
 ∃ k rt,k < j∧gv (F.rules.getD ((fO F F.rules.length i).getD k 0) dR) sm=some rt∧oD F xs wd rt ((fO F F.rules.length i).getD k 0:Nat) i p d
theorem TP (d:bK):o8 F xs wd word p S 0 d↔(S d∨oD F xs wd word (-1) (-1) p d):=by
 unfold o8 pc;constructor
 · rintro (h | h | ⟨i,r,h,_⟩)
   · exact .inl h
   · exact .inr h
   · omega
 · rintro (h | h)
   · exact .inl h
   · exact .inr<|.inl h
theorem IE {r:c7} (E:F.rules[i]? =some r) (h:r.kind≠2∨gv r word=none) (d:bK):o8 F xs wd word p S (i+1) d↔o8 F xs wd word p S i d:=by
 unfold o8 pc;constructor
 · rintro (h1 | h1 | ⟨k,C,hk,A,h2,st,h3,h4⟩)
   · exact .inl h1
   · exact .inr<|.inl h1
   · rcases pX.1 hk with hk | rfl
     · exact .inr<|.inr ⟨k,C,hk,A,h2,st,h3,h4⟩
     · rw [E] at A; cases A;rcases h with h | h
       · exact absurd h2 h
       · rw [h] at h3; cases h3
 · rintro (h1 | h1 | ⟨k,C,hk,h2⟩)
   · exact .inl h1
   · exact .inr<|.inl h1
   · exact .inr<|.inr ⟨k,C,ab,h2⟩
theorem TQ {r:c7} {sm:Tx} (E:F.rules[i]? =some r) (hk:r.kind=2) (hu:gv r word=some sm) (d:bK):o8 F xs wd word p S (i+1) d↔om F xs wd word sm p S i (fO F F.rules.length i).length d:=by
 unfold om o8 pc;constructor
 · rintro (h1 | h1 | ⟨k,I,A,G,h2,st,h3,h4⟩)
   · exact .inl<|.inl<|.inl h1
   · exact .inl<|.inl<|.inr<|.inl h1
   · rcases pX.1 A with A | rfl
     · exact .inl<|.inl<|.inr<|.inr ⟨k,I,A,G,h2,st,h3,h4⟩
     · rw [E] at G; cases G;rw [hu] at h3; cases h3;rcases h4 with h4 | ⟨f,J,rt,h5,C⟩
       · exact .inl<|.inr h4
       · obtain ⟨m,hm,e⟩:=mR 0 J;exact .inr ⟨m,rt,hm,by rw [e]; exact h5,by rw [e]; exact C⟩
 · rintro (((h1 | h1 | ⟨k,I,A,h2⟩) | h1) | ⟨m,rt,hm,h5,C⟩)
   · exact .inl h1
   · exact .inr<|.inl h1
   · exact .inr<|.inr ⟨k,I,ab,h2⟩
   · exact .inr<|.inr ⟨i,r,ab,E,hk,sm,hu,.inl h1⟩
   · exact .inr<|.inr ⟨i,r,ab,E,hk,sm,hu,.inr ⟨_,eb (d:=0) hm,rt,h5,C⟩⟩
theorem TT {sm:Tx} (d:bK):om F xs wd word sm p S i 0 d↔(o8 F xs wd word p S i d∨oD F xs wd sm i (-1) p d):=by
 unfold om;exact ⟨fun h=>h.resolve_right (fun ⟨k,_,h,_⟩=>by omega),.inl⟩
theorem TR {sm:Tx} {j:Nat} (h:gv (F.rules.getD ((fO F F.rules.length i).getD j 0) dR) sm=none) (d:bK):om F xs wd word sm p S i (j+1) d↔om F xs wd word sm p S i j d:=by
 unfold om;constructor
 · rintro (h1 | ⟨k,rt,hk,h2,h3⟩)
   · exact .inl h1
   · rcases pX.1 hk with hk | rfl
     · exact .inr ⟨k,rt,hk,h2,h3⟩
     · rw [h] at h2; cases h2
 · rintro (h1 | ⟨k,rt,hk,h2⟩)
   · exact .inl h1
   · exact .inr ⟨k,rt,ab,h2⟩
theorem TS {sm rt:Tx} {j:Nat} (h:gv (F.rules.getD ((fO F F.rules.length i).getD j 0) dR) sm=some rt) (d:bK):om F xs wd word sm p S i (j+1) d↔(om F xs wd word sm p S i j d∨oD F xs wd rt ((fO F F.rules.length i).getD j 0:Nat) i p d):=by
 unfold om;constructor
 · rintro (h1 | ⟨k,A,hk,h2,h3⟩)
   · exact .inl<|.inl h1
   · rcases pX.1 hk with hk | rfl
     · exact .inl<|.inr ⟨k,A,hk,h2,h3⟩
     · rw [h] at h2; cases h2; exact .inr h3
 · rintro ((h1 | ⟨k,A,hk,h2⟩) | h1)
   · exact .inl h1
   · exact .inr ⟨k,A,ab,h2⟩
   · exact .inr ⟨j,rt,ab,h,h1⟩
end
theorem WK {F:aU} {n z i:Nat} (h:i∈fO F n z):i < n:=List.mem_range.1 (ua.1 h).1
theorem IG (w0 wB:World) (B kb tb:Nat) (U:gJ) (F:aU) (xs:List bC) (ar:Option Addr) (cr:Nat) (rn:List Value) (fm dm:Nat) (A:lk w0 wB B kb tb U F xs ar cr rn fm dm) (C:eC F xs) (wd word:Tx) (G:Nat) (pp:Int) (S:bK→Prop) (w:World) (hm:Md (fun k=>k=dm) wB w) (cA:kz w.heap dm S) (aP: -1≤pp) (dw:word.length≤4194304):
 bm aw 58 (bh [aV kb,str word,.agg [str wd,ak G,.int .i64 (-1),.int .i64 (-1),.int .i64 pp].toArray]) w (fun v w'=>v= .tuple #[]∧kz w'.heap dm (fun d=>S d∨pc F xs wd word pp F.rules.length d)∧Md (fun k=>k=dm) w w'):=by
 have dy:=C.xl;have dq:=A.lt;have dv:=hm.size;have ds:=C.len;refine enter func58 aa ntmps58 aa<|ag fun b1=>e<|og aa fun E aW dl ap cu=> ?_;have dz:=ap.size;have bw:Md (fun k=>k=dm) wB aW:=hm.trans' ap.md fun _ _ h=>h.elim;have bo:aW.heap[E]? =some (.cells [str wd,ak G,.int .i64 (-1),.int .i64 (-1),.int .i64 pp].toArray 49 (0,0)):=cu;have cD:=cA.md ap.md id;have ae:¬(E=dm):=ab;refine nl<|b1<|ag fun cc=>p mv<|p mv<|p (cW oc aa (aa) fun q J=>(o6 bo).bB q)<|e<|cl Cj (Es w0 wB B kb tb U F xs ar cr rn fm dm A C wd word G (-1) (-1) pp S aW bw cD ab ab aP) aa fun v17 bR cM=> ?_;obtain ⟨rfl,cB,aA⟩:=cM;have bt:Md (fun k=>k=dm) wB bR:=bw.trans aA;have cS:=aA.aT bo ae;have c7:Md (fun k=>k=dm) w bR:=(ap.md.mono fun _ _ h=>h.elim).trans aA;refine nl<|cc<|ag fun ci=>p mv<|p (nc aa)<|p (fa zM aa)<|p (ld np aa<|(bg<|A.at bt).trans aa)<|p (bM sy aa aa)<|p mv<|nl<|ci<|aT<|lp (fun Y bZ V=> ∃ (i:Nat) (bX z2:Int),(i≤F.rules.length)∧(Md (fun k=>k=dm) wB V)∧(Md (fun k=>k=dm) w V)∧(kz V.heap dm<|o8 F xs wd word pp S<|i)∧(V.heap[E]? =some (.cells [str wd,ak G,.int .i64 bX,.int .i64 z2,.int .i64 pp].toArray 49 (0,0)))∧(Sl bZ [(0,aV kb),(1,str word),(5,aV E),(21,.slice ar F.rules.length cr),(22,ak (F.rules.length)),(23,ak i)])∧(F.rules.length - i=Y)) _ ⟨0,_,_,ab,bt,c7,(cB.congr TP),cS,aa,aa⟩ ?_;rintro Y bZ V ⟨i,bX,z2,hi,aN,bE,a6,cV,dg,rfl⟩;refine bG dg<|ag fun cj=>p (lt aa aa)<|nl<|cj<|az fun ck=>cd aa (fun c2=> ?_) fun c2=> ?_;refine aQ<|ck<|az fun ax=>aT<|az fun cm=> ?_;obtain ⟨r,I⟩:∃ r,F.rules[i]? =some r:=⟨_,cx ab⟩
 obtain ⟨u,aS⟩:=A.jw I;have dj:=A.ro u (Qd<|gC aS).2;refine rg aa<|au (ak i)<|p (bc ny aa aa ab<|aM.ok (A.rules aN)<|oM aS)<|p (cW lS aa (aa)<|fC (f:=e6) (m:=7) (fun _=>rfl) (A.rules aN) aS)<|e<|gk rp fun cp dD aF a9 cv=> ?_;have dA:=a9.size;refine p (cE (ak i) aa)<|e<|fU po aa aa aa (NH dj) cv aB fun aj cJ ct=> ?_;have am:Wk V aj:=a9.md.trans' cJ fun q J h=>by omega
 have aF:bS aj.heap cp (e6 (r,u)):=⟨_,ct⟩
 have bv:Md (fun k=>k=dm) wB aj:=aN.trans' am fun _ _ h=>h.elim;have bH:Md (fun k=>k=dm) w aj:=bE.trans' am fun _ _ h=>h.elim;have a4:=a6.md am id;have bl:=Wk.aT am cV;refine nl<|cm<|az fun cn=>ag fun co=>p (fa xc aa)<|p (ld bD aa<|aF.bB 0)<|p (dd aa aa)<|nl<|co<|cd aa (fun hk=> ?_) fun hk=> ?_;have aI:=IE (xs:=xs) (wd:=wd) (word:=word) (p:=pp) (S:=S) I<|.inl (show r.kind≠2 by have h:=hk; dsimp only at h; omega);exact ext<|bf<|be<|ax<|rg aa<|p (bJ ((i+1:Nat):Int) aa aa<|bp ab ab)<|p mv<|nl<|tn<|⟨_,ab,i+1,_,_,ab,bv,bH,(a4.congr aI),bl,aa,aa⟩
 have c4:r.kind=2:=by have h:=hk; dsimp only at h; omega
 refine aQ<|cn<|ag fun b2=>p (cW lS aa (aa) fun q J=>aF.bB q)<|au (str word)<|e<|cl CK (FX r u word aj (C.jw I).2.2.1 (oJ C I).2.1 (oJ C I).2.2.1 ab) aa fun dB bU cN=> ?_;obtain ⟨rfl,al⟩:=cN;have bu:Md (fun k=>k=dm) wB bU:=bv.trans' al fun _ _ h=>h.elim;have bF:Md (fun k=>k=dm) w bU:=bH.trans' al fun _ _ h=>h.elim;have a3:=a4.md al id;have bk:=Wk.aT al bl;refine p mv<|p (xt aa aa)<|p (xt aa aa)<|p aE<|ay<|b2<|az fun b3=>ag fun b4=>p mv<|p (no aa)<|nl<|b4<|cb aa (fun aG=> ?_) fun aG=> ?_;have aI:=IE (xs:=xs) (wd:=wd) (p:=pp) (S:=S) I<|.inr (show gv r word=none by simpa using aG);exact ext<|bf<|be<|ax<|rg aa<|p (bJ ((i+1:Nat):Int) aa aa<|bp ab ab)<|p mv<|nl<|tn<|⟨_,ab,i+1,_,_,ab,bu,bF,(a3.congr aI),bk,aa,aa⟩
 obtain ⟨sm,aR⟩:∃ sm,gv r word=some sm:=nX.1<|by simpa using aG
 have du:=OJ aR;have dr:=(oJ C I).1;have aq:(gv r word).getD []=sm:=by rw [aR]; rfl
 have dt:r.strip.length≤32:=(C.jw I).2.2.1;refine aQ<|b3<|ag fun b5=>au (ak i)<|p (fa mM aa)<|e<|dx gR aa aa (v:=ak i) aa bk (by show 2 < 5; omega) fun dE cL cz=>p (fa mN aa)<|e<|dx gR aa aa (v:= .int .i64<|-1) aa cz (by show 3 < 5; omega) fun av cK cy=> ?_;have bq:av.heap[E]? =some (.cells [str wd,ak G,ak i,.int .i64 (-1),.int .i64 pp].toArray 49 (0,0)):=cy;have aD:=cL.trans cK;have bA:Md (fun k=>k=dm) wB av:=bu.trans' aD fun q J h=>by omega
 have da:Md (fun k=>k=dm) w av:=bF.trans' aD fun q J h=>by omega
 have cG:=a3.md aD fun h=>ae h.symm;refine nl<|b5<|ag fun b6=>au (aV kb)<|p mv<|p (cW oc aa (aa) fun q J=>(o6 bq).bB q)<|e<|cl Cj (Es w0 wB B kb tb U F xs ar cr rn fm dm A C wd ((gv r word).getD []) G (i:Nat) (-1) pp (o8 F xs wd word pp S<|i) av bA cG ab ab aP) aa fun v45 bV bb=> ?_;rw [aq] at bb;obtain ⟨rfl,cC,aC⟩:=bb;have aL:Md (fun k=>k=dm) wB bV:=bA.trans aC;have c8:Md (fun k=>k=dm) w bV:=da.trans aC;have cT:=aC.aT bq ae;obtain ⟨fo,cZ,c0⟩:=A.fO aL;obtain ⟨a0,a1,b0,c1,de⟩:=c0 i ab;have dn:(fO F F.rules.length i).length≤F.rules.length:=by have :=sS (fun q:Nat=>decide (i∈bj F (cw F (q:Int)) 2)) (gX F.rules.length); unfold fO; rw [vR] at this; exact this
 refine nl<|b6<|ag fun b7=>au (aV kb)<|p (nc aa)<|p (fa DB aa)<|p (ld BY aa<|(bg<|A.at aL).trans aa)<|au (ak i)<|p (mQ FO Bj Eg (cZ) aa aa (⟨_,aa⟩)<|c1)<|p (bM mr aa aa)<|p mv<|nl<|b7<|aT<|lp (fun Y aY O=> ∃ (j:Nat) (bY z3:Int),(j≤(fO F F.rules.length i).length)∧(Md (fun k=>k=dm) wB O)∧(Md (fun k=>k=dm) w O)∧(kz O.heap dm<|om F xs wd word sm pp S i<|j)∧(O.heap[E]? =some (.cells [str wd,ak G,.int .i64 bY,.int .i64 z3,.int .i64 pp].toArray 49 (0,0)))∧(bz O b0 3 1 (.slice a0 (fO F F.rules.length i).length a1) (fO F F.rules.length i).length<|(fO F F.rules.length i).map bT)∧(aY 8=str sm)∧(Sl aY [(0,aV kb),(1,str word),(5,aV E),(6,ak i),(21,.slice ar F.rules.length cr),(22,ak (F.rules.length)),(23,ak i),(51,.slice a0 (fO F F.rules.length i).length a1),(52,ak ((fO F F.rules.length i).length)),(53,ak j)])∧((fO F F.rules.length i).length - j=Y)) _ ⟨0,_,_,ab,aL,c8,(cC.congr TT),cT,de,(by first | rfl | exact congrArg str aq),aa,aa⟩ ?_;rintro Y aY O ⟨j,bY,z3,dp,ac,bL,a8,br,aO,di,dh,rfl⟩;refine bG dh<|fx 8 di<|ag fun b8=>p (lt aa aa)<|nl<|b8<|az fun b9=>cd aa (fun c3=> ?_) fun c3=> ?_;refine aQ<|b9<|az fun aZ=>aT<|ag fun ca=>p (bc ke aa aa ab<|aM.ok ((ba aO).2)<|cg ab)<|p (ld bD aa<|aM.gY (i:=j) (ba aO).2<|oB ab)<|ay<|ca<|az fun ce=> ?_;have cY:((fO F F.rules.length i).getD j 0) < F.rules.length:=WK<|eb (d:=0) (show j < (fO F F.rules.length i).length by omega);obtain ⟨rf,ah⟩:∃ r,F.rules[((fO F F.rules.length i).getD j 0)]? =some r:=⟨_,cx cY⟩
 have bO:F.rules.getD ((fO F F.rules.length i).getD j 0) dR=rf:=by rw [cX,ah]; rfl
 obtain ⟨dk,bQ⟩:=A.jw ah;refine rg aa<|au (aV kb)<|p (nc aa)<|p (fa zM aa)<|p (ld np aa<|(bg<|A.at ac).trans aa)<|p mv<|p (bc ny aa aa ab<|aM.ok (A.rules ac)<|oM bQ)<|p (cW lS aa (aa)<|fC (f:=e6) (m:=7) (fun _=>rfl) (A.rules ac) bQ)<|au (str sm)<|e<|cl CK (FX rf dk sm O (C.jw ah).2.2.1 (oJ C ah).2.1 (oJ C ah).2.2.1 ab) aa fun v66 aX cO=> ?_;obtain ⟨rfl,Z⟩:=cO;have bx:Md (fun k=>k=dm) wB aX:=ac.trans' Z fun _ _ h=>h.elim;have bI:Md (fun k=>k=dm) w aX:=bL.trans' Z fun _ _ h=>h.elim;have a5:=a8.md Z id;have aK:=Wk.aT Z br;have bN:=a7 aO Z;refine p mv<|p (xt aa aa)<|p (xt aa aa)<|p aE<|ay<|ce<|az fun cf=>rg aa<|p mv<|nl<|cf<|cb aa (fun aH=> ?_) fun aH=> ?_;obtain ⟨rt,bP⟩:∃ rt,gv rf sm=some rt:=nX.1<|by simpa using aH
 have df:(gv rf sm).getD []=rt:=by rw [bP]; rfl
 have aJ:=TS (xs:=xs) (wd:=wd) (word:=word) (p:=pp) (S:=S) (i:=i) (j:=j)<|by rw [bO]; exact bP
 refine ag fun ch=>p mv<|au (ak i)<|p (fa mM aa)<|e<|dx gR aa aa (v:= .int .i64 ((((fO F F.rules.length i).getD j 0):Nat):Int)) aa aK (by show 2 < 5; omega) fun dC cI cs=>p (fa mN aa)<|e<|dx gR aa aa (v:=ak i) aa cs (by show 3 < 5; omega) fun ai cH cq=> ?_;have bi:ai.heap[E]? =some (.cells [str wd,ak G,.int .i64 ((((fO F F.rules.length i).getD j 0):Nat):Int),ak i,.int .i64 pp].toArray 49 (0,0)):=cq;have ao:=cI.trans cH;have bs:Md (fun k=>k=dm) wB ai:=bx.trans' ao fun q J h=>by omega
 have c6:Md (fun k=>k=dm) w ai:=bI.trans' ao fun q J h=>by omega
 have a2:=a5.md ao fun h=>ae h.symm;have cP:TF aX [51] (fun q=>q=E):=TF.eq (dN aK) aB;have db:=cQ bN ao cP aB;refine nl<|ch<|rg aa<|au (aV kb)<|p mv<|p (cW oc aa (aa) fun q J=>(o6 bi).bB q)<|e<|cl Cj (Es w0 wB B kb tb U F xs ar cr rn fm dm A C wd ((gv rf sm).getD []) G ((((fO F F.rules.length i).getD j 0):Nat):Int) (i:Nat) pp (om F xs wd word sm pp S i<|j) ai bs a2 ab ab aP) aa fun v77 bW bd=> ?_;rw [df] at bd;obtain ⟨rfl,cF,an⟩:=bd;have c5:Md (fun k=>k=dm) wB bW:=bs.trans an;have c9:Md (fun k=>k=dm) w bW:=c6.trans an;have cU:=an.aT bi ae;have cR:TF ai [1] (fun q=>q=dm):=TF.eq (AW a2.choose_spec.1.An.choose_spec.1) aB;have dc:=cQ db an cR aB;exact nl<|bn<|aZ<|rg aa<|p (bJ ((j+1:Nat):Int) aa aa<|bp ab ab)<|p mv<|nl<|tn<|⟨_,ab,j+1,_,_,ab,c5,c9,(cF.congr aJ),cU,dc,(by first | rfl | exact congrArg str aq),aa,aa⟩
 have aJ:=TR (xs:=xs) (wd:=wd) (word:=word) (p:=pp) (S:=S) (i:=i) (j:=j) (show gv (F.rules.getD _ dR) sm=none by rw [bO]; simpa using aH);exact aQ<|bn<|aZ<|rg aa<|p (bJ ((j+1:Nat):Int) aa aa<|bp ab ab)<|p mv<|nl<|tn<|⟨_,ab,j+1,_,_,ab,bx,bI,(a5.congr aJ),aK,bN,(by first | rfl | exact congrArg str aq),aa,aa⟩
 exact ext<|bf<|bf<|be<|bn<|ax<|rg aa<|p (bJ ((i+1:Nat):Int) aa aa<|bp ab ab)<|p mv<|nl<|tn<|⟨_,ab,i+1,_,_,ab,ac,bL,(a8.congr<|by rw [show j=(fO F F.rules.length i).length by omega]; exact TQ I c4 aR),br,aa,aa⟩
 refine ext<|bf<|bf<|be<|f0 aa ?_;obtain rfl :i=F.rules.length:=ab;exact ⟨aa,a6,bE⟩
structure kT (w:World) (B:Nat) (f:Value→Option Value) (Pz:Nat→List Nat):Prop where
 own:∀ z:Nat,bz w B 3 1 ((f<|.int .i64 (z:Nat)).getD<|bW none 0 0) (Pz z).length ((Pz z).map bT)
 sep:∀ (z y k:Nat),z≠y→((f<|.int .i64 (z:Nat)).getD<|bW none 0 0).ownBlock=some k→((f<|.int .i64 (y:Nat)).getD<|bW none 0 0).ownBlock≠some k
theorem kT.md {G:Nat→Prop} {w w':World} {B:Nat} {f:Value→Option Value} {A:Nat→List Nat} (h:kT w B f A) (hm:Md G w w') (C:∀ k,G k→∀ cur z,w.heap[k]?≠some (.cells cur 3 z)):kT w' B f A:=
 ⟨fun z=>dw (h.own z) hm (fun k hk I=>pK (h.own z) hk fun cur y E=>C k I cur y E),h.sep⟩
theorem kT.wk {w w':World} {B:Nat} {f:Value→Option Value} {A:Nat→List Nat} (h:kT w B f A) (hm:Wk w w'):kT w' B f A:=h.md hm fun _ h=>h.elim
theorem kT.congr {w:World} {B:Nat} {f:Value→Option Value} {A C:Nat→List Nat} (h:kT w B f A) (he:∀ z,C z=A z):kT w B f C:=by rw [show C=A from funext he]; exact h
theorem kT.nil (w:World) (B:Nat):kT w B (fun _=>none) (fun _=> []):=⟨fun z=>dK _ _ _ _,fun z y k _ h=>by cases h⟩
theorem Ab {a b:Nat} (h:gP .i64 (a:Nat)= .int .i64 (b:Nat)):a=b:=by injection h with _ h; omega
theorem kT.put {w I ab:World} {B mb z0 i:Nat} {f:Value→Option Value} {C:Nat→List Nat} {v:Value} (h:kT w B f C) (hm:Md (fun k=>((f<|.int .i64 (z0:Nat)).getD<|bW none 0 0).ownBlock=some k) w I)
 (Z:bz I B 3 1 v (C z0++ [i]).length ((C z0++ [i]).map bT)) (O:∀ k,v.ownBlock=some k→((f<|.int .i64 (z0:Nat)).getD<|bW none 0 0).ownBlock=some k∨w.heap.size≤k) (Y:∀ cur z,I.heap[mb]?≠some (.cells cur 3 z)) (V:Md (fun k=>k=mb) I ab):
 kT ab B (bU f (.int .i64 (z0:Nat)) v) (fun z=>if z=z0 then C z++ [i] else C z):=by
 refine ⟨fun z=> ?_,fun z y k G hk=> ?_⟩
 · by_cases A:z=z0
   · subst A;rw [oI,if_pos rfl];exact dw Z V fun k hk E=>pK Z hk fun cur y J=>Y cur y<|E ▸ J
   · rw [mm (fun e=>A<|Ab e),if_neg A];have h1:=dw (h.own z) hm fun k hk E=>h.sep z0 z k (fun e=>A e.symm) E hk;exact dw h1 V fun k hk E=>pK h1 hk fun cur y J=>Y cur y<|E ▸ J
 · by_cases A:z=z0
   · subst A;rw [oI] at hk;rw [mm (fun e=>G (Ab e).symm)];rcases O k hk with h1 | h1
     · exact h.sep z y k G h1
     · exact fun h2=>by have :=(dQ (h.own y) h2).2; omega
   · rw [mm (fun e=>A<|Ab e)] at hk;by_cases aa:y=z0
     · subst aa;rw [oI];intro h2;rcases O k h2 with h1 | h1
       · exact h.sep z y k G hk h1
       · have :=(dQ (h.own z) hk).2; omega
     · rw [mm (fun e=>aa<|Ab e)];exact h.sep z y k G hk
theorem WL (F:aU) (i z:Nat):fO F (i+1) z=fO F i z++(if z∈bj F (cw F (i:Int)) 2 then [i] else []):=by
 unfold fO;rw [List.range_succ,yv];congr 1;by_cases h:z∈bj F (cw F (i:Int)) 2
 · rw [if_pos h,qy,if_pos (decide_eq_true h)]; rfl
 · rw [if_neg h,qy,if_neg (by simpa using h)]; rfl
def pD (F:aU) (i j z:Nat):List Nat:=fO F i z++(if z∈(bj F (cw F (i:Int)) 2).take j then [i] else [])
theorem Xi (F:aU) (i z:Nat):pD F i 0 z=fO F i z:=by unfold pD; rw [mA,if_neg (fun h=>by cases h),eB]
theorem Xg (F:aU) (i z:Nat):fO F (i+1) z=pD F i (bj F (cw F (i:Int)) 2).length z:=by unfold pD; rw [Qk,WL]
theorem Xh {F:aU} {i j:Nat} (C:j < (bj F (cw F (i:Int)) 2).length) (z:Nat):pD F i (j+1) z=if z=(bj F (cw F (i:Int)) 2).getD j 0 then pD F i j z++ [i] else pD F i j z:=by
 unfold pD;have hs:((bj F (cw F (i:Int)) 2).take<|j+1)=(bj F (cw F (i:Int)) 2).take j++ [(bj F (cw F (i:Int)) 2).getD j 0]:=fV _ j 0 C;have E:(bj F (cw F (i:Int)) 2).Nodup:=(EC F _ 2).imp fun h=>ab;have G:(bj F (cw F (i:Int)) 2).getD j 0∉(bj F (cw F (i:Int)) 2).take j:=fun hm=>by
  have h2:=(List.take_sublist (j+1)<|bj F (cw F (i:Int)) 2).nodup E;rw [hs,List.nodup_append] at h2;exact h2.2.2 _ hm _ (iK.2 aa) aa
 rw [hs];by_cases A:z=(bj F (cw F (i:Int)) 2).getD j 0
 · subst A;rw [if_pos rfl,if_pos (yB _<|iK.2 rfl),if_neg G,eB]
 · rw [if_neg A];congr 1;have :z∈(bj F (cw F (i:Int)) 2).take j++ [(bj F (cw F (i:Int)) 2).getD j 0]↔z∈(bj F (cw F (i:Int)) 2).take j:=by
    rw [List.mem_append,iK]; exact ⟨fun h=>h.resolve_right A,.inl⟩
   by_cases hm:z∈(bj F (cw F (i:Int)) 2).take j
   · rw [if_pos hm,if_pos (this.2 hm)]
   · rw [if_neg hm,if_neg (fun h=>hm<|this.1 h)]
theorem abN (B tb:Nat) (U:gJ) (F:aU) (xs:List bC) (w:World) (av:fY w B tb U F xs) (am:eC F xs):
 bm aw 57 (bh [aV tb]) w (fun v w'=> ∃ kb ar cr rn fm dm,v=aV kb∧lk w w' B kb tb U F xs ar cr rn fm dm∧kz w'.heap dm (fun _=>False)∧Wk w w'):=by
 have cs:=am.len;refine enter func57 aa ntmps57 aa<|ag fun bs=>ay<|bs<|ag fun bx=>p mv<|p mv<|p (nc aa)<|p (fa zL aa)<|p (ld gF aa<|(bg av.cells).trans aa)<|e<|cl y8 (yN B U.fb U.mc F U.V w av.fl (by have :=am.len; omega) am.nx) aa fun v12 cB bR=> ?_;obtain ⟨⟨⟨v9,v10,v11,v12,sa,rn⟩,rfl,hax⟩,hE12⟩:=bR;obtain ⟨ar,cr,aR⟩:=cJ hax.dM;have aR:v12=_:=aR;subst aR;have ct:=hE12.size;have cc:rn.length=F.rules.length:=by have :=hax.nx.1; rwa [fP] at this
 have ce:∀ u∈rn,u.oneCell'=true :=fun u hu=>List.all_eq_true.1 (yU hax.nx) u hu;have ca:=hax.dM;refine p (JT JU aa aa)<|e<|tA fun A cC ck a1 bK=> ?_;have cu:=a1.size;refine e<|tA fun G cD cm aJ bN=> ?_;have cv:=aJ.size;refine p (dj (ps:= [(0,aV tb),(1,.slice ar F.rules.length cr),(2,.map (some A)),(3,.map (some G))]) (L:= [aV tb,.slice ar F.rules.length cr,.map (some A),.map (some G)]) acm aa<|aa)<|e<|og aa fun E Y cn ao aY=> ?_;have cx:=ao.size;have aZ:=(a1.md.trans aJ.md).trans ao.md;have aI:=hE12.trans aZ;have bb:Y.heap[A]? =some (.map #[] 0):=Wk.aT (aJ.md.trans ao.md) bK;have b6:Y.heap[G]? =some (.map #[] 0):=Wk.aT ao.md bN;have cb:=a7 ca aZ;refine ay<|bx<|az fun bA=>ag fun bB=>p mv<|p (nc aa)<|p (fa zM aa)<|p (ld np aa<|(bg aY).trans aa)<|p (bM sy aa aa)<|p mv<|nl<|bB<|aT<|lp (fun ae bq J=> ∃ (i:Nat) (f:Value→Option Value),(i≤F.rules.length)∧(Md (fun k=>k=A) Y J)∧(di J.heap A (k5 .i64) f)∧(kT J Y.heap.size f fun z=>fO F i z)∧(J.heap[E]? =some (.cells [aV tb,.slice ar F.rules.length cr,.map (some A),.map (some G)].toArray 132 (0,0)))∧(Sl bq [(0,aV tb),(3,aV E),(22,ak (F.rules.length)),(23,ak i)])∧(F.rules.length - i=ae)) _ ⟨0,_,ab,(Md.refl _ _),(di.nil bb),((kT.nil _ _).congr fun z=>rfl),aY,aa,aa⟩ ?_;rintro ae bq J ⟨i,f,hi,ac,bd,ax,a4,cf,rfl⟩;refine bG cf ?_;have bZ:Wk w J:=aI.trans' ac fun k hk h=>by omega
 refine ag fun bE=>p (lt aa aa)<|nl<|bE<|az fun bF=>cd aa (fun b4=> ?_) fun b4=> ?_;refine aQ<|bF<|az fun aF=>aT<|ag fun bH=>au (ak i)<|p (cE (ak i) aa)<|nl<|bH<|ag fun bI=>au (aV tb)<|au (ak i)<|e<|cl Iu (NM B tb U F xs (i:Nat) J (av.wk bZ) am) aa fun v28 aW bS=> ?_;obtain ⟨aP,ah⟩:=bS;obtain ⟨aG,aH,rfl⟩:=cJ aP;have cy:=ah.size;have cq:=vf F (cw F (i:Int)) 2;refine p (bM mr aa aa)<|p mv<|nl<|bI<|aT<|lp (fun ae br O=> ∃ (j:Nat) (g:Value→Option Value),(j≤(bj F (cw F (i:Int)) 2).length)∧(Md (fun k=>k=A) Y O)∧(di O.heap A (k5 .i64) g)∧(kT O Y.heap.size g fun z=>pD F i j z)∧(O.heap[E]? =some (.cells [aV tb,.slice ar F.rules.length cr,.map (some A),.map (some G)].toArray 132 (0,0)))∧(bz O J.heap.size 3 1 (.slice aG (bj F (cw F (i:Int)) 2).length aH) (bj F (cw F (i:Int)) 2).length<|(bj F (cw F (i:Int)) 2).map bT)∧(∀ (z k:Nat),((g<|ak z).getD<|bW none 0 0).ownBlock=some k→k < J.heap.size∨aW.heap.size≤k)∧(aW.heap.size≤O.heap.size)∧(Sl br [(0,aV tb),(3,aV E),(4,ak i),(22,ak (F.rules.length)),(23,ak i),(28,.slice aG (bj F (cw F (i:Int)) 2).length aH),(29,.int .i64 ((bj F (cw F (i:Int)) 2).length:Nat)),(30,ak j)])∧((bj F (cw F (i:Int)) 2).length - j=ae)) _ ⟨0,f,ab,(ac.trans' ah fun _ _ h=>h.elim),(bd.wk ah),((ax.wk ah).congr fun z=>Xi F i z),(Wk.aT ah a4),aP,(fun z k hk=> .inl (dQ (ax.own z) hk).2),(cU _),aa,aa⟩ ?_;rintro ae br O ⟨j,g,cp,aO,aC,Z,aK,aD,aN,ci,ch,rfl⟩;refine bG ch<|ag fun bt=>p (lt aa aa)<|nl<|bt<|az fun bu=>cd aa (fun b5=> ?_) fun b5=> ?_;refine aQ<|bu<|az fun bv=>aT<|ag fun bw=>p (bc ke aa aa ab<|aM.ok ((ba aD).2)<|cg ab)<|p (ld bD aa<|aM.gY (i:=j) (ba aD).2<|oB ab)<|ay<|bw ?_;have a9:(pD F i j<|(bj F (cw F (i:Int)) 2).getD j 0).length≤F.rules.length+1:=by
  have :=sS (fun q:Nat=>decide (((bj F (cw F (i:Int)) 2).getD j 0)∈bj F (cw F (q:Int)) 2))<|gX i;unfold pD fO; rw [bL]; rw [vR] at this; split <;> simp only [fu,gB] <;> omega
 have C:(fun w'=>w'.heap[E]? =some (.cells [aV tb,.slice ar F.rules.length cr,.map (some A),.map (some G)].toArray 132 (0,0))∧di w'.heap A (k5 .i64) g) O.drew:=⟨aK,aC⟩
 refine e5 (fun w'=>w'.heap[E]? =some (.cells [aV tb,.slice ar F.rules.length cr,.map (some A),.map (some G)].toArray 132 (0,0))∧di w'.heap A (k5 .i64) g) 14 aa wide C<|eJ 0 aa (aX (aV E) aa) C<|eJ 1 aa (nc aa) C<|eJ 2 aa (fa DB aa) C<|lq 3 aa aj (fun w' al=>ld BY aa<|(bg al.1).trans aa) C<|eJ 4 aa (mv) C<|eJ 5 aa (aX (aV E) aa) C<|eJ 6 aa (nc aa) C<|eJ 7 aa (fa DB aa) C<|lq 8 aa aj (fun w' al=>ld BY aa<|(bg al.1).trans aa) C<|eJ 9 aa (mv) C<|lq 10 aa aj (fun w' al=>mQ FO Bj Eg (al.2) aa aa (⟨_,aa⟩)<|aa) C<|eJ 11 aa (aX (ak i) aa) C<|gS 12 aa aj<|gz lG aa aa fun cj bl co aq bO=> ?_;have cz:=aq.size;have I:Wk O bl:=(Md.refl _ O).drew.trans aq.md;have bV:(fun w'=>w'.heap[E]? =some (.cells [aV tb,.slice ar F.rules.length cr,.map (some A),.map (some G)].toArray 132 (0,0))∧di w'.heap A (k5 .i64) g) bl:=⟨Wk.aT aq.md C.1,C.2.wk aq.md⟩
 refine ⟨bV,?_⟩;refine gS 13 aa aj<|ap lG (a7 (Z.own<|(bj F (cw F (i:Int)) 2).getD j 0) I) aa (by have :=I.size; have :=aO.size; omega) aa (aM.ec bO) (aa) (aa) (by have :=a9; omega) (by have :=a9; omega) fun aS aE b8 ai cA a8=> ?_;have a3:aE.heap[E]? =some (.cells [aV tb,.slice ar F.rules.length cr,.map (some A),.map (some G)].toArray 132 (0,0)):=ai.iT (TF.own (L:= [5]) (a7 (Z.own<|(bj F (cw F (i:Int)) 2).getD j 0) I) aB) (Wk.aT I aK) aB;have aA:di aE.heap A (k5 .i64) g:=(aC.wk I).md ai fun hk=>pK (a7 (Z.own<|(bj F (cw F (i:Int)) 2).getD j 0) I) hk fun cur z aL=>(aC.wk I).pI aL;have bX:(fun w'=>w'.heap[E]? =some (.cells [aV tb,.slice ar F.rules.length cr,.map (some A),.map (some G)].toArray 132 (0,0))∧di w'.heap A (k5 .i64) g) aE:=⟨a3,aA⟩
 refine ⟨bX,?_⟩;refine dU 14 aa aj aj<|tK FO Eg (aA) aa aa aa (⟨_,aa⟩) fun bo an bQ=> ?_;have a0:Md (fun k=>k=A∨((g<|.int .i64 ((((bj F (cw F (i:Int)) 2).getD j 0):Nat):Int)).getD<|bW none 0 0).ownBlock=some k) O bo:=((I.mono fun _ _ h=>h.elim).trans<|ai.mono fun k _ h=> .inr h).trans<|an.mono fun k _ h=> .inl h;have b2:=Z.own<|(bj F (cw F (i:Int)) 2).getD j 0;have bP:Md (fun k=>k=A) Y bo:=aO.trans' a0 fun k hk h=>h.elim id fun h2=>by have :=(dQ b2 h2).1; omega
 have b3:=kT.put (i:=i) (Z.wk I) ai (by rw [bL,gW]; exact b8) a8 (fun cur z aL=>aA.pI aL) an;have a2:TF aE [1] (fun k=>k=A):=TF.eq (AW aA.choose_spec.1) aB;have b0:=an.iT a2 a3 aB;have b7:∀ k,(bW aG (bj F (cw F (i:Int)) 2).length aH).ownBlock=some k→((g<|.int .i64 ((((bj F (cw F (i:Int)) 2).getD j 0):Nat):Int)).getD<|bW none 0 0).ownBlock≠some k:=fun k hk h2=>by
  have h3:=dQ aD hk;have h4:=dQ aP hk;have h5:=aN _ k h2;omega
 have b9:=cQ (dw (a7 aD I) ai fun k hk h2=>b7 k hk h2) an a2 aB;have b1:∀ (z k:Nat),((bU g (.int .i64 ((((bj F (cw F (i:Int)) 2).getD j 0):Nat):Int)) aS<|ak z).getD<|bW none 0 0).ownBlock=some k→k < J.heap.size∨aW.heap.size≤k:=fun z k hk=>by
  by_cases bk:(gP .i64 (z:Nat))=(.int .i64 ((((bj F (cw F (i:Int)) 2).getD j 0):Nat):Int))
  have hk:((bU g (.int .i64 ((((bj F (cw F (i:Int)) 2).getD j 0):Nat):Int)) aS<|.int .i64 ((((bj F (cw F (i:Int)) 2).getD j 0):Nat):Int)).getD<|bW none 0 0).ownBlock=some k:=(congrArg (fun q=>((bU g (.int .i64 ((((bj F (cw F (i:Int)) 2).getD j 0):Nat):Int)) aS q).getD<|bW none 0 0).ownBlock) bk).symm.trans hk;rw [oI] at hk;rcases a8 k hk with h1 | h1;exact aN _ k h1;have :=I.size; have :=ci; exact .inr ab;rw [mm bk] at hk; exact aN z k hk
 exact eZ aj<|bn<|bv<|rg aa<|p (bJ ((j+1:Nat):Int) aa aa<|bp ab ab)<|p mv<|nl<|tn<|⟨_,ab,j+1,_,ab,bP,bQ,(b3.congr fun z=>Xh ab z),b0,b9,b1,(by have :=a0.size; omega),aa,aa⟩
 exact ext<|bf<|bf<|be<|bn<|aF<|rg aa<|p (bJ ((i+1:Nat):Int) aa aa<|bp ab ab)<|p mv<|nl<|tn<|⟨_,ab,i+1,_,ab,aO,aC,(Z.congr fun z=>by rw [show j=(bj F (cw F (i:Int)) 2).length by omega]; exact Xg F i z),aK,aa,aa⟩
 refine ext<|bf<|bf<|be<|bA<|ag fun aF=>au (aV E)<|p (cE (aV E) aa)<|nl<|aF<|rt<|a6 aa ?_;obtain rfl :i=F.rules.length:=ab;have bY:TF Y [1] (fun k=>k=A):=TF.eq (by unfold tag; rw [bb]) aB;have bi:G≠A:=ab;have a5:J.heap[G]? =some (.map #[] 0):=ac.aT b6 bi;exact ⟨E,ar,cr,rn,A,G,aa,⟨av,aI.trans' ac (fun k hk h=>by omega),ab,a4,⟨_,cQ cb ac bY aB⟩,cc,ce,⟨f,bd,fun z _=>by obtain ⟨a,c,h1⟩:=cJ (ax.own z); exact ⟨a,c,_,h1,h1 ▸ ax.own z⟩⟩,fun h=>bi h.symm,⟨_,_,a5⟩⟩,⟨_,lQ.nil a5,fun d=>⟨(fun h=>by cases h),fun h=>h.elim⟩,fun k v h=>by cases h⟩,aI.trans' ac fun k hk h=>by omega⟩
end Go.Hb
end
section
namespace Go.Hb.uo
def jR (a b:Int):Int:=if a < b then -1 else if a > b then 1 else 0
def mT:List Int→Int
 | []=>0
 | x::l=>if x≠0 then x else mT l
def qk (a b:bK):Int:=mT [jR a.eM b.eM,jR a.fst b.fst,jR a.snd b.snd,jR a.pre b.pre]
def lE (a b:bK):Prop :=(a.eM:Int) < b.eM∨((a.eM:Int)=b.eM∧(a.fst < b.fst∨(a.fst=b.fst∧(a.snd < b.snd∨(a.snd=b.snd∧a.pre < b.pre)))))
theorem UH (a b:Int):jR a b < 0↔a < b:=by
 unfold jR
 repeat' split
 all_goals omega
theorem UG (a b:Int):jR a b=0↔a=b:=by
 unfold jR
 repeat' split
 all_goals omega
theorem aaw {x:Int} {l:List Int} (h:x≠0):mT (x::l)=x:=if_pos h
theorem aav {x:Int} {l:List Int} (h:¬x≠0):mT (x::l)=mT l:=if_neg h
theorem aau (x:Int) (l:List Int):mT (x::l) < 0↔(x < 0∨(x=0∧mT l < 0)):=by show (if x≠0 then x else mT l) < 0↔_; split <;> omega
theorem aax (a b:bK):qk a b < 0↔lE a b:=by
 have A:¬mT [] < 0:=by unfold mT; omega
 unfold qk lE;simp only [aau,UH,UG,A,and_false,or_false]
instance aeb:Inhabited bK:=⟨⟨[],0,0,0,0⟩⟩
theorem Ml (a b:bK):yo qk a b=true↔lE a b:=by unfold yo; rw [decide_eq_true_iff]; exact aax a b
theorem Et (a b:bK):yo qk a b=false↔¬lE a b:=by rw [← Ml]; cases yo qk a b <;> simp
theorem acJ:Go.Sort.SWO (yo qk) where
 irrefl x:=by rw [Et]; unfold lE; omega
 trans x y z h1 h2:=by rw [Ml] at*; unfold lE at*; omega
 ntrans x y z h1 h2:=by rw [Et] at*; unfold lE at*; omega
def abb:Go.Shelf.Ren:=⟨fun n=>if n=6 then 60 else if n=14 then 105 else if n=15 then 66 else if n=20 then 169 else if n=21 then 170 else if n=22 then 171 else if n=23 then 172 else if n=24 then 173 else if n=25 then 174 else if n=26 then 175 else if n=27 then 176 else if n=28 then 123 else if n=29 then 124 else if n=46 then 222 else if n=47 then 184 else if n=48 then 185 else if n=49 then 223 else if n=50 then 224 else if n=57 then 260 else 0,fun n=>if n=0 then 0 else if n=3 then 3 else if n=4 then 4 else if n=5 then 5 else if n=9 then 9 else if n=22 then 29 else if n=25 then 137 else if n=39 then 145 else if n=45 then 232 else if n=46 then 233 else if n=50 then 237 else if n=53 then 240 else if n=55 then 242 else if n=66 then 287 else if n=70 then 291 else if n=76 then 335 else if n=77 then 219 else if n=24 then 49 else 0,fun n=>n⟩
theorem L8:ad5 aw abb where
 mixed:=aj
 f6:= .intro "slices.SortFunc[[]hornbook/api.Derived,hornbook/api.Derived]" ⟨aj,aj⟩
 f14:= .intro "slices.pdqsortCmpFunc[hornbook/api.Derived]" ⟨aj,aj⟩
 f15:=aj
 f20:= .intro "slices.insertionSortCmpFunc[hornbook/api.Derived]" ⟨aj,aj⟩
 f21:= .intro "slices.heapSortCmpFunc[hornbook/api.Derived]" ⟨aj,aj⟩
 f22:= .intro "slices.breakPatternsCmpFunc[hornbook/api.Derived]" ⟨aj,aj⟩
 f23:= .intro "slices.choosePivotCmpFunc[hornbook/api.Derived]" ⟨aj,aj⟩
 f24:= .intro "slices.reverseRangeCmpFunc[hornbook/api.Derived]" ⟨aj,aj⟩
 f25:= .intro "slices.partialInsertionSortCmpFunc[hornbook/api.Derived]" ⟨aj,aj⟩
 f26:= .intro "slices.partitionEqualCmpFunc[hornbook/api.Derived]" ⟨aj,aj⟩
 f27:= .intro "slices.partitionCmpFunc[hornbook/api.Derived]" ⟨aj,aj⟩
 f28:=aj
 f29:=aj
 f46:= .intro "slices.siftDownCmpFunc[hornbook/api.Derived]" ⟨aj,aj⟩
 f47:=aj
 f48:=aj
 f49:= .intro "slices.medianAdjacentCmpFunc[hornbook/api.Derived]" ⟨aj,aj⟩
 f50:= .intro "slices.medianCmpFunc[hornbook/api.Derived]" ⟨aj,aj⟩
 f57:= .intro "slices.order2CmpFunc[hornbook/api.Derived]" ⟨aj,aj⟩
 t0:=aj
 a0:=fun _=>aj
 z0:=fun _=>aj
 v0:=fun _=>aj
 t3:=aj
 a3:=fun _=>aj
 z3:=fun _=>aj
 v3:=fun _=>aj
 t4:=aj
 a4:=fun _=>aj
 z4:=fun _=>aj
 v4:=fun _=>aj
 t5:=aj
 a5:=fun _=>aj
 z5:=fun _=>aj
 v5:=fun _=>aj
 t9:=aj
 a9:=fun _=>aj
 z9:=fun _=>aj
 v9:=fun _=>aj
 t22:=aj
 a22:=fun _=>aj
 z22:=fun _=>aj
 v22:=fun _=>aj
 t25:=aj
 a25:=fun _=>aj
 z25:=fun _=>aj
 v25:=fun _=>aj
 t39:=aj
 a39:=fun _=>aj
 z39:=fun _=>aj
 v39:=fun _=>aj
 t45:=aj
 a45:=fun _=>aj
 z45:=fun _=>aj
 v45:=fun _=>aj
 t46:=aj
 a46:=fun _=>aj
 z46:=fun _=>aj
 v46:=fun _=>aj
 t50:=aj
 a50:=fun _=>aj
 z50:=fun _=>aj
 v50:=fun _=>aj
 t53:=aj
 a53:=fun _=>aj
 z53:=fun _=>aj
 v53:=fun _=>aj
 t55:=aj
 a55:=fun _=>aj
 z55:=fun _=>aj
 v55:=fun _=>aj
 t66:=aj
 a66:=fun _=>aj
 z66:=fun _=>aj
 v66:=fun _=>aj
 t70:=aj
 a70:=fun _=>aj
 z70:=fun _=>aj
 v70:=fun _=>aj
 t76:=aj
 a76:=fun _=>aj
 z76:=fun _=>aj
 v76:=fun _=>aj
 t77:=aj
 a77:=fun _=>aj
 z77:=fun _=>aj
 v77:=fun _=>aj
section
open Go.Sort Go.ChangeShapes Go.WideShapes
variable {w:World} {g n:Nat} {os:Array Obj} {cur:Array Value} {e:TypeId}
theorem Yq {L:List Value} (A:w.heap[g]? =some (.cells cur e (0,0))) (G:cur.toList.take L.length=L):Holds id w g 0 L.toArray:=by
 intro j E;have C:j < L.length:=by simpa using E
 refine ⟨?_,by simp [World.frozen?,A]⟩;have h1:(cur.toList.take L.length)[j]? =L[j]? :=by rw [G]
 rw [P5 C] at h1;simp only [World.cell?,A,Nat.zero_add];simp only [Option.isSome_none,Bool.false_eq_true,if_false];rw [← yd,h1];simp [C]
theorem Yn (d:Array Value) (A:w.heap[g]? =some (.cells cur e (0,0))):(grow (putRow id (yp w n) g 0 d) os).heap[g]? =some (.cells (putCells id 0 d cur) e (0,0)):=by
 have C:g < w.heap.size:=(dO.1 A).1;rw [heap_grow_old _ _ (by simpa using C)];simp [putRow,mapBlock,yp,Pc,A,onCells]
theorem XN (d:Array Value):w.grownBy (grow (putRow id (yp w n) g 0 d) os) (some g):=by
 refine ⟨aa,aa,aa,by simp,fun k hk A=> ?_⟩;rw [heap_grow_old _ _ (by simpa using hk)];have :g≠k:=fun e=>A<|by rw [e]
 simp [putRow,mapBlock,yp,Pc,this]
theorem acP (cur:Array Value) (L:List Value) (h:L.length≤cur.size):(putCells id 0 L.toArray cur).toList.take L.length=L:=by
 apply List.ext_getElem?;intro j;by_cases A:j < L.length
 · rw [P5 A,yd];simp [putCells,A,show j < cur.size by omega]
 · rw [List.getElem?_take_eq_none ab,List.getElem?_eq_none ab]
theorem Ky (L:List bK):flatK dJ 5 L.toArray=(eG L).toArray:=by
 have E:(eG L).length=L.length*5:=mL (f:=dJ) (m:=5) (fun _=>rfl) L;apply Array.ext_getElem?;intro t;by_cases A:t < L.length*5
 · have C:t / 5 < L.length:=ab;have h1:(eG L)[t]? =(dJ L[t / 5])[t % 5]? :=by
    have :=zE (f:=dJ) (m:=5) (fun _=>rfl) (cx C) (show t % 5 < 5 by omega);rwa [show t / 5 *5 +t % 5=t by omega] at this
   have h2:=get_flatK dJ 5 L.toArray t<|by simpa using A
   have h3:(flatK dJ 5 L.toArray)[t]? =some (flatK dJ 5 L.toArray)[t]! :=by
    rw [Array.getElem?_eq_getElem (by simpa using A),getElem!_pos _ _ (by simpa using A)]
   rw [h3,h2,List.getElem?_toArray,h1,show L.toArray[t / 5]! =L[t / 5] by simp [C]];rw [cx (show t % 5 < (dJ L[t / 5]).length by show t % 5 < 5; omega),getElem!_pos (dJ L[t / 5]) (t % 5) (show t % 5 < (dJ L[t / 5]).length by show t % 5 < 5; omega)]
 · rw [sH (by simp; omega),sH (by simp; omega)]
end
theorem LP (a:Int) (w:World):
 bm aw 177 (bh [.int .i64 a]) w (fun v w'=>v= .bool false∧w'=w):=by
 exact enter func177 aa ntmps177 aa<|ag fun A=>ay<|A<|ag fun C=>au (.int .i64 a)<|au (.int .i64 a)<|p (dd aa aa)<|ay<|C<|rt<|a6 aa<|⟨congrArg ca (decide_eq_false fun h=>h aa),aa⟩
theorem zg (a b:Int) (w:World):
 bm aw 107 (bh [.int .i64 a,.int .i64 b]) w (fun v w'=>v= .int .i64 (jR a b)∧w'=w):=by
 refine enter func107 aa ntmps107 aa<|ag fun E=>ay<|E<|ag fun I=>au (.int .i64 a)<|e<|cl HV (LP a w) aa fun aj ai ah=> ?_;obtain ⟨rfl,rfl⟩:=ah;refine ay<|I<|ag fun J=>au (.int .i64 b)<|e<|cl HV (LP b ai) aa fun v10 ak ae=> ?_;obtain ⟨rfl,rfl⟩:=ae;refine ay<|J<|az fun O=>ag fun V=>p mv<|nl<|V<|cf aa<|aQ<|O<|az fun Y=>ag fun Z=>p mv ?_;refine nl<|Z<|cf aa<|aQ<|Y<|az fun ab=>ag fun ac=>au (.int .i64 a)<|au (.int .i64 b)<|p (lt aa aa)<|nl<|ac<|cd aa (fun h1=> ?_) fun h1=> ?_;exact ag fun A=>ay<|A<|rt<|tr<|a6 aa<|⟨congrArg (gP .i64) (show (-1:Int)=jR a b by unfold jR; rw [if_pos h1]),aa⟩
 refine aQ<|ab<|az fun A=>ag fun G=>au (.int .i64 a)<|au (.int .i64 b)<|p (gt aa aa)<|nl<|G<|cd aa (fun h2=> ?_) fun h2=> ?_;exact ag fun C=>ay<|C<|rt<|tr<|a6 aa<|⟨congrArg (gP .i64) (show (1:Int)=jR a b by unfold jR; rw [if_neg h1,if_pos h2]),aa⟩
 exact aQ<|A<|ag fun C=>ay<|C<|rt<|a6 aa<|⟨congrArg (gP .i64) (show (0:Int)=jR a b by unfold jR; rw [if_neg h1,if_neg h2]),aa⟩
theorem aat (l:List Int) (a:Option Addr) (c:Nat) (w:World) (I:aM w.heap a (l.map<|gP .i64)) (aq:l.length≤1000):
 bm aw 106 (bh [.slice a l.length c]) w (fun v w'=>v= .int .i64 (mT l)∧w'=w):=by
 refine enter func106 aa ntmps106 aa<|ag fun Y=>ay<|Y<|ag fun ac=>p aE<|nl<|ac<|az fun ae=>ag fun ah=>au (.slice a l.length c)<|p (bM mr aa aa)<|p mv<|nl<|ah<|aT<|lp (fun G V O=> ∃ (i:Nat),(i≤l.length)∧(mT (l.drop i)=mT l)∧(O=w)∧(Sl V [(3,.int .i64 0),(6,.slice a l.length c),(7,ak (l.length)),(8,ak i)])∧(l.length - i=G)) _ ⟨0,ab,aa,aa,aa,aa⟩ ?_;rintro G V O ⟨i,hi,A,an,ap,rfl⟩;refine bG ap ?_;subst an;refine ag fun ai=>p (lt aa aa)<|nl<|ai<|az fun aj=>cd aa (fun ao=> ?_) fun ao=> ?_;refine aQ<|aj<|az fun C=>aT<|az fun al=> ?_;have J:l.drop i=l.getD i 0::l.drop (i+1):=by rw [List.drop_eq_getElem_cons (show i < l.length by omega),cX,cx (show i < l.length by omega)]; rfl
 refine rg aa<|p (bc ke aa aa ab<|aM.ok (I)<|cg ab)<|p (ld bD aa<|aM.gY I (show (l.map<|gP .i64)[i]? =some (.int .i64<|l.getD i 0) by rw [List.getElem?_map,cX,cx (by omega :i < l.length)]; rfl)) ?_;refine ay<|al<|ag fun am=>p mv<|au (.int .i64 0)<|p (dd aa aa)<|nl<|am<|cd aa (fun E=> ?_) fun E=> ?_;exact ag fun Z=>p mv<|ay<|Z<|rt<|br<|tr<|tr<|br<|tr<|a6 aa<|⟨congrArg (gP .i64) (show l.getD i 0=mT l by rw [← A,J,aaw E]),aa⟩
 exact aQ<|bn<|C<|rg aa<|p (bJ ((i+1:Nat):Int) aa aa<|bp ab ab)<|p mv<|nl<|tn<|⟨_,ab,i+1,ab,(by rw [← A,J,aav E]),aa,aa,aa⟩
 refine ext<|bf<|bf<|be<|ae<|ag fun C=>au (.int .i64 0)<|p (cE (.int .i64 0) aa)<|nl<|C<|rt<|a6 aa ?_;rw [List.drop_eq_nil_of_le ab] at A;exact ⟨by rw [← A]; rfl,aa⟩
def mE (w w':World):Prop := ∃ q os,w'=PG (w.drewN q) os
theorem mE.refl (w:World):mE w w:=⟨0,#[],by simp [World.drewN]⟩
theorem mE.nw {w A C:World} (h:mE w A) (hn:Nw A C):mE w C:=by
 obtain ⟨q,os,rfl⟩:=h;obtain ⟨o,rfl⟩:=hn.one;exact ⟨q,os.push o,by simp [PG]⟩
theorem mE.drew {w A:World} (h:mE w A):mE w A.drew:=by
 obtain ⟨q,os,rfl⟩:=h;exact ⟨q+1,os,aa⟩
theorem aaz (a b:bK) (w:World):
 bm aw 61 (bh [.agg (dJ a).toArray,.agg (dJ b).toArray]) w (fun v w'=>v= .int .i64 (qk a b)∧mE w w'):=by
 refine enter func61 aa ntmps61 aa<|ag fun av=>e<|ib aa fun aA aV G aO aD=> ?_;have G:bS aV.heap aA (dJ a):=aD;refine e<|ib aa fun aC E I Z aG=> ?_;have I:bS E.heap aC (dJ b):=aG;have G:=Wk.B Z.md G;have aL:=((mE.refl w).nw aO).nw Z;refine ay<|av<|az fun ax=> ?_;have A:(fun w'=>Wk E w') E.drew:=(Md.refl _ _).drew;refine bY (fun w'=>Wk E w') aa wide A<|aR 0 aa (fa qd aa) A<|bR 1 aa (fun w' C=>ld bD aa<|Wk.aW C<|G.bB 1) A<|aR 2 aa (fa qd aa) A<|bR 3 aa (fun w' C=>ld bD aa<|Wk.aW C<|I.bB 1) A<|aR 5 aa (fa mM aa) A<|bR 6 aa (fun w' C=>ld bD aa<|Wk.aW C<|G.bB 2) A<|aR 7 aa (fa mM aa) A<|bR 8 aa (fun w' C=>ld bD aa<|Wk.aW C<|I.bB 2) A<|aR 10 aa (fa mN aa) A<|bR 11 aa (fun w' C=>ld bD aa<|Wk.aW C<|G.bB 3) A<|aR 12 aa (fa mN aa) A<|bR 13 aa (fun w' C=>ld bD aa<|Wk.aW C<|I.bB 3) A<|aR 15 aa (fa qe aa) A<|bR 16 aa (fun w' C=>ld bD aa<|Wk.aW C<|G.bB 4) A<|aR 17 aa (fa qe aa) A<|bR 18 aa (fun w' C=>ld bD aa<|Wk.aW C<|I.bB 4) A<|he 4 aa aj<|cl yY (zg (a.eM:Nat) (b.eM:Nat) E.drew) aa fun v9 V aU=> ?_;obtain ⟨rfl,ap⟩:=aU;have aN:mE w V:=ap ▸ aL.drew;have ai:(fun w'=>Wk E w') V:=ap ▸ A;refine ⟨ai,?_⟩;refine he 9 aa aj<|cl yY (zg a.fst b.fst V) aa fun aZ J aP=> ?_;obtain ⟨rfl,al⟩:=aP;have aH:mE w J:=al ▸ aN;have ak:(fun w'=>Wk E w') J:=al ▸ ai;refine ⟨ak,?_⟩;refine he 14 aa aj<|cl yY (zg a.snd b.snd J) aa fun a0 O aQ=> ?_;obtain ⟨rfl,am⟩:=aQ;have aI:mE w O:=am ▸ aH;have ab:(fun w'=>Wk E w') O:=am ▸ ak;refine ⟨ab,?_⟩;refine he 19 aa aj<|cl yY (zg a.pre b.pre O) aa fun v24 aq aS=> ?_;obtain ⟨rfl,an⟩:=aS;have aJ:mE w aq:=an ▸ aI;have ac:(fun w'=>Wk E w') aq:=an ▸ ab;refine ⟨ac,?_⟩;refine he 20 aa aj<|tc (L:= [.int .i64 (jR (a.eM:Nat) (b.eM:Nat)),.int .i64 (jR a.fst b.fst),.int .i64 (jR a.snd b.snd),.int .i64 (jR a.pre b.pre)]) lG aa aa aa aa fun aB au aY Y aF=> ?_;have aK:=aJ.nw Y;have ae:(fun w'=>Wk E w') au:=ac.trans Y.md;refine ⟨ae,?_⟩;refine he 21 aa aj<|cl RG (aat [jR (a.eM:Nat) (b.eM:Nat),jR a.fst b.fst,jR a.snd b.snd,jR a.pre b.pre] (some ⟨aB,0,none⟩) 4 au (aM.ec ⟨_,aF⟩)<|by show 4≤1000; omega) aa fun v26 aX aT=> ?_;obtain ⟨rfl,ao⟩:=aT;have ah:(fun w'=>Wk E w') aX:=ao ▸ ae;refine ⟨ah,?_⟩;exact aR 22 aa (aE) ah<|hn aj<|ax<|rt<|a6 aa<|⟨aa,ao ▸ aK⟩
section
open Go.Sort Go.ChangeShapes Go.WideShapes
theorem UF (aT size:Nat) (w:World):CmpLays aw 61 #[] dJ 5 qk aT 0 size w:=by
 intro m os A _ x y;refine mu (aaz x y<|sortWorldK dJ 5 w aT 0 m A os) ?_;rintro e w' ⟨v,rfl,rfl,h⟩;exact ⟨aa,h⟩
theorem Fy (L:List bK) (h:SortedIn (ltOf qk) 0 L.toArray.size L.toArray):L.Pairwise fun a b=> ¬lE b a:=by
 rw [List.pairwise_iff_getElem];intro i j hi A C;have :=h i j (hZ _) C<|by simpa using A
 rw [Et] at this;simpa [hi,A] using this
theorem ab8 (B n:Nat) (v:Value) (L:List bK) (w:World) (O:bz w B 49 5 v n (eG L)) (J:L.length=n) (hn:n < 4611686018427387904):
 bm aw 60 [v,.func (.func 61) #[] #[]].toArray w (fun ai w'=>ai= .tuple #[]∧∃ A:List bK,A.Perm L∧(A.Pairwise fun a b=> ¬lE b a)∧bz w' B 49 5 v n (eG A)∧Md (fun k=>v.ownBlock=some k) w w'):=by
 rcases O.2 with ⟨rfl,aj⟩ | ⟨g,cap,cur,rfl,V,G,h1,h2,h3,h4⟩
 · subst J;have ah:L= []:=fR ab;subst ah;refine mu (AnyF.slices_SortFunc_none L8 none 0 _ w) ?_;rintro e w' ⟨rfl,rfl⟩;exact ⟨_,aa,aa,[],PR _,List.Pairwise.nil,O,Md.refl _ _⟩
 · subst J;have ac:(eG L).length=L.length*5:=mL (f:=dJ) (m:=5) (fun _=>rfl) L;have hH:HoldsK dJ 5 w g 0 L.toArray:=by
    show Holds id w g 0 (flatK dJ 5 L.toArray);rw [Ky];exact Yq G<|by rw [ac]; exact h4
   refine mu (AnyQ.slices_SortFunc L8 5 (fun _=>by kernel_rfl) (fun _=>by kernel_rfl) dJ (fun _=>rfl) (fun x u hu=> ?_) qk acJ 61 #[] g 0 cap L.toArray w (fun args w=> ?_) (UF g _ w) hH (dO.1 G).1 (by simpa using hn)) ?_
   · simp only [dJ,fG,List.not_mem_nil,or_false] at hu;rcases hu with rfl | rfl | rfl | rfl | rfl <;> rfl
   · exact Tr args w
   · rintro e w' ⟨rfl,d',m,os,hp,hs,rfl⟩;obtain ⟨A,rfl⟩:∃ A:List bK,d'=A.toArray:=⟨d'.toList,by simp⟩
     have E:A.length=L.length:=by simpa using hp.1
     have ag:A.Perm L:=by
      have :=hp.2.2;have Y:List.take L.length A=A:=e9 ab;have Z:List.take A.length L=L:=e9 ab;simpa [Y,Z] using this
     have hw:sortWorldK dJ 5 w g 0 m A.toArray os=grow (putRow id (yp w m) g 0 (eG A).toArray) os:=by
      unfold sortWorldK putRowK; rw [Ky]
     rw [hw];have I:(eG A).length=A.length*5:=mL (f:=dJ) (m:=5) (fun _=>rfl) A;have C:=XN (w:=w) (g:=g) (n:=m) (os:=os) (eG A).toArray;refine ⟨_,aa,aa,A,ag,Fy A (by rw [show A.toArray.size=L.toArray.size by simpa using E]; exact hs),⟨by rw [I,E],.inr ⟨g,cap,_,aa,V,Yn _ G,h1,h2,by simp [putCells,h3],?_⟩⟩,⟨C.os,C.output,C.size,fun k hk ae=>C.block k hk fun he=>ae ?_⟩⟩
     · rw [← E,← I];exact acP cur (eG A)<|by rw [I,E]; omega
     · simp only [jN]; exact he.symm
end
end Go.Hb.uo
end
section
namespace Go.Hb
open Go.Hb.uo
noncomputable def iz (F:aU) (xs:List bC) (w:Tx):List bK:=(kE F xs xs.length).filter fun d=>decide (d.e7=w)
section
variable {F:aU} {xs:List bC} {wd:Tx} {i:Nat}
theorem abQ (d:bK):pL F xs wd 0 d↔(False∨pc F xs wd wd (-1) F.rules.length d):=by
 unfold pL;exact ⟨fun h=> .inr (h.resolve_right fun ⟨i,_,h,_⟩=>by omega),fun h=> .inl<|h.resolve_left id⟩
theorem NK {r:c7} (E:F.rules[i]? =some r) (h:r.kind≠1∨gv r wd=none) (d:bK):pL F xs wd (i+1) d↔pL F xs wd i d:=by
 unfold pL;constructor
 · rintro (h1 | ⟨k,C,hk,A,h2,st,h3,h4⟩)
   · exact .inl h1
   · rcases pX.1 hk with hk | rfl
     · exact .inr ⟨k,C,hk,A,h2,st,h3,h4⟩
     · rw [E] at A; cases A;rcases h with h | h
       · exact absurd h2 h
       · rw [h] at h3; cases h3
 · rintro (h1 | ⟨k,C,hk,h2⟩)
   · exact .inl h1
   · exact .inr ⟨k,C,ab,h2⟩
theorem abP {r:c7} {rest:Tx} (G:F.rules[i]? =some r) (hk:r.kind=1) (hu:gv r wd=some rest) (d:bK):pL F xs wd (i+1) d↔(pL F xs wd i d∨pc F xs wd rest (i:Nat) F.rules.length d):=by
 unfold pL;constructor
 · rintro (h1 | ⟨k,E,A,C,h2,st,h3,h4⟩)
   · exact .inl<|.inl h1
   · rcases pX.1 A with A | rfl
     · exact .inl<|.inr ⟨k,E,A,C,h2,st,h3,h4⟩
     · rw [G] at C; cases C;rw [hu] at h3; cases h3;exact .inr h4
 · rintro ((h1 | ⟨k,E,A,h2⟩) | h1)
   · exact .inl h1
   · exact .inr ⟨k,E,ab,h2⟩
   · exact .inr ⟨i,r,ab,G,hk,rest,hu,h1⟩
end
theorem Oz {α:Type} (p q:α→Bool) (h:∀ x,p x=true→q x=false):∀ l:List α,(l.filter p).length+(l.filter q).length≤l.length
 | []=>cU _
 | x::l=>by
   have A:=Oz p q h l;rw [qy,qy,cV];by_cases hp:p x=true
   · rw [if_pos hp,if_neg (by rw [h x hp]; exact ep),cV]; omega
   · rw [if_neg hp];split
     · rw [cV]; omega
     · omega
def mS (F:aU) (k:Nat):Nat:=((gX F.rules.length).filter fun i=>decide ((F.rules.getD i dR).kind=k)).length
theorem Z1 (F:aU):mS F 1 +mS F 2≤F.rules.length:=by
 have :=Oz (fun i=>decide ((F.rules.getD i dR).kind=1)) (fun i=>decide ((F.rules.getD i dR).kind=2)) (fun i h=>by have :=of_decide_eq_true h; exact decide_eq_false ab)<|gX F.rules.length;unfold mS; rw [vR] at this; exact this
theorem filter_le {α:Type} {p q:α→Bool} (h:∀ x,p x=true→q x=true):∀ l:List α,(l.filter p).length≤(l.filter q).length
 | []=>cU _
 | x::l=>by
   have A:=filter_le h l;rw [qy,qy];by_cases hp:p x=true
   · rw [if_pos hp,if_pos (h x hp),cV,cV]; omega
   · rw [if_neg hp]; split
     · rw [cV]; omega
     · exact A
theorem EA (F:aU) (fs:List Nat) (k:Nat):(bj F fs k).length≤mS F k:=filter_le (fun i h=>decide_eq_true (of_decide_eq_true h).1) _
theorem zH {α β:Type} {g:α→List β} {m:Nat} (h:∀ x,(g x).length≤m):∀ l:List α,(l.flatMap g).length≤l.length*m
 | []=>hZ _
 | x::l=>by
   have :=zH h l; have :=h x;rw [ku,bL,cV,Nat.succ_mul]; omega
theorem CS (F:aU) (xs:List bC) (e:Nat) (u:Tx) (f s:Int):(iy F xs e u f s).length≤mS F 1 +1:=by
 unfold iy oo;have h1:=List.length_filterMap_le (nu F xs e u f s)<|bj F (flagsOf xs e) 1;have h2:=EA F (flagsOf xs e) 1;rw [bL];split <;> simp only [fu,gB] <;> omega
theorem VC (F:aU) (xs:List bC) (e:Nat):(j0 F xs e).length≤(mS F 1 +1)+mS F 2 *((mS F 1 +1)+mS F 2 *(mS F 1 +1)):=by
 have h1:∀ u f z,(nO F xs e u f z).length≤mS F 1 +1:=fun u f z=>by
  unfold nO; split
  · exact hZ _
  · exact CS ..
 have h2:∀ s,(lX F xs e s).length≤(mS F 1 +1)+mS F 2 *(mS F 1 +1):=fun s=>by
  unfold lX; split
  · exact hZ _
  · rename_i u _;rw [bL];refine Qp (CS ..)<|fz (zH (fun z=>h1 u s z) _)<|qD _<|EA ..
 unfold j0;rw [bL];exact Qp (CS ..)<|fz (zH h2 _)<|qD _<|EA ..
theorem aaX {p s:Nat} (h:p+s≤1024):(p+1)+s*((p+1)+s*(p+1))≤269748225:=by
 obtain ⟨a,rfl⟩:∃ a,s=1024 - p - a:=⟨1024 - p - s,ab⟩
 have hs:1024 - p - a≤1024 - p:=Nat.sub_le _ _;have hp:p≤1024:=ab;have h4:∀ x y:Nat,x+y≤1026→x*y≤263169:=fun x y I=>by
  rcases Nat.le_total x y with hle | hle
  · obtain ⟨d,rfl⟩:=GP hle;have h1:x≤513:=ab;have h2:x+d≤1026 - x:=ab;refine fz (Nat.mul_le_mul_left x h2) ?_;obtain ⟨q,E,rfl⟩:∃ q,q≤513∧x=513 - q:=⟨513 - x,ab,ab⟩
    rw [show 1026 - (513 - q)=513 +q by omega,Nat.sub_mul,yF,yF];have :q*513=513 *q:=vU _ _;omega
  · obtain ⟨d,rfl⟩:=GP hle;have h1:y≤513:=ab;have h2:y+d≤1026 - y:=ab;refine fz (qD y h2) ?_;obtain ⟨q,E,rfl⟩:∃ q,q≤513∧y=513 - q:=⟨513 - y,ab,ab⟩
    rw [show 1026 - (513 - q)=513 +q by omega,vU,Nat.sub_mul,yF,yF];have :q*513=513 *q:=vU _ _;omega
 generalize 1024 - p - a=s at hs;have h5:=h4 (p+1) (s+1) ab;have A:(p+1)+s*((p+1)+s*(p+1))≤((p+1)*(s+1))*(s+1):=by
  have C:((p+1)*(s+1))*(s+1)=(p+1)+s*((p+1)+s*(p+1))+s*(p+1):=by
   simp only [yF,Nat.add_mul,Nat.mul_one,Nat.one_mul];have G:s*p=p*s:=vU _ _;have a2:s*(s*p)=p*s*s:=by rw [vU s p,vU]
   omega
  rw [C]; exact Nat.le_add_right _ _
 refine fz A<|fz (Nat.mul_le_mul h5 (show s+1≤1025 by omega)) aB
theorem Hk {F:aU} {xs:List bC} (A:F.rules.length≤1024) (C:xs.length≤8192):(kE F xs xs.length).length≤2209777459200:=by
 have h1:∀ e,(j0 F xs e).length≤269748225:=fun e=>fz (VC F xs e)<|aaX<|fz (Z1 F) A;have h2:=zH h1<|gX xs.length;unfold kE;rw [vR] at h2;omega
theorem Rl {a b:bK} (h:uB a b=true) (he:a.eM=b.eM):lE a b:=by
 unfold uB at h;unfold lE;split at h
 · have :=of_decide_eq_true h; omega
 · split at h
   · have :=of_decide_eq_true h; omega
   · have :=of_decide_eq_true h; omega
theorem Q3 (F:aU) (xs:List bC) (n:Nat):(kE F xs n).Pairwise lE:=by
 unfold kE;rw [List.pairwise_flatMap];refine ⟨fun e _=> ?_,List.pairwise_lt_range.imp fun {a b} I x E y G=> ?_⟩
 · refine (VF F xs e).imp_of_mem fun {a b} A C h=> ?_;exact Rl h<|by rw [(xD A).1,(xD C).1]
 · unfold lE;have h1:=(xD E).1;have h2:=(xD G).1;omega
theorem JV (F:aU) (xs:List bC) (w:Tx):(iz F xs w).Pairwise lE:=(Q3 F xs xs.length).sublist List.filter_sublist
theorem WA (F:aU) (xs:List bC) (w:Tx):(iz F xs w).Nodup:=(JV F xs w).imp fun h e=>by subst e; unfold lE at h; omega
theorem Ew {F:aU} {xs:List bC} {w:Tx} {d:bK} :d∈iz F xs w↔d∈kE F xs xs.length∧d.e7=w:=by
 unfold iz; rw [ua,decide_eq_true_iff]
theorem JW {w:Tx} :∀ (l m:List bK),(l.Pairwise fun a b=> ¬lE b a)→m.Pairwise lE→(∀ d∈m,d.e7=w)→l.Perm m→l=m
 | [],m,_,_,_,hp=>by rw [hp.symm.eq_nil]
 | a::l,[],_,_,_,hp=>by have :=hp.length_eq; simp at this
 | a::l,b::m,hl,hm,hw,hp=>by
   rw [List.pairwise_cons] at hl hm;have A:a=b:=by
    have h1:a∈b::m:=hp.subset<|oS ..;have h2:b∈a::l:=hp.symm.subset<|oS ..;rcases fG.1 h1 with h1 | h1
    · exact h1
    · rcases fG.1 h2 with h2 | h2
      · exact h2.symm
      · exact absurd (hm.1 a h1)<|hl.1 b h2
   subst A;rw [JW l m hl.2 hm.2 (fun d hd=>hw d<|nW _ hd) ((List.perm_cons a).1 hp)]
theorem Oj {α:Type} [DecidableEq α]:∀ (l m:List α),l.Nodup→(∀ x∈l,x∈m)→l.length≤m.length
 | [],_,_,_=>hZ _
 | a::l,m,hl,hs=>by
   rw [List.nodup_cons] at hl;have h1:=Oj l (m.erase a) hl.2 fun x A=>(List.mem_erase_of_ne fun e=>by subst e; exact hl.1 A).2<|hs x<|nW _ A;have h2:=List.length_erase_of_mem<|hs a<|oS ..;have h3:=List.length_pos_of_mem<|hs a<|oS ..;rw [cV]; omega
theorem LQ {f:Value→Option Value} {left :List (Value×Value)} (A:∀ k v,f k=some v↔(k,v)∈left) (d:bK):(f<|eY d).isSome=true↔eY d∈left.map iN:=by
 rw [nX,jn];exact ⟨fun ⟨v,h⟩=>⟨_,(A _ v).1 h,aa⟩,fun ⟨⟨k,v⟩,h,e⟩=>⟨v,(A _ v).2<|by rw [← e]; exact h⟩⟩
theorem Zh {left :List (Value×Value)} {m:List bK} (hk:∀ p∈left,q4 p.1) (hn:(left.map iN).Nodup) (hm:∀ d,d∈m↔eY d∈left.map iN):left.length≤m.length:=by
 haveI :DecidableEq Value:=fun a b=>Classical.propDecidable<|a=b
 have :=Oj (left.map iN) (m.map eY) hn (fun x A=>by
  obtain ⟨p,hp,rfl⟩:=jn.1 A;obtain ⟨d,hd⟩:=hk p hp;rw [hd];exact List.mem_map_of_mem ((hm d).2<|by rw [← hd]; exact A))
 simpa using this
theorem NP (B tb:Nat) (U:gJ) (F:aU) (xs:List bC) (wd:Tx) (w:World) (cU:fY w B tb U F xs) (C:eC F xs) (cS:F.rules.length≤1024) (dG:wd.length≤2097152):
 bm aw 30 (bh [aV tb,str wd]) w (fun v w'=>bz w' w.heap.size 49 5 v (iz F xs wd).length (eG<|iz F xs wd)∧Wk w w'):=by
 have dH:=C.xl;have dD:=C.len;have cX:=Hk cS C.xl;refine enter func30 aa ntmps30 aa<|ag fun b4=>ay<|b4<|az fun b6=>ag fun b7=>p mv<|p (ly x8 aa aa)<|nl<|b7<|cf (aa)<|aQ<|b6<|az fun b8=>rg aa<|p mv<|e<|cl Tp (abN B tb U F xs w cU C) aa fun dR Y cP=> ?_;obtain ⟨kb,ar,cr,rn,fm,dm,rfl,E,cB,a8⟩:=cP;have dz:=E.lt;have du:=E.lo;refine ay<|b8<|ag fun b9=>p mv<|p (dj (ps:= [(0,str wd),(2,.int .i64 (-1)),(3,.int .i64 (-1)),(4,.int .i64 (-1))]) (L:= [str wd,.int .i64 0,.int .i64 (-1),.int .i64 (-1),.int .i64 (-1)]) FF aa<|aa)<|e<|gk Bi fun ai dW ds bs ct=> ?_;have dM:=bs.size;refine e<|fU zk aa aa aa aa ct aB fun ax cI cs=> ?_;have a9:Wk Y ax:=bs.md.trans' cI fun q J h=>by omega
 have bE:ax.heap[ai]? =some (.cells [str wd,.int .i64 0,.int .i64 (-1),.int .i64 (-1),.int .i64 (-1)].toArray 49 (0,0)):=cs;have bR:Md (fun k=>k=dm) Y ax:=a9.mono fun _ _ h=>h.elim;have cD:=cB.md a9 id;have aX:¬(ai=dm):=ab;refine nl<|b9<|ag fun ca=>p mv<|p mv<|p (cW oc aa (aa) fun q J=>(o6 bE).bB q)<|e<|cl Iv (IG w Y B kb tb U F xs ar cr rn fm dm E C wd wd 0 (-1) (fun _=>False) ax bR cD ab ab) aa fun v22 dU cQ=> ?_;obtain ⟨rfl,cC,bk⟩:=cQ;have bP:=bR.trans bk;have cZ:=bk.aT bE aX;refine nl<|ca<|az fun cc=>ag fun ce=>p mv<|p (nc aa)<|p (fa zM aa)<|p (ld np aa<|(bg<|E.at bP).trans aa)<|p (bM sy aa aa)<|p mv<|nl<|ce<|aT<|lp (fun aj b2 an=> ∃ (i:Nat) (bZ:Int),(i≤F.rules.length)∧(Md (fun k=>k=dm) Y an)∧(kz an.heap dm<|pL F xs wd<|i)∧(an.heap[ai]? =some (.cells [str wd,.int .i64 0,.int .i64 (-1),.int .i64 (-1),.int .i64 bZ].toArray 49 (0,0)))∧(Sl b2 [(1,str wd),(5,aV kb),(6,aV ai),(26,.slice ar F.rules.length cr),(27,ak (F.rules.length)),(28,ak i)])∧(F.rules.length - i=aj)) _ ⟨0,_,ab,bP,(cC.congr abQ),cZ,aa,aa⟩ ?_;rintro aj b2 an ⟨i,bZ,hi,V,bi,c1,df,rfl⟩;refine bG df<|ag fun cg=>p (lt aa aa)<|nl<|cg<|az fun b5=>cd aa (fun c5=> ?_) fun c5=> ?_;refine aQ<|b5<|az fun ae=>aT<|az fun aD=> ?_;obtain ⟨r,O⟩:∃ r,F.rules[i]? =some r:=⟨_,cx ab⟩
 obtain ⟨u,a1⟩:=E.jw O;have di:=E.ro u (Qd<|gC a1).2;refine rg aa<|au (ak i)<|p (bc ny aa aa ab<|aM.ok (E.rules V)<|oM a1)<|p (cW lS aa (aa)<|fC (f:=e6) (m:=7) (fun _=>rfl) (E.rules V) a1)<|e<|gk rp fun cj dY aP bu cv=> ?_;have dP:=bu.size;refine p (cE (ak i) aa)<|e<|fU po aa aa aa (NH di) cv aB fun aA cK cw=> ?_;have aK:Wk an aA:=bu.md.trans' cK fun q J h=>by omega
 have aP:bS aA.heap cj (e6 (r,u)):=⟨_,cw⟩
 have bT:Md (fun k=>k=dm) Y aA:=V.trans' aK fun _ _ h=>h.elim;have bd:=bi.md aK id;have bF:=Wk.aT aK c1;refine nl<|aD<|az fun aF=>ag fun aG=>p (fa xc aa)<|p (ld bD aa<|aP.bB 0)<|p (dd aa aa)<|nl<|aG<|cd aa (fun hk=> ?_) fun hk=> ?_;have aS:=NK (xs:=xs) (wd:=wd) O<|.inl (show r.kind≠1 by have h:=hk; dsimp only at h; omega);exact ext<|bf<|be<|ae<|rg aa<|p (bJ ((i+1:Nat):Int) aa aa<|bp ab ab)<|p mv<|nl<|tn<|⟨_,ab,i+1,_,ab,bT,(bd.congr aS),bF,aa,aa⟩
 have c6:r.kind=1:=by have h:=hk; dsimp only at h; omega
 refine aQ<|aF<|ag fun aH=>p (cW lS aa (aa) fun q J=>aP.bB q)<|au (str wd)<|e<|cl CK (FX r u wd aA (C.jw O).2.2.1 (oJ C O).2.1 (oJ C O).2.2.1 ab) aa fun v39 dn cR=> ?_;obtain ⟨rfl,aJ⟩:=cR;have bQ:Md (fun k=>k=dm) Y dn:=bT.trans' aJ fun _ _ h=>h.elim;have bb:=bd.md aJ id;have bA:=Wk.aT aJ bF;refine p mv<|p (xt aa aa)<|p (xt aa aa)<|p aE<|ay<|aH<|az fun ah=>rg aa<|p mv<|nl<|ah<|cb aa (fun aR=> ?_) fun aR=> ?_;obtain ⟨rest,a0⟩:∃ rest,gv r wd=some rest:=nX.1<|by simpa using aR
 have dF:=OJ a0;have dC:=(oJ C O).1;have dE:r.strip.length≤32:=(C.jw O).2.2.1;have bY:(gv r wd).getD []=rest:=by rw [a0]; rfl
 have cY:=abP (xs:=xs) O c6 a0;refine ag fun aI=>au (ak i)<|p (fa qe aa)<|e<|dx gR aa aa (v:=ak i) aa bA (by show 4 < 5; omega) fun a3 bj co=> ?_;have bx:a3.heap[ai]? =some (.cells [str wd,.int .i64 0,.int .i64 (-1),.int .i64 (-1),ak i].toArray 49 (0,0)):=co;have bO:Md (fun k=>k=dm) Y a3:=bQ.trans' bj fun q J h=>by omega
 have cA:=bb.md bj fun h=>aX h.symm;refine nl<|aI<|rg aa<|au (aV kb)<|p mv<|p (cW oc aa (aa) fun q J=>(o6 bx).bB q)<|e<|cl Iv (IG w Y B kb tb U F xs ar cr rn fm dm E C wd ((gv r wd).getD []) 0 (i:Nat) (pL F xs wd<|i) a3 bO cA ab<|by rw [bY]; omega) aa fun dS dV bv=> ?_;rw [bY] at bv;obtain ⟨rfl,cF,bl⟩:=bv;have c9:=bO.trans bl;have c0:=bl.aT bx aX;exact nl<|bn<|ae<|rg aa<|p (bJ ((i+1:Nat):Int) aa aa<|bp ab ab)<|p mv<|nl<|tn<|⟨_,ab,i+1,_,ab,c9,(cF.congr cY),c0,aa,aa⟩
 have aS:=NK (xs:=xs) (wd:=wd) O<|.inr (show gv r wd=none by simpa using aR);exact aQ<|bn<|ae<|rg aa<|p (bJ ((i+1:Nat):Int) aa aa<|bp ab ab)<|p mv<|nl<|tn<|⟨_,ab,i+1,_,ab,bQ,(bb.congr aS),bA,aa,aa⟩
 refine ext<|bf<|bf<|be<|cc<|ag fun ae=>p aE<|nl<|ae<|az fun aD=>az fun aF=> ?_;obtain rfl :i=F.rules.length:=ab;obtain ⟨fd,c4,bH,dy⟩:=bi;refine rg aa<|au (aV kb)<|p (nc aa)<|p (fa KF aa)<|p (ld Ha aa<|(bg<|E.at V).trans aa)<|e<|rgm FP c4 aa fun am ac left dB br cG bI bU bN=> ?_;have dL:=br.size;have ao:Wk w ac:=(a8.trans' V fun k hk h=>by omega).trans br.md;have dA:left.length≤2209777459200:=by
  have :=Zh bI bU fun d=>(show d∈iz F xs wd↔_ from Ew.trans<|(NL d).symm.trans<|(bH d).symm.trans<|LQ bN d)
  exact fz this<|fz (sS _ _) cX
 refine nl<|aF<|aT<|lp (fun aj b3 aC=> ∃ (av:List (Value×Value)) (A:List bK) (G:Option Addr) (I:Nat),((left.map iN).Perm<|A.map eY++av.map iN)∧(qK aC.heap am dm av)∧(bz aC ac.heap.size 49 5 (.slice G A.length I) A.length<|eG A)∧(Md (fun k=>k=am) ac aC)∧(Sl b3 [(11,.slice G A.length I),(54,aV am)])∧(av.length=aj)) _ ⟨left,[],none,0,(PR _),cG,(dK _ _ _ _),(Md.refl _ _),aa,aa⟩ ?_;rintro aj b3 aC ⟨av,A,G,I,Z,cM,aq,aL,dg,rfl⟩;refine bG dg<|ag fun aG=>e<|nxb cM aa fun dq dk a2 b1 cm cn=>p (nxe aa)<|nl<|aG<|az fun aH=>cb aa (fun aO=> ?_) fun aO=> ?_;obtain ⟨aZ,aN,ba⟩:=cn aO;obtain ⟨kx,vx⟩:=dk;obtain ⟨d,rfl⟩:q4 kx:=by
  have h1:kx∈left.map iN:=Z.mem_iff.2<|yB _<|(aZ.map iN).mem_iff.2<|by simp
  obtain ⟨q,J,rfl⟩:=jn.1 h1;exact bI q J
 have c8:=aZ.length_eq;have aW:=Z.length_eq;simp only [bL,fP,cV] at c8 aW;refine aQ<|aH<|aT<|az fun ah=> ?_;have bV:=dw aq aN fun k hk h=>by have :=(dQ aq hk).1; omega
 refine rg aa<|p (eM ba aa)<|p (xt aa aa)<|e<|gk Bi fun ci dT bw bq cp=> ?_;have dI:=bq.size;refine e<|fU zk aa aa aa aa cp aB fun b0 cH cq=> ?_;have cy:Wk b1 b0:=bq.md.trans' cH fun q J h=>by omega
 have bw:bS b0.heap ci (dJ d):=⟨_,cq⟩
 refine nl<|ah<|rg aa<|au (.slice G A.length I)<|p (cW oc aa (aa) fun q J=>bw.bB q)<|e<|kY AO aa aa aa fun dr dX dt bt cu=> ?_;have dN:=bt.size;have al:=cy.trans bt.md;refine e<|ap AO (a7 bV al) aa (by have :=al.size; have :=aN.size; have :=aL.size; omega) aa (aM.ec cu) (aa) (aa) ab ab fun dl a4 da bo dO dv=> ?_;have bW:bz a4 ac.heap.size 49 5 dl (A++ [d]).length (eG<|A++ [d]):=by rw [show eG (A++ [d])=eG A++dJ d from by unfold eG; rw [nU,pU],bL]; exact da
 have aY:=a7 bV al;have cN:qK a4.heap am dm a2:=((ba.Z0).md (al.trans<|Md.refl _ _) id id).md bo (fun h=>by have :=(dQ aY h).1; have :=V.size; omega) fun h=>by have :=(dQ aY h).1; have :=V.size; omega
 have cz:Md (fun k=>k=am) ac a4:=(aL.trans aN).trans' (al.mono (fun _ _ h=>h.elim) |>.trans' bo (fun k hk h=>h)) fun k hk h=>by have :=(dQ aY h).1; omega
 obtain ⟨ch,ck,rfl⟩:=cJ bW;have cO:(left.map iN).Perm ((A++ [d]).map eY++a2.map iN):=by
  refine Z.trans ?_;rw [gW,eS];exact (aZ.map iN).append_left _
 exact p aE<|nl<|bn<|tn<|⟨_,ab,a2,A++ [d],ch,ck,cO,cN,bW,cz,aa,aa⟩
 obtain ⟨c7,rfl⟩:=cm aO;refine ext<|bf<|bf<|be<|aD<|az fun ah=> ?_;have aW:=Z.length_eq;simp only [bL,fP] at aW;rw [c7,List.map_nil,eB] at Z;refine rg aa<|au (.slice G A.length I)<|e<|cl Tq (ab8 ac.heap.size A.length (.slice G A.length I) A b1 aq aa ab) aa fun v64 dp cT=> ?_;obtain ⟨rfl,a5,bX,dh,db,cL⟩:=cT;refine nl<|ah<|ag fun aI=>au (.slice G A.length I)<|p (cE (.slice G A.length I) aa)<|nl<|aI<|rt<|a6 aa ?_;have c3:A.Nodup:=by
  have h1:(A.map eY).Nodup:=Z.nodup_iff.1 bU;exact (List.pairwise_map.1 h1).imp fun h e=>h<|congrArg eY e
 have c2:∀ d,d∈A↔d∈iz F xs wd:=fun d=>by
  have h1:eY d∈left.map iN↔eY d∈A.map eY:=Z.mem_iff;rw [Ew,← NL,← bH,LQ bN,h1,jn];exact ⟨fun h=>⟨d,h,aa⟩,fun ⟨e,he,hk⟩=>Ef hk ▸ he⟩
 have de:a5.Perm (iz F xs wd):=bX.trans<|(List.perm_ext_iff_of_nodup c3<|WA F xs wd).2 c2;obtain rfl :=JW a5 _ dh (JV F xs wd) (fun d hd=>(Ew.1 hd).2) de;have dc:∀ n,n=A.length→bz dp ac.heap.size 49 5 (.slice G A.length I) n (eG<|iz F xs wd):=by intro n hn; rw [hn]; exact db
 exact ⟨eQ (dc _ bX.length_eq) (by have :=ao.size; omega),(ao.trans' aL fun k hk h=>by have :=ao.size; have :=a8.size; have :=V.size; omega).trans' cL fun k hk h=>by have :=(dQ aq h).1; have :=ao.size; omega⟩
theorem abR (wd:Tx) (w:World):
 bm aw 30 (bh [.pointer none,str wd]) w (fun v w'=>v= .slice none 0 0∧Wk w w'):=by
 exact enter func30 aa ntmps30 aa<|ag fun A=>ay<|A<|az fun G=>ag fun C=>p mv<|p (ly x8 aa aa)<|nl<|C<|ct (aa)<|ag fun E=>p aE<|nl<|E<|rt<|tr<|a6 aa<|⟨aa,Md.refl _ _⟩
end Go.Hb
end
section
namespace Go.Hb.yG
open Go.Hb.uo
theorem VR (l:List bK):(eG l).length=l.length*5:=mL (f:=dJ) (m:=5) (fun _=>rfl) l
theorem VT (l:List bK):(eG l).all gw=true :=Du (fun _=>rfl) l
noncomputable def nb (F:aU) (xs:List bC) (w:Tx) (most:Int):List bK:=(iz F xs w).take (min most 1000).toNat
theorem VU (l:List bK) (k:Nat):eG (l.take k)=(eG l).take (k*5):=by
 induction l generalizing k with
 | nil=>simp [eG]
 | cons a l A=>
   cases k with
   | zero=>simp [eG]
   | succ k=>
     show dJ a++eG (l.take k)=(dJ a++eG l).take _;rw [A,show (k+1)*5=(dJ a).length+k*5 by show _=5 +k*5; omega,List.take_length_add_append]
theorem adA {F:aU} {xs:List bC} {w:Tx} {most:Int} :(iz F xs w).take (max 0<|min (min most 1000) ((iz F xs w).length:Nat)).toNat=nb F xs w most:=by
 unfold nb;by_cases h:(min most 1000).toNat≤(iz F xs w).length
 · congr 1; omega
 · rw [e9 ab,e9 ab]
noncomputable def pj (F:aU) (xs:List bC) (w:Tx) (fb:Bool):Bool:=(iz F xs w).any fun d=>decide (kN F xs d.eM 1=fb)
section
variable {P:Program} {N:Fm} {σ:Nat→Value} {w:World} {dst:Option Nat} {ty:TypeId} {pos :String} {af:Array Edge} {g:Option (Nat×Bool)} {x y z:Operand}
theorem MF {k:IntKind} {a b c:Int} {at_:Array TypeId} (A:ev N σ x= .int k a) (C:ev N σ y= .int k b) (E:ev N σ z= .int k c):
 (execOp (ev N σ) ⟨dst,.call ⟨.builtin .min,#[x,y,z],at_⟩,ty,pos,af,g⟩).run P w= .ok (.value<|.int k<|min (min a b) c) w:=by
 have h1:(if b < a then b else a)=min a b:=ab;have h2:(if c < min a b then c else min a b)=min (min a b) c:=ab;simp [execOp,resolve,invoke,builtin,Builtin.min_,Builtin.min2,A,C,E,h1,h2]
end
theorem EW {w:World} {B e size n cap:Nat} {xs:List Value} (h:bz w B e size (.slice none n cap) n xs):n=0:=by
 rcases h.2 with ⟨h1,h2⟩ | ⟨g,c,cur,h1,_⟩
 · injection h1 with _ h3 _
 · injection h1 with h2 _ _; cases h2
theorem IN (a:Option Addr) (n c:Nat) (xs:List Value) (w:World) (Y:aM w.heap a xs) (ak:xs.length=n*5) (ae:a=none→n=0) (h1:xs.all gw=true) (hn:n≤1048576):
 bm aw 31 (bh [.slice a n c]) w (fun v w'=>bz w' w.heap.size 49 5 v n xs∧Wk w w'):=by
 refine enter func31 aa ntmps31 aa<|ag fun I=>ay<|I<|az fun J=>ag fun O=>au (.slice a n c)<|p (rW sD aa aa)<|nl<|O<|cb aa (fun E=> ?_) fun E=> ?_;have ah:a=none:=by simpa using E
 refine ag fun A=>ay<|A<|rt<|tr<|a6 aa ?_;have ai:=ae ah;subst ai;obtain rfl :=fR (show xs.length=0 by omega);exact ⟨dK _ _ _ _,Md.refl _ _⟩;refine aQ<|J<|ag fun A=>e<|mG AO fun ao aA aq C V=> ?_;have G:=V w.heap.size ab;refine au (.slice a n c)<|e<|ap AO (G) aa (by have :=C.size; omega) aa (Y.wk C.md) (ak) (h1) ab ab fun am an aj ac ax av=> ?_;have Z:=Wk.own C.md G ac<|cU _;refine ay<|A<|rt<|a6 aa ?_;have al:bz an w.heap.size 49 5 am n xs:=by simpa using aj
 exact ⟨al,Z⟩
theorem OX (B tb:Nat) (U:gJ) (F:aU) (xs:List bC) (wd:Tx) (most:Int) (w:World) (ak:fY w B tb U F xs) (ae:eC F xs) (aj:F.rules.length≤1024) (an:wd.length≤2097152):
 bm aw 11 (bh [aV tb,str wd,.int .i64 most]) w (fun v w'=>bz w' w.heap.size 49 5 v (nb F xs wd most).length (eG<|nb F xs wd most)∧Wk w w'):=by
 refine enter func11 aa ntmps11 aa<|ag fun O=>ay<|O<|ag fun V=>p mv<|p mv<|e<|cl CG (NP B tb U F xs wd w ak ae aj an) aa fun v10 ao ai=> ?_;obtain ⟨A,G⟩:=ai;obtain ⟨Z,ac,rfl⟩:=cJ A;have au:=(ba A).1;obtain ⟨K,C⟩:∃ K:Nat,(max 0 (min (min most 1000) ((iz F xs wd).length:Nat)):Int)=(K:Int):=⟨(max 0 (min (min most 1000) ((iz F xs wd).length:Nat)):Int).toNat,ab⟩
 have E:=adA (F:=F) (xs:=xs) (w:=wd) (most:=most);rw [C,kQ] at E;have aq:K≤(iz F xs wd).length:=ab;have ap:K≤1000:=ab;have J:(nb F xs wd most).length=K:=by rw [← E,dP]; omega
 refine ay<|V<|ag fun Y=>p mv<|p mv<|p mv<|p (bM sD aa aa)<|p (MF aa aa aa)<|p (mx aa aa)<|p (tF uO aa aa ab)<|e<|cl Ir (IN Z (max 0 (min (min most 1000) ((iz F xs wd).length:Nat)):Int).toNat ac (eG<|nb F xs wd most) ao (by rw [← E,VU]; exact aM.take (ba A).2 _) (by rw [VR,J,C,kQ]) (fun al=>by subst al; have :=EW A; omega) (VT _) ab) aa fun av ax I=> ?_;rw [C,kQ,← J] at I;obtain ⟨am,ah⟩:=I;exact ay<|Y<|rt<|a6 aa<|⟨eQ am (by have :=G.size; omega),G.trans ah⟩
theorem adI (wd:Tx) (most:Int) (w:World):
 bm aw 11 (bh [.pointer none,str wd,.int .i64 most]) w (fun v w'=>bz w' w.heap.size 49 5 v 0 []∧Wk w w'):=by
 refine enter func11 aa ntmps11 aa<|ag fun G=>ay<|G<|ag fun I=>p mv<|p mv<|e<|cl CG (abR wd w) aa fun v10 Z V=> ?_;obtain ⟨rfl,C⟩:=V;have A:(max 0 (min (min most 1000) ((0:Nat):Int)):Int)=0:=ab;refine ay<|I<|ag fun J=>p mv<|p mv<|p mv<|p (bM sD aa aa)<|p (MF aa aa aa)<|p (mx aa aa)<|p (tF uO aa aa ab)<|e<|cl Ir (IN none (max 0 (min (min most 1000) ((0:Nat):Int)):Int).toNat 0 [] Z (aM.nil _ _) (by rw [A]; rfl) (fun _=>by rw [A]; rfl) aa<|by rw [A]; decide) aa fun ac ae Y=> ?_;obtain ⟨E,O⟩:=Y;refine ay<|J<|rt<|a6 aa ?_;rw [A] at E;exact ⟨eQ E C.size,C.trans O⟩
theorem UK (B tb:Nat) (U:gJ) (F:aU) (xs:List bC) (d:bK) (fb:Bool) (J O:Nat) (w:World) (ak:fY w B tb U F xs) (ac:eC F xs) (al:BR w J (some ⟨tb,0,none⟩)) (an:w.heap[O]? =some (.cells [.bool fb].toArray 4 (0,0))):
 bm aw 64 (bh [.agg (dJ d).toArray,aV J,aV O]) w (fun v w'=>v= .bool (decide (kN F xs d.eM 1=fb))∧Wk w w'):=by
 refine enter func64 aa ntmps64 aa<|ag fun Y=>e<|ib aa fun ab C V G ae=> ?_;have V:bS C.heap ab (dJ d):=ae;have am:=Wk.aT G.md al;have ao:=Wk.aT G.md an;refine ay<|Y<|az fun Z=> ?_;have A:(fun w'=>Wk C w') C.drew:=(Md.refl _ _).drew;refine bY (fun w'=>Wk C w') aa wide A<|bR 0 aa (fun w' E=>ld yQ aa<|Wk.aW E<|(bg am).trans aa) A<|aR 1 aa (fa qd aa) A<|bR 2 aa (fun w' E=>ld bD aa<|Wk.aW E<|V.bB 1) A<|bR 4 aa (fun w' E=>ld nq aa<|Wk.aW E<|(bg ao).trans aa) A<|he 3 aa aj<|cl Ib (Aj B tb U F xs (d.eM:Nat) 1 C.drew (ak.wk G.md.drew) ac) aa fun aq ap ai=> ?_;obtain ⟨rfl,ah⟩:=ai;have I:(fun w'=>Wk C w') ap:=A.trans ah;refine ⟨I,?_⟩;exact aR 5 aa (De u4 aa aa) I<|aR 6 aa (aE) I<|hn aj<|Z<|rt<|a6 aa<|⟨aa,G.md.trans I⟩
theorem Yz (B tb:Nat) (U:gJ) (F:aU) (xs:List bC) (fb:Bool) (C E:Nat) (a:Option Addr) (c:Nat) (L:List bK) (w:World) (av:fY w B tb U F xs) (ap:eC F xs) (ax:BR w C (some ⟨tb,0,none⟩)) (aA:w.heap[E]? =some (.cells [.bool fb].toArray 4 (0,0))) (V:aM w.heap a (eG L)) (aD:L.length≤4000000000000):
 bm aw 113 (bh [.slice a L.length c,.func (.func 64) #[] #[aV C,aV E]]) w (fun v w'=>(∃ k:Int,v= .int .i64 k∧(0≤k↔(L.any fun d=>decide (kN F xs d.eM 1=fb))=true))∧Wk w w'):=by
 refine enter func113 aa ntmps113 aa<|ag fun ae=>ay<|ae<|az fun ah=>ag fun ai=>p mv<|p (bM sD aa aa)<|p mv<|nl<|ai<|aT<|lp (fun O ac J=> ∃ (i:Nat),(i≤L.length)∧(∀ j d,j < i→L[j]? =some d→¬(kN F xs d.eM 1=fb))∧(Wk w J)∧(Sl ac [(0,.slice a L.length c),(1,.func (.func 64) #[] #[aV C,aV E]),(7,ak (L.length)),(8,ak i)])∧(L.length - i=O)) _ ⟨0,ab,(fun j d G=>by omega),(Md.refl _ _),aa,aa⟩ ?_;rintro O ac J ⟨i,hi,Z,A,aC,rfl⟩;refine bG aC<|ag fun aj=>p (lt aa aa)<|nl<|aj<|az fun al=>cd aa (fun aB=> ?_) fun aB=> ?_;refine aQ<|al<|az fun I=>aT<|ag fun am=>au (ak i)<|p (cE (ak i) aa)<|nl<|am<|az fun an=> ?_;obtain ⟨d,hd⟩:∃ d,L[i]? =some d:=⟨_,cx ab⟩
 refine rg aa<|au (.func (.func 64) #[] #[aV C,aV E])<|au (.slice a L.length c)<|au (ak i)<|p (bc uO aa aa ab<|aM.ok (V.wk A)<|uM ab)<|p (cW oc aa (aa)<|fC (f:=dJ) (m:=5) (fun _=>rfl) (V.wk A) hd)<|e<|UC Tu aa (UK B tb U F xs d fb C E J (av.wk A) ap (Wk.aT A ax)<|Wk.aT A aA) aa fun aF aG aq=> ?_;obtain ⟨rfl,Y⟩:=aq;refine nl<|an<|cb aa (fun hm=> ?_) fun hm=> ?_;exact ag fun ao=>au (ak i)<|p (cE (ak i) aa)<|nl<|ao<|rt<|br<|tr<|tr<|br<|tr<|a6 aa<|⟨⟨(i:Nat),aa,fun _=>BB.2 ⟨d,gC hd,decide_eq_true<|of_decide_eq_true hm⟩,fun _=>by omega⟩,A.trans Y⟩
 exact aQ<|bn<|I<|rg aa<|p (bJ ((i+1:Nat):Int) aa aa<|bp ab ab)<|p mv<|nl<|tn<|⟨_,ab,i+1,ab,(fun j e G he=>by rcases pX.1 G with h | rfl; exact Z j e h he; rw [hd] at he; cases he; exact of_decide_eq_false hm),(A.trans Y),aa,aa⟩
 exact ext<|bf<|bf<|be<|ah<|ag fun I=>p aE<|nl<|I<|rt<|a6 aa<|⟨⟨-1,aa,fun h=>absurd h ab,fun h=>by obtain ⟨d,hd,h1⟩:=BB.1 h; obtain ⟨j,G⟩:=List.getElem?_of_mem hd; exact absurd (of_decide_eq_true h1)<|Z j d (by have :=(List.getElem?_eq_some_iff.1 G).1; omega) G⟩,A⟩
theorem UO (B tb:Nat) (U:gJ) (F:aU) (xs:List bC) (fb:Bool) (A C:Nat) (a:Option Addr) (c:Nat) (L:List bK) (w:World) (Y:fY w B tb U F xs) (I:eC F xs) (Z:BR w A (some ⟨tb,0,none⟩)) (ab:w.heap[C]? =some (.cells [.bool fb].toArray 4 (0,0))) (J:aM w.heap a (eG L)) (O:L.length≤4000000000000):
 bm aw 63 (bh [.slice a L.length c,.func (.func 64) #[] #[aV A,aV C]]) w (fun v w'=>v= .bool (L.any fun d=>decide (kN F xs d.eM 1=fb))∧Wk w w'):=by
 refine enter func63 aa ntmps63 aa<|ag fun E=>ay<|E<|ag fun G=>p mv<|p mv<|e<|cl RK (Yz B tb U F xs fb A C a c L w Y I Z ab J O) aa fun ah ai V=> ?_;obtain ⟨⟨ae,rfl,ac⟩,hE7⟩:=V;exact p (ge aa aa)<|ay<|G<|rt<|a6 aa<|⟨by show ca (decide (ae≥0))=_; exact congrArg ca (by rw [Bool.eq_iff_iff,decide_eq_true_iff]; exact ac),hE7⟩
theorem IV (B tb:Nat) (U:gJ) (F:aU) (xs:List bC) (wd:Tx) (fb:Bool) (w:World) (O:fY w B tb U F xs) (C:eC F xs) (J:F.rules.length≤1024) (aq:wd.length≤2097152):
 bm aw 33 (bh [aV tb,str wd,.bool fb]) w (fun v w'=>v= .bool (pj F xs wd fb)∧Wk w w'):=by
 refine enter func33 aa ntmps33 aa<|ag fun Y=>e<|Cg aa aa fun ae aC ax am aj=>e<|Cg aa aa fun ah au az I ak=> ?_;have G:=Wk.aT I.md aj;have E:=am.md.trans I.md;refine ay<|Y<|ag fun Z=>p (ld yQ aa<|(bg G).trans aa)<|p mv<|e<|cl CG (NP B tb U F xs wd au (O.wk E) C J aq) aa fun v9 av ao=> ?_;obtain ⟨V,A⟩:=ao;obtain ⟨ac,ai,rfl⟩:=cJ V;have ap:=Hk J C.xl;have aA:(iz F xs wd).length≤2209777459200:=fz (sS _ _) ap;refine p My<|e<|cl Tt (UO B tb U F xs fb ae ah ac ai (iz F xs wd) av (O.wk<|E.trans A) C (Wk.aT A G) (Wk.aT A ak) (ba V).2 ab) aa fun v11 aB an=> ?_;obtain ⟨rfl,al⟩:=an;exact ay<|Z<|rt<|a6 aa<|⟨aa,(E.trans A).trans al⟩
theorem Q4 (B tb:Nat) (U:gJ) (F:aU) (xs:List bC) (wd:Tx) (w:World) (O:fY w B tb U F xs) (E:eC F xs) (I:F.rules.length≤1024) (V:wd.length≤2097152):
 bm aw 14 (bh [aV tb,str wd]) w (fun v w'=>v= .bool (pj F xs wd false)∧Wk w w'):=by
 refine enter func14 aa ntmps14 aa<|ag fun A=>ay<|A<|ag fun C=>p mv<|p mv<|e<|cl Is (IV B tb U F xs wd false w O E I V) aa fun Y Z J=> ?_;obtain ⟨rfl,G⟩:=J;exact ay<|C<|rt<|a6 aa<|⟨aa,G⟩
theorem Xd (B tb:Nat) (U:gJ) (F:aU) (xs:List bC) (wd:Tx) (w:World) (O:fY w B tb U F xs) (E:eC F xs) (I:F.rules.length≤1024) (V:wd.length≤2097152):
 bm aw 15 (bh [aV tb,str wd]) w (fun v w'=>v= .bool (pj F xs wd true)∧Wk w w'):=by
 refine enter func15 aa ntmps15 aa<|ag fun A=>ay<|A<|ag fun C=>p mv<|p mv<|e<|cl Is (IV B tb U F xs wd true w O E I V) aa fun Y Z J=> ?_;obtain ⟨rfl,G⟩:=J;exact ay<|C<|rt<|a6 aa<|⟨aa,G⟩
theorem GZ (B tb:Nat) (U:gJ) (F:aU) (xs:List bC) (wd:Tx) (w:World) (J:fY w B tb U F xs) (G:eC F xs) (I:F.rules.length≤1024) (O:wd.length≤2097152):
 bm aw 16 (bh [aV tb,str wd]) w (fun v w'=>v= .bool (pj F xs wd false && !pj F xs wd true)∧Wk w w'):=by
 refine enter func16 aa ntmps16 aa<|ag fun V=>ay<|V<|ag fun E=>p mv<|p mv<|e<|cl RU (Q4 B tb U F xs wd w J G I O) aa fun ae ac ab=> ?_;obtain ⟨rfl,A⟩:=ab;refine p mv<|gb (t:=8) aa (fun C=> ?_) fun C=> ?_;refine aJ aa mv<|aJ aa mv<|eg aa aa aa<|cl wv (Xd B tb U F xs wd ac (J.wk A) G I O) aa fun v11 ah Z=> ?_;obtain ⟨rfl,Y⟩:=Z;exact aJ aa (no aa)<|p (bH aa)<|ay<|E<|rt<|a6 aa<|⟨by rw [C]; rfl,A.trans Y⟩
 exact aH aa<|aH aa<|aH aa<|aH aa<|p (bA aa)<|ay<|E<|rt<|a6 aa<|⟨by rw [C]; rfl,A⟩
end Go.Hb.yG
end
section
namespace Go.Hb.GV
open Go.Hb.jP Go.Hb.kV Go.Hb.uj Go.Hb.uo Go.Hb.yG
noncomputable def gM (F:aU) (xs:List bC) (w:Tx) (n:Int):List bK:=(qS F xs n).filter<|sj<|some w
noncomputable def ox (F:aU) (xs:List bC) (w:Tx) (i:Nat):List bK:=(kE F xs i).filter<|sj<|some w
noncomputable def dF (F:aU) (xs:List bC) (w:Tx) (m:Int) (i:Nat):List bK:=(ox F xs w i).take m.toNat
theorem Y2 {most:Int} (C:most≤2000) {L:List bK} (A:∀ d∈L,d.e7.length≤200):oC most 1152921504606846976 [] L=gu L most:=by
 by_cases hm:most < 1
 · rw [acL hm,Ad (decide_eq_true<|Or.inl<|by simp only [gB]; omega)]
 · unfold gu; rw [if_neg hm];have :=Y1 (most:=most) (limit:=1152921504606846976) 200 ab ab L [] A (by simp only [gB]; omega)<|hZ _;rw [this]; rfl
section
variable {F:aU} {xs:List bC} {w:Tx} {m n:Int} {i:Nat}
theorem Y3 (A:eC F xs) (C:m≤2000):ji (some w) m 1152921504606846976 [] (qS F xs n)=gu (gM F xs w n) m:=Y2 C fun d hd=>(VB A n d (ua.1 hd).1).2
theorem Wx:ox F xs w xs.length=iz F xs w:=rfl
theorem Wz (h:i < xs.length):ox F xs w (i+1)=ox F xs w i++gM F xs w (i:Int):=by unfold ox gM; rw [Q1,yv,Jo h]
theorem ET:dF F xs w m 0= []:=by unfold dF ox kE; simp
theorem aaC (h:i < xs.length) (A:((dF F xs w m i).length:Int) < m):dF F xs w m i++gu (gM F xs w (i:Int)) (((m - ((dF F xs w m i).length:Nat)).toNat:Nat):Int)=dF F xs w m (i+1):=by
 unfold dF at*;rw [dP] at A;have h1:(ox F xs w i).length < m.toNat:=ab;rw [Wz h,List.take_append,e9 (show (ox F xs w i).length≤m.toNat by omega)];congr 1;unfold gu;rw [if_neg ab];congr 1;omega
theorem Wy (h:i≤xs.length):ox F xs w i <+:iz F xs w:=by
 obtain ⟨k,hk⟩:=GP h;rw [← Wx,← hk];clear hk;unfold ox kE;rw [List.range_add,nU,yv];exact List.prefix_append ..
theorem aaA (h:i≤xs.length) (A:m≤((dF F xs w m i).length:Int)):dF F xs w m i=(iz F xs w).take m.toNat:=by
 unfold dF at*;rw [dP] at A;obtain ⟨r,C⟩:=Wy (F:=F) (w:=w) h;rw [← C,List.take_append_of_le_length ab]
theorem aaB (h:0≤m):((dF F xs w m i).length:Int)≤m:=by unfold dF; rw [dP]; omega
end
theorem Ff (B tb fb:Nat) (V:eF) (ve:Value) (F:aU) (xs:List bC) (n:Int) (wd:Tx) (most:Int) (w:World) (ah:gE w B tb fb V ve F xs) (E:eC F xs) (I:most≤2000):
 bm aw 32 (bh [aV tb,.int .i64 n,str wd,.int .i64 most]) w (fun v w'=>bz w' w.heap.size 74 5 v (gu (gM F xs wd n) most).length (eG<|gu (gM F xs wd n) most)∧Wk w w'):=by
 refine enter func32 aa ntmps32 aa<|ag fun O=>ay<|O<|ag fun Y=>au (str wd)<|au (.int .i64 most)<|p (dj (ps:= [(0,.bool true),(1,.bool true),(2,str wd),(3,.int .i64 most),(4,.int .i64 1152921504606846976)]) (L:= [.bool true,.bool true,str wd,.int .i64 most,.int .i64 1152921504606846976,.int .i64 0,.int .i64 0,.slice none 0 0]) acn aa<|aa)<|e<|og aa fun A J ao G ae=> ?_;have ak:jb J (fun q=>q=A) w.heap.size A true (some wd) most 1152921504606846976 []:=⟨ab,⟨.slice none 0 0,ae,by rw [if_pos rfl]; exact dK _ _ _ _,fun q=>by simp [jN]⟩,uj.Bd.nil⟩
 refine ay<|Y<|ag fun Z=>au (aV tb)<|au (.int .i64 n)<|p mv<|e<|cl Ts (adz B tb fb V ve F xs w.heap.size A true (some wd) most 1152921504606846976 [] (fun q=>q=A) n J (ah.wk G.md) E ak<|.inl I) aa fun v17 av ai=> ?_;obtain ⟨rfl,an,al,aj⟩:=ai;obtain ⟨v,am,C,ap⟩:=al.ex;rw [if_pos rfl] at C;refine nl<|Z<|ag fun ac=>p mv<|p (nc aa)<|p (fa DC aa)<|p (ld He aa<|(bg am).trans aa)<|ay<|ac<|rt<|a6 aa ?_;rw [Y3 E I] at C;exact ⟨C,G.md.trans' aj.md fun q aq h=>by omega⟩
theorem abM (B tb fb:Nat) (V:eF) (ve:Value) (F:aU) (xs:List bC) (wd:Tx) (most:Int) (w:World) (aP:gE w B tb fb V ve F xs) (aO:eC F xs):
 bm aw 13 (bh [aV tb,str wd,.int .i64 most]) w (fun v w'=>bz w' w.heap.size 74 5 v (nb F xs wd most).length (eG<|nb F xs wd most)∧Wk w w'):=by
 have bV:=aO.xl;refine enter func13 aa ntmps13 aa<|ag fun a0=>ay<|a0 ?_;refine eo (fun aZ aY=> ∃ (m:Int),(m=min most 1000)∧(Wk w aY)∧(Sl aZ [(0,aV tb),(1,str wd),(2,.int .i64 m)])) ?_ ?_;refine ag fun am=>p mv<|p (gt aa aa)<|nl<|am<|cd aa (fun bo=> ?_) fun bo=> ?_;exact rg aa<|p aE<|nl<|tn<|⟨_,(ab),(Md.refl _ _),aa⟩
 exact aQ<|tn<|⟨_,(ab),(Md.refl _ _),aa⟩
 rintro aZ aY ⟨m,hm,bi,bw⟩;refine bG bw<|ag fun am=>ay<|am<|az fun aI=>az fun a4=>rg aa<|ay<|a4<|aT<|lp (fun Y aF E=> ∃ (i:Nat) (A:Option Addr) (C:Nat),(i≤xs.length)∧(Wk w E)∧(bz E w.heap.size 74 5 (.slice A (dF F xs wd m i).length C) (dF F xs wd m i).length<|eG<|dF F xs wd m i)∧(aF 7= .slice A (dF F xs wd m i).length C)∧(Sl aF [(0,aV tb),(1,str wd),(2,.int .i64 m),(8,ak i)])∧(xs.length - i=Y)) _ ⟨0,none,0,ab,bi,(by rw [ET]; exact dK _ _ _ _),(by first | rfl | (rw [ET]; rfl) | (rw [← aB]; rfl)),aa,aa⟩ ?_;rintro Y aF E ⟨i,A,C,hi,Z,ai,bB,bx,rfl⟩;refine bG bx<|fx 7 bB<|az fun a5=>ag fun aK=>au (ak i)<|au (aV tb)<|p (nc aa)<|p (fa xp aa)<|p (ld wi aa<|(aP.wk Z).FZ.choose_spec.choose_spec)<|p (bM A4 aa aa)<|p (lt aa aa)<|p mv<|gs (t:=20) aa (fun br=> ?_) fun br=> ?_;refine aJ aa (aX (.slice A (dF F xs wd m i).length C) aa)<|aJ aa (bM u32 aa aa)<|aJ aa (aX (.int .i64 m) aa)<|aJ aa (lt aa aa)<|p (bH aa)<|nl<|aK<|cd aa (fun aR=> ?_) fun aR=> ?_;refine aQ<|a5<|az fun O=>aT<|ag fun a8=>au (aV tb)<|au (ak i)<|au (str wd)<|au (.int .i64 m)<|au (.slice A (dF F xs wd m i).length C)<|p (bM u32 aa aa)<|p (dY (((m - ((dF F xs wd m i).length:Nat)).toNat:Nat):Int) aa aa<|bp ab ab)<|e<|cl y7 (Ff B tb fb V ve F xs (i:Int) wd (((m - ((dF F xs wd m i).length:Nat)).toNat:Nat):Int) E (aP.wk Z) aO ab) aa fun v35 al bl=> ?_;obtain ⟨aC,ah⟩:=bl;obtain ⟨G,an,rfl⟩:=cJ aC;have bX:=ah.size;have bU:=ah;have bu:=aaC (F:=F) (w:=wd) (m:=m) (show i < xs.length by omega) aR;have bR:(gu (gM F xs wd (i:Int)) (((m - ((dF F xs wd m i).length:Nat)).toNat:Nat):Int)).length≤1000:=by
  unfold gu;split;exact hZ _;rw [dP]; omega
 refine ay<|a8<|ag fun a9=>ay<|a9<|aT ?_;have bg:eG (gu (gM F xs wd (i:Int)) (((m - ((dF F xs wd m i).length:Nat)).toNat:Nat):Int))≠[]→E.heap.size≤bk G∧bk G < al.heap.size:=fun aA=>by
  rcases aC.2 with ⟨h1,h2⟩ | ⟨g,c,cur,h1,h2,h3,_⟩;exact absurd (show eG (gu (gM F xs wd (i:Int)) (((m - ((dF F xs wd m i).length:Nat)).toNat:Nat):Int))= [] by rw [fR h2]; rfl) aA;injection h1 with h1 _ _
  subst h1;exact ⟨h2,(dO.1 h3).1⟩
 have bT:=aaB (F:=F) (xs:=xs) (w:=wd) (i:=i) (show 0≤m by omega);refine lp (fun Y aG ae=> ∃ (k:Nat) (I:Option Addr) (J:Nat),(k≤(gu (gM F xs wd (i:Int)) (((m - ((dF F xs wd m i).length:Nat)).toNat:Nat):Int)).length)∧(Wk w ae)∧(bz ae w.heap.size 74 5 (.slice I ((dF F xs wd m i)++(gu (gM F xs wd (i:Int)) (((m - ((dF F xs wd m i).length:Nat)).toNat:Nat):Int)).take k).length J) ((dF F xs wd m i)++(gu (gM F xs wd (i:Int)) (((m - ((dF F xs wd m i).length:Nat)).toNat:Nat):Int)).take k).length<|eG<|(dF F xs wd m i)++(gu (gM F xs wd (i:Int)) (((m - ((dF F xs wd m i).length:Nat)).toNat:Nat):Int)).take k)∧(aM ae.heap G<|eG<|gu (gM F xs wd (i:Int)) (((m - ((dF F xs wd m i).length:Nat)).toNat:Nat):Int))∧(∀ b,(bW I ((dF F xs wd m i)++(gu (gM F xs wd (i:Int)) (((m - ((dF F xs wd m i).length:Nat)).toNat:Nat):Int)).take k).length J).ownBlock=some b→b < E.heap.size∨al.heap.size≤b)∧(al.heap.size≤ae.heap.size)∧(aG 7= .slice I ((dF F xs wd m i)++(gu (gM F xs wd (i:Int)) (((m - ((dF F xs wd m i).length:Nat)).toNat:Nat):Int)).take k).length J)∧(Sl aG [(0,aV tb),(1,str wd),(2,.int .i64 m),(8,ak i),(9,.slice G (gu (gM F xs wd (i:Int)) (((m - ((dF F xs wd m i).length:Nat)).toNat:Nat):Int)).length an),(10,ak k)])∧((gu (gM F xs wd (i:Int)) (((m - ((dF F xs wd m i).length:Nat)).toNat:Nat):Int)).length - k=Y)) _ ⟨0,A,C,ab,(Z.trans ah),(by rw [mA,eB]; exact a7 ai ah),((ba aC).2),(fun b ax=> .inl (dQ ai (show (bW A (dF F xs wd m i).length C).ownBlock=some b from by simpa [jN] using ax)).2),(cU _),(by first | rfl | (rw [mA,eB]; rfl)),aa,aa⟩ ?_;rintro Y aG ae ⟨k,I,J,hk,aq,aj,ao,aW,bI,bE,bD,rfl⟩;refine bG bD<|fx 7 bE<|az fun a1=>ag fun a2=>au (ak k)<|p (aX (.slice G (gu (gM F xs wd (i:Int)) (((m - ((dF F xs wd m i).length:Nat)).toNat:Nat):Int)).length an) aa)<|p (bM u32 aa aa)<|p (lt aa aa)<|nl<|a2<|cd aa (fun bs=> ?_) fun bs=> ?_;refine aQ<|a1<|az fun a3=>aT ?_;obtain ⟨d,hd⟩:∃ d,(gu (gM F xs wd (i:Int)) (((m - ((dF F xs wd m i).length:Nat)).toNat:Nat):Int))[k]? =some d:=⟨_,cx ab⟩
 have bS:((dF F xs wd m i)++(gu (gM F xs wd (i:Int)) (((m - ((dF F xs wd m i).length:Nat)).toNat:Nat):Int)).take k).length≤2000:=by rw [bL,dP]; omega
 refine rg aa<|p (aX (.slice I ((dF F xs wd m i)++(gu (gM F xs wd (i:Int)) (((m - ((dF F xs wd m i).length:Nat)).toNat:Nat):Int)).take k).length J) aa)<|p (aX (.slice G (gu (gM F xs wd (i:Int)) (((m - ((dF F xs wd m i).length:Nat)).toNat:Nat):Int)).length an) aa)<|au (ak k)<|p (bc JN aa aa ab<|aM.ok (ao)<|uM ab)<|p (cW s7 aa (aa)<|fC (f:=dJ) (m:=5) (fun _=>rfl) ao hd)<|e<|kY AP aa aa aa fun bP bZ bQ ac bb=> ?_;have bY:=ac.size;refine e<|ap AP (a7 aj ac.md) aa (by have :=aq.size; omega) aa (aM.ec bb) (aa) (aa) ab ab fun bN bO bv av bK bq=> ?_;have bj:=Wk.own (aq.trans ac.md) (a7 aj ac.md) av<|cU _;have bt:(dF F xs wd m i)++(gu (gM F xs wd (i:Int)) (((m - ((dF F xs wd m i).length:Nat)).toNat:Nat):Int)).take (k+1)=((dF F xs wd m i)++(gu (gM F xs wd (i:Int)) (((m - ((dF F xs wd m i).length:Nat)).toNat:Nat):Int)).take k)++ [d]:=by rw [List.take_add_one,hd,← eS]; rfl
 have aS:bz bO w.heap.size 74 5 bN ((dF F xs wd m i)++(gu (gM F xs wd (i:Int)) (((m - ((dF F xs wd m i).length:Nat)).toNat:Nat):Int)).take (k+1)).length (eG<|(dF F xs wd m i)++(gu (gM F xs wd (i:Int)) (((m - ((dF F xs wd m i).length:Nat)).toNat:Nat):Int)).take (k+1)):=by rw [bt,show eG (((dF F xs wd m i)++(gu (gM F xs wd (i:Int)) (((m - ((dF F xs wd m i).length:Nat)).toNat:Nat):Int)).take k)++ [d])=eG ((dF F xs wd m i)++(gu (gM F xs wd (i:Int)) (((m - ((dF F xs wd m i).length:Nat)).toNat:Nat):Int)).take k)++dJ d from by unfold eG; rw [nU,pU],bL]; exact bv
 have bd:=(ao.wk ac.md).md av (fun aA hk=>by
  have h1:=dQ aj hk;have h2:=aW _ hk;have h3:=bg aA;omega)
 have bK:=av.size;obtain ⟨aL,aN,rfl⟩:=cJ aS;have bF:∀ b,(bW aL ((dF F xs wd m i)++(gu (gM F xs wd (i:Int)) (((m - ((dF F xs wd m i).length:Nat)).toNat:Nat):Int)).take (k+1)).length aN).ownBlock=some b→b < E.heap.size∨al.heap.size≤b:=fun b ax=>(bq b ax).elim (fun h=>aW b h) fun h=> .inr<|by have :=bI; omega
 exact p aE<|nl<|bn<|a3<|rg aa<|au (ak k)<|p (bJ ((k+1:Nat):Int) aa aa<|bp ab ab)<|p aE<|nl<|tn<|⟨_,ab,k+1,aL,aN,ab,bj,aS,bd,bF,ab,(by first | rfl | (rw [mA,eB]; rfl)),aa,aa⟩
 refine ext<|bf<|bf<|be<|bn<|O ?_;have aB:((dF F xs wd m i)++(gu (gM F xs wd (i:Int)) (((m - ((dF F xs wd m i).length:Nat)).toNat:Nat):Int)).take k)=dF F xs wd m (i+1):=by rw [← bu,show k=(gu (gM F xs wd (i:Int)) (((m - ((dF F xs wd m i).length:Nat)).toNat:Nat):Int)).length by omega,Qk]
 exact rg aa<|au (ak i)<|p (bJ ((i+1:Nat):Int) aa aa<|bp ab ab)<|p aE<|nl<|tn<|⟨_,ab,i+1,I,J,ab,aq,(by rw [← aB]; exact aj),(by first | rfl | (rw [ET]; rfl) | (rw [← aB]; rfl)),aa,aa⟩
 refine ext<|bf<|bf<|be<|aI<|ag fun O=>au (.slice A (dF F xs wd m i).length C)<|p (cE (.slice A (dF F xs wd m i).length C) aa)<|nl<|O<|rt<|a6 aa ?_;have aD:dF F xs wd m i=nb F xs wd most:=by rw [aaA ab ab,hm]; rfl
 exact ⟨by rw [← aD]; exact ai,Z⟩;refine aH aa<|aH aa<|aH aa<|aH aa<|p (bA aa)<|nl<|aK<|cf aa<|ext<|bf<|bf<|be<|aI<|ag fun O=>au (.slice A (dF F xs wd m i).length C)<|p (cE (.slice A (dF F xs wd m i).length C) aa)<|nl<|O<|rt<|a6 aa ?_;have aD:dF F xs wd m i=nb F xs wd most:=by rw [show i=xs.length by omega,hm]; rfl
 exact ⟨by rw [← aD]; exact ai,Z⟩
end Go.Hb.GV
end
section
namespace Go.Hb
open Go.Hb.jP Go.Hb.kV Go.Hb.uo Go.Hb.yG
theorem Yk {eof ln:Nat} {F F':aU} {hs:List Tx} {rows rows':List Rw} {row:List Tx} (A:cH eof F hs rows ln row= .ok (F',rows')):F'.rules=F.rules∨F'.rules.length≤1024:=by
 unfold cH at A;split at A
 · unfold kr at A; split at A <;> cases A; exact .inl rfl
 split at A
 · unfold kM at A;split at A
   · cases A
   · split at A <;> cases A; exact .inl rfl
 split at A
 · unfold mU at A; split at A <;> cases A; exact .inl rfl
 split at A
 · unfold mZ at A; split at A <;> cases A; exact .inl rfl
 split at A
 · unfold k9 at A;split at A
   · cases A
   · split at A <;> cases A; exact .inl rfl
 split at A
 · unfold kq at A;split at A
   · cases A
   · split at A <;> cases A; exact .inl rfl
 split at A
 · unfold j9 at A;split at A
   · cases A
   · split at A
     · cases A
     · split at A <;> cases A; exact .inl rfl
 unfold ic at A;split at A
 · cases A
 split at A
 · cases A
 split at A
 · cases A
 split at A
 · cases A
 split at A
 · cases A
 rename_i r C;cases A;have h1:=(xu _ _ _ C).2.1;refine .inr ?_;rw [bL];omega
theorem QS {s:Tx} {F:aU} (h:fQ s= .ok F):F.rules.length≤1024:=by
 refine BV (Q:=fun F=>F.rules.length≤1024) (hZ _) ?_ h;intro eof ln F F' hs rows rows' row A C;rcases Yk C with h | h
 · rw [h]; exact A
 · exact h
theorem acK {a t:Tx} {T:aU×List bC} (h:lh a t=some T):T.1.rules.length≤1024:=by
 unfold lh at h;split at h
 · cases h
 · rename_i F A;split at h
   · cases h
   · cases h; exact QS A
theorem adw:lh vz Ba=some (hU,jL):=FL adl adp
theorem ON:kE hU jL jL.length= [⟨[103,97,115],0,-1,-1,-1⟩,⟨[103,97],1,-1,-1,-1⟩,⟨[103,97,115],1,0,-1,-1⟩]:=by
 unfold kE;rw [show gX jL.length= [0,1] by rfl,ku,ku,List.flatMap_nil,adn,ado];rfl
theorem OO:iz hU jL [103,97,115]=Bb:=by unfold iz; rw [ON]; decide
theorem adq:iz hU jL [103]= []:=by unfold iz; rw [ON]; decide
theorem ady:nb hU jL [103,97,115] 9=Bb:=by unfold nb; rw [OO]; rfl
theorem adk:(pj hU jL [103,97,115] false && !pj hU jL [103,97,115] true)=true :=by unfold pj; rw [OO]; decide
theorem adr:(pj hU jL [103] false && !pj hU jL [103] true)=false :=by unfold pj; rw [adq]; rfl
theorem OT (w:World):
 bm aw 10 (bh []) w (fun v w'=>v= .bool true∧Wk w w'):=by
 refine enter func10 aa ntmps10 aa<|ag fun ah=>ay<|ah<|ag fun ai=>e<|cl wy (Ou vz Ba w aB aB) aa fun v5 aA aq=> ?_;obtain ⟨⟨pp,aP,aQ,aR,rfl,ae⟩,hE5⟩:=aq;rw [adw] at ae;obtain ⟨B,tb,U,aG,rfl,av,C⟩:=ae;refine p mv<|p (xt aa aa)<|p (xt aa aa)<|e<|al rq fun aD aT aH E am=> ?_;have aO:=E.size;refine p aE<|e<|dt km aa aa aa aa (am) (by simp) fun I V aF=> ?_;have an:Wk w I:=(hE5.trans E.md).trans' V fun q ax h=>by have :=hE5.size; omega
 have ao:Wk aA I:=E.md.trans' V fun q ax h=>by omega
 have ac:=av.wk ao;have G:hU.rules.length≤1024:=aB;refine nl<|ai<|ag fun aj=>p mv<|e<|cl kF (OX B tb U hU jL [103,97,115] 9 I ac C G aB) aa fun v9 aC au=> ?_;obtain ⟨A,O⟩:=au;rw [ady] at A;obtain ⟨a9,c9,rfl⟩:=cJ A;have ab:=ac.wk O;refine ay<|aj<|ag fun ak=>p mv<|p (bM sD aa aa)<|p (bQ aa aa)<|p mv<|gs (t:=13) aa (fun aI=> ?_) fun h=>absurd aa h;refine aJ aa mv<|aJ aa (bc uO aa aa aB<|aM.ok (vl A)<|uM aB)<|aJ aa (fa qd aa)<|aJ aa (ld bD aa<|fC (f:=dJ) (m:=5) (i:=0) (fun _=>rfl) (vl A) (show Bb[0]? =some ⟨[103,97,115],0,-1,-1,-1⟩ from aa) 1 aB)<|aJ aa (bQ aa aa)<|p (bH aa)<|p mv<|gs (t:=20) aa (fun aK=> ?_) fun h=>absurd aa h;refine aJ aa mv<|aJ aa (bc uO aa aa aB<|aM.ok (vl A)<|uM aB)<|aJ aa (cW oc aa (aa)<|fC (f:=dJ) (m:=5) (i:=1) (fun _=>rfl) (vl A) (show Bb[1]? =some ⟨[103,97,115],1,0,-1,-1⟩ from aa))<|aJ aa (dj (ps:= [(0,str [103,97,115]),(1,.int .i64 1),(2,.int .i64 0),(3,.int .i64 (-1)),(4,.int .i64 (-1))]) (L:= [str [103,97,115],.int .i64 1,.int .i64 0,.int .i64 (-1),.int .i64 (-1)]) FF aa<|aa)<|aJ aa (Wg aa aa)<|p (bH aa)<|p mv<|gs (t:=27) aa (fun aL=> ?_) fun h=>absurd ⟨aa,aa,aa,aa,aa⟩ h;refine aJ aa mv<|eg aa aa aa<|cl HS (GZ B tb U hU jL [103,97,115] aC ab C G aB) aa fun aS az Y=> ?_;rw [adk] at Y;obtain ⟨rfl,J⟩:=Y;refine p (bH aa)<|p mv<|gb (t:=31) aa (fun aN=> ?_) fun h=>absurd ((aa).symm.trans h) ep;refine aJ aa mv<|eg aa aa aa<|cl HS (GZ B tb U hU jL [103] az (ab.wk J) C G aB) aa fun v33 aU Z=> ?_;rw [adr] at Z;obtain ⟨rfl,ap⟩:=Z;exact aJ aa (no aa)<|p (bH aa)<|ay<|ak<|rt<|a6 aa<|⟨aa,((an.trans O).trans J).trans ap⟩
theorem No (a t:Tx) (w:World) (ab:a.length≤1048576) (ac:t.length≤1048576):
 bm aw 9 (bh [str a,str t]) w (fun v w'=>(match lh a t with | none=>v= .tuple #[.pointer none,.pointer none,.bool true] | some T=> ∃ B tb U G E fb V ve,v= .tuple #[aV tb,aV E,.bool true]∧fY w' B tb U T.1 T.2∧eC T.1 T.2∧gE w' G E fb V ve T.1 T.2)∧Wk w w'):=by
 refine enter func9 aa ntmps9 aa<|ag fun ah=>p aE<|p aE<|ay<|ah<|az fun ai=>rg aa<|au (str a)<|au (str t)<|e<|cl wy (Ou a t w ab ac) aa fun a1 aC av=> ?_;obtain ⟨⟨aS,aU,aW,aX,rfl,A⟩,hE14⟩:=av;have aP:=hE14.size;refine p mv<|p (xt aa aa)<|p (xt aa aa)<|e<|al rq fun aH a3 aM Z ao=> ?_;have aR:=Z.size;refine p aE<|e<|dt km aa aa aa aa (ao) (by simp) fun ae O aI=> ?_;have J:Wk aC ae:=Z.md.trans' O fun q aB h=>by omega
 have aN:=O.size;refine nl<|ai<|ag fun aj=>au (str a)<|au (str t)<|e<|cl S6 (abD a t ae ab ac) aa fun v20 aD ax=> ?_;obtain ⟨⟨aT,aY,aZ,a0,rfl,C⟩,hE20⟩:=ax;have aQ:=hE20.size;refine p mv<|p (xt aa aa)<|p (xt aa aa)<|e<|al O7 fun aG a2 aL Y an=> ?_;have aO:=Y.size;refine p aE<|e<|dt zl aa aa aa aa (an) (by simp) fun aF aq aJ=> ?_;have I:Wk aD aF:=Y.md.trans' aq fun q aB h=>by omega
 refine nl<|aj<|ag fun ak=>p mv<|p mv<|p mv<|p (ly x8 aa aa)<|p mv<|p (ly FT aa aa)<|p (De u4 aa aa)<|p aE<|p aE<|ay<|ak<|rt<|f3 aa aa aa aa ?_;refine ⟨?_,hE14.trans<|J.trans<|hE20.trans I⟩;cases hx:lh a t with
 | none=>rw [hx] at A C; subst A C; rfl
 | some T=>
   rw [hx] at A C;obtain ⟨B,tb,U,aK,rfl,aA,am⟩:=A;obtain ⟨G,E,fb,V,ve,rfl,ap⟩:=C;exact ⟨B,tb,U,G,E,fb,V,ve,aa,aA.wk (J.trans<|hE20.trans I),am,ap.wk I⟩
end Go.Hb
end
section
namespace Go.Hb
open Go.Hb.jP Go.Hb.kV Go.Hb.uj Go.Hb.uo Go.Hb.yG Go.Hb.GV
theorem QY (L:List bK) (a b:Option Addr) (c d:Nat) (w:World) (aS:aM w.heap a (eG L)) (aU:aM w.heap b (eG L)) (bv:L.length≤1048576):
 bm aw 12 (bh [.slice a L.length c,.slice b L.length d]) w (fun v w'=>v= .bool true∧Wk w w'):=by
 refine enter func12 aa ntmps12 aa<|ag fun aZ=>ay<|aZ<|az fun a1=>ag fun a2=>p mv<|p (bM sD aa aa)<|p mv<|p (bM u32 aa aa)<|p (dd aa aa)<|nl<|a2<|cd aa (fun h=>absurd h fun h=>h aa) fun bl=>aQ<|a1<|az fun a3=>ag fun a4=>p mv<|p (bM sD aa aa)<|p mv<|nl<|a4<|aT<|lp (fun aP aX A=> ∃ (i:Nat),(i≤L.length)∧(Wk w A)∧(Sl aX [(0,.slice a L.length c),(1,.slice b L.length d),(14,ak (L.length)),(15,ak i)])∧(L.length - i=aP)) _ ⟨0,ab,(Md.refl _ _),aa,aa⟩ ?_;rintro aP aX A ⟨i,hi,I,bg,rfl⟩;refine bG bg<|ag fun a5=>p (lt aa aa)<|nl<|a5<|az fun a7=>cd aa (fun bd=> ?_) fun bd=> ?_;refine aQ<|a7<|az fun ap=>aT<|az fun a8=> ?_;obtain ⟨x,aW⟩:∃ x,L[i]? =some x:=⟨_,cx ab⟩
 refine rg aa<|au (ak i)<|p (cE (ak i) aa)<|nl<|a8 ?_;refine eo (fun aY ao=> ∃ (E G:Nat),(Wk A ao)∧(bS (ao).heap E<|dJ x)∧(bS (ao).heap G<|dJ x)∧(Sl aY [(0,.slice a L.length c),(1,.slice b L.length d),(6,aV E),(7,aV G),(14,ak (L.length)),(15,ak i)])) ?_ ?_;have bq:A.drew.heap.size=A.heap.size:=rfl;have C:(fun w'=>Wk A w') A.drew:=(Md.refl _ _).drew;refine bY (fun w'=>Wk A w') aa wide C<|bO 0 aa (.slice a L.length c) C<|bO 1 aa (ak i) C<|aR 2 aa (bc uO aa aa ab<|aM.ok (aS.wk I)<|uM ab) C<|bR 3 aa (fun w' aK=>cW oc aa (aa) fun j aL=>fC (f:=dJ) (m:=5) (fun _=>rfl) ((aS.wk I).wk aK) aW j aL) C<|bO 4 aa (.slice b L.length d) C<|bO 5 aa (ak i) C<|aR 6 aa (bc JN aa aa ab<|aM.ok (aU.wk I)<|uM ab) C<|bR 7 aa (fun w' aK=>cW s7 aa (aa) fun j aL=>fC (f:=dJ) (m:=5) (fun _=>rfl) ((aU.wk I).wk aK) aW j aL) C<|xw 8 9 aa aa aj ?_ ?_;refine gk Bi fun E aN ba J ax=> ?_;have bj:=J.size;have ai:(fun w'=>Wk A w') aN:=Md.trans C J.md;refine ⟨ai,?_⟩;refine he 9 aa aj<|gk O8 fun G aO bb O aF=> ?_;have bk:=O.size;have aH:=aF;have aC:=Wk.aT O.md ax;have al:(fun w'=>Wk A w') aO:=Md.trans ai O.md;refine ⟨al,?_⟩;refine he 10 aa aj<|fU zk aa aa aa aa aC aB fun am Z aq=> ?_;have aD:bS am.heap E (dJ x):=⟨_,aq⟩
 have aI:=Z.aT aH fun h=>by omega
 have ae:(fun w'=>Wk A w') am:=Md.trans' al Z fun k hk h=>by omega
 refine ⟨ae,?_⟩;refine he 11 aa aj<|fU Je aa aa aa aa aI aB fun an ac av=> ?_;have aG:bS an.heap G (dJ x):=⟨_,av⟩
 have aA:=ac.B aD fun h=>by omega
 have ah:(fun w'=>Wk A w') an:=Md.trans' ae ac fun k hk h=>by omega
 refine ⟨ah,?_⟩;exact hn aj<|tn<|⟨E,G,ah,aA,aG,aa⟩
 refine gk O8 fun G aO bb O aF=> ?_;have bk:=O.size;have al:(fun w'=>Wk A w') aO:=Md.trans C O.md;refine ⟨al,?_⟩;refine he 8 aa aj<|gk Bi fun E aN ba J ax=> ?_;have bj:=J.size;have aC:=ax;have aH:=Wk.aT J.md aF;have ai:(fun w'=>Wk A w') aN:=Md.trans al J.md;refine ⟨ai,?_⟩;refine he 10 aa aj<|fU zk aa aa aa aa aC aB fun am Z aq=> ?_;have aD:bS am.heap E (dJ x):=⟨_,aq⟩
 have aI:=Z.aT aH fun h=>by omega
 have ae:(fun w'=>Wk A w') am:=Md.trans' ai Z fun k hk h=>by omega
 refine ⟨ae,?_⟩;refine he 11 aa aj<|fU Je aa aa aa aa aI aB fun an ac av=> ?_;have aG:bS an.heap G (dJ x):=⟨_,av⟩
 have aA:=ac.B aD fun h=>by omega
 have ah:(fun w'=>Wk A w') an:=Md.trans' ae ac fun k hk h=>by omega
 refine ⟨ah,?_⟩;exact hn aj<|tn<|⟨E,G,ah,aA,aG,aa⟩
 rintro aY ao ⟨E,G,a9,V,Y,bi⟩;refine bG bi<|ag fun a0=>p (fa KR aa)<|p (ld bX aa<|V.bB 0)<|p (fa xo aa)<|p (ld bX aa<|Y.bB 0)<|p (oF aa aa)<|p mv<|gs (t:=31) aa (fun h=>absurd h fun h=>h aa) fun br=>aJ aa (fa qd aa)<|aJ aa (ld bD aa<|V.bB 1)<|aJ aa (fa KS aa)<|aJ aa (ld bD aa<|Y.bB 1)<|aJ aa (dd aa aa)<|p (bA aa)<|p mv<|gs (t:=38) aa (fun h=>absurd h fun h=>h aa) fun bs=>aJ aa (fa mM aa)<|aJ aa (ld bD aa<|V.bB 2)<|aJ aa (fa zU aa)<|aJ aa (ld bD aa<|Y.bB 2)<|aJ aa (dd aa aa)<|p (bA aa)<|p mv<|gs (t:=45) aa (fun h=>absurd h fun h=>h aa) fun bt=>aJ aa (fa mN aa)<|aJ aa (ld bD aa<|V.bB 3)<|aJ aa (fa zV aa)<|aJ aa (ld bD aa<|Y.bB 3)<|aJ aa (dd aa aa)<|p (bA aa)<|p mv<|gs (t:=52) aa (fun h=>absurd h fun h=>h aa) fun bu=> ?_;refine aJ aa (fa qe aa)<|aJ aa (ld bD aa<|V.bB 4)<|aJ aa (fa tp aa)<|aJ aa (ld bD aa<|Y.bB 4)<|aJ aa (dd aa aa)<|p (bA aa)<|nl<|a0<|cd aa (fun h=>absurd h fun h=>h aa) fun bo=> ?_;exact aQ<|bn<|ap<|rg aa<|p (bJ ((i+1:Nat):Int) aa aa<|bp ab ab)<|p mv<|nl<|tn<|⟨_,ab,i+1,ab,(I.trans a9),aa,aa⟩
 exact ext<|bf<|bf<|be<|a3<|ag fun ap=>p aE<|nl<|ap<|rt<|a6 aa<|⟨aa,I⟩
theorem adK (a t wd:Tx) (most:Int) (w:World) (aT:a.length≤1048576) (aV:t.length≤1048576) (a2:wd.length≤1048576) (F:aU) (xs:List bC) (ak:lh a t=some (F,xs)):
 bm aw 3 (bh [.agg [str a,str t,str wd,.int .i64 most].toArray]) w (fun v w'=>v= .bool true∧Wk w w'):=by
 have aR:F.rules.length≤1024:=acK ak;refine enter func3 aa ntmps3 aa<|ag fun an=>e<|ib aa fun aD am E aL aH=> ?_;have E:bS am.heap aD [str a,str t,str wd,.int .i64 most]:=aH;refine ay<|an<|ag fun ao=>p (fa KP aa)<|p (ld bX aa<|E.bB 0)<|p (fa KQ aa)<|p (ld bX aa<|E.bB 1)<|e<|cl c9 (No a t am aT aV) aa fun v12 aX aM=> ?_;obtain ⟨ah,Z⟩:=aM;rw [ak] at ah;obtain ⟨B,tb,U,Y,al,fb,V,ve,aW,J,A,I⟩:=ah;subst aW;have J:fY _ B tb U F xs:=J;have A:eC F xs:=A;have I:gE _ Y al fb V ve F xs:=I;refine p mv<|p (xt aa aa)<|p (xt aa aa)<|p (xt aa aa)<|p aE<|p aE<|p aE<|nl<|ao<|az fun ap=>ag fun aq=>p mv<|p (no aa)<|p mv<|gb (t:=18) aa (fun h=>absurd (h.symm.trans<|aa) ep) fun a1=> ?_;refine eg aa aa aa<|cl lU (OT aX) aa fun a3 aY aN=> ?_;obtain ⟨rfl,C⟩:=aN;have O:=Wk.B (Z.trans C) E;have aI:=(aL.md.trans Z).trans C;refine aJ aa (no aa)<|p (bA aa)<|nl<|aq<|cf (aa)<|aQ<|ap<|az fun au=>rg aa<|p mv<|p (fa DL aa)<|p (ld bX aa<|O.bB 2)<|p (fa DM aa)<|p (ld bD aa<|O.bB 3)<|e<|cl kF (OX B tb U F xs wd most aY (J.wk C) A aR ab) aa fun a4 aZ aO=> ?_;obtain ⟨ai,G⟩:=aO;obtain ⟨aB,aF,rfl⟩:=cJ ai;have ae:=Wk.B G O;refine ay<|au<|az fun av=>ag fun ax=>p mv<|p (ly FT aa aa)<|nl<|ax<|cf (aa)<|aQ<|av<|ag fun aA=>p mv<|p mv<|p (fa DL aa)<|p (ld bX aa<|ae.bB 2)<|p (fa DM aa)<|p (ld bD aa<|ae.bB 3)<|e<|cl RQ (abM Y al fb V ve F xs wd most aZ (I.wk<|C.trans G) A) aa fun v39 a0 aP=> ?_;obtain ⟨aj,ac⟩:=aP;obtain ⟨aC,aG,rfl⟩:=cJ aj;refine e<|cl lu (QY (nb F xs wd most) aB aC aF aG a0 (vl<|a7 ai ac) (vl aj)<|by unfold nb; rw [dP]; omega) aa fun v40 a5 aS=> ?_;obtain ⟨rfl,aK⟩:=aS;exact ay<|aA<|rt<|a6 aa<|⟨aa,((aI.trans G).trans ac).trans aK⟩
theorem adJ (a t wd:Tx) (most:Int) (w:World) (aq:a.length≤1048576) (au:t.length≤1048576) (aK:wd.length≤1048576) (ax:lh a t=none):
 bm aw 3 (bh [.agg [str a,str t,str wd,.int .i64 most].toArray]) w (fun v w'=>v= .bool true∧Wk w w'):=by
 refine enter func3 aa ntmps3 aa<|ag fun V=>e<|ib aa fun ai O A am aj=> ?_;have A:bS O.heap ai [str a,str t,str wd,.int .i64 most]:=aj;refine ay<|V<|ag fun Y=>p (fa KP aa)<|p (ld bX aa<|A.bB 0)<|p (fa KQ aa)<|p (ld bX aa<|A.bB 1)<|e<|cl c9 (No a t O aq au) aa fun v12 aB an=> ?_;obtain ⟨J,E⟩:=an;rw [ax] at J;have av:v12=_:=J;subst av;refine p mv<|p (xt aa aa)<|p (xt aa aa)<|p (xt aa aa)<|p aE<|p aE<|p aE<|nl<|Y<|az fun Z=>ag fun ab=>p mv<|p (no aa)<|p mv<|gb (t:=18) aa (fun h=>absurd (h.symm.trans<|aa) ep) fun aI=> ?_;refine eg aa aa aa<|cl lU (OT aB) aa fun aL aC ao=> ?_;obtain ⟨rfl,G⟩:=ao;have I:=Wk.B (E.trans G) A;have ak:=(am.md.trans E).trans G;refine aJ aa (no aa)<|p (bA aa)<|nl<|ab<|cf (aa)<|aQ<|Z<|az fun ac=>rg aa<|p mv<|p (fa DL aa)<|p (ld bX aa<|I.bB 2)<|p (fa DM aa)<|p (ld bD aa<|I.bB 3)<|e<|cl kF (adI wd most aC) aa fun aA aD ap=> ?_;obtain ⟨C,al⟩:=ap;have C:bz aD _ _ 5 aA ([]:List bK).length []:=C;obtain ⟨aG,aH,rfl⟩:=cJ C;exact ay<|ac<|az fun aF=>ag fun ae=>p mv<|p (ly FT aa aa)<|nl<|ae<|ct (aa)<|ag fun ah=>p mv<|p (bM sD aa aa)<|p (bQ aa aa)<|ay<|ah<|rt<|tr<|a6 aa<|⟨aa,ak.trans al⟩
theorem adL (a t wd:Tx) (most:Int) (w:World) (A:a.length≤1048576) (C:t.length≤1048576) (E:wd.length≤1048576):bm aw 3 [.agg [str a,str t,str wd,.int .i64 most].toArray].toArray w (fun v w'=>v= .bool true∧Wk w w'):=by
 cases hx:lh a t with
 | none=>exact adJ a t wd most w A C E hx
 | some Y=>obtain ⟨F,xs⟩:=Y; exact adK a t wd most w A C E F xs hx
end Go.Hb
end
