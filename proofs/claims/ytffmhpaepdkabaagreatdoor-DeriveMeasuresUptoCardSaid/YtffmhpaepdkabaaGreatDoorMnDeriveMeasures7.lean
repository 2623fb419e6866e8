/-
  Walks and plain laws that the law rests on, laid together. No conditions but those that each theorem names.
-/
import Derived.Test.YtffmhpaepdkabaaGreatDoorMnDeriveMeasures6
set_option linter.unusedVariables false
set_option maxRecDepth 20000
set_option maxHeartbeats 1000000
open Array renaming getElem?_eq_some_iff→cU
open Bool renaming noConfusion→ee,or_eq_false_iff→nv
open Classical renaming byContradiction→Mv,not_not→jk
open Go.Calls renaming mono→lF
open Go.Proofs.Tryz renaming prog→ay
open Go.Value renaming bool→bQ,int→je,slice→bR
open Go.World renaming ownsRow→bq,ownsRow_nil→dz
open Int renaming toNat_natCast→mR
open List renaming all_cons→ub,append_nil→eh,drop_eq_nil_of_le→gU,eq_nil_of_length_eq_zero→fW,getD_eq_getElem?_getD→cR,getElem?_eq_getElem→cC,getElem?_eq_some_iff→fS,getElem?_map→ir,getElem?_zip_eq_some→jy,length_append→bL,length_cons→cO,length_map→fM,length_pos_iff→lG,length_range→Ni,length_singleton→fA,map_append→iu,mem_append→jD,mem_cons_self→Nk,mem_of_getElem?→iN,mem_singleton→j5,range→j7,range_succ→Ns,toArray→bf,zip_append→Ez
open Nat renaming le_refl→cA,le_trans→gk,lt_or_ge→fi,mul_le_mul_right→um,zero_le→jP
open Go.Proofs.Tryz
open Go.Hb.dT Go.Proofs Go.Hb.js Go.Hb.fj Go.Hb.fX Go.Hb.lU Go.Hb.ka Go.Hb.j9 Go.Hb.jF Go.Hb.kr

section
namespace Go.Hb.zP
open Go.Hb.nz Go.Hb.ow
theorem Xz {kind ln:Nat} {al:List (List Nat)} {c:cX} {r:List Tx} {e:Nat} (h:r.length=4∨r.length=5) (h1:eA true (r.getD 2 [])= .error e):fI kind al c ln r= .error e:=by rw [mJ h,h1]
theorem KE {kind ln:Nat} {al:List (List Nat)} {c:cX} {r:List Tx} {e:Nat} {st:Tx} (h:r.length=4∨r.length=5) (h1:eA true (r.getD 2 [])= .ok st) (h2:jH (bA<|r.getD 3 [])= .error e):fI kind al c ln r= .error e:=by rw [mJ h,h1]; simp only; rw [h2]
theorem KF {kind ln:Nat} {al:List (List Nat)} {c:cX} {r:List Tx} {e:Nat} {st ad:Tx} (h:r.length=4∨r.length=5) (h1:eA true (r.getD 2 [])= .ok st) (h2:jH (bA<|r.getD 3 [])= .ok ad) (h3:kY kind al c.kind (bA<|r.getD 3 [])= .error e):fI kind al c ln r= .error e:=by rw [mJ h,h1]; simp only; rw [h2]; simp only; rw [h3]
theorem KG {kind ln:Nat} {al:List (List Nat)} {c:cX} {r:List Tx} {e:Nat} {st ad:Tx} {nx:List Nat} (h:r.length=4∨r.length=5) (h1:eA true (r.getD 2 [])= .ok st) (h2:jH (bA<|r.getD 3 [])= .ok ad) (h3:kY kind al c.kind (bA<|r.getD 3 [])= .ok nx) (h4:kR r= .error e):fI kind al c ln r= .error e:=by rw [mJ h,h1]; simp only; rw [h2]; simp only; rw [h3]; simp only; rw [h4]
theorem XA {kind ln:Nat} {al:List (List Nat)} {c:cX} {r:List Tx} {st ad cd:Tx} {nx:List Nat} (h:r.length=4∨r.length=5) (h1:eA true (r.getD 2 [])= .ok st) (h2:jH (bA<|r.getD 3 [])= .ok ad) (h3:kY kind al c.kind (bA<|r.getD 3 [])= .ok nx) (h4:kR r= .ok cd):fI kind al c ln r= .ok ⟨c.kind,c.flag,c.ek,st,ad,cd,nx,ln⟩:=by rw [mJ h,h1]; simp only; rw [h2]; simp only; rw [h3]; simp only; rw [h4]
def mq (xb:Nat) (F:aR) (c:cX) (ln:Nat) (r:List Tx) (w:World) (v:Value) (w':World):Prop :=Md (fun k=>k=xb) w w'∧∃ L:List Value,L.length=8∧L.all Value.oneCell'=true∧w'.heap[xb]? =some (.cells L.toArray 174 (0,0))∧((∃ q vn,fI F.kind F.aliases c ln r= .ok q∧v= .int .i64 (0:Nat)∧L=jv (q,vn)∧Tg w' 0 3 q.next.length vn (q.next.map bN))∨(∃ e:Nat,fI F.kind F.aliases c ln r= .error e∧e≠0∧v= .int .i64 (e:Nat)))
section
variable {xb ln:Nat} {F:aR} {c:cX} {r:List Tx} {w w':World} {st ad cd:Tx} {vn:Value}
theorem mq.no {e:Nat} (hm:Md (fun k=>k=xb) w w') (i:w'.heap[xb]? =some (.cells [.int .i64 (c.kind:Nat),bN c.flag,.bool c.ek,str st,str ad,str cd,vn,.int .i64 (ln:Nat)].toArray 174 (0,0))) (a:vn.oneCell'=true) (h:fI F.kind F.aliases c ln r= .error e) (he:e≠0):mq xb F c ln r w (.int .i64 (e:Nat)) w':=
 ⟨hm,_,rfl,by simp only [ub,a]; rfl,i,.inr ⟨e,h,he,rfl⟩⟩
theorem mq.ok {nx:List Nat} (hm:Md (fun k=>k=xb) w w') (q:w'.heap[xb]? =some (.cells [.int .i64 (c.kind:Nat),bN c.flag,.bool c.ek,str st,str ad,str cd,vn,.int .i64 (ln:Nat)].toArray 174 (0,0))) (i:vn.oneCell'=true) (a:Tg w' 0 3 nx.length vn (nx.map bN)) (h:fI F.kind F.aliases c ln r= .ok ⟨c.kind,c.flag,c.ek,st,ad,cd,nx,ln⟩):mq xb F c ln r w (.int .i64 (0:Nat)) w':=
 ⟨hm,_,rfl,by simp only [ub,i]; rfl,q,.inl ⟨_,vn,h,rfl,rfl,a⟩⟩
end
theorem Rv {s t:Tx} (h:t∈(c8 s).1) (hs:s.length≤1048576):(t.length=1∨3≤t.length)∧t.length≤1048576:=by
 have :=GD.1 t h
 exact ⟨this.1,ab⟩
theorem rX (w:World) (B e:Nat):Tg w B e 0 (.slice none 0 0) []:=⟨none,0,rfl,cA _,.inl rfl⟩
theorem TV {F F':aR} {ln:Nat} {row:List Tx} (h:iW F ln row= .ok F'):F'.bw=F.bw∧F'.kind=F.kind:=by
 unfold iW at h
 repeat' split at h
 all_goals first
  | (cases h; done)
  | (cases h; exact ⟨rfl,rfl⟩)
theorem Iz (B fb xb:Nat) (F:aR) (V:ej) (c:cX) (ln:Nat) (r:List Tx) (aG:Nat) (ar:Option Addr) (cr:Nat) (w:World) (ce:nB w B 0 fb F V) (hk:F.kind=1∨F.kind=2∨F.kind=3) (cN:F.aliases.length≤70000) (dd:w.heap[xb]? =some (.cells [au (c.kind),bN c.flag,.bool c.ek,str [],str [],str [],.slice none 0 0,au ln].toArray 174 (0,0))) (bk:Tg w aG 9 r.length (.slice ar r.length cr) (r.map str)) (C:r.length=4∨r.length=5) (a5:∀ x∈r,x.length≤70000):
 bm ay 260 (bf [aQ fb,aQ xb,.slice ar r.length cr]) w (mq xb F c ln r w):=by
 have bo:=bk.cI
 have ds:(r.getD 2 []).length≤70000:=a5 _<|dU ab
 have du:(r.getD 3 []).length≤70000:=a5 _<|dU ab
 have dw:=r4<|r.getD 3 []
 refine enter func260 aa ntmps260 aa<|ag fun bV=>aw<|bV<|ag fun bZ=>ak (.slice ar r.length cr)<|p (a8 cH aa aa ab<|aJ.ok (bo.2)<|bS ab)<|p (ld bT aa<|ca.get (i:=2) bo.2 ab)<|e<|cl AH (Ce (r.getD 2 []) true w ab) aa fun dx aC ci=> ?_
 obtain ⟨⟨st,e,rfl,bC⟩,hE19⟩:=ci
 have a9:=Wk.aH hE19 dd
 have ah:Md (fun k=>k=xb) w aC:=hE19.mono fun _ _ h=>h.elim
 refine p mv<|p (xt aa aa)<|p (xt aa aa)<|p aA<|aw<|bZ<|aB fun b0=>ag fun b1=>p mv<|p (db aa aa)<|nl<|b1<|cd aa (fun cz=> ?_) fun cz=> ?_
 have bz:eA true (r.getD 2 [])= .error e∧e≠0:=by
  rcases bC with ⟨_,h⟩ | h
  omega
  exact h
 exact ag fun aN=>p mv<|aw<|aN<|rt<|tr<|aV aa<|mq.no ah a9 aa (Xz C bz.1) bz.2
 obtain ⟨av,rfl⟩:eA true (r.getD 2 [])= .ok st∧e=0:=by
  rcases bC with h | ⟨_,h⟩
  exact h
  omega
 refine aM<|b0<|ag fun aN=>ak (aQ xb)<|p mv<|p (nc aa)<|p (fa sZ aa)<|e<|cw kS aa aa (v:=str st) aa a9 (by show _ < 8; omega) fun bP aY b9=> ?_
 have bL:=a9
 have ao:=(bk.wk hE19).md aY<|fu bL az
 have bi:=(ce.wk hE19).md aY (TF.eq (L:= [176]) (dt bL) az) az
 have cQ:=(ah).trans' aY fun _ _ h=>h
 have dg:bP.heap[xb]? =some (.cells [au (c.kind),bN c.flag,.bool c.ek,str st,str [],str [],.slice none 0 0,au ln].toArray 174 (0,0)):=b9
 refine nl<|aN<|ag fun b2=>ak (.slice ar r.length cr)<|p (a8 cH aa aa ab<|aJ.ok (ao.cI.2)<|bS ab)<|p (ld bT aa<|ca.get (i:=3) ao.cI.2 ab)<|e<|cl xo (yO (r.getD 3 []) bP ab) aa fun dy bO cj=> ?_
 obtain ⟨rfl,E⟩:=cj
 have bb:=Wk.aH E dg
 have a0:Md (fun k=>k=xb) w bO:=cQ.trans' E fun _ _ h=>h.elim
 refine p mv<|p (xt aa aa)<|p (xt aa aa)<|p (xt aa aa)<|p (xt aa aa)<|p aA<|p aA<|p aA<|aw<|b2<|aB fun b3=>ag fun b4=>p mv<|p (db aa aa)<|nl<|b4<|cd aa (fun cA=> ?_) fun cA=> ?_
 exact ag fun a=>p mv<|aw<|a<|rt<|tr<|aV aa<|mq.no a0 bb aa (KE C av<|EI ab) ab
 have bg:(bA<|r.getD 3 []).2.2.2=0:=ab
 refine aM<|b3 ?_
 refine ed (fun M I=> ∃ (s1 A:Tx),(eA true (r.getD 2 [])= .ok s1)∧(jH (bA<|r.getD 3 [])= .ok A)∧(I.heap[xb]? =some (.cells [au (c.kind),bN c.flag,.bool c.ek,str s1,str A,str [],.slice none 0 0,au ln].toArray 174 (0,0)))∧(nB I B 0 fb F V)∧(Tg I aG 9 r.length (.slice ar r.length cr)<|r.map str)∧(Md (fun k=>k=xb) w I)∧(M 0=aQ fb)∧(M 1=aQ xb)∧(M 2= .slice ar r.length cr)∧(M 10=str (bA<|r.getD 3 []).2.1)∧(M 11= .bool (bA<|r.getD 3 []).2.2.1)) ?_ ?_
 refine ag fun a=>p mv<|p (oO aa aa)<|nl<|a<|cd aa (fun ap=> ?_) fun ap=> ?_
 refine ag fun q=>p mv<|e<|cl AL (B9 (bA<|r.getD 3 []).1 bO ab) aa fun dz dm ck=> ?_
 obtain ⟨rfl,al⟩:=ck
 have bc:=Wk.aH al bb
 have bt:Md (fun k=>k=xb) w dm:=a0.trans' al fun _ _ h=>h.elim
 refine aw<|q<|aB fun U=>ag fun Y=>p mv<|p (db aa aa)<|nl<|Y<|cd aa (fun cC=> ?_) fun cC=> ?_
 exact ag fun aK=>p mv<|aw<|aK<|rt<|tr<|tr<|aV aa<|mq.no bt bc aa (KE C av<|EJ bg ap ab) ab
 refine aM<|U<|rg aa<|ak (aQ xb)<|p mv<|p (nc aa)<|p (fa BJ aa)<|e<|cw kS aa aa (v:=str (bA<|r.getD 3 []).1) aa bc (by show _ < 8; omega) fun dj aU b5=> ?_
 have bH:=bc
 have cq:=((ao.wk E).wk al).md aU<|fu bH az
 have cg:=((bi.wk E).wk al).md aU (TF.eq (L:= [176]) (dt bH) az) az
 have cO:=(bt).trans' aU fun _ _ h=>h
 have de:dj.heap[xb]? =some (.cells [au (c.kind),bN c.flag,.bool c.ek,str st,str (bA<|r.getD 3 []).1,str [],.slice none 0 0,au ln].toArray 174 (0,0)):=b5
 exact nl<|tn<|⟨st,(bA<|r.getD 3 []).1,av,(EK bg ap ab),de,cg,cq,cO,aa,aa,aa,aa,aa⟩
 exact aM<|tn<|⟨st,[],av,(EL bg<|jk.1 ap),bb,(bi.wk E),(ao.wk E),a0,aa,aa,aa,aa,aa⟩
 rintro M I ⟨s1,A,ai,ae,ax,aS,bl,a1,cV,cW,c0,cY,cZ⟩
 refine fx 0 cV<|fx 1 cW<|fx 2 c0<|fx 10 cY<|fx 11 cZ ?_
 refine ed (fun O bh=>((bA<|r.getD 3 []).2.2.1=true→c.kind≠1)∧(bh=I)∧(O 0=aQ fb)∧(O 1=aQ xb)∧(O 2= .slice ar r.length cr)∧(O 10=str (bA<|r.getD 3 []).2.1)∧(O 11= .bool (bA<|r.getD 3 []).2.2.1)) ?_ ?_
 refine ag fun a=>ak (.bool (bA<|r.getD 3 []).2.2.1)<|ak (.bool (bA<|r.getD 3 []).2.2.1)<|gb (t:=53) aa (fun aZ=> ?_) fun aZ=> ?_
 refine aI aa (aT (aQ xb) aa)<|aI aa (nc aa)<|aI aa (fa uP aa)<|aI aa (ld bu aa<|(aX ax).trans aa)<|aI aa (bJ aa aa)<|p (bB aa)<|nl<|a<|cd aa (fun cD=> ?_) fun cD=> ?_
 exact ag fun q=>aw<|q<|rt<|tr<|aV aa<|mq.no a1 ax aa (KF C ai ae<|JH aZ ab) az
 exact aM<|tn<|⟨(fun _=>by omega),aa,aa,aa,aa,aa,aa⟩
 exact aE aa<|aE aa<|aE aa<|aE aa<|aE aa<|p (bp aa)<|nl<|a<|cf aa<|aM<|tn<|⟨(fun h=>absurd (h.symm.trans aZ) ee),aa,aa,aa,aa,aa,aa⟩
 rintro O bh ⟨br,dc,c1,c2,c5,c3,c4⟩
 refine fx 0 c1<|fx 1 c2<|fx 2 c5<|fx 10 c3<|fx 11 c4 ?_
 subst dc
 refine ed (fun aF J=> ∃ (l:List Nat) (vn:Value),(kY F.kind F.aliases c.kind (bA<|r.getD 3 [])= .ok l)∧(J.heap[xb]? =some (.cells [au (c.kind),bN c.flag,.bool c.ek,str s1,str A,str [],vn,au ln].toArray 174 (0,0)))∧(vn.oneCell'=true)∧(Tg J 0 3 l.length vn<|l.map bN)∧(nB J B 0 fb F V)∧(Tg J aG 9 r.length (.slice ar r.length cr)<|r.map str)∧(Md (fun k=>k=xb) w J)∧(aF 0=aQ fb)∧(aF 1=aQ xb)∧(aF 2= .slice ar r.length cr)) ?_ ?_
 refine ag fun a=>ak (.bool (bA<|r.getD 3 []).2.2.1)<|nl<|a<|cb aa (fun G=> ?_) fun G=> ?_
 refine ag fun q=>ak (aQ xb)<|ak (aQ fb)<|ak (str (bA<|r.getD 3 []).2.1)<|e<|cl FJ (Ir B fb F V (bA<|r.getD 3 []).2.1 bh aS hk cN ab) aa fun dA bQ cm=> ?_
 obtain ⟨⟨aj,aO,rfl,a3,bq⟩,hE65⟩:=cm
 have ba:=Wk.aH hE65 ax
 have cR:Md (fun k=>k=xb) w bQ:=a1.trans' hE65 fun _ _ h=>h.elim
 refine p mv<|p (xt aa aa)<|p (xt aa aa)<|p (nc aa)<|p (fa uQ aa)<|e<|cw A7 aa aa (v:=aj) a3 ba (by show _ < 8; omega) fun dk am b6=> ?_
 have bI:=ba
 have cs:=(bl.wk hE65).md am<|fu bI az
 have ch:=(aS.wk hE65).md am (TF.eq (L:= [176]) (dt bI) az) az
 have bs:=(cR).trans' am fun _ _ h=>h
 have bM:dk.heap[xb]? =some (.cells [au (c.kind),bN c.flag,.bool c.ek,str s1,str A,str [],aj,au ln].toArray 174 (0,0)):=b6
 refine aw<|q<|ag fun U=>p mv<|p (db aa aa)<|nl<|U<|cd aa (fun cE=> ?_) fun cE=> ?_
 obtain ⟨cK,cL⟩:aO≠0∧fV F.kind F.aliases (bA<|r.getD 3 []).2.1= .error aO:=by
  rcases bq with ⟨l,h,_⟩ | h
  omega
  exact h
 exact ag fun Y=>p mv<|aw<|Y<|rt<|tr<|aV aa<|mq.no bs bM a3 (KF C ai ae<|(yz G<|br G).trans cL) cK
 obtain ⟨l,rfl,cM,cu⟩:∃ l,aO=0∧fV F.kind F.aliases (bA<|r.getD 3 []).2.1= .ok l∧Tg bQ 0 3 l.length aj (l.map bN):=by
  rcases bq with h | ⟨h,_⟩
  exact h
  omega
 exact aM<|tn<|⟨l,aj,((yz G<|br G).trans cM),bM,a3,(cu.md am<|fu ba az),ch,cs,bs,aa,aa,aa⟩
 exact aM<|tn<|⟨[],.slice none 0 0,(JI G),ax,aa,(rX _ _ _),aS,bl,a1,aa,aa,aa⟩
 rintro aF J ⟨l,vn,a2,bd,a6,cx,dr,ct,cT,c6,c7,c9⟩
 refine fx 0 c6<|fx 1 c7<|fx 2 c9<|ag fun a=>ak (aQ xb)<|p (nc aa)<|p (fa BK aa)<|e<|cw kS aa aa (v:=str [46]) aa bd (by show _ < 8; omega) fun aC aW b7=> ?_
 have di:=bd
 have an:=(ct).md aW<|fu di az
 have ah:=(cT).trans' aW fun _ _ h=>h
 have bD:aC.heap[xb]? =some (.cells [au (c.kind),bN c.flag,.bool c.ek,str s1,str A,str [46],vn,au ln].toArray 174 (0,0)):=b7
 have bn:=cx.md aW<|fu bd az
 refine nl<|a ?_
 refine ed (fun dp aD=> ∃ (cd:Tx),(kR r= .ok cd)∧(aD.heap[xb]? =some (.cells [au (c.kind),bN c.flag,.bool c.ek,str s1,str A,str cd,vn,au ln].toArray 174 (0,0)))∧(Tg aD 0 3 l.length vn<|l.map bN)∧(Md (fun k=>k=xb) w aD)) ?_ ?_
 refine ag fun q=>ak (.slice ar r.length cr)<|p (bK eV aa aa)<|p (bJ aa aa)<|nl<|q<|cd aa (fun cF=> ?_) fun cF=> ?_
 have dv:(r.getD 4 []).length≤70000:=a5 _<|dU ab
 have a4:r.length=5:=ab
 refine ag fun U=>ak (.slice ar r.length cr)<|p (a8 cH aa aa ab<|aJ.ok (an.cI.2)<|bS ab)<|p (ld bT aa<|ca.get (i:=4) an.cI.2 ab)<|e<|cl uC (vv (r.getD 4 []) aC ab) aa fun dB bR cn=> ?_
 obtain ⟨rfl,Z⟩:=cn
 have bE:=Wk.aH Z bD
 have bv:Md (fun k=>k=xb) w bR:=ah.trans' Z fun _ _ h=>h.elim
 refine aw<|U<|aB fun Y=>ag fun aK=>p mv<|p (no aa)<|nl<|aK<|cb aa (fun aq=> ?_) fun aq=> ?_
 exact ag fun aL=>aw<|aL<|rt<|tr<|tr<|aV aa<|mq.no bv bE a6 (KG C ai ae a2<|Gz a4<|by simpa using aq) az
 refine aM<|Y<|ag fun aL=>ak (.slice ar r.length cr)<|p (a8 cH aa aa ab<|aJ.ok ((an.wk Z).cI.2)<|bS ab)<|p (ld bT aa<|ca.get (i:=4) (an.wk Z).cI.2 ab)<|e<|cl FK (Km (r.getD 4 []) bR ab) aa fun dC bU co=> ?_
 obtain ⟨⟨dq,rfl,bx⟩,hE89⟩:=co
 obtain ⟨ac,cc,rfl⟩:=cB bx
 have bF:=Wk.aH hE89 bE
 have bw:Md (fun k=>k=xb) w bU:=bv.trans' hE89 fun _ _ h=>h.elim
 refine p mv<|p (xt aa aa)<|p (xt aa aa)<|p aA<|aw<|aL<|aB fun bW=>ag fun bX=>p mv<|p (db aa aa)<|nl<|bX<|cd aa (fun cG=> ?_) fun cG=> ?_
 exact ag fun bY=>p mv<|aw<|bY<|rt<|tr<|tr<|aV aa<|mq.no bw bF a6 (KG C ai ae a2<|GA a4 (by simpa using aq) ab) ab
 refine aM<|bW<|rg aa<|ak (aQ xb)<|p mv<|e<|cl PO (Xs (c8<|r.getD 4 []).1 ac cc bU (a7 bx).2 (by have :=GG (r.getD 4 []); omega) fun t da=>Rv da ab) aa fun dD dn cp=> ?_
 obtain ⟨rfl,aP⟩:=cp
 have bG:=Wk.aH aP bF
 have cS:Md (fun k=>k=xb) w dn:=bw.trans' aP fun _ _ h=>h.elim
 refine p (nc aa)<|p (fa BK aa)<|e<|cw kS aa aa (v:=str<|ma (c8<|r.getD 4 []).1) aa bG (by show _ < 8; omega) fun dl bj b8=> ?_
 have df:dl.heap[xb]? =some (.cells [au (c.kind),bN c.flag,.bool c.ek,str s1,str A,str (ma (c8<|r.getD 4 []).1),vn,au ln].toArray 174 (0,0)):=b8
 have cP:=cS.trans' bj fun _ _ h=>h
 have cv:=(((bn.wk Z).wk hE89).wk aP).md bj<|fu bG az
 exact nl<|tn<|⟨ma (c8<|r.getD 4 []).1,(GB a4 (by simpa using aq) ab),df,cv,cP⟩
 exact aM<|tn<|⟨[46],(GC ab),bD,bn,ah⟩
 rintro dp aD ⟨cd,cJ,dh,cy,cU⟩
 exact ag fun q=>aw<|q<|rt<|aV aa<|mq.ok cU dh a6 cy<|XA C ai ae a2 cJ
theorem TW (I:World) (H:gl) (F:aR) (k ln:Nat) (seen r:List Tx) (bU:Nat) (ar:Option Addr) (cr:Nat) (w:World) (a:mo I w H F k ln seen) (bP:Tg w bU 9 r.length (.slice ar r.length cr) (r.map str)) (dr:r≠[]) (bC:∀ x∈r,x.length≤70000) (dL:F.dd.length+F.aliases.length+F.bw.length+F.rules.length+(H.rows.drop k).length < 70000) (dh:r.getD 0 []≠ff→r.getD 0 []≠eI→0 < F.bw.length):
 bm ay 234 (bf [aQ H.rb,.slice ar r.length cr]) w (fun v w'=>((∃ F',iW F ln r= .ok F'∧v=au 0∧mo I w' H F' k ln seen)∨(∃ e:Nat,iW F ln r= .error e∧e≠0∧v=au e∧Hb.aO w'.heap H.rb 5=some (au ln)))∧Wk I w'):=by
 obtain ⟨V,vh,M,ah,J,aL,bR⟩:=a
 have bd:=bP.cI
 have dZ:=ah.lo
 have dT:=M.lo
 have dP:=J.len
 have d1:=lG.2 dr
 have d0:=(cU.1 ah.cells).1
 obtain ⟨cX,ky,cL⟩:=cB M.ep
 have bx:=M.ep
 rw [cL] at bx
 have bQ:Hb.aO w.heap H.fb 11=some (.slice cX F.bw.length ky):=by rw [← cL]; exact (aX M.cells).trans rfl
 refine enter func234 aa ntmps234 aa<|ag fun cR=>aw<|cR<|ag fun cS=>ak (aQ H.rb)<|p (nc aa)<|p (fa lO aa)<|p (ld ig aa<|(aX ah.cells).trans aa)<|aw<|cS<|aB fun cT=>aB fun cV=>rg aa<|ak (.slice ar r.length cr)<|p (a8 cH aa aa ab<|aJ.ok (bd.2)<|bS ab)<|p (ld bT aa<|ca.get (i:=0) bd.2 ab)<|nl<|cV<|aH<|aB fun cW=>rg aa<|p (dV aa aa)<|aw<|cW<|cd aa (fun cg=> ?_) fun cg=> ?_
 have ac:r.getD 0 []=ff:=cg
 refine aB fun bV=>ag fun bb=>ak (.slice ar r.length cr)<|p (bK eV aa aa)<|p (db aa aa)<|nl<|bb<|cd aa (fun dc=> ?_) fun dc=> ?_
 exact ag fun aK=>aw<|aK<|rt<|tr<|br<|tr<|aV aa<|⟨.inr ⟨111,by unfold iW; rw [if_pos ac,Kt ab],az,aa,ah.dj⟩,aL⟩
 have cn:r.length=3:=ab
 have dl:=bC _<|dU (d:= []) (i:=1) ab
 have dW:=bC _<|dU (d:= []) (i:=2) ab
 refine aM<|bV<|ag fun aK=>ak (.slice ar r.length cr)<|p (a8 cH aa aa ab<|aJ.ok (bd.2)<|bS ab)<|p (ld bT aa<|ca.get (i:=1) bd.2 ab)<|e<|cl AH (Ce (r.getD 1 []) false w ab) aa fun v30 dA c3=> ?_
 obtain ⟨⟨aN,bD,rfl,aC⟩,hE30⟩:=c3
 have cC:=bP.wk hE30
 refine p mv<|p (xt aa aa)<|p (xt aa aa)<|p aA<|aw<|aK<|aB fun al=>ag fun aP=>p mv<|p (db aa aa)<|nl<|aP<|cd aa (fun de=> ?_) fun de=> ?_
 have cG:eA false (r.getD 1 [])= .error bD∧bD≠0:=by
  rcases aC with ⟨_,h⟩ | h
  omega
  exact h
 exact ag fun av=>p mv<|aw<|av<|rt<|tr<|br<|tr<|aV aa<|⟨.inr ⟨bD,by unfold iW; rw [if_pos ac,Ku cn cG.1],cG.2,aa,(ah.wk hE30).dj⟩,aL.trans hE30⟩
 obtain ⟨cJ,rfl⟩:eA false (r.getD 1 [])= .ok aN∧bD=0:=by
  rcases aC with h | ⟨_,h⟩
  exact h
  omega
 refine aM<|al<|ag fun av=>ak (.slice ar r.length cr)<|p (a8 cH aa aa ab<|aJ.ok (cC.cI.2)<|bS ab)<|p (ld bT aa<|ca.get (i:=2) cC.cI.2 ab)<|e<|cl AH (Ce (r.getD 2 []) true dA ab) aa fun v40 d7 c4=> ?_
 obtain ⟨⟨a6,cZ,rfl,dq⟩,hE40⟩:=c4
 have cz:=hE30.trans hE40
 have O:=M.wk cz
 refine p mv<|p (xt aa aa)<|p (xt aa aa)<|p aA<|aw<|av<|aB fun bg=>rg aa<|p mv<|p mv<|p (nc aa)<|p (fa H2 aa)<|p (ld N2 aa<|(aX O.cells).trans aa)<|p mv<|p mv<|p (cQ (ps:= [(0,str aN),(1,str a6)]) (L:= [str aN,str a6]) Yo aa<|aa)<|e<|kQ KU aa aa aa fun dG d8 dN c2 c0=> ?_
 have bE:=cz.trans c2.md
 have C:=M.wk bE
 have a1:=ah.wk bE
 have d2:=bE.size
 refine e<|ap KU (C.o9) aa ab aa (aJ.dX c0) (aa) (aa) ab ab fun cM cO cD bJ d3 dR=> ?_
 have a2:=a1.own C.o9 bJ az
 have ao:=bJ.aH C.cells<|dC C.o9 C.cells az
 have dn:bq cO I.heap.size 369 2 cM (F.dd++ [(aN,a6)]).length (kZ<|F.dd++ [(aN,a6)]):=by rw [show kZ (F.dd++ [(aN,a6)])=kZ F.dd++ [str aN,str a6] from by simp [kZ],bL]; exact cD
 have a4:Wk I cO:=(aL.trans bE).trans' bJ fun k hk h=>by have :=(dM C.o9 h).1; omega
 refine p (nc aa)<|p (fa H2 aa)<|e<|cw RN aa aa (v:=cM) (eU cD) ao (by show _ < 13; omega) fun ba U aU=> ?_
 have aY:=eE.Aa (x:=(aN,a6)) C bJ dn U aU
 have an:=a2.oE ao U
 have Z:Wk I ba:=a4.trans' U fun k hk h=>by omega
 refine nl<|bg<|ag fun bh=>p mv<|aw<|bh<|rt<|br<|tr<|aV aa ?_
 rcases dq with ⟨aq,rfl⟩ | ⟨aq,bv⟩
 exact ⟨.inl ⟨_,by unfold iW; rw [if_pos ac,Kw cn cJ aq],aa,⟨_,vh,aY,an,⟨by simp only [bL,fA]; omega,J.sl,J.row,J.kd⟩,Z,bR⟩⟩,Z⟩
 exact ⟨.inr ⟨cZ,by unfold iW; rw [if_pos ac,Kv cn cJ aq],bv,aa,an.dj⟩,Z⟩
 have ac:¬r.getD 0 []=ff:=cg
 refine ag fun bV=>p (dV aa aa)<|aw<|bV<|cd aa (fun ch=> ?_) fun ch=> ?_
 have h1:r.getD 0 []=eI:=ch
 refine aB fun bb=>ag fun aK=>ak (.slice ar r.length cr)<|p (bK eV aa aa)<|p (db aa aa)<|nl<|aK<|cd aa (fun df=> ?_) fun df=> ?_
 exact ag fun al=>aw<|al<|rt<|tr<|br<|tr<|aV aa<|⟨.inr ⟨111,by unfold iW; rw [if_neg ac,if_pos h1,E1 ab],az,aa,ah.dj⟩,aL⟩
 have cK:r.length=2:=ab
 have dl:=bC _<|dU (d:= []) (i:=1) ab
 refine aM<|bb<|aB fun al=> ?_
 have aF:(fun w'=>Wk w w') w.drew:=(Md.refl _ _).drew
 refine bI (fun w'=>Wk w w') aa wide aF<|aC 0 aa (fun _ _=>mv) aF<|aC 1 aa (fun _ _=>nc aa) aF<|aC 2 aa (fun _ _=>fa s5 aa) aF<|aC 3 aa (fun w' a=>ld bu aa<|Wk.aO a<|(aX M.cells).trans aa) aF<|bF 4 aa (.slice ar r.length cr) aF<|aC 5 aa (fun _ _=>a8 cH aa aa ab<|aJ.ok (aJ.wk bd.2 aF)<|bS ab) aF<|aC 6 aa (fun w' a=>ld bT aa<|Wk.aO a<|ca.get (i:=1) bd.2 ab) aF<|he 7 aa aj<|cl FX (Ky F.kind (r.getD 1 []) w.drew J.kd ab) aa fun d6 dD c5=> ?_
 obtain ⟨⟨dF,rfl,cE⟩,bk⟩:=c5
 obtain ⟨cx,cy,rfl⟩:=cB cE
 have bk:=iq bk
 have O:=M.wk bk
 have bc:(fun w'=>Wk w w') dD:=Md.mono bk fun _ _ h=>h
 refine ⟨bc,?_⟩
 refine aC 8 aa (fun _ _=>mv) bc<|aC 9 aa (fun _ _=>xt aa aa) bc<|aC 10 aa (fun _ _=>xt aa aa) bc<|aC 11 aa (fun _ _=>aA) bc<|aC 12 aa (fun _ _=>aA) bc<|hn aj<|al<|aB fun aP=>rg aa<|p mv<|p mv<|p (nc aa)<|p (fa uR aa)<|p (ld xc aa<|(aX O.cells).trans aa)<|p mv<|e<|fZ KV aa aa fun dJ dE dO cA c1=> ?_
 have bH:=bk.trans cA.md
 have C:=M.wk bH
 have a1:=ah.wk bH
 have d4:=bH.size
 refine e<|ap KV (C.eT) aa ab aa (aJ.dX c1) (aa) (aa) ab ab fun cN cP cF bM d5 dS=> ?_
 have a2:=a1.own C.eT bM az
 have ao:=bM.aH C.cells<|dC C.eT C.cells az
 have c6:Tg dE 0 3 (dY F.kind<|r.getD 1 []).1.length (.slice cx (dY F.kind<|r.getD 1 []).1.length cy) ((dY F.kind<|r.getD 1 []).1.map bN):=((Tg.jM cE).mono<|jP _).wk cA.md
 have dp:bq cP I.heap.size 75 1 cN (F.aliases++ [(dY F.kind<|r.getD 1 []).1]).length (V.sa++ [.slice cx (dY F.kind<|r.getD 1 []).1.length cy]):=by rw [bL]; exact cF
 have a4:Wk I cP:=(aL.trans bH).trans' bM fun k hk h=>by have :=(dM C.eT h).1; omega
 refine p (nc aa)<|p (fa uR aa)<|e<|cw RO aa aa (v:=cN) (eU cF) ao (by show _ < 13; omega) fun ba U aU=> ?_
 have aY:=eE.z7 (x:=(dY F.kind<|r.getD 1 []).1) C c6 bM dp U aU
 have an:=a2.oE ao U
 have Z:Wk I ba:=a4.trans' U fun k hk h=>by omega
 refine nl<|aP<|ag fun av=>p mv<|aw<|av<|rt<|br<|tr<|aV aa ?_
 by_cases h:(dY F.kind<|r.getD 1 []).2=0
 exact ⟨.inl ⟨_,by unfold iW; rw [if_neg ac,if_pos h1,xg cK,yb h],by rw [h]; rfl,⟨_,vh,aY,an,⟨by simp only [bL,fA]; omega,J.sl,J.row,J.kd⟩,Z,bR⟩⟩,Z⟩
 exact ⟨.inr ⟨_,by unfold iW; rw [if_neg ac,if_pos h1,xg cK,ya h],h,aa,an.dj⟩,Z⟩
 have h1:¬r.getD 0 []=eI:=ch
 have dQ:=dh ac h1
 refine aM<|bn<|cT<|aB fun bb=>ag fun aK=>ak (.slice ar r.length cr)<|p (bK eV aa aa)<|p (db aa aa)<|p mv<|gs (t:=86) aa (fun dk=> ?_) fun dk=> ?_
 refine aI aa (aT (.slice ar r.length cr) aa)<|aI aa (bK eV aa aa)<|aI aa (db aa aa)<|p (bB aa)<|nl<|aK<|cd aa (fun dg=> ?_) fun dg=> ?_
 exact ag fun al=>aw<|al<|rt<|tr<|aV aa<|⟨.inr ⟨111,by unfold iW; rw [if_neg ac,if_neg h1,Dk ab ab],az,aa,ah.dj⟩,aL⟩
 have co:r.length=4∨r.length=5:=ab
 refine aM<|bb<|aB fun al=> ?_
 have A:(fun w'=>Wk w w') w.drew:=(Md.refl _ _).drew
 refine bI (fun w'=>Wk w w') aa wide A<|aC 0 aa (fun _ _=>mv) A<|aC 1 aa (fun _ _=>nc aa) A<|aC 2 aa (fun _ _=>fa pH aa) A<|aC 3 aa (fun w' a=>ld qe aa<|Wk.aO a<|bQ) A<|aC 4 aa (fun _ _=>mv) A<|aC 5 aa (fun _ _=>nc aa) A<|aC 6 aa (fun _ _=>fa pH aa) A<|aC 7 aa (fun w' a=>ld qe aa<|Wk.aO a<|bQ) A<|aC 8 aa (fun _ _=>bK DF aa aa) A<|aC 9 aa (fun _ _=>dK ((F.bw.length - 1:Nat):Int) aa aa<|bj ab ab) A<|aC 10 aa (fun _ _=>a8 xN aa aa ab<|aJ.ok (aJ.wk (a7 bx).2 A)<|yd ab) A<|aC 11 aa (fun w' a=>da sD aa (aa) fun j bt=>fG (f:=ng) (m:=5) (fun _=>rfl) (aJ.wk (a7 bx).2 a) (uE (by omega :F.bw.length - 1 < F.bw.length)) j bt) A<|he 12 aa aj<|fk r5 fun bW ct c7 aZ bX=> ?_
 have du:=aZ.size
 have dx:=A.size
 have b8:(fun w'=>Wk w w') ct:=A.trans aZ.md
 refine ⟨b8,?_⟩
 refine he 13 aa aj<|gj qn aa aa aa aa bX az fun G b4 b0=> ?_
 have aD:Wk w G:=(A.trans aZ.md).trans' b4 fun k hk h=>by omega
 have a5:G.heap[bW]? =some (.cells (ng<|gI F).toArray 242 (0,0)):=b0
 have b9:(fun w'=>Wk w w') G:=aD
 refine ⟨b9,?_⟩
 refine hn aj<|al<|aB fun aP=> ?_
 have E:(fun w'=>Wk G w') G.drew:=(Md.refl _ _).drew
 refine bI (fun w'=>Wk G w') aa wide E<|aC 0 aa (fun _ _=>fa x6 aa) E<|aC 1 aa (fun w' a=>ld bu aa<|Wk.aO a<|(aX a5).trans aa) E<|aC 2 aa (fun _ _=>fa BR aa) E<|aC 3 aa (fun w' a=>ld bu aa<|Wk.aO a<|(aX a5).trans aa) E<|aC 4 aa (fun _ _=>fa H8 aa) E<|aC 5 aa (fun w' a=>ld kt aa<|Wk.aO a<|(aX a5).trans aa) E<|bF 6 aa (aQ H.rb) E<|aC 7 aa (fun _ _=>nc aa) E<|aC 8 aa (fun _ _=>fa pJ aa) E<|aC 9 aa (fun w' a=>ld bu aa<|Wk.aO a<|(aX (ah.wk aD).cells).trans aa) E<|aC 10 aa (fun _ _=>cQ (ps:= [(0,au ((gI F).kind)),(1,bN (gI F).flag),(2,.bool (gI F).ek),(7,au ln)]) (L:= [au ((gI F).kind),bN (gI F).flag,.bool (gI F).ek,.string ⟨⟨[]⟩⟩,.string ⟨⟨[]⟩⟩,.string ⟨⟨[]⟩⟩,.slice none 0 0,au ln]) Lg aa<|aa) E<|he 11 aa aj<|fk DU fun aS cu c8 a0 bY=> ?_
 have dv:=a0.size
 have cb:(fun w'=>Wk G w') cu:=E.trans a0.md
 refine ⟨cb,?_⟩
 refine he 12 aa aj<|gj A4 aa aa aa aa bY az fun aG b5 b1=> ?_
 have bi:Wk G aG:=(E.trans a0.md).trans' b5 fun k hk h=>by have :=E.size; omega
 have aW:=aD.trans bi
 have cq:aG.heap[aS]? =some (.cells [au ((gI F).kind),bN (gI F).flag,.bool (gI F).ek,str [],str [],str [],.slice none 0 0,au ln].toArray 174 (0,0)):=b1
 have dt:=E.size
 have ds:=aD.size
 have cc:(fun w'=>Wk G w') aG:=bi
 refine ⟨cc,?_⟩
 refine hn aj<|aP<|ag fun av=>p mv<|ak (.slice ar r.length cr)<|e<|cl F5 (Iz I.heap.size H.fb aS F V (gI F) ln r bU ar cr aG (M.wk aW).r J.kd ab cq (bP.wk aW) co bC) aa fun dz ai b7=> ?_
 obtain ⟨ci,L,bl,b2,b3,cp⟩:=b7
 have ax:Wk w ai:=aW.trans' ci fun k hk h=>by omega
 have O:=M.wk ax
 have bo:=ah.wk ax
 have dm:¬(V.v12.ownBlock=some H.rb):=dC O.dB bo.cells az
 have cj:¬(V.v12.ownBlock=some H.fb):=dC O.dB O.cells az
 have ck:¬(V.v12.ownBlock=some aS):=fun h=>by have :=(dM M.dB h).2; omega
 refine aw<|av<|aB fun bg=> ?_
 have Y:(fun w'=>Md (fun k=>V.v12.ownBlock=some k) ai w') ai.drew:=(Md.refl _ _).drew
 refine eS (fun w'=>Md (fun k=>V.v12.ownBlock=some k) ai w') 10 aa wide Y<|bz 0 aa (fun _=>mv) (fun _=>Y)<|bz 1 aa (fun _=>mv) (fun _=>Y)<|bz 2 aa (fun _=>nc aa) (fun _=>Y)<|bz 3 aa (fun _=>fa jK aa) (fun _=>Y)<|dI 4 aa (fun w' a=>ld kb aa<|Md.aO a ((aX O.cells).trans aa) cj) Y<|dI 5 aa (fun w' a=>da rm aa (bl) fun j bt=>bO.bG ⟨_,Md.aH a b3 ck⟩ j) Y<|gP 6 aa aj<|kQ yR aa aa bl fun cY cv c9 b6 bZ=> ?_
 have ae:=iq b6.md
 have C:=O.wk ae
 have a1:=bo.wk ae
 have dy:=(ax.trans ae).size
 have bs:(fun w'=>Md (fun k=>V.v12.ownBlock=some k) ai w') cv:=Md.mono ae fun _ _ h=>h.elim
 refine ⟨bs,?_⟩
 refine gP 7 aa aj<|ap yR (C.dB) aa ab aa (aJ.dX bZ) ab (b2) ab ab fun v124 a9 bA am dw di=> ?_
 have a2:=a1.own C.dB am az
 have ao:=am.aH C.cells<|dC C.dB C.cells az
 have a4:Wk I a9:=(aL.trans<|ax.trans ae).trans' am fun k hk h=>by have :=(dM C.dB h).1; omega
 have a3:(fun w'=>Md (fun k=>V.v12.ownBlock=some k) ai w') a9:=bs.trans' am fun _ _ h=>h
 refine ⟨a3,?_⟩
 refine bz 8 aa (fun _=>nc aa) (fun _=>a3)<|bz 9 aa (fun _=>fa jK aa) (fun _=>a3)<|dH 10 aa aj aj<|cw GM aa aa (v:=v124) (eU bA) ao (by show _ < 13; omega) fun ba U aU=> ?_
 have an:=a2.oE ao U
 have Z:Wk I ba:=a4.trans' U fun k hk h=>by omega
 refine eR aj<|bg<|ag fun bh=>p mv<|aw<|bh<|rt ?_
 refine aV aa ?_
 have cs:F.rules.length=V.rn.length:=by have :=C.nx.1; rw [fM] at this; exact this.symm
 rcases cp with ⟨q,vn,aq,rfl,rfl,ce⟩ | ⟨e,aq,bv,rfl⟩
 have cm:bq a9 I.heap.size 174 8 v124 (F.rules++ [q]).length (mA<|(F.rules++ [q]).zip<|V.rn++ [vn]):=by
  rw [Ez cs,show mA (F.rules.zip V.rn++ [q].zip [vn])=mA (F.rules.zip V.rn)++jv (q,vn) from by simp [mA],bL]
  exact bA
 have aY:=eE.xi (x:=q) (vx:=vn) C (ce.wk ae) am cm U aU
 exact ⟨.inl ⟨_,by unfold iW; rw [if_neg ac,if_neg h1,aq],aa,⟨_,vh,aY,an,⟨by simp only [bL,fA]; omega,J.sl,J.row,J.kd⟩,Z,bR⟩⟩,Z⟩
 exact ⟨.inr ⟨e,by unfold iW; rw [if_neg ac,if_neg h1,aq],bv,aa,an.dj⟩,Z⟩
 have co:r.length=4∨r.length=5:=ab
 refine aE aa<|aE aa<|aE aa<|p (bp aa)<|nl<|aK<|cf aa<|aM<|bb<|aB fun al=> ?_
 have A:(fun w'=>Wk w w') w.drew:=(Md.refl _ _).drew
 refine bI (fun w'=>Wk w w') aa wide A<|aC 0 aa (fun _ _=>mv) A<|aC 1 aa (fun _ _=>nc aa) A<|aC 2 aa (fun _ _=>fa pH aa) A<|aC 3 aa (fun w' a=>ld qe aa<|Wk.aO a<|bQ) A<|aC 4 aa (fun _ _=>mv) A<|aC 5 aa (fun _ _=>nc aa) A<|aC 6 aa (fun _ _=>fa pH aa) A<|aC 7 aa (fun w' a=>ld qe aa<|Wk.aO a<|bQ) A<|aC 8 aa (fun _ _=>bK DF aa aa) A<|aC 9 aa (fun _ _=>dK ((F.bw.length - 1:Nat):Int) aa aa<|bj ab ab) A<|aC 10 aa (fun _ _=>a8 xN aa aa ab<|aJ.ok (aJ.wk (a7 bx).2 A)<|yd ab) A<|aC 11 aa (fun w' a=>da sD aa (aa) fun j bt=>fG (f:=ng) (m:=5) (fun _=>rfl) (aJ.wk (a7 bx).2 a) (uE (by omega :F.bw.length - 1 < F.bw.length)) j bt) A<|he 12 aa aj<|fk r5 fun bW ct c7 aZ bX=> ?_
 have du:=aZ.size
 have dx:=A.size
 have b8:(fun w'=>Wk w w') ct:=A.trans aZ.md
 refine ⟨b8,?_⟩
 refine he 13 aa aj<|gj qn aa aa aa aa bX az fun G b4 b0=> ?_
 have aD:Wk w G:=(A.trans aZ.md).trans' b4 fun k hk h=>by omega
 have a5:G.heap[bW]? =some (.cells (ng<|gI F).toArray 242 (0,0)):=b0
 have b9:(fun w'=>Wk w w') G:=aD
 refine ⟨b9,?_⟩
 refine hn aj<|al<|aB fun aP=> ?_
 have E:(fun w'=>Wk G w') G.drew:=(Md.refl _ _).drew
 refine bI (fun w'=>Wk G w') aa wide E<|aC 0 aa (fun _ _=>fa x6 aa) E<|aC 1 aa (fun w' a=>ld bu aa<|Wk.aO a<|(aX a5).trans aa) E<|aC 2 aa (fun _ _=>fa BR aa) E<|aC 3 aa (fun w' a=>ld bu aa<|Wk.aO a<|(aX a5).trans aa) E<|aC 4 aa (fun _ _=>fa H8 aa) E<|aC 5 aa (fun w' a=>ld kt aa<|Wk.aO a<|(aX a5).trans aa) E<|bF 6 aa (aQ H.rb) E<|aC 7 aa (fun _ _=>nc aa) E<|aC 8 aa (fun _ _=>fa pJ aa) E<|aC 9 aa (fun w' a=>ld bu aa<|Wk.aO a<|(aX (ah.wk aD).cells).trans aa) E<|aC 10 aa (fun _ _=>cQ (ps:= [(0,au ((gI F).kind)),(1,bN (gI F).flag),(2,.bool (gI F).ek),(7,au ln)]) (L:= [au ((gI F).kind),bN (gI F).flag,.bool (gI F).ek,.string ⟨⟨[]⟩⟩,.string ⟨⟨[]⟩⟩,.string ⟨⟨[]⟩⟩,.slice none 0 0,au ln]) Lg aa<|aa) E<|he 11 aa aj<|fk DU fun aS cu c8 a0 bY=> ?_
 have dv:=a0.size
 have cb:(fun w'=>Wk G w') cu:=E.trans a0.md
 refine ⟨cb,?_⟩
 refine he 12 aa aj<|gj A4 aa aa aa aa bY az fun aG b5 b1=> ?_
 have bi:Wk G aG:=(E.trans a0.md).trans' b5 fun k hk h=>by have :=E.size; omega
 have aW:=aD.trans bi
 have cq:aG.heap[aS]? =some (.cells [au ((gI F).kind),bN (gI F).flag,.bool (gI F).ek,str [],str [],str [],.slice none 0 0,au ln].toArray 174 (0,0)):=b1
 have dt:=E.size
 have ds:=aD.size
 have cc:(fun w'=>Wk G w') aG:=bi
 refine ⟨cc,?_⟩
 refine hn aj<|aP<|ag fun av=>p mv<|ak (.slice ar r.length cr)<|e<|cl F5 (Iz I.heap.size H.fb aS F V (gI F) ln r bU ar cr aG (M.wk aW).r J.kd ab cq (bP.wk aW) co bC) aa fun dz ai b7=> ?_
 obtain ⟨ci,L,bl,b2,b3,cp⟩:=b7
 have ax:Wk w ai:=aW.trans' ci fun k hk h=>by omega
 have O:=M.wk ax
 have bo:=ah.wk ax
 have dm:¬(V.v12.ownBlock=some H.rb):=dC O.dB bo.cells az
 have cj:¬(V.v12.ownBlock=some H.fb):=dC O.dB O.cells az
 have ck:¬(V.v12.ownBlock=some aS):=fun h=>by have :=(dM M.dB h).2; omega
 refine aw<|av<|aB fun bg=> ?_
 have Y:(fun w'=>Md (fun k=>V.v12.ownBlock=some k) ai w') ai.drew:=(Md.refl _ _).drew
 refine eS (fun w'=>Md (fun k=>V.v12.ownBlock=some k) ai w') 10 aa wide Y<|bz 0 aa (fun _=>mv) (fun _=>Y)<|bz 1 aa (fun _=>mv) (fun _=>Y)<|bz 2 aa (fun _=>nc aa) (fun _=>Y)<|bz 3 aa (fun _=>fa jK aa) (fun _=>Y)<|dI 4 aa (fun w' a=>ld kb aa<|Md.aO a ((aX O.cells).trans aa) cj) Y<|dI 5 aa (fun w' a=>da rm aa (bl) fun j bt=>bO.bG ⟨_,Md.aH a b3 ck⟩ j) Y<|gP 6 aa aj<|kQ yR aa aa bl fun cY cv c9 b6 bZ=> ?_
 have ae:=iq b6.md
 have C:=O.wk ae
 have a1:=bo.wk ae
 have dy:=(ax.trans ae).size
 have bs:(fun w'=>Md (fun k=>V.v12.ownBlock=some k) ai w') cv:=Md.mono ae fun _ _ h=>h.elim
 refine ⟨bs,?_⟩
 refine gP 7 aa aj<|ap yR (C.dB) aa ab aa (aJ.dX bZ) ab (b2) ab ab fun v124 a9 bA am dw di=> ?_
 have a2:=a1.own C.dB am az
 have ao:=am.aH C.cells<|dC C.dB C.cells az
 have a4:Wk I a9:=(aL.trans<|ax.trans ae).trans' am fun k hk h=>by have :=(dM C.dB h).1; omega
 have a3:(fun w'=>Md (fun k=>V.v12.ownBlock=some k) ai w') a9:=bs.trans' am fun _ _ h=>h
 refine ⟨a3,?_⟩
 refine bz 8 aa (fun _=>nc aa) (fun _=>a3)<|bz 9 aa (fun _=>fa jK aa) (fun _=>a3)<|dH 10 aa aj aj<|cw GM aa aa (v:=v124) (eU bA) ao (by show _ < 13; omega) fun ba U aU=> ?_
 have an:=a2.oE ao U
 have Z:Wk I ba:=a4.trans' U fun k hk h=>by omega
 refine eR aj<|bg<|ag fun bh=>p mv<|aw<|bh<|rt ?_
 refine aV aa ?_
 have cs:F.rules.length=V.rn.length:=by have :=C.nx.1; rw [fM] at this; exact this.symm
 rcases cp with ⟨q,vn,aq,rfl,rfl,ce⟩ | ⟨e,aq,bv,rfl⟩
 have cm:bq a9 I.heap.size 174 8 v124 (F.rules++ [q]).length (mA<|(F.rules++ [q]).zip<|V.rn++ [vn]):=by
  rw [Ez cs,show mA (F.rules.zip V.rn++ [q].zip [vn])=mA (F.rules.zip V.rn)++jv (q,vn) from by simp [mA],bL]
  exact bA
 have aY:=eE.xi (x:=q) (vx:=vn) C (ce.wk ae) am cm U aU
 exact ⟨.inl ⟨_,by unfold iW; rw [if_neg ac,if_neg h1,aq],aa,⟨_,vh,aY,an,⟨by simp only [bL,fA]; omega,J.sl,J.row,J.kd⟩,Z,bR⟩⟩,Z⟩
 exact ⟨.inr ⟨e,by unfold iW; rw [if_neg ac,if_neg h1,aq],bv,aa,an.dj⟩,Z⟩
end Go.Hb.zP
end
section
namespace Go.Hb.EG
open Go.Hb.zP Go.Hb.nz Go.Hb.ow
theorem drop_nil {α:Type} {l:List α} {k:Nat} (h:l.length≤k):l.drop k= []:=gU h
theorem Vg {F:aR} {c:cX} :gI {F with bw:=F.bw++ [c]} =c:=by
 unfold gI
 simp [cR]
theorem QO {eof ln x n:Nat} {F:aR} {rows:List Rw} {r:List Tx} (i:r.length=4) (hk:r.getD 0 []≠ff) (a:r.getD 0 []≠eI) (h:gH F (r.getD 1 [])= .ok x) (h1:r.getD 2 []= [89]∨r.getD 2 []= [78]) (h2:eX (r.getD 3 []) 1024= .ok n) (h3:¬1024 < F.rules.length+n):
 gM eof F rows ln r=gO (kF r) eof n {F with bw:=F.bw++ [(⟨x,(if r.getD 0 []=di then 2 else 1:Nat),(decide (r.getD 2 []= [89])),F.rules.length,n⟩:cX)]} rows:=by
 rw [IK i,TT hk a,Vg]
 unfold gM
 rw [h]
 simp only
 rw [if_neg (fun h3=>h1.elim h3.1 h3.2),h2]
 simp only
 rw [if_neg h3]
 all_goals rfl
theorem W7 {eof ln n:Nat} {F:aR} {rows:List Rw} {r:List Tx} (a:r.length=2) (hk:r.getD 0 []=ff) (h2:eX (r.getD 1 []) 256= .ok n):kn eof F rows ln r=gO (kF r) eof n F rows:=by
 rw [IJ ab,hk,TS]
 unfold kn
 rw [h2]
 all_goals rfl
theorem N8 {eof ln n:Nat} {F:aR} {seen:List Tx} {rows:List Rw} {r:List Tx} (i:r.length=2) (hk:r.getD 0 []=eI) (a:¬(fH∈seen∨di∈seen)) (h2:eX (r.getD 1 []) 1024= .ok n):jS eof F seen rows ln r=gO (kF r) eof n F rows:=by
 rw [IJ ab,hk,TR]
 unfold jS
 rw [if_neg a,h2]
 all_goals rfl
theorem TZ {F:aR} {V:ej} {i o x:Nat} (h5:F.sp.length=5) (hi:i < 5) (q:o=3 +i):(nQ F V).set o (bN x)=nQ {F with sp:=F.sp.set i x} V:=by
 subst q
 obtain ⟨k,cs,tr,sp,le,A,al,cl,ru⟩:=F
 match sp,h5 with
 | [a,b,c,d,e],_=>
   match i,hi with
   | 0,_=>rfl
   | 1,_=>rfl
   | 2,_=>rfl
   | 3,_=>rfl
   | 4,_=>rfl
theorem Du {s:Tx} (h:s∈ea):ea.idxOf s < 5:=by
 have :∀ k∈ea,ea.idxOf k < 5:=az
 exact this s h
theorem Dt {s:Tx} (h:s∈ea):pR s=(ea.idxOf s:Nat):=if_pos h
section
variable {eof ln:Nat} {F:aR} {seen:List Tx} {rows:List Rw} {r:List Tx}
theorem ID (h:r.getD 0 []∈ea):cg eof F seen rows ln r=ko F rows ln r:=by unfold cg; rw [if_pos h]
theorem T6 (h:r.getD 0 []=ik):cg eof F seen rows ln r=kH F seen rows ln r:=by unfold cg; rw [h]; rfl
theorem IC (h:r.getD 0 []=iH):cg eof F seen rows ln r=mK F rows ln r:=by unfold cg; rw [h]; rfl
theorem IE (h:r.getD 0 []=iR):cg eof F seen rows ln r=mO F rows ln r:=by unfold cg; rw [h]; rfl
theorem Ci (h:r.getD 0 []=ki):cg eof F seen rows ln r=kX F rows ln r:=by unfold cg; rw [h]; rfl
theorem IB (h:r.getD 0 []=ff):cg eof F seen rows ln r=kn eof F rows ln r:=by unfold cg; rw [h]; rfl
theorem yh (h:r.getD 0 []=eI):cg eof F seen rows ln r=jS eof F seen rows ln r:=by unfold cg; rw [h]; rfl
theorem T5 (h:r.getD 0 []=fH∨r.getD 0 []=di):cg eof F seen rows ln r=gM eof F rows ln r:=by rcases h with h | h <;> (unfold cg; rw [h]; rfl)
theorem WG {k:Tx} (hw:width k≠0) (a:k∉ea) (h1:k≠ik) (h2:k≠iH) (h3:k≠iR) (h4:k≠ki) (h5:k≠ff) (i:k≠eI):k=fH∨k=di:=by
 unfold width at hw
 rw [if_neg (by simp [a,h1,h2,h3,h4,h5,i])] at hw
 by_cases h:k=fH∨k=di
 · exact h
 · rw [if_neg h] at hw; exact absurd rfl hw
end
theorem fN.eq {a:World} {H:gl} {seen:List Tx} {X Y:Except (Nat×Nat) (aR×List Rw)} {v:Value} {w:World} (h:fN a H seen X v w) (he:Y=X):fN a H seen Y v w:=he ▸ h
theorem fN.er {a:World} {H:gl} {seen:List Tx} {X:Except (Nat×Nat) (aR×List Rw)} {w:World} {l e:Nat} (h:X= .error (l,e)) (he:e≠0) (i:Hb.aO w.heap H.rb 5=some (.int .i64 (l:Nat))) (hw:Wk a w):fN a H seen X (.int .i64 (e:Nat)) w:=⟨.inr ⟨l,e,h,he,rfl,i⟩,hw⟩
theorem Cb (M:World) (H:gl) (F:aR) (k ln:Nat) (seen hd:List Tx) (bH:Nat) (ac:Option Addr) (ai n:Nat) (w:World) (a2:GS M H) (C:mo M w H F k ln seen) (cc:Tg M bH 9 hd.length (.slice ac hd.length ai) (hd.map str)) (cQ:hd.length=2∨hd.length=4) (cT:n≤70000) (cm:hd.getD 0 []≠ff→hd.getD 0 []≠eI→0 < F.bw.length):
 bm ay 178 (bf [aQ H.rb,.slice ac hd.length ai,au n]) w (fN M H seen<|gO (kF hd) H.eof n F<|H.rows.drop k):=by
 have aN:∀ w,Wk M w→ca w.heap ac hd:=fun w h=>(cc.wk h).cI.2
 obtain ⟨a0,bZ,bx⟩:∃ a c,H.vr= .slice a H.rows.length c:=by obtain ⟨B0,h1,_⟩:=a2; exact h1.slice
 have a9:∀ (w:World) (k l:Nat) (s:List Tx) (vh:Value),gY w M.heap.size H k l s vh→Hb.aO w.heap H.rb 1=some (.slice a0 H.rows.length bZ):=fun w k l s vh h=>by rw [← bx]; exact (aX h.cells).trans rfl
 refine enter func178 aa ntmps178 aa<|ag fun bL=>aw<|bL<|aB fun bQ=>ag fun bR=>aw<|bR<|aH<|lp (fun bd aG O=> ∃ (i:Nat) (F':aR) (k' bb:Nat),(i≤n)∧(gO (kF hd) H.eof (n - i) F' (H.rows.drop k')=gO (kF hd) H.eof n F (H.rows.drop k))∧(mo M O H F' k' bb seen)∧(F'.bw=F.bw)∧(aG 0=aQ H.rb)∧(aG 1= .slice ac hd.length ai)∧(aG 2=au n)∧(aG 7=au i)∧(n - i=bd)) _ ⟨0,F,k,ln,ab,aa,C,aa,aa,aa,aa,aa,aa⟩ ?_
 rintro bd aG O ⟨i,F',k',bb,hi,U,bk,bl,cy,cz,cA,cB,rfl⟩
 refine fx 0 cy<|fx 1 cz<|fx 2 cA<|fx 7 cB ?_
 have cb:=bk
 obtain ⟨V,vh,b3,ap,aZ,bg,cR⟩:=bk
 have cS:H.rows.length≤70000:=by obtain ⟨_,_,_,h⟩:=a2; exact h
 refine aB fun bU=>ag fun bV=>ak (au i)<|ak (au n)<|p (lt aa aa)<|nl<|bV<|cd aa (fun ci=> ?_) fun ci=> ?_
 refine aM<|bU<|aB fun aW=>aH<|aB fun bW=>aB fun bY=> ?_
 have J:(fun w'=>Wk O w') O.drew:=(Md.refl _ _).drew
 refine bI (fun w'=>Wk O w') aa wide J<|bF 0 aa (aQ H.rb) J<|aC 1 aa (fun _ _=>nc aa) J<|aC 2 aa (fun _ _=>fa oH aa) J<|aC 3 aa (fun w' C=>ld bu aa<|Wk.aO C<|(aX ap.cells).trans aa) J<|bF 4 aa (aQ H.rb) J<|aC 5 aa (fun _ _=>nc aa) J<|aC 6 aa (fun _ _=>fa BQ aa) J<|aC 7 aa (fun w' C=>ld zX aa<|Wk.aO C<|a9 _ _ _ _ _ ap) J<|aC 8 aa (fun _ _=>bK y6 aa aa) J<|aC 9 aa (fun _ _=>ge aa aa) J<|hn aj ?_
 have aq:=ap.wk J
 have b4:=b3.wk J
 have a1:=bg.trans J
 refine bY<|cd aa (fun cj=> ?_) fun cj=> ?_
 have cx:H.rows.drop k'= []:=drop_nil ab
 rw [cx] at U
 refine ag fun aY=>ak (aQ H.rb)<|ak (aQ H.rb)<|p (nc aa)<|p (fa Tn aa)<|p (ld bu aa<|(aX aq.cells).trans aa)<|p (nc aa)<|p (fa pJ aa)<|e<|cw eZ aa aa (v:=au<|H.eof) aa aq.cells (by show _ < 6; omega) fun cJ bi b0=> ?_
 have b7:=aq.dy (k':=k') (ln':=H.eof) bi b0
 have ce:Wk M cJ:=a1.trans' bi fun q bs h=>by have :=ap.lo; omega
 exact nl<|aY<|ag fun aU=>aw<|aU<|rt<|tr<|br<|tr<|tr<|br<|tr<|aV aa<|fN.er (TP U ab) az b7.dj ce
 obtain ⟨Y,Z,ar,cr,cL,cM,aS,bA,aI,bv,⟨bG,aE⟩,hvl⟩:=a2.get a1 (k:=k') ab
 rw [bx] at bA
 cases bA
 have cn:=congrArg List.length aS
 simp only [cO] at cn
 rw [aS] at U
 have aF:=aZ.row (Y,Z)<|by rw [aS]; exact Nk ..
 have cU:0 < Z.length:=lG.2 aF.1
 have cP:=aZ.len
 refine aM<|bW<|aB fun aY=> ?_
 have G:(fun w'=>Wk O.drew w') O.drew.drew:=(Md.refl _ _).drew
 refine bI (fun w'=>Wk O.drew w') aa wide G<|bF 0 aa (aQ H.rb) G<|aC 1 aa (fun _ _=>nc aa) G<|aC 2 aa (fun _ _=>fa BQ aa) G<|aC 3 aa (fun w' C=>ld zX aa<|Wk.aO C<|a9 _ _ _ _ _ aq) G<|bF 4 aa (aQ H.rb) G<|aC 5 aa (fun _ _=>nc aa) G<|aC 6 aa (fun _ _=>fa oH aa) G<|aC 7 aa (fun w' C=>ld bu aa<|Wk.aO C<|(aX aq.cells).trans aa) G<|aC 8 aa (fun _ _=>a8 nN aa aa ab<|aJ.ok (aI)<|lQ ab) G<|aC 9 aa (fun _ _=>fa uX aa) G<|aC 10 aa (fun w' C=>ld jR aa<|Wk.aO C<|lR aI bv 1 az) G<|aC 11 aa (fun _ _=>aA) G<|hn aj ?_
 have aD:=aq.wk G
 refine aY<|aB fun aU=> ?_
 have E:(fun w'=>Wk O.drew.drew w') O.drew.drew.drew:=(Md.refl _ _).drew
 refine eS (fun w'=>Wk O.drew.drew w') 14 aa wide E<|bC 0 aa (aQ H.rb) E<|bC 1 aa (aQ H.rb) E<|bz 2 aa (fun _=>nc aa) (fun _=>E)<|bz 3 aa (fun _=>fa BQ aa) (fun _=>E)<|dI 4 aa (fun w' C=>ld zX aa<|Wk.aO C<|a9 _ _ _ _ _ aD) E<|bC 5 aa (aQ H.rb) E<|bz 6 aa (fun _=>nc aa) (fun _=>E)<|bz 7 aa (fun _=>fa oH aa) (fun _=>E)<|dI 8 aa (fun w' C=>ld bu aa<|Wk.aO C<|(aX aD.cells).trans aa) E<|bz 9 aa (fun _=>a8 nN aa aa ab<|aJ.ok (aI)<|lQ ab) (fun _=>E)<|bz 10 aa (fun _=>fa s9 aa) (fun _=>E)<|dI 11 aa (fun w' C=>ld bu aa<|Wk.aO C<|lR (aJ.wk aI G) bv 0 az) E<|bz 12 aa (fun _=>nc aa) (fun _=>E)<|bz 13 aa (fun _=>fa pJ aa) (fun _=>E)<|dH 14 aa aj aj<|cw eZ aa aa (v:=au Y) aa (aD.wk E).cells (by show _ < 6; omega) fun cK a3 b1=> ?_
 have aK:=(aD.wk E).dy (k':=k') (ln':=Y) a3 b1
 have b5:=((b4.wk G).wk E).rb (aD.wk E) a3
 have cg:Wk M cK:=((a1.trans G).trans E).trans' a3 fun q bs h=>by have :=ap.lo; omega
 refine eR aj<|aU<|ag fun bM=>ak (aQ H.rb)<|ak (aQ H.rb)<|p (nc aa)<|p (fa oH aa)<|p (ld bu aa<|(aX aK.cells).trans aa) ?_
 refine p (bE ((k'+1:Nat):Int) aa aa<|bj ab ab)<|p (nc aa)<|p (fa oH aa)<|e<|cw eZ aa aa (v:=au<|k'+1) aa aK.cells (by show _ < 6; omega) fun ae a4 b2=> ?_
 have aL:=aK.dy (k':=k'+1) (ln':=Y) a4 b2
 have b6:=b5.rb aK a4
 have am:Wk M ae:=cg.trans' a4 fun q bs h=>by have :=ap.lo; omega
 refine nl<|bM<|aB fun bN=>aB fun bO=> ?_
 have I:(fun w'=>Wk ae w') ae.drew:=(Md.refl _ _).drew
 refine bI (fun w'=>Wk ae w') aa wide I<|aC 0 aa (fun _ _=>mv) I<|aC 1 aa (fun _ _=>a8 cH aa aa ab<|aJ.ok ((aE.wk am).cI.2)<|bS ab) I<|aC 2 aa (fun w' C=>ld bT aa<|Wk.aO C<|ca.get (i:=0) (aE.wk am).cI.2 ab) I<|bF 3 aa (.slice ac hd.length ai) I<|aC 4 aa (fun _ _=>a8 cH aa aa ab<|aJ.ok (aN _ am)<|bS ab) I<|aC 5 aa (fun w' C=>ld bT aa<|Wk.aO C<|ca.get (i:=0) (aN _ am) ab) I<|aC 6 aa (fun _ _=>oO aa aa) I<|hn aj ?_
 have al:=am.trans I
 refine bO<|cd aa (fun a5=> ?_) fun a5=> ?_
 have ao:Z.getD 0 []≠hd.getD 0 []:=a5
 exact ag fun ah=>aw<|ah<|rt<|tr<|br<|tr<|tr<|br<|tr<|aV aa<|fN.er (Ca U ab<|Uo ao) az (aL.wk I).dj al
 have ao:Z.getD 0 []=hd.getD 0 []:=jk.1 a5
 refine aM<|bN ?_
 refine ed (fun av bc=>(Z.take (kF hd).length=kF hd)∧(Wk ae bc)∧(av 0=aQ H.rb)∧(av 1= .slice ac hd.length ai)∧(av 2=au n)∧(av 7=au i)∧(av 8= .slice ar Z.length cr)) ?_ ?_
 refine aB fun ah=> ?_
 have A:(fun w'=>Wk ae.drew w') ae.drew.drew:=(Md.refl _ _).drew
 refine bI (fun w'=>Wk ae.drew w') aa wide A<|bF 0 aa (.slice ac hd.length ai) A<|aC 1 aa (fun _ _=>bK eV aa aa) A<|aC 2 aa (fun _ _=>bJ aa aa) A<|aC 3 aa (fun _ _=>mv) A<|iQ (t:=75) aa (fun co=> ?_) fun co=> ?_
 refine bh 4 aa (fun _ _=>mv) A<|bh 5 aa (fun _ _=>bK eV aa aa) A<|bh 6 aa (fun _ _=>lt aa aa) A<|bh 7 aa (fun _ _=>mv) A<|iQ (t:=79) aa (fun cp=> ?_) fun cp=> ?_
 exact a6 8 aa A<|a6 9 aa A<|a6 10 aa A<|a6 11 aa A<|a6 12 aa A<|a6 13 aa A<|a6 14 aa A<|bh 15 aa (fun _ _=>bB aa) A<|aC 16 aa (fun _ _=>bB aa) A<|hn aj<|ah<|ct aa<|ag fun ax=>p aA<|nl<|ax<|rt<|tr<|br<|tr<|tr<|br<|tr<|aV aa<|fN.er (Ca U ab<|IM ab<|.inl ab) az ((aL.wk I).wk A).dj<|al.trans A
 refine bh 8 aa (fun _ _=>mv) A<|bh 9 aa (fun _ _=>a8 cH aa aa ab<|aJ.ok ((aE.wk al).cI.2)<|bS ab) A<|bh 10 aa (fun w' C=>ld bT aa<|Wk.aO C<|ca.get (i:=1) (aE.wk al).cI.2 ab) A<|bh 11 aa (fun _ _=>aT (.slice ac hd.length ai) aa) A<|bh 12 aa (fun _ _=>a8 cH aa aa ab<|aJ.ok (aN _ al)<|bS ab) A<|bh 13 aa (fun w' C=>ld bT aa<|Wk.aO C<|ca.get (i:=1) (aN _ al) ab) A<|bh 14 aa (fun _ _=>oO aa aa) A<|bh 15 aa (fun _ _=>bp aa) A<|aC 16 aa (fun _ _=>bB aa) A<|hn aj<|ah<|cd aa (fun a7=> ?_) fun a7=> ?_
 exact ag fun ax=>aw<|ax<|rt<|tr<|br<|tr<|tr<|br<|tr<|aV aa<|fN.er (Ca U ab<|IM ab<|.inr a7) az ((aL.wk I).wk A).dj<|al.trans A
 exact aM<|tn<|⟨(IN ao aF.1 fun _=>⟨ab,jk.1 a7⟩),(I.trans A),aa,aa,aa,aa,aa⟩
 exact a6 4 aa A<|a6 5 aa A<|a6 6 aa A<|a6 7 aa A<|l6 8 aa aj aa aa aa A<|l6 9 aa aj aa aa aa A<|l6 10 aa aj aa aa aa A<|l6 11 aa aj aa aa aa A<|l6 12 aa aj aa aa aa A<|l6 13 aa aj aa aa aa A<|l6 14 aa aj aa aa aa A<|a6 15 aa A<|aC 16 aa (fun _ _=>bp aa) A<|hn aj<|ah<|cf aa<|aM<|tn<|⟨(IN ao aF.1 fun h=>absurd h ab),(I.trans A),aa,aa,aa,aa,aa⟩
 rintro av bc ⟨bt,aP,cC,cD,cE,cF,cG⟩
 refine fx 0 cC<|fx 1 cD<|fx 2 cE<|fx 7 cF<|fx 8 cG<|ag fun ah=>ak (aQ H.rb)<|ak (.slice ar Z.length cr)<|e<|cl Px (TW M H F' (k'+1) Y seen Z bG ar cr bc ⟨V,vh,b6.wk aP,aL.wk aP,nA.pF (aS ▸ aZ),am.trans aP,ab⟩ (aE.wk<|am.trans aP) aF.1 aF.2.2 ab fun h1 h2=>by rw [bl]; exact cm (ao ▸ h1)<|ao ▸ h2) aa fun v91 bD b8=> ?_
 obtain ⟨cs,ch⟩:=b8
 obtain ⟨cN,rfl,bq⟩:∃ e:Nat,v91=au e∧((e=0∧∃ an,iW F' Y Z= .ok an∧mo M bD H an (k'+1) Y seen)∨(e≠0∧iW F' Y Z= .error e∧Hb.aO bD.heap H.rb 5=some (au Y))):=by
  rcases cs with ⟨an,h1,h2,h3⟩ | ⟨e,h1,h2,h3,h4⟩
  exact ⟨0,h2,.inl ⟨aa,an,h1,h3⟩⟩
  exact ⟨e,h3,.inr ⟨h2,h1,h4⟩⟩
 refine aw<|ah<|ag fun ax=>p mv<|p (db aa aa)<|nl<|ax<|cd aa (fun ck=> ?_) fun ck=> ?_
 obtain ⟨cv,cq,cu⟩:=bq.resolve_left fun h=>by omega
 exact ag fun bP=>p mv<|aw<|bP<|rt<|br<|tr<|tr<|br<|tr<|aV aa<|fN.er (TN U ab bt cq) cv cu ch
 obtain ⟨_,an,bo,b9⟩:=bq.resolve_right fun h=>by omega
 exact aM<|bn<|aW<|rg aa<|ak (au i)<|p (ad aa aa<|bX ab)<|p aA<|nl<|tn<|⟨_,ab,i+1,an,k'+1,Y,ab,(by rw [show n - (i+1)=n - i - 1 by omega]; exact TQ U ab bt bo),b9,((TV bo).1.trans bl),aa,aa,aa,aa,aa⟩
 refine ext<|ba<|ba<|be<|bQ<|ag fun aW=>p aA<|nl<|aW<|rt<|aV aa ?_
 rw [show n - i=0 by omega] at U
 exact ⟨.inl ⟨F',k',bb,TO U,aa,cb⟩,bg⟩
theorem TB (E:World) (H:gl) (F:aR) (k ln:Nat) (seen r:List Tx) (ba:Nat) (ar:Option Addr) (cr:Nat) (w:World) (b0:GS E H) (q:mo E w H F k ln seen) (bh:Tg E ba 9 r.length (.slice ar r.length cr) (r.map str)) (bv:∀ x∈r,x.length≤70000) (cO:F.dd.length+F.aliases.length+F.bw.length+F.rules.length+(H.rows.drop k).length < 70000) (bu:r.length=4) (a3:r.getD 0 []=fH∨r.getD 0 []=di):
 bm ay 179 (bf [aQ H.rb,.slice ar r.length cr]) w (fN E H seen<|gM H.eof F (H.rows.drop k) ln r):=by
 have cN:=q
 obtain ⟨V,vh,ac,G,ai,Z,cm⟩:=q
 have C:∀ w,Wk E w→ca w.heap ar r:=fun w h=>(bh.wk h).cI.2
 have cY:=G.lo
 have cV:=ac.lo
 have cS:=ai.len
 have cg:=ai.sl
 have c2:=(cU.1 G.cells).1
 have co:r.getD 0 []≠ff:=by rcases a3 with h | h <;> rw [h] <;> decide
 have cp:r.getD 0 []≠eI:=by rcases a3 with h | h <;> rw [h] <;> decide
 have c0:(r.getD 1 []).length≤70000:=bv _<|dU ab
 have c1:(r.getD 3 []).length≤70000:=bv _<|dU ab
 obtain ⟨a12,kz,cF⟩:=cB ac.dB
 have bk:Hb.aO w.heap H.fb 12=some (.slice a12 F.rules.length kz):=by rw [← cF]; exact (aX ac.cells).trans rfl
 refine enter func179 aa ntmps179 aa<|ag fun bD=>aw<|bD<|ag fun bJ=>ak (aQ H.rb)<|ak (.slice ar r.length cr)<|p (a8 cH aa aa ab<|aJ.ok (C _ Z)<|bS ab)<|p (ld bT aa<|ca.get (i:=1) (C _ Z) ab)<|e<|cl FI (Is E.heap.size H F V k ln seen vh (r.getD 1 []) w ac G ai.kd ab ab) aa fun c8 cJ b3=> ?_
 obtain ⟨⟨x,aU,rfl,br⟩,hE14⟩:=b3
 have O:=Z.trans hE14
 refine p mv<|p (xt aa aa)<|p (xt aa aa)<|p aA<|aw<|bJ<|aB fun bM=>ag fun bP=>p mv<|p (db aa aa)<|nl<|bP<|cd aa (fun ch=> ?_) fun ch=> ?_
 have bo:gH F (r.getD 1 [])= .error aU∧aU≠0:=by
  rcases br with ⟨_,_,h⟩ | h
  omega
  exact h
 exact ag fun U=>p mv<|aw<|U<|rt<|tr<|aV aa<|fN.er (AY bo.1) bo.2 (G.wk hE14).dj O
 obtain ⟨aG,c3,_⟩:gH F (r.getD 1 [])= .ok x∧x≠0∧aU=0:=by
  rcases br with h | ⟨_,h⟩
  exact h
  omega
 refine aM<|bM ?_
 refine ed (fun aK a9=>(r.getD 2 []= [89]∨r.getD 2 []= [78])∧(a9=cJ)∧(aK 0=aQ H.rb)∧(aK 1= .slice ar r.length cr)∧(aK 5=bN x)) ?_ ?_
 refine ag fun U=>ak (.slice ar r.length cr)<|p (a8 cH aa aa ab<|aJ.ok (C _ O)<|bS ab)<|p (ld bT aa<|ca.get (i:=2) (C _ O) ab)<|p (oO aa aa)<|p mv<|gs (t:=24) aa (fun a2=> ?_) fun a2=> ?_
 refine aI aa (aT (.slice ar r.length cr) aa)<|aI aa (a8 cH aa aa ab<|aJ.ok (C _ O)<|bS ab)<|aI aa (ld bT aa<|ca.get (i:=2) (C _ O) ab)<|aI aa (oO aa aa)<|p (bB aa)<|nl<|U<|cd aa (fun a0=> ?_) fun a0=> ?_
 exact ag fun aP=>aw<|aP<|rt<|tr<|aV aa<|fN.er (AZ aG a2 a0) az (G.wk hE14).dj O
 exact aM<|tn<|⟨(.inr<|jk.1 a0),aa,aa,aa,aa⟩
 exact aE aa<|aE aa<|aE aa<|aE aa<|p (bp aa)<|nl<|U<|cf aa<|aM<|tn<|⟨(.inl<|jk.1 a2),aa,aa,aa,aa⟩
 rintro aK a9 ⟨a5,cG,cv,cx,cy⟩
 refine fx 0 cv<|fx 1 cx<|fx 5 cy ?_
 subst cG
 have aZ:=O
 refine ag fun U=>ak (.slice ar r.length cr)<|p (a8 cH aa aa ab<|aJ.ok (C _ aZ)<|bS ab)<|p (ld bT aa<|ca.get (i:=3) (C _ aZ) ab)<|e<|cl ry (rS (r.getD 3 []) 1024 a9 ab ab) aa fun c9 ae b7=> ?_
 obtain ⟨rfl,bc⟩:=b7
 have aD:=aZ.trans bc
 have I:=hE14.trans bc
 have ct:=qJ (r.getD 3 []) 1024
 refine p mv<|p (xt aa aa)<|p (xt aa aa)<|p aA<|aw<|U<|aB fun aP=>ag fun bQ=>p mv<|p (db aa aa)<|nl<|bQ<|cd aa (fun ci=> ?_) fun ci=> ?_
 refine ag fun aS=>p mv<|aw<|aS<|rt<|tr<|aV aa ?_
 have bb:=pO (s:=r.getD 3 []) (most:=1024) ab
 show fN E H seen _ (.int .i64 (dZ (r.getD 3 []) 1024).2) ae
 rw [bb.2]
 exact fN.er (Gq aG a5 bb.1) az (G.wk I).dj aD
 have a4:=nW (by omega :(dZ (r.getD 3 []) 1024).2=0)
 have cs:=ct ab
 obtain ⟨n,aF⟩:∃ n,n=(dZ (r.getD 3 []) 1024).1:=⟨_,rfl⟩
 rw [← aF] at a4 cs
 refine aM<|aP<|aB fun aS=>ag fun bR=>ak (aQ H.rb)<|p (nc aa)<|p (fa lO aa)<|p (ld ig aa<|(aX (G.wk I).cells).trans aa)<|p (nc aa)<|p (fa jK aa)<|p (ld kb aa<|Wk.aO I bk)<|p (bK tG aa aa)<|p mv<|p (bE ((F.rules.length+(dZ (r.getD 3 []) 1024).1:Nat):Int) aa aa<|bj ab ab)<|p (gt aa aa)<|nl<|bR<|cd aa (fun cj=> ?_) fun cj=> ?_
 exact ag fun aL=>aw<|aL<|rt<|tr<|aV aa<|fN.er (Gr aG a5 a4 ab) az (G.wk I).dj aD
 refine aM<|aS<|aB fun aL=> ?_
 have a:(fun w'=>Wk ae w') ae.drew:=(Md.refl _ _).drew
 refine bI (fun w'=>Wk ae w') aa wide a<|bF 0 aa (bN x) a<|bF 1 aa (.slice ar r.length cr) a<|aC 2 aa (fun _ _=>a8 cH aa aa ab<|aJ.ok (C _ aD)<|bS ab) a<|aC 3 aa (fun w' q=>ld bT aa<|Wk.aO q<|ca.get (i:=2) (C _ aD) ab) a<|aC 4 aa (fun _ _=>dV aa aa) a<|bF 5 aa (aQ H.rb) a<|aC 6 aa (fun _ _=>nc aa) a<|aC 7 aa (fun _ _=>fa lO aa) a<|aC 8 aa (fun w' q=>ld ig aa<|Wk.aO q<|(aX (G.wk I).cells).trans aa) a<|aC 9 aa (fun _ _=>nc aa) a<|aC 10 aa (fun _ _=>fa jK aa) a<|aC 11 aa (fun w' q=>ld kb aa<|Wk.aO q<|Wk.aO I bk) a<|aC 12 aa (fun _ _=>bK tG aa aa) a<|aC 13 aa (fun _ _=>mv) a<|aC 14 aa (fun _ _=>cQ (ps:= [(0,bN x),(1,au 2),(2,.bool (decide (r.getD 2 []= [89]))),(3,au (F.rules.length)),(4,au ((dZ (r.getD 3 []) 1024).1))]) (L:= [bN x,au 2,.bool (decide (r.getD 2 []= [89])),au (F.rules.length),au ((dZ (r.getD 3 []) 1024).1)]) Li aa<|aa) a ?_
 refine he 15 aa aj<|fk r5 fun Y cK cP av bW=> ?_
 have c5:=av.size
 have c4:=a.size
 have b9:(fun w'=>Wk ae w') cK:=a.trans av.md
 refine ⟨b9,?_⟩
 refine he 16 aa aj<|gj qn aa aa aa aa bW az fun a6 bd bU=> ?_
 have ao:Wk w a6:=(I.trans<|a.trans av.md).trans' bd fun k hk h=>by have :=I.size; omega
 have bn:a6.heap[Y]? =some (.cells [bN x,au 2,.bool (decide (r.getD 2 []= [89])),au (F.rules.length),au n].toArray 242 (0,0)):=by rw [aF]; exact bU
 have bi:w.heap.size≤Y:=by have :=I.size; omega
 have cb:(fun w'=>Wk ae w') a6:=(a.trans av.md).trans' bd fun k hk h=>by omega
 refine ⟨cb,?_⟩
 refine hn aj<|aL ?_
 refine ed (fun ah J=>(J.heap[Y]? =some (.cells [bN x,.int .i64 ((if r.getD 0 []=di then 2 else 1:Nat):Nat),.bool (decide (r.getD 2 []= [89])),au (F.rules.length),au n].toArray 242 (0,0)))∧(Wk w J)∧(w.heap.size≤Y)∧(ah 0=aQ H.rb)∧(ah 1= .slice ar r.length cr)∧(ah 5=bN x)∧(ah 7=au n)∧(ah 8=aQ Y)) ?_ ?_
 refine ag fun aN=>ak (.slice ar r.length cr)<|p (a8 cH aa aa ab<|aJ.ok (C _<|Z.trans ao)<|bS ab)<|p (ld bT aa<|ca.get (i:=0) (C _<|Z.trans ao) ab)<|p (dV aa aa)<|nl<|aN<|cd aa (fun a1=> ?_) fun a1=> ?_
 exact rg aa<|p (fa x6 aa)<|e<|cw eZ aa aa (v:=au 1) aa bn (by show _ < 5; omega) fun de b1 bV=>nl<|tn<|⟨(by rw [if_neg (show ¬r.getD 0 []=di from fun h=>by have h2:r.getD 0 []=fH:=a1; rw [h2] at h; exact absurd h az)]; exact bV),(ao.trans' b1 fun k hk h=>by omega),bi,aa,aa,aa,(by rw [aF]; rfl),aa⟩
 exact aM<|tn<|⟨(by rw [if_pos (a3.resolve_left a1)]; exact bn),ao,bi,aa,aa,aa,(by rw [aF]; rfl),aa⟩
 rintro ah J ⟨ck,aq,cZ,cz,cA,cC,cD,cE⟩
 refine fx 0 cz<|fx 1 cA<|fx 5 cC<|fx 7 cD<|fx 8 cE ?_
 have am:=ac.wk aq
 have ax:=G.wk aq
 have bs:¬(V.v11.ownBlock=some H.rb):=dC am.ep ax.cells az
 have cq:¬(V.v11.ownBlock=some H.fb):=dC am.ep am.cells az
 have cn:¬(V.v11.ownBlock=some Y):=fun h=>by have :=(dM ac.ep h).2; omega
 refine aB fun aN=> ?_
 have A:(fun w'=>Md (fun k=>V.v11.ownBlock=some k) J w') J.drew:=(Md.refl _ _).drew
 refine eS (fun w'=>Md (fun k=>V.v11.ownBlock=some k) J w') 16 aa wide A<|bC 0 aa (aQ H.rb) A<|bz 1 aa (fun _=>nc aa) (fun _=>A)<|bz 2 aa (fun _=>fa lO aa) (fun _=>A)<|dI 3 aa (fun w' q=>ld ig aa<|Md.aO q ((aX ax.cells).trans aa) bs) A<|bC 4 aa (aQ H.rb) A<|bz 5 aa (fun _=>nc aa) (fun _=>A)<|bz 6 aa (fun _=>fa lO aa) (fun _=>A)<|dI 7 aa (fun w' q=>ld ig aa<|Md.aO q ((aX ax.cells).trans aa) bs) A<|bz 8 aa (fun _=>nc aa) (fun _=>A)<|bz 9 aa (fun _=>fa pH aa) (fun _=>A)<|dI 10 aa (fun w' q=>ld qe aa<|Md.aO q ((aX am.cells).trans aa) cq) A<|dI 11 aa (fun w' q=>da sD aa (aa) fun j cW=>bO.bG ⟨_,Md.aH q ck cn⟩ j) A<|gP 12 aa aj<|kQ KW aa aa aa fun cM cL cR b2 bX=> ?_
 have al:=iq b2.md
 have M:=am.wk al
 have b4:=ax.wk al
 have c6:=(aq.trans al).size
 have bg:(fun w'=>Md (fun k=>V.v11.ownBlock=some k) J w') cL:=Md.mono al fun _ _ h=>h.elim
 refine ⟨bg,?_⟩
 refine gP 13 aa aj<|ap KW (M.ep) aa ab aa (aJ.dX bX) (aa) (aa) ab ab fun bx a7 bt an c7 cT=> ?_
 have b5:=b4.own M.ep an az
 have bl:=an.aH M.cells<|dC M.ep M.cells az
 have cu:bq a7 E.heap.size 242 5 bx (F.bw++ [(⟨x,(if r.getD 0 []=di then 2 else 1:Nat),(decide (r.getD 2 []= [89])),F.rules.length,n⟩:cX)]).length (qA<|F.bw++ [(⟨x,(if r.getD 0 []=di then 2 else 1:Nat),(decide (r.getD 2 []= [89])),F.rules.length,n⟩:cX)]):=by rw [show qA (F.bw++ [(⟨x,(if r.getD 0 []=di then 2 else 1:Nat),(decide (r.getD 2 []= [89])),F.rules.length,n⟩:cX)])=qA F.bw++ng (⟨x,(if r.getD 0 []=di then 2 else 1:Nat),(decide (r.getD 2 []= [89])),F.rules.length,n⟩:cX) from by simp [qA],bL]; exact bt
 have cc:Wk E a7:=(Z.trans<|aq.trans al).trans' an fun k hk h=>by have :=(dM M.ep h).1; omega
 have aY:(fun w'=>Md (fun k=>V.v11.ownBlock=some k) J w') a7:=bg.trans' an fun _ _ h=>h
 refine ⟨aY,?_⟩
 refine bz 14 aa (fun _=>nc aa) (fun _=>aY)<|bz 15 aa (fun _=>fa pH aa) (fun _=>aY)<|dH 16 aa aj aj<|cw RP aa aa (v:=bx) (eU bt) bl (by show _ < 13; omega) fun bA aW bY=> ?_
 have bZ:=eE.z8 (x:=(⟨x,(if r.getD 0 []=di then 2 else 1:Nat),(decide (r.getD 2 []= [89])),F.rules.length,n⟩:cX)) M an cu aW bY
 have b6:=b5.oE bl aW
 have ce:Wk E bA:=cc.trans' aW fun k hk h=>by omega
 refine eR aj<|aN<|ag fun bH=>ak (aQ H.rb)<|ak (.slice ar r.length cr)<|ak (au n)<|e<|cl As (Cb E H {F with bw:=F.bw++ [(⟨x,(if r.getD 0 []=di then 2 else 1:Nat),(decide (r.getD 2 []= [89])),F.rules.length,n⟩:cX)]} k ln seen r ba ar cr n bA b0 ⟨_,vh,bZ,b6,⟨by simp only [bL,fA]; omega,cg,ai.row,ai.kd⟩,ce,cm⟩ bh (.inr bu) ab fun _ _=>by simp only [bL,fA]; omega) aa fun dc df b8=>p aA ?_
 exact nl<|bH<|rt<|aV aa<|fN.eq b8<|QO bu co cp aG a5 a4 ab
theorem TU (C:World) (H:gl) (F:aR) (k ln:Nat) (seen r:List Tx) (aC:Nat) (ar:Option Addr) (cr:Nat) (w:World) (a4:GS C H) (av:mo C w H F k ln seen) (aN:Tg C aC 9 r.length (.slice ar r.length cr) (r.map str)) (bq:∀ x∈r,x.length≤70000) (cf:F.dd.length+F.aliases.length+F.bw.length+F.rules.length+(H.rows.drop k).length < 70000) (hw:r.length=width (r.getD 0 [])) (cp:width (r.getD 0 [])≠0):
 bm ay 116 (bf [aQ H.rb,.slice ar r.length cr]) w (fN C H seen<|cg H.eof F seen (H.rows.drop k) ln r):=by
 have bx:=av
 obtain ⟨V,vh,A,q,E,a,ax⟩:=av
 have G:∀ w,Wk C w→ca w.heap ar r:=fun w h=>(aN.wk h).cI.2
 have cK:=q.lo
 have cJ:=A.lo
 have cG:=E.len
 have aW:=E.sl
 have cL:=(cU.1 q.cells).1
 have cM:0 < r.length:=ab
 have J:2≤r.length→(r.getD 1 []).length≤70000:=fun h=>bq _<|dU ab
 refine enter func116 aa ntmps116 aa<|ag fun bK=>aw<|bK<|ag fun bM=>ak (.slice ar r.length cr)<|p (a8 cH aa aa ab<|aJ.ok (G _ a)<|bS ab)<|p (ld bT aa<|ca.get (i:=0) (G _ a) ab)<|aw<|bM<|ag fun bP=>p mv<|e<|cl Ar (Cg (r.getD 0 []) w) aa fun v24 ai b4=> ?_
 obtain ⟨rfl,cu⟩:=b4
 subst cu
 refine aw<|bP<|aB fun bQ=>ag fun bR=>p mv<|p (ge aa aa)<|nl<|bR<|cd aa (fun bc=> ?_) fun bc=> ?_
 have ae:=tA.1 bc
 have U:r.length=2:=by rw [hw,L1 ae]
 have J:=J ab
 refine ag fun a0=>ak (aQ H.rb)<|ak (.slice ar r.length cr)<|p (a8 cH aa aa ab<|aJ.ok (G _ a)<|bS ab)<|p (ld bT aa<|ca.get (i:=1) (G _ a) ab)<|e<|cl FI (Is C.heap.size H F V k ln seen vh (r.getD 1 []) ai A q E.kd ab ab) aa fun cT c1 b5=> ?_
 obtain ⟨⟨x,cF,rfl,ck⟩,hE32⟩:=b5
 have cc:=a.trans hE32
 refine p mv<|p (xt aa aa)<|p (xt aa aa)<|p aA<|aw<|a0<|aB fun a1=>rg aa<|ak (aQ H.rb)<|p (nc aa)<|p (fa lO aa)<|p (ld ig aa<|(aX (q.wk hE32).cells).trans aa)<|p mv<|p mv<|p (nc aa)<|p (fa s6 aa)<|p (kh sI aa aa<|by rw [Dt ae]; have :=Du ae; omega)<|e<|cw eZ aa aa (v:=bN x) aa (A.wk hE32).cells (by show 0 +3 +(pR<|r.getD 0 []).toNat*1 < 13; rw [Dt ae]; have :=Du ae; omega) fun bI a5 bU=> ?_
 have co:=TZ (F:=F) (V:=V) (x:=x) (o:=0 +3 +(pR<|r.getD 0 []).toNat*1) A.fR (Du ae)<|by rw [Dt ae]; omega
 have bV:bI.heap[H.fb]? =some (.cells (nQ {F with sp:=F.sp.set (ea.idxOf<|r.getD 0 []) x} V).toArray 181 (0,0)):=by rw [← co]; exact bU
 have bW:=(A.wk hE32).put (F':= {F with sp:=F.sp.set (ea.idxOf<|r.getD 0 []) x}) a5 bV rfl rfl rfl rfl (by show (F.sp.set _ _).length=5; rw [List.length_set]; exact A.fR)
 have bv:=(q.wk hE32).fb (A.wk hE32) a5
 have a6:Wk C bI:=cc.trans' a5 fun k hk h=>by omega
 refine nl<|a1<|ag fun a2=>p mv<|aw<|a2<|rt<|tr<|aV aa ?_
 rcases ck with ⟨bs,_,rfl⟩ | ⟨bs,cm⟩
 exact ⟨.inl ⟨_,k,ln,(ID ae).trans (Lc bs),aa,⟨V,vh,bW,bv,⟨E.len,aW,E.row,E.kd⟩,a6,ax⟩⟩,a6⟩
 exact fN.er ((ID ae).trans<|Lb bs) cm bv.dj a6
 have cv:r.getD 0 []∉ea:=fun h=>bc<|tA.2 h
 refine aM<|bQ<|aB fun a0=>ag fun a1=>p mv<|nl<|a1<|aH<|ag fun a2=>p (dV aa aa)<|aw<|a2<|cd aa (fun bd=> ?_) fun bd=> ?_
 have h1:r.getD 0 []=ik:=bd
 have U:r.length=2:=by rw [hw,h1]; rfl
 have J:=J ab
 exact ag fun a3=>ak (aQ H.rb)<|ak (.slice ar r.length cr)<|e<|cl Pb (TX C H F k ln seen r aC ar cr ai bx (aN.wk a) U bq) aa fun cV c2 b6=>aw<|a3<|rt<|br<|tr<|aV aa<|fN.eq b6<|T6 h1
 have cx:¬r.getD 0 []=ik:=bd
 refine ag fun a3=>p (dV aa aa)<|aw<|a3<|cd aa (fun bg=> ?_) fun bg=> ?_
 have h2:r.getD 0 []=iH:=bg
 have U:r.length=2:=by rw [hw,h2]; rfl
 have J:=J ab
 refine ag fun aY=>ak (.slice ar r.length cr)<|p (a8 cH aa aa ab<|aJ.ok (G _ a)<|bS ab)<|p (ld bT aa<|ca.get (i:=1) (G _ a) ab)<|e<|cl uC (vv (r.getD 1 []) ai ab) aa fun cW bt b7=> ?_
 obtain ⟨rfl,ao⟩:=b7
 have aU:=a.trans ao
 refine aw<|aY<|aB fun aD=>ag fun al=>p mv<|p (no aa)<|nl<|al<|cb aa (fun bh=> ?_) fun bh=> ?_
 exact ag fun M=>aw<|M<|rt<|tr<|br<|tr<|aV aa<|fN.er ((IC h2).trans<|KM<|by simpa using bh) az (q.wk ao).dj aU
 refine aM<|aD<|aB fun M=> ?_
 have I:(fun w'=>Wk bt w') bt.drew:=(Md.refl _ _).drew
 refine eS (fun w'=>Wk bt w') 9 aa wide I<|bC 0 aa (aQ H.rb) I<|bz 1 aa (fun _=>nc aa) (fun _=>I)<|bz 2 aa (fun _=>fa lO aa) (fun _=>I)<|dI 3 aa (fun w' av=>ld ig aa<|Wk.aO av<|(aX (q.wk ao).cells).trans aa) I<|bC 4 aa (.slice ar r.length cr) I<|bz 5 aa (fun _=>a8 cH aa aa ab<|aJ.ok (G _ aU)<|bS ab) (fun _=>I)<|dI 6 aa (fun w' av=>ld bT aa<|Wk.aO av<|ca.get (i:=1) (G _ aU) ab) I<|bz 7 aa (fun _=>nc aa) (fun _=>I)<|bz 8 aa (fun _=>fa Tj aa) (fun _=>I)<|dH 9 aa aj aj<|cw kS aa aa (v:=str<|r.getD 1 []) aa ((A.wk ao).wk I).cells (by show _ < 13; omega) fun aP O aK=> ?_
 have aL:=((A.wk ao).wk I).put (F':= {F with rB:=r.getD 1 []}) O aK rfl rfl rfl rfl A.fR
 have aq:=((q.wk ao).wk I).fb ((A.wk ao).wk I) O
 have ac:Wk C aP:=(aU.trans I).trans' O fun k hk h=>by omega
 refine eR aj<|M<|ag fun Y=>aw<|Y<|rt<|br ?_
 exact tr<|aV aa<|⟨.inl ⟨_,k,ln,(IC h2).trans (KN<|by simpa using bh),aa,⟨V,vh,aL,aq,⟨E.len,aW,E.row,E.kd⟩,ac,ax⟩⟩,ac⟩
 have cy:¬r.getD 0 []=iH:=bg
 refine ag fun aY=>p (dV aa aa)<|aw<|aY<|cd aa (fun bi=> ?_) fun bi=> ?_
 have h3:r.getD 0 []=iR:=bi
 have U:r.length=2:=by rw [hw,h3]; rfl
 have J:=J ab
 refine ag fun aD=>ak (.slice ar r.length cr)<|p (a8 cH aa aa ab<|aJ.ok (G _ a)<|bS ab)<|p (ld bT aa<|ca.get (i:=1) (G _ a) ab)<|e<|cl Pc (Xi (r.getD 1 []) ai ab) aa fun cX c3 b8=> ?_
 obtain ⟨rfl,ap⟩:=b8
 have ce:=a.trans ap
 refine p mv<|p (xt aa aa)<|p (xt aa aa)<|p aA<|aw<|aD<|aB fun al=>rg aa<|ak (aQ H.rb)<|p (nc aa)<|p (fa lO aa)<|p (ld ig aa<|(aX (q.wk ap).cells).trans aa)<|p mv<|p (nc aa)<|p (fa Tk aa)<|e<|cw kS aa aa (v:=str (letE<|r.getD 1 []).1) aa (A.wk ap).cells (by show _ < 13; omega) fun aP O aK=> ?_
 have aL:=(A.wk ap).put (F':= {F with tr:=(letE<|r.getD 1 []).1}) O aK rfl rfl rfl rfl A.fR
 have aq:=(q.wk ap).fb (A.wk ap) O
 have ac:Wk C aP:=ce.trans' O fun k hk h=>by omega
 refine nl<|al<|ag fun M=>p mv<|aw<|M<|rt<|br<|tr<|aV aa ?_
 by_cases h:(letE<|r.getD 1 []).2=0
 exact ⟨.inl ⟨_,k,ln,(IE h3).trans (LC h),by rw [h]; rfl,⟨V,vh,aL,aq,⟨E.len,aW,E.row,E.kd⟩,ac,ax⟩⟩,ac⟩
 exact fN.er ((IE h3).trans<|LB h) h aq.dj ac
 have cz:¬r.getD 0 []=iR:=bi
 refine ag fun aD=>p (dV aa aa)<|aw<|aD<|cd aa (fun bj=> ?_) fun bj=> ?_
 have h4:r.getD 0 []=ki:=bj
 have U:r.length=2:=by rw [hw,h4]; rfl
 have J:=J ab
 refine ag fun al=>ak (.slice ar r.length cr)<|p (a8 cH aa aa ab<|aJ.ok (G _ a)<|bS ab)<|p (ld bT aa<|ca.get (i:=1) (G _ a) ab)<|e<|cl ry (rS (r.getD 1 []) 64 ai ab ab) aa fun v91 c4 b9=> ?_
 obtain ⟨rfl,ah⟩:=b9
 have a7:=a.trans ah
 refine p mv<|p (xt aa aa)<|p (xt aa aa)<|p aA<|aw<|al<|aB fun M=>ag fun Y=>p mv<|p (db aa aa)<|p mv<|gs (t:=96) aa (fun bE=> ?_) fun bE=> ?_
 exact aE aa<|aE aa<|p (bB aa)<|nl<|Y<|ct aa<|ag fun Z=>aw<|Z<|rt<|tr<|br<|tr<|aV aa<|fN.er ((Ci h4).trans<|JB (pO bE).1) az (q.wk ah).dj a7
 refine aI aa mv<|aI aa (bJ aa aa)<|p (bp aa)<|nl<|Y<|cd aa (fun cj=> ?_) fun cj=> ?_
 exact ag fun Z=>aw<|Z<|rt<|tr<|br<|tr<|aV aa<|fN.er ((Ci h4).trans<|JC (nW ab) ab) az (q.wk ah).dj a7
 refine aM<|M<|ag fun Z=>ak (aQ H.rb)<|p (nc aa)<|p (fa lO aa)<|p (ld ig aa<|(aX (q.wk ah).cells).trans aa)<|p mv<|p (nc aa)<|p (fa Tl aa)<|e<|cw eZ aa aa (v:=au<|(dZ (r.getD 1 []) 64).1) aa (A.wk ah).cells (by show _ < 13; omega) fun aP O aK=> ?_
 have aL:=(A.wk ah).put (F':= {F with least:=(dZ (r.getD 1 []) 64).1}) O aK rfl rfl rfl rfl A.fR
 have aq:=(q.wk ah).fb (A.wk ah) O
 have ac:Wk C aP:=a7.trans' O fun k hk h=>by omega
 exact nl<|Z<|ag fun am=>aw<|am<|rt<|br<|tr<|aV aa<|⟨.inl ⟨_,k,ln,(Ci h4).trans (JD (nW ab) ab),aa,⟨V,vh,aL,aq,⟨E.len,aW,E.row,E.kd⟩,ac,ax⟩⟩,ac⟩
 have cA:¬r.getD 0 []=ki:=bj
 refine ag fun al=>p (dV aa aa)<|aw<|al<|cd aa (fun a9=> ?_) fun a9=> ?_
 have h5:r.getD 0 []=ff:=a9
 have U:r.length=2:=by rw [hw,h5]; rfl
 have J:=J ab
 refine ag fun M=>ak (.slice ar r.length cr)<|p (a8 cH aa aa ab<|aJ.ok (G _ a)<|bS ab)<|p (ld bT aa<|ca.get (i:=1) (G _ a) ab)<|e<|cl ry (rS (r.getD 1 []) 256 ai ab ab) aa fun cN bG bX=> ?_
 obtain ⟨rfl,aS⟩:=bX
 have bA:=a.trans aS
 have bl:=qJ (r.getD 1 []) 256
 refine p mv<|p (xt aa aa)<|p (xt aa aa)<|p aA<|aw<|M<|aB fun Y=>ag fun Z=>p mv<|p (db aa aa)<|nl<|Z<|cd aa (fun ch=> ?_) fun ch=> ?_
 refine ag fun am=>p mv<|aw<|am<|rt<|tr<|br<|tr<|aV aa ?_
 have aG:=pO (s:=r.getD 1 []) (most:=256) ab
 show fN C H seen _ (.int .i64 (dZ (r.getD 1 []) 256).2) bG
 rw [aG.2]
 exact fN.er ((IB h5).trans<|Kx aG.1) az (q.wk aS).dj bA
 exact aM<|Y<|ag fun am=>ak (aQ H.rb)<|ak (.slice ar r.length cr)<|p mv<|e<|cl As (Cb C H F k ln seen r aC ar cr (dZ (r.getD 1 []) 256).1 bG a4 ⟨V,vh,A.wk aS,q.wk aS,E,bA,ax⟩ aN (.inl U) (by have :=bl ab; omega) fun h _=>absurd h5 h) aa fun cO cY bY=>aw<|am<|rt<|br<|tr<|aV aa<|fN.eq bY<|(IB h5).trans<|W7 U h5<|nW ab
 have cB:¬r.getD 0 []=ff:=a9
 refine ag fun M=>p (dV aa aa)<|aw<|M<|cd aa (fun ba=> ?_) fun ba=> ?_
 have an:r.getD 0 []=eI:=ba
 have U:r.length=2:=by rw [hw,an]; rfl
 have J:=J ab
 refine ag fun Y=>ak (aQ H.rb)<|e<|cl Al (Ch C.heap.size H k ln seen vh fH ai q ab) aa fun cP cD bZ=> ?_
 obtain ⟨rfl,cq⟩:=bZ
 subst cq
 refine aw<|Y<|ag fun Z=>ak (aQ H.rb)<|e<|cl Al (Ch C.heap.size H k ln seen vh di cD q ab) aa fun cQ cE b0=> ?_
 obtain ⟨rfl,cs⟩:=b0
 subst cs
 refine aw<|Z<|aB fun am=>ag fun bu=>p mv<|p mv<|gb (t:=130) aa (fun bk=> ?_) fun bk=> ?_
 exact aE aa<|p (bB aa)<|nl<|bu<|ct aa<|ag fun aF=>p aA<|nl<|aF<|rt<|tr<|br<|tr<|aV aa<|fN.er ((yh an).trans<|zZ<|.inl<|of_decide_eq_true bk) az q.dj a
 refine aI aa mv<|p (bp aa)<|nl<|bu<|cb aa (fun bb=> ?_) fun bb=> ?_
 exact ag fun aF=>aw<|aF<|rt<|tr<|br<|tr<|aV aa<|fN.er ((yh an).trans<|zZ<|.inr<|of_decide_eq_true bb) az q.dj a
 have bF:¬(fH∈seen∨di∈seen):=fun h=>h.elim (of_decide_eq_false bk)<|of_decide_eq_false bb
 refine aM<|am<|ag fun aF=>ak (.slice ar r.length cr)<|p (a8 cH aa aa ab<|aJ.ok (G _ a)<|bS ab)<|p (ld bT aa<|ca.get (i:=1) (G _ a) ab)<|e<|cl ry (rS (r.getD 1 []) 1024 cE ab ab) aa fun cR bH b1=> ?_
 obtain ⟨rfl,aT⟩:=b1
 have bD:=a.trans aT
 have bl:=qJ (r.getD 1 []) 1024
 refine p mv<|p (xt aa aa)<|p (xt aa aa)<|p aA<|aw<|aF<|aB fun bL=>ag fun bO=>p mv<|p (db aa aa)<|nl<|bO<|cd aa (fun ci=> ?_) fun ci=> ?_
 refine ag fun aZ=>p mv<|aw<|aZ<|rt<|tr<|br<|tr<|aV aa ?_
 have aG:=pO (s:=r.getD 1 []) (most:=1024) ab
 show fN C H seen _ (.int .i64 (dZ (r.getD 1 []) 1024).2) bH
 rw [aG.2]
 exact fN.er ((yh an).trans<|E2 bF aG.1) az (q.wk aT).dj bD
 exact aM<|bL<|ag fun aZ=>ak (aQ H.rb)<|ak (.slice ar r.length cr)<|p mv<|e<|cl As (Cb C H F k ln seen r aC ar cr (dZ (r.getD 1 []) 1024).1 bH a4 ⟨V,vh,A.wk aT,q.wk aT,E,bD,ax⟩ aN (.inl U) (by have :=bl ab; omega) fun _ h=>absurd an h) aa fun v146 cZ b2=>aw<|aZ<|rt<|br<|tr<|aV aa<|fN.eq b2<|(yh an).trans<|N8 U an bF<|nW ab
 have cC:¬r.getD 0 []=eI:=ba
 have bo:=WG cp cv cx cy cz cA cB cC
 have cn:r.length=4:=by rw [hw,L2 bo]
 exact aM<|bn<|a0<|ag fun Y=>ak (aQ H.rb)<|ak (.slice ar r.length cr)<|e<|cl Pd (TB C H F k ln seen r aC ar cr ai a4 bx aN bq cf cn bo) aa fun cS c0 b3=>aw<|Y<|rt<|aV aa<|fN.eq b3<|T5 bo
end Go.Hb.EG
end
section
namespace Go.Hb.kN
open Go.Hb.zP Go.Hb.EG Go.Hb.nz
theorem Tg.blt {w:World} {B e n cp:Nat} {a:Option Addr} {xs:List Value} (h:Tg w B e n (.slice a n cp) xs) (C:xs≠[]):bk a < w.heap.size:=by
 obtain ⟨E,I,A,_,q⟩:=h
 cases A
 rcases q with rfl | ⟨G,cur,z2,rfl,_,i,_⟩
 · exact absurd aa C
 · exact (cU.1 i).1
def NT (w':World) (B:Nat) (F:aR) (v:Value):Prop := ∃ B1 fb V,B≤B1∧v= .tuple #[.pointer (some ⟨fb,0,none⟩),.int .i64 0,.int .i64 0]∧eE w' B1 0 fb F V∧(∃ seen,nA F [] seen)∧Nx F
def NS (e:Nat×Nat) (v:Value):Prop :=v= .tuple #[.pointer none,.int .i64 (e.1:Nat),.int .i64 (e.2:Nat)]
theorem nR {l:List (c7×Value)} {i:Nat} {q:c7×Value} (h:l[i]? =some q):mA l≠[]:=fun h2=>by
 have h3:(mA l).length=l.length*8:=oG (f:=jv) (m:=8) (fun _=>rfl) _
 have h4:=(fS.1 h).1
 rw [h2] at h3
 have h5:0=l.length*8:=h3
 omega
def lW (s:Tx) (w:World) (v:Value) (w':World):Prop :=(match fq s with | .ok F=>NT w' w.heap.size F v | .error e=>NS e v)∧Wk w w'
theorem lW.no {s:Tx} {w w':World} {l e:Nat} (h:fq s= .error (l,e)) (hm:Wk w w'):lW s w (.tuple #[.pointer none,.int .i64 (l:Nat),.int .i64 (e:Nat)]) w':=by
 unfold lW; rw [h]; exact ⟨rfl,hm⟩
theorem WS (s:Tx) (w:World) (hs:s.length≤1048576):
 bm ay 72 (bf [str s]) w (lW s w):=by
 refine enter func72 aa ntmps72 aa<|ag fun dh=>p aA<|p aA<|aw<|dh<|aB fun di=>rg aa<|ak (str s)<|e<|cl Fw (KC s _ hs) aa fun v20 e2 d1=> ?_
 obtain ⟨⟨a20,rfl,cX⟩,hE20⟩:=d1
 refine p mv<|p (xt aa aa)<|p (xt aa aa)<|p aA<|aw<|di<|aB fun dj=>ag fun dk=>p mv<|p (db aa aa)<|nl<|dk<|cd aa (fun co=> ?_) fun co=> ?_
 have cT:65536 < s.length:=Mv fun h=>co<|by rw [if_neg h]
 refine ag fun b4=>p mv<|p aA<|p aA<|aw<|b4<|rt<|tr<|f3 aa aa aa aa ?_
 have h:=lW.no (ER cT) hE20
 show lW s w (.tuple #[.pointer none,.int .i64 0,.int .i64 (if 65536 < s.length then 10 else 0)]) e2
 rw [if_pos cT]
 exact h
 have av:¬65536 < s.length:=fun h=>co<|by rw [if_pos h]; decide
 rw [if_neg av] at cX
 obtain ⟨vs,c5,eD⟩:=cX
 obtain ⟨ar,cr,rfl⟩:=cB c5
 refine aM<|dj<|ag fun b4=>ak (str s)<|e<|cl Ak (Dd s _ hs) aa fun fv G d3=> ?_
 obtain ⟨eB,b6⟩:=d3
 obtain ⟨fu,e6,rfl⟩:=cB eB
 have am:=hE20.trans b6
 have ff:=nT s
 have fj:=yJ s
 refine aw<|b4<|ag fun dl=>p (cQ (ps:= [(0,.int .i64 1),(4,.int .i64 3)]) (L:= [.int .i64 1,.string ⟨⟨[]⟩⟩,.string ⟨⟨[]⟩⟩,.int .i64 0,.int .i64 0,.int .i64 0,.int .i64 0,.int .i64 0,.int .i64 3,.slice none 0 0,.slice none 0 0,.slice none 0 0,.slice none 0 0]) Yg aa<|aa)<|e<|oB aa fun A fD fb cL dD=> ?_
 have fr:=cL.size
 refine p mv<|p mv<|p (bK eV aa aa)<|p (bE (((bH s).length+1:Nat):Int) aa aa<|bj ab ab)<|p (cQ (ps:= [(0,aQ A),(1,.slice ar (bP s).length cr),(3,au ((bH s).length+1))]) (L:= [aQ A,.slice ar (bP s).length cr,.int .i64 0,au ((bH s).length+1),.slice none 0 0,.int .i64 0]) Yl aa<|aa)<|e<|oB aa fun a bM fc ce dF=> ?_
 have fs:=ce.size
 have dK:Wk G bM:=cL.md.trans ce.md
 have cG:GS G (⟨a,A,(bH s).length+1,.slice ar (bP s).length cr,vs,bP s⟩:gl):=⟨w.heap.size,(Tg.jM c5).wk b6,eD.wk b6,by show (bP s).length≤70000; omega⟩
 have dL:eE bM G.heap.size 0 A ic ⟨.slice none 0 0,.slice none 0 0,.slice none 0 0,.slice none 0 0,[],[]⟩:=⟨Wk.aH ce.md dD,dz _ _ _ _,dz _ _ _ _,iw.nil _ _ _,dz _ _ _ _,dz _ _ _ _,iw.nil _ _ _,ab,rfl⟩
 have dY:gY bM G.heap.size (⟨a,A,(bH s).length+1,.slice ar (bP s).length cr,vs,bP s⟩:gl) 0 0 [] (.slice none 0 0):=⟨dF,dz _ _ _ _,by show G.heap.size≤a; omega⟩
 have d8:mo G bM (⟨a,A,(bH s).length+1,.slice ar (bP s).length cr,vs,bP s⟩:gl) ic 0 0 []:=⟨_,_,dL,dY,⟨by show 0 +0 +0 +0 +(bP s).length≤70000; omega,by show 0 +(bP s).length≤70000; omega,fun q ao=>by have h:=yK (show q∈bP s from ao); exact ⟨h.2.2.1,ab,fun x eX=>by have :=(h.2.2.2.2 x eX).2; omega⟩,.inl rfl⟩,dK,jP _⟩
 have ey:Nx ic:=⟨fun l cq=>(by cases cq),fun l cq=>by cases cq⟩
 refine aw<|dl<|aB fun dm=>aH<|lp (fun ai cD aP=> ∃ (bG:Nat) (F:aR) (k ln:Nat) (seen:List Tx),(gJ (⟨a,A,(bH s).length+1,.slice ar (bP s).length cr,vs,bP s⟩:gl).eof bG F seen ((bP s).drop k)=gJ ((bH s).length+1) (bP s).length ic [] (bP s))∧(((bP s).drop k).length≤bG)∧(mo G aP (⟨a,A,(bH s).length+1,.slice ar (bP s).length cr,vs,bP s⟩:gl) F k ln seen)∧(Nx F)∧(cD 5= .slice ar (bP s).length cr)∧(cD 8=aQ a)∧(((bP s).drop k).length=ai)) _ ⟨(bP s).length,ic,0,0,[],aa,(cA _),d8,ey,aa,aa,aa⟩ ?_
 rintro ai cD aP ⟨bG,F,k,ln,seen,U,aL,E,cs,eF,eG,rfl⟩
 refine fx 5 eF<|fx 8 eG ?_
 obtain ⟨V,vh,an,Z,I,bd,c1⟩:=E
 have c1:k≤(bP s).length:=c1
 refine aB fun dn=>ag fun dp=>ak (aQ a)<|p (nc aa)<|p (fa oH aa)<|p (ld bu aa<|(aX Z.cells).trans aa)<|ak (.slice ar (bP s).length cr)<|p (bK y6 aa aa)<|p (lt aa aa)<|nl<|dp<|cd aa (fun em=> ?_) fun em=> ?_
 obtain ⟨n,r,aU,bc,dq,ds,aK,eQ,aY,bD,⟨dg,ci⟩,c8⟩:=cG.get bd (k:=k)<|by show k < (bP s).length; omega
 have c9:bR ar (bP s).length cr= .slice dq (bP s).length ds:=eQ
 simp only [Value.slice.injEq,true_and] at c9
 obtain ⟨rfl,rfl⟩:=c9
 have aY:aJ aP.heap ar (kL vs):=aY
 have bD:vs[k]? =some (n,.slice aU r.length bc):=bD
 have c8:vs.length=(bP s).length:=c8
 have aK:(bP s).drop k=(n,r)::(bP s).drop (k+1):=aK
 have I:nA F ((bP s).drop k) seen:=I
 rw [aK] at U aL I
 have c6:=I.row (n,r)<|Nk ..
 have fh:0 < r.length:=lG.2 c6.1
 have ef:=I.len
 have eg:=I.sl
 simp only [cO] at ef eg aL
 have dv:=nA.pF I
 have a0:∀ w,Wk G w→ca w.heap aU r:=fun w h=>(ci.wk h).cI.2
 refine aM<|dn<|aH<|ag fun bV=>ak (.slice ar (bP s).length cr)<|ak (aQ a)<|p (nc aa)<|p (fa oH aa)<|p (ld bu aa<|(aX Z.cells).trans aa)<|p (a8 nN aa aa ab<|aJ.ok (aY)<|lQ ab)<|p (fa uX aa)<|p (ld jR aa<|lR aY bD 1 az)<|aw<|bV<|ag fun bW=>ak (aQ a)<|ak (.slice ar (bP s).length cr)<|ak (aQ a)<|p (nc aa)<|p (fa oH aa)<|p (ld bu aa<|(aX Z.cells).trans aa)<|p (a8 nN aa aa ab<|aJ.ok (aY)<|lQ ab)<|p (fa s9 aa)<|p (ld bu aa<|lR aY bD 0 az)<|p (nc aa)<|p (fa pJ aa)<|e<|cw eZ aa aa (v:=au n) aa Z.cells (by show _ < 6; omega) fun e3 b9 dG=> ?_
 have bo:=Z.dy (k':=k) (ln':=n) b9 dG
 have dS:=an.rb Z b9
 have ee:Wk G e3:=bd.trans' b9 fun q ao h=>by have :=Z.lo; omega
 refine nl<|bW<|ag fun bY=>ak (aQ a)<|ak (aQ a)<|p (nc aa)<|p (fa oH aa)<|p (ld bu aa<|(aX bo.cells).trans aa)<|p (bE ((k+1:Nat):Int) aa aa<|bj ab ab)<|p (nc aa)<|p (fa oH aa)<|e<|cw eZ aa aa (v:=au<|k+1) aa bo.cells (by show _ < 6; omega) fun de cc dJ=> ?_
 have d5:=bo.dy (k':=k+1) (ln':=n) cc dJ
 have dT:=dS.rb bo cc
 have cm:Wk G de:=ee.trans' cc fun q ao h=>by have :=Z.lo; omega
 refine nl<|bY<|ag fun bZ=>p mv<|p (a8 cH aa aa ab<|aJ.ok (a0 _ cm)<|bS ab)<|p (ld bT aa<|ca.get (i:=0) (a0 _ cm) ab)<|e<|cl OO (T4 (r.getD 0 []) de) aa fun fw aN d4=> ?_
 obtain ⟨rfl,b7⟩:=d4
 have a1:=cm.trans b7
 have bh:=d5.wk b7
 have dR:=dT.wk b7
 refine aw<|bZ<|aB fun b0=>ag fun a4=>p mv<|p (bJ aa aa)<|nl<|a4<|cd aa (fun en=> ?_) fun en=> ?_
 have aD:width (r.getD 0 [])=0:=ab
 refine aB fun a5=> ?_
 have ac:(fun w'=>Wk aN w') aN.drew:=(Md.refl _ _).drew
 exact bI (fun w'=>Wk aN w') aa wide ac<|bF 0 aa (aQ a) ac<|aC 1 aa (fun _ _=>nc aa) ac<|aC 2 aa (fun _ _=>fa pJ aa) ac<|aC 3 aa (fun w' E=>ld bu aa<|Wk.aO E<|(aX bh.cells).trans aa) ac<|aC 4 aa (fun _ _=>aA) ac<|aC 5 aa (fun _ _=>aA) ac<|aC 6 aa (fun _ _=>aA) ac<|hn aj<|a5<|rt<|tr<|br<|tr<|br<|tr<|f3 aa aa aa aa<|lW.no (oz av<|Kq U aL aD)<|am.trans<|a1.trans ac
 have aD:width (r.getD 0 [])≠0:=ab
 refine aM<|b0<|aB fun a5=>ag fun b1=>p mv<|p (bK eV aa aa)<|p mv<|p (db aa aa)<|nl<|b1<|cd aa (fun eo=> ?_) fun eo=> ?_
 refine aB fun a6=> ?_
 have ae:(fun w'=>Wk aN w') aN.drew:=(Md.refl _ _).drew
 exact bI (fun w'=>Wk aN w') aa wide ae<|bF 0 aa (aQ a) ae<|aC 1 aa (fun _ _=>nc aa) ae<|aC 2 aa (fun _ _=>fa pJ aa) ae<|aC 3 aa (fun w' E=>ld bu aa<|Wk.aO E<|(aX bh.cells).trans aa) ae<|aC 4 aa (fun _ _=>aA) ae<|aC 5 aa (fun _ _=>aA) ae<|aC 6 aa (fun _ _=>aA) ae<|hn aj<|a6<|rt<|tr<|br<|tr<|br<|tr<|f3 aa aa aa aa<|lW.no (oz av<|Kr U aL aD ab)<|am.trans<|a1.trans ae
 have h1:r.length=width (r.getD 0 []):=ab
 refine aM<|a5<|ag fun a6=>ak (aQ a)<|p mv<|p (a8 cH aa aa ab<|aJ.ok (a0 _ a1)<|bS ab)<|p (ld bT aa<|ca.get (i:=0) (a0 _ a1) ab)<|e<|cl Al (Ch G.heap.size (⟨a,A,(bH s).length+1,.slice ar (bP s).length cr,vs,bP s⟩:gl) (k+1) n seen vh (r.getD 0 []) aN bh ab) aa fun fy bO d6=> ?_
 obtain ⟨rfl,eW⟩:=d6
 subst eW
 refine aw<|a6 ?_
 refine ed (fun bQ cy=>(width (r.getD 0 [])=2→r.getD 0 []∉seen)∧(cy=bO)∧(bQ 5= .slice ar (bP s).length cr)∧(bQ 8=aQ a)∧(bQ 9= .slice aU r.length bc)) ?_ ?_
 refine ag fun ax=>p mv<|p (bJ aa aa)<|p mv<|gs (t:=95) aa (fun er=> ?_) fun er=> ?_
 refine aI aa mv<|p (bB aa)<|nl<|ax<|cb aa (fun cp=> ?_) fun cp=> ?_
 refine aB fun a9=> ?_
 have ah:(fun w'=>Wk bO w') bO.drew:=(Md.refl _ _).drew
 exact bI (fun w'=>Wk bO w') aa wide ah<|bF 0 aa (aQ a) ah<|aC 1 aa (fun _ _=>nc aa) ah<|aC 2 aa (fun _ _=>fa pJ aa) ah<|aC 3 aa (fun w' E=>ld bu aa<|Wk.aO E<|(aX bh.cells).trans aa) ah<|aC 4 aa (fun _ _=>aA) ah<|aC 5 aa (fun _ _=>aA) ah<|aC 6 aa (fun _ _=>aA) ah<|hn aj<|a9<|rt<|tr<|br<|tr<|br<|tr<|f3 aa aa aa aa<|lW.no (oz av<|C9 U aL aD h1 ab<|of_decide_eq_true cp)<|am.trans<|a1.trans ah
 exact aM<|tn<|⟨(fun _=>of_decide_eq_false cp),aa,aa,aa,aa⟩
 exact aE aa<|p (bp aa)<|nl<|ax<|cf aa<|aM<|tn<|⟨(fun h=>absurd h ab),aa,aa,aa,aa⟩
 rintro bQ cy ⟨c3,eT,eH,eI,eJ⟩
 refine fx 5 eH<|fx 8 eI<|fx 9 eJ ?_
 subst eT
 refine ag fun ax=>ak (aQ a)<|ak (.slice aU r.length bc)<|e<|cl OP (TU G (⟨a,A,(bH s).length+1,.slice ar (bP s).length cr,vs,bP s⟩:gl) F (k+1) n seen r dg aU bc cy cG ⟨V,vh,dR,bh,dv,a1,by show k+1≤(bP s).length; omega⟩ ci c6.2.2 (by show _+((bP s).drop<|k+1).length < 70000; omega) h1 aD) aa fun e1 Y dZ=> ?_
 obtain ⟨et,ea⟩:=dZ
 obtain ⟨e7,rfl,cZ⟩:∃ e:Nat,e1=au e∧((e=0∧∃ F' k' ln',cg (⟨a,A,(bH s).length+1,.slice ar (bP s).length cr,vs,bP s⟩:gl).eof F seen ((bP s).drop<|k+1) n r= .ok (F',(bP s).drop k')∧mo G Y (⟨a,A,(bH s).length+1,.slice ar (bP s).length cr,vs,bP s⟩:gl) F' k' ln' seen)∨(e≠0∧∃ l:Nat,cg (⟨a,A,(bH s).length+1,.slice ar (bP s).length cr,vs,bP s⟩:gl).eof F seen ((bP s).drop<|k+1) n r= .error (l,e)∧Hb.aO Y.heap a 5=some (au l))):=by
  rcases et with ⟨F',k',ln',h1,h2,h3⟩ | ⟨l,e,h1,h2,h3,h4⟩
  exact ⟨0,h2,.inl ⟨aa,F',k',ln',h1,h3⟩⟩
  exact ⟨e,h3,.inr ⟨h2,l,h1,h4⟩⟩
 refine aw<|ax<|aB fun a9=>ag fun b2=>p mv<|p (db aa aa)<|nl<|b2<|cd aa (fun eh=> ?_) fun eh=> ?_
 obtain ⟨c2,ft,es,ew⟩:=cZ.resolve_left fun h=>by omega
 refine aB fun bb=> ?_
 have O:(fun w'=>Wk Y w') Y.drew:=(Md.refl _ _).drew
 exact bI (fun w'=>Wk Y w') aa wide O<|bF 0 aa (aQ a) O<|aC 1 aa (fun _ _=>nc aa) O<|aC 2 aa (fun _ _=>fa pJ aa) O<|aC 3 aa (fun w' E=>ld bu aa<|Wk.aO E<|ew) O<|aC 4 aa (fun _ _=>mv) O<|aC 5 aa (fun _ _=>aA) O<|aC 6 aa (fun _ _=>aA) O<|aC 7 aa (fun _ _=>aA) O<|hn aj<|bb<|rt<|tr<|br<|tr<|br<|tr<|f3 aa aa aa aa<|lW.no (oz av<|Da U aL aD h1 c3 es)<|am.trans<|ea.trans O
 obtain ⟨_,F',k',ln',bs,d7⟩:=cZ.resolve_right fun h=>by omega
 have cS:=Db U aL aD h1 c3 bs
 obtain ⟨V2,fz,dN,aG,b5,bq,ev⟩:=d7
 obtain ⟨aT,aV,rfl⟩:=cB aG.hd
 have ex:¬((bR aT seen.length aV).ownBlock=some a):=dC aG.hd aG.cells az
 refine aM<|a9 ?_
 have M:(fun w'=>Md (fun q=>(bR aT seen.length aV).ownBlock=some q) Y w') Y.drew:=(Md.refl _ _).drew
 refine eS (fun w'=>Md (fun q=>(bR aT seen.length aV).ownBlock=some q) Y w') 12 aa wide M<|bC 0 aa (aQ a) M<|bC 1 aa (aQ a) M<|bz 2 aa (fun _=>nc aa) (fun _=>M)<|bz 3 aa (fun _=>fa pI aa) (fun _=>M)<|dI 4 aa (fun w' E=>ld jR aa<|Md.aO E ((aX aG.cells).trans aa) ex) M<|bC 5 aa (.slice aU r.length bc) M<|bz 6 aa (fun _=>a8 cH aa aa ab<|aJ.ok (a0 _ bq)<|bS ab) (fun _=>M)<|dI 7 aa (fun w' E=>ld bT aa<|ca.get (i:=0) (aJ.md (a0 _ bq) E fun c2 h=>by have h1:=Tg.blt ci c2; have h2:=(dM aG.hd h).1; omega) ab) M<|gP 8 aa aj<|fZ fQ aa aa fun e4 dc e8 dV dx=> ?_
 have bg:=iq dV.md
 have aZ:=aG.wk bg
 have cM:(fun w'=>Md (fun q=>(bR aT seen.length aV).ownBlock=some q) Y w') dc:=Md.mono bg fun _ _ h=>h.elim
 refine ⟨cM,?_⟩
 refine gP 9 aa aj<|ap fQ (aZ.hd) aa (by have :=bq.size; have :=bg.size; omega) aa (aJ.dX dx) (aa) (aa) ab ab fun da dd c4 bl fl fe=> ?_
 have cU:=bl.aH aZ.cells<|dC aZ.hd aZ.cells az
 have eA:=mH c4
 have ch:(fun w'=>Md (fun q=>(bR aT seen.length aV).ownBlock=some q) Y w') dd:=cM.trans' bl fun _ _ h=>h
 refine ⟨ch,?_⟩
 refine bz 10 aa (fun _=>nc aa) (fun _=>ch)<|bz 11 aa (fun _=>fa pI aa) (fun _=>ch)<|dH 12 aa aj aj<|cw GX aa aa (v:=da) (eU c4) cU (by show _ < 6; omega) fun cx b8 dw=> ?_
 have dO:=dN.wk bg
 have d9:TF dc [11] (fun q=>(bR aT seen.length aV).ownBlock=some q):=TF.own aZ.hd az
 have dP:=dO.md bl d9 az
 have cN:TF dd [238] (fun q=>q=a):=TF.eq (dt cU) az
 have dQ:=dP.md b8 cN az
 have d2:gY cx G.heap.size (⟨a,A,(bH s).length+1,.slice ar (bP s).length cr,vs,bP s⟩:gl) k' ln' (seen++ [r.getD 0 []]) da:=⟨dw,cj eA b8 cN az,aG.lo⟩
 have eb:Wk G cx:=((bq.trans bg).trans' bl fun q ao h=>by have :=(dM aZ.hd h).1; omega).trans' b8 fun q ao h=>by omega
 have fk:=qB bs
 have M:mo G cx (⟨a,A,(bH s).length+1,.slice ar (bP s).length cr,vs,bP s⟩:gl) F' k' ln' (seen++ [r.getD 0 []]):=⟨_,_,dQ,d2,⟨b5.len,by rw [bL,fA]; show seen.length+1 +((bP s).drop k').length≤70000; omega,b5.row,b5.kd⟩,eb,ev⟩
 have ez:=yi cs bs
 exact eR aj<|bn<|tn<|⟨_,by rw [aK]; have :=qB bs; simp only [cO]; omega,bG - 1,F',k',ln',seen++ [r.getD 0 []],cS.1,cS.2,M,ez,aa,aa,aa⟩
 have aK:(bP s).drop k= []:=gU ab
 rw [aK,vy] at U
 refine ext<|ba<|ba<|be<|dm<|ag fun bV=>ak (aQ a)<|p (nc aa)<|p (fa lO aa)<|p (ld ig aa<|(aX Z.cells).trans aa)<|aw<|bV<|aB fun bW=>aB fun bY=>rg aa<|aw<|bY<|aH ?_
 obtain ⟨a12,kz,c7⟩:=cB an.dB
 have a2:=an.dB
 rw [c7] at a2
 have bt:Hb.aO aP.heap A 12=some (.slice a12 F.rules.length kz):=by rw [← c7]; exact (aX an.cells).trans rfl
 have fd:=I.len
 refine lp (fun ai cE df=> ∃ (i:Nat),(i≤F.rules.length)∧(∀ j q,j < i→F.rules[j]? =some q→nD F q=false)∧(Wk aP df)∧(cE 12=aQ A)∧(cE 13=au i)∧(F.rules.length - i=ai)) _ ⟨0,ab,(fun j q c0=>by omega),(Md.refl _ _),aa,aa,aa⟩ ?_
 rintro ai cE df ⟨i,hi,bx,bk,eK,eL,rfl⟩
 refine fx 12 eK<|fx 13 eL<|aB fun bZ=>aB fun b0=> ?_
 have ei:=Wk.aO bk bt
 refine rg aa<|ak (au i)<|ak (aQ A)<|p (nc aa)<|p (fa jK aa)<|p (ld kb aa<|ei)<|p (bK tG aa aa)<|p (lt aa aa)<|nl<|b0<|cd aa (fun ej=> ?_) fun ej=> ?_
 refine aM<|bZ<|aB fun a4=>aH<|aB fun a5=> ?_
 have cY:i < F.rules.length:=ab
 obtain ⟨vn,eP,ck⟩:=iw.get an.nx (i:=i)<|by rw [fM]; exact cY
 obtain ⟨q,a3⟩:∃ q,F.rules[i]? =some q:=⟨_,cC cY⟩
 have eC:(F.rules.map (·.next)).getD i []=q.next:=by rw [cR,ir,a3]; rfl
 rw [eC] at ck
 have fg:=cs.2 q<|iN a3
 obtain ⟨dr,du,rfl⟩:=ck.slice
 have aq:(F.rules.zip V.rn)[i]? =some (q,.slice dr q.next.length du):=by rw [jy]; exact ⟨a3,eP⟩
 refine rg aa<|aw<|a5<|aH<|lp (fun ai bU cz=> ∃ (j:Nat),(j≤q.next.length)∧(∀ bi,bi < j→mF F (q.next.getD bi 0)=true)∧(Wk aP cz)∧(bU 12=aQ A)∧(bU 13=au i)∧(bU 14=au j)∧(q.next.length - j=ai)) _ ⟨0,ab,(fun bi eu=>by omega),bk,aa,aa,aa,aa⟩ ?_
 rintro ai bU cz ⟨j,c0,cu,aF,eM,eN,eO,rfl⟩
 refine fx 12 eM<|fx 13 eN<|fx 14 eO<|aB fun b1=>aB fun a6=> ?_
 have cV:=Wk.aO aF bt
 have bA:=aW a2 aF
 refine rg aa<|ak (au j)<|ak (aQ A)<|p (nc aa)<|p (fa jK aa)<|p (ld kb aa<|cV)<|ak (au i)<|p (a8 nM aa aa ab<|aJ.ok ((a7 bA).2)<|nR aq)<|p (fa uQ aa)<|p (ld pz aa<|fG (f:=jv) (m:=8) (fun _=>rfl) (a7 bA).2 aq 6 az)<|p (bK np aa aa)<|p (lt aa aa)<|nl<|a6<|cd aa (fun ek=> ?_) fun ek=> ?_
 refine aM<|b1<|aB fun ax=>aH<|aB fun a9=> ?_
 have cP:=ck.wk aF
 have eY:(q.next.map bN)[j]? =some (bN<|q.next.getD j 0):=by rw [ir,cR,cC (by omega :j < q.next.length)]; rfl
 refine rg aa<|ak (aQ A)<|p (nc aa)<|p (fa jK aa)<|p (ld kb aa<|cV)<|ak (au i)<|p (a8 nM aa aa ab<|aJ.ok ((a7 bA).2)<|nR aq)<|p (fa uQ aa)<|p (ld pz aa<|fG (f:=jv) (m:=8) (fun _=>rfl) (a7 bA).2 aq 6 az)<|ak (au j)<|p (a8 kg aa aa ab<|aJ.ok (cP.cI.2)<|bS ab)<|p (ld bu aa<|aJ.gK cP.cI.2 eY)<|aw<|a9<|aB fun b2=>rg aa<|ak (aQ A)<|p mv<|e<|cl Am (B8 G.heap.size 0 A F V (q.next.getD j 0) cz (an.wk aF) ab) aa fun v164 fC d0=> ?_
 obtain ⟨rfl,cF⟩:=d0
 have fo:=cF.size
 refine p mv<|p (xt aa aa)<|p (xt aa aa)<|e<|al r5 fun e5 fB e9 cK dA=>e<|cW qn aa aa aa aa (dA) (by simp) fun aS dU dE=> ?_
 have J:Wk aP aS:=(aF.trans<|cF.trans cK.md).trans' dU fun q ao h=>by have :=aF.size; omega
 have fm:=cK.size
 refine aw<|b2<|ag fun bb=>p mv<|ak (aQ A)<|p (nc aa)<|p (fa s6 aa)<|p (kh sI aa aa ab)<|p (ld bu aa<|(aX (an.wk J).cells).trans aa)<|p (db aa aa)<|p mv<|gs (t:=174) aa (fun ep=> ?_) fun ep=> ?_
 refine aI aa mv<|aI aa (no aa)<|aI aa mv<|gb (t:=177) aa (fun bv=> ?_) fun bv=> ?_
 refine aE aa<|aE aa<|aE aa<|aI aa (bB aa)<|p (bB aa)<|nl<|bb<|ct aa<|aB fun b3=> ?_
 have C:(fun w'=>Wk aS w') aS.drew:=(Md.refl _ _).drew
 refine bI (fun w'=>Wk aS w') aa wide C<|bF 0 aa (aQ A) C<|aC 1 aa (fun _ _=>nc aa) C<|aC 2 aa (fun _ _=>fa jK aa) C<|aC 3 aa (fun w' E=>ld kb aa<|Wk.aO E<|Wk.aO J bt) C<|bF 4 aa (au i) C<|aC 5 aa (fun _ _=>a8 nM aa aa ab<|aJ.ok ((a7<|aW a2 J).2)<|nR aq) C<|aC 6 aa (fun _ _=>fa H0 aa) C<|aC 7 aa (fun w' E=>ld bu aa<|Wk.aO E<|fG (f:=jv) (m:=8) (fun _=>rfl) (a7<|aW a2 J).2 aq 7 az) C<|aC 8 aa (fun _ _=>aA) C<|aC 9 aa (fun _ _=>aA) C<|aC 10 aa (fun _ _=>aA) C<|hn aj<|b3<|rt<|br<|tr<|tr<|br<|br<|tr<|tr<|br<|tr<|f3 aa aa aa aa ?_
 have cn:fq s= .error (q.line,118):=zR av U.symm<|qu bx a3<|qi (j:=j) ab<|yF ab<|by simpa using bv
 exact lW.no cn<|am.trans<|bd.trans<|J.trans C
 refine aI aa (fa x6 aa)<|aI aa (ld bu aa<|(dE.aO 1).trans aa)<|aI aa (db aa aa)<|aI aa (bp aa)<|p (bB aa)<|nl<|bb<|cd aa (fun el=> ?_) fun el=> ?_
 refine aB fun b3=> ?_
 have C:(fun w'=>Wk aS w') aS.drew:=(Md.refl _ _).drew
 refine bI (fun w'=>Wk aS w') aa wide C<|bF 0 aa (aQ A) C<|aC 1 aa (fun _ _=>nc aa) C<|aC 2 aa (fun _ _=>fa jK aa) C<|aC 3 aa (fun w' E=>ld kb aa<|Wk.aO E<|Wk.aO J bt) C<|bF 4 aa (au i) C<|aC 5 aa (fun _ _=>a8 nM aa aa ab<|aJ.ok ((a7<|aW a2 J).2)<|nR aq) C<|aC 6 aa (fun _ _=>fa H0 aa) C<|aC 7 aa (fun w' E=>ld bu aa<|Wk.aO E<|fG (f:=jv) (m:=8) (fun _=>rfl) (a7<|aW a2 J).2 aq 7 az) C<|aC 8 aa (fun _ _=>aA) C<|aC 9 aa (fun _ _=>aA) C<|aC 10 aa (fun _ _=>aA) C<|hn aj<|b3<|rt<|br<|tr<|tr<|br<|br<|tr<|tr<|br<|tr<|f3 aa aa aa aa ?_
 have cn:fq s= .error (q.line,118):=zR av U.symm<|qu bx a3<|qi (j:=j) ab<|yE ab (by simpa using bv)<|by show ((dW F.bw<|q.next.getD j 0).getD nH).kind≠2; omega
 exact lW.no cn<|am.trans<|bd.trans<|J.trans C
 exact aM<|bn<|ax<|rg aa<|ak (au j)<|p (ad aa aa<|bX ab)<|p aA<|nl<|tn<|⟨_,ab,j+1,ab,(fun k hk=>by rcases fi k j with h | h <;> first | exact cu k h | (rw [show k=j by omega]; exact JU (by simpa using bv)<|by show ((dW F.bw<|q.next.getD j 0).getD nH).kind=2; omega)),J,aa,aa,aa,aa⟩
 exact aE aa<|aE aa<|aE aa<|ec aa<|ec aa<|ec aa<|aE aa<|p (bp aa)<|nl<|bb<|cf aa<|aM<|bn<|ax<|rg aa<|ak (au j)<|p (ad aa aa<|bX ab)<|p aA<|nl<|tn<|⟨_,ab,j+1,ab,(fun k hk=>by rcases fi k j with h | h <;> first | exact cu k h | (rw [show k=j by omega]; exact JT ab)),J,aa,aa,aa,aa⟩
 exact ext<|ba<|ba<|be<|bn<|a4<|rg aa<|ak (au i)<|p (ad aa aa<|bX ab)<|p aA<|nl<|tn<|⟨_,ab,i+1,ab,(fun k e0 hk cv=>by rcases fi k i with h | h <;> first | exact bx k e0 h cv | (rw [show k=i by omega,a3] at cv; cases cv; exact Fh fun bi eu=>cu bi ab)),aF,aa,aa,aa⟩
 refine ext<|ba<|ba<|be<|bW<|ag fun a4=>ak (aQ A)<|p (cJ (aQ A) aa)<|p aA<|aw<|a4<|rt<|f3 aa aa aa aa ?_
 unfold lW
 rw [ET av U.symm (HA fun j q c0 ao=>bx j q ab ao)]
 exact ⟨⟨G.heap.size,A,V,by have :=am.size; omega,aa,an.wk bk,⟨seen,by have I:=I; rw [show (gl.rows (⟨a,A,(bH s).length+1,.slice ar (bP s).length cr,vs,bP s⟩:gl)).drop k= [] from aK] at I; exact I⟩,cs⟩,am.trans<|bd.trans bk⟩
end Go.Hb.kN
end
section
namespace Go.Hb.lf
open Go.Hb.kN
def NO (w':World) (X:Except Nat bD) (v:Value):Prop :=(∃ x a,X= .ok x∧v= .tuple #[.agg [str x.1,a].toArray,.int .i64 (0:Nat)]∧a.oneCell'=true∧Tg w' 0 3 x.2.length a (x.2.map bN))∨(∃ e,X= .error e∧e≠0∧v= .tuple #[.agg [str [],.slice none 0 0].toArray,.int .i64 (e:Nat)])
theorem rX (w:World) (B e:Nat):Tg w B e 0 (.slice none 0 0) []:=Tg.jM (size:=1)<|dz _ _ _ _
def mU (w:World) (B:Nat) (v:Value) (xs:List bD):Prop := ∃ vs,bq w B 169 2 v xs.length (ke<|xs.zip vs)∧iw w 0 3 vs (xs.map (·.2))
theorem mU.md {G:Nat→Prop} {w w':World} {B:Nat} {v:Value} {xs:List bD} (h:mU w B v xs) (hm:Md G w w') {L:List Nat} (i:TF w L G) (a:(L.contains 171 || L.contains 5)=false):mU w' B v xs:=by
 simp only [nv] at a
 obtain ⟨vs,h1,h2⟩:=h
 exact ⟨vs,cj h1 hm i a.1,h2.md hm fun k hk cur z q=>i.no (dt q) a.2 hk⟩
theorem mU.wk {w w':World} {B:Nat} {v:Value} {xs:List bD} (h:mU w B v xs) (hm:Wk w w'):mU w' B v xs:=h.md (L:= []) hm (fun _ hk=>hk.elim) rfl
def lI (F:aR) (t:Tx) (w:World) (v:Value) (w':World):Prop :=(match fg F t with | .ok xs=> ∃ a,v= .tuple #[a,.int .i64 0,.int .i64 0]∧mU w' w.heap.size a xs | .error e=>v= .tuple #[.slice none 0 0,.int .i64 (e.1:Nat),.int .i64 (e.2:Nat)])∧Wk w w'
theorem lI.no {F:aR} {t:Tx} {w w':World} {l e:Nat} (h:fg F t= .error (l,e)) (hm:Wk w w'):lI F t w (.tuple #[.slice none 0 0,.int .i64 (l:Nat),.int .i64 (e:Nat)]) w':=by
 unfold lI; rw [h]; exact ⟨rfl,hm⟩
theorem TY (B fb:Nat) (F:aR) (V:ej) (x:Nat) (w:World) (C:eE w B 0 fb F V) (aq:F.bw.length≤70000):
 bm ay 182 (bf [aQ fb,bN x]) w (fun v w'=>v= .bool (eG F x)∧Wk w w'):=by
 have aE:=C.fR
 refine enter func182 aa ntmps182 aa<|ag fun U=>aw<|U<|aB fun Y=>ag fun Z=>aw<|Z<|aH<|lp (fun G a E=> ∃ (i:Nat),(i≤5)∧(∀ j,j < i→F.sp.getD j 0≠x)∧(E=w)∧(a 0=aQ fb)∧(a 1=bN x)∧(a 5=au i)∧(5 - i=G)) _ ⟨0,ab,(fun j M=>by omega),aa,aa,aa,aa,aa⟩ ?_
 rintro G a E ⟨i,hi,O,aj,ar,av,ax,rfl⟩
 refine fx 0 ar<|fx 1 av<|fx 5 ax ?_
 subst aj
 refine aB fun ac=>ag fun ae=>ak (au i)<|p (lt aa aa)<|nl<|ae<|cd aa (fun ap=> ?_) fun ap=> ?_
 refine aM<|ac<|aB fun q=>aH<|ag fun A=>ak (aQ fb)<|ak (au i)<|p (nc aa)<|p (fa s6 aa)<|p (kh sI aa aa ab)<|p (ld bu aa<|(aX C.cells).trans<|It (i:=i) ab)<|ak (bN x)<|p (bJ aa aa)<|nl<|A<|cd aa (fun J=> ?_) fun J=> ?_
 exact ag fun ah=>aw<|ah<|rt<|br<|tr<|tr<|br<|tr<|aV aa<|⟨by rw [G0 (show x∈F.sp from by obtain rfl :F.sp.getD i 0=x:=ab; exact dU ab)]; rfl,Md.refl _ _⟩
 exact aM<|bn<|q<|rg aa<|ak (au i)<|p (ad aa aa<|bX ab)<|p aA<|nl<|tn<|⟨_,ab,i+1,ab,(fun j M=>by rcases fi j i with h | h <;> first | exact O j h | (rw [show j=i by omega]; exact fun h2=>J<|by rw [h2])),aa,aa,aa,aa,aa⟩
 refine ext<|ba<|ba<|be<|Y<|ag fun q=>ak (aQ fb)<|ak (bN x)<|e<|cl Am (B8 B 0 fb F V x E C aq) aa fun aG aI ao=> ?_
 obtain ⟨rfl,I⟩:=ao
 have aF:=I.size
 exact p mv<|p (xt aa aa)<|p (xt aa aa)<|e<|al r5 fun az aJ aD an ai=>e<|cW qn aa aa aa aa (ai) (by simp) fun aK am aC=>aw<|q<|ag fun A=>p mv<|aw<|A<|rt<|aV aa<|⟨by rw [G1 (Jx fun j M=>O j ab)]; rfl,(I.trans an.md).trans' am fun k hk h=>by omega⟩
theorem TH (B fb:Nat) (F:aR) (V:ej) (r:List Tx) (bb:Nat) (ar:Option Addr) (cr:Nat) (w:World) (a1:eE w B 0 fb F V) (bP:∃ seen,nA F [] seen) (cf:Nx F) (b5:Tg w bb 9 r.length (.slice ar r.length cr) (r.map str)) (cg:∀ x∈r,x.length≤70000) (cA:r.length≤70000):
 bm ay 119 (bf [aQ fb,.slice ar r.length cr]) w (fun v w'=>NO w' (ga F r) v∧Wk w w'):=by
 obtain ⟨seen,aZ⟩:=bP
 have cx:=aZ.len
 have cE:=r4<|r.getD 0 []
 refine enter func119 aa ntmps119 aa<|ag fun bc=>e<|fk Mi fun aV a9 cw ac aY=> ?_
 have cJ:=ac.size
 have a3:=b5.wk ac.md
 have bR:=a1.wk ac.md
 have aK:bO a9.heap aV [str [],.slice none 0 0]:=⟨_,aY⟩
 refine aw<|bc<|aB fun bl=>ag fun bv=>ak (.slice ar r.length cr)<|p (bK eV aa aa)<|p (db aa aa)<|nl<|bv<|cd aa (fun b6=> ?_) fun b6=> ?_
 exact ag fun aC=>p (cQ (ps:= []) (L:= [.string ⟨⟨[]⟩⟩,.slice none 0 0]) pS aa<|aa)<|e<|cW oD aa aa aa aa (aK) (by simp) fun cY bZ bL=>aw<|aC<|rt<|tr<|ew aa (dN (cs:= [str [],.slice none 0 0]) aa oA aa fun j A=>bL.bG j) eb<|⟨.inr ⟨111,Hf ab,az,aa⟩,ac.md.trans' bZ fun q a h=>by omega⟩
 have I:r.length=1:=ab
 have cB:(r.getD 0 []).length≤70000:=cg _<|dU ab
 refine aM<|bl<|ag fun aC=>ak (.slice ar r.length cr)<|p (a8 cH aa aa ab<|aJ.ok (a3.cI.2)<|bS ab)<|p (ld bT aa<|ca.get (i:=0) a3.cI.2 ab)<|e<|cl xo (yO (r.getD 0 []) a9 ab) aa fun cM co b1=> ?_
 obtain ⟨rfl,M⟩:=b1
 have a0:=ac.md.trans M
 have cF:=M.size
 refine p mv<|p (xt aa aa)<|p (xt aa aa)<|p (xt aa aa)<|p (xt aa aa)<|p aA<|p aA<|p aA<|aw<|aC<|aB fun bw=>ag fun bx=>p mv<|p (db aa aa)<|nl<|bx<|cd aa (fun b7=> ?_) fun b7=> ?_
 exact ag fun aD=>p (cQ (ps:= []) (L:= [.string ⟨⟨[]⟩⟩,.slice none 0 0]) pS aa<|aa)<|p mv<|e<|cW oD aa aa aa aa (Wk.B M aK) (by simp) fun cZ b0 bM=>aw<|aD<|rt<|tr<|ew aa (dN (cs:= [str [],.slice none 0 0]) aa oA aa fun j A=>bM.bG j) eb<|⟨.inr ⟨_,xJ I ab,ab,aa⟩,a0.trans' b0 fun q a h=>by omega⟩
 have J:(bA<|r.getD 0 []).2.2.2=0:=ab
 refine aM<|bw<|ag fun aD=>p mv<|e<|cl uC (vv (bA<|r.getD 0 []).1 co ab) aa fun cN cp b2=> ?_
 obtain ⟨rfl,Y⟩:=b2
 have Z:=a0.trans Y
 have ae:=Wk.B (M.trans Y) aK
 have cG:=Y.size
 refine aw<|aD<|aB fun bz=>ag fun aU=>p mv<|p (cz u9 aa aa)<|p (bJ aa aa)<|p mv<|gs (t:=36) aa (fun a7=> ?_) fun a7=> ?_
 have aN:gv (bA<|r.getD 0 []).1=false∨(bA<|r.getD 0 []).1= []:= .inr<|fW ab
 exact aE aa<|aE aa<|p (bB aa)<|nl<|aU<|ct aa<|ag fun U=>p (cQ (ps:= []) (L:= [.string ⟨⟨[]⟩⟩,.slice none 0 0]) pS aa<|aa)<|e<|cW oD aa aa aa aa (ae) (by simp) fun cu aG aF=>aw<|U<|rt<|tr<|ew aa (dN (cs:= [str [],.slice none 0 0]) aa oA aa fun j A=>aF.bG j) eb<|⟨.inr ⟨21,xK I J aN,az,aa⟩,Z.trans' aG fun q a h=>by omega⟩
 refine aI aa mv<|aI aa (no aa)<|p (bp aa)<|nl<|aU<|cb aa (fun aO=> ?_) fun aO=> ?_
 have aN:gv (bA<|r.getD 0 []).1=false∨(bA<|r.getD 0 []).1= []:=by
  first
   | exact .inl<|by simpa using aO
   | exact .inr<|fW ab
 exact ag fun U=>p (cQ (ps:= []) (L:= [.string ⟨⟨[]⟩⟩,.slice none 0 0]) pS aa<|aa)<|e<|cW oD aa aa aa aa (ae) (by simp) fun cu aG aF=>aw<|U<|rt<|tr<|ew aa (dN (cs:= [str [],.slice none 0 0]) aa oA aa fun j A=>aF.bG j) eb<|⟨.inr ⟨21,xK I J aN,az,aa⟩,Z.trans' aG fun q a h=>by omega⟩
 have al:(bA<|r.getD 0 []).1≠[]:=fun h=>a7<|by rw [h]; rfl
 have ah:gv (bA<|r.getD 0 []).1=true :=by simpa using aO
 refine aM<|bz<|aB fun U=>ag fun bd=>p mv<|p (cz u9 aa aa)<|p (gt aa aa)<|nl<|bd<|cd aa (fun b8=> ?_) fun b8=> ?_
 exact ag fun ap=>p (cQ (ps:= []) (L:= [.string ⟨⟨[]⟩⟩,.slice none 0 0]) pS aa<|aa)<|e<|cW oD aa aa aa aa (ae) (by simp) fun cS bU bD=>aw<|ap<|rt<|tr<|ew aa (dN (cs:= [str [],.slice none 0 0]) aa oA aa fun j A=>bD.bG j) eb<|⟨.inr ⟨22,Hg I J ah al ab,az,aa⟩,Z.trans' bU fun q a h=>by omega⟩
 refine aM<|U<|aB fun ap=>ag fun bg=>p mv<|p (no aa)<|nl<|bg<|cb aa (fun ai=> ?_) fun ai=> ?_
 exact ag fun aq=>p mv<|p (cQ (ps:= [(0,str (bA<|r.getD 0 []).1)]) (L:= [str (bA<|r.getD 0 []).1,.slice none 0 0]) pS aa<|aa)<|e<|cW oD aa aa aa aa (ae) (by simp) fun cT bV bE=>aw<|aq<|rt<|tr<|ew aa (dN (cs:= [str (bA<|r.getD 0 []).1,.slice none 0 0]) aa oA aa fun j A=>bE.bG j) eb<|⟨.inl ⟨_,.slice none 0 0,Hh I J ah al ab (by simpa using ai),aa,aa,rX _ _ _⟩,Z.trans' bV fun q a h=>by omega⟩
 refine aM<|ap<|ag fun aq=>ak (aQ fb)<|p mv<|e<|cl FJ (Ir B fb F V (bA<|r.getD 0 []).2.1 cp (bR.wk<|M.trans Y).r aZ.kd ab ab) aa fun cO cq b3=> ?_
 obtain ⟨⟨cv,aW,rfl,cy,a6⟩,hE52⟩:=b3
 have am:=Z.trans hE52
 have aL:=Wk.B hE52 ae
 have cK:=hE52.size
 refine p mv<|p (xt aa aa)<|p (xt aa aa)<|p aA<|aw<|aq<|aB fun bh=>ag fun bi=>p mv<|p (db aa aa)<|nl<|bi<|cd aa (fun a5=> ?_) fun a5=> ?_
 have aS:aW≠0:=fun bC=>a5<|by rw [bC]; rfl
 rcases a6 with ⟨l,h,_⟩ | ⟨ce,aj⟩
 exact absurd h aS
 exact ag fun av=>p (cQ (ps:= []) (L:= [.string ⟨⟨[]⟩⟩,.slice none 0 0]) pS aa<|aa)<|p mv<|e<|cW oD aa aa aa aa (aL) (by simp) fun cU bW bF=>aw<|av<|rt<|tr<|ew aa (dN (cs:= [str [],.slice none 0 0]) aa oA aa fun j A=>bF.bG j) eb<|⟨.inr ⟨_,Hi I J ah al ab (by simpa using ai) aj,ce,aa⟩,am.trans' bW fun q a h=>by omega⟩
 have aS:aW=0:=ab
 have cc:=a6.resolve_right fun h=>h.1 aS
 obtain ⟨set,_,aj,ao⟩:=cc
 have cn:=ao.slice
 obtain ⟨C,E,a⟩:=cn
 subst a
 have cD:=xV cf.1 aj
 refine aM<|bh<|aB fun av=>ag fun bj=>aw<|bj<|aH<|lp (fun aX O aT=> ∃ (j:Nat),(j≤set.length)∧(∀ q,q < j→eG F (set.getD q 0)=true)∧(Wk cq aT)∧(O 0=aQ fb)∧(O 4=aQ aV)∧(O 6=str (bA<|r.getD 0 []).1)∧(O 11= .slice C set.length E)∧(O 12=au j)∧(set.length - j=aX)) _ ⟨0,ab,(fun q a=>by omega),(Md.refl _ _),aa,aa,aa,aa,aa,aa⟩ ?_
 rintro aX O aT ⟨j,A,a4,G,ch,ck,cm,ci,cj,rfl⟩
 refine fx 0 ch<|fx 4 ck<|fx 6 cm<|fx 11 ci<|fx 12 cj<|aB fun bk=>ag fun bo=>ak (au j)<|ak (.slice C set.length E)<|p (bK np aa aa)<|p (lt aa aa)<|nl<|bo<|cd aa (fun b9=> ?_) fun b9=> ?_
 refine aM<|bk<|aB fun ax=>aH<|ag fun bq=>ak (aQ fb)<|ak (.slice C set.length E)<|ak (au j)<|p (a8 kg aa aa ab<|aJ.ok ((ao.wk G).cI.2)<|bS ab)<|p (ld bu aa<|aJ.gK (ao.wk G).cI.2 (show (set.map bN)[j]? =some (bN<|set.getD j 0) by rw [ir,cR,cC (by omega :j < set.length)]; rfl)) ?_
 refine e<|cl Pe (TY B fb F V (set.getD j 0) aT (a1.wk<|am.trans G) ab) aa fun v70 cP b4=> ?_
 obtain ⟨rfl,bQ⟩:=b4
 have an:=G.trans bQ
 have cL:=an.size
 refine aw<|bq<|ag fun bs=>p mv<|p (no aa)<|nl<|bs<|cb aa (fun aP=> ?_) fun aP=> ?_
 exact ag fun bt=>p (cQ (ps:= []) (L:= [.string ⟨⟨[]⟩⟩,.slice none 0 0]) pS aa<|aa)<|e<|cW oD aa aa aa aa (Wk.B an aL) (by simp) fun cV bY bH=>aw<|bt<|rt<|br<|tr<|tr<|br<|tr<|ew aa (dN (cs:= [str [],.slice none 0 0]) aa oA aa fun j A=>bH.bG j) eb<|⟨.inr ⟨120,Hj I J ah al ab (by simpa using ai) aj (i:=j) ab (by simpa using aP),az,aa⟩,(am.trans an).trans' bY fun q a h=>by omega⟩
 exact aM<|bn<|ax<|rg aa<|ak (au j)<|p (ad aa aa<|bX ab)<|p aA<|nl<|tn<|⟨_,ab,j+1,ab,(fun q a=>by rcases fi q j with h | h <;> first | exact a4 q h | (rw [show q=j by omega]; simpa using aP)),an,aa,aa,aa,aa,aa,aa⟩
 exact ext<|ba<|ba<|be<|av<|ag fun ax=>ak (str (bA<|r.getD 0 []).1)<|ak (.slice C set.length E)<|p (cQ (ps:= [(0,str (bA<|r.getD 0 []).1),(1,.slice C set.length E)]) (L:= [str (bA<|r.getD 0 []).1,.slice C set.length E]) pS aa<|aa)<|e<|cW oD aa aa aa aa (Wk.B G aL) (by simp) fun cX a2 bI=>aw<|ax<|rt<|ew aa (dN (cs:= [str (bA<|r.getD 0 []).1,.slice C set.length E]) aa oA aa fun j A=>bI.bG j) eb<|⟨.inl ⟨((bA<|r.getD 0 []).1,set),.slice C set.length E,Bj I J ah al ab (by simpa using ai) aj (fun j A=>a4 j ab),aa,aa,(ao.wk G).md a2<|fu (Wk.aH ((M.trans<|Y.trans hE52).trans G) aY) az⟩,(am.trans G).trans' a2 fun q a h=>by omega⟩
end Go.Hb.lf
end
section
namespace Go.Hb
open Go.Hb.kN Go.Hb.lf
theorem IL {r:List Tx} (h:r.length≠1):lr r=(0,111):=if_pos h
theorem Up {r:List Tx} (h:r.length=1):lr r=dZ (r.getD 0 []) 8192:=if_neg fun h2=>h2 h
theorem TE (B fb:Nat) (F:aR) (V:ej) (t:Tx) (w:World) (cE:eE w B 0 fb F V) (cw:∃ seen,nA F [] seen) (c0:Nx F) (hs:t.length≤1048576):
 bm ay 73 (bf [aQ fb,str t]) w (lI F t w):=by
 refine enter func73 aa ntmps73 aa<|ag fun b7=>p aA<|p aA<|aw<|b7<|aB fun cg=>rg aa<|ak (str t)<|e<|cl Fw (KC t _ hs) aa fun dG dl cF=> ?_
 obtain ⟨⟨dn,rfl,bM⟩,hE17⟩:=cF
 refine p mv<|p (xt aa aa)<|p (xt aa aa)<|p aA<|aw<|cg<|aB fun ck=>ag fun cm=>p mv<|p (db aa aa)<|nl<|cm<|cd aa (fun a5=> ?_) fun a5=> ?_
 have bz:65536 < t.length:=Mv fun h=>a5<|by rw [if_neg h]
 refine ag fun aV=>p mv<|p aA<|p aA<|aw<|aV<|rt<|tr<|f3 aa aa aa aa ?_
 have h:=lI.no (F:=F) (G6 bz) hE17
 show lI F t w (.tuple #[.slice none 0 0,.int .i64 0,.int .i64 (if 65536 < t.length then 10 else 0)]) _
 rw [if_pos bz]
 exact h
 have ao:¬65536 < t.length:=fun h=>a5<|by rw [if_pos h]; decide
 rw [if_neg ao] at bM
 obtain ⟨vs,b1,bc⟩:=bM
 obtain ⟨ar,cr,rfl⟩:=cB b1
 have dA:=yJ t
 have cx:=(a7 b1).2
 have dB:=bc.1
 refine aM<|ck<|ag fun aV=>ak (str t)<|e<|cl Ak (Dd t _ hs) aa fun v24 Z cG=> ?_
 obtain ⟨c1,ax⟩:=cG
 obtain ⟨b4,qm,rfl⟩:=cB c1
 have O:=hE17.trans ax
 have dv:=nT t
 have C:=cx.wk ax
 refine aw<|aV<|aB fun cn=>ag fun cp=>p mv<|p (bK y6 aa aa)<|p (bJ aa aa)<|nl<|cp<|cd aa (fun a6=> ?_) fun a6=> ?_
 have cZ:bP t= []:=fW ab
 exact ag fun aX=>p mv<|p (bK eV aa aa)<|p (bE (((bH t).length+1:Nat):Int) aa aa<|bj ab ab)<|p aA<|p aA<|p aA<|nl<|aX<|rt<|tr<|f3 aa aa aa aa<|lI.no (G7 ao cZ) O
 obtain ⟨⟨av,A⟩,rest,hrw⟩:∃ q rest,bP t=q::rest:=by
  cases h:bP t with
  | nil=>rw [h] at a6; exact absurd rfl a6
  | cons q rest=>exact ⟨q,rest,rfl⟩
 have b3:(bP t)[0]? =some (av,A):=by rw [hrw]; rfl
 obtain ⟨b5,aq⟩:∃ p,vs[0]? =some p:=⟨_,cC ab⟩
 obtain ⟨aY,bi⟩:=bc.2 0 b5 (av,A) aq b3
 obtain ⟨dg,dh⟩:=b5
 obtain rfl :av=dg:=aY.symm
 obtain ⟨a0,bh,c3⟩:=bi.slice
 obtain rfl :dh= .slice a0 A.length bh:=c3
 have bx:Tg Z w.heap.size 9 A.length (.slice a0 A.length bh) (A.map str):=bi.wk ax
 have bV:∀ q∈bP t,q.2.length≤70000∧∀ x∈q.2,x.length≤70000:=fun q b2=>by
  have h:=yK b2
  exact ⟨ab,fun x de=>by have :=(h.2.2.2.2 x de).2; omega⟩
 have cY:A.length≤70000∧∀ x∈A,x.length≤70000:=bV (av,A)<|iN b3
 refine aM<|cn<|aB fun aX=>ag fun cq=>p mv<|p (a8 nN aa aa ab<|aJ.ok (C)<|lQ ab)<|p (fa uX aa)<|p (ld jR aa<|lR (i:=0) C aq 1 az)<|p (bK eV aa aa)<|p (db aa aa)<|nl<|cq<|cd aa (fun bA=> ?_) fun bA=> ?_
 have bY:A.length≠1:=ab
 obtain ⟨bk,bR,cP⟩:=A9 (F:=F) ao hrw<|by rw [IL bY]; decide
 rw [IL bY] at bR
 obtain rfl :bk=111:=by have h:(111:Int)=bk:=bR; omega
 refine aB fun aN=> ?_
 have U:(fun w'=>Wk Z w') Z.drew:=(Md.refl _ _).drew
 exact bI (fun w'=>Wk Z w') aa wide U<|aC 0 aa (fun _ _=>mv) U<|aC 1 aa (fun _ _=>a8 nN aa aa ab<|aJ.ok (C)<|lQ ab) U<|aC 2 aa (fun _ _=>fa s9 aa) U<|aC 3 aa (fun w' ae=>ld bu aa<|Wk.aO ae<|lR (i:=0) C aq 0 az) U<|aC 4 aa (fun _ _=>aA) U<|aC 5 aa (fun _ _=>aA) U<|aC 6 aa (fun _ _=>aA) U<|hn aj<|aN<|rt<|tr<|f3 aa aa aa aa<|lI.no cP<|O.trans U
 have dy:A.length=1:=by have h:¬((A.length:Nat):Int)≠1:=bA; omega
 refine aM<|aX<|ag fun aN=>p mv<|p (a8 nN aa aa ab<|aJ.ok (C)<|lQ ab)<|p (fa uX aa)<|p (ld jR aa<|lR (i:=0) C aq 1 az)<|p (a8 cH aa aa ab<|aJ.ok (bx.cI.2)<|bS ab)<|p (ld bT aa<|ca.get (i:=0) bx.cI.2 ab)<|e<|cl ry (rS (A.getD 0 []) 8192 Z (by have :=cY.2 _ (dU (d:= []) (show 0 < A.length by omega)); omega) ab) aa fun dH bd cK=> ?_
 obtain ⟨rfl,aD⟩:=cK
 have cy:=O.trans aD
 have aG:=Up (show A.length=1 by omega)
 refine p mv<|p (xt aa aa)<|p (xt aa aa)<|p aA<|aw<|aN<|aB fun b8=>ag fun b9=>p mv<|p (db aa aa)<|nl<|b9<|cd aa (fun bB=> ?_) fun bB=> ?_
 obtain ⟨dq,bU,a3⟩:=A9 (F:=F) ao hrw<|by rw [aG]; exact bB
 rw [aG] at bU
 refine aB fun aP=> ?_
 have I:(fun w'=>Wk bd w') bd.drew:=(Md.refl _ _).drew
 refine bI (fun w'=>Wk bd w') aa wide I<|aC 0 aa (fun _ _=>mv) I<|aC 1 aa (fun _ _=>a8 nN aa aa ab<|aJ.ok (C.wk aD)<|lQ ab) I<|aC 2 aa (fun _ _=>fa s9 aa) I<|aC 3 aa (fun w' ae=>ld bu aa<|Wk.aO ae<|lR (i:=0) (C.wk aD) aq 0 az) I<|aC 4 aa (fun _ _=>mv) I<|aC 5 aa (fun _ _=>aA) I<|aC 6 aa (fun _ _=>aA) I<|aC 7 aa (fun _ _=>aA) I<|hn aj<|aP<|rt<|tr<|f3 aa aa aa aa ?_
 have h:=lI.no a3<|cy.trans I
 show lI F t w (.tuple #[.slice none 0 0,au av,.int .i64 (dZ (A.getD 0 []) 8192).2]) _
 rw [bU]
 exact h
 obtain ⟨n,a9,dw,a3⟩:=G3 (F:=F) ao hrw<|by rw [aG]; omega
 rw [aG] at a9
 have cO:iO F ((bH t).length+1) (fg F t) [] (n - 0) ((bP t).drop<|0 +1):=by rw [a3,hrw]; exact iO.start
 obtain ⟨seen,cv⟩:=cw
 refine aM<|b8<|ag fun aP=>aw<|aP<|aB fun cb=>ag fun cc=>aw<|cc<|aH<|lp (fun bl ah Y=> ∃ (i:Nat) (xs:List bD) (vx:List Value) (ac:Option Addr) (co:Nat),(i+1≤(bP t).length∧i≤n)∧(xs.length=i)∧(iO F ((bH t).length+1) (fg F t) xs (n - i)<|(bP t).drop<|i+1)∧(bq Y Z.heap.size 169 2 (.slice ac xs.length co) xs.length<|ke<|xs.zip vx)∧(iw Y 0 3 vx<|xs.map (·.2))∧(Wk Z Y)∧(ah 0=aQ fb)∧(ah 7= .slice ar (bP t).length cr)∧(ah 9= .slice b4 (bH t).length qm)∧(ah 10=au n)∧(ah 11= .slice ac xs.length co)∧(ah 12=au (i+1))∧((bP t).length - i=bl)) _ ⟨0,[],[],none,0,ab,aa,cO,(dz _ _ _ _),(iw.nil _ _ _),aD,aa,aa,aa,(by first | rfl | (rw [← a9]; rfl)),aa,aa,aa⟩ ?_
 rintro bl ah Y ⟨i,xs,vx,ac,co,hi,df,M,bw,a4,E,c5,c9,dc,c6,c7,c8,rfl⟩
 refine fx 0 c5<|fx 7 c9<|fx 9 dc<|fx 10 c6<|fx 11 c7<|fx 12 c8<|aB fun ce=>ag fun cf=>ak (au<|i+1)<|ak (.slice ar (bP t).length cr)<|p (bK y6 aa aa)<|p (lt aa aa)<|nl<|cf<|cd aa (fun cS=> ?_) fun cS=> ?_
 refine aM<|ce<|aB fun aS=>aH<|aB fun aT=>aB fun am=> ?_
 obtain ⟨⟨ln,r⟩,hri⟩:∃ q,(bP t)[i+1]? =some q:=⟨_,cC ab⟩
 have cV:(bP t).drop (i+1)=(ln,r)::(bP t).drop (i+2):=by rw [List.drop_eq_getElem_cons ab]; rw [cC ab] at hri; rw [Option.some.inj hri]
 obtain ⟨p,aK⟩:∃ p,vs[i+1]? =some p:=⟨_,cC ab⟩
 obtain ⟨aY,aF⟩:=bc.2 (i+1) p (ln,r) aK hri
 obtain ⟨di,dj⟩:=p
 obtain rfl :ln=di:=aY.symm
 obtain ⟨a,c,c4⟩:=aF.slice
 obtain rfl :dj= .slice a r.length c:=c4
 have aF:Tg dl w.heap.size 9 r.length (.slice a r.length c) (r.map str):=aF
 have bW:r.length≤70000∧∀ x∈r,x.length≤70000:=bV (ln,r)<|iN hri
 rw [cV] at M
 refine rg aa<|ak (au<|i+1)<|ak (au n)<|p (gt aa aa)<|nl<|am<|cd aa (fun cT=> ?_) fun cT=> ?_
 refine aB fun aU=> ?_
 have J:(fun w'=>Wk Y w') Y.drew:=(Md.refl _ _).drew
 refine bI (fun w'=>Wk Y w') aa wide J<|bF 0 aa (.slice ar (bP t).length cr) J<|bF 1 aa (au<|i+1) J<|aC 2 aa (fun _ _=>a8 nN aa aa ab<|aJ.ok (C.wk E)<|lQ ab) J<|aC 3 aa (fun _ _=>fa s9 aa) J<|aC 4 aa (fun w' ae=>ld bu aa<|Wk.aO ae<|lR (C.wk E) aK 0 az) J<|aC 5 aa (fun _ _=>aA) J<|aC 6 aa (fun _ _=>aA) J<|aC 7 aa (fun _ _=>aA) J<|hn aj<|aU<|rt<|tr<|br<|tr<|tr<|br<|tr<|f3 aa aa aa aa ?_
 rw [show n - i=0 by omega] at M
 exact lI.no M.more<|O.trans<|E.trans J
 refine aM<|aT<|ag fun aU=>ak (aQ fb)<|ak (.slice ar (bP t).length cr)<|ak (au<|i+1)<|p (a8 nN aa aa ab<|aJ.ok (C.wk E)<|lQ ab)<|p (fa uX aa)<|p (ld jR aa<|lR (C.wk E) aK 1 az)<|e<|cl OQ (TH B fb F V r w.heap.size a c Y (cE.wk<|O.trans E) ⟨seen,cv⟩ c0 ((aF.wk ax).wk E) bW.2 bW.1) aa fun dk dm cL=> ?_
 obtain ⟨cD,bs⟩:=cL
 obtain ⟨ai,an,cs,rfl,b0,bQ⟩:∃ (u:Tx) (a:Value) (e:Nat),dk= .tuple #[.agg [str u,a].toArray,au e]∧a.oneCell'=true∧((e=0∧∃ l,ga F r= .ok (u,l)∧Tg dm 0 3 l.length a (l.map bN))∨(e≠0∧ga F r= .error e)):=by
  rcases cD with ⟨x,a,h1,h2,h3,h4⟩ | ⟨e,h1,h2,h3⟩
  exact ⟨x.1,a,0,h2,h3,.inl ⟨aa,x.2,h1,h4⟩⟩
  exact ⟨_,_,e,h3,aa,.inr ⟨h2,h1⟩⟩
 have dD:=bs.size
 refine p mv<|p (xt aa aa)<|p (xt aa aa)<|e<|fk Mi fun bg dI dr a2 bo=> ?_
 have dC:=a2.size
 refine e<|gj oD aa aa aa (y4 b0) bo az fun al bt ct=> ?_
 have bp:Wk Y al:=(bs.trans a2.md).trans' bt fun q b2 h=>by omega
 have cR:al.heap[bg]? =some (.cells [str ai,an].toArray 169 (0,0)):=ct
 have aZ:=E.trans bp
 refine aw<|aU<|aB fun ch=>ag fun ci=>p mv<|p (db aa aa)<|nl<|ci<|cd aa (fun bC=> ?_) fun bC=> ?_
 have bb:=bQ.resolve_left fun h=>bC<|by rw [h.1]; rfl
 obtain ⟨dx,hex⟩:=bb
 refine aB fun cj=> ?_
 have G:(fun w'=>Wk al w') al.drew:=(Md.refl _ _).drew
 exact bI (fun w'=>Wk al w') aa wide G<|bF 0 aa (.slice ar (bP t).length cr) G<|bF 1 aa (au<|i+1) G<|aC 2 aa (fun _ _=>a8 nN aa aa ab<|aJ.ok (C.wk aZ)<|lQ ab) G<|aC 3 aa (fun _ _=>fa s9 aa) G<|aC 4 aa (fun w' ae=>ld bu aa<|Wk.aO ae<|lR (C.wk aZ) aK 0 az) G<|aC 5 aa (fun _ _=>mv) G<|aC 6 aa (fun _ _=>aA) G<|aC 7 aa (fun _ _=>aA) G<|aC 8 aa (fun _ _=>aA) G<|hn aj<|cj<|rt<|tr<|br<|tr<|tr<|br<|tr<|f3 aa aa aa aa<|lI.no (M.bad ab hex)<|O.trans<|aZ.trans G
 have cW:cs=0:=ab
 have bb:=bQ.resolve_right fun h=>h.1 cW
 obtain ⟨_,aL,hex,cM⟩:=bb
 refine aM<|ch<|rg aa<|ak (.slice ac xs.length co)<|p (da oA aa (aa) (show ∀ j,j < 2→Hb.aO al.heap bg (0 +j)= [str ai,an][j]? from fun j du=>bO.bG ⟨_,cR⟩ j))<|e<|kQ KZ aa aa aa fun dp dJ ds bv cu=> ?_
 have aE:=bp.trans bv.md
 have aI:=aW bw aE
 have dE:=aE.size
 refine e<|ap KZ (aI) aa (by have :=E.size; omega) aa (aJ.dX cu) (aa) (y4 b0) ab ab fun v93 b6 c2 a1 dF dt=> ?_
 have cz:=Wk.own (E.trans aE) aI a1<|cA _
 have bZ:bq b6 Z.heap.size 169 2 v93 (xs++ [(ai,aL)]).length (ke<|(xs++ [(ai,aL)]).zip<|vx++ [an]):=by
  have cX:xs.length=vx.length:=by have :=a4.1; rw [fM] at this; omega
  rw [Ez cX,List.zip_cons_cons,List.zip_nil_right,He,bL]; exact c2
 have cQ:iw b6 0 3 (vx++ [an]) ((xs++ [(ai,aL)]).map (·.2)):=by
  rw [iu]
  exact ((a4.wk aE).md a1<|il aI az).snoc (((cM.wk a2.md).md bt<|fu bo az).wk bv.md |>.md a1 (il aI az))
 obtain ⟨a93,xq,dd⟩:=cB bZ
 subst dd
 exact p aA<|nl<|bn<|aS<|rg aa<|ak (au<|i+1)<|p (ad aa aa<|bX ab)<|p aA<|nl<|tn<|⟨_,ab,i+1,xs++ [(ai,aL)],vx++ [an],a93,xq,ab,(by rw [bL,df]; rfl),(by rw [show n - (i+1)=n - i - 1 by omega]; exact M.step ab hex),bZ,cQ,cz,aa,aa,aa,(by first | rfl | (rw [← a9]; rfl)),aa,aa,aa⟩
 refine ext<|ba<|ba<|be<|cb<|aB fun aS=>ag fun aT=>ak (.slice ac xs.length co)<|p (bK y7 aa aa)<|ak (au n)<|p (lt aa aa)<|nl<|aT<|cd aa (fun cU=> ?_) fun cU=> ?_
 refine ag fun am=>ak (.slice b4 (bH t).length qm)<|p (bK eV aa aa)<|p (bE (((bH t).length+1:Nat):Int) aa aa<|bj ab ab)<|p aA<|p aA<|p aA<|nl<|am<|rt<|tr<|f3 aa aa aa aa ?_
 rw [gU ab] at M
 exact lI.no (M.ends ab)<|O.trans E
 refine aM<|aS<|ag fun am=>ak (.slice ac xs.length co)<|p (cJ (.slice ac xs.length co) aa)<|p aA<|p aA<|nl<|am<|rt<|f3 aa aa aa aa ?_
 rw [gU ab,show n - i=0 by omega] at M
 have cN:=M.done
 unfold lI
 rw [cN]
 exact ⟨⟨_,aa,⟨vx,ez bw O.size,a4⟩⟩,O.trans E⟩
end Go.Hb
end
namespace Go.Hb.lH
def Ny (F:aR):Prop := ∀ l∈F.aliases,∀ x∈l,x < 65536
theorem Ii {kind:Nat} {s:Tx} {l:List Nat} (h:kU kind s= .ok l):∀ x∈l,x < 65536:=by
 unfold kU at h
 split at h
 · cases h
 · cases h
   intro x a
   unfold dY at a
   repeat' split at a
   all_goals first
    | (cases a; done)
    | (rw [CP] at a
       obtain ⟨y,_,rfl⟩:=List.mem_map.1 a
       exact HI _ _)
theorem N5 {kind ln:Nat} {row:List Tx} {l:List Nat} (h:ku kind ln row= .ok l):∀ x∈l,x < 65536:=by
 unfold ku at h
 split at h
 · cases h
 · exact Ii h
theorem S8 {kind:Nat} {al:List (List Nat)} {s:Tx} {l:List Nat} (a:∀ l∈al,∀ x∈l,x < 65536) (h:fV kind al s= .ok l):∀ x∈l,x < 65536:=by
 unfold fV at h
 split at h
 · exact Ii h
 · split at h
   · cases h
   · split at h
     · cases h
     · cases h
       rename_i n _ _
       rw [cR]
       cases hg:al[n - 1]? with
       | none=>simp
       | some y=>exact a y<|iN hg
theorem Ut {eof ln:Nat} {F F':aR} {hs:List Tx} {rows rows':List Rw} {row:List Tx} (h:Ny F) (a:cg eof F hs rows ln row= .ok (F',rows')):Ny F':=by
 unfold cg at a
 repeat' split at a
 · unfold ko at a; repeat' split at a
   all_goals first | (cases a; done) | (cases a; exact h)
 · unfold kH at a; repeat' split at a
   all_goals first | (cases a; done) | (cases a; exact h)
 · unfold mK at a; repeat' split at a
   all_goals first | (cases a; done) | (cases a; exact h)
 · unfold mO at a; repeat' split at a
   all_goals first | (cases a; done) | (cases a; exact h)
 · unfold kX at a; repeat' split at a
   all_goals first | (cases a; done) | (cases a; exact h)
 · unfold kn at a; repeat' split at a
   all_goals first | (cases a; done) | (cases a; exact h)
 · unfold jS at a
   split at a
   · cases a
   · split at a
     · cases a
     · split at a
       · cases a
       · rename_i r q
         cases a
         intro l i
         rcases jD.1 i with i | i
         · exact h l i
         · obtain ⟨_,_,h2⟩:=Cf _ _ _ q l i
           exact N5 h2
 · unfold gM at a; repeat' split at a
   all_goals first | (cases a; done) | (cases a; exact h)
theorem WX {eof:Nat} :∀ (k:Nat) (F F':aR) (hs:List Tx) (rows:List Rw),Ny F→gJ eof k F hs rows= .ok F'→Ny F':=by
 intro k
 induction k with
 | zero=>intro F F' hs rows h a; rw [gJ] at a; split at a <;> cases a; exact h
 | succ k A=>
   intro F F' hs rows h a
   cases rows with
   | nil=>rw [vy] at a; cases a; exact h
   | cons q rows=>
     rw [gJ] at a
     split at a
     · cases a
     · split at a
       · cases a
       · split at a
         · cases a
         · split at a
           · cases a
           · rename_i r i
             exact A _ _ _ _ (Ut (rows':=r.2) h i) a
theorem ES {s:Tx} {F:aR} (h:fq s= .ok F):Ny F:=by
 unfold fq at h
 split at h
 · cases h
 · split at h
   · cases h
   · rename_i f a
     split at h
     · cases h
     · cases h
       exact WX _ _ _ _ _ (fun l i=>by cases i) a
def wU (x:bD):Prop :=x.1.length≤64∧x.2.length≤64∧(∀ y∈x.2,y < 65536)
theorem xJ {F:aR} {row:List Tx} {x:bD} (h1:Nx F) (h2:Ny F) (h:ga F row= .ok x):wU x:=by
 unfold ga at h
 split at h
 · cases h
 · split at h
   · cases h
   · split at h
     · cases h
     · split at h
       · cases h
       · split at h
         · cases h; exact ⟨by simp only; omega,by simp,fun y i=>by cases i⟩
         · split at h
           · cases h
           · rename_i a
             split at h
             · cases h
               exact ⟨by simp only; omega,xV h1.1 a,S8 h2 a⟩
             · cases h
theorem SA {F:aR} {eof:Nat} (h1:Nx F) (h2:Ny F):∀ {n:Nat} {rows:List Rw} {r:List bD},e8 F eof n rows= .ok r→∀ x∈r,wU x:=by
 intro n
 induction n with
 | zero=>
   intro rows r h
   cases rows with
   | nil=>rw [e8] at h; cases h; intro x a; cases a
   | cons q rows=>rw [e8] at h; cases h
 | succ n A=>
   intro rows r h
   cases rows with
   | nil=>rw [e8] at h; cases h
   | cons q rows=>
     rw [e8] at h
     split at h
     · cases h
     · rename_i he
       split at h
       · cases h
       · rename_i i
         cases h
         intro x a
         rcases List.mem_cons.1 a with rfl | a
         · exact xJ h1 h2 he
         · exact A i x a
theorem G4 {F:aR} {t:Tx} {xs:List bD} (h1:Nx F) (h2:Ny F) (h:fg F t= .ok xs):(∀ x∈xs,wU x)∧xs.length≤8192:=by
 unfold fg at h
 split at h
 · cases h
 · split at h
   · cases h
   · split at h
     · cases h
     · split at h
       · cases h
       · rename_i hn
         refine ⟨SA h1 h2 h,?_⟩
         have i:=(SC h).1
         unfold eX at hn
         split at hn
         · cases hn
         · cases hn
           rename_i a
           have :=qJ _ 8192<|jk.1 a
           omega
theorem qy {F:aR} {s:Tx} {e:Nat} (h:gH F s= .error e):e≠0:=by
 unfold gH at h; repeat' split at h
 all_goals first | (cases h; done) | (cases h; decide) | (cases h; assumption)
theorem Ih {k:Nat} {s:Tx} {e:Nat} (h:kU k s= .error e):e≠0:=by
 unfold kU at h; repeat' split at h
 all_goals first | (cases h; done) | (cases h; assumption)
theorem pP {s:Tx} {m:Int} {e:Nat} (h:eX s m= .error e):e≠0:=by
 unfold eX at h; repeat' split at h
 all_goals first | (cases h; done) | (cases h; decide)
theorem HO {k:Nat} {al:List (List Nat)} {s:Tx} {e:Nat} (h:fV k al s= .error e):e≠0:=by
 unfold fV at h; repeat' split at h
 all_goals first | exact Ih h | (cases h; done) | (cases h; decide)
theorem Kd {b:Bool} {s:Tx} {e:Nat} (h:eA b s= .error e):e≠0:=by
 unfold eA at h; repeat' split at h
 all_goals first | (cases h; done) | (cases h; decide) | (cases h; assumption)
theorem NY {r:lJ} {e:Nat} (h:jH r= .error e):e≠0:=by
 unfold jH at h; repeat' split at h
 all_goals first | (cases h; done) | (cases h; assumption)
theorem VX {k a:Nat} {al:List (List Nat)} {r:lJ} {e:Nat} (h:kY k al a r= .error e):e≠0:=by
 unfold kY at h; repeat' split at h
 all_goals first | exact HO h | (cases h; done) | (cases h; decide)
theorem Rp {r:List Tx} {e:Nat} (h:kR r= .error e):e≠0:=by
 unfold kR at h; repeat' split at h
 all_goals first | (cases h; done) | (cases h; decide) | (cases h; assumption)
theorem qO {k ln:Nat} {al:List (List Nat)} {c:cX} {r:List Tx} {e:Nat} (h:fI k al c ln r= .error e):e≠0:=by
 unfold fI at h; repeat' split at h
 all_goals first
  | (cases h; done)
  | (cases h; decide)
  | (cases h; exact Kd<|by assumption)
  | (cases h; exact NY<|by assumption)
  | (cases h; exact VX<|by assumption)
  | (cases h; exact Rp<|by assumption)
theorem qN {ln:Nat} {r:List Tx} {e:Nat} (h:kJ ln r= .error e):e≠0:=by
 unfold kJ at h; repeat' split at h
 all_goals first
  | (cases h; done)
  | (cases h; decide)
  | (cases h; exact Kd<|by assumption)
theorem qf {k ln:Nat} {r:List Tx} {e:Nat} (h:ku k ln r= .error e):e≠0:=by
 unfold ku at h; repeat' split at h
 all_goals first | exact Ih h | (cases h; decide)
theorem iX {α:Type} {hd:List Tx} {rd:Nat→List Tx→Except Nat α} {eof:Nat} (a:∀ l r e,rd l r= .error e→e≠0):∀ {n:Nat} {rows:List Rw} {l e:Nat},group hd rd eof n rows= .error (l,e)→e≠0:=by
 intro n
 induction n with
 | zero=>intro rows l e h; rw [group] at h; cases h
 | succ n i=>
   intro rows l e h
   cases rows with
   | nil=>rw [group] at h; cases h; decide
   | cons q rows=>
     rw [group] at h
     split at h
     · cases h; decide
     · split at h
       · rename_i he; cases h; exact a _ _ _ he
       · split at h
         · rename_i he; cases h; exact i he
         · cases h
theorem Us {eof ln l e:Nat} {F:aR} {hs:List Tx} {rows:List Rw} {row:List Tx} (h:cg eof F hs rows ln row= .error (l,e)):e≠0:=by
 unfold cg at h
 repeat' split at h
 · unfold ko at h; repeat' split at h
   all_goals first
    | (cases h; done)
    | (cases h; decide)
    | (cases h; assumption)
    | (cases h; exact qy<|by assumption)
    | (cases h; exact pP<|by assumption)
    | (cases h; exact iX (fun _ _ _ h=>qN h)<|by assumption)
    | (cases h; exact iX (fun _ _ _ h=>qf h)<|by assumption)
    | (cases h; exact iX (fun _ _ _ h=>qO h)<|by assumption)
 · unfold kH at h; repeat' split at h
   all_goals first
    | (cases h; done)
    | (cases h; decide)
    | (cases h; assumption)
    | (cases h; exact qy<|by assumption)
    | (cases h; exact pP<|by assumption)
    | (cases h; exact iX (fun _ _ _ h=>qN h)<|by assumption)
    | (cases h; exact iX (fun _ _ _ h=>qf h)<|by assumption)
    | (cases h; exact iX (fun _ _ _ h=>qO h)<|by assumption)
 · unfold mK at h; repeat' split at h
   all_goals first
    | (cases h; done)
    | (cases h; decide)
    | (cases h; assumption)
    | (cases h; exact qy<|by assumption)
    | (cases h; exact pP<|by assumption)
    | (cases h; exact iX (fun _ _ _ h=>qN h)<|by assumption)
    | (cases h; exact iX (fun _ _ _ h=>qf h)<|by assumption)
    | (cases h; exact iX (fun _ _ _ h=>qO h)<|by assumption)
 · unfold mO at h; repeat' split at h
   all_goals first
    | (cases h; done)
    | (cases h; decide)
    | (cases h; assumption)
    | (cases h; exact qy<|by assumption)
    | (cases h; exact pP<|by assumption)
    | (cases h; exact iX (fun _ _ _ h=>qN h)<|by assumption)
    | (cases h; exact iX (fun _ _ _ h=>qf h)<|by assumption)
    | (cases h; exact iX (fun _ _ _ h=>qO h)<|by assumption)
 · unfold kX at h; repeat' split at h
   all_goals first
    | (cases h; done)
    | (cases h; decide)
    | (cases h; assumption)
    | (cases h; exact qy<|by assumption)
    | (cases h; exact pP<|by assumption)
    | (cases h; exact iX (fun _ _ _ h=>qN h)<|by assumption)
    | (cases h; exact iX (fun _ _ _ h=>qf h)<|by assumption)
    | (cases h; exact iX (fun _ _ _ h=>qO h)<|by assumption)
 · unfold kn at h; repeat' split at h
   all_goals first
    | (cases h; done)
    | (cases h; decide)
    | (cases h; assumption)
    | (cases h; exact qy<|by assumption)
    | (cases h; exact pP<|by assumption)
    | (cases h; exact iX (fun _ _ _ h=>qN h)<|by assumption)
    | (cases h; exact iX (fun _ _ _ h=>qf h)<|by assumption)
    | (cases h; exact iX (fun _ _ _ h=>qO h)<|by assumption)
 · unfold jS at h; repeat' split at h
   all_goals first
    | (cases h; done)
    | (cases h; decide)
    | (cases h; assumption)
    | (cases h; exact qy<|by assumption)
    | (cases h; exact pP<|by assumption)
    | (cases h; exact iX (fun _ _ _ h=>qN h)<|by assumption)
    | (cases h; exact iX (fun _ _ _ h=>qf h)<|by assumption)
    | (cases h; exact iX (fun _ _ _ h=>qO h)<|by assumption)
 · unfold gM at h; repeat' split at h
   all_goals first
    | (cases h; done)
    | (cases h; decide)
    | (cases h; assumption)
    | (cases h; exact qy<|by assumption)
    | (cases h; exact pP<|by assumption)
    | (cases h; exact iX (fun _ _ _ h=>qN h)<|by assumption)
    | (cases h; exact iX (fun _ _ _ h=>qf h)<|by assumption)
    | (cases h; exact iX (fun _ _ _ h=>qO h)<|by assumption)
theorem WW {eof:Nat} :∀ (k:Nat) (F:aR) (hs:List Tx) (rows:List Rw) (l e:Nat),rows.length≤k→gJ eof k F hs rows= .error (l,e)→e≠0:=by
 intro k
 induction k with
 | zero=>
   intro F hs rows l e hk a
   obtain rfl :=fW<|Nat.le_zero.1 hk
   rw [vy] at a; cases a
 | succ k A=>
   intro F hs rows l e hk a
   cases rows with
   | nil=>rw [vy] at a; cases a
   | cons q rows=>
     rw [gJ] at a
     split at a
     · cases a; decide
     · split at a
       · cases a; decide
       · split at a
         · cases a; decide
         · split at a
           · rename_i he; cases a; exact Us he
           · rename_i r i
             have h1:=qB (rows':=r.2) i
             simp only [cO] at hk
             exact A _ _ _ _ _ ab a
theorem N1 {s:Tx} {l e:Nat} (h:fq s= .error (l,e)):e≠0:=by
 unfold fq at h
 split at h
 · cases h; decide
 · split at h
   · rename_i he; cases h; exact WW _ _ _ _ _ _ (cA _) he
   · split at h
     · cases h; decide
     · cases h
theorem Sv {F:aR} {row:List Tx} {e:Nat} (h:ga F row= .error e):e≠0:=by
 unfold ga at h
 repeat' split at h
 all_goals first
  | (cases h; done)
  | (cases h; decide)
  | (cases h; assumption)
  | (cases h; exact HO<|by assumption)
theorem SD {F:aR} {eof l e:Nat} :∀ {n:Nat} {rows:List Rw},e8 F eof n rows= .error (l,e)→e≠0:=by
 intro n
 induction n with
 | zero=>
   intro rows h
   cases rows with
   | nil=>rw [e8] at h; cases h
   | cons q rows=>rw [e8] at h; cases h; decide
 | succ n a=>
   intro rows h
   cases rows with
   | nil=>rw [e8] at h; cases h; decide
   | cons q rows=>
     rw [e8] at h
     split at h
     · rename_i he; cases h; exact Sv he
     · split at h
       · rename_i he; cases h; exact a he
       · cases h
theorem Si {F:aR} {t:Tx} {l e:Nat} (h:fg F t= .error (l,e)):e≠0:=by
 unfold fg at h
 split at h
 · cases h; decide
 · split at h
   · cases h; decide
   · split at h
     · cases h; decide
     · split at h
       · rename_i he; cases h; exact pP he
       · exact SD h
end Go.Hb.lH
section
namespace Go.Hb
open Go.Hb.gX Go.Hb.lf Go.Hb.lH Go.Hb.kN
noncomputable def lD (a t:Tx):Option (aR×List bD):=match fq a with
 | .error _=>none
 | .ok F=>match fg F t with
   | .error _=>none
   | .ok xs=>some (F,xs)
theorem Ls {a t:Tx} {e:Nat×Nat} (h:fq a= .error e):lD a t=none:=by unfold lD; rw [h]
theorem Lt {a t:Tx} {F:aR} {e:Nat×Nat} (h:fq a= .ok F) (h1:fg F t= .error e):lD a t=none:=by unfold lD; rw [h]; simp only; rw [h1]
theorem DC {a t:Tx} {F:aR} {xs:List bD} (h:fq a= .ok F) (h1:fg F t= .ok xs):lD a t=some (F,xs):=by unfold lD; rw [h]; simp only; rw [h1]
structure eF (F:aR) (xs:List bD):Prop where
 len:F.dd.length+F.aliases.length+F.bw.length+F.rules.length≤70000
 nx:Nx F
 uJ:∀ x∈xs,wU x
 xl:xs.length≤8192
 fs:sx F
 cls:pk F
 Sr:∀ x∈xs,lg x.2
 fR:F.sp.length=5
 ne:∀ x∈xs,1≤x.1.length
theorem zT {s:Tx} {F:aR} (h:fq s= .ok F):Nx F:=EP (Q:=Nx) ⟨fun l a=>(by cases a),fun l a=>by cases a⟩ (fun _ _ _ _ _ _ _ _ h i=>yi h i) h
theorem eF.of {a t:Tx} {F:aR} {xs:List bD} (h:fq a= .ok F) (h1:fg F t= .ok xs) (i:∃ seen,kM F [] seen) (h5:F.sp.length=5):eF F xs:=by
 obtain ⟨seen,i⟩:=i
 have A:=i.len
 have q:=G4 (zT h) (ES h) h1
 exact ⟨by simpa using A,zT h,q.1,q.2,(zS h).1,(zS h).2,Sh (zS h).1 h1,h5,Sk h1⟩
theorem eF.iK {F:aR} {xs:List bD} (h:eF F xs) {i:Nat} {r:c7} (a:F.rules[i]? =some r):r.next.length≤64∧lg r.next∧jQ r:=⟨h.nx.2 r (iN a),h.fs.2 r<|iN a⟩
structure hU where
 fb:Nat
 mc:Nat
 wb:Nat
 mb:Nat
 V:e6
 V2:e6
 va:Value
 ve:Value
 vs:List Value
 ws:List Value
def YD (F:aR) (a:hU):List Value:= .pointer (some ⟨a.fb,0,none⟩):: .pointer (some ⟨a.wb,0,none⟩)::(lL F a.V2++ [a.ve])
structure fE (w:World) (B tb:Nat) (U:hU) (F:aR) (xs:List bD):Prop where
 cells:w.heap[tb]? =some (.cells (YD F U).toArray 64 (0,0))
 fl:dS w B U.fb U.mc F U.V
 ax:ph w B F U.V2
 wd:la w B U.wb U.mb U.va U.vs xs
 oe:bq w B 72 2 U.ve xs.length (ke<|xs.zip U.ws)
 ef:eu w B 51 U.ws (xs.map (·.2))
theorem Af {G:Nat→Prop} {w w':World} {B:Nat} {F:aR} {V:e6} (h:ph w B F V) (hm:Md G w w') {L:List Nat} (a:TF w L G) (i:(L.contains 130 || L.contains 72 || L.contains 53 || L.contains 133 || L.contains 79)=false):ph w' B F V:=by
 simp only [nv] at i
 obtain ⟨⟨⟨⟨h1,h2⟩,h3⟩,h4⟩,h5⟩:=i
 have q:∀ k,G k→∀ cur z,w.heap[k]?≠some (.cells cur 51 z):=fun k hk cur z A=>a.no (dt A) h3 hk
 exact ⟨cj h.o9 hm a h1,cj h.eT hm a h2,h.al.md hm q,cj h.ep hm a h4,cj h.dB hm a h5,h.nx.md hm q⟩
theorem fE.vf {G:Nat→Prop} {w w':World} {B tb:Nat} {i:hU} {F:aR} {xs:List bD} (h:fE w B tb i F xs) (hm:Md G w w') {L:List Nat} (a:TF w L G) (q:(L.contains 127 || L.contains 130 || L.contains 72 || L.contains 53 || L.contains 133 || L.contains 79 || L.contains 188 || L.contains 74 || L.contains 5 || L.contains 66)=false) (I:¬G i.mc) (E:¬G i.mb):fE w' B tb i F xs:=by
 simp only [nv] at q
 obtain ⟨⟨⟨⟨⟨⟨⟨⟨⟨h1,h2⟩,h3⟩,h4⟩,h5⟩,h6⟩,h7⟩,h8⟩,h9⟩,h10⟩:=q
 have A:∀ k,G k→∀ cur z,w.heap[k]?≠some (.cells cur 51 z):=fun k hk cur z C=>a.no (dt C) h4 hk
 exact ⟨hm.gL a h.cells h10,h.fl.md hm a (by rw [h1,h2,h3,h4,h5,h6]; rfl) I,Af h.ax hm a (by rw [h2,h3,h4,h5,h6]; rfl),h.wd.md hm a (by rw [h7,h8,h4,h9]; rfl) E,cj h.oe hm a h8,h.ef.md hm A⟩
theorem fE.wk {w w':World} {B tb:Nat} {a:hU} {F:aR} {xs:List bD} (h:fE w B tb a F xs) (hm:Wk w w'):fE w' B tb a F xs:=h.vf (L:= []) hm (fun _ hk=>hk.elim) rfl id id
theorem Ow {w w':World} {B:Nat} {F:aR} {V:e6} (h:ph w B F V) (hm:Wk w w'):ph w' B F V:=Af (L:= []) h hm (fun _ hk=>hk.elim) rfl
theorem Ou {w:World} {B B':Nat} {F:aR} {V:e6} (h:ph w B F V) (a:B'≤B):ph w B' F V:=⟨ez h.o9 a,ez h.eT a,h.al.mono a,ez h.ep a,ez h.dB a,h.nx.mono a⟩
theorem WT {s:Tx} {w w':World} {v:Value} (h:po s w v w'):∃ p q A C,v= .tuple #[.pointer p,.agg [.int .i64 q,.int .i64 A,.int .i64 C].toArray]∧((p=none∧∃ e,fq s= .error e)∨(∃ F fb mc V,p=some ⟨fb,0,none⟩∧fq s= .ok F∧dS w' w.heap.size fb mc F V∧(∃ seen,kM F [] seen)∧Nx F))∧Wk w w':=by
 obtain ⟨h,a⟩:=h
 cases hx:fq s with
 | error e=>rw [hx] at h; exact ⟨_,_,_,_,h,.inl ⟨rfl,e,rfl⟩,a⟩
 | ok F=>rw [hx] at h; obtain ⟨fb,mc,V,i,h1,h2,h3⟩:=h; exact ⟨_,_,_,_,i,.inr ⟨F,fb,mc,V,rfl,rfl,h1,h2,h3⟩,a⟩
theorem Sp {F:aR} {s:Tx} {w w':World} {v:Value} (h:lV F s w v w'):∃ p q A C,v= .tuple #[.pointer p,.agg [.int .i64 q,.int .i64 A,.int .i64 C].toArray]∧((p=none∧∃ e,fg F s= .error e)∨(∃ xs B wb mb va vs,p=some ⟨wb,0,none⟩∧fg F s= .ok xs∧w.heap.size≤B∧la w' B wb mb va vs xs∧w.heap.size≤wb∧w.heap.size≤mb))∧Wk w w':=by
 obtain ⟨h,a⟩:=h
 cases hx:fg F s with
 | error e=>rw [hx] at h; exact ⟨_,_,_,_,h,.inl ⟨rfl,e,rfl⟩,a⟩
 | ok xs=>rw [hx] at h; obtain ⟨B,wb,mb,va,vs,h1,i,h2,h3,h4⟩:=h; exact ⟨_,_,_,_,i,.inr ⟨xs,B,wb,mb,va,vs,rfl,rfl,h1,h2,h3,h4⟩,a⟩
def uq (a t:Tx) (w:World) (v:Value) (w':World):Prop :=(∃ p q A C,v= .tuple #[.pointer p,.agg [.int .i64 q,.int .i64 A,.int .i64 C].toArray]∧match lD a t with
 | none=>p=none
 | some T=> ∃ B tb i,w.heap.size≤B∧p=some ⟨tb,0,none⟩∧fE w' B tb i T.1 T.2∧eF T.1 T.2)∧Wk w w'
theorem uq.no {a t:Tx} {w w':World} {i q A:Int} (h:lD a t=none) (hm:Wk w w'):uq a t w (.tuple #[.pointer none,.agg [.int .i64 i,.int .i64 q,.int .i64 A].toArray]) w':=⟨⟨none,i,q,A,rfl,by rw [h]⟩,hm⟩
theorem Ze {w:World} {B B':Nat} {f:Value→Option Value} {xs:List bD} (h:mW w B f xs) (a:B'≤B):mW w B' f xs:=⟨fun s=>ez (h.own s) a,h.nil⟩
theorem Sq {w:World} {B B' wb mb:Nat} {va:Value} {vs:List Value} {xs:List bD} (h:la w B wb mb va vs xs) (a:B'≤B):la w B' wb mb va vs xs:=by
 obtain ⟨f,i,q⟩:=h.mp
 exact ⟨h.cells,ez h.own a,h.fl.mono a,f,i,Ze q a⟩
theorem Ly (a t:Tx) (w:World) (bS:a.length≤1048576) (b4:t.length≤1048576):
 bm ay 19 (bf [str a,str t]) w (uq a t w):=by
 refine enter func19 aa ntmps19 aa<|ag fun bo=>p aA<|e<|fk p4 fun A ah ce ao ai=> ?_
 have ct:=ao.size
 refine nl<|bo<|ag fun bq=>ak (str a)<|e<|cl P9 (N0 a ah bS) aa fun v12 bl bK=> ?_
 have bX:=WT bK
 obtain ⟨pp,bc,bd,bg,rfl,bb,aJ⟩:=bX
 have ck:=aJ.size
 refine p mv<|p (xt aa aa)<|p (xt aa aa)<|e<|fk p4 fun aT cA cf a4 bB=> ?_
 have cu:=a4.size
 refine p aA<|e<|gj jT aa aa aa aa bB az fun O aZ aF=> ?_
 have aI:Wk bl O:=a4.md.trans' aZ fun q E h=>by omega
 have aW:=aJ.trans aI
 have ci:=aZ.size
 have b2:bO O.heap aT [.int .i64 bc,.int .i64 bd,.int .i64 bg]:=⟨_,aF⟩
 refine nl<|bq<|aB fun br=>ag fun bs=>p mv<|p (kT vM aa aa)<|nl<|bs<|cb aa (fun ar=> ?_) fun ar=> ?_
 obtain ⟨rfl,e,C⟩:pp=none∧∃ e,fq a= .error e:=by rcases bb with h | ⟨_,_,_,_,rfl,_⟩ <;> first | exact h | cases ar
 refine aB fun ax=> ?_
 have ap:(fun w'=>Md (fun q=>q=A) O w') O.drew:=(Md.refl _ _).drew
 refine bI (fun w'=>Md (fun q=>q=A) O w') aa wide ap<|aC 0 aa (fun w' I=>da lj aa (aa) fun j M=>(Md.B I b2 fun h=>by omega).bG j) ap<|aC 1 aa (fun _ _=>aA) ap<|he 2 aa aj<|gj jT aa aa aa aa (Wk.aH aW ai) az fun b6 bH bw=> ?_
 have a5:(fun w'=>Md (fun q=>q=A) O w') b6:=ap.trans' bH fun q E h=>h
 refine ⟨a5,?_⟩
 exact hn aj<|ax<|rt<|tr<|ew aa eb (dN (cs:= [.int .i64 bc,.int .i64 bd,.int .i64 bg]) aa lj aa fun j M=>(aX bw).trans<|by match j,M with | 0,_=>rfl | 1,_=>rfl | 2,_=>rfl)<|uq.no (Ls C)<|(ao.md.trans aW).trans' a5 fun q E h=>by omega
 obtain ⟨F,fb,mc,V,rfl,C,am,aV,a3⟩:=bb.resolve_left fun h=>by rw [h.1] at ar; cases ar
 refine aM<|br<|ag fun ax=>p mv<|ak (str t)<|e<|cl Qa (Sn ah.heap.size fb mc F V t O (am.wk aI) aV a3 b4) aa fun v21 cz bL=> ?_
 have bY:=Sp bL
 obtain ⟨b5,bh,bi,bj,rfl,ba,al⟩:=bY
 have cn:=al.size
 refine p mv<|p (xt aa aa)<|p (xt aa aa)<|p aA<|e<|gj jT aa aa aa aa (Wk.aH al aF) (by simp) fun G aN bx=> ?_
 have aY:Wk bl G:=(aI.trans al).trans' aN fun q E h=>by omega
 have Z:=aJ.trans aY
 have cq:=aN.size
 have b3:bO G.heap aT [.int .i64 bh,.int .i64 bi,.int .i64 bj]:=⟨_,bx⟩
 refine nl<|ax<|aB fun bt=>ag fun bu=>p mv<|p (kT DH aa aa)<|nl<|bu<|cb aa (fun au=> ?_) fun au=> ?_
 obtain ⟨rfl,e,hd⟩:b5=none∧∃ e,fg F t= .error e:=by rcases ba with h | ⟨_,_,_,_,_,_,rfl,_⟩ <;> first | exact h | cases au
 refine aB fun aD=> ?_
 have aq:(fun w'=>Md (fun q=>q=A) G w') G.drew:=(Md.refl _ _).drew
 refine bI (fun w'=>Md (fun q=>q=A) G w') aa wide aq<|aC 0 aa (fun w' I=>da lj aa (aa) fun j M=>(Md.B I b3 fun h=>by omega).bG j) aq<|aC 1 aa (fun _ _=>aA) aq<|he 2 aa aj<|gj jT aa aa aa aa (Wk.aH Z ai) az fun b7 bJ bA=> ?_
 have a6:(fun w'=>Md (fun q=>q=A) G w') b7:=aq.trans' bJ fun q E h=>h
 refine ⟨a6,?_⟩
 exact hn aj<|aD<|rt<|tr<|ew aa eb (dN (cs:= [.int .i64 bh,.int .i64 bi,.int .i64 bj]) aa lj aa fun j M=>(aX bA).trans<|by match j,M with | 0,_=>rfl | 1,_=>rfl | 2,_=>rfl)<|uq.no (Lt C hd)<|(ao.md.trans Z).trans' a6 fun q E h=>by omega
 obtain ⟨xs,B,wb,mb,va,vs,rfl,hd,ca,bR,ch,cg⟩:=ba.resolve_left fun h=>by rw [h.1] at au; cases au
 have aR:=bR.md (L:= [49]) aN (TF.eq (dt<|Wk.aH al aF) az) az fun h=>by omega
 have aL:=am.wk aY
 have bU:=G4 (zT C) (ES C) hd
 obtain ⟨seen,aU⟩:=aV
 have bV:=aU.len
 refine aM<|bt<|ag fun aD=>p mv<|p mv<|p (cQ (ps:= [(0,aQ fb),(1,aQ wb)]) (L:= [aQ fb,aQ wb,.int .i64 0,.string ⟨⟨[]⟩⟩,.string ⟨⟨[]⟩⟩,.int .u16 0,.int .u16 0,.int .u16 0,.int .u16 0,.int .u16 0,.int .i64 0,.slice none 0 0,.slice none 0 0,.slice none 0 0,.slice none 0 0,.slice none 0 0]) Yp aa<|aa)<|e<|oB aa fun aE U cc an aG=> ?_
 have co:=an.size
 refine aw<|aD<|aB fun bv=> ?_
 have i:(fun w'=>Wk U w') U.drew:=(Md.refl _ _).drew
 refine eS (fun w'=>Wk U w') 14 aa wide i<|bz 0 aa (fun _=>mv) (fun _=>i)<|bz 1 aa (fun _=>mv) (fun _=>i)<|bz 2 aa (fun _=>mv) (fun _=>i)<|bz 3 aa (fun _=>nc aa) (fun _=>i)<|bz 4 aa (fun _=>fa BW aa) (fun _=>i)<|dI 5 aa (fun w' I=>ld gn aa<|Wk.aO I<|(aX aG).trans aa) i<|bz 7 aa (fun _=>mv) (fun _=>i)<|bz 8 aa (fun _=>nc aa) (fun _=>i)<|bz 9 aa (fun _=>fa H9 aa) (fun _=>i)<|dI 10 aa (fun w' I=>ld E0 aa<|Wk.aO I<|(aX aG).trans aa) i<|gP 6 aa aj<|cl AA (zU ah.heap.size fb mc F V U.drew ((aL.wk an.md).wk i) (by simp only [List.length_nil] at bV; omega) a3) aa fun v37 bn bM=> ?_
 obtain ⟨⟨V2,rfl,bT⟩,hE37⟩:=bM
 have cp:=hE37.size
 have cy:=i.size
 have a7:(fun w'=>Wk U w') bn:=i.trans hE37
 refine ⟨a7,?_⟩
 refine gP 11 aa aj<|cl Qb (R8 B wb mb va vs xs bn (((aR.wk an.md).wk i).wk hE37) ab fun x C=>(bU.1 x C).2.1) aa fun bk av bN=> ?_
 obtain ⟨⟨ws,a9,bW,_⟩,hE42⟩:=bN
 have cr:=hE42.size
 have ae:=Ow bT hE42
 have a8:=Wk.aH hE42<|Wk.aH hE37<|Wk.aH i aG
 have aP:(fun w'=>Wk U w') av:=a7.trans hE42
 refine ⟨aP,?_⟩
 refine bz 12 aa (fun _=>nc aa) (fun _=>aP)<|bz 13 aa (fun _=>fa uZ aa) (fun _=>aP)<|dH 14 aa aj aj<|gj A5 aa aa aa (Ae (eU ae.o9) (eU ae.eT) (eU ae.ep)<|eU ae.dB) a8 (by simp) fun cB a1 bD=> ?_
 have cx:=a1.size
 refine bz 15 aa (fun _=>nc aa) (fun h=>ee<|(show true =_ from by kernel_rfl).trans h)<|bz 16 aa (fun _=>fa BX aa) (fun h=>ee<|(show true =_ from by kernel_rfl).trans h)<|dH 17 aa aj aj<|cw GW aa aa (v:=bk) (eU a9) bD (by show 15 < 16; omega) fun aS a0 bC=> ?_
 have cv:=a0.size
 have Y:=a1.trans' a0 fun q E h=>h
 have J:TF av [66] (fun q=>q=aE):=TF.eq (dt a8) az
 have bF:Wk U av:=i.trans<|hE37.trans hE42
 have ac:Wk G av:=an.md.trans bF
 have aK:Wk G aS:=ac.trans' Y fun q E h=>by omega
 obtain ⟨b8,bZ,_⟩:=(aL.wk ac).cm
 obtain ⟨b9,b0,_⟩:=(aR.wk ac).mp
 have bP:fE aS ah.heap.size aE ⟨fb,mc,wb,mb,V,V2,va,bk,vs,ws⟩ F xs:=⟨bC,(aL.wk ac).md Y J az (J.no (eD bZ) az),Af (Ou ae ab) Y J az,Sq ((aR.wk ac).md Y J az<|J.no (eD b0) az) ab,ez (cj a9 Y J az) ab,(bW.md Y fun k hk cur z b1=>J.no (dt b1) az hk).mono ab⟩
 refine eR aj<|bv<|ag fun bp=>p mv<|p (cQ (ps:= []) (L:= [.int .i64 0,.int .i64 0,.int .i64 0]) tB aa<|aa)<|p aA<|e<|gj jT aa aa aa aa (Wk.aH (Z.trans aK) ai) az fun cC a2 bE=>nl ?_
 refine bp<|rt<|ew aa eb (dN (cs:= [.int .i64 0,.int .i64 0,.int .i64 0]) aa lj aa fun j M=>(aX bE).trans<|by match j,M with | 0,_=>rfl | 1,_=>rfl | 2,_=>rfl) ?_
 refine ⟨⟨_,_,_,_,aa,?_⟩,(ao.md.trans<|Z.trans aK).trans' a2 fun q E h=>by omega⟩
 rw [DC C hd]
 have bQ:TF aS [49] (fun q=>q=A):=TF.eq (dt<|Wk.aH (Z.trans aK) ai) az
 exact ⟨ah.heap.size,aE,_,ab,aa,bP.vf a2 bQ az (fun h:mc=A=>by have :=am.lo.2; omega) (fun h:mb=A=>by omega),eF.of C hd ⟨seen,aU⟩ am.fR⟩
end Go.Hb
end
section
namespace Go.Hb
open Go.Hb.gX Go.Hb.lf Go.Hb.lH Go.Hb.kN
def kD (xs:List bD) (n:Int):Tx:=if 0≤n∧n < xs.length then (xs.getD n.toNat ([],[])).1 else []
def rU (F:aR) (n:Int):c7:=if 0≤n∧n < F.rules.length then F.rules.getD n.toNat eY else eY
theorem sJ {xs:List bD} {k:Nat} {x:bD} (h:xs[k]? =some x):kD xs k=x.1∧flagsOf xs k=x.2∧k < xs.length∧xs.getD k ([],[])=x:=by
 have hk:=(fS.1 h).1
 have hd:xs.getD k ([],[])=x:=by rw [cR,h]; rfl
 refine ⟨?_,?_,hk,hd⟩
 · unfold kD; rw [if_pos ab,mR,hd]
 · unfold flagsOf; rw [if_pos ab,mR,hd]
theorem sK {xs:List bD} {n:Int} (h:¬(0≤n∧n < xs.length)):kD xs n= []∧flagsOf xs n= []:=by
 unfold kD flagsOf; rw [if_neg h,if_neg h]; exact ⟨rfl,rfl⟩
theorem vB {F:aR} {k:Nat} {r:c7} (h:F.rules[k]? =some r):rU F k=r∧cT F k=r.next∧k < F.rules.length∧F.rules.getD k eY=r:=by
 have hk:=(fS.1 h).1
 have hd:F.rules.getD k eY=r:=by rw [cR,h]; rfl
 refine ⟨?_,?_,hk,hd⟩
 · unfold rU; rw [if_pos ab,mR,hd]
 · unfold cT; rw [if_pos ab,mR,hd]
theorem vC {F:aR} {n:Int} (h:¬(0≤n∧n < F.rules.length)):rU F n=eY∧cT F n= []:=by
 unfold rU cT; rw [if_neg h,if_neg h]; exact ⟨rfl,rfl⟩
theorem YE {w:World} {B tb:Nat} {q:hU} {F:aR} {xs:List bD} (h:fE w B tb q F xs) {k:Nat} {x:bD} (E:xs[k]? =some x):∃ i ce a c,q.ve= .slice i xs.length ce∧Hb.aO w.heap tb 15=some (.slice i xs.length ce)∧aJ w.heap i (ke<|xs.zip q.ws)∧(xs.zip q.ws)[k]? =some (x,.slice a x.2.length c)∧Tg w B 51 x.2.length (.slice a x.2.length c) (x.2.map bg):=by
 obtain ⟨i,ce,C⟩:=cB h.oe
 have G:=h.oe
 rw [C] at G
 have hk:=(fS.1 E).1
 obtain ⟨v,I,A⟩:=eu.get h.ef (show k < (xs.map (·.2)).length by rw [fM]; exact hk)
 have J:(xs.map (·.2)).getD k []=x.2:=by rw [cR,ir,E]; rfl
 rw [J] at A
 obtain ⟨a,c,rfl⟩:=A.slice
 exact ⟨i,ce,a,c,C,by rw [← C]; exact (aX h.cells).trans aa,(a7 G).2,jy.2 ⟨E,I⟩,A⟩
theorem YF {w:World} {B tb:Nat} {i:hU} {F:aR} {xs:List bD} (h:fE w B tb i F xs):∃ a ce,Hb.aO w.heap tb 15=some (.slice a xs.length ce):=by
 obtain ⟨a,ce,q⟩:=cB h.oe
 exact ⟨a,ce,by rw [← q]; exact (aX h.cells).trans aa⟩
theorem YG {w:World} {B tb:Nat} {a:hU} {F:aR} {xs:List bD} (h:fE w B tb a F xs):∃ ar cr,Hb.aO w.heap tb 14=some (.slice ar F.rules.length cr):=by
 obtain ⟨ar,cr,i⟩:=cB h.ax.dB
 exact ⟨ar,cr,by rw [← i]; exact (aX h.cells).trans aa⟩
theorem Ov {w:World} {B:Nat} {F:aR} {V:e6} (h:ph w B F V) {k:Nat} {r:c7} (q:F.rules[k]? =some r):∃ ar cr a c,V.v12= .slice ar F.rules.length cr∧aJ w.heap ar (iS<|F.rules.zip V.rn)∧(F.rules.zip V.rn)[k]? =some (r,.slice a r.next.length c)∧Tg w B 51 r.next.length (.slice a r.next.length c) (r.next.map bg):=by
 obtain ⟨ar,cr,C⟩:=cB h.dB
 have A:=h.dB
 rw [C] at A
 have hk:=(fS.1 q).1
 obtain ⟨v,E,i⟩:=eu.get h.nx (show k < (F.rules.map (·.next)).length by rw [fM]; exact hk)
 have G:(F.rules.map (·.next)).getD k []=r.next:=by rw [cR,ir,q]; rfl
 rw [G] at i
 obtain ⟨a,c,rfl⟩:=i.slice
 exact ⟨ar,cr,a,c,C,(a7 A).2,jy.2 ⟨q,E⟩,i⟩
structure fY (w:World) (B tb fb:Nat) (V:ej) (ve:Value) (F:aR) (xs:List bD):Prop where
 cells:w.heap[tb]? =some (.cells [.pointer (some ⟨fb,0,none⟩),ve].toArray 32 (0,0))
 fl:eE w B 0 fb F V
 en:mU w B ve xs
theorem fY.wk {w w':World} {B tb fb:Nat} {V:ej} {ve:Value} {F:aR} {xs:List bD} (h:fY w B tb fb V ve F xs) (hm:Wk w w'):fY w' B tb fb V ve F xs:=⟨Wk.aH hm h.cells,h.fl.wk hm,h.en.wk hm⟩
theorem fY.sV {w:World} {B tb fb:Nat} {V:ej} {ve:Value} {F:aR} {xs:List bD} (h:fY w B tb fb V ve F xs) {k:Nat} {x:bD} (C:xs[k]? =some x):∃ i ce ws a c,Hb.aO w.heap tb 1=some (.slice i xs.length ce)∧aJ w.heap i (ke<|xs.zip ws)∧(xs.zip ws)[k]? =some (x,.slice a x.2.length c)∧Tg w 0 3 x.2.length (.slice a x.2.length c) (x.2.map bN):=by
 obtain ⟨ws,A,G⟩:=h.en
 obtain ⟨i,ce,E⟩:=cB A
 rw [E] at A
 have hk:=(fS.1 C).1
 obtain ⟨v,I,q⟩:=iw.get G (show k < (xs.map (·.2)).length by rw [fM]; exact hk)
 have J:(xs.map (·.2)).getD k []=x.2:=by rw [cR,ir,C]; rfl
 rw [J] at q
 obtain ⟨a,c,rfl⟩:=q.slice
 exact ⟨i,ce,ws,a,c,by rw [← E]; exact (aX h.cells).trans aa,(a7 A).2,jy.2 ⟨C,I⟩,q⟩
theorem fY.DK {w:World} {B tb fb:Nat} {V:ej} {ve:Value} {F:aR} {xs:List bD} (h:fY w B tb fb V ve F xs):∃ a ce,Hb.aO w.heap tb 1=some (.slice a xs.length ce):=by
 obtain ⟨ws,i,A⟩:=h.en
 obtain ⟨a,ce,q⟩:=cB i
 exact ⟨a,ce,by rw [← q]; exact (aX h.cells).trans aa⟩
theorem fY.DL {w:World} {B tb fb:Nat} {V:ej} {ve:Value} {F:aR} {xs:List bD} (h:fY w B tb fb V ve F xs):∃ ar cr,Hb.aO w.heap fb 12=some (.slice ar F.rules.length cr):=by
 obtain ⟨ar,cr,a⟩:=cB h.fl.dB
 exact ⟨ar,cr,by rw [← a]; exact (aX h.fl.cells).trans aa⟩
theorem fY.iK {w:World} {B tb fb:Nat} {V:ej} {ve:Value} {F:aR} {xs:List bD} (h:fY w B tb fb V ve F xs) {k:Nat} {r:c7} (q:F.rules[k]? =some r):∃ ar cr a c,Hb.aO w.heap fb 12=some (.slice ar F.rules.length cr)∧aJ w.heap ar (mA<|F.rules.zip V.rn)∧(F.rules.zip V.rn)[k]? =some (r,.slice a r.next.length c)∧Tg w 0 3 r.next.length (.slice a r.next.length c) (r.next.map bN):=by
 obtain ⟨ar,cr,C⟩:=cB h.fl.dB
 have A:=h.fl.dB
 rw [C] at A
 have hk:=(fS.1 q).1
 obtain ⟨v,E,i⟩:=iw.get h.fl.nx (show k < (F.rules.map (·.next)).length by rw [fM]; exact hk)
 have G:(F.rules.map (·.next)).getD k []=r.next:=by rw [cR,ir,q]; rfl
 rw [G] at i
 obtain ⟨a,c,rfl⟩:=i.slice
 exact ⟨ar,cr,a,c,by rw [← C]; exact (aX h.fl.cells).trans aa,(a7 A).2,jy.2 ⟨q,E⟩,i⟩
theorem TM {w:World} {B B' B0 fb:Nat} {F:aR} {V:ej} (h:eE w B B0 fb F V) (a:B'≤B):eE w B' B0 fb F V:=⟨h.cells,ez h.o9 a,ez h.eT a,h.al,ez h.ep a,ez h.dB a,h.nx,gk a h.lo,h.fR⟩
theorem T0 {w:World} {B B':Nat} {v:Value} {xs:List bD} (h:mU w B v xs) (a:B'≤B):mU w B' v xs:=by
 obtain ⟨vs,h1,h2⟩:=h
 exact ⟨vs,ez h1 a,h2⟩
theorem T1 {s:Tx} {w w':World} {v:Value} (h:lW s w v w'):∃ p l e,v= .tuple #[.pointer p,.int .i64 l,.int .i64 e]∧((e≠0∧∃ er,fq s= .error er)∨(e=0∧∃ F B fb V,p=some ⟨fb,0,none⟩∧fq s= .ok F∧w.heap.size≤B∧eE w' B 0 fb F V∧(∃ seen,nA F [] seen)∧Nx F))∧Wk w w':=by
 obtain ⟨h,a⟩:=h
 cases hx:fq s with
 | error e=>rw [hx] at h; exact ⟨_,_,_,h,.inl ⟨by have :=N1 hx; omega,e,rfl⟩,a⟩
 | ok F=>rw [hx] at h; obtain ⟨B,fb,V,i,q,h1,h2,h3⟩:=h; exact ⟨_,_,_,q,.inr ⟨rfl,F,B,fb,V,rfl,rfl,i,h1,h2,h3⟩,a⟩
theorem T3 {F:aR} {s:Tx} {w w':World} {v:Value} (h:lI F s w v w'):∃ a l e,v= .tuple #[a,.int .i64 l,.int .i64 e]∧a.oneCell'=true∧((e≠0∧∃ er,fg F s= .error er)∨(e=0∧∃ xs,fg F s= .ok xs∧mU w' w.heap.size a xs))∧Wk w w':=by
 obtain ⟨h,i⟩:=h
 cases hx:fg F s with
 | error e=>rw [hx] at h; exact ⟨_,_,_,h,rfl,.inl ⟨by have :=Si hx; omega,e,rfl⟩,i⟩
 | ok xs=>rw [hx] at h; obtain ⟨a,A,h1⟩:=h; exact ⟨_,_,_,A,(by obtain ⟨ws,q,_⟩:=h1; exact eU q),.inr ⟨rfl,xs,rfl,h1⟩,i⟩
def uo (a t:Tx) (w:World) (v:Value) (w':World):Prop :=(∃ p i q A,v= .tuple #[.pointer p,.agg [.int .i64 i,.int .i64 q,.int .i64 A].toArray]∧match lD a t with
 | none=>p=none
 | some T=> ∃ B tb fb V ve,p=some ⟨tb,0,none⟩∧fY w' B tb fb V ve T.1 T.2)∧Wk w w'
theorem uo.no {a t:Tx} {w w':World} {i q A:Int} (h:lD a t=none) (hm:Wk w w'):uo a t w (.tuple #[.pointer none,.agg [.int .i64 i,.int .i64 q,.int .i64 A].toArray]) w':=⟨⟨none,i,q,A,rfl,by rw [h]⟩,hm⟩
theorem Xw (a t:Tx) (w:World) (aY:a.length≤1048576) (a3:t.length≤1048576):
 bm ay 38 (bf [str a,str t]) w (uo a t w):=by
 refine enter func38 aa ntmps38 aa<|ag fun aC=>p aA<|e<|fk Mg fun an am a9 G ao=> ?_
 have bg:=G.size
 have ac:bO am.heap an [.int .i64 0,.int .i64 0,.int .i64 0]:=⟨_,ao⟩
 refine nl<|aC<|ag fun aD=>ak (str a)<|e<|cl Qm (WS a am aY) aa fun v12 ax aW=> ?_
 have a0:=T1 aW
 obtain ⟨pp,aj,Y,rfl,av,i⟩:=a0
 have bb:=i.size
 refine p mv<|p (xt aa aa)<|p (xt aa aa)<|p (xt aa aa)<|p aA<|p aA<|p aA<|nl<|aD<|aB fun aE=>ag fun aF=>p mv<|p (db aa aa)<|nl<|aF ?_
 refine cd aa (fun ah=> ?_) fun ah=> ?_
 obtain ⟨er,I⟩:=(av.resolve_right fun h=>ah h.1).2
 exact ag fun J=>p mv<|p mv<|p (cQ (ps:= [(0,.int .i64 1),(1,.int .i64 aj),(2,.int .i64 Y)]) (L:= [.int .i64 1,.int .i64 aj,.int .i64 Y]) Dw aa<|aa)<|p aA<|e<|cW xz aa aa aa aa (Wk.B i ac) (by simp) fun bh aT aL=>nl<|J<|rt<|tr<|ew aa eb (dN (cs:= [.int .i64 1,.int .i64 aj,.int .i64 Y]) aa zV aa fun j aq=>aL.bG j)<|uo.no (Ls I)<|(G.md.trans i).trans' aT fun q aw h=>by omega
 obtain ⟨ba,F,B,fb,V,rfl,I,aR,ap,aP,aV⟩:=av.resolve_left fun h=>ah h.1
 refine aM<|aE<|ag fun J=>p mv<|ak (str t)<|e<|cl Qn (TE B fb F V t ax ap aP aV a3) aa fun v24 a4 aX=> ?_
 have a1:=T3 aX
 obtain ⟨a2,al,Z,rfl,a7,au,A⟩:=a1
 have bc:=A.size
 refine p mv<|p (xt aa aa)<|p (xt aa aa)<|p (xt aa aa)<|p aA<|p aA<|p aA<|nl<|J<|aB fun aG=>ag fun aI=>p mv<|p (db aa aa)<|nl<|aI ?_
 refine cd aa (fun ai=> ?_) fun ai=> ?_
 obtain ⟨er,hd⟩:=(au.resolve_right fun h=>ai h.1).2
 exact ag fun M=>p mv<|p mv<|p (cQ (ps:= [(0,.int .i64 2),(1,.int .i64 al),(2,.int .i64 Z)]) (L:= [.int .i64 2,.int .i64 al,.int .i64 Z]) Dw aa<|aa)<|p aA<|e<|cW xz aa aa aa aa (Wk.B (i.trans A) ac) (by simp) fun bi aU aN=>nl<|M<|rt<|tr<|ew aa eb (dN (cs:= [.int .i64 2,.int .i64 al,.int .i64 Z]) aa zV aa fun j aq=>aN.bG j)<|uo.no (Lt I hd)<|(G.md.trans<|i.trans A).trans' aU fun q aw h=>by omega
 obtain ⟨ZQ,xs,hd,a6,ar,aZ⟩:=au.resolve_left fun h=>ai h.1
 obtain ⟨O,U,rfl⟩:=cB ar
 have aS:mU a4 ax.heap.size (.slice O xs.length U) xs:=⟨a6,ar,aZ⟩
 refine aM<|aG<|ag fun M=>p mv<|p mv<|p (cQ (ps:= [(0,aQ fb),(1,.slice O xs.length U)]) (L:= [aQ fb,.slice O xs.length U]) Ym aa<|aa)<|e<|oB aa fun aJ a5 a8 C aK=> ?_
 have bd:=C.size
 refine p (cQ (ps:= []) (L:= [.int .i64 0,.int .i64 0,.int .i64 0]) Dw aa<|aa)<|p aA<|e<|cW xz aa aa aa aa (Wk.B ((i.trans A).trans C.md) ac) (by simp) fun bj E aO=>nl<|M<|rt<|ew aa eb (dN (cs:= [.int .i64 0,.int .i64 0,.int .i64 0]) aa zV aa fun j aq=>aO.bG j) ?_
 refine ⟨⟨_,_,_,_,aa,?_⟩,(G.md.trans<|(i.trans A).trans C.md).trans' E fun q aw h=>by omega⟩
 rw [DC I hd]
 have ae:TF a5 [108] (fun q=>q=an):=TF.eq (dt<|Wk.aH ((i.trans A).trans C.md) ao) az
 refine ⟨am.heap.size,aJ,fb,V,_,aa,E.gL ae aK az,TM ((ap.wk<|A.trans C.md).md E ae az) aR,T0 ((aS.wk C.md).md E ae az) ab⟩
end Go.Hb
end
namespace Go.Hb
def W0:Go.Shelf.Ren:=⟨fun n=>if n=125 then 111 else if n=128 then 168 else if n=129 then 169 else if n=189 then 71 else if n=215 then 231 else if n=216 then 165 else if n=257 then 110 else if n=294 then 159 else if n=295 then 160 else if n=296 then 161 else if n=297 then 162 else if n=298 then 163 else if n=299 then 164 else if n=300 then 166 else if n=301 then 167 else if n=328 then 226 else if n=329 then 227 else if n=330 then 228 else if n=331 then 229 else if n=332 then 230 else if n=343 then 257 else 0,fun n=>if n=0 then 0 else if n=3 then 3 else if n=4 then 4 else if n=5 then 5 else if n=9 then 9 else if n=28 then 75 else if n=46 then 226 else if n=51 then 290 else if n=53 then 158 else if n=131 then 287 else if n=182 then 282 else if n=183 then 283 else if n=218 then 340 else if n=222 then 344 else if n=228 then 365 else if n=229 then 245 else 0,fun n=>n⟩
theorem Je:Go.Proofs.Lays.n189 ay W0 where
 mixed:=aj
 f125:=aj
 f128:=aj
 f129:=aj
 f189:=aj
 f215:=aj
 f216:=aj
 f257:=aj
 f294:=aj
 f295:=aj
 f296:=aj
 f297:=aj
 f298:=aj
 f299:=aj
 f300:=aj
 f301:=aj
 f328:=aj
 f329:=aj
 f330:=aj
 f331:=aj
 f332:=aj
 f343:=aj
 t0:=aj
 a0:=fun _=>aj
 z0:=fun _=>aj
 v0:=fun _=>aj
 t3:=aj
 a3:=fun _=>aj
 z3:=fun _=>aj
 v3:=fun _=>aj
 t4:=aj
 a4:=fun _=>aj
 z4:=fun _=>aj
 v4:=fun _=>aj
 t5:=aj
 a5:=fun _=>aj
 z5:=fun _=>aj
 v5:=fun _=>aj
 t9:=aj
 a9:=fun _=>aj
 z9:=fun _=>aj
 v9:=fun _=>aj
 t28:=aj
 a28:=fun _=>aj
 z28:=fun _=>aj
 v28:=fun _=>aj
 t46:=aj
 a46:=fun _=>aj
 z46:=fun _=>aj
 v46:=fun _=>aj
 t51:=aj
 a51:=fun _=>aj
 z51:=fun _=>aj
 v51:=fun _=>aj
 t53:=aj
 a53:=fun _=>aj
 z53:=fun _=>aj
 v53:=fun _=>aj
 t131:=aj
 a131:=fun _=>aj
 z131:=fun _=>aj
 v131:=fun _=>aj
 t182:=aj
 a182:=fun _=>aj
 z182:=fun _=>aj
 v182:=fun _=>aj
 t183:=aj
 a183:=fun _=>aj
 z183:=fun _=>aj
 v183:=fun _=>aj
 t218:=aj
 a218:=fun _=>aj
 z218:=fun _=>aj
 v218:=fun _=>aj
 t222:=aj
 a222:=fun _=>aj
 z222:=fun _=>aj
 v222:=fun _=>aj
 t228:=aj
 a228:=fun _=>aj
 z228:=fun _=>aj
 v228:=fun _=>aj
 t229:=aj
 a229:=fun _=>aj
 z229:=fun _=>aj
 v229:=fun _=>aj
theorem XZ (B n:Nat) (v:Value) (a:List Int) (w:World) (A:bq w B 3 1 v n (a.map<|je .i64)) (J:a.length≤1048576):
 bm ay 71 [v].toArray w (fun I w'=>I= .tuple #[]∧bq w' B 3 1 v n ((a.mergeSort fun x y=>decide (x≤y)).map<|je .i64)∧Md (fun k=>v.ownBlock=some k) w w'):=by
 have hn:a.length=n:=by have :=A.1; simpa using this
 have hlen:(a.mergeSort fun x y=>decide (x≤y)).length=a.length:=List.length_mergeSort _
 rcases A.2 with ⟨rfl,M⟩ | ⟨g,cap,cur,rfl,C,q,h1,h2,h3,h4⟩
 · have G:a= []:=fW ab
   subst G
   refine lF (Any.slices_Sort_int_none Je none 0 w) ?_
   rintro e w' ⟨rfl,rfl⟩
   exact ⟨_,aa,aa,by rw [List.mergeSort_nil]; exact A,Md.refl _ _⟩
 · subst hn
   rw [Nat.mul_one] at h4
   refine lF (calls_of_every_depth fun D=>AnyS.slices_Sort_int_alone Je D g 0 cap a w (holds_of_blockI q h4) (cU.1 q).1 ab) ?_
   rintro e w' ⟨rfl,m,os,rfl⟩
   have i:=grownBy_sortedI (w:=w) (g:=g) (n:=m) (os:=os) (a.mergeSort fun x y=>decide (x≤y)).toArray
   refine ⟨_,aa,aa,ownsRow_sortedI hlen C q h1 h2 h3,⟨i.os,i.output,i.size,fun k hk E=>i.block k hk fun he=>E ?_⟩⟩
   simp only [Value.ownBlock]; exact he.symm
end Go.Hb
section
namespace Go.Hb.mV
open Go.Hb.gX Go.Hb.lf Go.Hb.lH Go.Hb.kN
theorem Jp (l:List Nat):(l.map fun i:Nat=>(i:Int)).map (je .i64)=l.map bN:=by rw [List.map_map]; rfl
theorem n8 {F:aR} {xs:List bD} (h:eF F xs) (n:Int):(flagsOf xs n).length≤64∧lg (flagsOf xs n):=by
 by_cases hn:0≤n∧n < xs.length
 · obtain ⟨k,rfl⟩:∃ k:Nat,n=(k:Int):=⟨n.toNat,ab⟩
   have a:xs[k]? =some xs[k]:=cC ab
   rw [(sJ a).2.1]
   exact ⟨(h.uJ _<|iN a).2.1,h.Sr _<|iN a⟩
 · rw [(sK hn).2]; exact ⟨jP _,u6⟩
theorem tE {F:aR} {xs:List bD} (h:eF F xs) (n:Int):(cT F n).length≤64∧lg (cT F n):=by
 by_cases hn:0≤n∧n < F.rules.length
 · obtain ⟨k,rfl⟩:∃ k:Nat,n=(k:Int):=⟨n.toNat,ab⟩
   have a:F.rules[k]? =some F.rules[k]:=cC ab
   rw [(vB a).2.1]
   exact ⟨(h.iK a).1,(h.iK a).2.1⟩
 · rw [(vC hn).2]; exact ⟨jP _,u6⟩
theorem Rc {F:aR} {k f:Nat} (h:(dW F.bw f).isSome=false):gE F k f= []:=by
 unfold gE
 cases h2:dW F.bw f with
 | none=>rfl
 | some c=>rw [h2] at h; cases h
theorem Rg {F:aR} {k f:Nat} {c:cX} (h:(dW F.bw f).isSome=true) (a:(dW F.bw f).getD sQ=c):dW F.bw f=some c:=by
 cases h2:dW F.bw f with
 | none=>rw [h2] at h; cases h
 | some d=>rw [h2] at a; exact congrArg some a
theorem Re {F:aR} {k f:Nat} {c:cX} (h:dW F.bw f=some c) (hk:c.kind≠k):gE F k f= []:=by unfold gE; rw [h]; exact if_neg hk
theorem Rh {F:aR} {k f:Nat} {c:cX} (h:dW F.bw f=some c) (hk:c.kind=k):gE F k f=(j7 c.count).map (c.first+ ·):=by unfold gE; rw [h]; exact if_pos hk
theorem Ra {F:aR} (a:pk F) {f:Nat} {c:cX} (h:dW F.bw f=some c):c.first+c.count≤F.rules.length:=(a.uF c (Hy h).1).1
theorem S9 {fs:List Nat} {f:Nat→List Nat} {i:Nat} (h:i < fs.length):(fs.take<|i+1).flatMap f=(fs.take i).flatMap f++f (fs.getD i 0):=by
 rw [fK fs i 0 h,List.flatMap_append,List.flatMap_singleton]
theorem JF {F:aR} (a:pk F) {fs:List Nat} (h:fs.Pairwise (· < ·)) (k:Nat):(fs.flatMap<|gE F k).length=(aU F fs k).length:=by
 obtain ⟨h1,h2⟩:=JE a (k:=k) h
 exact ((List.perm_ext_iff_of_nodup h1<|(JG F fs k).imp fun h=>by omega).2 h2).length_eq
theorem VU {F:aR} (a:pk F) {fs:List Nat} (h:fs.Pairwise (· < ·)) (k:Nat):(fs.flatMap<|gE F k).length≤F.rules.length:=by
 rw [JF a h]; exact rO F fs k
def mE (F:aR) (fs:List Nat) (kind n:Nat):List Nat:=(j7 n).filter fun i=>decide ((F.rules.getD i eY).kind=kind∧(F.rules.getD i eY).flag∈fs)
theorem VT (F:aR) (fs:List Nat) (kd n:Nat):mE F fs kd (n+1)=mE F fs kd n++(if (F.rules.getD n eY).kind=kd∧(F.rules.getD n eY).flag∈fs then [n] else []):=by
 unfold mE
 rw [Ns,List.filter_append]
 congr 1
 rw [List.filter_cons,List.filter_nil]
 by_cases h:(F.rules.getD n eY).kind=kd∧(F.rules.getD n eY).flag∈fs
 · rw [decide_eq_true h,if_pos h]; rfl
 · rw [decide_eq_false h,if_neg h]; rfl
theorem VS (F:aR) (fs:List Nat) (kd n:Nat):(mE F fs kd n).length≤n:=by
 unfold mE; have :=List.length_filter_le (fun i=>decide ((F.rules.getD i eY).kind=kd∧(F.rules.getD i eY).flag∈fs)) (j7 n); simpa using this
def nj (r:c7) (fs:List Nat) (kd i k:Nat):List Nat:=if r.kind=kd∧r.flag∈fs.take k then [i] else []
theorem JM (r:c7) (fs:List Nat) (kd i:Nat):nj r fs kd i 0= []:=if_neg fun h=>by simp at h
theorem JL {r:c7} {fs:List Nat} {kd i k:Nat} (hk:k < fs.length) (h:fs.getD k 0≠r.flag):nj r fs kd i (k+1)=nj r fs kd i k:=by
 unfold nj
 rw [fK fs k 0 hk]
 have :r.flag∈fs.take k++ [fs.getD k 0]↔r.flag∈fs.take k:=by
  rw [jD,j5]; exact ⟨fun h2=>h2.elim id (fun e=>absurd e.symm h),.inl⟩
 simp only [this]
theorem V5 {r:c7} {fs:List Nat} {kd i k:Nat} (C:fs.Pairwise (· < ·)) (hk:k < fs.length) (h:fs.getD k 0=r.flag) (E:r.kind=kd):nj r fs kd i (k+1)=nj r fs kd i k++ [i]:=by
 unfold nj
 rw [fK fs k 0 hk]
 have hn:r.flag∉fs.take k:=fun h2=>by
  obtain ⟨j,a⟩:=List.getElem?_of_mem h2
  have q:j < k:=by have :=(fS.1 a).1; rw [List.length_take] at this; omega
  rw [List.getElem?_take_of_lt q] at a
  have A:=fS.1 a
  have :=List.pairwise_iff_getElem.1 C j k A.1 hk q
  rw [cR,cC hk] at h
  simp only [Option.getD_some] at h
  have h3:=A.2
  omega
 rw [if_pos ⟨E,by rw [jD]; exact .inr<|j5.2 h.symm⟩,if_neg (fun h2=>hn h2.2)]; rfl
theorem JK {F:aR} {r:c7} {fs:List Nat} {kd i k:Nat} (a:F.rules.getD i eY=r) (h:k=fs.length∨r.kind≠kd):mE F fs kd i++nj r fs kd i k=mE F fs kd (i+1):=by
 rw [VT,a]
 congr 1
 unfold nj
 rcases h with rfl | h
 · rw [List.take_length]
 · rw [if_neg (fun h2=>h h2.1),if_neg (fun h2=>h h2.1)]
def l8 (F:aR) (xs:List bD) (e k:Int):Bool:=decide (0≤k∧k < 5) && rL F xs e k.toNat
theorem Lw {w:World} {B tb:Nat} {a:hU} {F:aR} {xs:List bD} (h:fE w B tb a F xs) {k:Nat} (hk:k < 5):Hb.aO w.heap tb (5 +k*1)=some (bg<|F.sp.getD k 0):=by
 refine (aX h.cells).trans ?_
 match k,hk with
 | 0,_=>rfl
 | 1,_=>rfl
 | 2,_=>rfl
 | 3,_=>rfl
 | 4,_=>rfl
theorem IA {w:World} {B tb fb:Nat} {V:ej} {ve:Value} {F:aR} {xs:List bD} (h:fY w B tb fb V ve F xs) {k:Nat} (hk:k < 5):Hb.aO w.heap fb (3 +k*1)=some (bN<|F.sp.getD k 0):=by
 refine (aX h.fl.cells).trans ?_
 match k,hk with
 | 0,_=>rfl
 | 1,_=>rfl
 | 2,_=>rfl
 | 3,_=>rfl
 | 4,_=>rfl
theorem IG {x:Nat} {l:List Nat} (h:0∉l):decide (x∈l)=decide (x≠0∧x∈l):=decide_eq_decide.2 ⟨fun h2=>⟨fun h3=>h (h3 ▸ h2),h2⟩,And.right⟩
theorem xL (B tb:Nat) (aL:hU) (F:aR) (xs:List bD) (n:Int) (w:World) (au:fE w B tb aL F xs) (aj:eF F xs):
 bm ay 24 (bf [aQ tb,.int .i64 n]) w (fun v w'=>(∃ a,v= .tuple #[.agg [str (kD xs n),a].toArray,.bool (decide (0≤n∧n < xs.length))]∧bq w' w.heap.size 51 1 a (flagsOf xs n).length ((flagsOf xs n).map bg))∧Wk w w'):=by
 obtain ⟨a5,ce,a1⟩:=YF au
 have bk:=aj.xl
 refine enter func24 aa ntmps24 aa<|ag fun aF=>e<|al qU fun a7 aC bc A I=> ?_
 have bo:=A.size
 have aY:=au.wk A.md
 have a3:=Wk.aO A.md a1
 refine aw<|aF<|aB fun aG=>ag fun ac=>p mv<|p (kT tH aa aa)<|p mv<|gb (t:=9) aa (fun h=>absurd (h.symm.trans<|aa) ee) fun bh=>aI aa mv<|aI aa (lt aa aa)<|p (bp aa)<|p mv<|gs (t:=13) aa (fun a0=> ?_) fun a0=> ?_
 refine aE aa<|aE aa<|aE aa<|aE aa<|aE aa<|aE aa<|aE aa<|p (bB aa)<|nl<|ac<|ct aa<|ag fun C=>p (cQ (ps:= []) (L:= [.string ⟨⟨[]⟩⟩,.slice none 0 0]) nZ aa<|aa)<|e<|cW kB aa aa aa aa (I) (by simp) fun a4 M G=>p aA<|nl<|C<|rt<|tr<|ew aa (dN (cs:= [str [],.slice none 0 0]) aa lK aa fun j U=>G.bG j) eb ?_
 have E:=sK (xs:=xs) (n:=n) ab
 exact ⟨⟨.slice none 0 0,by rw [E.1,decide_eq_false (show ¬(0≤n∧n < (xs.length:Int)) by omega)]; rfl,by rw [E.2]; exact dz _ _ _ _⟩,A.md.trans' M fun q i h=>by omega⟩
 refine aI aa mv<|aI aa mv<|aI aa (nc aa)<|aI aa (fa BX aa)<|aI aa (ld sG aa<|a3)<|aI aa (bK vN aa aa)<|aI aa (ge aa aa)<|p (bp aa)<|nl<|ac<|cd aa (fun aZ=> ?_) fun aZ=> ?_
 refine ag fun C=>p (cQ (ps:= []) (L:= [.string ⟨⟨[]⟩⟩,.slice none 0 0]) nZ aa<|aa)<|e<|cW kB aa aa aa aa (I) (by simp) fun a4 M G=>aw<|C<|rt<|tr<|ew aa (dN (cs:= [str [],.slice none 0 0]) aa lK aa fun j U=>G.bG j) eb ?_
 have E:=sK (xs:=xs) (n:=n) ab
 exact ⟨⟨.slice none 0 0,by rw [E.1,decide_eq_false (show ¬(0≤n∧n < (xs.length:Int)) by omega)]; rfl,by rw [E.2]; exact dz _ _ _ _⟩,A.md.trans' M fun q i h=>by omega⟩
 obtain ⟨k,rfl⟩:∃ k:Nat,n=(k:Int):=⟨n.toNat,ab⟩
 obtain ⟨x,Y⟩:∃ x,xs[k]? =some x:=⟨_,cC ab⟩
 obtain ⟨a6,a9,a,c,bi,a2,am,az,av⟩:=YE aY Y
 have bj:=(aj.uJ x<|iN Y).2.1
 obtain ⟨aN,aP,ba,bb⟩:=sJ Y
 refine aM<|aG<|ag fun C=>p mv<|p (nc aa)<|p (fa BX aa)<|p (ld sG aa<|a2)<|p mv<|p (a8 Bn aa aa ab<|aJ.ok (am)<|uH az)<|p (da lK aa (aa)<|fG (f:=pG) (m:=2) (fun _=>rfl) am az)<|e<|al qU fun ah bv bd ar aW=> ?_
 have bs:=ar.size
 refine e<|cW kB aa aa aa aa (aW) (by simp) fun Z ap aS=> ?_
 have an:Wk aC Z:=ar.md.trans' ap fun q i h=>by omega
 have bl:=ap.size
 have ak:bO Z.heap ah [str x.1,.slice a x.2.length c]:=aS
 refine nl<|C<|ag fun aH=>p (fa rG aa)<|p (ld mZ aa<|ak.bG 1)<|e<|cl rA (sP a x.2.length c (x.2.map bg) Z (av.wk an).cI.2 (by simp) (fun h=>Tg.tt av (by simp) h) (sH _) ab) aa fun bt bu aX=> ?_
 obtain ⟨V,J⟩:=aX
 obtain ⟨ae,ai,rfl⟩:=cB V
 have bn:=J.size
 refine p (fa rG aa)<|e<|st sS aa aa (aa) (Wk.B J ak) (by simp) fun aD O aT=> ?_
 have ao:Wk aC aD:=(an.trans J).trans' O fun q i h=>by omega
 have br:=O.size
 have ax:=dq V O fun q i h=>by have :=(dM V i).1; omega
 have aU:bO aD.heap ah [str x.1,.slice ae x.2.length ai]:=aT
 exact nl<|aH<|ag fun aK=>p (da lK aa (aa) fun j U=>aU.bG j)<|e<|cW kB aa aa aa aa (Wk.B ao I) (by simp) fun bw aq aV=>p aA<|nl<|aK<|rt<|ew aa (dN (cs:= [str x.1,.slice ae x.2.length ai]) aa lK aa fun j U=>aV.bG j) eb<|⟨⟨_,by rw [aN,decide_eq_true (show 0≤(k:Int)∧(k:Int) < (xs.length:Int) by omega)]; rfl,by rw [aP]; exact dq (ez ax ab) aq fun q i h=>by have :=(dM ax i).1; omega⟩,(A.md.trans ao).trans' aq fun q i h=>by omega⟩
theorem yM (B tb:Nat) (aP:hU) (F:aR) (xs:List bD) (n:Int) (w:World) (av:fE w B tb aP F xs) (ak:eF F xs):
 bm ay 25 (bf [aQ tb,.int .i64 n]) w (fun v w'=>(∃ a,v= .tuple #[.agg (fz (rU F n,a)).toArray,.bool (decide (0≤n∧n < F.rules.length))]∧bq w' w.heap.size 51 1 a (cT F n).length ((cT F n).map bg))∧Wk w w'):=by
 obtain ⟨bd,ce,a7⟩:=YG av
 have bo:=ak.len
 refine enter func25 aa ntmps25 aa<|ag fun aH=>e<|al r7 fun aT G bj A J=> ?_
 have bt:=A.size
 have az:=av.wk A.md
 have bb:=Wk.aO A.md a7
 have a0:bO G.heap aT (fz (eY,.slice none 0 0)):=J
 refine aw<|aH<|aB fun aK=>ag fun ae=>p mv<|p (kT tH aa aa)<|p mv<|gb (t:=9) aa (fun h=>absurd (h.symm.trans<|aa) ee) fun bl=>aI aa mv<|aI aa (lt aa aa)<|p (bp aa)<|p mv<|gs (t:=13) aa (fun a6=> ?_) fun a6=> ?_
 refine aE aa<|aE aa<|aE aa<|aE aa<|aE aa<|aE aa<|aE aa<|aE aa<|p (bB aa)<|nl<|ae<|ct aa<|ag fun C=>p (cQ (ps:= []) (L:= [.int .i64 0,.int .u16 0,.bool false,.string ⟨⟨[]⟩⟩,.string ⟨⟨[]⟩⟩,.string ⟨⟨[]⟩⟩,.slice none 0 0]) Dz aa<|aa)<|e<|cW pE aa aa aa aa (J) (by simp) fun bc O I=>aw<|C<|rt<|tr<|ew aa (dN (cs:=fz (eY,.slice none 0 0)) aa m3 aa fun j V=>I.bG j) eb ?_
 have E:=vC (F:=F) (n:=n) ab
 exact ⟨⟨.slice none 0 0,by rw [E.1,decide_eq_false (show ¬(0≤n∧n < (F.rules.length:Int)) by omega)]; rfl,by rw [E.2]; exact dz _ _ _ _⟩,A.md.trans' O fun q i h=>by omega⟩
 refine aI aa mv<|aI aa mv<|aI aa (nc aa)<|aI aa (fa uZ aa)<|aI aa (fa nP aa)<|aI aa (ld lX aa<|bb)<|aI aa (bK vL aa aa)<|aI aa (ge aa aa)<|p (bp aa)<|nl<|ae<|cd aa (fun a5=> ?_) fun a5=> ?_
 refine ag fun C=>p (cQ (ps:= []) (L:= [.int .i64 0,.int .u16 0,.bool false,.string ⟨⟨[]⟩⟩,.string ⟨⟨[]⟩⟩,.string ⟨⟨[]⟩⟩,.slice none 0 0]) Dz aa<|aa)<|e<|cW pE aa aa aa aa (J) (by simp) fun bc O I=>aw<|C<|rt<|tr<|ew aa (dN (cs:=fz (eY,.slice none 0 0)) aa m3 aa fun j V=>I.bG j) eb ?_
 have E:=vC (F:=F) (n:=n) ab
 exact ⟨⟨.slice none 0 0,by rw [E.1,decide_eq_false (show ¬(0≤n∧n < (F.rules.length:Int)) by omega)]; rfl,by rw [E.2]; exact dz _ _ _ _⟩,A.md.trans' O fun q i h=>by omega⟩
 obtain ⟨k,rfl⟩:∃ k:Nat,n=(k:Int):=⟨n.toNat,ab⟩
 obtain ⟨r,Z⟩:∃ r,F.rules[k]? =some r:=⟨_,cC ab⟩
 obtain ⟨aS,aU,a,c,a9,an,aF,aC⟩:=Ov az.ax Z
 have ba:Hb.aO G.heap tb 14=some (.slice aS F.rules.length aU):=by rw [← a9]; exact (aX az.cells).trans rfl
 have bn:=(ak.iK Z).1
 obtain ⟨aV,aW,bh,bi⟩:=vB Z
 refine aM<|aK<|ag fun C=>p mv<|p (nc aa)<|p (fa uZ aa)<|p (fa nP aa)<|p (ld lX aa<|ba)<|p mv<|p (a8 na aa aa ab<|aJ.ok (an)<|nY aF)<|p (da m3 aa (aa)<|fG (f:=fz) (m:=7) (fun _=>rfl) an aF)<|e<|al r7 fun ai bz bk au a3=> ?_
 have bv:=au.size
 refine e<|cW pE aa aa aa aa (a3) (by simp) fun ac aq aY=> ?_
 have ao:Wk G ac:=au.md.trans' aq fun q i h=>by omega
 have br:=aq.size
 have am:bO ac.heap ai (fz (r,.slice a r.next.length c)):=aY
 refine nl<|C<|ag fun aL=>p (fa qw aa)<|p (ld mZ aa<|am.bG 6)<|e<|cl rA (sP a r.next.length c (r.next.map bg) ac (aC.wk ao).cI.2 (by simp) (fun h=>Tg.tt aC (by simp) h) (sH _) ab) aa fun bw bx a4=> ?_
 obtain ⟨Y,M⟩:=a4
 obtain ⟨ah,aj,rfl⟩:=cB Y
 have bs:=M.size
 refine p (fa qw aa)<|e<|st sS aa aa (aa) (Wk.B M am) (by show 6 < 7; omega) fun aG U aZ=> ?_
 have ap:Wk G aG:=(ao.trans M).trans' U fun q i h=>by omega
 have bu:=U.size
 have aD:=dq Y U fun q i h=>by have :=(dM Y i).1; omega
 have a1:bO aG.heap ai (fz (r,.slice ah r.next.length aj)):=aZ
 exact nl<|aL<|ag fun aN=>p (da m3 aa (aa) fun j V=>a1.bG j)<|e<|cW pE aa aa aa aa (Wk.B ap a0) (by show 7≤7; omega) fun bA ar a2=>p aA<|nl<|aN<|rt<|ew aa (dN (cs:=fz (r,.slice ah r.next.length aj)) aa m3 aa fun j V=>a2.bG j) eb<|⟨⟨_,by rw [aV,decide_eq_true (show 0≤(k:Int)∧(k:Int) < (F.rules.length:Int) by omega)]; rfl,by rw [aW]; exact dq (ez aD ab) ar fun q i h=>by have :=(dM aD i).1; omega⟩,(A.md.trans ap).trans' ar fun q i h=>by omega⟩
theorem UH (a:Option Addr) (c:Nat) (l:List Nat) (x:Nat) (w:World) (E:aJ w.heap a (l.map bg)) (ap:l.length≤1048576):
 bm ay 213 (bf [.slice a l.length c,bg x]) w (fun v w'=>(∃ k:Int,v= .int .i64 k∧(0≤k↔x∈l)∧ -1≤k∧k≤1048576)∧Wk w w'):=by
 refine enter func213 aa ntmps213 aa<|ag fun O=>aw<|O<|aB fun U=>ag fun V=>ak (.slice a l.length c)<|p (bK LI aa aa)<|p mv<|nl<|V<|aH<|lp (fun C q M=> ∃ (i:Nat),(i≤l.length)∧(∀ j,j < i→l.getD j 0≠x)∧(M=w)∧(q 0= .slice a l.length c)∧(q 1=bg x)∧(q 7=au (l.length))∧(q 8=au i)∧(l.length - i=C)) _ ⟨0,ab,(fun j I=>by omega),aa,aa,aa,aa,aa,aa⟩ ?_
 rintro C q M ⟨i,hi,J,ai,al,am,an,ao,rfl⟩
 refine fx 0 al<|fx 1 am<|fx 7 an<|fx 8 ao ?_
 subst ai
 refine ag fun Y=>p (lt aa aa)<|nl<|Y<|aB fun Z=>cd aa (fun aj=> ?_) fun aj=> ?_
 refine aM<|Z<|aB fun A=>aH<|ag fun ac=>ak (au i)<|p (cJ (au i) aa)<|nl<|ac<|ag fun ae=>ak (bg x)<|ak (.slice a l.length c)<|ak (au i)<|p (a8 Hl aa aa ab<|aJ.ok (E)<|bS ab)<|p (ld cV aa<|aJ.gK E (show (l.map bg)[i]? =some (bg<|l.getD i 0) by rw [ir,cR,cC (by omega :i < l.length)]; rfl)) ?_
 refine p (bJ aa aa)<|nl<|ae<|cd aa (fun G=> ?_) fun G=> ?_
 exact ag fun ah=>ak (au i)<|p (cJ (au i) aa)<|nl<|ah<|rt<|br<|tr<|tr<|br<|tr<|aV aa<|⟨⟨(i:Nat),aa,⟨fun _=>by obtain rfl :x=l.getD i 0:=ab; exact dU ab,fun _=>by omega⟩,ab,ab⟩,Md.refl _ _⟩
 exact aM<|bn<|A<|rg aa<|p (ad aa aa<|bX ab)<|p mv<|nl<|tn<|⟨_,ab,i+1,ab,(fun j I=>by rcases fi j i with h | h <;> first | exact J j h | (rw [show j=i by omega]; exact fun h2=>G<|by rw [h2])),aa,aa,aa,aa,aa,aa⟩
 exact ext<|ba<|ba<|be<|U<|ag fun A=>p aA<|nl<|A<|rt<|aV aa<|⟨⟨-1,aa,⟨fun h=>absurd h ab,fun h=>by obtain ⟨j,I,e⟩:=nU 0 h; exact absurd e<|J j ab⟩,ab,ab⟩,Md.refl _ _⟩
theorem Rr (a:Option Addr) (c:Nat) (l:List Nat) (x:Nat) (w:World) (A:aJ w.heap a (l.map bg)) (G:l.length≤1048576):
 bm ay 151 (bf [.slice a l.length c,bg x]) w (fun v w'=>v= .bool (decide (x∈l))∧Wk w w'):=by
 refine enter func151 aa ntmps151 aa<|ag fun i=>aw<|i<|ag fun q=>ak (.slice a l.length c)<|ak (bg x)<|e<|cl Pr (UH a c l x w A G) aa fun M O C=> ?_
 obtain ⟨⟨I,rfl,E,J⟩,hE7⟩:=C
 exact p (ge aa aa)<|aw<|q<|rt<|aV aa<|⟨by show bQ (decide (I≥0))=_; exact congrArg bQ (decide_eq_decide.2 E),hE7⟩
theorem IF (a:Option Addr) (c:Nat) (l:List Nat) (x:Nat) (w:World) (A:aJ w.heap a (l.map bg)) (G:l.length≤1048576):
 bm ay 97 (bf [.slice a l.length c,bg x]) w (fun v w'=>v= .bool (decide (x∈l))∧Wk w w'):=by
 refine enter func97 aa ntmps97 aa<|ag fun i=>aw<|i<|ag fun q=>ak (.slice a l.length c)<|ak (bg x)<|e<|cl O6 (Rr a c l x w A G) aa fun I J E=> ?_
 obtain ⟨rfl,C⟩:=E
 exact aw<|q<|rt<|aV aa<|⟨aa,C⟩
theorem CH (B tb:Nat) (Z:hU) (F:aR) (xs:List bD) (fs:List Nat) (a:Option Addr) (c kd:Nat) (w:World) (aO:fE w B tb Z F xs) (U:eF F xs) (aD:aJ w.heap a (fs.map bg)) (b8:fs.length≤64) (ar:fs.Pairwise (· < ·)):
 bm ay 91 (bf [aQ tb,.slice a fs.length c,au kd]) w (fun v w'=>bq w' w.heap.size 3 1 v (aU F fs kd).length ((aU F fs kd).map bN)∧Wk w w'):=by
 have cc:=U.len
 refine enter func91 aa ntmps91 aa<|ag fun a2=>aw<|a2<|ag fun bb=>p aA<|nl<|bb<|aB fun bc=>ag fun bd=>ak (.slice a fs.length c)<|p (bK oR aa aa)<|p mv<|nl<|bd<|aH<|lp (fun O G J=> ∃ (i:Nat) (v:Value),(i≤fs.length)∧(bq J w.heap.size 3 1 v ((fs.take i).flatMap<|gE F kd).length<|((fs.take i).flatMap<|gE F kd).map bN)∧(((fs.take i).flatMap<|gE F kd).length≤i*70000)∧(Wk w J)∧(G 0=aQ tb)∧(G 2=au kd)∧(G 7=v)∧(G 13= .slice a fs.length c)∧(G 14=au (fs.length))∧(G 15=au i)∧(fs.length - i=O)) _ ⟨0,.slice none 0 0,ab,(dz _ _ _ _),(jP _),(Md.refl _ _),aa,aa,aa,aa,aa,aa,aa⟩ ?_
 rintro O G J ⟨i,v,hi,ae,aZ,C,bH,bO,bP,bI,bJ,bM,rfl⟩
 refine fx 0 bH<|fx 2 bO<|fx 7 bP<|fx 13 bI<|fx 14 bJ<|fx 15 bM<|ag fun bh=>p (lt aa aa)<|nl<|bh<|aB fun bi=>cd aa (fun bz=> ?_) fun bz=> ?_
 refine aM<|bi<|aB fun M=>aH<|ag fun aj=>p (a8 bY aa aa ab<|aJ.ok (aD.wk C)<|bS ab)<|p (ld cV aa<|aJ.gK (aD.wk C) (show (fs.map bg)[i]? =some (bg<|fs.getD i 0) by rw [ir,cR,cC (by omega :i < fs.length)]; rfl)) ?_
 refine aw<|aj<|ag fun bk=>ak (aQ tb)<|p (nc aa)<|p (fa BW aa)<|p (ld gn aa<|(aX (aO.wk C).cells).trans aa)<|p mv<|e<|cl Ap (Bq B Z.fb Z.mc F Z.V (fs.getD i 0) J (aO.wk C).fl ab) aa fun cj cm aN=> ?_
 obtain ⟨cl,aS⟩:∃ cl,(dW F.bw<|fs.getD i 0).getD sQ=cl:=⟨_,rfl⟩
 rw [aS] at aN
 have I:=S9 (f:=gE F kd) (show i < fs.length by omega)
 obtain ⟨rfl,aF⟩:=aN
 have cf:=aF.size
 refine p mv<|p (xt aa aa)<|p (xt aa aa)<|e<|fk tP fun al ck b4 aL bl=> ?_
 have ce:=aL.size
 refine e<|gj rC aa aa aa aa bl (by simp) fun a1 aK br=> ?_
 have ac:Wk J a1:=(aF.trans aL.md).trans' aK fun q cb h=>by omega
 have ci:=aK.size
 have an:a1.heap[al]? =some (.cells (nI cl).toArray 131 (0,0)):=br
 have ax:=aW ae ac
 refine aw<|bk<|aB fun a3=>ag fun aC=>p mv<|p (no aa)<|p mv<|gb (t:=30) aa (fun av=> ?_) fun av=> ?_
 have Y:gE F kd (fs.getD i 0)= []:=Rc<|by simpa using av
 exact aE aa<|aE aa<|aE aa<|aE aa<|p (bB aa)<|nl<|aC<|ct aa<|ext<|ba<|be<|M<|rg aa<|p (ad aa aa<|bX ab)<|p mv<|nl<|tn<|⟨_,ab,i+1,v,ab,(by rw [I,Y,eh]; exact ax),(by rewrite [I,Y,eh]; exact gk aZ<|um _<|Nat.le_succ i),(C.trans ac),aa,aa,aa,aa,aa,aa,aa⟩
 have aq:=Rg (k:=kd) (by simpa using av) aS
 refine aI aa (fa uO aa)<|aI aa (ld bu aa<|(aX an).trans aa)<|aI aa (aT (au kd) aa)<|aI aa (db aa aa)<|p (bp aa)<|nl<|aC<|cd aa (fun aP=> ?_) fun aP=> ?_
 have Y:gE F kd (fs.getD i 0)= []:=Re aq fun h=>aP<|by rw [h]
 exact ext<|ba<|be<|M<|rg aa<|p (ad aa aa<|bX ab)<|p mv<|nl<|tn<|⟨_,ab,i+1,v,ab,(by rw [I,Y,eh]; exact ax),(by rewrite [I,Y,eh]; exact gk aZ<|um _<|Nat.le_succ i),(C.trans ac),aa,aa,aa,aa,aa,aa,aa⟩
 have bC:cl.kind=kd:=ab
 have aY:=Rh aq bC
 have b6:=Ra U.cls aq
 refine aM<|a3<|ag fun a4=>p (fa x3 aa)<|p (ld bu aa<|(aX an).trans aa)<|p mv<|nl<|a4<|aH<|lp (fun O A ai=> ∃ (j:Nat) (v2:Value),(j≤cl.count)∧(bq ai w.heap.size 3 1 v2 ((fs.take i).flatMap (gE F kd)++(j7 j).map (cl.first+ ·)).length<|((fs.take i).flatMap (gE F kd)++(j7 j).map (cl.first+ ·)).map bN)∧(ai.heap[al]? =some (.cells (nI cl).toArray 131 (0,0)))∧(Wk w ai)∧(A 0=aQ tb)∧(A 2=au kd)∧(A 7=v2)∧(A 10=aQ al)∧(A 13= .slice a fs.length c)∧(A 14=au (fs.length))∧(A 15=au i)∧(A 37=au (cl.count))∧(A 38=au j)∧(cl.count - j=O)) _ ⟨0,v,ab,(by rw [List.range_zero,List.map_nil,eh]; exact ax),an,(C.trans ac),aa,aa,aa,aa,aa,aa,aa,aa,aa,aa⟩ ?_
 rintro O A ai ⟨j,v2,b9,ah,ao,am,bQ,bW,b1,bR,bT,bU,bV,bZ,b0,rfl⟩
 refine fx 0 bQ<|fx 2 bW<|fx 7 b1<|fx 10 bR<|fx 13 bT<|fx 14 bU<|fx 15 bV<|fx 37 bZ<|fx 38 b0<|ag fun a5=>p (lt aa aa)<|nl<|a5<|aB fun a6=>cd aa (fun bA=> ?_) fun bA=> ?_
 refine aM<|a6<|aB fun a7=>aH<|ag fun a9=>ak (au j)<|p (cJ (au j) aa)<|nl<|a9<|rg aa<|ak (v2)<|p (fa HZ aa)<|p (ld bu aa<|(aX ao).trans aa)<|ak (au j)<|p (bE ((cl.first+j:Nat):Int) aa aa<|bj ab ab)<|e<|fZ nm aa aa fun b3 cn b5 E bo=> ?_
 have cg:=E.size
 have ca:((fs.take i).flatMap (gE F kd)++(j7 j).map (cl.first+ ·)).length=((fs.take i).flatMap<|gE F kd).length+j:=by rw [bL,fM,Ni]
 have bG:(fs.take i).flatMap (gE F kd)++(j7<|j+1).map (cl.first+ ·)=((fs.take i).flatMap (gE F kd)++(j7 j).map (cl.first+ ·))++ [cl.first+j]:=by rw [Ns,iu,← List.append_assoc]; rfl
 refine e<|ap nm (aW ah E.md) aa (by have :=am.size; omega) aa (aJ.dX bo) (aa) (aa) ab ab fun b2 co bF aG ch b7=> ?_
 have bs:=Wk.own (am.trans E.md) (aW ah E.md) aG<|cA _
 have bx:=aG.aH (E.md.aH ao) fun h=>dC (aW ah E.md) (E.md.aH ao) az h
 exact p aA<|nl<|bn<|a7<|rg aa<|p (ad aa aa<|bX ab)<|p mv<|nl<|tn<|⟨_,ab,j+1,b2,ab,(by rw [bG,iu,bL]; exact bF),bx,bs,aa,aa,aa,aa,aa,aa,aa,aa,aa,aa⟩
 exact ext<|ba<|ba<|be<|bn<|M<|rg aa<|p (ad aa aa<|bX ab)<|p mv<|nl<|tn<|⟨_,ab,i+1,v2,ab,(by rw [I,aY,show cl.count=j by omega]; exact ah),(by rewrite [I,aY,bL,fM,Ni]; omega),am,aa,aa,aa,aa,aa,aa,aa⟩
 refine ext<|ba<|ba<|be<|bc<|aB fun M=> ?_
 rw [List.take_of_length_le (show fs.length≤i by omega)] at ae
 refine rg aa<|ak (v)<|e<|cl Ql (XZ w.heap.size _ v ((fs.flatMap<|gE F kd).map fun i:Nat=>(i:Int)) J (by rw [Jp]; exact ae)<|by rw [fM]; have :=VU U.cls ar kd; omega) aa fun v51 cp bv=> ?_
 obtain ⟨rfl,a0,bt⟩:=bv
 rw [X2 U.cls ar,Jp,JF U.cls ar] at a0
 exact nl<|M<|ag fun aj=>ak (v)<|p (cJ (v) aa)<|nl<|aj<|rt<|aV aa<|⟨a0,Wk.own C ae bt<|cA _⟩
theorem Yu (B tb:Nat) (i:hU) (F:aR) (xs:List bD) (n:Int) (w:World) (M:fE w B tb i F xs) (a:eF F xs):
 bm ay 53 (bf [aQ tb,.int .i64 n]) w (fun v w'=>bq w' w.heap.size 3 1 v (aU F (flagsOf xs n) 2).length ((aU F (flagsOf xs n) 2).map bN)∧Wk w w'):=by
 refine enter func53 aa ntmps53 aa<|ag fun U=>aw<|U<|ag fun V=>ak (aQ tb)<|ak (.int .i64 n)<|e<|cl qm (xL B tb i F xs n w M a) aa fun v10 ao ai=> ?_
 obtain ⟨⟨ap,rfl,O⟩,hE10⟩:=ai
 obtain ⟨E,G,rfl⟩:=cB O
 have av:=hE10.size
 refine p mv<|p (xt aa aa)<|p (xt aa aa)<|e<|al qU fun Z aB aq J ae=> ?_
 have ax:=J.size
 refine e<|cW kB aa aa aa aa (ae) (by simp) fun C I ac=> ?_
 have A:Wk ao C:=J.md.trans' I fun q ar h=>by omega
 have au:=I.size
 have am:bO C.heap Z ([str (kD xs n),.slice E (flagsOf xs n).length G]):=ac
 refine aw<|V<|ag fun Y=>ak (aQ tb)<|p (fa rG aa)<|p (ld mZ aa<|am.bG 1)<|e<|cl AS (CH B tb i F xs (flagsOf xs n) E G 2 C (M.wk<|hE10.trans A) a ((a7 O).2.wk A) (n8 a n).1 (n8 a n).2.1) aa fun az aA aj=> ?_
 obtain ⟨an,ah⟩:=aj
 exact aw<|Y<|rt<|aV aa<|⟨ez an ab,(hE10.trans A).trans ah⟩
theorem WM (B tb:Nat) (i:hU) (F:aR) (xs:List bD) (n:Int) (w:World) (M:fE w B tb i F xs) (a:eF F xs):
 bm ay 55 (bf [aQ tb,.int .i64 n]) w (fun v w'=>bq w' w.heap.size 3 1 v (aU F (flagsOf xs n) 1).length ((aU F (flagsOf xs n) 1).map bN)∧Wk w w'):=by
 refine enter func55 aa ntmps55 aa<|ag fun U=>aw<|U<|ag fun V=>ak (aQ tb)<|ak (.int .i64 n)<|e<|cl qm (xL B tb i F xs n w M a) aa fun v10 ao ai=> ?_
 obtain ⟨⟨ap,rfl,O⟩,hE10⟩:=ai
 obtain ⟨E,G,rfl⟩:=cB O
 have av:=hE10.size
 refine p mv<|p (xt aa aa)<|p (xt aa aa)<|e<|al qU fun Z aB aq J ae=> ?_
 have ax:=J.size
 refine e<|cW kB aa aa aa aa (ae) (by simp) fun C I ac=> ?_
 have A:Wk ao C:=J.md.trans' I fun q ar h=>by omega
 have au:=I.size
 have am:bO C.heap Z ([str (kD xs n),.slice E (flagsOf xs n).length G]):=ac
 refine aw<|V<|ag fun Y=>ak (aQ tb)<|p (fa rG aa)<|p (ld mZ aa<|am.bG 1)<|e<|cl AS (CH B tb i F xs (flagsOf xs n) E G 1 C (M.wk<|hE10.trans A) a ((a7 O).2.wk A) (n8 a n).1 (n8 a n).2.1) aa fun az aA aj=> ?_
 obtain ⟨an,ah⟩:=aj
 exact aw<|Y<|rt<|aV aa<|⟨ez an ab,(hE10.trans A).trans ah⟩
theorem XH (B tb:Nat) (i:hU) (F:aR) (xs:List bD) (n:Int) (w:World) (M:fE w B tb i F xs) (a:eF F xs):
 bm ay 54 (bf [aQ tb,.int .i64 n]) w (fun v w'=>bq w' w.heap.size 3 1 v (aU F (cT F n) 2).length ((aU F (cT F n) 2).map bN)∧Wk w w'):=by
 refine enter func54 aa ntmps54 aa<|ag fun U=>aw<|U<|ag fun V=>ak (aQ tb)<|ak (.int .i64 n)<|e<|cl F3 (yM B tb i F xs n w M a) aa fun v10 ao ai=> ?_
 obtain ⟨⟨ap,rfl,O⟩,hE10⟩:=ai
 obtain ⟨E,G,rfl⟩:=cB O
 have av:=hE10.size
 refine p mv<|p (xt aa aa)<|p (xt aa aa)<|e<|al r7 fun Z aB aq J ae=> ?_
 have ax:=J.size
 refine e<|cW pE aa aa aa aa (ae) (by simp) fun C I ac=> ?_
 have A:Wk ao C:=J.md.trans' I fun q ar h=>by omega
 have au:=I.size
 have am:bO C.heap Z (fz (rU F n,.slice E (cT F n).length G)):=ac
 refine aw<|V<|ag fun Y=>ak (aQ tb)<|p (fa qw aa)<|p (ld mZ aa<|am.bG 6)<|e<|cl AS (CH B tb i F xs (cT F n) E G 2 C (M.wk<|hE10.trans A) a ((a7 O).2.wk A) (tE a n).1 (tE a n).2.1) aa fun az aA aj=> ?_
 obtain ⟨an,ah⟩:=aj
 exact aw<|Y<|rt<|aV aa<|⟨ez an ab,(hE10.trans A).trans ah⟩
theorem Hd (B tb:Nat) (M:hU) (F:aR) (xs:List bD) (n:Int) (w:World) (ac:fE w B tb M F xs) (C:eF F xs):
 bm ay 93 (bf [aQ tb,.int .i64 n]) w (fun v w'=>v= .bool (nL F n)∧Wk w w'):=by
 refine enter func93 aa ntmps93 aa<|ag fun ah=>aw<|ah<|ag fun ai=>ak (aQ tb)<|ak (.int .i64 n)<|e<|cl F3 (yM B tb M F xs n w ac C) aa fun v10 ax aq=> ?_
 obtain ⟨⟨aD,rfl,ae⟩,hE10⟩:=aq
 obtain ⟨O,U,rfl⟩:=cB ae
 have aH:=hE10.size
 refine p mv<|p (xt aa aa)<|p (xt aa aa)<|e<|al r7 fun am aK aE Z ao=> ?_
 have aI:=Z.size
 refine e<|cW pE aa aa aa aa (ao) (by simp) fun i Y an=> ?_
 have V:Wk ax i:=Z.md.trans' Y fun q aF h=>by omega
 have aG:=Y.size
 have av:bO i.heap am (fz (rU F n,.slice O (cT F n).length U)):=an
 have E:=hE10.trans V
 have au:=ac.wk E
 refine aw<|ai<|aB fun J=> ?_
 have a:(fun w'=>Wk i w') i.drew:=(Md.refl _ _).drew
 refine bI (fun w'=>Wk i w') aa wide a<|aC 0 aa (fun _ _=>mv) a<|aC 1 aa (fun _ _=>mv) a<|iQ (t:=14) aa (fun I=> ?_) fun I=> ?_
 refine bh 2 aa (fun _ _=>fa qw aa) a<|bh 3 aa (fun w' G=>ld mZ aa<|Wk.aO G<|av.bG 6) a<|bh 4 aa (fun _ _=>aT (aQ tb) aa) a<|bh 5 aa (fun _ _=>nc aa) a<|bh 6 aa (fun _ _=>fa uZ aa) a<|bh 7 aa (fun _ _=>fa x8 aa) a<|bh 8 aa (fun _ _=>kh uy aa aa ab) a<|bh 9 aa (fun w' G=>ld cV aa<|Wk.aO G<|Lw au (k:=0) ab) a<|mB 10 aa aj aa aa aa<|cl Gm (IF O U (cT F n) (F.sp.getD 0 0) i.drew (((a7 ae).2.wk V).wk a)<|by have :=(tE C n).1; omega) aa fun aJ az ar=> ?_
 obtain ⟨rfl,ap⟩:=ar
 have A:(fun w'=>Wk i w') az:=a.trans ap
 refine ⟨A,?_⟩
 exact bh 11 aa (fun _ _=>no aa) A<|aC 12 aa (fun _ _=>bB aa) A<|aC 13 aa (fun _ _=>aA) A<|hn aj<|J<|rt<|aV aa<|⟨by unfold nL; rw [decide_eq_true I,IG (tE C n).2.2]; rfl,E.trans A⟩
 exact a6 2 aa a<|a6 3 aa a<|a6 4 aa a<|a6 5 aa a<|a6 6 aa a<|a6 7 aa a<|a6 8 aa a<|a6 9 aa a<|a6 10 aa a<|a6 11 aa a<|aC 12 aa (fun _ _=>bp aa) a<|aC 13 aa (fun _ _=>aA) a<|hn aj<|J<|rt<|aV aa<|⟨by unfold nL; rw [decide_eq_false I]; rfl,E.trans a⟩
theorem CD (B tb:Nat) (J:hU) (F:aR) (xs:List bD) (n k:Int) (w:World) (Z:fE w B tb J F xs) (G:eF F xs):
 bm ay 61 (bf [aQ tb,.int .i64 n,.int .i64 k]) w (fun v w'=>v= .bool (l8 F xs n k)∧Wk w w'):=by
 refine enter func61 aa ntmps61 aa<|ag fun ah=>aw<|ah<|ag fun ai=>p mv<|p mv<|e<|cl qm (xL B tb J F xs n w Z G) aa fun v12 az ap=> ?_
 obtain ⟨⟨a12,rfl,ae⟩,hE12⟩:=ap
 obtain ⟨M,O,rfl⟩:=cB ae
 have aH:=hE12.size
 refine p mv<|p (xt aa aa)<|p (xt aa aa)<|e<|al qU fun ak aK aE Y an=> ?_
 have aI:=Y.size
 refine e<|cW kB aa aa aa aa (an) (by simp) fun i V am=> ?_
 have U:Wk az i:=Y.md.trans' V fun q aF h=>by omega
 have aG:=V.size
 have au:bO i.heap ak [str (kD xs n),.slice M (flagsOf xs n).length O]:=am
 have A:=hE12.trans U
 have ar:=Z.wk A
 refine aw<|ai<|aB fun C=> ?_
 have a:(fun w'=>Wk i w') i.drew:=(Md.refl _ _).drew
 refine bI (fun w'=>Wk i w') aa wide a<|aC 0 aa (fun _ _=>mv) a<|aC 1 aa (fun _ _=>mv) a<|iQ (t:=16) aa (fun ac=> ?_) fun ac=> ?_
 refine bh 2 aa (fun _ _=>mv) a<|bh 3 aa (fun _ _=>ge aa aa) a<|aC 4 aa (fun _ _=>bB aa) a<|aC 5 aa (fun _ _=>mv) a<|iQ (t:=20) aa (fun av=> ?_) fun av=> ?_
 refine bh 6 aa (fun _ _=>mv) a<|bh 7 aa (fun _ _=>lt aa aa) a<|aC 8 aa (fun _ _=>bB aa) a<|aC 9 aa (fun _ _=>mv) a<|iQ (t:=24) aa (fun ax=> ?_) fun ax=> ?_
 obtain ⟨k,rfl⟩:∃ m:Nat,k=(m:Int):=⟨k.toNat,ab⟩
 refine bh 10 aa (fun _ _=>fa rG aa) a<|bh 11 aa (fun w' I=>ld mZ aa<|Wk.aO I<|au.bG 1) a<|bh 12 aa (fun _ _=>mv) a<|bh 13 aa (fun _ _=>mv) a<|bh 14 aa (fun _ _=>nc aa) a<|bh 15 aa (fun _ _=>fa uZ aa) a<|bh 16 aa (fun _ _=>fa x8 aa) a<|bh 17 aa (fun _ _=>kh uy aa aa ab) a<|bh 18 aa (fun w' I=>ld cV aa<|Wk.aO I<|Lw ar ab) a<|mB 19 aa aj aa aa aa<|cl Gm (IF M O (flagsOf xs n) (F.sp.getD k 0) i.drew (((a7 ae).2.wk U).wk a)<|by have :=(n8 G n).1; omega) aa fun aJ aD aq=> ?_
 obtain ⟨rfl,ao⟩:=aq
 have E:(fun w'=>Wk i w') aD:=a.trans ao
 refine ⟨E,?_⟩
 exact aC 20 aa (fun _ _=>bB aa) E<|aC 21 aa (fun _ _=>aA) E<|hn aj<|C<|rt<|aV aa<|⟨by unfold l8 rL; rw [decide_eq_true (show 0≤((k:Nat):Int)∧((k:Nat):Int) < 5 by omega),mR,IG (n8 G n).2.2]; rfl,A.trans E⟩
 exact a6 10 aa a<|a6 11 aa a<|a6 12 aa a<|a6 13 aa a<|a6 14 aa a<|a6 15 aa a<|a6 16 aa a<|a6 17 aa a<|a6 18 aa a<|a6 19 aa a<|aC 20 aa (fun _ _=>bp aa) a<|aC 21 aa (fun _ _=>aA) a<|hn aj<|C<|rt<|aV aa<|⟨by unfold l8; rw [decide_eq_false (show ¬(0≤k∧k < 5) by omega)]; rfl,A.trans a⟩
 exact a6 6 aa a<|a6 7 aa a<|aC 8 aa (fun _ _=>bp aa) a<|aC 9 aa (fun _ _=>mv) a<|a6 10 aa a<|a6 11 aa a<|a6 12 aa a<|a6 13 aa a<|a6 14 aa a<|a6 15 aa a<|a6 16 aa a<|a6 17 aa a<|a6 18 aa a<|a6 19 aa a<|aC 20 aa (fun _ _=>bp aa) a<|aC 21 aa (fun _ _=>aA) a<|hn aj<|C<|rt<|aV aa<|⟨by unfold l8; rw [decide_eq_false (show ¬(0≤k∧k < 5) by omega)]; rfl,A.trans a⟩
 exact a6 2 aa a<|a6 3 aa a<|aC 4 aa (fun _ _=>bp aa) a<|aC 5 aa (fun _ _=>mv) a<|a6 6 aa a<|a6 7 aa a<|aC 8 aa (fun _ _=>bp aa) a<|aC 9 aa (fun _ _=>mv) a<|a6 10 aa a<|a6 11 aa a<|a6 12 aa a<|a6 13 aa a<|a6 14 aa a<|a6 15 aa a<|a6 16 aa a<|a6 17 aa a<|a6 18 aa a<|a6 19 aa a<|aC 20 aa (fun _ _=>bp aa) a<|aC 21 aa (fun _ _=>aA) a<|hn aj<|C<|rt<|aV aa<|⟨by unfold l8 rL; rw [(sK ac).2,decide_eq_false (show ¬(F.sp.getD k.toNat 0≠0∧F.sp.getD k.toNat 0∈[]) from fun h=>by cases h.2),Bool.and_false]; rfl,A.trans a⟩
end Go.Hb.mV
end
