/-
  Walks and plain laws that the law rests on, laid together. No conditions but those that each theorem names.
-/
import Derived.Test.YtffmhpaepdkabaaGreatDoorMnDeriveWalks6
set_option linter.unusedVariables false
set_option maxRecDepth 20000
set_option maxHeartbeats 1000000
open Array renaming getElem?_eq_some_iff→dB
open Bool renaming noConfusion→eo,or_eq_false_iff→nA
open Classical renaming byContradiction→MS,not_not→jr
open Go.Calls renaming mono→lE
open Go.Proofs.Tryz renaming prog→aw
open Go.Value renaming bool→bU,int→jk,slice→bS
open Go.World renaming ownsRow→bw,ownsRow_nil→dC
open Int renaming toNat_natCast→mU
open List renaming all_cons→uh,append_nil→ei,drop_eq_nil_of_le→gV,eq_nil_of_length_eq_zero→fY,getD_eq_getElem?_getD→da,getElem?_eq_getElem→cI,getElem?_eq_some_iff→fS,getElem?_map→iq,getElem?_zip_eq_some→jz,length_append→bM,length_cons→c7,length_map→fM,length_pos_iff→lF,length_range→NJ,length_singleton→e9,map_append→ir,mem_append→jF,mem_cons_self→uo,mem_of_getElem?→iR,mem_singleton→j5,range→j6,range_succ→NR,toArray→bh,zip_append→EI
open Nat renaming le_refl→cD,le_trans→gk,lt_or_ge→fu,mul_le_mul_right→sA,zero_le→jG
open Go.Proofs.Tryz
open Go.Hb.ea Go.Proofs Go.Hb.jH Go.Hb.fw Go.Hb.gl Go.Hb.lU Go.Hb.j8 Go.Hb.kq Go.Hb.jR Go.Hb.kN

section
namespace Go.Hb.z1
open Go.Hb.nE Go.Hb.ox
theorem XR {kind ln:Nat} {al:List (List Nat)} {c:dm} {r:List Tx} {e:Nat} (h:r.length=4∨r.length=5) (h1:eF true (r.getD 2 [])= .error e):fI kind al c ln r= .error e:=by rw [mM h,h1]
theorem KZ {kind ln:Nat} {al:List (List Nat)} {c:dm} {r:List Tx} {e:Nat} {st:Tx} (h:r.length=4∨r.length=5) (h1:eF true (r.getD 2 [])= .ok st) (h2:jK (bD<|r.getD 3 [])= .error e):fI kind al c ln r= .error e:=by rw [mM h,h1]; simp only; rw [h2]
theorem K0 {kind ln:Nat} {al:List (List Nat)} {c:dm} {r:List Tx} {e:Nat} {st ad:Tx} (h:r.length=4∨r.length=5) (h1:eF true (r.getD 2 [])= .ok st) (h2:jK (bD<|r.getD 3 [])= .ok ad) (h3:kY kind al c.kind (bD<|r.getD 3 [])= .error e):fI kind al c ln r= .error e:=by rw [mM h,h1]; simp only; rw [h2]; simp only; rw [h3]
theorem La {kind ln:Nat} {al:List (List Nat)} {c:dm} {r:List Tx} {e:Nat} {st ad:Tx} {nx:List Nat} (h:r.length=4∨r.length=5) (h1:eF true (r.getD 2 [])= .ok st) (h2:jK (bD<|r.getD 3 [])= .ok ad) (h3:kY kind al c.kind (bD<|r.getD 3 [])= .ok nx) (h4:kR r= .error e):fI kind al c ln r= .error e:=by rw [mM h,h1]; simp only; rw [h2]; simp only; rw [h3]; simp only; rw [h4]
theorem XT {kind ln:Nat} {al:List (List Nat)} {c:dm} {r:List Tx} {st ad cd:Tx} {nx:List Nat} (h:r.length=4∨r.length=5) (h1:eF true (r.getD 2 [])= .ok st) (h2:jK (bD<|r.getD 3 [])= .ok ad) (h3:kY kind al c.kind (bD<|r.getD 3 [])= .ok nx) (h4:kR r= .ok cd):fI kind al c ln r= .ok ⟨c.kind,c.flag,c.ew,st,ad,cd,nx,ln⟩:=by rw [mM h,h1]; simp only; rw [h2]; simp only; rw [h3]; simp only; rw [h4]
def mr (xb:Nat) (F:aU) (c:dm) (ln:Nat) (r:List Tx) (w:World) (v:Value) (w':World):Prop :=Md (fun k=>k=xb) w w'∧∃ L:List Value,L.length=8∧L.all Value.oneCell'=true∧w'.heap[xb]? =some (.cells L.toArray 174 (0,0))∧((∃ q vn,fI F.kind F.aliases c ln r= .ok q∧v= .int .i64 (0:Nat)∧L=jx (q,vn)∧Tg w' 0 3 q.next.length vn (q.next.map bQ))∨(∃ e:Nat,fI F.kind F.aliases c ln r= .error e∧e≠0∧v= .int .i64 (e:Nat)))
section
variable {xb ln:Nat} {F:aU} {c:dm} {r:List Tx} {w w':World} {st ad cd:Tx} {vn:Value}
theorem mr.no {e:Nat} (hm:Md (fun k=>k=xb) w w') (i:w'.heap[xb]? =some (.cells [.int .i64 (c.kind:Nat),bQ c.flag,.bool c.ew,str st,str ad,str cd,vn,.int .i64 (ln:Nat)].toArray 174 (0,0))) (a:vn.oneCell'=true) (h:fI F.kind F.aliases c ln r= .error e) (he:e≠0):mr xb F c ln r w (.int .i64 (e:Nat)) w':=
 ⟨hm,_,rfl,by simp only [uh,a]; rfl,i,.inr ⟨e,h,he,rfl⟩⟩
theorem mr.ok {nx:List Nat} (hm:Md (fun k=>k=xb) w w') (q:w'.heap[xb]? =some (.cells [.int .i64 (c.kind:Nat),bQ c.flag,.bool c.ew,str st,str ad,str cd,vn,.int .i64 (ln:Nat)].toArray 174 (0,0))) (i:vn.oneCell'=true) (a:Tg w' 0 3 nx.length vn (nx.map bQ)) (h:fI F.kind F.aliases c ln r= .ok ⟨c.kind,c.flag,c.ew,st,ad,cd,nx,ln⟩):mr xb F c ln r w (.int .i64 (0:Nat)) w':=
 ⟨hm,_,rfl,by simp only [uh,i]; rfl,q,.inl ⟨_,vn,h,rfl,rfl,a⟩⟩
end
theorem RR {s t:Tx} (h:t∈(dq s).1) (hs:s.length≤1048576):(t.length=1∨3≤t.length)∧t.length≤1048576:=by
 have :=GO.1 t h
 exact ⟨this.1,ab⟩
theorem r6 (w:World) (B e:Nat):Tg w B e 0 (.slice none 0 0) []:=⟨none,0,rfl,cD _,.inl rfl⟩
theorem Uj {F F':aU} {ln:Nat} {row:List Tx} (h:jc F ln row= .ok F'):F'.bA=F.bA∧F'.kind=F.kind:=by
 unfold jc at h
 repeat' split at h
 all_goals first
  | (cases h; done)
  | (cases h; exact ⟨rfl,rfl⟩)
theorem IN (B fb xb:Nat) (F:aU) (V:eu) (c:dm) (ln:Nat) (r:List Tx) (aF:Nat) (ar:Option Addr) (cr:Nat) (w:World) (ca:nH w B 0 fb F V) (hk:F.kind=1∨F.kind=2∨F.kind=3) (cK:F.aliases.length≤70000) (db:w.heap[xb]? =some (.cells [ak (c.kind),bQ c.flag,.bool c.ew,str [],str [],str [],.slice none 0 0,ak ln].toArray 174 (0,0))) (bk:Tg w aF 9 r.length (.slice ar r.length cr) (r.map str)) (C:r.length=4∨r.length=5) (a4:∀ x∈r,x.length≤70000):
 bp aw 260 (bh [aT fb,aT xb,.slice ar r.length cr]) w (mr xb F c ln r w):=by
 have bn:=bk.cV
 have ds:(r.getD 2 []).length≤70000:=a4 _<|dY ab
 have dt:(r.getD 3 []).length≤70000:=a4 _<|dY ab
 have dv:=r9<|r.getD 3 []
 refine enter func260 aa ntmps260 aa<|ag fun bU=>ay<|bU<|ag fun bZ=>au (.slice ar r.length cr)<|p (bc cR aa aa ab<|aO.ok (bn.2)<|bT ab)<|p (ld bV aa<|cj.get (i:=2) bn.2 ab)<|e<|cl AP (Cl (r.getD 2 []) true w ab) aa fun dw aA ch=> ?_
 obtain ⟨⟨st,e,rfl,bA⟩,hE19⟩:=ch
 have a6:=Wk.aJ hE19 db
 have ah:Md (fun k=>k=xb) w aA:=hE19.mono fun _ _ h=>h.elim
 refine p mv<|p (xt aa aa)<|p (xt aa aa)<|p aE<|ay<|bZ<|aB fun b0=>ag fun b1=>p mv<|p (cO aa aa)<|nl<|b1<|cd aa (fun cy=> ?_) fun cy=> ?_
 have bx:eF true (r.getD 2 [])= .error e∧e≠0:=by
  rcases bA with ⟨_,h⟩ | h
  omega
  exact h
 exact ag fun aK=>p mv<|ay<|aK<|rt<|tr<|aX aa<|mr.no ah a6 aa (XR C bx.1) bx.2
 obtain ⟨av,rfl⟩:eF true (r.getD 2 [])= .ok st∧e=0:=by
  rcases bA with h | ⟨_,h⟩
  exact h
  omega
 refine aQ<|b0<|ag fun aK=>au (aT xb)<|p mv<|p (nc aa)<|p (fa th aa)<|e<|cT kS aa aa (v:=str st) aa a6 (by show _ < 8; omega) fun bO aW b9=> ?_
 have bL:=a6
 have ao:=(bk.wk hE19).md aW<|fz bL az
 have bi:=(ca.wk hE19).md aW (TF.eq (L:= [176]) (dA bL) az) az
 have cN:=(ah).trans' aW fun _ _ h=>h
 have de:bO.heap[xb]? =some (.cells [ak (c.kind),bQ c.flag,.bool c.ew,str st,str [],str [],.slice none 0 0,ak ln].toArray 174 (0,0)):=b9
 refine nl<|aK<|ag fun b2=>au (.slice ar r.length cr)<|p (bc cR aa aa ab<|aO.ok (ao.cV.2)<|bT ab)<|p (ld bV aa<|cj.get (i:=3) ao.cV.2 ab)<|e<|cl xz (y0 (r.getD 3 []) bO ab) aa fun dx bN ci=> ?_
 obtain ⟨rfl,E⟩:=ci
 have a9:=Wk.aJ E de
 have aZ:Md (fun k=>k=xb) w bN:=cN.trans' E fun _ _ h=>h.elim
 refine p mv<|p (xt aa aa)<|p (xt aa aa)<|p (xt aa aa)<|p (xt aa aa)<|p aE<|p aE<|p aE<|ay<|b2<|aB fun b3=>ag fun b4=>p mv<|p (cO aa aa)<|nl<|b4<|cd aa (fun cz=> ?_) fun cz=> ?_
 exact ag fun a=>p mv<|ay<|a<|rt<|tr<|aX aa<|mr.no aZ a9 aa (KZ C av<|ES ab) ab
 have bf:(bD<|r.getD 3 []).2.2.2=0:=ab
 refine aQ<|b3 ?_
 refine ep (fun M I=> ∃ (s1 A:Tx),(eF true (r.getD 2 [])= .ok s1)∧(jK (bD<|r.getD 3 [])= .ok A)∧(I.heap[xb]? =some (.cells [ak (c.kind),bQ c.flag,.bool c.ew,str s1,str A,str [],.slice none 0 0,ak ln].toArray 174 (0,0)))∧(nH I B 0 fb F V)∧(Tg I aF 9 r.length (.slice ar r.length cr)<|r.map str)∧(Md (fun k=>k=xb) w I)∧(M 0=aT fb)∧(M 1=aT xb)∧(M 2= .slice ar r.length cr)∧(M 10=str (bD<|r.getD 3 []).2.1)∧(M 11= .bool (bD<|r.getD 3 []).2.2.1)) ?_ ?_
 refine ag fun a=>p mv<|p (oQ aa aa)<|nl<|a<|cd aa (fun ap=> ?_) fun ap=> ?_
 refine ag fun q=>p mv<|e<|cl AT (Cg (bD<|r.getD 3 []).1 bN ab) aa fun dy dk ck=> ?_
 obtain ⟨rfl,al⟩:=ck
 have bb:=Wk.aJ al a9
 have bs:Md (fun k=>k=xb) w dk:=aZ.trans' al fun _ _ h=>h.elim
 refine ay<|q<|aB fun U=>ag fun Y=>p mv<|p (cO aa aa)<|nl<|Y<|cd aa (fun cA=> ?_) fun cA=> ?_
 exact ag fun aG=>p mv<|ay<|aG<|rt<|tr<|tr<|aX aa<|mr.no bs bb aa (KZ C av<|ET bf ap ab) ab
 refine aQ<|U<|rg aa<|au (aT xb)<|p mv<|p (nc aa)<|p (fa BU aa)<|e<|cT kS aa aa (v:=str (bD<|r.getD 3 []).1) aa bb (by show _ < 8; omega) fun dh aR b5=> ?_
 have bH:=bb
 have cq:=((ao.wk E).wk al).md aR<|fz bH az
 have ce:=((bi.wk E).wk al).md aR (TF.eq (L:= [176]) (dA bH) az) az
 have cL:=(bs).trans' aR fun _ _ h=>h
 have dc:dh.heap[xb]? =some (.cells [ak (c.kind),bQ c.flag,.bool c.ew,str st,str (bD<|r.getD 3 []).1,str [],.slice none 0 0,ak ln].toArray 174 (0,0)):=b5
 exact nl<|tn<|⟨st,(bD<|r.getD 3 []).1,av,(EU bf ap ab),dc,ce,cq,cL,aa,aa,aa,aa,aa⟩
 exact aQ<|tn<|⟨st,[],av,(EV bf<|jr.1 ap),a9,(bi.wk E),(ao.wk E),aZ,aa,aa,aa,aa,aa⟩
 rintro M I ⟨s1,A,ai,ae,ax,aP,bl,a0,cW,cX,c0,cY,cZ⟩
 refine fx 0 cW<|fx 1 cX<|fx 2 c0<|fx 10 cY<|fx 11 cZ ?_
 refine ep (fun O bg=>((bD<|r.getD 3 []).2.2.1=true→c.kind≠1)∧(bg=I)∧(O 0=aT fb)∧(O 1=aT xb)∧(O 2= .slice ar r.length cr)∧(O 10=str (bD<|r.getD 3 []).2.1)∧(O 11= .bool (bD<|r.getD 3 []).2.2.1)) ?_ ?_
 refine ag fun a=>au (.bool (bD<|r.getD 3 []).2.2.1)<|au (.bool (bD<|r.getD 3 []).2.2.1)<|gb (t:=53) aa (fun aY=> ?_) fun aY=> ?_
 refine aM aa (aV (aT xb) aa)<|aM aa (nc aa)<|aM aa (fa uV aa)<|aM aa (ld bz aa<|(a7 ax).trans aa)<|aM aa (bK aa aa)<|p (bC aa)<|nl<|a<|cd aa (fun cB=> ?_) fun cB=> ?_
 exact ag fun q=>ay<|q<|rt<|tr<|aX aa<|mr.no a0 ax aa (K0 C ai ae<|Ka aY ab) az
 exact aQ<|tn<|⟨(fun _=>by omega),aa,aa,aa,aa,aa,aa⟩
 exact aI aa<|aI aa<|aI aa<|aI aa<|aI aa<|p (bu aa)<|nl<|a<|cf aa<|aQ<|tn<|⟨(fun h=>absurd (h.symm.trans aY) eo),aa,aa,aa,aa,aa,aa⟩
 rintro O bg ⟨bq,da,c1,c2,c5,c3,c4⟩
 refine fx 0 c1<|fx 1 c2<|fx 2 c5<|fx 10 c3<|fx 11 c4 ?_
 subst da
 refine ep (fun aD J=> ∃ (l:List Nat) (vn:Value),(kY F.kind F.aliases c.kind (bD<|r.getD 3 [])= .ok l)∧(J.heap[xb]? =some (.cells [ak (c.kind),bQ c.flag,.bool c.ew,str s1,str A,str [],vn,ak ln].toArray 174 (0,0)))∧(vn.oneCell'=true)∧(Tg J 0 3 l.length vn<|l.map bQ)∧(nH J B 0 fb F V)∧(Tg J aF 9 r.length (.slice ar r.length cr)<|r.map str)∧(Md (fun k=>k=xb) w J)∧(aD 0=aT fb)∧(aD 1=aT xb)∧(aD 2= .slice ar r.length cr)) ?_ ?_
 refine ag fun a=>au (.bool (bD<|r.getD 3 []).2.2.1)<|nl<|a<|cb aa (fun G=> ?_) fun G=> ?_
 refine ag fun q=>au (aT xb)<|au (aT fb)<|au (str (bD<|r.getD 3 []).2.1)<|e<|cl FU (IF B fb F V (bD<|r.getD 3 []).2.1 bg aP hk cK ab) aa fun dz bP cm=> ?_
 obtain ⟨⟨aj,aL,rfl,a2,bo⟩,hE65⟩:=cm
 have a8:=Wk.aJ hE65 ax
 have cP:Md (fun k=>k=xb) w bP:=a0.trans' hE65 fun _ _ h=>h.elim
 refine p mv<|p (xt aa aa)<|p (xt aa aa)<|p (nc aa)<|p (fa uW aa)<|e<|cT Bg aa aa (v:=aj) a2 a8 (by show _ < 8; omega) fun di am b6=> ?_
 have bI:=a8
 have cs:=(bl.wk hE65).md am<|fz bI az
 have cg:=(aP.wk hE65).md am (TF.eq (L:= [176]) (dA bI) az) az
 have br:=(cP).trans' am fun _ _ h=>h
 have bM:di.heap[xb]? =some (.cells [ak (c.kind),bQ c.flag,.bool c.ew,str s1,str A,str [],aj,ak ln].toArray 174 (0,0)):=b6
 refine ay<|q<|ag fun U=>p mv<|p (cO aa aa)<|nl<|U<|cd aa (fun cC=> ?_) fun cC=> ?_
 obtain ⟨cH,cI⟩:aL≠0∧fX F.kind F.aliases (bD<|r.getD 3 []).2.1= .error aL:=by
  rcases bo with ⟨l,h,_⟩ | h
  omega
  exact h
 exact ag fun Y=>p mv<|ay<|Y<|rt<|tr<|aX aa<|mr.no br bM a2 (K0 C ai ae<|(yL G<|bq G).trans cI) cH
 obtain ⟨l,rfl,cJ,cu⟩:∃ l,aL=0∧fX F.kind F.aliases (bD<|r.getD 3 []).2.1= .ok l∧Tg bP 0 3 l.length aj (l.map bQ):=by
  rcases bo with h | ⟨h,_⟩
  exact h
  omega
 exact aQ<|tn<|⟨l,aj,((yL G<|bq G).trans cJ),bM,a2,(cu.md am<|fz a8 az),cg,cs,br,aa,aa,aa⟩
 exact aQ<|tn<|⟨[],.slice none 0 0,(Kb G),ax,aa,(r6 _ _ _),aP,bl,a0,aa,aa,aa⟩
 rintro aD J ⟨l,vn,a1,bd,a5,cw,dr,ct,cS,c6,c7,c8⟩
 refine fx 0 c6<|fx 1 c7<|fx 2 c8<|ag fun a=>au (aT xb)<|p (nc aa)<|p (fa BV aa)<|e<|cT kS aa aa (v:=str [46]) aa bd (by show _ < 8; omega) fun aA aS b7=> ?_
 have dg:=bd
 have an:=(ct).md aS<|fz dg az
 have ah:=(cS).trans' aS fun _ _ h=>h
 have bB:aA.heap[xb]? =some (.cells [ak (c.kind),bQ c.flag,.bool c.ew,str s1,str A,str [46],vn,ak ln].toArray 174 (0,0)):=b7
 have bm:=cw.md aS<|fz bd az
 refine nl<|a ?_
 refine ep (fun dn aC=> ∃ (cd:Tx),(kR r= .ok cd)∧(aC.heap[xb]? =some (.cells [ak (c.kind),bQ c.flag,.bool c.ew,str s1,str A,str cd,vn,ak ln].toArray 174 (0,0)))∧(Tg aC 0 3 l.length vn<|l.map bQ)∧(Md (fun k=>k=xb) w aC)) ?_ ?_
 refine ag fun q=>au (.slice ar r.length cr)<|p (bJ eZ aa aa)<|p (bK aa aa)<|nl<|q<|cd aa (fun cD=> ?_) fun cD=> ?_
 have du:(r.getD 4 []).length≤70000:=a4 _<|dY ab
 have a3:r.length=5:=ab
 refine ag fun U=>au (.slice ar r.length cr)<|p (bc cR aa aa ab<|aO.ok (an.cV.2)<|bT ab)<|p (ld bV aa<|cj.get (i:=4) an.cV.2 ab)<|e<|cl uJ (vE (r.getD 4 []) aA ab) aa fun dB bR cn=> ?_
 obtain ⟨rfl,Z⟩:=cn
 have bE:=Wk.aJ Z bB
 have bt:Md (fun k=>k=xb) w bR:=ah.trans' Z fun _ _ h=>h.elim
 refine ay<|U<|aB fun Y=>ag fun aG=>p mv<|p (no aa)<|nl<|aG<|cb aa (fun aq=> ?_) fun aq=> ?_
 exact ag fun aH=>ay<|aH<|rt<|tr<|tr<|aX aa<|mr.no bt bE a5 (La C ai ae a1<|GK a3<|by simpa using aq) az
 refine aQ<|Y<|ag fun aH=>au (.slice ar r.length cr)<|p (bc cR aa aa ab<|aO.ok ((an.wk Z).cV.2)<|bT ab)<|p (ld bV aa<|cj.get (i:=4) (an.wk Z).cV.2 ab)<|e<|cl FV (KF (r.getD 4 []) bR ab) aa fun dC bS co=> ?_
 obtain ⟨⟨dp,rfl,bw⟩,hE89⟩:=co
 obtain ⟨ac,cc,rfl⟩:=cE bw
 have bF:=Wk.aJ hE89 bE
 have bv:Md (fun k=>k=xb) w bS:=bt.trans' hE89 fun _ _ h=>h.elim
 refine p mv<|p (xt aa aa)<|p (xt aa aa)<|p aE<|ay<|aH<|aB fun bW=>ag fun bX=>p mv<|p (cO aa aa)<|nl<|bX<|cd aa (fun cF=> ?_) fun cF=> ?_
 exact ag fun bY=>p mv<|ay<|bY<|rt<|tr<|tr<|aX aa<|mr.no bv bF a5 (La C ai ae a1<|GL a3 (by simpa using aq) ab) ab
 refine aQ<|bW<|rg aa<|au (aT xb)<|p mv<|e<|cl P9 (XK (dq<|r.getD 4 []).1 ac cc bS (ba bw).2 (by have :=GQ (r.getD 4 []); omega) fun t c9=>RR c9 ab) aa fun dD dl cp=> ?_
 obtain ⟨rfl,aN⟩:=cp
 have bG:=Wk.aJ aN bF
 have cQ:Md (fun k=>k=xb) w dl:=bv.trans' aN fun _ _ h=>h.elim
 refine p (nc aa)<|p (fa BV aa)<|e<|cT kS aa aa (v:=str<|me (dq<|r.getD 4 []).1) aa bG (by show _ < 8; omega) fun dj bj b8=> ?_
 have dd:dj.heap[xb]? =some (.cells [ak (c.kind),bQ c.flag,.bool c.ew,str s1,str A,str (me (dq<|r.getD 4 []).1),vn,ak ln].toArray 174 (0,0)):=b8
 have cM:=cQ.trans' bj fun _ _ h=>h
 have cv:=(((bm.wk Z).wk hE89).wk aN).md bj<|fz bG az
 exact nl<|tn<|⟨me (dq<|r.getD 4 []).1,(GM a3 (by simpa using aq) ab),dd,cv,cM⟩
 exact aQ<|tn<|⟨[46],(GN ab),bB,bm,ah⟩
 rintro dn aC ⟨cd,cG,df,cx,cU⟩
 exact ag fun q=>ay<|q<|rt<|aX aa<|mr.ok cU df a5 cx<|XT C ai ae a1 cG
theorem Uk (I:World) (H:gp) (F:aU) (k ln:Nat) (seen r:List Tx) (bS:Nat) (ar:Option Addr) (cr:Nat) (w:World) (a:mq I w H F k ln seen) (bL:Tg w bS 9 r.length (.slice ar r.length cr) (r.map str)) (dn:r≠[]) (bx:∀ x∈r,x.length≤70000) (dG:F.dt.length+F.aliases.length+F.bA.length+F.rules.length+(H.rows.drop k).length < 70000) (de:r.getD 0 []≠fk→r.getD 0 []≠eL→0 < F.bA.length):
 bp aw 234 (bh [aT H.rb,.slice ar r.length cr]) w (fun v w'=>((∃ F',jc F ln r= .ok F'∧v=ak 0∧mq I w' H F' k ln seen)∨(∃ e:Nat,jc F ln r= .error e∧e≠0∧v=ak e∧Hb.aR w'.heap H.rb 5=some (ak ln)))∧Wk I w'):=by
 obtain ⟨V,vh,M,ah,J,aG,bR⟩:=a
 have bd:=bL.cV
 have dV:=ah.lo
 have dT:=M.lo
 have dL:=J.len
 have dX:=lF.2 dn
 have dW:=(dB.1 ah.cells).1
 obtain ⟨cW,kz,cI⟩:=cE M.ez
 have bt:=M.ez
 rw [cI] at bt
 have bO:Hb.aR w.heap H.fb 11=some (.slice cW F.bA.length kz):=by rw [← cI]; exact (a7 M.cells).trans rfl
 refine enter func234 aa ntmps234 aa<|ag fun cN=>ay<|cN<|ag fun cP=>au (aT H.rb)<|p (nc aa)<|p (fa lO aa)<|p (ld ib aa<|(a7 ah.cells).trans aa)<|ay<|cP<|aB fun cQ=>aB fun cS=>rg aa<|au (.slice ar r.length cr)<|p (bc cR aa aa ab<|aO.ok (bd.2)<|bT ab)<|p (ld bV aa<|cj.get (i:=0) bd.2 ab)<|nl<|cS<|aJ<|aB fun cU=>rg aa<|p (dZ aa aa)<|ay<|cU<|cd aa (fun ce=> ?_) fun ce=> ?_
 have ac:r.getD 0 []=fk:=ce
 refine aB fun bU=>ag fun a9=>au (.slice ar r.length cr)<|p (bJ eZ aa aa)<|p (cO aa aa)<|nl<|a9<|cd aa (fun da=> ?_) fun da=> ?_
 exact ag fun aF=>ay<|aF<|rt<|tr<|br<|tr<|aX aa<|⟨.inr ⟨111,by unfold jc; rw [if_pos ac,KM ab],az,aa,ah.dw⟩,aG⟩
 have cn:r.length=3:=ab
 have dh:=bx _<|dY (d:= []) (i:=1) ab
 have dU:=bx _<|dY (d:= []) (i:=2) ab
 refine aQ<|bU<|ag fun aF=>au (.slice ar r.length cr)<|p (bc cR aa aa ab<|aO.ok (bd.2)<|bT ab)<|p (ld bV aa<|cj.get (i:=1) bd.2 ab)<|e<|cl AP (Cl (r.getD 1 []) false w ab) aa fun v30 dz c2=> ?_
 obtain ⟨⟨aK,bD,rfl,aH⟩,hE30⟩:=c2
 have cA:=bL.wk hE30
 refine p mv<|p (xt aa aa)<|p (xt aa aa)<|p aE<|ay<|aF<|aB fun al=>ag fun aL=>p mv<|p (cO aa aa)<|nl<|aL<|cd aa (fun db=> ?_) fun db=> ?_
 have cF:eF false (r.getD 1 [])= .error bD∧bD≠0:=by
  rcases aH with ⟨_,h⟩ | h
  omega
  exact h
 exact ag fun av=>p mv<|ay<|av<|rt<|tr<|br<|tr<|aX aa<|⟨.inr ⟨bD,by unfold jc; rw [if_pos ac,KN cn cF.1],cF.2,aa,(ah.wk hE30).dw⟩,aG.trans hE30⟩
 obtain ⟨cG,rfl⟩:eF false (r.getD 1 [])= .ok aK∧bD=0:=by
  rcases aH with h | ⟨_,h⟩
  exact h
  omega
 refine aQ<|al<|ag fun av=>au (.slice ar r.length cr)<|p (bc cR aa aa ab<|aO.ok (cA.cV.2)<|bT ab)<|p (ld bV aa<|cj.get (i:=2) cA.cV.2 ab)<|e<|cl AP (Cl (r.getD 2 []) true dz ab) aa fun v40 d5 c3=> ?_
 obtain ⟨⟨a5,cY,rfl,dm⟩,hE40⟩:=c3
 have cy:=hE30.trans hE40
 have O:=M.wk cy
 refine p mv<|p (xt aa aa)<|p (xt aa aa)<|p aE<|ay<|av<|aB fun bf=>rg aa<|p mv<|p mv<|p (nc aa)<|p (fa If aa)<|p (ld Oo aa<|(a7 O.cells).trans aa)<|p mv<|p mv<|p (c8 (ps:= [(0,str aK),(1,str a5)]) (L:= [str aK,str a5]) YG aa<|aa)<|e<|kQ Ln aa aa aa fun dE d6 dH c1 cZ=> ?_
 have bE:=cy.trans c1.md
 have C:=M.wk bE
 have a0:=ah.wk bE
 have d0:=bE.size
 refine e<|ap Ln (C.o9) aa ab aa (aO.ec cZ) (aa) (aa) ab ab fun cJ cL cB bH d1 dN=> ?_
 have a1:=a0.own C.o9 bH az
 have ao:=bH.aJ C.cells<|dI C.o9 C.cells az
 have dk:bw cL I.heap.size 369 2 cJ (F.dt++ [(aK,a5)]).length (kZ<|F.dt++ [(aK,a5)]):=by rw [show kZ (F.dt++ [(aK,a5)])=kZ F.dt++ [str aK,str a5] from by simp [kZ],bM]; exact cB
 have a3:Wk I cL:=(aG.trans bE).trans' bH fun k hk h=>by have :=(dS C.o9 h).1; omega
 refine p (nc aa)<|p (fa If aa)<|e<|cT Se aa aa (v:=cJ) (eS cB) ao (by show _ < 13; omega) fun a8 U aP=> ?_
 have aW:=eI.Ak (x:=(aK,a5)) C bH dk U aP
 have an:=a1.oH ao U
 have Z:Wk I a8:=a3.trans' U fun k hk h=>by omega
 refine nl<|bf<|ag fun bg=>p mv<|ay<|bg<|rt<|br<|tr<|aX aa ?_
 rcases dm with ⟨aq,rfl⟩ | ⟨aq,bs⟩
 exact ⟨.inl ⟨_,by unfold jc; rw [if_pos ac,KP cn cG aq],aa,⟨_,vh,aW,an,⟨by simp only [bM,e9]; omega,J.sl,J.row,J.kd⟩,Z,bR⟩⟩,Z⟩
 exact ⟨.inr ⟨cY,by unfold jc; rw [if_pos ac,KO cn cG aq],bs,aa,an.dw⟩,Z⟩
 have ac:¬r.getD 0 []=fk:=ce
 refine ag fun bU=>p (dZ aa aa)<|ay<|bU<|cd aa (fun cg=> ?_) fun cg=> ?_
 have h1:r.getD 0 []=eL:=cg
 refine aB fun a9=>ag fun aF=>au (.slice ar r.length cr)<|p (bJ eZ aa aa)<|p (cO aa aa)<|nl<|aF<|cd aa (fun dc=> ?_) fun dc=> ?_
 exact ag fun al=>ay<|al<|rt<|tr<|br<|tr<|aX aa<|⟨.inr ⟨111,by unfold jc; rw [if_neg ac,if_pos h1,Fa ab],az,aa,ah.dw⟩,aG⟩
 have cH:r.length=2:=ab
 have dh:=bx _<|dY (d:= []) (i:=1) ab
 refine aQ<|a9<|aB fun al=> ?_
 have aC:(fun w'=>Wk w w') w.drew:=(Md.refl _ _).drew
 refine bN (fun w'=>Wk w w') aa wide aC<|aH 0 aa (fun _ _=>mv) aC<|aH 1 aa (fun _ _=>nc aa) aC<|aH 2 aa (fun _ _=>fa ti aa) aC<|aH 3 aa (fun w' a=>ld bz aa<|Wk.aR a<|(a7 M.cells).trans aa) aC<|bI 4 aa (.slice ar r.length cr) aC<|aH 5 aa (fun _ _=>bc cR aa aa ab<|aO.ok (aO.wk bd.2 aC)<|bT ab) aC<|aH 6 aa (fun w' a=>ld bV aa<|Wk.aR a<|cj.get (i:=1) bd.2 ab) aC<|he 7 aa aj<|cl F9 (KR F.kind (r.getD 1 []) w.drew J.kd ab) aa fun d4 dA c4=> ?_
 obtain ⟨⟨dD,rfl,cC⟩,bj⟩:=c4
 obtain ⟨cw,cx,rfl⟩:=cE cC
 have bj:=im bj
 have O:=M.wk bj
 have bb:(fun w'=>Wk w w') dA:=Md.mono bj fun _ _ h=>h
 refine ⟨bb,?_⟩
 refine aH 8 aa (fun _ _=>mv) bb<|aH 9 aa (fun _ _=>xt aa aa) bb<|aH 10 aa (fun _ _=>xt aa aa) bb<|aH 11 aa (fun _ _=>aE) bb<|aH 12 aa (fun _ _=>aE) bb<|hn aj<|al<|aB fun aL=>rg aa<|p mv<|p mv<|p (nc aa)<|p (fa uX aa)<|p (ld xm aa<|(a7 O.cells).trans aa)<|p mv<|e<|fZ Lo aa aa fun dF dC dJ cz c0=> ?_
 have bF:=bj.trans cz.md
 have C:=M.wk bF
 have a0:=ah.wk bF
 have d2:=bF.size
 refine e<|ap Lo (C.eY) aa ab aa (aO.ec c0) (aa) (aa) ab ab fun cK cM cD bK d3 dQ=> ?_
 have a1:=a0.own C.eY bK az
 have ao:=bK.aJ C.cells<|dI C.eY C.cells az
 have c5:Tg dC 0 3 (ed F.kind<|r.getD 1 []).1.length (.slice cw (ed F.kind<|r.getD 1 []).1.length cx) ((ed F.kind<|r.getD 1 []).1.map bQ):=((Tg.jP cC).mono<|jG _).wk cz.md
 have dl:bw cM I.heap.size 75 1 cK (F.aliases++ [(ed F.kind<|r.getD 1 []).1]).length (V.sa++ [.slice cw (ed F.kind<|r.getD 1 []).1.length cx]):=by rw [bM]; exact cD
 have a3:Wk I cM:=(aG.trans bF).trans' bK fun k hk h=>by have :=(dS C.eY h).1; omega
 refine p (nc aa)<|p (fa uX aa)<|e<|cT Sf aa aa (v:=cK) (eS cD) ao (by show _ < 13; omega) fun a8 U aP=> ?_
 have aW:=eI.Ai (x:=(ed F.kind<|r.getD 1 []).1) C c5 bK dl U aP
 have an:=a1.oH ao U
 have Z:Wk I a8:=a3.trans' U fun k hk h=>by omega
 refine nl<|aL<|ag fun av=>p mv<|ay<|av<|rt<|br<|tr<|aX aa ?_
 by_cases h:(ed F.kind<|r.getD 1 []).2=0
 exact ⟨.inl ⟨_,by unfold jc; rw [if_neg ac,if_pos h1,xq cH,yt h],by rw [h]; rfl,⟨_,vh,aW,an,⟨by simp only [bM,e9]; omega,J.sl,J.row,J.kd⟩,Z,bR⟩⟩,Z⟩
 exact ⟨.inr ⟨_,by unfold jc; rw [if_neg ac,if_pos h1,xq cH,yr h],h,aa,an.dw⟩,Z⟩
 have h1:¬r.getD 0 []=eL:=cg
 have dM:=de ac h1
 refine aQ<|bn<|cQ<|aB fun a9=>ag fun aF=>au (.slice ar r.length cr)<|p (bJ eZ aa aa)<|p (cO aa aa)<|p mv<|gs (t:=86) aa (fun dg=> ?_) fun dg=> ?_
 refine aM aa (aV (.slice ar r.length cr) aa)<|aM aa (bJ eZ aa aa)<|aM aa (cO aa aa)<|p (bC aa)<|nl<|aF<|cd aa (fun dd=> ?_) fun dd=> ?_
 exact ag fun al=>ay<|al<|rt<|tr<|aX aa<|⟨.inr ⟨111,by unfold jc; rw [if_neg ac,if_neg h1,Dt ab ab],az,aa,ah.dw⟩,aG⟩
 have co:r.length=4∨r.length=5:=ab
 refine aQ<|a9<|aB fun al=> ?_
 have A:(fun w'=>Wk w w') w.drew:=(Md.refl _ _).drew
 refine bN (fun w'=>Wk w w') aa wide A<|aH 0 aa (fun _ _=>mv) A<|aH 1 aa (fun _ _=>nc aa) A<|aH 2 aa (fun _ _=>fa pJ aa) A<|aH 3 aa (fun w' a=>ld qh aa<|Wk.aR a<|bO) A<|aH 4 aa (fun _ _=>mv) A<|aH 5 aa (fun _ _=>nc aa) A<|aH 6 aa (fun _ _=>fa pJ aa) A<|aH 7 aa (fun w' a=>ld qh aa<|Wk.aR a<|bO) A<|aH 8 aa (fun _ _=>bJ DO aa aa) A<|aH 9 aa (fun _ _=>dR ((F.bA.length - 1:Nat):Int) aa aa<|bl ab ab) A<|aH 10 aa (fun _ _=>bc xX aa aa ab<|aO.ok (aO.wk (ba bt).2 A)<|yv ab) A<|aH 11 aa (fun w' a=>di sL aa (aa) fun j bq=>fA (f:=nj) (m:=5) (fun _=>rfl) (aO.wk (ba bt).2 a) (uK (by omega :F.bA.length - 1 < F.bA.length)) j bq) A<|he 12 aa aj<|fg sc fun bW ct c6 aY bX=> ?_
 have dr:=aY.size
 have dv:=A.size
 have b8:(fun w'=>Wk w w') ct:=A.trans aY.md
 refine ⟨b8,?_⟩
 refine he 13 aa aj<|gj qq aa aa aa aa bX az fun G b4 b0=> ?_
 have aA:Wk w G:=(A.trans aY.md).trans' b4 fun k hk h=>by omega
 have a4:G.heap[bW]? =some (.cells (nj<|gL F).toArray 242 (0,0)):=b0
 have b9:(fun w'=>Wk w w') G:=aA
 refine ⟨b9,?_⟩
 refine hn aj<|al<|aB fun aL=> ?_
 have E:(fun w'=>Wk G w') G.drew:=(Md.refl _ _).drew
 refine bN (fun w'=>Wk G w') aa wide E<|aH 0 aa (fun _ _=>fa yg aa) E<|aH 1 aa (fun w' a=>ld bz aa<|Wk.aR a<|(a7 a4).trans aa) E<|aH 2 aa (fun _ _=>fa B4 aa) E<|aH 3 aa (fun w' a=>ld bz aa<|Wk.aR a<|(a7 a4).trans aa) E<|aH 4 aa (fun _ _=>fa Il aa) E<|aH 5 aa (fun w' a=>ld lY aa<|Wk.aR a<|(a7 a4).trans aa) E<|bI 6 aa (aT H.rb) E<|aH 7 aa (fun _ _=>nc aa) E<|aH 8 aa (fun _ _=>fa pL aa) E<|aH 9 aa (fun w' a=>ld bz aa<|Wk.aR a<|(a7 (ah.wk aA).cells).trans aa) E<|aH 10 aa (fun _ _=>c8 (ps:= [(0,ak ((gL F).kind)),(1,bQ (gL F).flag),(2,.bool (gL F).ew),(7,ak ln)]) (L:= [ak ((gL F).kind),bQ (gL F).flag,.bool (gL F).ew,.string ⟨⟨[]⟩⟩,.string ⟨⟨[]⟩⟩,.string ⟨⟨[]⟩⟩,.slice none 0 0,ak ln]) Lz aa<|aa) E<|he 11 aa aj<|fg D4 fun aN cu c7 aZ bY=> ?_
 have ds:=aZ.size
 have ca:(fun w'=>Wk G w') cu:=E.trans aZ.md
 refine ⟨ca,?_⟩
 refine he 12 aa aj<|gj Bc aa aa aa aa bY az fun aD b5 b1=> ?_
 have bi:Wk G aD:=(E.trans aZ.md).trans' b5 fun k hk h=>by have :=E.size; omega
 have aS:=aA.trans bi
 have cq:aD.heap[aN]? =some (.cells [ak ((gL F).kind),bQ (gL F).flag,.bool (gL F).ew,str [],str [],str [],.slice none 0 0,ak ln].toArray 174 (0,0)):=b1
 have dq:=E.size
 have dp:=aA.size
 have cb:(fun w'=>Wk G w') aD:=bi
 refine ⟨cb,?_⟩
 refine hn aj<|aL<|ag fun av=>p mv<|au (.slice ar r.length cr)<|e<|cl Gf (IN I.heap.size H.fb aN F V (gL F) ln r bS ar cr aD (M.wk aS).r J.kd ab cq (bL.wk aS) co bx) aa fun dy ai b7=> ?_
 obtain ⟨ch,L,bk,b2,b3,cp⟩:=b7
 have ax:Wk w ai:=aS.trans' ch fun k hk h=>by omega
 have O:=M.wk ax
 have bm:=ah.wk ax
 have dj:¬(V.v12.ownBlock=some H.rb):=dI O.dK bm.cells az
 have ci:¬(V.v12.ownBlock=some H.fb):=dI O.dK O.cells az
 have ck:¬(V.v12.ownBlock=some aN):=fun h=>by have :=(dS M.dK h).2; omega
 refine ay<|av<|aB fun bf=> ?_
 have Y:(fun w'=>Md (fun k=>V.v12.ownBlock=some k) ai w') ai.drew:=(Md.refl _ _).drew
 refine eR (fun w'=>Md (fun k=>V.v12.ownBlock=some k) ai w') 10 aa wide Y<|bB 0 aa (fun _=>mv) (fun _=>Y)<|bB 1 aa (fun _=>mv) (fun _=>Y)<|bB 2 aa (fun _=>nc aa) (fun _=>Y)<|bB 3 aa (fun _=>fa jN aa) (fun _=>Y)<|dP 4 aa (fun w' a=>ld ka aa<|Md.aR a ((a7 O.cells).trans aa) ci) Y<|dP 5 aa (fun w' a=>di rq aa (bk) fun j bq=>bP.bG ⟨_,Md.aJ a b3 ck⟩ j) Y<|gE 6 aa aj<|kQ y2 aa aa bk fun cX cv c9 b6 bZ=> ?_
 have ae:=im b6.md
 have C:=O.wk ae
 have a0:=bm.wk ae
 have dx:=(ax.trans ae).size
 have bo:(fun w'=>Md (fun k=>V.v12.ownBlock=some k) ai w') cv:=Md.mono ae fun _ _ h=>h.elim
 refine ⟨bo,?_⟩
 refine gE 7 aa aj<|ap y2 (C.dK) aa ab aa (aO.ec bZ) ab (b2) ab ab fun v124 a6 bv am du df=> ?_
 have a1:=a0.own C.dK am az
 have ao:=am.aJ C.cells<|dI C.dK C.cells az
 have a3:Wk I a6:=(aG.trans<|ax.trans ae).trans' am fun k hk h=>by have :=(dS C.dK h).1; omega
 have a2:(fun w'=>Md (fun k=>V.v12.ownBlock=some k) ai w') a6:=bo.trans' am fun _ _ h=>h
 refine ⟨a2,?_⟩
 refine bB 8 aa (fun _=>nc aa) (fun _=>a2)<|bB 9 aa (fun _=>fa jN aa) (fun _=>a2)<|dO 10 aa aj aj<|cT GY aa aa (v:=v124) (eS bv) ao (by show _ < 13; omega) fun a8 U aP=> ?_
 have an:=a1.oH ao U
 have Z:Wk I a8:=a3.trans' U fun k hk h=>by omega
 refine eQ aj<|bf<|ag fun bg=>p mv<|ay<|bg<|rt ?_
 refine aX aa ?_
 have cs:F.rules.length=V.rn.length:=by have :=C.nx.1; rw [fM] at this; exact this.symm
 rcases cp with ⟨q,vn,aq,rfl,rfl,cc⟩ | ⟨e,aq,bs,rfl⟩
 have cm:bw a6 I.heap.size 174 8 v124 (F.rules++ [q]).length (mC<|(F.rules++ [q]).zip<|V.rn++ [vn]):=by
  rw [EI cs,show mC (F.rules.zip V.rn++ [q].zip [vn])=mC (F.rules.zip V.rn)++jx (q,vn) from by simp [mC],bM]
  exact bv
 have aW:=eI.xv (x:=q) (vx:=vn) C (cc.wk ae) am cm U aP
 exact ⟨.inl ⟨_,by unfold jc; rw [if_neg ac,if_neg h1,aq],aa,⟨_,vh,aW,an,⟨by simp only [bM,e9]; omega,J.sl,J.row,J.kd⟩,Z,bR⟩⟩,Z⟩
 exact ⟨.inr ⟨e,by unfold jc; rw [if_neg ac,if_neg h1,aq],bs,aa,an.dw⟩,Z⟩
 have co:r.length=4∨r.length=5:=ab
 refine aI aa<|aI aa<|aI aa<|p (bu aa)<|nl<|aF<|cf aa<|aQ<|a9<|aB fun al=> ?_
 have A:(fun w'=>Wk w w') w.drew:=(Md.refl _ _).drew
 refine bN (fun w'=>Wk w w') aa wide A<|aH 0 aa (fun _ _=>mv) A<|aH 1 aa (fun _ _=>nc aa) A<|aH 2 aa (fun _ _=>fa pJ aa) A<|aH 3 aa (fun w' a=>ld qh aa<|Wk.aR a<|bO) A<|aH 4 aa (fun _ _=>mv) A<|aH 5 aa (fun _ _=>nc aa) A<|aH 6 aa (fun _ _=>fa pJ aa) A<|aH 7 aa (fun w' a=>ld qh aa<|Wk.aR a<|bO) A<|aH 8 aa (fun _ _=>bJ DO aa aa) A<|aH 9 aa (fun _ _=>dR ((F.bA.length - 1:Nat):Int) aa aa<|bl ab ab) A<|aH 10 aa (fun _ _=>bc xX aa aa ab<|aO.ok (aO.wk (ba bt).2 A)<|yv ab) A<|aH 11 aa (fun w' a=>di sL aa (aa) fun j bq=>fA (f:=nj) (m:=5) (fun _=>rfl) (aO.wk (ba bt).2 a) (uK (by omega :F.bA.length - 1 < F.bA.length)) j bq) A<|he 12 aa aj<|fg sc fun bW ct c6 aY bX=> ?_
 have dr:=aY.size
 have dv:=A.size
 have b8:(fun w'=>Wk w w') ct:=A.trans aY.md
 refine ⟨b8,?_⟩
 refine he 13 aa aj<|gj qq aa aa aa aa bX az fun G b4 b0=> ?_
 have aA:Wk w G:=(A.trans aY.md).trans' b4 fun k hk h=>by omega
 have a4:G.heap[bW]? =some (.cells (nj<|gL F).toArray 242 (0,0)):=b0
 have b9:(fun w'=>Wk w w') G:=aA
 refine ⟨b9,?_⟩
 refine hn aj<|al<|aB fun aL=> ?_
 have E:(fun w'=>Wk G w') G.drew:=(Md.refl _ _).drew
 refine bN (fun w'=>Wk G w') aa wide E<|aH 0 aa (fun _ _=>fa yg aa) E<|aH 1 aa (fun w' a=>ld bz aa<|Wk.aR a<|(a7 a4).trans aa) E<|aH 2 aa (fun _ _=>fa B4 aa) E<|aH 3 aa (fun w' a=>ld bz aa<|Wk.aR a<|(a7 a4).trans aa) E<|aH 4 aa (fun _ _=>fa Il aa) E<|aH 5 aa (fun w' a=>ld lY aa<|Wk.aR a<|(a7 a4).trans aa) E<|bI 6 aa (aT H.rb) E<|aH 7 aa (fun _ _=>nc aa) E<|aH 8 aa (fun _ _=>fa pL aa) E<|aH 9 aa (fun w' a=>ld bz aa<|Wk.aR a<|(a7 (ah.wk aA).cells).trans aa) E<|aH 10 aa (fun _ _=>c8 (ps:= [(0,ak ((gL F).kind)),(1,bQ (gL F).flag),(2,.bool (gL F).ew),(7,ak ln)]) (L:= [ak ((gL F).kind),bQ (gL F).flag,.bool (gL F).ew,.string ⟨⟨[]⟩⟩,.string ⟨⟨[]⟩⟩,.string ⟨⟨[]⟩⟩,.slice none 0 0,ak ln]) Lz aa<|aa) E<|he 11 aa aj<|fg D4 fun aN cu c7 aZ bY=> ?_
 have ds:=aZ.size
 have ca:(fun w'=>Wk G w') cu:=E.trans aZ.md
 refine ⟨ca,?_⟩
 refine he 12 aa aj<|gj Bc aa aa aa aa bY az fun aD b5 b1=> ?_
 have bi:Wk G aD:=(E.trans aZ.md).trans' b5 fun k hk h=>by have :=E.size; omega
 have aS:=aA.trans bi
 have cq:aD.heap[aN]? =some (.cells [ak ((gL F).kind),bQ (gL F).flag,.bool (gL F).ew,str [],str [],str [],.slice none 0 0,ak ln].toArray 174 (0,0)):=b1
 have dq:=E.size
 have dp:=aA.size
 have cb:(fun w'=>Wk G w') aD:=bi
 refine ⟨cb,?_⟩
 refine hn aj<|aL<|ag fun av=>p mv<|au (.slice ar r.length cr)<|e<|cl Gf (IN I.heap.size H.fb aN F V (gL F) ln r bS ar cr aD (M.wk aS).r J.kd ab cq (bL.wk aS) co bx) aa fun dy ai b7=> ?_
 obtain ⟨ch,L,bk,b2,b3,cp⟩:=b7
 have ax:Wk w ai:=aS.trans' ch fun k hk h=>by omega
 have O:=M.wk ax
 have bm:=ah.wk ax
 have dj:¬(V.v12.ownBlock=some H.rb):=dI O.dK bm.cells az
 have ci:¬(V.v12.ownBlock=some H.fb):=dI O.dK O.cells az
 have ck:¬(V.v12.ownBlock=some aN):=fun h=>by have :=(dS M.dK h).2; omega
 refine ay<|av<|aB fun bf=> ?_
 have Y:(fun w'=>Md (fun k=>V.v12.ownBlock=some k) ai w') ai.drew:=(Md.refl _ _).drew
 refine eR (fun w'=>Md (fun k=>V.v12.ownBlock=some k) ai w') 10 aa wide Y<|bB 0 aa (fun _=>mv) (fun _=>Y)<|bB 1 aa (fun _=>mv) (fun _=>Y)<|bB 2 aa (fun _=>nc aa) (fun _=>Y)<|bB 3 aa (fun _=>fa jN aa) (fun _=>Y)<|dP 4 aa (fun w' a=>ld ka aa<|Md.aR a ((a7 O.cells).trans aa) ci) Y<|dP 5 aa (fun w' a=>di rq aa (bk) fun j bq=>bP.bG ⟨_,Md.aJ a b3 ck⟩ j) Y<|gE 6 aa aj<|kQ y2 aa aa bk fun cX cv c9 b6 bZ=> ?_
 have ae:=im b6.md
 have C:=O.wk ae
 have a0:=bm.wk ae
 have dx:=(ax.trans ae).size
 have bo:(fun w'=>Md (fun k=>V.v12.ownBlock=some k) ai w') cv:=Md.mono ae fun _ _ h=>h.elim
 refine ⟨bo,?_⟩
 refine gE 7 aa aj<|ap y2 (C.dK) aa ab aa (aO.ec bZ) ab (b2) ab ab fun v124 a6 bv am du df=> ?_
 have a1:=a0.own C.dK am az
 have ao:=am.aJ C.cells<|dI C.dK C.cells az
 have a3:Wk I a6:=(aG.trans<|ax.trans ae).trans' am fun k hk h=>by have :=(dS C.dK h).1; omega
 have a2:(fun w'=>Md (fun k=>V.v12.ownBlock=some k) ai w') a6:=bo.trans' am fun _ _ h=>h
 refine ⟨a2,?_⟩
 refine bB 8 aa (fun _=>nc aa) (fun _=>a2)<|bB 9 aa (fun _=>fa jN aa) (fun _=>a2)<|dO 10 aa aj aj<|cT GY aa aa (v:=v124) (eS bv) ao (by show _ < 13; omega) fun a8 U aP=> ?_
 have an:=a1.oH ao U
 have Z:Wk I a8:=a3.trans' U fun k hk h=>by omega
 refine eQ aj<|bf<|ag fun bg=>p mv<|ay<|bg<|rt ?_
 refine aX aa ?_
 have cs:F.rules.length=V.rn.length:=by have :=C.nx.1; rw [fM] at this; exact this.symm
 rcases cp with ⟨q,vn,aq,rfl,rfl,cc⟩ | ⟨e,aq,bs,rfl⟩
 have cm:bw a6 I.heap.size 174 8 v124 (F.rules++ [q]).length (mC<|(F.rules++ [q]).zip<|V.rn++ [vn]):=by
  rw [EI cs,show mC (F.rules.zip V.rn++ [q].zip [vn])=mC (F.rules.zip V.rn)++jx (q,vn) from by simp [mC],bM]
  exact bv
 have aW:=eI.xv (x:=q) (vx:=vn) C (cc.wk ae) am cm U aP
 exact ⟨.inl ⟨_,by unfold jc; rw [if_neg ac,if_neg h1,aq],aa,⟨_,vh,aW,an,⟨by simp only [bM,e9]; omega,J.sl,J.row,J.kd⟩,Z,bR⟩⟩,Z⟩
 exact ⟨.inr ⟨e,by unfold jc; rw [if_neg ac,if_neg h1,aq],bs,aa,an.dw⟩,Z⟩
end Go.Hb.z1
end
section
namespace Go.Hb.EP
open Go.Hb.z1 Go.Hb.nE Go.Hb.ox
theorem drop_nil {α:Type} {l:List α} {k:Nat} (h:l.length≤k):l.drop k= []:=gV h
theorem VE {F:aU} {c:dm} :gL {F with bA:=F.bA++ [c]} =c:=by
 unfold gL
 simp [da]
theorem Q9 {eof ln x n:Nat} {F:aU} {rows:List Rw} {r:List Tx} (i:r.length=4) (hk:r.getD 0 []≠fk) (a:r.getD 0 []≠eL) (h:gK F (r.getD 1 [])= .ok x) (h1:r.getD 2 []= [89]∨r.getD 2 []= [78]) (h2:e5 (r.getD 3 []) 1024= .ok n) (h3:¬1024 < F.rules.length+n):
 gO eof F rows ln r=gQ (kF r) eof n {F with bA:=F.bA++ [(⟨x,(if r.getD 0 []=du then 2 else 1:Nat),(decide (r.getD 2 []= [89])),F.rules.length,n⟩:dm)]} rows:=by
 rw [I0 i,Uh hk a,VE]
 unfold gO
 rw [h]
 simp only
 rw [if_neg (fun h3=>h1.elim h3.1 h3.2),h2]
 simp only
 rw [if_neg h3]
 all_goals rfl
theorem Xp {eof ln n:Nat} {F:aU} {rows:List Rw} {r:List Tx} (a:r.length=2) (hk:r.getD 0 []=fk) (h2:e5 (r.getD 1 []) 256= .ok n):km eof F rows ln r=gQ (kF r) eof n F rows:=by
 rw [IZ ab,hk,Ug]
 unfold km
 rw [h2]
 all_goals rfl
theorem Ow {eof ln n:Nat} {F:aU} {seen:List Tx} {rows:List Rw} {r:List Tx} (i:r.length=2) (hk:r.getD 0 []=eL) (a:¬(fH∈seen∨du∈seen)) (h2:e5 (r.getD 1 []) 1024= .ok n):jU eof F seen rows ln r=gQ (kF r) eof n F rows:=by
 rw [IZ ab,hk,Uf]
 unfold jU
 rw [if_neg a,h2]
 all_goals rfl
theorem Un {F:aU} {V:eu} {i o x:Nat} (h5:F.sp.length=5) (hi:i < 5) (q:o=3 +i):(nV F V).set o (bQ x)=nV {F with sp:=F.sp.set i x} V:=by
 subst q
 obtain ⟨k,cs,tr,sp,le,A,al,cl,ru⟩:=F
 match sp,h5 with
 | [a,b,c,d,e],_=>
   match i,hi with
   | 0,_=>rfl
   | 1,_=>rfl
   | 2,_=>rfl
   | 3,_=>rfl
   | 4,_=>rfl
theorem DD {s:Tx} (h:s∈eh):eh.idxOf s < 5:=by
 have :∀ k∈eh,eh.idxOf k < 5:=az
 exact this s h
theorem DC {s:Tx} (h:s∈eh):pU s=(eh.idxOf s:Nat):=if_pos h
section
variable {eof ln:Nat} {F:aU} {seen:List Tx} {rows:List Rw} {r:List Tx}
theorem IT (h:r.getD 0 []∈eh):cw eof F seen rows ln r=ko F rows ln r:=by unfold cw; rw [if_pos h]
theorem Uu (h:r.getD 0 []=ij):cw eof F seen rows ln r=kH F seen rows ln r:=by unfold cw; rw [h]; rfl
theorem IS (h:r.getD 0 []=iL):cw eof F seen rows ln r=mN F rows ln r:=by unfold cw; rw [h]; rfl
theorem IU (h:r.getD 0 []=iU):cw eof F seen rows ln r=mR F rows ln r:=by unfold cw; rw [h]; rfl
theorem Cp (h:r.getD 0 []=kh):cw eof F seen rows ln r=kX F rows ln r:=by unfold cw; rw [h]; rfl
theorem IQ (h:r.getD 0 []=fk):cw eof F seen rows ln r=km eof F rows ln r:=by unfold cw; rw [h]; rfl
theorem yy (h:r.getD 0 []=eL):cw eof F seen rows ln r=jU eof F seen rows ln r:=by unfold cw; rw [h]; rfl
theorem Ut (h:r.getD 0 []=fH∨r.getD 0 []=du):cw eof F seen rows ln r=gO eof F rows ln r:=by rcases h with h | h <;> (unfold cw; rw [h]; rfl)
theorem WZ {k:Tx} (hw:width k≠0) (a:k∉eh) (h1:k≠ij) (h2:k≠iL) (h3:k≠iU) (h4:k≠kh) (h5:k≠fk) (i:k≠eL):k=fH∨k=du:=by
 unfold width at hw
 rw [if_neg (by simp [a,h1,h2,h3,h4,h5,i])] at hw
 by_cases h:k=fH∨k=du
 · exact h
 · rw [if_neg h] at hw; exact absurd rfl hw
end
theorem fO.eq {a:World} {H:gp} {seen:List Tx} {X Y:Except (Nat×Nat) (aU×List Rw)} {v:Value} {w:World} (h:fO a H seen X v w) (he:Y=X):fO a H seen Y v w:=he ▸ h
theorem fO.er {a:World} {H:gp} {seen:List Tx} {X:Except (Nat×Nat) (aU×List Rw)} {w:World} {l e:Nat} (h:X= .error (l,e)) (he:e≠0) (i:Hb.aR w.heap H.rb 5=some (.int .i64 (l:Nat))) (hw:Wk a w):fO a H seen X (.int .i64 (e:Nat)) w:=⟨.inr ⟨l,e,h,he,rfl,i⟩,hw⟩
theorem Ci (M:World) (H:gp) (F:aU) (k ln:Nat) (seen hd:List Tx) (bG:Nat) (ac:Option Addr) (ai n:Nat) (w:World) (a1:GS M H) (C:mq M w H F k ln seen) (cb:Tg M bG 9 hd.length (.slice ac hd.length ai) (hd.map str)) (cM:hd.length=2∨hd.length=4) (cQ:n≤70000) (cm:hd.getD 0 []≠fk→hd.getD 0 []≠eL→0 < F.bA.length):
 bp aw 178 (bh [aT H.rb,.slice ac hd.length ai,ak n]) w (fO M H seen<|gQ (kF hd) H.eof n F<|H.rows.drop k):=by
 have aL:∀ w,Wk M w→cj w.heap ac hd:=fun w h=>(cb.wk h).cV.2
 obtain ⟨a0,bZ,bv⟩:∃ a c,H.vr= .slice a H.rows.length c:=by obtain ⟨B0,h1,_⟩:=a1; exact h1.slice
 have a6:∀ (w:World) (k l:Nat) (s:List Tx) (vh:Value),gY w M.heap.size H k l s vh→Hb.aR w.heap H.rb 1=some (.slice a0 H.rows.length bZ):=fun w k l s vh h=>by rw [← bv]; exact (a7 h.cells).trans rfl
 refine enter func178 aa ntmps178 aa<|ag fun bH=>ay<|bH<|aB fun bQ=>ag fun bR=>ay<|bR<|aJ<|lp (fun bb aF O=> ∃ (i:Nat) (F':aU) (k' a9:Nat),(i≤n)∧(gQ (kF hd) H.eof (n - i) F' (H.rows.drop k')=gQ (kF hd) H.eof n F (H.rows.drop k))∧(mq M O H F' k' a9 seen)∧(F'.bA=F.bA)∧(aF 0=aT H.rb)∧(aF 1= .slice ac hd.length ai)∧(aF 2=ak n)∧(aF 7=ak i)∧(n - i=bb)) _ ⟨0,F,k,ln,ab,aa,C,aa,aa,aa,aa,aa,aa⟩ ?_
 rintro bb aF O ⟨i,F',k',a9,hi,U,bi,bj,cx,cy,cz,cA,rfl⟩
 refine fx 0 cx<|fx 1 cy<|fx 2 cz<|fx 7 cA ?_
 have ca:=bi
 obtain ⟨V,vh,b3,ap,aY,bd,cN⟩:=bi
 have cP:H.rows.length≤70000:=by obtain ⟨_,_,_,h⟩:=a1; exact h
 refine aB fun bS=>ag fun bU=>au (ak i)<|au (ak n)<|p (lt aa aa)<|nl<|bU<|cd aa (fun ch=> ?_) fun ch=> ?_
 refine aQ<|bS<|aB fun aS=>aJ<|aB fun bW=>aB fun bX=> ?_
 have J:(fun w'=>Wk O w') O.drew:=(Md.refl _ _).drew
 refine bN (fun w'=>Wk O w') aa wide J<|bI 0 aa (aT H.rb) J<|aH 1 aa (fun _ _=>nc aa) J<|aH 2 aa (fun _ _=>fa oJ aa) J<|aH 3 aa (fun w' C=>ld bz aa<|Wk.aR C<|(a7 ap.cells).trans aa) J<|bI 4 aa (aT H.rb) J<|aH 5 aa (fun _ _=>nc aa) J<|aH 6 aa (fun _ _=>fa B3 aa) J<|aH 7 aa (fun w' C=>ld Ae aa<|Wk.aR C<|a6 _ _ _ _ _ ap) J<|aH 8 aa (fun _ _=>bJ zj aa aa) J<|aH 9 aa (fun _ _=>ge aa aa) J<|hn aj ?_
 have aq:=ap.wk J
 have b4:=b3.wk J
 have aZ:=bd.trans J
 refine bX<|cd aa (fun ci=> ?_) fun ci=> ?_
 have cw:H.rows.drop k'= []:=drop_nil ab
 rw [cw] at U
 refine ag fun aW=>au (aT H.rb)<|au (aT H.rb)<|p (nc aa)<|p (fa TQ aa)<|p (ld bz aa<|(a7 aq.cells).trans aa)<|p (nc aa)<|p (fa pL aa)<|e<|cT gr aa aa (v:=ak<|H.eof) aa aq.cells (by show _ < 6; omega) fun cG bg b0=> ?_
 have b7:=aq.dD (k':=k') (ln':=H.eof) bg b0
 have cc:Wk M cG:=aZ.trans' bg fun q bq h=>by have :=ap.lo; omega
 exact nl<|aW<|ag fun aP=>ay<|aP<|rt<|tr<|br<|tr<|tr<|br<|tr<|aX aa<|fO.er (Ud U ab) az b7.dw cc
 obtain ⟨Y,Z,ar,cr,cI,cJ,aN,bw,aG,bt,⟨bD,aC⟩,hvl⟩:=a1.get aZ (k:=k') ab
 rw [bv] at bw
 cases bw
 have cn:=congrArg List.length aN
 simp only [c7] at cn
 rw [aN] at U
 have aD:=aY.row (Y,Z)<|by rw [aN]; exact uo ..
 have cS:0 < Z.length:=lF.2 aD.1
 have cL:=aY.len
 refine aQ<|bW<|aB fun aW=> ?_
 have G:(fun w'=>Wk O.drew w') O.drew.drew:=(Md.refl _ _).drew
 refine bN (fun w'=>Wk O.drew w') aa wide G<|bI 0 aa (aT H.rb) G<|aH 1 aa (fun _ _=>nc aa) G<|aH 2 aa (fun _ _=>fa B3 aa) G<|aH 3 aa (fun w' C=>ld Ae aa<|Wk.aR C<|a6 _ _ _ _ _ aq) G<|bI 4 aa (aT H.rb) G<|aH 5 aa (fun _ _=>nc aa) G<|aH 6 aa (fun _ _=>fa oJ aa) G<|aH 7 aa (fun w' C=>ld bz aa<|Wk.aR C<|(a7 aq.cells).trans aa) G<|aH 8 aa (fun _ _=>bc nS aa aa ab<|aO.ok (aG)<|lQ ab) G<|aH 9 aa (fun _ _=>fa vb aa) G<|aH 10 aa (fun w' C=>ld jT aa<|Wk.aR C<|lR aG bt 1 az) G<|aH 11 aa (fun _ _=>aE) G<|hn aj ?_
 have aA:=aq.wk G
 refine aW<|aB fun aP=> ?_
 have E:(fun w'=>Wk O.drew.drew w') O.drew.drew.drew:=(Md.refl _ _).drew
 refine eR (fun w'=>Wk O.drew.drew w') 14 aa wide E<|bE 0 aa (aT H.rb) E<|bE 1 aa (aT H.rb) E<|bB 2 aa (fun _=>nc aa) (fun _=>E)<|bB 3 aa (fun _=>fa B3 aa) (fun _=>E)<|dP 4 aa (fun w' C=>ld Ae aa<|Wk.aR C<|a6 _ _ _ _ _ aA) E<|bE 5 aa (aT H.rb) E<|bB 6 aa (fun _=>nc aa) (fun _=>E)<|bB 7 aa (fun _=>fa oJ aa) (fun _=>E)<|dP 8 aa (fun w' C=>ld bz aa<|Wk.aR C<|(a7 aA.cells).trans aa) E<|bB 9 aa (fun _=>bc nS aa aa ab<|aO.ok (aG)<|lQ ab) (fun _=>E)<|bB 10 aa (fun _=>fa tt aa) (fun _=>E)<|dP 11 aa (fun w' C=>ld bz aa<|Wk.aR C<|lR (aO.wk aG G) bt 0 az) E<|bB 12 aa (fun _=>nc aa) (fun _=>E)<|bB 13 aa (fun _=>fa pL aa) (fun _=>E)<|dO 14 aa aj aj<|cT gr aa aa (v:=ak Y) aa (aA.wk E).cells (by show _ < 6; omega) fun cH a2 b1=> ?_
 have aI:=(aA.wk E).dD (k':=k') (ln':=Y) a2 b1
 have b5:=((b4.wk G).wk E).rb (aA.wk E) a2
 have ce:Wk M cH:=((aZ.trans G).trans E).trans' a2 fun q bq h=>by have :=ap.lo; omega
 refine eQ aj<|aP<|ag fun bL=>au (aT H.rb)<|au (aT H.rb)<|p (nc aa)<|p (fa oJ aa)<|p (ld bz aa<|(a7 aI.cells).trans aa) ?_
 refine p (bF ((k'+1:Nat):Int) aa aa<|bl ab ab)<|p (nc aa)<|p (fa oJ aa)<|e<|cT gr aa aa (v:=ak<|k'+1) aa aI.cells (by show _ < 6; omega) fun ae a3 b2=> ?_
 have aK:=aI.dD (k':=k'+1) (ln':=Y) a3 b2
 have b6:=b5.rb aI a3
 have am:Wk M ae:=ce.trans' a3 fun q bq h=>by have :=ap.lo; omega
 refine nl<|bL<|aB fun bM=>aB fun bO=> ?_
 have I:(fun w'=>Wk ae w') ae.drew:=(Md.refl _ _).drew
 refine bN (fun w'=>Wk ae w') aa wide I<|aH 0 aa (fun _ _=>mv) I<|aH 1 aa (fun _ _=>bc cR aa aa ab<|aO.ok ((aC.wk am).cV.2)<|bT ab) I<|aH 2 aa (fun w' C=>ld bV aa<|Wk.aR C<|cj.get (i:=0) (aC.wk am).cV.2 ab) I<|bI 3 aa (.slice ac hd.length ai) I<|aH 4 aa (fun _ _=>bc cR aa aa ab<|aO.ok (aL _ am)<|bT ab) I<|aH 5 aa (fun w' C=>ld bV aa<|Wk.aR C<|cj.get (i:=0) (aL _ am) ab) I<|aH 6 aa (fun _ _=>oQ aa aa) I<|hn aj ?_
 have al:=am.trans I
 refine bO<|cd aa (fun a4=> ?_) fun a4=> ?_
 have ao:Z.getD 0 []≠hd.getD 0 []:=a4
 exact ag fun ah=>ay<|ah<|rt<|tr<|br<|tr<|tr<|br<|tr<|aX aa<|fO.er (Ch U ab<|UM ao) az (aK.wk I).dw al
 have ao:Z.getD 0 []=hd.getD 0 []:=jr.1 a4
 refine aQ<|bM ?_
 refine ep (fun av ba=>(Z.take (kF hd).length=kF hd)∧(Wk ae ba)∧(av 0=aT H.rb)∧(av 1= .slice ac hd.length ai)∧(av 2=ak n)∧(av 7=ak i)∧(av 8= .slice ar Z.length cr)) ?_ ?_
 refine aB fun ah=> ?_
 have A:(fun w'=>Wk ae.drew w') ae.drew.drew:=(Md.refl _ _).drew
 refine bN (fun w'=>Wk ae.drew w') aa wide A<|bI 0 aa (.slice ac hd.length ai) A<|aH 1 aa (fun _ _=>bJ eZ aa aa) A<|aH 2 aa (fun _ _=>bK aa aa) A<|aH 3 aa (fun _ _=>mv) A<|iK (t:=75) aa (fun co=> ?_) fun co=> ?_
 refine bm 4 aa (fun _ _=>mv) A<|bm 5 aa (fun _ _=>bJ eZ aa aa) A<|bm 6 aa (fun _ _=>lt aa aa) A<|bm 7 aa (fun _ _=>mv) A<|iK (t:=79) aa (fun cp=> ?_) fun cp=> ?_
 exact a8 8 aa A<|a8 9 aa A<|a8 10 aa A<|a8 11 aa A<|a8 12 aa A<|a8 13 aa A<|a8 14 aa A<|bm 15 aa (fun _ _=>bC aa) A<|aH 16 aa (fun _ _=>bC aa) A<|hn aj<|ah<|ct aa<|ag fun ax=>p aE<|nl<|ax<|rt<|tr<|br<|tr<|tr<|br<|tr<|aX aa<|fO.er (Ch U ab<|I2 ab<|.inl ab) az ((aK.wk I).wk A).dw<|al.trans A
 refine bm 8 aa (fun _ _=>mv) A<|bm 9 aa (fun _ _=>bc cR aa aa ab<|aO.ok ((aC.wk al).cV.2)<|bT ab) A<|bm 10 aa (fun w' C=>ld bV aa<|Wk.aR C<|cj.get (i:=1) (aC.wk al).cV.2 ab) A<|bm 11 aa (fun _ _=>aV (.slice ac hd.length ai) aa) A<|bm 12 aa (fun _ _=>bc cR aa aa ab<|aO.ok (aL _ al)<|bT ab) A<|bm 13 aa (fun w' C=>ld bV aa<|Wk.aR C<|cj.get (i:=1) (aL _ al) ab) A<|bm 14 aa (fun _ _=>oQ aa aa) A<|bm 15 aa (fun _ _=>bu aa) A<|aH 16 aa (fun _ _=>bC aa) A<|hn aj<|ah<|cd aa (fun a5=> ?_) fun a5=> ?_
 exact ag fun ax=>ay<|ax<|rt<|tr<|br<|tr<|tr<|br<|tr<|aX aa<|fO.er (Ch U ab<|I2 ab<|.inr a5) az ((aK.wk I).wk A).dw<|al.trans A
 exact aQ<|tn<|⟨(I3 ao aD.1 fun _=>⟨ab,jr.1 a5⟩),(I.trans A),aa,aa,aa,aa,aa⟩
 exact a8 4 aa A<|a8 5 aa A<|a8 6 aa A<|a8 7 aa A<|l8 8 aa aj aa aa aa A<|l8 9 aa aj aa aa aa A<|l8 10 aa aj aa aa aa A<|l8 11 aa aj aa aa aa A<|l8 12 aa aj aa aa aa A<|l8 13 aa aj aa aa aa A<|l8 14 aa aj aa aa aa A<|a8 15 aa A<|aH 16 aa (fun _ _=>bu aa) A<|hn aj<|ah<|cf aa<|aQ<|tn<|⟨(I3 ao aD.1 fun h=>absurd h ab),(I.trans A),aa,aa,aa,aa,aa⟩
 rintro av ba ⟨bs,aM,cB,cC,cD,cE,cF⟩
 refine fx 0 cB<|fx 1 cC<|fx 2 cD<|fx 7 cE<|fx 8 cF<|ag fun ah=>au (aT H.rb)<|au (.slice ar Z.length cr)<|e<|cl PS (Uk M H F' (k'+1) Y seen Z bD ar cr ba ⟨V,vh,b6.wk aM,aK.wk aM,nG.pH (aN ▸ aY),am.trans aM,ab⟩ (aC.wk<|am.trans aM) aD.1 aD.2.2 ab fun h1 h2=>by rw [bj]; exact cm (ao ▸ h1)<|ao ▸ h2) aa fun v91 bx b8=> ?_
 obtain ⟨cs,cg⟩:=b8
 obtain ⟨cK,rfl,bo⟩:∃ e:Nat,v91=ak e∧((e=0∧∃ an,jc F' Y Z= .ok an∧mq M bx H an (k'+1) Y seen)∨(e≠0∧jc F' Y Z= .error e∧Hb.aR bx.heap H.rb 5=some (ak Y))):=by
  rcases cs with ⟨an,h1,h2,h3⟩ | ⟨e,h1,h2,h3,h4⟩
  exact ⟨0,h2,.inl ⟨aa,an,h1,h3⟩⟩
  exact ⟨e,h3,.inr ⟨h2,h1,h4⟩⟩
 refine ay<|ah<|ag fun ax=>p mv<|p (cO aa aa)<|nl<|ax<|cd aa (fun ck=> ?_) fun ck=> ?_
 obtain ⟨cv,cq,cu⟩:=bo.resolve_left fun h=>by omega
 exact ag fun bP=>p mv<|ay<|bP<|rt<|br<|tr<|tr<|br<|tr<|aX aa<|fO.er (Ub U ab bs cq) cv cu cg
 obtain ⟨_,an,bk,b9⟩:=bo.resolve_right fun h=>by omega
 exact aQ<|bn<|aS<|rg aa<|au (ak i)<|p (ad aa aa<|bY ab)<|p aE<|nl<|tn<|⟨_,ab,i+1,an,k'+1,Y,ab,(by rw [show n - (i+1)=n - i - 1 by omega]; exact Ue U ab bs bk),b9,((Uj bk).1.trans bj),aa,aa,aa,aa,aa⟩
 refine ext<|bf<|bf<|be<|bQ<|ag fun aS=>p aE<|nl<|aS<|rt<|aX aa ?_
 rw [show n - i=0 by omega] at U
 exact ⟨.inl ⟨F',k',a9,Uc U,aa,ca⟩,bd⟩
theorem T0 (E:World) (H:gp) (F:aU) (k ln:Nat) (seen r:List Tx) (a9:Nat) (ar:Option Addr) (cr:Nat) (w:World) (b0:GS E H) (q:mq E w H F k ln seen) (bg:Tg E a9 9 r.length (.slice ar r.length cr) (r.map str)) (bt:∀ x∈r,x.length≤70000) (cL:F.dt.length+F.aliases.length+F.bA.length+F.rules.length+(H.rows.drop k).length < 70000) (bs:r.length=4) (a2:r.getD 0 []=fH∨r.getD 0 []=du):
 bp aw 179 (bh [aT H.rb,.slice ar r.length cr]) w (fO E H seen<|gO H.eof F (H.rows.drop k) ln r):=by
 have cK:=q
 obtain ⟨V,vh,ac,G,ai,Z,cm⟩:=q
 have C:∀ w,Wk E w→cj w.heap ar r:=fun w h=>(bg.wk h).cV.2
 have cW:=G.lo
 have cS:=ac.lo
 have cP:=ai.len
 have ce:=ai.sl
 have c0:=(dB.1 G.cells).1
 have co:r.getD 0 []≠fk:=by rcases a2 with h | h <;> rw [h] <;> decide
 have cp:r.getD 0 []≠eL:=by rcases a2 with h | h <;> rw [h] <;> decide
 have cY:(r.getD 1 []).length≤70000:=bt _<|dY ab
 have cZ:(r.getD 3 []).length≤70000:=bt _<|dY ab
 obtain ⟨a12,kA,cD⟩:=cE ac.dK
 have bj:Hb.aR w.heap H.fb 12=some (.slice a12 F.rules.length kA):=by rw [← cD]; exact (a7 ac.cells).trans rfl
 refine enter func179 aa ntmps179 aa<|ag fun bz=>ay<|bz<|ag fun bH=>au (aT H.rb)<|au (.slice ar r.length cr)<|p (bc cR aa aa ab<|aO.ok (C _ Z)<|bT ab)<|p (ld bV aa<|cj.get (i:=1) (C _ Z) ab)<|e<|cl FT (IG E.heap.size H F V k ln seen vh (r.getD 1 []) w ac G ai.kd ab ab) aa fun c6 cG b3=> ?_
 obtain ⟨⟨x,aP,rfl,bo⟩,hE14⟩:=b3
 have O:=Z.trans hE14
 refine p mv<|p (xt aa aa)<|p (xt aa aa)<|p aE<|ay<|bH<|aB fun bK=>ag fun bL=>p mv<|p (cO aa aa)<|nl<|bL<|cd aa (fun cg=> ?_) fun cg=> ?_
 have bn:gK F (r.getD 1 [])= .error aP∧aP≠0:=by
  rcases bo with ⟨_,_,h⟩ | h
  omega
  exact h
 exact ag fun U=>p mv<|ay<|U<|rt<|tr<|aX aa<|fO.er (A6 bn.1) bn.2 (G.wk hE14).dw O
 obtain ⟨aD,c1,_⟩:gK F (r.getD 1 [])= .ok x∧x≠0∧aP=0:=by
  rcases bo with h | ⟨_,h⟩
  exact h
  omega
 refine aQ<|bK ?_
 refine ep (fun aF a8=>(r.getD 2 []= [89]∨r.getD 2 []= [78])∧(a8=cG)∧(aF 0=aT H.rb)∧(aF 1= .slice ar r.length cr)∧(aF 5=bQ x)) ?_ ?_
 refine ag fun U=>au (.slice ar r.length cr)<|p (bc cR aa aa ab<|aO.ok (C _ O)<|bT ab)<|p (ld bV aa<|cj.get (i:=2) (C _ O) ab)<|p (oQ aa aa)<|p mv<|gs (t:=24) aa (fun a1=> ?_) fun a1=> ?_
 refine aM aa (aV (.slice ar r.length cr) aa)<|aM aa (bc cR aa aa ab<|aO.ok (C _ O)<|bT ab)<|aM aa (ld bV aa<|cj.get (i:=2) (C _ O) ab)<|aM aa (oQ aa aa)<|p (bC aa)<|nl<|U<|cd aa (fun aZ=> ?_) fun aZ=> ?_
 exact ag fun aL=>ay<|aL<|rt<|tr<|aX aa<|fO.er (A7 aD a1 aZ) az (G.wk hE14).dw O
 exact aQ<|tn<|⟨(.inr<|jr.1 aZ),aa,aa,aa,aa⟩
 exact aI aa<|aI aa<|aI aa<|aI aa<|p (bu aa)<|nl<|U<|cf aa<|aQ<|tn<|⟨(.inl<|jr.1 a1),aa,aa,aa,aa⟩
 rintro aF a8 ⟨a4,cF,cv,cw,cx⟩
 refine fx 0 cv<|fx 1 cw<|fx 5 cx ?_
 subst cF
 have aY:=O
 refine ag fun U=>au (.slice ar r.length cr)<|p (bc cR aa aa ab<|aO.ok (C _ aY)<|bT ab)<|p (ld bV aa<|cj.get (i:=3) (C _ aY) ab)<|e<|cl rC (rX (r.getD 3 []) 1024 a8 ab ab) aa fun c7 ae b7=> ?_
 obtain ⟨rfl,bb⟩:=b7
 have aA:=aY.trans bb
 have I:=hE14.trans bb
 have ct:=qN (r.getD 3 []) 1024
 refine p mv<|p (xt aa aa)<|p (xt aa aa)<|p aE<|ay<|U<|aB fun aL=>ag fun bO=>p mv<|p (cO aa aa)<|nl<|bO<|cd aa (fun ch=> ?_) fun ch=> ?_
 refine ag fun aN=>p mv<|ay<|aN<|rt<|tr<|aX aa ?_
 have ba:=pQ (s:=r.getD 3 []) (most:=1024) ab
 show fO E H seen _ (.int .i64 (ee (r.getD 3 []) 1024).2) ae
 rw [ba.2]
 exact fO.er (GB aD a4 ba.1) az (G.wk I).dw aA
 have a3:=n8 (by omega :(ee (r.getD 3 []) 1024).2=0)
 have cs:=ct ab
 obtain ⟨n,aC⟩:∃ n,n=(ee (r.getD 3 []) 1024).1:=⟨_,rfl⟩
 rw [← aC] at a3 cs
 refine aQ<|aL<|aB fun aN=>ag fun bR=>au (aT H.rb)<|p (nc aa)<|p (fa lO aa)<|p (ld ib aa<|(a7 (G.wk I).cells).trans aa)<|p (nc aa)<|p (fa jN aa)<|p (ld ka aa<|Wk.aR I bj)<|p (bJ tM aa aa)<|p mv<|p (bF ((F.rules.length+(ee (r.getD 3 []) 1024).1:Nat):Int) aa aa<|bl ab ab)<|p (gt aa aa)<|nl<|bR<|cd aa (fun ci=> ?_) fun ci=> ?_
 exact ag fun aG=>ay<|aG<|rt<|tr<|aX aa<|fO.er (GC aD a4 a3 ab) az (G.wk I).dw aA
 refine aQ<|aN<|aB fun aG=> ?_
 have a:(fun w'=>Wk ae w') ae.drew:=(Md.refl _ _).drew
 refine bN (fun w'=>Wk ae w') aa wide a<|bI 0 aa (bQ x) a<|bI 1 aa (.slice ar r.length cr) a<|aH 2 aa (fun _ _=>bc cR aa aa ab<|aO.ok (C _ aA)<|bT ab) a<|aH 3 aa (fun w' q=>ld bV aa<|Wk.aR q<|cj.get (i:=2) (C _ aA) ab) a<|aH 4 aa (fun _ _=>dZ aa aa) a<|bI 5 aa (aT H.rb) a<|aH 6 aa (fun _ _=>nc aa) a<|aH 7 aa (fun _ _=>fa lO aa) a<|aH 8 aa (fun w' q=>ld ib aa<|Wk.aR q<|(a7 (G.wk I).cells).trans aa) a<|aH 9 aa (fun _ _=>nc aa) a<|aH 10 aa (fun _ _=>fa jN aa) a<|aH 11 aa (fun w' q=>ld ka aa<|Wk.aR q<|Wk.aR I bj) a<|aH 12 aa (fun _ _=>bJ tM aa aa) a<|aH 13 aa (fun _ _=>mv) a<|aH 14 aa (fun _ _=>c8 (ps:= [(0,bQ x),(1,ak 2),(2,.bool (decide (r.getD 2 []= [89]))),(3,ak (F.rules.length)),(4,ak ((ee (r.getD 3 []) 1024).1))]) (L:= [bQ x,ak 2,.bool (decide (r.getD 2 []= [89])),ak (F.rules.length),ak ((ee (r.getD 3 []) 1024).1)]) LB aa<|aa) a ?_
 refine he 15 aa aj<|fg sc fun Y cH cM av bW=> ?_
 have c3:=av.size
 have c2:=a.size
 have b9:(fun w'=>Wk ae w') cH:=a.trans av.md
 refine ⟨b9,?_⟩
 refine he 16 aa aj<|gj qq aa aa aa aa bW az fun a5 bd bS=> ?_
 have ao:Wk w a5:=(I.trans<|a.trans av.md).trans' bd fun k hk h=>by have :=I.size; omega
 have bm:a5.heap[Y]? =some (.cells [bQ x,ak 2,.bool (decide (r.getD 2 []= [89])),ak (F.rules.length),ak n].toArray 242 (0,0)):=by rw [aC]; exact bS
 have bi:w.heap.size≤Y:=by have :=I.size; omega
 have ca:(fun w'=>Wk ae w') a5:=(a.trans av.md).trans' bd fun k hk h=>by omega
 refine ⟨ca,?_⟩
 refine hn aj<|aG ?_
 refine ep (fun ah J=>(J.heap[Y]? =some (.cells [bQ x,.int .i64 ((if r.getD 0 []=du then 2 else 1:Nat):Nat),.bool (decide (r.getD 2 []= [89])),ak (F.rules.length),ak n].toArray 242 (0,0)))∧(Wk w J)∧(w.heap.size≤Y)∧(ah 0=aT H.rb)∧(ah 1= .slice ar r.length cr)∧(ah 5=bQ x)∧(ah 7=ak n)∧(ah 8=aT Y)) ?_ ?_
 refine ag fun aK=>au (.slice ar r.length cr)<|p (bc cR aa aa ab<|aO.ok (C _<|Z.trans ao)<|bT ab)<|p (ld bV aa<|cj.get (i:=0) (C _<|Z.trans ao) ab)<|p (dZ aa aa)<|nl<|aK<|cd aa (fun a0=> ?_) fun a0=> ?_
 exact rg aa<|p (fa yg aa)<|e<|cT gr aa aa (v:=ak 1) aa bm (by show _ < 5; omega) fun da b1 bU=>nl<|tn<|⟨(by rw [if_neg (show ¬r.getD 0 []=du from fun h=>by have h2:r.getD 0 []=fH:=a0; rw [h2] at h; exact absurd h az)]; exact bU),(ao.trans' b1 fun k hk h=>by omega),bi,aa,aa,aa,(by rw [aC]; rfl),aa⟩
 exact aQ<|tn<|⟨(by rw [if_pos (a2.resolve_left a0)]; exact bm),ao,bi,aa,aa,aa,(by rw [aC]; rfl),aa⟩
 rintro ah J ⟨ck,aq,cX,cy,cz,cA,cB,cC⟩
 refine fx 0 cy<|fx 1 cz<|fx 5 cA<|fx 7 cB<|fx 8 cC ?_
 have am:=ac.wk aq
 have ax:=G.wk aq
 have bq:¬(V.v11.ownBlock=some H.rb):=dI am.ez ax.cells az
 have cq:¬(V.v11.ownBlock=some H.fb):=dI am.ez am.cells az
 have cn:¬(V.v11.ownBlock=some Y):=fun h=>by have :=(dS ac.ez h).2; omega
 refine aB fun aK=> ?_
 have A:(fun w'=>Md (fun k=>V.v11.ownBlock=some k) J w') J.drew:=(Md.refl _ _).drew
 refine eR (fun w'=>Md (fun k=>V.v11.ownBlock=some k) J w') 16 aa wide A<|bE 0 aa (aT H.rb) A<|bB 1 aa (fun _=>nc aa) (fun _=>A)<|bB 2 aa (fun _=>fa lO aa) (fun _=>A)<|dP 3 aa (fun w' q=>ld ib aa<|Md.aR q ((a7 ax.cells).trans aa) bq) A<|bE 4 aa (aT H.rb) A<|bB 5 aa (fun _=>nc aa) (fun _=>A)<|bB 6 aa (fun _=>fa lO aa) (fun _=>A)<|dP 7 aa (fun w' q=>ld ib aa<|Md.aR q ((a7 ax.cells).trans aa) bq) A<|bB 8 aa (fun _=>nc aa) (fun _=>A)<|bB 9 aa (fun _=>fa pJ aa) (fun _=>A)<|dP 10 aa (fun w' q=>ld qh aa<|Md.aR q ((a7 am.cells).trans aa) cq) A<|dP 11 aa (fun w' q=>di sL aa (aa) fun j cU=>bP.bG ⟨_,Md.aJ q ck cn⟩ j) A<|gE 12 aa aj<|kQ Lp aa aa aa fun cJ cI cN b2 bX=> ?_
 have al:=im b2.md
 have M:=am.wk al
 have b4:=ax.wk al
 have c4:=(aq.trans al).size
 have bf:(fun w'=>Md (fun k=>V.v11.ownBlock=some k) J w') cI:=Md.mono al fun _ _ h=>h.elim
 refine ⟨bf,?_⟩
 refine gE 13 aa aj<|ap Lp (M.ez) aa ab aa (aO.ec bX) (aa) (aa) ab ab fun bv a6 br an c5 cQ=> ?_
 have b5:=b4.own M.ez an az
 have bk:=an.aJ M.cells<|dI M.ez M.cells az
 have cu:bw a6 E.heap.size 242 5 bv (F.bA++ [(⟨x,(if r.getD 0 []=du then 2 else 1:Nat),(decide (r.getD 2 []= [89])),F.rules.length,n⟩:dm)]).length (qD<|F.bA++ [(⟨x,(if r.getD 0 []=du then 2 else 1:Nat),(decide (r.getD 2 []= [89])),F.rules.length,n⟩:dm)]):=by rw [show qD (F.bA++ [(⟨x,(if r.getD 0 []=du then 2 else 1:Nat),(decide (r.getD 2 []= [89])),F.rules.length,n⟩:dm)])=qD F.bA++nj (⟨x,(if r.getD 0 []=du then 2 else 1:Nat),(decide (r.getD 2 []= [89])),F.rules.length,n⟩:dm) from by simp [qD],bM]; exact br
 have cb:Wk E a6:=(Z.trans<|aq.trans al).trans' an fun k hk h=>by have :=(dS M.ez h).1; omega
 have aW:(fun w'=>Md (fun k=>V.v11.ownBlock=some k) J w') a6:=bf.trans' an fun _ _ h=>h
 refine ⟨aW,?_⟩
 refine bB 14 aa (fun _=>nc aa) (fun _=>aW)<|bB 15 aa (fun _=>fa pJ aa) (fun _=>aW)<|dO 16 aa aj aj<|cT Sg aa aa (v:=bv) (eS br) bk (by show _ < 13; omega) fun bx aS bY=> ?_
 have bZ:=eI.Aj (x:=(⟨x,(if r.getD 0 []=du then 2 else 1:Nat),(decide (r.getD 2 []= [89])),F.rules.length,n⟩:dm)) M an cu aS bY
 have b6:=b5.oH bk aS
 have cc:Wk E bx:=cb.trans' aS fun k hk h=>by omega
 refine eQ aj<|aK<|ag fun bD=>au (aT H.rb)<|au (.slice ar r.length cr)<|au (ak n)<|e<|cl AB (Ci E H {F with bA:=F.bA++ [(⟨x,(if r.getD 0 []=du then 2 else 1:Nat),(decide (r.getD 2 []= [89])),F.rules.length,n⟩:dm)]} k ln seen r a9 ar cr n bx b0 ⟨_,vh,bZ,b6,⟨by simp only [bM,e9]; omega,ce,ai.row,ai.kd⟩,cc,cm⟩ bg (.inr bs) ab fun _ _=>by simp only [bM,e9]; omega) aa fun c9 db b8=>p aE ?_
 exact nl<|bD<|rt<|aX aa<|fO.eq b8<|Q9 bs co cp aD a4 a3 ab
theorem Ui (C:World) (H:gp) (F:aU) (k ln:Nat) (seen r:List Tx) (aA:Nat) (ar:Option Addr) (cr:Nat) (w:World) (a3:GS C H) (av:mq C w H F k ln seen) (aK:Tg C aA 9 r.length (.slice ar r.length cr) (r.map str)) (bo:∀ x∈r,x.length≤70000) (ce:F.dt.length+F.aliases.length+F.bA.length+F.rules.length+(H.rows.drop k).length < 70000) (hw:r.length=width (r.getD 0 [])) (co:width (r.getD 0 [])≠0):
 bp aw 116 (bh [aT H.rb,.slice ar r.length cr]) w (fO C H seen<|cw H.eof F seen (H.rows.drop k) ln r):=by
 have bw:=av
 obtain ⟨V,vh,A,q,E,a,ax⟩:=av
 have G:∀ w,Wk C w→cj w.heap ar r:=fun w h=>(aK.wk h).cV.2
 have cH:=q.lo
 have cG:=A.lo
 have cF:=E.len
 have aV:=E.sl
 have cI:=(dB.1 q.cells).1
 have cJ:0 < r.length:=ab
 have J:2≤r.length→(r.getD 1 []).length≤70000:=fun h=>bo _<|dY ab
 refine enter func116 aa ntmps116 aa<|ag fun bJ=>ay<|bJ<|ag fun bM=>au (.slice ar r.length cr)<|p (bc cR aa aa ab<|aO.ok (G _ a)<|bT ab)<|p (ld bV aa<|cj.get (i:=0) (G _ a) ab)<|ay<|bM<|ag fun bO=>p mv<|e<|cl AA (Cn (r.getD 0 []) w) aa fun v24 ai b4=> ?_
 obtain ⟨rfl,cs⟩:=b4
 subst cs
 refine ay<|bO<|aB fun bP=>ag fun bR=>p mv<|p (ge aa aa)<|nl<|bR<|cd aa (fun bb=> ?_) fun bb=> ?_
 have ae:=tG.1 bb
 have U:r.length=2:=by rw [hw,Mp ae]
 have J:=J ab
 refine ag fun aZ=>au (aT H.rb)<|au (.slice ar r.length cr)<|p (bc cR aa aa ab<|aO.ok (G _ a)<|bT ab)<|p (ld bV aa<|cj.get (i:=1) (G _ a) ab)<|e<|cl FT (IG C.heap.size H F V k ln seen vh (r.getD 1 []) ai A q E.kd ab ab) aa fun cS c1 b5=> ?_
 obtain ⟨⟨x,cE,rfl,ci⟩,hE32⟩:=b5
 have ca:=a.trans hE32
 refine p mv<|p (xt aa aa)<|p (xt aa aa)<|p aE<|ay<|aZ<|aB fun a0=>rg aa<|au (aT H.rb)<|p (nc aa)<|p (fa lO aa)<|p (ld ib aa<|(a7 (q.wk hE32).cells).trans aa)<|p mv<|p mv<|p (nc aa)<|p (fa tj aa)<|p (kg sQ aa aa<|by rw [DC ae]; have :=DD ae; omega)<|e<|cT gr aa aa (v:=bQ x) aa (A.wk hE32).cells (by show 0 +3 +(pU<|r.getD 0 []).toNat*1 < 13; rw [DC ae]; have :=DD ae; omega) fun bI a4 bS=> ?_
 have cn:=Un (F:=F) (V:=V) (x:=x) (o:=0 +3 +(pU<|r.getD 0 []).toNat*1) A.fR (DD ae)<|by rw [DC ae]; omega
 have bU:bI.heap[H.fb]? =some (.cells (nV {F with sp:=F.sp.set (eh.idxOf<|r.getD 0 []) x} V).toArray 181 (0,0)):=by rw [← cn]; exact bS
 have bW:=(A.wk hE32).put (F':= {F with sp:=F.sp.set (eh.idxOf<|r.getD 0 []) x}) a4 bU rfl rfl rfl rfl (by show (F.sp.set _ _).length=5; rw [List.length_set]; exact A.fR)
 have bv:=(q.wk hE32).fb (A.wk hE32) a4
 have a5:Wk C bI:=ca.trans' a4 fun k hk h=>by omega
 refine nl<|a0<|ag fun a1=>p mv<|ay<|a1<|rt<|tr<|aX aa ?_
 rcases ci with ⟨bq,_,rfl⟩ | ⟨bq,ck⟩
 exact ⟨.inl ⟨_,k,ln,(IT ae).trans (Lv bq),aa,⟨V,vh,bW,bv,⟨E.len,aV,E.row,E.kd⟩,a5,ax⟩⟩,a5⟩
 exact fO.er ((IT ae).trans<|Lu bq) ck bv.dw a5
 have cu:r.getD 0 []∉eh:=fun h=>bb<|tG.2 h
 refine aQ<|bP<|aB fun aZ=>ag fun a0=>p mv<|nl<|a0<|aJ<|ag fun a1=>p (dZ aa aa)<|ay<|a1<|cd aa (fun bd=> ?_) fun bd=> ?_
 have h1:r.getD 0 []=ij:=bd
 have U:r.length=2:=by rw [hw,h1]; rfl
 have J:=J ab
 exact ag fun a2=>au (aT H.rb)<|au (.slice ar r.length cr)<|e<|cl Py (Ul C H F k ln seen r aA ar cr ai bw (aK.wk a) U bo) aa fun cU c2 b6=>ay<|a2<|rt<|br<|tr<|aX aa<|fO.eq b6<|Uu h1
 have cv:¬r.getD 0 []=ij:=bd
 refine ag fun a2=>p (dZ aa aa)<|ay<|a2<|cd aa (fun bf=> ?_) fun bf=> ?_
 have h2:r.getD 0 []=iL:=bf
 have U:r.length=2:=by rw [hw,h2]; rfl
 have J:=J ab
 refine ag fun aW=>au (.slice ar r.length cr)<|p (bc cR aa aa ab<|aO.ok (G _ a)<|bT ab)<|p (ld bV aa<|cj.get (i:=1) (G _ a) ab)<|e<|cl uJ (vE (r.getD 1 []) ai ab) aa fun cW bs b7=> ?_
 obtain ⟨rfl,ao⟩:=b7
 have aS:=a.trans ao
 refine ay<|aW<|aB fun aC=>ag fun al=>p mv<|p (no aa)<|nl<|al<|cb aa (fun bg=> ?_) fun bg=> ?_
 exact ag fun M=>ay<|M<|rt<|tr<|br<|tr<|aX aa<|fO.er ((IS h2).trans<|Lg<|by simpa using bg) az (q.wk ao).dw aS
 refine aQ<|aC<|aB fun M=> ?_
 have I:(fun w'=>Wk bs w') bs.drew:=(Md.refl _ _).drew
 refine eR (fun w'=>Wk bs w') 9 aa wide I<|bE 0 aa (aT H.rb) I<|bB 1 aa (fun _=>nc aa) (fun _=>I)<|bB 2 aa (fun _=>fa lO aa) (fun _=>I)<|dP 3 aa (fun w' av=>ld ib aa<|Wk.aR av<|(a7 (q.wk ao).cells).trans aa) I<|bE 4 aa (.slice ar r.length cr) I<|bB 5 aa (fun _=>bc cR aa aa ab<|aO.ok (G _ aS)<|bT ab) (fun _=>I)<|dP 6 aa (fun w' av=>ld bV aa<|Wk.aR av<|cj.get (i:=1) (G _ aS) ab) I<|bB 7 aa (fun _=>nc aa) (fun _=>I)<|bB 8 aa (fun _=>fa TM aa) (fun _=>I)<|dO 9 aa aj aj<|cT kS aa aa (v:=str<|r.getD 1 []) aa ((A.wk ao).wk I).cells (by show _ < 13; omega) fun aL O aG=> ?_
 have aH:=((A.wk ao).wk I).put (F':= {F with rE:=r.getD 1 []}) O aG rfl rfl rfl rfl A.fR
 have aq:=((q.wk ao).wk I).fb ((A.wk ao).wk I) O
 have ac:Wk C aL:=(aS.trans I).trans' O fun k hk h=>by omega
 refine eQ aj<|M<|ag fun Y=>ay<|Y<|rt<|br ?_
 exact tr<|aX aa<|⟨.inl ⟨_,k,ln,(IS h2).trans (Lh<|by simpa using bg),aa,⟨V,vh,aH,aq,⟨E.len,aV,E.row,E.kd⟩,ac,ax⟩⟩,ac⟩
 have cx:¬r.getD 0 []=iL:=bf
 refine ag fun aW=>p (dZ aa aa)<|ay<|aW<|cd aa (fun bi=> ?_) fun bi=> ?_
 have h3:r.getD 0 []=iU:=bi
 have U:r.length=2:=by rw [hw,h3]; rfl
 have J:=J ab
 refine ag fun aC=>au (.slice ar r.length cr)<|p (bc cR aa aa ab<|aO.ok (G _ a)<|bT ab)<|p (ld bV aa<|cj.get (i:=1) (G _ a) ab)<|e<|cl Pz (XA (r.getD 1 []) ai ab) aa fun cX c3 b8=> ?_
 obtain ⟨rfl,ap⟩:=b8
 have cc:=a.trans ap
 refine p mv<|p (xt aa aa)<|p (xt aa aa)<|p aE<|ay<|aC<|aB fun al=>rg aa<|au (aT H.rb)<|p (nc aa)<|p (fa lO aa)<|p (ld ib aa<|(a7 (q.wk ap).cells).trans aa)<|p mv<|p (nc aa)<|p (fa TN aa)<|e<|cT kS aa aa (v:=str (letE<|r.getD 1 []).1) aa (A.wk ap).cells (by show _ < 13; omega) fun aL O aG=> ?_
 have aH:=(A.wk ap).put (F':= {F with tr:=(letE<|r.getD 1 []).1}) O aG rfl rfl rfl rfl A.fR
 have aq:=(q.wk ap).fb (A.wk ap) O
 have ac:Wk C aL:=cc.trans' O fun k hk h=>by omega
 refine nl<|al<|ag fun M=>p mv<|ay<|M<|rt<|br<|tr<|aX aa ?_
 by_cases h:(letE<|r.getD 1 []).2=0
 exact ⟨.inl ⟨_,k,ln,(IU h3).trans (LY h),by rw [h]; rfl,⟨V,vh,aH,aq,⟨E.len,aV,E.row,E.kd⟩,ac,ax⟩⟩,ac⟩
 exact fO.er ((IU h3).trans<|LX h) h aq.dw ac
 have cy:¬r.getD 0 []=iU:=bi
 refine ag fun aC=>p (dZ aa aa)<|ay<|aC<|cd aa (fun bj=> ?_) fun bj=> ?_
 have h4:r.getD 0 []=kh:=bj
 have U:r.length=2:=by rw [hw,h4]; rfl
 have J:=J ab
 refine ag fun al=>au (.slice ar r.length cr)<|p (bc cR aa aa ab<|aO.ok (G _ a)<|bT ab)<|p (ld bV aa<|cj.get (i:=1) (G _ a) ab)<|e<|cl rC (rX (r.getD 1 []) 64 ai ab ab) aa fun v91 c4 b9=> ?_
 obtain ⟨rfl,ah⟩:=b9
 have a6:=a.trans ah
 refine p mv<|p (xt aa aa)<|p (xt aa aa)<|p aE<|ay<|al<|aB fun M=>ag fun Y=>p mv<|p (cO aa aa)<|p mv<|gs (t:=96) aa (fun bD=> ?_) fun bD=> ?_
 exact aI aa<|aI aa<|p (bC aa)<|nl<|Y<|ct aa<|ag fun Z=>ay<|Z<|rt<|tr<|br<|tr<|aX aa<|fO.er ((Cp h4).trans<|JR (pQ bD).1) az (q.wk ah).dw a6
 refine aM aa mv<|aM aa (bK aa aa)<|p (bu aa)<|nl<|Y<|cd aa (fun ch=> ?_) fun ch=> ?_
 exact ag fun Z=>ay<|Z<|rt<|tr<|br<|tr<|aX aa<|fO.er ((Cp h4).trans<|JS (n8 ab) ab) az (q.wk ah).dw a6
 refine aQ<|M<|ag fun Z=>au (aT H.rb)<|p (nc aa)<|p (fa lO aa)<|p (ld ib aa<|(a7 (q.wk ah).cells).trans aa)<|p mv<|p (nc aa)<|p (fa TO aa)<|e<|cT gr aa aa (v:=ak<|(ee (r.getD 1 []) 64).1) aa (A.wk ah).cells (by show _ < 13; omega) fun aL O aG=> ?_
 have aH:=(A.wk ah).put (F':= {F with least:=(ee (r.getD 1 []) 64).1}) O aG rfl rfl rfl rfl A.fR
 have aq:=(q.wk ah).fb (A.wk ah) O
 have ac:Wk C aL:=a6.trans' O fun k hk h=>by omega
 exact nl<|Z<|ag fun am=>ay<|am<|rt<|br<|tr<|aX aa<|⟨.inl ⟨_,k,ln,(Cp h4).trans (JT (n8 ab) ab),aa,⟨V,vh,aH,aq,⟨E.len,aV,E.row,E.kd⟩,ac,ax⟩⟩,ac⟩
 have cz:¬r.getD 0 []=kh:=bj
 refine ag fun al=>p (dZ aa aa)<|ay<|al<|cd aa (fun a8=> ?_) fun a8=> ?_
 have h5:r.getD 0 []=fk:=a8
 have U:r.length=2:=by rw [hw,h5]; rfl
 have J:=J ab
 refine ag fun M=>au (.slice ar r.length cr)<|p (bc cR aa aa ab<|aO.ok (G _ a)<|bT ab)<|p (ld bV aa<|cj.get (i:=1) (G _ a) ab)<|e<|cl rC (rX (r.getD 1 []) 256 ai ab ab) aa fun cK bG bX=> ?_
 obtain ⟨rfl,aN⟩:=bX
 have bx:=a.trans aN
 have bl:=qN (r.getD 1 []) 256
 refine p mv<|p (xt aa aa)<|p (xt aa aa)<|p aE<|ay<|M<|aB fun Y=>ag fun Z=>p mv<|p (cO aa aa)<|nl<|Z<|cd aa (fun cf=> ?_) fun cf=> ?_
 refine ag fun am=>p mv<|ay<|am<|rt<|tr<|br<|tr<|aX aa ?_
 have aF:=pQ (s:=r.getD 1 []) (most:=256) ab
 show fO C H seen _ (.int .i64 (ee (r.getD 1 []) 256).2) bG
 rw [aF.2]
 exact fO.er ((IQ h5).trans<|KQ aF.1) az (q.wk aN).dw bx
 exact aQ<|Y<|ag fun am=>au (aT H.rb)<|au (.slice ar r.length cr)<|p mv<|e<|cl AB (Ci C H F k ln seen r aA ar cr (ee (r.getD 1 []) 256).1 bG a3 ⟨V,vh,A.wk aN,q.wk aN,E,bx,ax⟩ aK (.inl U) (by have :=bl ab; omega) fun h _=>absurd h5 h) aa fun cL cY bY=>ay<|am<|rt<|br<|tr<|aX aa<|fO.eq bY<|(IQ h5).trans<|Xp U h5<|n8 ab
 have cA:¬r.getD 0 []=fk:=a8
 refine ag fun M=>p (dZ aa aa)<|ay<|M<|cd aa (fun a9=> ?_) fun a9=> ?_
 have an:r.getD 0 []=eL:=a9
 have U:r.length=2:=by rw [hw,an]; rfl
 have J:=J ab
 refine ag fun Y=>au (aT H.rb)<|e<|cl Au (Co C.heap.size H k ln seen vh fH ai q ab) aa fun cM cC bZ=> ?_
 obtain ⟨rfl,cp⟩:=bZ
 subst cp
 refine ay<|Y<|ag fun Z=>au (aT H.rb)<|e<|cl Au (Co C.heap.size H k ln seen vh du cC q ab) aa fun cN cD b0=> ?_
 obtain ⟨rfl,cq⟩:=b0
 subst cq
 refine ay<|Z<|aB fun am=>ag fun bt=>p mv<|p mv<|gb (t:=130) aa (fun bk=> ?_) fun bk=> ?_
 exact aI aa<|p (bC aa)<|nl<|bt<|ct aa<|ag fun aD=>p aE<|nl<|aD<|rt<|tr<|br<|tr<|aX aa<|fO.er ((yy an).trans<|Ag<|.inl<|of_decide_eq_true bk) az q.dw a
 refine aM aa mv<|p (bu aa)<|nl<|bt<|cb aa (fun ba=> ?_) fun ba=> ?_
 exact ag fun aD=>ay<|aD<|rt<|tr<|br<|tr<|aX aa<|fO.er ((yy an).trans<|Ag<|.inr<|of_decide_eq_true ba) az q.dw a
 have bF:¬(fH∈seen∨du∈seen):=fun h=>h.elim (of_decide_eq_false bk)<|of_decide_eq_false ba
 refine aQ<|am<|ag fun aD=>au (.slice ar r.length cr)<|p (bc cR aa aa ab<|aO.ok (G _ a)<|bT ab)<|p (ld bV aa<|cj.get (i:=1) (G _ a) ab)<|e<|cl rC (rX (r.getD 1 []) 1024 cD ab ab) aa fun cP bH b1=> ?_
 obtain ⟨rfl,aP⟩:=b1
 have bz:=a.trans aP
 have bl:=qN (r.getD 1 []) 1024
 refine p mv<|p (xt aa aa)<|p (xt aa aa)<|p aE<|ay<|aD<|aB fun bL=>ag fun bN=>p mv<|p (cO aa aa)<|nl<|bN<|cd aa (fun cg=> ?_) fun cg=> ?_
 refine ag fun aY=>p mv<|ay<|aY<|rt<|tr<|br<|tr<|aX aa ?_
 have aF:=pQ (s:=r.getD 1 []) (most:=1024) ab
 show fO C H seen _ (.int .i64 (ee (r.getD 1 []) 1024).2) bH
 rw [aF.2]
 exact fO.er ((yy an).trans<|Fb bF aF.1) az (q.wk aP).dw bz
 exact aQ<|bL<|ag fun aY=>au (aT H.rb)<|au (.slice ar r.length cr)<|p mv<|e<|cl AB (Ci C H F k ln seen r aA ar cr (ee (r.getD 1 []) 1024).1 bH a3 ⟨V,vh,A.wk aP,q.wk aP,E,bz,ax⟩ aK (.inl U) (by have :=bl ab; omega) fun _ h=>absurd an h) aa fun v146 cZ b2=>ay<|aY<|rt<|br<|tr<|aX aa<|fO.eq b2<|(yy an).trans<|Ow U an bF<|n8 ab
 have cB:¬r.getD 0 []=eL:=a9
 have bm:=WZ co cu cv cx cy cz cA cB
 have cm:r.length=4:=by rw [hw,Mq bm]
 exact aQ<|bn<|aZ<|ag fun Y=>au (aT H.rb)<|au (.slice ar r.length cr)<|e<|cl PA (T0 C H F k ln seen r aA ar cr ai a3 bw aK bo ce cm bm) aa fun cQ c0 b3=>ay<|Y<|rt<|aX aa<|fO.eq b3<|Ut bm
end Go.Hb.EP
end
section
namespace Go.Hb.lg
open Go.Hb.z1 Go.Hb.EP Go.Hb.nE
theorem Tg.blt {w:World} {B e n cp:Nat} {a:Option Addr} {xs:List Value} (h:Tg w B e n (.slice a n cp) xs) (C:xs≠[]):bk a < w.heap.size:=by
 obtain ⟨E,I,A,_,q⟩:=h
 cases A
 rcases q with rfl | ⟨G,cur,z2,rfl,_,i,_⟩
 · exact absurd aa C
 · exact (dB.1 i).1
def Oe (w':World) (B:Nat) (F:aU) (v:Value):Prop := ∃ B1 fb V,B≤B1∧v= .tuple #[.pointer (some ⟨fb,0,none⟩),.int .i64 0,.int .i64 0]∧eI w' B1 0 fb F V∧(∃ seen,nG F [] seen)∧Nx F
def Od (e:Nat×Nat) (v:Value):Prop :=v= .tuple #[.pointer none,.int .i64 (e.1:Nat),.int .i64 (e.2:Nat)]
theorem nW {l:List (dp×Value)} {i:Nat} {q:dp×Value} (h:l[i]? =some q):mC l≠[]:=fun h2=>by
 have h3:(mC l).length=l.length*8:=nT (f:=jx) (m:=8) (fun _=>rfl) _
 have h4:=(fS.1 h).1
 rw [h2] at h3
 have h5:0=l.length*8:=h3
 omega
def lX (s:Tx) (w:World) (v:Value) (w':World):Prop :=(match fy s with | .ok F=>Oe w' w.heap.size F v | .error e=>Od e v)∧Wk w w'
theorem lX.no {s:Tx} {w w':World} {l e:Nat} (h:fy s= .error (l,e)) (hm:Wk w w'):lX s w (.tuple #[.pointer none,.int .i64 (l:Nat),.int .i64 (e:Nat)]) w':=by
 unfold lX; rw [h]; exact ⟨rfl,hm⟩
theorem Xd (s:Tx) (w:World) (hs:s.length≤1048576):
 bp aw 72 (bh [str s]) w (lX s w):=by
 refine enter func72 aa ntmps72 aa<|ag fun dg=>p aE<|p aE<|ay<|dg<|aB fun dh=>rg aa<|au (str s)<|e<|cl FH (KX s _ hs) aa fun v20 e1 dZ=> ?_
 obtain ⟨⟨a20,rfl,cQ⟩,hE20⟩:=dZ
 refine p mv<|p (xt aa aa)<|p (xt aa aa)<|p aE<|ay<|dh<|aB fun di=>ag fun dk=>p mv<|p (cO aa aa)<|nl<|dk<|cd aa (fun cm=> ?_) fun cm=> ?_
 have cM:65536 < s.length:=MS fun h=>cm<|by rw [if_neg h]
 refine ag fun b4=>p mv<|p aE<|p aE<|ay<|b4<|rt<|tr<|f3 aa aa aa aa ?_
 have h:=lX.no (E0 cM) hE20
 show lX s w (.tuple #[.pointer none,.int .i64 0,.int .i64 (if 65536 < s.length then 10 else 0)]) e1
 rw [if_pos cM]
 exact h
 have av:¬65536 < s.length:=fun h=>cm<|by rw [if_pos h]; decide
 rw [if_neg av] at cQ
 obtain ⟨vs,c2,eD⟩:=cQ
 obtain ⟨ar,cr,rfl⟩:=cE c2
 refine aQ<|di<|ag fun b4=>au (str s)<|e<|cl As (Dl s _ hs) aa fun ft G d1=> ?_
 obtain ⟨eB,b6⟩:=d1
 obtain ⟨fs,e5,rfl⟩:=cE eB
 have am:=hE20.trans b6
 have ff:=nY s
 have fi:=yV s
 refine ay<|b4<|ag fun dl=>p (c8 (ps:= [(0,.int .i64 1),(4,.int .i64 3)]) (L:= [.int .i64 1,.string ⟨⟨[]⟩⟩,.string ⟨⟨[]⟩⟩,.int .i64 0,.int .i64 0,.int .i64 0,.int .i64 0,.int .i64 0,.int .i64 3,.slice none 0 0,.slice none 0 0,.slice none 0 0,.slice none 0 0]) Yy aa<|aa)<|e<|oE aa fun A fD fb cG dy=> ?_
 have fo:=cG.size
 refine p mv<|p mv<|p (bJ eZ aa aa)<|p (bF (((bL s).length+1:Nat):Int) aa aa<|bl ab ab)<|p (c8 (ps:= [(0,aT A),(1,.slice ar (bR s).length cr),(3,ak ((bL s).length+1))]) (L:= [aT A,.slice ar (bR s).length cr,.int .i64 0,ak ((bL s).length+1),.slice none 0 0,.int .i64 0]) YD aa<|aa)<|e<|oE aa fun a bG fc cc dB=> ?_
 have fq:=cc.size
 have dG:Wk G bG:=cG.md.trans cc.md
 have cC:GS G (⟨a,A,(bL s).length+1,.slice ar (bR s).length cr,vs,bR s⟩:gp):=⟨w.heap.size,(Tg.jP c2).wk b6,eD.wk b6,by show (bR s).length≤70000; omega⟩
 have dH:eI bG G.heap.size 0 A hZ ⟨.slice none 0 0,.slice none 0 0,.slice none 0 0,.slice none 0 0,[],[]⟩:=⟨Wk.aJ cc.md dy,dC _ _ _ _,dC _ _ _ _,iu.nil _ _ _,dC _ _ _ _,dC _ _ _ _,iu.nil _ _ _,ab,rfl⟩
 have dW:gY bG G.heap.size (⟨a,A,(bL s).length+1,.slice ar (bR s).length cr,vs,bR s⟩:gp) 0 0 [] (.slice none 0 0):=⟨dB,dC _ _ _ _,by show G.heap.size≤a; omega⟩
 have d6:mq G bG (⟨a,A,(bL s).length+1,.slice ar (bR s).length cr,vs,bR s⟩:gp) hZ 0 0 []:=⟨_,_,dH,dW,⟨by show 0 +0 +0 +0 +(bR s).length≤70000; omega,by show 0 +(bR s).length≤70000; omega,fun q ao=>by have h:=yW (show q∈bR s from ao); exact ⟨h.2.2.1,ab,fun x eW=>by have :=(h.2.2.2.2 x eW).2; omega⟩,.inl rfl⟩,dG,jG _⟩
 have ey:Nx hZ:=⟨fun l co=>(by cases co),fun l co=>by cases co⟩
 refine ay<|dl<|aB fun dm=>aJ<|lp (fun ai cz aL=> ∃ (bD:Nat) (F:aU) (k ln:Nat) (seen:List Tx),(gM (⟨a,A,(bL s).length+1,.slice ar (bR s).length cr,vs,bR s⟩:gp).eof bD F seen ((bR s).drop k)=gM ((bL s).length+1) (bR s).length hZ [] (bR s))∧(((bR s).drop k).length≤bD)∧(mq G aL (⟨a,A,(bL s).length+1,.slice ar (bR s).length cr,vs,bR s⟩:gp) F k ln seen)∧(Nx F)∧(cz 5= .slice ar (bR s).length cr)∧(cz 8=aT a)∧(((bR s).drop k).length=ai)) _ ⟨(bR s).length,hZ,0,0,[],aa,(cD _),d6,ey,aa,aa,aa⟩ ?_
 rintro ai cz aL ⟨bD,F,k,ln,seen,U,aG,E,cp,eE,eF,rfl⟩
 refine fx 5 eE<|fx 8 eF ?_
 obtain ⟨V,vh,an,Z,I,bb,cY⟩:=E
 have cY:k≤(bR s).length:=cY
 refine aB fun dn=>ag fun dp=>au (aT a)<|p (nc aa)<|p (fa oJ aa)<|p (ld bz aa<|(a7 Z.cells).trans aa)<|au (.slice ar (bR s).length cr)<|p (bJ zj aa aa)<|p (lt aa aa)<|nl<|dp<|cd aa (fun el=> ?_) fun el=> ?_
 obtain ⟨n,r,aS,a9,dq,ds,aF,eT,aW,bx,⟨df,cg⟩,c5⟩:=cC.get bb (k:=k)<|by show k < (bR s).length; omega
 have c6:bS ar (bR s).length cr= .slice dq (bR s).length ds:=eT
 simp only [Value.slice.injEq,true_and] at c6
 obtain ⟨rfl,rfl⟩:=c6
 have aW:aO aL.heap ar (kK vs):=aW
 have bx:vs[k]? =some (n,.slice aS r.length a9):=bx
 have c5:vs.length=(bR s).length:=c5
 have aF:(bR s).drop k=(n,r)::(bR s).drop (k+1):=aF
 have I:nG F ((bR s).drop k) seen:=I
 rw [aF] at U aG I
 have c3:=I.row (n,r)<|uo ..
 have fh:0 < r.length:=lF.2 c3.1
 have ed:=I.len
 have ee:=I.sl
 simp only [c7] at ed ee aG
 have du:=nG.pH I
 have aY:∀ w,Wk G w→cj w.heap aS r:=fun w h=>(cg.wk h).cV.2
 refine aQ<|dn<|aJ<|ag fun bU=>au (.slice ar (bR s).length cr)<|au (aT a)<|p (nc aa)<|p (fa oJ aa)<|p (ld bz aa<|(a7 Z.cells).trans aa)<|p (bc nS aa aa ab<|aO.ok (aW)<|lQ ab)<|p (fa vb aa)<|p (ld jT aa<|lR aW bx 1 az)<|ay<|bU<|ag fun bW=>au (aT a)<|au (.slice ar (bR s).length cr)<|au (aT a)<|p (nc aa)<|p (fa oJ aa)<|p (ld bz aa<|(a7 Z.cells).trans aa)<|p (bc nS aa aa ab<|aO.ok (aW)<|lQ ab)<|p (fa tt aa)<|p (ld bz aa<|lR aW bx 0 az)<|p (nc aa)<|p (fa pL aa)<|e<|cT gr aa aa (v:=ak n) aa Z.cells (by show _ < 6; omega) fun e2 b9 dE=> ?_
 have bm:=Z.dD (k':=k) (ln':=n) b9 dE
 have dR:=an.rb Z b9
 have ea:Wk G e2:=bb.trans' b9 fun q ao h=>by have :=Z.lo; omega
 refine nl<|bW<|ag fun bX=>au (aT a)<|au (aT a)<|p (nc aa)<|p (fa oJ aa)<|p (ld bz aa<|(a7 bm.cells).trans aa)<|p (bF ((k+1:Nat):Int) aa aa<|bl ab ab)<|p (nc aa)<|p (fa oJ aa)<|e<|cT gr aa aa (v:=ak<|k+1) aa bm.cells (by show _ < 6; omega) fun dd ca dF=> ?_
 have d3:=bm.dD (k':=k+1) (ln':=n) ca dF
 have dT:=dR.rb bm ca
 have ci:Wk G dd:=ea.trans' ca fun q ao h=>by have :=Z.lo; omega
 refine nl<|bX<|ag fun bZ=>p mv<|p (bc cR aa aa ab<|aO.ok (aY _ ci)<|bT ab)<|p (ld bV aa<|cj.get (i:=0) (aY _ ci) ab)<|e<|cl O8 (Us (r.getD 0 []) dd) aa fun fv aK d2=> ?_
 obtain ⟨rfl,b7⟩:=d2
 have aZ:=ci.trans b7
 have bg:=d3.wk b7
 have dQ:=dT.wk b7
 refine ay<|bZ<|aB fun b0=>ag fun a2=>p mv<|p (bK aa aa)<|nl<|a2<|cd aa (fun em=> ?_) fun em=> ?_
 have aA:width (r.getD 0 [])=0:=ab
 refine aB fun a3=> ?_
 have ac:(fun w'=>Wk aK w') aK.drew:=(Md.refl _ _).drew
 exact bN (fun w'=>Wk aK w') aa wide ac<|bI 0 aa (aT a) ac<|aH 1 aa (fun _ _=>nc aa) ac<|aH 2 aa (fun _ _=>fa pL aa) ac<|aH 3 aa (fun w' E=>ld bz aa<|Wk.aR E<|(a7 bg.cells).trans aa) ac<|aH 4 aa (fun _ _=>aE) ac<|aH 5 aa (fun _ _=>aE) ac<|aH 6 aa (fun _ _=>aE) ac<|hn aj<|a3<|rt<|tr<|br<|tr<|br<|tr<|f3 aa aa aa aa<|lX.no (oA av<|KJ U aG aA)<|am.trans<|aZ.trans ac
 have aA:width (r.getD 0 [])≠0:=ab
 refine aQ<|b0<|aB fun a3=>ag fun b1=>p mv<|p (bJ eZ aa aa)<|p mv<|p (cO aa aa)<|nl<|b1<|cd aa (fun en=> ?_) fun en=> ?_
 refine aB fun a4=> ?_
 have ae:(fun w'=>Wk aK w') aK.drew:=(Md.refl _ _).drew
 exact bN (fun w'=>Wk aK w') aa wide ae<|bI 0 aa (aT a) ae<|aH 1 aa (fun _ _=>nc aa) ae<|aH 2 aa (fun _ _=>fa pL aa) ae<|aH 3 aa (fun w' E=>ld bz aa<|Wk.aR E<|(a7 bg.cells).trans aa) ae<|aH 4 aa (fun _ _=>aE) ae<|aH 5 aa (fun _ _=>aE) ae<|aH 6 aa (fun _ _=>aE) ae<|hn aj<|a4<|rt<|tr<|br<|tr<|br<|tr<|f3 aa aa aa aa<|lX.no (oA av<|KK U aG aA ab)<|am.trans<|aZ.trans ae
 have h1:r.length=width (r.getD 0 []):=ab
 refine aQ<|a3<|ag fun a4=>au (aT a)<|p mv<|p (bc cR aa aa ab<|aO.ok (aY _ aZ)<|bT ab)<|p (ld bV aa<|cj.get (i:=0) (aY _ aZ) ab)<|e<|cl Au (Co G.heap.size (⟨a,A,(bL s).length+1,.slice ar (bR s).length cr,vs,bR s⟩:gp) (k+1) n seen vh (r.getD 0 []) aK bg ab) aa fun fw bH d4=> ?_
 obtain ⟨rfl,eV⟩:=d4
 subst eV
 refine ay<|a4 ?_
 refine ep (fun bO cv=>(width (r.getD 0 [])=2→r.getD 0 []∉seen)∧(cv=bH)∧(bO 5= .slice ar (bR s).length cr)∧(bO 8=aT a)∧(bO 9= .slice aS r.length a9)) ?_ ?_
 refine ag fun ax=>p mv<|p (bK aa aa)<|p mv<|gs (t:=95) aa (fun er=> ?_) fun er=> ?_
 refine aM aa mv<|p (bC aa)<|nl<|ax<|cb aa (fun cn=> ?_) fun cn=> ?_
 refine aB fun a5=> ?_
 have ah:(fun w'=>Wk bH w') bH.drew:=(Md.refl _ _).drew
 exact bN (fun w'=>Wk bH w') aa wide ah<|bI 0 aa (aT a) ah<|aH 1 aa (fun _ _=>nc aa) ah<|aH 2 aa (fun _ _=>fa pL aa) ah<|aH 3 aa (fun w' E=>ld bz aa<|Wk.aR E<|(a7 bg.cells).trans aa) ah<|aH 4 aa (fun _ _=>aE) ah<|aH 5 aa (fun _ _=>aE) ah<|aH 6 aa (fun _ _=>aE) ah<|hn aj<|a5<|rt<|tr<|br<|tr<|br<|tr<|f3 aa aa aa aa<|lX.no (oA av<|Dh U aG aA h1 ab<|of_decide_eq_true cn)<|am.trans<|aZ.trans ah
 exact aQ<|tn<|⟨(fun _=>of_decide_eq_false cn),aa,aa,aa,aa⟩
 exact aI aa<|p (bu aa)<|nl<|ax<|cf aa<|aQ<|tn<|⟨(fun h=>absurd h ab),aa,aa,aa,aa⟩
 rintro bO cv ⟨c0,eU,eG,eH,eJ⟩
 refine fx 5 eG<|fx 8 eH<|fx 9 eJ ?_
 subst eU
 refine ag fun ax=>au (aT a)<|au (.slice aS r.length a9)<|e<|cl O9 (Ui G (⟨a,A,(bL s).length+1,.slice ar (bR s).length cr,vs,bR s⟩:gp) F (k+1) n seen r df aS a9 cv cC ⟨V,vh,dQ,bg,du,aZ,by show k+1≤(bR s).length; omega⟩ cg c3.2.2 (by show _+((bR s).drop<|k+1).length < 70000; omega) h1 aA) aa fun e0 Y dX=> ?_
 obtain ⟨et,d8⟩:=dX
 obtain ⟨e6,rfl,cW⟩:∃ e:Nat,e0=ak e∧((e=0∧∃ F' k' ln',cw (⟨a,A,(bL s).length+1,.slice ar (bR s).length cr,vs,bR s⟩:gp).eof F seen ((bR s).drop<|k+1) n r= .ok (F',(bR s).drop k')∧mq G Y (⟨a,A,(bL s).length+1,.slice ar (bR s).length cr,vs,bR s⟩:gp) F' k' ln' seen)∨(e≠0∧∃ l:Nat,cw (⟨a,A,(bL s).length+1,.slice ar (bR s).length cr,vs,bR s⟩:gp).eof F seen ((bR s).drop<|k+1) n r= .error (l,e)∧Hb.aR Y.heap a 5=some (ak l))):=by
  rcases et with ⟨F',k',ln',h1,h2,h3⟩ | ⟨l,e,h1,h2,h3,h4⟩
  exact ⟨0,h2,.inl ⟨aa,F',k',ln',h1,h3⟩⟩
  exact ⟨e,h3,.inr ⟨h2,l,h1,h4⟩⟩
 refine ay<|ax<|aB fun a5=>ag fun b2=>p mv<|p (cO aa aa)<|nl<|b2<|cd aa (fun ef=> ?_) fun ef=> ?_
 obtain ⟨cZ,fr,es,ew⟩:=cW.resolve_left fun h=>by omega
 refine aB fun a8=> ?_
 have O:(fun w'=>Wk Y w') Y.drew:=(Md.refl _ _).drew
 exact bN (fun w'=>Wk Y w') aa wide O<|bI 0 aa (aT a) O<|aH 1 aa (fun _ _=>nc aa) O<|aH 2 aa (fun _ _=>fa pL aa) O<|aH 3 aa (fun w' E=>ld bz aa<|Wk.aR E<|ew) O<|aH 4 aa (fun _ _=>mv) O<|aH 5 aa (fun _ _=>aE) O<|aH 6 aa (fun _ _=>aE) O<|aH 7 aa (fun _ _=>aE) O<|hn aj<|a8<|rt<|tr<|br<|tr<|br<|tr<|f3 aa aa aa aa<|lX.no (oA av<|Di U aG aA h1 c0 es)<|am.trans<|d8.trans O
 obtain ⟨_,F',k',ln',bq,d5⟩:=cW.resolve_right fun h=>by omega
 have cL:=Dj U aG aA h1 c0 bq
 obtain ⟨V2,fz,dJ,aD,b5,bo,ev⟩:=d5
 obtain ⟨aP,aV,rfl⟩:=cE aD.hd
 have ex:¬((bS aP seen.length aV).ownBlock=some a):=dI aD.hd aD.cells az
 refine aQ<|a5 ?_
 have M:(fun w'=>Md (fun q=>(bS aP seen.length aV).ownBlock=some q) Y w') Y.drew:=(Md.refl _ _).drew
 refine eR (fun w'=>Md (fun q=>(bS aP seen.length aV).ownBlock=some q) Y w') 12 aa wide M<|bE 0 aa (aT a) M<|bE 1 aa (aT a) M<|bB 2 aa (fun _=>nc aa) (fun _=>M)<|bB 3 aa (fun _=>fa pK aa) (fun _=>M)<|dP 4 aa (fun w' E=>ld jT aa<|Md.aR E ((a7 aD.cells).trans aa) ex) M<|bE 5 aa (.slice aS r.length a9) M<|bB 6 aa (fun _=>bc cR aa aa ab<|aO.ok (aY _ bo)<|bT ab) (fun _=>M)<|dP 7 aa (fun w' E=>ld bV aa<|cj.get (i:=0) (aO.md (aY _ bo) E fun cZ h=>by have h1:=Tg.blt cg cZ; have h2:=(dS aD.hd h).1; omega) ab) M<|gE 8 aa aj<|fZ fQ aa aa fun e3 db e7 dV dw=> ?_
 have bd:=im dV.md
 have aX:=aD.wk bd
 have cH:(fun w'=>Md (fun q=>(bS aP seen.length aV).ownBlock=some q) Y w') db:=Md.mono bd fun _ _ h=>h.elim
 refine ⟨cH,?_⟩
 refine gE 9 aa aj<|ap fQ (aX.hd) aa (by have :=bo.size; have :=bd.size; omega) aa (aO.ec dw) (aa) (aa) ab ab fun c9 dc c1 bk fk fe=> ?_
 have cN:=bk.aJ aX.cells<|dI aX.hd aX.cells az
 have eA:=mJ c1
 have ce:(fun w'=>Md (fun q=>(bS aP seen.length aV).ownBlock=some q) Y w') dc:=cH.trans' bk fun _ _ h=>h
 refine ⟨ce,?_⟩
 refine bB 10 aa (fun _=>nc aa) (fun _=>ce)<|bB 11 aa (fun _=>fa pK aa) (fun _=>ce)<|dO 12 aa aj aj<|cT G8 aa aa (v:=c9) (eS c1) cN (by show _ < 6; omega) fun cu b8 dv=> ?_
 have dL:=dJ.wk bd
 have d7:TF db [11] (fun q=>(bS aP seen.length aV).ownBlock=some q):=TF.own aX.hd az
 have dM:=dL.md bk d7 az
 have cJ:TF dc [238] (fun q=>q=a):=TF.eq (dA cN) az
 have dN:=dM.md b8 cJ az
 have d0:gY cu G.heap.size (⟨a,A,(bL s).length+1,.slice ar (bR s).length cr,vs,bR s⟩:gp) k' ln' (seen++ [r.getD 0 []]) c9:=⟨dv,cx eA b8 cJ az,aD.lo⟩
 have d9:Wk G cu:=((bo.trans bd).trans' bk fun q ao h=>by have :=(dS aX.hd h).1; omega).trans' b8 fun q ao h=>by omega
 have fj:=qE bq
 have M:mq G cu (⟨a,A,(bL s).length+1,.slice ar (bR s).length cr,vs,bR s⟩:gp) F' k' ln' (seen++ [r.getD 0 []]):=⟨_,_,dN,d0,⟨b5.len,by rw [bM,e9]; show seen.length+1 +((bR s).drop k').length≤70000; omega,b5.row,b5.kd⟩,d9,ev⟩
 have ez:=yz cp bq
 exact eQ aj<|bn<|tn<|⟨_,by rw [aF]; have :=qE bq; simp only [c7]; omega,bD - 1,F',k',ln',seen++ [r.getD 0 []],cL.1,cL.2,M,ez,aa,aa,aa⟩
 have aF:(bR s).drop k= []:=gV ab
 rw [aF,vG] at U
 refine ext<|bf<|bf<|be<|dm<|ag fun bU=>au (aT a)<|p (nc aa)<|p (fa lO aa)<|p (ld ib aa<|(a7 Z.cells).trans aa)<|ay<|bU<|aB fun bW=>aB fun bX=>rg aa<|ay<|bX<|aJ ?_
 obtain ⟨a12,kA,c4⟩:=cE an.dK
 have a0:=an.dK
 rw [c4] at a0
 have bs:Hb.aR aL.heap A 12=some (.slice a12 F.rules.length kA):=by rw [← c4]; exact (a7 an.cells).trans rfl
 have fd:=I.len
 refine lp (fun ai cA de=> ∃ (i:Nat),(i≤F.rules.length)∧(∀ j q,j < i→F.rules[j]? =some q→nK F q=false)∧(Wk aL de)∧(cA 12=aT A)∧(cA 13=ak i)∧(F.rules.length - i=ai)) _ ⟨0,ab,(fun j q cX=>by omega),(Md.refl _ _),aa,aa,aa⟩ ?_
 rintro ai cA de ⟨i,hi,bv,bj,eK,eL,rfl⟩
 refine fx 12 eK<|fx 13 eL<|aB fun bZ=>aB fun b0=> ?_
 have eg:=Wk.aR bj bs
 refine rg aa<|au (ak i)<|au (aT A)<|p (nc aa)<|p (fa jN aa)<|p (ld ka aa<|eg)<|p (bJ tM aa aa)<|p (lt aa aa)<|nl<|b0<|cd aa (fun eh=> ?_) fun eh=> ?_
 refine aQ<|bZ<|aB fun a2=>aJ<|aB fun a3=> ?_
 have cS:i < F.rules.length:=ab
 obtain ⟨vn,eP,ch⟩:=iu.get an.nx (i:=i)<|by rw [fM]; exact cS
 obtain ⟨q,a1⟩:∃ q,F.rules[i]? =some q:=⟨_,cI cS⟩
 have eC:(F.rules.map (·.next)).getD i []=q.next:=by rw [da,iq,a1]; rfl
 rw [eC] at ch
 have fg:=cp.2 q<|iR a1
 obtain ⟨dr,dt,rfl⟩:=ch.slice
 have aq:(F.rules.zip V.rn)[i]? =some (q,.slice dr q.next.length dt):=by rw [jz]; exact ⟨a1,eP⟩
 refine rg aa<|ay<|a3<|aJ<|lp (fun ai bP cy=> ∃ (j:Nat),(j≤q.next.length)∧(∀ bi,bi < j→mH F (q.next.getD bi 0)=true)∧(Wk aL cy)∧(bP 12=aT A)∧(bP 13=ak i)∧(bP 14=ak j)∧(q.next.length - j=ai)) _ ⟨0,ab,(fun bi eu=>by omega),bj,aa,aa,aa,aa⟩ ?_
 rintro ai bP cy ⟨j,cX,cq,aC,eM,eN,eO,rfl⟩
 refine fx 12 eM<|fx 13 eN<|fx 14 eO<|aB fun b1=>aB fun a4=> ?_
 have cP:=Wk.aR aC bs
 have bw:=a6 a0 aC
 refine rg aa<|au (ak j)<|au (aT A)<|p (nc aa)<|p (fa jN aa)<|p (ld ka aa<|cP)<|au (ak i)<|p (bc nR aa aa ab<|aO.ok ((ba bw).2)<|nW aq)<|p (fa uW aa)<|p (ld pC aa<|fA (f:=jx) (m:=8) (fun _=>rfl) (ba bw).2 aq 6 az)<|p (bJ nu aa aa)<|p (lt aa aa)<|nl<|a4<|cd aa (fun ei=> ?_) fun ei=> ?_
 refine aQ<|b1<|aB fun ax=>aJ<|aB fun a5=> ?_
 have cK:=ch.wk aC
 have eX:(q.next.map bQ)[j]? =some (bQ<|q.next.getD j 0):=by rw [iq,da,cI (by omega :j < q.next.length)]; rfl
 refine rg aa<|au (aT A)<|p (nc aa)<|p (fa jN aa)<|p (ld ka aa<|cP)<|au (ak i)<|p (bc nR aa aa ab<|aO.ok ((ba bw).2)<|nW aq)<|p (fa uW aa)<|p (ld pC aa<|fA (f:=jx) (m:=8) (fun _=>rfl) (ba bw).2 aq 6 az)<|au (ak j)<|p (bc kf aa aa ab<|aO.ok (cK.cV.2)<|bT ab)<|p (ld bz aa<|aO.gN cK.cV.2 eX)<|ay<|a5<|aB fun b2=>rg aa<|au (aT A)<|p mv<|e<|cl Av (Cf G.heap.size 0 A F V (q.next.getD j 0) cy (an.wk aC) ab) aa fun v164 fC dY=> ?_
 obtain ⟨rfl,cB⟩:=dY
 have fm:=cB.size
 refine p mv<|p (xt aa aa)<|p (xt aa aa)<|e<|al sc fun e4 fB e8 cF dx=>e<|dj qq aa aa aa aa (dx) (by simp) fun aN dU dz=> ?_
 have J:Wk aL aN:=(aC.trans<|cB.trans cF.md).trans' dU fun q ao h=>by have :=aC.size; omega
 have fl:=cF.size
 refine ay<|b2<|ag fun a8=>p mv<|au (aT A)<|p (nc aa)<|p (fa tj aa)<|p (kg sQ aa aa ab)<|p (ld bz aa<|(a7 (an.wk J).cells).trans aa)<|p (cO aa aa)<|p mv<|gs (t:=174) aa (fun eo=> ?_) fun eo=> ?_
 refine aM aa mv<|aM aa (no aa)<|aM aa mv<|gb (t:=177) aa (fun bt=> ?_) fun bt=> ?_
 refine aI aa<|aI aa<|aI aa<|aM aa (bC aa)<|p (bC aa)<|nl<|a8<|ct aa<|aB fun b3=> ?_
 have C:(fun w'=>Wk aN w') aN.drew:=(Md.refl _ _).drew
 refine bN (fun w'=>Wk aN w') aa wide C<|bI 0 aa (aT A) C<|aH 1 aa (fun _ _=>nc aa) C<|aH 2 aa (fun _ _=>fa jN aa) C<|aH 3 aa (fun w' E=>ld ka aa<|Wk.aR E<|Wk.aR J bs) C<|bI 4 aa (ak i) C<|aH 5 aa (fun _ _=>bc nR aa aa ab<|aO.ok ((ba<|a6 a0 J).2)<|nW aq) C<|aH 6 aa (fun _ _=>fa Ie aa) C<|aH 7 aa (fun w' E=>ld bz aa<|Wk.aR E<|fA (f:=jx) (m:=8) (fun _=>rfl) (ba<|a6 a0 J).2 aq 7 az) C<|aH 8 aa (fun _ _=>aE) C<|aH 9 aa (fun _ _=>aE) C<|aH 10 aa (fun _ _=>aE) C<|hn aj<|b3<|rt<|br<|tr<|tr<|br<|br<|tr<|tr<|br<|tr<|f3 aa aa aa aa ?_
 have ck:fy s= .error (q.line,118):=z7 av U.symm<|qy bv a1<|ql (j:=j) ab<|yR ab<|by simpa using bt
 exact lX.no ck<|am.trans<|bb.trans<|J.trans C
 refine aM aa (fa yg aa)<|aM aa (ld bz aa<|(dz.aR 1).trans aa)<|aM aa (cO aa aa)<|aM aa (bu aa)<|p (bC aa)<|nl<|a8<|cd aa (fun ej=> ?_) fun ej=> ?_
 refine aB fun b3=> ?_
 have C:(fun w'=>Wk aN w') aN.drew:=(Md.refl _ _).drew
 refine bN (fun w'=>Wk aN w') aa wide C<|bI 0 aa (aT A) C<|aH 1 aa (fun _ _=>nc aa) C<|aH 2 aa (fun _ _=>fa jN aa) C<|aH 3 aa (fun w' E=>ld ka aa<|Wk.aR E<|Wk.aR J bs) C<|bI 4 aa (ak i) C<|aH 5 aa (fun _ _=>bc nR aa aa ab<|aO.ok ((ba<|a6 a0 J).2)<|nW aq) C<|aH 6 aa (fun _ _=>fa Ie aa) C<|aH 7 aa (fun w' E=>ld bz aa<|Wk.aR E<|fA (f:=jx) (m:=8) (fun _=>rfl) (ba<|a6 a0 J).2 aq 7 az) C<|aH 8 aa (fun _ _=>aE) C<|aH 9 aa (fun _ _=>aE) C<|aH 10 aa (fun _ _=>aE) C<|hn aj<|b3<|rt<|br<|tr<|tr<|br<|br<|tr<|tr<|br<|tr<|f3 aa aa aa aa ?_
 have ck:fy s= .error (q.line,118):=z7 av U.symm<|qy bv a1<|ql (j:=j) ab<|yQ ab (by simpa using bt)<|by show ((eb F.bA<|q.next.getD j 0).getD nM).kind≠2; omega
 exact lX.no ck<|am.trans<|bb.trans<|J.trans C
 exact aQ<|bn<|ax<|rg aa<|au (ak j)<|p (ad aa aa<|bY ab)<|p aE<|nl<|tn<|⟨_,ab,j+1,ab,(fun k hk=>by rcases fu k j with h | h <;> first | exact cq k h | (rw [show k=j by omega]; exact Kn (by simpa using bt)<|by show ((eb F.bA<|q.next.getD j 0).getD nM).kind=2; omega)),J,aa,aa,aa,aa⟩
 exact aI aa<|aI aa<|aI aa<|ek aa<|ek aa<|ek aa<|aI aa<|p (bu aa)<|nl<|a8<|cf aa<|aQ<|bn<|ax<|rg aa<|au (ak j)<|p (ad aa aa<|bY ab)<|p aE<|nl<|tn<|⟨_,ab,j+1,ab,(fun k hk=>by rcases fu k j with h | h <;> first | exact cq k h | (rw [show k=j by omega]; exact Km ab)),J,aa,aa,aa,aa⟩
 exact ext<|bf<|bf<|be<|bn<|a2<|rg aa<|au (ak i)<|p (ad aa aa<|bY ab)<|p aE<|nl<|tn<|⟨_,ab,i+1,ab,(fun k eY hk cs=>by rcases fu k i with h | h <;> first | exact bv k eY h cs | (rw [show k=i by omega,a1] at cs; cases cs; exact Fq fun bi eu=>cq bi ab)),aC,aa,aa,aa⟩
 refine ext<|bf<|bf<|be<|bW<|ag fun a2=>au (aT A)<|p (cU (aT A) aa)<|p aE<|ay<|a2<|rt<|f3 aa aa aa aa ?_
 unfold lX
 rw [E2 av U.symm (HN fun j q cX ao=>bv j q ab ao)]
 exact ⟨⟨G.heap.size,A,V,by have :=am.size; omega,aa,an.wk bj,⟨seen,by have I:=I; rw [show (gp.rows (⟨a,A,(bL s).length+1,.slice ar (bR s).length cr,vs,bR s⟩:gp)).drop k= [] from aF] at I; exact I⟩,cp⟩,am.trans<|bb.trans bj⟩
end Go.Hb.lg
end
section
namespace Go.Hb.lG
open Go.Hb.lg
def N9 (w':World) (X:Except Nat bH) (v:Value):Prop :=(∃ x a,X= .ok x∧v= .tuple #[.agg [str x.1,a].toArray,.int .i64 (0:Nat)]∧a.oneCell'=true∧Tg w' 0 3 x.2.length a (x.2.map bQ))∨(∃ e,X= .error e∧e≠0∧v= .tuple #[.agg [str [],.slice none 0 0].toArray,.int .i64 (e:Nat)])
theorem r6 (w:World) (B e:Nat):Tg w B e 0 (.slice none 0 0) []:=Tg.jP (size:=1)<|dC _ _ _ _
def mX (w:World) (B:Nat) (v:Value) (xs:List bH):Prop := ∃ vs,bw w B 169 2 v xs.length (kb<|xs.zip vs)∧iu w 0 3 vs (xs.map (·.2))
theorem mX.md {G:Nat→Prop} {w w':World} {B:Nat} {v:Value} {xs:List bH} (h:mX w B v xs) (hm:Md G w w') {L:List Nat} (i:TF w L G) (a:(L.contains 171 || L.contains 5)=false):mX w' B v xs:=by
 simp only [nA] at a
 obtain ⟨vs,h1,h2⟩:=h
 exact ⟨vs,cx h1 hm i a.1,h2.md hm fun k hk cur z q=>i.no (dA q) a.2 hk⟩
theorem mX.wk {w w':World} {B:Nat} {v:Value} {xs:List bH} (h:mX w B v xs) (hm:Wk w w'):mX w' B v xs:=h.md (L:= []) hm (fun _ hk=>hk.elim) rfl
def lH (F:aU) (t:Tx) (w:World) (v:Value) (w':World):Prop :=(match fq F t with | .ok xs=> ∃ a,v= .tuple #[a,.int .i64 0,.int .i64 0]∧mX w' w.heap.size a xs | .error e=>v= .tuple #[.slice none 0 0,.int .i64 (e.1:Nat),.int .i64 (e.2:Nat)])∧Wk w w'
theorem lH.no {F:aU} {t:Tx} {w w':World} {l e:Nat} (h:fq F t= .error (l,e)) (hm:Wk w w'):lH F t w (.tuple #[.slice none 0 0,.int .i64 (l:Nat),.int .i64 (e:Nat)]) w':=by
 unfold lH; rw [h]; exact ⟨rfl,hm⟩
theorem Um (B fb:Nat) (F:aU) (V:eu) (x:Nat) (w:World) (C:eI w B 0 fb F V) (aq:F.bA.length≤70000):
 bp aw 182 (bh [aT fb,bQ x]) w (fun v w'=>v= .bool (eJ F x)∧Wk w w'):=by
 have aD:=C.fR
 refine enter func182 aa ntmps182 aa<|ag fun U=>ay<|U<|aB fun Y=>ag fun Z=>ay<|Z<|aJ<|lp (fun G a E=> ∃ (i:Nat),(i≤5)∧(∀ j,j < i→F.sp.getD j 0≠x)∧(E=w)∧(a 0=aT fb)∧(a 1=bQ x)∧(a 5=ak i)∧(5 - i=G)) _ ⟨0,ab,(fun j M=>by omega),aa,aa,aa,aa,aa⟩ ?_
 rintro G a E ⟨i,hi,O,aj,ar,av,ax,rfl⟩
 refine fx 0 ar<|fx 1 av<|fx 5 ax ?_
 subst aj
 refine aB fun ac=>ag fun ae=>au (ak i)<|p (lt aa aa)<|nl<|ae<|cd aa (fun ap=> ?_) fun ap=> ?_
 refine aQ<|ac<|aB fun q=>aJ<|ag fun A=>au (aT fb)<|au (ak i)<|p (nc aa)<|p (fa tj aa)<|p (kg sQ aa aa ab)<|p (ld bz aa<|(a7 C.cells).trans<|IH (i:=i) ab)<|au (bQ x)<|p (bK aa aa)<|nl<|A<|cd aa (fun J=> ?_) fun J=> ?_
 exact ag fun ah=>ay<|ah<|rt<|br<|tr<|tr<|br<|tr<|aX aa<|⟨by rw [Hc (show x∈F.sp from by obtain rfl :F.sp.getD i 0=x:=ab; exact dY ab)]; rfl,Md.refl _ _⟩
 exact aQ<|bn<|q<|rg aa<|au (ak i)<|p (ad aa aa<|bY ab)<|p aE<|nl<|tn<|⟨_,ab,i+1,ab,(fun j M=>by rcases fu j i with h | h <;> first | exact O j h | (rw [show j=i by omega]; exact fun h2=>J<|by rw [h2])),aa,aa,aa,aa,aa⟩
 refine ext<|bf<|bf<|be<|Y<|ag fun q=>au (aT fb)<|au (bQ x)<|e<|cl Av (Cf B 0 fb F V x E C aq) aa fun aG aH ao=> ?_
 obtain ⟨rfl,I⟩:=ao
 have aF:=I.size
 exact p mv<|p (xt aa aa)<|p (xt aa aa)<|e<|al sc fun az aI aC an ai=>e<|dj qq aa aa aa aa (ai) (by simp) fun aK am aA=>ay<|q<|ag fun A=>p mv<|ay<|A<|rt<|aX aa<|⟨by rw [Hd (JN fun j M=>O j ab)]; rfl,(I.trans an.md).trans' am fun k hk h=>by omega⟩
theorem T5 (B fb:Nat) (F:aU) (V:eu) (r:List Tx) (a9:Nat) (ar:Option Addr) (cr:Nat) (w:World) (a1:eI w B 0 fb F V) (bN:∃ seen,nG F [] seen) (ce:Nx F) (b5:Tg w a9 9 r.length (.slice ar r.length cr) (r.map str)) (cf:∀ x∈r,x.length≤70000) (cA:r.length≤70000):
 bp aw 119 (bh [aT fb,.slice ar r.length cr]) w (fun v w'=>N9 w' (ga F r) v∧Wk w w'):=by
 obtain ⟨seen,aZ⟩:=bN
 have cx:=aZ.len
 have cD:=r9<|r.getD 0 []
 refine enter func119 aa ntmps119 aa<|ag fun ba=>e<|fg ME fun aV a8 cw ac aY=> ?_
 have cG:=ac.size
 have a3:=b5.wk ac.md
 have bR:=a1.wk ac.md
 have aG:bP a8.heap aV [str [],.slice none 0 0]:=⟨_,aY⟩
 refine ay<|ba<|aB fun bl=>ag fun bt=>au (.slice ar r.length cr)<|p (bJ eZ aa aa)<|p (cO aa aa)<|nl<|bt<|cd aa (fun b6=> ?_) fun b6=> ?_
 exact ag fun aA=>p (c8 (ps:= []) (L:= [.string ⟨⟨[]⟩⟩,.slice none 0 0]) pV aa<|aa)<|e<|dj oG aa aa aa aa (aG) (by simp) fun cW bZ bL=>ay<|aA<|rt<|tr<|eD aa (dT (cs:= [str [],.slice none 0 0]) aa oB aa fun j A=>bL.bG j) ej<|⟨.inr ⟨111,Hq ab,az,aa⟩,ac.md.trans' bZ fun q a h=>by omega⟩
 have I:r.length=1:=ab
 have cB:(r.getD 0 []).length≤70000:=cf _<|dY ab
 refine aQ<|bl<|ag fun aA=>au (.slice ar r.length cr)<|p (bc cR aa aa ab<|aO.ok (a3.cV.2)<|bT ab)<|p (ld bV aa<|cj.get (i:=0) a3.cV.2 ab)<|e<|cl xz (y0 (r.getD 0 []) a8 ab) aa fun cK co b1=> ?_
 obtain ⟨rfl,M⟩:=b1
 have a0:=ac.md.trans M
 have cE:=M.size
 refine p mv<|p (xt aa aa)<|p (xt aa aa)<|p (xt aa aa)<|p (xt aa aa)<|p aE<|p aE<|p aE<|ay<|aA<|aB fun bv=>ag fun bw=>p mv<|p (cO aa aa)<|nl<|bw<|cd aa (fun b7=> ?_) fun b7=> ?_
 exact ag fun aC=>p (c8 (ps:= []) (L:= [.string ⟨⟨[]⟩⟩,.slice none 0 0]) pV aa<|aa)<|p mv<|e<|dj oG aa aa aa aa (Wk.B M aG) (by simp) fun cX b0 bM=>ay<|aC<|rt<|tr<|eD aa (dT (cs:= [str [],.slice none 0 0]) aa oB aa fun j A=>bM.bG j) ej<|⟨.inr ⟨_,xU I ab,ab,aa⟩,a0.trans' b0 fun q a h=>by omega⟩
 have J:(bD<|r.getD 0 []).2.2.2=0:=ab
 refine aQ<|bv<|ag fun aC=>p mv<|e<|cl uJ (vE (bD<|r.getD 0 []).1 co ab) aa fun cL cp b2=> ?_
 obtain ⟨rfl,Y⟩:=b2
 have Z:=a0.trans Y
 have ae:=Wk.B (M.trans Y) aG
 have cF:=Y.size
 refine ay<|aC<|aB fun bx=>ag fun aS=>p mv<|p (cz u9 aa aa)<|p (bK aa aa)<|p mv<|gs (t:=36) aa (fun a7=> ?_) fun a7=> ?_
 have aK:gy (bD<|r.getD 0 []).1=false∨(bD<|r.getD 0 []).1= []:= .inr<|fY ab
 exact aI aa<|aI aa<|p (bC aa)<|nl<|aS<|ct aa<|ag fun U=>p (c8 (ps:= []) (L:= [.string ⟨⟨[]⟩⟩,.slice none 0 0]) pV aa<|aa)<|e<|dj oG aa aa aa aa (ae) (by simp) fun cu aF aD=>ay<|U<|rt<|tr<|eD aa (dT (cs:= [str [],.slice none 0 0]) aa oB aa fun j A=>aD.bG j) ej<|⟨.inr ⟨21,xV I J aK,az,aa⟩,Z.trans' aF fun q a h=>by omega⟩
 refine aM aa mv<|aM aa (no aa)<|p (bu aa)<|nl<|aS<|cb aa (fun aL=> ?_) fun aL=> ?_
 have aK:gy (bD<|r.getD 0 []).1=false∨(bD<|r.getD 0 []).1= []:=by
  first
   | exact .inl<|by simpa using aL
   | exact .inr<|fY ab
 exact ag fun U=>p (c8 (ps:= []) (L:= [.string ⟨⟨[]⟩⟩,.slice none 0 0]) pV aa<|aa)<|e<|dj oG aa aa aa aa (ae) (by simp) fun cu aF aD=>ay<|U<|rt<|tr<|eD aa (dT (cs:= [str [],.slice none 0 0]) aa oB aa fun j A=>aD.bG j) ej<|⟨.inr ⟨21,xV I J aK,az,aa⟩,Z.trans' aF fun q a h=>by omega⟩
 have al:(bD<|r.getD 0 []).1≠[]:=fun h=>a7<|by rw [h]; rfl
 have ah:gy (bD<|r.getD 0 []).1=true :=by simpa using aL
 refine aQ<|bx<|aB fun U=>ag fun bb=>p mv<|p (cz u9 aa aa)<|p (gt aa aa)<|nl<|bb<|cd aa (fun b8=> ?_) fun b8=> ?_
 exact ag fun ap=>p (c8 (ps:= []) (L:= [.string ⟨⟨[]⟩⟩,.slice none 0 0]) pV aa<|aa)<|e<|dj oG aa aa aa aa (ae) (by simp) fun cP bS bB=>ay<|ap<|rt<|tr<|eD aa (dT (cs:= [str [],.slice none 0 0]) aa oB aa fun j A=>bB.bG j) ej<|⟨.inr ⟨22,Hr I J ah al ab,az,aa⟩,Z.trans' bS fun q a h=>by omega⟩
 refine aQ<|U<|aB fun ap=>ag fun bd=>p mv<|p (no aa)<|nl<|bd<|cb aa (fun ai=> ?_) fun ai=> ?_
 exact ag fun aq=>p mv<|p (c8 (ps:= [(0,str (bD<|r.getD 0 []).1)]) (L:= [str (bD<|r.getD 0 []).1,.slice none 0 0]) pV aa<|aa)<|e<|dj oG aa aa aa aa (ae) (by simp) fun cQ bU bE=>ay<|aq<|rt<|tr<|eD aa (dT (cs:= [str (bD<|r.getD 0 []).1,.slice none 0 0]) aa oB aa fun j A=>bE.bG j) ej<|⟨.inl ⟨_,.slice none 0 0,Hs I J ah al ab (by simpa using ai),aa,aa,r6 _ _ _⟩,Z.trans' bU fun q a h=>by omega⟩
 refine aQ<|ap<|ag fun aq=>au (aT fb)<|p mv<|e<|cl FU (IF B fb F V (bD<|r.getD 0 []).2.1 cp (bR.wk<|M.trans Y).r aZ.kd ab ab) aa fun cM cq b3=> ?_
 obtain ⟨⟨cv,aW,rfl,cy,a6⟩,hE52⟩:=b3
 have am:=Z.trans hE52
 have aH:=Wk.B hE52 ae
 have cH:=hE52.size
 refine p mv<|p (xt aa aa)<|p (xt aa aa)<|p aE<|ay<|aq<|aB fun bg=>ag fun bi=>p mv<|p (cO aa aa)<|nl<|bi<|cd aa (fun a5=> ?_) fun a5=> ?_
 have aP:aW≠0:=fun bA=>a5<|by rw [bA]; rfl
 rcases a6 with ⟨l,h,_⟩ | ⟨cc,aj⟩
 exact absurd h aP
 exact ag fun av=>p (c8 (ps:= []) (L:= [.string ⟨⟨[]⟩⟩,.slice none 0 0]) pV aa<|aa)<|p mv<|e<|dj oG aa aa aa aa (aH) (by simp) fun cS bW bF=>ay<|av<|rt<|tr<|eD aa (dT (cs:= [str [],.slice none 0 0]) aa oB aa fun j A=>bF.bG j) ej<|⟨.inr ⟨_,Ht I J ah al ab (by simpa using ai) aj,cc,aa⟩,am.trans' bW fun q a h=>by omega⟩
 have aP:aW=0:=ab
 have ca:=a6.resolve_right fun h=>h.1 aP
 obtain ⟨set,_,aj,ao⟩:=ca
 have cn:=ao.slice
 obtain ⟨C,E,a⟩:=cn
 subst a
 have cC:=x7 ce.1 aj
 refine aQ<|bg<|aB fun av=>ag fun bj=>ay<|bj<|aJ<|lp (fun aX O aR=> ∃ (j:Nat),(j≤set.length)∧(∀ q,q < j→eJ F (set.getD q 0)=true)∧(Wk cq aR)∧(O 0=aT fb)∧(O 4=aT aV)∧(O 6=str (bD<|r.getD 0 []).1)∧(O 11= .slice C set.length E)∧(O 12=ak j)∧(set.length - j=aX)) _ ⟨0,ab,(fun q a=>by omega),(Md.refl _ _),aa,aa,aa,aa,aa,aa⟩ ?_
 rintro aX O aR ⟨j,A,a4,G,cg,ck,cm,ch,ci,rfl⟩
 refine fx 0 cg<|fx 4 ck<|fx 6 cm<|fx 11 ch<|fx 12 ci<|aB fun bk=>ag fun bm=>au (ak j)<|au (.slice C set.length E)<|p (bJ nu aa aa)<|p (lt aa aa)<|nl<|bm<|cd aa (fun b9=> ?_) fun b9=> ?_
 refine aQ<|bk<|aB fun ax=>aJ<|ag fun bo=>au (aT fb)<|au (.slice C set.length E)<|au (ak j)<|p (bc kf aa aa ab<|aO.ok ((ao.wk G).cV.2)<|bT ab)<|p (ld bz aa<|aO.gN (ao.wk G).cV.2 (show (set.map bQ)[j]? =some (bQ<|set.getD j 0) by rw [iq,da,cI (by omega :j < set.length)]; rfl)) ?_
 refine e<|cl PB (Um B fb F V (set.getD j 0) aR (a1.wk<|am.trans G) ab) aa fun v70 cN b4=> ?_
 obtain ⟨rfl,bO⟩:=b4
 have an:=G.trans bO
 have cJ:=an.size
 refine ay<|bo<|ag fun bq=>p mv<|p (no aa)<|nl<|bq<|cb aa (fun aN=> ?_) fun aN=> ?_
 exact ag fun bs=>p (c8 (ps:= []) (L:= [.string ⟨⟨[]⟩⟩,.slice none 0 0]) pV aa<|aa)<|e<|dj oG aa aa aa aa (Wk.B an aH) (by simp) fun cT bX bH=>ay<|bs<|rt<|br<|tr<|tr<|br<|tr<|eD aa (dT (cs:= [str [],.slice none 0 0]) aa oB aa fun j A=>bH.bG j) ej<|⟨.inr ⟨120,Hu I J ah al ab (by simpa using ai) aj (i:=j) ab (by simpa using aN),az,aa⟩,(am.trans an).trans' bX fun q a h=>by omega⟩
 exact aQ<|bn<|ax<|rg aa<|au (ak j)<|p (ad aa aa<|bY ab)<|p aE<|nl<|tn<|⟨_,ab,j+1,ab,(fun q a=>by rcases fu q j with h | h <;> first | exact a4 q h | (rw [show q=j by omega]; simpa using aN)),an,aa,aa,aa,aa,aa,aa⟩
 exact ext<|bf<|bf<|be<|av<|ag fun ax=>au (str (bD<|r.getD 0 []).1)<|au (.slice C set.length E)<|p (c8 (ps:= [(0,str (bD<|r.getD 0 []).1),(1,.slice C set.length E)]) (L:= [str (bD<|r.getD 0 []).1,.slice C set.length E]) pV aa<|aa)<|e<|dj oG aa aa aa aa (Wk.B G aH) (by simp) fun cU a2 bI=>ay<|ax<|rt<|eD aa (dT (cs:= [str (bD<|r.getD 0 []).1,.slice C set.length E]) aa oB aa fun j A=>bI.bG j) ej<|⟨.inl ⟨((bD<|r.getD 0 []).1,set),.slice C set.length E,Bu I J ah al ab (by simpa using ai) aj (fun j A=>a4 j ab),aa,aa,(ao.wk G).md a2<|fz (Wk.aJ ((M.trans<|Y.trans hE52).trans G) aY) az⟩,(am.trans G).trans' a2 fun q a h=>by omega⟩
end Go.Hb.lG
end
section
namespace Go.Hb
open Go.Hb.lg Go.Hb.lG
theorem I1 {r:List Tx} (h:r.length≠1):ll r=(0,111):=if_pos h
theorem UN {r:List Tx} (h:r.length=1):ll r=ee (r.getD 0 []) 8192:=if_neg fun h2=>h2 h
theorem T3 (B fb:Nat) (F:aU) (V:eu) (t:Tx) (w:World) (cB:eI w B 0 fb F V) (cw:∃ seen,nG F [] seen) (c1:Nx F) (hs:t.length≤1048576):
 bp aw 73 (bh [aT fb,str t]) w (lH F t w):=by
 refine enter func73 aa ntmps73 aa<|ag fun b7=>p aE<|p aE<|ay<|b7<|aB fun cf=>rg aa<|au (str t)<|e<|cl FH (KX t _ hs) aa fun dG dl cC=> ?_
 obtain ⟨⟨dn,rfl,bD⟩,hE17⟩:=cC
 refine p mv<|p (xt aa aa)<|p (xt aa aa)<|p aE<|ay<|cf<|aB fun ck=>ag fun cm=>p mv<|p (cO aa aa)<|nl<|cm<|cd aa (fun a4=> ?_) fun a4=> ?_
 have bx:65536 < t.length:=MS fun h=>a4<|by rw [if_neg h]
 refine ag fun aV=>p mv<|p aE<|p aE<|ay<|aV<|rt<|tr<|f3 aa aa aa aa ?_
 have h:=lH.no (F:=F) (Hi bx) hE17
 show lH F t w (.tuple #[.slice none 0 0,.int .i64 0,.int .i64 (if 65536 < t.length then 10 else 0)]) _
 rw [if_pos bx]
 exact h
 have ao:¬65536 < t.length:=fun h=>a4<|by rw [if_pos h]; decide
 rw [if_neg ao] at bD
 obtain ⟨vs,b1,a9⟩:=bD
 obtain ⟨ar,cr,rfl⟩:=cE b1
 have dz:=yV t
 have cx:=(ba b1).2
 have dA:=a9.1
 refine aQ<|ck<|ag fun aV=>au (str t)<|e<|cl As (Dl t _ hs) aa fun v24 Z cF=> ?_
 obtain ⟨c2,ax⟩:=cF
 obtain ⟨b4,qp,rfl⟩:=cE c2
 have O:=hE17.trans ax
 have dv:=nY t
 have C:=cx.wk ax
 refine ay<|aV<|aB fun cn=>ag fun cp=>p mv<|p (bJ zj aa aa)<|p (bK aa aa)<|nl<|cp<|cd aa (fun a5=> ?_) fun a5=> ?_
 have c0:bR t= []:=fY ab
 exact ag fun aW=>p mv<|p (bJ eZ aa aa)<|p (bF (((bL t).length+1:Nat):Int) aa aa<|bl ab ab)<|p aE<|p aE<|p aE<|nl<|aW<|rt<|tr<|f3 aa aa aa aa<|lH.no (Hj ao c0) O
 obtain ⟨⟨av,A⟩,rest,hrw⟩:∃ q rest,bR t=q::rest:=by
  cases h:bR t with
  | nil=>rw [h] at a5; exact absurd rfl a5
  | cons q rest=>exact ⟨q,rest,rfl⟩
 have b3:(bR t)[0]? =some (av,A):=by rw [hrw]; rfl
 obtain ⟨b5,aq⟩:∃ p,vs[0]? =some p:=⟨_,cI ab⟩
 obtain ⟨aX,bi⟩:=a9.2 0 b5 (av,A) aq b3
 obtain ⟨df,dg⟩:=b5
 obtain rfl :av=df:=aX.symm
 obtain ⟨a0,bg,c4⟩:=bi.slice
 obtain rfl :dg= .slice a0 A.length bg:=c4
 have bv:Tg Z w.heap.size 9 A.length (.slice a0 A.length bg) (A.map str):=bi.wk ax
 have bU:∀ q∈bR t,q.2.length≤70000∧∀ x∈q.2,x.length≤70000:=fun q b2=>by
  have h:=yW b2
  exact ⟨ab,fun x dd=>by have :=(h.2.2.2.2 x dd).2; omega⟩
 have cZ:A.length≤70000∧∀ x∈A,x.length≤70000:=bU (av,A)<|iR b3
 refine aQ<|cn<|aB fun aW=>ag fun cq=>p mv<|p (bc nS aa aa ab<|aO.ok (C)<|lQ ab)<|p (fa vb aa)<|p (ld jT aa<|lR (i:=0) C aq 1 az)<|p (bJ eZ aa aa)<|p (cO aa aa)<|nl<|cq<|cd aa (fun bA=> ?_) fun bA=> ?_
 have bX:A.length≠1:=ab
 obtain ⟨bj,bO,cM⟩:=Bj (F:=F) ao hrw<|by rw [I1 bX]; decide
 rw [I1 bX] at bO
 obtain rfl :bj=111:=by have h:(111:Int)=bj:=bO; omega
 refine aB fun aL=> ?_
 have U:(fun w'=>Wk Z w') Z.drew:=(Md.refl _ _).drew
 exact bN (fun w'=>Wk Z w') aa wide U<|aH 0 aa (fun _ _=>mv) U<|aH 1 aa (fun _ _=>bc nS aa aa ab<|aO.ok (C)<|lQ ab) U<|aH 2 aa (fun _ _=>fa tt aa) U<|aH 3 aa (fun w' ae=>ld bz aa<|Wk.aR ae<|lR (i:=0) C aq 0 az) U<|aH 4 aa (fun _ _=>aE) U<|aH 5 aa (fun _ _=>aE) U<|aH 6 aa (fun _ _=>aE) U<|hn aj<|aL<|rt<|tr<|f3 aa aa aa aa<|lH.no cM<|O.trans U
 have dy:A.length=1:=by have h:¬((A.length:Nat):Int)≠1:=bA; omega
 refine aQ<|aW<|ag fun aL=>p mv<|p (bc nS aa aa ab<|aO.ok (C)<|lQ ab)<|p (fa vb aa)<|p (ld jT aa<|lR (i:=0) C aq 1 az)<|p (bc cR aa aa ab<|aO.ok (bv.cV.2)<|bT ab)<|p (ld bV aa<|cj.get (i:=0) bv.cV.2 ab)<|e<|cl rC (rX (A.getD 0 []) 8192 Z (by have :=cZ.2 _ (dY (d:= []) (show 0 < A.length by omega)); omega) ab) aa fun dH bb cG=> ?_
 obtain ⟨rfl,aA⟩:=cG
 have cy:=O.trans aA
 have aF:=UN (show A.length=1 by omega)
 refine p mv<|p (xt aa aa)<|p (xt aa aa)<|p aE<|ay<|aL<|aB fun b8=>ag fun b9=>p mv<|p (cO aa aa)<|nl<|b9<|cd aa (fun bB=> ?_) fun bB=> ?_
 obtain ⟨dq,bS,a2⟩:=Bj (F:=F) ao hrw<|by rw [aF]; exact bB
 rw [aF] at bS
 refine aB fun aM=> ?_
 have I:(fun w'=>Wk bb w') bb.drew:=(Md.refl _ _).drew
 refine bN (fun w'=>Wk bb w') aa wide I<|aH 0 aa (fun _ _=>mv) I<|aH 1 aa (fun _ _=>bc nS aa aa ab<|aO.ok (C.wk aA)<|lQ ab) I<|aH 2 aa (fun _ _=>fa tt aa) I<|aH 3 aa (fun w' ae=>ld bz aa<|Wk.aR ae<|lR (i:=0) (C.wk aA) aq 0 az) I<|aH 4 aa (fun _ _=>mv) I<|aH 5 aa (fun _ _=>aE) I<|aH 6 aa (fun _ _=>aE) I<|aH 7 aa (fun _ _=>aE) I<|hn aj<|aM<|rt<|tr<|f3 aa aa aa aa ?_
 have h:=lH.no a2<|cy.trans I
 show lH F t w (.tuple #[.slice none 0 0,ak av,.int .i64 (ee (A.getD 0 []) 8192).2]) _
 rw [bS]
 exact h
 obtain ⟨n,a7,dw,a2⟩:=Hf (F:=F) ao hrw<|by rw [aF]; omega
 rw [aF] at a7
 have cL:iS F ((bL t).length+1) (fq F t) [] (n - 0) ((bR t).drop<|0 +1):=by rw [a2,hrw]; exact iS.start
 obtain ⟨seen,cv⟩:=cw
 refine aQ<|b8<|ag fun aM=>ay<|aM<|aB fun ca=>ag fun cb=>ay<|cb<|aJ<|lp (fun bk ah Y=> ∃ (i:Nat) (xs:List bH) (vx:List Value) (ac:Option Addr) (co:Nat),(i+1≤(bR t).length∧i≤n)∧(xs.length=i)∧(iS F ((bL t).length+1) (fq F t) xs (n - i)<|(bR t).drop<|i+1)∧(bw Y Z.heap.size 169 2 (.slice ac xs.length co) xs.length<|kb<|xs.zip vx)∧(iu Y 0 3 vx<|xs.map (·.2))∧(Wk Z Y)∧(ah 0=aT fb)∧(ah 7= .slice ar (bR t).length cr)∧(ah 9= .slice b4 (bL t).length qp)∧(ah 10=ak n)∧(ah 11= .slice ac xs.length co)∧(ah 12=ak (i+1))∧((bR t).length - i=bk)) _ ⟨0,[],[],none,0,ab,aa,cL,(dC _ _ _ _),(iu.nil _ _ _),aA,aa,aa,aa,(by first | rfl | (rw [← a7]; rfl)),aa,aa,aa⟩ ?_
 rintro bk ah Y ⟨i,xs,vx,ac,co,hi,de,M,bu,a3,E,c6,da,db,c7,c8,c9,rfl⟩
 refine fx 0 c6<|fx 7 da<|fx 9 db<|fx 10 c7<|fx 11 c8<|fx 12 c9<|aB fun cc=>ag fun ce=>au (ak<|i+1)<|au (.slice ar (bR t).length cr)<|p (bJ zj aa aa)<|p (lt aa aa)<|nl<|ce<|cd aa (fun cQ=> ?_) fun cQ=> ?_
 refine aQ<|cc<|aB fun aN=>aJ<|aB fun aP=>aB fun am=> ?_
 obtain ⟨⟨ln,r⟩,hri⟩:∃ q,(bR t)[i+1]? =some q:=⟨_,cI ab⟩
 have cW:(bR t).drop (i+1)=(ln,r)::(bR t).drop (i+2):=by rw [List.drop_eq_getElem_cons ab]; rw [cI ab] at hri; rw [Option.some.inj hri]
 obtain ⟨p,aI⟩:∃ p,vs[i+1]? =some p:=⟨_,cI ab⟩
 obtain ⟨aX,aD⟩:=a9.2 (i+1) p (ln,r) aI hri
 obtain ⟨dh,dj⟩:=p
 obtain rfl :ln=dh:=aX.symm
 obtain ⟨a,c,c5⟩:=aD.slice
 obtain rfl :dj= .slice a r.length c:=c5
 have aD:Tg dl w.heap.size 9 r.length (.slice a r.length c) (r.map str):=aD
 have bW:r.length≤70000∧∀ x∈r,x.length≤70000:=bU (ln,r)<|iR hri
 rw [cW] at M
 refine rg aa<|au (ak<|i+1)<|au (ak n)<|p (gt aa aa)<|nl<|am<|cd aa (fun cS=> ?_) fun cS=> ?_
 refine aB fun aS=> ?_
 have J:(fun w'=>Wk Y w') Y.drew:=(Md.refl _ _).drew
 refine bN (fun w'=>Wk Y w') aa wide J<|bI 0 aa (.slice ar (bR t).length cr) J<|bI 1 aa (ak<|i+1) J<|aH 2 aa (fun _ _=>bc nS aa aa ab<|aO.ok (C.wk E)<|lQ ab) J<|aH 3 aa (fun _ _=>fa tt aa) J<|aH 4 aa (fun w' ae=>ld bz aa<|Wk.aR ae<|lR (C.wk E) aI 0 az) J<|aH 5 aa (fun _ _=>aE) J<|aH 6 aa (fun _ _=>aE) J<|aH 7 aa (fun _ _=>aE) J<|hn aj<|aS<|rt<|tr<|br<|tr<|tr<|br<|tr<|f3 aa aa aa aa ?_
 rw [show n - i=0 by omega] at M
 exact lH.no M.more<|O.trans<|E.trans J
 refine aQ<|aP<|ag fun aS=>au (aT fb)<|au (.slice ar (bR t).length cr)<|au (ak<|i+1)<|p (bc nS aa aa ab<|aO.ok (C.wk E)<|lQ ab)<|p (fa vb aa)<|p (ld jT aa<|lR (C.wk E) aI 1 az)<|e<|cl Pa (T5 B fb F V r w.heap.size a c Y (cB.wk<|O.trans E) ⟨seen,cv⟩ c1 ((aD.wk ax).wk E) bW.2 bW.1) aa fun dk dm cH=> ?_
 obtain ⟨cA,bq⟩:=cH
 obtain ⟨ai,an,cs,rfl,b0,bE⟩:∃ (u:Tx) (a:Value) (e:Nat),dk= .tuple #[.agg [str u,a].toArray,ak e]∧a.oneCell'=true∧((e=0∧∃ l,ga F r= .ok (u,l)∧Tg dm 0 3 l.length a (l.map bQ))∨(e≠0∧ga F r= .error e)):=by
  rcases cA with ⟨x,a,h1,h2,h3,h4⟩ | ⟨e,h1,h2,h3⟩
  exact ⟨x.1,a,0,h2,h3,.inl ⟨aa,x.2,h1,h4⟩⟩
  exact ⟨_,_,e,h3,aa,.inr ⟨h2,h1⟩⟩
 have dD:=bq.size
 refine p mv<|p (xt aa aa)<|p (xt aa aa)<|e<|fg ME fun bd dI dr a1 bm=> ?_
 have dB:=a1.size
 refine e<|gj oG aa aa aa (zh b0) bm az fun al bs ct=> ?_
 have bo:Wk Y al:=(bq.trans a1.md).trans' bs fun q b2 h=>by omega
 have cP:al.heap[bd]? =some (.cells [str ai,an].toArray 169 (0,0)):=ct
 have aY:=E.trans bo
 refine ay<|aS<|aB fun cg=>ag fun ch=>p mv<|p (cO aa aa)<|nl<|ch<|cd aa (fun bC=> ?_) fun bC=> ?_
 have a8:=bE.resolve_left fun h=>bC<|by rw [h.1]; rfl
 obtain ⟨dx,hex⟩:=a8
 refine aB fun ci=> ?_
 have G:(fun w'=>Wk al w') al.drew:=(Md.refl _ _).drew
 exact bN (fun w'=>Wk al w') aa wide G<|bI 0 aa (.slice ar (bR t).length cr) G<|bI 1 aa (ak<|i+1) G<|aH 2 aa (fun _ _=>bc nS aa aa ab<|aO.ok (C.wk aY)<|lQ ab) G<|aH 3 aa (fun _ _=>fa tt aa) G<|aH 4 aa (fun w' ae=>ld bz aa<|Wk.aR ae<|lR (C.wk aY) aI 0 az) G<|aH 5 aa (fun _ _=>mv) G<|aH 6 aa (fun _ _=>aE) G<|aH 7 aa (fun _ _=>aE) G<|aH 8 aa (fun _ _=>aE) G<|hn aj<|ci<|rt<|tr<|br<|tr<|tr<|br<|tr<|f3 aa aa aa aa<|lH.no (M.bad ab hex)<|O.trans<|aY.trans G
 have cX:cs=0:=ab
 have a8:=bE.resolve_right fun h=>h.1 cX
 obtain ⟨_,aK,hex,cJ⟩:=a8
 refine aQ<|cg<|rg aa<|au (.slice ac xs.length co)<|p (di oB aa (aa) (show ∀ j,j < 2→Hb.aR al.heap bd (0 +j)= [str ai,an][j]? from fun j du=>bP.bG ⟨_,cP⟩ j))<|e<|kQ Ls aa aa aa fun dp dJ ds bt cu=> ?_
 have aC:=bo.trans bt.md
 have aG:=a6 bu aC
 have dE:=aC.size
 refine e<|ap Ls (aG) aa (by have :=E.size; omega) aa (aO.ec cu) (aa) (zh b0) ab ab fun v93 b6 c3 aZ dF dt=> ?_
 have cz:=Wk.own (E.trans aC) aG aZ<|cD _
 have bZ:bw b6 Z.heap.size 169 2 v93 (xs++ [(ai,aK)]).length (kb<|(xs++ [(ai,aK)]).zip<|vx++ [an]):=by
  have cY:xs.length=vx.length:=by have :=a3.1; rw [fM] at this; omega
  rw [EI cY,List.zip_cons_cons,List.zip_nil_right,Hp,bM]; exact c3
 have cN:iu b6 0 3 (vx++ [an]) ((xs++ [(ai,aK)]).map (·.2)):=by
  rw [ir]
  exact ((a3.wk aC).md aZ<|ik aG az).snoc (((cJ.wk a1.md).md bs<|fz bm az).wk bt.md |>.md aZ (ik aG az))
 obtain ⟨a93,xB,dc⟩:=cE bZ
 subst dc
 exact p aE<|nl<|bn<|aN<|rg aa<|au (ak<|i+1)<|p (ad aa aa<|bY ab)<|p aE<|nl<|tn<|⟨_,ab,i+1,xs++ [(ai,aK)],vx++ [an],a93,xB,ab,(by rw [bM,de]; rfl),(by rw [show n - (i+1)=n - i - 1 by omega]; exact M.step ab hex),bZ,cN,cz,aa,aa,aa,(by first | rfl | (rw [← a7]; rfl)),aa,aa,aa⟩
 refine ext<|bf<|bf<|be<|ca<|aB fun aN=>ag fun aP=>au (.slice ac xs.length co)<|p (bJ zk aa aa)<|au (ak n)<|p (lt aa aa)<|nl<|aP<|cd aa (fun cT=> ?_) fun cT=> ?_
 refine ag fun am=>au (.slice b4 (bL t).length qp)<|p (bJ eZ aa aa)<|p (bF (((bL t).length+1:Nat):Int) aa aa<|bl ab ab)<|p aE<|p aE<|p aE<|nl<|am<|rt<|tr<|f3 aa aa aa aa ?_
 rw [gV ab] at M
 exact lH.no (M.ends ab)<|O.trans E
 refine aQ<|aN<|ag fun am=>au (.slice ac xs.length co)<|p (cU (.slice ac xs.length co) aa)<|p aE<|p aE<|nl<|am<|rt<|f3 aa aa aa aa ?_
 rw [gV ab,show n - i=0 by omega] at M
 have cK:=M.done
 unfold lH
 rw [cK]
 exact ⟨⟨_,aa,⟨vx,eE bu O.size,a3⟩⟩,O.trans E⟩
end Go.Hb
end
namespace Go.Hb.lV
def Ny (F:aU):Prop := ∀ l∈F.aliases,∀ x∈l,x < 65536
theorem Ix {kind:Nat} {s:Tx} {l:List Nat} (h:kT kind s= .ok l):∀ x∈l,x < 65536:=by
 unfold kT at h
 split at h
 · cases h
 · cases h
   intro x a
   unfold ed at a
   repeat' split at a
   all_goals first
    | (cases a; done)
    | (rw [CX] at a
       obtain ⟨y,_,rfl⟩:=List.mem_map.1 a
       exact HV _ _)
theorem Ot {kind ln:Nat} {row:List Tx} {l:List Nat} (h:ky kind ln row= .ok l):∀ x∈l,x < 65536:=by
 unfold ky at h
 split at h
 · cases h
 · exact Ix h
theorem TB {kind:Nat} {al:List (List Nat)} {s:Tx} {l:List Nat} (a:∀ l∈al,∀ x∈l,x < 65536) (h:fX kind al s= .ok l):∀ x∈l,x < 65536:=by
 unfold fX at h
 split at h
 · exact Ix h
 · split at h
   · cases h
   · split at h
     · cases h
     · cases h
       rename_i n _ _
       rw [da]
       cases hg:al[n - 1]? with
       | none=>simp
       | some y=>exact a y<|iR hg
theorem UR {eof ln:Nat} {F F':aU} {hs:List Tx} {rows rows':List Rw} {row:List Tx} (h:Ny F) (a:cw eof F hs rows ln row= .ok (F',rows')):Ny F':=by
 unfold cw at a
 repeat' split at a
 · unfold ko at a; repeat' split at a
   all_goals first | (cases a; done) | (cases a; exact h)
 · unfold kH at a; repeat' split at a
   all_goals first | (cases a; done) | (cases a; exact h)
 · unfold mN at a; repeat' split at a
   all_goals first | (cases a; done) | (cases a; exact h)
 · unfold mR at a; repeat' split at a
   all_goals first | (cases a; done) | (cases a; exact h)
 · unfold kX at a; repeat' split at a
   all_goals first | (cases a; done) | (cases a; exact h)
 · unfold km at a; repeat' split at a
   all_goals first | (cases a; done) | (cases a; exact h)
 · unfold jU at a
   split at a
   · cases a
   · split at a
     · cases a
     · split at a
       · cases a
       · rename_i r q
         cases a
         intro l i
         rcases jF.1 i with i | i
         · exact h l i
         · obtain ⟨_,_,h2⟩:=Cm _ _ _ q l i
           exact Ot h2
 · unfold gO at a; repeat' split at a
   all_goals first | (cases a; done) | (cases a; exact h)
theorem Xi {eof:Nat} :∀ (k:Nat) (F F':aU) (hs:List Tx) (rows:List Rw),Ny F→gM eof k F hs rows= .ok F'→Ny F':=by
 intro k
 induction k with
 | zero=>intro F F' hs rows h a; rw [gM] at a; split at a <;> cases a; exact h
 | succ k A=>
   intro F F' hs rows h a
   cases rows with
   | nil=>rw [vG] at a; cases a; exact h
   | cons q rows=>
     rw [gM] at a
     split at a
     · cases a
     · split at a
       · cases a
       · split at a
         · cases a
         · split at a
           · cases a
           · rename_i r i
             exact A _ _ _ _ (UR (rows':=r.2) h i) a
theorem E1 {s:Tx} {F:aU} (h:fy s= .ok F):Ny F:=by
 unfold fy at h
 split at h
 · cases h
 · split at h
   · cases h
   · rename_i f a
     split at h
     · cases h
     · cases h
       exact Xi _ _ _ _ _ (fun l i=>by cases i) a
def xf (x:bH):Prop :=x.1.length≤64∧x.2.length≤64∧(∀ y∈x.2,y < 65536)
theorem xU {F:aU} {row:List Tx} {x:bH} (h1:Nx F) (h2:Ny F) (h:ga F row= .ok x):xf x:=by
 unfold ga at h
 split at h
 · cases h
 · split at h
   · cases h
   · split at h
     · cases h
     · split at h
       · cases h
       · split at h
         · cases h; exact ⟨by simp only; omega,by simp,fun y i=>by cases i⟩
         · split at h
           · cases h
           · rename_i a
             split at h
             · cases h
               exact ⟨by simp only; omega,x7 h1.1 a,TB h2 a⟩
             · cases h
theorem SY {F:aU} {eof:Nat} (h1:Nx F) (h2:Ny F):∀ {n:Nat} {rows:List Rw} {r:List bH},fi F eof n rows= .ok r→∀ x∈r,xf x:=by
 intro n
 induction n with
 | zero=>
   intro rows r h
   cases rows with
   | nil=>rw [fi] at h; cases h; intro x a; cases a
   | cons q rows=>rw [fi] at h; cases h
 | succ n A=>
   intro rows r h
   cases rows with
   | nil=>rw [fi] at h; cases h
   | cons q rows=>
     rw [fi] at h
     split at h
     · cases h
     · rename_i he
       split at h
       · cases h
       · rename_i i
         cases h
         intro x a
         rcases List.mem_cons.1 a with rfl | a
         · exact xU h1 h2 he
         · exact A i x a
theorem Hg {F:aU} {t:Tx} {xs:List bH} (h1:Nx F) (h2:Ny F) (h:fq F t= .ok xs):(∀ x∈xs,xf x)∧xs.length≤8192:=by
 unfold fq at h
 split at h
 · cases h
 · split at h
   · cases h
   · split at h
     · cases h
     · split at h
       · cases h
       · rename_i hn
         refine ⟨SY h1 h2 h,?_⟩
         have i:=(S1 h).1
         unfold e5 at hn
         split at hn
         · cases hn
         · cases hn
           rename_i a
           have :=qN _ 8192<|jr.1 a
           omega
theorem qB {F:aU} {s:Tx} {e:Nat} (h:gK F s= .error e):e≠0:=by
 unfold gK at h; repeat' split at h
 all_goals first | (cases h; done) | (cases h; decide) | (cases h; assumption)
theorem Iw {k:Nat} {s:Tx} {e:Nat} (h:kT k s= .error e):e≠0:=by
 unfold kT at h; repeat' split at h
 all_goals first | (cases h; done) | (cases h; assumption)
theorem pR {s:Tx} {m:Int} {e:Nat} (h:e5 s m= .error e):e≠0:=by
 unfold e5 at h; repeat' split at h
 all_goals first | (cases h; done) | (cases h; decide)
theorem H2 {k:Nat} {al:List (List Nat)} {s:Tx} {e:Nat} (h:fX k al s= .error e):e≠0:=by
 unfold fX at h; repeat' split at h
 all_goals first | exact Iw h | (cases h; done) | (cases h; decide)
theorem Kw {b:Bool} {s:Tx} {e:Nat} (h:eF b s= .error e):e≠0:=by
 unfold eF at h; repeat' split at h
 all_goals first | (cases h; done) | (cases h; decide) | (cases h; assumption)
theorem Oj {r:lI} {e:Nat} (h:jK r= .error e):e≠0:=by
 unfold jK at h; repeat' split at h
 all_goals first | (cases h; done) | (cases h; assumption)
theorem Wi {k a:Nat} {al:List (List Nat)} {r:lI} {e:Nat} (h:kY k al a r= .error e):e≠0:=by
 unfold kY at h; repeat' split at h
 all_goals first | exact H2 h | (cases h; done) | (cases h; decide)
theorem RL {r:List Tx} {e:Nat} (h:kR r= .error e):e≠0:=by
 unfold kR at h; repeat' split at h
 all_goals first | (cases h; done) | (cases h; decide) | (cases h; assumption)
theorem qS {k ln:Nat} {al:List (List Nat)} {c:dm} {r:List Tx} {e:Nat} (h:fI k al c ln r= .error e):e≠0:=by
 unfold fI at h; repeat' split at h
 all_goals first
  | (cases h; done)
  | (cases h; decide)
  | (cases h; exact Kw<|by assumption)
  | (cases h; exact Oj<|by assumption)
  | (cases h; exact Wi<|by assumption)
  | (cases h; exact RL<|by assumption)
theorem qR {ln:Nat} {r:List Tx} {e:Nat} (h:kJ ln r= .error e):e≠0:=by
 unfold kJ at h; repeat' split at h
 all_goals first
  | (cases h; done)
  | (cases h; decide)
  | (cases h; exact Kw<|by assumption)
theorem qi {k ln:Nat} {r:List Tx} {e:Nat} (h:ky k ln r= .error e):e≠0:=by
 unfold ky at h; repeat' split at h
 all_goals first | exact Iw h | (cases h; decide)
theorem jd {α:Type} {hd:List Tx} {rd:Nat→List Tx→Except Nat α} {eof:Nat} (a:∀ l r e,rd l r= .error e→e≠0):∀ {n:Nat} {rows:List Rw} {l e:Nat},group hd rd eof n rows= .error (l,e)→e≠0:=by
 intro n
 induction n with
 | zero=>intro rows l e h; rw [group] at h; cases h
 | succ n i=>
   intro rows l e h
   cases rows with
   | nil=>rw [group] at h; cases h; decide
   | cons q rows=>
     rw [group] at h
     split at h
     · cases h; decide
     · split at h
       · rename_i he; cases h; exact a _ _ _ he
       · split at h
         · rename_i he; cases h; exact i he
         · cases h
theorem UQ {eof ln l e:Nat} {F:aU} {hs:List Tx} {rows:List Rw} {row:List Tx} (h:cw eof F hs rows ln row= .error (l,e)):e≠0:=by
 unfold cw at h
 repeat' split at h
 · unfold ko at h; repeat' split at h
   all_goals first
    | (cases h; done)
    | (cases h; decide)
    | (cases h; assumption)
    | (cases h; exact qB<|by assumption)
    | (cases h; exact pR<|by assumption)
    | (cases h; exact jd (fun _ _ _ h=>qR h)<|by assumption)
    | (cases h; exact jd (fun _ _ _ h=>qi h)<|by assumption)
    | (cases h; exact jd (fun _ _ _ h=>qS h)<|by assumption)
 · unfold kH at h; repeat' split at h
   all_goals first
    | (cases h; done)
    | (cases h; decide)
    | (cases h; assumption)
    | (cases h; exact qB<|by assumption)
    | (cases h; exact pR<|by assumption)
    | (cases h; exact jd (fun _ _ _ h=>qR h)<|by assumption)
    | (cases h; exact jd (fun _ _ _ h=>qi h)<|by assumption)
    | (cases h; exact jd (fun _ _ _ h=>qS h)<|by assumption)
 · unfold mN at h; repeat' split at h
   all_goals first
    | (cases h; done)
    | (cases h; decide)
    | (cases h; assumption)
    | (cases h; exact qB<|by assumption)
    | (cases h; exact pR<|by assumption)
    | (cases h; exact jd (fun _ _ _ h=>qR h)<|by assumption)
    | (cases h; exact jd (fun _ _ _ h=>qi h)<|by assumption)
    | (cases h; exact jd (fun _ _ _ h=>qS h)<|by assumption)
 · unfold mR at h; repeat' split at h
   all_goals first
    | (cases h; done)
    | (cases h; decide)
    | (cases h; assumption)
    | (cases h; exact qB<|by assumption)
    | (cases h; exact pR<|by assumption)
    | (cases h; exact jd (fun _ _ _ h=>qR h)<|by assumption)
    | (cases h; exact jd (fun _ _ _ h=>qi h)<|by assumption)
    | (cases h; exact jd (fun _ _ _ h=>qS h)<|by assumption)
 · unfold kX at h; repeat' split at h
   all_goals first
    | (cases h; done)
    | (cases h; decide)
    | (cases h; assumption)
    | (cases h; exact qB<|by assumption)
    | (cases h; exact pR<|by assumption)
    | (cases h; exact jd (fun _ _ _ h=>qR h)<|by assumption)
    | (cases h; exact jd (fun _ _ _ h=>qi h)<|by assumption)
    | (cases h; exact jd (fun _ _ _ h=>qS h)<|by assumption)
 · unfold km at h; repeat' split at h
   all_goals first
    | (cases h; done)
    | (cases h; decide)
    | (cases h; assumption)
    | (cases h; exact qB<|by assumption)
    | (cases h; exact pR<|by assumption)
    | (cases h; exact jd (fun _ _ _ h=>qR h)<|by assumption)
    | (cases h; exact jd (fun _ _ _ h=>qi h)<|by assumption)
    | (cases h; exact jd (fun _ _ _ h=>qS h)<|by assumption)
 · unfold jU at h; repeat' split at h
   all_goals first
    | (cases h; done)
    | (cases h; decide)
    | (cases h; assumption)
    | (cases h; exact qB<|by assumption)
    | (cases h; exact pR<|by assumption)
    | (cases h; exact jd (fun _ _ _ h=>qR h)<|by assumption)
    | (cases h; exact jd (fun _ _ _ h=>qi h)<|by assumption)
    | (cases h; exact jd (fun _ _ _ h=>qS h)<|by assumption)
 · unfold gO at h; repeat' split at h
   all_goals first
    | (cases h; done)
    | (cases h; decide)
    | (cases h; assumption)
    | (cases h; exact qB<|by assumption)
    | (cases h; exact pR<|by assumption)
    | (cases h; exact jd (fun _ _ _ h=>qR h)<|by assumption)
    | (cases h; exact jd (fun _ _ _ h=>qi h)<|by assumption)
    | (cases h; exact jd (fun _ _ _ h=>qS h)<|by assumption)
theorem Xh {eof:Nat} :∀ (k:Nat) (F:aU) (hs:List Tx) (rows:List Rw) (l e:Nat),rows.length≤k→gM eof k F hs rows= .error (l,e)→e≠0:=by
 intro k
 induction k with
 | zero=>
   intro F hs rows l e hk a
   obtain rfl :=fY<|Nat.le_zero.1 hk
   rw [vG] at a; cases a
 | succ k A=>
   intro F hs rows l e hk a
   cases rows with
   | nil=>rw [vG] at a; cases a
   | cons q rows=>
     rw [gM] at a
     split at a
     · cases a; decide
     · split at a
       · cases a; decide
       · split at a
         · cases a; decide
         · split at a
           · rename_i he; cases a; exact UQ he
           · rename_i r i
             have h1:=qE (rows':=r.2) i
             simp only [c7] at hk
             exact A _ _ _ _ _ ab a
theorem On {s:Tx} {l e:Nat} (h:fy s= .error (l,e)):e≠0:=by
 unfold fy at h
 split at h
 · cases h; decide
 · split at h
   · rename_i he; cases h; exact Xh _ _ _ _ _ _ (cD _) he
   · split at h
     · cases h; decide
     · cases h
theorem SS {F:aU} {row:List Tx} {e:Nat} (h:ga F row= .error e):e≠0:=by
 unfold ga at h
 repeat' split at h
 all_goals first
  | (cases h; done)
  | (cases h; decide)
  | (cases h; assumption)
  | (cases h; exact H2<|by assumption)
theorem S2 {F:aU} {eof l e:Nat} :∀ {n:Nat} {rows:List Rw},fi F eof n rows= .error (l,e)→e≠0:=by
 intro n
 induction n with
 | zero=>
   intro rows h
   cases rows with
   | nil=>rw [fi] at h; cases h
   | cons q rows=>rw [fi] at h; cases h; decide
 | succ n a=>
   intro rows h
   cases rows with
   | nil=>rw [fi] at h; cases h; decide
   | cons q rows=>
     rw [fi] at h
     split at h
     · rename_i he; cases h; exact SS he
     · split at h
       · rename_i he; cases h; exact a he
       · cases h
theorem SE {F:aU} {t:Tx} {l e:Nat} (h:fq F t= .error (l,e)):e≠0:=by
 unfold fq at h
 split at h
 · cases h; decide
 · split at h
   · cases h; decide
   · split at h
     · cases h; decide
     · split at h
       · rename_i he; cases h; exact pR he
       · exact S2 h
end Go.Hb.lV
section
namespace Go.Hb
open Go.Hb.iw Go.Hb.lG Go.Hb.lV Go.Hb.lg
noncomputable def lC (a t:Tx):Option (aU×List bH):=match fy a with
 | .error _=>none
 | .ok F=>match fq F t with
   | .error _=>none
   | .ok xs=>some (F,xs)
theorem LM {a t:Tx} {e:Nat×Nat} (h:fy a= .error e):lC a t=none:=by unfold lC; rw [h]
theorem LN {a t:Tx} {F:aU} {e:Nat×Nat} (h:fy a= .ok F) (h1:fq F t= .error e):lC a t=none:=by unfold lC; rw [h]; simp only; rw [h1]
theorem DL {a t:Tx} {F:aU} {xs:List bH} (h:fy a= .ok F) (h1:fq F t= .ok xs):lC a t=some (F,xs):=by unfold lC; rw [h]; simp only; rw [h1]
structure eN (F:aU) (xs:List bH):Prop where
 len:F.dt.length+F.aliases.length+F.bA.length+F.rules.length≤70000
 nx:Nx F
 uP:∀ x∈xs,xf x
 xl:xs.length≤8192
 fs:sG F
 cls:pw F
 SP:∀ x∈xs,la x.2
 fR:F.sp.length=5
 ne:∀ x∈xs,1≤x.1.length
theorem Aa {s:Tx} {F:aU} (h:fy s= .ok F):Nx F:=EZ (Q:=Nx) ⟨fun l a=>(by cases a),fun l a=>by cases a⟩ (fun _ _ _ _ _ _ _ _ h i=>yz h i) h
theorem eN.of {a t:Tx} {F:aU} {xs:List bH} (h:fy a= .ok F) (h1:fq F t= .ok xs) (i:∃ seen,kM F [] seen) (h5:F.sp.length=5):eN F xs:=by
 obtain ⟨seen,i⟩:=i
 have A:=i.len
 have q:=Hg (Aa h) (E1 h) h1
 exact ⟨by simpa using A,Aa h,q.1,q.2,(z8 h).1,(z8 h).2,SD (z8 h).1 h1,h5,SG h1⟩
theorem eN.iN {F:aU} {xs:List bH} (h:eN F xs) {i:Nat} {r:dp} (a:F.rules[i]? =some r):r.next.length≤64∧la r.next∧jS r:=⟨h.nx.2 r (iR a),h.fs.2 r<|iR a⟩
structure iy where
 fb:Nat
 mc:Nat
 wb:Nat
 mb:Nat
 V:ff
 V2:ff
 va:Value
 ve:Value
 vs:List Value
 ws:List Value
def YV (F:aU) (a:iy):List Value:= .pointer (some ⟨a.fb,0,none⟩):: .pointer (some ⟨a.wb,0,none⟩)::(lK F a.V2++ [a.ve])
structure fW (w:World) (B tb:Nat) (U:iy) (F:aU) (xs:List bH):Prop where
 cells:w.heap[tb]? =some (.cells (YV F U).toArray 64 (0,0))
 fl:dX w B U.fb U.mc F U.V
 ax:po w B F U.V2
 wd:k9 w B U.wb U.mb U.va U.vs xs
 oe:bw w B 72 2 U.ve xs.length (kb<|xs.zip U.ws)
 ef:eB w B 51 U.ws (xs.map (·.2))
theorem Ap {G:Nat→Prop} {w w':World} {B:Nat} {F:aU} {V:ff} (h:po w B F V) (hm:Md G w w') {L:List Nat} (a:TF w L G) (i:(L.contains 130 || L.contains 72 || L.contains 53 || L.contains 133 || L.contains 79)=false):po w' B F V:=by
 simp only [nA] at i
 obtain ⟨⟨⟨⟨h1,h2⟩,h3⟩,h4⟩,h5⟩:=i
 have q:∀ k,G k→∀ cur z,w.heap[k]?≠some (.cells cur 51 z):=fun k hk cur z A=>a.no (dA A) h3 hk
 exact ⟨cx h.o9 hm a h1,cx h.eY hm a h2,h.al.md hm q,cx h.ez hm a h4,cx h.dK hm a h5,h.nx.md hm q⟩
theorem fW.vq {G:Nat→Prop} {w w':World} {B tb:Nat} {i:iy} {F:aU} {xs:List bH} (h:fW w B tb i F xs) (hm:Md G w w') {L:List Nat} (a:TF w L G) (q:(L.contains 127 || L.contains 130 || L.contains 72 || L.contains 53 || L.contains 133 || L.contains 79 || L.contains 188 || L.contains 74 || L.contains 5 || L.contains 66)=false) (I:¬G i.mc) (E:¬G i.mb):fW w' B tb i F xs:=by
 simp only [nA] at q
 obtain ⟨⟨⟨⟨⟨⟨⟨⟨⟨h1,h2⟩,h3⟩,h4⟩,h5⟩,h6⟩,h7⟩,h8⟩,h9⟩,h10⟩:=q
 have A:∀ k,G k→∀ cur z,w.heap[k]?≠some (.cells cur 51 z):=fun k hk cur z C=>a.no (dA C) h4 hk
 exact ⟨hm.ic a h.cells h10,h.fl.md hm a (by rw [h1,h2,h3,h4,h5,h6]; rfl) I,Ap h.ax hm a (by rw [h2,h3,h4,h5,h6]; rfl),h.wd.md hm a (by rw [h7,h8,h4,h9]; rfl) E,cx h.oe hm a h8,h.ef.md hm A⟩
theorem fW.wk {w w':World} {B tb:Nat} {a:iy} {F:aU} {xs:List bH} (h:fW w B tb a F xs) (hm:Wk w w'):fW w' B tb a F xs:=h.vq (L:= []) hm (fun _ hk=>hk.elim) rfl id id
theorem OR {w w':World} {B:Nat} {F:aU} {V:ff} (h:po w B F V) (hm:Wk w w'):po w' B F V:=Ap (L:= []) h hm (fun _ hk=>hk.elim) rfl
theorem OP {w:World} {B B':Nat} {F:aU} {V:ff} (h:po w B F V) (a:B'≤B):po w B' F V:=⟨eE h.o9 a,eE h.eY a,h.al.mono a,eE h.ez a,eE h.dK a,h.nx.mono a⟩
theorem Xe {s:Tx} {w w':World} {v:Value} (h:pz s w v w'):∃ p q A C,v= .tuple #[.pointer p,.agg [.int .i64 q,.int .i64 A,.int .i64 C].toArray]∧((p=none∧∃ e,fy s= .error e)∨(∃ F fb mc V,p=some ⟨fb,0,none⟩∧fy s= .ok F∧dX w' w.heap.size fb mc F V∧(∃ seen,kM F [] seen)∧Nx F))∧Wk w w':=by
 obtain ⟨h,a⟩:=h
 cases hx:fy s with
 | error e=>rw [hx] at h; exact ⟨_,_,_,_,h,.inl ⟨rfl,e,rfl⟩,a⟩
 | ok F=>rw [hx] at h; obtain ⟨fb,mc,V,i,h1,h2,h3⟩:=h; exact ⟨_,_,_,_,i,.inr ⟨F,fb,mc,V,rfl,rfl,h1,h2,h3⟩,a⟩
theorem SN {F:aU} {s:Tx} {w w':World} {v:Value} (h:lW F s w v w'):∃ p q A C,v= .tuple #[.pointer p,.agg [.int .i64 q,.int .i64 A,.int .i64 C].toArray]∧((p=none∧∃ e,fq F s= .error e)∨(∃ xs B wb mb va vs,p=some ⟨wb,0,none⟩∧fq F s= .ok xs∧w.heap.size≤B∧k9 w' B wb mb va vs xs∧w.heap.size≤wb∧w.heap.size≤mb))∧Wk w w':=by
 obtain ⟨h,a⟩:=h
 cases hx:fq F s with
 | error e=>rw [hx] at h; exact ⟨_,_,_,_,h,.inl ⟨rfl,e,rfl⟩,a⟩
 | ok xs=>rw [hx] at h; obtain ⟨B,wb,mb,va,vs,h1,i,h2,h3,h4⟩:=h; exact ⟨_,_,_,_,i,.inr ⟨xs,B,wb,mb,va,vs,rfl,rfl,h1,h2,h3,h4⟩,a⟩
def uz (a t:Tx) (w:World) (v:Value) (w':World):Prop :=(∃ p q A C,v= .tuple #[.pointer p,.agg [.int .i64 q,.int .i64 A,.int .i64 C].toArray]∧match lC a t with
 | none=>p=none
 | some T=> ∃ B tb i,w.heap.size≤B∧p=some ⟨tb,0,none⟩∧fW w' B tb i T.1 T.2∧eN T.1 T.2)∧Wk w w'
theorem uz.no {a t:Tx} {w w':World} {i q A:Int} (h:lC a t=none) (hm:Wk w w'):uz a t w (.tuple #[.pointer none,.agg [.int .i64 i,.int .i64 q,.int .i64 A].toArray]) w':=⟨⟨none,i,q,A,rfl,by rw [h]⟩,hm⟩
theorem Zz {w:World} {B B':Nat} {f:Value→Option Value} {xs:List bH} (h:mZ w B f xs) (a:B'≤B):mZ w B' f xs:=⟨fun s=>eE (h.own s) a,h.nil⟩
theorem SO {w:World} {B B' wb mb:Nat} {va:Value} {vs:List Value} {xs:List bH} (h:k9 w B wb mb va vs xs) (a:B'≤B):k9 w B' wb mb va vs xs:=by
 obtain ⟨f,i,q⟩:=h.mp
 exact ⟨h.cells,eE h.own a,h.fl.mono a,f,i,Zz q a⟩
theorem LU (a t:Tx) (w:World) (bS:a.length≤1048576) (b4:t.length≤1048576):
 bp aw 19 (bh [str a,str t]) w (uz a t w):=by
 refine enter func19 aa ntmps19 aa<|ag fun bn=>p aE<|e<|fg p7 fun A ah ce an ai=> ?_
 have cr:=an.size
 refine nl<|bn<|ag fun bq=>au (str a)<|e<|cl Qt (Om a ah bS) aa fun v12 bl bJ=> ?_
 have bX:=Xe bJ
 obtain ⟨pp,bc,bd,bf,rfl,bb,aI⟩:=bX
 have cj:=aI.size
 refine p mv<|p (xt aa aa)<|p (xt aa aa)<|e<|fg p7 fun aS cz cf a3 bA=> ?_
 have ct:=a3.size
 refine p aE<|e<|gj jV aa aa aa aa bA az fun O aY aD=> ?_
 have aG:Wk bl O:=a3.md.trans' aY fun q E h=>by omega
 have aW:=aI.trans aG
 have ci:=aY.size
 have b2:bP O.heap aS [.int .i64 bc,.int .i64 bd,.int .i64 bf]:=⟨_,aD⟩
 refine nl<|bq<|aB fun br=>ag fun bs=>p mv<|p (lN vV aa aa)<|nl<|bs<|cb aa (fun aq=> ?_) fun aq=> ?_
 obtain ⟨rfl,e,C⟩:pp=none∧∃ e,fy a= .error e:=by rcases bb with h | ⟨_,_,_,_,rfl,_⟩ <;> first | exact h | cases aq
 refine aB fun ax=> ?_
 have ao:(fun w'=>Md (fun q=>q=A) O w') O.drew:=(Md.refl _ _).drew
 refine bN (fun w'=>Md (fun q=>q=A) O w') aa wide ao<|aH 0 aa (fun w' I=>di lh aa (aa) fun j M=>(Md.B I b2 fun h=>by omega).bG j) ao<|aH 1 aa (fun _ _=>aE) ao<|he 2 aa aj<|gj jV aa aa aa aa (Wk.aJ aW ai) az fun b6 bH bw=> ?_
 have a4:(fun w'=>Md (fun q=>q=A) O w') b6:=ao.trans' bH fun q E h=>h
 refine ⟨a4,?_⟩
 exact hn aj<|ax<|rt<|tr<|eD aa ej (dT (cs:= [.int .i64 bc,.int .i64 bd,.int .i64 bf]) aa lh aa fun j M=>(a7 bw).trans<|by match j,M with | 0,_=>rfl | 1,_=>rfl | 2,_=>rfl)<|uz.no (LM C)<|(an.md.trans aW).trans' a4 fun q E h=>by omega
 obtain ⟨F,fb,mc,V,rfl,C,al,aV,a2⟩:=bb.resolve_left fun h=>by rw [h.1] at aq; cases aq
 refine aQ<|br<|ag fun ax=>p mv<|au (str t)<|e<|cl Qu (SJ ah.heap.size fb mc F V t O (al.wk aG) aV a2 b4) aa fun v21 cy bK=> ?_
 have bY:=SN bK
 obtain ⟨b5,bg,bi,bj,rfl,ba,ak⟩:=bY
 have ck:=ak.size
 refine p mv<|p (xt aa aa)<|p (xt aa aa)<|p aE<|e<|gj jV aa aa aa aa (Wk.aJ ak aD) (by simp) fun G aM bx=> ?_
 have aX:Wk bl G:=(aG.trans ak).trans' aM fun q E h=>by omega
 have Z:=aI.trans aX
 have cp:=aM.size
 have b3:bP G.heap aS [.int .i64 bg,.int .i64 bi,.int .i64 bj]:=⟨_,bx⟩
 refine nl<|ax<|aB fun bt=>ag fun bu=>p mv<|p (lN DQ aa aa)<|nl<|bu<|cb aa (fun ar=> ?_) fun ar=> ?_
 obtain ⟨rfl,e,hd⟩:b5=none∧∃ e,fq F t= .error e:=by rcases ba with h | ⟨_,_,_,_,_,_,rfl,_⟩ <;> first | exact h | cases ar
 refine aB fun aA=> ?_
 have ap:(fun w'=>Md (fun q=>q=A) G w') G.drew:=(Md.refl _ _).drew
 refine bN (fun w'=>Md (fun q=>q=A) G w') aa wide ap<|aH 0 aa (fun w' I=>di lh aa (aa) fun j M=>(Md.B I b3 fun h=>by omega).bG j) ap<|aH 1 aa (fun _ _=>aE) ap<|he 2 aa aj<|gj jV aa aa aa aa (Wk.aJ Z ai) az fun b7 bI bz=> ?_
 have a5:(fun w'=>Md (fun q=>q=A) G w') b7:=ap.trans' bI fun q E h=>h
 refine ⟨a5,?_⟩
 exact hn aj<|aA<|rt<|tr<|eD aa ej (dT (cs:= [.int .i64 bg,.int .i64 bi,.int .i64 bj]) aa lh aa fun j M=>(a7 bz).trans<|by match j,M with | 0,_=>rfl | 1,_=>rfl | 2,_=>rfl)<|uz.no (LN C hd)<|(an.md.trans Z).trans' a5 fun q E h=>by omega
 obtain ⟨xs,B,wb,mb,va,vs,rfl,hd,ca,bR,ch,cg⟩:=ba.resolve_left fun h=>by rw [h.1] at ar; cases ar
 have aO:=bR.md (L:= [49]) aM (TF.eq (dA<|Wk.aJ ak aD) az) az fun h=>by omega
 have aL:=al.wk aX
 have bU:=Hg (Aa C) (E1 C) hd
 obtain ⟨seen,aU⟩:=aV
 have bV:=aU.len
 refine aQ<|bt<|ag fun aA=>p mv<|p mv<|p (c8 (ps:= [(0,aT fb),(1,aT wb)]) (L:= [aT fb,aT wb,.int .i64 0,.string ⟨⟨[]⟩⟩,.string ⟨⟨[]⟩⟩,.int .u16 0,.int .u16 0,.int .u16 0,.int .u16 0,.int .u16 0,.int .i64 0,.slice none 0 0,.slice none 0 0,.slice none 0 0,.slice none 0 0,.slice none 0 0]) YH aa<|aa)<|e<|oE aa fun aC U cc am aF=> ?_
 have cn:=am.size
 refine ay<|aA<|aB fun bv=> ?_
 have i:(fun w'=>Wk U w') U.drew:=(Md.refl _ _).drew
 refine eR (fun w'=>Wk U w') 14 aa wide i<|bB 0 aa (fun _=>mv) (fun _=>i)<|bB 1 aa (fun _=>mv) (fun _=>i)<|bB 2 aa (fun _=>mv) (fun _=>i)<|bB 3 aa (fun _=>nc aa) (fun _=>i)<|bB 4 aa (fun _=>fa B6 aa) (fun _=>i)<|dP 5 aa (fun w' I=>ld gq aa<|Wk.aR I<|(a7 aF).trans aa) i<|bB 7 aa (fun _=>mv) (fun _=>i)<|bB 8 aa (fun _=>nc aa) (fun _=>i)<|bB 9 aa (fun _=>fa Ip aa) (fun _=>i)<|dP 10 aa (fun w' I=>ld E9 aa<|Wk.aR I<|(a7 aF).trans aa) i<|gE 6 aa aj<|cl AJ (Ab ah.heap.size fb mc F V U.drew ((aL.wk am.md).wk i) (by simp only [List.length_nil] at bV; omega) a2) aa fun v37 bm bL=> ?_
 obtain ⟨⟨V2,rfl,bT⟩,hE37⟩:=bL
 have co:=hE37.size
 have cw:=i.size
 have a6:(fun w'=>Wk U w') bm:=i.trans hE37
 refine ⟨a6,?_⟩
 refine gE 11 aa aj<|cl Qv (Sv B wb mb va vs xs bm (((aO.wk am.md).wk i).wk hE37) ab fun x C=>(bU.1 x C).2.1) aa fun bk av bM=> ?_
 obtain ⟨⟨ws,a9,bW,_⟩,hE42⟩:=bM
 have cq:=hE42.size
 have ae:=OR bT hE42
 have a8:=Wk.aJ hE42<|Wk.aJ hE37<|Wk.aJ i aF
 have aN:(fun w'=>Wk U w') av:=a6.trans hE42
 refine ⟨aN,?_⟩
 refine bB 12 aa (fun _=>nc aa) (fun _=>aN)<|bB 13 aa (fun _=>fa vd aa) (fun _=>aN)<|dO 14 aa aj aj<|gj Be aa aa aa (Ao (eS ae.o9) (eS ae.eY) (eS ae.ez)<|eS ae.dK) a8 (by simp) fun cA a0 bD=> ?_
 have cv:=a0.size
 refine bB 15 aa (fun _=>nc aa) (fun h=>eo<|(show true =_ from by kernel_rfl).trans h)<|bB 16 aa (fun _=>fa B7 aa) (fun h=>eo<|(show true =_ from by kernel_rfl).trans h)<|dO 17 aa aj aj<|cT G7 aa aa (v:=bk) (eS a9) bD (by show 15 < 16; omega) fun aP aZ bC=> ?_
 have cu:=aZ.size
 have Y:=a0.trans' aZ fun q E h=>h
 have J:TF av [66] (fun q=>q=aC):=TF.eq (dA a8) az
 have bF:Wk U av:=i.trans<|hE37.trans hE42
 have ac:Wk G av:=am.md.trans bF
 have aK:Wk G aP:=ac.trans' Y fun q E h=>by omega
 obtain ⟨b8,bZ,_⟩:=(aL.wk ac).cm
 obtain ⟨b9,b0,_⟩:=(aO.wk ac).mp
 have bO:fW aP ah.heap.size aC ⟨fb,mc,wb,mb,V,V2,va,bk,vs,ws⟩ F xs:=⟨bC,(aL.wk ac).md Y J az (J.no (eH bZ) az),Ap (OP ae ab) Y J az,SO ((aO.wk ac).md Y J az<|J.no (eH b0) az) ab,eE (cx a9 Y J az) ab,(bW.md Y fun k hk cur z b1=>J.no (dA b1) az hk).mono ab⟩
 refine eQ aj<|bv<|ag fun bo=>p mv<|p (c8 (ps:= []) (L:= [.int .i64 0,.int .i64 0,.int .i64 0]) tH aa<|aa)<|p aE<|e<|gj jV aa aa aa aa (Wk.aJ (Z.trans aK) ai) az fun cB a1 bE=>nl ?_
 refine bo<|rt<|eD aa ej (dT (cs:= [.int .i64 0,.int .i64 0,.int .i64 0]) aa lh aa fun j M=>(a7 bE).trans<|by match j,M with | 0,_=>rfl | 1,_=>rfl | 2,_=>rfl) ?_
 refine ⟨⟨_,_,_,_,aa,?_⟩,(an.md.trans<|Z.trans aK).trans' a1 fun q E h=>by omega⟩
 rw [DL C hd]
 have bQ:TF aP [49] (fun q=>q=A):=TF.eq (dA<|Wk.aJ (Z.trans aK) ai) az
 exact ⟨ah.heap.size,aC,_,ab,aa,bO.vq a1 bQ az (fun h:mc=A=>by have :=al.lo.2; omega) (fun h:mb=A=>by omega),eN.of C hd ⟨seen,aU⟩ al.fR⟩
end Go.Hb
end
section
namespace Go.Hb
open Go.Hb.iw Go.Hb.lG Go.Hb.lV Go.Hb.lg
def kE (xs:List bH) (n:Int):Tx:=if 0≤n∧n < xs.length then (xs.getD n.toNat ([],[])).1 else []
def rZ (F:aU) (n:Int):dp:=if 0≤n∧n < F.rules.length then F.rules.getD n.toNat e6 else e6
theorem sR {xs:List bH} {k:Nat} {x:bH} (h:xs[k]? =some x):kE xs k=x.1∧flagsOf xs k=x.2∧k < xs.length∧xs.getD k ([],[])=x:=by
 have hk:=(fS.1 h).1
 have hd:xs.getD k ([],[])=x:=by rw [da,h]; rfl
 refine ⟨?_,?_,hk,hd⟩
 · unfold kE; rw [if_pos ab,mU,hd]
 · unfold flagsOf; rw [if_pos ab,mU,hd]
theorem sS {xs:List bH} {n:Int} (h:¬(0≤n∧n < xs.length)):kE xs n= []∧flagsOf xs n= []:=by
 unfold kE flagsOf; rw [if_neg h,if_neg h]; exact ⟨rfl,rfl⟩
theorem vK {F:aU} {k:Nat} {r:dp} (h:F.rules[k]? =some r):rZ F k=r∧db F k=r.next∧k < F.rules.length∧F.rules.getD k e6=r:=by
 have hk:=(fS.1 h).1
 have hd:F.rules.getD k e6=r:=by rw [da,h]; rfl
 refine ⟨?_,?_,hk,hd⟩
 · unfold rZ; rw [if_pos ab,mU,hd]
 · unfold db; rw [if_pos ab,mU,hd]
theorem vL {F:aU} {n:Int} (h:¬(0≤n∧n < F.rules.length)):rZ F n=e6∧db F n= []:=by
 unfold rZ db; rw [if_neg h,if_neg h]; exact ⟨rfl,rfl⟩
theorem YW {w:World} {B tb:Nat} {q:iy} {F:aU} {xs:List bH} (h:fW w B tb q F xs) {k:Nat} {x:bH} (E:xs[k]? =some x):∃ i ce a c,q.ve= .slice i xs.length ce∧Hb.aR w.heap tb 15=some (.slice i xs.length ce)∧aO w.heap i (kb<|xs.zip q.ws)∧(xs.zip q.ws)[k]? =some (x,.slice a x.2.length c)∧Tg w B 51 x.2.length (.slice a x.2.length c) (x.2.map bj):=by
 obtain ⟨i,ce,C⟩:=cE h.oe
 have G:=h.oe
 rw [C] at G
 have hk:=(fS.1 E).1
 obtain ⟨v,I,A⟩:=eB.get h.ef (show k < (xs.map (·.2)).length by rw [fM]; exact hk)
 have J:(xs.map (·.2)).getD k []=x.2:=by rw [da,iq,E]; rfl
 rw [J] at A
 obtain ⟨a,c,rfl⟩:=A.slice
 exact ⟨i,ce,a,c,C,by rw [← C]; exact (a7 h.cells).trans aa,(ba G).2,jz.2 ⟨E,I⟩,A⟩
theorem YX {w:World} {B tb:Nat} {i:iy} {F:aU} {xs:List bH} (h:fW w B tb i F xs):∃ a ce,Hb.aR w.heap tb 15=some (.slice a xs.length ce):=by
 obtain ⟨a,ce,q⟩:=cE h.oe
 exact ⟨a,ce,by rw [← q]; exact (a7 h.cells).trans aa⟩
theorem YY {w:World} {B tb:Nat} {a:iy} {F:aU} {xs:List bH} (h:fW w B tb a F xs):∃ ar cr,Hb.aR w.heap tb 14=some (.slice ar F.rules.length cr):=by
 obtain ⟨ar,cr,i⟩:=cE h.ax.dK
 exact ⟨ar,cr,by rw [← i]; exact (a7 h.cells).trans aa⟩
theorem OQ {w:World} {B:Nat} {F:aU} {V:ff} (h:po w B F V) {k:Nat} {r:dp} (q:F.rules[k]? =some r):∃ ar cr a c,V.v12= .slice ar F.rules.length cr∧aO w.heap ar (iV<|F.rules.zip V.rn)∧(F.rules.zip V.rn)[k]? =some (r,.slice a r.next.length c)∧Tg w B 51 r.next.length (.slice a r.next.length c) (r.next.map bj):=by
 obtain ⟨ar,cr,C⟩:=cE h.dK
 have A:=h.dK
 rw [C] at A
 have hk:=(fS.1 q).1
 obtain ⟨v,E,i⟩:=eB.get h.nx (show k < (F.rules.map (·.next)).length by rw [fM]; exact hk)
 have G:(F.rules.map (·.next)).getD k []=r.next:=by rw [da,iq,q]; rfl
 rw [G] at i
 obtain ⟨a,c,rfl⟩:=i.slice
 exact ⟨ar,cr,a,c,C,(ba A).2,jz.2 ⟨q,E⟩,i⟩
structure gn (w:World) (B tb fb:Nat) (V:eu) (ve:Value) (F:aU) (xs:List bH):Prop where
 cells:w.heap[tb]? =some (.cells [.pointer (some ⟨fb,0,none⟩),ve].toArray 32 (0,0))
 fl:eI w B 0 fb F V
 en:mX w B ve xs
theorem gn.wk {w w':World} {B tb fb:Nat} {V:eu} {ve:Value} {F:aU} {xs:List bH} (h:gn w B tb fb V ve F xs) (hm:Wk w w'):gn w' B tb fb V ve F xs:=⟨Wk.aJ hm h.cells,h.fl.wk hm,h.en.wk hm⟩
theorem gn.s8 {w:World} {B tb fb:Nat} {V:eu} {ve:Value} {F:aU} {xs:List bH} (h:gn w B tb fb V ve F xs) {k:Nat} {x:bH} (C:xs[k]? =some x):∃ i ce ws a c,Hb.aR w.heap tb 1=some (.slice i xs.length ce)∧aO w.heap i (kb<|xs.zip ws)∧(xs.zip ws)[k]? =some (x,.slice a x.2.length c)∧Tg w 0 3 x.2.length (.slice a x.2.length c) (x.2.map bQ):=by
 obtain ⟨ws,A,G⟩:=h.en
 obtain ⟨i,ce,E⟩:=cE A
 rw [E] at A
 have hk:=(fS.1 C).1
 obtain ⟨v,I,q⟩:=iu.get G (show k < (xs.map (·.2)).length by rw [fM]; exact hk)
 have J:(xs.map (·.2)).getD k []=x.2:=by rw [da,iq,C]; rfl
 rw [J] at q
 obtain ⟨a,c,rfl⟩:=q.slice
 exact ⟨i,ce,ws,a,c,by rw [← E]; exact (a7 h.cells).trans aa,(ba A).2,jz.2 ⟨C,I⟩,q⟩
theorem gn.DT {w:World} {B tb fb:Nat} {V:eu} {ve:Value} {F:aU} {xs:List bH} (h:gn w B tb fb V ve F xs):∃ a ce,Hb.aR w.heap tb 1=some (.slice a xs.length ce):=by
 obtain ⟨ws,i,A⟩:=h.en
 obtain ⟨a,ce,q⟩:=cE i
 exact ⟨a,ce,by rw [← q]; exact (a7 h.cells).trans aa⟩
theorem gn.DU {w:World} {B tb fb:Nat} {V:eu} {ve:Value} {F:aU} {xs:List bH} (h:gn w B tb fb V ve F xs):∃ ar cr,Hb.aR w.heap fb 12=some (.slice ar F.rules.length cr):=by
 obtain ⟨ar,cr,a⟩:=cE h.fl.dK
 exact ⟨ar,cr,by rw [← a]; exact (a7 h.fl.cells).trans aa⟩
theorem gn.iN {w:World} {B tb fb:Nat} {V:eu} {ve:Value} {F:aU} {xs:List bH} (h:gn w B tb fb V ve F xs) {k:Nat} {r:dp} (q:F.rules[k]? =some r):∃ ar cr a c,Hb.aR w.heap fb 12=some (.slice ar F.rules.length cr)∧aO w.heap ar (mC<|F.rules.zip V.rn)∧(F.rules.zip V.rn)[k]? =some (r,.slice a r.next.length c)∧Tg w 0 3 r.next.length (.slice a r.next.length c) (r.next.map bQ):=by
 obtain ⟨ar,cr,C⟩:=cE h.fl.dK
 have A:=h.fl.dK
 rw [C] at A
 have hk:=(fS.1 q).1
 obtain ⟨v,E,i⟩:=iu.get h.fl.nx (show k < (F.rules.map (·.next)).length by rw [fM]; exact hk)
 have G:(F.rules.map (·.next)).getD k []=r.next:=by rw [da,iq,q]; rfl
 rw [G] at i
 obtain ⟨a,c,rfl⟩:=i.slice
 exact ⟨ar,cr,a,c,by rw [← C]; exact (a7 h.fl.cells).trans aa,(ba A).2,jz.2 ⟨q,E⟩,i⟩
theorem Ua {w:World} {B B' B0 fb:Nat} {F:aU} {V:eu} (h:eI w B B0 fb F V) (a:B'≤B):eI w B' B0 fb F V:=⟨h.cells,eE h.o9 a,eE h.eY a,h.al,eE h.ez a,eE h.dK a,h.nx,gk a h.lo,h.fR⟩
theorem Uo {w:World} {B B':Nat} {v:Value} {xs:List bH} (h:mX w B v xs) (a:B'≤B):mX w B' v xs:=by
 obtain ⟨vs,h1,h2⟩:=h
 exact ⟨vs,eE h1 a,h2⟩
theorem Up {s:Tx} {w w':World} {v:Value} (h:lX s w v w'):∃ p l e,v= .tuple #[.pointer p,.int .i64 l,.int .i64 e]∧((e≠0∧∃ er,fy s= .error er)∨(e=0∧∃ F B fb V,p=some ⟨fb,0,none⟩∧fy s= .ok F∧w.heap.size≤B∧eI w' B 0 fb F V∧(∃ seen,nG F [] seen)∧Nx F))∧Wk w w':=by
 obtain ⟨h,a⟩:=h
 cases hx:fy s with
 | error e=>rw [hx] at h; exact ⟨_,_,_,h,.inl ⟨by have :=On hx; omega,e,rfl⟩,a⟩
 | ok F=>rw [hx] at h; obtain ⟨B,fb,V,i,q,h1,h2,h3⟩:=h; exact ⟨_,_,_,q,.inr ⟨rfl,F,B,fb,V,rfl,rfl,i,h1,h2,h3⟩,a⟩
theorem Ur {F:aU} {s:Tx} {w w':World} {v:Value} (h:lH F s w v w'):∃ a l e,v= .tuple #[a,.int .i64 l,.int .i64 e]∧a.oneCell'=true∧((e≠0∧∃ er,fq F s= .error er)∨(e=0∧∃ xs,fq F s= .ok xs∧mX w' w.heap.size a xs))∧Wk w w':=by
 obtain ⟨h,i⟩:=h
 cases hx:fq F s with
 | error e=>rw [hx] at h; exact ⟨_,_,_,h,rfl,.inl ⟨by have :=SE hx; omega,e,rfl⟩,i⟩
 | ok xs=>rw [hx] at h; obtain ⟨a,A,h1⟩:=h; exact ⟨_,_,_,A,(by obtain ⟨ws,q,_⟩:=h1; exact eS q),.inr ⟨rfl,xs,rfl,h1⟩,i⟩
def uy (a t:Tx) (w:World) (v:Value) (w':World):Prop :=(∃ p i q A,v= .tuple #[.pointer p,.agg [.int .i64 i,.int .i64 q,.int .i64 A].toArray]∧match lC a t with
 | none=>p=none
 | some T=> ∃ B tb fb V ve,p=some ⟨tb,0,none⟩∧gn w' B tb fb V ve T.1 T.2)∧Wk w w'
theorem uy.no {a t:Tx} {w w':World} {i q A:Int} (h:lC a t=none) (hm:Wk w w'):uy a t w (.tuple #[.pointer none,.agg [.int .i64 i,.int .i64 q,.int .i64 A].toArray]) w':=⟨⟨none,i,q,A,rfl,by rw [h]⟩,hm⟩
theorem XO (a t:Tx) (w:World) (aY:a.length≤1048576) (a3:t.length≤1048576):
 bp aw 38 (bh [str a,str t]) w (uy a t w):=by
 refine enter func38 aa ntmps38 aa<|ag fun aA=>p aE<|e<|fg MC fun am al a9 G an=> ?_
 have bf:=G.size
 have ac:bP al.heap am [.int .i64 0,.int .i64 0,.int .i64 0]:=⟨_,an⟩
 refine nl<|aA<|ag fun aC=>au (str a)<|e<|cl QG (Xd a al aY) aa fun v12 ay aW=> ?_
 have a0:=Up aW
 obtain ⟨pp,aj,Y,rfl,av,i⟩:=a0
 have bb:=i.size
 refine p mv<|p (xt aa aa)<|p (xt aa aa)<|p (xt aa aa)<|p aE<|p aE<|p aE<|nl<|aC<|aB fun aD=>ag fun aF=>p mv<|p (cO aa aa)<|nl<|aF ?_
 refine cd aa (fun ah=> ?_) fun ah=> ?_
 obtain ⟨er,I⟩:=(av.resolve_right fun h=>ah h.1).2
 exact ag fun J=>p mv<|p mv<|p (c8 (ps:= [(0,.int .i64 1),(1,.int .i64 aj),(2,.int .i64 Y)]) (L:= [.int .i64 1,.int .i64 aj,.int .i64 Y]) DF aa<|aa)<|p aE<|e<|dj xI aa aa aa aa (Wk.B i ac) (by simp) fun bg aS aL=>nl<|J<|rt<|tr<|eD aa ej (dT (cs:= [.int .i64 1,.int .i64 aj,.int .i64 Y]) aa Ac aa fun j ap=>aL.bG j)<|uy.no (LM I)<|(G.md.trans i).trans' aS fun q ax h=>by omega
 obtain ⟨ba,F,B,fb,V,rfl,I,aP,ao,aO,aV⟩:=av.resolve_left fun h=>ah h.1
 refine aQ<|aD<|ag fun J=>p mv<|au (str t)<|e<|cl QH (T3 B fb F V t ay ao aO aV a3) aa fun v24 a4 aX=> ?_
 have a1:=Ur aX
 obtain ⟨a2,ak,Z,rfl,a7,ar,A⟩:=a1
 have bc:=A.size
 refine p mv<|p (xt aa aa)<|p (xt aa aa)<|p (xt aa aa)<|p aE<|p aE<|p aE<|nl<|J<|aB fun aG=>ag fun aH=>p mv<|p (cO aa aa)<|nl<|aH ?_
 refine cd aa (fun ai=> ?_) fun ai=> ?_
 obtain ⟨er,hd⟩:=(ar.resolve_right fun h=>ai h.1).2
 exact ag fun M=>p mv<|p mv<|p (c8 (ps:= [(0,.int .i64 2),(1,.int .i64 ak),(2,.int .i64 Z)]) (L:= [.int .i64 2,.int .i64 ak,.int .i64 Z]) DF aa<|aa)<|p aE<|e<|dj xI aa aa aa aa (Wk.B (i.trans A) ac) (by simp) fun bi aU aM=>nl<|M<|rt<|tr<|eD aa ej (dT (cs:= [.int .i64 2,.int .i64 ak,.int .i64 Z]) aa Ac aa fun j ap=>aM.bG j)<|uy.no (LN I hd)<|(G.md.trans<|i.trans A).trans' aU fun q ax h=>by omega
 obtain ⟨he2,xs,hd,a6,aq,aZ⟩:=ar.resolve_left fun h=>ai h.1
 obtain ⟨O,U,rfl⟩:=cE aq
 have aR:mX a4 ay.heap.size (.slice O xs.length U) xs:=⟨a6,aq,aZ⟩
 refine aQ<|aG<|ag fun M=>p mv<|p mv<|p (c8 (ps:= [(0,aT fb),(1,.slice O xs.length U)]) (L:= [aT fb,.slice O xs.length U]) YE aa<|aa)<|e<|oE aa fun aI a5 a8 C aK=> ?_
 have bd:=C.size
 refine p (c8 (ps:= []) (L:= [.int .i64 0,.int .i64 0,.int .i64 0]) DF aa<|aa)<|p aE<|e<|dj xI aa aa aa aa (Wk.B ((i.trans A).trans C.md) ac) (by simp) fun bj E aN=>nl<|M<|rt<|eD aa ej (dT (cs:= [.int .i64 0,.int .i64 0,.int .i64 0]) aa Ac aa fun j ap=>aN.bG j) ?_
 refine ⟨⟨_,_,_,_,aa,?_⟩,(G.md.trans<|(i.trans A).trans C.md).trans' E fun q ax h=>by omega⟩
 rw [DL I hd]
 have ae:TF a5 [108] (fun q=>q=am):=TF.eq (dA<|Wk.aJ ((i.trans A).trans C.md) an) az
 refine ⟨al.heap.size,aI,fb,V,_,aa,E.ic ae aK az,Ua ((ao.wk<|A.trans C.md).md E ae az) aP,Uo ((aR.wk C.md).md E ae az) ab⟩
end Go.Hb
end
namespace Go.Hb
def Xl:Go.Shelf.Ren:=⟨fun n=>if n=125 then 111 else if n=128 then 168 else if n=129 then 169 else if n=189 then 71 else if n=215 then 231 else if n=216 then 165 else if n=257 then 110 else if n=294 then 159 else if n=295 then 160 else if n=296 then 161 else if n=297 then 162 else if n=298 then 163 else if n=299 then 164 else if n=300 then 166 else if n=301 then 167 else if n=328 then 226 else if n=329 then 227 else if n=330 then 228 else if n=331 then 229 else if n=332 then 230 else if n=343 then 257 else 0,fun n=>if n=0 then 0 else if n=3 then 3 else if n=4 then 4 else if n=5 then 5 else if n=9 then 9 else if n=28 then 75 else if n=46 then 226 else if n=51 then 290 else if n=53 then 158 else if n=131 then 287 else if n=182 then 282 else if n=183 then 283 else if n=218 then 340 else if n=222 then 344 else if n=228 then 365 else if n=229 then 245 else 0,fun n=>n⟩
theorem Jr:Go.Proofs.Lays.n189 aw Xl where
 mixed:=aj
 f125:=aj
 f128:=aj
 f129:=aj
 f189:=aj
 f215:=aj
 f216:=aj
 f257:=aj
 f294:=aj
 f295:=aj
 f296:=aj
 f297:=aj
 f298:=aj
 f299:=aj
 f300:=aj
 f301:=aj
 f328:=aj
 f329:=aj
 f330:=aj
 f331:=aj
 f332:=aj
 f343:=aj
 t0:=aj
 a0:=fun _=>aj
 z0:=fun _=>aj
 v0:=fun _=>aj
 t3:=aj
 a3:=fun _=>aj
 z3:=fun _=>aj
 v3:=fun _=>aj
 t4:=aj
 a4:=fun _=>aj
 z4:=fun _=>aj
 v4:=fun _=>aj
 t5:=aj
 a5:=fun _=>aj
 z5:=fun _=>aj
 v5:=fun _=>aj
 t9:=aj
 a9:=fun _=>aj
 z9:=fun _=>aj
 v9:=fun _=>aj
 t28:=aj
 a28:=fun _=>aj
 z28:=fun _=>aj
 v28:=fun _=>aj
 t46:=aj
 a46:=fun _=>aj
 z46:=fun _=>aj
 v46:=fun _=>aj
 t51:=aj
 a51:=fun _=>aj
 z51:=fun _=>aj
 v51:=fun _=>aj
 t53:=aj
 a53:=fun _=>aj
 z53:=fun _=>aj
 v53:=fun _=>aj
 t131:=aj
 a131:=fun _=>aj
 z131:=fun _=>aj
 v131:=fun _=>aj
 t182:=aj
 a182:=fun _=>aj
 z182:=fun _=>aj
 v182:=fun _=>aj
 t183:=aj
 a183:=fun _=>aj
 z183:=fun _=>aj
 v183:=fun _=>aj
 t218:=aj
 a218:=fun _=>aj
 z218:=fun _=>aj
 v218:=fun _=>aj
 t222:=aj
 a222:=fun _=>aj
 z222:=fun _=>aj
 v222:=fun _=>aj
 t228:=aj
 a228:=fun _=>aj
 z228:=fun _=>aj
 v228:=fun _=>aj
 t229:=aj
 a229:=fun _=>aj
 z229:=fun _=>aj
 v229:=fun _=>aj
theorem Yk (B n:Nat) (v:Value) (a:List Int) (w:World) (A:bw w B 3 1 v n (a.map<|jk .i64)) (J:a.length≤1048576):
 bp aw 71 [v].toArray w (fun I w'=>I= .tuple #[]∧bw w' B 3 1 v n ((a.mergeSort fun x y=>decide (x≤y)).map<|jk .i64)∧Md (fun k=>v.ownBlock=some k) w w'):=by
 have hn:a.length=n:=by have :=A.1; simpa using this
 have hlen:(a.mergeSort fun x y=>decide (x≤y)).length=a.length:=List.length_mergeSort _
 rcases A.2 with ⟨rfl,M⟩ | ⟨g,cap,cur,rfl,C,q,h1,h2,h3,h4⟩
 · have G:a= []:=fY ab
   subst G
   refine lE (Any.slices_Sort_int_none Jr none 0 w) ?_
   rintro e w' ⟨rfl,rfl⟩
   exact ⟨_,aa,aa,by rw [List.mergeSort_nil]; exact A,Md.refl _ _⟩
 · subst hn
   rw [Nat.mul_one] at h4
   refine lE (calls_of_every_depth fun D=>AnyS.slices_Sort_int_alone Jr D g 0 cap a w (holds_of_blockI q h4) (dB.1 q).1 ab) ?_
   rintro e w' ⟨rfl,m,os,rfl⟩
   have i:=grownBy_sortedI (w:=w) (g:=g) (n:=m) (os:=os) (a.mergeSort fun x y=>decide (x≤y)).toArray
   refine ⟨_,aa,aa,ownsRow_sortedI hlen C q h1 h2 h3,⟨i.os,i.output,i.size,fun k hk E=>i.block k hk fun he=>E ?_⟩⟩
   simp only [Value.ownBlock]; exact he.symm
end Go.Hb
section
namespace Go.Hb.nI
open Go.Hb.iw Go.Hb.lG Go.Hb.lV Go.Hb.lg
theorem JE (l:List Nat):(l.map fun i:Nat=>(i:Int)).map (jk .i64)=l.map bQ:=by rw [List.map_map]; rfl
theorem og {F:aU} {xs:List bH} (h:eN F xs) (n:Int):(flagsOf xs n).length≤64∧la (flagsOf xs n):=by
 by_cases hn:0≤n∧n < xs.length
 · obtain ⟨k,rfl⟩:∃ k:Nat,n=(k:Int):=⟨n.toNat,ab⟩
   have a:xs[k]? =some xs[k]:=cI ab
   rw [(sR a).2.1]
   exact ⟨(h.uP _<|iR a).2.1,h.SP _<|iR a⟩
 · rw [(sS hn).2]; exact ⟨jG _,vg⟩
theorem tK {F:aU} {xs:List bH} (h:eN F xs) (n:Int):(db F n).length≤64∧la (db F n):=by
 by_cases hn:0≤n∧n < F.rules.length
 · obtain ⟨k,rfl⟩:∃ k:Nat,n=(k:Int):=⟨n.toNat,ab⟩
   have a:F.rules[k]? =some F.rules[k]:=cI ab
   rw [(vK a).2.1]
   exact ⟨(h.iN a).1,(h.iN a).2.1⟩
 · rw [(vL hn).2]; exact ⟨jG _,vg⟩
theorem RA {F:aU} {k f:Nat} (h:(eb F.bA f).isSome=false):gH F k f= []:=by
 unfold gH
 cases h2:eb F.bA f with
 | none=>rfl
 | some c=>rw [h2] at h; cases h
theorem RD {F:aU} {k f:Nat} {c:dm} (h:(eb F.bA f).isSome=true) (a:(eb F.bA f).getD sY=c):eb F.bA f=some c:=by
 cases h2:eb F.bA f with
 | none=>rw [h2] at h; cases h
 | some d=>rw [h2] at a; exact congrArg some a
theorem RB {F:aU} {k f:Nat} {c:dm} (h:eb F.bA f=some c) (hk:c.kind≠k):gH F k f= []:=by unfold gH; rw [h]; exact if_neg hk
theorem RE {F:aU} {k f:Nat} {c:dm} (h:eb F.bA f=some c) (hk:c.kind=k):gH F k f=(j6 c.count).map (c.first+ ·):=by unfold gH; rw [h]; exact if_pos hk
theorem Ry {F:aU} (a:pw F) {f:Nat} {c:dm} (h:eb F.bA f=some c):c.first+c.count≤F.rules.length:=(a.uL c (HL h).1).1
theorem TC {fs:List Nat} {f:Nat→List Nat} {i:Nat} (h:i < fs.length):(fs.take<|i+1).flatMap f=(fs.take i).flatMap f++f (fs.getD i 0):=by
 rw [fK fs i 0 h,List.flatMap_append,List.flatMap_singleton]
theorem JZ {F:aU} (a:pw F) {fs:List Nat} (h:fs.Pairwise (· < ·)) (k:Nat):(fs.flatMap<|gH F k).length=(aW F fs k).length:=by
 obtain ⟨h1,h2⟩:=JY a (k:=k) h
 exact ((List.perm_ext_iff_of_nodup h1<|(J0 F fs k).imp fun h=>by omega).2 h2).length_eq
theorem Wg {F:aU} (a:pw F) {fs:List Nat} (h:fs.Pairwise (· < ·)) (k:Nat):(fs.flatMap<|gH F k).length≤F.rules.length:=by
 rw [JZ a h]; exact rT F fs k
def mG (F:aU) (fs:List Nat) (kind n:Nat):List Nat:=(j6 n).filter fun i=>decide ((F.rules.getD i e6).kind=kind∧(F.rules.getD i e6).flag∈fs)
theorem Wf (F:aU) (fs:List Nat) (kd n:Nat):mG F fs kd (n+1)=mG F fs kd n++(if (F.rules.getD n e6).kind=kd∧(F.rules.getD n e6).flag∈fs then [n] else []):=by
 unfold mG
 rw [NR,List.filter_append]
 congr 1
 rw [List.filter_cons,List.filter_nil]
 by_cases h:(F.rules.getD n e6).kind=kd∧(F.rules.getD n e6).flag∈fs
 · rw [decide_eq_true h,if_pos h]; rfl
 · rw [decide_eq_false h,if_neg h]; rfl
theorem We (F:aU) (fs:List Nat) (kd n:Nat):(mG F fs kd n).length≤n:=by
 unfold mG; have :=List.length_filter_le (fun i=>decide ((F.rules.getD i e6).kind=kd∧(F.rules.getD i e6).flag∈fs)) (j6 n); simpa using this
def nm (r:dp) (fs:List Nat) (kd i k:Nat):List Nat:=if r.kind=kd∧r.flag∈fs.take k then [i] else []
theorem Kf (r:dp) (fs:List Nat) (kd i:Nat):nm r fs kd i 0= []:=if_neg fun h=>by simp at h
theorem Ke {r:dp} {fs:List Nat} {kd i k:Nat} (hk:k < fs.length) (h:fs.getD k 0≠r.flag):nm r fs kd i (k+1)=nm r fs kd i k:=by
 unfold nm
 rw [fK fs k 0 hk]
 have :r.flag∈fs.take k++ [fs.getD k 0]↔r.flag∈fs.take k:=by
  rw [jF,j5]; exact ⟨fun h2=>h2.elim id (fun e=>absurd e.symm h),.inl⟩
 simp only [this]
theorem Wo {r:dp} {fs:List Nat} {kd i k:Nat} (C:fs.Pairwise (· < ·)) (hk:k < fs.length) (h:fs.getD k 0=r.flag) (E:r.kind=kd):nm r fs kd i (k+1)=nm r fs kd i k++ [i]:=by
 unfold nm
 rw [fK fs k 0 hk]
 have hn:r.flag∉fs.take k:=fun h2=>by
  obtain ⟨j,a⟩:=List.getElem?_of_mem h2
  have q:j < k:=by have :=(fS.1 a).1; rw [List.length_take] at this; omega
  rw [List.getElem?_take_of_lt q] at a
  have A:=fS.1 a
  have :=List.pairwise_iff_getElem.1 C j k A.1 hk q
  rw [da,cI hk] at h
  simp only [Option.getD_some] at h
  have h3:=A.2
  omega
 rw [if_pos ⟨E,by rw [jF]; exact .inr<|j5.2 h.symm⟩,if_neg (fun h2=>hn h2.2)]; rfl
theorem Kd {F:aU} {r:dp} {fs:List Nat} {kd i k:Nat} (a:F.rules.getD i e6=r) (h:k=fs.length∨r.kind≠kd):mG F fs kd i++nm r fs kd i k=mG F fs kd (i+1):=by
 rw [Wf,a]
 congr 1
 unfold nm
 rcases h with rfl | h
 · rw [List.take_length]
 · rw [if_neg (fun h2=>h h2.1),if_neg (fun h2=>h h2.1)]
def ma (F:aU) (xs:List bH) (e k:Int):Bool:=decide (0≤k∧k < 5) && rP F xs e k.toNat
theorem LR {w:World} {B tb:Nat} {a:iy} {F:aU} {xs:List bH} (h:fW w B tb a F xs) {k:Nat} (hk:k < 5):Hb.aR w.heap tb (5 +k*1)=some (bj<|F.sp.getD k 0):=by
 refine (a7 h.cells).trans ?_
 match k,hk with
 | 0,_=>rfl
 | 1,_=>rfl
 | 2,_=>rfl
 | 3,_=>rfl
 | 4,_=>rfl
theorem IP {w:World} {B tb fb:Nat} {V:eu} {ve:Value} {F:aU} {xs:List bH} (h:gn w B tb fb V ve F xs) {k:Nat} (hk:k < 5):Hb.aR w.heap fb (3 +k*1)=some (bQ<|F.sp.getD k 0):=by
 refine (a7 h.fl.cells).trans ?_
 match k,hk with
 | 0,_=>rfl
 | 1,_=>rfl
 | 2,_=>rfl
 | 3,_=>rfl
 | 4,_=>rfl
theorem IW {x:Nat} {l:List Nat} (h:0∉l):decide (x∈l)=decide (x≠0∧x∈l):=decide_eq_decide.2 ⟨fun h2=>⟨fun h3=>h (h3 ▸ h2),h2⟩,And.right⟩
theorem xW (B tb:Nat) (aJ:iy) (F:aU) (xs:List bH) (n:Int) (w:World) (au:fW w B tb aJ F xs) (aj:eN F xs):
 bp aw 24 (bh [aT tb,.int .i64 n]) w (fun v w'=>(∃ a,v= .tuple #[.agg [str (kE xs n),a].toArray,.bool (decide (0≤n∧n < xs.length))]∧bw w' w.heap.size 51 1 a (flagsOf xs n).length ((flagsOf xs n).map bj))∧Wk w w'):=by
 obtain ⟨a5,ce,a1⟩:=YX au
 have bk:=aj.xl
 refine enter func24 aa ntmps24 aa<|ag fun aD=>e<|al qX fun a7 aA bb A I=> ?_
 have bn:=A.size
 have aY:=au.wk A.md
 have a3:=Wk.aR A.md a1
 refine ay<|aD<|aB fun aF=>ag fun ac=>p mv<|p (lN tN aa aa)<|p mv<|gb (t:=9) aa (fun h=>absurd (h.symm.trans<|aa) eo) fun bf=>aM aa mv<|aM aa (lt aa aa)<|p (bu aa)<|p mv<|gs (t:=13) aa (fun a0=> ?_) fun a0=> ?_
 refine aI aa<|aI aa<|aI aa<|aI aa<|aI aa<|aI aa<|aI aa<|p (bC aa)<|nl<|ac<|ct aa<|ag fun C=>p (c8 (ps:= []) (L:= [.string ⟨⟨[]⟩⟩,.slice none 0 0]) oc aa<|aa)<|e<|dj kD aa aa aa aa (I) (by simp) fun a4 M G=>p aE<|nl<|C<|rt<|tr<|eD aa (dT (cs:= [str [],.slice none 0 0]) aa lJ aa fun j U=>G.bG j) ej ?_
 have E:=sS (xs:=xs) (n:=n) ab
 exact ⟨⟨.slice none 0 0,by rw [E.1,decide_eq_false (show ¬(0≤n∧n < (xs.length:Int)) by omega)]; rfl,by rw [E.2]; exact dC _ _ _ _⟩,A.md.trans' M fun q i h=>by omega⟩
 refine aM aa mv<|aM aa mv<|aM aa (nc aa)<|aM aa (fa B7 aa)<|aM aa (ld sO aa<|a3)<|aM aa (bJ vW aa aa)<|aM aa (ge aa aa)<|p (bu aa)<|nl<|ac<|cd aa (fun aZ=> ?_) fun aZ=> ?_
 refine ag fun C=>p (c8 (ps:= []) (L:= [.string ⟨⟨[]⟩⟩,.slice none 0 0]) oc aa<|aa)<|e<|dj kD aa aa aa aa (I) (by simp) fun a4 M G=>ay<|C<|rt<|tr<|eD aa (dT (cs:= [str [],.slice none 0 0]) aa lJ aa fun j U=>G.bG j) ej ?_
 have E:=sS (xs:=xs) (n:=n) ab
 exact ⟨⟨.slice none 0 0,by rw [E.1,decide_eq_false (show ¬(0≤n∧n < (xs.length:Int)) by omega)]; rfl,by rw [E.2]; exact dC _ _ _ _⟩,A.md.trans' M fun q i h=>by omega⟩
 obtain ⟨k,rfl⟩:∃ k:Nat,n=(k:Int):=⟨n.toNat,ab⟩
 obtain ⟨x,Y⟩:∃ x,xs[k]? =some x:=⟨_,cI ab⟩
 obtain ⟨a6,a8,a,c,bg,a2,am,az,av⟩:=YW aY Y
 have bi:=(aj.uP x<|iR Y).2.1
 obtain ⟨aK,aL,a9,ba⟩:=sR Y
 refine aQ<|aF<|ag fun C=>p mv<|p (nc aa)<|p (fa B7 aa)<|p (ld sO aa<|a2)<|p mv<|p (bc Bx aa aa ab<|aO.ok (am)<|uN az)<|p (di lJ aa (aa)<|fA (f:=pI) (m:=2) (fun _=>rfl) am az)<|e<|al qX fun ah bt bd ar aW=> ?_
 have bq:=ar.size
 refine e<|dj kD aa aa aa aa (aW) (by simp) fun Z ap aN=> ?_
 have an:Wk aA Z:=ar.md.trans' ap fun q i h=>by omega
 have bl:=ap.size
 have ak:bP Z.heap ah [str x.1,.slice a x.2.length c]:=aN
 refine nl<|C<|ag fun aG=>p (fa rL aa)<|p (ld m5 aa<|ak.bG 1)<|e<|cl rD (sX a x.2.length c (x.2.map bj) Z (av.wk an).cV.2 (by simp) (fun h=>Tg.tB av (by simp) h) (sP _) ab) aa fun br bs aX=> ?_
 obtain ⟨V,J⟩:=aX
 obtain ⟨ae,ai,rfl⟩:=cE V
 have bm:=J.size
 refine p (fa rL aa)<|e<|st s5 aa aa (aa) (Wk.B J ak) (by simp) fun aC O aP=> ?_
 have ao:Wk aA aC:=(an.trans J).trans' O fun q i h=>by omega
 have bo:=O.size
 have ax:=dz V O fun q i h=>by have :=(dS V i).1; omega
 have aS:bP aC.heap ah [str x.1,.slice ae x.2.length ai]:=aP
 exact nl<|aG<|ag fun aH=>p (di lJ aa (aa) fun j U=>aS.bG j)<|e<|dj kD aa aa aa aa (Wk.B ao I) (by simp) fun bv aq aV=>p aE<|nl<|aH<|rt<|eD aa (dT (cs:= [str x.1,.slice ae x.2.length ai]) aa lJ aa fun j U=>aV.bG j) ej<|⟨⟨_,by rw [aK,decide_eq_true (show 0≤(k:Int)∧(k:Int) < (xs.length:Int) by omega)]; rfl,by rw [aL]; exact dz (eE ax ab) aq fun q i h=>by have :=(dS ax i).1; omega⟩,(A.md.trans ao).trans' aq fun q i h=>by omega⟩
theorem yY (B tb:Nat) (aL:iy) (F:aU) (xs:List bH) (n:Int) (w:World) (av:fW w B tb aL F xs) (ak:eN F xs):
 bp aw 25 (bh [aT tb,.int .i64 n]) w (fun v w'=>(∃ a,v= .tuple #[.agg (fD (rZ F n,a)).toArray,.bool (decide (0≤n∧n < F.rules.length))]∧bw w' w.heap.size 51 1 a (db F n).length ((db F n).map bj))∧Wk w w'):=by
 obtain ⟨bd,ce,a6⟩:=YY av
 have bn:=ak.len
 refine enter func25 aa ntmps25 aa<|ag fun aG=>e<|al se fun aP G bi A J=> ?_
 have br:=A.size
 have az:=av.wk A.md
 have ba:=Wk.aR A.md a6
 have aZ:bP G.heap aP (fD (e6,.slice none 0 0)):=J
 refine ay<|aG<|aB fun aH=>ag fun ae=>p mv<|p (lN tN aa aa)<|p mv<|gb (t:=9) aa (fun h=>absurd (h.symm.trans<|aa) eo) fun bl=>aM aa mv<|aM aa (lt aa aa)<|p (bu aa)<|p mv<|gs (t:=13) aa (fun a5=> ?_) fun a5=> ?_
 refine aI aa<|aI aa<|aI aa<|aI aa<|aI aa<|aI aa<|aI aa<|aI aa<|p (bC aa)<|nl<|ae<|ct aa<|ag fun C=>p (c8 (ps:= []) (L:= [.int .i64 0,.int .u16 0,.bool false,.string ⟨⟨[]⟩⟩,.string ⟨⟨[]⟩⟩,.string ⟨⟨[]⟩⟩,.slice none 0 0]) DI aa<|aa)<|e<|dj pG aa aa aa aa (J) (by simp) fun bb O I=>ay<|C<|rt<|tr<|eD aa (dT (cs:=fD (e6,.slice none 0 0)) aa m6 aa fun j V=>I.bG j) ej ?_
 have E:=vL (F:=F) (n:=n) ab
 exact ⟨⟨.slice none 0 0,by rw [E.1,decide_eq_false (show ¬(0≤n∧n < (F.rules.length:Int)) by omega)]; rfl,by rw [E.2]; exact dC _ _ _ _⟩,A.md.trans' O fun q i h=>by omega⟩
 refine aM aa mv<|aM aa mv<|aM aa (nc aa)<|aM aa (fa vd aa)<|aM aa (fa nU aa)<|aM aa (ld lZ aa<|ba)<|aM aa (bJ vU aa aa)<|aM aa (ge aa aa)<|p (bu aa)<|nl<|ae<|cd aa (fun a4=> ?_) fun a4=> ?_
 refine ag fun C=>p (c8 (ps:= []) (L:= [.int .i64 0,.int .u16 0,.bool false,.string ⟨⟨[]⟩⟩,.string ⟨⟨[]⟩⟩,.string ⟨⟨[]⟩⟩,.slice none 0 0]) DI aa<|aa)<|e<|dj pG aa aa aa aa (J) (by simp) fun bb O I=>ay<|C<|rt<|tr<|eD aa (dT (cs:=fD (e6,.slice none 0 0)) aa m6 aa fun j V=>I.bG j) ej ?_
 have E:=vL (F:=F) (n:=n) ab
 exact ⟨⟨.slice none 0 0,by rw [E.1,decide_eq_false (show ¬(0≤n∧n < (F.rules.length:Int)) by omega)]; rfl,by rw [E.2]; exact dC _ _ _ _⟩,A.md.trans' O fun q i h=>by omega⟩
 obtain ⟨k,rfl⟩:∃ k:Nat,n=(k:Int):=⟨n.toNat,ab⟩
 obtain ⟨r,Z⟩:∃ r,F.rules[k]? =some r:=⟨_,cI ab⟩
 obtain ⟨aN,aS,a,c,a8,an,aD,aA⟩:=OQ az.ax Z
 have a9:Hb.aR G.heap tb 14=some (.slice aN F.rules.length aS):=by rw [← a8]; exact (a7 az.cells).trans rfl
 have bm:=(ak.iN Z).1
 obtain ⟨aV,aW,bf,bg⟩:=vK Z
 refine aQ<|aH<|ag fun C=>p mv<|p (nc aa)<|p (fa vd aa)<|p (fa nU aa)<|p (ld lZ aa<|a9)<|p mv<|p (bc nd aa aa ab<|aO.ok (an)<|oa aD)<|p (di m6 aa (aa)<|fA (f:=fD) (m:=7) (fun _=>rfl) an aD)<|e<|al se fun ai bz bk au a2=> ?_
 have bt:=au.size
 refine e<|dj pG aa aa aa aa (a2) (by simp) fun ac aq aX=> ?_
 have ao:Wk G ac:=au.md.trans' aq fun q i h=>by omega
 have bo:=aq.size
 have am:bP ac.heap ai (fD (r,.slice a r.next.length c)):=aX
 refine nl<|C<|ag fun aJ=>p (fa qA aa)<|p (ld m5 aa<|am.bG 6)<|e<|cl rD (sX a r.next.length c (r.next.map bj) ac (aA.wk ao).cV.2 (by simp) (fun h=>Tg.tB aA (by simp) h) (sP _) ab) aa fun bv bx a3=> ?_
 obtain ⟨Y,M⟩:=a3
 obtain ⟨ah,aj,rfl⟩:=cE Y
 have bq:=M.size
 refine p (fa qA aa)<|e<|st s5 aa aa (aa) (Wk.B M am) (by show 6 < 7; omega) fun aF U aY=> ?_
 have ap:Wk G aF:=(ao.trans M).trans' U fun q i h=>by omega
 have bs:=U.size
 have aC:=dz Y U fun q i h=>by have :=(dS Y i).1; omega
 have a0:bP aF.heap ai (fD (r,.slice ah r.next.length aj)):=aY
 exact nl<|aJ<|ag fun aK=>p (di m6 aa (aa) fun j V=>a0.bG j)<|e<|dj pG aa aa aa aa (Wk.B ap aZ) (by show 7≤7; omega) fun bA ar a1=>p aE<|nl<|aK<|rt<|eD aa (dT (cs:=fD (r,.slice ah r.next.length aj)) aa m6 aa fun j V=>a1.bG j) ej<|⟨⟨_,by rw [aV,decide_eq_true (show 0≤(k:Int)∧(k:Int) < (F.rules.length:Int) by omega)]; rfl,by rw [aW]; exact dz (eE aC ab) ar fun q i h=>by have :=(dS aC i).1; omega⟩,(A.md.trans ap).trans' ar fun q i h=>by omega⟩
theorem U6 (a:Option Addr) (c:Nat) (l:List Nat) (x:Nat) (w:World) (E:aO w.heap a (l.map bj)) (ap:l.length≤1048576):
 bp aw 213 (bh [.slice a l.length c,bj x]) w (fun v w'=>(∃ k:Int,v= .int .i64 k∧(0≤k↔x∈l)∧ -1≤k∧k≤1048576)∧Wk w w'):=by
 refine enter func213 aa ntmps213 aa<|ag fun O=>ay<|O<|aB fun U=>ag fun V=>au (.slice a l.length c)<|p (bJ L4 aa aa)<|p mv<|nl<|V<|aJ<|lp (fun C q M=> ∃ (i:Nat),(i≤l.length)∧(∀ j,j < i→l.getD j 0≠x)∧(M=w)∧(q 0= .slice a l.length c)∧(q 1=bj x)∧(q 7=ak (l.length))∧(q 8=ak i)∧(l.length - i=C)) _ ⟨0,ab,(fun j I=>by omega),aa,aa,aa,aa,aa,aa⟩ ?_
 rintro C q M ⟨i,hi,J,ai,al,am,an,ao,rfl⟩
 refine fx 0 al<|fx 1 am<|fx 7 an<|fx 8 ao ?_
 subst ai
 refine ag fun Y=>p (lt aa aa)<|nl<|Y<|aB fun Z=>cd aa (fun aj=> ?_) fun aj=> ?_
 refine aQ<|Z<|aB fun A=>aJ<|ag fun ac=>au (ak i)<|p (cU (ak i) aa)<|nl<|ac<|ag fun ae=>au (bj x)<|au (.slice a l.length c)<|au (ak i)<|p (bc Hy aa aa ab<|aO.ok (E)<|bT ab)<|p (ld dd aa<|aO.gN E (show (l.map bj)[i]? =some (bj<|l.getD i 0) by rw [iq,da,cI (by omega :i < l.length)]; rfl)) ?_
 refine p (bK aa aa)<|nl<|ae<|cd aa (fun G=> ?_) fun G=> ?_
 exact ag fun ah=>au (ak i)<|p (cU (ak i) aa)<|nl<|ah<|rt<|br<|tr<|tr<|br<|tr<|aX aa<|⟨⟨(i:Nat),aa,⟨fun _=>by obtain rfl :x=l.getD i 0:=ab; exact dY ab,fun _=>by omega⟩,ab,ab⟩,Md.refl _ _⟩
 exact aQ<|bn<|A<|rg aa<|p (ad aa aa<|bY ab)<|p mv<|nl<|tn<|⟨_,ab,i+1,ab,(fun j I=>by rcases fu j i with h | h <;> first | exact J j h | (rw [show j=i by omega]; exact fun h2=>G<|by rw [h2])),aa,aa,aa,aa,aa,aa⟩
 exact ext<|bf<|bf<|be<|U<|ag fun A=>p aE<|nl<|A<|rt<|aX aa<|⟨⟨-1,aa,⟨fun h=>absurd h ab,fun h=>by obtain ⟨j,I,e⟩:=nZ 0 h; exact absurd e<|J j ab⟩,ab,ab⟩,Md.refl _ _⟩
theorem RN (a:Option Addr) (c:Nat) (l:List Nat) (x:Nat) (w:World) (A:aO w.heap a (l.map bj)) (G:l.length≤1048576):
 bp aw 151 (bh [.slice a l.length c,bj x]) w (fun v w'=>v= .bool (decide (x∈l))∧Wk w w'):=by
 refine enter func151 aa ntmps151 aa<|ag fun i=>ay<|i<|ag fun q=>au (.slice a l.length c)<|au (bj x)<|e<|cl PM (U6 a c l x w A G) aa fun M O C=> ?_
 obtain ⟨⟨I,rfl,E,J⟩,hE7⟩:=C
 exact p (ge aa aa)<|ay<|q<|rt<|aX aa<|⟨by show bU (decide (I≥0))=_; exact congrArg bU (decide_eq_decide.2 E),hE7⟩
theorem IV (a:Option Addr) (c:Nat) (l:List Nat) (x:Nat) (w:World) (A:aO w.heap a (l.map bj)) (G:l.length≤1048576):
 bp aw 97 (bh [.slice a l.length c,bj x]) w (fun v w'=>v= .bool (decide (x∈l))∧Wk w w'):=by
 refine enter func97 aa ntmps97 aa<|ag fun i=>ay<|i<|ag fun q=>au (.slice a l.length c)<|au (bj x)<|e<|cl Ps (RN a c l x w A G) aa fun I J E=> ?_
 obtain ⟨rfl,C⟩:=E
 exact ay<|q<|rt<|aX aa<|⟨aa,C⟩
theorem CO (B tb:Nat) (Z:iy) (F:aU) (xs:List bH) (fs:List Nat) (a:Option Addr) (c kd:Nat) (w:World) (aL:fW w B tb Z F xs) (U:eN F xs) (aC:aO w.heap a (fs.map bj)) (b7:fs.length≤64) (ar:fs.Pairwise (· < ·)):
 bp aw 91 (bh [aT tb,.slice a fs.length c,ak kd]) w (fun v w'=>bw w' w.heap.size 3 1 v (aW F fs kd).length ((aW F fs kd).map bQ)∧Wk w w'):=by
 have cc:=U.len
 refine enter func91 aa ntmps91 aa<|ag fun a0=>ay<|a0<|ag fun a9=>p aE<|nl<|a9<|aB fun ba=>ag fun bb=>au (.slice a fs.length c)<|p (bJ oT aa aa)<|p mv<|nl<|bb<|aJ<|lp (fun O G J=> ∃ (i:Nat) (v:Value),(i≤fs.length)∧(bw J w.heap.size 3 1 v ((fs.take i).flatMap<|gH F kd).length<|((fs.take i).flatMap<|gH F kd).map bQ)∧(((fs.take i).flatMap<|gH F kd).length≤i*70000)∧(Wk w J)∧(G 0=aT tb)∧(G 2=ak kd)∧(G 7=v)∧(G 13= .slice a fs.length c)∧(G 14=ak (fs.length))∧(G 15=ak i)∧(fs.length - i=O)) _ ⟨0,.slice none 0 0,ab,(dC _ _ _ _),(jG _),(Md.refl _ _),aa,aa,aa,aa,aa,aa,aa⟩ ?_
 rintro O G J ⟨i,v,hi,ae,aS,C,bG,bN,bO,bI,bK,bL,rfl⟩
 refine fx 0 bG<|fx 2 bN<|fx 7 bO<|fx 13 bI<|fx 14 bK<|fx 15 bL<|ag fun bd=>p (lt aa aa)<|nl<|bd<|aB fun bg=>cd aa (fun bv=> ?_) fun bv=> ?_
 refine aQ<|bg<|aB fun M=>aJ<|ag fun aj=>p (bc ca aa aa ab<|aO.ok (aC.wk C)<|bT ab)<|p (ld dd aa<|aO.gN (aC.wk C) (show (fs.map bj)[i]? =some (bj<|fs.getD i 0) by rw [iq,da,cI (by omega :i < fs.length)]; rfl)) ?_
 refine ay<|aj<|ag fun bi=>au (aT tb)<|p (nc aa)<|p (fa B6 aa)<|p (ld gq aa<|(a7 (aL.wk C).cells).trans aa)<|p mv<|e<|cl Ay (BA B Z.fb Z.mc F Z.V (fs.getD i 0) J (aL.wk C).fl ab) aa fun cj cm aK=> ?_
 obtain ⟨cl,aP⟩:∃ cl,(eb F.bA<|fs.getD i 0).getD sY=cl:=⟨_,rfl⟩
 rw [aP] at aK
 have I:=TC (f:=gH F kd) (show i < fs.length by omega)
 obtain ⟨rfl,aD⟩:=aK
 have cf:=aD.size
 refine p mv<|p (xt aa aa)<|p (xt aa aa)<|e<|fg tW fun al ck b3 aH bk=> ?_
 have ce:=aH.size
 refine e<|gj rF aa aa aa aa bk (by simp) fun aZ aG bo=> ?_
 have ac:Wk J aZ:=(aD.trans aH.md).trans' aG fun q cb h=>by omega
 have ci:=aG.size
 have an:aZ.heap[al]? =some (.cells (nN cl).toArray 131 (0,0)):=bo
 have ax:=a6 ae ac
 refine ay<|bi<|aB fun a1=>ag fun aA=>p mv<|p (no aa)<|p mv<|gb (t:=30) aa (fun av=> ?_) fun av=> ?_
 have Y:gH F kd (fs.getD i 0)= []:=RA<|by simpa using av
 exact aI aa<|aI aa<|aI aa<|aI aa<|p (bC aa)<|nl<|aA<|ct aa<|ext<|bf<|be<|M<|rg aa<|p (ad aa aa<|bY ab)<|p mv<|nl<|tn<|⟨_,ab,i+1,v,ab,(by rw [I,Y,ei]; exact ax),(by rewrite [I,Y,ei]; exact gk aS<|sA _<|Nat.le_succ i),(C.trans ac),aa,aa,aa,aa,aa,aa,aa⟩
 have aq:=RD (k:=kd) (by simpa using av) aP
 refine aM aa (fa uU aa)<|aM aa (ld bz aa<|(a7 an).trans aa)<|aM aa (aV (ak kd) aa)<|aM aa (cO aa aa)<|p (bu aa)<|nl<|aA<|cd aa (fun aN=> ?_) fun aN=> ?_
 have Y:gH F kd (fs.getD i 0)= []:=RB aq fun h=>aN<|by rw [h]
 exact ext<|bf<|be<|M<|rg aa<|p (ad aa aa<|bY ab)<|p mv<|nl<|tn<|⟨_,ab,i+1,v,ab,(by rw [I,Y,ei]; exact ax),(by rewrite [I,Y,ei]; exact gk aS<|sA _<|Nat.le_succ i),(C.trans ac),aa,aa,aa,aa,aa,aa,aa⟩
 have bB:cl.kind=kd:=ab
 have aR:=RE aq bB
 have b5:=Ry U.cls aq
 refine aQ<|a1<|ag fun a2=>p (fa yc aa)<|p (ld bz aa<|(a7 an).trans aa)<|p mv<|nl<|a2<|aJ<|lp (fun O A ai=> ∃ (j:Nat) (v2:Value),(j≤cl.count)∧(bw ai w.heap.size 3 1 v2 ((fs.take i).flatMap (gH F kd)++(j6 j).map (cl.first+ ·)).length<|((fs.take i).flatMap (gH F kd)++(j6 j).map (cl.first+ ·)).map bQ)∧(ai.heap[al]? =some (.cells (nN cl).toArray 131 (0,0)))∧(Wk w ai)∧(A 0=aT tb)∧(A 2=ak kd)∧(A 7=v2)∧(A 10=aT al)∧(A 13= .slice a fs.length c)∧(A 14=ak (fs.length))∧(A 15=ak i)∧(A 37=ak (cl.count))∧(A 38=ak j)∧(cl.count - j=O)) _ ⟨0,v,ab,(by rw [List.range_zero,List.map_nil,ei]; exact ax),an,(C.trans ac),aa,aa,aa,aa,aa,aa,aa,aa,aa,aa⟩ ?_
 rintro O A ai ⟨j,v2,b8,ah,ao,am,bP,bW,b0,bR,bS,bU,bV,bX,bZ,rfl⟩
 refine fx 0 bP<|fx 2 bW<|fx 7 b0<|fx 10 bR<|fx 13 bS<|fx 14 bU<|fx 15 bV<|fx 37 bX<|fx 38 bZ<|ag fun a3=>p (lt aa aa)<|nl<|a3<|aB fun a4=>cd aa (fun bx=> ?_) fun bx=> ?_
 refine aQ<|a4<|aB fun a5=>aJ<|ag fun a8=>au (ak j)<|p (cU (ak j) aa)<|nl<|a8<|rg aa<|au (v2)<|p (fa Ic aa)<|p (ld bz aa<|(a7 ao).trans aa)<|au (ak j)<|p (bF ((cl.first+j:Nat):Int) aa aa<|bl ab ab)<|e<|fZ nq aa aa fun b2 cn b4 E bm=> ?_
 have cg:=E.size
 have b9:((fs.take i).flatMap (gH F kd)++(j6 j).map (cl.first+ ·)).length=((fs.take i).flatMap<|gH F kd).length+j:=by rw [bM,fM,NJ]
 have bE:(fs.take i).flatMap (gH F kd)++(j6<|j+1).map (cl.first+ ·)=((fs.take i).flatMap (gH F kd)++(j6 j).map (cl.first+ ·))++ [cl.first+j]:=by rw [NR,ir,← List.append_assoc]; rfl
 refine e<|ap nq (a6 ah E.md) aa (by have :=am.size; omega) aa (aO.ec bm) (aa) (aa) ab ab fun b1 co bD aF ch b6=> ?_
 have bq:=Wk.own (am.trans E.md) (a6 ah E.md) aF<|cD _
 have bt:=aF.aJ (E.md.aJ ao) fun h=>dI (a6 ah E.md) (E.md.aJ ao) az h
 exact p aE<|nl<|bn<|a5<|rg aa<|p (ad aa aa<|bY ab)<|p mv<|nl<|tn<|⟨_,ab,j+1,b1,ab,(by rw [bE,ir,bM]; exact bD),bt,bq,aa,aa,aa,aa,aa,aa,aa,aa,aa,aa⟩
 exact ext<|bf<|bf<|be<|bn<|M<|rg aa<|p (ad aa aa<|bY ab)<|p mv<|nl<|tn<|⟨_,ab,i+1,v2,ab,(by rw [I,aR,show cl.count=j by omega]; exact ah),(by rewrite [I,aR,bM,fM,NJ]; omega),am,aa,aa,aa,aa,aa,aa,aa⟩
 refine ext<|bf<|bf<|be<|ba<|aB fun M=> ?_
 rw [List.take_of_length_le (show fs.length≤i by omega)] at ae
 refine rg aa<|au (v)<|e<|cl QF (Yk w.heap.size _ v ((fs.flatMap<|gH F kd).map fun i:Nat=>(i:Int)) J (by rw [JE]; exact ae)<|by rw [fM]; have :=Wg U.cls ar kd; omega) aa fun v51 cp bs=> ?_
 obtain ⟨rfl,aY,br⟩:=bs
 rw [Yl U.cls ar,JE,JZ U.cls ar] at aY
 exact nl<|M<|ag fun aj=>au (v)<|p (cU (v) aa)<|nl<|aj<|rt<|aX aa<|⟨aY,Wk.own C ae br<|cD _⟩
theorem YM (B tb:Nat) (i:iy) (F:aU) (xs:List bH) (n:Int) (w:World) (M:fW w B tb i F xs) (a:eN F xs):
 bp aw 53 (bh [aT tb,.int .i64 n]) w (fun v w'=>bw w' w.heap.size 3 1 v (aW F (flagsOf xs n) 2).length ((aW F (flagsOf xs n) 2).map bQ)∧Wk w w'):=by
 refine enter func53 aa ntmps53 aa<|ag fun U=>ay<|U<|ag fun V=>au (aT tb)<|au (.int .i64 n)<|e<|cl qp (xW B tb i F xs n w M a) aa fun v10 an ai=> ?_
 obtain ⟨⟨ao,rfl,O⟩,hE10⟩:=ai
 obtain ⟨E,G,rfl⟩:=cE O
 have av:=hE10.size
 refine p mv<|p (xt aa aa)<|p (xt aa aa)<|e<|al qX fun Z aB ap J ae=> ?_
 have ax:=J.size
 refine e<|dj kD aa aa aa aa (ae) (by simp) fun C I ac=> ?_
 have A:Wk an C:=J.md.trans' I fun q aq h=>by omega
 have ar:=I.size
 have ak:bP C.heap Z ([str (kE xs n),.slice E (flagsOf xs n).length G]):=ac
 refine ay<|V<|ag fun Y=>au (aT tb)<|p (fa rL aa)<|p (ld m5 aa<|ak.bG 1)<|e<|cl A0 (CO B tb i F xs (flagsOf xs n) E G 2 C (M.wk<|hE10.trans A) a ((ba O).2.wk A) (og a n).1 (og a n).2.1) aa fun az aA aj=> ?_
 obtain ⟨am,ah⟩:=aj
 exact ay<|Y<|rt<|aX aa<|⟨eE am ab,(hE10.trans A).trans ah⟩
theorem W8 (B tb:Nat) (i:iy) (F:aU) (xs:List bH) (n:Int) (w:World) (M:fW w B tb i F xs) (a:eN F xs):
 bp aw 55 (bh [aT tb,.int .i64 n]) w (fun v w'=>bw w' w.heap.size 3 1 v (aW F (flagsOf xs n) 1).length ((aW F (flagsOf xs n) 1).map bQ)∧Wk w w'):=by
 refine enter func55 aa ntmps55 aa<|ag fun U=>ay<|U<|ag fun V=>au (aT tb)<|au (.int .i64 n)<|e<|cl qp (xW B tb i F xs n w M a) aa fun v10 an ai=> ?_
 obtain ⟨⟨ao,rfl,O⟩,hE10⟩:=ai
 obtain ⟨E,G,rfl⟩:=cE O
 have av:=hE10.size
 refine p mv<|p (xt aa aa)<|p (xt aa aa)<|e<|al qX fun Z aB ap J ae=> ?_
 have ax:=J.size
 refine e<|dj kD aa aa aa aa (ae) (by simp) fun C I ac=> ?_
 have A:Wk an C:=J.md.trans' I fun q aq h=>by omega
 have ar:=I.size
 have ak:bP C.heap Z ([str (kE xs n),.slice E (flagsOf xs n).length G]):=ac
 refine ay<|V<|ag fun Y=>au (aT tb)<|p (fa rL aa)<|p (ld m5 aa<|ak.bG 1)<|e<|cl A0 (CO B tb i F xs (flagsOf xs n) E G 1 C (M.wk<|hE10.trans A) a ((ba O).2.wk A) (og a n).1 (og a n).2.1) aa fun az aA aj=> ?_
 obtain ⟨am,ah⟩:=aj
 exact ay<|Y<|rt<|aX aa<|⟨eE am ab,(hE10.trans A).trans ah⟩
theorem X2 (B tb:Nat) (i:iy) (F:aU) (xs:List bH) (n:Int) (w:World) (M:fW w B tb i F xs) (a:eN F xs):
 bp aw 54 (bh [aT tb,.int .i64 n]) w (fun v w'=>bw w' w.heap.size 3 1 v (aW F (db F n) 2).length ((aW F (db F n) 2).map bQ)∧Wk w w'):=by
 refine enter func54 aa ntmps54 aa<|ag fun U=>ay<|U<|ag fun V=>au (aT tb)<|au (.int .i64 n)<|e<|cl Gd (yY B tb i F xs n w M a) aa fun v10 an ai=> ?_
 obtain ⟨⟨ao,rfl,O⟩,hE10⟩:=ai
 obtain ⟨E,G,rfl⟩:=cE O
 have av:=hE10.size
 refine p mv<|p (xt aa aa)<|p (xt aa aa)<|e<|al se fun Z aB ap J ae=> ?_
 have ax:=J.size
 refine e<|dj pG aa aa aa aa (ae) (by simp) fun C I ac=> ?_
 have A:Wk an C:=J.md.trans' I fun q aq h=>by omega
 have ar:=I.size
 have ak:bP C.heap Z (fD (rZ F n,.slice E (db F n).length G)):=ac
 refine ay<|V<|ag fun Y=>au (aT tb)<|p (fa qA aa)<|p (ld m5 aa<|ak.bG 6)<|e<|cl A0 (CO B tb i F xs (db F n) E G 2 C (M.wk<|hE10.trans A) a ((ba O).2.wk A) (tK a n).1 (tK a n).2.1) aa fun az aA aj=> ?_
 obtain ⟨am,ah⟩:=aj
 exact ay<|Y<|rt<|aX aa<|⟨eE am ab,(hE10.trans A).trans ah⟩
theorem Ho (B tb:Nat) (M:iy) (F:aU) (xs:List bH) (n:Int) (w:World) (ac:fW w B tb M F xs) (C:eN F xs):
 bp aw 93 (bh [aT tb,.int .i64 n]) w (fun v w'=>v= .bool (nQ F n)∧Wk w w'):=by
 refine enter func93 aa ntmps93 aa<|ag fun ah=>ay<|ah<|ag fun ai=>au (aT tb)<|au (.int .i64 n)<|e<|cl Gd (yY B tb M F xs n w ac C) aa fun v10 ax ap=> ?_
 obtain ⟨⟨aA,rfl,ae⟩,hE10⟩:=ap
 obtain ⟨O,U,rfl⟩:=cE ae
 have aG:=hE10.size
 refine p mv<|p (xt aa aa)<|p (xt aa aa)<|e<|al se fun ak aK aC Z an=> ?_
 have aI:=Z.size
 refine e<|dj pG aa aa aa aa (an) (by simp) fun i Y am=> ?_
 have V:Wk ax i:=Z.md.trans' Y fun q aD h=>by omega
 have aF:=Y.size
 have av:bP i.heap ak (fD (rZ F n,.slice O (db F n).length U)):=am
 have E:=hE10.trans V
 have ar:=ac.wk E
 refine ay<|ai<|aB fun J=> ?_
 have a:(fun w'=>Wk i w') i.drew:=(Md.refl _ _).drew
 refine bN (fun w'=>Wk i w') aa wide a<|aH 0 aa (fun _ _=>mv) a<|aH 1 aa (fun _ _=>mv) a<|iK (t:=14) aa (fun I=> ?_) fun I=> ?_
 refine bm 2 aa (fun _ _=>fa qA aa) a<|bm 3 aa (fun w' G=>ld m5 aa<|Wk.aR G<|av.bG 6) a<|bm 4 aa (fun _ _=>aV (aT tb) aa) a<|bm 5 aa (fun _ _=>nc aa) a<|bm 6 aa (fun _ _=>fa vd aa) a<|bm 7 aa (fun _ _=>fa yo aa) a<|bm 8 aa (fun _ _=>kg uE aa aa ab) a<|bm 9 aa (fun w' G=>ld dd aa<|Wk.aR G<|LR ar (k:=0) ab) a<|l7 10 aa aj aa aa aa<|cl Gy (IV O U (db F n) (F.sp.getD 0 0) i.drew (((ba ae).2.wk V).wk a)<|by have :=(tK C n).1; omega) aa fun aJ az aq=> ?_
 obtain ⟨rfl,ao⟩:=aq
 have A:(fun w'=>Wk i w') az:=a.trans ao
 refine ⟨A,?_⟩
 exact bm 11 aa (fun _ _=>no aa) A<|aH 12 aa (fun _ _=>bC aa) A<|aH 13 aa (fun _ _=>aE) A<|hn aj<|J<|rt<|aX aa<|⟨by unfold nQ; rw [decide_eq_true I,IW (tK C n).2.2]; rfl,E.trans A⟩
 exact a8 2 aa a<|a8 3 aa a<|a8 4 aa a<|a8 5 aa a<|a8 6 aa a<|a8 7 aa a<|a8 8 aa a<|a8 9 aa a<|a8 10 aa a<|a8 11 aa a<|aH 12 aa (fun _ _=>bu aa) a<|aH 13 aa (fun _ _=>aE) a<|hn aj<|J<|rt<|aX aa<|⟨by unfold nQ; rw [decide_eq_false I]; rfl,E.trans a⟩
theorem CK (B tb:Nat) (J:iy) (F:aU) (xs:List bH) (n k:Int) (w:World) (Z:fW w B tb J F xs) (G:eN F xs):
 bp aw 61 (bh [aT tb,.int .i64 n,.int .i64 k]) w (fun v w'=>v= .bool (ma F xs n k)∧Wk w w'):=by
 refine enter func61 aa ntmps61 aa<|ag fun ah=>ay<|ah<|ag fun ai=>p mv<|p mv<|e<|cl qp (xW B tb J F xs n w Z G) aa fun v12 az ap=> ?_
 obtain ⟨⟨a12,rfl,ae⟩,hE12⟩:=ap
 obtain ⟨M,O,rfl⟩:=cE ae
 have aG:=hE12.size
 refine p mv<|p (xt aa aa)<|p (xt aa aa)<|e<|al qX fun ak aK aC Y an=> ?_
 have aI:=Y.size
 refine e<|dj kD aa aa aa aa (an) (by simp) fun i V am=> ?_
 have U:Wk az i:=Y.md.trans' V fun q aD h=>by omega
 have aF:=V.size
 have au:bP i.heap ak [str (kE xs n),.slice M (flagsOf xs n).length O]:=am
 have A:=hE12.trans U
 have ar:=Z.wk A
 refine ay<|ai<|aB fun C=> ?_
 have a:(fun w'=>Wk i w') i.drew:=(Md.refl _ _).drew
 refine bN (fun w'=>Wk i w') aa wide a<|aH 0 aa (fun _ _=>mv) a<|aH 1 aa (fun _ _=>mv) a<|iK (t:=16) aa (fun ac=> ?_) fun ac=> ?_
 refine bm 2 aa (fun _ _=>mv) a<|bm 3 aa (fun _ _=>ge aa aa) a<|aH 4 aa (fun _ _=>bC aa) a<|aH 5 aa (fun _ _=>mv) a<|iK (t:=20) aa (fun av=> ?_) fun av=> ?_
 refine bm 6 aa (fun _ _=>mv) a<|bm 7 aa (fun _ _=>lt aa aa) a<|aH 8 aa (fun _ _=>bC aa) a<|aH 9 aa (fun _ _=>mv) a<|iK (t:=24) aa (fun ax=> ?_) fun ax=> ?_
 obtain ⟨k,rfl⟩:∃ m:Nat,k=(m:Int):=⟨k.toNat,ab⟩
 refine bm 10 aa (fun _ _=>fa rL aa) a<|bm 11 aa (fun w' I=>ld m5 aa<|Wk.aR I<|au.bG 1) a<|bm 12 aa (fun _ _=>mv) a<|bm 13 aa (fun _ _=>mv) a<|bm 14 aa (fun _ _=>nc aa) a<|bm 15 aa (fun _ _=>fa vd aa) a<|bm 16 aa (fun _ _=>fa yo aa) a<|bm 17 aa (fun _ _=>kg uE aa aa ab) a<|bm 18 aa (fun w' I=>ld dd aa<|Wk.aR I<|LR ar ab) a<|l7 19 aa aj aa aa aa<|cl Gy (IV M O (flagsOf xs n) (F.sp.getD k 0) i.drew (((ba ae).2.wk U).wk a)<|by have :=(og G n).1; omega) aa fun aJ aA aq=> ?_
 obtain ⟨rfl,ao⟩:=aq
 have E:(fun w'=>Wk i w') aA:=a.trans ao
 refine ⟨E,?_⟩
 exact aH 20 aa (fun _ _=>bC aa) E<|aH 21 aa (fun _ _=>aE) E<|hn aj<|C<|rt<|aX aa<|⟨by unfold ma rP; rw [decide_eq_true (show 0≤((k:Nat):Int)∧((k:Nat):Int) < 5 by omega),mU,IW (og G n).2.2]; rfl,A.trans E⟩
 exact a8 10 aa a<|a8 11 aa a<|a8 12 aa a<|a8 13 aa a<|a8 14 aa a<|a8 15 aa a<|a8 16 aa a<|a8 17 aa a<|a8 18 aa a<|a8 19 aa a<|aH 20 aa (fun _ _=>bu aa) a<|aH 21 aa (fun _ _=>aE) a<|hn aj<|C<|rt<|aX aa<|⟨by unfold ma; rw [decide_eq_false (show ¬(0≤k∧k < 5) by omega)]; rfl,A.trans a⟩
 exact a8 6 aa a<|a8 7 aa a<|aH 8 aa (fun _ _=>bu aa) a<|aH 9 aa (fun _ _=>mv) a<|a8 10 aa a<|a8 11 aa a<|a8 12 aa a<|a8 13 aa a<|a8 14 aa a<|a8 15 aa a<|a8 16 aa a<|a8 17 aa a<|a8 18 aa a<|a8 19 aa a<|aH 20 aa (fun _ _=>bu aa) a<|aH 21 aa (fun _ _=>aE) a<|hn aj<|C<|rt<|aX aa<|⟨by unfold ma; rw [decide_eq_false (show ¬(0≤k∧k < 5) by omega)]; rfl,A.trans a⟩
 exact a8 2 aa a<|a8 3 aa a<|aH 4 aa (fun _ _=>bu aa) a<|aH 5 aa (fun _ _=>mv) a<|a8 6 aa a<|a8 7 aa a<|aH 8 aa (fun _ _=>bu aa) a<|aH 9 aa (fun _ _=>mv) a<|a8 10 aa a<|a8 11 aa a<|a8 12 aa a<|a8 13 aa a<|a8 14 aa a<|a8 15 aa a<|a8 16 aa a<|a8 17 aa a<|a8 18 aa a<|a8 19 aa a<|aH 20 aa (fun _ _=>bu aa) a<|aH 21 aa (fun _ _=>aE) a<|hn aj<|C<|rt<|aX aa<|⟨by unfold ma rP; rw [(sS ac).2,decide_eq_false (show ¬(F.sp.getD k.toNat 0≠0∧F.sp.getD k.toNat 0∈[]) from fun h=>by cases h.2),Bool.and_false]; rfl,A.trans a⟩
end Go.Hb.nI
end
