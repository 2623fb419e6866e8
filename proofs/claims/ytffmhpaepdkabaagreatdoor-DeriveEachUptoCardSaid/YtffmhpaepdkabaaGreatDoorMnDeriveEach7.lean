/-
  Walks and plain laws that the law rests on, laid together. No conditions but those that each theorem names.
-/
import Derived.Test.YtffmhpaepdkabaaGreatDoorMnDeriveEach6
set_option linter.unusedVariables false
set_option maxRecDepth 20000
set_option maxHeartbeats 1000000
open Array renaming getElem?_eq_some_iff→cQ
open Bool renaming noConfusion→ei,or_eq_false_iff→nm
open Classical renaming byContradiction→Mm,not_not→jq
open Go.Calls renaming mono→lN
open Go.Proofs.Tryz renaming prog→aw
open Go.Value renaming bool→bT,int→jk,slice→bR
open Go.World renaming ownsRow→bu,ownsRow_nil→dx
open Int renaming toNat_natCast→mM
open List renaming all_cons→tS,append_nil→ek,drop_eq_nil_of_le→gV,eq_nil_of_length_eq_zero→fS,getD_eq_getElem?_getD→cV,getElem?_eq_getElem→cD,getElem?_eq_some_iff→fJ,getElem?_map→im,getElem?_zip_eq_some→jx,length_append→bL,length_cons→cT,length_map→fK,length_pos_iff→lx,length_range→M8,length_singleton→e5,map_append→iq,mem_append→jz,mem_cons_self→Na,mem_of_getElem?→iP,mem_singleton→j4,range→j5,range_succ→Ni,toArray→bh,zip_append→Em
open Nat renaming le_refl→cB,le_trans→gd,lt_or_ge→fg,mul_le_mul_right→sc,zero_le→jD
open Go.Proofs.Tryz
open Go.Hb.dX Go.Proofs Go.Hb.jG Go.Hb.fk Go.Hb.gh Go.Hb.lP Go.Hb.j7 Go.Hb.kn Go.Hb.jQ Go.Hb.kI

section
namespace Go.Hb.zL
open Go.Hb.nq Go.Hb.od
theorem Xj {kind ln:Nat} {al:List (List Nat)} {c:db} {r:List Tx} {e:Nat} (h:r.length=4∨r.length=5) (h1:eB true (r.getD 2 [])= .error e):fF kind al c ln r= .error e:=by rw [mE h,h1]
theorem Kq {kind ln:Nat} {al:List (List Nat)} {c:db} {r:List Tx} {e:Nat} {st:Tx} (h:r.length=4∨r.length=5) (h1:eB true (r.getD 2 [])= .ok st) (h2:jJ (bA<|r.getD 3 [])= .error e):fF kind al c ln r= .error e:=by rw [mE h,h1]; simp only; rw [h2]
theorem Kr {kind ln:Nat} {al:List (List Nat)} {c:db} {r:List Tx} {e:Nat} {st ad:Tx} (h:r.length=4∨r.length=5) (h1:eB true (r.getD 2 [])= .ok st) (h2:jJ (bA<|r.getD 3 [])= .ok ad) (h3:kS kind al c.kind (bA<|r.getD 3 [])= .error e):fF kind al c ln r= .error e:=by rw [mE h,h1]; simp only; rw [h2]; simp only; rw [h3]
theorem Ks {kind ln:Nat} {al:List (List Nat)} {c:db} {r:List Tx} {e:Nat} {st ad:Tx} {nx:List Nat} (h:r.length=4∨r.length=5) (h1:eB true (r.getD 2 [])= .ok st) (h2:jJ (bA<|r.getD 3 [])= .ok ad) (h3:kS kind al c.kind (bA<|r.getD 3 [])= .ok nx) (h4:kL r= .error e):fF kind al c ln r= .error e:=by rw [mE h,h1]; simp only; rw [h2]; simp only; rw [h3]; simp only; rw [h4]
theorem Xk {kind ln:Nat} {al:List (List Nat)} {c:db} {r:List Tx} {st ad cd:Tx} {nx:List Nat} (h:r.length=4∨r.length=5) (h1:eB true (r.getD 2 [])= .ok st) (h2:jJ (bA<|r.getD 3 [])= .ok ad) (h3:kS kind al c.kind (bA<|r.getD 3 [])= .ok nx) (h4:kL r= .ok cd):fF kind al c ln r= .ok ⟨c.kind,c.flag,c.et,st,ad,cd,nx,ln⟩:=by rw [mE h,h1]; simp only; rw [h2]; simp only; rw [h3]; simp only; rw [h4]
def mi (xb:Nat) (F:aT) (c:db) (ln:Nat) (r:List Tx) (w:World) (v:Value) (w':World):Prop :=Md (fun k=>k=xb) w w'∧∃ L:List Value,L.length=8∧L.all Value.oneCell'=true∧w'.heap[xb]? =some (.cells L.toArray 174 (0,0))∧((∃ q vn,fF F.kind F.aliases c ln r= .ok q∧v= .int .i64 (0:Nat)∧L=jv (q,vn)∧Tg w' 0 3 q.next.length vn (q.next.map bP))∨(∃ e:Nat,fF F.kind F.aliases c ln r= .error e∧e≠0∧v= .int .i64 (e:Nat)))
section
variable {xb ln:Nat} {F:aT} {c:db} {r:List Tx} {w w':World} {st ad cd:Tx} {vn:Value}
theorem mi.no {e:Nat} (hm:Md (fun k=>k=xb) w w') (i:w'.heap[xb]? =some (.cells [.int .i64 (c.kind:Nat),bP c.flag,.bool c.et,str st,str ad,str cd,vn,.int .i64 (ln:Nat)].toArray 174 (0,0))) (a:vn.oneCell'=true) (h:fF F.kind F.aliases c ln r= .error e) (he:e≠0):mi xb F c ln r w (.int .i64 (e:Nat)) w':=
 ⟨hm,_,rfl,by simp only [tS,a]; rfl,i,.inr ⟨e,h,he,rfl⟩⟩
theorem mi.ok {nx:List Nat} (hm:Md (fun k=>k=xb) w w') (q:w'.heap[xb]? =some (.cells [.int .i64 (c.kind:Nat),bP c.flag,.bool c.et,str st,str ad,str cd,vn,.int .i64 (ln:Nat)].toArray 174 (0,0))) (i:vn.oneCell'=true) (a:Tg w' 0 3 nx.length vn (nx.map bP)) (h:fF F.kind F.aliases c ln r= .ok ⟨c.kind,c.flag,c.et,st,ad,cd,nx,ln⟩):mi xb F c ln r w (.int .i64 (0:Nat)) w':=
 ⟨hm,_,rfl,by simp only [tS,i]; rfl,q,.inl ⟨_,vn,h,rfl,rfl,a⟩⟩
end
theorem Rh {s t:Tx} (h:t∈(di s).1) (hs:s.length≤1048576):(t.length=1∨3≤t.length)∧t.length≤1048576:=by
 have :=Gj.1 t h
 exact ⟨this.1,ab⟩
theorem rN (w:World) (B e:Nat):Tg w B e 0 (.slice none 0 0) []:=⟨none,0,rfl,cB _,.inl rfl⟩
theorem TL {F F':aT} {ln:Nat} {row:List Tx} (h:jb F ln row= .ok F'):F'.bw=F.bw∧F'.kind=F.kind:=by
 unfold jb at h
 repeat' split at h
 all_goals first
  | (cases h; done)
  | (cases h; exact ⟨rfl,rfl⟩)
theorem Ih (B fb xb:Nat) (F:aT) (V:ep) (c:db) (ln:Nat) (r:List Tx) (aF:Nat) (ar:Option Addr) (cr:Nat) (w:World) (ca:nu w B 0 fb F V) (hk:F.kind=1∨F.kind=2∨F.kind=3) (cN:F.aliases.length≤70000) (da:w.heap[xb]? =some (.cells [ak (c.kind),bP c.flag,.bool c.et,str [],str [],str [],.slice none 0 0,ak ln].toArray 174 (0,0))) (bk:Tg w aF 9 r.length (.slice ar r.length cr) (r.map str)) (C:r.length=4∨r.length=5) (a4:∀ x∈r,x.length≤70000):
 bo aw 260 (bh [aR fb,aR xb,.slice ar r.length cr]) w (mi xb F c ln r w):=by
 have bn:=bk.cM
 have ds:(r.getD 2 []).length≤70000:=a4 _<|dV ab
 have dt:(r.getD 3 []).length≤70000:=a4 _<|dV ab
 have dv:=rQ<|r.getD 3 []
 refine enter func260 aa ntmps260 aa<|ag fun bV=>ay<|bV<|ag fun bZ=>au (.slice ar r.length cr)<|p (ba cI aa aa ab<|aJ.ok (bn.2)<|bS ab)<|p (ld bU aa<|cg.get (i:=2) bn.2 ab)<|e<|cl Az (B5 (r.getD 2 []) true w ab) aa fun dx aA ci=> ?_
 obtain ⟨⟨st,e,rfl,bz⟩,hE19⟩:=ci
 have a6:=Wk.aM hE19 da
 have ah:Md (fun k=>k=xb) w aA:=hE19.mono fun _ _ h=>h.elim
 refine p mv<|p (xt aa aa)<|p (xt aa aa)<|p aB<|ay<|bZ<|aC fun b0=>ag fun b1=>p mv<|p (dj aa aa)<|nl<|b1<|cd aa (fun cy=> ?_) fun cy=> ?_
 have bx:eB true (r.getD 2 [])= .error e∧e≠0:=by
  rcases bz with ⟨_,h⟩ | h
  omega
  exact h
 exact ag fun aL=>p mv<|ay<|aL<|rt<|tr<|aX aa<|mi.no ah a6 aa (Xj C bx.1) bx.2
 obtain ⟨av,rfl⟩:eB true (r.getD 2 [])= .ok st∧e=0:=by
  rcases bz with h | ⟨_,h⟩
  exact h
  omega
 refine aO<|b0<|ag fun aL=>au (aR xb)<|p mv<|p (nc aa)<|p (fa sW aa)<|e<|cJ kM aa aa (v:=str st) aa a6 (by show _ < 8; omega) fun bO aW b9=> ?_
 have bL:=a6
 have ao:=(bk.wk hE19).md aW<|fu bL az
 have bi:=(ca.wk hE19).md aW (TF.eq (L:= [176]) (dw bL) az) az
 have cQ:=(ah).trans' aW fun _ _ h=>h
 have de:bO.heap[xb]? =some (.cells [ak (c.kind),bP c.flag,.bool c.et,str st,str [],str [],.slice none 0 0,ak ln].toArray 174 (0,0)):=b9
 refine nl<|aL<|ag fun b2=>au (.slice ar r.length cr)<|p (ba cI aa aa ab<|aJ.ok (ao.cM.2)<|bS ab)<|p (ld bU aa<|cg.get (i:=3) ao.cM.2 ab)<|e<|cl xf (yL (r.getD 3 []) bO ab) aa fun dy bN cj=> ?_
 obtain ⟨rfl,E⟩:=cj
 have bb:=Wk.aM E de
 have aZ:Md (fun k=>k=xb) w bN:=cQ.trans' E fun _ _ h=>h.elim
 refine p mv<|p (xt aa aa)<|p (xt aa aa)<|p (xt aa aa)<|p (xt aa aa)<|p aB<|p aB<|p aB<|ay<|b2<|aC fun b3=>ag fun b4=>p mv<|p (dj aa aa)<|nl<|b4<|cd aa (fun cz=> ?_) fun cz=> ?_
 exact ag fun a=>p mv<|ay<|a<|rt<|tr<|aX aa<|mi.no aZ bb aa (Kq C av<|Ev ab) ab
 have bf:(bA<|r.getD 3 []).2.2.2=0:=ab
 refine aO<|b3 ?_
 refine ej (fun M I=> ∃ (s1 A:Tx),(eB true (r.getD 2 [])= .ok s1)∧(jJ (bA<|r.getD 3 [])= .ok A)∧(I.heap[xb]? =some (.cells [ak (c.kind),bP c.flag,.bool c.et,str s1,str A,str [],.slice none 0 0,ak ln].toArray 174 (0,0)))∧(nu I B 0 fb F V)∧(Tg I aF 9 r.length (.slice ar r.length cr)<|r.map str)∧(Md (fun k=>k=xb) w I)∧(M 0=aR fb)∧(M 1=aR xb)∧(M 2= .slice ar r.length cr)∧(M 10=str (bA<|r.getD 3 []).2.1)∧(M 11= .bool (bA<|r.getD 3 []).2.2.1)) ?_ ?_
 refine ag fun a=>p mv<|p (oG aa aa)<|nl<|a<|cd aa (fun ap=> ?_) fun ap=> ?_
 refine ag fun q=>p mv<|e<|cl AE (BX (bA<|r.getD 3 []).1 bN ab) aa fun dz dm ck=> ?_
 obtain ⟨rfl,al⟩:=ck
 have bc:=Wk.aM al bb
 have bt:Md (fun k=>k=xb) w dm:=aZ.trans' al fun _ _ h=>h.elim
 refine ay<|q<|aC fun U=>ag fun Y=>p mv<|p (dj aa aa)<|nl<|Y<|cd aa (fun cA=> ?_) fun cA=> ?_
 exact ag fun aG=>p mv<|ay<|aG<|rt<|tr<|tr<|aX aa<|mi.no bt bc aa (Kq C av<|Ew bf ap ab) ab
 refine aO<|U<|rg aa<|au (aR xb)<|p mv<|p (nc aa)<|p (fa BC aa)<|e<|cJ kM aa aa (v:=str (bA<|r.getD 3 []).1) aa bc (by show _ < 8; omega) fun dh aS b5=> ?_
 have bH:=bc
 have cq:=((ao.wk E).wk al).md aS<|fu bH az
 have ce:=((bi.wk E).wk al).md aS (TF.eq (L:= [176]) (dw bH) az) az
 have cO:=(bt).trans' aS fun _ _ h=>h
 have dc:dh.heap[xb]? =some (.cells [ak (c.kind),bP c.flag,.bool c.et,str st,str (bA<|r.getD 3 []).1,str [],.slice none 0 0,ak ln].toArray 174 (0,0)):=b5
 exact nl<|tn<|⟨st,(bA<|r.getD 3 []).1,av,(Ex bf ap ab),dc,ce,cq,cO,aa,aa,aa,aa,aa⟩
 exact aO<|tn<|⟨st,[],av,(Ey bf<|jq.1 ap),bb,(bi.wk E),(ao.wk E),aZ,aa,aa,aa,aa,aa⟩
 rintro M I ⟨s1,A,ai,ae,ax,aQ,bl,a0,cV,cW,cZ,cX,cY⟩
 refine fx 0 cV<|fx 1 cW<|fx 2 cZ<|fx 10 cX<|fx 11 cY ?_
 refine ej (fun O bg=>((bA<|r.getD 3 []).2.2.1=true→c.kind≠1)∧(bg=I)∧(O 0=aR fb)∧(O 1=aR xb)∧(O 2= .slice ar r.length cr)∧(O 10=str (bA<|r.getD 3 []).2.1)∧(O 11= .bool (bA<|r.getD 3 []).2.2.1)) ?_ ?_
 refine ag fun a=>au (.bool (bA<|r.getD 3 []).2.2.1)<|au (.bool (bA<|r.getD 3 []).2.2.1)<|gb (t:=53) aa (fun aY=> ?_) fun aY=> ?_
 refine aI aa (aU (aR xb) aa)<|aI aa (nc aa)<|aI aa (fa uG aa)<|aI aa (ld bC aa<|(a7 ax).trans aa)<|aI aa (bI aa aa)<|p (bB aa)<|nl<|a<|cd aa (fun cB=> ?_) fun cB=> ?_
 exact ag fun q=>ay<|q<|rt<|tr<|aX aa<|mi.no a0 ax aa (Kr C ai ae<|Jr aY ab) az
 exact aO<|tn<|⟨(fun _=>by omega),aa,aa,aa,aa,aa,aa⟩
 exact aH aa<|aH aa<|aH aa<|aH aa<|aH aa<|p (bq aa)<|nl<|a<|cf aa<|aO<|tn<|⟨(fun h=>absurd (h.symm.trans aY) ei),aa,aa,aa,aa,aa,aa⟩
 rintro O bg ⟨br,c9,c0,c1,c4,c2,c3⟩
 refine fx 0 c0<|fx 1 c1<|fx 2 c4<|fx 10 c2<|fx 11 c3 ?_
 subst c9
 refine ej (fun aE J=> ∃ (l:List Nat) (vn:Value),(kS F.kind F.aliases c.kind (bA<|r.getD 3 [])= .ok l)∧(J.heap[xb]? =some (.cells [ak (c.kind),bP c.flag,.bool c.et,str s1,str A,str [],vn,ak ln].toArray 174 (0,0)))∧(vn.oneCell'=true)∧(Tg J 0 3 l.length vn<|l.map bP)∧(nu J B 0 fb F V)∧(Tg J aF 9 r.length (.slice ar r.length cr)<|r.map str)∧(Md (fun k=>k=xb) w J)∧(aE 0=aR fb)∧(aE 1=aR xb)∧(aE 2= .slice ar r.length cr)) ?_ ?_
 refine ag fun a=>au (.bool (bA<|r.getD 3 []).2.2.1)<|nl<|a<|cb aa (fun G=> ?_) fun G=> ?_
 refine ag fun q=>au (aR xb)<|au (aR fb)<|au (str (bA<|r.getD 3 []).2.1)<|e<|cl Ft (H8 B fb F V (bA<|r.getD 3 []).2.1 bg aQ hk cN ab) aa fun dA bQ cm=> ?_
 obtain ⟨⟨aj,aN,rfl,a2,bp⟩,hE65⟩:=cm
 have a9:=Wk.aM hE65 ax
 have cR:Md (fun k=>k=xb) w bQ:=a0.trans' hE65 fun _ _ h=>h.elim
 refine p mv<|p (xt aa aa)<|p (xt aa aa)<|p (nc aa)<|p (fa uH aa)<|e<|cJ A1 aa aa (v:=aj) a2 a9 (by show _ < 8; omega) fun dk am b6=> ?_
 have bJ:=a9
 have cs:=(bl.wk hE65).md am<|fu bJ az
 have ch:=(aQ.wk hE65).md am (TF.eq (L:= [176]) (dw bJ) az) az
 have bs:=(cR).trans' am fun _ _ h=>h
 have bM:dk.heap[xb]? =some (.cells [ak (c.kind),bP c.flag,.bool c.et,str s1,str A,str [],aj,ak ln].toArray 174 (0,0)):=b6
 refine ay<|q<|ag fun U=>p mv<|p (dj aa aa)<|nl<|U<|cd aa (fun cD=> ?_) fun cD=> ?_
 obtain ⟨cH,cK⟩:aN≠0∧fR F.kind F.aliases (bA<|r.getD 3 []).2.1= .error aN:=by
  rcases bp with ⟨l,h,_⟩ | h
  omega
  exact h
 exact ag fun Y=>p mv<|ay<|Y<|rt<|tr<|aX aa<|mi.no bs bM a2 (Kr C ai ae<|(yv G<|br G).trans cK) cH
 obtain ⟨l,rfl,cL,cu⟩:∃ l,aN=0∧fR F.kind F.aliases (bA<|r.getD 3 []).2.1= .ok l∧Tg bQ 0 3 l.length aj (l.map bP):=by
  rcases bp with h | ⟨h,_⟩
  exact h
  omega
 exact aO<|tn<|⟨l,aj,((yv G<|br G).trans cL),bM,a2,(cu.md am<|fu a9 az),ch,cs,bs,aa,aa,aa⟩
 exact aO<|tn<|⟨[],.slice none 0 0,(Js G),ax,aa,(rN _ _ _),aQ,bl,a0,aa,aa,aa⟩
 rintro aE J ⟨l,vn,a1,bd,a5,cw,dr,ct,cT,c5,c6,c7⟩
 refine fx 0 c5<|fx 1 c6<|fx 2 c7<|ag fun a=>au (aR xb)<|p (nc aa)<|p (fa BD aa)<|e<|cJ kM aa aa (v:=str [46]) aa bd (by show _ < 8; omega) fun aA aV b7=> ?_
 have dg:=bd
 have an:=(ct).md aV<|fu dg az
 have ah:=(cT).trans' aV fun _ _ h=>h
 have bD:aA.heap[xb]? =some (.cells [ak (c.kind),bP c.flag,.bool c.et,str s1,str A,str [46],vn,ak ln].toArray 174 (0,0)):=b7
 have bm:=cw.md aV<|fu bd az
 refine nl<|a ?_
 refine ej (fun dp aD=> ∃ (cd:Tx),(kL r= .ok cd)∧(aD.heap[xb]? =some (.cells [ak (c.kind),bP c.flag,.bool c.et,str s1,str A,str cd,vn,ak ln].toArray 174 (0,0)))∧(Tg aD 0 3 l.length vn<|l.map bP)∧(Md (fun k=>k=xb) w aD)) ?_ ?_
 refine ag fun q=>au (.slice ar r.length cr)<|p (bK eV aa aa)<|p (bI aa aa)<|nl<|q<|cd aa (fun cE=> ?_) fun cE=> ?_
 have du:(r.getD 4 []).length≤70000:=a4 _<|dV ab
 have a3:r.length=5:=ab
 refine ag fun U=>au (.slice ar r.length cr)<|p (ba cI aa aa ab<|aJ.ok (an.cM.2)<|bS ab)<|p (ld bU aa<|cg.get (i:=4) an.cM.2 ab)<|e<|cl uq (vj (r.getD 4 []) aA ab) aa fun dB bR cn=> ?_
 obtain ⟨rfl,Z⟩:=cn
 have bE:=Wk.aM Z bD
 have bu:Md (fun k=>k=xb) w bR:=ah.trans' Z fun _ _ h=>h.elim
 refine ay<|U<|aC fun Y=>ag fun aG=>p mv<|p (no aa)<|nl<|aG<|cb aa (fun aq=> ?_) fun aq=> ?_
 exact ag fun aK=>ay<|aK<|rt<|tr<|tr<|aX aa<|mi.no bu bE a5 (Ks C ai ae a1<|Gf a3<|by simpa using aq) az
 refine aO<|Y<|ag fun aK=>au (.slice ar r.length cr)<|p (ba cI aa aa ab<|aJ.ok ((an.wk Z).cM.2)<|bS ab)<|p (ld bU aa<|cg.get (i:=4) (an.wk Z).cM.2 ab)<|e<|cl Fu (JY (r.getD 4 []) bR ab) aa fun dC bT co=> ?_
 obtain ⟨⟨dq,rfl,bw⟩,hE89⟩:=co
 obtain ⟨ac,cc,rfl⟩:=cC bw
 have bF:=Wk.aM hE89 bE
 have bv:Md (fun k=>k=xb) w bT:=bu.trans' hE89 fun _ _ h=>h.elim
 refine p mv<|p (xt aa aa)<|p (xt aa aa)<|p aB<|ay<|aK<|aC fun bW=>ag fun bX=>p mv<|p (dj aa aa)<|nl<|bX<|cd aa (fun cF=> ?_) fun cF=> ?_
 exact ag fun bY=>p mv<|ay<|bY<|rt<|tr<|tr<|aX aa<|mi.no bv bF a5 (Ks C ai ae a1<|Gg a3 (by simpa using aq) ab) ab
 refine aO<|bW<|rg aa<|au (aR xb)<|p mv<|e<|cl PB (Xc (di<|r.getD 4 []).1 ac cc bT (a8 bw).2 (by have :=Gl (r.getD 4 []); omega) fun t c8=>Rh c8 ab) aa fun dD dn cp=> ?_
 obtain ⟨rfl,aP⟩:=cp
 have bG:=Wk.aM aP bF
 have cS:Md (fun k=>k=xb) w dn:=bv.trans' aP fun _ _ h=>h.elim
 refine p (nc aa)<|p (fa BD aa)<|e<|cJ kM aa aa (v:=str<|l5 (di<|r.getD 4 []).1) aa bG (by show _ < 8; omega) fun dl bj b8=> ?_
 have dd:dl.heap[xb]? =some (.cells [ak (c.kind),bP c.flag,.bool c.et,str s1,str A,str (l5 (di<|r.getD 4 []).1),vn,ak ln].toArray 174 (0,0)):=b8
 have cP:=cS.trans' bj fun _ _ h=>h
 have cv:=(((bm.wk Z).wk hE89).wk aP).md bj<|fu bG az
 exact nl<|tn<|⟨l5 (di<|r.getD 4 []).1,(Gh a3 (by simpa using aq) ab),dd,cv,cP⟩
 exact aO<|tn<|⟨[46],(Gi ab),bD,bm,ah⟩
 rintro dp aD ⟨cd,cG,df,cx,cU⟩
 exact ag fun q=>ay<|q<|rt<|aX aa<|mi.ok cU df a5 cx<|Xk C ai ae a1 cG
theorem TM (I:World) (H:gj) (F:aT) (k ln:Nat) (seen r:List Tx) (bT:Nat) (ar:Option Addr) (cr:Nat) (w:World) (a:mh I w H F k ln seen) (bN:Tg w bT 9 r.length (.slice ar r.length cr) (r.map str)) (dr:r≠[]) (bA:∀ x∈r,x.length≤70000) (dJ:F.dm.length+F.aliases.length+F.bw.length+F.rules.length+(H.rows.drop k).length < 70000) (df:r.getD 0 []≠e9→r.getD 0 []≠eJ→0 < F.bw.length):
 bo aw 234 (bh [aR H.rb,.slice ar r.length cr]) w (fun v w'=>((∃ F',jb F ln r= .ok F'∧v=ak 0∧mh I w' H F' k ln seen)∨(∃ e:Nat,jb F ln r= .error e∧e≠0∧v=ak e∧Hb.aQ w'.heap H.rb 5=some (ak ln)))∧Wk I w'):=by
 obtain ⟨V,vh,M,ah,J,aK,bR⟩:=a
 have bd:=bN.cM
 have dX:=ah.lo
 have dT:=M.lo
 have dP:=J.len
 have d0:=lx.2 dr
 have dY:=(cQ.1 ah.cells).1
 obtain ⟨cX,kr,cK⟩:=cC M.eu
 have bv:=M.eu
 rw [cK] at bv
 have bQ:Hb.aQ w.heap H.fb 11=some (.slice cX F.bw.length kr):=by rw [← cK]; exact (a7 M.cells).trans rfl
 refine enter func234 aa ntmps234 aa<|ag fun cR=>ay<|cR<|ag fun cS=>au (aR H.rb)<|p (nc aa)<|p (fa lI aa)<|p (ld ib aa<|(a7 ah.cells).trans aa)<|ay<|cS<|aC fun cT=>aC fun cV=>rg aa<|au (.slice ar r.length cr)<|p (ba cI aa aa ab<|aJ.ok (bd.2)<|bS ab)<|p (ld bU aa<|cg.get (i:=0) bd.2 ab)<|nl<|cV<|aM<|aC fun cW=>rg aa<|p (dW aa aa)<|ay<|cW<|cd aa (fun ce=> ?_) fun ce=> ?_
 have ac:r.getD 0 []=e9:=ce
 refine aC fun bV=>ag fun bb=>au (.slice ar r.length cr)<|p (bK eV aa aa)<|p (dj aa aa)<|nl<|bb<|cd aa (fun db=> ?_) fun db=> ?_
 exact ag fun aG=>ay<|aG<|rt<|tr<|br<|tr<|aX aa<|⟨.inr ⟨111,by unfold jb; rw [if_pos ac,Ke ab],az,aa,ah.dq⟩,aK⟩
 have cn:r.length=3:=ab
 have di:=bA _<|dV (d:= []) (i:=1) ab
 have dU:=bA _<|dV (d:= []) (i:=2) ab
 refine aO<|bV<|ag fun aG=>au (.slice ar r.length cr)<|p (ba cI aa aa ab<|aJ.ok (bd.2)<|bS ab)<|p (ld bU aa<|cg.get (i:=1) bd.2 ab)<|e<|cl Az (B5 (r.getD 1 []) false w ab) aa fun v30 dA c3=> ?_
 obtain ⟨⟨aL,bD,rfl,aE⟩,hE30⟩:=c3
 have cA:=bN.wk hE30
 refine p mv<|p (xt aa aa)<|p (xt aa aa)<|p aB<|ay<|aG<|aC fun al=>ag fun aN=>p mv<|p (dj aa aa)<|nl<|aN<|cd aa (fun dc=> ?_) fun dc=> ?_
 have cF:eB false (r.getD 1 [])= .error bD∧bD≠0:=by
  rcases aE with ⟨_,h⟩ | h
  omega
  exact h
 exact ag fun av=>p mv<|ay<|av<|rt<|tr<|br<|tr<|aX aa<|⟨.inr ⟨bD,by unfold jb; rw [if_pos ac,Kf cn cF.1],cF.2,aa,(ah.wk hE30).dq⟩,aK.trans hE30⟩
 obtain ⟨cG,rfl⟩:eB false (r.getD 1 [])= .ok aL∧bD=0:=by
  rcases aE with h | ⟨_,h⟩
  exact h
  omega
 refine aO<|al<|ag fun av=>au (.slice ar r.length cr)<|p (ba cI aa aa ab<|aJ.ok (cA.cM.2)<|bS ab)<|p (ld bU aa<|cg.get (i:=2) cA.cM.2 ab)<|e<|cl Az (B5 (r.getD 2 []) true dA ab) aa fun v40 d6 c4=> ?_
 obtain ⟨⟨a5,cZ,rfl,dp⟩,hE40⟩:=c4
 have cy:=hE30.trans hE40
 have O:=M.wk cy
 refine p mv<|p (xt aa aa)<|p (xt aa aa)<|p aB<|ay<|av<|aC fun bf=>rg aa<|p mv<|p mv<|p (nc aa)<|p (fa HJ aa)<|p (ld NU aa<|(a7 O.cells).trans aa)<|p mv<|p mv<|p (cU (ps:= [(0,str aL),(1,str a5)]) (L:= [str aL,str a5]) X7 aa<|aa)<|e<|kK KF aa aa aa fun dH d7 dL c2 c0=> ?_
 have bF:=cy.trans c2.md
 have C:=M.wk bF
 have a0:=ah.wk bF
 have d1:=bF.size
 refine e<|ap KF (C.o9) aa ab aa (aJ.dZ c0) (aa) (aa) ab ab fun cL cO cB bI d2 dR=> ?_
 have a1:=a0.own C.o9 bI az
 have ao:=bI.aM C.cells<|dE C.o9 C.cells az
 have dl:bu cO I.heap.size 369 2 cL (F.dm++ [(aL,a5)]).length (kT<|F.dm++ [(aL,a5)]):=by rw [show kT (F.dm++ [(aL,a5)])=kT F.dm++ [str aL,str a5] from by simp [kT],bL]; exact cB
 have a3:Wk I cO:=(aK.trans bF).trans' bI fun k hk h=>by have :=(dG C.o9 h).1; omega
 refine p (nc aa)<|p (fa HJ aa)<|e<|cJ RA aa aa (v:=cL) (eU cB) ao (by show _ < 13; omega) fun a9 U aS=> ?_
 have aW:=eF.zZ (x:=(aL,a5)) C bI dl U aS
 have an:=a1.ox ao U
 have Z:Wk I a9:=a3.trans' U fun k hk h=>by omega
 refine nl<|bf<|ag fun bg=>p mv<|ay<|bg<|rt<|br<|tr<|aX aa ?_
 rcases dp with ⟨aq,rfl⟩ | ⟨aq,bt⟩
 exact ⟨.inl ⟨_,by unfold jb; rw [if_pos ac,Kh cn cG aq],aa,⟨_,vh,aW,an,⟨by simp only [bL,e5]; omega,J.sl,J.row,J.kd⟩,Z,bR⟩⟩,Z⟩
 exact ⟨.inr ⟨cZ,by unfold jb; rw [if_pos ac,Kg cn cG aq],bt,aa,an.dq⟩,Z⟩
 have ac:¬r.getD 0 []=e9:=ce
 refine ag fun bV=>p (dW aa aa)<|ay<|bV<|cd aa (fun ch=> ?_) fun ch=> ?_
 have h1:r.getD 0 []=eJ:=ch
 refine aC fun bb=>ag fun aG=>au (.slice ar r.length cr)<|p (bK eV aa aa)<|p (dj aa aa)<|nl<|aG<|cd aa (fun dd=> ?_) fun dd=> ?_
 exact ag fun al=>ay<|al<|rt<|tr<|br<|tr<|aX aa<|⟨.inr ⟨111,by unfold jb; rw [if_neg ac,if_pos h1,EM ab],az,aa,ah.dq⟩,aK⟩
 have cH:r.length=2:=ab
 have di:=bA _<|dV (d:= []) (i:=1) ab
 refine aO<|bb<|aC fun al=> ?_
 have aD:(fun w'=>Wk w w') w.drew:=(Md.refl _ _).drew
 refine bM (fun w'=>Wk w w') aa wide aD<|aE 0 aa (fun _ _=>mv) aD<|aE 1 aa (fun _ _=>nc aa) aD<|aE 2 aa (fun _ _=>fa sX aa) aD<|aE 3 aa (fun w' a=>ld bC aa<|Wk.aQ a<|(a7 M.cells).trans aa) aD<|bH 4 aa (.slice ar r.length cr) aD<|aE 5 aa (fun _ _=>ba cI aa aa ab<|aJ.ok (aJ.wk bd.2 aD)<|bS ab) aD<|aE 6 aa (fun w' a=>ld bU aa<|Wk.aQ a<|cg.get (i:=1) bd.2 ab) aD<|he 7 aa aj<|cl FH (Kj F.kind (r.getD 1 []) w.drew J.kd ab) aa fun d5 dB c5=> ?_
 obtain ⟨⟨dF,rfl,cD⟩,bj⟩:=c5
 obtain ⟨cw,cx,rfl⟩:=cC cD
 have bj:=il bj
 have O:=M.wk bj
 have bc:(fun w'=>Wk w w') dB:=Md.mono bj fun _ _ h=>h
 refine ⟨bc,?_⟩
 refine aE 8 aa (fun _ _=>mv) bc<|aE 9 aa (fun _ _=>xt aa aa) bc<|aE 10 aa (fun _ _=>xt aa aa) bc<|aE 11 aa (fun _ _=>aB) bc<|aE 12 aa (fun _ _=>aB) bc<|hn aj<|al<|aC fun aN=>rg aa<|p mv<|p mv<|p (nc aa)<|p (fa uI aa)<|p (ld wP aa<|(a7 O.cells).trans aa)<|p mv<|e<|fU KG aa aa fun dI dC dO cz c1=> ?_
 have bG:=bj.trans cz.md
 have C:=M.wk bG
 have a0:=ah.wk bG
 have d3:=bG.size
 refine e<|ap KG (C.eT) aa ab aa (aJ.dZ c1) (aa) (aa) ab ab fun cN cP cE bJ d4 dS=> ?_
 have a1:=a0.own C.eT bJ az
 have ao:=bJ.aM C.cells<|dE C.eT C.cells az
 have c6:Tg dC 0 3 (ea F.kind<|r.getD 1 []).1.length (.slice cw (ea F.kind<|r.getD 1 []).1.length cx) ((ea F.kind<|r.getD 1 []).1.map bP):=((Tg.jN cD).mono<|jD _).wk cz.md
 have dn:bu cP I.heap.size 75 1 cN (F.aliases++ [(ea F.kind<|r.getD 1 []).1]).length (V.sa++ [.slice cw (ea F.kind<|r.getD 1 []).1.length cx]):=by rw [bL]; exact cE
 have a3:Wk I cP:=(aK.trans bG).trans' bJ fun k hk h=>by have :=(dG C.eT h).1; omega
 refine p (nc aa)<|p (fa uI aa)<|e<|cJ RB aa aa (v:=cN) (eU cE) ao (by show _ < 13; omega) fun a9 U aS=> ?_
 have aW:=eF.zX (x:=(ea F.kind<|r.getD 1 []).1) C c6 bJ dn U aS
 have an:=a1.ox ao U
 have Z:Wk I a9:=a3.trans' U fun k hk h=>by omega
 refine nl<|aN<|ag fun av=>p mv<|ay<|av<|rt<|br<|tr<|aX aa ?_
 by_cases h:(ea F.kind<|r.getD 1 []).2=0
 exact ⟨.inl ⟨_,by unfold jb; rw [if_neg ac,if_pos h1,wW cH,x7 h],by rw [h]; rfl,⟨_,vh,aW,an,⟨by simp only [bL,e5]; omega,J.sl,J.row,J.kd⟩,Z,bR⟩⟩,Z⟩
 exact ⟨.inr ⟨_,by unfold jb; rw [if_neg ac,if_pos h1,wW cH,x6 h],h,aa,an.dq⟩,Z⟩
 have h1:¬r.getD 0 []=eJ:=ch
 have dQ:=df ac h1
 refine aO<|bn<|cT<|aC fun bb=>ag fun aG=>au (.slice ar r.length cr)<|p (bK eV aa aa)<|p (dj aa aa)<|p mv<|gs (t:=86) aa (fun dh=> ?_) fun dh=> ?_
 refine aI aa (aU (.slice ar r.length cr) aa)<|aI aa (bK eV aa aa)<|aI aa (dj aa aa)<|p (bB aa)<|nl<|aG<|cd aa (fun de=> ?_) fun de=> ?_
 exact ag fun al=>ay<|al<|rt<|tr<|aX aa<|⟨.inr ⟨111,by unfold jb; rw [if_neg ac,if_neg h1,C7 ab ab],az,aa,ah.dq⟩,aK⟩
 have co:r.length=4∨r.length=5:=ab
 refine aO<|bb<|aC fun al=> ?_
 have A:(fun w'=>Wk w w') w.drew:=(Md.refl _ _).drew
 refine bM (fun w'=>Wk w w') aa wide A<|aE 0 aa (fun _ _=>mv) A<|aE 1 aa (fun _ _=>nc aa) A<|aE 2 aa (fun _ _=>fa pz aa) A<|aE 3 aa (fun w' a=>ld p7 aa<|Wk.aQ a<|bQ) A<|aE 4 aa (fun _ _=>mv) A<|aE 5 aa (fun _ _=>nc aa) A<|aE 6 aa (fun _ _=>fa pz aa) A<|aE 7 aa (fun w' a=>ld p7 aa<|Wk.aQ a<|bQ) A<|aE 8 aa (fun _ _=>bK Ds aa aa) A<|aE 9 aa (fun _ _=>dN ((F.bw.length - 1:Nat):Int) aa aa<|bl ab ab) A<|aE 10 aa (fun _ _=>ba xE aa aa ab<|aJ.ok (aJ.wk (a8 bv).2 A)<|x9 ab) A<|aE 11 aa (fun w' a=>c8 sv aa (aa) fun j bs=>fw (f:=m8) (m:=5) (fun _=>rfl) (aJ.wk (a8 bv).2 a) (ur (by omega :F.bw.length - 1 < F.bw.length)) j bs) A<|he 12 aa aj<|fi rR fun bW ct c7 aY bX=> ?_
 have du:=aY.size
 have dx:=A.size
 have b8:(fun w'=>Wk w w') ct:=A.trans aY.md
 refine ⟨b8,?_⟩
 refine he 13 aa aj<|fZ qi aa aa aa aa bX az fun G b4 b0=> ?_
 have aA:Wk w G:=(A.trans aY.md).trans' b4 fun k hk h=>by omega
 have a4:G.heap[bW]? =some (.cells (m8<|gI F).toArray 242 (0,0)):=b0
 have b9:(fun w'=>Wk w w') G:=aA
 refine ⟨b9,?_⟩
 refine hn aj<|al<|aC fun aN=> ?_
 have E:(fun w'=>Wk G w') G.drew:=(Md.refl _ _).drew
 refine bM (fun w'=>Wk G w') aa wide E<|aE 0 aa (fun _ _=>fa xV aa) E<|aE 1 aa (fun w' a=>ld bC aa<|Wk.aQ a<|(a7 a4).trans aa) E<|aE 2 aa (fun _ _=>fa BK aa) E<|aE 3 aa (fun w' a=>ld bC aa<|Wk.aQ a<|(a7 a4).trans aa) E<|aE 4 aa (fun _ _=>fa HP aa) E<|aE 5 aa (fun w' a=>ld k4 aa<|Wk.aQ a<|(a7 a4).trans aa) E<|bH 6 aa (aR H.rb) E<|aE 7 aa (fun _ _=>nc aa) E<|aE 8 aa (fun _ _=>fa pB aa) E<|aE 9 aa (fun w' a=>ld bC aa<|Wk.aQ a<|(a7 (ah.wk aA).cells).trans aa) E<|aE 10 aa (fun _ _=>cU (ps:= [(0,ak ((gI F).kind)),(1,bP (gI F).flag),(2,.bool (gI F).et),(7,ak ln)]) (L:= [ak ((gI F).kind),bP (gI F).flag,.bool (gI F).et,.string ⟨⟨[]⟩⟩,.string ⟨⟨[]⟩⟩,.string ⟨⟨[]⟩⟩,.slice none 0 0,ak ln]) KS aa<|aa) E<|he 11 aa aj<|fi DG fun aP cu c9 aZ bY=> ?_
 have dv:=aZ.size
 have ca:(fun w'=>Wk G w') cu:=E.trans aZ.md
 refine ⟨ca,?_⟩
 refine he 12 aa aj<|fZ AY aa aa aa aa bY az fun aF b5 b1=> ?_
 have bi:Wk G aF:=(E.trans aZ.md).trans' b5 fun k hk h=>by have :=E.size; omega
 have aV:=aA.trans bi
 have cq:aF.heap[aP]? =some (.cells [ak ((gI F).kind),bP (gI F).flag,.bool (gI F).et,str [],str [],str [],.slice none 0 0,ak ln].toArray 174 (0,0)):=b1
 have dt:=E.size
 have ds:=aA.size
 have cb:(fun w'=>Wk G w') aF:=bi
 refine ⟨cb,?_⟩
 refine hn aj<|aN<|ag fun av=>p mv<|au (.slice ar r.length cr)<|e<|cl FN (Ih I.heap.size H.fb aP F V (gI F) ln r bT ar cr aF (M.wk aV).r J.kd ab cq (bN.wk aV) co bA) aa fun dz ai b7=> ?_
 obtain ⟨ci,L,bk,b2,b3,cp⟩:=b7
 have ax:Wk w ai:=aV.trans' ci fun k hk h=>by omega
 have O:=M.wk ax
 have bm:=ah.wk ax
 have dk:¬(V.v12.ownBlock=some H.rb):=dE O.dD bm.cells az
 have cj:¬(V.v12.ownBlock=some H.fb):=dE O.dD O.cells az
 have ck:¬(V.v12.ownBlock=some aP):=fun h=>by have :=(dG M.dD h).2; omega
 refine ay<|av<|aC fun bf=> ?_
 have Y:(fun w'=>Md (fun k=>V.v12.ownBlock=some k) ai w') ai.drew:=(Md.refl _ _).drew
 refine eS (fun w'=>Md (fun k=>V.v12.ownBlock=some k) ai w') 10 aa wide Y<|bz 0 aa (fun _=>mv) (fun _=>Y)<|bz 1 aa (fun _=>mv) (fun _=>Y)<|bz 2 aa (fun _=>nc aa) (fun _=>Y)<|bz 3 aa (fun _=>fa jL aa) (fun _=>Y)<|dM 4 aa (fun w' a=>ld j8 aa<|Md.aQ a ((a7 O.cells).trans aa) cj) Y<|dM 5 aa (fun w' a=>c8 qZ aa (bk) fun j bs=>bO.bE ⟨_,Md.aM a b3 ck⟩ j) Y<|gQ 6 aa aj<|kK yO aa aa bk fun cY cv da b6 bZ=> ?_
 have ae:=il b6.md
 have C:=O.wk ae
 have a0:=bm.wk ae
 have dy:=(ax.trans ae).size
 have bp:(fun w'=>Md (fun k=>V.v12.ownBlock=some k) ai w') cv:=Md.mono ae fun _ _ h=>h.elim
 refine ⟨bp,?_⟩
 refine gQ 7 aa aj<|ap yO (C.dD) aa ab aa (aJ.dZ bZ) ab (b2) ab ab fun v124 a6 bx am dw dg=> ?_
 have a1:=a0.own C.dD am az
 have ao:=am.aM C.cells<|dE C.dD C.cells az
 have a3:Wk I a6:=(aK.trans<|ax.trans ae).trans' am fun k hk h=>by have :=(dG C.dD h).1; omega
 have a2:(fun w'=>Md (fun k=>V.v12.ownBlock=some k) ai w') a6:=bp.trans' am fun _ _ h=>h
 refine ⟨a2,?_⟩
 refine bz 8 aa (fun _=>nc aa) (fun _=>a2)<|bz 9 aa (fun _=>fa jL aa) (fun _=>a2)<|dK 10 aa aj aj<|cJ Gs aa aa (v:=v124) (eU bx) ao (by show _ < 13; omega) fun a9 U aS=> ?_
 have an:=a1.ox ao U
 have Z:Wk I a9:=a3.trans' U fun k hk h=>by omega
 refine eR aj<|bf<|ag fun bg=>p mv<|ay<|bg<|rt ?_
 refine aX aa ?_
 have cs:F.rules.length=V.rn.length:=by have :=C.nx.1; rw [fK] at this; exact this.symm
 rcases cp with ⟨q,vn,aq,rfl,rfl,cc⟩ | ⟨e,aq,bt,rfl⟩
 have cm:bu a6 I.heap.size 174 8 v124 (F.rules++ [q]).length (mr<|(F.rules++ [q]).zip<|V.rn++ [vn]):=by
  rw [Em cs,show mr (F.rules.zip V.rn++ [q].zip [vn])=mr (F.rules.zip V.rn)++jv (q,vn) from by simp [mr],bL]
  exact bx
 have aW:=eF.wY (x:=q) (vx:=vn) C (cc.wk ae) am cm U aS
 exact ⟨.inl ⟨_,by unfold jb; rw [if_neg ac,if_neg h1,aq],aa,⟨_,vh,aW,an,⟨by simp only [bL,e5]; omega,J.sl,J.row,J.kd⟩,Z,bR⟩⟩,Z⟩
 exact ⟨.inr ⟨e,by unfold jb; rw [if_neg ac,if_neg h1,aq],bt,aa,an.dq⟩,Z⟩
 have co:r.length=4∨r.length=5:=ab
 refine aH aa<|aH aa<|aH aa<|p (bq aa)<|nl<|aG<|cf aa<|aO<|bb<|aC fun al=> ?_
 have A:(fun w'=>Wk w w') w.drew:=(Md.refl _ _).drew
 refine bM (fun w'=>Wk w w') aa wide A<|aE 0 aa (fun _ _=>mv) A<|aE 1 aa (fun _ _=>nc aa) A<|aE 2 aa (fun _ _=>fa pz aa) A<|aE 3 aa (fun w' a=>ld p7 aa<|Wk.aQ a<|bQ) A<|aE 4 aa (fun _ _=>mv) A<|aE 5 aa (fun _ _=>nc aa) A<|aE 6 aa (fun _ _=>fa pz aa) A<|aE 7 aa (fun w' a=>ld p7 aa<|Wk.aQ a<|bQ) A<|aE 8 aa (fun _ _=>bK Ds aa aa) A<|aE 9 aa (fun _ _=>dN ((F.bw.length - 1:Nat):Int) aa aa<|bl ab ab) A<|aE 10 aa (fun _ _=>ba xE aa aa ab<|aJ.ok (aJ.wk (a8 bv).2 A)<|x9 ab) A<|aE 11 aa (fun w' a=>c8 sv aa (aa) fun j bs=>fw (f:=m8) (m:=5) (fun _=>rfl) (aJ.wk (a8 bv).2 a) (ur (by omega :F.bw.length - 1 < F.bw.length)) j bs) A<|he 12 aa aj<|fi rR fun bW ct c7 aY bX=> ?_
 have du:=aY.size
 have dx:=A.size
 have b8:(fun w'=>Wk w w') ct:=A.trans aY.md
 refine ⟨b8,?_⟩
 refine he 13 aa aj<|fZ qi aa aa aa aa bX az fun G b4 b0=> ?_
 have aA:Wk w G:=(A.trans aY.md).trans' b4 fun k hk h=>by omega
 have a4:G.heap[bW]? =some (.cells (m8<|gI F).toArray 242 (0,0)):=b0
 have b9:(fun w'=>Wk w w') G:=aA
 refine ⟨b9,?_⟩
 refine hn aj<|al<|aC fun aN=> ?_
 have E:(fun w'=>Wk G w') G.drew:=(Md.refl _ _).drew
 refine bM (fun w'=>Wk G w') aa wide E<|aE 0 aa (fun _ _=>fa xV aa) E<|aE 1 aa (fun w' a=>ld bC aa<|Wk.aQ a<|(a7 a4).trans aa) E<|aE 2 aa (fun _ _=>fa BK aa) E<|aE 3 aa (fun w' a=>ld bC aa<|Wk.aQ a<|(a7 a4).trans aa) E<|aE 4 aa (fun _ _=>fa HP aa) E<|aE 5 aa (fun w' a=>ld k4 aa<|Wk.aQ a<|(a7 a4).trans aa) E<|bH 6 aa (aR H.rb) E<|aE 7 aa (fun _ _=>nc aa) E<|aE 8 aa (fun _ _=>fa pB aa) E<|aE 9 aa (fun w' a=>ld bC aa<|Wk.aQ a<|(a7 (ah.wk aA).cells).trans aa) E<|aE 10 aa (fun _ _=>cU (ps:= [(0,ak ((gI F).kind)),(1,bP (gI F).flag),(2,.bool (gI F).et),(7,ak ln)]) (L:= [ak ((gI F).kind),bP (gI F).flag,.bool (gI F).et,.string ⟨⟨[]⟩⟩,.string ⟨⟨[]⟩⟩,.string ⟨⟨[]⟩⟩,.slice none 0 0,ak ln]) KS aa<|aa) E<|he 11 aa aj<|fi DG fun aP cu c9 aZ bY=> ?_
 have dv:=aZ.size
 have ca:(fun w'=>Wk G w') cu:=E.trans aZ.md
 refine ⟨ca,?_⟩
 refine he 12 aa aj<|fZ AY aa aa aa aa bY az fun aF b5 b1=> ?_
 have bi:Wk G aF:=(E.trans aZ.md).trans' b5 fun k hk h=>by have :=E.size; omega
 have aV:=aA.trans bi
 have cq:aF.heap[aP]? =some (.cells [ak ((gI F).kind),bP (gI F).flag,.bool (gI F).et,str [],str [],str [],.slice none 0 0,ak ln].toArray 174 (0,0)):=b1
 have dt:=E.size
 have ds:=aA.size
 have cb:(fun w'=>Wk G w') aF:=bi
 refine ⟨cb,?_⟩
 refine hn aj<|aN<|ag fun av=>p mv<|au (.slice ar r.length cr)<|e<|cl FN (Ih I.heap.size H.fb aP F V (gI F) ln r bT ar cr aF (M.wk aV).r J.kd ab cq (bN.wk aV) co bA) aa fun dz ai b7=> ?_
 obtain ⟨ci,L,bk,b2,b3,cp⟩:=b7
 have ax:Wk w ai:=aV.trans' ci fun k hk h=>by omega
 have O:=M.wk ax
 have bm:=ah.wk ax
 have dk:¬(V.v12.ownBlock=some H.rb):=dE O.dD bm.cells az
 have cj:¬(V.v12.ownBlock=some H.fb):=dE O.dD O.cells az
 have ck:¬(V.v12.ownBlock=some aP):=fun h=>by have :=(dG M.dD h).2; omega
 refine ay<|av<|aC fun bf=> ?_
 have Y:(fun w'=>Md (fun k=>V.v12.ownBlock=some k) ai w') ai.drew:=(Md.refl _ _).drew
 refine eS (fun w'=>Md (fun k=>V.v12.ownBlock=some k) ai w') 10 aa wide Y<|bz 0 aa (fun _=>mv) (fun _=>Y)<|bz 1 aa (fun _=>mv) (fun _=>Y)<|bz 2 aa (fun _=>nc aa) (fun _=>Y)<|bz 3 aa (fun _=>fa jL aa) (fun _=>Y)<|dM 4 aa (fun w' a=>ld j8 aa<|Md.aQ a ((a7 O.cells).trans aa) cj) Y<|dM 5 aa (fun w' a=>c8 qZ aa (bk) fun j bs=>bO.bE ⟨_,Md.aM a b3 ck⟩ j) Y<|gQ 6 aa aj<|kK yO aa aa bk fun cY cv da b6 bZ=> ?_
 have ae:=il b6.md
 have C:=O.wk ae
 have a0:=bm.wk ae
 have dy:=(ax.trans ae).size
 have bp:(fun w'=>Md (fun k=>V.v12.ownBlock=some k) ai w') cv:=Md.mono ae fun _ _ h=>h.elim
 refine ⟨bp,?_⟩
 refine gQ 7 aa aj<|ap yO (C.dD) aa ab aa (aJ.dZ bZ) ab (b2) ab ab fun v124 a6 bx am dw dg=> ?_
 have a1:=a0.own C.dD am az
 have ao:=am.aM C.cells<|dE C.dD C.cells az
 have a3:Wk I a6:=(aK.trans<|ax.trans ae).trans' am fun k hk h=>by have :=(dG C.dD h).1; omega
 have a2:(fun w'=>Md (fun k=>V.v12.ownBlock=some k) ai w') a6:=bp.trans' am fun _ _ h=>h
 refine ⟨a2,?_⟩
 refine bz 8 aa (fun _=>nc aa) (fun _=>a2)<|bz 9 aa (fun _=>fa jL aa) (fun _=>a2)<|dK 10 aa aj aj<|cJ Gs aa aa (v:=v124) (eU bx) ao (by show _ < 13; omega) fun a9 U aS=> ?_
 have an:=a1.ox ao U
 have Z:Wk I a9:=a3.trans' U fun k hk h=>by omega
 refine eR aj<|bf<|ag fun bg=>p mv<|ay<|bg<|rt ?_
 refine aX aa ?_
 have cs:F.rules.length=V.rn.length:=by have :=C.nx.1; rw [fK] at this; exact this.symm
 rcases cp with ⟨q,vn,aq,rfl,rfl,cc⟩ | ⟨e,aq,bt,rfl⟩
 have cm:bu a6 I.heap.size 174 8 v124 (F.rules++ [q]).length (mr<|(F.rules++ [q]).zip<|V.rn++ [vn]):=by
  rw [Em cs,show mr (F.rules.zip V.rn++ [q].zip [vn])=mr (F.rules.zip V.rn)++jv (q,vn) from by simp [mr],bL]
  exact bx
 have aW:=eF.wY (x:=q) (vx:=vn) C (cc.wk ae) am cm U aS
 exact ⟨.inl ⟨_,by unfold jb; rw [if_neg ac,if_neg h1,aq],aa,⟨_,vh,aW,an,⟨by simp only [bL,e5]; omega,J.sl,J.row,J.kd⟩,Z,bR⟩⟩,Z⟩
 exact ⟨.inr ⟨e,by unfold jb; rw [if_neg ac,if_neg h1,aq],bt,aa,an.dq⟩,Z⟩
end Go.Hb.zL
end
section
namespace Go.Hb.Et
open Go.Hb.zL Go.Hb.nq Go.Hb.od
theorem drop_nil {α:Type} {l:List α} {k:Nat} (h:l.length≤k):l.drop k= []:=gV h
theorem U5 {F:aT} {c:db} :gI {F with bw:=F.bw++ [c]} =c:=by
 unfold gI
 simp [cV]
theorem QB {eof ln x n:Nat} {F:aT} {rows:List Rw} {r:List Tx} (i:r.length=4) (hk:r.getD 0 []≠e9) (a:r.getD 0 []≠eJ) (h:gH F (r.getD 1 [])= .ok x) (h1:r.getD 2 []= [89]∨r.getD 2 []= [78]) (h2:eX (r.getD 3 []) 1024= .ok n) (h3:¬1024 < F.rules.length+n):
 gM eof F rows ln r=gO (kz r) eof n {F with bw:=F.bw++ [(⟨x,(if r.getD 0 []=dp then 2 else 1:Nat),(decide (r.getD 2 []= [89])),F.rules.length,n⟩:db)]} rows:=by
 rw [It i,TJ hk a,U5]
 unfold gM
 rw [h]
 simp only
 rw [if_neg (fun h3=>h1.elim h3.1 h3.2),h2]
 simp only
 rw [if_neg h3]
 all_goals rfl
theorem WN {eof ln n:Nat} {F:aT} {rows:List Rw} {r:List Tx} (a:r.length=2) (hk:r.getD 0 []=e9) (h2:eX (r.getD 1 []) 256= .ok n):ki eof F rows ln r=gO (kz r) eof n F rows:=by
 rw [Is ab,hk,TI]
 unfold ki
 rw [h2]
 all_goals rfl
theorem N0 {eof ln n:Nat} {F:aT} {seen:List Tx} {rows:List Rw} {r:List Tx} (i:r.length=2) (hk:r.getD 0 []=eJ) (a:¬(fE∈seen∨dp∈seen)) (h2:eX (r.getD 1 []) 1024= .ok n):jT eof F seen rows ln r=gO (kz r) eof n F rows:=by
 rw [Is ab,hk,TH]
 unfold jT
 rw [if_neg a,h2]
 all_goals rfl
theorem TP {F:aT} {V:ep} {i o x:Nat} (h5:F.sp.length=5) (hi:i < 5) (q:o=3 +i):(nI F V).set o (bP x)=nI {F with sp:=F.sp.set i x} V:=by
 subst q
 obtain ⟨k,cs,tr,sp,le,A,al,cl,ru⟩:=F
 match sp,h5 with
 | [a,b,c,d,e],_=>
   match i,hi with
   | 0,_=>rfl
   | 1,_=>rfl
   | 2,_=>rfl
   | 3,_=>rfl
   | 4,_=>rfl
theorem Dg {s:Tx} (h:s∈ec):ec.idxOf s < 5:=by
 have :∀ k∈ec,ec.idxOf k < 5:=az
 exact this s h
theorem Df {s:Tx} (h:s∈ec):pK s=(ec.idxOf s:Nat):=if_pos h
section
variable {eof ln:Nat} {F:aT} {seen:List Tx} {rows:List Rw} {r:List Tx}
theorem Il (h:r.getD 0 []∈ec):cw eof F seen rows ln r=kj F rows ln r:=by unfold cw; rw [if_pos h]
theorem TW (h:r.getD 0 []=ig):cw eof F seen rows ln r=kB F seen rows ln r:=by unfold cw; rw [h]; rfl
theorem Ik (h:r.getD 0 []=iJ):cw eof F seen rows ln r=mF F rows ln r:=by unfold cw; rw [h]; rfl
theorem Im (h:r.getD 0 []=iS):cw eof F seen rows ln r=mJ F rows ln r:=by unfold cw; rw [h]; rfl
theorem B9 (h:r.getD 0 []=kf):cw eof F seen rows ln r=kR F rows ln r:=by unfold cw; rw [h]; rfl
theorem Ij (h:r.getD 0 []=e9):cw eof F seen rows ln r=ki eof F rows ln r:=by unfold cw; rw [h]; rfl
theorem yc (h:r.getD 0 []=eJ):cw eof F seen rows ln r=jT eof F seen rows ln r:=by unfold cw; rw [h]; rfl
theorem TV (h:r.getD 0 []=fE∨r.getD 0 []=dp):cw eof F seen rows ln r=gM eof F rows ln r:=by rcases h with h | h <;> (unfold cw; rw [h]; rfl)
theorem Wo {k:Tx} (hw:width k≠0) (a:k∉ec) (h1:k≠ig) (h2:k≠iJ) (h3:k≠iS) (h4:k≠kf) (h5:k≠e9) (i:k≠eJ):k=fE∨k=dp:=by
 unfold width at hw
 rw [if_neg (by simp [a,h1,h2,h3,h4,h5,i])] at hw
 by_cases h:k=fE∨k=dp
 · exact h
 · rw [if_neg h] at hw; exact absurd rfl hw
end
theorem fL.eq {a:World} {H:gj} {seen:List Tx} {X Y:Except (Nat×Nat) (aT×List Rw)} {v:Value} {w:World} (h:fL a H seen X v w) (he:Y=X):fL a H seen Y v w:=he ▸ h
theorem fL.er {a:World} {H:gj} {seen:List Tx} {X:Except (Nat×Nat) (aT×List Rw)} {w:World} {l e:Nat} (h:X= .error (l,e)) (he:e≠0) (i:Hb.aQ w.heap H.rb 5=some (.int .i64 (l:Nat))) (hw:Wk a w):fL a H seen X (.int .i64 (e:Nat)) w:=⟨.inr ⟨l,e,h,he,rfl,i⟩,hw⟩
theorem BZ (M:World) (H:gj) (F:aT) (k ln:Nat) (seen hd:List Tx) (bF:Nat) (ac:Option Addr) (ai n:Nat) (w:World) (a1:GS M H) (C:mh M w H F k ln seen) (cb:Tg M bF 9 hd.length (.slice ac hd.length ai) (hd.map str)) (cP:hd.length=2∨hd.length=4) (cS:n≤70000) (cm:hd.getD 0 []≠e9→hd.getD 0 []≠eJ→0 < F.bw.length):
 bo aw 178 (bh [aR H.rb,.slice ac hd.length ai,ak n]) w (fL M H seen<|gO (kz hd) H.eof n F<|H.rows.drop k):=by
 have aL:∀ w,Wk M w→cg w.heap ac hd:=fun w h=>(cb.wk h).cM.2
 obtain ⟨a0,bZ,bv⟩:∃ a c,H.vr= .slice a H.rows.length c:=by obtain ⟨B0,h1,_⟩:=a1; exact h1.slice
 have a8:∀ (w:World) (k l:Nat) (s:List Tx) (vh:Value),gY w M.heap.size H k l s vh→Hb.aQ w.heap H.rb 1=some (.slice a0 H.rows.length bZ):=fun w k l s vh h=>by rw [← bv]; exact (a7 h.cells).trans rfl
 refine enter func178 aa ntmps178 aa<|ag fun bJ=>ay<|bJ<|aC fun bQ=>ag fun bR=>ay<|bR<|aM<|lp (fun bc aG O=> ∃ (i:Nat) (F':aT) (k' a9:Nat),(i≤n)∧(gO (kz hd) H.eof (n - i) F' (H.rows.drop k')=gO (kz hd) H.eof n F (H.rows.drop k))∧(mh M O H F' k' a9 seen)∧(F'.bw=F.bw)∧(aG 0=aR H.rb)∧(aG 1= .slice ac hd.length ai)∧(aG 2=ak n)∧(aG 7=ak i)∧(n - i=bc)) _ ⟨0,F,k,ln,ab,aa,C,aa,aa,aa,aa,aa,aa⟩ ?_
 rintro bc aG O ⟨i,F',k',a9,hi,U,bi,bk,cx,cy,cz,cA,rfl⟩
 refine fx 0 cx<|fx 1 cy<|fx 2 cz<|fx 7 cA ?_
 have ca:=bi
 obtain ⟨V,vh,b3,ap,aY,bd,cQ⟩:=bi
 have cR:H.rows.length≤70000:=by obtain ⟨_,_,_,h⟩:=a1; exact h
 refine aC fun bT=>ag fun bV=>au (ak i)<|au (ak n)<|p (lt aa aa)<|nl<|bV<|cd aa (fun ci=> ?_) fun ci=> ?_
 refine aO<|bT<|aC fun aV=>aM<|aC fun bW=>aC fun bY=> ?_
 have J:(fun w'=>Wk O w') O.drew:=(Md.refl _ _).drew
 refine bM (fun w'=>Wk O w') aa wide J<|bH 0 aa (aR H.rb) J<|aE 1 aa (fun _ _=>nc aa) J<|aE 2 aa (fun _ _=>fa oA aa) J<|aE 3 aa (fun w' C=>ld bC aa<|Wk.aQ C<|(a7 ap.cells).trans aa) J<|bH 4 aa (aR H.rb) J<|aE 5 aa (fun _ _=>nc aa) J<|aE 6 aa (fun _ _=>fa BJ aa) J<|aE 7 aa (fun w' C=>ld zT aa<|Wk.aQ C<|a8 _ _ _ _ _ ap) J<|aE 8 aa (fun _ _=>bK y3 aa aa) J<|aE 9 aa (fun _ _=>ge aa aa) J<|hn aj ?_
 have aq:=ap.wk J
 have b4:=b3.wk J
 have aZ:=bd.trans J
 refine bY<|cd aa (fun cj=> ?_) fun cj=> ?_
 have cw:H.rows.drop k'= []:=drop_nil ab
 rw [cw] at U
 refine ag fun aW=>au (aR H.rb)<|au (aR H.rb)<|p (nc aa)<|p (fa Td aa)<|p (ld bC aa<|(a7 aq.cells).trans aa)<|p (nc aa)<|p (fa pB aa)<|e<|cJ gB aa aa (v:=ak<|H.eof) aa aq.cells (by show _ < 6; omega) fun cG bg b0=> ?_
 have b7:=aq.dB (k':=k') (ln':=H.eof) bg b0
 have cc:Wk M cG:=aZ.trans' bg fun q bs h=>by have :=ap.lo; omega
 exact nl<|aW<|ag fun aS=>ay<|aS<|rt<|tr<|br<|tr<|tr<|br<|tr<|aX aa<|fL.er (TE U ab) az b7.dq cc
 obtain ⟨Y,Z,ar,cr,cK,cL,aP,bx,aH,bu,⟨bE,aD⟩,hvl⟩:=a1.get aZ (k:=k') ab
 rw [bv] at bx
 cases bx
 have cn:=congrArg List.length aP
 simp only [cT] at cn
 rw [aP] at U
 have aF:=aY.row (Y,Z)<|by rw [aP]; exact Na ..
 have cU:0 < Z.length:=lx.2 aF.1
 have cO:=aY.len
 refine aO<|bW<|aC fun aW=> ?_
 have G:(fun w'=>Wk O.drew w') O.drew.drew:=(Md.refl _ _).drew
 refine bM (fun w'=>Wk O.drew w') aa wide G<|bH 0 aa (aR H.rb) G<|aE 1 aa (fun _ _=>nc aa) G<|aE 2 aa (fun _ _=>fa BJ aa) G<|aE 3 aa (fun w' C=>ld zT aa<|Wk.aQ C<|a8 _ _ _ _ _ aq) G<|bH 4 aa (aR H.rb) G<|aE 5 aa (fun _ _=>nc aa) G<|aE 6 aa (fun _ _=>fa oA aa) G<|aE 7 aa (fun w' C=>ld bC aa<|Wk.aQ C<|(a7 aq.cells).trans aa) G<|aE 8 aa (fun _ _=>ba nG aa aa ab<|aJ.ok (aH)<|lK ab) G<|aE 9 aa (fun _ _=>fa uN aa) G<|aE 10 aa (fun w' C=>ld jS aa<|Wk.aQ C<|lL aH bu 1 az) G<|aE 11 aa (fun _ _=>aB) G<|hn aj ?_
 have aA:=aq.wk G
 refine aW<|aC fun aS=> ?_
 have E:(fun w'=>Wk O.drew.drew w') O.drew.drew.drew:=(Md.refl _ _).drew
 refine eS (fun w'=>Wk O.drew.drew w') 14 aa wide E<|bD 0 aa (aR H.rb) E<|bD 1 aa (aR H.rb) E<|bz 2 aa (fun _=>nc aa) (fun _=>E)<|bz 3 aa (fun _=>fa BJ aa) (fun _=>E)<|dM 4 aa (fun w' C=>ld zT aa<|Wk.aQ C<|a8 _ _ _ _ _ aA) E<|bD 5 aa (aR H.rb) E<|bz 6 aa (fun _=>nc aa) (fun _=>E)<|bz 7 aa (fun _=>fa oA aa) (fun _=>E)<|dM 8 aa (fun w' C=>ld bC aa<|Wk.aQ C<|(a7 aA.cells).trans aa) E<|bz 9 aa (fun _=>ba nG aa aa ab<|aJ.ok (aH)<|lK ab) (fun _=>E)<|bz 10 aa (fun _=>fa s6 aa) (fun _=>E)<|dM 11 aa (fun w' C=>ld bC aa<|Wk.aQ C<|lL (aJ.wk aH G) bu 0 az) E<|bz 12 aa (fun _=>nc aa) (fun _=>E)<|bz 13 aa (fun _=>fa pB aa) (fun _=>E)<|dK 14 aa aj aj<|cJ gB aa aa (v:=ak Y) aa (aA.wk E).cells (by show _ < 6; omega) fun cH a2 b1=> ?_
 have aI:=(aA.wk E).dB (k':=k') (ln':=Y) a2 b1
 have b5:=((b4.wk G).wk E).rb (aA.wk E) a2
 have ce:Wk M cH:=((aZ.trans G).trans E).trans' a2 fun q bs h=>by have :=ap.lo; omega
 refine eR aj<|aS<|ag fun bL=>au (aR H.rb)<|au (aR H.rb)<|p (nc aa)<|p (fa oA aa)<|p (ld bC aa<|(a7 aI.cells).trans aa) ?_
 refine p (bG ((k'+1:Nat):Int) aa aa<|bl ab ab)<|p (nc aa)<|p (fa oA aa)<|e<|cJ gB aa aa (v:=ak<|k'+1) aa aI.cells (by show _ < 6; omega) fun ae a3 b2=> ?_
 have aK:=aI.dB (k':=k'+1) (ln':=Y) a3 b2
 have b6:=b5.rb aI a3
 have am:Wk M ae:=ce.trans' a3 fun q bs h=>by have :=ap.lo; omega
 refine nl<|bL<|aC fun bN=>aC fun bO=> ?_
 have I:(fun w'=>Wk ae w') ae.drew:=(Md.refl _ _).drew
 refine bM (fun w'=>Wk ae w') aa wide I<|aE 0 aa (fun _ _=>mv) I<|aE 1 aa (fun _ _=>ba cI aa aa ab<|aJ.ok ((aD.wk am).cM.2)<|bS ab) I<|aE 2 aa (fun w' C=>ld bU aa<|Wk.aQ C<|cg.get (i:=0) (aD.wk am).cM.2 ab) I<|bH 3 aa (.slice ac hd.length ai) I<|aE 4 aa (fun _ _=>ba cI aa aa ab<|aJ.ok (aL _ am)<|bS ab) I<|aE 5 aa (fun w' C=>ld bU aa<|Wk.aQ C<|cg.get (i:=0) (aL _ am) ab) I<|aE 6 aa (fun _ _=>oG aa aa) I<|hn aj ?_
 have al:=am.trans I
 refine bO<|cd aa (fun a4=> ?_) fun a4=> ?_
 have ao:Z.getD 0 []≠hd.getD 0 []:=a4
 exact ag fun ah=>ay<|ah<|rt<|tr<|br<|tr<|tr<|br<|tr<|aX aa<|fL.er (BY U ab<|Ue ao) az (aK.wk I).dq al
 have ao:Z.getD 0 []=hd.getD 0 []:=jq.1 a4
 refine aO<|bN ?_
 refine ej (fun av bb=>(Z.take (kz hd).length=kz hd)∧(Wk ae bb)∧(av 0=aR H.rb)∧(av 1= .slice ac hd.length ai)∧(av 2=ak n)∧(av 7=ak i)∧(av 8= .slice ar Z.length cr)) ?_ ?_
 refine aC fun ah=> ?_
 have A:(fun w'=>Wk ae.drew w') ae.drew.drew:=(Md.refl _ _).drew
 refine bM (fun w'=>Wk ae.drew w') aa wide A<|bH 0 aa (.slice ac hd.length ai) A<|aE 1 aa (fun _ _=>bK eV aa aa) A<|aE 2 aa (fun _ _=>bI aa aa) A<|aE 3 aa (fun _ _=>mv) A<|iH (t:=75) aa (fun co=> ?_) fun co=> ?_
 refine bj 4 aa (fun _ _=>mv) A<|bj 5 aa (fun _ _=>bK eV aa aa) A<|bj 6 aa (fun _ _=>lt aa aa) A<|bj 7 aa (fun _ _=>mv) A<|iH (t:=79) aa (fun cp=> ?_) fun cp=> ?_
 exact a6 8 aa A<|a6 9 aa A<|a6 10 aa A<|a6 11 aa A<|a6 12 aa A<|a6 13 aa A<|a6 14 aa A<|bj 15 aa (fun _ _=>bB aa) A<|aE 16 aa (fun _ _=>bB aa) A<|hn aj<|ah<|ct aa<|ag fun ax=>p aB<|nl<|ax<|rt<|tr<|br<|tr<|tr<|br<|tr<|aX aa<|fL.er (BY U ab<|Iv ab<|.inl ab) az ((aK.wk I).wk A).dq<|al.trans A
 refine bj 8 aa (fun _ _=>mv) A<|bj 9 aa (fun _ _=>ba cI aa aa ab<|aJ.ok ((aD.wk al).cM.2)<|bS ab) A<|bj 10 aa (fun w' C=>ld bU aa<|Wk.aQ C<|cg.get (i:=1) (aD.wk al).cM.2 ab) A<|bj 11 aa (fun _ _=>aU (.slice ac hd.length ai) aa) A<|bj 12 aa (fun _ _=>ba cI aa aa ab<|aJ.ok (aL _ al)<|bS ab) A<|bj 13 aa (fun w' C=>ld bU aa<|Wk.aQ C<|cg.get (i:=1) (aL _ al) ab) A<|bj 14 aa (fun _ _=>oG aa aa) A<|bj 15 aa (fun _ _=>bq aa) A<|aE 16 aa (fun _ _=>bB aa) A<|hn aj<|ah<|cd aa (fun a5=> ?_) fun a5=> ?_
 exact ag fun ax=>ay<|ax<|rt<|tr<|br<|tr<|tr<|br<|tr<|aX aa<|fL.er (BY U ab<|Iv ab<|.inr a5) az ((aK.wk I).wk A).dq<|al.trans A
 exact aO<|tn<|⟨(Iw ao aF.1 fun _=>⟨ab,jq.1 a5⟩),(I.trans A),aa,aa,aa,aa,aa⟩
 exact a6 4 aa A<|a6 5 aa A<|a6 6 aa A<|a6 7 aa A<|lZ 8 aa aj aa aa aa A<|lZ 9 aa aj aa aa aa A<|lZ 10 aa aj aa aa aa A<|lZ 11 aa aj aa aa aa A<|lZ 12 aa aj aa aa aa A<|lZ 13 aa aj aa aa aa A<|lZ 14 aa aj aa aa aa A<|a6 15 aa A<|aE 16 aa (fun _ _=>bq aa) A<|hn aj<|ah<|cf aa<|aO<|tn<|⟨(Iw ao aF.1 fun h=>absurd h ab),(I.trans A),aa,aa,aa,aa,aa⟩
 rintro av bb ⟨bt,aN,cB,cC,cD,cE,cF⟩
 refine fx 0 cB<|fx 1 cC<|fx 2 cD<|fx 7 cE<|fx 8 cF<|ag fun ah=>au (aR H.rb)<|au (.slice ar Z.length cr)<|e<|cl Pj (TM M H F' (k'+1) Y seen Z bE ar cr bb ⟨V,vh,b6.wk aN,aK.wk aN,nr.po (aP ▸ aY),am.trans aN,ab⟩ (aD.wk<|am.trans aN) aF.1 aF.2.2 ab fun h1 h2=>by rw [bk]; exact cm (ao ▸ h1)<|ao ▸ h2) aa fun v91 bA b8=> ?_
 obtain ⟨cs,ch⟩:=b8
 obtain ⟨cN,rfl,bp⟩:∃ e:Nat,v91=ak e∧((e=0∧∃ an,jb F' Y Z= .ok an∧mh M bA H an (k'+1) Y seen)∨(e≠0∧jb F' Y Z= .error e∧Hb.aQ bA.heap H.rb 5=some (ak Y))):=by
  rcases cs with ⟨an,h1,h2,h3⟩ | ⟨e,h1,h2,h3,h4⟩
  exact ⟨0,h2,.inl ⟨aa,an,h1,h3⟩⟩
  exact ⟨e,h3,.inr ⟨h2,h1,h4⟩⟩
 refine ay<|ah<|ag fun ax=>p mv<|p (dj aa aa)<|nl<|ax<|cd aa (fun ck=> ?_) fun ck=> ?_
 obtain ⟨cv,cq,cu⟩:=bp.resolve_left fun h=>by omega
 exact ag fun bP=>p mv<|ay<|bP<|rt<|br<|tr<|tr<|br<|tr<|aX aa<|fL.er (TC U ab bt cq) cv cu ch
 obtain ⟨_,an,bm,b9⟩:=bp.resolve_right fun h=>by omega
 exact aO<|bn<|aV<|rg aa<|au (ak i)<|p (ad aa aa<|bX ab)<|p aB<|nl<|tn<|⟨_,ab,i+1,an,k'+1,Y,ab,(by rw [show n - (i+1)=n - i - 1 by omega]; exact TG U ab bt bm),b9,((TL bm).1.trans bk),aa,aa,aa,aa,aa⟩
 refine ext<|bf<|bf<|be<|bQ<|ag fun aV=>p aB<|nl<|aV<|rt<|aX aa ?_
 rw [show n - i=0 by omega] at U
 exact ⟨.inl ⟨F',k',a9,TD U,aa,ca⟩,bd⟩
theorem Tp (E:World) (H:gj) (F:aT) (k ln:Nat) (seen r:List Tx) (a9:Nat) (ar:Option Addr) (cr:Nat) (w:World) (b0:GS E H) (q:mh E w H F k ln seen) (bg:Tg E a9 9 r.length (.slice ar r.length cr) (r.map str)) (bv:∀ x∈r,x.length≤70000) (cO:F.dm.length+F.aliases.length+F.bw.length+F.rules.length+(H.rows.drop k).length < 70000) (bt:r.length=4) (a2:r.getD 0 []=fE∨r.getD 0 []=dp):
 bo aw 179 (bh [aR H.rb,.slice ar r.length cr]) w (fL E H seen<|gM H.eof F (H.rows.drop k) ln r):=by
 have cN:=q
 obtain ⟨V,vh,ac,G,ai,Z,cm⟩:=q
 have C:∀ w,Wk E w→cg w.heap ar r:=fun w h=>(bg.wk h).cM.2
 have cX:=G.lo
 have cV:=ac.lo
 have cS:=ai.len
 have ce:=ai.sl
 have c1:=(cQ.1 G.cells).1
 have co:r.getD 0 []≠e9:=by rcases a2 with h | h <;> rw [h] <;> decide
 have cp:r.getD 0 []≠eJ:=by rcases a2 with h | h <;> rw [h] <;> decide
 have cZ:(r.getD 1 []).length≤70000:=bv _<|dV ab
 have c0:(r.getD 3 []).length≤70000:=bv _<|dV ab
 obtain ⟨a12,ks,cE⟩:=cC ac.dD
 have bj:Hb.aQ w.heap H.fb 12=some (.slice a12 F.rules.length ks):=by rw [← cE]; exact (a7 ac.cells).trans rfl
 refine enter func179 aa ntmps179 aa<|ag fun bC=>ay<|bC<|ag fun bI=>au (aR H.rb)<|au (.slice ar r.length cr)<|p (ba cI aa aa ab<|aJ.ok (C _ Z)<|bS ab)<|p (ld bU aa<|cg.get (i:=1) (C _ Z) ab)<|e<|cl Fs (H9 E.heap.size H F V k ln seen vh (r.getD 1 []) w ac G ai.kd ab ab) aa fun c7 cG b3=> ?_
 obtain ⟨⟨x,aS,rfl,bp⟩,hE14⟩:=b3
 have O:=Z.trans hE14
 refine p mv<|p (xt aa aa)<|p (xt aa aa)<|p aB<|ay<|bI<|aC fun bJ=>ag fun bN=>p mv<|p (dj aa aa)<|nl<|bN<|cd aa (fun ch=> ?_) fun ch=> ?_
 have bn:gH F (r.getD 1 [])= .error aS∧aS≠0:=by
  rcases bp with ⟨_,_,h⟩ | h
  omega
  exact h
 exact ag fun U=>p mv<|ay<|U<|rt<|tr<|aX aa<|fL.er (AS bn.1) bn.2 (G.wk hE14).dq O
 obtain ⟨aF,c2,_⟩:gH F (r.getD 1 [])= .ok x∧x≠0∧aS=0:=by
  rcases bp with h | ⟨_,h⟩
  exact h
  omega
 refine aO<|bJ ?_
 refine ej (fun aG a8=>(r.getD 2 []= [89]∨r.getD 2 []= [78])∧(a8=cG)∧(aG 0=aR H.rb)∧(aG 1= .slice ar r.length cr)∧(aG 5=bP x)) ?_ ?_
 refine ag fun U=>au (.slice ar r.length cr)<|p (ba cI aa aa ab<|aJ.ok (C _ O)<|bS ab)<|p (ld bU aa<|cg.get (i:=2) (C _ O) ab)<|p (oG aa aa)<|p mv<|gs (t:=24) aa (fun a1=> ?_) fun a1=> ?_
 refine aI aa (aU (.slice ar r.length cr) aa)<|aI aa (ba cI aa aa ab<|aJ.ok (C _ O)<|bS ab)<|aI aa (ld bU aa<|cg.get (i:=2) (C _ O) ab)<|aI aa (oG aa aa)<|p (bB aa)<|nl<|U<|cd aa (fun aZ=> ?_) fun aZ=> ?_
 exact ag fun aN=>ay<|aN<|rt<|tr<|aX aa<|fL.er (AT aF a1 aZ) az (G.wk hE14).dq O
 exact aO<|tn<|⟨(.inr<|jq.1 aZ),aa,aa,aa,aa⟩
 exact aH aa<|aH aa<|aH aa<|aH aa<|p (bq aa)<|nl<|U<|cf aa<|aO<|tn<|⟨(.inl<|jq.1 a1),aa,aa,aa,aa⟩
 rintro aG a8 ⟨a4,cF,cv,cw,cx⟩
 refine fx 0 cv<|fx 1 cw<|fx 5 cx ?_
 subst cF
 have aY:=O
 refine ag fun U=>au (.slice ar r.length cr)<|p (ba cI aa aa ab<|aJ.ok (C _ aY)<|bS ab)<|p (ld bU aa<|cg.get (i:=3) (C _ aY) ab)<|e<|cl q8 (rI (r.getD 3 []) 1024 a8 ab ab) aa fun c9 ae b7=> ?_
 obtain ⟨rfl,bc⟩:=b7
 have aA:=aY.trans bc
 have I:=hE14.trans bc
 have ct:=qA (r.getD 3 []) 1024
 refine p mv<|p (xt aa aa)<|p (xt aa aa)<|p aB<|ay<|U<|aC fun aN=>ag fun bQ=>p mv<|p (dj aa aa)<|nl<|bQ<|cd aa (fun ci=> ?_) fun ci=> ?_
 refine ag fun aP=>p mv<|ay<|aP<|rt<|tr<|aX aa ?_
 have bb:=pG (s:=r.getD 3 []) (most:=1024) ab
 show fL E H seen _ (.int .i64 (eb (r.getD 3 []) 1024).2) ae
 rw [bb.2]
 exact fL.er (F7 aF a4 bb.1) az (G.wk I).dq aA
 have a3:=nO (by omega :(eb (r.getD 3 []) 1024).2=0)
 have cs:=ct ab
 obtain ⟨n,aD⟩:∃ n,n=(eb (r.getD 3 []) 1024).1:=⟨_,rfl⟩
 rw [← aD] at a3 cs
 refine aO<|aN<|aC fun aP=>ag fun bR=>au (aR H.rb)<|p (nc aa)<|p (fa lI aa)<|p (ld ib aa<|(a7 (G.wk I).cells).trans aa)<|p (nc aa)<|p (fa jL aa)<|p (ld j8 aa<|Wk.aQ I bj)<|p (bK tx aa aa)<|p mv<|p (bG ((F.rules.length+(eb (r.getD 3 []) 1024).1:Nat):Int) aa aa<|bl ab ab)<|p (gt aa aa)<|nl<|bR<|cd aa (fun cj=> ?_) fun cj=> ?_
 exact ag fun aK=>ay<|aK<|rt<|tr<|aX aa<|fL.er (F8 aF a4 a3 ab) az (G.wk I).dq aA
 refine aO<|aP<|aC fun aK=> ?_
 have a:(fun w'=>Wk ae w') ae.drew:=(Md.refl _ _).drew
 refine bM (fun w'=>Wk ae w') aa wide a<|bH 0 aa (bP x) a<|bH 1 aa (.slice ar r.length cr) a<|aE 2 aa (fun _ _=>ba cI aa aa ab<|aJ.ok (C _ aA)<|bS ab) a<|aE 3 aa (fun w' q=>ld bU aa<|Wk.aQ q<|cg.get (i:=2) (C _ aA) ab) a<|aE 4 aa (fun _ _=>dW aa aa) a<|bH 5 aa (aR H.rb) a<|aE 6 aa (fun _ _=>nc aa) a<|aE 7 aa (fun _ _=>fa lI aa) a<|aE 8 aa (fun w' q=>ld ib aa<|Wk.aQ q<|(a7 (G.wk I).cells).trans aa) a<|aE 9 aa (fun _ _=>nc aa) a<|aE 10 aa (fun _ _=>fa jL aa) a<|aE 11 aa (fun w' q=>ld j8 aa<|Wk.aQ q<|Wk.aQ I bj) a<|aE 12 aa (fun _ _=>bK tx aa aa) a<|aE 13 aa (fun _ _=>mv) a<|aE 14 aa (fun _ _=>cU (ps:= [(0,bP x),(1,ak 2),(2,.bool (decide (r.getD 2 []= [89]))),(3,ak (F.rules.length)),(4,ak ((eb (r.getD 3 []) 1024).1))]) (L:= [bP x,ak 2,.bool (decide (r.getD 2 []= [89])),ak (F.rules.length),ak ((eb (r.getD 3 []) 1024).1)]) KV aa<|aa) a ?_
 refine he 15 aa aj<|fi rR fun Y cH cP av bW=> ?_
 have c4:=av.size
 have c3:=a.size
 have b9:(fun w'=>Wk ae w') cH:=a.trans av.md
 refine ⟨b9,?_⟩
 refine he 16 aa aj<|fZ qi aa aa aa aa bW az fun a5 bd bT=> ?_
 have ao:Wk w a5:=(I.trans<|a.trans av.md).trans' bd fun k hk h=>by have :=I.size; omega
 have bm:a5.heap[Y]? =some (.cells [bP x,ak 2,.bool (decide (r.getD 2 []= [89])),ak (F.rules.length),ak n].toArray 242 (0,0)):=by rw [aD]; exact bT
 have bi:w.heap.size≤Y:=by have :=I.size; omega
 have ca:(fun w'=>Wk ae w') a5:=(a.trans av.md).trans' bd fun k hk h=>by omega
 refine ⟨ca,?_⟩
 refine hn aj<|aK ?_
 refine ej (fun ah J=>(J.heap[Y]? =some (.cells [bP x,.int .i64 ((if r.getD 0 []=dp then 2 else 1:Nat):Nat),.bool (decide (r.getD 2 []= [89])),ak (F.rules.length),ak n].toArray 242 (0,0)))∧(Wk w J)∧(w.heap.size≤Y)∧(ah 0=aR H.rb)∧(ah 1= .slice ar r.length cr)∧(ah 5=bP x)∧(ah 7=ak n)∧(ah 8=aR Y)) ?_ ?_
 refine ag fun aL=>au (.slice ar r.length cr)<|p (ba cI aa aa ab<|aJ.ok (C _<|Z.trans ao)<|bS ab)<|p (ld bU aa<|cg.get (i:=0) (C _<|Z.trans ao) ab)<|p (dW aa aa)<|nl<|aL<|cd aa (fun a0=> ?_) fun a0=> ?_
 exact rg aa<|p (fa xV aa)<|e<|cJ gB aa aa (v:=ak 1) aa bm (by show _ < 5; omega) fun dc b1 bV=>nl<|tn<|⟨(by rw [if_neg (show ¬r.getD 0 []=dp from fun h=>by have h2:r.getD 0 []=fE:=a0; rw [h2] at h; exact absurd h az)]; exact bV),(ao.trans' b1 fun k hk h=>by omega),bi,aa,aa,aa,(by rw [aD]; rfl),aa⟩
 exact aO<|tn<|⟨(by rw [if_pos (a2.resolve_left a0)]; exact bm),ao,bi,aa,aa,aa,(by rw [aD]; rfl),aa⟩
 rintro ah J ⟨ck,aq,cY,cy,cz,cA,cB,cD⟩
 refine fx 0 cy<|fx 1 cz<|fx 5 cA<|fx 7 cB<|fx 8 cD ?_
 have am:=ac.wk aq
 have ax:=G.wk aq
 have br:¬(V.v11.ownBlock=some H.rb):=dE am.eu ax.cells az
 have cq:¬(V.v11.ownBlock=some H.fb):=dE am.eu am.cells az
 have cn:¬(V.v11.ownBlock=some Y):=fun h=>by have :=(dG ac.eu h).2; omega
 refine aC fun aL=> ?_
 have A:(fun w'=>Md (fun k=>V.v11.ownBlock=some k) J w') J.drew:=(Md.refl _ _).drew
 refine eS (fun w'=>Md (fun k=>V.v11.ownBlock=some k) J w') 16 aa wide A<|bD 0 aa (aR H.rb) A<|bz 1 aa (fun _=>nc aa) (fun _=>A)<|bz 2 aa (fun _=>fa lI aa) (fun _=>A)<|dM 3 aa (fun w' q=>ld ib aa<|Md.aQ q ((a7 ax.cells).trans aa) br) A<|bD 4 aa (aR H.rb) A<|bz 5 aa (fun _=>nc aa) (fun _=>A)<|bz 6 aa (fun _=>fa lI aa) (fun _=>A)<|dM 7 aa (fun w' q=>ld ib aa<|Md.aQ q ((a7 ax.cells).trans aa) br) A<|bz 8 aa (fun _=>nc aa) (fun _=>A)<|bz 9 aa (fun _=>fa pz aa) (fun _=>A)<|dM 10 aa (fun w' q=>ld p7 aa<|Md.aQ q ((a7 am.cells).trans aa) cq) A<|dM 11 aa (fun w' q=>c8 sv aa (aa) fun j cW=>bO.bE ⟨_,Md.aM q ck cn⟩ j) A<|gQ 12 aa aj<|kK KH aa aa aa fun cL cK cR b2 bX=> ?_
 have al:=il b2.md
 have M:=am.wk al
 have b4:=ax.wk al
 have c5:=(aq.trans al).size
 have bf:(fun w'=>Md (fun k=>V.v11.ownBlock=some k) J w') cK:=Md.mono al fun _ _ h=>h.elim
 refine ⟨bf,?_⟩
 refine gQ 13 aa aj<|ap KH (M.eu) aa ab aa (aJ.dZ bX) (aa) (aa) ab ab fun bx a6 bs an c6 cT=> ?_
 have b5:=b4.own M.eu an az
 have bk:=an.aM M.cells<|dE M.eu M.cells az
 have cu:bu a6 E.heap.size 242 5 bx (F.bw++ [(⟨x,(if r.getD 0 []=dp then 2 else 1:Nat),(decide (r.getD 2 []= [89])),F.rules.length,n⟩:db)]).length (qs<|F.bw++ [(⟨x,(if r.getD 0 []=dp then 2 else 1:Nat),(decide (r.getD 2 []= [89])),F.rules.length,n⟩:db)]):=by rw [show qs (F.bw++ [(⟨x,(if r.getD 0 []=dp then 2 else 1:Nat),(decide (r.getD 2 []= [89])),F.rules.length,n⟩:db)])=qs F.bw++m8 (⟨x,(if r.getD 0 []=dp then 2 else 1:Nat),(decide (r.getD 2 []= [89])),F.rules.length,n⟩:db) from by simp [qs],bL]; exact bs
 have cb:Wk E a6:=(Z.trans<|aq.trans al).trans' an fun k hk h=>by have :=(dG M.eu h).1; omega
 have aW:(fun w'=>Md (fun k=>V.v11.ownBlock=some k) J w') a6:=bf.trans' an fun _ _ h=>h
 refine ⟨aW,?_⟩
 refine bz 14 aa (fun _=>nc aa) (fun _=>aW)<|bz 15 aa (fun _=>fa pz aa) (fun _=>aW)<|dK 16 aa aj aj<|cJ RC aa aa (v:=bx) (eU bs) bk (by show _ < 13; omega) fun bA aV bY=> ?_
 have bZ:=eF.zY (x:=(⟨x,(if r.getD 0 []=dp then 2 else 1:Nat),(decide (r.getD 2 []= [89])),F.rules.length,n⟩:db)) M an cu aV bY
 have b6:=b5.ox bk aV
 have cc:Wk E bA:=cb.trans' aV fun k hk h=>by omega
 refine eR aj<|aL<|ag fun bF=>au (aR H.rb)<|au (.slice ar r.length cr)<|au (ak n)<|e<|cl Am (BZ E H {F with bw:=F.bw++ [(⟨x,(if r.getD 0 []=dp then 2 else 1:Nat),(decide (r.getD 2 []= [89])),F.rules.length,n⟩:db)]} k ln seen r a9 ar cr n bA b0 ⟨_,vh,bZ,b6,⟨by simp only [bL,e5]; omega,ce,ai.row,ai.kd⟩,cc,cm⟩ bg (.inr bt) ab fun _ _=>by simp only [bL,e5]; omega) aa fun da dd b8=>p aB ?_
 exact nl<|bF<|rt<|aX aa<|fL.eq b8<|QB bt co cp aF a4 a3 ab
theorem TK (C:World) (H:gj) (F:aT) (k ln:Nat) (seen r:List Tx) (aA:Nat) (ar:Option Addr) (cr:Nat) (w:World) (a3:GS C H) (av:mh C w H F k ln seen) (aL:Tg C aA 9 r.length (.slice ar r.length cr) (r.map str)) (bp:∀ x∈r,x.length≤70000) (ce:F.dm.length+F.aliases.length+F.bw.length+F.rules.length+(H.rows.drop k).length < 70000) (hw:r.length=width (r.getD 0 [])) (co:width (r.getD 0 [])≠0):
 bo aw 116 (bh [aR H.rb,.slice ar r.length cr]) w (fL C H seen<|cw H.eof F seen (H.rows.drop k) ln r):=by
 have bx:=av
 obtain ⟨V,vh,A,q,E,a,ax⟩:=av
 have G:∀ w,Wk C w→cg w.heap ar r:=fun w h=>(aL.wk h).cM.2
 have cH:=q.lo
 have cG:=A.lo
 have cF:=E.len
 have aV:=E.sl
 have cK:=(cQ.1 q.cells).1
 have cL:0 < r.length:=ab
 have J:2≤r.length→(r.getD 1 []).length≤70000:=fun h=>bp _<|dV ab
 refine enter func116 aa ntmps116 aa<|ag fun bK=>ay<|bK<|ag fun bM=>au (.slice ar r.length cr)<|p (ba cI aa aa ab<|aJ.ok (G _ a)<|bS ab)<|p (ld bU aa<|cg.get (i:=0) (G _ a) ab)<|ay<|bM<|ag fun bO=>p mv<|e<|cl Al (B7 (r.getD 0 []) w) aa fun v24 ai b4=> ?_
 obtain ⟨rfl,cs⟩:=b4
 subst cs
 refine ay<|bO<|aC fun bQ=>ag fun bR=>p mv<|p (ge aa aa)<|nl<|bR<|cd aa (fun bc=> ?_) fun bc=> ?_
 have ae:=tp.1 bc
 have U:r.length=2:=by rw [hw,LQ ae]
 have J:=J ab
 refine ag fun aZ=>au (aR H.rb)<|au (.slice ar r.length cr)<|p (ba cI aa aa ab<|aJ.ok (G _ a)<|bS ab)<|p (ld bU aa<|cg.get (i:=1) (G _ a) ab)<|e<|cl Fs (H9 C.heap.size H F V k ln seen vh (r.getD 1 []) ai A q E.kd ab ab) aa fun cU c1 b5=> ?_
 obtain ⟨⟨x,cE,rfl,cj⟩,hE32⟩:=b5
 have ca:=a.trans hE32
 refine p mv<|p (xt aa aa)<|p (xt aa aa)<|p aB<|ay<|aZ<|aC fun a0=>rg aa<|au (aR H.rb)<|p (nc aa)<|p (fa lI aa)<|p (ld ib aa<|(a7 (q.wk hE32).cells).trans aa)<|p mv<|p mv<|p (nc aa)<|p (fa sY aa)<|p (ke sA aa aa<|by rw [Df ae]; have :=Dg ae; omega)<|e<|cJ gB aa aa (v:=bP x) aa (A.wk hE32).cells (by show 0 +3 +(pK<|r.getD 0 []).toNat*1 < 13; rw [Df ae]; have :=Dg ae; omega) fun bJ a4 bT=> ?_
 have cn:=TP (F:=F) (V:=V) (x:=x) (o:=0 +3 +(pK<|r.getD 0 []).toNat*1) A.fO (Dg ae)<|by rw [Df ae]; omega
 have bV:bJ.heap[H.fb]? =some (.cells (nI {F with sp:=F.sp.set (ec.idxOf<|r.getD 0 []) x} V).toArray 181 (0,0)):=by rw [← cn]; exact bT
 have bW:=(A.wk hE32).put (F':= {F with sp:=F.sp.set (ec.idxOf<|r.getD 0 []) x}) a4 bV rfl rfl rfl rfl (by show (F.sp.set _ _).length=5; rw [List.length_set]; exact A.fO)
 have bv:=(q.wk hE32).fb (A.wk hE32) a4
 have a5:Wk C bJ:=ca.trans' a4 fun k hk h=>by omega
 refine nl<|a0<|ag fun a1=>p mv<|ay<|a1<|rt<|tr<|aX aa ?_
 rcases cj with ⟨bs,_,rfl⟩ | ⟨bs,ck⟩
 exact ⟨.inl ⟨_,k,ln,(Il ae).trans (KO bs),aa,⟨V,vh,bW,bv,⟨E.len,aV,E.row,E.kd⟩,a5,ax⟩⟩,a5⟩
 exact fL.er ((Il ae).trans<|KN bs) ck bv.dq a5
 have cu:r.getD 0 []∉ec:=fun h=>bc<|tp.2 h
 refine aO<|bQ<|aC fun aZ=>ag fun a0=>p mv<|nl<|a0<|aM<|ag fun a1=>p (dW aa aa)<|ay<|a1<|cd aa (fun bd=> ?_) fun bd=> ?_
 have h1:r.getD 0 []=ig:=bd
 have U:r.length=2:=by rw [hw,h1]; rfl
 have J:=J ab
 exact ag fun a2=>au (aR H.rb)<|au (.slice ar r.length cr)<|e<|cl OZ (TN C H F k ln seen r aA ar cr ai bx (aL.wk a) U bp) aa fun cV c2 b6=>ay<|a2<|rt<|br<|tr<|aX aa<|fL.eq b6<|TW h1
 have cv:¬r.getD 0 []=ig:=bd
 refine ag fun a2=>p (dW aa aa)<|ay<|a2<|cd aa (fun bf=> ?_) fun bf=> ?_
 have h2:r.getD 0 []=iJ:=bf
 have U:r.length=2:=by rw [hw,h2]; rfl
 have J:=J ab
 refine ag fun aW=>au (.slice ar r.length cr)<|p (ba cI aa aa ab<|aJ.ok (G _ a)<|bS ab)<|p (ld bU aa<|cg.get (i:=1) (G _ a) ab)<|e<|cl uq (vj (r.getD 1 []) ai ab) aa fun cW bt b7=> ?_
 obtain ⟨rfl,ao⟩:=b7
 have aU:=a.trans ao
 refine ay<|aW<|aC fun aD=>ag fun al=>p mv<|p (no aa)<|nl<|al<|cb aa (fun bg=> ?_) fun bg=> ?_
 exact ag fun M=>ay<|M<|rt<|tr<|br<|tr<|aX aa<|fL.er ((Ik h2).trans<|Ky<|by simpa using bg) az (q.wk ao).dq aU
 refine aO<|aD<|aC fun M=> ?_
 have I:(fun w'=>Wk bt w') bt.drew:=(Md.refl _ _).drew
 refine eS (fun w'=>Wk bt w') 9 aa wide I<|bD 0 aa (aR H.rb) I<|bz 1 aa (fun _=>nc aa) (fun _=>I)<|bz 2 aa (fun _=>fa lI aa) (fun _=>I)<|dM 3 aa (fun w' av=>ld ib aa<|Wk.aQ av<|(a7 (q.wk ao).cells).trans aa) I<|bD 4 aa (.slice ar r.length cr) I<|bz 5 aa (fun _=>ba cI aa aa ab<|aJ.ok (G _ aU)<|bS ab) (fun _=>I)<|dM 6 aa (fun w' av=>ld bU aa<|Wk.aQ av<|cg.get (i:=1) (G _ aU) ab) I<|bz 7 aa (fun _=>nc aa) (fun _=>I)<|bz 8 aa (fun _=>fa S9 aa) (fun _=>I)<|dK 9 aa aj aj<|cJ kM aa aa (v:=str<|r.getD 1 []) aa ((A.wk ao).wk I).cells (by show _ < 13; omega) fun aN O aG=> ?_
 have aK:=((A.wk ao).wk I).put (F':= {F with rh:=r.getD 1 []}) O aG rfl rfl rfl rfl A.fO
 have aq:=((q.wk ao).wk I).fb ((A.wk ao).wk I) O
 have ac:Wk C aN:=(aU.trans I).trans' O fun k hk h=>by omega
 refine eR aj<|M<|ag fun Y=>ay<|Y<|rt<|br ?_
 exact tr<|aX aa<|⟨.inl ⟨_,k,ln,(Ik h2).trans (Kz<|by simpa using bg),aa,⟨V,vh,aK,aq,⟨E.len,aV,E.row,E.kd⟩,ac,ax⟩⟩,ac⟩
 have cx:¬r.getD 0 []=iJ:=bf
 refine ag fun aW=>p (dW aa aa)<|ay<|aW<|cd aa (fun bi=> ?_) fun bi=> ?_
 have h3:r.getD 0 []=iS:=bi
 have U:r.length=2:=by rw [hw,h3]; rfl
 have J:=J ab
 refine ag fun aD=>au (.slice ar r.length cr)<|p (ba cI aa aa ab<|aJ.ok (G _ a)<|bS ab)<|p (ld bU aa<|cg.get (i:=1) (G _ a) ab)<|e<|cl O0 (WZ (r.getD 1 []) ai ab) aa fun cX c3 b8=> ?_
 obtain ⟨rfl,ap⟩:=b8
 have cc:=a.trans ap
 refine p mv<|p (xt aa aa)<|p (xt aa aa)<|p aB<|ay<|aD<|aC fun al=>rg aa<|au (aR H.rb)<|p (nc aa)<|p (fa lI aa)<|p (ld ib aa<|(a7 (q.wk ap).cells).trans aa)<|p mv<|p (nc aa)<|p (fa Ta aa)<|e<|cJ kM aa aa (v:=str (letE<|r.getD 1 []).1) aa (A.wk ap).cells (by show _ < 13; omega) fun aN O aG=> ?_
 have aK:=(A.wk ap).put (F':= {F with tr:=(letE<|r.getD 1 []).1}) O aG rfl rfl rfl rfl A.fO
 have aq:=(q.wk ap).fb (A.wk ap) O
 have ac:Wk C aN:=cc.trans' O fun k hk h=>by omega
 refine nl<|al<|ag fun M=>p mv<|ay<|M<|rt<|br<|tr<|aX aa ?_
 by_cases h:(letE<|r.getD 1 []).2=0
 exact ⟨.inl ⟨_,k,ln,(Im h3).trans (Lr h),by rw [h]; rfl,⟨V,vh,aK,aq,⟨E.len,aV,E.row,E.kd⟩,ac,ax⟩⟩,ac⟩
 exact fL.er ((Im h3).trans<|Lq h) h aq.dq ac
 have cy:¬r.getD 0 []=iS:=bi
 refine ag fun aD=>p (dW aa aa)<|ay<|aD<|cd aa (fun bj=> ?_) fun bj=> ?_
 have h4:r.getD 0 []=kf:=bj
 have U:r.length=2:=by rw [hw,h4]; rfl
 have J:=J ab
 refine ag fun al=>au (.slice ar r.length cr)<|p (ba cI aa aa ab<|aJ.ok (G _ a)<|bS ab)<|p (ld bU aa<|cg.get (i:=1) (G _ a) ab)<|e<|cl q8 (rI (r.getD 1 []) 64 ai ab ab) aa fun v91 c4 b9=> ?_
 obtain ⟨rfl,ah⟩:=b9
 have a6:=a.trans ah
 refine p mv<|p (xt aa aa)<|p (xt aa aa)<|p aB<|ay<|al<|aC fun M=>ag fun Y=>p mv<|p (dj aa aa)<|p mv<|gs (t:=96) aa (fun bE=> ?_) fun bE=> ?_
 exact aH aa<|aH aa<|p (bB aa)<|nl<|Y<|ct aa<|ag fun Z=>ay<|Z<|rt<|tr<|br<|tr<|aX aa<|fL.er ((B9 h4).trans<|Jl (pG bE).1) az (q.wk ah).dq a6
 refine aI aa mv<|aI aa (bI aa aa)<|p (bq aa)<|nl<|Y<|cd aa (fun ci=> ?_) fun ci=> ?_
 exact ag fun Z=>ay<|Z<|rt<|tr<|br<|tr<|aX aa<|fL.er ((B9 h4).trans<|Jm (nO ab) ab) az (q.wk ah).dq a6
 refine aO<|M<|ag fun Z=>au (aR H.rb)<|p (nc aa)<|p (fa lI aa)<|p (ld ib aa<|(a7 (q.wk ah).cells).trans aa)<|p mv<|p (nc aa)<|p (fa Tb aa)<|e<|cJ gB aa aa (v:=ak<|(eb (r.getD 1 []) 64).1) aa (A.wk ah).cells (by show _ < 13; omega) fun aN O aG=> ?_
 have aK:=(A.wk ah).put (F':= {F with least:=(eb (r.getD 1 []) 64).1}) O aG rfl rfl rfl rfl A.fO
 have aq:=(q.wk ah).fb (A.wk ah) O
 have ac:Wk C aN:=a6.trans' O fun k hk h=>by omega
 exact nl<|Z<|ag fun am=>ay<|am<|rt<|br<|tr<|aX aa<|⟨.inl ⟨_,k,ln,(B9 h4).trans (Jn (nO ab) ab),aa,⟨V,vh,aK,aq,⟨E.len,aV,E.row,E.kd⟩,ac,ax⟩⟩,ac⟩
 have cz:¬r.getD 0 []=kf:=bj
 refine ag fun al=>p (dW aa aa)<|ay<|al<|cd aa (fun a8=> ?_) fun a8=> ?_
 have h5:r.getD 0 []=e9:=a8
 have U:r.length=2:=by rw [hw,h5]; rfl
 have J:=J ab
 refine ag fun M=>au (.slice ar r.length cr)<|p (ba cI aa aa ab<|aJ.ok (G _ a)<|bS ab)<|p (ld bU aa<|cg.get (i:=1) (G _ a) ab)<|e<|cl q8 (rI (r.getD 1 []) 256 ai ab ab) aa fun cN bG bX=> ?_
 obtain ⟨rfl,aP⟩:=bX
 have bA:=a.trans aP
 have bl:=qA (r.getD 1 []) 256
 refine p mv<|p (xt aa aa)<|p (xt aa aa)<|p aB<|ay<|M<|aC fun Y=>ag fun Z=>p mv<|p (dj aa aa)<|nl<|Z<|cd aa (fun cf=> ?_) fun cf=> ?_
 refine ag fun am=>p mv<|ay<|am<|rt<|tr<|br<|tr<|aX aa ?_
 have aF:=pG (s:=r.getD 1 []) (most:=256) ab
 show fL C H seen _ (.int .i64 (eb (r.getD 1 []) 256).2) bG
 rw [aF.2]
 exact fL.er ((Ij h5).trans<|Ki aF.1) az (q.wk aP).dq bA
 exact aO<|Y<|ag fun am=>au (aR H.rb)<|au (.slice ar r.length cr)<|p mv<|e<|cl Am (BZ C H F k ln seen r aA ar cr (eb (r.getD 1 []) 256).1 bG a3 ⟨V,vh,A.wk aP,q.wk aP,E,bA,ax⟩ aL (.inl U) (by have :=bl ab; omega) fun h _=>absurd h5 h) aa fun cO cY bY=>ay<|am<|rt<|br<|tr<|aX aa<|fL.eq bY<|(Ij h5).trans<|WN U h5<|nO ab
 have cA:¬r.getD 0 []=e9:=a8
 refine ag fun M=>p (dW aa aa)<|ay<|M<|cd aa (fun a9=> ?_) fun a9=> ?_
 have an:r.getD 0 []=eJ:=a9
 have U:r.length=2:=by rw [hw,an]; rfl
 have J:=J ab
 refine ag fun Y=>au (aR H.rb)<|e<|cl Ae (B8 C.heap.size H k ln seen vh fE ai q ab) aa fun cP cC bZ=> ?_
 obtain ⟨rfl,cp⟩:=bZ
 subst cp
 refine ay<|Y<|ag fun Z=>au (aR H.rb)<|e<|cl Ae (B8 C.heap.size H k ln seen vh dp cC q ab) aa fun cR cD b0=> ?_
 obtain ⟨rfl,cq⟩:=b0
 subst cq
 refine ay<|Z<|aC fun am=>ag fun bu=>p mv<|p mv<|gb (t:=130) aa (fun bk=> ?_) fun bk=> ?_
 exact aH aa<|p (bB aa)<|nl<|bu<|ct aa<|ag fun aE=>p aB<|nl<|aE<|rt<|tr<|br<|tr<|aX aa<|fL.er ((yc an).trans<|zV<|.inl<|of_decide_eq_true bk) az q.dq a
 refine aI aa mv<|p (bq aa)<|nl<|bu<|cb aa (fun bb=> ?_) fun bb=> ?_
 exact ag fun aE=>ay<|aE<|rt<|tr<|br<|tr<|aX aa<|fL.er ((yc an).trans<|zV<|.inr<|of_decide_eq_true bb) az q.dq a
 have bF:¬(fE∈seen∨dp∈seen):=fun h=>h.elim (of_decide_eq_false bk)<|of_decide_eq_false bb
 refine aO<|am<|ag fun aE=>au (.slice ar r.length cr)<|p (ba cI aa aa ab<|aJ.ok (G _ a)<|bS ab)<|p (ld bU aa<|cg.get (i:=1) (G _ a) ab)<|e<|cl q8 (rI (r.getD 1 []) 1024 cD ab ab) aa fun cS bH b1=> ?_
 obtain ⟨rfl,aS⟩:=b1
 have bC:=a.trans aS
 have bl:=qA (r.getD 1 []) 1024
 refine p mv<|p (xt aa aa)<|p (xt aa aa)<|p aB<|ay<|aE<|aC fun bL=>ag fun bN=>p mv<|p (dj aa aa)<|nl<|bN<|cd aa (fun ch=> ?_) fun ch=> ?_
 refine ag fun aY=>p mv<|ay<|aY<|rt<|tr<|br<|tr<|aX aa ?_
 have aF:=pG (s:=r.getD 1 []) (most:=1024) ab
 show fL C H seen _ (.int .i64 (eb (r.getD 1 []) 1024).2) bH
 rw [aF.2]
 exact fL.er ((yc an).trans<|EN bF aF.1) az (q.wk aS).dq bC
 exact aO<|bL<|ag fun aY=>au (aR H.rb)<|au (.slice ar r.length cr)<|p mv<|e<|cl Am (BZ C H F k ln seen r aA ar cr (eb (r.getD 1 []) 1024).1 bH a3 ⟨V,vh,A.wk aS,q.wk aS,E,bC,ax⟩ aL (.inl U) (by have :=bl ab; omega) fun _ h=>absurd an h) aa fun v146 cZ b2=>ay<|aY<|rt<|br<|tr<|aX aa<|fL.eq b2<|(yc an).trans<|N0 U an bF<|nO ab
 have cB:¬r.getD 0 []=eJ:=a9
 have bm:=Wo co cu cv cx cy cz cA cB
 have cm:r.length=4:=by rw [hw,LR bm]
 exact aO<|bn<|aZ<|ag fun Y=>au (aR H.rb)<|au (.slice ar r.length cr)<|e<|cl O1 (Tp C H F k ln seen r aA ar cr ai a3 bx aL bp ce cm bm) aa fun cT c0 b3=>ay<|Y<|rt<|aX aa<|fL.eq b3<|TV bm
end Go.Hb.Et
end
section
namespace Go.Hb.k3
open Go.Hb.zL Go.Hb.Et Go.Hb.nq
theorem Tg.blt {w:World} {B e n cp:Nat} {a:Option Addr} {xs:List Value} (h:Tg w B e n (.slice a n cp) xs) (C:xs≠[]):bk a < w.heap.size:=by
 obtain ⟨E,I,A,_,q⟩:=h
 cases A
 rcases q with rfl | ⟨G,cur,z2,rfl,_,i,_⟩
 · exact absurd aa C
 · exact (cQ.1 i).1
def NL (w':World) (B:Nat) (F:aT) (v:Value):Prop := ∃ B1 fb V,B≤B1∧v= .tuple #[.pointer (some ⟨fb,0,none⟩),.int .i64 0,.int .i64 0]∧eF w' B1 0 fb F V∧(∃ seen,nr F [] seen)∧Nx F
def NK (e:Nat×Nat) (v:Value):Prop :=v= .tuple #[.pointer none,.int .i64 (e.1:Nat),.int .i64 (e.2:Nat)]
theorem nJ {l:List (dd×Value)} {i:Nat} {q:dd×Value} (h:l[i]? =some q):mr l≠[]:=fun h2=>by
 have h3:(mr l).length=l.length*8:=oz (f:=jv) (m:=8) (fun _=>rfl) _
 have h4:=(fJ.1 h).1
 rw [h2] at h3
 have h5:0=l.length*8:=h3
 omega
def lS (s:Tx) (w:World) (v:Value) (w':World):Prop :=(match fq s with | .ok F=>NL w' w.heap.size F v | .error e=>NK e v)∧Wk w w'
theorem lS.no {s:Tx} {w w':World} {l e:Nat} (h:fq s= .error (l,e)) (hm:Wk w w'):lS s w (.tuple #[.pointer none,.int .i64 (l:Nat),.int .i64 (e:Nat)]) w':=by
 unfold lS; rw [h]; exact ⟨rfl,hm⟩
theorem WA (s:Tx) (w:World) (hs:s.length≤1048576):
 bo aw 72 (bh [str s]) w (lS s w):=by
 refine enter func72 aa ntmps72 aa<|ag fun dg=>p aB<|p aB<|ay<|dg<|aC fun dh=>rg aa<|au (str s)<|e<|cl Fe (Ko s _ hs) aa fun v20 e1 d1=> ?_
 obtain ⟨⟨a20,rfl,cW⟩,hE20⟩:=d1
 refine p mv<|p (xt aa aa)<|p (xt aa aa)<|p aB<|ay<|dh<|aC fun di=>ag fun dk=>p mv<|p (dj aa aa)<|nl<|dk<|cd aa (fun cn=> ?_) fun cn=> ?_
 have cQ:65536 < s.length:=Mm fun h=>cn<|by rw [if_neg h]
 refine ag fun b4=>p mv<|p aB<|p aB<|ay<|b4<|rt<|tr<|f3 aa aa aa aa ?_
 have h:=lS.no (ED cQ) hE20
 show lS s w (.tuple #[.pointer none,.int .i64 0,.int .i64 (if 65536 < s.length then 10 else 0)]) e1
 rw [if_pos cQ]
 exact h
 have av:¬65536 < s.length:=fun h=>cn<|by rw [if_pos h]; decide
 rw [if_neg av] at cW
 obtain ⟨vs,c4,eD⟩:=cW
 obtain ⟨ar,cr,rfl⟩:=cC c4
 refine aO<|di<|ag fun b4=>au (str s)<|e<|cl Ad (C1 s _ hs) aa fun fv G d3=> ?_
 obtain ⟨eB,b6⟩:=d3
 obtain ⟨fu,e6,rfl⟩:=cC eB
 have am:=hE20.trans b6
 have ff:=nL s
 have fj:=yG s
 refine ay<|b4<|ag fun dl=>p (cU (ps:= [(0,.int .i64 1),(4,.int .i64 3)]) (L:= [.int .i64 1,.string ⟨⟨[]⟩⟩,.string ⟨⟨[]⟩⟩,.int .i64 0,.int .i64 0,.int .i64 0,.int .i64 0,.int .i64 0,.int .i64 3,.slice none 0 0,.slice none 0 0,.slice none 0 0,.slice none 0 0]) XX aa<|aa)<|e<|ot aa fun A fD fb cH dA=> ?_
 have fr:=cH.size
 refine p mv<|p mv<|p (bK eV aa aa)<|p (bG (((bJ s).length+1:Nat):Int) aa aa<|bl ab ab)<|p (cU (ps:= [(0,aR A),(1,.slice ar (bQ s).length cr),(3,ak ((bJ s).length+1))]) (L:= [aR A,.slice ar (bQ s).length cr,.int .i64 0,ak ((bJ s).length+1),.slice none 0 0,.int .i64 0]) X4 aa<|aa)<|e<|ot aa fun a bF fc cc dF=> ?_
 have fs:=cc.size
 have dJ:Wk G bF:=cH.md.trans cc.md
 have cF:GS G (⟨a,A,(bJ s).length+1,.slice ar (bQ s).length cr,vs,bQ s⟩:gj):=⟨w.heap.size,(Tg.jN c4).wk b6,eD.wk b6,by show (bQ s).length≤70000; omega⟩
 have dL:eF bF G.heap.size 0 A hZ ⟨.slice none 0 0,.slice none 0 0,.slice none 0 0,.slice none 0 0,[],[]⟩:=⟨Wk.aM cc.md dA,dx _ _ _ _,dx _ _ _ _,ir.nil _ _ _,dx _ _ _ _,dx _ _ _ _,ir.nil _ _ _,ab,rfl⟩
 have dW:gY bF G.heap.size (⟨a,A,(bJ s).length+1,.slice ar (bQ s).length cr,vs,bQ s⟩:gj) 0 0 [] (.slice none 0 0):=⟨dF,dx _ _ _ _,by show G.heap.size≤a; omega⟩
 have d8:mh G bF (⟨a,A,(bJ s).length+1,.slice ar (bQ s).length cr,vs,bQ s⟩:gj) hZ 0 0 []:=⟨_,_,dL,dW,⟨by show 0 +0 +0 +0 +(bQ s).length≤70000; omega,by show 0 +(bQ s).length≤70000; omega,fun q ao=>by have h:=yH (show q∈bQ s from ao); exact ⟨h.2.2.1,ab,fun x eX=>by have :=(h.2.2.2.2 x eX).2; omega⟩,.inl rfl⟩,dJ,jD _⟩
 have ey:Nx hZ:=⟨fun l cp=>(by cases cp),fun l cp=>by cases cp⟩
 refine ay<|dl<|aC fun dm=>aM<|lp (fun ai cz aN=> ∃ (bE:Nat) (F:aT) (k ln:Nat) (seen:List Tx),(gJ (⟨a,A,(bJ s).length+1,.slice ar (bQ s).length cr,vs,bQ s⟩:gj).eof bE F seen ((bQ s).drop k)=gJ ((bJ s).length+1) (bQ s).length hZ [] (bQ s))∧(((bQ s).drop k).length≤bE)∧(mh G aN (⟨a,A,(bJ s).length+1,.slice ar (bQ s).length cr,vs,bQ s⟩:gj) F k ln seen)∧(Nx F)∧(cz 5= .slice ar (bQ s).length cr)∧(cz 8=aR a)∧(((bQ s).drop k).length=ai)) _ ⟨(bQ s).length,hZ,0,0,[],aa,(cB _),d8,ey,aa,aa,aa⟩ ?_
 rintro ai cz aN ⟨bE,F,k,ln,seen,U,aK,E,cq,eE,eG,rfl⟩
 refine fx 5 eE<|fx 8 eG ?_
 obtain ⟨V,vh,an,Z,I,bc,c0⟩:=E
 have c0:k≤(bQ s).length:=c0
 refine aC fun dn=>ag fun dp=>au (aR a)<|p (nc aa)<|p (fa oA aa)<|p (ld bC aa<|(a7 Z.cells).trans aa)<|au (.slice ar (bQ s).length cr)<|p (bK y3 aa aa)<|p (lt aa aa)<|nl<|dp<|cd aa (fun em=> ?_) fun em=> ?_
 obtain ⟨n,r,aU,bb,dq,ds,aG,eQ,aX,bA,⟨df,ch⟩,c7⟩:=cF.get bc (k:=k)<|by show k < (bQ s).length; omega
 have c8:bR ar (bQ s).length cr= .slice dq (bQ s).length ds:=eQ
 simp only [Value.slice.injEq,true_and] at c8
 obtain ⟨rfl,rfl⟩:=c8
 have aX:aJ aN.heap ar (kF vs):=aX
 have bA:vs[k]? =some (n,.slice aU r.length bb):=bA
 have c7:vs.length=(bQ s).length:=c7
 have aG:(bQ s).drop k=(n,r)::(bQ s).drop (k+1):=aG
 have I:nr F ((bQ s).drop k) seen:=I
 rw [aG] at U aK I
 have c5:=I.row (n,r)<|Na ..
 have fi:0 < r.length:=lx.2 c5.1
 have ed:=I.len
 have ee:=I.sl
 simp only [cT] at ed ee aK
 have du:=nr.po I
 have aZ:∀ w,Wk G w→cg w.heap aU r:=fun w h=>(ch.wk h).cM.2
 refine aO<|dn<|aM<|ag fun bV=>au (.slice ar (bQ s).length cr)<|au (aR a)<|p (nc aa)<|p (fa oA aa)<|p (ld bC aa<|(a7 Z.cells).trans aa)<|p (ba nG aa aa ab<|aJ.ok (aX)<|lK ab)<|p (fa uN aa)<|p (ld jS aa<|lL aX bA 1 az)<|ay<|bV<|ag fun bW=>au (aR a)<|au (.slice ar (bQ s).length cr)<|au (aR a)<|p (nc aa)<|p (fa oA aa)<|p (ld bC aa<|(a7 Z.cells).trans aa)<|p (ba nG aa aa ab<|aJ.ok (aX)<|lK ab)<|p (fa s6 aa)<|p (ld bC aa<|lL aX bA 0 az)<|p (nc aa)<|p (fa pB aa)<|e<|cJ gB aa aa (v:=ak n) aa Z.cells (by show _ < 6; omega) fun e2 b9 dH=> ?_
 have bm:=Z.dB (k':=k) (ln':=n) b9 dH
 have dS:=an.rb Z b9
 have ec:Wk G e2:=bc.trans' b9 fun q ao h=>by have :=Z.lo; omega
 refine nl<|bW<|ag fun bY=>au (aR a)<|au (aR a)<|p (nc aa)<|p (fa oA aa)<|p (ld bC aa<|(a7 bm.cells).trans aa)<|p (bG ((k+1:Nat):Int) aa aa<|bl ab ab)<|p (nc aa)<|p (fa oA aa)<|e<|cJ gB aa aa (v:=ak<|k+1) aa bm.cells (by show _ < 6; omega) fun dd ca dI=> ?_
 have d5:=bm.dB (k':=k+1) (ln':=n) ca dI
 have dT:=dS.rb bm ca
 have ck:Wk G dd:=ec.trans' ca fun q ao h=>by have :=Z.lo; omega
 refine nl<|bY<|ag fun bZ=>p mv<|p (ba cI aa aa ab<|aJ.ok (aZ _ ck)<|bS ab)<|p (ld bU aa<|cg.get (i:=0) (aZ _ ck) ab)<|e<|cl OC (TU (r.getD 0 []) dd) aa fun fy aL d4=> ?_
 obtain ⟨rfl,b7⟩:=d4
 have a0:=ck.trans b7
 have bg:=d5.wk b7
 have dR:=dT.wk b7
 refine ay<|bZ<|aC fun b0=>ag fun a3=>p mv<|p (bI aa aa)<|nl<|a3<|cd aa (fun en=> ?_) fun en=> ?_
 have aA:width (r.getD 0 [])=0:=ab
 refine aC fun a4=> ?_
 have ac:(fun w'=>Wk aL w') aL.drew:=(Md.refl _ _).drew
 exact bM (fun w'=>Wk aL w') aa wide ac<|bH 0 aa (aR a) ac<|aE 1 aa (fun _ _=>nc aa) ac<|aE 2 aa (fun _ _=>fa pB aa) ac<|aE 3 aa (fun w' E=>ld bC aa<|Wk.aQ E<|(a7 bg.cells).trans aa) ac<|aE 4 aa (fun _ _=>aB) ac<|aE 5 aa (fun _ _=>aB) ac<|aE 6 aa (fun _ _=>aB) ac<|hn aj<|a4<|rt<|tr<|br<|tr<|br<|tr<|f3 aa aa aa aa<|lS.no (om av<|Kb U aK aA)<|am.trans<|a0.trans ac
 have aA:width (r.getD 0 [])≠0:=ab
 refine aO<|b0<|aC fun a4=>ag fun b1=>p mv<|p (bK eV aa aa)<|p mv<|p (dj aa aa)<|nl<|b1<|cd aa (fun eo=> ?_) fun eo=> ?_
 refine aC fun a5=> ?_
 have ae:(fun w'=>Wk aL w') aL.drew:=(Md.refl _ _).drew
 exact bM (fun w'=>Wk aL w') aa wide ae<|bH 0 aa (aR a) ae<|aE 1 aa (fun _ _=>nc aa) ae<|aE 2 aa (fun _ _=>fa pB aa) ae<|aE 3 aa (fun w' E=>ld bC aa<|Wk.aQ E<|(a7 bg.cells).trans aa) ae<|aE 4 aa (fun _ _=>aB) ae<|aE 5 aa (fun _ _=>aB) ae<|aE 6 aa (fun _ _=>aB) ae<|hn aj<|a5<|rt<|tr<|br<|tr<|br<|tr<|f3 aa aa aa aa<|lS.no (om av<|Kc U aK aA ab)<|am.trans<|a0.trans ae
 have h1:r.length=width (r.getD 0 []):=ab
 refine aO<|a4<|ag fun a5=>au (aR a)<|p mv<|p (ba cI aa aa ab<|aJ.ok (aZ _ a0)<|bS ab)<|p (ld bU aa<|cg.get (i:=0) (aZ _ a0) ab)<|e<|cl Ae (B8 G.heap.size (⟨a,A,(bJ s).length+1,.slice ar (bQ s).length cr,vs,bQ s⟩:gj) (k+1) n seen vh (r.getD 0 []) aL bg ab) aa fun fz bN d6=> ?_
 obtain ⟨rfl,eW⟩:=d6
 subst eW
 refine ay<|a5 ?_
 refine ej (fun bO cx=>(width (r.getD 0 [])=2→r.getD 0 []∉seen)∧(cx=bN)∧(bO 5= .slice ar (bQ s).length cr)∧(bO 8=aR a)∧(bO 9= .slice aU r.length bb)) ?_ ?_
 refine ag fun ax=>p mv<|p (bI aa aa)<|p mv<|gs (t:=95) aa (fun er=> ?_) fun er=> ?_
 refine aI aa mv<|p (bB aa)<|nl<|ax<|cb aa (fun co=> ?_) fun co=> ?_
 refine aC fun a6=> ?_
 have ah:(fun w'=>Wk bN w') bN.drew:=(Md.refl _ _).drew
 exact bM (fun w'=>Wk bN w') aa wide ah<|bH 0 aa (aR a) ah<|aE 1 aa (fun _ _=>nc aa) ah<|aE 2 aa (fun _ _=>fa pB aa) ah<|aE 3 aa (fun w' E=>ld bC aa<|Wk.aQ E<|(a7 bg.cells).trans aa) ah<|aE 4 aa (fun _ _=>aB) ah<|aE 5 aa (fun _ _=>aB) ah<|aE 6 aa (fun _ _=>aB) ah<|hn aj<|a6<|rt<|tr<|br<|tr<|br<|tr<|f3 aa aa aa aa<|lS.no (om av<|CX U aK aA h1 ab<|of_decide_eq_true co)<|am.trans<|a0.trans ah
 exact aO<|tn<|⟨(fun _=>of_decide_eq_false co),aa,aa,aa,aa⟩
 exact aH aa<|p (bq aa)<|nl<|ax<|cf aa<|aO<|tn<|⟨(fun h=>absurd h ab),aa,aa,aa,aa⟩
 rintro bO cx ⟨c2,eT,eH,eI,eJ⟩
 refine fx 5 eH<|fx 8 eI<|fx 9 eJ ?_
 subst eT
 refine ag fun ax=>au (aR a)<|au (.slice aU r.length bb)<|e<|cl OD (TK G (⟨a,A,(bJ s).length+1,.slice ar (bQ s).length cr,vs,bQ s⟩:gj) F (k+1) n seen r df aU bb cx cF ⟨V,vh,dR,bg,du,a0,by show k+1≤(bQ s).length; omega⟩ ch c5.2.2 (by show _+((bQ s).drop<|k+1).length < 70000; omega) h1 aA) aa fun e0 Y dX=> ?_
 obtain ⟨et,ea⟩:=dX
 obtain ⟨e7,rfl,cY⟩:∃ e:Nat,e0=ak e∧((e=0∧∃ F' k' ln',cw (⟨a,A,(bJ s).length+1,.slice ar (bQ s).length cr,vs,bQ s⟩:gj).eof F seen ((bQ s).drop<|k+1) n r= .ok (F',(bQ s).drop k')∧mh G Y (⟨a,A,(bJ s).length+1,.slice ar (bQ s).length cr,vs,bQ s⟩:gj) F' k' ln' seen)∨(e≠0∧∃ l:Nat,cw (⟨a,A,(bJ s).length+1,.slice ar (bQ s).length cr,vs,bQ s⟩:gj).eof F seen ((bQ s).drop<|k+1) n r= .error (l,e)∧Hb.aQ Y.heap a 5=some (ak l))):=by
  rcases et with ⟨F',k',ln',h1,h2,h3⟩ | ⟨l,e,h1,h2,h3,h4⟩
  exact ⟨0,h2,.inl ⟨aa,F',k',ln',h1,h3⟩⟩
  exact ⟨e,h3,.inr ⟨h2,l,h1,h4⟩⟩
 refine ay<|ax<|aC fun a6=>ag fun b2=>p mv<|p (dj aa aa)<|nl<|b2<|cd aa (fun ef=> ?_) fun ef=> ?_
 obtain ⟨c1,ft,es,ew⟩:=cY.resolve_left fun h=>by omega
 refine aC fun a9=> ?_
 have O:(fun w'=>Wk Y w') Y.drew:=(Md.refl _ _).drew
 exact bM (fun w'=>Wk Y w') aa wide O<|bH 0 aa (aR a) O<|aE 1 aa (fun _ _=>nc aa) O<|aE 2 aa (fun _ _=>fa pB aa) O<|aE 3 aa (fun w' E=>ld bC aa<|Wk.aQ E<|ew) O<|aE 4 aa (fun _ _=>mv) O<|aE 5 aa (fun _ _=>aB) O<|aE 6 aa (fun _ _=>aB) O<|aE 7 aa (fun _ _=>aB) O<|hn aj<|a9<|rt<|tr<|br<|tr<|br<|tr<|f3 aa aa aa aa<|lS.no (om av<|CY U aK aA h1 c2 es)<|am.trans<|ea.trans O
 obtain ⟨_,F',k',ln',bs,d7⟩:=cY.resolve_right fun h=>by omega
 have cP:=CZ U aK aA h1 c2 bs
 obtain ⟨V2,fA,dN,aF,b5,bp,ev⟩:=d7
 obtain ⟨aS,aV,rfl⟩:=cC aF.hd
 have ex:¬((bR aS seen.length aV).ownBlock=some a):=dE aF.hd aF.cells az
 refine aO<|a6 ?_
 have M:(fun w'=>Md (fun q=>(bR aS seen.length aV).ownBlock=some q) Y w') Y.drew:=(Md.refl _ _).drew
 refine eS (fun w'=>Md (fun q=>(bR aS seen.length aV).ownBlock=some q) Y w') 12 aa wide M<|bD 0 aa (aR a) M<|bD 1 aa (aR a) M<|bz 2 aa (fun _=>nc aa) (fun _=>M)<|bz 3 aa (fun _=>fa pA aa) (fun _=>M)<|dM 4 aa (fun w' E=>ld jS aa<|Md.aQ E ((a7 aF.cells).trans aa) ex) M<|bD 5 aa (.slice aU r.length bb) M<|bz 6 aa (fun _=>ba cI aa aa ab<|aJ.ok (aZ _ bp)<|bS ab) (fun _=>M)<|dM 7 aa (fun w' E=>ld bU aa<|cg.get (i:=0) (aJ.md (aZ _ bp) E fun c1 h=>by have h1:=Tg.blt ch c1; have h2:=(dG aF.hd h).1; omega) ab) M<|gQ 8 aa aj<|fU fN aa aa fun e3 db e8 dV dy=> ?_
 have bd:=il dV.md
 have aY:=aF.wk bd
 have cK:(fun w'=>Md (fun q=>(bR aS seen.length aV).ownBlock=some q) Y w') db:=Md.mono bd fun _ _ h=>h.elim
 refine ⟨cK,?_⟩
 refine gQ 9 aa aj<|ap fN (aY.hd) aa (by have :=bp.size; have :=bd.size; omega) aa (aJ.dZ dy) (aa) (aa) ab ab fun c9 dc c3 bk fl fe=> ?_
 have cR:=bk.aM aY.cells<|dE aY.hd aY.cells az
 have eA:=mB c3
 have ce:(fun w'=>Md (fun q=>(bR aS seen.length aV).ownBlock=some q) Y w') dc:=cK.trans' bk fun _ _ h=>h
 refine ⟨ce,?_⟩
 refine bz 10 aa (fun _=>nc aa) (fun _=>ce)<|bz 11 aa (fun _=>fa pA aa) (fun _=>ce)<|dK 12 aa aj aj<|cJ GD aa aa (v:=c9) (eU c3) cR (by show _ < 6; omega) fun cv b8 dv=> ?_
 have dO:=dN.wk bd
 have d9:TF db [11] (fun q=>(bR aS seen.length aV).ownBlock=some q):=TF.own aY.hd az
 have dP:=dO.md bk d9 az
 have cL:TF dc [238] (fun q=>q=a):=TF.eq (dw cR) az
 have dQ:=dP.md b8 cL az
 have d2:gY cv G.heap.size (⟨a,A,(bJ s).length+1,.slice ar (bQ s).length cr,vs,bQ s⟩:gj) k' ln' (seen++ [r.getD 0 []]) c9:=⟨dv,cj eA b8 cL az,aF.lo⟩
 have eb:Wk G cv:=((bp.trans bd).trans' bk fun q ao h=>by have :=(dG aY.hd h).1; omega).trans' b8 fun q ao h=>by omega
 have fk:=qt bs
 have M:mh G cv (⟨a,A,(bJ s).length+1,.slice ar (bQ s).length cr,vs,bQ s⟩:gj) F' k' ln' (seen++ [r.getD 0 []]):=⟨_,_,dQ,d2,⟨b5.len,by rw [bL,e5]; show seen.length+1 +((bQ s).drop k').length≤70000; omega,b5.row,b5.kd⟩,eb,ev⟩
 have ez:=yd cq bs
 exact eR aj<|bn<|tn<|⟨_,by rw [aG]; have :=qt bs; simp only [cT]; omega,bE - 1,F',k',ln',seen++ [r.getD 0 []],cP.1,cP.2,M,ez,aa,aa,aa⟩
 have aG:(bQ s).drop k= []:=gV ab
 rw [aG,vl] at U
 refine ext<|bf<|bf<|be<|dm<|ag fun bV=>au (aR a)<|p (nc aa)<|p (fa lI aa)<|p (ld ib aa<|(a7 Z.cells).trans aa)<|ay<|bV<|aC fun bW=>aC fun bY=>rg aa<|ay<|bY<|aM ?_
 obtain ⟨a12,ks,c6⟩:=cC an.dD
 have a1:=an.dD
 rw [c6] at a1
 have bt:Hb.aQ aN.heap A 12=some (.slice a12 F.rules.length ks):=by rw [← c6]; exact (a7 an.cells).trans rfl
 have fd:=I.len
 refine lp (fun ai cA de=> ∃ (i:Nat),(i≤F.rules.length)∧(∀ j q,j < i→F.rules[j]? =some q→ny F q=false)∧(Wk aN de)∧(cA 12=aR A)∧(cA 13=ak i)∧(F.rules.length - i=ai)) _ ⟨0,ab,(fun j q cZ=>by omega),(Md.refl _ _),aa,aa,aa⟩ ?_
 rintro ai cA de ⟨i,hi,bv,bj,eK,eL,rfl⟩
 refine fx 12 eK<|fx 13 eL<|aC fun bZ=>aC fun b0=> ?_
 have eg:=Wk.aQ bj bt
 refine rg aa<|au (ak i)<|au (aR A)<|p (nc aa)<|p (fa jL aa)<|p (ld j8 aa<|eg)<|p (bK tx aa aa)<|p (lt aa aa)<|nl<|b0<|cd aa (fun ei=> ?_) fun ei=> ?_
 refine aO<|bZ<|aC fun a3=>aM<|aC fun a4=> ?_
 have cX:i < F.rules.length:=ab
 obtain ⟨vn,eP,ci⟩:=ir.get an.nx (i:=i)<|by rw [fK]; exact cX
 obtain ⟨q,a2⟩:∃ q,F.rules[i]? =some q:=⟨_,cD cX⟩
 have eC:(F.rules.map (·.next)).getD i []=q.next:=by rw [cV,im,a2]; rfl
 rw [eC] at ci
 have fh:=cq.2 q<|iP a2
 obtain ⟨dr,dt,rfl⟩:=ci.slice
 have aq:(F.rules.zip V.rn)[i]? =some (q,.slice dr q.next.length dt):=by rw [jx]; exact ⟨a2,eP⟩
 refine rg aa<|ay<|a4<|aM<|lp (fun ai bT cy=> ∃ (j:Nat),(j≤q.next.length)∧(∀ bi,bi < j→mz F (q.next.getD bi 0)=true)∧(Wk aN cy)∧(bT 12=aR A)∧(bT 13=ak i)∧(bT 14=ak j)∧(q.next.length - j=ai)) _ ⟨0,ab,(fun bi eu=>by omega),bj,aa,aa,aa,aa⟩ ?_
 rintro ai bT cy ⟨j,cZ,cs,aD,eM,eN,eO,rfl⟩
 refine fx 12 eM<|fx 13 eN<|fx 14 eO<|aC fun b1=>aC fun a5=> ?_
 have cS:=Wk.aQ aD bt
 have bx:=aW a1 aD
 refine rg aa<|au (ak j)<|au (aR A)<|p (nc aa)<|p (fa jL aa)<|p (ld j8 aa<|cS)<|au (ak i)<|p (ba nE aa aa ab<|aJ.ok ((a8 bx).2)<|nJ aq)<|p (fa uH aa)<|p (ld pc aa<|fw (f:=jv) (m:=8) (fun _=>rfl) (a8 bx).2 aq 6 az)<|p (bK ng aa aa)<|p (lt aa aa)<|nl<|a5<|cd aa (fun ek=> ?_) fun ek=> ?_
 refine aO<|b1<|aC fun ax=>aM<|aC fun a6=> ?_
 have cN:=ci.wk aD
 have eY:(q.next.map bP)[j]? =some (bP<|q.next.getD j 0):=by rw [im,cV,cD (by omega :j < q.next.length)]; rfl
 refine rg aa<|au (aR A)<|p (nc aa)<|p (fa jL aa)<|p (ld j8 aa<|cS)<|au (ak i)<|p (ba nE aa aa ab<|aJ.ok ((a8 bx).2)<|nJ aq)<|p (fa uH aa)<|p (ld pc aa<|fw (f:=jv) (m:=8) (fun _=>rfl) (a8 bx).2 aq 6 az)<|au (ak j)<|p (ba kb aa aa ab<|aJ.ok (cN.cM.2)<|bS ab)<|p (ld bC aa<|aJ.gL cN.cM.2 eY)<|ay<|a6<|aC fun b2=>rg aa<|au (aR A)<|p mv<|e<|cl Af (BW G.heap.size 0 A F V (q.next.getD j 0) cy (an.wk aD) ab) aa fun v164 fC d0=> ?_
 obtain ⟨rfl,cE⟩:=d0
 have fo:=cE.size
 refine p mv<|p (xt aa aa)<|p (xt aa aa)<|e<|al rR fun e4 fB e9 cG dz=>e<|da qi aa aa aa aa (dz) (by simp) fun aP dU dC=> ?_
 have J:Wk aN aP:=(aD.trans<|cE.trans cG.md).trans' dU fun q ao h=>by have :=aD.size; omega
 have fm:=cG.size
 refine ay<|b2<|ag fun a9=>p mv<|au (aR A)<|p (nc aa)<|p (fa sY aa)<|p (ke sA aa aa ab)<|p (ld bC aa<|(a7 (an.wk J).cells).trans aa)<|p (dj aa aa)<|p mv<|gs (t:=174) aa (fun ep=> ?_) fun ep=> ?_
 refine aI aa mv<|aI aa (no aa)<|aI aa mv<|gb (t:=177) aa (fun bu=> ?_) fun bu=> ?_
 refine aH aa<|aH aa<|aH aa<|aI aa (bB aa)<|p (bB aa)<|nl<|a9<|ct aa<|aC fun b3=> ?_
 have C:(fun w'=>Wk aP w') aP.drew:=(Md.refl _ _).drew
 refine bM (fun w'=>Wk aP w') aa wide C<|bH 0 aa (aR A) C<|aE 1 aa (fun _ _=>nc aa) C<|aE 2 aa (fun _ _=>fa jL aa) C<|aE 3 aa (fun w' E=>ld j8 aa<|Wk.aQ E<|Wk.aQ J bt) C<|bH 4 aa (ak i) C<|aE 5 aa (fun _ _=>ba nE aa aa ab<|aJ.ok ((a8<|aW a1 J).2)<|nJ aq) C<|aE 6 aa (fun _ _=>fa HI aa) C<|aE 7 aa (fun w' E=>ld bC aa<|Wk.aQ E<|fw (f:=jv) (m:=8) (fun _=>rfl) (a8<|aW a1 J).2 aq 7 az) C<|aE 8 aa (fun _ _=>aB) C<|aE 9 aa (fun _ _=>aB) C<|aE 10 aa (fun _ _=>aB) C<|hn aj<|b3<|rt<|br<|tr<|tr<|br<|br<|tr<|tr<|br<|tr<|f3 aa aa aa aa ?_
 have cm:fq s= .error (q.line,118):=zN av U.symm<|qm bv a2<|qd (j:=j) ab<|yC ab<|by simpa using bu
 exact lS.no cm<|am.trans<|bc.trans<|J.trans C
 refine aI aa (fa xV aa)<|aI aa (ld bC aa<|(dC.aQ 1).trans aa)<|aI aa (dj aa aa)<|aI aa (bq aa)<|p (bB aa)<|nl<|a9<|cd aa (fun el=> ?_) fun el=> ?_
 refine aC fun b3=> ?_
 have C:(fun w'=>Wk aP w') aP.drew:=(Md.refl _ _).drew
 refine bM (fun w'=>Wk aP w') aa wide C<|bH 0 aa (aR A) C<|aE 1 aa (fun _ _=>nc aa) C<|aE 2 aa (fun _ _=>fa jL aa) C<|aE 3 aa (fun w' E=>ld j8 aa<|Wk.aQ E<|Wk.aQ J bt) C<|bH 4 aa (ak i) C<|aE 5 aa (fun _ _=>ba nE aa aa ab<|aJ.ok ((a8<|aW a1 J).2)<|nJ aq) C<|aE 6 aa (fun _ _=>fa HI aa) C<|aE 7 aa (fun w' E=>ld bC aa<|Wk.aQ E<|fw (f:=jv) (m:=8) (fun _=>rfl) (a8<|aW a1 J).2 aq 7 az) C<|aE 8 aa (fun _ _=>aB) C<|aE 9 aa (fun _ _=>aB) C<|aE 10 aa (fun _ _=>aB) C<|hn aj<|b3<|rt<|br<|tr<|tr<|br<|br<|tr<|tr<|br<|tr<|f3 aa aa aa aa ?_
 have cm:fq s= .error (q.line,118):=zN av U.symm<|qm bv a2<|qd (j:=j) ab<|yB ab (by simpa using bu)<|by show ((dY F.bw<|q.next.getD j 0).getD nA).kind≠2; omega
 exact lS.no cm<|am.trans<|bc.trans<|J.trans C
 exact aO<|bn<|ax<|rg aa<|au (ak j)<|p (ad aa aa<|bX ab)<|p aB<|nl<|tn<|⟨_,ab,j+1,ab,(fun k hk=>by rcases fg k j with h | h <;> first | exact cs k h | (rw [show k=j by omega]; exact JE (by simpa using bu)<|by show ((dY F.bw<|q.next.getD j 0).getD nA).kind=2; omega)),J,aa,aa,aa,aa⟩
 exact aH aa<|aH aa<|aH aa<|eh aa<|eh aa<|eh aa<|aH aa<|p (bq aa)<|nl<|a9<|cf aa<|aO<|bn<|ax<|rg aa<|au (ak j)<|p (ad aa aa<|bX ab)<|p aB<|nl<|tn<|⟨_,ab,j+1,ab,(fun k hk=>by rcases fg k j with h | h <;> first | exact cs k h | (rw [show k=j by omega]; exact JD ab)),J,aa,aa,aa,aa⟩
 exact ext<|bf<|bf<|be<|bn<|a3<|rg aa<|au (ak i)<|p (ad aa aa<|bX ab)<|p aB<|nl<|tn<|⟨_,ab,i+1,ab,(fun k eZ hk cu=>by rcases fg k i with h | h <;> first | exact bv k eZ h cu | (rw [show k=i by omega,a2] at cu; cases cu; exact EZ fun bi eu=>cs bi ab)),aD,aa,aa,aa⟩
 refine ext<|bf<|bf<|be<|bW<|ag fun a3=>au (aR A)<|p (cO (aR A) aa)<|p aB<|ay<|a3<|rt<|f3 aa aa aa aa ?_
 unfold lS
 rw [EF av U.symm (Hj fun j q cZ ao=>bv j q ab ao)]
 exact ⟨⟨G.heap.size,A,V,by have :=am.size; omega,aa,an.wk bj,⟨seen,by have I:=I; rw [show (gj.rows (⟨a,A,(bJ s).length+1,.slice ar (bQ s).length cr,vs,bQ s⟩:gj)).drop k= [] from aG] at I; exact I⟩,cq⟩,am.trans<|bc.trans bj⟩
end Go.Hb.k3
end
section
namespace Go.Hb.lA
open Go.Hb.k3
def NG (w':World) (X:Except Nat bF) (v:Value):Prop :=(∃ x a,X= .ok x∧v= .tuple #[.agg [str x.1,a].toArray,.int .i64 (0:Nat)]∧a.oneCell'=true∧Tg w' 0 3 x.2.length a (x.2.map bP))∨(∃ e,X= .error e∧e≠0∧v= .tuple #[.agg [str [],.slice none 0 0].toArray,.int .i64 (e:Nat)])
theorem rN (w:World) (B e:Nat):Tg w B e 0 (.slice none 0 0) []:=Tg.jN (size:=1)<|dx _ _ _ _
def mP (w:World) (B:Nat) (v:Value) (xs:List bF):Prop := ∃ vs,bu w B 169 2 v xs.length (j9<|xs.zip vs)∧ir w 0 3 vs (xs.map (·.2))
theorem mP.md {G:Nat→Prop} {w w':World} {B:Nat} {v:Value} {xs:List bF} (h:mP w B v xs) (hm:Md G w w') {L:List Nat} (i:TF w L G) (a:(L.contains 171 || L.contains 5)=false):mP w' B v xs:=by
 simp only [nm] at a
 obtain ⟨vs,h1,h2⟩:=h
 exact ⟨vs,cj h1 hm i a.1,h2.md hm fun k hk cur z q=>i.no (dw q) a.2 hk⟩
theorem mP.wk {w w':World} {B:Nat} {v:Value} {xs:List bF} (h:mP w B v xs) (hm:Wk w w'):mP w' B v xs:=h.md (L:= []) hm (fun _ hk=>hk.elim) rfl
def lB (F:aT) (t:Tx) (w:World) (v:Value) (w':World):Prop :=(match ff F t with | .ok xs=> ∃ a,v= .tuple #[a,.int .i64 0,.int .i64 0]∧mP w' w.heap.size a xs | .error e=>v= .tuple #[.slice none 0 0,.int .i64 (e.1:Nat),.int .i64 (e.2:Nat)])∧Wk w w'
theorem lB.no {F:aT} {t:Tx} {w w':World} {l e:Nat} (h:ff F t= .error (l,e)) (hm:Wk w w'):lB F t w (.tuple #[.slice none 0 0,.int .i64 (l:Nat),.int .i64 (e:Nat)]) w':=by
 unfold lB; rw [h]; exact ⟨rfl,hm⟩
theorem TO (B fb:Nat) (F:aT) (V:ep) (x:Nat) (w:World) (C:eF w B 0 fb F V) (aq:F.bw.length≤70000):
 bo aw 182 (bh [aR fb,bP x]) w (fun v w'=>v= .bool (eG F x)∧Wk w w'):=by
 have aE:=C.fO
 refine enter func182 aa ntmps182 aa<|ag fun U=>ay<|U<|aC fun Y=>ag fun Z=>ay<|Z<|aM<|lp (fun G a E=> ∃ (i:Nat),(i≤5)∧(∀ j,j < i→F.sp.getD j 0≠x)∧(E=w)∧(a 0=aR fb)∧(a 1=bP x)∧(a 5=ak i)∧(5 - i=G)) _ ⟨0,ab,(fun j M=>by omega),aa,aa,aa,aa,aa⟩ ?_
 rintro G a E ⟨i,hi,O,aj,ar,av,ax,rfl⟩
 refine fx 0 ar<|fx 1 av<|fx 5 ax ?_
 subst aj
 refine aC fun ac=>ag fun ae=>au (ak i)<|p (lt aa aa)<|nl<|ae<|cd aa (fun ap=> ?_) fun ap=> ?_
 refine aO<|ac<|aC fun q=>aM<|ag fun A=>au (aR fb)<|au (ak i)<|p (nc aa)<|p (fa sY aa)<|p (ke sA aa aa ab)<|p (ld bC aa<|(a7 C.cells).trans<|Ia (i:=i) ab)<|au (bP x)<|p (bI aa aa)<|nl<|A<|cd aa (fun J=> ?_) fun J=> ?_
 exact ag fun ah=>ay<|ah<|rt<|br<|tr<|tr<|br<|tr<|aX aa<|⟨by rw [GH (show x∈F.sp from by obtain rfl :F.sp.getD i 0=x:=ab; exact dV ab)]; rfl,Md.refl _ _⟩
 exact aO<|bn<|q<|rg aa<|au (ak i)<|p (ad aa aa<|bX ab)<|p aB<|nl<|tn<|⟨_,ab,i+1,ab,(fun j M=>by rcases fg j i with h | h <;> first | exact O j h | (rw [show j=i by omega]; exact fun h2=>J<|by rw [h2])),aa,aa,aa,aa,aa⟩
 refine ext<|bf<|bf<|be<|Y<|ag fun q=>au (aR fb)<|au (bP x)<|e<|cl Af (BW B 0 fb F V x E C aq) aa fun aG aH ao=> ?_
 obtain ⟨rfl,I⟩:=ao
 have aF:=I.size
 exact p mv<|p (xt aa aa)<|p (xt aa aa)<|e<|al rR fun az aI aD an ai=>e<|da qi aa aa aa aa (ai) (by simp) fun aJ am aA=>ay<|q<|ag fun A=>p mv<|ay<|A<|rt<|aX aa<|⟨by rw [GI (Jg fun j M=>O j ab)]; rfl,(I.trans an.md).trans' am fun k hk h=>by omega⟩
theorem Tu (B fb:Nat) (F:aT) (V:ep) (r:List Tx) (a9:Nat) (ar:Option Addr) (cr:Nat) (w:World) (a1:eF w B 0 fb F V) (bN:∃ seen,nr F [] seen) (ce:Nx F) (b5:Tg w a9 9 r.length (.slice ar r.length cr) (r.map str)) (cf:∀ x∈r,x.length≤70000) (cA:r.length≤70000):
 bo aw 119 (bh [aR fb,.slice ar r.length cr]) w (fun v w'=>NG w' (fV F r) v∧Wk w w'):=by
 obtain ⟨seen,aZ⟩:=bN
 have cx:=aZ.len
 have cE:=rQ<|r.getD 0 []
 refine enter func119 aa ntmps119 aa<|ag fun bb=>e<|fi L7 fun aV a8 cw ac aY=> ?_
 have cH:=ac.size
 have a3:=b5.wk ac.md
 have bR:=a1.wk ac.md
 have aG:bO a8.heap aV [str [],.slice none 0 0]:=⟨_,aY⟩
 refine ay<|bb<|aC fun bl=>ag fun bu=>au (.slice ar r.length cr)<|p (bK eV aa aa)<|p (dj aa aa)<|nl<|bu<|cd aa (fun b6=> ?_) fun b6=> ?_
 exact ag fun aA=>p (cU (ps:= []) (L:= [.string ⟨⟨[]⟩⟩,.slice none 0 0]) pL aa<|aa)<|e<|da ow aa aa aa aa (aG) (by simp) fun cX bZ bL=>ay<|aA<|rt<|tr<|eA aa (dP (cs:= [str [],.slice none 0 0]) aa oo aa fun j A=>bL.bE j) ee<|⟨.inr ⟨111,GX ab,az,aa⟩,ac.md.trans' bZ fun q a h=>by omega⟩
 have I:r.length=1:=ab
 have cB:(r.getD 0 []).length≤70000:=cf _<|dV ab
 refine aO<|bl<|ag fun aA=>au (.slice ar r.length cr)<|p (ba cI aa aa ab<|aJ.ok (a3.cM.2)<|bS ab)<|p (ld bU aa<|cg.get (i:=0) a3.cM.2 ab)<|e<|cl xf (yL (r.getD 0 []) a8 ab) aa fun cL co b1=> ?_
 obtain ⟨rfl,M⟩:=b1
 have a0:=ac.md.trans M
 have cF:=M.size
 refine p mv<|p (xt aa aa)<|p (xt aa aa)<|p (xt aa aa)<|p (xt aa aa)<|p aB<|p aB<|p aB<|ay<|aA<|aC fun bv=>ag fun bw=>p mv<|p (dj aa aa)<|nl<|bw<|cd aa (fun b7=> ?_) fun b7=> ?_
 exact ag fun aD=>p (cU (ps:= []) (L:= [.string ⟨⟨[]⟩⟩,.slice none 0 0]) pL aa<|aa)<|p mv<|e<|da ow aa aa aa aa (Wk.B M aG) (by simp) fun cY b0 bM=>ay<|aD<|rt<|tr<|eA aa (dP (cs:= [str [],.slice none 0 0]) aa oo aa fun j A=>bM.bE j) ee<|⟨.inr ⟨_,xB I ab,ab,aa⟩,a0.trans' b0 fun q a h=>by omega⟩
 have J:(bA<|r.getD 0 []).2.2.2=0:=ab
 refine aO<|bv<|ag fun aD=>p mv<|e<|cl uq (vj (bA<|r.getD 0 []).1 co ab) aa fun cN cp b2=> ?_
 obtain ⟨rfl,Y⟩:=b2
 have Z:=a0.trans Y
 have ae:=Wk.B (M.trans Y) aG
 have cG:=Y.size
 refine ay<|aD<|aC fun bx=>ag fun aU=>p mv<|p (cy u9 aa aa)<|p (bI aa aa)<|p mv<|gs (t:=36) aa (fun a7=> ?_) fun a7=> ?_
 have aL:gu (bA<|r.getD 0 []).1=false∨(bA<|r.getD 0 []).1= []:= .inr<|fS ab
 exact aH aa<|aH aa<|p (bB aa)<|nl<|aU<|ct aa<|ag fun U=>p (cU (ps:= []) (L:= [.string ⟨⟨[]⟩⟩,.slice none 0 0]) pL aa<|aa)<|e<|da ow aa aa aa aa (ae) (by simp) fun cu aF aE=>ay<|U<|rt<|tr<|eA aa (dP (cs:= [str [],.slice none 0 0]) aa oo aa fun j A=>aE.bE j) ee<|⟨.inr ⟨21,xC I J aL,az,aa⟩,Z.trans' aF fun q a h=>by omega⟩
 refine aI aa mv<|aI aa (no aa)<|p (bq aa)<|nl<|aU<|cb aa (fun aN=> ?_) fun aN=> ?_
 have aL:gu (bA<|r.getD 0 []).1=false∨(bA<|r.getD 0 []).1= []:=by
  first
   | exact .inl<|by simpa using aN
   | exact .inr<|fS ab
 exact ag fun U=>p (cU (ps:= []) (L:= [.string ⟨⟨[]⟩⟩,.slice none 0 0]) pL aa<|aa)<|e<|da ow aa aa aa aa (ae) (by simp) fun cu aF aE=>ay<|U<|rt<|tr<|eA aa (dP (cs:= [str [],.slice none 0 0]) aa oo aa fun j A=>aE.bE j) ee<|⟨.inr ⟨21,xC I J aL,az,aa⟩,Z.trans' aF fun q a h=>by omega⟩
 have al:(bA<|r.getD 0 []).1≠[]:=fun h=>a7<|by rw [h]; rfl
 have ah:gu (bA<|r.getD 0 []).1=true :=by simpa using aN
 refine aO<|bx<|aC fun U=>ag fun bc=>p mv<|p (cy u9 aa aa)<|p (gt aa aa)<|nl<|bc<|cd aa (fun b8=> ?_) fun b8=> ?_
 exact ag fun ap=>p (cU (ps:= []) (L:= [.string ⟨⟨[]⟩⟩,.slice none 0 0]) pL aa<|aa)<|e<|da ow aa aa aa aa (ae) (by simp) fun cQ bT bD=>ay<|ap<|rt<|tr<|eA aa (dP (cs:= [str [],.slice none 0 0]) aa oo aa fun j A=>bD.bE j) ee<|⟨.inr ⟨22,GY I J ah al ab,az,aa⟩,Z.trans' bT fun q a h=>by omega⟩
 refine aO<|U<|aC fun ap=>ag fun bd=>p mv<|p (no aa)<|nl<|bd<|cb aa (fun ai=> ?_) fun ai=> ?_
 exact ag fun aq=>p mv<|p (cU (ps:= [(0,str (bA<|r.getD 0 []).1)]) (L:= [str (bA<|r.getD 0 []).1,.slice none 0 0]) pL aa<|aa)<|e<|da ow aa aa aa aa (ae) (by simp) fun cR bV bF=>ay<|aq<|rt<|tr<|eA aa (dP (cs:= [str (bA<|r.getD 0 []).1,.slice none 0 0]) aa oo aa fun j A=>bF.bE j) ee<|⟨.inl ⟨_,.slice none 0 0,GZ I J ah al ab (by simpa using ai),aa,aa,rN _ _ _⟩,Z.trans' bV fun q a h=>by omega⟩
 refine aO<|ap<|ag fun aq=>au (aR fb)<|p mv<|e<|cl Ft (H8 B fb F V (bA<|r.getD 0 []).2.1 cp (bR.wk<|M.trans Y).r aZ.kd ab ab) aa fun cO cq b3=> ?_
 obtain ⟨⟨cv,aW,rfl,cz,a6⟩,hE52⟩:=b3
 have am:=Z.trans hE52
 have aK:=Wk.B hE52 ae
 have cJ:=hE52.size
 refine p mv<|p (xt aa aa)<|p (xt aa aa)<|p aB<|ay<|aq<|aC fun bg=>ag fun bi=>p mv<|p (dj aa aa)<|nl<|bi<|cd aa (fun a5=> ?_) fun a5=> ?_
 have aQ:aW≠0:=fun bz=>a5<|by rw [bz]; rfl
 rcases a6 with ⟨l,h,_⟩ | ⟨cc,aj⟩
 exact absurd h aQ
 exact ag fun av=>p (cU (ps:= []) (L:= [.string ⟨⟨[]⟩⟩,.slice none 0 0]) pL aa<|aa)<|p mv<|e<|da ow aa aa aa aa (aK) (by simp) fun cS bW bG=>ay<|av<|rt<|tr<|eA aa (dP (cs:= [str [],.slice none 0 0]) aa oo aa fun j A=>bG.bE j) ee<|⟨.inr ⟨_,G0 I J ah al ab (by simpa using ai) aj,cc,aa⟩,am.trans' bW fun q a h=>by omega⟩
 have aQ:aW=0:=ab
 have ca:=a6.resolve_right fun h=>h.1 aQ
 obtain ⟨set,_,aj,ao⟩:=ca
 have cn:=ao.slice
 obtain ⟨C,E,a⟩:=cn
 subst a
 have cC:=xM ce.1 aj
 refine aO<|bg<|aC fun av=>ag fun bj=>ay<|bj<|aM<|lp (fun aX O aS=> ∃ (j:Nat),(j≤set.length)∧(∀ q,q < j→eG F (set.getD q 0)=true)∧(Wk cq aS)∧(O 0=aR fb)∧(O 4=aR aV)∧(O 6=str (bA<|r.getD 0 []).1)∧(O 11= .slice C set.length E)∧(O 12=ak j)∧(set.length - j=aX)) _ ⟨0,ab,(fun q a=>by omega),(Md.refl _ _),aa,aa,aa,aa,aa,aa⟩ ?_
 rintro aX O aS ⟨j,A,a4,G,ch,ck,cm,ci,cj,rfl⟩
 refine fx 0 ch<|fx 4 ck<|fx 6 cm<|fx 11 ci<|fx 12 cj<|aC fun bk=>ag fun bm=>au (ak j)<|au (.slice C set.length E)<|p (bK ng aa aa)<|p (lt aa aa)<|nl<|bm<|cd aa (fun b9=> ?_) fun b9=> ?_
 refine aO<|bk<|aC fun ax=>aM<|ag fun bp=>au (aR fb)<|au (.slice C set.length E)<|au (ak j)<|p (ba kb aa aa ab<|aJ.ok ((ao.wk G).cM.2)<|bS ab)<|p (ld bC aa<|aJ.gL (ao.wk G).cM.2 (show (set.map bP)[j]? =some (bP<|set.getD j 0) by rw [im,cV,cD (by omega :j < set.length)]; rfl)) ?_
 refine e<|cl O2 (TO B fb F V (set.getD j 0) aS (a1.wk<|am.trans G) ab) aa fun v70 cP b4=> ?_
 obtain ⟨rfl,bQ⟩:=b4
 have an:=G.trans bQ
 have cK:=an.size
 refine ay<|bp<|ag fun bs=>p mv<|p (no aa)<|nl<|bs<|cb aa (fun aP=> ?_) fun aP=> ?_
 exact ag fun bt=>p (cU (ps:= []) (L:= [.string ⟨⟨[]⟩⟩,.slice none 0 0]) pL aa<|aa)<|e<|da ow aa aa aa aa (Wk.B an aK) (by simp) fun cT bY bH=>ay<|bt<|rt<|br<|tr<|tr<|br<|tr<|eA aa (dP (cs:= [str [],.slice none 0 0]) aa oo aa fun j A=>bH.bE j) ee<|⟨.inr ⟨120,G1 I J ah al ab (by simpa using ai) aj (i:=j) ab (by simpa using aP),az,aa⟩,(am.trans an).trans' bY fun q a h=>by omega⟩
 exact aO<|bn<|ax<|rg aa<|au (ak j)<|p (ad aa aa<|bX ab)<|p aB<|nl<|tn<|⟨_,ab,j+1,ab,(fun q a=>by rcases fg q j with h | h <;> first | exact a4 q h | (rw [show q=j by omega]; simpa using aP)),an,aa,aa,aa,aa,aa,aa⟩
 exact ext<|bf<|bf<|be<|av<|ag fun ax=>au (str (bA<|r.getD 0 []).1)<|au (.slice C set.length E)<|p (cU (ps:= [(0,str (bA<|r.getD 0 []).1),(1,.slice C set.length E)]) (L:= [str (bA<|r.getD 0 []).1,.slice C set.length E]) pL aa<|aa)<|e<|da ow aa aa aa aa (Wk.B G aK) (by simp) fun cW a2 bJ=>ay<|ax<|rt<|eA aa (dP (cs:= [str (bA<|r.getD 0 []).1,.slice C set.length E]) aa oo aa fun j A=>bJ.bE j) ee<|⟨.inl ⟨((bA<|r.getD 0 []).1,set),.slice C set.length E,Ba I J ah al ab (by simpa using ai) aj (fun j A=>a4 j ab),aa,aa,(ao.wk G).md a2<|fu (Wk.aM ((M.trans<|Y.trans hE52).trans G) aY) az⟩,(am.trans G).trans' a2 fun q a h=>by omega⟩
end Go.Hb.lA
end
section
namespace Go.Hb
open Go.Hb.k3 Go.Hb.lA
theorem Iu {r:List Tx} (h:r.length≠1):k9 r=(0,111):=if_pos h
theorem Uf {r:List Tx} (h:r.length=1):k9 r=eb (r.getD 0 []) 8192:=if_neg fun h2=>h2 h
theorem Ts (B fb:Nat) (F:aT) (V:ep) (t:Tx) (w:World) (cE:eF w B 0 fb F V) (cw:∃ seen,nr F [] seen) (c0:Nx F) (hs:t.length≤1048576):
 bo aw 73 (bh [aR fb,str t]) w (lB F t w):=by
 refine enter func73 aa ntmps73 aa<|ag fun b7=>p aB<|p aB<|ay<|b7<|aC fun cf=>rg aa<|au (str t)<|e<|cl Fe (Ko t _ hs) aa fun dG dl cF=> ?_
 obtain ⟨⟨dn,rfl,bD⟩,hE17⟩:=cF
 refine p mv<|p (xt aa aa)<|p (xt aa aa)<|p aB<|ay<|cf<|aC fun ck=>ag fun cm=>p mv<|p (dj aa aa)<|nl<|cm<|cd aa (fun a5=> ?_) fun a5=> ?_
 have bx:65536 < t.length:=Mm fun h=>a5<|by rw [if_neg h]
 refine ag fun aV=>p mv<|p aB<|p aB<|ay<|aV<|rt<|tr<|f3 aa aa aa aa ?_
 have h:=lB.no (F:=F) (GN bx) hE17
 show lB F t w (.tuple #[.slice none 0 0,.int .i64 0,.int .i64 (if 65536 < t.length then 10 else 0)]) _
 rw [if_pos bx]
 exact h
 have ao:¬65536 < t.length:=fun h=>a5<|by rw [if_pos h]; decide
 rw [if_neg ao] at bD
 obtain ⟨vs,b1,bb⟩:=bD
 obtain ⟨ar,cr,rfl⟩:=cC b1
 have dA:=yG t
 have cx:=(a8 b1).2
 have dB:=bb.1
 refine aO<|ck<|ag fun aV=>au (str t)<|e<|cl Ad (C1 t _ hs) aa fun v24 Z cG=> ?_
 obtain ⟨c1,ax⟩:=cG
 obtain ⟨b4,qh,rfl⟩:=cC c1
 have O:=hE17.trans ax
 have dv:=nL t
 have C:=cx.wk ax
 refine ay<|aV<|aC fun cn=>ag fun cp=>p mv<|p (bK y3 aa aa)<|p (bI aa aa)<|nl<|cp<|cd aa (fun a6=> ?_) fun a6=> ?_
 have cZ:bQ t= []:=fS ab
 exact ag fun aX=>p mv<|p (bK eV aa aa)<|p (bG (((bJ t).length+1:Nat):Int) aa aa<|bl ab ab)<|p aB<|p aB<|p aB<|nl<|aX<|rt<|tr<|f3 aa aa aa aa<|lB.no (GO ao cZ) O
 obtain ⟨⟨av,A⟩,rest,hrw⟩:∃ q rest,bQ t=q::rest:=by
  cases h:bQ t with
  | nil=>rw [h] at a6; exact absurd rfl a6
  | cons q rest=>exact ⟨q,rest,rfl⟩
 have b3:(bQ t)[0]? =some (av,A):=by rw [hrw]; rfl
 obtain ⟨b5,aq⟩:∃ p,vs[0]? =some p:=⟨_,cD ab⟩
 obtain ⟨aY,bi⟩:=bb.2 0 b5 (av,A) aq b3
 obtain ⟨df,dg⟩:=b5
 obtain rfl :av=df:=aY.symm
 obtain ⟨a0,bg,c3⟩:=bi.slice
 obtain rfl :dg= .slice a0 A.length bg:=c3
 have bw:Tg Z w.heap.size 9 A.length (.slice a0 A.length bg) (A.map str):=bi.wk ax
 have bV:∀ q∈bQ t,q.2.length≤70000∧∀ x∈q.2,x.length≤70000:=fun q b2=>by
  have h:=yH b2
  exact ⟨ab,fun x dd=>by have :=(h.2.2.2.2 x dd).2; omega⟩
 have cY:A.length≤70000∧∀ x∈A,x.length≤70000:=bV (av,A)<|iP b3
 refine aO<|cn<|aC fun aX=>ag fun cq=>p mv<|p (ba nG aa aa ab<|aJ.ok (C)<|lK ab)<|p (fa uN aa)<|p (ld jS aa<|lL (i:=0) C aq 1 az)<|p (bK eV aa aa)<|p (dj aa aa)<|nl<|cq<|cd aa (fun bz=> ?_) fun bz=> ?_
 have bY:A.length≠1:=ab
 obtain ⟨bj,bR,cP⟩:=A3 (F:=F) ao hrw<|by rw [Iu bY]; decide
 rw [Iu bY] at bR
 obtain rfl :bj=111:=by have h:(111:Int)=bj:=bR; omega
 refine aC fun aL=> ?_
 have U:(fun w'=>Wk Z w') Z.drew:=(Md.refl _ _).drew
 exact bM (fun w'=>Wk Z w') aa wide U<|aE 0 aa (fun _ _=>mv) U<|aE 1 aa (fun _ _=>ba nG aa aa ab<|aJ.ok (C)<|lK ab) U<|aE 2 aa (fun _ _=>fa s6 aa) U<|aE 3 aa (fun w' ae=>ld bC aa<|Wk.aQ ae<|lL (i:=0) C aq 0 az) U<|aE 4 aa (fun _ _=>aB) U<|aE 5 aa (fun _ _=>aB) U<|aE 6 aa (fun _ _=>aB) U<|hn aj<|aL<|rt<|tr<|f3 aa aa aa aa<|lB.no cP<|O.trans U
 have dz:A.length=1:=by have h:¬((A.length:Nat):Int)≠1:=bz; omega
 refine aO<|aX<|ag fun aL=>p mv<|p (ba nG aa aa ab<|aJ.ok (C)<|lK ab)<|p (fa uN aa)<|p (ld jS aa<|lL (i:=0) C aq 1 az)<|p (ba cI aa aa ab<|aJ.ok (bw.cM.2)<|bS ab)<|p (ld bU aa<|cg.get (i:=0) bw.cM.2 ab)<|e<|cl q8 (rI (A.getD 0 []) 8192 Z (by have :=cY.2 _ (dV (d:= []) (show 0 < A.length by omega)); omega) ab) aa fun dH bc cH=> ?_
 obtain ⟨rfl,aA⟩:=cH
 have cy:=O.trans aA
 have aG:=Uf (show A.length=1 by omega)
 refine p mv<|p (xt aa aa)<|p (xt aa aa)<|p aB<|ay<|aL<|aC fun b8=>ag fun b9=>p mv<|p (dj aa aa)<|nl<|b9<|cd aa (fun bA=> ?_) fun bA=> ?_
 obtain ⟨dq,bT,a3⟩:=A3 (F:=F) ao hrw<|by rw [aG]; exact bA
 rw [aG] at bT
 refine aC fun aN=> ?_
 have I:(fun w'=>Wk bc w') bc.drew:=(Md.refl _ _).drew
 refine bM (fun w'=>Wk bc w') aa wide I<|aE 0 aa (fun _ _=>mv) I<|aE 1 aa (fun _ _=>ba nG aa aa ab<|aJ.ok (C.wk aA)<|lK ab) I<|aE 2 aa (fun _ _=>fa s6 aa) I<|aE 3 aa (fun w' ae=>ld bC aa<|Wk.aQ ae<|lL (i:=0) (C.wk aA) aq 0 az) I<|aE 4 aa (fun _ _=>mv) I<|aE 5 aa (fun _ _=>aB) I<|aE 6 aa (fun _ _=>aB) I<|aE 7 aa (fun _ _=>aB) I<|hn aj<|aN<|rt<|tr<|f3 aa aa aa aa ?_
 have h:=lB.no a3<|cy.trans I
 show lB F t w (.tuple #[.slice none 0 0,ak av,.int .i64 (eb (A.getD 0 []) 8192).2]) _
 rw [bT]
 exact h
 obtain ⟨n,a7,dw,a3⟩:=GK (F:=F) ao hrw<|by rw [aG]; omega
 rw [aG] at a7
 have cN:iQ F ((bJ t).length+1) (ff F t) [] (n - 0) ((bQ t).drop<|0 +1):=by rw [a3,hrw]; exact iQ.start
 obtain ⟨seen,cv⟩:=cw
 refine aO<|b8<|ag fun aN=>ay<|aN<|aC fun ca=>ag fun cb=>ay<|cb<|aM<|lp (fun bk ah Y=> ∃ (i:Nat) (xs:List bF) (vx:List Value) (ac:Option Addr) (co:Nat),(i+1≤(bQ t).length∧i≤n)∧(xs.length=i)∧(iQ F ((bJ t).length+1) (ff F t) xs (n - i)<|(bQ t).drop<|i+1)∧(bu Y Z.heap.size 169 2 (.slice ac xs.length co) xs.length<|j9<|xs.zip vx)∧(ir Y 0 3 vx<|xs.map (·.2))∧(Wk Z Y)∧(ah 0=aR fb)∧(ah 7= .slice ar (bQ t).length cr)∧(ah 9= .slice b4 (bJ t).length qh)∧(ah 10=ak n)∧(ah 11= .slice ac xs.length co)∧(ah 12=ak (i+1))∧((bQ t).length - i=bk)) _ ⟨0,[],[],none,0,ab,aa,cN,(dx _ _ _ _),(ir.nil _ _ _),aA,aa,aa,aa,(by first | rfl | (rw [← a7]; rfl)),aa,aa,aa⟩ ?_
 rintro bk ah Y ⟨i,xs,vx,ac,co,hi,de,M,bv,a4,E,c5,da,db,c6,c7,c9,rfl⟩
 refine fx 0 c5<|fx 7 da<|fx 9 db<|fx 10 c6<|fx 11 c7<|fx 12 c9<|aC fun cc=>ag fun ce=>au (ak<|i+1)<|au (.slice ar (bQ t).length cr)<|p (bK y3 aa aa)<|p (lt aa aa)<|nl<|ce<|cd aa (fun cS=> ?_) fun cS=> ?_
 refine aO<|cc<|aC fun aP=>aM<|aC fun aS=>aC fun am=> ?_
 obtain ⟨⟨ln,r⟩,hri⟩:∃ q,(bQ t)[i+1]? =some q:=⟨_,cD ab⟩
 have cV:(bQ t).drop (i+1)=(ln,r)::(bQ t).drop (i+2):=by rw [List.drop_eq_getElem_cons ab]; rw [cD ab] at hri; rw [Option.some.inj hri]
 obtain ⟨p,aI⟩:∃ p,vs[i+1]? =some p:=⟨_,cD ab⟩
 obtain ⟨aY,aF⟩:=bb.2 (i+1) p (ln,r) aI hri
 obtain ⟨dh,di⟩:=p
 obtain rfl :ln=dh:=aY.symm
 obtain ⟨a,c,c4⟩:=aF.slice
 obtain rfl :di= .slice a r.length c:=c4
 have aF:Tg dl w.heap.size 9 r.length (.slice a r.length c) (r.map str):=aF
 have bW:r.length≤70000∧∀ x∈r,x.length≤70000:=bV (ln,r)<|iP hri
 rw [cV] at M
 refine rg aa<|au (ak<|i+1)<|au (ak n)<|p (gt aa aa)<|nl<|am<|cd aa (fun cT=> ?_) fun cT=> ?_
 refine aC fun aU=> ?_
 have J:(fun w'=>Wk Y w') Y.drew:=(Md.refl _ _).drew
 refine bM (fun w'=>Wk Y w') aa wide J<|bH 0 aa (.slice ar (bQ t).length cr) J<|bH 1 aa (ak<|i+1) J<|aE 2 aa (fun _ _=>ba nG aa aa ab<|aJ.ok (C.wk E)<|lK ab) J<|aE 3 aa (fun _ _=>fa s6 aa) J<|aE 4 aa (fun w' ae=>ld bC aa<|Wk.aQ ae<|lL (C.wk E) aI 0 az) J<|aE 5 aa (fun _ _=>aB) J<|aE 6 aa (fun _ _=>aB) J<|aE 7 aa (fun _ _=>aB) J<|hn aj<|aU<|rt<|tr<|br<|tr<|tr<|br<|tr<|f3 aa aa aa aa ?_
 rw [show n - i=0 by omega] at M
 exact lB.no M.more<|O.trans<|E.trans J
 refine aO<|aS<|ag fun aU=>au (aR fb)<|au (.slice ar (bQ t).length cr)<|au (ak<|i+1)<|p (ba nG aa aa ab<|aJ.ok (C.wk E)<|lK ab)<|p (fa uN aa)<|p (ld jS aa<|lL (C.wk E) aI 1 az)<|e<|cl OE (Tu B fb F V r w.heap.size a c Y (cE.wk<|O.trans E) ⟨seen,cv⟩ c0 ((aF.wk ax).wk E) bW.2 bW.1) aa fun dk dm cJ=> ?_
 obtain ⟨cA,bq⟩:=cJ
 obtain ⟨ai,an,cs,rfl,b0,bN⟩:∃ (u:Tx) (a:Value) (e:Nat),dk= .tuple #[.agg [str u,a].toArray,ak e]∧a.oneCell'=true∧((e=0∧∃ l,fV F r= .ok (u,l)∧Tg dm 0 3 l.length a (l.map bP))∨(e≠0∧fV F r= .error e)):=by
  rcases cA with ⟨x,a,h1,h2,h3,h4⟩ | ⟨e,h1,h2,h3⟩
  exact ⟨x.1,a,0,h2,h3,.inl ⟨aa,x.2,h1,h4⟩⟩
  exact ⟨_,_,e,h3,aa,.inr ⟨h2,h1⟩⟩
 have dD:=bq.size
 refine p mv<|p (xt aa aa)<|p (xt aa aa)<|e<|fi L7 fun bd dI dr a2 bm=> ?_
 have dC:=a2.size
 refine e<|fZ ow aa aa aa (y1 b0) bm az fun al bs ct=> ?_
 have bp:Wk Y al:=(bq.trans a2.md).trans' bs fun q b2 h=>by omega
 have cR:al.heap[bd]? =some (.cells [str ai,an].toArray 169 (0,0)):=ct
 have aZ:=E.trans bp
 refine ay<|aU<|aC fun ch=>ag fun ci=>p mv<|p (dj aa aa)<|nl<|ci<|cd aa (fun bB=> ?_) fun bB=> ?_
 have a9:=bN.resolve_left fun h=>bB<|by rw [h.1]; rfl
 obtain ⟨dy,hex⟩:=a9
 refine aC fun cj=> ?_
 have G:(fun w'=>Wk al w') al.drew:=(Md.refl _ _).drew
 exact bM (fun w'=>Wk al w') aa wide G<|bH 0 aa (.slice ar (bQ t).length cr) G<|bH 1 aa (ak<|i+1) G<|aE 2 aa (fun _ _=>ba nG aa aa ab<|aJ.ok (C.wk aZ)<|lK ab) G<|aE 3 aa (fun _ _=>fa s6 aa) G<|aE 4 aa (fun w' ae=>ld bC aa<|Wk.aQ ae<|lL (C.wk aZ) aI 0 az) G<|aE 5 aa (fun _ _=>mv) G<|aE 6 aa (fun _ _=>aB) G<|aE 7 aa (fun _ _=>aB) G<|aE 8 aa (fun _ _=>aB) G<|hn aj<|cj<|rt<|tr<|br<|tr<|tr<|br<|tr<|f3 aa aa aa aa<|lB.no (M.bad ab hex)<|O.trans<|aZ.trans G
 have cW:cs=0:=ab
 have a9:=bN.resolve_right fun h=>h.1 cW
 obtain ⟨_,aK,hex,cK⟩:=a9
 refine aO<|ch<|rg aa<|au (.slice ac xs.length co)<|p (c8 oo aa (aa) (show ∀ j,j < 2→Hb.aQ al.heap bd (0 +j)= [str ai,an][j]? from fun j du=>bO.bE ⟨_,cR⟩ j))<|e<|kK KK aa aa aa fun dp dJ ds bt cu=> ?_
 have aD:=bp.trans bt.md
 have aH:=aW bv aD
 have dE:=aD.size
 refine e<|ap KK (aH) aa (by have :=E.size; omega) aa (aJ.dZ cu) (aa) (y1 b0) ab ab fun v93 b6 c2 a1 dF dt=> ?_
 have cz:=Wk.own (E.trans aD) aH a1<|cB _
 have bZ:bu b6 Z.heap.size 169 2 v93 (xs++ [(ai,aK)]).length (j9<|(xs++ [(ai,aK)]).zip<|vx++ [an]):=by
  have cX:xs.length=vx.length:=by have :=a4.1; rw [fK] at this; omega
  rw [Em cX,List.zip_cons_cons,List.zip_nil_right,GW,bL]; exact c2
 have cQ:ir b6 0 3 (vx++ [an]) ((xs++ [(ai,aK)]).map (·.2)):=by
  rw [iq]
  exact ((a4.wk aD).md a1<|ij aH az).snoc (((cK.wk a2.md).md bs<|fu bm az).wk bt.md |>.md a1 (ij aH az))
 obtain ⟨a93,xh,dc⟩:=cC bZ
 subst dc
 exact p aB<|nl<|bn<|aP<|rg aa<|au (ak<|i+1)<|p (ad aa aa<|bX ab)<|p aB<|nl<|tn<|⟨_,ab,i+1,xs++ [(ai,aK)],vx++ [an],a93,xh,ab,(by rw [bL,de]; rfl),(by rw [show n - (i+1)=n - i - 1 by omega]; exact M.step ab hex),bZ,cQ,cz,aa,aa,aa,(by first | rfl | (rw [← a7]; rfl)),aa,aa,aa⟩
 refine ext<|bf<|bf<|be<|ca<|aC fun aP=>ag fun aS=>au (.slice ac xs.length co)<|p (bK Du aa aa)<|au (ak n)<|p (lt aa aa)<|nl<|aS<|cd aa (fun cU=> ?_) fun cU=> ?_
 refine ag fun am=>au (.slice b4 (bJ t).length qh)<|p (bK eV aa aa)<|p (bG (((bJ t).length+1:Nat):Int) aa aa<|bl ab ab)<|p aB<|p aB<|p aB<|nl<|am<|rt<|tr<|f3 aa aa aa aa ?_
 rw [gV ab] at M
 exact lB.no (M.ends ab)<|O.trans E
 refine aO<|aP<|ag fun am=>au (.slice ac xs.length co)<|p (cO (.slice ac xs.length co) aa)<|p aB<|p aB<|nl<|am<|rt<|f3 aa aa aa aa ?_
 rw [gV ab,show n - i=0 by omega] at M
 have cL:=M.done
 unfold lB
 rw [cL]
 exact ⟨⟨_,aa,⟨vx,ew bv O.size,a4⟩⟩,O.trans E⟩
end Go.Hb
end
namespace Go.Hb.lQ
def Ny (F:aT):Prop := ∀ l∈F.aliases,∀ x∈l,x < 65536
theorem HZ {kind:Nat} {s:Tx} {l:List Nat} (h:kN kind s= .ok l):∀ x∈l,x < 65536:=by
 unfold kN at h
 split at h
 · cases h
 · cases h
   intro x a
   unfold ea at a
   repeat' split at a
   all_goals first
    | (cases a; done)
    | (rw [CE] at a
       obtain ⟨y,_,rfl⟩:=List.mem_map.1 a
       exact Hr _ _)
theorem NX {kind ln:Nat} {row:List Tx} {l:List Nat} (h:kq kind ln row= .ok l):∀ x∈l,x < 65536:=by
 unfold kq at h
 split at h
 · cases h
 · exact HZ h
theorem SY {kind:Nat} {al:List (List Nat)} {s:Tx} {l:List Nat} (a:∀ l∈al,∀ x∈l,x < 65536) (h:fR kind al s= .ok l):∀ x∈l,x < 65536:=by
 unfold fR at h
 split at h
 · exact HZ h
 · split at h
   · cases h
   · split at h
     · cases h
     · cases h
       rename_i n _ _
       rw [cV]
       cases hg:al[n - 1]? with
       | none=>simp
       | some y=>exact a y<|iP hg
theorem Uj {eof ln:Nat} {F F':aT} {hs:List Tx} {rows rows':List Rw} {row:List Tx} (h:Ny F) (a:cw eof F hs rows ln row= .ok (F',rows')):Ny F':=by
 unfold cw at a
 repeat' split at a
 · unfold kj at a; repeat' split at a
   all_goals first | (cases a; done) | (cases a; exact h)
 · unfold kB at a; repeat' split at a
   all_goals first | (cases a; done) | (cases a; exact h)
 · unfold mF at a; repeat' split at a
   all_goals first | (cases a; done) | (cases a; exact h)
 · unfold mJ at a; repeat' split at a
   all_goals first | (cases a; done) | (cases a; exact h)
 · unfold kR at a; repeat' split at a
   all_goals first | (cases a; done) | (cases a; exact h)
 · unfold ki at a; repeat' split at a
   all_goals first | (cases a; done) | (cases a; exact h)
 · unfold jT at a
   split at a
   · cases a
   · split at a
     · cases a
     · split at a
       · cases a
       · rename_i r q
         cases a
         intro l i
         rcases jz.1 i with i | i
         · exact h l i
         · obtain ⟨_,_,h2⟩:=B6 _ _ _ q l i
           exact NX h2
 · unfold gM at a; repeat' split at a
   all_goals first | (cases a; done) | (cases a; exact h)
theorem WG {eof:Nat} :∀ (k:Nat) (F F':aT) (hs:List Tx) (rows:List Rw),Ny F→gJ eof k F hs rows= .ok F'→Ny F':=by
 intro k
 induction k with
 | zero=>intro F F' hs rows h a; rw [gJ] at a; split at a <;> cases a; exact h
 | succ k A=>
   intro F F' hs rows h a
   cases rows with
   | nil=>rw [vl] at a; cases a; exact h
   | cons q rows=>
     rw [gJ] at a
     split at a
     · cases a
     · split at a
       · cases a
       · split at a
         · cases a
         · split at a
           · cases a
           · rename_i r i
             exact A _ _ _ _ (Uj (rows':=r.2) h i) a
theorem EE {s:Tx} {F:aT} (h:fq s= .ok F):Ny F:=by
 unfold fq at h
 split at h
 · cases h
 · split at h
   · cases h
   · rename_i f a
     split at h
     · cases h
     · cases h
       exact WG _ _ _ _ _ (fun l i=>by cases i) a
def wx (x:bF):Prop :=x.1.length≤64∧x.2.length≤64∧(∀ y∈x.2,y < 65536)
theorem xB {F:aT} {row:List Tx} {x:bF} (h1:Nx F) (h2:Ny F) (h:fV F row= .ok x):wx x:=by
 unfold fV at h
 split at h
 · cases h
 · split at h
   · cases h
   · split at h
     · cases h
     · split at h
       · cases h
       · split at h
         · cases h; exact ⟨by simp only; omega,by simp,fun y i=>by cases i⟩
         · split at h
           · cases h
           · rename_i a
             split at h
             · cases h
               exact ⟨by simp only; omega,xM h1.1 a,SY h2 a⟩
             · cases h
theorem Sp {F:aT} {eof:Nat} (h1:Nx F) (h2:Ny F):∀ {n:Nat} {rows:List Rw} {r:List bF},e7 F eof n rows= .ok r→∀ x∈r,wx x:=by
 intro n
 induction n with
 | zero=>
   intro rows r h
   cases rows with
   | nil=>rw [e7] at h; cases h; intro x a; cases a
   | cons q rows=>rw [e7] at h; cases h
 | succ n A=>
   intro rows r h
   cases rows with
   | nil=>rw [e7] at h; cases h
   | cons q rows=>
     rw [e7] at h
     split at h
     · cases h
     · rename_i he
       split at h
       · cases h
       · rename_i i
         cases h
         intro x a
         rcases List.mem_cons.1 a with rfl | a
         · exact xB h1 h2 he
         · exact A i x a
theorem GL {F:aT} {t:Tx} {xs:List bF} (h1:Nx F) (h2:Ny F) (h:ff F t= .ok xs):(∀ x∈xs,wx x)∧xs.length≤8192:=by
 unfold ff at h
 split at h
 · cases h
 · split at h
   · cases h
   · split at h
     · cases h
     · split at h
       · cases h
       · rename_i hn
         refine ⟨Sp h1 h2 h,?_⟩
         have i:=(Sr h).1
         unfold eX at hn
         split at hn
         · cases hn
         · cases hn
           rename_i a
           have :=qA _ 8192<|jq.1 a
           omega
theorem qp {F:aT} {s:Tx} {e:Nat} (h:gH F s= .error e):e≠0:=by
 unfold gH at h; repeat' split at h
 all_goals first | (cases h; done) | (cases h; decide) | (cases h; assumption)
theorem HY {k:Nat} {s:Tx} {e:Nat} (h:kN k s= .error e):e≠0:=by
 unfold kN at h; repeat' split at h
 all_goals first | (cases h; done) | (cases h; assumption)
theorem pH {s:Tx} {m:Int} {e:Nat} (h:eX s m= .error e):e≠0:=by
 unfold eX at h; repeat' split at h
 all_goals first | (cases h; done) | (cases h; decide)
theorem Hx {k:Nat} {al:List (List Nat)} {s:Tx} {e:Nat} (h:fR k al s= .error e):e≠0:=by
 unfold fR at h; repeat' split at h
 all_goals first | exact HY h | (cases h; done) | (cases h; decide)
theorem JN {b:Bool} {s:Tx} {e:Nat} (h:eB b s= .error e):e≠0:=by
 unfold eB at h; repeat' split at h
 all_goals first | (cases h; done) | (cases h; decide) | (cases h; assumption)
theorem NQ {r:lC} {e:Nat} (h:jJ r= .error e):e≠0:=by
 unfold jJ at h; repeat' split at h
 all_goals first | (cases h; done) | (cases h; assumption)
theorem VH {k a:Nat} {al:List (List Nat)} {r:lC} {e:Nat} (h:kS k al a r= .error e):e≠0:=by
 unfold kS at h; repeat' split at h
 all_goals first | exact Hx h | (cases h; done) | (cases h; decide)
theorem Ra {r:List Tx} {e:Nat} (h:kL r= .error e):e≠0:=by
 unfold kL at h; repeat' split at h
 all_goals first | (cases h; done) | (cases h; decide) | (cases h; assumption)
theorem qG {k ln:Nat} {al:List (List Nat)} {c:db} {r:List Tx} {e:Nat} (h:fF k al c ln r= .error e):e≠0:=by
 unfold fF at h; repeat' split at h
 all_goals first
  | (cases h; done)
  | (cases h; decide)
  | (cases h; exact JN<|by assumption)
  | (cases h; exact NQ<|by assumption)
  | (cases h; exact VH<|by assumption)
  | (cases h; exact Ra<|by assumption)
theorem qF {ln:Nat} {r:List Tx} {e:Nat} (h:kE ln r= .error e):e≠0:=by
 unfold kE at h; repeat' split at h
 all_goals first
  | (cases h; done)
  | (cases h; decide)
  | (cases h; exact JN<|by assumption)
theorem p9 {k ln:Nat} {r:List Tx} {e:Nat} (h:kq k ln r= .error e):e≠0:=by
 unfold kq at h; repeat' split at h
 all_goals first | exact HY h | (cases h; decide)
theorem jc {α:Type} {hd:List Tx} {rd:Nat→List Tx→Except Nat α} {eof:Nat} (a:∀ l r e,rd l r= .error e→e≠0):∀ {n:Nat} {rows:List Rw} {l e:Nat},group hd rd eof n rows= .error (l,e)→e≠0:=by
 intro n
 induction n with
 | zero=>intro rows l e h; rw [group] at h; cases h
 | succ n i=>
   intro rows l e h
   cases rows with
   | nil=>rw [group] at h; cases h; decide
   | cons q rows=>
     rw [group] at h
     split at h
     · cases h; decide
     · split at h
       · rename_i he; cases h; exact a _ _ _ he
       · split at h
         · rename_i he; cases h; exact i he
         · cases h
theorem Ui {eof ln l e:Nat} {F:aT} {hs:List Tx} {rows:List Rw} {row:List Tx} (h:cw eof F hs rows ln row= .error (l,e)):e≠0:=by
 unfold cw at h
 repeat' split at h
 · unfold kj at h; repeat' split at h
   all_goals first
    | (cases h; done)
    | (cases h; decide)
    | (cases h; assumption)
    | (cases h; exact qp<|by assumption)
    | (cases h; exact pH<|by assumption)
    | (cases h; exact jc (fun _ _ _ h=>qF h)<|by assumption)
    | (cases h; exact jc (fun _ _ _ h=>p9 h)<|by assumption)
    | (cases h; exact jc (fun _ _ _ h=>qG h)<|by assumption)
 · unfold kB at h; repeat' split at h
   all_goals first
    | (cases h; done)
    | (cases h; decide)
    | (cases h; assumption)
    | (cases h; exact qp<|by assumption)
    | (cases h; exact pH<|by assumption)
    | (cases h; exact jc (fun _ _ _ h=>qF h)<|by assumption)
    | (cases h; exact jc (fun _ _ _ h=>p9 h)<|by assumption)
    | (cases h; exact jc (fun _ _ _ h=>qG h)<|by assumption)
 · unfold mF at h; repeat' split at h
   all_goals first
    | (cases h; done)
    | (cases h; decide)
    | (cases h; assumption)
    | (cases h; exact qp<|by assumption)
    | (cases h; exact pH<|by assumption)
    | (cases h; exact jc (fun _ _ _ h=>qF h)<|by assumption)
    | (cases h; exact jc (fun _ _ _ h=>p9 h)<|by assumption)
    | (cases h; exact jc (fun _ _ _ h=>qG h)<|by assumption)
 · unfold mJ at h; repeat' split at h
   all_goals first
    | (cases h; done)
    | (cases h; decide)
    | (cases h; assumption)
    | (cases h; exact qp<|by assumption)
    | (cases h; exact pH<|by assumption)
    | (cases h; exact jc (fun _ _ _ h=>qF h)<|by assumption)
    | (cases h; exact jc (fun _ _ _ h=>p9 h)<|by assumption)
    | (cases h; exact jc (fun _ _ _ h=>qG h)<|by assumption)
 · unfold kR at h; repeat' split at h
   all_goals first
    | (cases h; done)
    | (cases h; decide)
    | (cases h; assumption)
    | (cases h; exact qp<|by assumption)
    | (cases h; exact pH<|by assumption)
    | (cases h; exact jc (fun _ _ _ h=>qF h)<|by assumption)
    | (cases h; exact jc (fun _ _ _ h=>p9 h)<|by assumption)
    | (cases h; exact jc (fun _ _ _ h=>qG h)<|by assumption)
 · unfold ki at h; repeat' split at h
   all_goals first
    | (cases h; done)
    | (cases h; decide)
    | (cases h; assumption)
    | (cases h; exact qp<|by assumption)
    | (cases h; exact pH<|by assumption)
    | (cases h; exact jc (fun _ _ _ h=>qF h)<|by assumption)
    | (cases h; exact jc (fun _ _ _ h=>p9 h)<|by assumption)
    | (cases h; exact jc (fun _ _ _ h=>qG h)<|by assumption)
 · unfold jT at h; repeat' split at h
   all_goals first
    | (cases h; done)
    | (cases h; decide)
    | (cases h; assumption)
    | (cases h; exact qp<|by assumption)
    | (cases h; exact pH<|by assumption)
    | (cases h; exact jc (fun _ _ _ h=>qF h)<|by assumption)
    | (cases h; exact jc (fun _ _ _ h=>p9 h)<|by assumption)
    | (cases h; exact jc (fun _ _ _ h=>qG h)<|by assumption)
 · unfold gM at h; repeat' split at h
   all_goals first
    | (cases h; done)
    | (cases h; decide)
    | (cases h; assumption)
    | (cases h; exact qp<|by assumption)
    | (cases h; exact pH<|by assumption)
    | (cases h; exact jc (fun _ _ _ h=>qF h)<|by assumption)
    | (cases h; exact jc (fun _ _ _ h=>p9 h)<|by assumption)
    | (cases h; exact jc (fun _ _ _ h=>qG h)<|by assumption)
theorem WE {eof:Nat} :∀ (k:Nat) (F:aT) (hs:List Tx) (rows:List Rw) (l e:Nat),rows.length≤k→gJ eof k F hs rows= .error (l,e)→e≠0:=by
 intro k
 induction k with
 | zero=>
   intro F hs rows l e hk a
   obtain rfl :=fS<|Nat.le_zero.1 hk
   rw [vl] at a; cases a
 | succ k A=>
   intro F hs rows l e hk a
   cases rows with
   | nil=>rw [vl] at a; cases a
   | cons q rows=>
     rw [gJ] at a
     split at a
     · cases a; decide
     · split at a
       · cases a; decide
       · split at a
         · cases a; decide
         · split at a
           · rename_i he; cases a; exact Ui he
           · rename_i r i
             have h1:=qt (rows':=r.2) i
             simp only [cT] at hk
             exact A _ _ _ _ _ ab a
theorem NT {s:Tx} {l e:Nat} (h:fq s= .error (l,e)):e≠0:=by
 unfold fq at h
 split at h
 · cases h; decide
 · split at h
   · rename_i he; cases h; exact WE _ _ _ _ _ _ (cB _) he
   · split at h
     · cases h; decide
     · cases h
theorem Sj {F:aT} {row:List Tx} {e:Nat} (h:fV F row= .error e):e≠0:=by
 unfold fV at h
 repeat' split at h
 all_goals first
  | (cases h; done)
  | (cases h; decide)
  | (cases h; assumption)
  | (cases h; exact Hx<|by assumption)
theorem Ss {F:aT} {eof l e:Nat} :∀ {n:Nat} {rows:List Rw},e7 F eof n rows= .error (l,e)→e≠0:=by
 intro n
 induction n with
 | zero=>
   intro rows h
   cases rows with
   | nil=>rw [e7] at h; cases h
   | cons q rows=>rw [e7] at h; cases h; decide
 | succ n a=>
   intro rows h
   cases rows with
   | nil=>rw [e7] at h; cases h; decide
   | cons q rows=>
     rw [e7] at h
     split at h
     · rename_i he; cases h; exact Sj he
     · split at h
       · rename_i he; cases h; exact a he
       · cases h
theorem RY {F:aT} {t:Tx} {l e:Nat} (h:ff F t= .error (l,e)):e≠0:=by
 unfold ff at h
 split at h
 · cases h; decide
 · split at h
   · cases h; decide
   · split at h
     · cases h; decide
     · split at h
       · rename_i he; cases h; exact pH he
       · exact Ss h
end Go.Hb.lQ
section
namespace Go.Hb
open Go.Hb.iu Go.Hb.lA Go.Hb.lQ Go.Hb.k3
noncomputable def lr (a t:Tx):Option (aT×List bF):=match fq a with
 | .error _=>none
 | .ok F=>match ff F t with
   | .error _=>none
   | .ok xs=>some (F,xs)
theorem Le {a t:Tx} {e:Nat×Nat} (h:fq a= .error e):lr a t=none:=by unfold lr; rw [h]
theorem Lf {a t:Tx} {F:aT} {e:Nat×Nat} (h:fq a= .ok F) (h1:ff F t= .error e):lr a t=none:=by unfold lr; rw [h]; simp only; rw [h1]
theorem Dp {a t:Tx} {F:aT} {xs:List bF} (h:fq a= .ok F) (h1:ff F t= .ok xs):lr a t=some (F,xs):=by unfold lr; rw [h]; simp only; rw [h1]
structure eW (F:aT) (xs:List bF):Prop where
 len:F.dm.length+F.aliases.length+F.bw.length+F.rules.length≤70000
 nx:Nx F
 uA:∀ x∈xs,wx x
 xl:xs.length≤8192
 fs:si F
 cls:o4 F
 Sg:∀ x∈xs,kZ x.2
 fO:F.sp.length=5
 ne:∀ x∈xs,1≤x.1.length
theorem zP {s:Tx} {F:aT} (h:fq s= .ok F):Nx F:=EC (Q:=Nx) ⟨fun l a=>(by cases a),fun l a=>by cases a⟩ (fun _ _ _ _ _ _ _ _ h i=>yd h i) h
theorem eW.of {a t:Tx} {F:aT} {xs:List bF} (h:fq a= .ok F) (h1:ff F t= .ok xs) (i:∃ seen,kH F [] seen) (h5:F.sp.length=5):eW F xs:=by
 obtain ⟨seen,i⟩:=i
 have A:=i.len
 have q:=GL (zP h) (EE h) h1
 exact ⟨by simpa using A,zP h,q.1,q.2,(zO h).1,(zO h).2,RX (zO h).1 h1,h5,R5 h1⟩
theorem eW.iL {F:aT} {xs:List bF} (h:eW F xs) {i:Nat} {r:dd} (a:F.rules[i]? =some r):r.next.length≤64∧kZ r.next∧jR r:=⟨h.nx.2 r (iP a),h.fs.2 r<|iP a⟩
structure iX where
 fb:Nat
 mc:Nat
 wb:Nat
 mb:Nat
 V:e6
 V2:e6
 va:Value
 ve:Value
 vs:List Value
 ws:List Value
def Yl (F:aT) (a:iX):List Value:= .pointer (some ⟨a.fb,0,none⟩):: .pointer (some ⟨a.wb,0,none⟩)::(lE F a.V2++ [a.ve])
structure fT (w:World) (B tb:Nat) (U:iX) (F:aT) (xs:List bF):Prop where
 cells:w.heap[tb]? =some (.cells (Yl F U).toArray 64 (0,0))
 fl:dU w B U.fb U.mc F U.V
 ax:o0 w B F U.V2
 wd:lz w B U.wb U.mb U.va U.vs xs
 oe:bu w B 72 2 U.ve xs.length (j9<|xs.zip U.ws)
 ef:ez w B 51 U.ws (xs.map (·.2))
theorem Aa {G:Nat→Prop} {w w':World} {B:Nat} {F:aT} {V:e6} (h:o0 w B F V) (hm:Md G w w') {L:List Nat} (a:TF w L G) (i:(L.contains 130 || L.contains 72 || L.contains 53 || L.contains 133 || L.contains 79)=false):o0 w' B F V:=by
 simp only [nm] at i
 obtain ⟨⟨⟨⟨h1,h2⟩,h3⟩,h4⟩,h5⟩:=i
 have q:∀ k,G k→∀ cur z,w.heap[k]?≠some (.cells cur 51 z):=fun k hk cur z A=>a.no (dw A) h3 hk
 exact ⟨cj h.o9 hm a h1,cj h.eT hm a h2,h.al.md hm q,cj h.eu hm a h4,cj h.dD hm a h5,h.nx.md hm q⟩
theorem fT.uX {G:Nat→Prop} {w w':World} {B tb:Nat} {i:iX} {F:aT} {xs:List bF} (h:fT w B tb i F xs) (hm:Md G w w') {L:List Nat} (a:TF w L G) (q:(L.contains 127 || L.contains 130 || L.contains 72 || L.contains 53 || L.contains 133 || L.contains 79 || L.contains 188 || L.contains 74 || L.contains 5 || L.contains 66)=false) (I:¬G i.mc) (E:¬G i.mb):fT w' B tb i F xs:=by
 simp only [nm] at q
 obtain ⟨⟨⟨⟨⟨⟨⟨⟨⟨h1,h2⟩,h3⟩,h4⟩,h5⟩,h6⟩,h7⟩,h8⟩,h9⟩,h10⟩:=q
 have A:∀ k,G k→∀ cur z,w.heap[k]?≠some (.cells cur 51 z):=fun k hk cur z C=>a.no (dw C) h4 hk
 exact ⟨hm.gA a h.cells h10,h.fl.md hm a (by rw [h1,h2,h3,h4,h5,h6]; rfl) I,Aa h.ax hm a (by rw [h2,h3,h4,h5,h6]; rfl),h.wd.md hm a (by rw [h7,h8,h4,h9]; rfl) E,cj h.oe hm a h8,h.ef.md hm A⟩
theorem fT.wk {w w':World} {B tb:Nat} {a:iX} {F:aT} {xs:List bF} (h:fT w B tb a F xs) (hm:Wk w w'):fT w' B tb a F xs:=h.uX (L:= []) hm (fun _ hk=>hk.elim) rfl id id
theorem Og {w w':World} {B:Nat} {F:aT} {V:e6} (h:o0 w B F V) (hm:Wk w w'):o0 w' B F V:=Aa (L:= []) h hm (fun _ hk=>hk.elim) rfl
theorem Oe {w:World} {B B':Nat} {F:aT} {V:e6} (h:o0 w B F V) (a:B'≤B):o0 w B' F V:=⟨ew h.o9 a,ew h.eT a,h.al.mono a,ew h.eu a,ew h.dD a,h.nx.mono a⟩
theorem WB {s:Tx} {w w':World} {v:Value} (h:o5 s w v w'):∃ p q A C,v= .tuple #[.pointer p,.agg [.int .i64 q,.int .i64 A,.int .i64 C].toArray]∧((p=none∧∃ e,fq s= .error e)∨(∃ F fb mc V,p=some ⟨fb,0,none⟩∧fq s= .ok F∧dU w' w.heap.size fb mc F V∧(∃ seen,kH F [] seen)∧Nx F))∧Wk w w':=by
 obtain ⟨h,a⟩:=h
 cases hx:fq s with
 | error e=>rw [hx] at h; exact ⟨_,_,_,_,h,.inl ⟨rfl,e,rfl⟩,a⟩
 | ok F=>rw [hx] at h; obtain ⟨fb,mc,V,i,h1,h2,h3⟩:=h; exact ⟨_,_,_,_,i,.inr ⟨F,fb,mc,V,rfl,rfl,h1,h2,h3⟩,a⟩
theorem R8 {F:aT} {s:Tx} {w w':World} {v:Value} (h:lR F s w v w'):∃ p q A C,v= .tuple #[.pointer p,.agg [.int .i64 q,.int .i64 A,.int .i64 C].toArray]∧((p=none∧∃ e,ff F s= .error e)∨(∃ xs B wb mb va vs,p=some ⟨wb,0,none⟩∧ff F s= .ok xs∧w.heap.size≤B∧lz w' B wb mb va vs xs∧w.heap.size≤wb∧w.heap.size≤mb))∧Wk w w':=by
 obtain ⟨h,a⟩:=h
 cases hx:ff F s with
 | error e=>rw [hx] at h; exact ⟨_,_,_,_,h,.inl ⟨rfl,e,rfl⟩,a⟩
 | ok xs=>rw [hx] at h; obtain ⟨B,wb,mb,va,vs,h1,i,h2,h3,h4⟩:=h; exact ⟨_,_,_,_,i,.inr ⟨xs,B,wb,mb,va,vs,rfl,rfl,h1,h2,h3,h4⟩,a⟩
def ud (a t:Tx) (w:World) (v:Value) (w':World):Prop :=(∃ p q A C,v= .tuple #[.pointer p,.agg [.int .i64 q,.int .i64 A,.int .i64 C].toArray]∧match lr a t with
 | none=>p=none
 | some T=> ∃ B tb i,w.heap.size≤B∧p=some ⟨tb,0,none⟩∧fT w' B tb i T.1 T.2∧eW T.1 T.2)∧Wk w w'
theorem ud.no {a t:Tx} {w w':World} {i q A:Int} (h:lr a t=none) (hm:Wk w w'):ud a t w (.tuple #[.pointer none,.agg [.int .i64 i,.int .i64 q,.int .i64 A].toArray]) w':=⟨⟨none,i,q,A,rfl,by rw [h]⟩,hm⟩
theorem YW {w:World} {B B':Nat} {f:Value→Option Value} {xs:List bF} (h:mR w B f xs) (a:B'≤B):mR w B' f xs:=⟨fun s=>ew (h.own s) a,h.nil⟩
theorem R9 {w:World} {B B' wb mb:Nat} {va:Value} {vs:List Value} {xs:List bF} (h:lz w B wb mb va vs xs) (a:B'≤B):lz w B' wb mb va vs xs:=by
 obtain ⟨f,i,q⟩:=h.mp
 exact ⟨h.cells,ew h.own a,h.fl.mono a,f,i,YW q a⟩
theorem Ln (a t:Tx) (w:World) (bS:a.length≤1048576) (b4:t.length≤1048576):
 bo aw 19 (bh [str a,str t]) w (ud a t w):=by
 refine enter func19 aa ntmps19 aa<|ag fun bn=>p aB<|e<|fi pT fun A ah ce an ai=> ?_
 have ct:=an.size
 refine nl<|bn<|ag fun bq=>au (str a)<|e<|cl PW (NS a ah bS) aa fun v12 bl bJ=> ?_
 have bX:=WB bJ
 obtain ⟨pp,bc,bd,bf,rfl,bb,aI⟩:=bX
 have ck:=aI.size
 refine p mv<|p (xt aa aa)<|p (xt aa aa)<|e<|fi pT fun aT cz cf a3 bB=> ?_
 have cu:=a3.size
 refine p aB<|e<|fZ jU aa aa aa aa bB az fun O aY aF=> ?_
 have aH:Wk bl O:=a3.md.trans' aY fun q E h=>by omega
 have aW:=aI.trans aH
 have ci:=aY.size
 have b2:bO O.heap aT [.int .i64 bc,.int .i64 bd,.int .i64 bf]:=⟨_,aF⟩
 refine nl<|bq<|aC fun br=>ag fun bs=>p mv<|p (m4 vF aa aa)<|nl<|bs<|cb aa (fun aq=> ?_) fun aq=> ?_
 obtain ⟨rfl,e,C⟩:pp=none∧∃ e,fq a= .error e:=by rcases bb with h | ⟨_,_,_,_,rfl,_⟩ <;> first | exact h | cases aq
 refine aC fun ax=> ?_
 have ao:(fun w'=>Md (fun q=>q=A) O w') O.drew:=(Md.refl _ _).drew
 refine bM (fun w'=>Md (fun q=>q=A) O w') aa wide ao<|aE 0 aa (fun w' I=>c8 k5 aa (aa) fun j M=>(Md.B I b2 fun h=>by omega).bE j) ao<|aE 1 aa (fun _ _=>aB) ao<|he 2 aa aj<|fZ jU aa aa aa aa (Wk.aM aW ai) az fun b6 bH bw=> ?_
 have a4:(fun w'=>Md (fun q=>q=A) O w') b6:=ao.trans' bH fun q E h=>h
 refine ⟨a4,?_⟩
 exact hn aj<|ax<|rt<|tr<|eA aa ee (dP (cs:= [.int .i64 bc,.int .i64 bd,.int .i64 bf]) aa k5 aa fun j M=>(a7 bw).trans<|by match j,M with | 0,_=>rfl | 1,_=>rfl | 2,_=>rfl)<|ud.no (Le C)<|(an.md.trans aW).trans' a4 fun q E h=>by omega
 obtain ⟨F,fb,mc,V,rfl,C,al,aV,a2⟩:=bb.resolve_left fun h=>by rw [h.1] at aq; cases aq
 refine aO<|br<|ag fun ax=>p mv<|au (str t)<|e<|cl PX (R7 ah.heap.size fb mc F V t O (al.wk aH) aV a2 b4) aa fun v21 cy bK=> ?_
 have bY:=R8 bK
 obtain ⟨b5,bg,bi,bj,rfl,ba,ak⟩:=bY
 have cn:=ak.size
 refine p mv<|p (xt aa aa)<|p (xt aa aa)<|p aB<|e<|fZ jU aa aa aa aa (Wk.aM ak aF) (by simp) fun G aL bx=> ?_
 have aX:Wk bl G:=(aH.trans ak).trans' aL fun q E h=>by omega
 have Z:=aI.trans aX
 have cq:=aL.size
 have b3:bO G.heap aT [.int .i64 bg,.int .i64 bi,.int .i64 bj]:=⟨_,bx⟩
 refine nl<|ax<|aC fun bt=>ag fun bu=>p mv<|p (m4 LA aa aa)<|nl<|bu<|cb aa (fun ar=> ?_) fun ar=> ?_
 obtain ⟨rfl,e,hd⟩:b5=none∧∃ e,ff F t= .error e:=by rcases ba with h | ⟨_,_,_,_,_,_,rfl,_⟩ <;> first | exact h | cases ar
 refine aC fun aA=> ?_
 have ap:(fun w'=>Md (fun q=>q=A) G w') G.drew:=(Md.refl _ _).drew
 refine bM (fun w'=>Md (fun q=>q=A) G w') aa wide ap<|aE 0 aa (fun w' I=>c8 k5 aa (aa) fun j M=>(Md.B I b3 fun h=>by omega).bE j) ap<|aE 1 aa (fun _ _=>aB) ap<|he 2 aa aj<|fZ jU aa aa aa aa (Wk.aM Z ai) az fun b7 bI bA=> ?_
 have a5:(fun w'=>Md (fun q=>q=A) G w') b7:=ap.trans' bI fun q E h=>h
 refine ⟨a5,?_⟩
 exact hn aj<|aA<|rt<|tr<|eA aa ee (dP (cs:= [.int .i64 bg,.int .i64 bi,.int .i64 bj]) aa k5 aa fun j M=>(a7 bA).trans<|by match j,M with | 0,_=>rfl | 1,_=>rfl | 2,_=>rfl)<|ud.no (Lf C hd)<|(an.md.trans Z).trans' a5 fun q E h=>by omega
 obtain ⟨xs,B,wb,mb,va,vs,rfl,hd,ca,bR,ch,cg⟩:=ba.resolve_left fun h=>by rw [h.1] at ar; cases ar
 have aP:=bR.md (L:= [49]) aL (TF.eq (dw<|Wk.aM ak aF) az) az fun h=>by omega
 have aK:=al.wk aX
 have bU:=GL (zP C) (EE C) hd
 obtain ⟨seen,aU⟩:=aV
 have bV:=aU.len
 refine aO<|bt<|ag fun aA=>p mv<|p mv<|p (cU (ps:= [(0,aR fb),(1,aR wb)]) (L:= [aR fb,aR wb,.int .i64 0,.string ⟨⟨[]⟩⟩,.string ⟨⟨[]⟩⟩,.int .u16 0,.int .u16 0,.int .u16 0,.int .u16 0,.int .u16 0,.int .i64 0,.slice none 0 0,.slice none 0 0,.slice none 0 0,.slice none 0 0,.slice none 0 0]) X8 aa<|aa)<|e<|ot aa fun aD U cc am aG=> ?_
 have co:=am.size
 refine ay<|aA<|aC fun bv=> ?_
 have i:(fun w'=>Wk U w') U.drew:=(Md.refl _ _).drew
 refine eS (fun w'=>Wk U w') 14 aa wide i<|bz 0 aa (fun _=>mv) (fun _=>i)<|bz 1 aa (fun _=>mv) (fun _=>i)<|bz 2 aa (fun _=>mv) (fun _=>i)<|bz 3 aa (fun _=>nc aa) (fun _=>i)<|bz 4 aa (fun _=>fa BM aa) (fun _=>i)<|dM 5 aa (fun w' I=>ld gl aa<|Wk.aQ I<|(a7 aG).trans aa) i<|bz 7 aa (fun _=>mv) (fun _=>i)<|bz 8 aa (fun _=>nc aa) (fun _=>i)<|bz 9 aa (fun _=>fa Ti aa) (fun _=>i)<|dM 10 aa (fun w' I=>ld NV aa<|Wk.aQ I<|(a7 aG).trans aa) i<|gQ 6 aa aj<|cl As (zQ ah.heap.size fb mc F V U.drew ((aK.wk am.md).wk i) (by simp only [List.length_nil] at bV; omega) a2) aa fun v37 bm bL=> ?_
 obtain ⟨⟨V2,rfl,bT⟩,hE37⟩:=bL
 have cp:=hE37.size
 have cx:=i.size
 have a6:(fun w'=>Wk U w') bm:=i.trans hE37
 refine ⟨a6,?_⟩
 refine gQ 11 aa aj<|cl PY (RP B wb mb va vs xs bm (((aP.wk am.md).wk i).wk hE37) ab fun x C=>(bU.1 x C).2.1) aa fun bk av bN=> ?_
 obtain ⟨⟨ws,a9,bW,_⟩,hE42⟩:=bN
 have cr:=hE42.size
 have ae:=Og bT hE42
 have a8:=Wk.aM hE42<|Wk.aM hE37<|Wk.aM i aG
 have aN:(fun w'=>Wk U w') av:=a6.trans hE42
 refine ⟨aN,?_⟩
 refine bz 12 aa (fun _=>nc aa) (fun _=>aN)<|bz 13 aa (fun _=>fa uO aa) (fun _=>aN)<|dK 14 aa aj aj<|fZ AZ aa aa aa (z8 (eU ae.o9) (eU ae.eT) (eU ae.eu)<|eU ae.dD) a8 (by simp) fun cA a0 bD=> ?_
 have cw:=a0.size
 refine bz 15 aa (fun _=>nc aa) (fun h=>ei<|(show true =_ from by kernel_rfl).trans h)<|bz 16 aa (fun _=>fa BN aa) (fun h=>ei<|(show true =_ from by kernel_rfl).trans h)<|dK 17 aa aj aj<|cJ GC aa aa (v:=bk) (eU a9) bD (by show 15 < 16; omega) fun aS aZ bC=> ?_
 have cv:=aZ.size
 have Y:=a0.trans' aZ fun q E h=>h
 have J:TF av [66] (fun q=>q=aD):=TF.eq (dw a8) az
 have bG:Wk U av:=i.trans<|hE37.trans hE42
 have ac:Wk G av:=am.md.trans bG
 have aJ:Wk G aS:=ac.trans' Y fun q E h=>by omega
 obtain ⟨b8,bZ,_⟩:=(aK.wk ac).cm
 obtain ⟨b9,b0,_⟩:=(aP.wk ac).mp
 have bP:fT aS ah.heap.size aD ⟨fb,mc,wb,mb,V,V2,va,bk,vs,ws⟩ F xs:=⟨bC,(aK.wk ac).md Y J az (J.no (eE bZ) az),Aa (Oe ae ab) Y J az,R9 ((aP.wk ac).md Y J az<|J.no (eE b0) az) ab,ew (cj a9 Y J az) ab,(bW.md Y fun k hk cur z b1=>J.no (dw b1) az hk).mono ab⟩
 refine eR aj<|bv<|ag fun bp=>p mv<|p (cU (ps:= []) (L:= [.int .i64 0,.int .i64 0,.int .i64 0]) tq aa<|aa)<|p aB<|e<|fZ jU aa aa aa aa (Wk.aM (Z.trans aJ) ai) az fun cB a1 bF=>nl ?_
 refine bp<|rt<|eA aa ee (dP (cs:= [.int .i64 0,.int .i64 0,.int .i64 0]) aa k5 aa fun j M=>(a7 bF).trans<|by match j,M with | 0,_=>rfl | 1,_=>rfl | 2,_=>rfl) ?_
 refine ⟨⟨_,_,_,_,aa,?_⟩,(an.md.trans<|Z.trans aJ).trans' a1 fun q E h=>by omega⟩
 rw [Dp C hd]
 have bQ:TF aS [49] (fun q=>q=A):=TF.eq (dw<|Wk.aM (Z.trans aJ) ai) az
 exact ⟨ah.heap.size,aD,_,ab,aa,bP.uX a1 bQ az (fun h:mc=A=>by have :=al.lo.2; omega) (fun h:mb=A=>by omega),eW.of C hd ⟨seen,aU⟩ al.fO⟩
end Go.Hb
end
section
namespace Go.Hb
open Go.Hb.iu Go.Hb.lA Go.Hb.lQ Go.Hb.k3
def ky (xs:List bF) (n:Int):Tx:=if 0≤n∧n < xs.length then (xs.getD n.toNat ([],[])).1 else []
def rK (F:aT) (n:Int):dd:=if 0≤n∧n < F.rules.length then F.rules.getD n.toNat eY else eY
theorem sB {xs:List bF} {k:Nat} {x:bF} (h:xs[k]? =some x):ky xs k=x.1∧flagsOf xs k=x.2∧k < xs.length∧xs.getD k ([],[])=x:=by
 have hk:=(fJ.1 h).1
 have hd:xs.getD k ([],[])=x:=by rw [cV,h]; rfl
 refine ⟨?_,?_,hk,hd⟩
 · unfold ky; rw [if_pos ab,mM,hd]
 · unfold flagsOf; rw [if_pos ab,mM,hd]
theorem sD {xs:List bF} {n:Int} (h:¬(0≤n∧n < xs.length)):ky xs n= []∧flagsOf xs n= []:=by
 unfold ky flagsOf; rw [if_neg h,if_neg h]; exact ⟨rfl,rfl⟩
theorem vp {F:aT} {k:Nat} {r:dd} (h:F.rules[k]? =some r):rK F k=r∧cW F k=r.next∧k < F.rules.length∧F.rules.getD k eY=r:=by
 have hk:=(fJ.1 h).1
 have hd:F.rules.getD k eY=r:=by rw [cV,h]; rfl
 refine ⟨?_,?_,hk,hd⟩
 · unfold rK; rw [if_pos ab,mM,hd]
 · unfold cW; rw [if_pos ab,mM,hd]
theorem vq {F:aT} {n:Int} (h:¬(0≤n∧n < F.rules.length)):rK F n=eY∧cW F n= []:=by
 unfold rK cW; rw [if_neg h,if_neg h]; exact ⟨rfl,rfl⟩
theorem Ym {w:World} {B tb:Nat} {q:iX} {F:aT} {xs:List bF} (h:fT w B tb q F xs) {k:Nat} {x:bF} (E:xs[k]? =some x):∃ i ce a c,q.ve= .slice i xs.length ce∧Hb.aQ w.heap tb 15=some (.slice i xs.length ce)∧aJ w.heap i (j9<|xs.zip q.ws)∧(xs.zip q.ws)[k]? =some (x,.slice a x.2.length c)∧Tg w B 51 x.2.length (.slice a x.2.length c) (x.2.map bg):=by
 obtain ⟨i,ce,C⟩:=cC h.oe
 have G:=h.oe
 rw [C] at G
 have hk:=(fJ.1 E).1
 obtain ⟨v,I,A⟩:=ez.get h.ef (show k < (xs.map (·.2)).length by rw [fK]; exact hk)
 have J:(xs.map (·.2)).getD k []=x.2:=by rw [cV,im,E]; rfl
 rw [J] at A
 obtain ⟨a,c,rfl⟩:=A.slice
 exact ⟨i,ce,a,c,C,by rw [← C]; exact (a7 h.cells).trans aa,(a8 G).2,jx.2 ⟨E,I⟩,A⟩
theorem Yn {w:World} {B tb:Nat} {i:iX} {F:aT} {xs:List bF} (h:fT w B tb i F xs):∃ a ce,Hb.aQ w.heap tb 15=some (.slice a xs.length ce):=by
 obtain ⟨a,ce,q⟩:=cC h.oe
 exact ⟨a,ce,by rw [← q]; exact (a7 h.cells).trans aa⟩
theorem Yo {w:World} {B tb:Nat} {a:iX} {F:aT} {xs:List bF} (h:fT w B tb a F xs):∃ ar cr,Hb.aQ w.heap tb 14=some (.slice ar F.rules.length cr):=by
 obtain ⟨ar,cr,i⟩:=cC h.ax.dD
 exact ⟨ar,cr,by rw [← i]; exact (a7 h.cells).trans aa⟩
theorem Of {w:World} {B:Nat} {F:aT} {V:e6} (h:o0 w B F V) {k:Nat} {r:dd} (q:F.rules[k]? =some r):∃ ar cr a c,V.v12= .slice ar F.rules.length cr∧aJ w.heap ar (iT<|F.rules.zip V.rn)∧(F.rules.zip V.rn)[k]? =some (r,.slice a r.next.length c)∧Tg w B 51 r.next.length (.slice a r.next.length c) (r.next.map bg):=by
 obtain ⟨ar,cr,C⟩:=cC h.dD
 have A:=h.dD
 rw [C] at A
 have hk:=(fJ.1 q).1
 obtain ⟨v,E,i⟩:=ez.get h.nx (show k < (F.rules.map (·.next)).length by rw [fK]; exact hk)
 have G:(F.rules.map (·.next)).getD k []=r.next:=by rw [cV,im,q]; rfl
 rw [G] at i
 obtain ⟨a,c,rfl⟩:=i.slice
 exact ⟨ar,cr,a,c,C,(a8 A).2,jx.2 ⟨q,E⟩,i⟩
structure gi (w:World) (B tb fb:Nat) (V:ep) (ve:Value) (F:aT) (xs:List bF):Prop where
 cells:w.heap[tb]? =some (.cells [.pointer (some ⟨fb,0,none⟩),ve].toArray 32 (0,0))
 fl:eF w B 0 fb F V
 en:mP w B ve xs
theorem gi.wk {w w':World} {B tb fb:Nat} {V:ep} {ve:Value} {F:aT} {xs:List bF} (h:gi w B tb fb V ve F xs) (hm:Wk w w'):gi w' B tb fb V ve F xs:=⟨Wk.aM hm h.cells,h.fl.wk hm,h.en.wk hm⟩
theorem gi.sQ {w:World} {B tb fb:Nat} {V:ep} {ve:Value} {F:aT} {xs:List bF} (h:gi w B tb fb V ve F xs) {k:Nat} {x:bF} (C:xs[k]? =some x):∃ i ce ws a c,Hb.aQ w.heap tb 1=some (.slice i xs.length ce)∧aJ w.heap i (j9<|xs.zip ws)∧(xs.zip ws)[k]? =some (x,.slice a x.2.length c)∧Tg w 0 3 x.2.length (.slice a x.2.length c) (x.2.map bP):=by
 obtain ⟨ws,A,G⟩:=h.en
 obtain ⟨i,ce,E⟩:=cC A
 rw [E] at A
 have hk:=(fJ.1 C).1
 obtain ⟨v,I,q⟩:=ir.get G (show k < (xs.map (·.2)).length by rw [fK]; exact hk)
 have J:(xs.map (·.2)).getD k []=x.2:=by rw [cV,im,C]; rfl
 rw [J] at q
 obtain ⟨a,c,rfl⟩:=q.slice
 exact ⟨i,ce,ws,a,c,by rw [← E]; exact (a7 h.cells).trans aa,(a8 A).2,jx.2 ⟨C,I⟩,q⟩
theorem gi.LL {w:World} {B tb fb:Nat} {V:ep} {ve:Value} {F:aT} {xs:List bF} (h:gi w B tb fb V ve F xs):∃ a ce,Hb.aQ w.heap tb 1=some (.slice a xs.length ce):=by
 obtain ⟨ws,i,A⟩:=h.en
 obtain ⟨a,ce,q⟩:=cC i
 exact ⟨a,ce,by rw [← q]; exact (a7 h.cells).trans aa⟩
theorem gi.Dx {w:World} {B tb fb:Nat} {V:ep} {ve:Value} {F:aT} {xs:List bF} (h:gi w B tb fb V ve F xs):∃ ar cr,Hb.aQ w.heap fb 12=some (.slice ar F.rules.length cr):=by
 obtain ⟨ar,cr,a⟩:=cC h.fl.dD
 exact ⟨ar,cr,by rw [← a]; exact (a7 h.fl.cells).trans aa⟩
theorem gi.iL {w:World} {B tb fb:Nat} {V:ep} {ve:Value} {F:aT} {xs:List bF} (h:gi w B tb fb V ve F xs) {k:Nat} {r:dd} (q:F.rules[k]? =some r):∃ ar cr a c,Hb.aQ w.heap fb 12=some (.slice ar F.rules.length cr)∧aJ w.heap ar (mr<|F.rules.zip V.rn)∧(F.rules.zip V.rn)[k]? =some (r,.slice a r.next.length c)∧Tg w 0 3 r.next.length (.slice a r.next.length c) (r.next.map bP):=by
 obtain ⟨ar,cr,C⟩:=cC h.fl.dD
 have A:=h.fl.dD
 rw [C] at A
 have hk:=(fJ.1 q).1
 obtain ⟨v,E,i⟩:=ir.get h.fl.nx (show k < (F.rules.map (·.next)).length by rw [fK]; exact hk)
 have G:(F.rules.map (·.next)).getD k []=r.next:=by rw [cV,im,q]; rfl
 rw [G] at i
 obtain ⟨a,c,rfl⟩:=i.slice
 exact ⟨ar,cr,a,c,by rw [← C]; exact (a7 h.fl.cells).trans aa,(a8 A).2,jx.2 ⟨q,E⟩,i⟩
theorem TB {w:World} {B B' B0 fb:Nat} {F:aT} {V:ep} (h:eF w B B0 fb F V) (a:B'≤B):eF w B' B0 fb F V:=⟨h.cells,ew h.o9 a,ew h.eT a,h.al,ew h.eu a,ew h.dD a,h.nx,gd a h.lo,h.fO⟩
theorem TQ {w:World} {B B':Nat} {v:Value} {xs:List bF} (h:mP w B v xs) (a:B'≤B):mP w B' v xs:=by
 obtain ⟨vs,h1,h2⟩:=h
 exact ⟨vs,ew h1 a,h2⟩
theorem TR {s:Tx} {w w':World} {v:Value} (h:lS s w v w'):∃ p l e,v= .tuple #[.pointer p,.int .i64 l,.int .i64 e]∧((e≠0∧∃ er,fq s= .error er)∨(e=0∧∃ F B fb V,p=some ⟨fb,0,none⟩∧fq s= .ok F∧w.heap.size≤B∧eF w' B 0 fb F V∧(∃ seen,nr F [] seen)∧Nx F))∧Wk w w':=by
 obtain ⟨h,a⟩:=h
 cases hx:fq s with
 | error e=>rw [hx] at h; exact ⟨_,_,_,h,.inl ⟨by have :=NT hx; omega,e,rfl⟩,a⟩
 | ok F=>rw [hx] at h; obtain ⟨B,fb,V,i,q,h1,h2,h3⟩:=h; exact ⟨_,_,_,q,.inr ⟨rfl,F,B,fb,V,rfl,rfl,i,h1,h2,h3⟩,a⟩
theorem TT {F:aT} {s:Tx} {w w':World} {v:Value} (h:lB F s w v w'):∃ a l e,v= .tuple #[a,.int .i64 l,.int .i64 e]∧a.oneCell'=true∧((e≠0∧∃ er,ff F s= .error er)∨(e=0∧∃ xs,ff F s= .ok xs∧mP w' w.heap.size a xs))∧Wk w w':=by
 obtain ⟨h,i⟩:=h
 cases hx:ff F s with
 | error e=>rw [hx] at h; exact ⟨_,_,_,h,rfl,.inl ⟨by have :=RY hx; omega,e,rfl⟩,i⟩
 | ok xs=>rw [hx] at h; obtain ⟨a,A,h1⟩:=h; exact ⟨_,_,_,A,(by obtain ⟨ws,q,_⟩:=h1; exact eU q),.inr ⟨rfl,xs,rfl,h1⟩,i⟩
def uc (a t:Tx) (w:World) (v:Value) (w':World):Prop :=(∃ p i q A,v= .tuple #[.pointer p,.agg [.int .i64 i,.int .i64 q,.int .i64 A].toArray]∧match lr a t with
 | none=>p=none
 | some T=> ∃ B tb fb V ve,p=some ⟨tb,0,none⟩∧gi w' B tb fb V ve T.1 T.2)∧Wk w w'
theorem uc.no {a t:Tx} {w w':World} {i q A:Int} (h:lr a t=none) (hm:Wk w w'):uc a t w (.tuple #[.pointer none,.agg [.int .i64 i,.int .i64 q,.int .i64 A].toArray]) w':=⟨⟨none,i,q,A,rfl,by rw [h]⟩,hm⟩
theorem Xg (a t:Tx) (w:World) (aY:a.length≤1048576) (a3:t.length≤1048576):
 bo aw 38 (bh [str a,str t]) w (uc a t w):=by
 refine enter func38 aa ntmps38 aa<|ag fun aA=>p aB<|e<|fi L4 fun am al a9 G an=> ?_
 have bf:=G.size
 have ac:bO al.heap am [.int .i64 0,.int .i64 0,.int .i64 0]:=⟨_,an⟩
 refine nl<|aA<|ag fun aD=>au (str a)<|e<|cl P9 (WA a al aY) aa fun v12 ay aW=> ?_
 have a0:=TR aW
 obtain ⟨pp,aj,Y,rfl,av,i⟩:=a0
 have bb:=i.size
 refine p mv<|p (xt aa aa)<|p (xt aa aa)<|p (xt aa aa)<|p aB<|p aB<|p aB<|nl<|aD<|aC fun aE=>ag fun aF=>p mv<|p (dj aa aa)<|nl<|aF ?_
 refine cd aa (fun ah=> ?_) fun ah=> ?_
 obtain ⟨er,I⟩:=(av.resolve_right fun h=>ah h.1).2
 exact ag fun J=>p mv<|p mv<|p (cU (ps:= [(0,.int .i64 1),(1,.int .i64 aj),(2,.int .i64 Y)]) (L:= [.int .i64 1,.int .i64 aj,.int .i64 Y]) Di aa<|aa)<|p aB<|e<|da xq aa aa aa aa (Wk.B i ac) (by simp) fun bg aT aK=>nl<|J<|rt<|tr<|eA aa ee (dP (cs:= [.int .i64 1,.int .i64 aj,.int .i64 Y]) aa zR aa fun j ap=>aK.bE j)<|uc.no (Le I)<|(G.md.trans i).trans' aT fun q ax h=>by omega
 obtain ⟨ba,F,B,fb,V,rfl,I,aQ,ao,aP,aV⟩:=av.resolve_left fun h=>ah h.1
 refine aO<|aE<|ag fun J=>p mv<|au (str t)<|e<|cl Qa (Ts B fb F V t ay ao aP aV a3) aa fun v24 a4 aX=> ?_
 have a1:=TT aX
 obtain ⟨a2,ak,Z,rfl,a7,ar,A⟩:=a1
 have bc:=A.size
 refine p mv<|p (xt aa aa)<|p (xt aa aa)<|p (xt aa aa)<|p aB<|p aB<|p aB<|nl<|J<|aC fun aG=>ag fun aH=>p mv<|p (dj aa aa)<|nl<|aH ?_
 refine cd aa (fun ai=> ?_) fun ai=> ?_
 obtain ⟨er,hd⟩:=(ar.resolve_right fun h=>ai h.1).2
 exact ag fun M=>p mv<|p mv<|p (cU (ps:= [(0,.int .i64 2),(1,.int .i64 ak),(2,.int .i64 Z)]) (L:= [.int .i64 2,.int .i64 ak,.int .i64 Z]) Di aa<|aa)<|p aB<|e<|da xq aa aa aa aa (Wk.B (i.trans A) ac) (by simp) fun bi aU aL=>nl<|M<|rt<|tr<|eA aa ee (dP (cs:= [.int .i64 2,.int .i64 ak,.int .i64 Z]) aa zR aa fun j ap=>aL.bE j)<|uc.no (Lf I hd)<|(G.md.trans<|i.trans A).trans' aU fun q ax h=>by omega
 obtain ⟨Zz,xs,hd,a6,aq,aZ⟩:=ar.resolve_left fun h=>ai h.1
 obtain ⟨O,U,rfl⟩:=cC aq
 have aS:mP a4 ay.heap.size (.slice O xs.length U) xs:=⟨a6,aq,aZ⟩
 refine aO<|aG<|ag fun M=>p mv<|p mv<|p (cU (ps:= [(0,aR fb),(1,.slice O xs.length U)]) (L:= [aR fb,.slice O xs.length U]) X5 aa<|aa)<|e<|ot aa fun aI a5 a8 C aJ=> ?_
 have bd:=C.size
 refine p (cU (ps:= []) (L:= [.int .i64 0,.int .i64 0,.int .i64 0]) Di aa<|aa)<|p aB<|e<|da xq aa aa aa aa (Wk.B ((i.trans A).trans C.md) ac) (by simp) fun bj E aN=>nl<|M<|rt<|eA aa ee (dP (cs:= [.int .i64 0,.int .i64 0,.int .i64 0]) aa zR aa fun j ap=>aN.bE j) ?_
 refine ⟨⟨_,_,_,_,aa,?_⟩,(G.md.trans<|(i.trans A).trans C.md).trans' E fun q ax h=>by omega⟩
 rw [Dp I hd]
 have ae:TF a5 [108] (fun q=>q=am):=TF.eq (dw<|Wk.aM ((i.trans A).trans C.md) an) az
 refine ⟨al.heap.size,aI,fb,V,_,aa,E.gA ae aJ az,TB ((ao.wk<|A.trans C.md).md E ae az) aQ,TQ ((aS.wk C.md).md E ae az) ab⟩
end Go.Hb
end
namespace Go.Hb
def WJ:Go.Shelf.Ren:=⟨fun n=>if n=125 then 111 else if n=128 then 168 else if n=129 then 169 else if n=189 then 71 else if n=215 then 231 else if n=216 then 165 else if n=257 then 110 else if n=294 then 159 else if n=295 then 160 else if n=296 then 161 else if n=297 then 162 else if n=298 then 163 else if n=299 then 164 else if n=300 then 166 else if n=301 then 167 else if n=328 then 226 else if n=329 then 227 else if n=330 then 228 else if n=331 then 229 else if n=332 then 230 else if n=343 then 257 else 0,fun n=>if n=0 then 0 else if n=3 then 3 else if n=4 then 4 else if n=5 then 5 else if n=9 then 9 else if n=28 then 75 else if n=46 then 226 else if n=51 then 290 else if n=53 then 158 else if n=131 then 287 else if n=182 then 282 else if n=183 then 283 else if n=218 then 340 else if n=222 then 344 else if n=228 then 365 else if n=229 then 245 else 0,fun n=>n⟩
theorem IW:Go.Proofs.Lays.n189 aw WJ where
 mixed:=aj
 f125:=aj
 f128:=aj
 f129:=aj
 f189:=aj
 f215:=aj
 f216:=aj
 f257:=aj
 f294:=aj
 f295:=aj
 f296:=aj
 f297:=aj
 f298:=aj
 f299:=aj
 f300:=aj
 f301:=aj
 f328:=aj
 f329:=aj
 f330:=aj
 f331:=aj
 f332:=aj
 f343:=aj
 t0:=aj
 a0:=fun _=>aj
 z0:=fun _=>aj
 v0:=fun _=>aj
 t3:=aj
 a3:=fun _=>aj
 z3:=fun _=>aj
 v3:=fun _=>aj
 t4:=aj
 a4:=fun _=>aj
 z4:=fun _=>aj
 v4:=fun _=>aj
 t5:=aj
 a5:=fun _=>aj
 z5:=fun _=>aj
 v5:=fun _=>aj
 t9:=aj
 a9:=fun _=>aj
 z9:=fun _=>aj
 v9:=fun _=>aj
 t28:=aj
 a28:=fun _=>aj
 z28:=fun _=>aj
 v28:=fun _=>aj
 t46:=aj
 a46:=fun _=>aj
 z46:=fun _=>aj
 v46:=fun _=>aj
 t51:=aj
 a51:=fun _=>aj
 z51:=fun _=>aj
 v51:=fun _=>aj
 t53:=aj
 a53:=fun _=>aj
 z53:=fun _=>aj
 v53:=fun _=>aj
 t131:=aj
 a131:=fun _=>aj
 z131:=fun _=>aj
 v131:=fun _=>aj
 t182:=aj
 a182:=fun _=>aj
 z182:=fun _=>aj
 v182:=fun _=>aj
 t183:=aj
 a183:=fun _=>aj
 z183:=fun _=>aj
 v183:=fun _=>aj
 t218:=aj
 a218:=fun _=>aj
 z218:=fun _=>aj
 v218:=fun _=>aj
 t222:=aj
 a222:=fun _=>aj
 z222:=fun _=>aj
 v222:=fun _=>aj
 t228:=aj
 a228:=fun _=>aj
 z228:=fun _=>aj
 v228:=fun _=>aj
 t229:=aj
 a229:=fun _=>aj
 z229:=fun _=>aj
 v229:=fun _=>aj
theorem XI (B n:Nat) (v:Value) (a:List Int) (w:World) (A:bu w B 3 1 v n (a.map<|jk .i64)) (J:a.length≤1048576):
 bo aw 71 [v].toArray w (fun I w'=>I= .tuple #[]∧bu w' B 3 1 v n ((a.mergeSort fun x y=>decide (x≤y)).map<|jk .i64)∧Md (fun k=>v.ownBlock=some k) w w'):=by
 have hn:a.length=n:=by have :=A.1; simpa using this
 have hlen:(a.mergeSort fun x y=>decide (x≤y)).length=a.length:=List.length_mergeSort _
 rcases A.2 with ⟨rfl,M⟩ | ⟨g,cap,cur,rfl,C,q,h1,h2,h3,h4⟩
 · have G:a= []:=fS ab
   subst G
   refine lN (Any.slices_Sort_int_none IW none 0 w) ?_
   rintro e w' ⟨rfl,rfl⟩
   exact ⟨_,aa,aa,by rw [List.mergeSort_nil]; exact A,Md.refl _ _⟩
 · subst hn
   rw [Nat.mul_one] at h4
   refine lN (calls_of_every_depth fun D=>AnyS.slices_Sort_int_alone IW D g 0 cap a w (holds_of_blockI q h4) (cQ.1 q).1 ab) ?_
   rintro e w' ⟨rfl,m,os,rfl⟩
   have i:=grownBy_sortedI (w:=w) (g:=g) (n:=m) (os:=os) (a.mergeSort fun x y=>decide (x≤y)).toArray
   refine ⟨_,aa,aa,ownsRow_sortedI hlen C q h1 h2 h3,⟨i.os,i.output,i.size,fun k hk E=>i.block k hk fun he=>E ?_⟩⟩
   simp only [Value.ownBlock]; exact he.symm
end Go.Hb
section
namespace Go.Hb.nv
open Go.Hb.iu Go.Hb.lA Go.Hb.lQ Go.Hb.k3
theorem I8 (l:List Nat):(l.map fun i:Nat=>(i:Int)).map (jk .i64)=l.map bP:=by rw [List.map_map]; rfl
theorem nT {F:aT} {xs:List bF} (h:eW F xs) (n:Int):(flagsOf xs n).length≤64∧kZ (flagsOf xs n):=by
 by_cases hn:0≤n∧n < xs.length
 · obtain ⟨k,rfl⟩:∃ k:Nat,n=(k:Int):=⟨n.toNat,ab⟩
   have a:xs[k]? =some xs[k]:=cD ab
   rw [(sB a).2.1]
   exact ⟨(h.uA _<|iP a).2.1,h.Sg _<|iP a⟩
 · rw [(sD hn).2]; exact ⟨jD _,uQ⟩
theorem tv {F:aT} {xs:List bF} (h:eW F xs) (n:Int):(cW F n).length≤64∧kZ (cW F n):=by
 by_cases hn:0≤n∧n < F.rules.length
 · obtain ⟨k,rfl⟩:∃ k:Nat,n=(k:Int):=⟨n.toNat,ab⟩
   have a:F.rules[k]? =some F.rules[k]:=cD ab
   rw [(vp a).2.1]
   exact ⟨(h.iL a).1,(h.iL a).2.1⟩
 · rw [(vq hn).2]; exact ⟨jD _,uQ⟩
theorem QZ {F:aT} {k f:Nat} (h:(dY F.bw f).isSome=false):gE F k f= []:=by
 unfold gE
 cases h2:dY F.bw f with
 | none=>rfl
 | some c=>rw [h2] at h; cases h
theorem Q2 {F:aT} {k f:Nat} {c:db} (h:(dY F.bw f).isSome=true) (a:(dY F.bw f).getD sJ=c):dY F.bw f=some c:=by
 cases h2:dY F.bw f with
 | none=>rw [h2] at h; cases h
 | some d=>rw [h2] at a; exact congrArg some a
theorem Q0 {F:aT} {k f:Nat} {c:db} (h:dY F.bw f=some c) (hk:c.kind≠k):gE F k f= []:=by unfold gE; rw [h]; exact if_neg hk
theorem Q3 {F:aT} {k f:Nat} {c:db} (h:dY F.bw f=some c) (hk:c.kind=k):gE F k f=(j5 c.count).map (c.first+ ·):=by unfold gE; rw [h]; exact if_pos hk
theorem QX {F:aT} (a:o4 F) {f:Nat} {c:db} (h:dY F.bw f=some c):c.first+c.count≤F.rules.length:=(a.uu c (Hh h).1).1
theorem SZ {fs:List Nat} {f:Nat→List Nat} {i:Nat} (h:i < fs.length):(fs.take<|i+1).flatMap f=(fs.take i).flatMap f++f (fs.getD i 0):=by
 rw [fH fs i 0 h,List.flatMap_append,List.flatMap_singleton]
theorem Jp {F:aT} (a:o4 F) {fs:List Nat} (h:fs.Pairwise (· < ·)) (k:Nat):(fs.flatMap<|gE F k).length=(aV F fs k).length:=by
 obtain ⟨h1,h2⟩:=Jo a (k:=k) h
 exact ((List.perm_ext_iff_of_nodup h1<|(Jq F fs k).imp fun h=>by omega).2 h2).length_eq
theorem VF {F:aT} (a:o4 F) {fs:List Nat} (h:fs.Pairwise (· < ·)) (k:Nat):(fs.flatMap<|gE F k).length≤F.rules.length:=by
 rw [Jp a h]; exact rE F fs k
def my (F:aT) (fs:List Nat) (kind n:Nat):List Nat:=(j5 n).filter fun i=>decide ((F.rules.getD i eY).kind=kind∧(F.rules.getD i eY).flag∈fs)
theorem VE (F:aT) (fs:List Nat) (kd n:Nat):my F fs kd (n+1)=my F fs kd n++(if (F.rules.getD n eY).kind=kd∧(F.rules.getD n eY).flag∈fs then [n] else []):=by
 unfold my
 rw [Ni,List.filter_append]
 congr 1
 rw [List.filter_cons,List.filter_nil]
 by_cases h:(F.rules.getD n eY).kind=kd∧(F.rules.getD n eY).flag∈fs
 · rw [decide_eq_true h,if_pos h]; rfl
 · rw [decide_eq_false h,if_neg h]; rfl
theorem VD (F:aT) (fs:List Nat) (kd n:Nat):(my F fs kd n).length≤n:=by
 unfold my; have :=List.length_filter_le (fun i=>decide ((F.rules.getD i eY).kind=kd∧(F.rules.getD i eY).flag∈fs)) (j5 n); simpa using this
def na (r:dd) (fs:List Nat) (kd i k:Nat):List Nat:=if r.kind=kd∧r.flag∈fs.take k then [i] else []
theorem Jw (r:dd) (fs:List Nat) (kd i:Nat):na r fs kd i 0= []:=if_neg fun h=>by simp at h
theorem Jv {r:dd} {fs:List Nat} {kd i k:Nat} (hk:k < fs.length) (h:fs.getD k 0≠r.flag):na r fs kd i (k+1)=na r fs kd i k:=by
 unfold na
 rw [fH fs k 0 hk]
 have :r.flag∈fs.take k++ [fs.getD k 0]↔r.flag∈fs.take k:=by
  rw [jz,j4]; exact ⟨fun h2=>h2.elim id (fun e=>absurd e.symm h),.inl⟩
 simp only [this]
theorem VM {r:dd} {fs:List Nat} {kd i k:Nat} (C:fs.Pairwise (· < ·)) (hk:k < fs.length) (h:fs.getD k 0=r.flag) (E:r.kind=kd):na r fs kd i (k+1)=na r fs kd i k++ [i]:=by
 unfold na
 rw [fH fs k 0 hk]
 have hn:r.flag∉fs.take k:=fun h2=>by
  obtain ⟨j,a⟩:=List.getElem?_of_mem h2
  have q:j < k:=by have :=(fJ.1 a).1; rw [List.length_take] at this; omega
  rw [List.getElem?_take_of_lt q] at a
  have A:=fJ.1 a
  have :=List.pairwise_iff_getElem.1 C j k A.1 hk q
  rw [cV,cD hk] at h
  simp only [Option.getD_some] at h
  have h3:=A.2
  omega
 rw [if_pos ⟨E,by rw [jz]; exact .inr<|j4.2 h.symm⟩,if_neg (fun h2=>hn h2.2)]; rfl
theorem Ju {F:aT} {r:dd} {fs:List Nat} {kd i k:Nat} (a:F.rules.getD i eY=r) (h:k=fs.length∨r.kind≠kd):my F fs kd i++na r fs kd i k=my F fs kd (i+1):=by
 rw [VE,a]
 congr 1
 unfold na
 rcases h with rfl | h
 · rw [List.take_length]
 · rw [if_neg (fun h2=>h h2.1),if_neg (fun h2=>h h2.1)]
def l3 (F:aT) (xs:List bF) (e k:Int):Bool:=decide (0≤k∧k < 5) && rA F xs e k.toNat
theorem Ll {w:World} {B tb:Nat} {a:iX} {F:aT} {xs:List bF} (h:fT w B tb a F xs) {k:Nat} (hk:k < 5):Hb.aQ w.heap tb (5 +k*1)=some (bg<|F.sp.getD k 0):=by
 refine (a7 h.cells).trans ?_
 match k,hk with
 | 0,_=>rfl
 | 1,_=>rfl
 | 2,_=>rfl
 | 3,_=>rfl
 | 4,_=>rfl
theorem Ii {w:World} {B tb fb:Nat} {V:ep} {ve:Value} {F:aT} {xs:List bF} (h:gi w B tb fb V ve F xs) {k:Nat} (hk:k < 5):Hb.aQ w.heap fb (3 +k*1)=some (bP<|F.sp.getD k 0):=by
 refine (a7 h.fl.cells).trans ?_
 match k,hk with
 | 0,_=>rfl
 | 1,_=>rfl
 | 2,_=>rfl
 | 3,_=>rfl
 | 4,_=>rfl
theorem Ip {x:Nat} {l:List Nat} (h:0∉l):decide (x∈l)=decide (x≠0∧x∈l):=decide_eq_decide.2 ⟨fun h2=>⟨fun h3=>h (h3 ▸ h2),h2⟩,And.right⟩
theorem xD (B tb:Nat) (aL:iX) (F:aT) (xs:List bF) (n:Int) (w:World) (au:fT w B tb aL F xs) (aj:eW F xs):
 bo aw 24 (bh [aR tb,.int .i64 n]) w (fun v w'=>(∃ a,v= .tuple #[.agg [str (ky xs n),a].toArray,.bool (decide (0≤n∧n < xs.length))]∧bu w' w.heap.size 51 1 a (flagsOf xs n).length ((flagsOf xs n).map bg))∧Wk w w'):=by
 obtain ⟨a5,ce,a1⟩:=Yn au
 have bk:=aj.xl
 refine enter func24 aa ntmps24 aa<|ag fun aE=>e<|al qL fun a7 aA bc A I=> ?_
 have bn:=A.size
 have aY:=au.wk A.md
 have a3:=Wk.aQ A.md a1
 refine ay<|aE<|aC fun aF=>ag fun ac=>p mv<|p (m4 vC aa aa)<|p mv<|gb (t:=9) aa (fun h=>absurd (h.symm.trans<|aa) ei) fun bf=>aI aa mv<|aI aa (lt aa aa)<|p (bq aa)<|p mv<|gs (t:=13) aa (fun a0=> ?_) fun a0=> ?_
 refine aH aa<|aH aa<|aH aa<|aH aa<|aH aa<|aH aa<|aH aa<|p (bB aa)<|nl<|ac<|ct aa<|ag fun C=>p (cU (ps:= []) (L:= [.string ⟨⟨[]⟩⟩,.slice none 0 0]) nR aa<|aa)<|e<|da ku aa aa aa aa (I) (by simp) fun a4 M G=>p aB<|nl<|C<|rt<|tr<|eA aa (dP (cs:= [str [],.slice none 0 0]) aa lD aa fun j U=>G.bE j) ee ?_
 have E:=sD (xs:=xs) (n:=n) ab
 exact ⟨⟨.slice none 0 0,by rw [E.1,decide_eq_false (show ¬(0≤n∧n < (xs.length:Int)) by omega)]; rfl,by rw [E.2]; exact dx _ _ _ _⟩,A.md.trans' M fun q i h=>by omega⟩
 refine aI aa mv<|aI aa mv<|aI aa (nc aa)<|aI aa (fa BN aa)<|aI aa (ld ug aa<|a3)<|aI aa (bK y6 aa aa)<|aI aa (ge aa aa)<|p (bq aa)<|nl<|ac<|cd aa (fun aZ=> ?_) fun aZ=> ?_
 refine ag fun C=>p (cU (ps:= []) (L:= [.string ⟨⟨[]⟩⟩,.slice none 0 0]) nR aa<|aa)<|e<|da ku aa aa aa aa (I) (by simp) fun a4 M G=>ay<|C<|rt<|tr<|eA aa (dP (cs:= [str [],.slice none 0 0]) aa lD aa fun j U=>G.bE j) ee ?_
 have E:=sD (xs:=xs) (n:=n) ab
 exact ⟨⟨.slice none 0 0,by rw [E.1,decide_eq_false (show ¬(0≤n∧n < (xs.length:Int)) by omega)]; rfl,by rw [E.2]; exact dx _ _ _ _⟩,A.md.trans' M fun q i h=>by omega⟩
 obtain ⟨k,rfl⟩:∃ k:Nat,n=(k:Int):=⟨n.toNat,ab⟩
 obtain ⟨x,Y⟩:∃ x,xs[k]? =some x:=⟨_,cD ab⟩
 obtain ⟨a6,a8,a,c,bi,a2,am,az,av⟩:=Ym aY Y
 have bj:=(aj.uA x<|iP Y).2.1
 obtain ⟨aM,aN,a9,bb⟩:=sB Y
 refine aO<|aF<|ag fun C=>p mv<|p (nc aa)<|p (fa BN aa)<|p (ld ug aa<|a2)<|p mv<|p (ba Be aa aa ab<|aJ.ok (am)<|uy az)<|p (c8 lD aa (aa)<|fw (f:=pw) (m:=2) (fun _=>rfl) am az)<|e<|al qL fun ah bv bd ar aW=> ?_
 have br:=ar.size
 refine e<|da ku aa aa aa aa (aW) (by simp) fun Z ap aP=> ?_
 have an:Wk aA Z:=ar.md.trans' ap fun q i h=>by omega
 have bl:=ap.size
 have ak:bO Z.heap ah [str x.1,.slice a x.2.length c]:=aP
 refine nl<|C<|ag fun aG=>p (fa rq aa)<|p (ld mT aa<|ak.bE 1)<|e<|cl q9 (sI a x.2.length c (x.2.map bg) Z (av.wk an).cM.2 (by simp) (fun h=>Tg.tg av (by simp) h) (sy _) ab) aa fun bs bt aX=> ?_
 obtain ⟨V,J⟩:=aX
 obtain ⟨ae,ai,rfl⟩:=cC V
 have bm:=J.size
 refine p (fa rq aa)<|e<|st sM aa aa (aa) (Wk.B J ak) (by simp) fun aD O aS=> ?_
 have ao:Wk aA aD:=(an.trans J).trans' O fun q i h=>by omega
 have bp:=O.size
 have ax:=cX V O fun q i h=>by have :=(dG V i).1; omega
 have aU:bO aD.heap ah [str x.1,.slice ae x.2.length ai]:=aS
 exact nl<|aG<|ag fun aK=>p (c8 lD aa (aa) fun j U=>aU.bE j)<|e<|da ku aa aa aa aa (Wk.B ao I) (by simp) fun bw aq aV=>p aB<|nl<|aK<|rt<|eA aa (dP (cs:= [str x.1,.slice ae x.2.length ai]) aa lD aa fun j U=>aV.bE j) ee<|⟨⟨_,by rw [aM,decide_eq_true (show 0≤(k:Int)∧(k:Int) < (xs.length:Int) by omega)]; rfl,by rw [aN]; exact cX (ew ax ab) aq fun q i h=>by have :=(dG ax i).1; omega⟩,(A.md.trans ao).trans' aq fun q i h=>by omega⟩
theorem yJ (B tb:Nat) (aN:iX) (F:aT) (xs:List bF) (n:Int) (w:World) (av:fT w B tb aN F xs) (ak:eW F xs):
 bo aw 25 (bh [aR tb,.int .i64 n]) w (fun v w'=>(∃ a,v= .tuple #[.agg (fz (rK F n,a)).toArray,.bool (decide (0≤n∧n < F.rules.length))]∧bu w' w.heap.size 51 1 a (cW F n).length ((cW F n).map bg))∧Wk w w'):=by
 obtain ⟨bd,ce,a6⟩:=Yo av
 have bn:=ak.len
 refine enter func25 aa ntmps25 aa<|ag fun aG=>e<|al rT fun aS G bj A J=> ?_
 have bs:=A.size
 have az:=av.wk A.md
 have bb:=Wk.aQ A.md a6
 have aZ:bO G.heap aS (fz (eY,.slice none 0 0)):=J
 refine ay<|aG<|aC fun aK=>ag fun ae=>p mv<|p (m4 vC aa aa)<|p mv<|gb (t:=9) aa (fun h=>absurd (h.symm.trans<|aa) ei) fun bl=>aI aa mv<|aI aa (lt aa aa)<|p (bq aa)<|p mv<|gs (t:=13) aa (fun a5=> ?_) fun a5=> ?_
 refine aH aa<|aH aa<|aH aa<|aH aa<|aH aa<|aH aa<|aH aa<|aH aa<|p (bB aa)<|nl<|ae<|ct aa<|ag fun C=>p (cU (ps:= []) (L:= [.int .i64 0,.int .u16 0,.bool false,.string ⟨⟨[]⟩⟩,.string ⟨⟨[]⟩⟩,.string ⟨⟨[]⟩⟩,.slice none 0 0]) Dl aa<|aa)<|e<|da pk aa aa aa aa (J) (by simp) fun bc O I=>ay<|C<|rt<|tr<|eA aa (dP (cs:=fz (eY,.slice none 0 0)) aa mU aa fun j V=>I.bE j) ee ?_
 have E:=vq (F:=F) (n:=n) ab
 exact ⟨⟨.slice none 0 0,by rw [E.1,decide_eq_false (show ¬(0≤n∧n < (F.rules.length:Int)) by omega)]; rfl,by rw [E.2]; exact dx _ _ _ _⟩,A.md.trans' O fun q i h=>by omega⟩
 refine aI aa mv<|aI aa mv<|aI aa (nc aa)<|aI aa (fa uO aa)<|aI aa (fa nH aa)<|aI aa (ld lT aa<|bb)<|aI aa (bK vE aa aa)<|aI aa (ge aa aa)<|p (bq aa)<|nl<|ae<|cd aa (fun a4=> ?_) fun a4=> ?_
 refine ag fun C=>p (cU (ps:= []) (L:= [.int .i64 0,.int .u16 0,.bool false,.string ⟨⟨[]⟩⟩,.string ⟨⟨[]⟩⟩,.string ⟨⟨[]⟩⟩,.slice none 0 0]) Dl aa<|aa)<|e<|da pk aa aa aa aa (J) (by simp) fun bc O I=>ay<|C<|rt<|tr<|eA aa (dP (cs:=fz (eY,.slice none 0 0)) aa mU aa fun j V=>I.bE j) ee ?_
 have E:=vq (F:=F) (n:=n) ab
 exact ⟨⟨.slice none 0 0,by rw [E.1,decide_eq_false (show ¬(0≤n∧n < (F.rules.length:Int)) by omega)]; rfl,by rw [E.2]; exact dx _ _ _ _⟩,A.md.trans' O fun q i h=>by omega⟩
 obtain ⟨k,rfl⟩:∃ k:Nat,n=(k:Int):=⟨n.toNat,ab⟩
 obtain ⟨r,Z⟩:∃ r,F.rules[k]? =some r:=⟨_,cD ab⟩
 obtain ⟨aP,aU,a,c,a8,an,aE,aA⟩:=Of az.ax Z
 have a9:Hb.aQ G.heap tb 14=some (.slice aP F.rules.length aU):=by rw [← a8]; exact (a7 az.cells).trans rfl
 have bm:=(ak.iL Z).1
 obtain ⟨aV,aW,bf,bi⟩:=vp Z
 refine aO<|aK<|ag fun C=>p mv<|p (nc aa)<|p (fa uO aa)<|p (fa nH aa)<|p (ld lT aa<|a9)<|p mv<|p (ba m5 aa aa ab<|aJ.ok (an)<|nQ aE)<|p (c8 mU aa (aa)<|fw (f:=fz) (m:=7) (fun _=>rfl) an aE)<|e<|al rT fun ai bz bk au a2=> ?_
 have bv:=au.size
 refine e<|da pk aa aa aa aa (a2) (by simp) fun ac aq aX=> ?_
 have ao:Wk G ac:=au.md.trans' aq fun q i h=>by omega
 have bp:=aq.size
 have am:bO ac.heap ai (fz (r,.slice a r.next.length c)):=aX
 refine nl<|C<|ag fun aL=>p (fa qo aa)<|p (ld mT aa<|am.bE 6)<|e<|cl q9 (sI a r.next.length c (r.next.map bg) ac (aA.wk ao).cM.2 (by simp) (fun h=>Tg.tg aA (by simp) h) (sy _) ab) aa fun bw bx a3=> ?_
 obtain ⟨Y,M⟩:=a3
 obtain ⟨ah,aj,rfl⟩:=cC Y
 have br:=M.size
 refine p (fa qo aa)<|e<|st sM aa aa (aa) (Wk.B M am) (by show 6 < 7; omega) fun aF U aY=> ?_
 have ap:Wk G aF:=(ao.trans M).trans' U fun q i h=>by omega
 have bt:=U.size
 have aD:=cX Y U fun q i h=>by have :=(dG Y i).1; omega
 have a0:bO aF.heap ai (fz (r,.slice ah r.next.length aj)):=aY
 exact nl<|aL<|ag fun aM=>p (c8 mU aa (aa) fun j V=>a0.bE j)<|e<|da pk aa aa aa aa (Wk.B ap aZ) (by show 7≤7; omega) fun bA ar a1=>p aB<|nl<|aM<|rt<|eA aa (dP (cs:=fz (r,.slice ah r.next.length aj)) aa mU aa fun j V=>a1.bE j) ee<|⟨⟨_,by rw [aV,decide_eq_true (show 0≤(k:Int)∧(k:Int) < (F.rules.length:Int) by omega)]; rfl,by rw [aW]; exact cX (ew aD ab) ar fun q i h=>by have :=(dG aD i).1; omega⟩,(A.md.trans ap).trans' ar fun q i h=>by omega⟩
theorem Ux (a:Option Addr) (c:Nat) (l:List Nat) (x:Nat) (w:World) (E:aJ w.heap a (l.map bg)) (ap:l.length≤1048576):
 bo aw 213 (bh [.slice a l.length c,bg x]) w (fun v w'=>(∃ k:Int,v= .int .i64 k∧(0≤k↔x∈l)∧ -1≤k∧k≤1048576)∧Wk w w'):=by
 refine enter func213 aa ntmps213 aa<|ag fun O=>ay<|O<|aC fun U=>ag fun V=>au (.slice a l.length c)<|p (bK Lw aa aa)<|p mv<|nl<|V<|aM<|lp (fun C q M=> ∃ (i:Nat),(i≤l.length)∧(∀ j,j < i→l.getD j 0≠x)∧(M=w)∧(q 0= .slice a l.length c)∧(q 1=bg x)∧(q 7=ak (l.length))∧(q 8=ak i)∧(l.length - i=C)) _ ⟨0,ab,(fun j I=>by omega),aa,aa,aa,aa,aa,aa⟩ ?_
 rintro C q M ⟨i,hi,J,ai,al,am,an,ao,rfl⟩
 refine fx 0 al<|fx 1 am<|fx 7 an<|fx 8 ao ?_
 subst ai
 refine ag fun Y=>p (lt aa aa)<|nl<|Y<|aC fun Z=>cd aa (fun aj=> ?_) fun aj=> ?_
 refine aO<|Z<|aC fun A=>aM<|ag fun ac=>au (ak i)<|p (cO (ak i) aa)<|nl<|ac<|ag fun ae=>au (bg x)<|au (.slice a l.length c)<|au (ak i)<|p (ba G4 aa aa ab<|aJ.ok (E)<|bS ab)<|p (ld c7 aa<|aJ.gL E (show (l.map bg)[i]? =some (bg<|l.getD i 0) by rw [im,cV,cD (by omega :i < l.length)]; rfl)) ?_
 refine p (bI aa aa)<|nl<|ae<|cd aa (fun G=> ?_) fun G=> ?_
 exact ag fun ah=>au (ak i)<|p (cO (ak i) aa)<|nl<|ah<|rt<|br<|tr<|tr<|br<|tr<|aX aa<|⟨⟨(i:Nat),aa,⟨fun _=>by obtain rfl :x=l.getD i 0:=ab; exact dV ab,fun _=>by omega⟩,ab,ab⟩,Md.refl _ _⟩
 exact aO<|bn<|A<|rg aa<|p (ad aa aa<|bX ab)<|p mv<|nl<|tn<|⟨_,ab,i+1,ab,(fun j I=>by rcases fg j i with h | h <;> first | exact J j h | (rw [show j=i by omega]; exact fun h2=>G<|by rw [h2])),aa,aa,aa,aa,aa,aa⟩
 exact ext<|bf<|bf<|be<|U<|ag fun A=>p aB<|nl<|A<|rt<|aX aa<|⟨⟨-1,aa,⟨fun h=>absurd h ab,fun h=>by obtain ⟨j,I,e⟩:=nM 0 h; exact absurd e<|J j ab⟩,ab,ab⟩,Md.refl _ _⟩
theorem Rc (a:Option Addr) (c:Nat) (l:List Nat) (x:Nat) (w:World) (A:aJ w.heap a (l.map bg)) (G:l.length≤1048576):
 bo aw 151 (bh [.slice a l.length c,bg x]) w (fun v w'=>v= .bool (decide (x∈l))∧Wk w w'):=by
 refine enter func151 aa ntmps151 aa<|ag fun i=>ay<|i<|ag fun q=>au (.slice a l.length c)<|au (bg x)<|e<|cl Pd (Ux a c l x w A G) aa fun M O C=> ?_
 obtain ⟨⟨I,rfl,E,J⟩,hE7⟩:=C
 exact p (ge aa aa)<|ay<|q<|rt<|aX aa<|⟨by show bT (decide (I≥0))=_; exact congrArg bT (decide_eq_decide.2 E),hE7⟩
theorem Io (a:Option Addr) (c:Nat) (l:List Nat) (x:Nat) (w:World) (A:aJ w.heap a (l.map bg)) (G:l.length≤1048576):
 bo aw 97 (bh [.slice a l.length c,bg x]) w (fun v w'=>v= .bool (decide (x∈l))∧Wk w w'):=by
 refine enter func97 aa ntmps97 aa<|ag fun i=>ay<|i<|ag fun q=>au (.slice a l.length c)<|au (bg x)<|e<|cl OU (Rc a c l x w A G) aa fun I J E=> ?_
 obtain ⟨rfl,C⟩:=E
 exact ay<|q<|rt<|aX aa<|⟨aa,C⟩
theorem Cw (B tb:Nat) (Z:iX) (F:aT) (xs:List bF) (fs:List Nat) (a:Option Addr) (c kd:Nat) (w:World) (aN:fT w B tb Z F xs) (U:eW F xs) (aD:aJ w.heap a (fs.map bg)) (b8:fs.length≤64) (ar:fs.Pairwise (· < ·)):
 bo aw 91 (bh [aR tb,.slice a fs.length c,ak kd]) w (fun v w'=>bu w' w.heap.size 3 1 v (aV F fs kd).length ((aV F fs kd).map bP)∧Wk w w'):=by
 have cc:=U.len
 refine enter func91 aa ntmps91 aa<|ag fun a1=>ay<|a1<|ag fun a9=>p aB<|nl<|a9<|aC fun bb=>ag fun bc=>au (.slice a fs.length c)<|p (bK oJ aa aa)<|p mv<|nl<|bc<|aM<|lp (fun O G J=> ∃ (i:Nat) (v:Value),(i≤fs.length)∧(bu J w.heap.size 3 1 v ((fs.take i).flatMap<|gE F kd).length<|((fs.take i).flatMap<|gE F kd).map bP)∧(((fs.take i).flatMap<|gE F kd).length≤i*70000)∧(Wk w J)∧(G 0=aR tb)∧(G 2=ak kd)∧(G 7=v)∧(G 13= .slice a fs.length c)∧(G 14=ak (fs.length))∧(G 15=ak i)∧(fs.length - i=O)) _ ⟨0,.slice none 0 0,ab,(dx _ _ _ _),(jD _),(Md.refl _ _),aa,aa,aa,aa,aa,aa,aa⟩ ?_
 rintro O G J ⟨i,v,hi,ae,aY,C,bH,bN,bO,bI,bJ,bM,rfl⟩
 refine fx 0 bH<|fx 2 bN<|fx 7 bO<|fx 13 bI<|fx 14 bJ<|fx 15 bM<|ag fun bd=>p (lt aa aa)<|nl<|bd<|aC fun bi=>cd aa (fun bx=> ?_) fun bx=> ?_
 refine aO<|bi<|aC fun M=>aM<|ag fun aj=>p (ba bY aa aa ab<|aJ.ok (aD.wk C)<|bS ab)<|p (ld c7 aa<|aJ.gL (aD.wk C) (show (fs.map bg)[i]? =some (bg<|fs.getD i 0) by rw [im,cV,cD (by omega :i < fs.length)]; rfl)) ?_
 refine ay<|aj<|ag fun bj=>au (aR tb)<|p (nc aa)<|p (fa BM aa)<|p (ld gl aa<|(a7 (aN.wk C).cells).trans aa)<|p mv<|e<|cl Ai (Bi B Z.fb Z.mc F Z.V (fs.getD i 0) J (aN.wk C).fl ab) aa fun cj cm aL=> ?_
 obtain ⟨cl,aQ⟩:∃ cl,(dY F.bw<|fs.getD i 0).getD sJ=cl:=⟨_,rfl⟩
 rw [aQ] at aL
 have I:=SZ (f:=gE F kd) (show i < fs.length by omega)
 obtain ⟨rfl,aE⟩:=aL
 have cf:=aE.size
 refine p mv<|p (xt aa aa)<|p (xt aa aa)<|e<|fi tG fun al ck b4 aK bk=> ?_
 have ce:=aK.size
 refine e<|fZ ri aa aa aa aa bk (by simp) fun a0 aG bp=> ?_
 have ac:Wk J a0:=(aE.trans aK.md).trans' aG fun q cb h=>by omega
 have ci:=aG.size
 have an:a0.heap[al]? =some (.cells (nB cl).toArray 131 (0,0)):=bp
 have ax:=aW ae ac
 refine ay<|bj<|aC fun a2=>ag fun aA=>p mv<|p (no aa)<|p mv<|gb (t:=30) aa (fun av=> ?_) fun av=> ?_
 have Y:gE F kd (fs.getD i 0)= []:=QZ<|by simpa using av
 exact aH aa<|aH aa<|aH aa<|aH aa<|p (bB aa)<|nl<|aA<|ct aa<|ext<|bf<|be<|M<|rg aa<|p (ad aa aa<|bX ab)<|p mv<|nl<|tn<|⟨_,ab,i+1,v,ab,(by rw [I,Y,ek]; exact ax),(by rewrite [I,Y,ek]; exact gd aY<|sc _<|Nat.le_succ i),(C.trans ac),aa,aa,aa,aa,aa,aa,aa⟩
 have aq:=Q2 (k:=kd) (by simpa using av) aQ
 refine aI aa (fa uF aa)<|aI aa (ld bC aa<|(a7 an).trans aa)<|aI aa (aU (ak kd) aa)<|aI aa (dj aa aa)<|p (bq aa)<|nl<|aA<|cd aa (fun aP=> ?_) fun aP=> ?_
 have Y:gE F kd (fs.getD i 0)= []:=Q0 aq fun h=>aP<|by rw [h]
 exact ext<|bf<|be<|M<|rg aa<|p (ad aa aa<|bX ab)<|p mv<|nl<|tn<|⟨_,ab,i+1,v,ab,(by rw [I,Y,ek]; exact ax),(by rewrite [I,Y,ek]; exact gd aY<|sc _<|Nat.le_succ i),(C.trans ac),aa,aa,aa,aa,aa,aa,aa⟩
 have bA:cl.kind=kd:=ab
 have aS:=Q3 aq bA
 have b6:=QX U.cls aq
 refine aO<|a2<|ag fun a3=>p (fa xR aa)<|p (ld bC aa<|(a7 an).trans aa)<|p mv<|nl<|a3<|aM<|lp (fun O A ai=> ∃ (j:Nat) (v2:Value),(j≤cl.count)∧(bu ai w.heap.size 3 1 v2 ((fs.take i).flatMap (gE F kd)++(j5 j).map (cl.first+ ·)).length<|((fs.take i).flatMap (gE F kd)++(j5 j).map (cl.first+ ·)).map bP)∧(ai.heap[al]? =some (.cells (nB cl).toArray 131 (0,0)))∧(Wk w ai)∧(A 0=aR tb)∧(A 2=ak kd)∧(A 7=v2)∧(A 10=aR al)∧(A 13= .slice a fs.length c)∧(A 14=ak (fs.length))∧(A 15=ak i)∧(A 37=ak (cl.count))∧(A 38=ak j)∧(cl.count - j=O)) _ ⟨0,v,ab,(by rw [List.range_zero,List.map_nil,ek]; exact ax),an,(C.trans ac),aa,aa,aa,aa,aa,aa,aa,aa,aa,aa⟩ ?_
 rintro O A ai ⟨j,v2,b9,ah,ao,am,bQ,bW,b1,bR,bT,bU,bV,bZ,b0,rfl⟩
 refine fx 0 bQ<|fx 2 bW<|fx 7 b1<|fx 10 bR<|fx 13 bT<|fx 14 bU<|fx 15 bV<|fx 37 bZ<|fx 38 b0<|ag fun a4=>p (lt aa aa)<|nl<|a4<|aC fun a5=>cd aa (fun bz=> ?_) fun bz=> ?_
 refine aO<|a5<|aC fun a6=>aM<|ag fun a8=>au (ak j)<|p (cO (ak j) aa)<|nl<|a8<|rg aa<|au (v2)<|p (fa HH aa)<|p (ld bC aa<|(a7 ao).trans aa)<|au (ak j)<|p (bG ((cl.first+j:Nat):Int) aa aa<|bl ab ab)<|e<|fU nd aa aa fun b3 cn b5 E bm=> ?_
 have cg:=E.size
 have ca:((fs.take i).flatMap (gE F kd)++(j5 j).map (cl.first+ ·)).length=((fs.take i).flatMap<|gE F kd).length+j:=by rw [bL,fK,M8]
 have bE:(fs.take i).flatMap (gE F kd)++(j5<|j+1).map (cl.first+ ·)=((fs.take i).flatMap (gE F kd)++(j5 j).map (cl.first+ ·))++ [cl.first+j]:=by rw [Ni,iq,← List.append_assoc]; rfl
 refine e<|ap nd (aW ah E.md) aa (by have :=am.size; omega) aa (aJ.dZ bm) (aa) (aa) ab ab fun b2 co bD aF ch b7=> ?_
 have br:=Wk.own (am.trans E.md) (aW ah E.md) aF<|cB _
 have bv:=aF.aM (E.md.aM ao) fun h=>dE (aW ah E.md) (E.md.aM ao) az h
 exact p aB<|nl<|bn<|a6<|rg aa<|p (ad aa aa<|bX ab)<|p mv<|nl<|tn<|⟨_,ab,j+1,b2,ab,(by rw [bE,iq,bL]; exact bD),bv,br,aa,aa,aa,aa,aa,aa,aa,aa,aa,aa⟩
 exact ext<|bf<|bf<|be<|bn<|M<|rg aa<|p (ad aa aa<|bX ab)<|p mv<|nl<|tn<|⟨_,ab,i+1,v2,ab,(by rw [I,aS,show cl.count=j by omega]; exact ah),(by rewrite [I,aS,bL,fK,M8]; omega),am,aa,aa,aa,aa,aa,aa,aa⟩
 refine ext<|bf<|bf<|be<|bb<|aC fun M=> ?_
 rw [List.take_of_length_le (show fs.length≤i by omega)] at ae
 refine rg aa<|au (v)<|e<|cl P8 (XI w.heap.size _ v ((fs.flatMap<|gE F kd).map fun i:Nat=>(i:Int)) J (by rw [I8]; exact ae)<|by rw [fK]; have :=VF U.cls ar kd; omega) aa fun v51 cp bt=> ?_
 obtain ⟨rfl,aZ,bs⟩:=bt
 rw [XJ U.cls ar,I8,Jp U.cls ar] at aZ
 exact nl<|M<|ag fun aj=>au (v)<|p (cO (v) aa)<|nl<|aj<|rt<|aX aa<|⟨aZ,Wk.own C ae bs<|cB _⟩
theorem Ye (B tb:Nat) (i:iX) (F:aT) (xs:List bF) (n:Int) (w:World) (M:fT w B tb i F xs) (a:eW F xs):
 bo aw 53 (bh [aR tb,.int .i64 n]) w (fun v w'=>bu w' w.heap.size 3 1 v (aV F (flagsOf xs n) 2).length ((aV F (flagsOf xs n) 2).map bP)∧Wk w w'):=by
 refine enter func53 aa ntmps53 aa<|ag fun U=>ay<|U<|ag fun V=>au (aR tb)<|au (.int .i64 n)<|e<|cl qh (xD B tb i F xs n w M a) aa fun v10 an ai=> ?_
 obtain ⟨⟨ao,rfl,O⟩,hE10⟩:=ai
 obtain ⟨E,G,rfl⟩:=cC O
 have av:=hE10.size
 refine p mv<|p (xt aa aa)<|p (xt aa aa)<|e<|al qL fun Z aB ap J ae=> ?_
 have ax:=J.size
 refine e<|da ku aa aa aa aa (ae) (by simp) fun C I ac=> ?_
 have A:Wk an C:=J.md.trans' I fun q aq h=>by omega
 have ar:=I.size
 have ak:bO C.heap Z ([str (ky xs n),.slice E (flagsOf xs n).length G]):=ac
 refine ay<|V<|ag fun Y=>au (aR tb)<|p (fa rq aa)<|p (ld mT aa<|ak.bE 1)<|e<|cl AM (Cw B tb i F xs (flagsOf xs n) E G 2 C (M.wk<|hE10.trans A) a ((a8 O).2.wk A) (nT a n).1 (nT a n).2.1) aa fun az aA aj=> ?_
 obtain ⟨am,ah⟩:=aj
 exact ay<|Y<|rt<|aX aa<|⟨ew am ab,(hE10.trans A).trans ah⟩
theorem Wv (B tb:Nat) (i:iX) (F:aT) (xs:List bF) (n:Int) (w:World) (M:fT w B tb i F xs) (a:eW F xs):
 bo aw 55 (bh [aR tb,.int .i64 n]) w (fun v w'=>bu w' w.heap.size 3 1 v (aV F (flagsOf xs n) 1).length ((aV F (flagsOf xs n) 1).map bP)∧Wk w w'):=by
 refine enter func55 aa ntmps55 aa<|ag fun U=>ay<|U<|ag fun V=>au (aR tb)<|au (.int .i64 n)<|e<|cl qh (xD B tb i F xs n w M a) aa fun v10 an ai=> ?_
 obtain ⟨⟨ao,rfl,O⟩,hE10⟩:=ai
 obtain ⟨E,G,rfl⟩:=cC O
 have av:=hE10.size
 refine p mv<|p (xt aa aa)<|p (xt aa aa)<|e<|al qL fun Z aB ap J ae=> ?_
 have ax:=J.size
 refine e<|da ku aa aa aa aa (ae) (by simp) fun C I ac=> ?_
 have A:Wk an C:=J.md.trans' I fun q aq h=>by omega
 have ar:=I.size
 have ak:bO C.heap Z ([str (ky xs n),.slice E (flagsOf xs n).length G]):=ac
 refine ay<|V<|ag fun Y=>au (aR tb)<|p (fa rq aa)<|p (ld mT aa<|ak.bE 1)<|e<|cl AM (Cw B tb i F xs (flagsOf xs n) E G 1 C (M.wk<|hE10.trans A) a ((a8 O).2.wk A) (nT a n).1 (nT a n).2.1) aa fun az aA aj=> ?_
 obtain ⟨am,ah⟩:=aj
 exact ay<|Y<|rt<|aX aa<|⟨ew am ab,(hE10.trans A).trans ah⟩
theorem Xr (B tb:Nat) (i:iX) (F:aT) (xs:List bF) (n:Int) (w:World) (M:fT w B tb i F xs) (a:eW F xs):
 bo aw 54 (bh [aR tb,.int .i64 n]) w (fun v w'=>bu w' w.heap.size 3 1 v (aV F (cW F n) 2).length ((aV F (cW F n) 2).map bP)∧Wk w w'):=by
 refine enter func54 aa ntmps54 aa<|ag fun U=>ay<|U<|ag fun V=>au (aR tb)<|au (.int .i64 n)<|e<|cl FL (yJ B tb i F xs n w M a) aa fun v10 an ai=> ?_
 obtain ⟨⟨ao,rfl,O⟩,hE10⟩:=ai
 obtain ⟨E,G,rfl⟩:=cC O
 have av:=hE10.size
 refine p mv<|p (xt aa aa)<|p (xt aa aa)<|e<|al rT fun Z aB ap J ae=> ?_
 have ax:=J.size
 refine e<|da pk aa aa aa aa (ae) (by simp) fun C I ac=> ?_
 have A:Wk an C:=J.md.trans' I fun q aq h=>by omega
 have ar:=I.size
 have ak:bO C.heap Z (fz (rK F n,.slice E (cW F n).length G)):=ac
 refine ay<|V<|ag fun Y=>au (aR tb)<|p (fa qo aa)<|p (ld mT aa<|ak.bE 6)<|e<|cl AM (Cw B tb i F xs (cW F n) E G 2 C (M.wk<|hE10.trans A) a ((a8 O).2.wk A) (tv a n).1 (tv a n).2.1) aa fun az aA aj=> ?_
 obtain ⟨am,ah⟩:=aj
 exact ay<|Y<|rt<|aX aa<|⟨ew am ab,(hE10.trans A).trans ah⟩
theorem GV (B tb:Nat) (M:iX) (F:aT) (xs:List bF) (n:Int) (w:World) (ac:fT w B tb M F xs) (C:eW F xs):
 bo aw 93 (bh [aR tb,.int .i64 n]) w (fun v w'=>v= .bool (nD F n)∧Wk w w'):=by
 refine enter func93 aa ntmps93 aa<|ag fun ah=>ay<|ah<|ag fun ai=>au (aR tb)<|au (.int .i64 n)<|e<|cl FL (yJ B tb M F xs n w ac C) aa fun v10 ax ap=> ?_
 obtain ⟨⟨aA,rfl,ae⟩,hE10⟩:=ap
 obtain ⟨O,U,rfl⟩:=cC ae
 have aH:=hE10.size
 refine p mv<|p (xt aa aa)<|p (xt aa aa)<|e<|al rT fun ak aK aD Z an=> ?_
 have aI:=Z.size
 refine e<|da pk aa aa aa aa (an) (by simp) fun i Y am=> ?_
 have V:Wk ax i:=Z.md.trans' Y fun q aF h=>by omega
 have aG:=Y.size
 have av:bO i.heap ak (fz (rK F n,.slice O (cW F n).length U)):=am
 have E:=hE10.trans V
 have ar:=ac.wk E
 refine ay<|ai<|aC fun J=> ?_
 have a:(fun w'=>Wk i w') i.drew:=(Md.refl _ _).drew
 refine bM (fun w'=>Wk i w') aa wide a<|aE 0 aa (fun _ _=>mv) a<|aE 1 aa (fun _ _=>mv) a<|iH (t:=14) aa (fun I=> ?_) fun I=> ?_
 refine bj 2 aa (fun _ _=>fa qo aa) a<|bj 3 aa (fun w' G=>ld mT aa<|Wk.aQ G<|av.bE 6) a<|bj 4 aa (fun _ _=>aU (aR tb) aa) a<|bj 5 aa (fun _ _=>nc aa) a<|bj 6 aa (fun _ _=>fa uO aa) a<|bj 7 aa (fun _ _=>fa x4 aa) a<|bj 8 aa (fun _ _=>ke ui aa aa ab) a<|bj 9 aa (fun w' G=>ld c7 aa<|Wk.aQ G<|Ll ar (k:=0) ab) a<|lY 10 aa aj aa aa aa<|cl F4 (Io O U (cW F n) (F.sp.getD 0 0) i.drew (((a8 ae).2.wk V).wk a)<|by have :=(tv C n).1; omega) aa fun aJ az aq=> ?_
 obtain ⟨rfl,ao⟩:=aq
 have A:(fun w'=>Wk i w') az:=a.trans ao
 refine ⟨A,?_⟩
 exact bj 11 aa (fun _ _=>no aa) A<|aE 12 aa (fun _ _=>bB aa) A<|aE 13 aa (fun _ _=>aB) A<|hn aj<|J<|rt<|aX aa<|⟨by unfold nD; rw [decide_eq_true I,Ip (tv C n).2.2]; rfl,E.trans A⟩
 exact a6 2 aa a<|a6 3 aa a<|a6 4 aa a<|a6 5 aa a<|a6 6 aa a<|a6 7 aa a<|a6 8 aa a<|a6 9 aa a<|a6 10 aa a<|a6 11 aa a<|aE 12 aa (fun _ _=>bq aa) a<|aE 13 aa (fun _ _=>aB) a<|hn aj<|J<|rt<|aX aa<|⟨by unfold nD; rw [decide_eq_false I]; rfl,E.trans a⟩
theorem Ct (B tb:Nat) (J:iX) (F:aT) (xs:List bF) (n k:Int) (w:World) (Z:fT w B tb J F xs) (G:eW F xs):
 bo aw 61 (bh [aR tb,.int .i64 n,.int .i64 k]) w (fun v w'=>v= .bool (l3 F xs n k)∧Wk w w'):=by
 refine enter func61 aa ntmps61 aa<|ag fun ah=>ay<|ah<|ag fun ai=>p mv<|p mv<|e<|cl qh (xD B tb J F xs n w Z G) aa fun v12 az ap=> ?_
 obtain ⟨⟨a12,rfl,ae⟩,hE12⟩:=ap
 obtain ⟨M,O,rfl⟩:=cC ae
 have aH:=hE12.size
 refine p mv<|p (xt aa aa)<|p (xt aa aa)<|e<|al qL fun ak aK aD Y an=> ?_
 have aI:=Y.size
 refine e<|da ku aa aa aa aa (an) (by simp) fun i V am=> ?_
 have U:Wk az i:=Y.md.trans' V fun q aF h=>by omega
 have aG:=V.size
 have au:bO i.heap ak [str (ky xs n),.slice M (flagsOf xs n).length O]:=am
 have A:=hE12.trans U
 have ar:=Z.wk A
 refine ay<|ai<|aC fun C=> ?_
 have a:(fun w'=>Wk i w') i.drew:=(Md.refl _ _).drew
 refine bM (fun w'=>Wk i w') aa wide a<|aE 0 aa (fun _ _=>mv) a<|aE 1 aa (fun _ _=>mv) a<|iH (t:=16) aa (fun ac=> ?_) fun ac=> ?_
 refine bj 2 aa (fun _ _=>mv) a<|bj 3 aa (fun _ _=>ge aa aa) a<|aE 4 aa (fun _ _=>bB aa) a<|aE 5 aa (fun _ _=>mv) a<|iH (t:=20) aa (fun av=> ?_) fun av=> ?_
 refine bj 6 aa (fun _ _=>mv) a<|bj 7 aa (fun _ _=>lt aa aa) a<|aE 8 aa (fun _ _=>bB aa) a<|aE 9 aa (fun _ _=>mv) a<|iH (t:=24) aa (fun ax=> ?_) fun ax=> ?_
 obtain ⟨k,rfl⟩:∃ m:Nat,k=(m:Int):=⟨k.toNat,ab⟩
 refine bj 10 aa (fun _ _=>fa rq aa) a<|bj 11 aa (fun w' I=>ld mT aa<|Wk.aQ I<|au.bE 1) a<|bj 12 aa (fun _ _=>mv) a<|bj 13 aa (fun _ _=>mv) a<|bj 14 aa (fun _ _=>nc aa) a<|bj 15 aa (fun _ _=>fa uO aa) a<|bj 16 aa (fun _ _=>fa x4 aa) a<|bj 17 aa (fun _ _=>ke ui aa aa ab) a<|bj 18 aa (fun w' I=>ld c7 aa<|Wk.aQ I<|Ll ar ab) a<|lY 19 aa aj aa aa aa<|cl F4 (Io M O (flagsOf xs n) (F.sp.getD k 0) i.drew (((a8 ae).2.wk U).wk a)<|by have :=(nT G n).1; omega) aa fun aJ aA aq=> ?_
 obtain ⟨rfl,ao⟩:=aq
 have E:(fun w'=>Wk i w') aA:=a.trans ao
 refine ⟨E,?_⟩
 exact aE 20 aa (fun _ _=>bB aa) E<|aE 21 aa (fun _ _=>aB) E<|hn aj<|C<|rt<|aX aa<|⟨by unfold l3 rA; rw [decide_eq_true (show 0≤((k:Nat):Int)∧((k:Nat):Int) < 5 by omega),mM,Ip (nT G n).2.2]; rfl,A.trans E⟩
 exact a6 10 aa a<|a6 11 aa a<|a6 12 aa a<|a6 13 aa a<|a6 14 aa a<|a6 15 aa a<|a6 16 aa a<|a6 17 aa a<|a6 18 aa a<|a6 19 aa a<|aE 20 aa (fun _ _=>bq aa) a<|aE 21 aa (fun _ _=>aB) a<|hn aj<|C<|rt<|aX aa<|⟨by unfold l3; rw [decide_eq_false (show ¬(0≤k∧k < 5) by omega)]; rfl,A.trans a⟩
 exact a6 6 aa a<|a6 7 aa a<|aE 8 aa (fun _ _=>bq aa) a<|aE 9 aa (fun _ _=>mv) a<|a6 10 aa a<|a6 11 aa a<|a6 12 aa a<|a6 13 aa a<|a6 14 aa a<|a6 15 aa a<|a6 16 aa a<|a6 17 aa a<|a6 18 aa a<|a6 19 aa a<|aE 20 aa (fun _ _=>bq aa) a<|aE 21 aa (fun _ _=>aB) a<|hn aj<|C<|rt<|aX aa<|⟨by unfold l3; rw [decide_eq_false (show ¬(0≤k∧k < 5) by omega)]; rfl,A.trans a⟩
 exact a6 2 aa a<|a6 3 aa a<|aE 4 aa (fun _ _=>bq aa) a<|aE 5 aa (fun _ _=>mv) a<|a6 6 aa a<|a6 7 aa a<|aE 8 aa (fun _ _=>bq aa) a<|aE 9 aa (fun _ _=>mv) a<|a6 10 aa a<|a6 11 aa a<|a6 12 aa a<|a6 13 aa a<|a6 14 aa a<|a6 15 aa a<|a6 16 aa a<|a6 17 aa a<|a6 18 aa a<|a6 19 aa a<|aE 20 aa (fun _ _=>bq aa) a<|aE 21 aa (fun _ _=>aB) a<|hn aj<|C<|rt<|aX aa<|⟨by unfold l3 rA; rw [(sD ac).2,decide_eq_false (show ¬(F.sp.getD k.toNat 0≠0∧F.sp.getD k.toNat 0∈[]) from fun h=>by cases h.2),Bool.and_false]; rfl,A.trans a⟩
end Go.Hb.nv
end
