/-
  Walks and plain laws that the law rests on, laid together. No conditions but those that each theorem names.
-/
import Derived.Test.YtffmhpaepdkabaaGreatDoorMnDeriveLists6
set_option linter.unusedVariables false
open Array renaming getElem?_eq_some_iff→dm
open Bool renaming noConfusion→eb,or_eq_false_iff→nw
open Classical renaming byContradiction→MP,not_not→jn
open Go.Calls renaming mono→lO
open Go.Proofs.Tryz renaming prog→ay
open Go.Value renaming bool→bQ,int→jh,slice→bO
open Go.World renaming ownsRow→bo,ownsRow_nil→du
open Int renaming toNat_natCast→mS
open List renaming all_cons→uh,append_nil→ed,drop_eq_nil_of_le→gP,eq_nil_of_length_eq_zero→fO,getD_eq_getElem?_getD→cQ,getElem?_eq_getElem→cz,getElem?_eq_some_iff→fJ,getElem?_map→ic,getElem?_zip_eq_some→jx,length_append→bI,length_cons→cM,length_map→fE,length_pos_iff→lx,length_range→NF,length_singleton→eW,map_append→ig,mem_append→jz,mem_cons_self→NH,mem_of_getElem?→iJ,mem_singleton→jY,range→jZ,range_succ→NO,toArray→ba,zip_append→EI
open Nat renaming le_refl→cj,le_trans→fW,lt_or_ge→e8,mul_le_mul_right→sA,zero_le→jD
open Go.Proofs.Tryz
section
set_option maxRecDepth 20000
set_option maxHeartbeats 1000000
namespace Go.Hb.Ad
open Go.Hb.dT
open Go.Proofs
open Go.Hb.jP Go.Hb.sI Go.Hb.fq Go.Hb.fQ Go.Hb.mi Go.Hb.gn Go.Hb.lQ Go.Hb.nA Go.Hb.jF Go.Hb.iK Go.Hb.sJ Go.Hb.kn Go.Hb.xn Go.Hb.ot Go.Hb.po Go.Hb.uz Go.Hb.rr Go.Hb.j5 Go.Hb.ji
theorem XL {kind ln:Nat} {al:List (List Nat)} {c:c7} {r:List Tx} {e:Nat} (h:r.length=4∨r.length=5) (h1:et true (r.getD 2 [])= .error e):fA kind al c ln r= .error e:=by rw [mJ h,h1]
theorem K0 {kind ln:Nat} {al:List (List Nat)} {c:c7} {r:List Tx} {e:Nat} {st:Tx} (h:r.length=4∨r.length=5) (h1:et true (r.getD 2 [])= .ok st) (h2:jJ (bu<|r.getD 3 [])= .error e):fA kind al c ln r= .error e:=by rw [mJ h,h1]; simp only; rw [h2]
theorem La {kind ln:Nat} {al:List (List Nat)} {c:c7} {r:List Tx} {e:Nat} {st ad:Tx} (h:r.length=4∨r.length=5) (h1:et true (r.getD 2 [])= .ok st) (h2:jJ (bu<|r.getD 3 [])= .ok ad) (h3:kT kind al c.kind (bu<|r.getD 3 [])= .error e):fA kind al c ln r= .error e:=by rw [mJ h,h1]; simp only; rw [h2]; simp only; rw [h3]
theorem Lb {kind ln:Nat} {al:List (List Nat)} {c:c7} {r:List Tx} {e:Nat} {st ad:Tx} {nx:List Nat} (h:r.length=4∨r.length=5) (h1:et true (r.getD 2 [])= .ok st) (h2:jJ (bu<|r.getD 3 [])= .ok ad) (h3:kT kind al c.kind (bu<|r.getD 3 [])= .ok nx) (h4:kM r= .error e):fA kind al c ln r= .error e:=by rw [mJ h,h1]; simp only; rw [h2]; simp only; rw [h3]; simp only; rw [h4]
theorem XM {kind ln:Nat} {al:List (List Nat)} {c:c7} {r:List Tx} {st ad cd:Tx} {nx:List Nat} (h:r.length=4∨r.length=5) (h1:et true (r.getD 2 [])= .ok st) (h2:jJ (bu<|r.getD 3 [])= .ok ad) (h3:kT kind al c.kind (bu<|r.getD 3 [])= .ok nx) (h4:kM r= .ok cd):fA kind al c ln r= .ok ⟨c.kind,c.flag,c.ei,st,ad,cd,nx,ln⟩:=by rw [mJ h,h1]; simp only; rw [h2]; simp only; rw [h3]; simp only; rw [h4]
def mo (xb:Nat) (F:aR) (c:c7) (ln:Nat) (r:List Tx) (w:World) (v:Value) (w':World):Prop :=Md (fun k=>k=xb) w w'∧∃ L:List Value,L.length=8∧L.all Value.oneCell'=true∧w'.heap[xb]? =some (.cells L.toArray 174 (0,0))∧((∃ q vn,fA F.kind F.aliases c ln r= .ok q∧v= .int .i64 (0:Nat)∧L=jv (q,vn)∧Tg w' 0 3 q.next.length vn (q.next.map bM))∨(∃ e:Nat,fA F.kind F.aliases c ln r= .error e∧e≠0∧v= .int .i64 (e:Nat)))
section
variable {xb ln:Nat} {F:aR} {c:c7} {r:List Tx} {w w':World} {st ad cd:Tx} {vn:Value}
theorem mo.no {e:Nat} (hm:Md (fun k=>k=xb) w w') (i:w'.heap[xb]? =some (.cells [.int .i64 (c.kind:Nat),bM c.flag,.bool c.ei,str st,str ad,str cd,vn,.int .i64 (ln:Nat)].toArray 174 (0,0))) (a:vn.oneCell'=true) (h:fA F.kind F.aliases c ln r= .error e) (he:e≠0):mo xb F c ln r w (.int .i64 (e:Nat)) w':=
 ⟨hm,_,rfl,by simp only [uh,a]; rfl,i,.inr ⟨e,h,he,rfl⟩⟩
theorem mo.ok {nx:List Nat} (hm:Md (fun k=>k=xb) w w') (j:w'.heap[xb]? =some (.cells [.int .i64 (c.kind:Nat),bM c.flag,.bool c.ei,str st,str ad,str cd,vn,.int .i64 (ln:Nat)].toArray 174 (0,0))) (i:vn.oneCell'=true) (a:Tg w' 0 3 nx.length vn (nx.map bM)) (h:fA F.kind F.aliases c ln r= .ok ⟨c.kind,c.flag,c.ei,st,ad,cd,nx,ln⟩):mo xb F c ln r w (.int .i64 (0:Nat)) w':=
 ⟨hm,_,rfl,by simp only [uh,i]; rfl,j,.inl ⟨_,vn,h,rfl,rfl,a⟩⟩
end
theorem RL {s t:Tx} (h:t∈(da s).1) (hs:s.length≤1048576):(t.length=1∨3≤t.length)∧t.length≤1048576:=by
 have :=GU.1 t h
 exact ⟨this.1,ab⟩
theorem r6 (w:World) (B e:Nat):Tg w B e 0 (.slice none 0 0) []:=⟨none,0,rfl,cj _,.inl rfl⟩
theorem T9 {F F':aR} {ln:Nat} {row:List Tx} (h:iY F ln row= .ok F'):F'.bp=F.bp∧F'.kind=F.kind:=by
 unfold iY at h
 repeat' split at h
 all_goals first
  | (cases h; done)
  | (cases h; exact ⟨rfl,rfl⟩)
theorem IQ (B fb xb:Nat) (F:aR) (V:eh) (c:c7) (ln:Nat) (r:List Tx) (aD:Nat) (ar:Option Addr) (cr:Nat) (w:World) (b7:nC w B 0 fb F V) (hk:F.kind=1∨F.kind=2∨F.kind=3) (cH:F.aliases.length≤70000) (c8:w.heap[xb]? =some (.cells [au (c.kind),bM c.flag,.bool c.ei,str [],str [],str [],.slice none 0 0,au ln].toArray 174 (0,0))) (bg:Tg w aD 9 r.length (.slice ar r.length cr) (r.map str)) (A:r.length=4∨r.length=5) (a1:∀ x∈r,x.length≤70000):
 bh ay 260 (ba [aQ fb,aQ xb,.slice ar r.length cr]) w (mo xb F c ln r w):=by
 have bk:=bg.cI
 have dn:(r.getD 2 []).length≤70000:=a1 _<|dQ ab
 have dp:(r.getD 3 []).length≤70000:=a1 _<|dQ ab
 have dr:=r9<|r.getD 3 []
 refine enter func260 aa ntmps260 aa<|aj fun _ bQ=>aw<|bQ _ _<|aj fun _ bV=>ak (.slice ar r.length cr)<|p (a7 cE aa aa ab<|aI.ok (bk.2)<|bP ab)<|p (ld bR aa<|bX.get (i:=2) bk.2 ab)<|e<|cl AV (Cp (r.getD 2 []) true w ab) aa fun ds ax ca=> ?_
 obtain ⟨⟨st,e,rfl,bv⟩,hE19⟩:=ca
 have a3:=Wk.aJ hE19 c8
 have ae:Md (fun k=>k=xb) w ax:=hE19.mono fun _ _ h=>h.elim
 refine p mv<|p (xt aa aa)<|p (xt aa aa)<|p aB<|aw<|bV _ _<|sq fun _ bW=>aj fun _ bY=>p mv<|p (cX aa aa)<|aE<|bY _ _<|cd aa (fun cu=> ?_) fun cu=> ?_
 have bt:et true (r.getD 2 [])= .error e∧e≠0:=by
  rcases bv with ⟨_,h⟩ | h
  omega
  exact h
 exact aj fun _ aH=>p mv<|aw<|aH _ _<|rt<|tr<|f1 aa aa<|mo.no ae a3 aa (XL A bt.1) bt.2
 obtain ⟨aq,rfl⟩:et true (r.getD 2 [])= .ok st∧e=0:=by
  rcases bv with h | ⟨_,h⟩
  exact h
  omega
 refine aM<|tn<|bW _ _<|aj fun _ aH=>ak (aQ xb)<|p mv<|p (nc aa)<|p (fa ti aa)<|e<|cV kN aa aa (v:=str st) aa a3 (by show _ < 8; omega) fun bK aS b6=> ?_
 have bG:=a3
 have an:=(bg.wk hE19).md aS<|fg bG az
 have bd:=(b7.wk hE19).md aS (TF.eq (L:= [176]) (dt bG) az) az
 have cL:=(ae).trans' aS fun _ _ h=>h
 have dc:bK.heap[xb]? =some (.cells [au (c.kind),bM c.flag,.bool c.ei,str st,str [],str [],.slice none 0 0,au ln].toArray 174 (0,0)):=b6
 refine aE<|aH _ _<|aj fun _ bZ=>ak (.slice ar r.length cr)<|p (a7 cE aa aa ab<|aI.ok (an.cI.2)<|bP ab)<|p (ld bR aa<|bX.get (i:=3) an.cI.2 ab)<|e<|cl xC (y3 (r.getD 3 []) bK ab) aa fun du bJ ce=> ?_
 obtain ⟨rfl,C⟩:=ce
 have a5:=Wk.aJ C dc
 have aV:Md (fun k=>k=xb) w bJ:=cL.trans' C fun _ _ h=>h.elim
 refine p mv<|p (xt aa aa)<|p (xt aa aa)<|p (xt aa aa)<|p (xt aa aa)<|p aB<|p aB<|p aB<|aw<|bZ _ _<|sq fun _ b0=>aj fun _ b1=>p mv<|p (cX aa aa)<|aE<|b1 _ _<|cd aa (fun cv=> ?_) fun cv=> ?_
 exact aj fun _ a=>p mv<|aw<|a _ _<|rt<|tr<|f1 aa aa<|mo.no aV a5 aa (K0 A aq<|EY ab) ab
 have bb:(bu<|r.getD 3 []).2.2.2=0:=ab
 refine aM<|tn<|b0 _ _ ?_
 refine ec (fun J G=> ∃ (s1 q:Tx),(et true (r.getD 2 [])= .ok s1)∧(jJ (bu<|r.getD 3 [])= .ok q)∧(G.heap[xb]? =some (.cells [au (c.kind),bM c.flag,.bool c.ei,str s1,str q,str [],.slice none 0 0,au ln].toArray 174 (0,0)))∧(nC G B 0 fb F V)∧(Tg G aD 9 r.length (.slice ar r.length cr)<|r.map str)∧(Md (fun k=>k=xb) w G)∧(J 0=aQ fb)∧(J 1=aQ xb)∧(J 2= .slice ar r.length cr)∧(J 10=str (bu<|r.getD 3 []).2.1)∧(J 11= .bool (bu<|r.getD 3 []).2.2.1)) ?_ ?_
 refine aj fun _ a=>p mv<|p (oN aa aa)<|aE<|a _ _<|cd aa (fun ao=> ?_) fun ao=> ?_
 refine aj fun _ j=>p mv<|e<|cl AZ (Ck (bu<|r.getD 3 []).1 bJ ab) aa fun dv di cg=> ?_
 obtain ⟨rfl,ai⟩:=cg
 have a8:=Wk.aJ ai a5
 have bp:Md (fun k=>k=xb) w di:=aV.trans' ai fun _ _ h=>h.elim
 refine aw<|j _ _<|sq fun _ O=>aj fun _ U=>p mv<|p (cX aa aa)<|aE<|U _ _<|cd aa (fun cx=> ?_) fun cx=> ?_
 exact aj fun _ aF=>p mv<|aw<|aF _ _<|rt<|tr<|tr<|f1 aa aa<|mo.no bp a8 aa (K0 A aq<|EZ bb ao ab) ab
 refine aM<|tn<|O _ _<|rg aa<|ak (aQ xb)<|p mv<|p (nc aa)<|p (fa BY aa)<|e<|cV kN aa aa (v:=str (bu<|r.getD 3 []).1) aa a8 (by show _ < 8; omega) fun df aO b2=> ?_
 have bD:=a8
 have cm:=((an.wk C).wk ai).md aO<|fg bD az
 have b8:=((bd.wk C).wk ai).md aO (TF.eq (L:= [176]) (dt bD) az) az
 have cJ:=(bp).trans' aO fun _ _ h=>h
 have c9:df.heap[xb]? =some (.cells [au (c.kind),bM c.flag,.bool c.ei,str st,str (bu<|r.getD 3 []).1,str [],.slice none 0 0,au ln].toArray 174 (0,0)):=b2
 exact aE<|⟨st,(bu<|r.getD 3 []).1,aq,(E0 bb ao ab),c9,b8,cm,cJ,aa,aa,aa,aa,aa⟩
 exact aM<|tn<|⟨st,[],aq,(E1 bb<|jn.1 ao),a5,(bd.wk C),(an.wk C),aV,aa,aa,aa,aa,aa⟩
 rintro J G ⟨s1,q,ag,Z,av,aN,bi,aW,cQ,cR,cU,cS,cT⟩
 refine fx 0 cQ<|fx 1 cR<|fx 2 cU<|fx 10 cS<|fx 11 cT ?_
 refine ec (fun M bc=>((bu<|r.getD 3 []).2.2.1=true→c.kind≠1)∧(bc=G)∧(M 0=aQ fb)∧(M 1=aQ xb)∧(M 2= .slice ar r.length cr)∧(M 10=str (bu<|r.getD 3 []).2.1)∧(M 11= .bool (bu<|r.getD 3 []).2.2.1)) ?_ ?_
 refine aj fun _ a=>ak (.bool (bu<|r.getD 3 []).2.2.1)<|ak (.bool (bu<|r.getD 3 []).2.2.1)<|gb (t:=53) aa (fun aU=> ?_) fun aU=> ?_
 refine pg aa aa aa (aT (aQ xb) aa)<|pg aa aa aa (nc aa)<|pg aa aa aa (fa u0 aa)<|pg aa aa aa (ld bA aa<|(a6 av).trans aa)<|pg aa aa aa (bH aa aa)<|p (bw aa)<|aE<|a _ _<|cd aa (fun cy=> ?_) fun cy=> ?_
 exact aj fun _ j=>aw<|j _ _<|rt<|tr<|f1 aa aa<|mo.no aW av aa (La A ag Z<|Ka aU ab) az
 exact aM<|tn<|⟨(fun _=>by omega),aa,aa,aa,aa,aa,aa⟩
 exact sk aa aa aa aa<|sk aa aa aa aa<|sk aa aa aa aa<|sk aa aa aa aa<|sk aa aa aa aa<|p (bm aa)<|aE<|a _ _<|cf aa<|aM<|tn<|⟨(fun h=>absurd (h.symm.trans aU) eb),aa,aa,aa,aa,aa,aa⟩
 rintro M bc ⟨bn,c6,cW,cY,c1,cZ,c0⟩
 refine fx 0 cW<|fx 1 cY<|fx 2 c1<|fx 10 cZ<|fx 11 c0 ?_
 subst c6
 refine ec (fun aC I=> ∃ (l:List Nat) (vn:Value),(kT F.kind F.aliases c.kind (bu<|r.getD 3 [])= .ok l)∧(I.heap[xb]? =some (.cells [au (c.kind),bM c.flag,.bool c.ei,str s1,str q,str [],vn,au ln].toArray 174 (0,0)))∧(vn.oneCell'=true)∧(Tg I 0 3 l.length vn<|l.map bM)∧(nC I B 0 fb F V)∧(Tg I aD 9 r.length (.slice ar r.length cr)<|r.map str)∧(Md (fun k=>k=xb) w I)∧(aC 0=aQ fb)∧(aC 1=aQ xb)∧(aC 2= .slice ar r.length cr)) ?_ ?_
 refine aj fun _ a=>ak (.bool (bu<|r.getD 3 []).2.2.1)<|aE<|a _ _<|cb aa (fun E=> ?_) fun E=> ?_
 refine aj fun _ j=>ak (aQ xb)<|ak (aQ fb)<|ak (str (bu<|r.getD 3 []).2.1)<|e<|cl F1 (IH B fb F V (bu<|r.getD 3 []).2.1 bc aN hk cH ab) aa fun dw bL ch=> ?_
 obtain ⟨⟨ah,aK,rfl,aZ,bl⟩,hE65⟩:=ch
 have a4:=Wk.aJ hE65 av
 have cM:Md (fun k=>k=xb) w bL:=aW.trans' hE65 fun _ _ h=>h.elim
 refine p mv<|p (xt aa aa)<|p (xt aa aa)<|p (nc aa)<|p (fa u6 aa)<|e<|cV Bp aa aa (v:=ah) aZ a4 (by show _ < 8; omega) fun dg al b3=> ?_
 have bE:=a4
 have cn:=(bi.wk hE65).md al<|fg bE az
 have b9:=(aN.wk hE65).md al (TF.eq (L:= [176]) (dt bE) az) az
 have bo:=(cM).trans' al fun _ _ h=>h
 have bI:dg.heap[xb]? =some (.cells [au (c.kind),bM c.flag,.bool c.ei,str s1,str q,str [],ah,au ln].toArray 174 (0,0)):=b3
 refine aw<|j _ _<|aj fun _ O=>p mv<|p (cX aa aa)<|nl<|tn<|O _ _<|cd aa (fun cz=> ?_) fun cz=> ?_
 obtain ⟨cD,cF⟩:aK≠0∧fN F.kind F.aliases (bu<|r.getD 3 []).2.1= .error aK:=by
  rcases bl with ⟨l,h,_⟩ | h
  omega
  exact h
 exact aj fun _ U=>p mv<|aw<|U _ _<|rt<|tr<|f1 aa aa<|mo.no bo bI aZ (La A ag Z<|(yN E<|bn E).trans cF) cD
 obtain ⟨l,rfl,cG,cp⟩:∃ l,aK=0∧fN F.kind F.aliases (bu<|r.getD 3 []).2.1= .ok l∧Tg bL 0 3 l.length ah (l.map bM):=by
  rcases bl with h | ⟨h,_⟩
  exact h
  omega
 exact aM<|tn<|⟨l,ah,((yN E<|bn E).trans cG),bI,aZ,(cp.md al<|fg a4 az),b9,cn,bo,aa,aa,aa⟩
 exact aM<|tn<|⟨[],.slice none 0 0,(Kb E),av,aa,(r6 _ _ _),aN,bi,aW,aa,aa,aa⟩
 rintro aC I ⟨l,vn,aY,a9,a2,cs,dm,co,cO,c2,c3,c4⟩
 refine fx 0 c2<|fx 1 c3<|fx 2 c4<|aj fun _ a=>ak (aQ xb)<|p (nc aa)<|p (fa BZ aa)<|e<|cV kN aa aa (v:=str [46]) aa a9 (by show _ < 8; omega) fun ax aP b4=> ?_
 have de:=a9
 have am:=(co).md aP<|fg de az
 have ae:=(cO).trans' aP fun _ _ h=>h
 have bx:ax.heap[xb]? =some (.cells [au (c.kind),bM c.flag,.bool c.ei,str s1,str q,str [46],vn,au ln].toArray 174 (0,0)):=b4
 have bj:=cs.md aP<|fg a9 az
 refine aE<|a _ _ ?_
 refine ec (fun dk aA=> ∃ (cd:Tx),(kM r= .ok cd)∧(aA.heap[xb]? =some (.cells [au (c.kind),bM c.flag,.bool c.ei,str s1,str q,str cd,vn,au ln].toArray 174 (0,0)))∧(Tg aA 0 3 l.length vn<|l.map bM)∧(Md (fun k=>k=xb) w aA)) ?_ ?_
 refine aj fun _ j=>ak (.slice ar r.length cr)<|p (bF eQ aa aa)<|p (bH aa aa)<|aE<|j _ _<|cd aa (fun cA=> ?_) fun cA=> ?_
 have dq:(r.getD 4 []).length≤70000:=a1 _<|dQ ab
 have a0:r.length=5:=ab
 refine aj fun _ O=>ak (.slice ar r.length cr)<|p (a7 cE aa aa ab<|aI.ok (am.cI.2)<|bP ab)<|p (ld bR aa<|bX.get (i:=4) am.cI.2 ab)<|e<|cl uM (vH (r.getD 4 []) ax ab) aa fun dx bN ci=> ?_
 obtain ⟨rfl,Y⟩:=ci
 have bz:=Wk.aJ Y bx
 have bq:Md (fun k=>k=xb) w bN:=ae.trans' Y fun _ _ h=>h.elim
 refine aw<|O _ _<|sq fun _ U=>aj fun _ aF=>p mv<|p (no aa)<|aE<|aF _ _<|cb aa (fun ap=> ?_) fun ap=> ?_
 exact aj fun _ aG=>aw<|aG _ _<|rt<|tr<|tr<|f1 aa aa<|mo.no bq bz a2 (Lb A ag Z aY<|GO a0<|by simpa using ap) az
 refine aM<|tn<|U _ _<|aj fun _ aG=>ak (.slice ar r.length cr)<|p (a7 cE aa aa ab<|aI.ok ((am.wk Y).cI.2)<|bP ab)<|p (ld bR aa<|bX.get (i:=4) (am.wk Y).cI.2 ab)<|e<|cl F3 (KG (r.getD 4 []) bN ab) aa fun dy bO cj=> ?_
 obtain ⟨⟨dl,rfl,bs⟩,hE89⟩:=cj
 obtain ⟨ac,cc,rfl⟩:=cw bs
 have bB:=Wk.aJ hE89 bz
 have br:Md (fun k=>k=xb) w bO:=bq.trans' hE89 fun _ _ h=>h.elim
 refine p mv<|p (xt aa aa)<|p (xt aa aa)<|p aB<|aw<|aG _ _<|sq fun _ bS=>aj fun _ bT=>p mv<|p (cX aa aa)<|aE<|bT _ _<|cd aa (fun cB=> ?_) fun cB=> ?_
 exact aj fun _ bU=>p mv<|aw<|bU _ _<|rt<|tr<|tr<|f1 aa aa<|mo.no br bB a2 (Lb A ag Z aY<|GP a0 (by simpa using ap) ab) ab
 refine aM<|tn<|bS _ _<|rg aa<|ak (aQ xb)<|p mv<|e<|cl P4 (XD (da<|r.getD 4 []).1 ac cc bO (aX bs).2 (by have :=GW (r.getD 4 []); omega) fun t c5=>RL c5 ab) aa fun dz dj ck=> ?_
 obtain ⟨rfl,aL⟩:=ck
 have bC:=Wk.aJ aL bB
 have cN:Md (fun k=>k=xb) w dj:=br.trans' aL fun _ _ h=>h.elim
 refine p (nc aa)<|p (fa BZ aa)<|e<|cV kN aa aa (v:=str<|l6 (da<|r.getD 4 []).1) aa bC (by show _ < 8; omega) fun dh bf b5=> ?_
 have db:dh.heap[xb]? =some (.cells [au (c.kind),bM c.flag,.bool c.ei,str s1,str q,str (l6 (da<|r.getD 4 []).1),vn,au ln].toArray 174 (0,0)):=b5
 have cK:=cN.trans' bf fun _ _ h=>h
 have cq:=(((bj.wk Y).wk hE89).wk aL).md bf<|fg bC az
 exact aE<|⟨l6 (da<|r.getD 4 []).1,(GQ a0 (by simpa using ap) ab),db,cq,cK⟩
 exact aM<|tn<|⟨[46],(GR ab),bx,bj,ae⟩
 rintro dk aA ⟨cd,cC,dd,ct,cP⟩
 exact aj fun _ j=>aw<|j _ _<|rt<|f1 aa aa<|mo.ok cP dd a2 ct<|XM A ag Z aY cC
theorem Ua (I:World) (H:fY) (F:aR) (k ln:Nat) (seen r:List Tx) (bQ:Nat) (ar:Option Addr) (cr:Nat) (w:World) (a:mm I w H F k ln seen) (bK:Tg w bQ 9 r.length (.slice ar r.length cr) (r.map str)) (dn:r≠[]) (bx:∀ x∈r,x.length≤70000) (dF:F.dd.length+F.aliases.length+F.bp.length+F.rules.length+(H.rows.drop k).length < 70000) (dc:r.getD 0 []≠e5→r.getD 0 []≠eE→0 < F.bp.length):
 bh ay 234 (ba [aQ H.rb,.slice ar r.length cr]) w (fun v w'=>((∃ F',iY F ln r= .ok F'∧v=au 0∧mm I w' H F' k ln seen)∨(∃ e:Nat,iY F ln r= .error e∧e≠0∧v=au e∧Hb.aO w'.heap H.rb 5=some (au ln)))∧Wk I w'):=by
 obtain ⟨V,vh,M,ah,J,aG,bO⟩:=a
 have bb:=bK.cI
 have dV:=ah.lo
 have dT:=M.lo
 have dM:=J.len
 have dY:=lx.2 dn
 have dW:=(dm.1 ah.cells).1
 obtain ⟨cS,kr,cG⟩:=cw M.ej
 have bu:=M.ej
 rw [cG] at bu
 have bN:Hb.aO w.heap H.fb 11=some (.slice cS F.bp.length kr):=by rw [← cG]; exact (a6 M.cells).trans rfl
 refine enter func234 aa ntmps234 aa<|aj fun _ cM=>aw<|cM _ _<|aj fun _ cN=>ak (aQ H.rb)<|p (nc aa)<|p (fa lJ aa)<|p (ld gW aa<|(a6 ah.cells).trans aa)<|aw<|cN _ _<|sq fun _ cP=>sq fun _ cQ=>rg aa<|ak (.slice ar r.length cr)<|p (a7 cE aa aa ab<|aI.ok (bb.2)<|bP ab)<|p (ld bR aa<|bX.get (i:=0) bb.2 ab)<|aE<|cQ _ _<|aJ<|sq fun _ cR=>rg aa<|p (dR aa aa)<|aw<|cR _ _<|cd aa (fun cb=> ?_) fun cb=> ?_
 have ac:r.getD 0 []=e5:=cb
 refine sq fun _ bS=>aj fun _ a8=>ak (.slice ar r.length cr)<|p (bF eQ aa aa)<|p (cX aa aa)<|aE<|a8 _ _<|cd aa (fun c8=> ?_) fun c8=> ?_
 exact aj fun _ aF=>aw<|aF _ _<|rt<|tr<|br<|tr<|f1 aa aa<|⟨.inr ⟨111,by unfold iY; rw [if_pos ac,KN ab],az,aa,ah.dj⟩,aG⟩
 have cj:r.length=3:=ab
 have dg:=bx _<|dQ (d:= []) (i:=1) ab
 have dU:=bx _<|dQ (d:= []) (i:=2) ab
 refine aM<|tn<|bS _ _<|aj fun _ aF=>ak (.slice ar r.length cr)<|p (a7 cE aa aa ab<|aI.ok (bb.2)<|bP ab)<|p (ld bR aa<|bX.get (i:=1) bb.2 ab)<|e<|cl AV (Cp (r.getD 1 []) false w ab) aa fun v30 dy c1=> ?_
 obtain ⟨⟨aK,bz,rfl,aH⟩,hE30⟩:=c1
 have cy:=bK.wk hE30
 refine p mv<|p (xt aa aa)<|p (xt aa aa)<|p aB<|aw<|aF _ _<|sq fun _ al=>aj fun _ aL=>p mv<|p (cX aa aa)<|aE<|aL _ _<|cd aa (fun c9=> ?_) fun c9=> ?_
 have cC:et false (r.getD 1 [])= .error bz∧bz≠0:=by
  rcases aH with ⟨_,h⟩ | h
  omega
  exact h
 exact aj fun _ av=>p mv<|aw<|av _ _<|rt<|tr<|br<|tr<|f1 aa aa<|⟨.inr ⟨bz,by unfold iY; rw [if_pos ac,KO cj cC.1],cC.2,aa,(ah.wk hE30).dj⟩,aG.trans hE30⟩
 obtain ⟨cD,rfl⟩:et false (r.getD 1 [])= .ok aK∧bz=0:=by
  rcases aH with h | ⟨_,h⟩
  exact h
  omega
 refine aM<|tn<|al _ _<|aj fun _ av=>ak (.slice ar r.length cr)<|p (a7 cE aa aa ab<|aI.ok (cy.cI.2)<|bP ab)<|p (ld bR aa<|bX.get (i:=2) cy.cI.2 ab)<|e<|cl AV (Cp (r.getD 2 []) true dy ab) aa fun v40 d4 c2=> ?_
 obtain ⟨⟨a3,cW,rfl,dl⟩,hE40⟩:=c2
 have cv:=hE30.trans hE40
 have O:=M.wk cv
 refine p mv<|p (xt aa aa)<|p (xt aa aa)<|p aB<|aw<|av _ _<|sq fun _ bc=>rg aa<|p mv<|p mv<|p (nc aa)<|p (fa Ii aa)<|p (ld Om aa<|(a6 O.cells).trans aa)<|p mv<|p mv<|p (cO (ps:= [(0,str aK),(1,str a3)]) (L:= [str aK,str a3]) YA aa<|aa)<|e<|kq Lo aa aa aa fun dD d5 dK c0 cY=> ?_
 have bD:=cv.trans c0.md
 have C:=M.wk bD
 have aY:=ah.wk bD
 have dZ:=bD.size
 refine e<|ap Lo (C.o9) aa ab aa (aI.dS cY) (aa) (aa) ab ab fun cH cK cz bG d0 dO=> ?_
 have aZ:=aY.own C.o9 bG az
 have ao:=bG.aJ C.cells<|dw C.o9 C.cells az
 have di:bo cK I.heap.size 369 2 cH (F.dd++ [(aK,a3)]).length (kU<|F.dd++ [(aK,a3)]):=by rw [show kU (F.dd++ [(aK,a3)])=kU F.dd++ [str aK,str a3] from by simp [kU],bI]; exact cz
 have a1:Wk I cK:=(aG.trans bD).trans' bG fun k hk h=>by have :=(dI C.o9 h).1; omega
 refine p (nc aa)<|p (fa Ii aa)<|e<|cV R7 aa aa (v:=cH) (eH cz) ao (by show _ < 13; omega) fun a5 U aP=> ?_
 have aU:=eA.Ar (x:=(aK,a3)) C bG di U aP
 have an:=aZ.oF ao U
 have Z:Wk I a5:=a1.trans' U fun k hk h=>by omega
 refine aE<|bc _ _<|aj fun _ bd=>p mv<|aw<|bd _ _<|rt<|br<|tr<|f1 aa aa ?_
 rcases dl with ⟨aq,rfl⟩ | ⟨aq,bt⟩
 exact ⟨.inl ⟨_,by unfold iY; rw [if_pos ac,KQ cj cD aq],aa,⟨_,vh,aU,an,⟨by simp only [bI,eW]; omega,J.sl,J.row,J.kd⟩,Z,bO⟩⟩,Z⟩
 exact ⟨.inr ⟨cW,by unfold iY; rw [if_pos ac,KP cj cD aq],bt,aa,an.dj⟩,Z⟩
 have ac:¬r.getD 0 []=e5:=cb
 refine aj fun _ bS=>p (dR aa aa)<|aw<|bS _ _<|cd aa (fun cc=> ?_) fun cc=> ?_
 have h1:r.getD 0 []=eE:=cc
 refine sq fun _ a8=>aj fun _ aF=>ak (.slice ar r.length cr)<|p (bF eQ aa aa)<|p (cX aa aa)<|aE<|aF _ _<|cd aa (fun da=> ?_) fun da=> ?_
 exact aj fun _ al=>aw<|al _ _<|rt<|tr<|br<|tr<|f1 aa aa<|⟨.inr ⟨111,by unfold iY; rw [if_neg ac,if_pos h1,Fh ab],az,aa,ah.dj⟩,aG⟩
 have cF:r.length=2:=ab
 have dg:=bx _<|dQ (d:= []) (i:=1) ab
 refine aM<|tn<|a8 _ _<|sq fun _ al=> ?_
 have aC:(fun w'=>Wk w w') w.drew:=(Md.refl _ _).drew
 refine bJ (fun w'=>Wk w w') aa wide aC<|aH 0 aa (fun _ _=>mv) aC<|aH 1 aa (fun _ _=>nc aa) aC<|aH 2 aa (fun _ _=>fa tj aa) aC<|aH 3 aa (fun w' a=>ld bA aa<|Wk.aO a<|(a6 M.cells).trans aa) aC<|bC 4 aa (.slice ar r.length cr) aC<|aH 5 aa (fun _ _=>a7 cE aa aa ab<|aI.ok (aI.wk bb.2 aC)<|bP ab) aC<|aH 6 aa (fun w' a=>ld bR aa<|Wk.aO a<|bX.get (i:=1) bb.2 ab) aC<|he 7 aa ag<|cl Gf (KS F.kind (r.getD 1 []) w.drew J.kd ab) aa fun d3 dz c3=> ?_
 obtain ⟨⟨dC,rfl,cA⟩,bg⟩:=c3
 obtain ⟨ct,cu,rfl⟩:=cw cA
 have bg:=ib bg
 have O:=M.wk bg
 have a9:(fun w'=>Wk w w') dz:=Md.mono bg fun _ _ h=>h
 refine ⟨a9,?_⟩
 refine aH 8 aa (fun _ _=>mv) a9<|aH 9 aa (fun _ _=>xt aa aa) a9<|aH 10 aa (fun _ _=>xt aa aa) a9<|aH 11 aa (fun _ _=>aB) a9<|aH 12 aa (fun _ _=>aB) a9<|hn ag<|tn<|al _ _<|sq fun _ aL=>rg aa<|p mv<|p mv<|p (nc aa)<|p (fa u7 aa)<|p (ld xr aa<|(a6 O.cells).trans aa)<|p mv<|e<|fR Lp aa aa fun dE dA dL cx cZ=> ?_
 have bE:=bg.trans cx.md
 have C:=M.wk bE
 have aY:=ah.wk bE
 have d1:=bE.size
 refine e<|ap Lp (C.eO) aa ab aa (aI.dS cZ) (aa) (aa) ab ab fun cJ cL cB bH d2 dP=> ?_
 have aZ:=aY.own C.eO bH az
 have ao:=bH.aJ C.cells<|dw C.eO C.cells az
 have c4:Tg dA 0 3 (dX F.kind<|r.getD 1 []).1.length (.slice ct (dX F.kind<|r.getD 1 []).1.length cu) ((dX F.kind<|r.getD 1 []).1.map bM):=((Tg.jN cA).mono<|jD _).wk cx.md
 have dk:bo cL I.heap.size 75 1 cJ (F.aliases++ [(dX F.kind<|r.getD 1 []).1]).length (V.sa++ [.slice ct (dX F.kind<|r.getD 1 []).1.length cu]):=by rw [bI]; exact cB
 have a1:Wk I cL:=(aG.trans bE).trans' bH fun k hk h=>by have :=(dI C.eO h).1; omega
 refine p (nc aa)<|p (fa u7 aa)<|e<|cV R8 aa aa (v:=cJ) (eH cB) ao (by show _ < 13; omega) fun a5 U aP=> ?_
 have aU:=eA.Ap (x:=(dX F.kind<|r.getD 1 []).1) C c4 bH dk U aP
 have an:=aZ.oF ao U
 have Z:Wk I a5:=a1.trans' U fun k hk h=>by omega
 refine aE<|aL _ _<|aj fun _ av=>p mv<|aw<|av _ _<|rt<|br<|tr<|f1 aa aa ?_
 by_cases h:(dX F.kind<|r.getD 1 []).2=0
 exact ⟨.inl ⟨_,by unfold iY; rw [if_neg ac,if_pos h1,xw cF,yw h],by rw [h]; rfl,⟨_,vh,aU,an,⟨by simp only [bI,eW]; omega,J.sl,J.row,J.kd⟩,Z,bO⟩⟩,Z⟩
 exact ⟨.inr ⟨_,by unfold iY; rw [if_neg ac,if_pos h1,xw cF,yv h],h,aa,an.dj⟩,Z⟩
 have h1:¬r.getD 0 []=eE:=cc
 have dN:=dc ac h1
 refine aM<|bn<|tn<|cP _ _<|sq fun _ a8=>aj fun _ aF=>ak (.slice ar r.length cr)<|p (bF eQ aa aa)<|p (cX aa aa)<|p mv<|gs (t:=86) aa (fun df=> ?_) fun df=> ?_
 refine pg aa aa aa (aT (.slice ar r.length cr) aa)<|pg aa aa aa (bF eQ aa aa)<|pg aa aa aa (cX aa aa)<|p (bw aa)<|aE<|aF _ _<|cd aa (fun db=> ?_) fun db=> ?_
 exact aj fun _ al=>aw<|al _ _<|rt<|tr<|f1 aa aa<|⟨.inr ⟨111,by unfold iY; rw [if_neg ac,if_neg h1,Ds ab ab],az,aa,ah.dj⟩,aG⟩
 have ck:r.length=4∨r.length=5:=ab
 refine aM<|tn<|a8 _ _<|sq fun _ al=> ?_
 have A:(fun w'=>Wk w w') w.drew:=(Md.refl _ _).drew
 refine bJ (fun w'=>Wk w w') aa wide A<|aH 0 aa (fun _ _=>mv) A<|aH 1 aa (fun _ _=>nc aa) A<|aH 2 aa (fun _ _=>fa pJ aa) A<|aH 3 aa (fun w' a=>ld qi aa<|Wk.aO a<|bN) A<|aH 4 aa (fun _ _=>mv) A<|aH 5 aa (fun _ _=>nc aa) A<|aH 6 aa (fun _ _=>fa pJ aa) A<|aH 7 aa (fun w' a=>ld qi aa<|Wk.aO a<|bN) A<|aH 8 aa (fun _ _=>bF DN aa aa) A<|aH 9 aa (fun _ _=>dJ ((F.bp.length - 1:Nat):Int) aa aa<|bj ab ab) A<|aH 10 aa (fun _ _=>a7 xX aa aa ab<|aI.ok (aI.wk (aX bu).2 A)<|yy ab) A<|aH 11 aa (fun w' a=>cT sN aa (aa) fun j bs=>e9 (f:=ng) (m:=5) (fun _=>rfl) (aI.wk (aX bu).2 a) (uN (by omega :F.bp.length - 1 < F.bp.length)) j bs) A<|he 12 aa ag<|ga sc fun bT cp c5 aV bU=> ?_
 have dr:=aV.size
 have du:=A.size
 have b6:(fun w'=>Wk w w') cp:=A.trans aV.md
 refine ⟨b6,?_⟩
 refine he 13 aa ag<|gi qu aa aa aa aa bU az fun G b2 bY=> ?_
 have aA:Wk w G:=(A.trans aV.md).trans' b2 fun k hk h=>by omega
 have a2:G.heap[bT]? =some (.cells (ng<|gE F).toArray 242 (0,0)):=bY
 have b7:(fun w'=>Wk w w') G:=aA
 refine ⟨b7,?_⟩
 refine hn ag<|tn<|al _ _<|sq fun _ aL=> ?_
 have E:(fun w'=>Wk G w') G.drew:=(Md.refl _ _).drew
 refine bJ (fun w'=>Wk G w') aa wide E<|aH 0 aa (fun _ _=>fa yj aa) E<|aH 1 aa (fun w' a=>ld bA aa<|Wk.aO a<|(a6 a2).trans aa) E<|aH 2 aa (fun _ _=>fa B8 aa) E<|aH 3 aa (fun w' a=>ld bA aa<|Wk.aO a<|(a6 a2).trans aa) E<|aH 4 aa (fun _ _=>fa Ip aa) E<|aH 5 aa (fun w' a=>ld mY aa<|Wk.aO a<|(a6 a2).trans aa) E<|bC 6 aa (aQ H.rb) E<|aH 7 aa (fun _ _=>nc aa) E<|aH 8 aa (fun _ _=>fa pL aa) E<|aH 9 aa (fun w' a=>ld bA aa<|Wk.aO a<|(a6 (ah.wk aA).cells).trans aa) E<|aH 10 aa (fun _ _=>cO (ps:= [(0,au ((gE F).kind)),(1,bM (gE F).flag),(2,.bool (gE F).ei),(7,au ln)]) (L:= [au ((gE F).kind),bM (gE F).flag,.bool (gE F).ei,.string ⟨⟨[]⟩⟩,.string ⟨⟨[]⟩⟩,.string ⟨⟨[]⟩⟩,.slice none 0 0,au ln]) LA aa<|aa) E<|he 11 aa ag<|ga D2 fun aN cq c6 aW bV=> ?_
 have ds:=aW.size
 have b8:(fun w'=>Wk G w') cq:=E.trans aW.md
 refine ⟨b8,?_⟩
 refine he 12 aa ag<|gi Bk aa aa aa aa bV az fun aD b3 bZ=> ?_
 have bf:Wk G aD:=(E.trans aW.md).trans' b3 fun k hk h=>by have :=E.size; omega
 have aS:=aA.trans bf
 have cn:aD.heap[aN]? =some (.cells [au ((gE F).kind),bM (gE F).flag,.bool (gE F).ei,str [],str [],str [],.slice none 0 0,au ln].toArray 174 (0,0)):=bZ
 have dq:=E.size
 have dp:=aA.size
 have b9:(fun w'=>Wk G w') aD:=bf
 refine ⟨b9,?_⟩
 refine hn ag<|tn<|aL _ _<|aj fun _ av=>p mv<|ak (.slice ar r.length cr)<|e<|cl Gl (IQ I.heap.size H.fb aN F V (gE F) ln r bQ ar cr aD (M.wk aS).r J.kd ab cn (bK.wk aS) ck bx) aa fun dx ai b5=> ?_
 obtain ⟨ce,L,bi,b0,b1,cm⟩:=b5
 have ax:Wk w ai:=aS.trans' ce fun k hk h=>by omega
 have O:=M.wk ax
 have bk:=ah.wk ax
 have dh:¬(V.v12.ownBlock=some H.rb):=dw O.dB bk.cells az
 have cg:¬(V.v12.ownBlock=some H.fb):=dw O.dB O.cells az
 have ch:¬(V.v12.ownBlock=some aN):=fun h=>by have :=(dI M.dB h).2; omega
 refine aw<|av _ _<|sq fun _ bc=> ?_
 have Y:(fun w'=>Md (fun k=>V.v12.ownBlock=some k) ai w') ai.drew:=(Md.refl _ _).drew
 refine eM (fun w'=>Md (fun k=>V.v12.ownBlock=some k) ai w') 10 aa wide Y<|bq 0 aa (fun _=>mv) (fun _=>Y)<|bq 1 aa (fun _=>mv) (fun _=>Y)<|bq 2 aa (fun _=>nc aa) (fun _=>Y)<|bq 3 aa (fun _=>fa jL aa) (fun _=>Y)<|dH 4 aa (fun w' a=>ld j6 aa<|Md.aO a ((a6 O.cells).trans aa) cg) Y<|dH 5 aa (fun w' a=>cT rv aa (bi) fun j bs=>bL.bB ⟨_,Md.aJ a b1 ch⟩ j) Y<|gL 6 aa ag<|kq y5 aa aa bi fun cU cs c7 b4 bW=> ?_
 have ae:=ib b4.md
 have C:=O.wk ae
 have aY:=bk.wk ae
 have dv:=(ax.trans ae).size
 have bl:(fun w'=>Md (fun k=>V.v12.ownBlock=some k) ai w') cs:=Md.mono ae fun _ _ h=>h.elim
 refine ⟨bl,?_⟩
 refine gL 7 aa ag<|ap y5 (C.dB) aa ab aa (aI.dS bW) ab (b0) ab ab fun v124 a4 bv am dt de=> ?_
 have aZ:=aY.own C.dB am az
 have ao:=am.aJ C.cells<|dw C.dB C.cells az
 have a1:Wk I a4:=(aG.trans<|ax.trans ae).trans' am fun k hk h=>by have :=(dI C.dB h).1; omega
 have a0:(fun w'=>Md (fun k=>V.v12.ownBlock=some k) ai w') a4:=bl.trans' am fun _ _ h=>h
 refine ⟨a0,?_⟩
 refine bq 8 aa (fun _=>nc aa) (fun _=>a0)<|bq 9 aa (fun _=>fa jL aa) (fun _=>a0)<|dG 10 aa ag ag<|cV G2 aa aa (v:=v124) (eH bv) ao (by show _ < 13; omega) fun a5 U aP=> ?_
 have an:=aZ.oF ao U
 have Z:Wk I a5:=a1.trans' U fun k hk h=>by omega
 refine eL ag<|tn<|bc _ _<|aj fun _ bd=>p mv<|aw<|bd _ _<|rt<|f1 aa aa ?_
 have co:F.rules.length=V.rn.length:=by have :=C.nx.1; rw [fE] at this; exact this.symm
 rcases cm with ⟨q,vn,aq,rfl,rfl,ca⟩ | ⟨e,aq,bt,rfl⟩
 have ci:bo a4 I.heap.size 174 8 v124 (F.rules++ [q]).length (mz<|(F.rules++ [q]).zip<|V.rn++ [vn]):=by
  rw [EI co,show mz (F.rules.zip V.rn++ [q].zip [vn])=mz (F.rules.zip V.rn)++jv (q,vn) from by simp [mz],bI]
  exact bv
 have aU:=eA.xy (x:=q) (vx:=vn) C (ca.wk ae) am ci U aP
 exact ⟨.inl ⟨_,by unfold iY; rw [if_neg ac,if_neg h1,aq],aa,⟨_,vh,aU,an,⟨by simp only [bI,eW]; omega,J.sl,J.row,J.kd⟩,Z,bO⟩⟩,Z⟩
 exact ⟨.inr ⟨e,by unfold iY; rw [if_neg ac,if_neg h1,aq],bt,aa,an.dj⟩,Z⟩
 have ck:r.length=4∨r.length=5:=ab
 refine sk aa aa aa aa<|sk aa aa aa aa<|sk aa aa aa aa<|p (bm aa)<|aE<|aF _ _<|cf aa<|aM<|tn<|a8 _ _<|sq fun _ al=> ?_
 have A:(fun w'=>Wk w w') w.drew:=(Md.refl _ _).drew
 refine bJ (fun w'=>Wk w w') aa wide A<|aH 0 aa (fun _ _=>mv) A<|aH 1 aa (fun _ _=>nc aa) A<|aH 2 aa (fun _ _=>fa pJ aa) A<|aH 3 aa (fun w' a=>ld qi aa<|Wk.aO a<|bN) A<|aH 4 aa (fun _ _=>mv) A<|aH 5 aa (fun _ _=>nc aa) A<|aH 6 aa (fun _ _=>fa pJ aa) A<|aH 7 aa (fun w' a=>ld qi aa<|Wk.aO a<|bN) A<|aH 8 aa (fun _ _=>bF DN aa aa) A<|aH 9 aa (fun _ _=>dJ ((F.bp.length - 1:Nat):Int) aa aa<|bj ab ab) A<|aH 10 aa (fun _ _=>a7 xX aa aa ab<|aI.ok (aI.wk (aX bu).2 A)<|yy ab) A<|aH 11 aa (fun w' a=>cT sN aa (aa) fun j bs=>e9 (f:=ng) (m:=5) (fun _=>rfl) (aI.wk (aX bu).2 a) (uN (by omega :F.bp.length - 1 < F.bp.length)) j bs) A<|he 12 aa ag<|ga sc fun bT cp c5 aV bU=> ?_
 have dr:=aV.size
 have du:=A.size
 have b6:(fun w'=>Wk w w') cp:=A.trans aV.md
 refine ⟨b6,?_⟩
 refine he 13 aa ag<|gi qu aa aa aa aa bU az fun G b2 bY=> ?_
 have aA:Wk w G:=(A.trans aV.md).trans' b2 fun k hk h=>by omega
 have a2:G.heap[bT]? =some (.cells (ng<|gE F).toArray 242 (0,0)):=bY
 have b7:(fun w'=>Wk w w') G:=aA
 refine ⟨b7,?_⟩
 refine hn ag<|tn<|al _ _<|sq fun _ aL=> ?_
 have E:(fun w'=>Wk G w') G.drew:=(Md.refl _ _).drew
 refine bJ (fun w'=>Wk G w') aa wide E<|aH 0 aa (fun _ _=>fa yj aa) E<|aH 1 aa (fun w' a=>ld bA aa<|Wk.aO a<|(a6 a2).trans aa) E<|aH 2 aa (fun _ _=>fa B8 aa) E<|aH 3 aa (fun w' a=>ld bA aa<|Wk.aO a<|(a6 a2).trans aa) E<|aH 4 aa (fun _ _=>fa Ip aa) E<|aH 5 aa (fun w' a=>ld mY aa<|Wk.aO a<|(a6 a2).trans aa) E<|bC 6 aa (aQ H.rb) E<|aH 7 aa (fun _ _=>nc aa) E<|aH 8 aa (fun _ _=>fa pL aa) E<|aH 9 aa (fun w' a=>ld bA aa<|Wk.aO a<|(a6 (ah.wk aA).cells).trans aa) E<|aH 10 aa (fun _ _=>cO (ps:= [(0,au ((gE F).kind)),(1,bM (gE F).flag),(2,.bool (gE F).ei),(7,au ln)]) (L:= [au ((gE F).kind),bM (gE F).flag,.bool (gE F).ei,.string ⟨⟨[]⟩⟩,.string ⟨⟨[]⟩⟩,.string ⟨⟨[]⟩⟩,.slice none 0 0,au ln]) LA aa<|aa) E<|he 11 aa ag<|ga D2 fun aN cq c6 aW bV=> ?_
 have ds:=aW.size
 have b8:(fun w'=>Wk G w') cq:=E.trans aW.md
 refine ⟨b8,?_⟩
 refine he 12 aa ag<|gi Bk aa aa aa aa bV az fun aD b3 bZ=> ?_
 have bf:Wk G aD:=(E.trans aW.md).trans' b3 fun k hk h=>by have :=E.size; omega
 have aS:=aA.trans bf
 have cn:aD.heap[aN]? =some (.cells [au ((gE F).kind),bM (gE F).flag,.bool (gE F).ei,str [],str [],str [],.slice none 0 0,au ln].toArray 174 (0,0)):=bZ
 have dq:=E.size
 have dp:=aA.size
 have b9:(fun w'=>Wk G w') aD:=bf
 refine ⟨b9,?_⟩
 refine hn ag<|tn<|aL _ _<|aj fun _ av=>p mv<|ak (.slice ar r.length cr)<|e<|cl Gl (IQ I.heap.size H.fb aN F V (gE F) ln r bQ ar cr aD (M.wk aS).r J.kd ab cn (bK.wk aS) ck bx) aa fun dx ai b5=> ?_
 obtain ⟨ce,L,bi,b0,b1,cm⟩:=b5
 have ax:Wk w ai:=aS.trans' ce fun k hk h=>by omega
 have O:=M.wk ax
 have bk:=ah.wk ax
 have dh:¬(V.v12.ownBlock=some H.rb):=dw O.dB bk.cells az
 have cg:¬(V.v12.ownBlock=some H.fb):=dw O.dB O.cells az
 have ch:¬(V.v12.ownBlock=some aN):=fun h=>by have :=(dI M.dB h).2; omega
 refine aw<|av _ _<|sq fun _ bc=> ?_
 have Y:(fun w'=>Md (fun k=>V.v12.ownBlock=some k) ai w') ai.drew:=(Md.refl _ _).drew
 refine eM (fun w'=>Md (fun k=>V.v12.ownBlock=some k) ai w') 10 aa wide Y<|bq 0 aa (fun _=>mv) (fun _=>Y)<|bq 1 aa (fun _=>mv) (fun _=>Y)<|bq 2 aa (fun _=>nc aa) (fun _=>Y)<|bq 3 aa (fun _=>fa jL aa) (fun _=>Y)<|dH 4 aa (fun w' a=>ld j6 aa<|Md.aO a ((a6 O.cells).trans aa) cg) Y<|dH 5 aa (fun w' a=>cT rv aa (bi) fun j bs=>bL.bB ⟨_,Md.aJ a b1 ch⟩ j) Y<|gL 6 aa ag<|kq y5 aa aa bi fun cU cs c7 b4 bW=> ?_
 have ae:=ib b4.md
 have C:=O.wk ae
 have aY:=bk.wk ae
 have dv:=(ax.trans ae).size
 have bl:(fun w'=>Md (fun k=>V.v12.ownBlock=some k) ai w') cs:=Md.mono ae fun _ _ h=>h.elim
 refine ⟨bl,?_⟩
 refine gL 7 aa ag<|ap y5 (C.dB) aa ab aa (aI.dS bW) ab (b0) ab ab fun v124 a4 bv am dt de=> ?_
 have aZ:=aY.own C.dB am az
 have ao:=am.aJ C.cells<|dw C.dB C.cells az
 have a1:Wk I a4:=(aG.trans<|ax.trans ae).trans' am fun k hk h=>by have :=(dI C.dB h).1; omega
 have a0:(fun w'=>Md (fun k=>V.v12.ownBlock=some k) ai w') a4:=bl.trans' am fun _ _ h=>h
 refine ⟨a0,?_⟩
 refine bq 8 aa (fun _=>nc aa) (fun _=>a0)<|bq 9 aa (fun _=>fa jL aa) (fun _=>a0)<|dG 10 aa ag ag<|cV G2 aa aa (v:=v124) (eH bv) ao (by show _ < 13; omega) fun a5 U aP=> ?_
 have an:=aZ.oF ao U
 have Z:Wk I a5:=a1.trans' U fun k hk h=>by omega
 refine eL ag<|tn<|bc _ _<|aj fun _ bd=>p mv<|aw<|bd _ _<|rt<|f1 aa aa ?_
 have co:F.rules.length=V.rn.length:=by have :=C.nx.1; rw [fE] at this; exact this.symm
 rcases cm with ⟨q,vn,aq,rfl,rfl,ca⟩ | ⟨e,aq,bt,rfl⟩
 have ci:bo a4 I.heap.size 174 8 v124 (F.rules++ [q]).length (mz<|(F.rules++ [q]).zip<|V.rn++ [vn]):=by
  rw [EI co,show mz (F.rules.zip V.rn++ [q].zip [vn])=mz (F.rules.zip V.rn)++jv (q,vn) from by simp [mz],bI]
  exact bv
 have aU:=eA.xy (x:=q) (vx:=vn) C (ca.wk ae) am ci U aP
 exact ⟨.inl ⟨_,by unfold iY; rw [if_neg ac,if_neg h1,aq],aa,⟨_,vh,aU,an,⟨by simp only [bI,eW]; omega,J.sl,J.row,J.kd⟩,Z,bO⟩⟩,Z⟩
 exact ⟨.inr ⟨e,by unfold iY; rw [if_neg ac,if_neg h1,aq],bt,aa,an.dj⟩,Z⟩
end Go.Hb.Ad
end
section
set_option maxRecDepth 20000
set_option maxHeartbeats 1000000
namespace Go.Hb.EV
open Go.Hb.dT
open Go.Proofs
open Go.Hb.jP Go.Hb.sI Go.Hb.Ad Go.Hb.fq Go.Hb.fQ Go.Hb.mi Go.Hb.gn Go.Hb.lQ Go.Hb.nA Go.Hb.jF Go.Hb.iK Go.Hb.sJ Go.Hb.kn Go.Hb.xn Go.Hb.ot Go.Hb.po Go.Hb.uz Go.Hb.rr Go.Hb.j5 Go.Hb.ji
theorem drop_nil {α:Type} {l:List α} {k:Nat} (h:l.length≤k):l.drop k= []:=gP h
theorem Vu {F:aR} {c:c7} :gE {F with bp:=F.bp++ [c]} =c:=by
 unfold gE
 simp [cQ]
theorem Q3 {eof ln x n:Nat} {F:aR} {rows:List Rw} {r:List Tx} (i:r.length=4) (hk:r.getD 0 []≠e5) (a:r.getD 0 []≠eE) (h:gD F (r.getD 1 [])= .ok x) (h1:r.getD 2 []= [89]∨r.getD 2 []= [78]) (h2:eS (r.getD 3 []) 1024= .ok n) (h3:¬1024 < F.rules.length+n):
 gH eof F rows ln r=gJ (kz r) eof n {F with bp:=F.bp++ [(⟨x,(if r.getD 0 []=di then 2 else 1:Nat),(decide (r.getD 2 []= [89])),F.rules.length,n⟩:c7)]} rows:=by
 rw [I2 i,T7 hk a,Vu]
 unfold gH
 rw [h]
 simp only
 rw [if_neg (fun h3=>h1.elim h3.1 h3.2),h2]
 simp only
 rw [if_neg h3]
 all_goals rfl
theorem Xi {eof ln n:Nat} {F:aR} {rows:List Rw} {r:List Tx} (a:r.length=2) (hk:r.getD 0 []=e5) (h2:eS (r.getD 1 []) 256= .ok n):kg eof F rows ln r=gJ (kz r) eof n F rows:=by
 rw [I1 ab,hk,T6]
 unfold kg
 rw [h2]
 all_goals rfl
theorem Ow {eof ln n:Nat} {F:aR} {seen:List Tx} {rows:List Rw} {r:List Tx} (i:r.length=2) (hk:r.getD 0 []=eE) (a:¬(fz∈seen∨di∈seen)) (h2:eS (r.getD 1 []) 1024= .ok n):jS eof F seen rows ln r=gJ (kz r) eof n F rows:=by
 rw [I1 ab,hk,T5]
 unfold jS
 rw [if_neg a,h2]
 all_goals rfl
theorem Ud {F:aR} {V:eh} {i o x:Nat} (h5:F.sp.length=5) (hi:i < 5) (j:o=3 +i):(nQ F V).set o (bM x)=nQ {F with sp:=F.sp.set i x} V:=by
 subst j
 obtain ⟨k,cs,tr,sp,le,q,al,cl,ru⟩:=F
 match sp,h5 with
 | [a,b,c,d,e],_=>
   match i,hi with
   | 0,_=>rfl
   | 1,_=>rfl
   | 2,_=>rfl
   | 3,_=>rfl
   | 4,_=>rfl
theorem DB {s:Tx} (h:s∈dZ):dZ.idxOf s < 5:=by
 have :∀ k∈dZ,dZ.idxOf k < 5:=az
 exact this s h
theorem DA {s:Tx} (h:s∈dZ):pS s=(dZ.idxOf s:Nat):=if_pos h
section
variable {eof ln:Nat} {F:aR} {seen:List Tx} {rows:List Rw} {r:List Tx}
theorem IV (h:r.getD 0 []∈dZ):bY eof F seen rows ln r=kh F rows ln r:=by unfold bY; rw [if_pos h]
theorem Uk (h:r.getD 0 []=gZ):bY eof F seen rows ln r=kB F seen rows ln r:=by unfold bY; rw [h]; rfl
theorem IU (h:r.getD 0 []=iy):bY eof F seen rows ln r=mK F rows ln r:=by unfold bY; rw [h]; rfl
theorem IW (h:r.getD 0 []=iP):bY eof F seen rows ln r=mP F rows ln r:=by unfold bY; rw [h]; rfl
theorem Ct (h:r.getD 0 []=kb):bY eof F seen rows ln r=kS F rows ln r:=by unfold bY; rw [h]; rfl
theorem IT (h:r.getD 0 []=e5):bY eof F seen rows ln r=kg eof F rows ln r:=by unfold bY; rw [h]; rfl
theorem yB (h:r.getD 0 []=eE):bY eof F seen rows ln r=jS eof F seen rows ln r:=by unfold bY; rw [h]; rfl
theorem Uj (h:r.getD 0 []=fz∨r.getD 0 []=di):bY eof F seen rows ln r=gH eof F rows ln r:=by rcases h with h | h <;> (unfold bY; rw [h]; rfl)
theorem WS {k:Tx} (hw:width k≠0) (a:k∉dZ) (h1:k≠gZ) (h2:k≠iy) (h3:k≠iP) (h4:k≠kb) (h5:k≠e5) (i:k≠eE):k=fz∨k=di:=by
 unfold width at hw
 rw [if_neg (by simp [a,h1,h2,h3,h4,h5,i])] at hw
 by_cases h:k=fz∨k=di
 · exact h
 · rw [if_neg h] at hw; exact absurd rfl hw
end
theorem fF.eq {a:World} {H:fY} {seen:List Tx} {X Y:Except (Nat×Nat) (aR×List Rw)} {v:Value} {w:World} (h:fF a H seen X v w) (he:Y=X):fF a H seen Y v w:=he ▸ h
theorem fF.er {a:World} {H:fY} {seen:List Tx} {X:Except (Nat×Nat) (aR×List Rw)} {w:World} {l e:Nat} (h:X= .error (l,e)) (he:e≠0) (i:Hb.aO w.heap H.rb 5=some (.int .i64 (l:Nat))) (hw:Wk a w):fF a H seen X (.int .i64 (e:Nat)) w:=⟨.inr ⟨l,e,h,he,rfl,i⟩,hw⟩
theorem Cm (J:World) (H:fY) (F:aR) (k ln:Nat) (seen hd:List Tx) (bD:Nat) (Z:Option Addr) (ah n:Nat) (w:World) (aZ:GS J H) (A:mm J w H F k ln seen) (b9:Tg J bD 9 hd.length (.slice Z hd.length ah) (hd.map str)) (cL:hd.length=2∨hd.length=4) (cP:n≤70000) (ci:hd.getD 0 []≠e5→hd.getD 0 []≠eE→0 < F.bp.length):
 bh ay 178 (ba [aQ H.rb,.slice Z hd.length ah,au n]) w (fF J H seen<|gJ (kz hd) H.eof n F<|H.rows.drop k):=by
 have aL:∀ w,Wk J w→bX w.heap Z hd:=fun w h=>(b9.wk h).cI.2
 obtain ⟨a0,bW,bu⟩:∃ a c,H.vr= .slice a H.rows.length c:=by obtain ⟨B0,h1,_⟩:=aZ; exact h1.slice
 have a5:∀ (w:World) (k l:Nat) (s:List Tx) (vh:Value),gS w J.heap.size H k l s vh→Hb.aO w.heap H.rb 1=some (.slice a0 H.rows.length bW):=fun w k l s vh h=>by rw [← bu]; exact (a6 h.cells).trans rfl
 refine enter func178 aa ntmps178 aa<|aj fun _ bG=>aw<|bG _ _<|sq fun _ bN=>aj fun _ bO=>aw<|bO _ _<|aJ<|lp (fun bb aD M=> ∃ (i:Nat) (F':aR) (k' a8:Nat),(i≤n)∧(gJ (kz hd) H.eof (n - i) F' (H.rows.drop k')=gJ (kz hd) H.eof n F (H.rows.drop k))∧(mm J M H F' k' a8 seen)∧(F'.bp=F.bp)∧(aD 0=aQ H.rb)∧(aD 1= .slice Z hd.length ah)∧(aD 2=au n)∧(aD 7=au i)∧(n - i=bb)) _ ⟨0,F,k,ln,ab,aa,A,aa,aa,aa,aa,aa,aa⟩ ?_
 rintro bb aD M ⟨i,F',k',a8,hi,O,bg,bi,cu,cv,cw,cx,rfl⟩
 refine fx 0 cu<|fx 1 cv<|fx 2 cw<|fx 7 cx ?_
 have b8:=bg
 obtain ⟨V,vh,b1,ao,aX,bc,cN⟩:=bg
 have cO:H.rows.length≤70000:=by obtain ⟨_,_,_,h⟩:=aZ; exact h
 refine sq fun _ bQ=>aj fun _ bS=>ak (au i)<|ak (au n)<|p (lt aa aa)<|aE<|bS _ _<|cd aa (fun ce=> ?_) fun ce=> ?_
 refine aM<|tn<|bQ _ _<|sq fun _ aU=>aJ<|sq fun _ bU=>sq fun _ bV=> ?_
 have I:(fun w'=>Wk M w') M.drew:=(Md.refl _ _).drew
 refine bJ (fun w'=>Wk M w') aa wide I<|bC 0 aa (aQ H.rb) I<|aH 1 aa (fun _ _=>nc aa) I<|aH 2 aa (fun _ _=>fa oI aa) I<|aH 3 aa (fun w' A=>ld bA aa<|Wk.aO A<|(a6 ao.cells).trans aa) I<|bC 4 aa (aQ H.rb) I<|aH 5 aa (fun _ _=>nc aa) I<|aH 6 aa (fun _ _=>fa B7 aa) I<|aH 7 aa (fun w' A=>ld Al aa<|Wk.aO A<|a5 _ _ _ _ _ ao) I<|aH 8 aa (fun _ _=>bF zp aa aa) I<|aH 9 aa (fun _ _=>ge aa aa) I<|hn ag ?_
 have ap:=ao.wk I
 have b2:=b1.wk I
 have aY:=bc.trans I
 refine tn<|bV _ _<|cd aa (fun cg=> ?_) fun cg=> ?_
 have cs:H.rows.drop k'= []:=drop_nil ab
 rw [cs] at O
 refine aj fun _ aV=>ak (aQ H.rb)<|ak (aQ H.rb)<|p (nc aa)<|p (fa TE aa)<|p (ld bA aa<|(a6 ap.cells).trans aa)<|p (nc aa)<|p (fa pL aa)<|e<|cV gX aa aa (v:=au<|H.eof) aa ap.cells (by show _ < 6; omega) fun cD bd bY=> ?_
 have b5:=ap.dD (k':=k') (ln':=H.eof) bd bY
 have ca:Wk J cD:=aY.trans' bd fun q bo h=>by have :=ao.lo; omega
 exact aE<|aV _ _<|aj fun _ aS=>aw<|aS _ _<|rt<|tr<|br<|tr<|tr<|br<|tr<|f1 aa aa<|fF.er (T3 O ab) az b5.dj ca
 obtain ⟨U,Y,ar,cr,cG,cH,aP,bv,aF,bt,⟨bB,aA⟩,hvl⟩:=aZ.get aY (k:=k') ab
 rw [bu] at bv
 cases bv
 have cj:=congrArg List.length aP
 simp only [cM] at cj
 rw [aP] at O
 have aC:=aX.row (U,Y)<|by rw [aP]; exact NH ..
 have cQ:0 < Y.length:=lx.2 aC.1
 have cK:=aX.len
 refine aM<|tn<|bU _ _<|sq fun _ aV=> ?_
 have E:(fun w'=>Wk M.drew w') M.drew.drew:=(Md.refl _ _).drew
 refine bJ (fun w'=>Wk M.drew w') aa wide E<|bC 0 aa (aQ H.rb) E<|aH 1 aa (fun _ _=>nc aa) E<|aH 2 aa (fun _ _=>fa B7 aa) E<|aH 3 aa (fun w' A=>ld Al aa<|Wk.aO A<|a5 _ _ _ _ _ ap) E<|bC 4 aa (aQ H.rb) E<|aH 5 aa (fun _ _=>nc aa) E<|aH 6 aa (fun _ _=>fa oI aa) E<|aH 7 aa (fun w' A=>ld bA aa<|Wk.aO A<|(a6 ap.cells).trans aa) E<|aH 8 aa (fun _ _=>a7 nO aa aa ab<|aI.ok (aF)<|lM ab) E<|aH 9 aa (fun _ _=>fa vg aa) E<|aH 10 aa (fun w' A=>ld jR aa<|Wk.aO A<|lN aF bt 1 az) E<|aH 11 aa (fun _ _=>aB) E<|hn ag ?_
 have ax:=ap.wk E
 refine tn<|aV _ _<|sq fun _ aS=> ?_
 have C:(fun w'=>Wk M.drew.drew w') M.drew.drew.drew:=(Md.refl _ _).drew
 refine eM (fun w'=>Wk M.drew.drew w') 14 aa wide C<|bz 0 aa (aQ H.rb) C<|bz 1 aa (aQ H.rb) C<|bq 2 aa (fun _=>nc aa) (fun _=>C)<|bq 3 aa (fun _=>fa B7 aa) (fun _=>C)<|dH 4 aa (fun w' A=>ld Al aa<|Wk.aO A<|a5 _ _ _ _ _ ax) C<|bz 5 aa (aQ H.rb) C<|bq 6 aa (fun _=>nc aa) (fun _=>C)<|bq 7 aa (fun _=>fa oI aa) (fun _=>C)<|dH 8 aa (fun w' A=>ld bA aa<|Wk.aO A<|(a6 ax.cells).trans aa) C<|bq 9 aa (fun _=>a7 nO aa aa ab<|aI.ok (aF)<|lM ab) (fun _=>C)<|bq 10 aa (fun _=>fa tt aa) (fun _=>C)<|dH 11 aa (fun w' A=>ld bA aa<|Wk.aO A<|lN (aI.wk aF E) bt 0 az) C<|bq 12 aa (fun _=>nc aa) (fun _=>C)<|bq 13 aa (fun _=>fa pL aa) (fun _=>C)<|dG 14 aa ag ag<|cV gX aa aa (v:=au U) aa (ax.wk C).cells (by show _ < 6; omega) fun cF a1 bZ=> ?_
 have aG:=(ax.wk C).dD (k':=k') (ln':=U) a1 bZ
 have b3:=((b2.wk E).wk C).rb (ax.wk C) a1
 have cb:Wk J cF:=((aY.trans E).trans C).trans' a1 fun q bo h=>by have :=ao.lo; omega
 refine eL ag<|tn<|aS _ _<|aj fun _ bI=>ak (aQ H.rb)<|ak (aQ H.rb)<|p (nc aa)<|p (fa oI aa)<|p (ld bA aa<|(a6 aG.cells).trans aa)<|p (bE ((k'+1:Nat):Int) aa aa<|bj ab ab)<|p (nc aa)<|p (fa oI aa)<|e<|cV gX aa aa (v:=au<|k'+1) aa aG.cells (by show _ < 6; omega) fun ac a2 b0=> ?_
 have aK:=aG.dD (k':=k'+1) (ln':=U) a2 b0
 have b4:=b3.rb aG a2
 have al:Wk J ac:=cb.trans' a2 fun q bo h=>by have :=ao.lo; omega
 refine aE<|bI _ _<|sq fun _ bK=>sq fun _ bL=> ?_
 have G:(fun w'=>Wk ac w') ac.drew:=(Md.refl _ _).drew
 refine bJ (fun w'=>Wk ac w') aa wide G<|aH 0 aa (fun _ _=>mv) G<|aH 1 aa (fun _ _=>a7 cE aa aa ab<|aI.ok ((aA.wk al).cI.2)<|bP ab) G<|aH 2 aa (fun w' A=>ld bR aa<|Wk.aO A<|bX.get (i:=0) (aA.wk al).cI.2 ab) G<|bC 3 aa (.slice Z hd.length ah) G<|aH 4 aa (fun _ _=>a7 cE aa aa ab<|aI.ok (aL _ al)<|bP ab) G<|aH 5 aa (fun w' A=>ld bR aa<|Wk.aO A<|bX.get (i:=0) (aL _ al) ab) G<|aH 6 aa (fun _ _=>oN aa aa) G<|hn ag ?_
 have ai:=al.trans G
 refine tn<|bL _ _<|cd aa (fun a3=> ?_) fun a3=> ?_
 have an:Y.getD 0 []≠hd.getD 0 []:=a3
 exact aj fun _ ae=>aw<|ae _ _<|rt<|tr<|br<|tr<|tr<|br<|tr<|f1 aa aa<|fF.er (Cl O ab<|UC an) az (aK.wk G).dj ai
 have an:Y.getD 0 []=hd.getD 0 []:=jn.1 a3
 refine aM<|tn<|bK _ _ ?_
 refine ec (fun aq a9=>(Y.take (kz hd).length=kz hd)∧(Wk ac a9)∧(aq 0=aQ H.rb)∧(aq 1= .slice Z hd.length ah)∧(aq 2=au n)∧(aq 7=au i)∧(aq 8= .slice ar Y.length cr)) ?_ ?_
 refine sq fun _ ae=> ?_
 have j:(fun w'=>Wk ac.drew w') ac.drew.drew:=(Md.refl _ _).drew
 refine bJ (fun w'=>Wk ac.drew w') aa wide j<|bC 0 aa (.slice Z hd.length ah) j<|aH 1 aa (fun _ _=>bF eQ aa aa) j<|aH 2 aa (fun _ _=>bH aa aa) j<|aH 3 aa (fun _ _=>mv) j<|iO (t:=75) aa (fun ck=> ?_) fun ck=> ?_
 refine bf 4 aa ag aa aa aa (fun _ _=>mv) j<|bf 5 aa ag aa aa aa (fun _ _=>bF eQ aa aa) j<|bf 6 aa ag aa aa aa (fun _ _=>lt aa aa) j<|bf 7 aa ag aa aa aa (fun _ _=>mv) j<|iO (t:=79) aa (fun cm=> ?_) fun cm=> ?_
 exact aW 8 aa ag aa aa aa aa j<|aW 9 aa ag aa aa aa aa j<|aW 10 aa ag aa aa aa aa j<|aW 11 aa ag aa aa aa aa j<|aW 12 aa ag aa aa aa aa j<|aW 13 aa ag aa aa aa aa j<|aW 14 aa ag aa aa aa aa j<|bf 15 aa ag aa aa aa (fun _ _=>bw aa) j<|aH 16 aa (fun _ _=>bw aa) j<|hn ag<|tn<|ae _ _<|ct aa<|aj fun _ av=>p aB<|aE<|av _ _<|rt<|tr<|br<|tr<|tr<|br<|tr<|f1 aa aa<|fF.er (Cl O ab<|I4 ab<|.inl ab) az ((aK.wk G).wk j).dj<|ai.trans j
 refine bf 8 aa ag aa aa aa (fun _ _=>mv) j<|bf 9 aa ag aa aa aa (fun _ _=>a7 cE aa aa ab<|aI.ok ((aA.wk ai).cI.2)<|bP ab) j<|bf 10 aa ag aa aa aa (fun w' A=>ld bR aa<|Wk.aO A<|bX.get (i:=1) (aA.wk ai).cI.2 ab) j<|bf 11 aa ag aa aa aa (fun _ _=>aT (.slice Z hd.length ah) aa) j<|bf 12 aa ag aa aa aa (fun _ _=>a7 cE aa aa ab<|aI.ok (aL _ ai)<|bP ab) j<|bf 13 aa ag aa aa aa (fun w' A=>ld bR aa<|Wk.aO A<|bX.get (i:=1) (aL _ ai) ab) j<|bf 14 aa ag aa aa aa (fun _ _=>oN aa aa) j<|bf 15 aa ag aa aa aa (fun _ _=>bm aa) j<|aH 16 aa (fun _ _=>bw aa) j<|hn ag<|tn<|ae _ _<|cd aa (fun a4=> ?_) fun a4=> ?_
 exact aj fun _ av=>aw<|av _ _<|rt<|tr<|br<|tr<|tr<|br<|tr<|f1 aa aa<|fF.er (Cl O ab<|I4 ab<|.inr a4) az ((aK.wk G).wk j).dj<|ai.trans j
 exact aM<|tn<|⟨(I5 an aC.1 fun _=>⟨ab,jn.1 a4⟩),(G.trans j),aa,aa,aa,aa,aa⟩
 exact aW 4 aa ag aa aa aa aa j<|aW 5 aa ag aa aa aa aa j<|aW 6 aa ag aa aa aa aa j<|aW 7 aa ag aa aa aa aa j<|l0 8 aa ag aa aa aa j<|l0 9 aa ag aa aa aa j<|l0 10 aa ag aa aa aa j<|l0 11 aa ag aa aa aa j<|l0 12 aa ag aa aa aa j<|l0 13 aa ag aa aa aa j<|l0 14 aa ag aa aa aa j<|aW 15 aa ag aa aa aa aa j<|aH 16 aa (fun _ _=>bm aa) j<|hn ag<|tn<|ae _ _<|cf aa<|aM<|tn<|⟨(I5 an aC.1 fun h=>absurd h ab),(G.trans j),aa,aa,aa,aa,aa⟩
 rintro aq a9 ⟨bs,aN,cy,cz,cA,cB,cC⟩
 refine fx 0 cy<|fx 1 cz<|fx 2 cA<|fx 7 cB<|fx 8 cC<|aj fun _ ae=>ak (aQ H.rb)<|ak (.slice ar Y.length cr)<|e<|cl PM (Ua J H F' (k'+1) U seen Y bB ar cr a9 ⟨V,vh,b4.wk aN,aK.wk aN,nB.pH (aP ▸ aX),al.trans aN,ab⟩ (aA.wk<|al.trans aN) aC.1 aC.2.2 ab fun h1 h2=>by rw [bi]; exact ci (an ▸ h1)<|an ▸ h2) aa fun v91 bx b6=> ?_
 obtain ⟨co,cc⟩:=b6
 obtain ⟨cJ,rfl,bl⟩:∃ e:Nat,v91=au e∧((e=0∧∃ am,iY F' U Y= .ok am∧mm J bx H am (k'+1) U seen)∨(e≠0∧iY F' U Y= .error e∧Hb.aO bx.heap H.rb 5=some (au U))):=by
  rcases co with ⟨am,h1,h2,h3⟩ | ⟨e,h1,h2,h3,h4⟩
  exact ⟨0,h2,.inl ⟨aa,am,h1,h3⟩⟩
  exact ⟨e,h3,.inr ⟨h2,h1,h4⟩⟩
 refine aw<|ae _ _<|aj fun _ av=>p mv<|p (cX aa aa)<|nl<|tn<|av _ _<|cd aa (fun ch=> ?_) fun ch=> ?_
 obtain ⟨cq,cn,cp⟩:=bl.resolve_left fun h=>by omega
 exact aj fun _ bM=>p mv<|aw<|bM _ _<|rt<|br<|tr<|tr<|br<|tr<|f1 aa aa<|fF.er (T1 O ab bs cn) cq cp cc
 obtain ⟨_,am,bk,b7⟩:=bl.resolve_right fun h=>by omega
 exact aM<|bn<|tn<|aU _ _<|rg aa<|ak (au i)<|p (ad aa aa<|bT ab)<|p aB<|nl<|tn<|⟨_,ab,i+1,am,k'+1,U,ab,(by rw [show n - (i+1)=n - i - 1 by omega]; exact T4 O ab bs bk),b7,((T9 bk).1.trans bi),aa,aa,aa,aa,aa⟩
 refine ext<|te _<|te _<|be<|tn<|bN _ _<|aj fun _ aU=>p aB<|aE<|aU _ _<|rt<|f1 aa aa ?_
 rw [show n - i=0 by omega] at O
 exact ⟨.inl ⟨F',k',a8,T2 O,aa,b8⟩,bc⟩
theorem TQ (E:World) (H:fY) (F:aR) (k ln:Nat) (seen r:List Tx) (a5:Nat) (ar:Option Addr) (cr:Nat) (w:World) (bY:GS E H) (q:mm E w H F k ln seen) (bd:Tg E a5 9 r.length (.slice ar r.length cr) (r.map str)) (bu:∀ x∈r,x.length≤70000) (cK:F.dd.length+F.aliases.length+F.bp.length+F.rules.length+(H.rows.drop k).length < 70000) (bt:r.length=4) (aZ:r.getD 0 []=fz∨r.getD 0 []=di):
 bh ay 179 (ba [aQ H.rb,.slice ar r.length cr]) w (fF E H seen<|gH H.eof F (H.rows.drop k) ln r):=by
 have cJ:=q
 obtain ⟨V,vh,ac,G,ai,Z,ci⟩:=q
 have C:∀ w,Wk E w→bX w.heap ar r:=fun w h=>(bd.wk h).cI.2
 have cS:=G.lo
 have cQ:=ac.lo
 have cN:=ai.len
 have cb:=ai.sl
 have cZ:=(dm.1 G.cells).1
 have ck:r.getD 0 []≠e5:=by rcases aZ with h | h <;> rw [h] <;> decide
 have cm:r.getD 0 []≠eE:=by rcases aZ with h | h <;> rw [h] <;> decide
 have cW:(r.getD 1 []).length≤70000:=bu _<|dQ ab
 have cY:(r.getD 3 []).length≤70000:=bu _<|dQ ab
 obtain ⟨a12,ks,cB⟩:=cw ac.dB
 have bg:Hb.aO w.heap H.fb 12=some (.slice a12 F.rules.length ks):=by rw [← cB]; exact (a6 ac.cells).trans rfl
 refine enter func179 aa ntmps179 aa<|aj fun _ bA=>aw<|bA _ _<|aj fun _ bG=>ak (aQ H.rb)<|ak (.slice ar r.length cr)<|p (a7 cE aa aa ab<|aI.ok (C _ Z)<|bP ab)<|p (ld bR aa<|bX.get (i:=1) (C _ Z) ab)<|e<|cl FZ (II E.heap.size H F V k ln seen vh (r.getD 1 []) w ac G ai.kd ab ab) aa fun c5 cD b1=> ?_
 obtain ⟨⟨x,aP,rfl,bn⟩,hE14⟩:=b1
 have O:=Z.trans hE14
 refine p mv<|p (xt aa aa)<|p (xt aa aa)<|p aB<|aw<|bG _ _<|sq fun _ bH=>aj fun _ bK=>p mv<|p (cX aa aa)<|aE<|bK _ _<|cd aa (fun cc=> ?_) fun cc=> ?_
 have bl:gD F (r.getD 1 [])= .error aP∧aP≠0:=by
  rcases bn with ⟨_,_,h⟩ | h
  omega
  exact h
 exact aj fun _ U=>p mv<|aw<|U _ _<|rt<|tr<|f1 aa aa<|fF.er (Bc bl.1) bl.2 (G.wk hE14).dj O
 obtain ⟨aD,c0,_⟩:gD F (r.getD 1 [])= .ok x∧x≠0∧aP=0:=by
  rcases bn with h | ⟨_,h⟩
  exact h
  omega
 refine aM<|tn<|bH _ _ ?_
 refine ec (fun aF a4=>(r.getD 2 []= [89]∨r.getD 2 []= [78])∧(a4=cD)∧(aF 0=aQ H.rb)∧(aF 1= .slice ar r.length cr)∧(aF 5=bM x)) ?_ ?_
 refine aj fun _ U=>ak (.slice ar r.length cr)<|p (a7 cE aa aa ab<|aI.ok (C _ O)<|bP ab)<|p (ld bR aa<|bX.get (i:=2) (C _ O) ab)<|p (oN aa aa)<|p mv<|gs (t:=24) aa (fun aY=> ?_) fun aY=> ?_
 refine pg aa aa aa (aT (.slice ar r.length cr) aa)<|pg aa aa aa (a7 cE aa aa ab<|aI.ok (C _ O)<|bP ab)<|pg aa aa aa (ld bR aa<|bX.get (i:=2) (C _ O) ab)<|pg aa aa aa (oN aa aa)<|p (bw aa)<|aE<|U _ _<|cd aa (fun aW=> ?_) fun aW=> ?_
 exact aj fun _ aL=>aw<|aL _ _<|rt<|tr<|f1 aa aa<|fF.er (Be aD aY aW) az (G.wk hE14).dj O
 exact aM<|tn<|⟨(.inr<|jn.1 aW),aa,aa,aa,aa⟩
 exact sk aa aa aa aa<|sk aa aa aa aa<|sk aa aa aa aa<|sk aa aa aa aa<|p (bm aa)<|aE<|U _ _<|cf aa<|aM<|tn<|⟨(.inl<|jn.1 aY),aa,aa,aa,aa⟩
 rintro aF a4 ⟨a1,cC,cs,ct,cu⟩
 refine fx 0 cs<|fx 1 ct<|fx 5 cu ?_
 subst cC
 have aV:=O
 refine aj fun _ U=>ak (.slice ar r.length cr)<|p (a7 cE aa aa ab<|aI.ok (C _ aV)<|bP ab)<|p (ld bR aa<|bX.get (i:=3) (C _ aV) ab)<|e<|cl rC (rX (r.getD 3 []) 1024 a4 ab ab) aa fun c6 ae b5=> ?_
 obtain ⟨rfl,a9⟩:=b5
 have aA:=aV.trans a9
 have I:=hE14.trans a9
 have cp:=qM (r.getD 3 []) 1024
 refine p mv<|p (xt aa aa)<|p (xt aa aa)<|p aB<|aw<|U _ _<|sq fun _ aL=>aj fun _ bN=>p mv<|p (cX aa aa)<|aE<|bN _ _<|cd aa (fun ce=> ?_) fun ce=> ?_
 refine aj fun _ aN=>p mv<|aw<|aN _ _<|rt<|tr<|f1 aa aa ?_
 have a8:=pQ (s:=r.getD 3 []) (most:=1024) ab
 show fF E H seen _ (.int .i64 (dY (r.getD 3 []) 1024).2) ae
 rw [a8.2]
 exact fF.er (GG aD a1 a8.1) az (G.wk I).dj aA
 have a0:=nW (by omega :(dY (r.getD 3 []) 1024).2=0)
 have co:=cp ab
 obtain ⟨n,aC⟩:∃ n,n=(dY (r.getD 3 []) 1024).1:=⟨_,rfl⟩
 rw [← aC] at a0 co
 refine aM<|tn<|aL _ _<|sq fun _ aN=>aj fun _ bO=>ak (aQ H.rb)<|p (nc aa)<|p (fa lJ aa)<|p (ld gW aa<|(a6 (G.wk I).cells).trans aa)<|p (nc aa)<|p (fa jL aa)<|p (ld j6 aa<|Wk.aO I bg)<|p (bF tM aa aa)<|p mv<|p (bE ((F.rules.length+(dY (r.getD 3 []) 1024).1:Nat):Int) aa aa<|bj ab ab)<|p (gt aa aa)<|aE<|bO _ _<|cd aa (fun cg=> ?_) fun cg=> ?_
 exact aj fun _ aG=>aw<|aG _ _<|rt<|tr<|f1 aa aa<|fF.er (GH aD a1 a0 ab) az (G.wk I).dj aA
 refine aM<|tn<|aN _ _<|sq fun _ aG=> ?_
 have a:(fun w'=>Wk ae w') ae.drew:=(Md.refl _ _).drew
 refine bJ (fun w'=>Wk ae w') aa wide a<|bC 0 aa (bM x) a<|bC 1 aa (.slice ar r.length cr) a<|aH 2 aa (fun _ _=>a7 cE aa aa ab<|aI.ok (C _ aA)<|bP ab) a<|aH 3 aa (fun w' q=>ld bR aa<|Wk.aO q<|bX.get (i:=2) (C _ aA) ab) a<|aH 4 aa (fun _ _=>dR aa aa) a<|bC 5 aa (aQ H.rb) a<|aH 6 aa (fun _ _=>nc aa) a<|aH 7 aa (fun _ _=>fa lJ aa) a<|aH 8 aa (fun w' q=>ld gW aa<|Wk.aO q<|(a6 (G.wk I).cells).trans aa) a<|aH 9 aa (fun _ _=>nc aa) a<|aH 10 aa (fun _ _=>fa jL aa) a<|aH 11 aa (fun w' q=>ld j6 aa<|Wk.aO q<|Wk.aO I bg) a<|aH 12 aa (fun _ _=>bF tM aa aa) a<|aH 13 aa (fun _ _=>mv) a<|aH 14 aa (fun _ _=>cO (ps:= [(0,bM x),(1,au 2),(2,.bool (decide (r.getD 2 []= [89]))),(3,au (F.rules.length)),(4,au ((dY (r.getD 3 []) 1024).1))]) (L:= [bM x,au 2,.bool (decide (r.getD 2 []= [89])),au (F.rules.length),au ((dY (r.getD 3 []) 1024).1)]) LC aa<|aa) a ?_
 refine he 15 aa ag<|ga sc fun Y cF cL av bT=> ?_
 have c2:=av.size
 have c1:=a.size
 have b7:(fun w'=>Wk ae w') cF:=a.trans av.md
 refine ⟨b7,?_⟩
 refine he 16 aa ag<|gi qu aa aa aa aa bT az fun a2 bb bQ=> ?_
 have ao:Wk w a2:=(I.trans<|a.trans av.md).trans' bb fun k hk h=>by have :=I.size; omega
 have bk:a2.heap[Y]? =some (.cells [bM x,au 2,.bool (decide (r.getD 2 []= [89])),au (F.rules.length),au n].toArray 242 (0,0)):=by rw [aC]; exact bQ
 have bf:w.heap.size≤Y:=by have :=I.size; omega
 have b8:(fun w'=>Wk ae w') a2:=(a.trans av.md).trans' bb fun k hk h=>by omega
 refine ⟨b8,?_⟩
 refine hn ag<|tn<|aG _ _ ?_
 refine ec (fun ah J=>(J.heap[Y]? =some (.cells [bM x,.int .i64 ((if r.getD 0 []=di then 2 else 1:Nat):Nat),.bool (decide (r.getD 2 []= [89])),au (F.rules.length),au n].toArray 242 (0,0)))∧(Wk w J)∧(w.heap.size≤Y)∧(ah 0=aQ H.rb)∧(ah 1= .slice ar r.length cr)∧(ah 5=bM x)∧(ah 7=au n)∧(ah 8=aQ Y)) ?_ ?_
 refine aj fun _ aK=>ak (.slice ar r.length cr)<|p (a7 cE aa aa ab<|aI.ok (C _<|Z.trans ao)<|bP ab)<|p (ld bR aa<|bX.get (i:=0) (C _<|Z.trans ao) ab)<|p (dR aa aa)<|aE<|aK _ _<|cd aa (fun aX=> ?_) fun aX=> ?_
 exact rg aa<|p (fa yj aa)<|e<|cV gX aa aa (v:=au 1) aa bk (by show _ < 5; omega) fun c9 bZ bS=>aE<|⟨(by rw [if_neg (show ¬r.getD 0 []=di from fun h=>by have h2:r.getD 0 []=fz:=aX; rw [h2] at h; exact absurd h az)]; exact bS),(ao.trans' bZ fun k hk h=>by omega),bf,aa,aa,aa,(by rw [aC]; rfl),aa⟩
 exact aM<|tn<|⟨(by rw [if_pos (aZ.resolve_left aX)]; exact bk),ao,bf,aa,aa,aa,(by rw [aC]; rfl),aa⟩
 rintro ah J ⟨ch,aq,cU,cv,cx,cy,cz,cA⟩
 refine fx 0 cv<|fx 1 cx<|fx 5 cy<|fx 7 cz<|fx 8 cA ?_
 have am:=ac.wk aq
 have ax:=G.wk aq
 have br:¬(V.v11.ownBlock=some H.rb):=dw am.ej ax.cells az
 have cn:¬(V.v11.ownBlock=some H.fb):=dw am.ej am.cells az
 have cj:¬(V.v11.ownBlock=some Y):=fun h=>by have :=(dI ac.ej h).2; omega
 refine sq fun _ aK=> ?_
 have A:(fun w'=>Md (fun k=>V.v11.ownBlock=some k) J w') J.drew:=(Md.refl _ _).drew
 refine eM (fun w'=>Md (fun k=>V.v11.ownBlock=some k) J w') 16 aa wide A<|bz 0 aa (aQ H.rb) A<|bq 1 aa (fun _=>nc aa) (fun _=>A)<|bq 2 aa (fun _=>fa lJ aa) (fun _=>A)<|dH 3 aa (fun w' q=>ld gW aa<|Md.aO q ((a6 ax.cells).trans aa) br) A<|bz 4 aa (aQ H.rb) A<|bq 5 aa (fun _=>nc aa) (fun _=>A)<|bq 6 aa (fun _=>fa lJ aa) (fun _=>A)<|dH 7 aa (fun w' q=>ld gW aa<|Md.aO q ((a6 ax.cells).trans aa) br) A<|bq 8 aa (fun _=>nc aa) (fun _=>A)<|bq 9 aa (fun _=>fa pJ aa) (fun _=>A)<|dH 10 aa (fun w' q=>ld qi aa<|Md.aO q ((a6 am.cells).trans aa) cn) A<|dH 11 aa (fun w' q=>cT sN aa (aa) fun j cR=>bL.bB ⟨_,Md.aJ q ch cj⟩ j) A<|gL 12 aa ag<|kq Lq aa aa aa fun cH cG cM b0 bU=> ?_
 have al:=ib b0.md
 have M:=am.wk al
 have b2:=ax.wk al
 have c3:=(aq.trans al).size
 have bc:(fun w'=>Md (fun k=>V.v11.ownBlock=some k) J w') cG:=Md.mono al fun _ _ h=>h.elim
 refine ⟨bc,?_⟩
 refine gL 13 aa ag<|ap Lq (M.ej) aa ab aa (aI.dS bU) (aa) (aa) ab ab fun bv a3 bs an c4 cP=> ?_
 have b3:=b2.own M.ej an az
 have bi:=an.aJ M.cells<|dw M.ej M.cells az
 have cq:bo a3 E.heap.size 242 5 bv (F.bp++ [(⟨x,(if r.getD 0 []=di then 2 else 1:Nat),(decide (r.getD 2 []= [89])),F.rules.length,n⟩:c7)]).length (qF<|F.bp++ [(⟨x,(if r.getD 0 []=di then 2 else 1:Nat),(decide (r.getD 2 []= [89])),F.rules.length,n⟩:c7)]):=by rw [show qF (F.bp++ [(⟨x,(if r.getD 0 []=di then 2 else 1:Nat),(decide (r.getD 2 []= [89])),F.rules.length,n⟩:c7)])=qF F.bp++ng (⟨x,(if r.getD 0 []=di then 2 else 1:Nat),(decide (r.getD 2 []= [89])),F.rules.length,n⟩:c7) from by simp [qF],bI]; exact bs
 have b9:Wk E a3:=(Z.trans<|aq.trans al).trans' an fun k hk h=>by have :=(dI M.ej h).1; omega
 have aU:(fun w'=>Md (fun k=>V.v11.ownBlock=some k) J w') a3:=bc.trans' an fun _ _ h=>h
 refine ⟨aU,?_⟩
 refine bq 14 aa (fun _=>nc aa) (fun _=>aU)<|bq 15 aa (fun _=>fa pJ aa) (fun _=>aU)<|dG 16 aa ag ag<|cV R9 aa aa (v:=bv) (eH bs) bi (by show _ < 13; omega) fun bx aS bV=> ?_
 have bW:=eA.Aq (x:=(⟨x,(if r.getD 0 []=di then 2 else 1:Nat),(decide (r.getD 2 []= [89])),F.rules.length,n⟩:c7)) M an cq aS bV
 have b4:=b3.oF bi aS
 have ca:Wk E bx:=b9.trans' aS fun k hk h=>by omega
 exact eL ag<|tn<|aK _ _<|aj fun _ bD=>ak (aQ H.rb)<|ak (.slice ar r.length cr)<|ak (au n)<|e<|cl AJ (Cm E H {F with bp:=F.bp++ [(⟨x,(if r.getD 0 []=di then 2 else 1:Nat),(decide (r.getD 2 []= [89])),F.rules.length,n⟩:c7)]} k ln seen r a5 ar cr n bx bY ⟨_,vh,bW,b4,⟨by simp only [bI,eW]; omega,cb,ai.row,ai.kd⟩,ca,ci⟩ bd (.inr bt) ab fun _ _=>by simp only [bI,eW]; omega) aa fun c8 da b6=>p aB<|aE<|bD _ _<|rt<|f1 aa aa<|fF.eq b6<|Q3 bt ck cm aD a1 a0 ab
theorem T8 (A:World) (H:fY) (F:aR) (k ln:Nat) (seen r:List Tx) (ax:Nat) (ar:Option Addr) (cr:Nat) (w:World) (aZ:GS A H) (aq:mm A w H F k ln seen) (aH:Tg A ax 9 r.length (.slice ar r.length cr) (r.map str)) (bk:∀ x∈r,x.length≤70000) (ca:F.dd.length+F.aliases.length+F.bp.length+F.rules.length+(H.rows.drop k).length < 70000) (hw:r.length=width (r.getD 0 [])) (ck:width (r.getD 0 [])≠0):
 bh ay 116 (ba [aQ H.rb,.slice ar r.length cr]) w (fF A H seen<|bY H.eof F seen (H.rows.drop k) ln r):=by
 have bu:=aq
 obtain ⟨V,vh,q,j,C,a,av⟩:=aq
 have E:∀ w,Wk A w→bX w.heap ar r:=fun w h=>(aH.wk h).cI.2
 have cD:=j.lo
 have cC:=q.lo
 have cB:=C.len
 have aS:=C.sl
 have cF:=(dm.1 j.cells).1
 have cG:0 < r.length:=ab
 have I:2≤r.length→(r.getD 1 []).length≤70000:=fun h=>bk _<|dQ ab
 refine enter func116 aa ntmps116 aa<|aj fun _ bF=>aw<|bF _ _<|aj fun _ bI=>ak (.slice ar r.length cr)<|p (a7 cE aa aa ab<|aI.ok (E _ a)<|bP ab)<|p (ld bR aa<|bX.get (i:=0) (E _ a) ab)<|aw<|bI _ _<|aj fun _ bK=>p mv<|e<|cl AI (Cr (r.getD 0 []) w) aa fun v24 ah b2=> ?_
 obtain ⟨rfl,co⟩:=b2
 subst co
 refine aw<|bK _ _<|sq fun _ bL=>aj fun _ bN=>p mv<|p (ge aa aa)<|aE<|bN _ _<|cd aa (fun a8=> ?_) fun a8=> ?_
 have ac:=tG.1 a8
 have O:r.length=2:=by rw [hw,Mn ac]
 have I:=I ab
 refine aj fun _ aV=>ak (aQ H.rb)<|ak (.slice ar r.length cr)<|p (a7 cE aa aa ab<|aI.ok (E _ a)<|bP ab)<|p (ld bR aa<|bX.get (i:=1) (E _ a) ab)<|e<|cl FZ (II A.heap.size H F V k ln seen vh (r.getD 1 []) ah q j C.kd ab ab) aa fun cO cW b3=> ?_
 obtain ⟨⟨x,cA,rfl,cg⟩,hE32⟩:=b3
 have b8:=a.trans hE32
 refine p mv<|p (xt aa aa)<|p (xt aa aa)<|p aB<|aw<|aV _ _<|sq fun _ aW=>rg aa<|ak (aQ H.rb)<|p (nc aa)<|p (fa lJ aa)<|p (ld gW aa<|(a6 (j.wk hE32).cells).trans aa)<|p mv<|p mv<|p (nc aa)<|p (fa tk aa)<|p (ka sR aa aa<|by rw [DA ac]; have :=DB ac; omega)<|e<|cV gX aa aa (v:=bM x) aa (q.wk hE32).cells (by show 0 +3 +(pS<|r.getD 0 []).toNat*1 < 13; rw [DA ac]; have :=DB ac; omega) fun bE a0 bO=> ?_
 have cj:=Ud (F:=F) (V:=V) (x:=x) (o:=0 +3 +(pS<|r.getD 0 []).toNat*1) q.fI (DB ac)<|by rw [DA ac]; omega
 have bQ:bE.heap[H.fb]? =some (.cells (nQ {F with sp:=F.sp.set (dZ.idxOf<|r.getD 0 []) x} V).toArray 181 (0,0)):=by rw [← cj]; exact bO
 have bS:=(q.wk hE32).put (F':= {F with sp:=F.sp.set (dZ.idxOf<|r.getD 0 []) x}) a0 bQ rfl rfl rfl rfl (by show (F.sp.set _ _).length=5; rw [List.length_set]; exact q.fI)
 have bt:=(j.wk hE32).fb (q.wk hE32) a0
 have a1:Wk A bE:=b8.trans' a0 fun k hk h=>by omega
 refine aE<|aW _ _<|aj fun _ aX=>p mv<|aw<|aX _ _<|rt<|tr<|f1 aa aa ?_
 rcases cg with ⟨bl,_,rfl⟩ | ⟨bl,ch⟩
 exact ⟨.inl ⟨_,k,ln,(IV ac).trans (Lw bl),aa,⟨V,vh,bS,bt,⟨C.len,aS,C.row,C.kd⟩,a1,av⟩⟩,a1⟩
 exact fF.er ((IV ac).trans<|Lv bl) ch bt.dj a1
 have cp:r.getD 0 []∉dZ:=fun h=>a8<|tG.2 h
 refine aM<|tn<|bL _ _<|sq fun _ aV=>aj fun _ aW=>p mv<|aE<|aW _ _<|aJ<|aj fun _ aX=>p (dR aa aa)<|aw<|aX _ _<|cd aa (fun a9=> ?_) fun a9=> ?_
 have h1:r.getD 0 []=gZ:=a9
 have O:r.length=2:=by rw [hw,h1]; rfl
 have I:=I ab
 exact aj fun _ aY=>ak (aQ H.rb)<|ak (.slice ar r.length cr)<|e<|cl Pt (Ub A H F k ln seen r ax ar cr ah bu (aH.wk a) O bk) aa fun cP cY b4=>aw<|aY _ _<|rt<|br<|tr<|f1 aa aa<|fF.eq b4<|Uk h1
 have cq:¬r.getD 0 []=gZ:=a9
 refine aj fun _ aY=>p (dR aa aa)<|aw<|aY _ _<|cd aa (fun bb=> ?_) fun bb=> ?_
 have h2:r.getD 0 []=iy:=bb
 have O:r.length=2:=by rw [hw,h2]; rfl
 have I:=I ab
 refine aj fun _ aT=>ak (.slice ar r.length cr)<|p (a7 cE aa aa ab<|aI.ok (E _ a)<|bP ab)<|p (ld bR aa<|bX.get (i:=1) (E _ a) ab)<|e<|cl uM (vH (r.getD 1 []) ah ab) aa fun cQ bo b5=> ?_
 obtain ⟨rfl,an⟩:=b5
 have aP:=a.trans an
 refine aw<|aT _ _<|sq fun _ aA=>aj fun _ ai=>p mv<|p (no aa)<|aE<|ai _ _<|cb aa (fun bc=> ?_) fun bc=> ?_
 exact aj fun _ J=>aw<|J _ _<|rt<|tr<|br<|tr<|f1 aa aa<|fF.er ((IU h2).trans<|Lh<|by simpa using bc) az (j.wk an).dj aP
 refine aM<|tn<|aA _ _<|sq fun _ J=> ?_
 have G:(fun w'=>Wk bo w') bo.drew:=(Md.refl _ _).drew
 refine eM (fun w'=>Wk bo w') 9 aa wide G<|bz 0 aa (aQ H.rb) G<|bq 1 aa (fun _=>nc aa) (fun _=>G)<|bq 2 aa (fun _=>fa lJ aa) (fun _=>G)<|dH 3 aa (fun w' aq=>ld gW aa<|Wk.aO aq<|(a6 (j.wk an).cells).trans aa) G<|bz 4 aa (.slice ar r.length cr) G<|bq 5 aa (fun _=>a7 cE aa aa ab<|aI.ok (E _ aP)<|bP ab) (fun _=>G)<|dH 6 aa (fun w' aq=>ld bR aa<|Wk.aO aq<|bX.get (i:=1) (E _ aP) ab) G<|bq 7 aa (fun _=>nc aa) (fun _=>G)<|bq 8 aa (fun _=>fa TA aa) (fun _=>G)<|dG 9 aa ag ag<|cV kN aa aa (v:=str<|r.getD 1 []) aa ((q.wk an).wk G).cells (by show _ < 13; omega) fun aK M aF=> ?_
 have aG:=((q.wk an).wk G).put (F':= {F with rE:=r.getD 1 []}) M aF rfl rfl rfl rfl q.fI
 have ap:=((j.wk an).wk G).fb ((q.wk an).wk G) M
 have Z:Wk A aK:=(aP.trans G).trans' M fun k hk h=>by omega
 exact eL ag<|tn<|J _ _<|aj fun _ U=>aw<|U _ _<|rt<|br<|tr<|f1 aa aa<|⟨.inl ⟨_,k,ln,(IU h2).trans (Li<|by simpa using bc),aa,⟨V,vh,aG,ap,⟨C.len,aS,C.row,C.kd⟩,Z,av⟩⟩,Z⟩
 have cs:¬r.getD 0 []=iy:=bb
 refine aj fun _ aT=>p (dR aa aa)<|aw<|aT _ _<|cd aa (fun bd=> ?_) fun bd=> ?_
 have h3:r.getD 0 []=iP:=bd
 have O:r.length=2:=by rw [hw,h3]; rfl
 have I:=I ab
 refine aj fun _ aA=>ak (.slice ar r.length cr)<|p (a7 cE aa aa ab<|aI.ok (E _ a)<|bP ab)<|p (ld bR aa<|bX.get (i:=1) (E _ a) ab)<|e<|cl Pu (Xt (r.getD 1 []) ah ab) aa fun cR cZ b6=> ?_
 obtain ⟨rfl,ao⟩:=b6
 have b9:=a.trans ao
 refine p mv<|p (xt aa aa)<|p (xt aa aa)<|p aB<|aw<|aA _ _<|sq fun _ ai=>rg aa<|ak (aQ H.rb)<|p (nc aa)<|p (fa lJ aa)<|p (ld gW aa<|(a6 (j.wk ao).cells).trans aa)<|p mv<|p (nc aa)<|p (fa TB aa)<|e<|cV kN aa aa (v:=str (letE<|r.getD 1 []).1) aa (q.wk ao).cells (by show _ < 13; omega) fun aK M aF=> ?_
 have aG:=(q.wk ao).put (F':= {F with tr:=(letE<|r.getD 1 []).1}) M aF rfl rfl rfl rfl q.fI
 have ap:=(j.wk ao).fb (q.wk ao) M
 have Z:Wk A aK:=b9.trans' M fun k hk h=>by omega
 refine aE<|ai _ _<|aj fun _ J=>p mv<|aw<|J _ _<|rt<|br<|tr<|f1 aa aa ?_
 by_cases h:(letE<|r.getD 1 []).2=0
 exact ⟨.inl ⟨_,k,ln,(IW h3).trans (LY h),by rw [h]; rfl,⟨V,vh,aG,ap,⟨C.len,aS,C.row,C.kd⟩,Z,av⟩⟩,Z⟩
 exact fF.er ((IW h3).trans<|LX h) h ap.dj Z
 have cu:¬r.getD 0 []=iP:=bd
 refine aj fun _ aA=>p (dR aa aa)<|aw<|aA _ _<|cd aa (fun bf=> ?_) fun bf=> ?_
 have h4:r.getD 0 []=kb:=bf
 have O:r.length=2:=by rw [hw,h4]; rfl
 have I:=I ab
 refine aj fun _ ai=>ak (.slice ar r.length cr)<|p (a7 cE aa aa ab<|aI.ok (E _ a)<|bP ab)<|p (ld bR aa<|bX.get (i:=1) (E _ a) ab)<|e<|cl rC (rX (r.getD 1 []) 64 ah ab ab) aa fun v91 c0 b7=> ?_
 obtain ⟨rfl,ae⟩:=b7
 have a2:=a.trans ae
 refine p mv<|p (xt aa aa)<|p (xt aa aa)<|p aB<|aw<|ai _ _<|sq fun _ J=>aj fun _ U=>p mv<|p (cX aa aa)<|p mv<|gs (t:=96) aa (fun bA=> ?_) fun bA=> ?_
 exact sk aa aa aa aa<|sk aa aa aa aa<|p (bw aa)<|aE<|U _ _<|ct aa<|aj fun _ Y=>aw<|Y _ _<|rt<|tr<|br<|tr<|f1 aa aa<|fF.er ((Ct h4).trans<|JT (pQ bA).1) az (j.wk ae).dj a2
 refine pg aa aa aa mv<|pg aa aa aa (bH aa aa)<|p (bm aa)<|aE<|U _ _<|cd aa (fun cf=> ?_) fun cf=> ?_
 exact aj fun _ Y=>aw<|Y _ _<|rt<|tr<|br<|tr<|f1 aa aa<|fF.er ((Ct h4).trans<|JU (nW ab) ab) az (j.wk ae).dj a2
 refine aM<|tn<|J _ _<|aj fun _ Y=>ak (aQ H.rb)<|p (nc aa)<|p (fa lJ aa)<|p (ld gW aa<|(a6 (j.wk ae).cells).trans aa)<|p mv<|p (nc aa)<|p (fa TC aa)<|e<|cV gX aa aa (v:=au<|(dY (r.getD 1 []) 64).1) aa (q.wk ae).cells (by show _ < 13; omega) fun aK M aF=> ?_
 have aG:=(q.wk ae).put (F':= {F with least:=(dY (r.getD 1 []) 64).1}) M aF rfl rfl rfl rfl q.fI
 have ap:=(j.wk ae).fb (q.wk ae) M
 have Z:Wk A aK:=a2.trans' M fun k hk h=>by omega
 exact aE<|Y _ _<|aj fun _ al=>aw<|al _ _<|rt<|br<|tr<|f1 aa aa<|⟨.inl ⟨_,k,ln,(Ct h4).trans (JV (nW ab) ab),aa,⟨V,vh,aG,ap,⟨C.len,aS,C.row,C.kd⟩,Z,av⟩⟩,Z⟩
 have cv:¬r.getD 0 []=kb:=bf
 refine aj fun _ ai=>p (dR aa aa)<|aw<|ai _ _<|cd aa (fun a3=> ?_) fun a3=> ?_
 have h5:r.getD 0 []=e5:=a3
 have O:r.length=2:=by rw [hw,h5]; rfl
 have I:=I ab
 refine aj fun _ J=>ak (.slice ar r.length cr)<|p (a7 cE aa aa ab<|aI.ok (E _ a)<|bP ab)<|p (ld bR aa<|bX.get (i:=1) (E _ a) ab)<|e<|cl rC (rX (r.getD 1 []) 256 ah ab ab) aa fun cH bC bT=> ?_
 obtain ⟨rfl,aL⟩:=bT
 have bv:=a.trans aL
 have bi:=qM (r.getD 1 []) 256
 refine p mv<|p (xt aa aa)<|p (xt aa aa)<|p aB<|aw<|J _ _<|sq fun _ U=>aj fun _ Y=>p mv<|p (cX aa aa)<|aE<|Y _ _<|cd aa (fun cc=> ?_) fun cc=> ?_
 refine aj fun _ al=>p mv<|aw<|al _ _<|rt<|tr<|br<|tr<|f1 aa aa ?_
 have aD:=pQ (s:=r.getD 1 []) (most:=256) ab
 show fF A H seen _ (.int .i64 (dY (r.getD 1 []) 256).2) bC
 rw [aD.2]
 exact fF.er ((IT h5).trans<|KR aD.1) az (j.wk aL).dj bv
 exact aM<|tn<|U _ _<|aj fun _ al=>ak (aQ H.rb)<|ak (.slice ar r.length cr)<|p mv<|e<|cl AJ (Cm A H F k ln seen r ax ar cr (dY (r.getD 1 []) 256).1 bC aZ ⟨V,vh,q.wk aL,j.wk aL,C,bv,av⟩ aH (.inl O) (by have :=bi ab; omega) fun h _=>absurd h5 h) aa fun cJ cS bU=>aw<|al _ _<|rt<|br<|tr<|f1 aa aa<|fF.eq bU<|(IT h5).trans<|Xi O h5<|nW ab
 have cw:¬r.getD 0 []=e5:=a3
 refine aj fun _ J=>p (dR aa aa)<|aw<|J _ _<|cd aa (fun a4=> ?_) fun a4=> ?_
 have am:r.getD 0 []=eE:=a4
 have O:r.length=2:=by rw [hw,am]; rfl
 have I:=I ab
 refine aj fun _ U=>ak (aQ H.rb)<|e<|cl AA (Cs A.heap.size H k ln seen vh fz ah j ab) aa fun cK cy bV=> ?_
 obtain ⟨rfl,cm⟩:=bV
 subst cm
 refine aw<|U _ _<|aj fun _ Y=>ak (aQ H.rb)<|e<|cl AA (Cs A.heap.size H k ln seen vh di cy j ab) aa fun cL cz bW=> ?_
 obtain ⟨rfl,cn⟩:=bW
 subst cn
 refine aw<|Y _ _<|sq fun _ al=>aj fun _ bs=>p mv<|p mv<|gb (t:=130) aa (fun bg=> ?_) fun bg=> ?_
 exact sk aa aa aa aa<|p (bw aa)<|aE<|bs _ _<|ct aa<|aj fun _ aC=>p aB<|aE<|aC _ _<|rt<|tr<|br<|tr<|f1 aa aa<|fF.er ((yB am).trans<|An<|.inl<|of_decide_eq_true bg) az j.dj a
 refine pg aa aa aa mv<|p (bm aa)<|aE<|bs _ _<|cb aa (fun a5=> ?_) fun a5=> ?_
 exact aj fun _ aC=>aw<|aC _ _<|rt<|tr<|br<|tr<|f1 aa aa<|fF.er ((yB am).trans<|An<|.inr<|of_decide_eq_true a5) az j.dj a
 have bB:¬(fz∈seen∨di∈seen):=fun h=>h.elim (of_decide_eq_false bg)<|of_decide_eq_false a5
 refine aM<|tn<|al _ _<|aj fun _ aC=>ak (.slice ar r.length cr)<|p (a7 cE aa aa ab<|aI.ok (E _ a)<|bP ab)<|p (ld bR aa<|bX.get (i:=1) (E _ a) ab)<|e<|cl rC (rX (r.getD 1 []) 1024 cz ab ab) aa fun cM bD bZ=> ?_
 obtain ⟨rfl,aN⟩:=bZ
 have bx:=a.trans aN
 have bi:=qM (r.getD 1 []) 1024
 refine p mv<|p (xt aa aa)<|p (xt aa aa)<|p aB<|aw<|aC _ _<|sq fun _ bG=>aj fun _ bJ=>p mv<|p (cX aa aa)<|aE<|bJ _ _<|cd aa (fun ce=> ?_) fun ce=> ?_
 refine aj fun _ aU=>p mv<|aw<|aU _ _<|rt<|tr<|br<|tr<|f1 aa aa ?_
 have aD:=pQ (s:=r.getD 1 []) (most:=1024) ab
 show fF A H seen _ (.int .i64 (dY (r.getD 1 []) 1024).2) bD
 rw [aD.2]
 exact fF.er ((yB am).trans<|Fi bB aD.1) az (j.wk aN).dj bx
 exact aM<|tn<|bG _ _<|aj fun _ aU=>ak (aQ H.rb)<|ak (.slice ar r.length cr)<|p mv<|e<|cl AJ (Cm A H F k ln seen r ax ar cr (dY (r.getD 1 []) 1024).1 bD aZ ⟨V,vh,q.wk aN,j.wk aN,C,bx,av⟩ aH (.inl O) (by have :=bi ab; omega) fun _ h=>absurd am h) aa fun v146 cT b0=>aw<|aU _ _<|rt<|br<|tr<|f1 aa aa<|fF.eq b0<|(yB am).trans<|Ow O am bB<|nW ab
 have cx:¬r.getD 0 []=eE:=a4
 have bj:=WS ck cp cq cs cu cv cw cx
 have ci:r.length=4:=by rw [hw,Mo bj]
 exact aM<|bn<|tn<|aV _ _<|aj fun _ U=>ak (aQ H.rb)<|ak (.slice ar r.length cr)<|e<|cl Pv (TQ A H F k ln seen r ax ar cr ah aZ bu aH bk ca ci bj) aa fun cN cU b1=>aw<|U _ _<|rt<|f1 aa aa<|fF.eq b1<|Uj bj
end Go.Hb.EV
end
section
set_option maxRecDepth 20000
set_option maxHeartbeats 1000000
namespace Go.Hb.lC
open Go.Hb.dT
open Go.Proofs
open Go.Hb.jP Go.Hb.sI Go.Hb.Ad Go.Hb.EV Go.Hb.kH Go.Hb.fq Go.Hb.fQ Go.Hb.mi Go.Hb.gn Go.Hb.lQ Go.Hb.nA Go.Hb.jF Go.Hb.iK Go.Hb.rr Go.Hb.j5 Go.Hb.ji
theorem Tg.blt {w:World} {B e n cp:Nat} {a:Option Addr} {xs:List Value} (h:Tg w B e n (.slice a n cp) xs) (A:xs≠[]):bk a < w.heap.size:=by
 obtain ⟨C,G,q,_,j⟩:=h
 cases q
 rcases j with rfl | ⟨E,cur,z2,rfl,_,i,_⟩
 · exact absurd aa A
 · exact (dm.1 i).1
def Oc (w':World) (B:Nat) (F:aR) (v:Value):Prop := ∃ B1 fb V,B≤B1∧v= .tuple #[.pointer (some ⟨fb,0,none⟩),.int .i64 0,.int .i64 0]∧eA w' B1 0 fb F V∧(∃ seen,nB F [] seen)∧Nx F
def Ob (e:Nat×Nat) (v:Value):Prop :=v= .tuple #[.pointer none,.int .i64 (e.1:Nat),.int .i64 (e.2:Nat)]
theorem nR {l:List (c8×Value)} {i:Nat} {q:c8×Value} (h:l[i]? =some q):mz l≠[]:=fun h2=>by
 have h3:(mz l).length=l.length*8:=oH (f:=jv) (m:=8) (fun _=>rfl) _
 have h4:=(fJ.1 h).1
 rw [h2] at h3
 have h5:0=l.length*8:=h3
 omega
def lT (s:Tx) (w:World) (v:Value) (w':World):Prop :=(match ff s with | .ok F=>Oc w' w.heap.size F v | .error e=>Ob e v)∧Wk w w'
theorem lT.no {s:Tx} {w w':World} {l e:Nat} (h:ff s= .error (l,e)) (hm:Wk w w'):lT s w (.tuple #[.pointer none,.int .i64 (l:Nat),.int .i64 (e:Nat)]) w':=by
 unfold lT; rw [h]; exact ⟨rfl,hm⟩
theorem W6 (s:Tx) (w:World) (hs:s.length≤1048576):
 bh ay 72 (ba [str s]) w (lT s w):=by
 refine enter func72 aa ntmps72 aa<|aj fun _ de=>p aB<|p aB<|aw<|de _ _<|sq fun _ df=>rg aa<|ak (str s)<|e<|cl FM (KY s _ hs) aa fun v20 eZ dZ=> ?_
 obtain ⟨⟨a20,rfl,cS⟩,hE20⟩:=dZ
 refine p mv<|p (xt aa aa)<|p (xt aa aa)<|p aB<|aw<|df _ _<|sq fun _ dg=>aj fun _ dh=>p mv<|p (cX aa aa)<|aE<|dh _ _<|cd aa (fun cm=> ?_) fun cm=> ?_
 have cN:65536 < s.length:=MP fun h=>cm<|by rw [if_neg h]
 refine aj fun _ b4=>p mv<|p aB<|p aB<|aw<|b4 _ _<|rt<|tr<|f3 aa aa aa aa ?_
 have h:=lT.no (E6 cN) hE20
 show lT s w (.tuple #[.pointer none,.int .i64 0,.int .i64 (if 65536 < s.length then 10 else 0)]) eZ
 rw [if_pos cN]
 exact h
 have av:¬65536 < s.length:=fun h=>cm<|by rw [if_pos h]; decide
 rw [if_neg av] at cS
 obtain ⟨vs,c3,eB⟩:=cS
 obtain ⟨ar,cr,rfl⟩:=cw c3
 refine aM<|tn<|dg _ _<|aj fun _ b4=>ak (str s)<|e<|cl Az (Dl s _ hs) aa fun ft G d1=> ?_
 obtain ⟨ey,b6⟩:=d1
 obtain ⟨fs,e3,rfl⟩:=cw ey
 have am:=hE20.trans b6
 have fe:=nT s
 have fi:=yY s
 refine aw<|b4 _ _<|aj fun _ di=>p (cO (ps:= [(0,.int .i64 1),(4,.int .i64 3)]) (L:= [.int .i64 1,.string ⟨⟨[]⟩⟩,.string ⟨⟨[]⟩⟩,.int .i64 0,.int .i64 0,.int .i64 0,.int .i64 0,.int .i64 0,.int .i64 3,.slice none 0 0,.slice none 0 0,.slice none 0 0,.slice none 0 0]) Ys aa<|aa)<|e<|oC aa fun A fA e7 cF dy=> ?_
 have fo:=cF.size
 refine p mv<|p mv<|p (bF eQ aa aa)<|p (bE (((bG s).length+1:Nat):Int) aa aa<|bj ab ab)<|p (cO (ps:= [(0,aQ A),(1,.slice ar (bN s).length cr),(3,au ((bG s).length+1))]) (L:= [aQ A,.slice ar (bN s).length cr,.int .i64 0,au ((bG s).length+1),.slice none 0 0,.int .i64 0]) Yx aa<|aa)<|e<|oC aa fun a bD fb cc dA=> ?_
 have fq:=cc.size
 have dF:Wk G bD:=cF.md.trans cc.md
 have cC:GS G (⟨a,A,(bG s).length+1,.slice ar (bN s).length cr,vs,bN s⟩:fY):=⟨w.heap.size,(Tg.jN c3).wk b6,eB.wk b6,by show (bN s).length≤70000; omega⟩
 have dJ:eA bD G.heap.size 0 A gV ⟨.slice none 0 0,.slice none 0 0,.slice none 0 0,.slice none 0 0,[],[]⟩:=⟨Wk.aJ cc.md dy,du _ _ _ _,du _ _ _ _,ij.nil _ _ _,du _ _ _ _,du _ _ _ _,ij.nil _ _ _,ab,rfl⟩
 have dW:gS bD G.heap.size (⟨a,A,(bG s).length+1,.slice ar (bN s).length cr,vs,bN s⟩:fY) 0 0 [] (.slice none 0 0):=⟨dA,du _ _ _ _,by show G.heap.size≤a; omega⟩
 have d6:mm G bD (⟨a,A,(bG s).length+1,.slice ar (bN s).length cr,vs,bN s⟩:fY) gV 0 0 []:=⟨_,_,dJ,dW,⟨by show 0 +0 +0 +0 +(bN s).length≤70000; omega,by show 0 +(bN s).length≤70000; omega,fun q ao=>by have h:=yZ (show q∈bN s from ao); exact ⟨h.2.2.1,ab,fun x eU=>by have :=(h.2.2.2.2 x eU).2; omega⟩,.inl rfl⟩,dF,jD _⟩
 have ev:Nx gV:=⟨fun l co=>(by cases co),fun l co=>by cases co⟩
 refine aw<|di _ _<|sq fun _ dj=>aJ<|lp (fun ai cy aL=> ∃ (bB:Nat) (F:aR) (k ln:Nat) (seen:List Tx),(gF (⟨a,A,(bG s).length+1,.slice ar (bN s).length cr,vs,bN s⟩:fY).eof bB F seen ((bN s).drop k)=gF ((bG s).length+1) (bN s).length gV [] (bN s))∧(((bN s).drop k).length≤bB)∧(mm G aL (⟨a,A,(bG s).length+1,.slice ar (bN s).length cr,vs,bN s⟩:fY) F k ln seen)∧(Nx F)∧(cy 5= .slice ar (bN s).length cr)∧(cy 8=aQ a)∧(((bN s).drop k).length=ai)) _ ⟨(bN s).length,gV,0,0,[],aa,(cj _),d6,ev,aa,aa,aa⟩ ?_
 rintro ai cy aL ⟨bB,F,k,ln,seen,U,aG,E,cp,eC,eD,rfl⟩
 refine fx 5 eC<|fx 8 eD ?_
 obtain ⟨V,vh,an,Z,I,bb,cZ⟩:=E
 have cZ:k≤(bN s).length:=cZ
 refine sq fun _ dk=>aj fun _ dl=>ak (aQ a)<|p (nc aa)<|p (fa oI aa)<|p (ld bA aa<|(a6 Z.cells).trans aa)<|ak (.slice ar (bN s).length cr)<|p (bF zp aa aa)<|p (lt aa aa)<|aE<|dl _ _<|cd aa (fun ej=> ?_) fun ej=> ?_
 obtain ⟨n,r,aS,a9,dm,dp,aF,eR,aV,bx,⟨dd,cg⟩,c6⟩:=cC.get bb (k:=k)<|by show k < (bN s).length; omega
 have c7:bO ar (bN s).length cr= .slice dm (bN s).length dp:=eR
 simp only [Value.slice.injEq,true_and] at c7
 obtain ⟨rfl,rfl⟩:=c7
 have aV:aI aL.heap ar (kF vs):=aV
 have bx:vs[k]? =some (n,.slice aS r.length a9):=bx
 have c6:vs.length=(bN s).length:=c6
 have aF:(bN s).drop k=(n,r)::(bN s).drop (k+1):=aF
 have I:nB F ((bN s).drop k) seen:=I
 rw [aF] at U aG I
 have c4:=I.row (n,r)<|NH ..
 have fh:0 < r.length:=lx.2 c4.1
 have eb:=I.len
 have ed:=I.sl
 simp only [cM] at eb ed aG
 have dr:=nB.pH I
 have aY:∀ w,Wk G w→bX w.heap aS r:=fun w h=>(cg.wk h).cI.2
 refine aM<|tn<|dk _ _<|aJ<|aj fun _ bS=>ak (.slice ar (bN s).length cr)<|ak (aQ a)<|p (nc aa)<|p (fa oI aa)<|p (ld bA aa<|(a6 Z.cells).trans aa)<|p (a7 nO aa aa ab<|aI.ok (aV)<|lM ab)<|p (fa vg aa)<|p (ld jR aa<|lN aV bx 1 az)<|aw<|bS _ _<|aj fun _ bU=>ak (aQ a)<|ak (.slice ar (bN s).length cr)<|ak (aQ a)<|p (nc aa)<|p (fa oI aa)<|p (ld bA aa<|(a6 Z.cells).trans aa)<|p (a7 nO aa aa ab<|aI.ok (aV)<|lM ab)<|p (fa tt aa)<|p (ld bA aa<|lN aV bx 0 az)<|p (nc aa)<|p (fa pL aa)<|e<|cV gX aa aa (v:=au n) aa Z.cells (by show _ < 6; omega) fun e0 b9 dC=> ?_
 have bk:=Z.dD (k':=k) (ln':=n) b9 dC
 have dP:=an.rb Z b9
 have ea:Wk G e0:=bb.trans' b9 fun q ao h=>by have :=Z.lo; omega
 refine aE<|bU _ _<|aj fun _ bV=>ak (aQ a)<|ak (aQ a)<|p (nc aa)<|p (fa oI aa)<|p (ld bA aa<|(a6 bk.cells).trans aa)<|p (bE ((k+1:Nat):Int) aa aa<|bj ab ab)<|p (nc aa)<|p (fa oI aa)<|e<|cV gX aa aa (v:=au<|k+1) aa bk.cells (by show _ < 6; omega) fun db ca dE=> ?_
 have d3:=bk.dD (k':=k+1) (ln':=n) ca dE
 have dQ:=dP.rb bk ca
 have ci:Wk G db:=ea.trans' ca fun q ao h=>by have :=Z.lo; omega
 refine aE<|bV _ _<|aj fun _ bW=>p mv<|p (a7 cE aa aa ab<|aI.ok (aY _ ci)<|bP ab)<|p (ld bR aa<|bX.get (i:=0) (aY _ ci) ab)<|e<|cl O4 (Ui (r.getD 0 []) db) aa fun fu aK d2=> ?_
 obtain ⟨rfl,b7⟩:=d2
 have aZ:=ci.trans b7
 have bd:=d3.wk b7
 have dO:=dQ.wk b7
 refine aw<|bW _ _<|sq fun _ b0=>aj fun _ a2=>p mv<|p (bH aa aa)<|aE<|a2 _ _<|cd aa (fun ek=> ?_) fun ek=> ?_
 have aA:width (r.getD 0 [])=0:=ab
 refine sq fun _ a3=> ?_
 have ac:(fun w'=>Wk aK w') aK.drew:=(Md.refl _ _).drew
 exact bJ (fun w'=>Wk aK w') aa wide ac<|bC 0 aa (aQ a) ac<|aH 1 aa (fun _ _=>nc aa) ac<|aH 2 aa (fun _ _=>fa pL aa) ac<|aH 3 aa (fun w' E=>ld bA aa<|Wk.aO E<|(a6 bd.cells).trans aa) ac<|aH 4 aa (fun _ _=>aB) ac<|aH 5 aa (fun _ _=>aB) ac<|aH 6 aa (fun _ _=>aB) ac<|hn ag<|tn<|a3 _ _<|rt<|tr<|br<|tr<|br<|tr<|f3 aa aa aa aa<|lT.no (oz av<|KK U aG aA)<|am.trans<|aZ.trans ac
 have aA:width (r.getD 0 [])≠0:=ab
 refine aM<|tn<|b0 _ _<|sq fun _ a3=>aj fun _ b1=>p mv<|p (bF eQ aa aa)<|p mv<|p (cX aa aa)<|aE<|b1 _ _<|cd aa (fun el=> ?_) fun el=> ?_
 refine sq fun _ a4=> ?_
 have ae:(fun w'=>Wk aK w') aK.drew:=(Md.refl _ _).drew
 exact bJ (fun w'=>Wk aK w') aa wide ae<|bC 0 aa (aQ a) ae<|aH 1 aa (fun _ _=>nc aa) ae<|aH 2 aa (fun _ _=>fa pL aa) ae<|aH 3 aa (fun w' E=>ld bA aa<|Wk.aO E<|(a6 bd.cells).trans aa) ae<|aH 4 aa (fun _ _=>aB) ae<|aH 5 aa (fun _ _=>aB) ae<|aH 6 aa (fun _ _=>aB) ae<|hn ag<|tn<|a4 _ _<|rt<|tr<|br<|tr<|br<|tr<|f3 aa aa aa aa<|lT.no (oz av<|KL U aG aA ab)<|am.trans<|aZ.trans ae
 have h1:r.length=width (r.getD 0 []):=ab
 refine aM<|tn<|a3 _ _<|aj fun _ a4=>ak (aQ a)<|p mv<|p (a7 cE aa aa ab<|aI.ok (aY _ aZ)<|bP ab)<|p (ld bR aa<|bX.get (i:=0) (aY _ aZ) ab)<|e<|cl AA (Cs G.heap.size (⟨a,A,(bG s).length+1,.slice ar (bN s).length cr,vs,bN s⟩:fY) (k+1) n seen vh (r.getD 0 []) aK bd ab) aa fun fv bK d4=> ?_
 obtain ⟨rfl,eT⟩:=d4
 subst eT
 refine aw<|a4 _ _ ?_
 refine ec (fun bL cv=>(width (r.getD 0 [])=2→r.getD 0 []∉seen)∧(cv=bK)∧(bL 5= .slice ar (bN s).length cr)∧(bL 8=aQ a)∧(bL 9= .slice aS r.length a9)) ?_ ?_
 refine aj fun _ ax=>p mv<|p (bH aa aa)<|p mv<|gs (t:=95) aa (fun en=> ?_) fun en=> ?_
 refine pg aa aa aa mv<|p (bw aa)<|aE<|ax _ _<|cb aa (fun cn=> ?_) fun cn=> ?_
 refine sq fun _ a5=> ?_
 have ah:(fun w'=>Wk bK w') bK.drew:=(Md.refl _ _).drew
 exact bJ (fun w'=>Wk bK w') aa wide ah<|bC 0 aa (aQ a) ah<|aH 1 aa (fun _ _=>nc aa) ah<|aH 2 aa (fun _ _=>fa pL aa) ah<|aH 3 aa (fun w' E=>ld bA aa<|Wk.aO E<|(a6 bd.cells).trans aa) ah<|aH 4 aa (fun _ _=>aB) ah<|aH 5 aa (fun _ _=>aB) ah<|aH 6 aa (fun _ _=>aB) ah<|hn ag<|tn<|a5 _ _<|rt<|tr<|br<|tr<|br<|tr<|f3 aa aa aa aa<|lT.no (oz av<|Dh U aG aA h1 ab<|of_decide_eq_true cn)<|am.trans<|aZ.trans ah
 exact aM<|tn<|⟨(fun _=>of_decide_eq_false cn),aa,aa,aa,aa⟩
 exact sk aa aa aa aa<|p (bm aa)<|aE<|ax _ _<|cf aa<|aM<|tn<|⟨(fun h=>absurd h ab),aa,aa,aa,aa⟩
 rintro bL cv ⟨c1,eS,eE,eF,eG⟩
 refine fx 5 eE<|fx 8 eF<|fx 9 eG ?_
 subst eS
 refine aj fun _ ax=>ak (aQ a)<|ak (.slice aS r.length a9)<|e<|cl O5 (T8 G (⟨a,A,(bG s).length+1,.slice ar (bN s).length cr,vs,bN s⟩:fY) F (k+1) n seen r dd aS a9 cv cC ⟨V,vh,dO,bd,dr,aZ,by show k+1≤(bN s).length; omega⟩ cg c4.2.2 (by show _+((bN s).drop<|k+1).length < 70000; omega) h1 aA) aa fun eY Y dX=> ?_
 obtain ⟨ep,d8⟩:=dX
 obtain ⟨e4,rfl,cU⟩:∃ e:Nat,eY=au e∧((e=0∧∃ F' k' ln',bY (⟨a,A,(bG s).length+1,.slice ar (bN s).length cr,vs,bN s⟩:fY).eof F seen ((bN s).drop<|k+1) n r= .ok (F',(bN s).drop k')∧mm G Y (⟨a,A,(bG s).length+1,.slice ar (bN s).length cr,vs,bN s⟩:fY) F' k' ln' seen)∨(e≠0∧∃ l:Nat,bY (⟨a,A,(bG s).length+1,.slice ar (bN s).length cr,vs,bN s⟩:fY).eof F seen ((bN s).drop<|k+1) n r= .error (l,e)∧Hb.aO Y.heap a 5=some (au l))):=by
  rcases ep with ⟨F',k',ln',h1,h2,h3⟩ | ⟨l,e,h1,h2,h3,h4⟩
  exact ⟨0,h2,.inl ⟨aa,F',k',ln',h1,h3⟩⟩
  exact ⟨e,h3,.inr ⟨h2,l,h1,h4⟩⟩
 refine aw<|ax _ _<|sq fun _ a5=>aj fun _ b2=>p mv<|p (cX aa aa)<|aE<|b2 _ _<|cd aa (fun ee=> ?_) fun ee=> ?_
 obtain ⟨c0,fr,eo,et⟩:=cU.resolve_left fun h=>by omega
 refine sq fun _ a8=> ?_
 have O:(fun w'=>Wk Y w') Y.drew:=(Md.refl _ _).drew
 exact bJ (fun w'=>Wk Y w') aa wide O<|bC 0 aa (aQ a) O<|aH 1 aa (fun _ _=>nc aa) O<|aH 2 aa (fun _ _=>fa pL aa) O<|aH 3 aa (fun w' E=>ld bA aa<|Wk.aO E<|et) O<|aH 4 aa (fun _ _=>mv) O<|aH 5 aa (fun _ _=>aB) O<|aH 6 aa (fun _ _=>aB) O<|aH 7 aa (fun _ _=>aB) O<|hn ag<|tn<|a8 _ _<|rt<|tr<|br<|tr<|br<|tr<|f3 aa aa aa aa<|lT.no (oz av<|Di U aG aA h1 c1 eo)<|am.trans<|d8.trans O
 obtain ⟨_,F',k',ln',bo,d5⟩:=cU.resolve_right fun h=>by omega
 have cL:=Dj U aG aA h1 c1 bo
 obtain ⟨V2,fw,dK,aD,b5,bl,es⟩:=d5
 obtain ⟨aP,aT,rfl⟩:=cw aD.hd
 have eu:¬((bO aP seen.length aT).ownBlock=some a):=dw aD.hd aD.cells az
 refine aM<|tn<|a5 _ _ ?_
 have M:(fun w'=>Md (fun q=>(bO aP seen.length aT).ownBlock=some q) Y w') Y.drew:=(Md.refl _ _).drew
 refine eM (fun w'=>Md (fun q=>(bO aP seen.length aT).ownBlock=some q) Y w') 12 aa wide M<|bz 0 aa (aQ a) M<|bz 1 aa (aQ a) M<|bq 2 aa (fun _=>nc aa) (fun _=>M)<|bq 3 aa (fun _=>fa pK aa) (fun _=>M)<|dH 4 aa (fun w' E=>ld jR aa<|Md.aO E ((a6 aD.cells).trans aa) eu) M<|bz 5 aa (.slice aS r.length a9) M<|bq 6 aa (fun _=>a7 cE aa aa ab<|aI.ok (aY _ bl)<|bP ab) (fun _=>M)<|dH 7 aa (fun w' E=>ld bR aa<|bX.get (i:=0) (aI.md (aY _ bl) E fun c0 h=>by have h1:=Tg.blt cg c0; have h2:=(dI aD.hd h).1; omega) ab) M<|gL 8 aa ag<|fR fH aa aa fun e1 c9 e5 dT dv=> ?_
 have bc:=ib dT.md
 have aW:=aD.wk bc
 have cG:(fun w'=>Md (fun q=>(bO aP seen.length aT).ownBlock=some q) Y w') c9:=Md.mono bc fun _ _ h=>h.elim
 refine ⟨cG,?_⟩
 refine gL 9 aa ag<|ap fH (aW.hd) aa (by have :=bl.size; have :=bc.size; omega) aa (aI.dS dv) (aa) (aa) ab ab fun c8 da c2 bi fk fd=> ?_
 have cP:=bi.aJ aW.cells<|dw aW.hd aW.cells az
 have ex:=mH c2
 have ce:(fun w'=>Md (fun q=>(bO aP seen.length aT).ownBlock=some q) Y w') da:=cG.trans' bi fun _ _ h=>h
 refine ⟨ce,?_⟩
 refine bq 10 aa (fun _=>nc aa) (fun _=>ce)<|bq 11 aa (fun _=>fa pK aa) (fun _=>ce)<|dG 12 aa ag ag<|cV He aa aa (v:=c8) (eH c2) cP (by show _ < 6; omega) fun cu b8 ds=> ?_
 have dL:=dK.wk bc
 have d7:TF c9 [11] (fun q=>(bO aP seen.length aT).ownBlock=some q):=TF.own aW.hd az
 have dM:=dL.md bi d7 az
 have cJ:TF da [238] (fun q=>q=a):=TF.eq (dt cP) az
 have dN:=dM.md b8 cJ az
 have d0:gS cu G.heap.size (⟨a,A,(bG s).length+1,.slice ar (bN s).length cr,vs,bN s⟩:fY) k' ln' (seen++ [r.getD 0 []]) c8:=⟨ds,bZ ex b8 cJ az,aD.lo⟩
 have d9:Wk G cu:=((bl.trans bc).trans' bi fun q ao h=>by have :=(dI aW.hd h).1; omega).trans' b8 fun q ao h=>by omega
 have fj:=qG bo
 have M:mm G cu (⟨a,A,(bG s).length+1,.slice ar (bN s).length cr,vs,bN s⟩:fY) F' k' ln' (seen++ [r.getD 0 []]):=⟨_,_,dN,d0,⟨b5.len,by rw [bI,eW]; show seen.length+1 +((bN s).drop k').length≤70000; omega,b5.row,b5.kd⟩,d9,es⟩
 have ew:=yC cp bo
 exact eL ag<|bn<|tn<|⟨_,by rw [aF]; have :=qG bo; simp only [cM]; omega,bB - 1,F',k',ln',seen++ [r.getD 0 []],cL.1,cL.2,M,ew,aa,aa,aa⟩
 have aF:(bN s).drop k= []:=gP ab
 rw [aF,vJ] at U
 refine ext<|te _<|te _<|be<|tn<|dj _ _<|aj fun _ bS=>ak (aQ a)<|p (nc aa)<|p (fa lJ aa)<|p (ld gW aa<|(a6 Z.cells).trans aa)<|aw<|bS _ _<|sq fun _ bU=>sq fun _ bV=>rg aa<|aw<|bV _ _<|aJ ?_
 obtain ⟨a12,ks,c5⟩:=cw an.dB
 have a0:=an.dB
 rw [c5] at a0
 have bs:Hb.aO aL.heap A 12=some (.slice a12 F.rules.length ks):=by rw [← c5]; exact (a6 an.cells).trans rfl
 have fc:=I.len
 refine lp (fun ai cA dc=> ∃ (i:Nat),(i≤F.rules.length)∧(∀ j q,j < i→F.rules[j]? =some q→nH F q=false)∧(Wk aL dc)∧(cA 12=aQ A)∧(cA 13=au i)∧(F.rules.length - i=ai)) _ ⟨0,ab,(fun j q cY=>by omega),(Md.refl _ _),aa,aa,aa⟩ ?_
 rintro ai cA dc ⟨i,hi,bu,bg,eI,eJ,rfl⟩
 refine fx 12 eI<|fx 13 eJ<|sq fun _ bW=>sq fun _ b0=> ?_
 have ef:=Wk.aO bg bs
 refine rg aa<|ak (au i)<|ak (aQ A)<|p (nc aa)<|p (fa jL aa)<|p (ld j6 aa<|ef)<|p (bF tM aa aa)<|p (lt aa aa)<|aE<|b0 _ _<|cd aa (fun eg=> ?_) fun eg=> ?_
 refine aM<|tn<|bW _ _<|sq fun _ a2=>aJ<|sq fun _ a3=> ?_
 have cT:i < F.rules.length:=ab
 obtain ⟨vn,eP,ch⟩:=ij.get an.nx (i:=i)<|by rw [fE]; exact cT
 obtain ⟨q,a1⟩:∃ q,F.rules[i]? =some q:=⟨_,cz cT⟩
 have ez:(F.rules.map (·.next)).getD i []=q.next:=by rw [cQ,ic,a1]; rfl
 rw [ez] at ch
 have fg:=cp.2 q<|iJ a1
 obtain ⟨dn,dq,rfl⟩:=ch.slice
 have aq:(F.rules.zip V.rn)[i]? =some (q,.slice dn q.next.length dq):=by rw [jx]; exact ⟨a1,eP⟩
 refine rg aa<|aw<|a3 _ _<|aJ<|lp (fun ai bQ cx=> ∃ (j:Nat),(j≤q.next.length)∧(∀ bf,bf < j→mE F (q.next.getD bf 0)=true)∧(Wk aL cx)∧(bQ 12=aQ A)∧(bQ 13=au i)∧(bQ 14=au j)∧(q.next.length - j=ai)) _ ⟨0,ab,(fun bf er=>by omega),bg,aa,aa,aa,aa⟩ ?_
 rintro ai bQ cx ⟨j,cY,cq,aC,eK,eN,eO,rfl⟩
 refine fx 12 eK<|fx 13 eN<|fx 14 eO<|sq fun _ b1=>sq fun _ a4=> ?_
 have cR:=Wk.aO aC bs
 have bv:=aU a0 aC
 refine rg aa<|ak (au j)<|ak (aQ A)<|p (nc aa)<|p (fa jL aa)<|p (ld j6 aa<|cR)<|ak (au i)<|p (a7 nN aa aa ab<|aI.ok ((aX bv).2)<|nR aq)<|p (fa u6 aa)<|p (ld pC aa<|e9 (f:=jv) (m:=8) (fun _=>rfl) (aX bv).2 aq 6 az)<|p (bF nq aa aa)<|p (lt aa aa)<|aE<|a4 _ _<|cd aa (fun eh=> ?_) fun eh=> ?_
 refine aM<|tn<|b1 _ _<|sq fun _ ax=>aJ<|sq fun _ a5=> ?_
 have cK:=ch.wk aC
 have eV:(q.next.map bM)[j]? =some (bM<|q.next.getD j 0):=by rw [ic,cQ,cz (by omega :j < q.next.length)]; rfl
 refine rg aa<|ak (aQ A)<|p (nc aa)<|p (fa jL aa)<|p (ld j6 aa<|cR)<|ak (au i)<|p (a7 nN aa aa ab<|aI.ok ((aX bv).2)<|nR aq)<|p (fa u6 aa)<|p (ld pC aa<|e9 (f:=jv) (m:=8) (fun _=>rfl) (aX bv).2 aq 6 az)<|ak (au j)<|p (a7 j9 aa aa ab<|aI.ok (cK.cI.2)<|bP ab)<|p (ld bA aa<|aI.gG cK.cI.2 eV)<|aw<|a5 _ _<|sq fun _ b2=>rg aa<|ak (aQ A)<|p mv<|e<|cl AB (Cj G.heap.size 0 A F V (q.next.getD j 0) cx (an.wk aC) ab) aa fun v164 fz dY=> ?_
 obtain ⟨rfl,cB⟩:=dY
 have fm:=cB.size
 refine p mv<|p (xt aa aa)<|p (xt aa aa)<|e<|al sc fun e2 fy e6 cD dx=>e<|cW qu aa aa aa aa (dx) (by simp) fun aN dR dz=> ?_
 have J:Wk aL aN:=(aC.trans<|cB.trans cD.md).trans' dR fun q ao h=>by have :=aC.size; omega
 have fl:=cD.size
 refine aw<|b2 _ _<|aj fun _ a8=>p mv<|ak (aQ A)<|p (nc aa)<|p (fa tk aa)<|p (ka sR aa aa ab)<|p (ld bA aa<|(a6 (an.wk J).cells).trans aa)<|p (cX aa aa)<|p mv<|gs (t:=174) aa (fun em=> ?_) fun em=> ?_
 refine pg aa aa aa mv<|pg aa aa aa (no aa)<|pg aa aa aa mv<|gb (t:=177) aa (fun bt=> ?_) fun bt=> ?_
 refine sk aa aa aa aa<|sk aa aa aa aa<|sk aa aa aa aa<|pg aa aa aa (bw aa)<|p (bw aa)<|aE<|a8 _ _<|ct aa<|sq fun _ b3=> ?_
 have C:(fun w'=>Wk aN w') aN.drew:=(Md.refl _ _).drew
 refine bJ (fun w'=>Wk aN w') aa wide C<|bC 0 aa (aQ A) C<|aH 1 aa (fun _ _=>nc aa) C<|aH 2 aa (fun _ _=>fa jL aa) C<|aH 3 aa (fun w' E=>ld j6 aa<|Wk.aO E<|Wk.aO J bs) C<|bC 4 aa (au i) C<|aH 5 aa (fun _ _=>a7 nN aa aa ab<|aI.ok ((aX<|aU a0 J).2)<|nR aq) C<|aH 6 aa (fun _ _=>fa Ih aa) C<|aH 7 aa (fun w' E=>ld bA aa<|Wk.aO E<|e9 (f:=jv) (m:=8) (fun _=>rfl) (aX<|aU a0 J).2 aq 7 az) C<|aH 8 aa (fun _ _=>aB) C<|aH 9 aa (fun _ _=>aB) C<|aH 10 aa (fun _ _=>aB) C<|hn ag<|tn<|b3 _ _<|rt<|br<|tr<|tr<|br<|br<|tr<|tr<|br<|tr<|f3 aa aa aa aa ?_
 have ck:ff s= .error (q.line,118):=Af av U.symm<|qA bu a1<|qo (j:=j) ab<|yU ab<|by simpa using bt
 exact lT.no ck<|am.trans<|bb.trans<|J.trans C
 refine pg aa aa aa (fa yj aa)<|pg aa aa aa (ld bA aa<|(dz.aO 1).trans aa)<|pg aa aa aa (cX aa aa)<|pg aa aa aa (bm aa)<|p (bw aa)<|aE<|a8 _ _<|cd aa (fun ei=> ?_) fun ei=> ?_
 refine sq fun _ b3=> ?_
 have C:(fun w'=>Wk aN w') aN.drew:=(Md.refl _ _).drew
 refine bJ (fun w'=>Wk aN w') aa wide C<|bC 0 aa (aQ A) C<|aH 1 aa (fun _ _=>nc aa) C<|aH 2 aa (fun _ _=>fa jL aa) C<|aH 3 aa (fun w' E=>ld j6 aa<|Wk.aO E<|Wk.aO J bs) C<|bC 4 aa (au i) C<|aH 5 aa (fun _ _=>a7 nN aa aa ab<|aI.ok ((aX<|aU a0 J).2)<|nR aq) C<|aH 6 aa (fun _ _=>fa Ih aa) C<|aH 7 aa (fun w' E=>ld bA aa<|Wk.aO E<|e9 (f:=jv) (m:=8) (fun _=>rfl) (aX<|aU a0 J).2 aq 7 az) C<|aH 8 aa (fun _ _=>aB) C<|aH 9 aa (fun _ _=>aB) C<|aH 10 aa (fun _ _=>aB) C<|hn ag<|tn<|b3 _ _<|rt<|br<|tr<|tr<|br<|br<|tr<|tr<|br<|tr<|f3 aa aa aa aa ?_
 have ck:ff s= .error (q.line,118):=Af av U.symm<|qA bu a1<|qo (j:=j) ab<|yT ab (by simpa using bt)<|by show ((dU F.bp<|q.next.getD j 0).getD nJ).kind≠2; omega
 exact lT.no ck<|am.trans<|bb.trans<|J.trans C
 exact aM<|bn<|tn<|ax _ _<|rg aa<|ak (au j)<|p (ad aa aa<|bT ab)<|p aB<|nl<|tn<|⟨_,ab,j+1,ab,(fun k hk=>by rcases e8 k j with h | h <;> first | exact cq k h | (rw [show k=j by omega]; exact Kn (by simpa using bt)<|by show ((dU F.bp<|q.next.getD j 0).getD nJ).kind=2; omega)),J,aa,aa,aa,aa⟩
 exact sk aa aa aa aa<|sk aa aa aa aa<|sk aa aa aa aa<|dV aa aa aa<|dV aa aa aa<|dV aa aa aa<|sk aa aa aa aa<|p (bm aa)<|aE<|a8 _ _<|cf aa<|aM<|bn<|tn<|ax _ _<|rg aa<|ak (au j)<|p (ad aa aa<|bT ab)<|aw<|⟨_,ab,j+1,ab,(fun k hk=>by rcases e8 k j with h | h <;> first | exact cq k h | (rw [show k=j by omega]; exact Km ab)),J,aa,aa,aa,aa⟩
 exact ext<|te _<|te _<|be<|bn<|tn<|a2 _ _<|rg aa<|ak (au i)<|p (ad aa aa<|bT ab)<|aw<|⟨_,ab,i+1,ab,(fun k eX hk cs=>by rcases e8 k i with h | h <;> first | exact bu k eX h cs | (rw [show k=i by omega,a1] at cs; cases cs; exact Fy fun bf er=>cq bf ab)),aC,aa,aa,aa⟩
 refine ext<|te _<|te _<|be<|tn<|bU _ _<|aj fun _ a2=>ak (aQ A)<|p (cH (aQ A) aa)<|p aB<|aw<|a2 _ _<|rt<|f3 aa aa aa aa ?_
 unfold lT
 rw [E8 av U.symm (HQ fun j q cY ao=>bu j q ab ao)]
 exact ⟨⟨G.heap.size,A,V,by have :=am.size; omega,aa,an.wk bg,⟨seen,by have I:=I; rw [show (fY.rows (⟨a,A,(bG s).length+1,.slice ar (bN s).length cr,vs,bN s⟩:fY)).drop k= [] from aF] at I; exact I⟩,cp⟩,am.trans<|bb.trans bg⟩
end Go.Hb.lC
end
section
set_option maxRecDepth 20000
set_option maxHeartbeats 1000000
namespace Go.Hb.lR
open Go.Hb.dT
open Go.Proofs
open Go.Hb.jP Go.Hb.sI Go.Hb.lC Go.Hb.fq Go.Hb.fQ Go.Hb.gn Go.Hb.rk Go.Hb.iK Go.Hb.sJ Go.Hb.kn Go.Hb.rr Go.Hb.j5 Go.Hb.ji Go.Hb.j4 Go.Hb.kK Go.Hb.k0 Go.Hb.lA
def N7 (w':World) (X:Except Nat bD) (v:Value):Prop :=(∃ x a,X= .ok x∧v= .tuple #[.agg [str x.1,a].toArray,.int .i64 (0:Nat)]∧a.oneCell'=true∧Tg w' 0 3 x.2.length a (x.2.map bM))∨(∃ e,X= .error e∧e≠0∧v= .tuple #[.agg [str [],.slice none 0 0].toArray,.int .i64 (e:Nat)])
theorem r6 (w:World) (B e:Nat):Tg w B e 0 (.slice none 0 0) []:=Tg.jN (size:=1)<|du _ _ _ _
def mU (w:World) (B:Nat) (v:Value) (xs:List bD):Prop := ∃ vs,bo w B 169 2 v xs.length (j7<|xs.zip vs)∧ij w 0 3 vs (xs.map (·.2))
theorem mU.md {G:Nat→Prop} {w w':World} {B:Nat} {v:Value} {xs:List bD} (h:mU w B v xs) (hm:Md G w w') {L:List Nat} (i:TF w L G) (a:(L.contains 171 || L.contains 5)=false):mU w' B v xs:=by
 simp only [nw] at a
 obtain ⟨vs,h1,h2⟩:=h
 exact ⟨vs,bZ h1 hm i a.1,h2.md hm fun k hk cur z j=>i.no (dt j) a.2 hk⟩
theorem mU.wk {w w':World} {B:Nat} {v:Value} {xs:List bD} (h:mU w B v xs) (hm:Wk w w'):mU w' B v xs:=h.md (L:= []) hm (fun _ hk=>hk.elim) rfl
def lB (F:aR) (t:Tx) (w:World) (v:Value) (w':World):Prop :=(match e6 F t with | .ok xs=> ∃ a,v= .tuple #[a,.int .i64 0,.int .i64 0]∧mU w' w.heap.size a xs | .error e=>v= .tuple #[.slice none 0 0,.int .i64 (e.1:Nat),.int .i64 (e.2:Nat)])∧Wk w w'
theorem lB.no {F:aR} {t:Tx} {w w':World} {l e:Nat} (h:e6 F t= .error (l,e)) (hm:Wk w w'):lB F t w (.tuple #[.slice none 0 0,.int .i64 (l:Nat),.int .i64 (e:Nat)]) w':=by
 unfold lB; rw [h]; exact ⟨rfl,hm⟩
theorem Uc (B fb:Nat) (F:aR) (V:eh) (x:Nat) (w:World) (C:eA w B 0 fb F V) (aq:F.bp.length≤70000):
 bh ay 182 (ba [aQ fb,bM x]) w (fun v w'=>v= .bool (eB F x)∧Wk w w'):=by
 have aD:=C.fI
 refine enter func182 aa ntmps182 aa<|aj fun _ U=>aw<|U _ _<|sq fun _ Y=>aj fun _ Z=>aw<|Z _ _<|aJ<|lp (fun G a E=> ∃ (i:Nat),(i≤5)∧(∀ j,j < i→F.sp.getD j 0≠x)∧(E=w)∧(a 0=aQ fb)∧(a 1=bM x)∧(a 5=au i)∧(5 - i=G)) _ ⟨0,ab,(fun j M=>by omega),aa,aa,aa,aa,aa⟩ ?_
 rintro G a E ⟨i,hi,O,ai,ar,av,ax,rfl⟩
 refine fx 0 ar<|fx 1 av<|fx 5 ax ?_
 subst ai
 refine sq fun _ ac=>aj fun _ ae=>ak (au i)<|p (lt aa aa)<|aE<|ae _ _<|cd aa (fun ap=> ?_) fun ap=> ?_
 refine aM<|tn<|ac _ _<|sq fun _ q=>aJ<|aj fun _ A=>ak (aQ fb)<|ak (au i)<|p (nc aa)<|p (fa tk aa)<|p (ka sR aa aa ab)<|p (ld bA aa<|(a6 C.cells).trans<|IJ (i:=i) ab)<|ak (bM x)<|p (bH aa aa)<|aE<|A _ _<|cd aa (fun J=> ?_) fun J=> ?_
 exact aj fun _ ag=>aw<|ag _ _<|rt<|br<|tr<|tr<|br<|tr<|f1 aa aa<|⟨by rw [Hh (show x∈F.sp from by obtain rfl :F.sp.getD i 0=x:=ab; exact dQ ab)]; rfl,Md.refl _ _⟩
 exact aM<|bn<|tn<|q _ _<|rg aa<|ak (au i)<|p (ad aa aa<|bT ab)<|p aB<|nl<|tn<|⟨_,ab,i+1,ab,(fun j M=>by rcases e8 j i with h | h <;> first | exact O j h | (rw [show j=i by omega]; exact fun h2=>J<|by rw [h2])),aa,aa,aa,aa,aa⟩
 refine ext<|te _<|te _<|be<|tn<|Y _ _<|aj fun _ q=>ak (aQ fb)<|ak (bM x)<|e<|cl AB (Cj B 0 fb F V x E C aq) aa fun aG aH ao=> ?_
 obtain ⟨rfl,I⟩:=ao
 have aF:=I.size
 exact p mv<|p (xt aa aa)<|p (xt aa aa)<|e<|al sc fun az aI aC an ah=>e<|cW qu aa aa aa aa (ah) (by simp) fun aK am aA=>aw<|q _ _<|aj fun _ A=>p mv<|aw<|A _ _<|rt<|f1 aa aa<|⟨by rw [Hi (JO fun j M=>O j ab)]; rfl,(I.trans an.md).trans' am fun k hk h=>by omega⟩
theorem TV (B fb:Nat) (F:aR) (V:eh) (r:List Tx) (a8:Nat) (ar:Option Addr) (cr:Nat) (w:World) (aZ:eA w B 0 fb F V) (bK:∃ seen,nB F [] seen) (ca:Nx F) (b3:Tg w a8 9 r.length (.slice ar r.length cr) (r.map str)) (cc:∀ x∈r,x.length≤70000) (cx:r.length≤70000):
 bh ay 119 (ba [aQ fb,.slice ar r.length cr]) w (fun v w'=>N7 w' (fS F r) v∧Wk w w'):=by
 obtain ⟨seen,aX⟩:=bK
 have cv:=aX.len
 have cB:=r9<|r.getD 0 []
 refine enter func119 aa ntmps119 aa<|aj fun _ a9=>e<|ga MC fun aT a6 cu ac aW=> ?_
 have cF:=ac.size
 have a1:=b3.wk ac.md
 have bO:=aZ.wk ac.md
 have aG:bL a6.heap aT [str [],.slice none 0 0]:=⟨_,aW⟩
 refine aw<|a9 _ _<|sq fun _ bj=>aj fun _ bq=>ak (.slice ar r.length cr)<|p (bF eQ aa aa)<|p (cX aa aa)<|aE<|bq _ _<|cd aa (fun b4=> ?_) fun b4=> ?_
 exact aj fun _ aA=>p (cO (ps:= []) (L:= [.string ⟨⟨[]⟩⟩,.slice none 0 0]) pT aa<|aa)<|e<|cW oE aa aa aa aa (aG) (by simp) fun cU bW bI=>aw<|aA _ _<|rt<|tr<|eo aa (dK (cs:= [str [],.slice none 0 0]) aa oA aa fun j A=>bI.bB j) ea<|⟨.inr ⟨111,Hv ab,az,aa⟩,ac.md.trans' bW fun q a h=>by omega⟩
 have I:r.length=1:=ab
 have cy:(r.getD 0 []).length≤70000:=cc _<|dQ ab
 refine aM<|tn<|bj _ _<|aj fun _ aA=>ak (.slice ar r.length cr)<|p (a7 cE aa aa ab<|aI.ok (a1.cI.2)<|bP ab)<|p (ld bR aa<|bX.get (i:=0) a1.cI.2 ab)<|e<|cl xC (y3 (r.getD 0 []) a6 ab) aa fun cJ cm bZ=> ?_
 obtain ⟨rfl,M⟩:=bZ
 have aY:=ac.md.trans M
 have cC:=M.size
 refine p mv<|p (xt aa aa)<|p (xt aa aa)<|p (xt aa aa)<|p (xt aa aa)<|p aB<|p aB<|p aB<|aw<|aA _ _<|sq fun _ bs=>aj fun _ bt=>p mv<|p (cX aa aa)<|aE<|bt _ _<|cd aa (fun b5=> ?_) fun b5=> ?_
 exact aj fun _ aC=>p (cO (ps:= []) (L:= [.string ⟨⟨[]⟩⟩,.slice none 0 0]) pT aa<|aa)<|p mv<|e<|cW oE aa aa aa aa (Wk.B M aG) (by simp) fun cV bY bJ=>aw<|aC _ _<|rt<|tr<|eo aa (dK (cs:= [str [],.slice none 0 0]) aa oA aa fun j A=>bJ.bB j) ea<|⟨.inr ⟨_,xT I ab,ab,aa⟩,aY.trans' bY fun q a h=>by omega⟩
 have J:(bu<|r.getD 0 []).2.2.2=0:=ab
 refine aM<|tn<|bs _ _<|aj fun _ aC=>p mv<|e<|cl uM (vH (bu<|r.getD 0 []).1 cm ab) aa fun cK cn b0=> ?_
 obtain ⟨rfl,Y⟩:=b0
 have Z:=aY.trans Y
 have ae:=Wk.B (M.trans Y) aG
 have cD:=Y.size
 refine aw<|aC _ _<|sq fun _ bv=>aj fun _ aS=>p mv<|p (cg u9 aa aa)<|p (bH aa aa)<|p mv<|gs (t:=36) aa (fun a5=> ?_) fun a5=> ?_
 have aK:gq (bu<|r.getD 0 []).1=false∨(bu<|r.getD 0 []).1= []:= .inr<|fO ab
 exact sk aa aa aa aa<|sk aa aa aa aa<|p (bw aa)<|aE<|aS _ _<|ct aa<|aj fun _ U=>p (cO (ps:= []) (L:= [.string ⟨⟨[]⟩⟩,.slice none 0 0]) pT aa<|aa)<|e<|cW oE aa aa aa aa (ae) (by simp) fun cp aF aD=>aw<|U _ _<|rt<|tr<|eo aa (dK (cs:= [str [],.slice none 0 0]) aa oA aa fun j A=>aD.bB j) ea<|⟨.inr ⟨21,xU I J aK,az,aa⟩,Z.trans' aF fun q a h=>by omega⟩
 refine pg aa aa aa mv<|pg aa aa aa (no aa)<|p (bm aa)<|aE<|aS _ _<|cb aa (fun aL=> ?_) fun aL=> ?_
 have aK:gq (bu<|r.getD 0 []).1=false∨(bu<|r.getD 0 []).1= []:=by
  first
   | exact .inl<|by simpa using aL
   | exact .inr<|fO ab
 exact aj fun _ U=>p (cO (ps:= []) (L:= [.string ⟨⟨[]⟩⟩,.slice none 0 0]) pT aa<|aa)<|e<|cW oE aa aa aa aa (ae) (by simp) fun cp aF aD=>aw<|U _ _<|rt<|tr<|eo aa (dK (cs:= [str [],.slice none 0 0]) aa oA aa fun j A=>aD.bB j) ea<|⟨.inr ⟨21,xU I J aK,az,aa⟩,Z.trans' aF fun q a h=>by omega⟩
 have al:(bu<|r.getD 0 []).1≠[]:=fun h=>a5<|by rw [h]; rfl
 have ag:gq (bu<|r.getD 0 []).1=true :=by simpa using aL
 refine aM<|tn<|bv _ _<|sq fun _ U=>aj fun _ bb=>p mv<|p (cg u9 aa aa)<|p (gt aa aa)<|aE<|bb _ _<|cd aa (fun b6=> ?_) fun b6=> ?_
 exact aj fun _ ap=>p (cO (ps:= []) (L:= [.string ⟨⟨[]⟩⟩,.slice none 0 0]) pT aa<|aa)<|e<|cW oE aa aa aa aa (ae) (by simp) fun cN bQ bz=>aw<|ap _ _<|rt<|tr<|eo aa (dK (cs:= [str [],.slice none 0 0]) aa oA aa fun j A=>bz.bB j) ea<|⟨.inr ⟨22,Hw I J ag al ab,az,aa⟩,Z.trans' bQ fun q a h=>by omega⟩
 refine aM<|tn<|U _ _<|sq fun _ ap=>aj fun _ bc=>p mv<|p (no aa)<|nl<|tn<|bc _ _<|cb aa (fun ah=> ?_) fun ah=> ?_
 exact aj fun _ aq=>p mv<|p (cO (ps:= [(0,str (bu<|r.getD 0 []).1)]) (L:= [str (bu<|r.getD 0 []).1,.slice none 0 0]) pT aa<|aa)<|e<|cW oE aa aa aa aa (ae) (by simp) fun cP bS bC=>aw<|aq _ _<|rt<|tr<|eo aa (dK (cs:= [str (bu<|r.getD 0 []).1,.slice none 0 0]) aa oA aa fun j A=>bC.bB j) ea<|⟨.inl ⟨_,.slice none 0 0,Hx I J ag al ab (by simpa using ah),aa,aa,r6 _ _ _⟩,Z.trans' bS fun q a h=>by omega⟩
 refine aM<|tn<|ap _ _<|aj fun _ aq=>ak (aQ fb)<|p mv<|e<|cl F1 (IH B fb F V (bu<|r.getD 0 []).2.1 cn (bO.wk<|M.trans Y).r aX.kd ab ab) aa fun cL co b1=> ?_
 obtain ⟨⟨cq,aU,rfl,cw,a4⟩,hE52⟩:=b1
 have am:=Z.trans hE52
 have aH:=Wk.B hE52 ae
 have cG:=hE52.size
 refine p mv<|p (xt aa aa)<|p (xt aa aa)<|p aB<|aw<|aq _ _<|sq fun _ bd=>aj fun _ bf=>p mv<|p (cX aa aa)<|aE<|bf _ _<|cd aa (fun a3=> ?_) fun a3=> ?_
 have aO:aU≠0:=fun bx=>a3<|by rw [bx]; rfl
 rcases a4 with ⟨l,h,_⟩ | ⟨b9,ai⟩
 exact absurd h aO
 exact aj fun _ av=>p (cO (ps:= []) (L:= [.string ⟨⟨[]⟩⟩,.slice none 0 0]) pT aa<|aa)<|p mv<|e<|cW oE aa aa aa aa (aH) (by simp) fun cR bU bD=>aw<|av _ _<|rt<|tr<|eo aa (dK (cs:= [str [],.slice none 0 0]) aa oA aa fun j A=>bD.bB j) ea<|⟨.inr ⟨_,Hy I J ag al ab (by simpa using ah) ai,b9,aa⟩,am.trans' bU fun q a h=>by omega⟩
 have aO:aU=0:=ab
 have b8:=a4.resolve_right fun h=>h.1 aO
 obtain ⟨set,_,ai,ao⟩:=b8
 have ck:=ao.slice
 obtain ⟨C,E,a⟩:=ck
 subst a
 have cA:=x9 ca.1 ai
 refine aM<|tn<|bd _ _<|sq fun _ av=>aj fun _ bg=>aw<|bg _ _<|aJ<|lp (fun aV O aP=> ∃ (j:Nat),(j≤set.length)∧(∀ q,q < j→eB F (set.getD q 0)=true)∧(Wk co aP)∧(O 0=aQ fb)∧(O 4=aQ aT)∧(O 6=str (bu<|r.getD 0 []).1)∧(O 11= .slice C set.length E)∧(O 12=au j)∧(set.length - j=aV)) _ ⟨0,ab,(fun q a=>by omega),(Md.refl _ _),aa,aa,aa,aa,aa,aa⟩ ?_
 rintro aV O aP ⟨j,A,a2,G,ce,ci,cj,cf,ch,rfl⟩
 refine fx 0 ce<|fx 4 ci<|fx 6 cj<|fx 11 cf<|fx 12 ch<|sq fun _ bi=>aj fun _ bk=>ak (au j)<|ak (.slice C set.length E)<|p (bF nq aa aa)<|p (lt aa aa)<|aE<|bk _ _<|cd aa (fun b7=> ?_) fun b7=> ?_
 refine aM<|tn<|bi _ _<|sq fun _ ax=>aJ<|aj fun _ bl=>ak (aQ fb)<|ak (.slice C set.length E)<|ak (au j)<|p (a7 j9 aa aa ab<|aI.ok ((ao.wk G).cI.2)<|bP ab)<|p (ld bA aa<|aI.gG (ao.wk G).cI.2 (show (set.map bM)[j]? =some (bM<|set.getD j 0) by rw [ic,cQ,cz (by omega :j < set.length)]; rfl)) ?_
 refine e<|cl Pw (Uc B fb F V (set.getD j 0) aP (aZ.wk<|am.trans G) ab) aa fun v70 cM b2=> ?_
 obtain ⟨rfl,bN⟩:=b2
 have an:=G.trans bN
 have cH:=an.size
 refine aw<|bl _ _<|aj fun _ bo=>p mv<|p (no aa)<|nl<|tn<|bo _ _<|cb aa (fun aN=> ?_) fun aN=> ?_
 exact aj fun _ bp=>p (cO (ps:= []) (L:= [.string ⟨⟨[]⟩⟩,.slice none 0 0]) pT aa<|aa)<|e<|cW oE aa aa aa aa (Wk.B an aH) (by simp) fun cS bV bE=>aw<|bp _ _<|rt<|br<|tr<|tr<|br<|tr<|eo aa (dK (cs:= [str [],.slice none 0 0]) aa oA aa fun j A=>bE.bB j) ea<|⟨.inr ⟨120,Hz I J ag al ab (by simpa using ah) ai (i:=j) ab (by simpa using aN),az,aa⟩,(am.trans an).trans' bV fun q a h=>by omega⟩
 exact aM<|bn<|tn<|ax _ _<|rg aa<|ak (au j)<|p (ad aa aa<|bT ab)<|p aB<|nl<|tn<|⟨_,ab,j+1,ab,(fun q a=>by rcases e8 q j with h | h <;> first | exact a2 q h | (rw [show q=j by omega]; simpa using aN)),an,aa,aa,aa,aa,aa,aa⟩
 exact ext<|te _<|te _<|be<|tn<|av _ _<|aj fun _ ax=>ak (str (bu<|r.getD 0 []).1)<|ak (.slice C set.length E)<|p (cO (ps:= [(0,str (bu<|r.getD 0 []).1),(1,.slice C set.length E)]) (L:= [str (bu<|r.getD 0 []).1,.slice C set.length E]) pT aa<|aa)<|e<|cW oE aa aa aa aa (Wk.B G aH) (by simp) fun cT a0 bG=>aw<|ax _ _<|rt<|eo aa (dK (cs:= [str (bu<|r.getD 0 []).1,.slice C set.length E]) aa oA aa fun j A=>bG.bB j) ea<|⟨.inl ⟨((bu<|r.getD 0 []).1,set),.slice C set.length E,Bz I J ag al ab (by simpa using ah) ai (fun j A=>a2 j ab),aa,aa,(ao.wk G).md a0<|fg (Wk.aJ ((M.trans<|Y.trans hE52).trans G) aW) az⟩,(am.trans G).trans' a0 fun q a h=>by omega⟩
end Go.Hb.lR
end
section
set_option maxRecDepth 20000
set_option maxHeartbeats 1000000
namespace Go.Hb.mj
open Go.Hb.dT
open Go.Proofs
open Go.Hb.jP Go.Hb.sI Go.Hb.lC Go.Hb.fq Go.Hb.fQ Go.Hb.gn Go.Hb.rk Go.Hb.iK Go.Hb.sJ Go.Hb.kn Go.Hb.rr Go.Hb.j5 Go.Hb.ji Go.Hb.j4 Go.Hb.kK Go.Hb.k0 Go.Hb.lA Go.Hb.lR
theorem I3 {r:List Tx} (h:r.length≠1):k9 r=(0,111):=if_pos h
theorem UD {r:List Tx} (h:r.length=1):k9 r=dY (r.getD 0 []) 8192:=if_neg fun h2=>h2 h
theorem TT (B fb:Nat) (F:aR) (V:eh) (t:Tx) (w:World) (cD:eA w B 0 fb F V) (cx:∃ seen,nB F [] seen) (c1:Nx F) (hs:t.length≤1048576):
 bh ay 73 (ba [aQ fb,str t]) w (lB F t w):=by
 refine enter func73 aa ntmps73 aa<|aj fun _ b7=>p aB<|p aB<|aw<|b7 _ _<|sq fun _ cf=>rg aa<|ak (str t)<|e<|cl FM (KY t _ hs) aa fun dF dk cF=> ?_
 obtain ⟨⟨dm,rfl,bO⟩,hE17⟩:=cF
 refine p mv<|p (xt aa aa)<|p (xt aa aa)<|p aB<|aw<|cf _ _<|sq fun _ ck=>aj fun _ cm=>p mv<|p (cX aa aa)<|aE<|cm _ _<|cd aa (fun a6=> ?_) fun a6=> ?_
 have bw:65536 < t.length:=MP fun h=>a6<|by rw [if_neg h]
 refine aj fun _ aW=>p mv<|p aB<|p aB<|aw<|aW _ _<|rt<|tr<|f3 aa aa aa aa ?_
 have h:=lB.no (F:=F) (Hn bw) hE17
 show lB F t w (.tuple #[.slice none 0 0,.int .i64 0,.int .i64 (if 65536 < t.length then 10 else 0)]) _
 rw [if_pos bw]
 exact h
 have ao:¬65536 < t.length:=fun h=>a6<|by rw [if_pos h]; decide
 rw [if_neg ao] at bO
 obtain ⟨vs,b1,bc⟩:=bO
 obtain ⟨ar,cr,rfl⟩:=cw b1
 have dz:=yY t
 have cy:=(aX b1).2
 have dA:=bc.1
 refine aM<|tn<|ck _ _<|aj fun _ aW=>ak (str t)<|e<|cl Az (Dl t _ hs) aa fun v24 Z cG=> ?_
 obtain ⟨c2,ax⟩:=cG
 obtain ⟨b4,qt,rfl⟩:=cw c2
 have O:=hE17.trans ax
 have dv:=nT t
 have C:=cy.wk ax
 refine aw<|aW _ _<|sq fun _ cn=>aj fun _ cp=>p mv<|p (bF zp aa aa)<|p (bH aa aa)<|aE<|cp _ _<|cd aa (fun a8=> ?_) fun a8=> ?_
 have c0:bN t= []:=fO ab
 exact aj fun _ aY=>p mv<|p (bF eQ aa aa)<|p (bE (((bG t).length+1:Nat):Int) aa aa<|bj ab ab)<|p aB<|p aB<|p aB<|aE<|aY _ _<|rt<|tr<|f3 aa aa aa aa<|lB.no (Ho ao c0) O
 obtain ⟨⟨av,A⟩,rest,hrw⟩:∃ q rest,bN t=q::rest:=by
  cases h:bN t with
  | nil=>rw [h] at a8; exact absurd rfl a8
  | cons q rest=>exact ⟨q,rest,rfl⟩
 have b3:(bN t)[0]? =some (av,A):=by rw [hrw]; rfl
 obtain ⟨b5,aq⟩:∃ p,vs[0]? =some p:=⟨_,cz ab⟩
 obtain ⟨aZ,bi⟩:=bc.2 0 b5 (av,A) aq b3
 obtain ⟨df,dg⟩:=b5
 obtain rfl :av=df:=aZ.symm
 obtain ⟨a0,bg,c4⟩:=bi.slice
 obtain rfl :dg= .slice a0 A.length bg:=c4
 have bv:Tg Z w.heap.size 9 A.length (.slice a0 A.length bg) (A.map str):=bi.wk ax
 have bV:∀ q∈bN t,q.2.length≤70000∧∀ x∈q.2,x.length≤70000:=fun q b2=>by
  have h:=yZ b2
  exact ⟨ab,fun x dd=>by have :=(h.2.2.2.2 x dd).2; omega⟩
 have cZ:A.length≤70000∧∀ x∈A,x.length≤70000:=bV (av,A)<|iJ b3
 refine aM<|tn<|cn _ _<|sq fun _ aY=>aj fun _ cq=>p mv<|p (a7 nO aa aa ab<|aI.ok (C)<|lM ab)<|p (fa vg aa)<|p (ld jR aa<|lN (i:=0) C aq 1 az)<|p (bF eQ aa aa)<|p (cX aa aa)<|aE<|cq _ _<|cd aa (fun bx=> ?_) fun bx=> ?_
 have bY:A.length≠1:=ab
 obtain ⟨bk,bS,cO⟩:=Bs (F:=F) ao hrw<|by rw [I3 bY]; decide
 rw [I3 bY] at bS
 obtain rfl :bk=111:=by have h:(111:Int)=bk:=bS; omega
 refine sq fun _ aN=> ?_
 have U:(fun w'=>Wk Z w') Z.drew:=(Md.refl _ _).drew
 exact bJ (fun w'=>Wk Z w') aa wide U<|aH 0 aa (fun _ _=>mv) U<|aH 1 aa (fun _ _=>a7 nO aa aa ab<|aI.ok (C)<|lM ab) U<|aH 2 aa (fun _ _=>fa tt aa) U<|aH 3 aa (fun w' ae=>ld bA aa<|Wk.aO ae<|lN (i:=0) C aq 0 az) U<|aH 4 aa (fun _ _=>aB) U<|aH 5 aa (fun _ _=>aB) U<|aH 6 aa (fun _ _=>aB) U<|hn ag<|tn<|aN _ _<|rt<|tr<|f3 aa aa aa aa<|lB.no cO<|O.trans U
 have dy:A.length=1:=by have h:¬((A.length:Nat):Int)≠1:=bx; omega
 refine aM<|tn<|aY _ _<|aj fun _ aN=>p mv<|p (a7 nO aa aa ab<|aI.ok (C)<|lM ab)<|p (fa vg aa)<|p (ld jR aa<|lN (i:=0) C aq 1 az)<|p (a7 cE aa aa ab<|aI.ok (bv.cI.2)<|bP ab)<|p (ld bR aa<|bX.get (i:=0) bv.cI.2 ab)<|e<|cl rC (rX (A.getD 0 []) 8192 Z (by have :=cZ.2 _ (dQ (d:= []) (show 0 < A.length by omega)); omega) ab) aa fun dG bd cJ=> ?_
 obtain ⟨rfl,aA⟩:=cJ
 have cA:=O.trans aA
 have aF:=UD (show A.length=1 by omega)
 refine p mv<|p (xt aa aa)<|p (xt aa aa)<|p aB<|aw<|aN _ _<|sq fun _ b8=>aj fun _ b9=>p mv<|p (cX aa aa)<|aE<|b9 _ _<|cd aa (fun bz=> ?_) fun bz=> ?_
 obtain ⟨dp,bU,a4⟩:=Bs (F:=F) ao hrw<|by rw [aF]; exact bz
 rw [aF] at bU
 refine sq fun _ aP=> ?_
 have I:(fun w'=>Wk bd w') bd.drew:=(Md.refl _ _).drew
 refine bJ (fun w'=>Wk bd w') aa wide I<|aH 0 aa (fun _ _=>mv) I<|aH 1 aa (fun _ _=>a7 nO aa aa ab<|aI.ok (C.wk aA)<|lM ab) I<|aH 2 aa (fun _ _=>fa tt aa) I<|aH 3 aa (fun w' ae=>ld bA aa<|Wk.aO ae<|lN (i:=0) (C.wk aA) aq 0 az) I<|aH 4 aa (fun _ _=>mv) I<|aH 5 aa (fun _ _=>aB) I<|aH 6 aa (fun _ _=>aB) I<|aH 7 aa (fun _ _=>aB) I<|hn ag<|tn<|aP _ _<|rt<|tr<|f3 aa aa aa aa ?_
 have h:=lB.no a4<|cA.trans I
 show lB F t w (.tuple #[.slice none 0 0,au av,.int .i64 (dY (A.getD 0 []) 8192).2]) _
 rw [bU]
 exact h
 obtain ⟨n,a9,dw,a4⟩:=Hk (F:=F) ao hrw<|by rw [aF]; omega
 rw [aF] at a9
 have cN:iL F ((bG t).length+1) (e6 F t) [] (n - 0) ((bN t).drop<|0 +1):=by rw [a4,hrw]; exact iL.start
 obtain ⟨seen,cv⟩:=cx
 refine aM<|tn<|b8 _ _<|aj fun _ aP=>aw<|aP _ _<|sq fun _ ca=>aj fun _ cb=>aw<|cb _ _<|aJ<|lp (fun bl ah Y=> ∃ (i:Nat) (xs:List bD) (vx:List Value) (ac:Option Addr) (co:Nat),(i+1≤(bN t).length∧i≤n)∧(xs.length=i)∧(iL F ((bG t).length+1) (e6 F t) xs (n - i)<|(bN t).drop<|i+1)∧(bo Y Z.heap.size 169 2 (.slice ac xs.length co) xs.length<|j7<|xs.zip vx)∧(ij Y 0 3 vx<|xs.map (·.2))∧(Wk Z Y)∧(ah 0=aQ fb)∧(ah 7= .slice ar (bN t).length cr)∧(ah 9= .slice b4 (bG t).length qt)∧(ah 10=au n)∧(ah 11= .slice ac xs.length co)∧(ah 12=au (i+1))∧((bN t).length - i=bl)) _ ⟨0,[],[],none,0,ab,aa,cN,(du _ _ _ _),(ij.nil _ _ _),aA,aa,aa,aa,(by first | rfl | (rw [← a9]; rfl)),aa,aa,aa⟩ ?_
 rintro bl ah Y ⟨i,xs,vx,ac,co,hi,de,M,bu,a5,E,c6,da,db,c7,c8,c9,rfl⟩
 refine fx 0 c6<|fx 7 da<|fx 9 db<|fx 10 c7<|fx 11 c8<|fx 12 c9<|sq fun _ cc=>aj fun _ ce=>ak (au<|i+1)<|ak (.slice ar (bN t).length cr)<|p (bF zp aa aa)<|p (lt aa aa)<|aE<|ce _ _<|cd aa (fun cR=> ?_) fun cR=> ?_
 refine aM<|tn<|cc _ _<|sq fun _ aS=>aJ<|sq fun _ aT=>sq fun _ am=> ?_
 obtain ⟨⟨ln,r⟩,hri⟩:∃ q,(bN t)[i+1]? =some q:=⟨_,cz ab⟩
 have cV:(bN t).drop (i+1)=(ln,r)::(bN t).drop (i+2):=by rw [List.drop_eq_getElem_cons ab]; rw [cz ab] at hri; rw [Option.some.inj hri]
 obtain ⟨p,aK⟩:∃ p,vs[i+1]? =some p:=⟨_,cz ab⟩
 obtain ⟨aZ,aD⟩:=bc.2 (i+1) p (ln,r) aK hri
 obtain ⟨dh,di⟩:=p
 obtain rfl :ln=dh:=aZ.symm
 obtain ⟨a,c,c5⟩:=aD.slice
 obtain rfl :di= .slice a r.length c:=c5
 have aD:Tg dk w.heap.size 9 r.length (.slice a r.length c) (r.map str):=aD
 have bW:r.length≤70000∧∀ x∈r,x.length≤70000:=bV (ln,r)<|iJ hri
 rw [cV] at M
 refine rg aa<|ak (au<|i+1)<|ak (au n)<|p (gt aa aa)<|aE<|am _ _<|cd aa (fun cS=> ?_) fun cS=> ?_
 refine sq fun _ aV=> ?_
 have J:(fun w'=>Wk Y w') Y.drew:=(Md.refl _ _).drew
 refine bJ (fun w'=>Wk Y w') aa wide J<|bC 0 aa (.slice ar (bN t).length cr) J<|bC 1 aa (au<|i+1) J<|aH 2 aa (fun _ _=>a7 nO aa aa ab<|aI.ok (C.wk E)<|lM ab) J<|aH 3 aa (fun _ _=>fa tt aa) J<|aH 4 aa (fun w' ae=>ld bA aa<|Wk.aO ae<|lN (C.wk E) aK 0 az) J<|aH 5 aa (fun _ _=>aB) J<|aH 6 aa (fun _ _=>aB) J<|aH 7 aa (fun _ _=>aB) J<|hn ag<|tn<|aV _ _<|rt<|tr<|br<|tr<|tr<|br<|tr<|f3 aa aa aa aa ?_
 rw [show n - i=0 by omega] at M
 exact lB.no M.more<|O.trans<|E.trans J
 refine aM<|tn<|aT _ _<|aj fun _ aV=>ak (aQ fb)<|ak (.slice ar (bN t).length cr)<|ak (au<|i+1)<|p (a7 nO aa aa ab<|aI.ok (C.wk E)<|lM ab)<|p (fa vg aa)<|p (ld jR aa<|lN (C.wk E) aK 1 az)<|e<|cl O6 (TV B fb F V r w.heap.size a c Y (cD.wk<|O.trans E) ⟨seen,cv⟩ c1 ((aD.wk ax).wk E) bW.2 bW.1) aa fun dj dl cK=> ?_
 obtain ⟨cC,bq⟩:=cK
 obtain ⟨ai,an,cs,rfl,b0,bQ⟩:∃ (u:Tx) (a:Value) (e:Nat),dj= .tuple #[.agg [str u,a].toArray,au e]∧a.oneCell'=true∧((e=0∧∃ l,fS F r= .ok (u,l)∧Tg dl 0 3 l.length a (l.map bM))∨(e≠0∧fS F r= .error e)):=by
  rcases cC with ⟨x,a,h1,h2,h3,h4⟩ | ⟨e,h1,h2,h3⟩
  exact ⟨x.1,a,0,h2,h3,.inl ⟨aa,x.2,h1,h4⟩⟩
  exact ⟨_,_,e,h3,aa,.inr ⟨h2,h1⟩⟩
 have dC:=bq.size
 refine p mv<|p (xt aa aa)<|p (xt aa aa)<|e<|ga MC fun bf dH dq a3 bm=> ?_
 have dB:=a3.size
 refine e<|gi oE aa aa aa (zn b0) bm az fun al bs ct=> ?_
 have bp:Wk Y al:=(bq.trans a3.md).trans' bs fun q b2 h=>by omega
 have cQ:al.heap[bf]? =some (.cells [str ai,an].toArray 169 (0,0)):=ct
 have a1:=E.trans bp
 refine aw<|aV _ _<|sq fun _ cg=>aj fun _ ch=>p mv<|p (cX aa aa)<|aE<|ch _ _<|cd aa (fun bK=> ?_) fun bK=> ?_
 have bb:=bQ.resolve_left fun h=>bK<|by rw [h.1]; rfl
 obtain ⟨dx,hex⟩:=bb
 refine sq fun _ ci=> ?_
 have G:(fun w'=>Wk al w') al.drew:=(Md.refl _ _).drew
 exact bJ (fun w'=>Wk al w') aa wide G<|bC 0 aa (.slice ar (bN t).length cr) G<|bC 1 aa (au<|i+1) G<|aH 2 aa (fun _ _=>a7 nO aa aa ab<|aI.ok (C.wk a1)<|lM ab) G<|aH 3 aa (fun _ _=>fa tt aa) G<|aH 4 aa (fun w' ae=>ld bA aa<|Wk.aO ae<|lN (C.wk a1) aK 0 az) G<|aH 5 aa (fun _ _=>mv) G<|aH 6 aa (fun _ _=>aB) G<|aH 7 aa (fun _ _=>aB) G<|aH 8 aa (fun _ _=>aB) G<|hn ag<|tn<|ci _ _<|rt<|tr<|br<|tr<|tr<|br<|tr<|f3 aa aa aa aa<|lB.no (M.bad ab hex)<|O.trans<|a1.trans G
 have cW:cs=0:=ab
 have bb:=bQ.resolve_right fun h=>h.1 cW
 obtain ⟨_,aL,hex,cL⟩:=bb
 refine aM<|tn<|cg _ _<|rg aa<|ak (.slice ac xs.length co)<|p (cT oA aa (aa) (show ∀ j,j < 2→Hb.aO al.heap bf (0 +j)= [str ai,an][j]? from fun j dt=>bL.bB ⟨_,cQ⟩ j))<|e<|kq Ls aa aa aa fun dn dI dr bt cu=> ?_
 have aC:=bp.trans bt.md
 have aG:=aU bu aC
 have dD:=aC.size
 refine e<|ap Ls (aG) aa (by have :=E.size; omega) aa (aI.dS cu) (aa) (zn b0) ab ab fun v93 b6 c3 a2 dE ds=> ?_
 have cB:=Wk.own (E.trans aC) aG a2<|cj _
 have bZ:bo b6 Z.heap.size 169 2 v93 (xs++ [(ai,aL)]).length (j7<|(xs++ [(ai,aL)]).zip<|vx++ [an]):=by
  have cY:xs.length=vx.length:=by have :=a5.1; rw [fE] at this; omega
  rw [EI cY,List.zip_cons_cons,List.zip_nil_right,Hu,bI]; exact c3
 have cP:ij b6 0 3 (vx++ [an]) ((xs++ [(ai,aL)]).map (·.2)):=by
  rw [ig]
  exact ((a5.wk aC).md a2<|hU aG az).snoc (((cL.wk a3.md).md bs<|fg bm az).wk bt.md |>.md a2 (hU aG az))
 obtain ⟨a93,xE,dc⟩:=cw bZ
 subst dc
 exact p aB<|nl<|bn<|tn<|aS _ _<|rg aa<|ak (au<|i+1)<|p (ad aa aa<|bT ab)<|p aB<|aE<|⟨_,ab,i+1,xs++ [(ai,aL)],vx++ [an],a93,xE,ab,(by rw [bI,de]; rfl),(by rw [show n - (i+1)=n - i - 1 by omega]; exact M.step ab hex),bZ,cP,cB,aa,aa,aa,(by first | rfl | (rw [← a9]; rfl)),aa,aa,aa⟩
 refine ext<|te _<|te _<|be<|tn<|ca _ _<|sq fun _ aS=>aj fun _ aT=>ak (.slice ac xs.length co)<|p (bF zq aa aa)<|ak (au n)<|p (lt aa aa)<|aE<|aT _ _<|cd aa (fun cU=> ?_) fun cU=> ?_
 refine aj fun _ am=>ak (.slice b4 (bG t).length qt)<|p (bF eQ aa aa)<|p (bE (((bG t).length+1:Nat):Int) aa aa<|bj ab ab)<|p aB<|p aB<|p aB<|aE<|am _ _<|rt<|tr<|f3 aa aa aa aa ?_
 rw [gP ab] at M
 exact lB.no (M.ends ab)<|O.trans E
 refine aM<|tn<|aS _ _<|aj fun _ am=>ak (.slice ac xs.length co)<|p (cH (.slice ac xs.length co) aa)<|p aB<|p aB<|aE<|am _ _<|rt<|f3 aa aa aa aa ?_
 rw [gP ab,show n - i=0 by omega] at M
 have cM:=M.done
 unfold lB
 rw [cM]
 exact ⟨⟨_,aa,⟨vx,ep bu O.size,a5⟩⟩,O.trans E⟩
end Go.Hb.mj
end
section
set_option maxRecDepth 20000
set_option maxHeartbeats 1000000
namespace Go.Hb.ml
open Go.Proofs
open Go.Hb.gn Go.Hb.lQ Go.Hb.iK Go.Hb.kH
def Ny (F:aR):Prop := ∀ l∈F.aliases,∀ x∈l,x < 65536
theorem Iz {kind:Nat} {s:Tx} {l:List Nat} (h:kO kind s= .ok l):∀ x∈l,x < 65536:=by
 unfold kO at h
 split at h
 · cases h
 · cases h
   intro x a
   unfold dX at a
   repeat' split at a
   all_goals first
    | (cases a; done)
    | (rw [CY] at a
       obtain ⟨y,_,rfl⟩:=List.mem_map.1 a
       exact HY _ _)
theorem Oq {kind ln:Nat} {row:List Tx} {l:List Nat} (h:kp kind ln row= .ok l):∀ x∈l,x < 65536:=by
 unfold kp at h
 split at h
 · cases h
 · exact Iz h
theorem To {kind:Nat} {al:List (List Nat)} {s:Tx} {l:List Nat} (a:∀ l∈al,∀ x∈l,x < 65536) (h:fN kind al s= .ok l):∀ x∈l,x < 65536:=by
 unfold fN at h
 split at h
 · exact Iz h
 · split at h
   · cases h
   · split at h
     · cases h
     · cases h
       rename_i n _ _
       rw [cQ]
       cases hg:al[n - 1]? with
       | none=>simp
       | some y=>exact a y<|iJ hg
theorem UH {eof ln:Nat} {F F':aR} {hs:List Tx} {rows rows':List Rw} {row:List Tx} (h:Ny F) (a:bY eof F hs rows ln row= .ok (F',rows')):Ny F':=by
 unfold bY at a
 repeat' split at a
 · unfold kh at a; repeat' split at a
   all_goals first | (cases a; done) | (cases a; exact h)
 · unfold kB at a; repeat' split at a
   all_goals first | (cases a; done) | (cases a; exact h)
 · unfold mK at a; repeat' split at a
   all_goals first | (cases a; done) | (cases a; exact h)
 · unfold mP at a; repeat' split at a
   all_goals first | (cases a; done) | (cases a; exact h)
 · unfold kS at a; repeat' split at a
   all_goals first | (cases a; done) | (cases a; exact h)
 · unfold kg at a; repeat' split at a
   all_goals first | (cases a; done) | (cases a; exact h)
 · unfold jS at a
   split at a
   · cases a
   · split at a
     · cases a
     · split at a
       · cases a
       · rename_i r j
         cases a
         intro l i
         rcases jz.1 i with i | i
         · exact h l i
         · obtain ⟨_,_,h2⟩:=Cq _ _ _ j l i
           exact Oq h2
 · unfold gH at a; repeat' split at a
   all_goals first | (cases a; done) | (cases a; exact h)
theorem Xb {eof:Nat} :∀ (k:Nat) (F F':aR) (hs:List Tx) (rows:List Rw),Ny F→gF eof k F hs rows= .ok F'→Ny F':=by
 intro k
 induction k with
 | zero=>intro F F' hs rows h a; rw [gF] at a; split at a <;> cases a; exact h
 | succ k j=>
   intro F F' hs rows h a
   cases rows with
   | nil=>rw [vJ] at a; cases a; exact h
   | cons q rows=>
     rw [gF] at a
     split at a
     · cases a
     · split at a
       · cases a
       · split at a
         · cases a
         · split at a
           · cases a
           · rename_i r i
             exact j _ _ _ _ (UH (rows':=r.2) h i) a
theorem E7 {s:Tx} {F:aR} (h:ff s= .ok F):Ny F:=by
 unfold ff at h
 split at h
 · cases h
 · split at h
   · cases h
   · rename_i f a
     split at h
     · cases h
     · cases h
       exact Xb _ _ _ _ _ (fun l i=>by cases i) a
def xi (x:bD):Prop :=x.1.length≤64∧x.2.length≤64∧(∀ y∈x.2,y < 65536)
theorem xT {F:aR} {row:List Tx} {x:bD} (h1:Nx F) (h2:Ny F) (h:fS F row= .ok x):xi x:=by
 unfold fS at h
 split at h
 · cases h
 · split at h
   · cases h
   · split at h
     · cases h
     · split at h
       · cases h
       · split at h
         · cases h; exact ⟨by simp only; omega,by simp,fun y i=>by cases i⟩
         · split at h
           · cases h
           · rename_i a
             split at h
             · cases h
               exact ⟨by simp only; omega,x9 h1.1 a,To h2 a⟩
             · cases h
theorem SP {F:aR} {eof:Nat} (h1:Nx F) (h2:Ny F):∀ {n:Nat} {rows:List Rw} {r:List bD},eY F eof n rows= .ok r→∀ x∈r,xi x:=by
 intro n
 induction n with
 | zero=>
   intro rows r h
   cases rows with
   | nil=>rw [eY] at h; cases h; intro x a; cases a
   | cons q rows=>rw [eY] at h; cases h
 | succ n j=>
   intro rows r h
   cases rows with
   | nil=>rw [eY] at h; cases h
   | cons q rows=>
     rw [eY] at h
     split at h
     · cases h
     · rename_i he
       split at h
       · cases h
       · rename_i i
         cases h
         intro x a
         rcases List.mem_cons.1 a with rfl | a
         · exact xT h1 h2 he
         · exact j i x a
theorem Hl {F:aR} {t:Tx} {xs:List bD} (h1:Nx F) (h2:Ny F) (h:e6 F t= .ok xs):(∀ x∈xs,xi x)∧xs.length≤8192:=by
 unfold e6 at h
 split at h
 · cases h
 · split at h
   · cases h
   · split at h
     · cases h
     · split at h
       · cases h
       · rename_i hn
         refine ⟨SP h1 h2 h,?_⟩
         have i:=(SR h).1
         unfold eS at hn
         split at hn
         · cases hn
         · cases hn
           rename_i a
           have :=qM _ 8192<|jn.1 a
           omega
theorem qD {F:aR} {s:Tx} {e:Nat} (h:gD F s= .error e):e≠0:=by
 unfold gD at h; repeat' split at h
 all_goals first | (cases h; done) | (cases h; decide) | (cases h; assumption)
theorem Iy {k:Nat} {s:Tx} {e:Nat} (h:kO k s= .error e):e≠0:=by
 unfold kO at h; repeat' split at h
 all_goals first | (cases h; done) | (cases h; assumption)
theorem pR {s:Tx} {m:Int} {e:Nat} (h:eS s m= .error e):e≠0:=by
 unfold eS at h; repeat' split at h
 all_goals first | (cases h; done) | (cases h; decide)
theorem H5 {k:Nat} {al:List (List Nat)} {s:Tx} {e:Nat} (h:fN k al s= .error e):e≠0:=by
 unfold fN at h; repeat' split at h
 all_goals first | exact Iy h | (cases h; done) | (cases h; decide)
theorem Kw {b:Bool} {s:Tx} {e:Nat} (h:et b s= .error e):e≠0:=by
 unfold et at h; repeat' split at h
 all_goals first | (cases h; done) | (cases h; decide) | (cases h; assumption)
theorem Oh {r:lD} {e:Nat} (h:jJ r= .error e):e≠0:=by
 unfold jJ at h; repeat' split at h
 all_goals first | (cases h; done) | (cases h; assumption)
theorem Wb {k a:Nat} {al:List (List Nat)} {r:lD} {e:Nat} (h:kT k al a r= .error e):e≠0:=by
 unfold kT at h; repeat' split at h
 all_goals first | exact H5 h | (cases h; done) | (cases h; decide)
theorem RF {r:List Tx} {e:Nat} (h:kM r= .error e):e≠0:=by
 unfold kM at h; repeat' split at h
 all_goals first | (cases h; done) | (cases h; decide) | (cases h; assumption)
theorem qS {k ln:Nat} {al:List (List Nat)} {c:c7} {r:List Tx} {e:Nat} (h:fA k al c ln r= .error e):e≠0:=by
 unfold fA at h; repeat' split at h
 all_goals first
  | (cases h; done)
  | (cases h; decide)
  | (cases h; exact Kw<|by assumption)
  | (cases h; exact Oh<|by assumption)
  | (cases h; exact Wb<|by assumption)
  | (cases h; exact RF<|by assumption)
theorem qR {ln:Nat} {r:List Tx} {e:Nat} (h:kE ln r= .error e):e≠0:=by
 unfold kE at h; repeat' split at h
 all_goals first
  | (cases h; done)
  | (cases h; decide)
  | (cases h; exact Kw<|by assumption)
theorem ql {k ln:Nat} {r:List Tx} {e:Nat} (h:kp k ln r= .error e):e≠0:=by
 unfold kp at h; repeat' split at h
 all_goals first | exact Iy h | (cases h; decide)
theorem iZ {α:Type} {hd:List Tx} {rd:Nat→List Tx→Except Nat α} {eof:Nat} (a:∀ l r e,rd l r= .error e→e≠0):∀ {n:Nat} {rows:List Rw} {l e:Nat},group hd rd eof n rows= .error (l,e)→e≠0:=by
 intro n
 induction n with
 | zero=>intro rows l e h; rw [group] at h; cases h
 | succ n i=>
   intro rows l e h
   cases rows with
   | nil=>rw [group] at h; cases h; decide
   | cons q rows=>
     rw [group] at h
     split at h
     · cases h; decide
     · split at h
       · rename_i he; cases h; exact a _ _ _ he
       · split at h
         · rename_i he; cases h; exact i he
         · cases h
theorem UG {eof ln l e:Nat} {F:aR} {hs:List Tx} {rows:List Rw} {row:List Tx} (h:bY eof F hs rows ln row= .error (l,e)):e≠0:=by
 unfold bY at h
 repeat' split at h
 · unfold kh at h; repeat' split at h
   all_goals first
    | (cases h; done)
    | (cases h; decide)
    | (cases h; assumption)
    | (cases h; exact qD<|by assumption)
    | (cases h; exact pR<|by assumption)
    | (cases h; exact iZ (fun _ _ _ h=>qR h)<|by assumption)
    | (cases h; exact iZ (fun _ _ _ h=>ql h)<|by assumption)
    | (cases h; exact iZ (fun _ _ _ h=>qS h)<|by assumption)
 · unfold kB at h; repeat' split at h
   all_goals first
    | (cases h; done)
    | (cases h; decide)
    | (cases h; assumption)
    | (cases h; exact qD<|by assumption)
    | (cases h; exact pR<|by assumption)
    | (cases h; exact iZ (fun _ _ _ h=>qR h)<|by assumption)
    | (cases h; exact iZ (fun _ _ _ h=>ql h)<|by assumption)
    | (cases h; exact iZ (fun _ _ _ h=>qS h)<|by assumption)
 · unfold mK at h; repeat' split at h
   all_goals first
    | (cases h; done)
    | (cases h; decide)
    | (cases h; assumption)
    | (cases h; exact qD<|by assumption)
    | (cases h; exact pR<|by assumption)
    | (cases h; exact iZ (fun _ _ _ h=>qR h)<|by assumption)
    | (cases h; exact iZ (fun _ _ _ h=>ql h)<|by assumption)
    | (cases h; exact iZ (fun _ _ _ h=>qS h)<|by assumption)
 · unfold mP at h; repeat' split at h
   all_goals first
    | (cases h; done)
    | (cases h; decide)
    | (cases h; assumption)
    | (cases h; exact qD<|by assumption)
    | (cases h; exact pR<|by assumption)
    | (cases h; exact iZ (fun _ _ _ h=>qR h)<|by assumption)
    | (cases h; exact iZ (fun _ _ _ h=>ql h)<|by assumption)
    | (cases h; exact iZ (fun _ _ _ h=>qS h)<|by assumption)
 · unfold kS at h; repeat' split at h
   all_goals first
    | (cases h; done)
    | (cases h; decide)
    | (cases h; assumption)
    | (cases h; exact qD<|by assumption)
    | (cases h; exact pR<|by assumption)
    | (cases h; exact iZ (fun _ _ _ h=>qR h)<|by assumption)
    | (cases h; exact iZ (fun _ _ _ h=>ql h)<|by assumption)
    | (cases h; exact iZ (fun _ _ _ h=>qS h)<|by assumption)
 · unfold kg at h; repeat' split at h
   all_goals first
    | (cases h; done)
    | (cases h; decide)
    | (cases h; assumption)
    | (cases h; exact qD<|by assumption)
    | (cases h; exact pR<|by assumption)
    | (cases h; exact iZ (fun _ _ _ h=>qR h)<|by assumption)
    | (cases h; exact iZ (fun _ _ _ h=>ql h)<|by assumption)
    | (cases h; exact iZ (fun _ _ _ h=>qS h)<|by assumption)
 · unfold jS at h; repeat' split at h
   all_goals first
    | (cases h; done)
    | (cases h; decide)
    | (cases h; assumption)
    | (cases h; exact qD<|by assumption)
    | (cases h; exact pR<|by assumption)
    | (cases h; exact iZ (fun _ _ _ h=>qR h)<|by assumption)
    | (cases h; exact iZ (fun _ _ _ h=>ql h)<|by assumption)
    | (cases h; exact iZ (fun _ _ _ h=>qS h)<|by assumption)
 · unfold gH at h; repeat' split at h
   all_goals first
    | (cases h; done)
    | (cases h; decide)
    | (cases h; assumption)
    | (cases h; exact qD<|by assumption)
    | (cases h; exact pR<|by assumption)
    | (cases h; exact iZ (fun _ _ _ h=>qR h)<|by assumption)
    | (cases h; exact iZ (fun _ _ _ h=>ql h)<|by assumption)
    | (cases h; exact iZ (fun _ _ _ h=>qS h)<|by assumption)
theorem Xa {eof:Nat} :∀ (k:Nat) (F:aR) (hs:List Tx) (rows:List Rw) (l e:Nat),rows.length≤k→gF eof k F hs rows= .error (l,e)→e≠0:=by
 intro k
 induction k with
 | zero=>
   intro F hs rows l e hk a
   obtain rfl :=fO<|Nat.le_zero.1 hk
   rw [vJ] at a; cases a
 | succ k j=>
   intro F hs rows l e hk a
   cases rows with
   | nil=>rw [vJ] at a; cases a
   | cons q rows=>
     rw [gF] at a
     split at a
     · cases a; decide
     · split at a
       · cases a; decide
       · split at a
         · cases a; decide
         · split at a
           · rename_i he; cases a; exact UG he
           · rename_i r i
             have h1:=qG (rows':=r.2) i
             simp only [cM] at hk
             exact j _ _ _ _ _ ab a
theorem Ol {s:Tx} {l e:Nat} (h:ff s= .error (l,e)):e≠0:=by
 unfold ff at h
 split at h
 · cases h; decide
 · split at h
   · rename_i he; cases h; exact Xa _ _ _ _ _ _ (cj _) he
   · split at h
     · cases h; decide
     · cases h
theorem SK {F:aR} {row:List Tx} {e:Nat} (h:fS F row= .error e):e≠0:=by
 unfold fS at h
 repeat' split at h
 all_goals first
  | (cases h; done)
  | (cases h; decide)
  | (cases h; assumption)
  | (cases h; exact H5<|by assumption)
theorem SS {F:aR} {eof l e:Nat} :∀ {n:Nat} {rows:List Rw},eY F eof n rows= .error (l,e)→e≠0:=by
 intro n
 induction n with
 | zero=>
   intro rows h
   cases rows with
   | nil=>rw [eY] at h; cases h
   | cons q rows=>rw [eY] at h; cases h; decide
 | succ n a=>
   intro rows h
   cases rows with
   | nil=>rw [eY] at h; cases h; decide
   | cons q rows=>
     rw [eY] at h
     split at h
     · rename_i he; cases h; exact SK he
     · split at h
       · rename_i he; cases h; exact a he
       · cases h
theorem Sy {F:aR} {t:Tx} {l e:Nat} (h:e6 F t= .error (l,e)):e≠0:=by
 unfold e6 at h
 split at h
 · cases h; decide
 · split at h
   · cases h; decide
   · split at h
     · cases h; decide
     · split at h
       · rename_i he; cases h; exact pR he
       · exact SS h
end Go.Hb.ml
end
section
set_option maxRecDepth 20000
set_option maxHeartbeats 1000000
namespace Go.Hb.mV
open Go.Hb.dT
open Go.Proofs
open Go.Hb.fq Go.Hb.fQ Go.Hb.gn Go.Hb.jF Go.Hb.iK Go.Hb.kH Go.Hb.iM Go.Hb.j4 Go.Hb.kK Go.Hb.k0 Go.Hb.lA Go.Hb.lR Go.Hb.mj Go.Hb.ml Go.Hb.jP Go.Hb.lC
noncomputable def lr (a t:Tx):Option (aR×List bD):=match ff a with
 | .error _=>none
 | .ok F=>match e6 F t with
   | .error _=>none
   | .ok xs=>some (F,xs)
theorem LL {a t:Tx} {e:Nat×Nat} (h:ff a= .error e):lr a t=none:=by unfold lr; rw [h]
theorem LM {a t:Tx} {F:aR} {e:Nat×Nat} (h:ff a= .ok F) (h1:e6 F t= .error e):lr a t=none:=by unfold lr; rw [h]; simp only; rw [h1]
theorem DJ {a t:Tx} {F:aR} {xs:List bD} (h:ff a= .ok F) (h1:e6 F t= .ok xs):lr a t=some (F,xs):=by unfold lr; rw [h]; simp only; rw [h1]
structure eR (F:aR) (xs:List bD):Prop where
 len:F.dd.length+F.aliases.length+F.bp.length+F.rules.length≤70000
 nx:Nx F
 uU:∀ x∈xs,xi x
 xl:xs.length≤8192
 fs:sG F
 cls:pk F
 SH:∀ x∈xs,k3 x.2
 fI:F.sp.length=5
 ne:∀ x∈xs,1≤x.1.length
theorem Ah {s:Tx} {F:aR} (h:ff s= .ok F):Nx F:=E5 (Q:=Nx) ⟨fun l a=>(by cases a),fun l a=>by cases a⟩ (fun _ _ _ _ _ _ _ _ h i=>yC h i) h
theorem eR.of {a t:Tx} {F:aR} {xs:List bD} (h:ff a= .ok F) (h1:e6 F t= .ok xs) (i:∃ seen,kI F [] seen) (h5:F.sp.length=5):eR F xs:=by
 obtain ⟨seen,i⟩:=i
 have q:=i.len
 have j:=Hl (Ah h) (E7 h) h1
 exact ⟨by simpa using q,Ah h,j.1,j.2,(Ag h).1,(Ag h).2,Sx (Ag h).1 h1,h5,SA h1⟩
theorem eR.iD {F:aR} {xs:List bD} (h:eR F xs) {i:Nat} {r:c8} (a:F.rules[i]? =some r):r.next.length≤64∧k3 r.next∧jQ r:=⟨h.nx.2 r (iJ a),h.fs.2 r<|iJ a⟩
structure iU where
 fb:Nat
 mc:Nat
 wb:Nat
 mb:Nat
 V:eX
 V2:eX
 va:Value
 ve:Value
 vs:List Value
 ws:List Value
def YO (F:aR) (a:iU):List Value:= .pointer (some ⟨a.fb,0,none⟩):: .pointer (some ⟨a.wb,0,none⟩)::(lF F a.V2++ [a.ve])
structure gp (w:World) (B tb:Nat) (U:iU) (F:aR) (xs:List bD):Prop where
 cells:w.heap[tb]? =some (.cells (YO F U).toArray 64 (0,0))
 fl:dP w B U.fb U.mc F U.V
 ax:ph w B F U.V2
 wd:lz w B U.wb U.mb U.va U.vs xs
 oe:bo w B 72 2 U.ve xs.length (j7<|xs.zip U.ws)
 ef:ek w B 51 U.ws (xs.map (·.2))
theorem Aw {G:Nat→Prop} {w w':World} {B:Nat} {F:aR} {V:eX} (h:ph w B F V) (hm:Md G w w') {L:List Nat} (a:TF w L G) (i:(L.contains 130 || L.contains 72 || L.contains 53 || L.contains 133 || L.contains 79)=false):ph w' B F V:=by
 simp only [nw] at i
 obtain ⟨⟨⟨⟨h1,h2⟩,h3⟩,h4⟩,h5⟩:=i
 have j:∀ k,G k→∀ cur z,w.heap[k]?≠some (.cells cur 51 z):=fun k hk cur z q=>a.no (dt q) h3 hk
 exact ⟨bZ h.o9 hm a h1,bZ h.eO hm a h2,h.al.md hm j,bZ h.ej hm a h4,bZ h.dB hm a h5,h.nx.md hm j⟩
theorem gp.vw {G:Nat→Prop} {w w':World} {B tb:Nat} {i:iU} {F:aR} {xs:List bD} (h:gp w B tb i F xs) (hm:Md G w w') {L:List Nat} (a:TF w L G) (j:(L.contains 127 || L.contains 130 || L.contains 72 || L.contains 53 || L.contains 133 || L.contains 79 || L.contains 188 || L.contains 74 || L.contains 5 || L.contains 66)=false) (E:¬G i.mc) (C:¬G i.mb):gp w' B tb i F xs:=by
 simp only [nw] at j
 obtain ⟨⟨⟨⟨⟨⟨⟨⟨⟨h1,h2⟩,h3⟩,h4⟩,h5⟩,h6⟩,h7⟩,h8⟩,h9⟩,h10⟩:=j
 have q:∀ k,G k→∀ cur z,w.heap[k]?≠some (.cells cur 51 z):=fun k hk cur z A=>a.no (dt A) h4 hk
 exact ⟨hm.gy a h.cells h10,h.fl.md hm a (by rw [h1,h2,h3,h4,h5,h6]; rfl) E,Aw h.ax hm a (by rw [h2,h3,h4,h5,h6]; rfl),h.wd.md hm a (by rw [h7,h8,h4,h9]; rfl) C,bZ h.oe hm a h8,h.ef.md hm q⟩
theorem gp.wk {w w':World} {B tb:Nat} {a:iU} {F:aR} {xs:List bD} (h:gp w B tb a F xs) (hm:Wk w w'):gp w' B tb a F xs:=h.vw (L:= []) hm (fun _ hk=>hk.elim) rfl id id
theorem OM {w w':World} {B:Nat} {F:aR} {V:eX} (h:ph w B F V) (hm:Wk w w'):ph w' B F V:=Aw (L:= []) h hm (fun _ hk=>hk.elim) rfl
theorem OK {w:World} {B B':Nat} {F:aR} {V:eX} (h:ph w B F V) (a:B'≤B):ph w B' F V:=⟨ep h.o9 a,ep h.eO a,h.al.mono a,ep h.ej a,ep h.dB a,h.nx.mono a⟩
theorem W7 {s:Tx} {w w':World} {v:Value} (h:pq s w v w'):∃ p j q A,v= .tuple #[.pointer p,.agg [.int .i64 j,.int .i64 q,.int .i64 A].toArray]∧((p=none∧∃ e,ff s= .error e)∨(∃ F fb mc V,p=some ⟨fb,0,none⟩∧ff s= .ok F∧dP w' w.heap.size fb mc F V∧(∃ seen,kI F [] seen)∧Nx F))∧Wk w w':=by
 obtain ⟨h,a⟩:=h
 cases hx:ff s with
 | error e=>rw [hx] at h; exact ⟨_,_,_,_,h,.inl ⟨rfl,e,rfl⟩,a⟩
 | ok F=>rw [hx] at h; obtain ⟨fb,mc,V,i,h1,h2,h3⟩:=h; exact ⟨_,_,_,_,i,.inr ⟨F,fb,mc,V,rfl,rfl,h1,h2,h3⟩,a⟩
theorem SD {F:aR} {s:Tx} {w w':World} {v:Value} (h:lS F s w v w'):∃ p j q A,v= .tuple #[.pointer p,.agg [.int .i64 j,.int .i64 q,.int .i64 A].toArray]∧((p=none∧∃ e,e6 F s= .error e)∨(∃ xs B wb mb va vs,p=some ⟨wb,0,none⟩∧e6 F s= .ok xs∧w.heap.size≤B∧lz w' B wb mb va vs xs∧w.heap.size≤wb∧w.heap.size≤mb))∧Wk w w':=by
 obtain ⟨h,a⟩:=h
 cases hx:e6 F s with
 | error e=>rw [hx] at h; exact ⟨_,_,_,_,h,.inl ⟨rfl,e,rfl⟩,a⟩
 | ok xs=>rw [hx] at h; obtain ⟨B,wb,mb,va,vs,h1,i,h2,h3,h4⟩:=h; exact ⟨_,_,_,_,i,.inr ⟨xs,B,wb,mb,va,vs,rfl,rfl,h1,h2,h3,h4⟩,a⟩
def uA (a t:Tx) (w:World) (v:Value) (w':World):Prop :=(∃ p j q A,v= .tuple #[.pointer p,.agg [.int .i64 j,.int .i64 q,.int .i64 A].toArray]∧match lr a t with
 | none=>p=none
 | some T=> ∃ B tb i,w.heap.size≤B∧p=some ⟨tb,0,none⟩∧gp w' B tb i T.1 T.2∧eR T.1 T.2)∧Wk w w'
theorem uA.no {a t:Tx} {w w':World} {i j q:Int} (h:lr a t=none) (hm:Wk w w'):uA a t w (.tuple #[.pointer none,.agg [.int .i64 i,.int .i64 j,.int .i64 q].toArray]) w':=⟨⟨none,i,j,q,rfl,by rw [h]⟩,hm⟩
theorem Zq {w:World} {B B':Nat} {f:Value→Option Value} {xs:List bD} (h:mW w B f xs) (a:B'≤B):mW w B' f xs:=⟨fun s=>ep (h.own s) a,h.nil⟩
theorem SE {w:World} {B B' wb mb:Nat} {va:Value} {vs:List Value} {xs:List bD} (h:lz w B wb mb va vs xs) (a:B'≤B):lz w B' wb mb va vs xs:=by
 obtain ⟨f,i,j⟩:=h.mp
 exact ⟨h.cells,ep h.own a,h.fl.mono a,f,i,Zq j a⟩
theorem LU (a t:Tx) (w:World) (bS:a.length≤1048576) (b5:t.length≤1048576):
 bh ay 19 (ba [str a,str t]) w (uA a t w):=by
 refine enter func19 aa ntmps19 aa<|aj fun _ bo=>p aB<|e<|ga p5 fun A ah cf ao ai=> ?_
 have ct:=ao.size
 refine aE<|bo _ _<|aj fun _ br=>ak (str a)<|e<|cl Qo (Oj a ah bS) aa fun v12 bm bK=> ?_
 have bX:=W7 bK
 obtain ⟨pp,bd,bf,bg,rfl,bc,aI⟩:=bX
 have ck:=aI.size
 refine p mv<|p (xt aa aa)<|p (xt aa aa)<|e<|ga p5 fun aT cz cg a3 bC=> ?_
 have cu:=a3.size
 refine p aB<|e<|gi jT aa aa aa aa bC az fun O aY aD=> ?_
 have aG:Wk bm O:=a3.md.trans' aY fun q E h=>by omega
 have aW:=aI.trans aG
 have cj:=aY.size
 have b3:bL O.heap aT [.int .i64 bd,.int .i64 bf,.int .i64 bg]:=⟨_,aD⟩
 refine aE<|br _ _<|sq fun _ bs=>aj fun _ bt=>p mv<|p (lY vY aa aa)<|nl<|tn<|bt _ _<|cb aa (fun ar=> ?_) fun ar=> ?_
 obtain ⟨rfl,e,C⟩:pp=none∧∃ e,ff a= .error e:=by rcases bc with h | ⟨_,_,_,_,rfl,_⟩ <;> first | exact h | cases ar
 refine sq fun _ ax=> ?_
 have ap:(fun w'=>Md (fun q=>q=A) O w') O.drew:=(Md.refl _ _).drew
 refine bJ (fun w'=>Md (fun q=>q=A) O w') aa wide ap<|aH 0 aa (fun w' I=>cT k5 aa (aa) fun j M=>(Md.B I b3 fun h=>by omega).bB j) ap<|aH 1 aa (fun _ _=>aB) ap<|he 2 aa ag<|gi jT aa aa aa aa (Wk.aJ aW ai) az fun b7 bH bx=> ?_
 have a4:(fun w'=>Md (fun q=>q=A) O w') b7:=ap.trans' bH fun q E h=>h
 refine ⟨a4,?_⟩
 exact hn ag<|tn<|ax _ _<|rt<|tr<|eo aa ea (dK (cs:= [.int .i64 bd,.int .i64 bf,.int .i64 bg]) aa k5 aa fun j M=>(a6 bx).trans<|by match j,M with | 0,_=>rfl | 1,_=>rfl | 2,_=>rfl)<|uA.no (LL C)<|(ao.md.trans aW).trans' a4 fun q E h=>by omega
 obtain ⟨F,fb,mc,V,rfl,C,am,aV,a2⟩:=bc.resolve_left fun h=>by rw [h.1] at ar; cases ar
 refine aM<|tn<|bs _ _<|aj fun _ ax=>p mv<|ak (str t)<|e<|cl Qp (SC ah.heap.size fb mc F V t O (am.wk aG) aV a2 b5) aa fun v21 cy bM=> ?_
 have bY:=SD bM
 obtain ⟨b6,bi,bj,bk,rfl,bb,al⟩:=bY
 have cn:=al.size
 refine p mv<|p (xt aa aa)<|p (xt aa aa)<|p aB<|e<|gi jT aa aa aa aa (Wk.aJ al aD) (by simp) fun G aN bz=> ?_
 have aX:Wk bm G:=(aG.trans al).trans' aN fun q E h=>by omega
 have Z:=aI.trans aX
 have cq:=aN.size
 have b4:bL G.heap aT [.int .i64 bi,.int .i64 bj,.int .i64 bk]:=⟨_,bz⟩
 refine aE<|ax _ _<|sq fun _ bu=>aj fun _ bv=>p mv<|p (lY L8 aa aa)<|nl<|tn<|bv _ _<|cb aa (fun au=> ?_) fun au=> ?_
 obtain ⟨rfl,e,hd⟩:b6=none∧∃ e,e6 F t= .error e:=by rcases bb with h | ⟨_,_,_,_,_,_,rfl,_⟩ <;> first | exact h | cases au
 refine sq fun _ aA=> ?_
 have aq:(fun w'=>Md (fun q=>q=A) G w') G.drew:=(Md.refl _ _).drew
 refine bJ (fun w'=>Md (fun q=>q=A) G w') aa wide aq<|aH 0 aa (fun w' I=>cT k5 aa (aa) fun j M=>(Md.B I b4 fun h=>by omega).bB j) aq<|aH 1 aa (fun _ _=>aB) aq<|he 2 aa ag<|gi jT aa aa aa aa (Wk.aJ Z ai) az fun b8 bI bA=> ?_
 have a5:(fun w'=>Md (fun q=>q=A) G w') b8:=aq.trans' bI fun q E h=>h
 refine ⟨a5,?_⟩
 exact hn ag<|tn<|aA _ _<|rt<|tr<|eo aa ea (dK (cs:= [.int .i64 bi,.int .i64 bj,.int .i64 bk]) aa k5 aa fun j M=>(a6 bA).trans<|by match j,M with | 0,_=>rfl | 1,_=>rfl | 2,_=>rfl)<|uA.no (LM C hd)<|(ao.md.trans Z).trans' a5 fun q E h=>by omega
 obtain ⟨xs,B,wb,mb,va,vs,rfl,hd,cc,bR,ci,ch⟩:=bb.resolve_left fun h=>by rw [h.1] at au; cases au
 have aR:=bR.md (L:= [49]) aN (TF.eq (dt<|Wk.aJ al aD) az) az fun h=>by omega
 have aL:=am.wk aX
 have bU:=Hl (Ah C) (E7 C) hd
 obtain ⟨seen,aU⟩:=aV
 have bV:=aU.len
 refine aM<|tn<|bu _ _<|aj fun _ aA=>p mv<|p mv<|p (cO (ps:= [(0,aQ fb),(1,aQ wb)]) (L:= [aQ fb,aQ wb,.int .i64 0,.string ⟨⟨[]⟩⟩,.string ⟨⟨[]⟩⟩,.int .u16 0,.int .u16 0,.int .u16 0,.int .u16 0,.int .u16 0,.int .i64 0,.slice none 0 0,.slice none 0 0,.slice none 0 0,.slice none 0 0,.slice none 0 0]) YB aa<|aa)<|e<|oC aa fun aC U ce an aF=> ?_
 have co:=an.size
 refine aw<|aA _ _<|sq fun _ bw=> ?_
 have i:(fun w'=>Wk U w') U.drew:=(Md.refl _ _).drew
 refine eM (fun w'=>Wk U w') 14 aa wide i<|bq 0 aa (fun _=>mv) (fun _=>i)<|bq 1 aa (fun _=>mv) (fun _=>i)<|bq 2 aa (fun _=>mv) (fun _=>i)<|bq 3 aa (fun _=>nc aa) (fun _=>i)<|bq 4 aa (fun _=>fa Ca aa) (fun _=>i)<|dH 5 aa (fun w' I=>ld fZ aa<|Wk.aO I<|(a6 aF).trans aa) i<|bq 7 aa (fun _=>mv) (fun _=>i)<|bq 8 aa (fun _=>nc aa) (fun _=>i)<|bq 9 aa (fun _=>fa TJ aa) (fun _=>i)<|dH 10 aa (fun w' I=>ld On aa<|Wk.aO I<|(a6 aF).trans aa) i<|gL 6 aa ag<|cl AP (Ai ah.heap.size fb mc F V U.drew ((aL.wk an.md).wk i) (by simp only [List.length_nil] at bV; omega) a2) aa fun v37 bn bN=> ?_
 obtain ⟨⟨V2,rfl,bT⟩,hE37⟩:=bN
 have cp:=hE37.size
 have cx:=i.size
 have a7:(fun w'=>Wk U w') bn:=i.trans hE37
 refine ⟨a7,?_⟩
 refine gL 11 aa ag<|cl Qq (Sn B wb mb va vs xs bn (((aR.wk an.md).wk i).wk hE37) ab fun x C=>(bU.1 x C).2.1) aa fun bl av bO=> ?_
 obtain ⟨⟨ws,a9,bW,_⟩,hE42⟩:=bO
 have cr:=hE42.size
 have ae:=OM bT hE42
 have a8:=Wk.aJ hE42<|Wk.aJ hE37<|Wk.aJ i aF
 have aP:(fun w'=>Wk U w') av:=a7.trans hE42
 refine ⟨aP,?_⟩
 refine bq 12 aa (fun _=>nc aa) (fun _=>aP)<|bq 13 aa (fun _=>fa vk aa) (fun _=>aP)<|dG 14 aa ag ag<|gi Bn aa aa aa (Av (eH ae.o9) (eH ae.eO) (eH ae.ej)<|eH ae.dB) a8 (by simp) fun cA a0 bE=> ?_
 have cw:=a0.size
 refine bq 15 aa (fun _=>nc aa) (fun h=>eb<|(show true =_ from by kernel_rfl).trans h)<|bq 16 aa (fun _=>fa Cb aa) (fun h=>eb<|(show true =_ from by kernel_rfl).trans h)<|dG 17 aa ag ag<|cV Hd aa aa (v:=bl) (eH a9) bE (by show 15 < 16; omega) fun aS aZ bD=> ?_
 have cv:=aZ.size
 have Y:=a0.trans' aZ fun q E h=>h
 have J:TF av [66] (fun q=>q=aC):=TF.eq (dt a8) az
 have bG:Wk U av:=i.trans<|hE37.trans hE42
 have ac:Wk G av:=an.md.trans bG
 have aK:Wk G aS:=ac.trans' Y fun q E h=>by omega
 obtain ⟨b9,b0,_⟩:=(aL.wk ac).cm
 obtain ⟨ca,b1,_⟩:=(aR.wk ac).mp
 have bP:gp aS ah.heap.size aC ⟨fb,mc,wb,mb,V,V2,va,bl,vs,ws⟩ F xs:=⟨bD,(aL.wk ac).md Y J az (J.no (ez b0) az),Aw (OK ae ab) Y J az,SE ((aR.wk ac).md Y J az<|J.no (ez b1) az) ab,ep (bZ a9 Y J az) ab,(bW.md Y fun k hk cur z b2=>J.no (dt b2) az hk).mono ab⟩
 refine eL ag<|tn<|bw _ _<|aj fun _ bp=>p mv<|p (cO (ps:= []) (L:= [.int .i64 0,.int .i64 0,.int .i64 0]) tH aa<|aa)<|p aB<|e<|gi jT aa aa aa aa (Wk.aJ (Z.trans aK) ai) az fun cB a1 bF=>nl<|tn<|bp _ _<|rt<|eo aa ea (dK (cs:= [.int .i64 0,.int .i64 0,.int .i64 0]) aa k5 aa fun j M=>(a6 bF).trans<|by match j,M with | 0,_=>rfl | 1,_=>rfl | 2,_=>rfl) ?_
 refine ⟨⟨_,_,_,_,aa,?_⟩,(ao.md.trans<|Z.trans aK).trans' a1 fun q E h=>by omega⟩
 rw [DJ C hd]
 have bQ:TF aS [49] (fun q=>q=A):=TF.eq (dt<|Wk.aJ (Z.trans aK) ai) az
 exact ⟨ah.heap.size,aC,_,ab,aa,bP.vw a1 bQ az (fun h:mc=A=>by have :=am.lo.2; omega) (fun h:mb=A=>by omega),eR.of C hd ⟨seen,aU⟩ am.fI⟩
end Go.Hb.mV
end
section
set_option maxRecDepth 20000
set_option maxHeartbeats 1000000
namespace Go.Hb.nE
open Go.Hb.dT
open Go.Proofs
open Go.Hb.fq Go.Hb.fQ Go.Hb.gn Go.Hb.jF Go.Hb.iK Go.Hb.kH Go.Hb.iM Go.Hb.j4 Go.Hb.kK Go.Hb.k0 Go.Hb.lA Go.Hb.lR Go.Hb.mj Go.Hb.ml Go.Hb.jP Go.Hb.lC Go.Hb.mV
def ky (xs:List bD) (n:Int):Tx:=if 0≤n∧n < xs.length then (xs.getD n.toNat ([],[])).1 else []
def rZ (F:aR) (n:Int):c8:=if 0≤n∧n < F.rules.length then F.rules.getD n.toNat eT else eT
theorem sS {xs:List bD} {k:Nat} {x:bD} (h:xs[k]? =some x):ky xs k=x.1∧flagsOf xs k=x.2∧k < xs.length∧xs.getD k ([],[])=x:=by
 have hk:=(fJ.1 h).1
 have hd:xs.getD k ([],[])=x:=by rw [cQ,h]; rfl
 refine ⟨?_,?_,hk,hd⟩
 · unfold ky; rw [if_pos ab,mS,hd]
 · unfold flagsOf; rw [if_pos ab,mS,hd]
theorem sT {xs:List bD} {n:Int} (h:¬(0≤n∧n < xs.length)):ky xs n= []∧flagsOf xs n= []:=by
 unfold ky flagsOf; rw [if_neg h,if_neg h]; exact ⟨rfl,rfl⟩
theorem vM {F:aR} {k:Nat} {r:c8} (h:F.rules[k]? =some r):rZ F k=r∧cR F k=r.next∧k < F.rules.length∧F.rules.getD k eT=r:=by
 have hk:=(fJ.1 h).1
 have hd:F.rules.getD k eT=r:=by rw [cQ,h]; rfl
 refine ⟨?_,?_,hk,hd⟩
 · unfold rZ; rw [if_pos ab,mS,hd]
 · unfold cR; rw [if_pos ab,mS,hd]
theorem vN {F:aR} {n:Int} (h:¬(0≤n∧n < F.rules.length)):rZ F n=eT∧cR F n= []:=by
 unfold rZ cR; rw [if_neg h,if_neg h]; exact ⟨rfl,rfl⟩
theorem YP {w:World} {B tb:Nat} {j:iU} {F:aR} {xs:List bD} (h:gp w B tb j F xs) {k:Nat} {x:bD} (C:xs[k]? =some x):∃ i ce a c,j.ve= .slice i xs.length ce∧Hb.aO w.heap tb 15=some (.slice i xs.length ce)∧aI w.heap i (j7<|xs.zip j.ws)∧(xs.zip j.ws)[k]? =some (x,.slice a x.2.length c)∧Tg w B 51 x.2.length (.slice a x.2.length c) (x.2.map bc):=by
 obtain ⟨i,ce,A⟩:=cw h.oe
 have E:=h.oe
 rw [A] at E
 have hk:=(fJ.1 C).1
 obtain ⟨v,G,q⟩:=ek.get h.ef (show k < (xs.map (·.2)).length by rw [fE]; exact hk)
 have I:(xs.map (·.2)).getD k []=x.2:=by rw [cQ,ic,C]; rfl
 rw [I] at q
 obtain ⟨a,c,rfl⟩:=q.slice
 exact ⟨i,ce,a,c,A,by rw [← A]; exact (a6 h.cells).trans aa,(aX E).2,jx.2 ⟨C,G⟩,q⟩
theorem YQ {w:World} {B tb:Nat} {i:iU} {F:aR} {xs:List bD} (h:gp w B tb i F xs):∃ a ce,Hb.aO w.heap tb 15=some (.slice a xs.length ce):=by
 obtain ⟨a,ce,j⟩:=cw h.oe
 exact ⟨a,ce,by rw [← j]; exact (a6 h.cells).trans aa⟩
theorem YR {w:World} {B tb:Nat} {a:iU} {F:aR} {xs:List bD} (h:gp w B tb a F xs):∃ ar cr,Hb.aO w.heap tb 14=some (.slice ar F.rules.length cr):=by
 obtain ⟨ar,cr,i⟩:=cw h.ax.dB
 exact ⟨ar,cr,by rw [← i]; exact (a6 h.cells).trans aa⟩
theorem OL {w:World} {B:Nat} {F:aR} {V:eX} (h:ph w B F V) {k:Nat} {r:c8} (j:F.rules[k]? =some r):∃ ar cr a c,V.v12= .slice ar F.rules.length cr∧aI w.heap ar (iQ<|F.rules.zip V.rn)∧(F.rules.zip V.rn)[k]? =some (r,.slice a r.next.length c)∧Tg w B 51 r.next.length (.slice a r.next.length c) (r.next.map bc):=by
 obtain ⟨ar,cr,A⟩:=cw h.dB
 have q:=h.dB
 rw [A] at q
 have hk:=(fJ.1 j).1
 obtain ⟨v,C,i⟩:=ek.get h.nx (show k < (F.rules.map (·.next)).length by rw [fE]; exact hk)
 have E:(F.rules.map (·.next)).getD k []=r.next:=by rw [cQ,ic,j]; rfl
 rw [E] at i
 obtain ⟨a,c,rfl⟩:=i.slice
 exact ⟨ar,cr,a,c,A,(aX q).2,jx.2 ⟨j,C⟩,i⟩
structure fX (w:World) (B tb fb:Nat) (V:eh) (ve:Value) (F:aR) (xs:List bD):Prop where
 cells:w.heap[tb]? =some (.cells [.pointer (some ⟨fb,0,none⟩),ve].toArray 32 (0,0))
 fl:eA w B 0 fb F V
 en:mU w B ve xs
theorem fX.wk {w w':World} {B tb fb:Nat} {V:eh} {ve:Value} {F:aR} {xs:List bD} (h:fX w B tb fb V ve F xs) (hm:Wk w w'):fX w' B tb fb V ve F xs:=⟨Wk.aJ hm h.cells,h.fl.wk hm,h.en.wk hm⟩
theorem fX.s9 {w:World} {B tb fb:Nat} {V:eh} {ve:Value} {F:aR} {xs:List bD} (h:fX w B tb fb V ve F xs) {k:Nat} {x:bD} (A:xs[k]? =some x):∃ i ce ws a c,Hb.aO w.heap tb 1=some (.slice i xs.length ce)∧aI w.heap i (j7<|xs.zip ws)∧(xs.zip ws)[k]? =some (x,.slice a x.2.length c)∧Tg w 0 3 x.2.length (.slice a x.2.length c) (x.2.map bM):=by
 obtain ⟨ws,q,E⟩:=h.en
 obtain ⟨i,ce,C⟩:=cw q
 rw [C] at q
 have hk:=(fJ.1 A).1
 obtain ⟨v,G,j⟩:=ij.get E (show k < (xs.map (·.2)).length by rw [fE]; exact hk)
 have I:(xs.map (·.2)).getD k []=x.2:=by rw [cQ,ic,A]; rfl
 rw [I] at j
 obtain ⟨a,c,rfl⟩:=j.slice
 exact ⟨i,ce,ws,a,c,by rw [← C]; exact (a6 h.cells).trans aa,(aX q).2,jx.2 ⟨A,G⟩,j⟩
theorem fX.DR {w:World} {B tb fb:Nat} {V:eh} {ve:Value} {F:aR} {xs:List bD} (h:fX w B tb fb V ve F xs):∃ a ce,Hb.aO w.heap tb 1=some (.slice a xs.length ce):=by
 obtain ⟨ws,i,q⟩:=h.en
 obtain ⟨a,ce,j⟩:=cw i
 exact ⟨a,ce,by rw [← j]; exact (a6 h.cells).trans aa⟩
theorem fX.DS {w:World} {B tb fb:Nat} {V:eh} {ve:Value} {F:aR} {xs:List bD} (h:fX w B tb fb V ve F xs):∃ ar cr,Hb.aO w.heap fb 12=some (.slice ar F.rules.length cr):=by
 obtain ⟨ar,cr,a⟩:=cw h.fl.dB
 exact ⟨ar,cr,by rw [← a]; exact (a6 h.fl.cells).trans aa⟩
theorem fX.iD {w:World} {B tb fb:Nat} {V:eh} {ve:Value} {F:aR} {xs:List bD} (h:fX w B tb fb V ve F xs) {k:Nat} {r:c8} (j:F.rules[k]? =some r):∃ ar cr a c,Hb.aO w.heap fb 12=some (.slice ar F.rules.length cr)∧aI w.heap ar (mz<|F.rules.zip V.rn)∧(F.rules.zip V.rn)[k]? =some (r,.slice a r.next.length c)∧Tg w 0 3 r.next.length (.slice a r.next.length c) (r.next.map bM):=by
 obtain ⟨ar,cr,A⟩:=cw h.fl.dB
 have q:=h.fl.dB
 rw [A] at q
 have hk:=(fJ.1 j).1
 obtain ⟨v,C,i⟩:=ij.get h.fl.nx (show k < (F.rules.map (·.next)).length by rw [fE]; exact hk)
 have E:(F.rules.map (·.next)).getD k []=r.next:=by rw [cQ,ic,j]; rfl
 rw [E] at i
 obtain ⟨a,c,rfl⟩:=i.slice
 exact ⟨ar,cr,a,c,by rw [← A]; exact (a6 h.fl.cells).trans aa,(aX q).2,jx.2 ⟨j,C⟩,i⟩
theorem T0 {w:World} {B B' B0 fb:Nat} {F:aR} {V:eh} (h:eA w B B0 fb F V) (a:B'≤B):eA w B' B0 fb F V:=⟨h.cells,ep h.o9 a,ep h.eO a,h.al,ep h.ej a,ep h.dB a,h.nx,fW a h.lo,h.fI⟩
theorem Ue {w:World} {B B':Nat} {v:Value} {xs:List bD} (h:mU w B v xs) (a:B'≤B):mU w B' v xs:=by
 obtain ⟨vs,h1,h2⟩:=h
 exact ⟨vs,ep h1 a,h2⟩
theorem Uf {s:Tx} {w w':World} {v:Value} (h:lT s w v w'):∃ p l e,v= .tuple #[.pointer p,.int .i64 l,.int .i64 e]∧((e≠0∧∃ er,ff s= .error er)∨(e=0∧∃ F B fb V,p=some ⟨fb,0,none⟩∧ff s= .ok F∧w.heap.size≤B∧eA w' B 0 fb F V∧(∃ seen,nB F [] seen)∧Nx F))∧Wk w w':=by
 obtain ⟨h,a⟩:=h
 cases hx:ff s with
 | error e=>rw [hx] at h; exact ⟨_,_,_,h,.inl ⟨by have :=Ol hx; omega,e,rfl⟩,a⟩
 | ok F=>rw [hx] at h; obtain ⟨B,fb,V,i,j,h1,h2,h3⟩:=h; exact ⟨_,_,_,j,.inr ⟨rfl,F,B,fb,V,rfl,rfl,i,h1,h2,h3⟩,a⟩
theorem Uh {F:aR} {s:Tx} {w w':World} {v:Value} (h:lB F s w v w'):∃ a l e,v= .tuple #[a,.int .i64 l,.int .i64 e]∧a.oneCell'=true∧((e≠0∧∃ er,e6 F s= .error er)∨(e=0∧∃ xs,e6 F s= .ok xs∧mU w' w.heap.size a xs))∧Wk w w':=by
 obtain ⟨h,i⟩:=h
 cases hx:e6 F s with
 | error e=>rw [hx] at h; exact ⟨_,_,_,h,rfl,.inl ⟨by have :=Sy hx; omega,e,rfl⟩,i⟩
 | ok xs=>rw [hx] at h; obtain ⟨a,q,h1⟩:=h; exact ⟨_,_,_,q,(by obtain ⟨ws,j,_⟩:=h1; exact eH j),.inr ⟨rfl,xs,rfl,h1⟩,i⟩
def uy (a t:Tx) (w:World) (v:Value) (w':World):Prop :=(∃ p i j q,v= .tuple #[.pointer p,.agg [.int .i64 i,.int .i64 j,.int .i64 q].toArray]∧match lr a t with
 | none=>p=none
 | some T=> ∃ B tb fb V ve,p=some ⟨tb,0,none⟩∧fX w' B tb fb V ve T.1 T.2)∧Wk w w'
theorem uy.no {a t:Tx} {w w':World} {i j q:Int} (h:lr a t=none) (hm:Wk w w'):uy a t w (.tuple #[.pointer none,.agg [.int .i64 i,.int .i64 j,.int .i64 q].toArray]) w':=⟨⟨none,i,j,q,rfl,by rw [h]⟩,hm⟩
theorem XI (a t:Tx) (w:World) (aY:a.length≤1048576) (a3:t.length≤1048576):
 bh ay 38 (ba [str a,str t]) w (uy a t w):=by
 refine enter func38 aa ntmps38 aa<|aj fun _ aA=>p aB<|e<|ga MA fun an am a9 G ao=> ?_
 have bg:=G.size
 have ac:bL am.heap an [.int .i64 0,.int .i64 0,.int .i64 0]:=⟨_,ao⟩
 refine aE<|aA _ _<|aj fun _ aC=>ak (str a)<|e<|cl QB (W6 a am aY) aa fun v12 ax aW=> ?_
 have a0:=Uf aW
 obtain ⟨pp,ai,Y,rfl,av,i⟩:=a0
 have bc:=i.size
 refine p mv<|p (xt aa aa)<|p (xt aa aa)<|p (xt aa aa)<|p aB<|p aB<|p aB<|nl<|tn<|aC _ _<|sq fun _ aD=>aj fun _ aF=>p mv<|p (cX aa aa)<|aE<|aF _ _<|cd aa (fun ag=> ?_) fun ag=> ?_
 obtain ⟨er,I⟩:=(av.resolve_right fun h=>ag h.1).2
 exact aj fun _ J=>p mv<|p mv<|p (cO (ps:= [(0,.int .i64 1),(1,.int .i64 ai),(2,.int .i64 Y)]) (L:= [.int .i64 1,.int .i64 ai,.int .i64 Y]) DD aa<|aa)<|p aB<|e<|cW xL aa aa aa aa (Wk.B i ac) (by simp) fun bi aT aL=>nl<|tn<|J _ _<|rt<|tr<|eo aa ea (dK (cs:= [.int .i64 1,.int .i64 ai,.int .i64 Y]) aa Aj aa fun j aq=>aL.bB j)<|uy.no (LL I)<|(G.md.trans i).trans' aT fun q aw h=>by omega
 obtain ⟨bb,F,B,fb,V,rfl,I,aR,ap,aP,aV⟩:=av.resolve_left fun h=>ag h.1
 refine aM<|tn<|aD _ _<|aj fun _ J=>p mv<|ak (str t)<|e<|cl QC (TT B fb F V t ax ap aP aV a3) aa fun v24 a4 aX=> ?_
 have a1:=Uh aX
 obtain ⟨a2,al,Z,rfl,a7,au,A⟩:=a1
 have bd:=A.size
 refine p mv<|p (xt aa aa)<|p (xt aa aa)<|p (xt aa aa)<|p aB<|p aB<|p aB<|nl<|tn<|J _ _<|sq fun _ aG=>aj fun _ aH=>p mv<|p (cX aa aa)<|aE<|aH _ _<|cd aa (fun ah=> ?_) fun ah=> ?_
 obtain ⟨er,hd⟩:=(au.resolve_right fun h=>ah h.1).2
 exact aj fun _ M=>p mv<|p mv<|p (cO (ps:= [(0,.int .i64 2),(1,.int .i64 al),(2,.int .i64 Z)]) (L:= [.int .i64 2,.int .i64 al,.int .i64 Z]) DD aa<|aa)<|p aB<|e<|cW xL aa aa aa aa (Wk.B (i.trans A) ac) (by simp) fun bj aU aN=>nl<|tn<|M _ _<|rt<|tr<|eo aa ea (dK (cs:= [.int .i64 2,.int .i64 al,.int .i64 Z]) aa Aj aa fun j aq=>aN.bB j)<|uy.no (LM I hd)<|(G.md.trans<|i.trans A).trans' aU fun q aw h=>by omega
 obtain ⟨Z2,xs,hd,a6,ar,aZ⟩:=au.resolve_left fun h=>ah h.1
 obtain ⟨O,U,rfl⟩:=cw ar
 have aS:mU a4 ax.heap.size (.slice O xs.length U) xs:=⟨a6,ar,aZ⟩
 refine aM<|tn<|aG _ _<|aj fun _ M=>p mv<|p mv<|p (cO (ps:= [(0,aQ fb),(1,.slice O xs.length U)]) (L:= [aQ fb,.slice O xs.length U]) Yy aa<|aa)<|e<|oC aa fun aI a5 a8 C aK=> ?_
 have bf:=C.size
 refine p (cO (ps:= []) (L:= [.int .i64 0,.int .i64 0,.int .i64 0]) DD aa<|aa)<|p aB<|e<|cW xL aa aa aa aa (Wk.B ((i.trans A).trans C.md) ac) (by simp) fun bk E aO=>aE<|M _ _<|rt<|eo aa ea (dK (cs:= [.int .i64 0,.int .i64 0,.int .i64 0]) aa Aj aa fun j aq=>aO.bB j) ?_
 refine ⟨⟨_,_,_,_,aa,?_⟩,(G.md.trans<|(i.trans A).trans C.md).trans' E fun q aw h=>by omega⟩
 rw [DJ I hd]
 have ae:TF a5 [108] (fun q=>q=an):=TF.eq (dt<|Wk.aJ ((i.trans A).trans C.md) ao) az
 refine ⟨am.heap.size,aI,fb,V,_,aa,E.gy ae aK az,T0 ((ap.wk<|A.trans C.md).md E ae az) aR,Ue ((aS.wk C.md).md E ae az) ab⟩
end Go.Hb.nE
end
section
set_option maxRecDepth 20000
set_option maxHeartbeats 1000000
namespace Go.Hb.EW
open Go.Proofs
def Xe:Go.Shelf.Ren:=⟨fun n=>if n=125 then 111 else if n=128 then 168 else if n=129 then 169 else if n=189 then 71 else if n=215 then 231 else if n=216 then 165 else if n=257 then 110 else if n=294 then 159 else if n=295 then 160 else if n=296 then 161 else if n=297 then 162 else if n=298 then 163 else if n=299 then 164 else if n=300 then 166 else if n=301 then 167 else if n=328 then 226 else if n=329 then 227 else if n=330 then 228 else if n=331 then 229 else if n=332 then 230 else if n=343 then 257 else 0,fun n=>if n=0 then 0 else if n=3 then 3 else if n=4 then 4 else if n=5 then 5 else if n=9 then 9 else if n=28 then 75 else if n=46 then 226 else if n=51 then 290 else if n=53 then 158 else if n=131 then 287 else if n=182 then 282 else if n=183 then 283 else if n=218 then 340 else if n=222 then 344 else if n=228 then 365 else if n=229 then 245 else 0,fun n=>n⟩
theorem Jt:Go.Proofs.Lays.n189 ay Xe where
 mixed:=ag
 f125:=ag
 f128:=ag
 f129:=ag
 f189:=ag
 f215:=ag
 f216:=ag
 f257:=ag
 f294:=ag
 f295:=ag
 f296:=ag
 f297:=ag
 f298:=ag
 f299:=ag
 f300:=ag
 f301:=ag
 f328:=ag
 f329:=ag
 f330:=ag
 f331:=ag
 f332:=ag
 f343:=ag
 t0:=ag
 a0:=fun _=>ag
 z0:=fun _=>ag
 v0:=fun _=>ag
 t3:=ag
 a3:=fun _=>ag
 z3:=fun _=>ag
 v3:=fun _=>ag
 t4:=ag
 a4:=fun _=>ag
 z4:=fun _=>ag
 v4:=fun _=>ag
 t5:=ag
 a5:=fun _=>ag
 z5:=fun _=>ag
 v5:=fun _=>ag
 t9:=ag
 a9:=fun _=>ag
 z9:=fun _=>ag
 v9:=fun _=>ag
 t28:=ag
 a28:=fun _=>ag
 z28:=fun _=>ag
 v28:=fun _=>ag
 t46:=ag
 a46:=fun _=>ag
 z46:=fun _=>ag
 v46:=fun _=>ag
 t51:=ag
 a51:=fun _=>ag
 z51:=fun _=>ag
 v51:=fun _=>ag
 t53:=ag
 a53:=fun _=>ag
 z53:=fun _=>ag
 v53:=fun _=>ag
 t131:=ag
 a131:=fun _=>ag
 z131:=fun _=>ag
 v131:=fun _=>ag
 t182:=ag
 a182:=fun _=>ag
 z182:=fun _=>ag
 v182:=fun _=>ag
 t183:=ag
 a183:=fun _=>ag
 z183:=fun _=>ag
 v183:=fun _=>ag
 t218:=ag
 a218:=fun _=>ag
 z218:=fun _=>ag
 v218:=fun _=>ag
 t222:=ag
 a222:=fun _=>ag
 z222:=fun _=>ag
 v222:=fun _=>ag
 t228:=ag
 a228:=fun _=>ag
 z228:=fun _=>ag
 v228:=fun _=>ag
 t229:=ag
 a229:=fun _=>ag
 z229:=fun _=>ag
 v229:=fun _=>ag
theorem Ye (B n:Nat) (v:Value) (a:List Int) (w:World) (q:bo w B 3 1 v n (a.map<|jh .i64)) (I:a.length≤1048576):
 bh ay 71 [v].toArray w (fun G w'=>G= .tuple #[]∧bo w' B 3 1 v n ((a.mergeSort fun x y=>decide (x≤y)).map<|jh .i64)∧Md (fun k=>v.ownBlock=some k) w w'):=by
 have hn:a.length=n:=by have :=q.1; simpa using this
 have hlen:(a.mergeSort fun x y=>decide (x≤y)).length=a.length:=List.length_mergeSort _
 rcases q.2 with ⟨rfl,J⟩ | ⟨g,cap,cur,rfl,A,j,h1,h2,h3,h4⟩
 · have E:a= []:=fO ab
   subst E
   refine lO (Any.slices_Sort_int_none Jt none 0 w) ?_
   rintro e w' ⟨rfl,rfl⟩
   exact ⟨_,aa,aa,by rw [List.mergeSort_nil]; exact q,Md.refl _ _⟩
 · subst hn
   rw [Nat.mul_one] at h4
   refine lO (calls_of_every_depth fun D=>AnyS.slices_Sort_int_alone Jt D g 0 cap a w (holds_of_blockI j h4) (dm.1 j).1 ab) ?_
   rintro e w' ⟨rfl,m,os,rfl⟩
   have i:=grownBy_sortedI (w:=w) (g:=g) (n:=m) (os:=os) (a.mergeSort fun x y=>decide (x≤y)).toArray
   refine ⟨_,aa,aa,ownsRow_sortedI hlen A j h1 h2 h3,⟨i.os,i.output,i.size,fun k hk C=>i.block k hk fun he=>C ?_⟩⟩
   simp only [Value.ownBlock]; exact he.symm
end Go.Hb.EW
end
section
set_option maxRecDepth 20000
set_option maxHeartbeats 1000000
namespace Go.Hb.ox
open Go.Hb.dT
open Go.Proofs
open Go.Hb.fq Go.Hb.fQ Go.Hb.gn Go.Hb.jF Go.Hb.iK Go.Hb.kH Go.Hb.iM Go.Hb.j4 Go.Hb.kK Go.Hb.k0 Go.Hb.lA Go.Hb.lR Go.Hb.mj Go.Hb.ml Go.Hb.jP Go.Hb.lC Go.Hb.mV Go.Hb.nE Go.Hb.EW
theorem JG (l:List Nat):(l.map fun i:Nat=>(i:Int)).map (jh .i64)=l.map bM:=by rw [List.map_map]; rfl
theorem n8 {F:aR} {xs:List bD} (h:eR F xs) (n:Int):(flagsOf xs n).length≤64∧k3 (flagsOf xs n):=by
 by_cases hn:0≤n∧n < xs.length
 · obtain ⟨k,rfl⟩:∃ k:Nat,n=(k:Int):=⟨n.toNat,ab⟩
   have a:xs[k]? =some xs[k]:=cz ab
   rw [(sS a).2.1]
   exact ⟨(h.uU _<|iJ a).2.1,h.SH _<|iJ a⟩
 · rw [(sT hn).2]; exact ⟨jD _,vm⟩
theorem tK {F:aR} {xs:List bD} (h:eR F xs) (n:Int):(cR F n).length≤64∧k3 (cR F n):=by
 by_cases hn:0≤n∧n < F.rules.length
 · obtain ⟨k,rfl⟩:∃ k:Nat,n=(k:Int):=⟨n.toNat,ab⟩
   have a:F.rules[k]? =some F.rules[k]:=cz ab
   rw [(vM a).2.1]
   exact ⟨(h.iD a).1,(h.iD a).2.1⟩
 · rw [(vN hn).2]; exact ⟨jD _,vm⟩
theorem Rt {F:aR} {k f:Nat} (h:(dU F.bp f).isSome=false):gA F k f= []:=by
 unfold gA
 cases h2:dU F.bp f with
 | none=>rfl
 | some c=>rw [h2] at h; cases h
theorem Rx {F:aR} {k f:Nat} {c:c7} (h:(dU F.bp f).isSome=true) (a:(dU F.bp f).getD sZ=c):dU F.bp f=some c:=by
 cases h2:dU F.bp f with
 | none=>rw [h2] at h; cases h
 | some d=>rw [h2] at a; exact congrArg some a
theorem Ru {F:aR} {k f:Nat} {c:c7} (h:dU F.bp f=some c) (hk:c.kind≠k):gA F k f= []:=by unfold gA; rw [h]; exact if_neg hk
theorem Ry {F:aR} {k f:Nat} {c:c7} (h:dU F.bp f=some c) (hk:c.kind=k):gA F k f=(jZ c.count).map (c.first+ ·):=by unfold gA; rw [h]; exact if_pos hk
theorem Rr {F:aR} (a:pk F) {f:Nat} {c:c7} (h:dU F.bp f=some c):c.first+c.count≤F.rules.length:=(a.uO c (HO h).1).1
theorem Tp {fs:List Nat} {f:Nat→List Nat} {i:Nat} (h:i < fs.length):(fs.take<|i+1).flatMap f=(fs.take i).flatMap f++f (fs.getD i 0):=by
 rw [fD fs i 0 h,List.flatMap_append,List.flatMap_singleton]
theorem JY {F:aR} (a:pk F) {fs:List Nat} (h:fs.Pairwise (· < ·)) (k:Nat):(fs.flatMap<|gA F k).length=(aV F fs k).length:=by
 obtain ⟨h1,h2⟩:=JW a (k:=k) h
 exact ((List.perm_ext_iff_of_nodup h1<|(JZ F fs k).imp fun h=>by omega).2 h2).length_eq
theorem V9 {F:aR} (a:pk F) {fs:List Nat} (h:fs.Pairwise (· < ·)) (k:Nat):(fs.flatMap<|gA F k).length≤F.rules.length:=by
 rw [JY a h]; exact rT F fs k
def mD (F:aR) (fs:List Nat) (kind n:Nat):List Nat:=(jZ n).filter fun i=>decide ((F.rules.getD i eT).kind=kind∧(F.rules.getD i eT).flag∈fs)
theorem V8 (F:aR) (fs:List Nat) (kd n:Nat):mD F fs kd (n+1)=mD F fs kd n++(if (F.rules.getD n eT).kind=kd∧(F.rules.getD n eT).flag∈fs then [n] else []):=by
 unfold mD
 rw [NO,List.filter_append]
 congr 1
 rw [List.filter_cons,List.filter_nil]
 by_cases h:(F.rules.getD n eT).kind=kd∧(F.rules.getD n eT).flag∈fs
 · rw [decide_eq_true h,if_pos h]; rfl
 · rw [decide_eq_false h,if_neg h]; rfl
theorem V7 (F:aR) (fs:List Nat) (kd n:Nat):(mD F fs kd n).length≤n:=by
 unfold mD; have :=List.length_filter_le (fun i=>decide ((F.rules.getD i eT).kind=kd∧(F.rules.getD i eT).flag∈fs)) (jZ n); simpa using this
def nj (r:c8) (fs:List Nat) (kd i k:Nat):List Nat:=if r.kind=kd∧r.flag∈fs.take k then [i] else []
theorem Kf (r:c8) (fs:List Nat) (kd i:Nat):nj r fs kd i 0= []:=if_neg fun h=>by simp at h
theorem Ke {r:c8} {fs:List Nat} {kd i k:Nat} (hk:k < fs.length) (h:fs.getD k 0≠r.flag):nj r fs kd i (k+1)=nj r fs kd i k:=by
 unfold nj
 rw [fD fs k 0 hk]
 have :r.flag∈fs.take k++ [fs.getD k 0]↔r.flag∈fs.take k:=by
  rw [jz,jY]; exact ⟨fun h2=>h2.elim id (fun e=>absurd e.symm h),.inl⟩
 simp only [this]
theorem Wg {r:c8} {fs:List Nat} {kd i k:Nat} (C:fs.Pairwise (· < ·)) (hk:k < fs.length) (h:fs.getD k 0=r.flag) (E:r.kind=kd):nj r fs kd i (k+1)=nj r fs kd i k++ [i]:=by
 unfold nj
 rw [fD fs k 0 hk]
 have hn:r.flag∉fs.take k:=fun h2=>by
  obtain ⟨j,a⟩:=List.getElem?_of_mem h2
  have q:j < k:=by have :=(fJ.1 a).1; rw [List.length_take] at this; omega
  rw [List.getElem?_take_of_lt q] at a
  have A:=fJ.1 a
  have :=List.pairwise_iff_getElem.1 C j k A.1 hk q
  rw [cQ,cz hk] at h
  simp only [Option.getD_some] at h
  have h3:=A.2
  omega
 rw [if_pos ⟨E,by rw [jz]; exact .inr<|jY.2 h.symm⟩,if_neg (fun h2=>hn h2.2)]; rfl
theorem Kd {F:aR} {r:c8} {fs:List Nat} {kd i k:Nat} (a:F.rules.getD i eT=r) (h:k=fs.length∨r.kind≠kd):mD F fs kd i++nj r fs kd i k=mD F fs kd (i+1):=by
 rw [V8,a]
 congr 1
 unfold nj
 rcases h with rfl | h
 · rw [List.take_length]
 · rw [if_neg (fun h2=>h h2.1),if_neg (fun h2=>h h2.1)]
def l5 (F:aR) (xs:List bD) (e k:Int):Bool:=decide (0≤k∧k < 5) && rP F xs e k.toNat
theorem LR {w:World} {B tb:Nat} {a:iU} {F:aR} {xs:List bD} (h:gp w B tb a F xs) {k:Nat} (hk:k < 5):Hb.aO w.heap tb (5 +k*1)=some (bc<|F.sp.getD k 0):=by
 refine (a6 h.cells).trans ?_
 match k,hk with
 | 0,_=>rfl
 | 1,_=>rfl
 | 2,_=>rfl
 | 3,_=>rfl
 | 4,_=>rfl
theorem IS {w:World} {B tb fb:Nat} {V:eh} {ve:Value} {F:aR} {xs:List bD} (h:fX w B tb fb V ve F xs) {k:Nat} (hk:k < 5):Hb.aO w.heap fb (3 +k*1)=some (bM<|F.sp.getD k 0):=by
 refine (a6 h.fl.cells).trans ?_
 match k,hk with
 | 0,_=>rfl
 | 1,_=>rfl
 | 2,_=>rfl
 | 3,_=>rfl
 | 4,_=>rfl
theorem IY {x:Nat} {l:List Nat} (h:0∉l):decide (x∈l)=decide (x≠0∧x∈l):=decide_eq_decide.2 ⟨fun h2=>⟨fun h3=>h (h3 ▸ h2),h2⟩,And.right⟩
theorem xW (B tb:Nat) (aJ:iU) (F:aR) (xs:List bD) (n:Int) (w:World) (au:gp w B tb aJ F xs) (ai:eR F xs):
 bh ay 24 (ba [aQ tb,.int .i64 n]) w (fun v w'=>(∃ a,v= .tuple #[.agg [str (ky xs n),a].toArray,.bool (decide (0≤n∧n < xs.length))]∧bo w' w.heap.size 51 1 a (flagsOf xs n).length ((flagsOf xs n).map bc))∧Wk w w'):=by
 obtain ⟨a3,ce,aZ⟩:=YQ au
 have bj:=ai.xl
 refine enter func24 aa ntmps24 aa<|aj fun _ aD=>e<|al qX fun a5 aA bb A I=> ?_
 have bn:=A.size
 have aW:=au.wk A.md
 have a1:=Wk.aO A.md aZ
 refine aw<|aD _ _<|sq fun _ aF=>aj fun _ ac=>p mv<|p (lY vW aa aa)<|p mv<|gb (t:=9) aa (fun h=>absurd (h.symm.trans<|aa) eb) fun bf=>pg aa aa aa mv<|pg aa aa aa (lt aa aa)<|p (bm aa)<|p mv<|gs (t:=13) aa (fun aY=> ?_) fun aY=> ?_
 refine sk aa aa aa aa<|sk aa aa aa aa<|sk aa aa aa aa<|sk aa aa aa aa<|sk aa aa aa aa<|sk aa aa aa aa<|sk aa aa aa aa<|p (bw aa)<|aE<|ac _ _<|ct aa<|aj fun _ C=>p (cO (ps:= []) (L:= [.string ⟨⟨[]⟩⟩,.slice none 0 0]) nZ aa<|aa)<|e<|cW ku aa aa aa aa (I) (by simp) fun a2 M G=>p aB<|aE<|C _ _<|rt<|tr<|eo aa (dK (cs:= [str [],.slice none 0 0]) aa lE aa fun j U=>G.bB j) ea ?_
 have E:=sT (xs:=xs) (n:=n) ab
 exact ⟨⟨.slice none 0 0,by rw [E.1,decide_eq_false (show ¬(0≤n∧n < (xs.length:Int)) by omega)]; rfl,by rw [E.2]; exact du _ _ _ _⟩,A.md.trans' M fun q i h=>by omega⟩
 refine pg aa aa aa mv<|pg aa aa aa mv<|pg aa aa aa (nc aa)<|pg aa aa aa (fa Cb aa)<|pg aa aa aa (ld uE aa<|a1)<|pg aa aa aa (bF zu aa aa)<|pg aa aa aa (ge aa aa)<|p (bm aa)<|aE<|ac _ _<|cd aa (fun aX=> ?_) fun aX=> ?_
 refine aj fun _ C=>p (cO (ps:= []) (L:= [.string ⟨⟨[]⟩⟩,.slice none 0 0]) nZ aa<|aa)<|e<|cW ku aa aa aa aa (I) (by simp) fun a2 M G=>aw<|C _ _<|rt<|tr<|eo aa (dK (cs:= [str [],.slice none 0 0]) aa lE aa fun j U=>G.bB j) ea ?_
 have E:=sT (xs:=xs) (n:=n) ab
 exact ⟨⟨.slice none 0 0,by rw [E.1,decide_eq_false (show ¬(0≤n∧n < (xs.length:Int)) by omega)]; rfl,by rw [E.2]; exact du _ _ _ _⟩,A.md.trans' M fun q i h=>by omega⟩
 obtain ⟨k,rfl⟩:∃ k:Nat,n=(k:Int):=⟨n.toNat,ab⟩
 obtain ⟨x,Y⟩:∃ x,xs[k]? =some x:=⟨_,cz ab⟩
 obtain ⟨a4,a6,a,c,bg,a0,am,az,av⟩:=YP aW Y
 have bi:=(ai.uU x<|iJ Y).2.1
 obtain ⟨aK,aL,a8,a9⟩:=sS Y
 refine aM<|tn<|aF _ _<|aj fun _ C=>p mv<|p (nc aa)<|p (fa Cb aa)<|p (ld uE aa<|a0)<|p mv<|p (a7 BB aa aa ab<|aI.ok (am)<|uT az)<|p (cT lE aa (aa)<|e9 (f:=pI) (m:=2) (fun _=>rfl) am az)<|e<|al qX fun ag bt bd ar aU=> ?_
 have bq:=ar.size
 refine e<|cW ku aa aa aa aa (aU) (by simp) fun Z ap aN=> ?_
 have an:Wk aA Z:=ar.md.trans' ap fun q i h=>by omega
 have bk:=ap.size
 have ak:bL Z.heap ag [str x.1,.slice a x.2.length c]:=aN
 refine aE<|C _ _<|aj fun _ aG=>p (fa rL aa)<|p (ld mZ aa<|ak.bB 1)<|e<|cl rD (sY a x.2.length c (x.2.map bc) Z (av.wk an).cI.2 (by simp) (fun h=>Tg.tB av (by simp) h) (sQ _) ab) aa fun br bs aV=> ?_
 obtain ⟨V,J⟩:=aV
 obtain ⟨ae,ah,rfl⟩:=cw V
 have bl:=J.size
 refine p (fa rL aa)<|e<|st s6 aa aa (aa) (Wk.B J ak) (by simp) fun aC O aP=> ?_
 have ao:Wk aA aC:=(an.trans J).trans' O fun q i h=>by omega
 have bp:=O.size
 have ax:=db V O fun q i h=>by have :=(dI V i).1; omega
 have aS:bL aC.heap ag [str x.1,.slice ae x.2.length ah]:=aP
 exact aE<|aG _ _<|aj fun _ aH=>p (cT lE aa (aa) fun j U=>aS.bB j)<|e<|cW ku aa aa aa aa (Wk.B ao I) (by simp) fun bu aq aT=>p aB<|nl<|tn<|aH _ _<|rt<|eo aa (dK (cs:= [str x.1,.slice ae x.2.length ah]) aa lE aa fun j U=>aT.bB j) ea<|⟨⟨_,by rw [aK,decide_eq_true (show 0≤(k:Int)∧(k:Int) < (xs.length:Int) by omega)]; rfl,by rw [aL]; exact db (ep ax ab) aq fun q i h=>by have :=(dI ax i).1; omega⟩,(A.md.trans ao).trans' aq fun q i h=>by omega⟩
theorem y1 (B tb:Nat) (aL:iU) (F:aR) (xs:List bD) (n:Int) (w:World) (av:gp w B tb aL F xs) (ak:eR F xs):
 bh ay 25 (ba [aQ tb,.int .i64 n]) w (fun v w'=>(∃ a,v= .tuple #[.agg (fk (rZ F n,a)).toArray,.bool (decide (0≤n∧n < F.rules.length))]∧bo w' w.heap.size 51 1 a (cR F n).length ((cR F n).map bc))∧Wk w w'):=by
 obtain ⟨bd,ce,a4⟩:=YR av
 have bn:=ak.len
 refine enter func25 aa ntmps25 aa<|aj fun _ aG=>e<|al se fun aP G bi A J=> ?_
 have br:=A.size
 have az:=av.wk A.md
 have a9:=Wk.aO A.md a4
 have aX:bL G.heap aP (fk (eT,.slice none 0 0)):=J
 refine aw<|aG _ _<|sq fun _ aH=>aj fun _ ae=>p mv<|p (lY vW aa aa)<|p mv<|gb (t:=9) aa (fun h=>absurd (h.symm.trans<|aa) eb) fun bk=>pg aa aa aa mv<|pg aa aa aa (lt aa aa)<|p (bm aa)<|p mv<|gs (t:=13) aa (fun a3=> ?_) fun a3=> ?_
 refine sk aa aa aa aa<|sk aa aa aa aa<|sk aa aa aa aa<|sk aa aa aa aa<|sk aa aa aa aa<|sk aa aa aa aa<|sk aa aa aa aa<|sk aa aa aa aa<|p (bw aa)<|aE<|ae _ _<|ct aa<|aj fun _ C=>p (cO (ps:= []) (L:= [.int .i64 0,.int .u16 0,.bool false,.string ⟨⟨[]⟩⟩,.string ⟨⟨[]⟩⟩,.string ⟨⟨[]⟩⟩,.slice none 0 0]) DG aa<|aa)<|e<|cW pG aa aa aa aa (J) (by simp) fun bb O I=>aw<|C _ _<|rt<|tr<|eo aa (dK (cs:=fk (eT,.slice none 0 0)) aa m3 aa fun j V=>I.bB j) ea ?_
 have E:=vN (F:=F) (n:=n) ab
 exact ⟨⟨.slice none 0 0,by rw [E.1,decide_eq_false (show ¬(0≤n∧n < (F.rules.length:Int)) by omega)]; rfl,by rw [E.2]; exact du _ _ _ _⟩,A.md.trans' O fun q i h=>by omega⟩
 refine pg aa aa aa mv<|pg aa aa aa mv<|pg aa aa aa (nc aa)<|pg aa aa aa (fa vk aa)<|pg aa aa aa (fa nP aa)<|pg aa aa aa (ld lU aa<|a9)<|pg aa aa aa (bF vX aa aa)<|pg aa aa aa (ge aa aa)<|p (bm aa)<|aE<|ae _ _<|cd aa (fun a2=> ?_) fun a2=> ?_
 refine aj fun _ C=>p (cO (ps:= []) (L:= [.int .i64 0,.int .u16 0,.bool false,.string ⟨⟨[]⟩⟩,.string ⟨⟨[]⟩⟩,.string ⟨⟨[]⟩⟩,.slice none 0 0]) DG aa<|aa)<|e<|cW pG aa aa aa aa (J) (by simp) fun bb O I=>aw<|C _ _<|rt<|tr<|eo aa (dK (cs:=fk (eT,.slice none 0 0)) aa m3 aa fun j V=>I.bB j) ea ?_
 have E:=vN (F:=F) (n:=n) ab
 exact ⟨⟨.slice none 0 0,by rw [E.1,decide_eq_false (show ¬(0≤n∧n < (F.rules.length:Int)) by omega)]; rfl,by rw [E.2]; exact du _ _ _ _⟩,A.md.trans' O fun q i h=>by omega⟩
 obtain ⟨k,rfl⟩:∃ k:Nat,n=(k:Int):=⟨n.toNat,ab⟩
 obtain ⟨r,Z⟩:∃ r,F.rules[k]? =some r:=⟨_,cz ab⟩
 obtain ⟨aN,aS,a,c,a5,an,aD,aA⟩:=OL az.ax Z
 have a8:Hb.aO G.heap tb 14=some (.slice aN F.rules.length aS):=by rw [← a5]; exact (a6 az.cells).trans rfl
 have bl:=(ak.iD Z).1
 obtain ⟨aT,aU,bf,bg⟩:=vM Z
 refine aM<|tn<|aH _ _<|aj fun _ C=>p mv<|p (nc aa)<|p (fa vk aa)<|p (fa nP aa)<|p (ld lU aa<|a8)<|p mv<|p (a7 na aa aa ab<|aI.ok (an)<|nY aD)<|p (cT m3 aa (aa)<|e9 (f:=fk) (m:=7) (fun _=>rfl) an aD)<|e<|al se fun ah bx bj au a0=> ?_
 have bt:=au.size
 refine e<|cW pG aa aa aa aa (a0) (by simp) fun ac aq aV=> ?_
 have ao:Wk G ac:=au.md.trans' aq fun q i h=>by omega
 have bp:=aq.size
 have am:bL ac.heap ah (fk (r,.slice a r.next.length c)):=aV
 refine aE<|C _ _<|aj fun _ aJ=>p (fa qC aa)<|p (ld mZ aa<|am.bB 6)<|e<|cl rD (sY a r.next.length c (r.next.map bc) ac (aA.wk ao).cI.2 (by simp) (fun h=>Tg.tB aA (by simp) h) (sQ _) ab) aa fun bu bv a1=> ?_
 obtain ⟨Y,M⟩:=a1
 obtain ⟨ag,ai,rfl⟩:=cw Y
 have bq:=M.size
 refine p (fa qC aa)<|e<|st s6 aa aa (aa) (Wk.B M am) (by show 6 < 7; omega) fun aF U aW=> ?_
 have ap:Wk G aF:=(ao.trans M).trans' U fun q i h=>by omega
 have bs:=U.size
 have aC:=db Y U fun q i h=>by have :=(dI Y i).1; omega
 have aY:bL aF.heap ah (fk (r,.slice ag r.next.length ai)):=aW
 exact aE<|aJ _ _<|aj fun _ aK=>p (cT m3 aa (aa) fun j V=>aY.bB j)<|e<|cW pG aa aa aa aa (Wk.B ap aX) (by show 7≤7; omega) fun bz ar aZ=>p aB<|nl<|tn<|aK _ _<|rt<|eo aa (dK (cs:=fk (r,.slice ag r.next.length ai)) aa m3 aa fun j V=>aZ.bB j) ea<|⟨⟨_,by rw [aT,decide_eq_true (show 0≤(k:Int)∧(k:Int) < (F.rules.length:Int) by omega)]; rfl,by rw [aU]; exact db (ep aC ab) ar fun q i h=>by have :=(dI aC i).1; omega⟩,(A.md.trans ap).trans' ar fun q i h=>by omega⟩
theorem UW (a:Option Addr) (c:Nat) (l:List Nat) (x:Nat) (w:World) (E:aI w.heap a (l.map bc)) (ap:l.length≤1048576):
 bh ay 213 (ba [.slice a l.length c,bc x]) w (fun v w'=>(∃ k:Int,v= .int .i64 k∧(0≤k↔x∈l)∧ -1≤k∧k≤1048576)∧Wk w w'):=by
 refine enter func213 aa ntmps213 aa<|aj fun _ O=>aw<|O _ _<|sq fun _ U=>aj fun _ V=>ak (.slice a l.length c)<|p (bF L4 aa aa)<|p mv<|aE<|V _ _<|aJ<|lp (fun C q M=> ∃ (i:Nat),(i≤l.length)∧(∀ j,j < i→l.getD j 0≠x)∧(M=w)∧(q 0= .slice a l.length c)∧(q 1=bc x)∧(q 7=au (l.length))∧(q 8=au i)∧(l.length - i=C)) _ ⟨0,ab,(fun j I=>by omega),aa,aa,aa,aa,aa,aa⟩ ?_
 rintro C q M ⟨i,hi,J,ah,al,am,an,ao,rfl⟩
 refine fx 0 al<|fx 1 am<|fx 7 an<|fx 8 ao ?_
 subst ah
 refine aj fun _ Y=>p (lt aa aa)<|aE<|Y _ _<|sq fun _ Z=>cd aa (fun ai=> ?_) fun ai=> ?_
 refine aM<|tn<|Z _ _<|sq fun _ A=>aJ<|aj fun _ ac=>ak (au i)<|p (cH (au i) aa)<|aE<|ac _ _<|aj fun _ ae=>ak (bc x)<|ak (.slice a l.length c)<|ak (au i)<|p (a7 HC aa aa ab<|aI.ok (E)<|bP ab)<|p (ld cU aa<|aI.gG E (show (l.map bc)[i]? =some (bc<|l.getD i 0) by rw [ic,cQ,cz (by omega :i < l.length)]; rfl)) ?_
 refine p (bH aa aa)<|aE<|ae _ _<|cd aa (fun G=> ?_) fun G=> ?_
 exact aj fun _ ag=>ak (au i)<|p (cH (au i) aa)<|aE<|ag _ _<|rt<|br<|tr<|tr<|br<|tr<|f1 aa aa<|⟨⟨(i:Nat),aa,⟨fun _=>by obtain rfl :x=l.getD i 0:=ab; exact dQ ab,fun _=>by omega⟩,ab,ab⟩,Md.refl _ _⟩
 exact aM<|bn<|tn<|A _ _<|rg aa<|p (ad aa aa<|bT ab)<|p mv<|nl<|tn<|⟨_,ab,i+1,ab,(fun j I=>by rcases e8 j i with h | h <;> first | exact J j h | (rw [show j=i by omega]; exact fun h2=>G<|by rw [h2])),aa,aa,aa,aa,aa,aa⟩
 exact ext<|te _<|te _<|be<|tn<|U _ _<|aj fun _ A=>p aB<|aE<|A _ _<|rt<|f1 aa aa<|⟨⟨-1,aa,⟨fun h=>absurd h ab,fun h=>by obtain ⟨j,I,e⟩:=nU 0 h; exact absurd e<|J j ab⟩,ab,ab⟩,Md.refl _ _⟩
theorem RH (a:Option Addr) (c:Nat) (l:List Nat) (x:Nat) (w:World) (q:aI w.heap a (l.map bc)) (E:l.length≤1048576):
 bh ay 151 (ba [.slice a l.length c,bc x]) w (fun v w'=>v= .bool (decide (x∈l))∧Wk w w'):=by
 refine enter func151 aa ntmps151 aa<|aj fun _ i=>aw<|i _ _<|aj fun _ j=>ak (.slice a l.length c)<|ak (bc x)<|e<|cl PH (UW a c l x w q E) aa fun J M A=> ?_
 obtain ⟨⟨G,rfl,C,I⟩,hE7⟩:=A
 exact p (ge aa aa)<|aw<|j _ _<|rt<|f1 aa aa<|⟨by show bQ (decide (G≥0))=_; exact congrArg bQ (decide_eq_decide.2 C),hE7⟩
theorem IX (a:Option Addr) (c:Nat) (l:List Nat) (x:Nat) (w:World) (q:aI w.heap a (l.map bc)) (E:l.length≤1048576):
 bh ay 97 (ba [.slice a l.length c,bc x]) w (fun v w'=>v= .bool (decide (x∈l))∧Wk w w'):=by
 refine enter func97 aa ntmps97 aa<|aj fun _ i=>aw<|i _ _<|aj fun _ j=>ak (.slice a l.length c)<|ak (bc x)<|e<|cl Po (RH a c l x w q E) aa fun G I C=> ?_
 obtain ⟨rfl,A⟩:=C
 exact aw<|j _ _<|rt<|f1 aa aa<|⟨aa,A⟩
theorem CQ (B tb:Nat) (Z:iU) (F:aR) (xs:List bD) (fs:List Nat) (a:Option Addr) (c kd:Nat) (w:World) (aL:gp w B tb Z F xs) (U:eR F xs) (aC:aI w.heap a (fs.map bc)) (b4:fs.length≤64) (ar:fs.Pairwise (· < ·)):
 bh ay 91 (ba [aQ tb,.slice a fs.length c,au kd]) w (fun v w'=>bo w' w.heap.size 3 1 v (aV F fs kd).length ((aV F fs kd).map bM)∧Wk w w'):=by
 have b8:=U.len
 refine enter func91 aa ntmps91 aa<|aj fun _ aY=>aw<|aY _ _<|aj fun _ a5=>p aB<|aE<|a5 _ _<|sq fun _ a8=>aj fun _ a9=>ak (.slice a fs.length c)<|p (bF oQ aa aa)<|p mv<|aE<|a9 _ _<|aJ<|lp (fun O G J=> ∃ (i:Nat) (v:Value),(i≤fs.length)∧(bo J w.heap.size 3 1 v ((fs.take i).flatMap<|gA F kd).length<|((fs.take i).flatMap<|gA F kd).map bM)∧(((fs.take i).flatMap<|gA F kd).length≤i*70000)∧(Wk w J)∧(G 0=aQ tb)∧(G 2=au kd)∧(G 7=v)∧(G 13= .slice a fs.length c)∧(G 14=au (fs.length))∧(G 15=au i)∧(fs.length - i=O)) _ ⟨0,.slice none 0 0,ab,(du _ _ _ _),(jD _),(Md.refl _ _),aa,aa,aa,aa,aa,aa,aa⟩ ?_
 rintro O G J ⟨i,v,hi,ae,aS,C,bB,bJ,bK,bC,bG,bH,rfl⟩
 refine fx 0 bB<|fx 2 bJ<|fx 7 bK<|fx 13 bC<|fx 14 bG<|fx 15 bH<|aj fun _ bb=>p (lt aa aa)<|aE<|bb _ _<|sq fun _ bd=>cd aa (fun bt=> ?_) fun bt=> ?_
 refine aM<|tn<|bd _ _<|sq fun _ M=>aJ<|aj fun _ ai=>p (a7 bV aa aa ab<|aI.ok (aC.wk C)<|bP ab)<|p (ld cU aa<|aI.gG (aC.wk C) (show (fs.map bc)[i]? =some (bc<|fs.getD i 0) by rw [ic,cQ,cz (by omega :i < fs.length)]; rfl)) ?_
 refine aw<|ai _ _<|aj fun _ bf=>ak (aQ tb)<|p (nc aa)<|p (fa Ca aa)<|p (ld fZ aa<|(a6 (aL.wk C).cells).trans aa)<|p mv<|e<|cl AG (BE B Z.fb Z.mc F Z.V (fs.getD i 0) J (aL.wk C).fl ab) aa fun cf ch aK=> ?_
 obtain ⟨cl,aO⟩:∃ cl,(dU F.bp<|fs.getD i 0).getD sZ=cl:=⟨_,rfl⟩
 rw [aO] at aK
 have I:=Tp (f:=gA F kd) (show i < fs.length by omega)
 obtain ⟨rfl,aD⟩:=aK
 have ca:=aD.size
 refine p mv<|p (xt aa aa)<|p (xt aa aa)<|e<|ga tV fun al cg b0 aH bg=> ?_
 have b9:=aH.size
 refine e<|gi rF aa aa aa aa bg (by simp) fun aX aG bk=> ?_
 have ac:Wk J aX:=(aD.trans aH.md).trans' aG fun q b7 h=>by omega
 have ce:=aG.size
 have an:aX.heap[al]? =some (.cells (nK cl).toArray 131 (0,0)):=bk
 have ax:=aU ae ac
 refine aw<|bf _ _<|sq fun _ aZ=>aj fun _ aA=>p mv<|p (no aa)<|p mv<|gb (t:=30) aa (fun av=> ?_) fun av=> ?_
 have Y:gA F kd (fs.getD i 0)= []:=Rt<|by simpa using av
 exact sk aa aa aa aa<|sk aa aa aa aa<|sk aa aa aa aa<|sk aa aa aa aa<|p (bw aa)<|aE<|aA _ _<|ct aa<|ext<|te _<|be<|tn<|M _ _<|rg aa<|p (ad aa aa<|bT ab)<|p mv<|nl<|tn<|⟨_,ab,i+1,v,ab,(by rw [I,Y,ed]; exact ax),(by rewrite [I,Y,ed]; exact fW aS<|sA _<|Nat.le_succ i),(C.trans ac),aa,aa,aa,aa,aa,aa,aa⟩
 have aq:=Rx (k:=kd) (by simpa using av) aO
 refine pg aa aa aa (fa uZ aa)<|pg aa aa aa (ld bA aa<|(a6 an).trans aa)<|pg aa aa aa (aT (au kd) aa)<|pg aa aa aa (cX aa aa)<|p (bm aa)<|aE<|aA _ _<|cd aa (fun aN=> ?_) fun aN=> ?_
 have Y:gA F kd (fs.getD i 0)= []:=Ru aq fun h=>aN<|by rw [h]
 exact ext<|te _<|be<|tn<|M _ _<|rg aa<|p (ad aa aa<|bT ab)<|p mv<|nl<|tn<|⟨_,ab,i+1,v,ab,(by rw [I,Y,ed]; exact ax),(by rewrite [I,Y,ed]; exact fW aS<|sA _<|Nat.le_succ i),(C.trans ac),aa,aa,aa,aa,aa,aa,aa⟩
 have bv:cl.kind=kd:=ab
 have aP:=Ry aq bv
 have b2:=Rr U.cls aq
 refine aM<|tn<|aZ _ _<|aj fun _ a0=>p (fa yf aa)<|p (ld bA aa<|(a6 an).trans aa)<|p mv<|nl<|tn<|a0 _ _<|aJ<|lp (fun O A ah=> ∃ (j:Nat) (v2:Value),(j≤cl.count)∧(bo ah w.heap.size 3 1 v2 ((fs.take i).flatMap (gA F kd)++(jZ j).map (cl.first+ ·)).length<|((fs.take i).flatMap (gA F kd)++(jZ j).map (cl.first+ ·)).map bM)∧(ah.heap[al]? =some (.cells (nK cl).toArray 131 (0,0)))∧(Wk w ah)∧(A 0=aQ tb)∧(A 2=au kd)∧(A 7=v2)∧(A 10=aQ al)∧(A 13= .slice a fs.length c)∧(A 14=au (fs.length))∧(A 15=au i)∧(A 37=au (cl.count))∧(A 38=au j)∧(cl.count - j=O)) _ ⟨0,v,ab,(by rw [List.range_zero,List.map_nil,ed]; exact ax),an,(C.trans ac),aa,aa,aa,aa,aa,aa,aa,aa,aa,aa⟩ ?_
 rintro O A ah ⟨j,v2,b5,ag,ao,am,bL,bS,bX,bN,bO,bQ,bR,bU,bW,rfl⟩
 refine fx 0 bL<|fx 2 bS<|fx 7 bX<|fx 10 bN<|fx 13 bO<|fx 14 bQ<|fx 15 bR<|fx 37 bU<|fx 38 bW<|aj fun _ a1=>p (lt aa aa)<|aE<|a1 _ _<|sq fun _ a2=>cd aa (fun bu=> ?_) fun bu=> ?_
 refine aM<|tn<|a2 _ _<|sq fun _ a3=>aJ<|aj fun _ a4=>ak (au j)<|p (cH (au j) aa)<|aE<|a4 _ _<|rg aa<|ak (v2)<|p (fa Ig aa)<|p (ld bA aa<|(a6 ao).trans aa)<|ak (au j)<|p (bE ((cl.first+j:Nat):Int) aa aa<|bj ab ab)<|e<|fR np aa aa fun bZ ci b1 E bi=> ?_
 have cb:=E.size
 have b6:((fs.take i).flatMap (gA F kd)++(jZ j).map (cl.first+ ·)).length=((fs.take i).flatMap<|gA F kd).length+j:=by rw [bI,fE,NF]
 have bz:(fs.take i).flatMap (gA F kd)++(jZ<|j+1).map (cl.first+ ·)=((fs.take i).flatMap (gA F kd)++(jZ j).map (cl.first+ ·))++ [cl.first+j]:=by rw [NO,ig,← List.append_assoc]; rfl
 refine e<|ap np (aU ag E.md) aa (by have :=am.size; omega) aa (aI.dS bi) (aa) (aa) ab ab fun bY ck bx aF cc b3=> ?_
 have bl:=Wk.own (am.trans E.md) (aU ag E.md) aF<|cj _
 have bs:=aF.aJ (E.md.aJ ao) fun h=>dw (aU ag E.md) (E.md.aJ ao) az h
 exact p aB<|nl<|bn<|tn<|a3 _ _<|rg aa<|p (ad aa aa<|bT ab)<|p mv<|nl<|tn<|⟨_,ab,j+1,bY,ab,(by rw [bz,ig,bI]; exact bx),bs,bl,aa,aa,aa,aa,aa,aa,aa,aa,aa,aa⟩
 exact ext<|te _<|te _<|be<|bn<|tn<|M _ _<|rg aa<|p (ad aa aa<|bT ab)<|p mv<|aE<|⟨_,ab,i+1,v2,ab,(by rw [I,aP,show cl.count=j by omega]; exact ag),(by rewrite [I,aP,bI,fE,NF]; omega),am,aa,aa,aa,aa,aa,aa,aa⟩
 refine ext<|te _<|te _<|be<|tn<|a8 _ _<|sq fun _ M=> ?_
 rw [List.take_of_length_le (show fs.length≤i by omega)] at ae
 refine rg aa<|ak (v)<|e<|cl QA (Ye w.heap.size _ v ((fs.flatMap<|gA F kd).map fun i:Nat=>(i:Int)) J (by rw [JG]; exact ae)<|by rw [fE]; have :=V9 U.cls ar kd; omega) aa fun v51 cm br=> ?_
 obtain ⟨rfl,aW,bq⟩:=br
 rw [Yf U.cls ar,JG,JY U.cls ar] at aW
 exact aE<|M _ _<|aj fun _ ai=>ak (v)<|p (cH (v) aa)<|aE<|ai _ _<|rt<|f1 aa aa<|⟨aW,Wk.own C ae bq<|cj _⟩
theorem YG (B tb:Nat) (i:iU) (F:aR) (xs:List bD) (n:Int) (w:World) (J:gp w B tb i F xs) (a:eR F xs):
 bh ay 53 (ba [aQ tb,.int .i64 n]) w (fun v w'=>bo w' w.heap.size 3 1 v (aV F (flagsOf xs n) 2).length ((aV F (flagsOf xs n) 2).map bM)∧Wk w w'):=by
 refine enter func53 aa ntmps53 aa<|aj fun _ O=>aw<|O _ _<|aj fun _ U=>ak (aQ tb)<|ak (.int .i64 n)<|e<|cl qt (xW B tb i F xs n w J a) aa fun v10 an ag=> ?_
 obtain ⟨⟨ao,rfl,M⟩,hE10⟩:=ag
 obtain ⟨C,E,rfl⟩:=cw M
 have au:=hE10.size
 refine p mv<|p (xt aa aa)<|p (xt aa aa)<|e<|al qX fun Y aA ap I ac=> ?_
 have av:=I.size
 refine e<|cW ku aa aa aa aa (ac) (by simp) fun A G Z=> ?_
 have j:Wk an A:=I.md.trans' G fun q aq h=>by omega
 have ar:=G.size
 have ai:bL A.heap Y ([str (ky xs n),.slice C (flagsOf xs n).length E]):=Z
 refine aw<|U _ _<|aj fun _ V=>ak (aQ tb)<|p (fa rL aa)<|p (ld mZ aa<|ai.bB 1)<|e<|cl A6 (CQ B tb i F xs (flagsOf xs n) C E 2 A (J.wk<|hE10.trans j) a ((aX M).2.wk j) (n8 a n).1 (n8 a n).2.1) aa fun ax az ah=> ?_
 obtain ⟨am,ae⟩:=ah
 exact aw<|V _ _<|rt<|f1 aa aa<|⟨ep am ab,(hE10.trans j).trans ae⟩
theorem WY (B tb:Nat) (i:iU) (F:aR) (xs:List bD) (n:Int) (w:World) (J:gp w B tb i F xs) (a:eR F xs):
 bh ay 55 (ba [aQ tb,.int .i64 n]) w (fun v w'=>bo w' w.heap.size 3 1 v (aV F (flagsOf xs n) 1).length ((aV F (flagsOf xs n) 1).map bM)∧Wk w w'):=by
 refine enter func55 aa ntmps55 aa<|aj fun _ O=>aw<|O _ _<|aj fun _ U=>ak (aQ tb)<|ak (.int .i64 n)<|e<|cl qt (xW B tb i F xs n w J a) aa fun v10 an ag=> ?_
 obtain ⟨⟨ao,rfl,M⟩,hE10⟩:=ag
 obtain ⟨C,E,rfl⟩:=cw M
 have au:=hE10.size
 refine p mv<|p (xt aa aa)<|p (xt aa aa)<|e<|al qX fun Y aA ap I ac=> ?_
 have av:=I.size
 refine e<|cW ku aa aa aa aa (ac) (by simp) fun A G Z=> ?_
 have j:Wk an A:=I.md.trans' G fun q aq h=>by omega
 have ar:=G.size
 have ai:bL A.heap Y ([str (ky xs n),.slice C (flagsOf xs n).length E]):=Z
 refine aw<|U _ _<|aj fun _ V=>ak (aQ tb)<|p (fa rL aa)<|p (ld mZ aa<|ai.bB 1)<|e<|cl A6 (CQ B tb i F xs (flagsOf xs n) C E 1 A (J.wk<|hE10.trans j) a ((aX M).2.wk j) (n8 a n).1 (n8 a n).2.1) aa fun ax az ah=> ?_
 obtain ⟨am,ae⟩:=ah
 exact aw<|V _ _<|rt<|f1 aa aa<|⟨ep am ab,(hE10.trans j).trans ae⟩
theorem XU (B tb:Nat) (i:iU) (F:aR) (xs:List bD) (n:Int) (w:World) (J:gp w B tb i F xs) (a:eR F xs):
 bh ay 54 (ba [aQ tb,.int .i64 n]) w (fun v w'=>bo w' w.heap.size 3 1 v (aV F (cR F n) 2).length ((aV F (cR F n) 2).map bM)∧Wk w w'):=by
 refine enter func54 aa ntmps54 aa<|aj fun _ O=>aw<|O _ _<|aj fun _ U=>ak (aQ tb)<|ak (.int .i64 n)<|e<|cl Gj (y1 B tb i F xs n w J a) aa fun v10 an ag=> ?_
 obtain ⟨⟨ao,rfl,M⟩,hE10⟩:=ag
 obtain ⟨C,E,rfl⟩:=cw M
 have au:=hE10.size
 refine p mv<|p (xt aa aa)<|p (xt aa aa)<|e<|al se fun Y aA ap I ac=> ?_
 have av:=I.size
 refine e<|cW pG aa aa aa aa (ac) (by simp) fun A G Z=> ?_
 have j:Wk an A:=I.md.trans' G fun q aq h=>by omega
 have ar:=G.size
 have ai:bL A.heap Y (fk (rZ F n,.slice C (cR F n).length E)):=Z
 refine aw<|U _ _<|aj fun _ V=>ak (aQ tb)<|p (fa qC aa)<|p (ld mZ aa<|ai.bB 6)<|e<|cl A6 (CQ B tb i F xs (cR F n) C E 2 A (J.wk<|hE10.trans j) a ((aX M).2.wk j) (tK a n).1 (tK a n).2.1) aa fun ax az ah=> ?_
 obtain ⟨am,ae⟩:=ah
 exact aw<|V _ _<|rt<|f1 aa aa<|⟨ep am ab,(hE10.trans j).trans ae⟩
theorem Ht (B tb:Nat) (J:iU) (F:aR) (xs:List bD) (n:Int) (w:World) (Z:gp w B tb J F xs) (A:eR F xs):
 bh ay 93 (ba [aQ tb,.int .i64 n]) w (fun v w'=>v= .bool (nM F n)∧Wk w w'):=by
 refine enter func93 aa ntmps93 aa<|aj fun _ ae=>aw<|ae _ _<|aj fun _ ah=>ak (aQ tb)<|ak (.int .i64 n)<|e<|cl Gj (y1 B tb J F xs n w Z A) aa fun v10 av ap=> ?_
 obtain ⟨⟨az,rfl,ac⟩,hE10⟩:=ap
 obtain ⟨M,O,rfl⟩:=cw ac
 have aE:=hE10.size
 refine p mv<|p (xt aa aa)<|p (xt aa aa)<|e<|al se fun ai aI aA Y an=> ?_
 have aF:=Y.size
 refine e<|cW pG aa aa aa aa (an) (by simp) fun i V am=> ?_
 have U:Wk av i:=Y.md.trans' V fun q aC h=>by omega
 have aD:=V.size
 have au:bL i.heap ai (fk (rZ F n,.slice M (cR F n).length O)):=am
 have C:=hE10.trans U
 have ar:=Z.wk C
 refine aw<|ah _ _<|sq fun _ I=> ?_
 have a:(fun w'=>Wk i w') i.drew:=(Md.refl _ _).drew
 refine bJ (fun w'=>Wk i w') aa wide a<|aH 0 aa (fun _ _=>mv) a<|aH 1 aa (fun _ _=>mv) a<|iO (t:=14) aa (fun G=> ?_) fun G=> ?_
 refine bf 2 aa ag aa aa aa (fun _ _=>fa qC aa) a<|bf 3 aa ag aa aa aa (fun w' E=>ld mZ aa<|Wk.aO E<|au.bB 6) a<|bf 4 aa ag aa aa aa (fun _ _=>aT (aQ tb) aa) a<|bf 5 aa ag aa aa aa (fun _ _=>nc aa) a<|bf 6 aa ag aa aa aa (fun _ _=>fa vk aa) a<|bf 7 aa ag aa aa aa (fun _ _=>fa yt aa) a<|bf 8 aa ag aa aa aa (fun _ _=>ka uG aa aa ab) a<|bf 9 aa ag aa aa aa (fun w' E=>ld cU aa<|Wk.aO E<|LR ar (k:=0) ab) a<|mA 10 aa ag aa aa aa<|cl GC (IX M O (cR F n) (F.sp.getD 0 0) i.drew (((aX ac).2.wk U).wk a)<|by have :=(tK A n).1; omega) aa fun aG ax aq=> ?_
 obtain ⟨rfl,ao⟩:=aq
 have j:(fun w'=>Wk i w') ax:=a.trans ao
 refine ⟨j,?_⟩
 exact bf 11 aa ag aa aa aa (fun _ _=>no aa) j<|aH 12 aa (fun _ _=>bw aa) j<|aH 13 aa (fun _ _=>aB) j<|hn ag<|tn<|I _ _<|rt<|f1 aa aa<|⟨by unfold nM; rw [decide_eq_true G,IY (tK A n).2.2]; rfl,C.trans j⟩
 exact aW 2 aa ag aa aa aa aa a<|aW 3 aa ag aa aa aa aa a<|aW 4 aa ag aa aa aa aa a<|aW 5 aa ag aa aa aa aa a<|aW 6 aa ag aa aa aa aa a<|aW 7 aa ag aa aa aa aa a<|aW 8 aa ag aa aa aa aa a<|aW 9 aa ag aa aa aa aa a<|aW 10 aa ag aa aa aa aa a<|aW 11 aa ag aa aa aa aa a<|aH 12 aa (fun _ _=>bm aa) a<|aH 13 aa (fun _ _=>aB) a<|hn ag<|tn<|I _ _<|rt<|f1 aa aa<|⟨by unfold nM; rw [decide_eq_false G]; rfl,C.trans a⟩
theorem CN (B tb:Nat) (I:iU) (F:aR) (xs:List bD) (n k:Int) (w:World) (Y:gp w B tb I F xs) (E:eR F xs):
 bh ay 61 (ba [aQ tb,.int .i64 n,.int .i64 k]) w (fun v w'=>v= .bool (l5 F xs n k)∧Wk w w'):=by
 refine enter func61 aa ntmps61 aa<|aj fun _ ae=>aw<|ae _ _<|aj fun _ ah=>p mv<|p mv<|e<|cl qt (xW B tb I F xs n w Y E) aa fun v12 ax ao=> ?_
 obtain ⟨⟨a12,rfl,ac⟩,hE12⟩:=ao
 obtain ⟨J,M,rfl⟩:=cw ac
 have aE:=hE12.size
 refine p mv<|p (xt aa aa)<|p (xt aa aa)<|e<|al qX fun ai aI aA V am=> ?_
 have aF:=V.size
 refine e<|cW ku aa aa aa aa (am) (by simp) fun i U ak=> ?_
 have O:Wk ax i:=V.md.trans' U fun q aC h=>by omega
 have aD:=U.size
 have ar:bL i.heap ai [str (ky xs n),.slice J (flagsOf xs n).length M]:=ak
 have j:=hE12.trans O
 have aq:=Y.wk j
 refine aw<|ah _ _<|sq fun _ A=> ?_
 have a:(fun w'=>Wk i w') i.drew:=(Md.refl _ _).drew
 refine bJ (fun w'=>Wk i w') aa wide a<|aH 0 aa (fun _ _=>mv) a<|aH 1 aa (fun _ _=>mv) a<|iO (t:=16) aa (fun Z=> ?_) fun Z=> ?_
 refine bf 2 aa ag aa aa aa (fun _ _=>mv) a<|bf 3 aa ag aa aa aa (fun _ _=>ge aa aa) a<|aH 4 aa (fun _ _=>bw aa) a<|aH 5 aa (fun _ _=>mv) a<|iO (t:=20) aa (fun au=> ?_) fun au=> ?_
 refine bf 6 aa ag aa aa aa (fun _ _=>mv) a<|bf 7 aa ag aa aa aa (fun _ _=>lt aa aa) a<|aH 8 aa (fun _ _=>bw aa) a<|aH 9 aa (fun _ _=>mv) a<|iO (t:=24) aa (fun av=> ?_) fun av=> ?_
 obtain ⟨k,rfl⟩:∃ m:Nat,k=(m:Int):=⟨k.toNat,ab⟩
 refine bf 10 aa ag aa aa aa (fun _ _=>fa rL aa) a<|bf 11 aa ag aa aa aa (fun w' G=>ld mZ aa<|Wk.aO G<|ar.bB 1) a<|bf 12 aa ag aa aa aa (fun _ _=>mv) a<|bf 13 aa ag aa aa aa (fun _ _=>mv) a<|bf 14 aa ag aa aa aa (fun _ _=>nc aa) a<|bf 15 aa ag aa aa aa (fun _ _=>fa vk aa) a<|bf 16 aa ag aa aa aa (fun _ _=>fa yt aa) a<|bf 17 aa ag aa aa aa (fun _ _=>ka uG aa aa ab) a<|bf 18 aa ag aa aa aa (fun w' G=>ld cU aa<|Wk.aO G<|LR aq ab) a<|mA 19 aa ag aa aa aa<|cl GC (IX J M (flagsOf xs n) (F.sp.getD k 0) i.drew (((aX ac).2.wk O).wk a)<|by have :=(n8 E n).1; omega) aa fun aG az ap=> ?_
 obtain ⟨rfl,an⟩:=ap
 have C:(fun w'=>Wk i w') az:=a.trans an
 refine ⟨C,?_⟩
 exact aH 20 aa (fun _ _=>bw aa) C<|aH 21 aa (fun _ _=>aB) C<|hn ag<|tn<|A _ _<|rt<|f1 aa aa<|⟨by unfold l5 rP; rw [decide_eq_true (show 0≤((k:Nat):Int)∧((k:Nat):Int) < 5 by omega),mS,IY (n8 E n).2.2]; rfl,j.trans C⟩
 exact aW 10 aa ag aa aa aa aa a<|aW 11 aa ag aa aa aa aa a<|aW 12 aa ag aa aa aa aa a<|aW 13 aa ag aa aa aa aa a<|aW 14 aa ag aa aa aa aa a<|aW 15 aa ag aa aa aa aa a<|aW 16 aa ag aa aa aa aa a<|aW 17 aa ag aa aa aa aa a<|aW 18 aa ag aa aa aa aa a<|aW 19 aa ag aa aa aa aa a<|aH 20 aa (fun _ _=>bm aa) a<|aH 21 aa (fun _ _=>aB) a<|hn ag<|tn<|A _ _<|rt<|f1 aa aa<|⟨by unfold l5; rw [decide_eq_false (show ¬(0≤k∧k < 5) by omega)]; rfl,j.trans a⟩
 exact aW 6 aa ag aa aa aa aa a<|aW 7 aa ag aa aa aa aa a<|aH 8 aa (fun _ _=>bm aa) a<|aH 9 aa (fun _ _=>mv) a<|aW 10 aa ag aa aa aa aa a<|aW 11 aa ag aa aa aa aa a<|aW 12 aa ag aa aa aa aa a<|aW 13 aa ag aa aa aa aa a<|aW 14 aa ag aa aa aa aa a<|aW 15 aa ag aa aa aa aa a<|aW 16 aa ag aa aa aa aa a<|aW 17 aa ag aa aa aa aa a<|aW 18 aa ag aa aa aa aa a<|aW 19 aa ag aa aa aa aa a<|aH 20 aa (fun _ _=>bm aa) a<|aH 21 aa (fun _ _=>aB) a<|hn ag<|tn<|A _ _<|rt<|f1 aa aa<|⟨by unfold l5; rw [decide_eq_false (show ¬(0≤k∧k < 5) by omega)]; rfl,j.trans a⟩
 exact aW 2 aa ag aa aa aa aa a<|aW 3 aa ag aa aa aa aa a<|aH 4 aa (fun _ _=>bm aa) a<|aH 5 aa (fun _ _=>mv) a<|aW 6 aa ag aa aa aa aa a<|aW 7 aa ag aa aa aa aa a<|aH 8 aa (fun _ _=>bm aa) a<|aH 9 aa (fun _ _=>mv) a<|aW 10 aa ag aa aa aa aa a<|aW 11 aa ag aa aa aa aa a<|aW 12 aa ag aa aa aa aa a<|aW 13 aa ag aa aa aa aa a<|aW 14 aa ag aa aa aa aa a<|aW 15 aa ag aa aa aa aa a<|aW 16 aa ag aa aa aa aa a<|aW 17 aa ag aa aa aa aa a<|aW 18 aa ag aa aa aa aa a<|aW 19 aa ag aa aa aa aa a<|aH 20 aa (fun _ _=>bm aa) a<|aH 21 aa (fun _ _=>aB) a<|hn ag<|tn<|A _ _<|rt<|f1 aa aa<|⟨by unfold l5 rP; rw [(sT Z).2,decide_eq_false (show ¬(F.sp.getD k.toNat 0≠0∧F.sp.getD k.toNat 0∈[]) from fun h=>by cases h.2),Bool.and_false]; rfl,j.trans a⟩
end Go.Hb.ox
end
