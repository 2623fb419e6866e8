/-
  Walks and plain laws that the law rests on, laid together. No conditions but those that each theorem names.
-/
import Derived.Test.YtchkamdekbbgeaaGreatDoorMnAnalyseWords6
set_option linter.unusedVariables false
set_option maxRecDepth 20000
set_option maxHeartbeats 1000000
open Array renaming getElem?_eq_some_iff→dO
open Bool renaming noConfusion→ep,or_eq_false_iff→oP
open Classical renaming byContradiction→yi,not_not→jM
open Go.Calls renaming mono→mu
open Go.Proofs.Tryz renaming prog→aw
open Go.Value renaming bool→ca,int→gP,slice→bW
open Go.World renaming ownsRow→bz,ownsRow_nil→dK
open Int renaming toNat_natCast→kQ
open List renaming all_cons→vN,append_nil→eB,drop_eq_nil_of_le→iJ,eq_nil_of_length_eq_zero→fR,getD_eq_getElem?_getD→cX,getElem?_eq_getElem→cx,getElem?_eq_some_iff→fL,getElem?_map→gx,getElem?_zip_eq_some→jW,length_append→bL,length_cons→cV,length_map→fP,length_pos_iff→l7,length_range→vR,length_singleton→fu,map_append→gW,mem_append→jm,mem_cons_self→oS,mem_of_getElem?→gC,mem_singleton→iK,range→gX,range_succ→Qh,toArray→bh,zip_append→GO
open Nat renaming le_refl→cU,le_trans→fz,lt_or_ge→fM,mul_le_mul_right→qD,zero_le→hZ
open Go.Proofs.Tryz
open Go.Hb.dZ Go.Proofs Go.Hb.jP Go.Hb.um Go.Hb.eT Go.Hb.fI Go.Hb.mB Go.Hb.kA Go.Hb.iZ Go.Hb.iw Go.Hb.jq

section
namespace Go.Hb.BS
open Go.Hb.oV Go.Hb.yJ Go.Hb.oX
theorem abG {kind ln:Nat} {al:List (List Nat)} {c:dy} {r:List Tx} {e:Nat} (h:r.length=4∨r.length=5) (h1:eO true (r.getD 2 [])= .error e):gd kind al c ln r= .error e:=by rw [nM h,h1]
theorem ND {kind ln:Nat} {al:List (List Nat)} {c:dy} {r:List Tx} {e:Nat} {st:Tx} (h:r.length=4∨r.length=5) (h1:eO true (r.getD 2 [])= .ok st) (h2:j8 (bF<|r.getD 3 [])= .error e):gd kind al c ln r= .error e:=by rw [nM h,h1]; simp only; rw [h2]
theorem NF {kind ln:Nat} {al:List (List Nat)} {c:dy} {r:List Tx} {e:Nat} {st ad:Tx} (h:r.length=4∨r.length=5) (h1:eO true (r.getD 2 [])= .ok st) (h2:j8 (bF<|r.getD 3 [])= .ok ad) (h3:lD kind al c.kind (bF<|r.getD 3 [])= .error e):gd kind al c ln r= .error e:=by rw [nM h,h1]; simp only; rw [h2]; simp only; rw [h3]
theorem NG {kind ln:Nat} {al:List (List Nat)} {c:dy} {r:List Tx} {e:Nat} {st ad:Tx} {nx:List Nat} (h:r.length=4∨r.length=5) (h1:eO true (r.getD 2 [])= .ok st) (h2:j8 (bF<|r.getD 3 [])= .ok ad) (h3:lD kind al c.kind (bF<|r.getD 3 [])= .ok nx) (h4:lx r= .error e):gd kind al c ln r= .error e:=by rw [nM h,h1]; simp only; rw [h2]; simp only; rw [h3]; simp only; rw [h4]
theorem abH {kind ln:Nat} {al:List (List Nat)} {c:dy} {r:List Tx} {st ad cd:Tx} {nx:List Nat} (h:r.length=4∨r.length=5) (h1:eO true (r.getD 2 [])= .ok st) (h2:j8 (bF<|r.getD 3 [])= .ok ad) (h3:lD kind al c.kind (bF<|r.getD 3 [])= .ok nx) (h4:lx r= .ok cd):gd kind al c ln r= .ok ⟨c.kind,c.flag,c.eI,st,ad,cd,nx,ln⟩:=by rw [nM h,h1]; simp only; rw [h2]; simp only; rw [h3]; simp only; rw [h4]
def nj (xb:Nat) (F:aU) (c:dy) (ln:Nat) (r:List Tx) (w:World) (v:Value) (w':World):Prop :=Md (fun k=>k=xb) w w'∧∃ L:List Value,L.length=8∧L.all Value.oneCell'=true∧w'.heap[xb]? =some (.cells L.toArray 214 (0,0))∧((∃ q vn,gd F.kind F.aliases c ln r= .ok q∧v= .int .i64 (0:Nat)∧L=j4 (q,vn)∧Tg w' 0 3 q.next.length vn (q.next.map bT))∨(∃ e:Nat,gd F.kind F.aliases c ln r= .error e∧e≠0∧v= .int .i64 (e:Nat)))
section
variable {xb ln:Nat} {F:aU} {c:dy} {r:List Tx} {w w':World} {st ad cd:Tx} {vn:Value}
theorem nj.no {e:Nat} (hm:Md (fun k=>k=xb) w w') (C:w'.heap[xb]? =some (.cells [.int .i64 (c.kind:Nat),bT c.flag,.bool c.eI,str st,str ad,str cd,vn,.int .i64 (ln:Nat)].toArray 214 (0,0))) (A:vn.oneCell'=true) (h:gd F.kind F.aliases c ln r= .error e) (he:e≠0):nj xb F c ln r w (.int .i64 (e:Nat)) w':=
 ⟨hm,_,rfl,by simp only [vN,A]; rfl,C,.inr ⟨e,h,he,rfl⟩⟩
theorem nj.ok {nx:List Nat} (hm:Md (fun k=>k=xb) w w') (E:w'.heap[xb]? =some (.cells [.int .i64 (c.kind:Nat),bT c.flag,.bool c.eI,str st,str ad,str cd,vn,.int .i64 (ln:Nat)].toArray 214 (0,0))) (C:vn.oneCell'=true) (A:Tg w' 0 3 nx.length vn (nx.map bT)) (h:gd F.kind F.aliases c ln r= .ok ⟨c.kind,c.flag,c.eI,st,ad,cd,nx,ln⟩):nj xb F c ln r w (.int .i64 (0:Nat)) w':=
 ⟨hm,_,rfl,by simp only [vN,C]; rfl,E,.inl ⟨_,vn,h,rfl,rfl,A⟩⟩
end
theorem UW {s t:Tx} (h:t∈(dz s).1) (hs:s.length≤1048576):(t.length=1∨3≤t.length)∧t.length≤1048576:=by
 have :=I0.1 t h;exact ⟨this.1,ab⟩
theorem tH (w:World) (B e:Nat):Tg w B e 0 (.slice none 0 0) []:=⟨none,0,rfl,cU _,.inl rfl⟩
theorem XF {F F':aU} {ln:Nat} {row:List Tx} (h:jG F ln row= .ok F'):F'.bE=F.bE∧F'.kind=F.kind:=by
 unfold jG at h
 repeat' split at h
 all_goals first
  | (cases h; done)
  | (cases h; exact ⟨rfl,rfl⟩)
theorem Lm (B fb xb:Nat) (F:aU) (V:eF) (c:dy) (ln:Nat) (r:List Tx) (aG:Nat) (ar:Option Addr) (cr:Nat) (w:World) (cj:oY w B 0 fb F V) (hk:F.kind=1∨F.kind=2∨F.kind=3) (cP:F.aliases.length≤70000) (c2:w.heap[xb]? =some (.cells [ak (c.kind),bT c.flag,.bool c.eI,str [],str [],str [],.slice none 0 0,ak ln].toArray 214 (0,0))) (bl:Tg w aG 9 r.length (.slice ar r.length cr) (r.map str)) (G:r.length=4∨r.length=5) (a4:∀ x∈r,x.length≤70000):
 bm aw 254 (bh [aV fb,aV xb,.slice ar r.length cr]) w (nj xb F c ln r w):=by
 have bp:=bl.dp;have di:(r.getD 2 []).length≤70000:=a4 _<|eb ab;have dj:(r.getD 3 []).length≤70000:=a4 _<|eb ab;have dl:=tL<|r.getD 3 [];refine enter func254 aa ntmps254 aa<|ag fun bZ=>ay<|bZ<|ag fun b3=>au (.slice ar r.length cr)<|p (bc db aa aa ab<|aM.ok (bp.2)<|cg ab)<|p (ld bX aa<|cM.get (i:=2) bp.2 ab)<|e<|cl Cz (D1 (r.getD 2 []) true w ab) aa fun dn aD cn=> ?_;obtain ⟨⟨st,e,rfl,bz⟩,hE19⟩:=cn;have a7:=Wk.aT hE19 c2;have aj:Md (fun k=>k=xb) w aD:=hE19.mono fun _ _ h=>h.elim;refine p mv<|p (xt aa aa)<|p (xt aa aa)<|p aE<|ay<|b3<|az fun b4=>ag fun b5=>p mv<|p (dd aa aa)<|nl<|b5<|cd aa (fun cC=> ?_) fun cC=> ?_;have bx:eO true (r.getD 2 [])= .error e∧e≠0:=by
  rcases bz with ⟨_,h⟩ | h;omega;exact h
 exact ag fun aL=>p mv<|ay<|aL<|rt<|tr<|a6 aa<|nj.no aj a7 aa (abG G bx.1) bx.2;obtain ⟨aA,rfl⟩:eO true (r.getD 2 [])= .ok st∧e=0:=by
  rcases bz with h | ⟨_,h⟩;exact h;omega
 refine aQ<|b4<|ag fun aL=>au (aV xb)<|p mv<|p (nc aa)<|p (fa uY aa)<|e<|dx mi aa aa (v:=str st) aa a7 (by show _ < 8; omega) fun bP aW ci=> ?_;have bL:=a7;have aq:=(bl.wk hE19).md aW<|fT bL aB;have bj:=(cj.wk hE19).md aW (TF.eq (L:= [216]) (dN bL) aB) aB;have cS:=(aj).trans' aW fun _ _ h=>h;have c5:bP.heap[xb]? =some (.cells [ak (c.kind),bT c.flag,.bool c.eI,str st,str [],str [],.slice none 0 0,ak ln].toArray 214 (0,0)):=ci;refine nl<|aL<|ag fun b6=>au (.slice ar r.length cr)<|p (bc db aa aa ab<|aM.ok (aq.dp.2)<|cg ab)<|p (ld bX aa<|cM.get (i:=3) aq.dp.2 ab)<|e<|cl y4 (AG (r.getD 3 []) bP ab) aa fun v33 bO co=> ?_;obtain ⟨rfl,I⟩:=co;have a9:=Wk.aT I c5;have aZ:Md (fun k=>k=xb) w bO:=cS.trans' I fun _ _ h=>h.elim;refine p mv<|p (xt aa aa)<|p (xt aa aa)<|p (xt aa aa)<|p (xt aa aa)<|p aE<|p aE<|p aE<|ay<|b6<|az fun b7=>ag fun b8=>p mv<|p (dd aa aa)<|nl<|b8<|cd aa (fun cD=> ?_) fun cD=> ?_;exact ag fun A=>p mv<|ay<|A<|rt<|tr<|a6 aa<|nj.no aZ a9 aa (ND G aA<|G0 ab) ab;have bf:(bF<|r.getD 3 []).2.2.2=0:=ab;refine aQ<|b7 ?_;refine eo (fun bV O=> ∃ (s1 E:Tx),(eO true (r.getD 2 [])= .ok s1)∧(j8 (bF<|r.getD 3 [])= .ok E)∧(O.heap[xb]? =some (.cells [ak (c.kind),bT c.flag,.bool c.eI,str s1,str E,str [],.slice none 0 0,ak ln].toArray 214 (0,0)))∧(oY O B 0 fb F V)∧(Tg O aG 9 r.length (.slice ar r.length cr)<|r.map str)∧(Md (fun k=>k=xb) w O)∧(Sl bV [(0,aV fb),(1,aV xb),(2,.slice ar r.length cr),(10,str (bF<|r.getD 3 []).2.1),(11,.bool (bF<|r.getD 3 []).2.2.1)])) ?_ ?_;refine ag fun A=>p mv<|p (oF aa aa)<|nl<|A<|cd aa (fun av=> ?_) fun av=> ?_;refine ag fun C=>p mv<|e<|cl CF (DW (bF<|r.getD 3 []).1 bO ab) aa fun v44 dc cp=> ?_;obtain ⟨rfl,an⟩:=cp;have bb:=Wk.aT an a9;have bt:Md (fun k=>k=xb) w dc:=aZ.trans' an fun _ _ h=>h.elim;refine ay<|C<|az fun Z=>ag fun ae=>p mv<|p (dd aa aa)<|nl<|ae<|cd aa (fun cE=> ?_) fun cE=> ?_;exact ag fun aI=>p mv<|ay<|aI<|rt<|tr<|tr<|a6 aa<|nj.no bt bb aa (ND G aA<|G1 bf av ab) ab;refine aQ<|Z<|rg aa<|au (aV xb)<|p mv<|p (nc aa)<|p (fa DI aa)<|e<|dx mi aa aa (v:=str (bF<|r.getD 3 []).1) aa bb (by show _ < 8; omega) fun c8 aR b9=> ?_;have bJ:=bb;have cv:=((aq.wk I).wk an).md aR<|fT bJ aB;have ck:=((bj.wk I).wk an).md aR (TF.eq (L:= [216]) (dN bJ) aB) aB;have cQ:=(bt).trans' aR fun _ _ h=>h;have c3:c8.heap[xb]? =some (.cells [ak (c.kind),bT c.flag,.bool c.eI,str st,str (bF<|r.getD 3 []).1,str [],.slice none 0 0,ak ln].toArray 214 (0,0)):=b9;exact nl<|tn<|⟨st,(bF<|r.getD 3 []).1,aA,(G2 bf av ab),c3,ck,cv,cQ,aa⟩
 exact aQ<|tn<|⟨st,[],aA,(G3 bf<|jM.1 av),a9,(bj.wk I),(aq.wk I),aZ,aa⟩
 rintro bV O ⟨s1,E,al,ai,aC,aP,bn,a0,cX⟩;refine bG cX ?_;refine eo (fun bW bi=>((bF<|r.getD 3 []).2.2.1=true→c.kind≠1)∧(bi=O)∧(Sl bW [(0,aV fb),(1,aV xb),(2,.slice ar r.length cr),(10,str (bF<|r.getD 3 []).2.1),(11,.bool (bF<|r.getD 3 []).2.2.1)])) ?_ ?_;refine ag fun A=>au (.bool (bF<|r.getD 3 []).2.2.1)<|au (.bool (bF<|r.getD 3 []).2.2.1)<|gb (t:=53) aa (fun aY=> ?_) fun aY=> ?_;refine aJ aa (aX (aV xb) aa)<|aJ aa (nc aa)<|aJ aa (fa xm aa)<|aJ aa (ld bD aa<|(bg aC).trans aa)<|aJ aa (bQ aa aa)<|p (bH aa)<|nl<|A<|cd aa (fun cF=> ?_) fun cF=> ?_;exact ag fun C=>ay<|C<|rt<|tr<|a6 aa<|nj.no a0 aC aa (NF G al ai<|MJ aY ab) aB;exact aQ<|tn<|⟨(fun _=>by omega),aa,aa⟩
 exact aH aa<|aH aa<|aH aa<|aH aa<|aH aa<|p (bA aa)<|nl<|A<|cf aa<|aQ<|tn<|⟨(fun h=>absurd (h.symm.trans aY) ep),aa,aa⟩
 rintro bW bi ⟨br,c1,cY⟩;refine bG cY ?_;subst c1;refine eo (fun bY Y=> ∃ (l:List Nat) (vn:Value),(lD F.kind F.aliases c.kind (bF<|r.getD 3 [])= .ok l)∧(Y.heap[xb]? =some (.cells [ak (c.kind),bT c.flag,.bool c.eI,str s1,str E,str [],vn,ak ln].toArray 214 (0,0)))∧(vn.oneCell'=true)∧(Tg Y 0 3 l.length vn<|l.map bT)∧(oY Y B 0 fb F V)∧(Tg Y aG 9 r.length (.slice ar r.length cr)<|r.map str)∧(Md (fun k=>k=xb) w Y)∧(Sl bY [(0,aV fb),(1,aV xb),(2,.slice ar r.length cr)])) ?_ ?_;refine ag fun A=>au (.bool (bF<|r.getD 3 []).2.2.1)<|nl<|A<|cb aa (fun J=> ?_) fun J=> ?_;refine ag fun C=>au (aV xb)<|au (aV fb)<|au (str (bF<|r.getD 3 []).2.1)<|e<|cl HR (Lf B fb F V (bF<|r.getD 3 []).2.1 bi aP hk cP ab) aa fun dq bR cq=> ?_;obtain ⟨⟨am,aN,rfl,a2,bq⟩,hE65⟩:=cq;have a8:=Wk.aT hE65 aC;have cT:Md (fun k=>k=xb) w bR:=a0.trans' hE65 fun _ _ h=>h.elim;refine p mv<|p (xt aa aa)<|p (xt aa aa)<|p (nc aa)<|p (fa xn aa)<|e<|dx Jf aa aa (v:=am) a2 a8 (by show _ < 8; omega) fun c9 ao ca=> ?_;have bK:=a8;have cw:=(bn.wk hE65).md ao<|fT bK aB;have cm:=(aP.wk hE65).md ao (TF.eq (L:= [216]) (dN bK) aB) aB;have bs:=(cT).trans' ao fun _ _ h=>h;have bN:c9.heap[xb]? =some (.cells [ak (c.kind),bT c.flag,.bool c.eI,str s1,str E,str [],am,ak ln].toArray 214 (0,0)):=ca;refine ay<|C<|ag fun Z=>p mv<|p (dd aa aa)<|nl<|Z<|cd aa (fun cG=> ?_) fun cG=> ?_;obtain ⟨cL,cN⟩:aN≠0∧gA F.kind F.aliases (bF<|r.getD 3 []).2.1= .error aN:=by
  rcases bq with ⟨l,h,_⟩ | h;omega;exact h
 exact ag fun ae=>p mv<|ay<|ae<|rt<|tr<|a6 aa<|nj.no bs bN a2 (NF G al ai<|(Ao J<|br J).trans cN) cL;obtain ⟨l,rfl,cO,cy⟩:∃ l,aN=0∧gA F.kind F.aliases (bF<|r.getD 3 []).2.1= .ok l∧Tg bR 0 3 l.length am (l.map bT):=by
  rcases bq with h | ⟨h,_⟩;exact h;omega
 exact aQ<|tn<|⟨l,am,((Ao J<|br J).trans cO),bN,a2,(cy.md ao<|fT a8 aB),cm,cw,bs,aa⟩
 exact aQ<|tn<|⟨[],.slice none 0 0,(MK J),aC,aa,(tH _ _ _),aP,bn,a0,aa⟩
 rintro bY Y ⟨l,vn,a1,bd,a5,cA,dh,cx,cV,cZ⟩;refine bG cZ<|ag fun A=>au (aV xb)<|p (nc aa)<|p (fa DJ aa)<|e<|dx mi aa aa (v:=str [46]) aa bd (by show _ < 8; omega) fun aD aS ce=> ?_;have c7:=bd;have ap:=(cx).md aS<|fT c7 aB;have aj:=(cV).trans' aS fun _ _ h=>h;have bB:aD.heap[xb]? =some (.cells [ak (c.kind),bT c.flag,.bool c.eI,str s1,str E,str [46],vn,ak ln].toArray 214 (0,0)):=ce;have bo:=cA.md aS<|fT bd aB;refine nl<|A ?_;refine eo (fun df aF=> ∃ (cd:Tx),(lx r= .ok cd)∧(aF.heap[xb]? =some (.cells [ak (c.kind),bT c.flag,.bool c.eI,str s1,str E,str cd,vn,ak ln].toArray 214 (0,0)))∧(Tg aF 0 3 l.length vn<|l.map bT)∧(Md (fun k=>k=xb) w aF)) ?_ ?_;refine ag fun C=>au (.slice ar r.length cr)<|p (bM fq aa aa)<|p (bQ aa aa)<|nl<|C<|cd aa (fun cH=> ?_) fun cH=> ?_;have dk:(r.getD 4 []).length≤70000:=a4 _<|eb ab;have a3:r.length=5:=ab;refine ag fun Z=>au (.slice ar r.length cr)<|p (bc db aa aa ab<|aM.ok (ap.dp.2)<|cg ab)<|p (ld bX aa<|cM.get (i:=4) ap.dp.2 ab)<|e<|cl wx (xP (r.getD 4 []) aD ab) aa fun v82 bS cs=> ?_;obtain ⟨rfl,ah⟩:=cs;have bC:=Wk.aT ah bB;have bu:Md (fun k=>k=xb) w bS:=aj.trans' ah fun _ _ h=>h.elim;refine ay<|Z<|az fun ae=>ag fun aI=>p mv<|p (no aa)<|nl<|aI<|cb aa (fun ax=> ?_) fun ax=> ?_;exact ag fun aK=>ay<|aK<|rt<|tr<|tr<|a6 aa<|nj.no bu bC a5 (NG G al ai a1<|IW a3<|by simpa using ax) aB;refine aQ<|ae<|ag fun aK=>au (.slice ar r.length cr)<|p (bc db aa aa ab<|aM.ok ((ap.wk ah).dp.2)<|cg ab)<|p (ld bX aa<|cM.get (i:=4) (ap.wk ah).dp.2 ab)<|e<|cl Ia (Nh (r.getD 4 []) bS ab) aa fun dr bU ct=> ?_;obtain ⟨⟨dg,rfl,bw⟩,hE89⟩:=ct;obtain ⟨ac,cc,rfl⟩:=cJ bw;have bE:=Wk.aT hE89 bC;have bv:Md (fun k=>k=xb) w bU:=bu.trans' hE89 fun _ _ h=>h.elim;refine p mv<|p (xt aa aa)<|p (xt aa aa)<|p aE<|ay<|aK<|az fun b0=>ag fun b1=>p mv<|p (dd aa aa)<|nl<|b1<|cd aa (fun cI=> ?_) fun cI=> ?_;exact ag fun b2=>p mv<|ay<|b2<|rt<|tr<|tr<|a6 aa<|nj.no bv bE a5 (NG G al ai a1<|IX a3 (by simpa using ax) ab) ab;refine aQ<|b0<|rg aa<|au (aV xb)<|p mv<|e<|cl SU (aby (dz<|r.getD 4 []).1 ac cc bU (ba bw).2 (by have :=I2 (r.getD 4 []); omega) fun t c0=>UW c0 ab) aa fun ds de cu=> ?_;obtain ⟨rfl,aO⟩:=cu;have bI:=Wk.aT aO bE;have cU:Md (fun k=>k=xb) w de:=bv.trans' aO fun _ _ h=>h.elim;refine p (nc aa)<|p (fa DJ aa)<|e<|dx mi aa aa (v:=str<|mV (dz<|r.getD 4 []).1) aa bI (by show _ < 8; omega) fun da bk ch=> ?_;have c4:da.heap[xb]? =some (.cells [ak (c.kind),bT c.flag,.bool c.eI,str s1,str E,str (mV (dz<|r.getD 4 []).1),vn,ak ln].toArray 214 (0,0)):=ch;have cR:=cU.trans' bk fun _ _ h=>h;have cz:=(((bo.wk ah).wk hE89).wk aO).md bk<|fT bI aB;exact nl<|tn<|⟨mV (dz<|r.getD 4 []).1,(IY a3 (by simpa using ax) ab),c4,cz,cR⟩
 exact aQ<|tn<|⟨[46],(IZ ab),bB,bo,aj⟩
 rintro df aF ⟨cd,cK,c6,cB,cW⟩;exact ag fun C=>ay<|C<|rt<|a6 aa<|nj.ok cW c6 a5 cB<|abH G al ai a1 cK
theorem XG (J:World) (H:gI) (F:aU) (k ln:Nat) (seen r:List Tx) (bV:Nat) (ar:Option Addr) (cr:Nat) (w:World) (A:ni J w H F k ln seen) (bP:Tg w bV 9 r.length (.slice ar r.length cr) (r.map str)) (dq:r≠[]) (bC:∀ x∈r,x.length≤70000) (dI:F.dA.length+F.aliases.length+F.bE.length+F.rules.length+(H.rows.drop k).length < 70000) (de:r.getD 0 []≠fK→r.getD 0 []≠eX→0 < F.bE.length):
 bm aw 213 (bh [aV H.rb,.slice ar r.length cr]) w (fun v w'=>((∃ F',jG F ln r= .ok F'∧v=ak 0∧ni J w' H F' k ln seen)∨(∃ e:Nat,jG F ln r= .error e∧e≠0∧v=ak e∧Hb.aW w'.heap H.rb 5=some (ak ln)))∧Wk J w'):=by
 obtain ⟨V,vh,Y,am,O,aL,bU⟩:=A;have bi:=bP.dp;have dV:=am.lo;have dS:=Y.lo;have dL:=O.len;have dZ:=l7.2 dq;have dW:=(dO.1 am.cells).1;obtain ⟨cU,kF,cK⟩:=cJ Y.eK;have bw:=Y.eK;rw [cK] at bw;have bQ:Hb.aW w.heap H.fb 11=some (.slice cU F.bE.length kF):=by rw [← cK]; exact (bg Y.cells).trans rfl
 refine enter func213 aa ntmps213 aa<|ag fun cP=>ay<|cP<|ag fun cQ=>au (aV H.rb)<|p (nc aa)<|p (fa mj aa)<|p (ld iS aa<|(bg am.cells).trans aa)<|ay<|cQ<|az fun cR=>az fun cS=>rg aa<|au (.slice ar r.length cr)<|p (bc db aa aa ab<|aM.ok (bi.2)<|cg ab)<|p (ld bX aa<|cM.get (i:=0) bi.2 ab)<|nl<|cS<|aT<|az fun cT=>rg aa<|p (et aa aa)<|ay<|cT<|cd aa (fun cj=> ?_) fun cj=> ?_;have ai:r.getD 0 []=fK:=cj;refine az fun bW=>ag fun bd=>au (.slice ar r.length cr)<|p (bM fq aa aa)<|p (dd aa aa)<|nl<|bd<|cd aa (fun c8=> ?_) fun c8=> ?_;exact ag fun aK=>ay<|aK<|rt<|tr<|br<|tr<|a6 aa<|⟨.inr ⟨111,by unfold jG; rw [if_pos ai,Np ab],aB,aa,am.dC⟩,aL⟩
 have cq:r.length=3:=ab;have dh:=bC _<|eb (d:= []) (i:=1) ab;have dT:=bC _<|eb (d:= []) (i:=2) ab;refine aQ<|bW<|ag fun aK=>au (.slice ar r.length cr)<|p (bc db aa aa ab<|aM.ok (bi.2)<|cg ab)<|p (ld bX aa<|cM.get (i:=1) bi.2 ab)<|e<|cl Cz (D1 (r.getD 1 []) false w ab) aa fun v30 dB c1=> ?_;obtain ⟨⟨aN,bF,rfl,bR⟩,hE30⟩:=c1;have cC:=bP.wk hE30;refine p mv<|p (xt aa aa)<|p (xt aa aa)<|p aE<|ay<|aK<|az fun ao=>ag fun aO=>p mv<|p (dd aa aa)<|nl<|aO<|cd aa (fun c9=> ?_) fun c9=> ?_;have cG:eO false (r.getD 1 [])= .error bF∧bF≠0:=by
  rcases bR with ⟨_,h⟩ | h;omega;exact h
 exact ag fun aC=>p mv<|ay<|aC<|rt<|tr<|br<|tr<|a6 aa<|⟨.inr ⟨bF,by unfold jG; rw [if_pos ai,Nq cq cG.1],cG.2,aa,(am.wk hE30).dC⟩,aL.trans hE30⟩
 obtain ⟨cH,rfl⟩:eO false (r.getD 1 [])= .ok aN∧bF=0:=by
  rcases bR with h | ⟨_,h⟩;exact h;omega
 refine aQ<|ao<|ag fun aC=>au (.slice ar r.length cr)<|p (bc db aa aa ab<|aM.ok (cC.dp.2)<|cg ab)<|p (ld bX aa<|cM.get (i:=2) cC.dp.2 ab)<|e<|cl Cz (D1 (r.getD 2 []) true dB ab) aa fun v40 d5 c2=> ?_;obtain ⟨⟨a8,cX,rfl,dn⟩,hE40⟩:=c2;have cA:=hE30.trans hE40;have Z:=Y.wk cA;refine p mv<|p (xt aa aa)<|p (xt aa aa)<|p aE<|ay<|aC<|az fun bj=>rg aa<|p mv<|p mv<|p (nc aa)<|p (fa KH aa)<|p (ld QU aa<|(bg Z.cells).trans aa)<|p mv<|p mv<|p (dj (ps:= [(0,str aN),(1,str a8)]) (L:= [str aN,str a8]) acw aa<|aa)<|e<|kY NZ aa aa aa fun dG d6 dJ c0 cY=> ?_;have bG:=cA.trans c0.md;have E:=Y.wk bG;have a2:=am.wk bG;have d0:=bG.size;refine e<|ap NZ (E.o9) aa ab aa (aM.ec cY) (aa) (aa) ab ab fun cL cN cD bJ d1 dP=> ?_;have a3:=a2.own E.o9 bJ aB;have ax:=bJ.aT E.cells<|dX E.o9 E.cells aB;have dk:bz cN J.heap.size 351 2 cL (F.dA++ [(aN,a8)]).length (lF<|F.dA++ [(aN,a8)]):=by rw [show lF (F.dA++ [(aN,a8)])=lF F.dA++ [str aN,str a8] from by simp [lF],bL]; exact cD
 have a5:Wk J cN:=(aL.trans bG).trans' bJ fun k hk h=>by have :=(dQ E.o9 h).1; omega
 refine p (nc aa)<|p (fa KH aa)<|e<|dx Vg aa aa (v:=cL) (fy cD) ax (by show _ < 13; omega) fun bb ac aS=> ?_;have aZ:=eU.Ca (x:=(aN,a8)) E bJ dk ac aS;have av:=a3.p9 ax ac;have ah:Wk J bb:=a5.trans' ac fun k hk h=>by omega
 refine nl<|bj<|ag fun bk=>p mv<|ay<|bk<|rt<|br<|tr<|a6 aa ?_;rcases dn with ⟨aA,rfl⟩ | ⟨aA,bv⟩;exact ⟨.inl ⟨_,by unfold jG; rw [if_pos ai,Ns cq cH aA],aa,⟨_,vh,aZ,av,⟨by simp only [bL,fu]; omega,O.sl,O.row,O.kd⟩,ah,bU⟩⟩,ah⟩;exact ⟨.inr ⟨cX,by unfold jG; rw [if_pos ai,Nr cq cH aA],bv,aa,av.dC⟩,ah⟩;have ai:¬r.getD 0 []=fK:=cj;refine ag fun bW=>p (et aa aa)<|ay<|bW<|cd aa (fun ck=> ?_) fun ck=> ?_;have h1:r.getD 0 []=eX:=ck;refine az fun bd=>ag fun aK=>au (.slice ar r.length cr)<|p (bM fq aa aa)<|p (dd aa aa)<|nl<|aK<|cd aa (fun da=> ?_) fun da=> ?_;exact ag fun ao=>ay<|ao<|rt<|tr<|br<|tr<|a6 aa<|⟨.inr ⟨111,by unfold jG; rw [if_neg ai,if_pos h1,Hi ab],aB,aa,am.dC⟩,aL⟩
 have cI:r.length=2:=ab;have dh:=bC _<|eb (d:= []) (i:=1) ab;refine aQ<|bd<|az fun ao=> ?_;have aG:(fun w'=>Wk w w') w.drew:=(Md.refl _ _).drew;refine bY (fun w'=>Wk w w') aa wide aG<|aR 0 aa (mv) aG<|aR 1 aa (nc aa) aG<|aR 2 aa (fa uU aa) aG<|bR 3 aa (fun w' A=>ld bD aa<|Wk.aW A<|(bg Y.cells).trans aa) aG<|bO 4 aa (.slice ar r.length cr) aG<|aR 5 aa (bc db aa aa ab<|aM.ok (aM.wk bi.2 aG)<|cg ab) aG<|bR 6 aa (fun w' A=>ld bX aa<|Wk.aW A<|cM.get (i:=1) bi.2 ab) aG<|he 7 aa aj<|cl H8 (Nu F.kind (r.getD 1 []) w.drew O.kd ab) aa fun d4 dD c3=> ?_;obtain ⟨⟨dF,rfl,cE⟩,bo⟩:=c3;obtain ⟨cz,CM,rfl⟩:=cJ cE;have bo:=iY bo;have Z:=Y.wk bo;have bf:(fun w'=>Wk w w') dD:=Md.mono bo fun _ _ h=>h;refine ⟨bf,?_⟩;refine aR 8 aa (mv) bf<|aR 9 aa (xt aa aa) bf<|aR 10 aa (xt aa aa) bf<|aR 11 aa (aE) bf<|aR 12 aa (aE) bf<|hn aj<|ao<|az fun aO=>rg aa<|p mv<|p mv<|p (nc aa)<|p (fa xf aa)<|p (ld yO aa<|(bg Z.cells).trans aa)<|p mv<|e<|gz N0 aa aa fun dH dE dK cB cZ=> ?_;have bI:=bo.trans cB.md;have E:=Y.wk bI;have a2:=am.wk bI;have d2:=bI.size;refine e<|ap N0 (E.fk) aa ab aa (aM.ec cZ) (aa) (aa) ab ab fun v79 cO cF bK d3 dR=> ?_;have a3:=a2.own E.fk bK aB;have ax:=bK.aT E.cells<|dX E.fk E.cells aB;have c4:Tg dE 0 3 (eu F.kind<|r.getD 1 []).1.length (.slice cz (eu F.kind<|r.getD 1 []).1.length CM) ((eu F.kind<|r.getD 1 []).1.map bT):=((Tg.j6 cE).mono<|hZ _).wk cB.md;have dl:bz cO J.heap.size 85 1 v79 (F.aliases++ [(eu F.kind<|r.getD 1 []).1]).length (V.sa++ [.slice cz (eu F.kind<|r.getD 1 []).1.length CM]):=by rw [bL]; exact cF
 have a5:Wk J cO:=(aL.trans bI).trans' bK fun k hk h=>by have :=(dQ E.fk h).1; omega
 refine p (nc aa)<|p (fa xf aa)<|e<|dx Vh aa aa (v:=v79) (fy cF) ax (by show _ < 13; omega) fun bb ac aS=> ?_;have aZ:=eU.B8 (x:=(eu F.kind<|r.getD 1 []).1) E c4 bK dl ac aS;have av:=a3.p9 ax ac;have ah:Wk J bb:=a5.trans' ac fun k hk h=>by omega
 refine nl<|aO<|ag fun aC=>p mv<|ay<|aC<|rt<|br<|tr<|a6 aa ?_;by_cases h:(eu F.kind<|r.getD 1 []).2=0;exact ⟨.inl ⟨_,by unfold jG; rw [if_neg ai,if_pos h1,yS cI,zX h],by rw [h]; rfl,⟨_,vh,aZ,av,⟨by simp only [bL,fu]; omega,O.sl,O.row,O.kd⟩,ah,bU⟩⟩,ah⟩;exact ⟨.inr ⟨_,by unfold jG; rw [if_neg ai,if_pos h1,yS cI,zW h],h,aa,av.dC⟩,ah⟩;have h1:¬r.getD 0 []=eX:=ck;have dN:=de ai h1;refine aQ<|bn<|cR<|az fun bd=>ag fun aK=>au (.slice ar r.length cr)<|p (bM fq aa aa)<|p (dd aa aa)<|p mv<|gs (t:=86) aa (fun dg=> ?_) fun dg=> ?_;refine aJ aa (aX (.slice ar r.length cr) aa)<|aJ aa (bM fq aa aa)<|aJ aa (dd aa aa)<|p (bH aa)<|nl<|aK<|cd aa (fun dc=> ?_) fun dc=> ?_;exact ag fun ao=>ay<|ao<|rt<|tr<|a6 aa<|⟨.inr ⟨111,by unfold jG; rw [if_neg ai,if_neg h1,Fl ab ab],aB,aa,am.dC⟩,aL⟩
 have cs:r.length=4∨r.length=5:=ab;refine aQ<|bd<|az fun ao=> ?_;have C:(fun w'=>Wk w w') w.drew:=(Md.refl _ _).drew;refine bY (fun w'=>Wk w w') aa wide C<|aR 0 aa (mv) C<|aR 1 aa (nc aa) C<|aR 2 aa (fa qW aa) C<|bR 3 aa (fun w' A=>ld rK aa<|Wk.aW A<|bQ) C<|aR 4 aa (mv) C<|aR 5 aa (nc aa) C<|aR 6 aa (fa qW aa) C<|bR 7 aa (fun w' A=>ld rK aa<|Wk.aW A<|bQ) C<|aR 8 aa (bM FQ aa aa) C<|aR 9 aa (dY ((F.bE.length - 1:Nat):Int) aa aa<|bp ab ab) C<|aR 10 aa (bc zw aa aa ab<|aM.ok (aM.wk (ba bw).2 C)<|zY ab) C<|bR 11 aa (fun w' A=>cW uu aa (aa) fun j bu=>fC (f:=oA) (m:=5) (fun _=>rfl) (aM.wk (ba bw).2 A) (wz (by omega :F.bE.length - 1 < F.bE.length)) j bu) C<|he 12 aa aj<|gk tM fun bZ cw c5 a0 b0=> ?_;have dt:=a0.size;have dw:=C.size;have cb:(fun w'=>Wk w w') cw:=C.trans a0.md;refine ⟨cb,?_⟩;refine he 13 aa aj<|fU rS aa aa aa aa b0 aB fun I b7 b3=> ?_;have aF:Wk w I:=(C.trans a0.md).trans' b7 fun k hk h=>by omega
 have a7:I.heap[bZ]? =some (.cells (oA<|iq F).toArray 216 (0,0)):=b3;have cc:(fun w'=>Wk w w') I:=aF;refine ⟨cc,?_⟩;refine hn aj<|ao<|az fun aO=> ?_;have G:(fun w'=>Wk I w') I.drew:=(Md.refl _ _).drew;refine bY (fun w'=>Wk I w') aa wide G<|aR 0 aa (fa zS aa) G<|bR 1 aa (fun w' A=>ld bD aa<|Wk.aW A<|(bg a7).trans aa) G<|aR 2 aa (fa DK aa) G<|bR 3 aa (fun w' A=>ld bD aa<|Wk.aW A<|(bg a7).trans aa) G<|aR 4 aa (fa KO aa) G<|bR 5 aa (fun w' A=>ld nq aa<|Wk.aW A<|(bg a7).trans aa) G<|bO 6 aa (aV H.rb) G<|aR 7 aa (nc aa) G<|aR 8 aa (fa qY aa) G<|bR 9 aa (fun w' A=>ld bD aa<|Wk.aW A<|(bg (am.wk aF).cells).trans aa) G<|aR 10 aa (dj (ps:= [(0,ak ((iq F).kind)),(1,bT (iq F).flag),(2,.bool (iq F).eI),(7,ak ln)]) (L:= [ak ((iq F).kind),bT (iq F).flag,.bool (iq F).eI,.string ⟨⟨[]⟩⟩,.string ⟨⟨[]⟩⟩,.string ⟨⟨[]⟩⟩,.slice none 0 0,ak ln]) Ob aa<|aa) G<|he 11 aa aj<|gk Ga fun aP cx c6 a1 b1=> ?_;have du:=a1.size;have ce:(fun w'=>Wk I w') cx:=G.trans a1.md;refine ⟨ce,?_⟩;refine he 12 aa aj<|fU C2 aa aa aa aa b1 aB fun aI b8 b4=> ?_;have bl:Wk I aI:=(G.trans a1.md).trans' b8 fun k hk h=>by have :=G.size; omega
 have aY:=aF.trans bl;have cu:aI.heap[aP]? =some (.cells [ak ((iq F).kind),bT (iq F).flag,.bool (iq F).eI,str [],str [],str [],.slice none 0 0,ak ln].toArray 214 (0,0)):=b4;have ds:=G.size;have dr:=aF.size;have ch:(fun w'=>Wk I w') aI:=bl;refine ⟨ch,?_⟩;refine hn aj<|aO<|ag fun aC=>p mv<|au (.slice ar r.length cr)<|e<|cl Ii (Lm J.heap.size H.fb aP F V (iq F) ln r bV ar cr aI (Y.wk aY).r O.kd ab cu (bP.wk aY) cs bC) aa fun dz an ca=> ?_;obtain ⟨cm,L,bq,b5,b6,ct⟩:=ca;have aD:Wk w an:=aY.trans' cm fun k hk h=>by omega
 have Z:=Y.wk aD;have bs:=am.wk aD;have di:¬(V.v12.ownBlock=some H.rb):=dX Z.dM bs.cells aB;have cn:¬(V.v12.ownBlock=some H.fb):=dX Z.dM Z.cells aB;have co:¬(V.v12.ownBlock=some aP):=fun h=>by have :=(dQ Y.dM h).2; omega
 refine ay<|aC<|az fun bj=> ?_;have ae:(fun w'=>Md (fun k=>V.v12.ownBlock=some k) an w') an.drew:=(Md.refl _ _).drew;refine e5 (fun w'=>Md (fun k=>V.v12.ownBlock=some k) an w') 10 aa wide ae<|bN 0 aa (mv) ae<|bN 1 aa (mv) ae<|bN 2 aa (nc aa) ae<|bN 3 aa (fa kf aa) ae<|ea 4 aa (fun w' A=>ld kD aa<|Md.aW A ((bg Z.cells).trans aa) cn) ae<|ea 5 aa (fun w' A=>cW s5 aa (bq) fun j bu=>bS.bB ⟨_,Md.aT A b6 co⟩ j) ae<|gS 6 aa aj<|kY AL aa aa bq fun cV cy c7 b9 b2=> ?_;have al:=iY b9.md;have E:=Z.wk al;have a2:=bs.wk al;have dy:=(aD.trans al).size;have bt:(fun w'=>Md (fun k=>V.v12.ownBlock=some k) an w') cy:=Md.mono al fun _ _ h=>h.elim;refine ⟨bt,?_⟩;refine gS 7 aa aj<|ap AL (E.dM) aa ab aa (aM.ec b2) ab (b5) ab ab fun v124 a9 bx aq dv df=> ?_;have a3:=a2.own E.dM aq aB;have ax:=aq.aT E.cells<|dX E.dM E.cells aB;have a5:Wk J a9:=(aL.trans<|aD.trans al).trans' aq fun k hk h=>by have :=(dQ E.dM h).1; omega
 have a4:(fun w'=>Md (fun k=>V.v12.ownBlock=some k) an w') a9:=bt.trans' aq fun _ _ h=>h;refine ⟨a4,?_⟩;refine bN 8 aa (nc aa) a4<|bN 9 aa (fa kf aa) a4<|dU 10 aa aj aj<|dx I8 aa aa (v:=v124) (fy bx) ax (by show _ < 13; omega) fun bb ac aS=> ?_;have av:=a3.p9 ax ac;have ah:Wk J bb:=a5.trans' ac fun k hk h=>by omega
 refine eZ aj<|bj<|ag fun bk=>p mv<|ay<|bk<|rt ?_;refine a6 aa ?_;have cv:F.rules.length=V.rn.length:=by have :=E.nx.1; rw [fP] at this; exact this.symm
 rcases ct with ⟨q,vn,aA,rfl,rfl,ci⟩ | ⟨e,aA,bv,rfl⟩;have cp:bz a9 J.heap.size 214 8 v124 (F.rules++ [q]).length (nA<|(F.rules++ [q]).zip<|V.rn++ [vn]):=by
  rw [GO cv,show nA (F.rules.zip V.rn++ [q].zip [vn])=nA (F.rules.zip V.rn)++j4 (q,vn) from by simp [nA],bL];exact bx
 have aZ:=eU.yV (x:=q) (vx:=vn) E (ci.wk al) aq cp ac aS;exact ⟨.inl ⟨_,by unfold jG; rw [if_neg ai,if_neg h1,aA],aa,⟨_,vh,aZ,av,⟨by simp only [bL,fu]; omega,O.sl,O.row,O.kd⟩,ah,bU⟩⟩,ah⟩;exact ⟨.inr ⟨e,by unfold jG; rw [if_neg ai,if_neg h1,aA],bv,aa,av.dC⟩,ah⟩;have cs:r.length=4∨r.length=5:=ab;refine aH aa<|aH aa<|aH aa<|p (bA aa)<|nl<|aK<|cf aa<|aQ<|bd<|az fun ao=> ?_;have C:(fun w'=>Wk w w') w.drew:=(Md.refl _ _).drew;refine bY (fun w'=>Wk w w') aa wide C<|aR 0 aa (mv) C<|aR 1 aa (nc aa) C<|aR 2 aa (fa qW aa) C<|bR 3 aa (fun w' A=>ld rK aa<|Wk.aW A<|bQ) C<|aR 4 aa (mv) C<|aR 5 aa (nc aa) C<|aR 6 aa (fa qW aa) C<|bR 7 aa (fun w' A=>ld rK aa<|Wk.aW A<|bQ) C<|aR 8 aa (bM FQ aa aa) C<|aR 9 aa (dY ((F.bE.length - 1:Nat):Int) aa aa<|bp ab ab) C<|aR 10 aa (bc zw aa aa ab<|aM.ok (aM.wk (ba bw).2 C)<|zY ab) C<|bR 11 aa (fun w' A=>cW uu aa (aa) fun j bu=>fC (f:=oA) (m:=5) (fun _=>rfl) (aM.wk (ba bw).2 A) (wz (by omega :F.bE.length - 1 < F.bE.length)) j bu) C<|he 12 aa aj<|gk tM fun bZ cw c5 a0 b0=> ?_;have dt:=a0.size;have dw:=C.size;have cb:(fun w'=>Wk w w') cw:=C.trans a0.md;refine ⟨cb,?_⟩;refine he 13 aa aj<|fU rS aa aa aa aa b0 aB fun I b7 b3=> ?_;have aF:Wk w I:=(C.trans a0.md).trans' b7 fun k hk h=>by omega
 have a7:I.heap[bZ]? =some (.cells (oA<|iq F).toArray 216 (0,0)):=b3;have cc:(fun w'=>Wk w w') I:=aF;refine ⟨cc,?_⟩;refine hn aj<|ao<|az fun aO=> ?_;have G:(fun w'=>Wk I w') I.drew:=(Md.refl _ _).drew;refine bY (fun w'=>Wk I w') aa wide G<|aR 0 aa (fa zS aa) G<|bR 1 aa (fun w' A=>ld bD aa<|Wk.aW A<|(bg a7).trans aa) G<|aR 2 aa (fa DK aa) G<|bR 3 aa (fun w' A=>ld bD aa<|Wk.aW A<|(bg a7).trans aa) G<|aR 4 aa (fa KO aa) G<|bR 5 aa (fun w' A=>ld nq aa<|Wk.aW A<|(bg a7).trans aa) G<|bO 6 aa (aV H.rb) G<|aR 7 aa (nc aa) G<|aR 8 aa (fa qY aa) G<|bR 9 aa (fun w' A=>ld bD aa<|Wk.aW A<|(bg (am.wk aF).cells).trans aa) G<|aR 10 aa (dj (ps:= [(0,ak ((iq F).kind)),(1,bT (iq F).flag),(2,.bool (iq F).eI),(7,ak ln)]) (L:= [ak ((iq F).kind),bT (iq F).flag,.bool (iq F).eI,.string ⟨⟨[]⟩⟩,.string ⟨⟨[]⟩⟩,.string ⟨⟨[]⟩⟩,.slice none 0 0,ak ln]) Ob aa<|aa) G<|he 11 aa aj<|gk Ga fun aP cx c6 a1 b1=> ?_;have du:=a1.size;have ce:(fun w'=>Wk I w') cx:=G.trans a1.md;refine ⟨ce,?_⟩;refine he 12 aa aj<|fU C2 aa aa aa aa b1 aB fun aI b8 b4=> ?_;have bl:Wk I aI:=(G.trans a1.md).trans' b8 fun k hk h=>by have :=G.size; omega
 have aY:=aF.trans bl;have cu:aI.heap[aP]? =some (.cells [ak ((iq F).kind),bT (iq F).flag,.bool (iq F).eI,str [],str [],str [],.slice none 0 0,ak ln].toArray 214 (0,0)):=b4;have ds:=G.size;have dr:=aF.size;have ch:(fun w'=>Wk I w') aI:=bl;refine ⟨ch,?_⟩;refine hn aj<|aO<|ag fun aC=>p mv<|au (.slice ar r.length cr)<|e<|cl Ii (Lm J.heap.size H.fb aP F V (iq F) ln r bV ar cr aI (Y.wk aY).r O.kd ab cu (bP.wk aY) cs bC) aa fun dz an ca=> ?_;obtain ⟨cm,L,bq,b5,b6,ct⟩:=ca;have aD:Wk w an:=aY.trans' cm fun k hk h=>by omega
 have Z:=Y.wk aD;have bs:=am.wk aD;have di:¬(V.v12.ownBlock=some H.rb):=dX Z.dM bs.cells aB;have cn:¬(V.v12.ownBlock=some H.fb):=dX Z.dM Z.cells aB;have co:¬(V.v12.ownBlock=some aP):=fun h=>by have :=(dQ Y.dM h).2; omega
 refine ay<|aC<|az fun bj=> ?_;have ae:(fun w'=>Md (fun k=>V.v12.ownBlock=some k) an w') an.drew:=(Md.refl _ _).drew;refine e5 (fun w'=>Md (fun k=>V.v12.ownBlock=some k) an w') 10 aa wide ae<|bN 0 aa (mv) ae<|bN 1 aa (mv) ae<|bN 2 aa (nc aa) ae<|bN 3 aa (fa kf aa) ae<|ea 4 aa (fun w' A=>ld kD aa<|Md.aW A ((bg Z.cells).trans aa) cn) ae<|ea 5 aa (fun w' A=>cW s5 aa (bq) fun j bu=>bS.bB ⟨_,Md.aT A b6 co⟩ j) ae<|gS 6 aa aj<|kY AL aa aa bq fun cV cy c7 b9 b2=> ?_;have al:=iY b9.md;have E:=Z.wk al;have a2:=bs.wk al;have dy:=(aD.trans al).size;have bt:(fun w'=>Md (fun k=>V.v12.ownBlock=some k) an w') cy:=Md.mono al fun _ _ h=>h.elim;refine ⟨bt,?_⟩;refine gS 7 aa aj<|ap AL (E.dM) aa ab aa (aM.ec b2) ab (b5) ab ab fun v124 a9 bx aq dv df=> ?_;have a3:=a2.own E.dM aq aB;have ax:=aq.aT E.cells<|dX E.dM E.cells aB;have a5:Wk J a9:=(aL.trans<|aD.trans al).trans' aq fun k hk h=>by have :=(dQ E.dM h).1; omega
 have a4:(fun w'=>Md (fun k=>V.v12.ownBlock=some k) an w') a9:=bt.trans' aq fun _ _ h=>h;refine ⟨a4,?_⟩;refine bN 8 aa (nc aa) a4<|bN 9 aa (fa kf aa) a4<|dU 10 aa aj aj<|dx I8 aa aa (v:=v124) (fy bx) ax (by show _ < 13; omega) fun bb ac aS=> ?_;have av:=a3.p9 ax ac;have ah:Wk J bb:=a5.trans' ac fun k hk h=>by omega
 refine eZ aj<|bj<|ag fun bk=>p mv<|ay<|bk<|rt ?_;refine a6 aa ?_;have cv:F.rules.length=V.rn.length:=by have :=E.nx.1; rw [fP] at this; exact this.symm
 rcases ct with ⟨q,vn,aA,rfl,rfl,ci⟩ | ⟨e,aA,bv,rfl⟩;have cp:bz a9 J.heap.size 214 8 v124 (F.rules++ [q]).length (nA<|(F.rules++ [q]).zip<|V.rn++ [vn]):=by
  rw [GO cv,show nA (F.rules.zip V.rn++ [q].zip [vn])=nA (F.rules.zip V.rn)++j4 (q,vn) from by simp [nA],bL];exact bx
 have aZ:=eU.yV (x:=q) (vx:=vn) E (ci.wk al) aq cp ac aS;exact ⟨.inl ⟨_,by unfold jG; rw [if_neg ai,if_neg h1,aA],aa,⟨_,vh,aZ,av,⟨by simp only [bL,fu]; omega,O.sl,O.row,O.kd⟩,ah,bU⟩⟩,ah⟩;exact ⟨.inr ⟨e,by unfold jG; rw [if_neg ai,if_neg h1,aA],bv,aa,av.dC⟩,ah⟩
end Go.Hb.BS
end
section
namespace Go.Hb.GY
open Go.Hb.BS Go.Hb.oV Go.Hb.yJ Go.Hb.oX
theorem drop_nil {α:Type} {l:List α} {k:Nat} (h:l.length≤k):l.drop k= []:=iJ h
theorem Zc {F:aU} {c:dy} :iq {F with bE:=F.bE++ [c]} =c:=by
 unfold iq;simp [cX]
theorem T7 {eof ln x n:Nat} {F:aU} {rows:List Rw} {r:List Tx} (C:r.length=4) (hk:r.getD 0 []≠fK) (A:r.getD 0 []≠eX) (h:im F (r.getD 1 [])= .ok x) (h1:r.getD 2 []= [89]∨r.getD 2 []= [78]) (h2:fw (r.getD 3 []) 1024= .ok n) (h3:¬1024 < F.rules.length+n):
 ic eof F rows ln r=iF (k4 r) eof n {F with bE:=F.bE++ [(⟨x,(if r.getD 0 []=dB then 2 else 1:Nat),(decide (r.getD 2 []= [89])),F.rules.length,n⟩:dy)]} rows:=by
 rw [Ly C,XD hk A,Zc];unfold ic;rw [h];simp only;rw [if_neg (fun h3=>h1.elim h3.1 h3.2),h2];simp only;rw [if_neg h3]
 all_goals rfl
theorem abg {eof ln n:Nat} {F:aU} {rows:List Rw} {r:List Tx} (A:r.length=2) (hk:r.getD 0 []=fK) (h2:fw (r.getD 1 []) 256= .ok n):kq eof F rows ln r=iF (k4 r) eof n F rows:=by
 rw [Lx ab,hk,XC];unfold kq;rw [h2]
 all_goals rfl
theorem Q0 {eof ln n:Nat} {F:aU} {seen:List Tx} {rows:List Rw} {r:List Tx} (C:r.length=2) (hk:r.getD 0 []=eX) (A:¬(ga∈seen∨dB∈seen)) (h2:fw (r.getD 1 []) 1024= .ok n):j9 eof F seen rows ln r=iF (k4 r) eof n F rows:=by
 rw [Lx ab,hk,XB];unfold j9;rw [if_neg A,h2]
 all_goals rfl
theorem XJ {F:aU} {V:eF} {i o x:Nat} (h5:F.sp.length=5) (hi:i < 5) (A:o=3 +i):(pE F V).set o (bT x)=pE {F with sp:=F.sp.set i x} V:=by
 subst A;obtain ⟨k,cs,tr,sp,le,re,al,cl,ru⟩:=F
 match sp,h5 with
 | [a,b,c,d,e],_=>
   match i,hi with
   | 0,_=>rfl
   | 1,_=>rfl
   | 2,_=>rfl
   | 3,_=>rfl
   | 4,_=>rfl
theorem FA {s:Tx} (h:s∈ez):ez.idxOf s < 5:=by
 have :∀ k∈ez,ez.idxOf k < 5:=aB;exact this s h
theorem Fz {s:Tx} (h:s∈ez):q8 s=(ez.idxOf s:Nat):=if_pos h
section
variable {eof ln:Nat} {F:aU} {seen:List Tx} {rows:List Rw} {r:List Tx}
theorem Lq (h:r.getD 0 []∈ez):cH eof F seen rows ln r=kr F rows ln r:=by unfold cH; rw [if_pos h]
theorem XS (h:r.getD 0 []=iV):cH eof F seen rows ln r=kM F seen rows ln r:=by unfold cH; rw [h]; rfl
theorem Lp (h:r.getD 0 []=jh):cH eof F seen rows ln r=mU F rows ln r:=by unfold cH; rw [h]; rfl
theorem Lr (h:r.getD 0 []=jt):cH eof F seen rows ln r=mZ F rows ln r:=by unfold cH; rw [h]; rfl
theorem D6 (h:r.getD 0 []=kK):cH eof F seen rows ln r=k9 F rows ln r:=by unfold cH; rw [h]; rfl
theorem Lo (h:r.getD 0 []=fK):cH eof F seen rows ln r=kq eof F rows ln r:=by unfold cH; rw [h]; rfl
theorem z1 (h:r.getD 0 []=eX):cH eof F seen rows ln r=j9 eof F seen rows ln r:=by unfold cH; rw [h]; rfl
theorem XR (h:r.getD 0 []=ga∨r.getD 0 []=dB):cH eof F seen rows ln r=ic eof F rows ln r:=by rcases h with h | h <;> (unfold cH; rw [h]; rfl)
theorem aaR {k:Tx} (hw:width k≠0) (A:k∉ez) (h1:k≠iV) (h2:k≠jh) (h3:k≠jt) (h4:k≠kK) (h5:k≠fK) (C:k≠eX):k=ga∨k=dB:=by
 unfold width at hw;rw [if_neg (by simp [A,h1,h2,h3,h4,h5,C])] at hw;by_cases h:k=ga∨k=dB
 · exact h
 · rw [if_neg h] at hw; exact absurd rfl hw
end
theorem gj.eq {A:World} {H:gI} {seen:List Tx} {X Y:Except (Nat×Nat) (aU×List Rw)} {v:Value} {w:World} (h:gj A H seen X v w) (he:Y=X):gj A H seen Y v w:=he ▸ h
theorem gj.er {A:World} {H:gI} {seen:List Tx} {X:Except (Nat×Nat) (aU×List Rw)} {w:World} {l e:Nat} (h:X= .error (l,e)) (he:e≠0) (C:Hb.aW w.heap H.rb 5=some (.int .i64 (l:Nat))) (hw:Wk A w):gj A H seen X (.int .i64 (e:Nat)) w:=⟨.inr ⟨l,e,h,he,rfl,C⟩,hw⟩
theorem DY (O:World) (H:gI) (F:aU) (k ln:Nat) (seen hd:List Tx) (bC:Nat) (ah:Option Addr) (am n:Nat) (w:World) (aZ:GS O H) (C:ni O w H F k ln seen) (ce:Tg O bC 9 hd.length (.slice ah hd.length am) (hd.map str)) (cI:hd.length=2∨hd.length=4) (cL:n≤70000) (co:hd.getD 0 []≠fK→hd.getD 0 []≠eX→0 < F.bE.length):
 bm aw 156 (bh [aV H.rb,.slice ah hd.length am,ak n]) w (gj O H seen<|iF (k4 hd) H.eof n F<|H.rows.drop k):=by
 have aJ:∀ w,Wk O w→cM w.heap ah hd:=fun w h=>(ce.wk h).dp.2;obtain ⟨a0,b1,bu⟩:∃ a c,H.vr= .slice a H.rows.length c:=by obtain ⟨B0,h1,_⟩:=aZ; exact h1.slice
 have a5:∀ (w:World) (k l:Nat) (s:List Tx) (vh:Value),iP w O.heap.size H k l s vh→Hb.aW w.heap H.rb 1=some (.slice a0 H.rows.length b1):=fun w k l s vh h=>by rw [← bu]; exact (bg h.cells).trans rfl
 refine enter func156 aa ntmps156 aa<|ag fun bF=>ay<|bF<|az fun bT=>ag fun bU=>ay<|bU<|aT<|lp (fun ba bx Y=> ∃ (i:Nat) (F':aU) (k' a7:Nat),(i≤n)∧(iF (k4 hd) H.eof (n - i) F' (H.rows.drop k')=iF (k4 hd) H.eof n F (H.rows.drop k))∧(ni O Y H F' k' a7 seen)∧(F'.bE=F.bE)∧(Sl bx [(0,aV H.rb),(1,.slice ah hd.length am),(2,ak n),(7,ak i)])∧(n - i=ba)) _ ⟨0,F,k,ln,ab,aa,C,aa,aa,aa⟩ ?_;rintro ba bx Y ⟨i,F',k',a7,hi,Z,bi,bj,cz,rfl⟩;refine bG cz ?_;have cc:=bi;obtain ⟨V,vh,b5,av,aS,bb,cJ⟩:=bi;have cK:H.rows.length≤70000:=by obtain ⟨_,_,_,h⟩:=aZ; exact h
 refine az fun bV=>ag fun bW=>au (ak i)<|au (ak n)<|p (lt aa aa)<|nl<|bW<|cd aa (fun ck=> ?_) fun ck=> ?_;refine aQ<|bV<|az fun aO=>aT<|az fun bZ=>az fun b0=> ?_;have J:(fun w'=>Wk Y w') Y.drew:=(Md.refl _ _).drew;refine bY (fun w'=>Wk Y w') aa wide J<|bO 0 aa (aV H.rb) J<|aR 1 aa (nc aa) J<|aR 2 aa (fa qc aa) J<|bR 3 aa (fun w' C=>ld bD aa<|Wk.aW C<|(bg av.cells).trans aa) J<|bO 4 aa (aV H.rb) J<|aR 5 aa (nc aa) J<|aR 6 aa (fa DH aa) J<|bR 7 aa (fun w' C=>ld B4 aa<|Wk.aW C<|a5 _ _ _ _ _ av) J<|aR 8 aa (bM A3 aa aa) J<|aR 9 aa (ge aa aa) J<|hn aj ?_;have ax:=av.wk J;have b6:=b5.wk J;have aY:=bb.trans J;refine b0<|cd aa (fun cm=> ?_) fun cm=> ?_;have cy:H.rows.drop k'= []:=drop_nil ab;rw [cy] at Z;refine ag fun aP=>au (aV H.rb)<|au (aV H.rb)<|p (nc aa)<|p (fa W6 aa)<|p (ld bD aa<|(bg ax.cells).trans aa)<|p (nc aa)<|p (fa qY aa)<|e<|dx gR aa aa (v:=ak<|H.eof) aa ax.cells (by show _ < 6; omega) fun cC bd b2=> ?_;have b9:=ax.dT (k':=k') (ln':=H.eof) bd b2;have ch:Wk O cC:=aY.trans' bd fun q bo h=>by have :=av.lo; omega
 exact nl<|aP<|ag fun aN=>ay<|aN<|rt<|tr<|br<|tr<|tr<|br<|tr<|a6 aa<|gj.er (Xz Z ab) aB b9.dC ch;obtain ⟨ac,ae,ar,cr,cE,cF,aL,bv,aG,bt,⟨bB,aD⟩,hvl⟩:=aZ.get aY (k:=k') ab;rw [bu] at bv;cases bv;have cp:=congrArg List.length aL;simp only [cV] at cp;rw [aL] at Z;have aF:=aS.row (ac,ae)<|by rw [aL]; exact oS ..
 have cN:0 < ae.length:=l7.2 aF.1;have cH:=aS.len;refine aQ<|bZ<|az fun aP=> ?_;have G:(fun w'=>Wk Y.drew w') Y.drew.drew:=(Md.refl _ _).drew;refine bY (fun w'=>Wk Y.drew w') aa wide G<|bO 0 aa (aV H.rb) G<|aR 1 aa (nc aa) G<|aR 2 aa (fa DH aa) G<|bR 3 aa (fun w' C=>ld B4 aa<|Wk.aW C<|a5 _ _ _ _ _ ax) G<|bO 4 aa (aV H.rb) G<|aR 5 aa (nc aa) G<|aR 6 aa (fa qc aa) G<|bR 7 aa (fun w' C=>ld bD aa<|Wk.aW C<|(bg ax.cells).trans aa) G<|aR 8 aa (bc pB aa aa ab<|aM.ok (aG)<|mo ab) G<|aR 9 aa (fa xk aa) G<|bR 10 aa (fun w' C=>ld kj aa<|Wk.aW C<|mq aG bt 1 aB) G<|aR 11 aa (aE) G<|hn aj ?_;have aC:=ax.wk G;refine aP<|az fun aN=> ?_;have E:(fun w'=>Wk Y.drew.drew w') Y.drew.drew.drew:=(Md.refl _ _).drew;refine e5 (fun w'=>Wk Y.drew.drew w') 14 aa wide E<|bI 0 aa (aV H.rb) E<|bI 1 aa (aV H.rb) E<|bN 2 aa (nc aa) E<|bN 3 aa (fa DH aa) E<|ea 4 aa (fun w' C=>ld B4 aa<|Wk.aW C<|a5 _ _ _ _ _ aC) E<|bI 5 aa (aV H.rb) E<|bN 6 aa (nc aa) E<|bN 7 aa (fa qc aa) E<|ea 8 aa (fun w' C=>ld bD aa<|Wk.aW C<|(bg aC.cells).trans aa) E<|bN 9 aa (bc pB aa aa ab<|aM.ok (aG)<|mo ab) E<|bN 10 aa (fa uX aa) E<|ea 11 aa (fun w' C=>ld bD aa<|Wk.aW C<|mq (aM.wk aG G) bt 0 aB) E<|bN 12 aa (nc aa) E<|bN 13 aa (fa qY aa) E<|dU 14 aa aj aj<|dx gR aa aa (v:=ak ac) aa (aC.wk E).cells (by show _ < 6; omega) fun cD a1 b3=> ?_;have aH:=(aC.wk E).dT (k':=k') (ln':=ac) a1 b3;have b7:=((b6.wk G).wk E).rb (aC.wk E) a1;have ci:Wk O cD:=((aY.trans G).trans E).trans' a1 fun q bo h=>by have :=av.lo; omega
 refine eZ aj<|aN<|ag fun bK=>au (aV H.rb)<|au (aV H.rb)<|p (nc aa)<|p (fa qc aa)<|p (ld bD aa<|(bg aH.cells).trans aa) ?_;refine p (bJ ((k'+1:Nat):Int) aa aa<|bp ab ab)<|p (nc aa)<|p (fa qc aa)<|e<|dx gR aa aa (v:=ak<|k'+1) aa aH.cells (by show _ < 6; omega) fun ai a2 b4=> ?_;have aI:=aH.dT (k':=k'+1) (ln':=ac) a2 b4;have b8:=b7.rb aH a2;have ao:Wk O ai:=ci.trans' a2 fun q bo h=>by have :=av.lo; omega
 refine nl<|bK<|az fun bL=>az fun bP=> ?_;have I:(fun w'=>Wk ai w') ai.drew:=(Md.refl _ _).drew;refine bY (fun w'=>Wk ai w') aa wide I<|aR 0 aa (mv) I<|aR 1 aa (bc db aa aa ab<|aM.ok ((aD.wk ao).dp.2)<|cg ab) I<|bR 2 aa (fun w' C=>ld bX aa<|Wk.aW C<|cM.get (i:=0) (aD.wk ao).dp.2 ab) I<|bO 3 aa (.slice ah hd.length am) I<|aR 4 aa (bc db aa aa ab<|aM.ok (aJ _ ao)<|cg ab) I<|bR 5 aa (fun w' C=>ld bX aa<|Wk.aW C<|cM.get (i:=0) (aJ _ ao) ab) I<|aR 6 aa (oF aa aa) I<|hn aj ?_;have an:=ao.trans I;refine bP<|cd aa (fun a3=> ?_) fun a3=> ?_;have aq:ae.getD 0 []≠hd.getD 0 []:=a3;exact ag fun al=>ay<|al<|rt<|tr<|br<|tr<|tr<|br<|tr<|a6 aa<|gj.er (DX Z ab<|Ye aq) aB (aI.wk I).dC an;have aq:ae.getD 0 []=hd.getD 0 []:=jM.1 a3;refine aQ<|bL ?_;refine eo (fun bz a9=>(ae.take (k4 hd).length=k4 hd)∧(Wk ai a9)∧(Sl bz [(0,aV H.rb),(1,.slice ah hd.length am),(2,ak n),(7,ak i),(8,.slice ar ae.length cr)])) ?_ ?_;refine az fun al=> ?_;have A:(fun w'=>Wk ai.drew w') ai.drew.drew:=(Md.refl _ _).drew;refine bY (fun w'=>Wk ai.drew w') aa wide A<|bO 0 aa (.slice ah hd.length am) A<|aR 1 aa (bM fq aa aa) A<|aR 2 aa (bQ aa aa) A<|aR 3 aa (mv) A<|js (t:=75) aa (fun cq=> ?_) fun cq=> ?_;refine bq 4 aa (fun _ _=>mv) A<|bq 5 aa (fun _ _=>bM fq aa aa) A<|bq 6 aa (fun _ _=>lt aa aa) A<|bq 7 aa (fun _ _=>mv) A<|js (t:=79) aa (fun cs=> ?_) fun cs=> ?_;exact a8 8 aa A<|a8 9 aa A<|a8 10 aa A<|a8 11 aa A<|a8 12 aa A<|a8 13 aa A<|a8 14 aa A<|bq 15 aa (fun _ _=>bH aa) A<|aR 16 aa (bH aa) A<|hn aj<|al<|ct aa<|ag fun aA=>p aE<|nl<|aA<|rt<|tr<|br<|tr<|tr<|br<|tr<|a6 aa<|gj.er (DX Z ab<|LA ab<|.inl ab) aB ((aI.wk I).wk A).dC<|an.trans A;refine bq 8 aa (fun _ _=>mv) A<|bq 9 aa (fun _ _=>bc db aa aa ab<|aM.ok ((aD.wk an).dp.2)<|cg ab) A<|bq 10 aa (fun w' C=>ld bX aa<|Wk.aW C<|cM.get (i:=1) (aD.wk an).dp.2 ab) A<|bq 11 aa (fun _ _=>aX (.slice ah hd.length am) aa) A<|bq 12 aa (fun _ _=>bc db aa aa ab<|aM.ok (aJ _ an)<|cg ab) A<|bq 13 aa (fun w' C=>ld bX aa<|Wk.aW C<|cM.get (i:=1) (aJ _ an) ab) A<|bq 14 aa (fun _ _=>oF aa aa) A<|bq 15 aa (fun _ _=>bA aa) A<|aR 16 aa (bH aa) A<|hn aj<|al<|cd aa (fun a4=> ?_) fun a4=> ?_;exact ag fun aA=>ay<|aA<|rt<|tr<|br<|tr<|tr<|br<|tr<|a6 aa<|gj.er (DX Z ab<|LA ab<|.inr a4) aB ((aI.wk I).wk A).dC<|an.trans A;exact aQ<|tn<|⟨(LB aq aF.1 fun _=>⟨ab,jM.1 a4⟩),(I.trans A),aa⟩
 exact a8 4 aa A<|a8 5 aa A<|a8 6 aa A<|a8 7 aa A<|mO 8 aa aj aa aa aa A<|mO 9 aa aj aa aa aa A<|mO 10 aa aj aa aa aa A<|mO 11 aa aj aa aa aa A<|mO 12 aa aj aa aa aa A<|mO 13 aa aj aa aa aa A<|mO 14 aa aj aa aa aa A<|a8 15 aa A<|aR 16 aa (bA aa) A<|hn aj<|al<|cf aa<|aQ<|tn<|⟨(LB aq aF.1 fun h=>absurd h ab),(I.trans A),aa⟩
 rintro bz a9 ⟨bs,aK,cA⟩;refine bG cA<|ag fun al=>au (aV H.rb)<|au (.slice ar ae.length cr)<|e<|cl Sw (XG O H F' (k'+1) ac seen ae bB ar cr a9 ⟨V,vh,b8.wk aK,aI.wk aK,oW.qT (aL ▸ aS),ao.trans aK,ab⟩ (aD.wk<|ao.trans aK) aF.1 aF.2.2 ab fun h1 h2=>by rw [bj]; exact co (aq ▸ h1)<|aq ▸ h2) aa fun v91 bw ca=> ?_;obtain ⟨cv,cj⟩:=ca;obtain ⟨cG,rfl,bl⟩:∃ e:Nat,v91=ak e∧((e=0∧∃ ap,jG F' ac ae= .ok ap∧ni O bw H ap (k'+1) ac seen)∨(e≠0∧jG F' ac ae= .error e∧Hb.aW bw.heap H.rb 5=some (ak ac))):=by
  rcases cv with ⟨ap,h1,h2,h3⟩ | ⟨e,h1,h2,h3,h4⟩;exact ⟨0,h2,.inl ⟨aa,ap,h1,h3⟩⟩;exact ⟨e,h3,.inr ⟨h2,h1,h4⟩⟩
 refine ay<|al<|ag fun aA=>p mv<|p (dd aa aa)<|nl<|aA<|cd aa (fun cn=> ?_) fun cn=> ?_;obtain ⟨cx,cu,cw⟩:=bl.resolve_left fun h=>by omega
 exact ag fun bS=>p mv<|ay<|bS<|rt<|br<|tr<|tr<|br<|tr<|a6 aa<|gj.er (Xx Z ab bs cu) cx cw cj;obtain ⟨_,ap,bk,cb⟩:=bl.resolve_right fun h=>by omega
 exact aQ<|bn<|aO<|rg aa<|au (ak i)<|p (ad aa aa<|cB ab)<|p aE<|nl<|tn<|⟨_,ab,i+1,ap,k'+1,ac,ab,(by rw [show n - (i+1)=n - i - 1 by omega]; exact XA Z ab bs bk),cb,((XF bk).1.trans bj),aa,aa⟩
 refine ext<|bf<|bf<|be<|bT<|ag fun aO=>p aE<|nl<|aO<|rt<|a6 aa ?_;rw [show n - i=0 by omega] at Z;exact ⟨.inl ⟨F',k',a7,Xy Z,aa,cc⟩,bb⟩
theorem Xm (I:World) (H:gI) (F:aU) (k ln:Nat) (seen r:List Tx) (bb:Nat) (ar:Option Addr) (cr:Nat) (w:World) (b5:GS I H) (C:ni I w H F k ln seen) (bk:Tg I bb 9 r.length (.slice ar r.length cr) (r.map str)) (bw:∀ x∈r,x.length≤70000) (cL:F.dA.length+F.aliases.length+F.bE.length+F.rules.length+(H.rows.drop k).length < 70000) (bv:r.length=4) (a3:r.getD 0 []=ga∨r.getD 0 []=dB):
 bm aw 157 (bh [aV H.rb,.slice ar r.length cr]) w (gj I H seen<|ic H.eof F (H.rows.drop k) ln r):=by
 have cK:=C;obtain ⟨V,vh,al,J,an,ai,cs⟩:=C;have G:∀ w,Wk I w→cM w.heap ar r:=fun w h=>(bk.wk h).dp.2;have cT:=J.lo;have cR:=al.lo;have cP:=an.len;have cm:=an.sl;have cY:=(dO.1 J.cells).1;have cu:r.getD 0 []≠fK:=by rcases a3 with h | h <;> rw [h] <;> decide
 have cv:r.getD 0 []≠eX:=by rcases a3 with h | h <;> rw [h] <;> decide
 have cV:(r.getD 1 []).length≤70000:=bw _<|eb ab;have cX:(r.getD 3 []).length≤70000:=bw _<|eb ab;obtain ⟨a12,lu,cD⟩:=cJ al.dM;have bn:Hb.aW w.heap H.fb 12=some (.slice a12 F.rules.length lu):=by rw [← cD]; exact (bg al.cells).trans rfl
 refine enter func157 aa ntmps157 aa<|ag fun bF=>ay<|bF<|ag fun bP=>au (aV H.rb)<|au (.slice ar r.length cr)<|p (bc db aa aa ab<|aM.ok (G _ ai)<|cg ab)<|p (ld bX aa<|cM.get (i:=1) (G _ ai) ab)<|e<|cl HQ (Lg I.heap.size H F V k ln seen vh (r.getD 1 []) w al J an.kd ab ab) aa fun c4 cF b8=> ?_;obtain ⟨⟨x,aP,rfl,bs⟩,hE14⟩:=b8;have ac:=ai.trans hE14;refine p mv<|p (xt aa aa)<|p (xt aa aa)<|p aE<|ay<|bP<|az fun bQ=>ag fun bU=>p mv<|p (dd aa aa)<|nl<|bU<|cd aa (fun cn=> ?_) fun cn=> ?_;have br:im F (r.getD 1 [])= .error aP∧aP≠0:=by
  rcases bs with ⟨_,_,h⟩ | h;omega;exact h
 exact ag fun ae=>p mv<|ay<|ae<|rt<|tr<|a6 aa<|gj.er (CV br.1) br.2 (J.wk hE14).dC ac;obtain ⟨aI,cZ,_⟩:im F (r.getD 1 [])= .ok x∧x≠0∧aP=0:=by
  rcases bs with h | ⟨_,h⟩;exact h;omega
 refine aQ<|bQ ?_;refine eo (fun bD a9=>(r.getD 2 []= [89]∨r.getD 2 []= [78])∧(a9=cF)∧(Sl bD [(0,aV H.rb),(1,.slice ar r.length cr),(5,bT x)])) ?_ ?_;refine ag fun ae=>au (.slice ar r.length cr)<|p (bc db aa aa ab<|aM.ok (G _ ac)<|cg ab)<|p (ld bX aa<|cM.get (i:=2) (G _ ac) ab)<|p (oF aa aa)<|p mv<|gs (t:=24) aa (fun a2=> ?_) fun a2=> ?_;refine aJ aa (aX (.slice ar r.length cr) aa)<|aJ aa (bc db aa aa ab<|aM.ok (G _ ac)<|cg ab)<|aJ aa (ld bX aa<|cM.get (i:=2) (G _ ac) ab)<|aJ aa (oF aa aa)<|p (bH aa)<|nl<|ae<|cd aa (fun a0=> ?_) fun a0=> ?_;exact ag fun aN=>ay<|aN<|rt<|tr<|a6 aa<|gj.er (CW aI a2 a0) aB (J.wk hE14).dC ac;exact aQ<|tn<|⟨(.inr<|jM.1 a0),aa,aa⟩
 exact aH aa<|aH aa<|aH aa<|aH aa<|p (bA aa)<|nl<|ae<|cf aa<|aQ<|tn<|⟨(.inl<|jM.1 a2),aa,aa⟩
 rintro bD a9 ⟨a5,cE,cA⟩;refine bG cA ?_;subst cE;have aZ:=ac;refine ag fun ae=>au (.slice ar r.length cr)<|p (bc db aa aa ab<|aM.ok (G _ aZ)<|cg ab)<|p (ld bX aa<|cM.get (i:=3) (G _ aZ) ab)<|e<|cl td (tD (r.getD 3 []) 1024 a9 ab ab) aa fun c5 am cc=> ?_;obtain ⟨rfl,bf⟩:=cc;have aF:=aZ.trans bf;have O:=hE14.trans bf;have cy:=si (r.getD 3 []) 1024;refine p mv<|p (xt aa aa)<|p (xt aa aa)<|p aE<|ay<|ae<|az fun aN=>ag fun bV=>p mv<|p (dd aa aa)<|nl<|bV<|cd aa (fun co=> ?_) fun co=> ?_;refine ag fun aO=>p mv<|ay<|aO<|rt<|tr<|a6 aa ?_;have bd:=q6 (s:=r.getD 3 []) (most:=1024) ab;show gj I H seen _ (.int .i64 (ew (r.getD 3 []) 1024).2) am;rw [bd.2];exact gj.er (IK aI a5 bd.1) aB (J.wk O).dC aF;have a4:=pJ (by omega :(ew (r.getD 3 []) 1024).2=0);have cx:=cy ab;obtain ⟨n,aG⟩:∃ n,n=(ew (r.getD 3 []) 1024).1:=⟨_,rfl⟩
 rw [← aG] at a4 cx;refine aQ<|aN<|az fun aO=>ag fun bW=>au (aV H.rb)<|p (nc aa)<|p (fa mj aa)<|p (ld iS aa<|(bg (J.wk O).cells).trans aa)<|p (nc aa)<|p (fa kf aa)<|p (ld kD aa<|Wk.aW O bn)<|p (bM vw aa aa)<|p mv<|p (bJ ((F.rules.length+(ew (r.getD 3 []) 1024).1:Nat):Int) aa aa<|bp ab ab)<|p (gt aa aa)<|nl<|bW<|cd aa (fun cp=> ?_) fun cp=> ?_;exact ag fun aK=>ay<|aK<|rt<|tr<|a6 aa<|gj.er (IL aI a5 a4 ab) aB (J.wk O).dC aF;refine aQ<|aO<|az fun aK=> ?_;have A:(fun w'=>Wk am w') am.drew:=(Md.refl _ _).drew;refine bY (fun w'=>Wk am w') aa wide A<|bO 0 aa (bT x) A<|bO 1 aa (.slice ar r.length cr) A<|aR 2 aa (bc db aa aa ab<|aM.ok (G _ aF)<|cg ab) A<|bR 3 aa (fun w' C=>ld bX aa<|Wk.aW C<|cM.get (i:=2) (G _ aF) ab) A<|aR 4 aa (et aa aa) A<|bO 5 aa (aV H.rb) A<|aR 6 aa (nc aa) A<|aR 7 aa (fa mj aa) A<|bR 8 aa (fun w' C=>ld iS aa<|Wk.aW C<|(bg (J.wk O).cells).trans aa) A<|aR 9 aa (nc aa) A<|aR 10 aa (fa kf aa) A<|bR 11 aa (fun w' C=>ld kD aa<|Wk.aW C<|Wk.aW O bn) A<|aR 12 aa (bM vw aa aa) A<|aR 13 aa (mv) A<|bR 14 aa (fun _ _=>dj (ps:= [(0,bT x),(1,ak 2),(2,.bool (decide (r.getD 2 []= [89]))),(3,ak (F.rules.length)),(4,ak ((ew (r.getD 3 []) 1024).1))]) (L:= [bT x,ak 2,.bool (decide (r.getD 2 []= [89])),ak (F.rules.length),ak ((ew (r.getD 3 []) 1024).1)]) Oc aa<|aa) A ?_;refine he 15 aa aj<|gk tM fun ah cG cN aC b1=> ?_;have c1:=aC.size;have c0:=A.size;have ch:(fun w'=>Wk am w') cG:=A.trans aC.md;refine ⟨ch,?_⟩;refine he 16 aa aj<|fU rS aa aa aa aa b1 aB fun a7 bi bZ=> ?_;have ax:Wk w a7:=(O.trans<|A.trans aC.md).trans' bi fun k hk h=>by have :=O.size; omega
 have bq:a7.heap[ah]? =some (.cells [bT x,ak 2,.bool (decide (r.getD 2 []= [89])),ak (F.rules.length),ak n].toArray 216 (0,0)):=by rw [aG]; exact bZ
 have bl:w.heap.size≤ah:=by have :=O.size; omega
 have ci:(fun w'=>Wk am w') a7:=(A.trans aC.md).trans' bi fun k hk h=>by omega
 refine ⟨ci,?_⟩;refine hn aj<|aK ?_;refine eo (fun ba Y=>(Y.heap[ah]? =some (.cells [bT x,.int .i64 ((if r.getD 0 []=dB then 2 else 1:Nat):Nat),.bool (decide (r.getD 2 []= [89])),ak (F.rules.length),ak n].toArray 216 (0,0)))∧(Wk w Y)∧(w.heap.size≤ah)∧(ba 7=ak n)∧(Sl ba [(0,aV H.rb),(1,.slice ar r.length cr),(5,bT x),(8,aV ah)])) ?_ ?_;refine ag fun aL=>au (.slice ar r.length cr)<|p (bc db aa aa ab<|aM.ok (G _<|ai.trans ax)<|cg ab)<|p (ld bX aa<|cM.get (i:=0) (G _<|ai.trans ax) ab)<|p (et aa aa)<|nl<|aL<|cd aa (fun a1=> ?_) fun a1=> ?_;exact rg aa<|p (fa zS aa)<|e<|dx gR aa aa (v:=ak 1) aa bq (by show _ < 5; omega) fun c7 b6 b0=>nl<|tn<|⟨(by rw [if_neg (show ¬r.getD 0 []=dB from fun h=>by have h2:r.getD 0 []=ga:=a1; rw [h2] at h; exact absurd h aB)]; exact b0),(ax.trans' b6 fun k hk h=>by omega),bl,(by rw [aG]; rfl),aa⟩
 exact aQ<|tn<|⟨(by rw [if_pos (a3.resolve_left a1)]; exact bq),ax,bl,(by rw [aG]; rfl),aa⟩
 rintro ba Y ⟨cq,aA,cU,cC,cB⟩;refine bG cB<|fx 7 cC ?_;have aq:=al.wk aA;have aD:=J.wk aA;have bt:¬(V.v11.ownBlock=some H.rb):=dX aq.eK aD.cells aB;have cw:¬(V.v11.ownBlock=some H.fb):=dX aq.eK aq.cells aB;have ct:¬(V.v11.ownBlock=some ah):=fun h=>by have :=(dQ al.eK h).2; omega
 refine az fun aL=> ?_;have E:(fun w'=>Md (fun k=>V.v11.ownBlock=some k) Y w') Y.drew:=(Md.refl _ _).drew;refine e5 (fun w'=>Md (fun k=>V.v11.ownBlock=some k) Y w') 16 aa wide E<|bI 0 aa (aV H.rb) E<|bN 1 aa (nc aa) E<|bN 2 aa (fa mj aa) E<|ea 3 aa (fun w' C=>ld iS aa<|Md.aW C ((bg aD.cells).trans aa) bt) E<|bI 4 aa (aV H.rb) E<|bN 5 aa (nc aa) E<|bN 6 aa (fa mj aa) E<|ea 7 aa (fun w' C=>ld iS aa<|Md.aW C ((bg aD.cells).trans aa) bt) E<|bN 8 aa (nc aa) E<|bN 9 aa (fa qW aa) E<|ea 10 aa (fun w' C=>ld rK aa<|Md.aW C ((bg aq.cells).trans aa) cw) E<|ea 11 aa (fun w' C=>cW uu aa (aa) fun j cS=>bS.bB ⟨_,Md.aT C cq ct⟩ j) E<|gS 12 aa aj<|kY N1 aa aa aa fun cI cH cO b7 b2=> ?_;have ao:=iY b7.md;have Z:=aq.wk ao;have b9:=aD.wk ao;have c2:=(aA.trans ao).size;have bj:(fun w'=>Md (fun k=>V.v11.ownBlock=some k) Y w') cH:=Md.mono ao fun _ _ h=>h.elim;refine ⟨bj,?_⟩;refine gS 13 aa aj<|ap N1 (Z.eK) aa ab aa (aM.ec b2) (aa) (aa) ab ab fun bx a8 bu av c3 cQ=> ?_;have ca:=b9.own Z.eK av aB;have bo:=av.aT Z.cells<|dX Z.eK Z.cells aB;have cz:bz a8 I.heap.size 216 5 bx (F.bE++ [(⟨x,(if r.getD 0 []=dB then 2 else 1:Nat),(decide (r.getD 2 []= [89])),F.rules.length,n⟩:dy)]).length (r7<|F.bE++ [(⟨x,(if r.getD 0 []=dB then 2 else 1:Nat),(decide (r.getD 2 []= [89])),F.rules.length,n⟩:dy)]):=by rw [show r7 (F.bE++ [(⟨x,(if r.getD 0 []=dB then 2 else 1:Nat),(decide (r.getD 2 []= [89])),F.rules.length,n⟩:dy)])=r7 F.bE++oA (⟨x,(if r.getD 0 []=dB then 2 else 1:Nat),(decide (r.getD 2 []= [89])),F.rules.length,n⟩:dy) from by simp [r7],bL]; exact bu
 have cj:Wk I a8:=(ai.trans<|aA.trans ao).trans' av fun k hk h=>by have :=(dQ Z.eK h).1; omega
 have aY:(fun w'=>Md (fun k=>V.v11.ownBlock=some k) Y w') a8:=bj.trans' av fun _ _ h=>h;refine ⟨aY,?_⟩;refine bN 14 aa (nc aa) aY<|bN 15 aa (fa qW aa) aY<|dU 16 aa aj aj<|dx Vi aa aa (v:=bx) (fy bu) bo (by show _ < 13; omega) fun bC aS b3=> ?_;have b4:=eU.B9 (x:=(⟨x,(if r.getD 0 []=dB then 2 else 1:Nat),(decide (r.getD 2 []= [89])),F.rules.length,n⟩:dy)) Z av cz aS b3;have cb:=ca.p9 bo aS;have ck:Wk I bC:=cj.trans' aS fun k hk h=>by omega
 refine eZ aj<|aL<|ag fun bK=>au (aV H.rb)<|au (.slice ar r.length cr)<|au (ak n)<|e<|cl Cp (DY I H {F with bE:=F.bE++ [(⟨x,(if r.getD 0 []=dB then 2 else 1:Nat),(decide (r.getD 2 []= [89])),F.rules.length,n⟩:dy)]} k ln seen r bb ar cr n bC b5 ⟨_,vh,b4,cb,⟨by simp only [bL,fu]; omega,cm,an.row,an.kd⟩,ck,cs⟩ bk (.inr bv) ab fun _ _=>by simp only [bL,fu]; omega) aa fun c6 c8 ce=>p aE ?_;exact nl<|bK<|rt<|a6 aa<|gj.eq ce<|T7 bv cu cv aI a5 a4 ab
theorem XE (G:World) (H:gI) (F:aU) (k ln:Nat) (seen r:List Tx) (aG:Nat) (ar:Option Addr) (cr:Nat) (w:World) (a7:GS G H) (aD:ni G w H F k ln seen) (aP:Tg G aG 9 r.length (.slice ar r.length cr) (r.map str)) (bu:∀ x∈r,x.length≤70000) (ci:F.dA.length+F.aliases.length+F.bE.length+F.rules.length+(H.rows.drop k).length < 70000) (hw:r.length=width (r.getD 0 [])) (cs:width (r.getD 0 [])≠0):
 bm aw 97 (bh [aV H.rb,.slice ar r.length cr]) w (gj G H seen<|cH H.eof F seen (H.rows.drop k) ln r):=by
 have bB:=aD;obtain ⟨V,vh,E,C,I,A,aF⟩:=aD;have J:∀ w,Wk G w→cM w.heap ar r:=fun w h=>(aP.wk h).dp.2;have cJ:=C.lo;have cI:=E.lo;have cG:=I.len;have aZ:=I.sl;have cK:=(dO.1 C.cells).1;have cL:0 < r.length:=ab;have Y:2≤r.length→(r.getD 1 []).length≤70000:=fun h=>bu _<|eb ab;refine enter func97 aa ntmps97 aa<|ag fun bM=>ay<|bM<|ag fun bP=>au (.slice ar r.length cr)<|p (bc db aa aa ab<|aM.ok (J _ A)<|cg ab)<|p (ld bX aa<|cM.get (i:=0) (J _ A) ab)<|ay<|bP<|ag fun bS=>p mv<|e<|cl Co (D4 (r.getD 0 []) w) aa fun v24 ao b7=> ?_;obtain ⟨rfl,cw⟩:=b7;subst cw;refine ay<|bS<|az fun bU=>ag fun bV=>p mv<|p (ge aa aa)<|nl<|bV<|cd aa (fun bi=> ?_) fun bi=> ?_;have am:=vo.1 bi;have ae:r.length=2:=by rw [hw,OV am]
 have Y:=Y ab;refine ag fun a2=>au (aV H.rb)<|au (.slice ar r.length cr)<|p (bc db aa aa ab<|aM.ok (J _ A)<|cg ab)<|p (ld bX aa<|cM.get (i:=1) (J _ A) ab)<|e<|cl HQ (Lg G.heap.size H F V k ln seen vh (r.getD 1 []) ao E C I.kd ab ab) aa fun v32 cY b8=> ?_;obtain ⟨⟨x,cF,rfl,cn⟩,hE32⟩:=b8;have cf:=A.trans hE32;refine p mv<|p (xt aa aa)<|p (xt aa aa)<|p aE<|ay<|a2<|az fun a3=>rg aa<|au (aV H.rb)<|p (nc aa)<|p (fa mj aa)<|p (ld iS aa<|(bg (C.wk hE32).cells).trans aa)<|p mv<|p mv<|p (nc aa)<|p (fa uV aa)<|p (kJ uy aa aa<|by rw [Fz am]; have :=FA am; omega)<|e<|dx gR aa aa (v:=bT x) aa (E.wk hE32).cells (by show 0 +3 +(q8<|r.getD 0 []).toNat*1 < 13; rw [Fz am]; have :=FA am; omega) fun bL a8 bW=> ?_;have cq:=XJ (F:=F) (V:=V) (x:=x) (o:=0 +3 +(q8<|r.getD 0 []).toNat*1) E.gr (FA am)<|by rw [Fz am]; omega
 have bY:bL.heap[H.fb]? =some (.cells (pE {F with sp:=F.sp.set (ez.idxOf<|r.getD 0 []) x} V).toArray 154 (0,0)):=by rw [← cq]; exact bW
 have bZ:=(E.wk hE32).put (F':= {F with sp:=F.sp.set (ez.idxOf<|r.getD 0 []) x}) a8 bY rfl rfl rfl rfl (by show (F.sp.set _ _).length=5; rw [List.length_set]; exact E.gr);have bz:=(C.wk hE32).fb (E.wk hE32) a8;have a9:Wk G bL:=cf.trans' a8 fun k hk h=>by omega
 refine nl<|a3<|ag fun a4=>p mv<|ay<|a4<|rt<|tr<|a6 aa ?_;rcases cn with ⟨bv,_,rfl⟩ | ⟨bv,co⟩;exact ⟨.inl ⟨_,k,ln,(Lq am).trans (N6 bv),aa,⟨V,vh,bZ,bz,⟨I.len,aZ,I.row,I.kd⟩,a9,aF⟩⟩,a9⟩;exact gj.er ((Lq am).trans<|N5 bv) co bz.dC a9;have cx:r.getD 0 []∉ez:=fun h=>bi<|vo.2 h;refine aQ<|bU<|az fun a2=>ag fun a3=>p mv<|nl<|a3<|aT<|ag fun a4=>p (et aa aa)<|ay<|a4<|cd aa (fun bj=> ?_) fun bj=> ?_;have h1:r.getD 0 []=iV:=bj;have ae:r.length=2:=by rw [hw,h1]; rfl
 have Y:=Y ab;exact ag fun a5=>au (aV H.rb)<|au (.slice ar r.length cr)<|e<|cl R6 (XH G H F k ln seen r aG ar cr ao bB (aP.wk A) ae bu) aa fun v50 cZ b9=>ay<|a5<|rt<|br<|tr<|a6 aa<|gj.eq b9<|XS h1;have cy:¬r.getD 0 []=iV:=bj;refine ag fun a5=>p (et aa aa)<|ay<|a5<|cd aa (fun bk=> ?_) fun bk=> ?_;have h2:r.getD 0 []=jh:=bk;have ae:r.length=2:=by rw [hw,h2]; rfl
 have Y:=Y ab;refine ag fun a0=>au (.slice ar r.length cr)<|p (bc db aa aa ab<|aM.ok (J _ A)<|cg ab)<|p (ld bX aa<|cM.get (i:=1) (J _ A) ab)<|e<|cl wx (xP (r.getD 1 []) ao ab) aa fun cT bw ca=> ?_;obtain ⟨rfl,ax⟩:=ca;have aY:=A.trans ax;refine ay<|a0<|az fun aI=>ag fun ap=>p mv<|p (no aa)<|nl<|ap<|cb aa (fun bl=> ?_) fun bl=> ?_;exact ag fun Z=>ay<|Z<|rt<|tr<|br<|tr<|a6 aa<|gj.er ((Lp h2).trans<|NR<|by simpa using bl) aB (C.wk ax).dC aY;refine aQ<|aI<|az fun Z=> ?_;have O:(fun w'=>Wk bw w') bw.drew:=(Md.refl _ _).drew;refine e5 (fun w'=>Wk bw w') 9 aa wide O<|bI 0 aa (aV H.rb) O<|bN 1 aa (nc aa) O<|bN 2 aa (fa mj aa) O<|ea 3 aa (fun w' aD=>ld iS aa<|Wk.aW aD<|(bg (C.wk ax).cells).trans aa) O<|bI 4 aa (.slice ar r.length cr) O<|bN 5 aa (bc db aa aa ab<|aM.ok (J _ aY)<|cg ab) O<|ea 6 aa (fun w' aD=>ld bX aa<|Wk.aW aD<|cM.get (i:=1) (J _ aY) ab) O<|bN 7 aa (nc aa) O<|bN 8 aa (fa WZ aa) O<|dU 9 aa aj aj<|dx mi aa aa (v:=str<|r.getD 1 []) aa ((E.wk ax).wk O).cells (by show _ < 13; omega) fun aR ac aN=> ?_;have aO:=((E.wk ax).wk O).put (F':= {F with tg:=r.getD 1 []}) ac aN rfl rfl rfl rfl E.gr;have aC:=((C.wk ax).wk O).fb ((E.wk ax).wk O) ac;have al:Wk G aR:=(aY.trans O).trans' ac fun k hk h=>by omega
 refine eZ aj<|Z<|ag fun ah=>ay<|ah<|rt<|br ?_;exact tr<|a6 aa<|⟨.inl ⟨_,k,ln,(Lp h2).trans (NS<|by simpa using bl),aa,⟨V,vh,aO,aC,⟨I.len,aZ,I.row,I.kd⟩,al,aF⟩⟩,al⟩
 have cz:¬r.getD 0 []=jh:=bk;refine ag fun a0=>p (et aa aa)<|ay<|a0<|cd aa (fun bo=> ?_) fun bo=> ?_;have h3:r.getD 0 []=jt:=bo;have ae:r.length=2:=by rw [hw,h3]; rfl
 have Y:=Y ab;refine ag fun aI=>au (.slice ar r.length cr)<|p (bc db aa aa ab<|aM.ok (J _ A)<|cg ab)<|p (ld bX aa<|cM.get (i:=1) (J _ A) ab)<|e<|cl R7 (abq (r.getD 1 []) ao ab) aa fun cU c0 cc=> ?_;obtain ⟨rfl,aA⟩:=cc;have ch:=A.trans aA;refine p mv<|p (xt aa aa)<|p (xt aa aa)<|p aE<|ay<|aI<|az fun ap=>rg aa<|au (aV H.rb)<|p (nc aa)<|p (fa mj aa)<|p (ld iS aa<|(bg (C.wk aA).cells).trans aa)<|p mv<|p (nc aa)<|p (fa W0 aa)<|e<|dx mi aa aa (v:=str (letE<|r.getD 1 []).1) aa (E.wk aA).cells (by show _ < 13; omega) fun aR ac aN=> ?_;have aO:=(E.wk aA).put (F':= {F with tr:=(letE<|r.getD 1 []).1}) ac aN rfl rfl rfl rfl E.gr;have aC:=(C.wk aA).fb (E.wk aA) ac;have al:Wk G aR:=ch.trans' ac fun k hk h=>by omega
 refine nl<|ap<|ag fun Z=>p mv<|ay<|Z<|rt<|br<|tr<|a6 aa ?_;by_cases h:(letE<|r.getD 1 []).2=0;exact ⟨.inl ⟨_,k,ln,(Lr h3).trans (Oy h),by rw [h]; rfl,⟨V,vh,aO,aC,⟨I.len,aZ,I.row,I.kd⟩,al,aF⟩⟩,al⟩;exact gj.er ((Lr h3).trans<|Ox h) h aC.dC al;have cA:¬r.getD 0 []=jt:=bo;refine ag fun aI=>p (et aa aa)<|ay<|aI<|cd aa (fun bp=> ?_) fun bp=> ?_;have h4:r.getD 0 []=kK:=bp;have ae:r.length=2:=by rw [hw,h4]; rfl
 have Y:=Y ab;refine ag fun ap=>au (.slice ar r.length cr)<|p (bc db aa aa ab<|aM.ok (J _ A)<|cg ab)<|p (ld bX aa<|cM.get (i:=1) (J _ A) ab)<|e<|cl td (tD (r.getD 1 []) 64 ao ab ab) aa fun v91 c1 ce=> ?_;obtain ⟨rfl,an⟩:=ce;have ba:=A.trans an;refine p mv<|p (xt aa aa)<|p (xt aa aa)<|p aE<|ay<|ap<|az fun Z=>ag fun ah=>p mv<|p (dd aa aa)<|p mv<|gs (t:=96) aa (fun bF=> ?_) fun bF=> ?_;exact aH aa<|aH aa<|p (bH aa)<|nl<|ah<|ct aa<|ag fun ai=>ay<|ai<|rt<|tr<|br<|tr<|a6 aa<|gj.er ((D6 h4).trans<|MA (q6 bF).1) aB (C.wk an).dC ba;refine aJ aa mv<|aJ aa (bQ aa aa)<|p (bA aa)<|nl<|ah<|cd aa (fun cm=> ?_) fun cm=> ?_;exact ag fun ai=>ay<|ai<|rt<|tr<|br<|tr<|a6 aa<|gj.er ((D6 h4).trans<|MB (pJ ab) ab) aB (C.wk an).dC ba;refine aQ<|Z<|ag fun ai=>au (aV H.rb)<|p (nc aa)<|p (fa mj aa)<|p (ld iS aa<|(bg (C.wk an).cells).trans aa)<|p mv<|p (nc aa)<|p (fa W4 aa)<|e<|dx gR aa aa (v:=ak<|(ew (r.getD 1 []) 64).1) aa (E.wk an).cells (by show _ < 13; omega) fun aR ac aN=> ?_;have aO:=(E.wk an).put (F':= {F with least:=(ew (r.getD 1 []) 64).1}) ac aN rfl rfl rfl rfl E.gr;have aC:=(C.wk an).fb (E.wk an) ac;have al:Wk G aR:=ba.trans' ac fun k hk h=>by omega
 exact nl<|ai<|ag fun aq=>ay<|aq<|rt<|br<|tr<|a6 aa<|⟨.inl ⟨_,k,ln,(D6 h4).trans (MC (pJ ab) ab),aa,⟨V,vh,aO,aC,⟨I.len,aZ,I.row,I.kd⟩,al,aF⟩⟩,al⟩
 have cB:¬r.getD 0 []=kK:=bp;refine ag fun ap=>p (et aa aa)<|ay<|ap<|cd aa (fun bb=> ?_) fun bb=> ?_;have h5:r.getD 0 []=fK:=bb;have ae:r.length=2:=by rw [hw,h5]; rfl
 have Y:=Y ab;refine ag fun Z=>au (.slice ar r.length cr)<|p (bc db aa aa ab<|aM.ok (J _ A)<|cg ab)<|p (ld bX aa<|cM.get (i:=1) (J _ A) ab)<|e<|cl td (tD (r.getD 1 []) 256 ao ab ab) aa fun cN bJ b0=> ?_;obtain ⟨rfl,aS⟩:=b0;have bC:=A.trans aS;have bs:=si (r.getD 1 []) 256;refine p mv<|p (xt aa aa)<|p (xt aa aa)<|p aE<|ay<|Z<|az fun ah=>ag fun ai=>p mv<|p (dd aa aa)<|nl<|ai<|cd aa (fun cj=> ?_) fun cj=> ?_;refine ag fun aq=>p mv<|ay<|aq<|rt<|tr<|br<|tr<|a6 aa ?_;have aL:=q6 (s:=r.getD 1 []) (most:=256) ab;show gj G H seen _ (.int .i64 (ew (r.getD 1 []) 256).2) bJ;rw [aL.2];exact gj.er ((Lo h5).trans<|Nt aL.1) aB (C.wk aS).dC bC;exact aQ<|ah<|ag fun aq=>au (aV H.rb)<|au (.slice ar r.length cr)<|p mv<|e<|cl Cp (DY G H F k ln seen r aG ar cr (ew (r.getD 1 []) 256).1 bJ a7 ⟨V,vh,E.wk aS,C.wk aS,I,bC,aF⟩ aP (.inl ae) (by have :=bs ab; omega) fun h _=>absurd h5 h) aa fun cO cV b1=>ay<|aq<|rt<|br<|tr<|a6 aa<|gj.eq b1<|(Lo h5).trans<|abg ae h5<|pJ ab;have cC:¬r.getD 0 []=fK:=bb;refine ag fun Z=>p (et aa aa)<|ay<|Z<|cd aa (fun bd=> ?_) fun bd=> ?_;have av:r.getD 0 []=eX:=bd;have ae:r.length=2:=by rw [hw,av]; rfl
 have Y:=Y ab;refine ag fun ah=>au (aV H.rb)<|e<|cl CP (D5 G.heap.size H k ln seen vh ga ao C ab) aa fun cP cD b2=> ?_;obtain ⟨rfl,cu⟩:=b2;subst cu;refine ay<|ah<|ag fun ai=>au (aV H.rb)<|e<|cl CP (D5 G.heap.size H k ln seen vh dB cD C ab) aa fun cQ cE b3=> ?_;obtain ⟨rfl,cv⟩:=b3;subst cv;refine ay<|ai<|az fun aq=>ag fun bx=>p mv<|p mv<|gb (t:=130) aa (fun bq=> ?_) fun bq=> ?_;exact aH aa<|p (bH aa)<|nl<|bx<|ct aa<|ag fun aK=>p aE<|nl<|aK<|rt<|tr<|br<|tr<|a6 aa<|gj.er ((z1 av).trans<|B7<|.inl<|of_decide_eq_true bq) aB C.dC A;refine aJ aa mv<|p (bA aa)<|nl<|bx<|cb aa (fun bf=> ?_) fun bf=> ?_;exact ag fun aK=>ay<|aK<|rt<|tr<|br<|tr<|a6 aa<|gj.er ((z1 av).trans<|B7<|.inr<|of_decide_eq_true bf) aB C.dC A;have bG:¬(ga∈seen∨dB∈seen):=fun h=>h.elim (of_decide_eq_false bq)<|of_decide_eq_false bf;refine aQ<|aq<|ag fun aK=>au (.slice ar r.length cr)<|p (bc db aa aa ab<|aM.ok (J _ A)<|cg ab)<|p (ld bX aa<|cM.get (i:=1) (J _ A) ab)<|e<|cl td (tD (r.getD 1 []) 1024 cE ab ab) aa fun cR bK b4=> ?_;obtain ⟨rfl,aX⟩:=b4;have bD:=A.trans aX;have bs:=si (r.getD 1 []) 1024;refine p mv<|p (xt aa aa)<|p (xt aa aa)<|p aE<|ay<|aK<|az fun bO=>ag fun bR=>p mv<|p (dd aa aa)<|nl<|bR<|cd aa (fun ck=> ?_) fun ck=> ?_;refine ag fun a1=>p mv<|ay<|a1<|rt<|tr<|br<|tr<|a6 aa ?_;have aL:=q6 (s:=r.getD 1 []) (most:=1024) ab;show gj G H seen _ (.int .i64 (ew (r.getD 1 []) 1024).2) bK;rw [aL.2];exact gj.er ((z1 av).trans<|Hj bG aL.1) aB (C.wk aX).dC bD;exact aQ<|bO<|ag fun a1=>au (aV H.rb)<|au (.slice ar r.length cr)<|p mv<|e<|cl Cp (DY G H F k ln seen r aG ar cr (ew (r.getD 1 []) 1024).1 bK a7 ⟨V,vh,E.wk aX,C.wk aX,I,bD,aF⟩ aP (.inl ae) (by have :=bs ab; omega) fun _ h=>absurd av h) aa fun v146 cW b5=>ay<|a1<|rt<|br<|tr<|a6 aa<|gj.eq b5<|(z1 av).trans<|Q0 ae av bG<|pJ ab;have n6:¬r.getD 0 []=eX:=bd;have bt:=aaR cs cx cy cz cA cB cC n6;have cp:r.length=4:=by rw [hw,OW bt]
 exact aQ<|bn<|a2<|ag fun ah=>au (aV H.rb)<|au (.slice ar r.length cr)<|e<|cl R8 (Xm G H F k ln seen r aG ar cr ao a7 bB aP bu ci cp bt) aa fun cS cX b6=>ay<|ah<|rt<|a6 aa<|gj.eq b6<|XR bt
end Go.Hb.GY
end
section
namespace Go.Hb.kV
open Go.Hb.BS Go.Hb.GY Go.Hb.oV
theorem Tg.blt {w:World} {B e n cp:Nat} {a:Option Addr} {xs:List Value} (h:Tg w B e n (.slice a n cp) xs) (G:xs≠[]):bk a < w.heap.size:=by
 obtain ⟨I,O,E,_,C⟩:=h;cases E;rcases C with rfl | ⟨J,cur,z2,rfl,_,A,_⟩
 · exact absurd aa G
 · exact (dO.1 A).1
def QI (w':World) (B:Nat) (F:aU) (v:Value):Prop := ∃ B1 fb V,B≤B1∧v= .tuple #[.pointer (some ⟨fb,0,none⟩),.int .i64 0,.int .i64 0]∧eU w' B1 0 fb F V∧(∃ seen,oW F [] seen)∧Nx F
def QH (e:Nat×Nat) (v:Value):Prop :=v= .tuple #[.pointer none,.int .i64 (e.1:Nat),.int .i64 (e.2:Nat)]
theorem pF {l:List (c7×Value)} {i:Nat} {q:c7×Value} (h:l[i]? =some q):nA l≠[]:=fun h2=>by
 have h3:(nA l).length=l.length*8:=mL (f:=j4) (m:=8) (fun _=>rfl) _;have h4:=(fL.1 h).1;rw [h2] at h3;have h5:0=l.length*8:=h3;omega
def mD (s:Tx) (w:World) (v:Value) (w':World):Prop :=(match fQ s with | .ok F=>QI w' w.heap.size F v | .error e=>QH e v)∧Wk w w'
theorem mD.no {s:Tx} {w w':World} {l e:Nat} (h:fQ s= .error (l,e)) (hm:Wk w w'):mD s w (.tuple #[.pointer none,.int .i64 (l:Nat),.int .i64 (e:Nat)]) w':=by
 unfold mD; rw [h]; exact ⟨rfl,hm⟩
theorem aa3 (s:Tx) (w:World) (hs:s.length≤1048576):
 bm aw 55 (bh [str s]) w (mD s w):=by
 refine enter func55 aa ntmps55 aa<|ag fun di=>p aE<|p aE<|ay<|di<|az fun dk=>rg aa<|au (str s)<|e<|cl y9 (NB s _ hs) aa fun v20 eX d4=> ?_;obtain ⟨⟨a20,rfl,cP⟩,hE20⟩:=d4;refine p mv<|p (xt aa aa)<|p (xt aa aa)<|p aE<|ay<|dk<|az fun dl=>ag fun dn=>p mv<|p (dd aa aa)<|nl<|dn<|cd aa (fun cn=> ?_) fun cn=> ?_;have cL:65536 < s.length:=yi fun h=>cn<|by rw [if_neg h]
 refine ag fun b5=>p mv<|p aE<|p aE<|ay<|b5<|rt<|tr<|f3 aa aa aa aa ?_;have h:=mD.no (G7 cL) hE20;show mD s w (.tuple #[.pointer none,.int .i64 0,.int .i64 (if 65536 < s.length then 10 else 0)]) eX;rw [if_pos cL];exact h;have aC:¬65536 < s.length:=fun h=>cn<|by rw [if_pos h]; decide
 rw [if_neg aC] at cP;obtain ⟨vs,c1,eJ⟩:=cP;obtain ⟨ar,cr,rfl⟩:=cJ c1;refine aQ<|dl<|ag fun b5=>au (str s)<|e<|cl CO (Fa s _ hs) aa fun fs I d6=> ?_;obtain ⟨eH,b7⟩:=d6;obtain ⟨fr,e2,rfl⟩:=cJ eH;have aq:=hE20.trans b7;have fc:=pH s;have ff:=AA s;refine ay<|b5<|ag fun dq=>p (dj (ps:= [(0,.int .i64 1),(4,.int .i64 3)]) (L:= [.int .i64 1,.string ⟨⟨[]⟩⟩,.string ⟨⟨[]⟩⟩,.int .i64 0,.int .i64 0,.int .i64 0,.int .i64 0,.int .i64 0,.int .i64 3,.slice none 0 0,.slice none 0 0,.slice none 0 0,.slice none 0 0]) aco aa<|aa)<|e<|og aa fun C fA e7 cD dE=> ?_;have fk:=cD.size;refine p mv<|p mv<|p (bM fq aa aa)<|p (bJ (((bP s).length+1:Nat):Int) aa aa<|bp ab ab)<|p (dj (ps:= [(0,aV C),(1,.slice ar (bZ s).length cr),(3,ak ((bP s).length+1))]) (L:= [aV C,.slice ar (bZ s).length cr,.int .i64 0,ak ((bP s).length+1),.slice none 0 0,.int .i64 0]) acv aa<|aa)<|e<|og aa fun A bF e8 ce dG=> ?_;have fl:=ce.size;have dJ:Wk I bF:=cD.md.trans ce.md;have cA:GS I (⟨A,C,(bP s).length+1,.slice ar (bZ s).length cr,vs,bZ s⟩:gI):=⟨w.heap.size,(Tg.j6 c1).wk b7,eJ.wk b7,by show (bZ s).length≤70000; omega⟩
 have dL:eU bF I.heap.size 0 C iR ⟨.slice none 0 0,.slice none 0 0,.slice none 0 0,.slice none 0 0,[],[]⟩:=⟨Wk.aT ce.md dE,dK _ _ _ _,dK _ _ _ _,ja.nil _ _ _,dK _ _ _ _,dK _ _ _ _,ja.nil _ _ _,ab,rfl⟩
 have d1:iP bF I.heap.size (⟨A,C,(bP s).length+1,.slice ar (bZ s).length cr,vs,bZ s⟩:gI) 0 0 [] (.slice none 0 0):=⟨dG,dK _ _ _ _,by show I.heap.size≤A; omega⟩
 have ed:ni I bF (⟨A,C,(bP s).length+1,.slice ar (bZ s).length cr,vs,bZ s⟩:gI) iR 0 0 []:=⟨_,_,dL,d1,⟨by show 0 +0 +0 +0 +(bZ s).length≤70000; omega,by show 0 +(bZ s).length≤70000; omega,fun q ax=>by have h:=AB (show q∈bZ s from ax); exact ⟨h.2.2.1,ab,fun x eS=>by have :=(h.2.2.2.2 x eS).2; omega⟩,.inl rfl⟩,dJ,hZ _⟩
 have eE:Nx iR:=⟨fun l cp=>(by cases cp),fun l cp=>by cases cp⟩
 refine ay<|dq<|az fun dr=>aT<|lp (fun ao dc aO=> ∃ (bC:Nat) (F:aU) (k ln:Nat) (seen:List Tx),(ir (⟨A,C,(bP s).length+1,.slice ar (bZ s).length cr,vs,bZ s⟩:gI).eof bC F seen ((bZ s).drop k)=ir ((bP s).length+1) (bZ s).length iR [] (bZ s))∧(((bZ s).drop k).length≤bC)∧(ni I aO (⟨A,C,(bP s).length+1,.slice ar (bZ s).length cr,vs,bZ s⟩:gI) F k ln seen)∧(Nx F)∧(Sl dc [(5,.slice ar (bZ s).length cr),(8,aV A)])∧(((bZ s).drop k).length=ao)) _ ⟨(bZ s).length,iR,0,0,[],aa,(cU _),ed,eE,aa,aa⟩ ?_;rintro ao dc aO ⟨bC,F,k,ln,seen,ac,aL,G,cq,eK,rfl⟩;refine bG eK ?_;obtain ⟨V,vh,av,ah,J,bi,cW⟩:=G;have cW:k≤(bZ s).length:=cW;refine az fun ds=>ag fun du=>au (aV A)<|p (nc aa)<|p (fa qc aa)<|p (ld bD aa<|(bg ah.cells).trans aa)<|au (.slice ar (bZ s).length cr)<|p (bM A3 aa aa)<|p (lt aa aa)<|nl<|du<|cd aa (fun et=> ?_) fun et=> ?_;obtain ⟨n,r,aX,bd,dv,dy,aK,eP,aZ,bB,⟨dh,ci⟩,c4⟩:=cA.get bi (k:=k)<|by show k < (bZ s).length; omega
 have c5:bW ar (bZ s).length cr= .slice dv (bZ s).length dy:=eP;simp only [Value.slice.injEq,true_and] at c5;obtain ⟨rfl,rfl⟩:=c5;have aZ:aM aO.heap ar (lg vs):=aZ;have bB:vs[k]? =some (n,.slice aX r.length bd):=bB;have c4:vs.length=(bZ s).length:=c4;have aK:(bZ s).drop k=(n,r)::(bZ s).drop (k+1):=aK;have J:oW F ((bZ s).drop k) seen:=J;rw [aK] at ac aL J;have c2:=J.row (n,r)<|oS ..;have fe:0 < r.length:=l7.2 c2.1;have ei:=J.len;have el:=J.sl;simp only [cV] at ei el aL;have dA:=oW.qT J;have a1:∀ w,Wk I w→cM w.heap aX r:=fun w h=>(ci.wk h).dp.2;refine aQ<|ds<|aT<|ag fun bS=>au (.slice ar (bZ s).length cr)<|au (aV A)<|p (nc aa)<|p (fa qc aa)<|p (ld bD aa<|(bg ah.cells).trans aa)<|p (bc pB aa aa ab<|aM.ok (aZ)<|mo ab)<|p (fa xk aa)<|p (ld kj aa<|mq aZ bB 1 aB)<|ay<|bS<|ag fun bU=>au (aV A)<|au (.slice ar (bZ s).length cr)<|au (aV A)<|p (nc aa)<|p (fa qc aa)<|p (ld bD aa<|(bg ah.cells).trans aa)<|p (bc pB aa aa ab<|aM.ok (aZ)<|mo ab)<|p (fa uX aa)<|p (ld bD aa<|mq aZ bB 0 aB)<|p (nc aa)<|p (fa qY aa)<|e<|dx gR aa aa (v:=ak n) aa ah.cells (by show _ < 6; omega) fun eY ca dH=> ?_;have bs:=ah.dT (k':=k) (ln':=n) ca dH;have dW:=av.rb ah ca;have eh:Wk I eY:=bi.trans' ca fun q ax h=>by have :=ah.lo; omega
 refine nl<|bU<|ag fun bV=>au (aV A)<|au (aV A)<|p (nc aa)<|p (fa qc aa)<|p (ld bD aa<|(bg bs.cells).trans aa)<|p (bJ ((k+1:Nat):Int) aa aa<|bp ab ab)<|p (nc aa)<|p (fa qc aa)<|e<|dx gR aa aa (v:=ak<|k+1) aa bs.cells (by show _ < 6; omega) fun c9 cc dI=> ?_;have d8:=bs.dT (k':=k+1) (ln':=n) cc dI;have dY:=dW.rb bs cc;have ck:Wk I c9:=eh.trans' cc fun q ax h=>by have :=ah.lo; omega
 refine nl<|bV<|ag fun b0=>p mv<|p (bc db aa aa ab<|aM.ok (a1 _ ck)<|cg ab)<|p (ld bX aa<|cM.get (i:=0) (a1 _ ck) ab)<|e<|cl TL (XQ (r.getD 0 []) c9) aa fun ft aN d7=> ?_;obtain ⟨rfl,b8⟩:=d7;have a2:=ck.trans b8;have bk:=d8.wk b8;have dV:=dY.wk b8;refine ay<|b0<|az fun b1=>ag fun a5=>p mv<|p (bQ aa aa)<|nl<|a5<|cd aa (fun eu=> ?_) fun eu=> ?_;have aF:width (r.getD 0 [])=0:=ab;refine az fun a6=> ?_;have ai:(fun w'=>Wk aN w') aN.drew:=(Md.refl _ _).drew;exact bY (fun w'=>Wk aN w') aa wide ai<|bO 0 aa (aV A) ai<|aR 1 aa (nc aa) ai<|aR 2 aa (fa qY aa) ai<|bR 3 aa (fun w' G=>ld bD aa<|Wk.aW G<|(bg bk.cells).trans aa) ai<|aR 4 aa (aE) ai<|aR 5 aa (aE) ai<|aR 6 aa (aE) ai<|hn aj<|a6<|rt<|tr<|br<|tr<|br<|tr<|f3 aa aa aa aa<|mD.no (pZ aC<|Nl ac aL aF)<|aq.trans<|a2.trans ai;have aF:width (r.getD 0 [])≠0:=ab;refine aQ<|b1<|az fun a6=>ag fun b2=>p mv<|p (bM fq aa aa)<|p mv<|p (dd aa aa)<|nl<|b2<|cd aa (fun ev=> ?_) fun ev=> ?_;refine az fun a8=> ?_;have am:(fun w'=>Wk aN w') aN.drew:=(Md.refl _ _).drew;exact bY (fun w'=>Wk aN w') aa wide am<|bO 0 aa (aV A) am<|aR 1 aa (nc aa) am<|aR 2 aa (fa qY aa) am<|bR 3 aa (fun w' G=>ld bD aa<|Wk.aW G<|(bg bk.cells).trans aa) am<|aR 4 aa (aE) am<|aR 5 aa (aE) am<|aR 6 aa (aE) am<|hn aj<|a8<|rt<|tr<|br<|tr<|br<|tr<|f3 aa aa aa aa<|mD.no (pZ aC<|Nn ac aL aF ab)<|aq.trans<|a2.trans am;have h1:r.length=width (r.getD 0 []):=ab;refine aQ<|a6<|ag fun a8=>au (aV A)<|p mv<|p (bc db aa aa ab<|aM.ok (a1 _ a2)<|cg ab)<|p (ld bX aa<|cM.get (i:=0) (a1 _ a2) ab)<|e<|cl CP (D5 I.heap.size (⟨A,C,(bP s).length+1,.slice ar (bZ s).length cr,vs,bZ s⟩:gI) (k+1) n seen vh (r.getD 0 []) aN bk ab) aa fun fv bK d9=> ?_;obtain ⟨rfl,eR⟩:=d9;subst eR;refine ay<|a8 ?_;refine eo (fun de cw=>(width (r.getD 0 [])=2→r.getD 0 []∉seen)∧(cw=bK)∧(Sl de [(5,.slice ar (bZ s).length cr),(8,aV A),(9,.slice aX r.length bd)])) ?_ ?_;refine ag fun aD=>p mv<|p (bQ aa aa)<|p mv<|gs (t:=95) aa (fun ex=> ?_) fun ex=> ?_;refine aJ aa mv<|p (bH aa)<|nl<|aD<|cb aa (fun co=> ?_) fun co=> ?_;refine az fun a9=> ?_;have an:(fun w'=>Wk bK w') bK.drew:=(Md.refl _ _).drew;exact bY (fun w'=>Wk bK w') aa wide an<|bO 0 aa (aV A) an<|aR 1 aa (nc aa) an<|aR 2 aa (fa qY aa) an<|bR 3 aa (fun w' G=>ld bD aa<|Wk.aW G<|(bg bk.cells).trans aa) an<|aR 4 aa (aE) an<|aR 5 aa (aE) an<|aR 6 aa (aE) an<|hn aj<|a9<|rt<|tr<|br<|tr<|br<|tr<|f3 aa aa aa aa<|mD.no (pZ aC<|E6 ac aL aF h1 ab<|of_decide_eq_true co)<|aq.trans<|a2.trans an;exact aQ<|tn<|⟨(fun _=>of_decide_eq_false co),aa,aa⟩
 exact aH aa<|p (bA aa)<|nl<|aD<|cf aa<|aQ<|tn<|⟨(fun h=>absurd h ab),aa,aa⟩
 rintro de cw ⟨cZ,eQ,eL⟩;refine bG eL ?_;subst eQ;refine ag fun aD=>au (aV A)<|au (.slice aX r.length bd)<|e<|cl TM (XE I (⟨A,C,(bP s).length+1,.slice ar (bZ s).length cr,vs,bZ s⟩:gI) F (k+1) n seen r dh aX bd cw cA ⟨V,vh,dV,bk,dA,a2,by show k+1≤(bZ s).length; omega⟩ ci c2.2.2 (by show _+((bZ s).drop<|k+1).length < 70000; omega) h1 aF) aa fun eW ae d2=> ?_;obtain ⟨ez,ef⟩:=d2;obtain ⟨e3,rfl,cS⟩:∃ e:Nat,eW=ak e∧((e=0∧∃ F' k' ln',cH (⟨A,C,(bP s).length+1,.slice ar (bZ s).length cr,vs,bZ s⟩:gI).eof F seen ((bZ s).drop<|k+1) n r= .ok (F',(bZ s).drop k')∧ni I ae (⟨A,C,(bP s).length+1,.slice ar (bZ s).length cr,vs,bZ s⟩:gI) F' k' ln' seen)∨(e≠0∧∃ l:Nat,cH (⟨A,C,(bP s).length+1,.slice ar (bZ s).length cr,vs,bZ s⟩:gI).eof F seen ((bZ s).drop<|k+1) n r= .error (l,e)∧Hb.aW ae.heap A 5=some (ak l))):=by
  rcases ez with ⟨F',k',ln',h1,h2,h3⟩ | ⟨l,e,h1,h2,h3,h4⟩;exact ⟨0,h2,.inl ⟨aa,F',k',ln',h1,h3⟩⟩;exact ⟨e,h3,.inr ⟨h2,l,h1,h4⟩⟩
 refine ay<|aD<|az fun a9=>ag fun b3=>p mv<|p (dd aa aa)<|nl<|b3<|cd aa (fun em=> ?_) fun em=> ?_;obtain ⟨cY,fo,ey,eC⟩:=cS.resolve_left fun h=>by omega
 refine az fun bb=> ?_;have Z:(fun w'=>Wk ae w') ae.drew:=(Md.refl _ _).drew;exact bY (fun w'=>Wk ae w') aa wide Z<|bO 0 aa (aV A) Z<|aR 1 aa (nc aa) Z<|aR 2 aa (fa qY aa) Z<|bR 3 aa (fun w' G=>ld bD aa<|Wk.aW G<|eC) Z<|aR 4 aa (mv) Z<|aR 5 aa (aE) Z<|aR 6 aa (aE) Z<|aR 7 aa (aE) Z<|hn aj<|bb<|rt<|tr<|br<|tr<|br<|tr<|f3 aa aa aa aa<|mD.no (pZ aC<|E7 ac aL aF h1 cZ ey)<|aq.trans<|ef.trans Z;obtain ⟨_,F',k',ln',bu,eb⟩:=cS.resolve_right fun h=>by omega
 have cK:=E8 ac aL aF h1 cZ bu;obtain ⟨V2,fw,dO,aI,b6,bt,eB⟩:=eb;obtain ⟨aS,aY,rfl⟩:=cJ aI.hd;have eD:¬((bW aS seen.length aY).ownBlock=some A):=dX aI.hd aI.cells aB;refine aQ<|a9 ?_;have Y:(fun w'=>Md (fun q=>(bW aS seen.length aY).ownBlock=some q) ae w') ae.drew:=(Md.refl _ _).drew;refine e5 (fun w'=>Md (fun q=>(bW aS seen.length aY).ownBlock=some q) ae w') 12 aa wide Y<|bI 0 aa (aV A) Y<|bI 1 aa (aV A) Y<|bN 2 aa (nc aa) Y<|bN 3 aa (fa qX aa) Y<|ea 4 aa (fun w' G=>ld kj aa<|Md.aW G ((bg aI.cells).trans aa) eD) Y<|bI 5 aa (.slice aX r.length bd) Y<|bN 6 aa (bc db aa aa ab<|aM.ok (a1 _ bt)<|cg ab) Y<|ea 7 aa (fun w' G=>ld bX aa<|cM.get (i:=0) (aM.md (a1 _ bt) G fun cY h=>by have h1:=Tg.blt ci cY; have h2:=(dQ aI.hd h).1; omega) ab) Y<|gS 8 aa aj<|gz gq aa aa fun e0 c7 e4 d0 dC=> ?_;have bj:=iY d0.md;have a0:=aI.wk bj;have cF:(fun w'=>Md (fun q=>(bW aS seen.length aY).ownBlock=some q) ae w') c7:=Md.mono bj fun _ _ h=>h.elim;refine ⟨cF,?_⟩;refine gS 9 aa aj<|ap gq (a0.hd) aa (by have :=bt.size; have :=bj.size; omega) aa (aM.ec dC) (aa) (aa) ab ab fun c6 c8 c0 bq fh fb=> ?_;have cN:=bq.aT a0.cells<|dX a0.hd a0.cells aB;have eG:=nJ c0;have ch:(fun w'=>Md (fun q=>(bW aS seen.length aY).ownBlock=some q) ae w') c8:=cF.trans' bq fun _ _ h=>h;refine ⟨ch,?_⟩;refine bN 10 aa (nc aa) ch<|bN 11 aa (fa qX aa) ch<|dU 12 aa aj aj<|dx Jc aa aa (v:=c6) (fy c0) cN (by show _ < 6; omega) fun cv b9 dB=> ?_;have dP:=dO.wk bj;have ee:TF c7 [11] (fun q=>(bW aS seen.length aY).ownBlock=some q):=TF.own a0.hd aB;have dR:=dP.md bq ee aB;have cG:TF c8 [210] (fun q=>q=A):=TF.eq (dN cN) aB;have dS:=dR.md b9 cG aB;have d5:iP cv I.heap.size (⟨A,C,(bP s).length+1,.slice ar (bZ s).length cr,vs,bZ s⟩:gI) k' ln' (seen++ [r.getD 0 []]) c6:=⟨dB,cQ eG b9 cG aB,aI.lo⟩
 have eg:Wk I cv:=((bt.trans bj).trans' bq fun q ax h=>by have :=(dQ a0.hd h).1; omega).trans' b9 fun q ax h=>by omega
 have fg:=r8 bu;have Y:ni I cv (⟨A,C,(bP s).length+1,.slice ar (bZ s).length cr,vs,bZ s⟩:gI) F' k' ln' (seen++ [r.getD 0 []]):=⟨_,_,dS,d5,⟨b6.len,by rw [bL,fu]; show seen.length+1 +((bZ s).drop k').length≤70000; omega,b6.row,b6.kd⟩,eg,eB⟩
 have eF:=z7 cq bu;exact eZ aj<|bn<|tn<|⟨_,by rw [aK]; have :=r8 bu; simp only [cV]; omega,bC - 1,F',k',ln',seen++ [r.getD 0 []],cK.1,cK.2,Y,eF,aa,aa⟩
 have aK:(bZ s).drop k= []:=iJ ab;rw [aK,xR] at ac;refine ext<|bf<|bf<|be<|dr<|ag fun bS=>au (aV A)<|p (nc aa)<|p (fa mj aa)<|p (ld iS aa<|(bg ah.cells).trans aa)<|ay<|bS<|az fun bU=>az fun bV=>rg aa<|ay<|bV<|aT ?_;obtain ⟨a12,lu,c3⟩:=cJ av.dM;have a3:=av.dM;rw [c3] at a3;have bv:Hb.aW aO.heap C 12=some (.slice a12 F.rules.length lu):=by rw [← c3]; exact (bg av.cells).trans rfl
 have e9:=J.len;refine lp (fun ao df da=> ∃ (i:Nat),(i≤F.rules.length)∧(∀ j q,j < i→F.rules[j]? =some q→o5 F q=false)∧(Wk aO da)∧(Sl df [(12,aV C),(13,ak i)])∧(F.rules.length - i=ao)) _ ⟨0,ab,(fun j q cT=>by omega),(Md.refl _ _),aa,aa⟩ ?_;rintro ao df da ⟨i,hi,bx,bo,eM,rfl⟩;refine bG eM<|az fun b0=>az fun b1=> ?_;have en:=Wk.aW bo bv;refine rg aa<|au (ak i)<|au (aV C)<|p (nc aa)<|p (fa kf aa)<|p (ld kD aa<|en)<|p (bM vw aa aa)<|p (lt aa aa)<|nl<|b1<|cd aa (fun ep=> ?_) fun ep=> ?_;refine aQ<|b0<|az fun a5=>aT<|az fun a6=> ?_;have cR:i < F.rules.length:=ab;obtain ⟨vn,eO,cj⟩:=ja.get av.nx (i:=i)<|by rw [fP]; exact cR
 obtain ⟨q,a4⟩:∃ q,F.rules[i]? =some q:=⟨_,cx cR⟩
 have eI:(F.rules.map (·.next)).getD i []=q.next:=by rw [cX,gx,a4]; rfl
 rw [eI] at cj;have fd:=cq.2 q<|gC a4;obtain ⟨dw,dz,rfl⟩:=cj.slice;have aA:(F.rules.zip V.rn)[i]? =some (q,.slice dw q.next.length dz):=by rw [jW]; exact ⟨a4,eO⟩
 refine rg aa<|ay<|a6<|aT<|lp (fun ao dg cy=> ∃ (j:Nat),(j≤q.next.length)∧(∀ bl,bl < j→nH F (q.next.getD bl 0)=true)∧(Wk aO cy)∧(Sl dg [(12,aV C),(13,ak i),(14,ak j)])∧(q.next.length - j=ao)) _ ⟨0,ab,(fun bl eA=>by omega),bo,aa,aa⟩ ?_;rintro ao dg cy ⟨j,cT,cs,aG,eN,rfl⟩;refine bG eN<|az fun b2=>az fun a8=> ?_;have cO:=Wk.aW aG bv;have bz:=a7 a3 aG;refine rg aa<|au (ak j)<|au (aV C)<|p (nc aa)<|p (fa kf aa)<|p (ld kD aa<|cO)<|au (ak i)<|p (bc pA aa aa ab<|aM.ok ((ba bz).2)<|pF aA)<|p (fa xn aa)<|p (ld qO aa<|fC (f:=j4) (m:=8) (fun _=>rfl) (ba bz).2 aA 6 aB)<|p (bM mr aa aa)<|p (lt aa aa)<|nl<|a8<|cd aa (fun er=> ?_) fun er=> ?_;refine aQ<|b2<|az fun aD=>aT<|az fun a9=> ?_;have cI:=cj.wk aG;have eT:(q.next.map bT)[j]? =some (bT<|q.next.getD j 0):=by rw [gx,cX,cx (by omega :j < q.next.length)]; rfl
 refine rg aa<|au (aV C)<|p (nc aa)<|p (fa kf aa)<|p (ld kD aa<|cO)<|au (ak i)<|p (bc pA aa aa ab<|aM.ok ((ba bz).2)<|pF aA)<|p (fa xn aa)<|p (ld qO aa<|fC (f:=j4) (m:=8) (fun _=>rfl) (ba bz).2 aA 6 aB)<|au (ak j)<|p (bc ke aa aa ab<|aM.ok (cI.dp.2)<|cg ab)<|p (ld bD aa<|aM.gY cI.dp.2 eT)<|ay<|a9<|az fun b3=>rg aa<|au (aV C)<|p mv<|e<|cl CQ (DV I.heap.size 0 C F V (q.next.getD j 0) cy (av.wk aG) ab) aa fun v164 fz d3=> ?_;obtain ⟨rfl,cz⟩:=d3;have fj:=cz.size;refine p mv<|p (xt aa aa)<|p (xt aa aa)<|e<|al tM fun e1 fx e6 cC dD=>e<|dt rS aa aa aa aa (dD) (by simp) fun aP dZ dF=> ?_;have O:Wk aO aP:=(aG.trans<|cz.trans cC.md).trans' dZ fun q ax h=>by have :=aG.size; omega
 have fi:=cC.size;refine ay<|b3<|ag fun bb=>p mv<|au (aV C)<|p (nc aa)<|p (fa uV aa)<|p (kJ uy aa aa ab)<|p (ld bD aa<|(bg (av.wk O).cells).trans aa)<|p (dd aa aa)<|p mv<|gs (t:=174) aa (fun ew=> ?_) fun ew=> ?_;refine aJ aa mv<|aJ aa (no aa)<|aJ aa mv<|gb (t:=177) aa (fun bw=> ?_) fun bw=> ?_;refine aH aa<|aH aa<|aH aa<|aJ aa (bH aa)<|p (bH aa)<|nl<|bb<|ct aa<|az fun b4=> ?_;have E:(fun w'=>Wk aP w') aP.drew:=(Md.refl _ _).drew;refine bY (fun w'=>Wk aP w') aa wide E<|bO 0 aa (aV C) E<|aR 1 aa (nc aa) E<|aR 2 aa (fa kf aa) E<|bR 3 aa (fun w' G=>ld kD aa<|Wk.aW G<|Wk.aW O bv) E<|bO 4 aa (ak i) E<|aR 5 aa (bc pA aa aa ab<|aM.ok ((ba<|a7 a3 O).2)<|pF aA) E<|aR 6 aa (fa KN aa) E<|bR 7 aa (fun w' G=>ld bD aa<|Wk.aW G<|fC (f:=j4) (m:=8) (fun _=>rfl) (ba<|a7 a3 O).2 aA 7 aB) E<|aR 8 aa (aE) E<|aR 9 aa (aE) E<|aR 10 aa (aE) E<|hn aj<|b4<|rt<|br<|tr<|tr<|br<|br<|tr<|tr<|br<|tr<|f3 aa aa aa aa ?_;have cm:fQ s= .error (q.line,118):=BT aC ac.symm<|rY bx a4<|rN (j:=j) ab<|Av ab<|by simpa using bw
 exact mD.no cm<|aq.trans<|bi.trans<|O.trans E;refine aJ aa (fa zS aa)<|aJ aa (ld bD aa<|(dF.aW 1).trans aa)<|aJ aa (dd aa aa)<|aJ aa (bA aa)<|p (bH aa)<|nl<|bb<|cd aa (fun es=> ?_) fun es=> ?_;refine az fun b4=> ?_;have E:(fun w'=>Wk aP w') aP.drew:=(Md.refl _ _).drew;refine bY (fun w'=>Wk aP w') aa wide E<|bO 0 aa (aV C) E<|aR 1 aa (nc aa) E<|aR 2 aa (fa kf aa) E<|bR 3 aa (fun w' G=>ld kD aa<|Wk.aW G<|Wk.aW O bv) E<|bO 4 aa (ak i) E<|aR 5 aa (bc pA aa aa ab<|aM.ok ((ba<|a7 a3 O).2)<|pF aA) E<|aR 6 aa (fa KN aa) E<|bR 7 aa (fun w' G=>ld bD aa<|Wk.aW G<|fC (f:=j4) (m:=8) (fun _=>rfl) (ba<|a7 a3 O).2 aA 7 aB) E<|aR 8 aa (aE) E<|aR 9 aa (aE) E<|aR 10 aa (aE) E<|hn aj<|b4<|rt<|br<|tr<|tr<|br<|br<|tr<|tr<|br<|tr<|f3 aa aa aa aa ?_;have cm:fQ s= .error (q.line,118):=BT aC ac.symm<|rY bx a4<|rN (j:=j) ab<|Au ab (by simpa using bw)<|by show ((ej F.bE<|q.next.getD j 0).getD pf).kind≠2; omega
 exact mD.no cm<|aq.trans<|bi.trans<|O.trans E;exact aQ<|bn<|aD<|rg aa<|au (ak j)<|p (ad aa aa<|cB ab)<|p aE<|nl<|tn<|⟨_,ab,j+1,ab,(fun k hk=>by rcases fM k j with h | h <;> first | exact cs k h | (rw [show k=j by omega]; exact MZ (by simpa using bw)<|by show ((ej F.bE<|q.next.getD j 0).getD pf).kind=2; omega)),O,aa,aa⟩
 exact aH aa<|aH aa<|aH aa<|ek aa<|ek aa<|ek aa<|aH aa<|p (bA aa)<|nl<|bb<|cf aa<|aQ<|bn<|aD<|rg aa<|au (ak j)<|p (ad aa aa<|cB ab)<|p aE<|nl<|tn<|⟨_,ab,j+1,ab,(fun k hk=>by rcases fM k j with h | h <;> first | exact cs k h | (rw [show k=j by omega]; exact MY ab)),O,aa,aa⟩
 exact ext<|bf<|bf<|be<|bn<|a5<|rg aa<|au (ak i)<|p (ad aa aa<|cB ab)<|p aE<|nl<|tn<|⟨_,ab,i+1,ab,(fun k eV hk cu=>by rcases fM k i with h | h <;> first | exact bx k eV h cu | (rw [show k=i by omega,a4] at cu; cases cu; exact Hv fun bl eA=>cs bl ab)),aG,aa,aa⟩
 refine ext<|bf<|bf<|be<|bU<|ag fun a5=>au (aV C)<|p (cE (aV C) aa)<|p aE<|ay<|a5<|rt<|f3 aa aa aa aa ?_;unfold mD;rw [G9 aC ac.symm (Kf fun j q cT ax=>bx j q ab ax)];exact ⟨⟨I.heap.size,C,V,by have :=aq.size; omega,aa,av.wk bo,⟨seen,by have J:=J; rw [show (gI.rows (⟨A,C,(bP s).length+1,.slice ar (bZ s).length cr,vs,bZ s⟩:gI)).drop k= [] from aK] at J; exact J⟩,cq⟩,aq.trans<|bi.trans bo⟩
end Go.Hb.kV
end
section
namespace Go.Hb.jO
open Go.Hb.kV
def QC (w':World) (X:Except Nat bC) (v:Value):Prop :=(∃ x a,X= .ok x∧v= .tuple #[.agg [str x.1,a].toArray,.int .i64 (0:Nat)]∧a.oneCell'=true∧Tg w' 0 3 x.2.length a (x.2.map bT))∨(∃ e,X= .error e∧e≠0∧v= .tuple #[.agg [str [],.slice none 0 0].toArray,.int .i64 (e:Nat)])
theorem tH (w:World) (B e:Nat):Tg w B e 0 (.slice none 0 0) []:=Tg.j6 (size:=1)<|dK _ _ _ _
def nZ (w:World) (B:Nat) (v:Value) (xs:List bC):Prop := ∃ vs,bz w B 87 2 v xs.length (kG<|xs.zip vs)∧ja w 0 3 vs (xs.map (·.2))
theorem nZ.md {G:Nat→Prop} {w w':World} {B:Nat} {v:Value} {xs:List bC} (h:nZ w B v xs) (hm:Md G w w') {L:List Nat} (C:TF w L G) (A:(L.contains 89 || L.contains 5)=false):nZ w' B v xs:=by
 simp only [oP] at A;obtain ⟨vs,h1,h2⟩:=h;exact ⟨vs,cQ h1 hm C A.1,h2.md hm fun k hk cur z E=>C.no (dN E) A.2 hk⟩
theorem nZ.wk {w w':World} {B:Nat} {v:Value} {xs:List bC} (h:nZ w B v xs) (hm:Wk w w'):nZ w' B v xs:=h.md (L:= []) hm (fun _ hk=>hk.elim) rfl
def l8 (F:aU) (t:Tx) (w:World) (v:Value) (w':World):Prop :=(match fN F t with | .ok xs=> ∃ a,v= .tuple #[a,.int .i64 0,.int .i64 0]∧nZ w' w.heap.size a xs | .error e=>v= .tuple #[.slice none 0 0,.int .i64 (e.1:Nat),.int .i64 (e.2:Nat)])∧Wk w w'
theorem l8.no {F:aU} {t:Tx} {w w':World} {l e:Nat} (h:fN F t= .error (l,e)) (hm:Wk w w'):l8 F t w (.tuple #[.slice none 0 0,.int .i64 (l:Nat),.int .i64 (e:Nat)]) w':=by
 unfold l8; rw [h]; exact ⟨rfl,hm⟩
theorem XI (B fb:Nat) (F:aU) (V:eF) (x:Nat) (w:World) (E:eU w B 0 fb F V) (aB:F.bE.length≤70000):
 bm aw 160 (bh [aV fb,bT x]) w (fun v w'=>v= .bool (eV F x)∧Wk w w'):=by
 have aH:=E.gr;refine enter func160 aa ntmps160 aa<|ag fun ae=>ay<|ae<|az fun ah=>ag fun ai=>ay<|ai<|aT<|lp (fun I ac G=> ∃ (i:Nat),(i≤5)∧(∀ j,j < i→F.sp.getD j 0≠x)∧(G=w)∧(Sl ac [(0,aV fb),(1,bT x),(5,ak i)])∧(5 - i=I)) _ ⟨0,ab,(fun j Y=>by omega),aa,aa,aa⟩ ?_;rintro I ac G ⟨i,hi,Z,ap,aC,rfl⟩;refine bG aC ?_;subst ap;refine az fun aj=>ag fun am=>au (ak i)<|p (lt aa aa)<|nl<|am<|cd aa (fun aA=> ?_) fun aA=> ?_;refine aQ<|aj<|az fun A=>aT<|ag fun C=>au (aV fb)<|au (ak i)<|p (nc aa)<|p (fa uV aa)<|p (kJ uy aa aa ab)<|p (ld bD aa<|(bg E.cells).trans<|Lh (i:=i) ab)<|au (bT x)<|p (bQ aa aa)<|nl<|C<|cd aa (fun O=> ?_) fun O=> ?_;exact ag fun an=>ay<|an<|rt<|br<|tr<|tr<|br<|tr<|a6 aa<|⟨by rw [Jl (show x∈F.sp from by obtain rfl :F.sp.getD i 0=x:=ab; exact eb ab)]; rfl,Md.refl _ _⟩
 exact aQ<|bn<|A<|rg aa<|au (ak i)<|p (ad aa aa<|cB ab)<|p aE<|nl<|tn<|⟨_,ab,i+1,ab,(fun j Y=>by rcases fM j i with h | h <;> first | exact Z j h | (rw [show j=i by omega]; exact fun h2=>O<|by rw [h2])),aa,aa,aa⟩
 refine ext<|bf<|bf<|be<|ah<|ag fun A=>au (aV fb)<|au (bT x)<|e<|cl CQ (DV B 0 fb F V x G E aB) aa fun v23 aJ ax=> ?_;obtain ⟨rfl,J⟩:=ax;have aI:=J.size;exact p mv<|p (xt aa aa)<|p (xt aa aa)<|e<|al tM fun aD aK aG av ao=>e<|dt rS aa aa aa aa (ao) (by simp) fun aL aq aF=>ay<|A<|ag fun C=>p mv<|ay<|C<|rt<|a6 aa<|⟨by rw [Jm (xC fun j Y=>Z j ab)]; rfl,(J.trans av.md).trans' aq fun k hk h=>by omega⟩
theorem Xr (B fb:Nat) (F:aU) (V:eF) (r:List Tx) (bd:Nat) (ar:Option Addr) (cr:Nat) (w:World) (a3:eU w B 0 fb F V) (bR:∃ seen,oW F [] seen) (ch:Nx F) (b7:Tg w bd 9 r.length (.slice ar r.length cr) (r.map str)) (ci:∀ x∈r,x.length≤70000) (cy:r.length≤70000):
 bm aw 100 (bh [aV fb,.slice ar r.length cr]) w (fun v w'=>QC w' (gl F r) v∧Wk w w'):=by
 obtain ⟨seen,a1⟩:=bR;have cv:=a1.len;have cC:=tL<|r.getD 0 [];refine enter func100 aa ntmps100 aa<|ag fun bg=>e<|gk O9 fun aX ba cu ah a0=> ?_;have cF:=ah.size;have a5:=b7.wk ah.md;have bV:=a3.wk ah.md;have aK:bS ba.heap aX [str [],.slice none 0 0]:=⟨_,a0⟩
 refine ay<|bg<|az fun bq=>ag fun bw=>au (.slice ar r.length cr)<|p (bM fq aa aa)<|p (dd aa aa)<|nl<|bw<|cd aa (fun b8=> ?_) fun b8=> ?_;exact ag fun aD=>p (dj (ps:= []) (L:= [.string ⟨⟨[]⟩⟩,.slice none 0 0]) q9 aa<|aa)<|e<|dt p8 aa aa aa aa (aK) (by simp) fun cQ b1 bO=>ay<|aD<|rt<|tr<|eN aa (ed (cs:= [str [],.slice none 0 0]) aa p5 aa fun j C=>bO.bB j) eD<|⟨.inr ⟨111,JE ab,aB,aa⟩,ah.md.trans' b1 fun q A h=>by omega⟩
 have J:r.length=1:=ab;have cz:(r.getD 0 []).length≤70000:=ci _<|eb ab;refine aQ<|bq<|ag fun aD=>au (.slice ar r.length cr)<|p (bc db aa aa ab<|aM.ok (a5.dp.2)<|cg ab)<|p (ld bX aa<|cM.get (i:=0) a5.dp.2 ab)<|e<|cl y4 (AG (r.getD 0 []) ba ab) aa fun v22 cm b3=> ?_;obtain ⟨rfl,Y⟩:=b3;have a2:=ah.md.trans Y;have cD:=Y.size;refine p mv<|p (xt aa aa)<|p (xt aa aa)<|p (xt aa aa)<|p (xt aa aa)<|p aE<|p aE<|p aE<|ay<|aD<|az fun bx=>ag fun bz=>p mv<|p (dd aa aa)<|nl<|bz<|cd aa (fun b9=> ?_) fun b9=> ?_;exact ag fun aF=>p (dj (ps:= []) (L:= [.string ⟨⟨[]⟩⟩,.slice none 0 0]) q9 aa<|aa)<|p mv<|e<|dt p8 aa aa aa aa (Wk.B Y aK) (by simp) fun cS b2 bP=>ay<|aF<|rt<|tr<|eN aa (ed (cs:= [str [],.slice none 0 0]) aa p5 aa fun j C=>bP.bB j) eD<|⟨.inr ⟨_,zr J ab,ab,aa⟩,a2.trans' b2 fun q A h=>by omega⟩
 have O:(bF<|r.getD 0 []).2.2.2=0:=ab;refine aQ<|bx<|ag fun aF=>p mv<|e<|cl wx (xP (bF<|r.getD 0 []).1 cm ab) aa fun v32 cn b4=> ?_;obtain ⟨rfl,ac⟩:=b4;have ae:=a2.trans ac;have ai:=Wk.B (Y.trans ac) aK;have cE:=ac.size;refine ay<|aF<|az fun bC=>ag fun aW=>p mv<|p (cR u9 aa aa)<|p (bQ aa aa)<|p mv<|gs (t:=36) aa (fun a9=> ?_) fun a9=> ?_;have aN:gQ (bF<|r.getD 0 []).1=false∨(bF<|r.getD 0 []).1= []:= .inr<|fR ab;exact aH aa<|aH aa<|p (bH aa)<|nl<|aW<|ct aa<|ag fun Z=>p (dj (ps:= []) (L:= [.string ⟨⟨[]⟩⟩,.slice none 0 0]) q9 aa<|aa)<|e<|dt p8 aa aa aa aa (ai) (by simp) fun cp aI aG=>ay<|Z<|rt<|tr<|eN aa (ed (cs:= [str [],.slice none 0 0]) aa p5 aa fun j C=>aG.bB j) eD<|⟨.inr ⟨21,zt J O aN,aB,aa⟩,ae.trans' aI fun q A h=>by omega⟩
 refine aJ aa mv<|aJ aa (no aa)<|p (bA aa)<|nl<|aW<|cb aa (fun aO=> ?_) fun aO=> ?_;have aN:gQ (bF<|r.getD 0 []).1=false∨(bF<|r.getD 0 []).1= []:=by
  first
   | exact .inl<|by simpa using aO
   | exact .inr<|fR ab
 exact ag fun Z=>p (dj (ps:= []) (L:= [.string ⟨⟨[]⟩⟩,.slice none 0 0]) q9 aa<|aa)<|e<|dt p8 aa aa aa aa (ai) (by simp) fun cp aI aG=>ay<|Z<|rt<|tr<|eN aa (ed (cs:= [str [],.slice none 0 0]) aa p5 aa fun j C=>aG.bB j) eD<|⟨.inr ⟨21,zt J O aN,aB,aa⟩,ae.trans' aI fun q A h=>by omega⟩
 have an:(bF<|r.getD 0 []).1≠[]:=fun h=>a9<|by rw [h]; rfl
 have aj:gQ (bF<|r.getD 0 []).1=true :=by simpa using aO
 refine aQ<|bC<|az fun Z=>ag fun bi=>p mv<|p (cR u9 aa aa)<|p (gt aa aa)<|nl<|bi<|cd aa (fun ca=> ?_) fun ca=> ?_;exact ag fun av=>p (dj (ps:= []) (L:= [.string ⟨⟨[]⟩⟩,.slice none 0 0]) q9 aa<|aa)<|e<|dt p8 aa aa aa aa (ai) (by simp) fun cK bW bI=>ay<|av<|rt<|tr<|eN aa (ed (cs:= [str [],.slice none 0 0]) aa p5 aa fun j C=>bI.bB j) eD<|⟨.inr ⟨22,JF J O aj an ab,aB,aa⟩,ae.trans' bW fun q A h=>by omega⟩
 refine aQ<|Z<|az fun av=>ag fun bj=>p mv<|p (no aa)<|nl<|bj<|cb aa (fun al=> ?_) fun al=> ?_;exact ag fun ax=>p mv<|p (dj (ps:= [(0,str (bF<|r.getD 0 []).1)]) (L:= [str (bF<|r.getD 0 []).1,.slice none 0 0]) q9 aa<|aa)<|e<|dt p8 aa aa aa aa (ai) (by simp) fun cL bY bJ=>ay<|ax<|rt<|tr<|eN aa (ed (cs:= [str (bF<|r.getD 0 []).1,.slice none 0 0]) aa p5 aa fun j C=>bJ.bB j) eD<|⟨.inl ⟨_,.slice none 0 0,JG J O aj an ab (by simpa using al),aa,aa,tH _ _ _⟩,ae.trans' bY fun q A h=>by omega⟩
 refine aQ<|av<|ag fun ax=>au (aV fb)<|p mv<|e<|cl HR (Lf B fb F V (bF<|r.getD 0 []).2.1 cn (bV.wk<|Y.trans ac).r a1.kd ab ab) aa fun cI co b5=> ?_;obtain ⟨⟨cq,aY,rfl,cw,a8⟩,hE52⟩:=b5;have ao:=ae.trans hE52;have aL:=Wk.B hE52 ai;have cG:=hE52.size;refine p mv<|p (xt aa aa)<|p (xt aa aa)<|p aE<|ay<|ax<|az fun bk=>ag fun bl=>p mv<|p (dd aa aa)<|nl<|bl<|cd aa (fun a7=> ?_) fun a7=> ?_;have aR:aY≠0:=fun bE=>a7<|by rw [bE]; rfl
 rcases a8 with ⟨l,h,_⟩ | ⟨cf,am⟩;exact absurd h aR;exact ag fun aA=>p (dj (ps:= []) (L:= [.string ⟨⟨[]⟩⟩,.slice none 0 0]) q9 aa<|aa)<|p mv<|e<|dt p8 aa aa aa aa (aL) (by simp) fun cN bZ bK=>ay<|aA<|rt<|tr<|eN aa (ed (cs:= [str [],.slice none 0 0]) aa p5 aa fun j C=>bK.bB j) eD<|⟨.inr ⟨_,JH J O aj an ab (by simpa using al) am,cf,aa⟩,ao.trans' bZ fun q A h=>by omega⟩
 have aR:aY=0:=ab;have ce:=a8.resolve_right fun h=>h.1 aR;obtain ⟨set,_,am,aq⟩:=ce;have ck:=aq.slice;obtain ⟨E,G,A⟩:=ck;subst A;have cA:=zC ch.1 am;refine aQ<|bk<|az fun aA=>ag fun bo=>ay<|bo<|aT<|lp (fun aZ bb aS=> ∃ (j:Nat),(j≤set.length)∧(∀ q,q < j→eV F (set.getD q 0)=true)∧(Wk co aS)∧(Sl bb [(0,aV fb),(4,aV aX),(6,str (bF<|r.getD 0 []).1),(11,.slice E set.length G),(12,ak j)])∧(set.length - j=aZ)) _ ⟨0,ab,(fun q A=>by omega),(Md.refl _ _),aa,aa⟩ ?_;rintro aZ bb aS ⟨j,C,a6,I,cj,rfl⟩;refine bG cj<|az fun bp=>ag fun bs=>au (ak j)<|au (.slice E set.length G)<|p (bM mr aa aa)<|p (lt aa aa)<|nl<|bs<|cd aa (fun cc=> ?_) fun cc=> ?_;refine aQ<|bp<|az fun aC=>aT<|ag fun bt=>au (aV fb)<|au (.slice E set.length G)<|au (ak j)<|p (bc ke aa aa ab<|aM.ok ((aq.wk I).dp.2)<|cg ab)<|p (ld bD aa<|aM.gY (aq.wk I).dp.2 (show (set.map bT)[j]? =some (bT<|set.getD j 0) by rw [gx,cX,cx (by omega :j < set.length)]; rfl)) ?_;refine e<|cl R9 (XI B fb F V (set.getD j 0) aS (a3.wk<|ao.trans I) ab) aa fun v70 cJ b6=> ?_;obtain ⟨rfl,bU⟩:=b6;have ap:=I.trans bU;have cH:=ap.size;refine ay<|bt<|ag fun bu=>p mv<|p (no aa)<|nl<|bu<|cb aa (fun aP=> ?_) fun aP=> ?_;exact ag fun bv=>p (dj (ps:= []) (L:= [.string ⟨⟨[]⟩⟩,.slice none 0 0]) q9 aa<|aa)<|e<|dt p8 aa aa aa aa (Wk.B ap aL) (by simp) fun cO b0 bL=>ay<|bv<|rt<|br<|tr<|tr<|br<|tr<|eN aa (ed (cs:= [str [],.slice none 0 0]) aa p5 aa fun j C=>bL.bB j) eD<|⟨.inr ⟨120,JI J O aj an ab (by simpa using al) am (i:=j) ab (by simpa using aP),aB,aa⟩,(ao.trans ap).trans' b0 fun q A h=>by omega⟩
 exact aQ<|bn<|aC<|rg aa<|au (ak j)<|p (ad aa aa<|cB ab)<|p aE<|nl<|tn<|⟨_,ab,j+1,ab,(fun q A=>by rcases fM q j with h | h <;> first | exact a6 q h | (rw [show q=j by omega]; simpa using aP)),ap,aa,aa⟩
 exact ext<|bf<|bf<|be<|aA<|ag fun aC=>au (str (bF<|r.getD 0 []).1)<|au (.slice E set.length G)<|p (dj (ps:= [(0,str (bF<|r.getD 0 []).1),(1,.slice E set.length G)]) (L:= [str (bF<|r.getD 0 []).1,.slice E set.length G]) q9 aa<|aa)<|e<|dt p8 aa aa aa aa (Wk.B I aL) (by simp) fun cP a4 bN=>ay<|aC<|rt<|eN aa (ed (cs:= [str (bF<|r.getD 0 []).1,.slice E set.length G]) aa p5 aa fun j C=>bN.bB j) eD<|⟨.inl ⟨((bF<|r.getD 0 []).1,set),.slice E set.length G,Dc J O aj an ab (by simpa using al) am (fun j C=>a6 j ab),aa,aa,(aq.wk I).md a4<|fT (Wk.aT ((Y.trans<|ac.trans hE52).trans I) a0) aB⟩,(ao.trans I).trans' a4 fun q A h=>by omega⟩
end Go.Hb.jO
end
section
namespace Go.Hb
open Go.Hb.kV Go.Hb.jO
theorem Lz {r:List Tx} (h:r.length≠1):lY r=(0,111):=if_pos h
theorem Yf {r:List Tx} (h:r.length=1):lY r=ew (r.getD 0 []) 8192:=if_neg fun h2=>h2 h
theorem Xp (B fb:Nat) (F:aU) (V:eF) (t:Tx) (w:World) (cD:eU w B 0 fb F V) (cw:∃ seen,oW F [] seen) (c1:Nx F) (hs:t.length≤1048576):
 bm aw 56 (bh [aV fb,str t]) w (l8 F t w):=by
 refine enter func56 aa ntmps56 aa<|ag fun b7=>p aE<|p aE<|ay<|b7<|az fun cf=>rg aa<|au (str t)<|e<|cl y9 (NB t _ hs) aa fun v17 dh cF=> ?_;obtain ⟨⟨a17,rfl,bF⟩,hE17⟩:=cF;refine p mv<|p (xt aa aa)<|p (xt aa aa)<|p aE<|ay<|cf<|az fun ck=>ag fun cm=>p mv<|p (dd aa aa)<|nl<|cm<|cd aa (fun a4=> ?_) fun a4=> ?_;have bw:65536 < t.length:=yi fun h=>a4<|by rw [if_neg h]
 refine ag fun aP=>p mv<|p aE<|p aE<|ay<|aP<|rt<|tr<|f3 aa aa aa aa ?_;have h:=l8.no (F:=F) (Jt bw) hE17;show l8 F t w (.tuple #[.slice none 0 0,.int .i64 0,.int .i64 (if 65536 < t.length then 10 else 0)]) _;rw [if_pos bw];exact h;have ao:¬65536 < t.length:=fun h=>a4<|by rw [if_pos h]; decide
 rw [if_neg ao] at bF;obtain ⟨vs,b1,a9⟩:=bF;obtain ⟨ar,cr,rfl⟩:=cJ b1;have dw:=AA t;have cy:=(ba b1).2;have dx:=a9.1;refine aQ<|ck<|ag fun aP=>au (str t)<|e<|cl CO (Fa t _ hs) aa fun v24 ae cG=> ?_;obtain ⟨c2,ax⟩:=cG;obtain ⟨b4,rR,rfl⟩:=cJ c2;have Y:=hE17.trans ax;have ds:=pH t;have C:=cy.wk ax;refine ay<|aP<|az fun cn=>ag fun cp=>p mv<|p (bM A3 aa aa)<|p (bQ aa aa)<|nl<|cp<|cd aa (fun a5=> ?_) fun a5=> ?_;have c0:bZ t= []:=fR ab;exact ag fun aS=>p mv<|p (bM fq aa aa)<|p (bJ (((bP t).length+1:Nat):Int) aa aa<|bp ab ab)<|p aE<|p aE<|p aE<|nl<|aS<|rt<|tr<|f3 aa aa aa aa<|l8.no (Ju ao c0) Y;obtain ⟨⟨av,A⟩,rest,hrw⟩:∃ q rest,bZ t=q::rest:=by
  cases h:bZ t with
  | nil=>rw [h] at a5; exact absurd rfl a5
  | cons q rest=>exact ⟨q,rest,rfl⟩
 have b3:(bZ t)[0]? =some (av,A):=by rw [hrw]; rfl
 obtain ⟨b5,aq⟩:∃ p,vs[0]? =some p:=⟨_,cx ab⟩
 obtain ⟨aX,bj⟩:=a9.2 0 b5 (av,A) aq b3;obtain ⟨dc,de⟩:=b5;obtain rfl :av=dc:=aX.symm;obtain ⟨a0,bi,c4⟩:=bj.slice;obtain rfl :de= .slice a0 A.length bi:=c4;have bv:Tg ae w.heap.size 9 A.length (.slice a0 A.length bi) (A.map str):=bj.wk ax;have bN:∀ q∈bZ t,q.2.length≤70000∧∀ x∈q.2,x.length≤70000:=fun q b2=>by
  have h:=AB b2;exact ⟨ab,fun x c9=>by have :=(h.2.2.2.2 x c9).2; omega⟩
 have cZ:A.length≤70000∧∀ x∈A,x.length≤70000:=bN (av,A)<|gC b3;refine aQ<|cn<|az fun aS=>ag fun cq=>p mv<|p (bc pB aa aa ab<|aM.ok (C)<|mo ab)<|p (fa xk aa)<|p (ld kj aa<|mq (i:=0) C aq 1 aB)<|p (bM fq aa aa)<|p (dd aa aa)<|nl<|cq<|cd aa (fun bx=> ?_) fun bx=> ?_;have bV:A.length≠1:=ab;obtain ⟨bk,bI,cO⟩:=C5 (F:=F) ao hrw<|by rw [Lz bV]; decide
 rw [Lz bV] at bI;obtain rfl :bk=111:=by have h:(111:Int)=bk:=bI; omega
 refine az fun aJ=> ?_;have Z:(fun w'=>Wk ae w') ae.drew:=(Md.refl _ _).drew;exact bY (fun w'=>Wk ae w') aa wide Z<|aR 0 aa (mv) Z<|aR 1 aa (bc pB aa aa ab<|aM.ok (C)<|mo ab) Z<|aR 2 aa (fa uX aa) Z<|bR 3 aa (fun w' ai=>ld bD aa<|Wk.aW ai<|mq (i:=0) C aq 0 aB) Z<|aR 4 aa (aE) Z<|aR 5 aa (aE) Z<|aR 6 aa (aE) Z<|hn aj<|aJ<|rt<|tr<|f3 aa aa aa aa<|l8.no cO<|Y.trans Z;have dv:A.length=1:=by have h:¬((A.length:Nat):Int)≠1:=bx; omega
 refine aQ<|aS<|ag fun aJ=>p mv<|p (bc pB aa aa ab<|aM.ok (C)<|mo ab)<|p (fa xk aa)<|p (ld kj aa<|mq (i:=0) C aq 1 aB)<|p (bc db aa aa ab<|aM.ok (bv.dp.2)<|cg ab)<|p (ld bX aa<|cM.get (i:=0) bv.dp.2 ab)<|e<|cl td (tD (A.getD 0 []) 8192 ae (by have :=cZ.2 _ (eb (d:= []) (show 0 < A.length by omega)); omega) ab) aa fun dC bb cH=> ?_;obtain ⟨rfl,aA⟩:=cH;have cz:=Y.trans aA;have aF:=Yf (show A.length=1 by omega);refine p mv<|p (xt aa aa)<|p (xt aa aa)<|p aE<|ay<|aJ<|az fun b8=>ag fun b9=>p mv<|p (dd aa aa)<|nl<|b9<|cd aa (fun bA=> ?_) fun bA=> ?_;obtain ⟨dk,bK,a2⟩:=C5 (F:=F) ao hrw<|by rw [aF]; exact bA
 rw [aF] at bK;refine az fun aK=> ?_;have I:(fun w'=>Wk bb w') bb.drew:=(Md.refl _ _).drew;refine bY (fun w'=>Wk bb w') aa wide I<|aR 0 aa (mv) I<|aR 1 aa (bc pB aa aa ab<|aM.ok (C.wk aA)<|mo ab) I<|aR 2 aa (fa uX aa) I<|bR 3 aa (fun w' ai=>ld bD aa<|Wk.aW ai<|mq (i:=0) (C.wk aA) aq 0 aB) I<|aR 4 aa (mv) I<|aR 5 aa (aE) I<|aR 6 aa (aE) I<|aR 7 aa (aE) I<|hn aj<|aK<|rt<|tr<|f3 aa aa aa aa ?_;have h:=l8.no a2<|cz.trans I;show l8 F t w (.tuple #[.slice none 0 0,ak av,.int .i64 (ew (A.getD 0 []) 8192).2]) _;rw [bK];exact h;obtain ⟨n,a6,dt,a2⟩:=Jq (F:=F) ao hrw<|by rw [aF]; omega
 rw [aF] at a6;have cN:jo F ((bP t).length+1) (fN F t) [] (n - 0) ((bZ t).drop<|0 +1):=by rw [a2,hrw]; exact jo.start
 obtain ⟨seen,cv⟩:=cw;refine aQ<|b8<|ag fun aK=>ay<|aK<|az fun ca=>ag fun cb=>ay<|cb<|aT<|lp (fun bl bd ac=> ∃ (i:Nat) (xs:List bC) (vx:List Value) (ah:Option Addr) (co:Nat),(i+1≤(bZ t).length∧i≤n)∧(xs.length=i)∧(jo F ((bP t).length+1) (fN F t) xs (n - i)<|(bZ t).drop<|i+1)∧(bz ac ae.heap.size 87 2 (.slice ah xs.length co) xs.length<|kG<|xs.zip vx)∧(ja ac 0 3 vx<|xs.map (·.2))∧(Wk ae ac)∧(bd 10=ak n)∧(Sl bd [(0,aV fb),(7,.slice ar (bZ t).length cr),(9,.slice b4 (bP t).length rR),(11,.slice ah xs.length co),(12,ak (i+1))])∧((bZ t).length - i=bl)) _ ⟨0,[],[],none,0,ab,aa,cN,(dK _ _ _ _),(ja.nil _ _ _),aA,(by first | rfl | (rw [← a6]; rfl)),aa,aa⟩ ?_;rintro bl bd ac ⟨i,xs,vx,ah,co,hi,da,O,hO,a3,E,c7,c6,rfl⟩;refine bG c6<|fx 10 c7<|az fun cc=>ag fun ce=>au (ak<|i+1)<|au (.slice ar (bZ t).length cr)<|p (bM A3 aa aa)<|p (lt aa aa)<|nl<|ce<|cd aa (fun cR=> ?_) fun cR=> ?_;refine aQ<|cc<|az fun aL=>aT<|az fun aN=>az fun an=> ?_;obtain ⟨⟨ln,r⟩,hri⟩:∃ q,(bZ t)[i+1]? =some q:=⟨_,cx ab⟩
 have cV:(bZ t).drop (i+1)=(ln,r)::(bZ t).drop (i+2):=by rw [List.drop_eq_getElem_cons ab]; rw [cx ab] at hri; rw [Option.some.inj hri]
 obtain ⟨p,aH⟩:∃ p,vs[i+1]? =some p:=⟨_,cx ab⟩
 obtain ⟨aX,aD⟩:=a9.2 (i+1) p (ln,r) aH hri;obtain ⟨df,dg⟩:=p;obtain rfl :ln=df:=aX.symm;obtain ⟨a,c,c5⟩:=aD.slice;obtain rfl :dg= .slice a r.length c:=c5;have aD:Tg dh w.heap.size 9 r.length (.slice a r.length c) (r.map str):=aD;have bU:r.length≤70000∧∀ x∈r,x.length≤70000:=bN (ln,r)<|gC hri;rw [cV] at O;refine rg aa<|au (ak<|i+1)<|au (ak n)<|p (gt aa aa)<|nl<|an<|cd aa (fun cS=> ?_) fun cS=> ?_;refine az fun aO=> ?_;have J:(fun w'=>Wk ac w') ac.drew:=(Md.refl _ _).drew;refine bY (fun w'=>Wk ac w') aa wide J<|bO 0 aa (.slice ar (bZ t).length cr) J<|bO 1 aa (ak<|i+1) J<|aR 2 aa (bc pB aa aa ab<|aM.ok (C.wk E)<|mo ab) J<|aR 3 aa (fa uX aa) J<|bR 4 aa (fun w' ai=>ld bD aa<|Wk.aW ai<|mq (C.wk E) aH 0 aB) J<|aR 5 aa (aE) J<|aR 6 aa (aE) J<|aR 7 aa (aE) J<|hn aj<|aO<|rt<|tr<|br<|tr<|tr<|br<|tr<|f3 aa aa aa aa ?_;rw [show n - i=0 by omega] at O;exact l8.no O.more<|Y.trans<|E.trans J;refine aQ<|aN<|ag fun aO=>au (aV fb)<|au (.slice ar (bZ t).length cr)<|au (ak<|i+1)<|p (bc pB aa aa ab<|aM.ok (C.wk E)<|mo ab)<|p (fa xk aa)<|p (ld kj aa<|mq (C.wk E) aH 1 aB)<|e<|cl RE (Xr B fb F V r w.heap.size a c ac (cD.wk<|Y.trans E) ⟨seen,cv⟩ c1 ((aD.wk ax).wk E) bU.2 bU.1) aa fun v79 di cI=> ?_;obtain ⟨cC,bs⟩:=cI;obtain ⟨al,a79,cs,rfl,b0,bH⟩:∃ (u:Tx) (a:Value) (e:Nat),v79= .tuple #[.agg [str u,a].toArray,ak e]∧a.oneCell'=true∧((e=0∧∃ l,gl F r= .ok (u,l)∧Tg di 0 3 l.length a (l.map bT))∨(e≠0∧gl F r= .error e)):=by
  rcases cC with ⟨x,a,h1,h2,h3,h4⟩ | ⟨e,h1,h2,h3⟩;exact ⟨x.1,a,0,h2,h3,.inl ⟨aa,x.2,h1,h4⟩⟩;exact ⟨_,_,e,h3,aa,.inr ⟨h2,h1⟩⟩
 have dz:=bs.size;refine p mv<|p (xt aa aa)<|p (xt aa aa)<|e<|gk O9 fun bg dD dl a1 bo=> ?_;have dy:=a1.size;refine e<|fU p8 aa aa aa (A0 b0) bo aB fun am bt ct=> ?_;have bq:Wk ac am:=(bs.trans a1.md).trans' bt fun q b2 h=>by omega
 have cQ:am.heap[bg]? =some (.cells [str al,a79].toArray 87 (0,0)):=ct;have aY:=E.trans bq;refine ay<|aO<|az fun ch=>ag fun ci=>p mv<|p (dd aa aa)<|nl<|ci<|cd aa (fun bE=> ?_) fun bE=> ?_;have a8:=bH.resolve_left fun h=>bE<|by rw [h.1]; rfl
 obtain ⟨du,hex⟩:=a8;refine az fun cj=> ?_;have G:(fun w'=>Wk am w') am.drew:=(Md.refl _ _).drew;exact bY (fun w'=>Wk am w') aa wide G<|bO 0 aa (.slice ar (bZ t).length cr) G<|bO 1 aa (ak<|i+1) G<|aR 2 aa (bc pB aa aa ab<|aM.ok (C.wk aY)<|mo ab) G<|aR 3 aa (fa uX aa) G<|bR 4 aa (fun w' ai=>ld bD aa<|Wk.aW ai<|mq (C.wk aY) aH 0 aB) G<|aR 5 aa (mv) G<|aR 6 aa (aE) G<|aR 7 aa (aE) G<|aR 8 aa (aE) G<|hn aj<|cj<|rt<|tr<|br<|tr<|tr<|br<|tr<|f3 aa aa aa aa<|l8.no (O.bad ab hex)<|Y.trans<|aY.trans G;have cX:cs=0:=ab;have a8:=bH.resolve_right fun h=>h.1 cX;obtain ⟨_,aI,hex,cK⟩:=a8;refine aQ<|ch<|rg aa<|au (.slice ah xs.length co)<|p (cW p5 aa (aa) (show ∀ j,j < 2→Hb.aW am.heap bg (0 +j)= [str al,a79][j]? from fun j dr=>bS.bB ⟨_,cQ⟩ j))<|e<|kY N4 aa aa aa fun dj dE dn bu cu=> ?_;have aC:=bq.trans bu.md;have aG:=a7 hO aC;have dA:=aC.size;refine e<|ap N4 (aG) aa (by have :=E.size; omega) aa (aM.ec cu) (aa) (A0 b0) ab ab fun v93 b6 c3 aZ dB dq=> ?_;have cA:=Wk.own (E.trans aC) aG aZ<|cU _;have bW:bz b6 ae.heap.size 87 2 v93 (xs++ [(al,aI)]).length (kG<|(xs++ [(al,aI)]).zip<|vx++ [a79]):=by
  have cY:xs.length=vx.length:=by have :=a3.1; rw [fP] at this; omega
  rw [GO cY,List.zip_cons_cons,List.zip_nil_right,JD,bL]; exact c3
 have cP:ja b6 0 3 (vx++ [a79]) ((xs++ [(al,aI)]).map (·.2)):=by
  rw [gW];exact ((a3.wk aC).md aZ<|iW aG aB).snoc (((cK.wk a1.md).md bt<|fT bo aB).wk bu.md |>.md aZ (iW aG aB))
 obtain ⟨a93,y9,c8⟩:=cJ bW;subst c8;exact p aE<|nl<|bn<|aL<|rg aa<|au (ak<|i+1)<|p (ad aa aa<|cB ab)<|p aE<|nl<|tn<|⟨_,ab,i+1,xs++ [(al,aI)],vx++ [a79],a93,y9,ab,(by rw [bL,da]; rfl),(by rw [show n - (i+1)=n - i - 1 by omega]; exact O.step ab hex),bW,cP,cA,(by first | rfl | (rw [← a6]; rfl)),aa,aa⟩
 refine ext<|bf<|bf<|be<|ca<|az fun aL=>ag fun aN=>au (.slice ah xs.length co)<|p (bM A4 aa aa)<|au (ak n)<|p (lt aa aa)<|nl<|aN<|cd aa (fun cT=> ?_) fun cT=> ?_;refine ag fun an=>au (.slice b4 (bP t).length rR)<|p (bM fq aa aa)<|p (bJ (((bP t).length+1:Nat):Int) aa aa<|bp ab ab)<|p aE<|p aE<|p aE<|nl<|an<|rt<|tr<|f3 aa aa aa aa ?_;rw [iJ ab] at O;exact l8.no (O.ends ab)<|Y.trans E;refine aQ<|aL<|ag fun an=>au (.slice ah xs.length co)<|p (cE (.slice ah xs.length co) aa)<|p aE<|p aE<|nl<|an<|rt<|f3 aa aa aa aa ?_;rw [iJ ab,show n - i=0 by omega] at O;have cL:=O.done;unfold l8;rw [cL];exact ⟨⟨_,aa,⟨vx,eQ hO Y.size,a3⟩⟩,Y.trans E⟩
end Go.Hb
end
namespace Go.Hb.jX
def Ny (F:aU):Prop := ∀ l∈F.aliases,∀ x∈l,x < 65536
theorem KZ {kind:Nat} {s:Tx} {l:List Nat} (h:lz kind s= .ok l):∀ x∈l,x < 65536:=by
 unfold lz at h;split at h
 · cases h
 · cases h;intro x A;unfold eu at A
   repeat' split at A
   all_goals first
    | (cases A; done)
    | (rw [EK] at A
       obtain ⟨y,_,rfl⟩:=List.mem_map.1 A;exact Ko _ _)
theorem QW {kind ln:Nat} {row:List Tx} {l:List Nat} (h:kX kind ln row= .ok l):∀ x∈l,x < 65536:=by
 unfold kX at h;split at h
 · cases h
 · exact KZ h
theorem WO {kind:Nat} {al:List (List Nat)} {s:Tx} {l:List Nat} (A:∀ l∈al,∀ x∈l,x < 65536) (h:gA kind al s= .ok l):∀ x∈l,x < 65536:=by
 unfold gA at h;split at h
 · exact KZ h
 · split at h
   · cases h
   · split at h
     · cases h
     · cases h;rename_i n _ _;rw [cX];cases hg:al[n - 1]? with
       | none=>simp
       | some y=>exact A y<|gC hg
theorem Yj {eof ln:Nat} {F F':aU} {hs:List Tx} {rows rows':List Rw} {row:List Tx} (h:Ny F) (A:cH eof F hs rows ln row= .ok (F',rows')):Ny F':=by
 unfold cH at A
 repeat' split at A
 · unfold kr at A; repeat' split at A
   all_goals first | (cases A; done) | (cases A; exact h)
 · unfold kM at A; repeat' split at A
   all_goals first | (cases A; done) | (cases A; exact h)
 · unfold mU at A; repeat' split at A
   all_goals first | (cases A; done) | (cases A; exact h)
 · unfold mZ at A; repeat' split at A
   all_goals first | (cases A; done) | (cases A; exact h)
 · unfold k9 at A; repeat' split at A
   all_goals first | (cases A; done) | (cases A; exact h)
 · unfold kq at A; repeat' split at A
   all_goals first | (cases A; done) | (cases A; exact h)
 · unfold j9 at A;split at A
   · cases A
   · split at A
     · cases A
     · split at A
       · cases A
       · rename_i r E;cases A;intro l C;rcases jm.1 C with C | C
         · exact h l C
         · obtain ⟨_,_,h2⟩:=D2 _ _ _ E l C;exact QW h2
 · unfold ic at A; repeat' split at A
   all_goals first | (cases A; done) | (cases A; exact h)
theorem aa8 {eof:Nat} :∀ (k:Nat) (F F':aU) (hs:List Tx) (rows:List Rw),Ny F→ir eof k F hs rows= .ok F'→Ny F':=by
 intro k
 induction k with
 | zero=>intro F F' hs rows h A; rw [ir] at A; split at A <;> cases A; exact h
 | succ k E=>
   intro F F' hs rows h A;cases rows with
   | nil=>rw [xR] at A; cases A; exact h
   | cons q rows=>
     rw [ir] at A;split at A
     · cases A
     · split at A
       · cases A
       · split at A
         · cases A
         · split at A
           · cases A
           · rename_i r C;exact E _ _ _ _ (Yj (rows':=r.2) h C) A
theorem G8 {s:Tx} {F:aU} (h:fQ s= .ok F):Ny F:=by
 unfold fQ at h;split at h
 · cases h
 · split at h
   · cases h
   · rename_i f A;split at h
     · cases h
     · cases h;exact aa8 _ _ _ _ _ (fun l C=>by cases C) A
def yH (x:bC):Prop :=x.1.length≤64∧x.2.length≤64∧(∀ y∈x.2,y < 65536)
theorem zr {F:aU} {row:List Tx} {x:bC} (h1:Nx F) (h2:Ny F) (h:gl F row= .ok x):yH x:=by
 unfold gl at h;split at h
 · cases h
 · split at h
   · cases h
   · split at h
     · cases h
     · split at h
       · cases h
       · split at h
         · cases h; exact ⟨by simp only; omega,by simp,fun y C=>by cases C⟩
         · split at h
           · cases h
           · rename_i A;split at h
             · cases h;exact ⟨by simp only; omega,zC h1.1 A,WO h2 A⟩
             · cases h
theorem Wa {F:aU} {eof:Nat} (h1:Nx F) (h2:Ny F):∀ {n:Nat} {rows:List Rw} {r:List bC},fA F eof n rows= .ok r→∀ x∈r,yH x:=by
 intro n
 induction n with
 | zero=>
   intro rows r h;cases rows with
   | nil=>rw [fA] at h; cases h; intro x A; cases A
   | cons q rows=>rw [fA] at h; cases h
 | succ n E=>
   intro rows r h;cases rows with
   | nil=>rw [fA] at h; cases h
   | cons q rows=>
     rw [fA] at h;split at h
     · cases h
     · rename_i he;split at h
       · cases h
       · rename_i C;cases h;intro x A;rcases List.mem_cons.1 A with rfl | A
         · exact zr h1 h2 he
         · exact E C x A
theorem Jr {F:aU} {t:Tx} {xs:List bC} (h1:Nx F) (h2:Ny F) (h:fN F t= .ok xs):(∀ x∈xs,yH x)∧xs.length≤8192:=by
 unfold fN at h;split at h
 · cases h
 · split at h
   · cases h
   · split at h
     · cases h
     · split at h
       · cases h
       · rename_i hn;refine ⟨Wa h1 h2 h,?_⟩;have C:=(Wc h).1;unfold fw at hn;split at hn
         · cases hn
         · cases hn;rename_i A;have :=si _ 8192<|jM.1 A;omega
theorem r5 {F:aU} {s:Tx} {e:Nat} (h:im F s= .error e):e≠0:=by
 unfold im at h; repeat' split at h
 all_goals first | (cases h; done) | (cases h; decide) | (cases h; assumption)
theorem KY {k:Nat} {s:Tx} {e:Nat} (h:lz k s= .error e):e≠0:=by
 unfold lz at h; repeat' split at h
 all_goals first | (cases h; done) | (cases h; assumption)
theorem q7 {s:Tx} {m:Int} {e:Nat} (h:fw s m= .error e):e≠0:=by
 unfold fw at h; repeat' split at h
 all_goals first | (cases h; done) | (cases h; decide)
theorem Ku {k:Nat} {al:List (List Nat)} {s:Tx} {e:Nat} (h:gA k al s= .error e):e≠0:=by
 unfold gA at h; repeat' split at h
 all_goals first | exact KY h | (cases h; done) | (cases h; decide)
theorem M6 {b:Bool} {s:Tx} {e:Nat} (h:eO b s= .error e):e≠0:=by
 unfold eO at h; repeat' split at h
 all_goals first | (cases h; done) | (cases h; decide) | (cases h; assumption)
theorem QO {r:l9} {e:Nat} (h:j8 r= .error e):e≠0:=by
 unfold j8 at h; repeat' split at h
 all_goals first | (cases h; done) | (cases h; assumption)
theorem Z6 {k A:Nat} {al:List (List Nat)} {r:l9} {e:Nat} (h:lD k al A r= .error e):e≠0:=by
 unfold lD at h; repeat' split at h
 all_goals first | exact Ku h | (cases h; done) | (cases h; decide)
theorem UN {r:List Tx} {e:Nat} (h:lx r= .error e):e≠0:=by
 unfold lx at h; repeat' split at h
 all_goals first | (cases h; done) | (cases h; decide) | (cases h; assumption)
theorem sv {k ln:Nat} {al:List (List Nat)} {c:dy} {r:List Tx} {e:Nat} (h:gd k al c ln r= .error e):e≠0:=by
 unfold gd at h; repeat' split at h
 all_goals first
  | (cases h; done)
  | (cases h; decide)
  | (cases h; exact M6<|by assumption)
  | (cases h; exact QO<|by assumption)
  | (cases h; exact Z6<|by assumption)
  | (cases h; exact UN<|by assumption)
theorem su {ln:Nat} {r:List Tx} {e:Nat} (h:lf ln r= .error e):e≠0:=by
 unfold lf at h; repeat' split at h
 all_goals first
  | (cases h; done)
  | (cases h; decide)
  | (cases h; exact M6<|by assumption)
theorem rL {k ln:Nat} {r:List Tx} {e:Nat} (h:kX k ln r= .error e):e≠0:=by
 unfold kX at h; repeat' split at h
 all_goals first | exact KY h | (cases h; decide)
theorem jH {α:Type} {hd:List Tx} {rd:Nat→List Tx→Except Nat α} {eof:Nat} (A:∀ l r e,rd l r= .error e→e≠0):∀ {n:Nat} {rows:List Rw} {l e:Nat},group hd rd eof n rows= .error (l,e)→e≠0:=by
 intro n
 induction n with
 | zero=>intro rows l e h; rw [group] at h; cases h
 | succ n C=>
   intro rows l e h;cases rows with
   | nil=>rw [group] at h; cases h; decide
   | cons q rows=>
     rw [group] at h;split at h
     · cases h; decide
     · split at h
       · rename_i he; cases h; exact A _ _ _ he
       · split at h
         · rename_i he; cases h; exact C he
         · cases h
theorem Yi {eof ln l e:Nat} {F:aU} {hs:List Tx} {rows:List Rw} {row:List Tx} (h:cH eof F hs rows ln row= .error (l,e)):e≠0:=by
 unfold cH at h
 repeat' split at h
 · unfold kr at h; repeat' split at h
   all_goals first
    | (cases h; done)
    | (cases h; decide)
    | (cases h; assumption)
    | (cases h; exact r5<|by assumption)
    | (cases h; exact q7<|by assumption)
    | (cases h; exact jH (fun _ _ _ h=>su h)<|by assumption)
    | (cases h; exact jH (fun _ _ _ h=>rL h)<|by assumption)
    | (cases h; exact jH (fun _ _ _ h=>sv h)<|by assumption)
 · unfold kM at h; repeat' split at h
   all_goals first
    | (cases h; done)
    | (cases h; decide)
    | (cases h; assumption)
    | (cases h; exact r5<|by assumption)
    | (cases h; exact q7<|by assumption)
    | (cases h; exact jH (fun _ _ _ h=>su h)<|by assumption)
    | (cases h; exact jH (fun _ _ _ h=>rL h)<|by assumption)
    | (cases h; exact jH (fun _ _ _ h=>sv h)<|by assumption)
 · unfold mU at h; repeat' split at h
   all_goals first
    | (cases h; done)
    | (cases h; decide)
    | (cases h; assumption)
    | (cases h; exact r5<|by assumption)
    | (cases h; exact q7<|by assumption)
    | (cases h; exact jH (fun _ _ _ h=>su h)<|by assumption)
    | (cases h; exact jH (fun _ _ _ h=>rL h)<|by assumption)
    | (cases h; exact jH (fun _ _ _ h=>sv h)<|by assumption)
 · unfold mZ at h; repeat' split at h
   all_goals first
    | (cases h; done)
    | (cases h; decide)
    | (cases h; assumption)
    | (cases h; exact r5<|by assumption)
    | (cases h; exact q7<|by assumption)
    | (cases h; exact jH (fun _ _ _ h=>su h)<|by assumption)
    | (cases h; exact jH (fun _ _ _ h=>rL h)<|by assumption)
    | (cases h; exact jH (fun _ _ _ h=>sv h)<|by assumption)
 · unfold k9 at h; repeat' split at h
   all_goals first
    | (cases h; done)
    | (cases h; decide)
    | (cases h; assumption)
    | (cases h; exact r5<|by assumption)
    | (cases h; exact q7<|by assumption)
    | (cases h; exact jH (fun _ _ _ h=>su h)<|by assumption)
    | (cases h; exact jH (fun _ _ _ h=>rL h)<|by assumption)
    | (cases h; exact jH (fun _ _ _ h=>sv h)<|by assumption)
 · unfold kq at h; repeat' split at h
   all_goals first
    | (cases h; done)
    | (cases h; decide)
    | (cases h; assumption)
    | (cases h; exact r5<|by assumption)
    | (cases h; exact q7<|by assumption)
    | (cases h; exact jH (fun _ _ _ h=>su h)<|by assumption)
    | (cases h; exact jH (fun _ _ _ h=>rL h)<|by assumption)
    | (cases h; exact jH (fun _ _ _ h=>sv h)<|by assumption)
 · unfold j9 at h; repeat' split at h
   all_goals first
    | (cases h; done)
    | (cases h; decide)
    | (cases h; assumption)
    | (cases h; exact r5<|by assumption)
    | (cases h; exact q7<|by assumption)
    | (cases h; exact jH (fun _ _ _ h=>su h)<|by assumption)
    | (cases h; exact jH (fun _ _ _ h=>rL h)<|by assumption)
    | (cases h; exact jH (fun _ _ _ h=>sv h)<|by assumption)
 · unfold ic at h; repeat' split at h
   all_goals first
    | (cases h; done)
    | (cases h; decide)
    | (cases h; assumption)
    | (cases h; exact r5<|by assumption)
    | (cases h; exact q7<|by assumption)
    | (cases h; exact jH (fun _ _ _ h=>su h)<|by assumption)
    | (cases h; exact jH (fun _ _ _ h=>rL h)<|by assumption)
    | (cases h; exact jH (fun _ _ _ h=>sv h)<|by assumption)
theorem aa7 {eof:Nat} :∀ (k:Nat) (F:aU) (hs:List Tx) (rows:List Rw) (l e:Nat),rows.length≤k→ir eof k F hs rows= .error (l,e)→e≠0:=by
 intro k
 induction k with
 | zero=>
   intro F hs rows l e hk A;obtain rfl :=fR<|Nat.le_zero.1 hk;rw [xR] at A; cases A
 | succ k E=>
   intro F hs rows l e hk A;cases rows with
   | nil=>rw [xR] at A; cases A
   | cons q rows=>
     rw [ir] at A;split at A
     · cases A; decide
     · split at A
       · cases A; decide
       · split at A
         · cases A; decide
         · split at A
           · rename_i he; cases A; exact Yi he
           · rename_i r C;have h1:=r8 (rows':=r.2) C;simp only [cV] at hk;exact E _ _ _ _ _ ab A
theorem QR {s:Tx} {l e:Nat} (h:fQ s= .error (l,e)):e≠0:=by
 unfold fQ at h;split at h
 · cases h; decide
 · split at h
   · rename_i he; cases h; exact aa7 _ _ _ _ _ _ (cU _) he
   · split at h
     · cases h; decide
     · cases h
theorem V5 {F:aU} {row:List Tx} {e:Nat} (h:gl F row= .error e):e≠0:=by
 unfold gl at h
 repeat' split at h
 all_goals first
  | (cases h; done)
  | (cases h; decide)
  | (cases h; assumption)
  | (cases h; exact Ku<|by assumption)
theorem Wd {F:aU} {eof l e:Nat} :∀ {n:Nat} {rows:List Rw},fA F eof n rows= .error (l,e)→e≠0:=by
 intro n
 induction n with
 | zero=>
   intro rows h;cases rows with
   | nil=>rw [fA] at h; cases h
   | cons q rows=>rw [fA] at h; cases h; decide
 | succ n A=>
   intro rows h;cases rows with
   | nil=>rw [fA] at h; cases h; decide
   | cons q rows=>
     rw [fA] at h;split at h
     · rename_i he; cases h; exact V5 he
     · split at h
       · rename_i he; cases h; exact A he
       · cases h
theorem VL {F:aU} {t:Tx} {l e:Nat} (h:fN F t= .error (l,e)):e≠0:=by
 unfold fN at h;split at h
 · cases h; decide
 · split at h
   · cases h; decide
   · split at h
     · cases h; decide
     · split at h
       · rename_i he; cases h; exact q7 he
       · exact Wd h
end Go.Hb.jX
section
namespace Go.Hb
open Go.Hb.gy Go.Hb.jO Go.Hb.jX Go.Hb.kV
noncomputable def lh (a t:Tx):Option (aU×List bC):=match fQ a with
 | .error _=>none
 | .ok F=>match fN F t with
   | .error _=>none
   | .ok xs=>some (F,xs)
theorem Ol {a t:Tx} {e:Nat×Nat} (h:fQ a= .error e):lh a t=none:=by unfold lh; rw [h]
theorem Om {a t:Tx} {F:aU} {e:Nat×Nat} (h:fQ a= .ok F) (h1:fN F t= .error e):lh a t=none:=by unfold lh; rw [h]; simp only; rw [h1]
theorem FL {a t:Tx} {F:aU} {xs:List bC} (h:fQ a= .ok F) (h1:fN F t= .ok xs):lh a t=some (F,xs):=by unfold lh; rw [h]; simp only; rw [h1]
structure eC (F:aU) (xs:List bC):Prop where
 len:F.dA.length+F.aliases.length+F.bE.length+F.rules.length≤70000
 nx:Nx F
 wS:∀ x∈xs,yH x
 xl:xs.length≤8192
 fs:ui F
 cls:qI F
 VY:∀ x∈xs,lP x.2
 gr:F.sp.length=5
 ne:∀ x∈xs,1≤x.1.length
theorem BW {s:Tx} {F:aU} (h:fQ s= .ok F):Nx F:=BV (Q:=Nx) ⟨fun l A=>(by cases A),fun l A=>by cases A⟩ (fun _ _ _ _ _ _ _ _ h C=>z7 h C) h
theorem eC.of {a t:Tx} {F:aU} {xs:List bC} (h:fQ a= .ok F) (h1:fN F t= .ok xs) (A:∃ seen,lj F [] seen) (h5:F.sp.length=5):eC F xs:=by
 obtain ⟨seen,A⟩:=A;have E:=A.len;have C:=Jr (BW h) (G8 h) h1;exact ⟨by simpa using E,BW h,C.1,C.2,(BU h).1,(BU h).2,VK (BU h).1 h1,h5,VN h1⟩
theorem eC.jw {F:aU} {xs:List bC} (h:eC F xs) {i:Nat} {r:c7} (A:F.rules[i]? =some r):r.next.length≤64∧lP r.next∧ki r:=⟨h.nx.2 r (gC A),h.fs.2 r<|gC A⟩
structure gJ where
 fb:Nat
 mc:Nat
 wb:Nat
 mb:Nat
 V:fH
 V2:fH
 va:Value
 ve:Value
 vs:List Value
 ws:List Value
def tbB (F:aU) (U:gJ):List Value:= .pointer (some ⟨U.fb,0,none⟩):: .pointer (some ⟨U.wb,0,none⟩)::(me F U.V2++ [U.ve])
structure fY (w:World) (B tb:Nat) (U:gJ) (F:aU) (xs:List bC):Prop where
 cells:w.heap[tb]? =some (.cells (tbB F U).toArray 105 (0,0))
 fl:ei w B U.fb U.mc F U.V
 ax:qG w B F U.V2
 wd:lO w B U.wb U.mb U.va U.vs xs
 oe:bz w B 53 2 U.ve xs.length (kG<|xs.zip U.ws)
 ef:eL w B 95 U.ws (xs.map (·.2))
theorem Ce {G:Nat→Prop} {w w':World} {B:Nat} {F:aU} {V:fH} (h:qG w B F V) (hm:Md G w w') {L:List Nat} (A:TF w L G) (C:(L.contains 191 || L.contains 53 || L.contains 97 || L.contains 194 || L.contains 136)=false):qG w' B F V:=by
 simp only [oP] at C;obtain ⟨⟨⟨⟨h1,h2⟩,h3⟩,h4⟩,h5⟩:=C;have E:∀ k,G k→∀ cur z,w.heap[k]?≠some (.cells cur 95 z):=fun k hk cur z I=>A.no (dN I) h3 hk;exact ⟨cQ h.o9 hm A h1,cQ h.fk hm A h2,h.al.md hm E,cQ h.eK hm A h4,cQ h.dM hm A h5,h.nx.md hm E⟩
theorem fY.Mq {G:Nat→Prop} {w w':World} {B tb:Nat} {U:gJ} {F:aU} {xs:List bC} (h:fY w B tb U F xs) (hm:Md G w w') {L:List Nat} (A:TF w L G) (C:(L.contains 166 || L.contains 191 || L.contains 53 || L.contains 97 || L.contains 194 || L.contains 136 || L.contains 186 || L.contains 55 || L.contains 5 || L.contains 107)=false) (O:¬G U.mc) (J:¬G U.mb):fY w' B tb U F xs:=by
 simp only [oP] at C;obtain ⟨⟨⟨⟨⟨⟨⟨⟨⟨h1,h2⟩,h3⟩,h4⟩,h5⟩,h6⟩,h7⟩,h8⟩,h9⟩,h10⟩:=C;have E:∀ k,G k→∀ cur z,w.heap[k]?≠some (.cells cur 95 z):=fun k hk cur z I=>A.no (dN I) h4 hk;exact ⟨hm.iT A h.cells h10,h.fl.md hm A (by rw [h1,h2,h3,h4,h5,h6]; rfl) O,Ce h.ax hm A (by rw [h2,h3,h4,h5,h6]; rfl),h.wd.md hm A (by rw [h7,h8,h4,h9]; rfl) J,cQ h.oe hm A h8,h.ef.md hm E⟩
theorem fY.wk {w w':World} {B tb:Nat} {U:gJ} {F:aU} {xs:List bC} (h:fY w B tb U F xs) (hm:Wk w w'):fY w' B tb U F xs:=h.Mq (L:= []) hm (fun _ hk=>hk.elim) rfl id id
theorem Rk {w w':World} {B:Nat} {F:aU} {V:fH} (h:qG w B F V) (hm:Wk w w'):qG w' B F V:=Ce (L:= []) h hm (fun _ hk=>hk.elim) rfl
theorem Ri {w:World} {B B':Nat} {F:aU} {V:fH} (h:qG w B F V) (A:B'≤B):qG w B' F V:=⟨eQ h.o9 A,eQ h.fk A,h.al.mono A,eQ h.eK A,eQ h.dM A,h.nx.mono A⟩
theorem aa4 {s:Tx} {w w':World} {v:Value} (h:qL s w v w'):∃ p E G I,v= .tuple #[.pointer p,.agg [.int .i64 E,.int .i64 G,.int .i64 I].toArray]∧((p=none∧∃ e,fQ s= .error e)∨(∃ F fb mc V,p=some ⟨fb,0,none⟩∧fQ s= .ok F∧ei w' w.heap.size fb mc F V∧(∃ seen,lj F [] seen)∧Nx F))∧Wk w w':=by
 obtain ⟨h,A⟩:=h;cases hx:fQ s with
 | error e=>rw [hx] at h; exact ⟨_,_,_,_,h,.inl ⟨rfl,e,rfl⟩,A⟩
 | ok F=>rw [hx] at h; obtain ⟨fb,mc,V,C,h1,h2,h3⟩:=h; exact ⟨_,_,_,_,C,.inr ⟨F,fb,mc,V,rfl,rfl,h1,h2,h3⟩,A⟩
theorem VV {F:aU} {s:Tx} {w w':World} {v:Value} (h:mC F s w v w'):∃ p E G I,v= .tuple #[.pointer p,.agg [.int .i64 E,.int .i64 G,.int .i64 I].toArray]∧((p=none∧∃ e,fN F s= .error e)∨(∃ xs B wb mb va vs,p=some ⟨wb,0,none⟩∧fN F s= .ok xs∧w.heap.size≤B∧lO w' B wb mb va vs xs∧w.heap.size≤wb∧w.heap.size≤mb))∧Wk w w':=by
 obtain ⟨h,A⟩:=h;cases hx:fN F s with
 | error e=>rw [hx] at h; exact ⟨_,_,_,_,h,.inl ⟨rfl,e,rfl⟩,A⟩
 | ok xs=>rw [hx] at h; obtain ⟨B,wb,mb,va,vs,h1,C,h2,h3,h4⟩:=h; exact ⟨_,_,_,_,C,.inr ⟨xs,B,wb,mb,va,vs,rfl,rfl,h1,h2,h3,h4⟩,A⟩
def wa (a t:Tx) (w:World) (v:Value) (w':World):Prop :=(∃ p A C E,v= .tuple #[.pointer p,.agg [.int .i64 A,.int .i64 C,.int .i64 E].toArray]∧match lh a t with
 | none=>p=none
 | some T=> ∃ B tb U,w.heap.size≤B∧p=some ⟨tb,0,none⟩∧fY w' B tb U T.1 T.2∧eC T.1 T.2)∧Wk w w'
theorem wa.no {a t:Tx} {w w':World} {A C E:Int} (h:lh a t=none) (hm:Wk w w'):wa a t w (.tuple #[.pointer none,.agg [.int .i64 A,.int .i64 C,.int .i64 E].toArray]) w':=⟨⟨none,A,C,E,rfl,by rw [h]⟩,hm⟩
theorem adB {w:World} {B B':Nat} {f:Value→Option Value} {xs:List bC} (h:n9 w B f xs) (A:B'≤B):n9 w B' f xs:=⟨fun s=>eQ (h.own s) A,h.nil⟩
theorem VW {w:World} {B B' wb mb:Nat} {va:Value} {vs:List Value} {xs:List bC} (h:lO w B wb mb va vs xs) (A:B'≤B):lO w B' wb mb va vs xs:=by
 obtain ⟨f,C,E⟩:=h.mp;exact ⟨h.cells,eQ h.own A,h.fl.mono A,f,C,adB E A⟩
theorem Ou (a t:Tx) (w:World) (bW:a.length≤1048576) (b9:t.length≤1048576):
 bm aw 22 (bh [str a,str t]) w (wa a t w):=by
 refine enter func22 aa ntmps22 aa<|ag fun bs=>p aE<|e<|gk rq fun C al ci aq am=> ?_;have cx:=aq.size;refine nl<|bs<|ag fun bu=>au (str a)<|e<|cl Te (QQ a al bW) aa fun v12 bq bM=> ?_;have b2:=aa4 bM;obtain ⟨pp,bi,bj,bk,rfl,bf,aL⟩:=b2;have cp:=aL.size;refine p mv<|p (xt aa aa)<|p (xt aa aa)<|e<|gk rq fun aX cD cj a7 bF=> ?_;have cy:=a7.size;refine p aE<|e<|fU km aa aa aa aa bF aB fun Z a2 aI=> ?_;have aK:Wk bq Z:=a7.md.trans' a2 fun q G h=>by omega
 have a0:=aL.trans aK;have co:=a2.size;have b7:bS Z.heap aX [.int .i64 bi,.int .i64 bj,.int .i64 bk]:=⟨_,aI⟩
 refine nl<|bu<|az fun bv=>ag fun bw=>p mv<|p (ly x9 aa aa)<|nl<|bw<|cb aa (fun aA=> ?_) fun aA=> ?_;obtain ⟨rfl,e,E⟩:pp=none∧∃ e,fQ a= .error e:=by rcases bf with h | ⟨_,_,_,_,rfl,_⟩ <;> first | exact h | cases aA
 refine az fun aF=> ?_;have av:(fun w'=>Md (fun q=>q=C) Z w') Z.drew:=(Md.refl _ _).drew;refine bY (fun w'=>Md (fun q=>q=C) Z w') aa wide av<|bR 0 aa (fun w' J=>cW lT aa (aa) fun j Y=>(Md.B J b7 fun h=>by omega).bB j) av<|aR 1 aa (aE) av<|he 2 aa aj<|fU km aa aa aa aa (Wk.aT a0 am) aB fun cc bK bC=> ?_;have a8:(fun w'=>Md (fun q=>q=C) Z w') cc:=av.trans' bK fun q G h=>h;refine ⟨a8,?_⟩;exact hn aj<|aF<|rt<|tr<|eN aa eD (ed (cs:= [.int .i64 bi,.int .i64 bj,.int .i64 bk]) aa lT aa fun j Y=>(bg bC).trans<|by match j,Y with | 0,_=>rfl | 1,_=>rfl | 2,_=>rfl)<|wa.no (Ol E)<|(aq.md.trans a0).trans' a8 fun q G h=>by omega
 obtain ⟨F,fb,mc,V,rfl,E,ao,aZ,a6⟩:=bf.resolve_left fun h=>by rw [h.1] at aA; cases aA
 refine aQ<|bv<|ag fun aF=>p mv<|au (str t)<|e<|cl Tf (VP al.heap.size fb mc F V t Z (ao.wk aK) aZ a6 b9) aa fun v21 cC bO=> ?_;have b3:=VV bO;obtain ⟨ca,bl,bn,bo,rfl,bd,an⟩:=b3;have cq:=an.size;refine p mv<|p (xt aa aa)<|p (xt aa aa)<|p aE<|e<|fU km aa aa aa aa (Wk.aT an aI) (by simp) fun I aO bD=> ?_;have a1:Wk bq I:=(aK.trans an).trans' aO fun q G h=>by omega
 have ah:=aL.trans a1;have cv:=aO.size;have b8:bS I.heap aX [.int .i64 bl,.int .i64 bn,.int .i64 bo]:=⟨_,bD⟩
 refine nl<|aF<|az fun bx=>ag fun bz=>p mv<|p (ly FV aa aa)<|nl<|bz<|cb aa (fun aC=> ?_) fun aC=> ?_;obtain ⟨rfl,e,hd⟩:ca=none∧∃ e,fN F t= .error e:=by rcases bd with h | ⟨_,_,_,_,_,_,rfl,_⟩ <;> first | exact h | cases aC
 refine az fun aG=> ?_;have ax:(fun w'=>Md (fun q=>q=C) I w') I.drew:=(Md.refl _ _).drew;refine bY (fun w'=>Md (fun q=>q=C) I w') aa wide ax<|bR 0 aa (fun w' J=>cW lT aa (aa) fun j Y=>(Md.B J b8 fun h=>by omega).bB j) ax<|aR 1 aa (aE) ax<|he 2 aa aj<|fU km aa aa aa aa (Wk.aT ah am) aB fun ce bL bE=> ?_;have a9:(fun w'=>Md (fun q=>q=C) I w') ce:=ax.trans' bL fun q G h=>h;refine ⟨a9,?_⟩;exact hn aj<|aG<|rt<|tr<|eN aa eD (ed (cs:= [.int .i64 bl,.int .i64 bn,.int .i64 bo]) aa lT aa fun j Y=>(bg bE).trans<|by match j,Y with | 0,_=>rfl | 1,_=>rfl | 2,_=>rfl)<|wa.no (Om E hd)<|(aq.md.trans ah).trans' a9 fun q G h=>by omega
 obtain ⟨xs,B,wb,mb,va,vs,rfl,hd,cg,bV,cn,ck⟩:=bd.resolve_left fun h=>by rw [h.1] at aC; cases aC
 have aS:=bV.md (L:= [47]) aO (TF.eq (dN<|Wk.aT an aI) aB) aB fun h=>by omega
 have aN:=ao.wk a1;have bZ:=Jr (BW E) (G8 E) hd;obtain ⟨seen,aY⟩:=aZ;have b0:=aY.len;refine aQ<|bx<|ag fun aG=>p mv<|p mv<|p (dj (ps:= [(0,aV fb),(1,aV wb)]) (L:= [aV fb,aV wb,.int .i64 0,.string ⟨⟨[]⟩⟩,.string ⟨⟨[]⟩⟩,.int .u16 0,.int .u16 0,.int .u16 0,.int .u16 0,.int .u16 0,.int .i64 0,.slice none 0 0,.slice none 0 0,.slice none 0 0,.slice none 0 0,.slice none 0 0]) ack aa<|aa)<|e<|og aa fun aH ac ch ap aJ=> ?_;have ct:=ap.size;refine ay<|aG<|az fun bA=> ?_;have A:(fun w'=>Wk ac w') ac.drew:=(Md.refl _ _).drew;refine e5 (fun w'=>Wk ac w') 14 aa wide A<|bN 0 aa (mv) A<|bN 1 aa (mv) A<|bN 2 aa (mv) A<|bN 3 aa (nc aa) A<|bN 4 aa (fa zL aa) A<|ea 5 aa (fun w' J=>ld gF aa<|Wk.aW J<|(bg aJ).trans aa) A<|bN 7 aa (mv) A<|bN 8 aa (nc aa) A<|bN 9 aa (fa KD aa) A<|ea 10 aa (fun w' J=>ld Hf aa<|Wk.aW J<|(bg aJ).trans aa) A<|gS 6 aa aj<|cl y8 (yN al.heap.size fb mc F V ac.drew ((aN.wk ap.md).wk A) (by simp only [List.length_nil] at b0; omega) a6) aa fun v37 br bP=> ?_;obtain ⟨⟨V2,rfl,bX⟩,hE37⟩:=bP;have cu:=hE37.size;have cB:=A.size;have ba:(fun w'=>Wk ac w') br:=A.trans hE37;refine ⟨ba,?_⟩;refine gS 11 aa aj<|cl Th (Vy B wb mb va vs xs br (((aS.wk ap.md).wk A).wk hE37) ab fun x E=>(bZ.1 x E).2.1) aa fun bp aD bQ=> ?_;obtain ⟨⟨ws,bc,b1,_⟩,hE42⟩:=bQ;have cw:=hE42.size;have ak:=Rk bX hE42;have bb:=Wk.aT hE42<|Wk.aT hE37<|Wk.aT A aJ;have aP:(fun w'=>Wk ac w') aD:=ba.trans hE42;refine ⟨aP,?_⟩;refine bN 12 aa (nc aa) aP<|bN 13 aa (fa xa aa) aP<|dU 14 aa aj aj<|fU C1 aa aa aa (Cd (fy ak.o9) (fy ak.fk) (fy ak.eK)<|fy ak.dM) bb (by simp) fun cE a4 bH=> ?_;have cA:=a4.size;refine ko 15 aa (fun _=>nc aa) (fun h=>ep<|(show true =_ from by kernel_rfl).trans h)<|ko 16 aa (fun _=>fa DA aa) (fun h=>ep<|(show true =_ from by kernel_rfl).trans h)<|dU 17 aa aj aj<|dx I7 aa aa (v:=bp) (fy bc) bH (by show 15 < 16; omega) fun aU a3 bG=> ?_;have cz:=a3.size;have ae:=a4.trans' a3 fun q G h=>h;have O:TF aD [107] (fun q=>q=aH):=TF.eq (dN bb) aB;have bJ:Wk ac aD:=A.trans<|hE37.trans hE42;have ai:Wk I aD:=ap.md.trans bJ;have aM:Wk I aU:=ai.trans' ae fun q G h=>by omega
 obtain ⟨cf,b4,_⟩:=(aN.wk ai).cm;obtain ⟨fm,b5,_⟩:=(aS.wk ai).mp;have bT:fY aU al.heap.size aH ⟨fb,mc,wb,mb,V,V2,va,bp,vs,ws⟩ F xs:=⟨bG,(aN.wk ai).md ae O aB (O.no (eR b4) aB),Ce (Ri ak ab) ae O aB,VW ((aS.wk ai).md ae O aB<|O.no (eR b5) aB) ab,eQ (cQ bc ae O aB) ab,(b1.md ae fun k hk cur z b6=>O.no (dN b6) aB hk).mono ab⟩
 refine eZ aj<|bA<|ag fun bt=>p mv<|p (dj (ps:= []) (L:= [.int .i64 0,.int .i64 0,.int .i64 0]) vp aa<|aa)<|p aE<|e<|fU km aa aa aa aa (Wk.aT (ah.trans aM) am) aB fun cF a5 bI=>nl ?_;refine bt<|rt<|eN aa eD (ed (cs:= [.int .i64 0,.int .i64 0,.int .i64 0]) aa lT aa fun j Y=>(bg bI).trans<|by match j,Y with | 0,_=>rfl | 1,_=>rfl | 2,_=>rfl) ?_;refine ⟨⟨_,_,_,_,aa,?_⟩,(aq.md.trans<|ah.trans aM).trans' a5 fun q G h=>by omega⟩;rw [FL E hd];have bU:TF aU [47] (fun q=>q=C):=TF.eq (dN<|Wk.aT (ah.trans aM) am) aB;exact ⟨al.heap.size,aH,_,ab,aa,bT.Mq a5 bU aB (fun h:mc=C=>by have :=ao.lo.2; omega) (fun h:mb=C=>by omega),eC.of E hd ⟨seen,aY⟩ ao.gr⟩
end Go.Hb
end
section
namespace Go.Hb
open Go.Hb.gy Go.Hb.jO Go.Hb.jX Go.Hb.kV
def ow (xs:List bC) (n:Int):Tx:=if 0≤n∧n < xs.length then (xs.getD n.toNat ([],[])).1 else []
def tE (F:aU) (n:Int):c7:=if 0≤n∧n < F.rules.length then F.rules.getD n.toNat dR else dR
theorem uz {xs:List bC} {k:Nat} {x:bC} (h:xs[k]? =some x):ow xs k=x.1∧flagsOf xs k=x.2∧k < xs.length∧xs.getD k ([],[])=x:=by
 have hk:=(fL.1 h).1;have hd:xs.getD k ([],[])=x:=by rw [cX,h]; rfl
 refine ⟨?_,?_,hk,hd⟩
 · unfold ow; rw [if_pos ab,kQ,hd]
 · unfold flagsOf; rw [if_pos ab,kQ,hd]
theorem uA {xs:List bC} {n:Int} (h:¬(0≤n∧n < xs.length)):ow xs n= []∧flagsOf xs n= []:=by
 unfold ow flagsOf; rw [if_neg h,if_neg h]; exact ⟨rfl,rfl⟩
theorem xU {F:aU} {k:Nat} {r:c7} (h:F.rules[k]? =some r):tE F k=r∧cw F k=r.next∧k < F.rules.length∧F.rules.getD k dR=r:=by
 have hk:=(fL.1 h).1;have hd:F.rules.getD k dR=r:=by rw [cX,h]; rfl
 refine ⟨?_,?_,hk,hd⟩
 · unfold tE; rw [if_pos ab,kQ,hd]
 · unfold cw; rw [if_pos ab,kQ,hd]
theorem xV {F:aU} {n:Int} (h:¬(0≤n∧n < F.rules.length)):tE F n=dR∧cw F n= []:=by
 unfold tE cw; rw [if_neg h,if_neg h]; exact ⟨rfl,rfl⟩
theorem acQ {w:World} {B tb:Nat} {U:gJ} {F:aU} {xs:List bC} (h:fY w B tb U F xs) {k:Nat} {x:bC} (G:xs[k]? =some x):∃ A ce a c,U.ve= .slice A xs.length ce∧Hb.aW w.heap tb 15=some (.slice A xs.length ce)∧aM w.heap A (kG<|xs.zip U.ws)∧(xs.zip U.ws)[k]? =some (x,.slice a x.2.length c)∧Tg w B 95 x.2.length (.slice a x.2.length c) (x.2.map bo):=by
 obtain ⟨A,ce,E⟩:=cJ h.oe;have I:=h.oe;rw [E] at I;have hk:=(fL.1 G).1;obtain ⟨v,J,C⟩:=eL.get h.ef (show k < (xs.map (·.2)).length by rw [fP]; exact hk);have O:(xs.map (·.2)).getD k []=x.2:=by rw [cX,gx,G]; rfl
 rw [O] at C;obtain ⟨a,c,rfl⟩:=C.slice;exact ⟨A,ce,a,c,E,by rw [← E]; exact (bg h.cells).trans aa,(ba I).2,jW.2 ⟨G,J⟩,C⟩
theorem acR {w:World} {B tb:Nat} {U:gJ} {F:aU} {xs:List bC} (h:fY w B tb U F xs):∃ A ce,Hb.aW w.heap tb 15=some (.slice A xs.length ce):=by
 obtain ⟨A,ce,C⟩:=cJ h.oe;exact ⟨A,ce,by rw [← C]; exact (bg h.cells).trans aa⟩
theorem acS {w:World} {B tb:Nat} {U:gJ} {F:aU} {xs:List bC} (h:fY w B tb U F xs):∃ ar cr,Hb.aW w.heap tb 14=some (.slice ar F.rules.length cr):=by
 obtain ⟨ar,cr,A⟩:=cJ h.ax.dM;exact ⟨ar,cr,by rw [← A]; exact (bg h.cells).trans aa⟩
theorem Rj {w:World} {B:Nat} {F:aU} {V:fH} (h:qG w B F V) {k:Nat} {r:c7} (C:F.rules[k]? =some r):∃ ar cr a c,V.v12= .slice ar F.rules.length cr∧aM w.heap ar (iG<|F.rules.zip V.rn)∧(F.rules.zip V.rn)[k]? =some (r,.slice a r.next.length c)∧Tg w B 95 r.next.length (.slice a r.next.length c) (r.next.map bo):=by
 obtain ⟨ar,cr,G⟩:=cJ h.dM;have E:=h.dM;rw [G] at E;have hk:=(fL.1 C).1;obtain ⟨v,I,A⟩:=eL.get h.nx (show k < (F.rules.map (·.next)).length by rw [fP]; exact hk);have J:(F.rules.map (·.next)).getD k []=r.next:=by rw [cX,gx,C]; rfl
 rw [J] at A;obtain ⟨a,c,rfl⟩:=A.slice;exact ⟨ar,cr,a,c,G,(ba E).2,jW.2 ⟨C,I⟩,A⟩
structure gE (w:World) (B tb fb:Nat) (V:eF) (ve:Value) (F:aU) (xs:List bC):Prop where
 cells:w.heap[tb]? =some (.cells [.pointer (some ⟨fb,0,none⟩),ve].toArray 78 (0,0))
 fl:eU w B 0 fb F V
 en:nZ w B ve xs
theorem gE.wk {w w':World} {B tb fb:Nat} {V:eF} {ve:Value} {F:aU} {xs:List bC} (h:gE w B tb fb V ve F xs) (hm:Wk w w'):gE w' B tb fb V ve F xs:=⟨Wk.aT hm h.cells,h.fl.wk hm,h.en.wk hm⟩
theorem gE.eM {w:World} {B tb fb:Nat} {V:eF} {ve:Value} {F:aU} {xs:List bC} (h:gE w B tb fb V ve F xs) {k:Nat} {x:bC} (G:xs[k]? =some x):∃ A ce ws a c,Hb.aW w.heap tb 1=some (.slice A xs.length ce)∧aM w.heap A (kG<|xs.zip ws)∧(xs.zip ws)[k]? =some (x,.slice a x.2.length c)∧Tg w 0 3 x.2.length (.slice a x.2.length c) (x.2.map bT):=by
 obtain ⟨ws,E,J⟩:=h.en;obtain ⟨A,ce,I⟩:=cJ E;rw [I] at E;have hk:=(fL.1 G).1;obtain ⟨v,O,C⟩:=ja.get J (show k < (xs.map (·.2)).length by rw [fP]; exact hk);have Y:(xs.map (·.2)).getD k []=x.2:=by rw [cX,gx,G]; rfl
 rw [Y] at C;obtain ⟨a,c,rfl⟩:=C.slice;exact ⟨A,ce,ws,a,c,by rw [← I]; exact (bg h.cells).trans aa,(ba E).2,jW.2 ⟨G,O⟩,C⟩
theorem gE.FZ {w:World} {B tb fb:Nat} {V:eF} {ve:Value} {F:aU} {xs:List bC} (h:gE w B tb fb V ve F xs):∃ A ce,Hb.aW w.heap tb 1=some (.slice A xs.length ce):=by
 obtain ⟨ws,C,G⟩:=h.en;obtain ⟨A,ce,E⟩:=cJ C;exact ⟨A,ce,by rw [← E]; exact (bg h.cells).trans aa⟩
theorem gE.F1 {w:World} {B tb fb:Nat} {V:eF} {ve:Value} {F:aU} {xs:List bC} (h:gE w B tb fb V ve F xs):∃ ar cr,Hb.aW w.heap fb 12=some (.slice ar F.rules.length cr):=by
 obtain ⟨ar,cr,A⟩:=cJ h.fl.dM;exact ⟨ar,cr,by rw [← A]; exact (bg h.fl.cells).trans aa⟩
theorem gE.jw {w:World} {B tb fb:Nat} {V:eF} {ve:Value} {F:aU} {xs:List bC} (h:gE w B tb fb V ve F xs) {k:Nat} {r:c7} (C:F.rules[k]? =some r):∃ ar cr a c,Hb.aW w.heap fb 12=some (.slice ar F.rules.length cr)∧aM w.heap ar (nA<|F.rules.zip V.rn)∧(F.rules.zip V.rn)[k]? =some (r,.slice a r.next.length c)∧Tg w 0 3 r.next.length (.slice a r.next.length c) (r.next.map bT):=by
 obtain ⟨ar,cr,G⟩:=cJ h.fl.dM;have E:=h.fl.dM;rw [G] at E;have hk:=(fL.1 C).1;obtain ⟨v,I,A⟩:=ja.get h.fl.nx (show k < (F.rules.map (·.next)).length by rw [fP]; exact hk);have J:(F.rules.map (·.next)).getD k []=r.next:=by rw [cX,gx,C]; rfl
 rw [J] at A;obtain ⟨a,c,rfl⟩:=A.slice;exact ⟨ar,cr,a,c,by rw [← G]; exact (bg h.fl.cells).trans aa,(ba E).2,jW.2 ⟨C,I⟩,A⟩
theorem Xw {w:World} {B B' B0 fb:Nat} {F:aU} {V:eF} (h:eU w B B0 fb F V) (A:B'≤B):eU w B' B0 fb F V:=⟨h.cells,eQ h.o9 A,eQ h.fk A,h.al,eQ h.eK A,eQ h.dM A,h.nx,fz A h.lo,h.gr⟩
theorem XK {w:World} {B B':Nat} {v:Value} {xs:List bC} (h:nZ w B v xs) (A:B'≤B):nZ w B' v xs:=by
 obtain ⟨vs,h1,h2⟩:=h;exact ⟨vs,eQ h1 A,h2⟩
theorem XM {s:Tx} {w w':World} {v:Value} (h:mD s w v w'):∃ p l e,v= .tuple #[.pointer p,.int .i64 l,.int .i64 e]∧((e≠0∧∃ er,fQ s= .error er)∨(e=0∧∃ F B fb V,p=some ⟨fb,0,none⟩∧fQ s= .ok F∧w.heap.size≤B∧eU w' B 0 fb F V∧(∃ seen,oW F [] seen)∧Nx F))∧Wk w w':=by
 obtain ⟨h,A⟩:=h;cases hx:fQ s with
 | error e=>rw [hx] at h; exact ⟨_,_,_,h,.inl ⟨by have :=QR hx; omega,e,rfl⟩,A⟩
 | ok F=>rw [hx] at h; obtain ⟨B,fb,V,C,E,h1,h2,h3⟩:=h; exact ⟨_,_,_,E,.inr ⟨rfl,F,B,fb,V,rfl,rfl,C,h1,h2,h3⟩,A⟩
theorem XP {F:aU} {s:Tx} {w w':World} {v:Value} (h:l8 F s w v w'):∃ a l e,v= .tuple #[a,.int .i64 l,.int .i64 e]∧a.oneCell'=true∧((e≠0∧∃ er,fN F s= .error er)∨(e=0∧∃ xs,fN F s= .ok xs∧nZ w' w.heap.size a xs))∧Wk w w':=by
 obtain ⟨h,A⟩:=h;cases hx:fN F s with
 | error e=>rw [hx] at h; exact ⟨_,_,_,h,rfl,.inl ⟨by have :=VL hx; omega,e,rfl⟩,A⟩
 | ok xs=>rw [hx] at h; obtain ⟨a,E,h1⟩:=h; exact ⟨_,_,_,E,(by obtain ⟨ws,C,_⟩:=h1; exact fy C),.inr ⟨rfl,xs,rfl,h1⟩,A⟩
def vX (a t:Tx) (w:World) (v:Value) (w':World):Prop :=(∃ p A C E,v= .tuple #[.pointer p,.agg [.int .i64 A,.int .i64 C,.int .i64 E].toArray]∧match lh a t with
 | none=>p=none
 | some T=> ∃ B tb fb V ve,p=some ⟨tb,0,none⟩∧gE w' B tb fb V ve T.1 T.2)∧Wk w w'
theorem vX.no {a t:Tx} {w w':World} {A C E:Int} (h:lh a t=none) (hm:Wk w w'):vX a t w (.tuple #[.pointer none,.agg [.int .i64 A,.int .i64 C,.int .i64 E].toArray]) w':=⟨⟨none,A,C,E,rfl,by rw [h]⟩,hm⟩
theorem abD (a t:Tx) (w:World) (a3:a.length≤1048576) (a7:t.length≤1048576):
 bm aw 29 (bh [str a,str t]) w (vX a t w):=by
 refine enter func29 aa ntmps29 aa<|ag fun aG=>p aE<|e<|gk O7 fun ap ao bd I aq=> ?_;have bk:=I.size;have ai:bS ao.heap ap [.int .i64 0,.int .i64 0,.int .i64 0]:=⟨_,aq⟩
 refine nl<|aG<|ag fun aH=>au (str a)<|e<|cl Tn (aa3 a ao a3) aa fun v12 aF a0=> ?_;have a5:=XM a0;obtain ⟨pp,am,ae,rfl,aC,A⟩:=a5;have bg:=A.size;refine p mv<|p (xt aa aa)<|p (xt aa aa)<|p (xt aa aa)<|p aE<|p aE<|p aE<|nl<|aH<|az fun aI=>ag fun aJ=>p mv<|p (dd aa aa)<|nl<|aJ ?_;refine cd aa (fun ak=> ?_) fun ak=> ?_;obtain ⟨er,J⟩:=(aC.resolve_right fun h=>ak h.1).2;exact ag fun O=>p mv<|p mv<|p (dj (ps:= [(0,.int .i64 1),(1,.int .i64 am),(2,.int .i64 ae)]) (L:= [.int .i64 1,.int .i64 am,.int .i64 ae]) FG aa<|aa)<|p aE<|e<|dt zl aa aa aa aa (Wk.B A ai) (by simp) fun bl aX aO=>nl<|O<|rt<|tr<|eN aa eD (ed (cs:= [.int .i64 1,.int .i64 am,.int .i64 ae]) aa B6 aa fun j ax=>aO.bB j)<|vX.no (Ol J)<|(I.md.trans A).trans' aX fun q aD h=>by omega
 obtain ⟨bf,F,B,fb,V,rfl,J,aU,av,aS,aZ⟩:=aC.resolve_left fun h=>ak h.1;refine aQ<|aI<|ag fun O=>p mv<|au (str t)<|e<|cl To (Xp B fb F V t aF av aS aZ a7) aa fun v24 a8 a1=> ?_;have a6:=XP a1;obtain ⟨a2,an,ah,rfl,bb,aA,C⟩:=a6;have bi:=C.size;refine p mv<|p (xt aa aa)<|p (xt aa aa)<|p (xt aa aa)<|p aE<|p aE<|p aE<|nl<|O<|az fun aK=>ag fun aL=>p mv<|p (dd aa aa)<|nl<|aL ?_;refine cd aa (fun al=> ?_) fun al=> ?_;obtain ⟨er,hd⟩:=(aA.resolve_right fun h=>al h.1).2;exact ag fun Y=>p mv<|p mv<|p (dj (ps:= [(0,.int .i64 2),(1,.int .i64 an),(2,.int .i64 ah)]) (L:= [.int .i64 2,.int .i64 an,.int .i64 ah]) FG aa<|aa)<|p aE<|e<|dt zl aa aa aa aa (Wk.B (A.trans C) ai) (by simp) fun bn aY aP=>nl<|Y<|rt<|tr<|eN aa eD (ed (cs:= [.int .i64 2,.int .i64 an,.int .i64 ah]) aa B6 aa fun j ax=>aP.bB j)<|vX.no (Om J hd)<|(I.md.trans<|A.trans C).trans' aY fun q aD h=>by omega
 obtain ⟨xw,xs,hd,ba,ay,a4⟩:=aA.resolve_left fun h=>al h.1;obtain ⟨Z,ac,rfl⟩:=cJ ay;have aW:nZ a8 aF.heap.size (.slice Z xs.length ac) xs:=⟨ba,ay,a4⟩
 refine aQ<|aK<|ag fun Y=>p mv<|p mv<|p (dj (ps:= [(0,aV fb),(1,.slice Z xs.length ac)]) (L:= [aV fb,.slice Z xs.length ac]) acy aa<|aa)<|e<|og aa fun aM a9 bc E aN=> ?_;have bj:=E.size;refine p (dj (ps:= []) (L:= [.int .i64 0,.int .i64 0,.int .i64 0]) FG aa<|aa)<|p aE<|e<|dt zl aa aa aa aa (Wk.B ((A.trans C).trans E.md) ai) (by simp) fun bo G aR=>nl<|Y<|rt<|eN aa eD (ed (cs:= [.int .i64 0,.int .i64 0,.int .i64 0]) aa B6 aa fun j ax=>aR.bB j) ?_;refine ⟨⟨_,_,_,_,aa,?_⟩,(I.md.trans<|(A.trans C).trans E.md).trans' G fun q aD h=>by omega⟩;rw [FL J hd];have aj:TF a9 [71] (fun q=>q=ap):=TF.eq (dN<|Wk.aT ((A.trans C).trans E.md) aq) aB;refine ⟨ao.heap.size,aM,fb,V,_,aa,G.iT aj aN aB,Xw ((av.wk<|C.trans E.md).md G aj aB) aU,XK ((aW.wk E.md).md G aj aB) ab⟩
end Go.Hb
end
namespace Go.Hb
def abc:Go.Shelf.Ren:=⟨fun n=>if n=125 then 66 else if n=128 then 123 else if n=129 then 124 else if n=189 then 143 else if n=215 then 177 else if n=216 then 249 else if n=257 then 208 else if n=294 then 243 else if n=295 then 244 else if n=296 then 245 else if n=297 then 246 else if n=298 then 247 else if n=299 then 248 else if n=300 then 250 else if n=301 then 251 else if n=328 then 269 else if n=329 then 184 else if n=330 then 185 else if n=331 then 270 else if n=332 then 271 else if n=343 then 293 else 0,fun n=>if n=0 then 0 else if n=3 then 3 else if n=4 then 4 else if n=5 then 5 else if n=9 then 9 else if n=28 then 85 else if n=46 then 145 else if n=51 then 240 else if n=53 then 242 else if n=131 then 237 else if n=182 then 232 else if n=183 then 233 else if n=218 then 287 else if n=222 then 291 else if n=228 then 335 else if n=229 then 219 else 0,fun n=>n⟩
theorem L9:Go.Proofs.Lays.n189 aw abc where
 mixed:=aj
 f125:=aj
 f128:=aj
 f129:=aj
 f189:=aj
 f215:=aj
 f216:=aj
 f257:=aj
 f294:=aj
 f295:=aj
 f296:=aj
 f297:=aj
 f298:=aj
 f299:=aj
 f300:=aj
 f301:=aj
 f328:=aj
 f329:=aj
 f330:=aj
 f331:=aj
 f332:=aj
 f343:=aj
 t0:=aj
 a0:=fun _=>aj
 z0:=fun _=>aj
 v0:=fun _=>aj
 t3:=aj
 a3:=fun _=>aj
 z3:=fun _=>aj
 v3:=fun _=>aj
 t4:=aj
 a4:=fun _=>aj
 z4:=fun _=>aj
 v4:=fun _=>aj
 t5:=aj
 a5:=fun _=>aj
 z5:=fun _=>aj
 v5:=fun _=>aj
 t9:=aj
 a9:=fun _=>aj
 z9:=fun _=>aj
 v9:=fun _=>aj
 t28:=aj
 a28:=fun _=>aj
 z28:=fun _=>aj
 v28:=fun _=>aj
 t46:=aj
 a46:=fun _=>aj
 z46:=fun _=>aj
 v46:=fun _=>aj
 t51:=aj
 a51:=fun _=>aj
 z51:=fun _=>aj
 v51:=fun _=>aj
 t53:=aj
 a53:=fun _=>aj
 z53:=fun _=>aj
 v53:=fun _=>aj
 t131:=aj
 a131:=fun _=>aj
 z131:=fun _=>aj
 v131:=fun _=>aj
 t182:=aj
 a182:=fun _=>aj
 z182:=fun _=>aj
 v182:=fun _=>aj
 t183:=aj
 a183:=fun _=>aj
 z183:=fun _=>aj
 v183:=fun _=>aj
 t218:=aj
 a218:=fun _=>aj
 z218:=fun _=>aj
 v218:=fun _=>aj
 t222:=aj
 a222:=fun _=>aj
 z222:=fun _=>aj
 v222:=fun _=>aj
 t228:=aj
 a228:=fun _=>aj
 z228:=fun _=>aj
 v228:=fun _=>aj
 t229:=aj
 a229:=fun _=>aj
 z229:=fun _=>aj
 v229:=fun _=>aj
theorem ab9 (B n:Nat) (v:Value) (A:List Int) (w:World) (G:bz w B 3 1 v n (A.map<|gP .i64)) (Y:A.length≤1048576):
 bm aw 143 [v].toArray w (fun V w'=>V= .tuple #[]∧bz w' B 3 1 v n ((A.mergeSort fun x y=>decide (x≤y)).map<|gP .i64)∧Md (fun k=>v.ownBlock=some k) w w'):=by
 have hn:A.length=n:=by have :=G.1; simpa using this
 have hlen:(A.mergeSort fun x y=>decide (x≤y)).length=A.length:=List.length_mergeSort _;rcases G.2 with ⟨rfl,Z⟩ | ⟨g,cap,cur,rfl,I,E,h1,h2,h3,h4⟩
 · have O:A= []:=fR ab;subst O;refine mu (Any.slices_Sort_int_none L9 none 0 w) ?_;rintro e w' ⟨rfl,rfl⟩;exact ⟨_,aa,aa,by rw [List.mergeSort_nil]; exact G,Md.refl _ _⟩
 · subst hn;rw [Nat.mul_one] at h4;refine mu (calls_of_every_depth fun D=>AnyS.slices_Sort_int_alone L9 D g 0 cap A w (holds_of_blockI E h4) (dO.1 E).1 ab) ?_;rintro e w' ⟨rfl,m,os,rfl⟩;have C:=grownBy_sortedI (w:=w) (g:=g) (n:=m) (os:=os) (A.mergeSort fun x y=>decide (x≤y)).toArray;refine ⟨_,aa,aa,ownsRow_sortedI hlen I E h1 h2 h3,⟨C.os,C.output,C.size,fun k hk J=>C.block k hk fun he=>J ?_⟩⟩;simp only [Value.ownBlock]; exact he.symm
end Go.Hb
section
namespace Go.Hb.kB
open Go.Hb.gy Go.Hb.jO Go.Hb.jX Go.Hb.kV
theorem Mm (l:List Nat):(l.map fun i:Nat=>(i:Int)).map (gP .i64)=l.map bT:=by rw [List.map_map]; rfl
theorem pO {F:aU} {xs:List bC} (h:eC F xs) (n:Int):(flagsOf xs n).length≤64∧lP (flagsOf xs n):=by
 by_cases hn:0≤n∧n < xs.length
 · obtain ⟨k,rfl⟩:∃ k:Nat,n=(k:Int):=⟨n.toNat,ab⟩
   have A:xs[k]? =some xs[k]:=cx ab;rw [(uz A).2.1];exact ⟨(h.wS _<|gC A).2.1,h.VY _<|gC A⟩
 · rw [(uA hn).2]; exact ⟨hZ _,xr⟩
theorem vu {F:aU} {xs:List bC} (h:eC F xs) (n:Int):(cw F n).length≤64∧lP (cw F n):=by
 by_cases hn:0≤n∧n < F.rules.length
 · obtain ⟨k,rfl⟩:∃ k:Nat,n=(k:Int):=⟨n.toNat,ab⟩
   have A:F.rules[k]? =some F.rules[k]:=cx ab;rw [(xU A).2.1];exact ⟨(h.jw A).1,(h.jw A).2.1⟩
 · rw [(xV hn).2]; exact ⟨hZ _,xr⟩
theorem Ux {F:aU} {k f:Nat} (h:(ej F.bE f).isSome=false):ig F k f= []:=by
 unfold ig;cases h2:ej F.bE f with
 | none=>rfl
 | some c=>rw [h2] at h; cases h
theorem UA {F:aU} {k f:Nat} {c:dy} (h:(ej F.bE f).isSome=true) (A:(ej F.bE f).getD uH=c):ej F.bE f=some c:=by
 cases h2:ej F.bE f with
 | none=>rw [h2] at h; cases h
 | some d=>rw [h2] at A; exact congrArg some A
theorem Uy {F:aU} {k f:Nat} {c:dy} (h:ej F.bE f=some c) (hk:c.kind≠k):ig F k f= []:=by unfold ig; rw [h]; exact if_neg hk
theorem UB {F:aU} {k f:Nat} {c:dy} (h:ej F.bE f=some c) (hk:c.kind=k):ig F k f=(gX c.count).map (c.first+ ·):=by unfold ig; rw [h]; exact if_pos hk
theorem Uv {F:aU} (A:qI F) {f:Nat} {c:dy} (h:ej F.bE f=some c):c.first+c.count≤F.rules.length:=(A.wH c (Kd h).1).1
theorem WQ {fs:List Nat} {f:Nat→List Nat} {i:Nat} (h:i < fs.length):(fs.take<|i+1).flatMap f=(fs.take i).flatMap f++f (fs.getD i 0):=by
 rw [fV fs i 0 h,List.flatMap_append,List.flatMap_singleton]
theorem MI {F:aU} (A:qI F) {fs:List Nat} (h:fs.Pairwise (· < ·)) (k:Nat):(fs.flatMap<|ig F k).length=(bj F fs k).length:=by
 obtain ⟨h1,h2⟩:=MH A (k:=k) h;exact ((List.perm_ext_iff_of_nodup h1<|(EC F fs k).imp fun h=>by omega).2 h2).length_eq
theorem Z4 {F:aU} (A:qI F) {fs:List Nat} (h:fs.Pairwise (· < ·)) (k:Nat):(fs.flatMap<|ig F k).length≤F.rules.length:=by
 rw [MI A h]; exact vf F fs k
def nG (F:aU) (fs:List Nat) (kind n:Nat):List Nat:=(gX n).filter fun i=>decide ((F.rules.getD i dR).kind=kind∧(F.rules.getD i dR).flag∈fs)
theorem Z3 (F:aU) (fs:List Nat) (kd n:Nat):nG F fs kd (n+1)=nG F fs kd n++(if (F.rules.getD n dR).kind=kd∧(F.rules.getD n dR).flag∈fs then [n] else []):=by
 unfold nG;rw [Qh,List.filter_append];congr 1;rw [List.filter_cons,List.filter_nil];by_cases h:(F.rules.getD n dR).kind=kd∧(F.rules.getD n dR).flag∈fs
 · rw [decide_eq_true h,if_pos h]; rfl
 · rw [decide_eq_false h,if_neg h]; rfl
theorem Z2 (F:aU) (fs:List Nat) (kd n:Nat):(nG F fs kd n).length≤n:=by
 unfold nG; have :=List.length_filter_le (fun i=>decide ((F.rules.getD i dR).kind=kd∧(F.rules.getD i dR).flag∈fs)) (gX n); simpa using this
def oG (r:c7) (fs:List Nat) (kd i k:Nat):List Nat:=if r.kind=kd∧r.flag∈fs.take k then [i] else []
theorem MO (r:c7) (fs:List Nat) (kd i:Nat):oG r fs kd i 0= []:=if_neg fun h=>by simp at h
theorem MN {r:c7} {fs:List Nat} {kd i k:Nat} (hk:k < fs.length) (h:fs.getD k 0≠r.flag):oG r fs kd i (k+1)=oG r fs kd i k:=by
 unfold oG;rw [fV fs k 0 hk];have :r.flag∈fs.take k++ [fs.getD k 0]↔r.flag∈fs.take k:=by
  rw [jm,iK]; exact ⟨fun h2=>h2.elim id (fun e=>absurd e.symm h),.inl⟩
 simp only [this]
theorem aaa {r:c7} {fs:List Nat} {kd i k:Nat} (G:fs.Pairwise (· < ·)) (hk:k < fs.length) (h:fs.getD k 0=r.flag) (I:r.kind=kd):oG r fs kd i (k+1)=oG r fs kd i k++ [i]:=by
 unfold oG;rw [fV fs k 0 hk];have hn:r.flag∉fs.take k:=fun h2=>by
  obtain ⟨j,A⟩:=List.getElem?_of_mem h2;have C:j < k:=by have :=(fL.1 A).1; rw [List.length_take] at this; omega
  rw [List.getElem?_take_of_lt C] at A;have E:=fL.1 A;have :=List.pairwise_iff_getElem.1 G j k E.1 hk C;rw [cX,cx hk] at h;simp only [Option.getD_some] at h;have h3:=E.2;omega
 rw [if_pos ⟨I,by rw [jm]; exact .inr<|iK.2 h.symm⟩,if_neg (fun h2=>hn h2.2)]; rfl
theorem MM {F:aU} {r:c7} {fs:List Nat} {kd i k:Nat} (A:F.rules.getD i dR=r) (h:k=fs.length∨r.kind≠kd):nG F fs kd i++oG r fs kd i k=nG F fs kd (i+1):=by
 rw [Z3,A];congr 1;unfold oG;rcases h with rfl | h
 · rw [List.take_length]
 · rw [if_neg (fun h2=>h h2.1),if_neg (fun h2=>h h2.1)]
def kN (F:aU) (xs:List bC) (e k:Int):Bool:=decide (0≤k∧k < 5) && tw F xs e k.toNat
theorem Oq {w:World} {B tb:Nat} {U:gJ} {F:aU} {xs:List bC} (h:fY w B tb U F xs) {k:Nat} (hk:k < 5):Hb.aW w.heap tb (5 +k*1)=some (bo<|F.sp.getD k 0):=by
 refine (bg h.cells).trans ?_
 match k,hk with
 | 0,_=>rfl
 | 1,_=>rfl
 | 2,_=>rfl
 | 3,_=>rfl
 | 4,_=>rfl
theorem Ln {w:World} {B tb fb:Nat} {V:eF} {ve:Value} {F:aU} {xs:List bC} (h:gE w B tb fb V ve F xs) {k:Nat} (hk:k < 5):Hb.aW w.heap fb (3 +k*1)=some (bT<|F.sp.getD k 0):=by
 refine (bg h.fl.cells).trans ?_
 match k,hk with
 | 0,_=>rfl
 | 1,_=>rfl
 | 2,_=>rfl
 | 3,_=>rfl
 | 4,_=>rfl
theorem Lu {x:Nat} {l:List Nat} (h:0∉l):decide (x∈l)=decide (x≠0∧x∈l):=decide_eq_decide.2 ⟨fun h2=>⟨fun h3=>h (h3 ▸ h2),h2⟩,And.right⟩
theorem zu (B tb:Nat) (U:gJ) (F:aU) (xs:List bC) (n:Int) (w:World) (ax:fY w B tb U F xs) (ak:eC F xs):
 bm aw 24 (bh [aV tb,.int .i64 n]) w (fun v w'=>(∃ a,v= .tuple #[.agg [str (ow xs n),a].toArray,.bool (decide (0≤n∧n < xs.length))]∧bz w' w.heap.size 95 1 a (flagsOf xs n).length ((flagsOf xs n).map bo))∧Wk w w'):=by
 obtain ⟨a6,ce,a2⟩:=acR ax;have bk:=ak.xl;refine enter func24 aa ntmps24 aa<|ag fun aG=>e<|al sG fun a8 aD bd C J=> ?_;have bp:=C.size;have aZ:=ax.wk C.md;have a4:=Wk.aW C.md a2;refine ay<|aG<|az fun aI=>ag fun ai=>p mv<|p (ly x8 aa aa)<|p mv<|gb (t:=9) aa (fun h=>absurd (h.symm.trans<|aa) ep) fun bg=>aJ aa mv<|aJ aa (lt aa aa)<|p (bA aa)<|p mv<|gs (t:=13) aa (fun a1=> ?_) fun a1=> ?_;refine aH aa<|aH aa<|aH aa<|aH aa<|aH aa<|aH aa<|aH aa<|p (bH aa)<|nl<|ai<|ct aa<|ag fun E=>p (dj (ps:= []) (L:= [.string ⟨⟨[]⟩⟩,.slice none 0 0]) pM aa<|aa)<|e<|dt kZ aa aa aa aa (J) (by simp) fun a5 V I=>p aE<|nl<|E<|rt<|tr<|eN aa (ed (cs:= [str [],.slice none 0 0]) aa ma aa fun j Z=>I.bB j) eD ?_;have G:=uA (xs:=xs) (n:=n) ab;exact ⟨⟨.slice none 0 0,by rw [G.1,decide_eq_false (show ¬(0≤n∧n < (xs.length:Int)) by omega)]; rfl,by rw [G.2]; exact dK _ _ _ _⟩,C.md.trans' V fun q A h=>by omega⟩;refine aJ aa mv<|aJ aa mv<|aJ aa (nc aa)<|aJ aa (fa DA aa)<|aJ aa (ld wc aa<|a4)<|aJ aa (bM A1 aa aa)<|aJ aa (ge aa aa)<|p (bA aa)<|nl<|ai<|cd aa (fun a0=> ?_) fun a0=> ?_;refine ag fun E=>p (dj (ps:= []) (L:= [.string ⟨⟨[]⟩⟩,.slice none 0 0]) pM aa<|aa)<|e<|dt kZ aa aa aa aa (J) (by simp) fun a5 V I=>ay<|E<|rt<|tr<|eN aa (ed (cs:= [str [],.slice none 0 0]) aa ma aa fun j Z=>I.bB j) eD ?_;have G:=uA (xs:=xs) (n:=n) ab;exact ⟨⟨.slice none 0 0,by rw [G.1,decide_eq_false (show ¬(0≤n∧n < (xs.length:Int)) by omega)]; rfl,by rw [G.2]; exact dK _ _ _ _⟩,C.md.trans' V fun q A h=>by omega⟩;obtain ⟨k,rfl⟩:∃ k:Nat,n=(k:Int):=⟨n.toNat,ab⟩
 obtain ⟨x,ae⟩:∃ x,xs[k]? =some x:=⟨_,cx ab⟩
 obtain ⟨a7,a9,a,c,bi,a3,an,aC,aA⟩:=acQ aZ ae;have bj:=(ak.wS x<|gC ae).2.1;obtain ⟨aN,aO,ba,bb⟩:=uz ae;refine aQ<|aI<|ag fun E=>p mv<|p (nc aa)<|p (fa DA aa)<|p (ld wc aa<|a3)<|p mv<|p (bc Df aa aa ab<|aM.ok (an)<|wP aC)<|p (cW ma aa (aa)<|fC (f:=qU) (m:=2) (fun _=>rfl) an aC)<|e<|al sG fun aj bt bf av aX=> ?_;have br:=av.size;refine e<|dt kZ aa aa aa aa (aX) (by simp) fun ah aq aP=> ?_;have ao:Wk aD ah:=av.md.trans' aq fun q A h=>by omega
 have bl:=aq.size;have am:bS ah.heap aj [str x.1,.slice a x.2.length c]:=aP;refine nl<|E<|ag fun aK=>p (fa tk aa)<|p (ld od aa<|am.bB 1)<|e<|cl uE (uG a x.2.length c (x.2.map bo) ah (aA.wk ao).dp.2 (by simp) (fun h=>Tg.vg aA (by simp) h) (ux _) ab) aa fun v32 bs aY=> ?_;obtain ⟨ac,O⟩:=aY;obtain ⟨a32,y7,rfl⟩:=cJ ac;have bn:=O.size;refine p (fa tk aa)<|e<|st uJ aa aa (aa) (Wk.B O am) (by simp) fun aF Y aR=> ?_;have ap:Wk aD aF:=(ao.trans O).trans' Y fun q A h=>by omega
 have bq:=Y.size;have aB:=dw ac Y fun q A h=>by have :=(dQ ac A).1; omega
 have aS:bS aF.heap aj [str x.1,.slice a32 x.2.length y7]:=aR;exact nl<|aK<|ag fun aL=>p (cW ma aa (aa) fun j Z=>aS.bB j)<|e<|dt kZ aa aa aa aa (Wk.B ap J) (by simp) fun bu au aT=>p aE<|nl<|aL<|rt<|eN aa (ed (cs:= [str x.1,.slice a32 x.2.length y7]) aa ma aa fun j Z=>aT.bB j) eD<|⟨⟨_,by rw [aN,decide_eq_true (show 0≤(k:Int)∧(k:Int) < (xs.length:Int) by omega)]; rfl,by rw [aO]; exact dw (eQ aB ab) au fun q A h=>by have :=(dQ aB A).1; omega⟩,(C.md.trans ap).trans' au fun q A h=>by omega⟩
theorem AE (B tb:Nat) (U:gJ) (F:aU) (xs:List bC) (n:Int) (w:World) (aC:fY w B tb U F xs) (an:eC F xs):
 bm aw 87 (bh [aV tb,.int .i64 n]) w (fun v w'=>(∃ a,v= .tuple #[.agg (e6 (tE F n,a)).toArray,.bool (decide (0≤n∧n < F.rules.length))]∧bz w' w.heap.size 95 1 a (cw F n).length ((cw F n).map bo))∧Wk w w'):=by
 obtain ⟨bf,ce,a8⟩:=acS aC;have bq:=an.len;refine enter func87 aa ntmps87 aa<|ag fun aL=>e<|al rp fun aS I bk C O=> ?_;have bt:=C.size;have aD:=aC.wk C.md;have bb:=Wk.aW C.md a8;have a1:bS I.heap aS (e6 (dR,.slice none 0 0)):=O;refine ay<|aL<|az fun aN=>ag fun aj=>p mv<|p (ly x8 aa aa)<|p mv<|gb (t:=9) aa (fun h=>absurd (h.symm.trans<|aa) ep) fun bn=>aJ aa mv<|aJ aa (lt aa aa)<|p (bA aa)<|p mv<|gs (t:=13) aa (fun a7=> ?_) fun a7=> ?_;refine aH aa<|aH aa<|aH aa<|aH aa<|aH aa<|aH aa<|aH aa<|aH aa<|p (bH aa)<|nl<|aj<|ct aa<|ag fun E=>p (dj (ps:= []) (L:= [.int .i64 0,.int .u16 0,.bool false,.string ⟨⟨[]⟩⟩,.string ⟨⟨[]⟩⟩,.string ⟨⟨[]⟩⟩,.slice none 0 0]) FD aa<|aa)<|e<|dt po aa aa aa aa (O) (by simp) fun bd Y J=>ay<|E<|rt<|tr<|eN aa (ed (cs:=e6 (dR,.slice none 0 0)) aa lS aa fun j ac=>J.bB j) eD ?_;have G:=xV (F:=F) (n:=n) ab;exact ⟨⟨.slice none 0 0,by rw [G.1,decide_eq_false (show ¬(0≤n∧n < (F.rules.length:Int)) by omega)]; rfl,by rw [G.2]; exact dK _ _ _ _⟩,C.md.trans' Y fun q A h=>by omega⟩;refine aJ aa mv<|aJ aa mv<|aJ aa (nc aa)<|aJ aa (fa xa aa)<|aJ aa (fa pC aa)<|aJ aa (ld np aa<|bb)<|aJ aa (bM sy aa aa)<|aJ aa (ge aa aa)<|p (bA aa)<|nl<|aj<|cd aa (fun a6=> ?_) fun a6=> ?_;refine ag fun E=>p (dj (ps:= []) (L:= [.int .i64 0,.int .u16 0,.bool false,.string ⟨⟨[]⟩⟩,.string ⟨⟨[]⟩⟩,.string ⟨⟨[]⟩⟩,.slice none 0 0]) FD aa<|aa)<|e<|dt po aa aa aa aa (O) (by simp) fun bd Y J=>ay<|E<|rt<|tr<|eN aa (ed (cs:=e6 (dR,.slice none 0 0)) aa lS aa fun j ac=>J.bB j) eD ?_;have G:=xV (F:=F) (n:=n) ab;exact ⟨⟨.slice none 0 0,by rw [G.1,decide_eq_false (show ¬(0≤n∧n < (F.rules.length:Int)) by omega)]; rfl,by rw [G.2]; exact dK _ _ _ _⟩,C.md.trans' Y fun q A h=>by omega⟩;obtain ⟨k,rfl⟩:∃ k:Nat,n=(k:Int):=⟨n.toNat,ab⟩
 obtain ⟨r,ah⟩:∃ r,F.rules[k]? =some r:=⟨_,cx ab⟩
 obtain ⟨aR,aT,a,c,a9,ap,aI,aF⟩:=Rj aD.ax ah;have ba:Hb.aW I.heap tb 14=some (.slice aR F.rules.length aT):=by rw [← a9]; exact (bg aD.cells).trans rfl
 have bp:=(an.jw ah).1;obtain ⟨aX,aY,bi,bj⟩:=xU ah;refine aQ<|aN<|ag fun E=>p mv<|p (nc aa)<|p (fa xa aa)<|p (fa pC aa)<|p (ld np aa<|ba)<|p mv<|p (bc ny aa aa ab<|aM.ok (ap)<|oM aI)<|p (cW lS aa (aa)<|fC (f:=e6) (m:=7) (fun _=>rfl) ap aI)<|e<|al rp fun am bD bl aB a4=> ?_;have bv:=aB.size;refine e<|dt po aa aa aa aa (a4) (by simp) fun ai av aZ=> ?_;have aq:Wk I ai:=aB.md.trans' av fun q A h=>by omega
 have br:=av.size;have ao:bS ai.heap am (e6 (r,.slice a r.next.length c)):=aZ;refine nl<|E<|ag fun aO=>p (fa r4 aa)<|p (ld od aa<|ao.bB 6)<|e<|cl uE (uG a r.next.length c (r.next.map bo) ai (aF.wk aq).dp.2 (by simp) (fun h=>Tg.vg aF (by simp) h) (ux _) ab) aa fun bw bx a5=> ?_;obtain ⟨ae,V⟩:=a5;obtain ⟨ak,CJ,rfl⟩:=cJ ae;have bs:=V.size;refine p (fa r4 aa)<|e<|st uJ aa aa (aa) (Wk.B V ao) (by show 6 < 7; omega) fun aK Z a0=> ?_;have au:Wk I aK:=(aq.trans V).trans' Z fun q A h=>by omega
 have bu:=Z.size;have aG:=dw ae Z fun q A h=>by have :=(dQ ae A).1; omega
 have a2:bS aK.heap am (e6 (r,.slice ak r.next.length CJ)):=a0;exact nl<|aO<|ag fun aP=>p (cW lS aa (aa) fun j ac=>a2.bB j)<|e<|dt po aa aa aa aa (Wk.B au a1) (by show 7≤7; omega) fun bE aA a3=>p aE<|nl<|aP<|rt<|eN aa (ed (cs:=e6 (r,.slice ak r.next.length CJ)) aa lS aa fun j ac=>a3.bB j) eD<|⟨⟨_,by rw [aX,decide_eq_true (show 0≤(k:Int)∧(k:Int) < (F.rules.length:Int) by omega)]; rfl,by rw [aY]; exact dw (eQ aG ab) aA fun q A h=>by have :=(dQ aG A).1; omega⟩,(C.md.trans au).trans' aA fun q A h=>by omega⟩
theorem YC (a:Option Addr) (c:Nat) (l:List Nat) (x:Nat) (w:World) (E:aM w.heap a (l.map bo)) (ap:l.length≤1048576):
 bm aw 142 (bh [.slice a l.length c,bo x]) w (fun v w'=>(∃ k:Int,v= .int .i64 k∧(0≤k↔x∈l)∧ -1≤k∧k≤1048576)∧Wk w w'):=by
 refine enter func142 aa ntmps142 aa<|ag fun Y=>ay<|Y<|az fun Z=>ag fun ac=>au (.slice a l.length c)<|p (bM OA aa aa)<|p mv<|nl<|ac<|aT<|lp (fun C V O=> ∃ (i:Nat),(i≤l.length)∧(∀ j,j < i→l.getD j 0≠x)∧(O=w)∧(Sl V [(0,.slice a l.length c),(1,bo x),(7,ak (l.length)),(8,ak i)])∧(l.length - i=C)) _ ⟨0,ab,(fun j I=>by omega),aa,aa,aa⟩ ?_;rintro C V O ⟨i,hi,J,am,ao,rfl⟩;refine bG ao ?_;subst am;refine ag fun ae=>p (lt aa aa)<|nl<|ae<|az fun ah=>cd aa (fun an=> ?_) fun an=> ?_;refine aQ<|ah<|az fun A=>aT<|ag fun ai=>au (ak i)<|p (cE (ak i) aa)<|nl<|ai<|ag fun aj=>au (bo x)<|au (.slice a l.length c)<|au (ak i)<|p (bc JL aa aa ab<|aM.ok (E)<|cg ab)<|p (ld du aa<|aM.gY E (show (l.map bo)[i]? =some (bo<|l.getD i 0) by rw [gx,cX,cx (by omega :i < l.length)]; rfl)) ?_;refine p (bQ aa aa)<|nl<|aj<|cd aa (fun G=> ?_) fun G=> ?_;exact ag fun al=>au (ak i)<|p (cE (ak i) aa)<|nl<|al<|rt<|br<|tr<|tr<|br<|tr<|a6 aa<|⟨⟨(i:Nat),aa,⟨fun _=>by obtain rfl :x=l.getD i 0:=ab; exact eb ab,fun _=>by omega⟩,ab,ab⟩,Md.refl _ _⟩
 exact aQ<|bn<|A<|rg aa<|p (ad aa aa<|cB ab)<|p mv<|nl<|tn<|⟨_,ab,i+1,ab,(fun j I=>by rcases fM j i with h | h <;> first | exact J j h | (rw [show j=i by omega]; exact fun h2=>G<|by rw [h2])),aa,aa,aa⟩
 exact ext<|bf<|bf<|be<|Z<|ag fun A=>p aE<|nl<|A<|rt<|a6 aa<|⟨⟨-1,aa,⟨fun h=>absurd h ab,fun h=>by obtain ⟨j,I,e⟩:=mR 0 h; exact absurd e<|J j ab⟩,ab,ab⟩,Md.refl _ _⟩
theorem UR (a:Option Addr) (c:Nat) (l:List Nat) (x:Nat) (w:World) (E:aM w.heap a (l.map bo)) (J:l.length≤1048576):
 bm aw 85 (bh [.slice a l.length c,bo x]) w (fun v w'=>v= .bool (decide (x∈l))∧Wk w w'):=by
 refine enter func85 aa ntmps85 aa<|ag fun A=>ay<|A<|ag fun C=>au (.slice a l.length c)<|au (bo x)<|e<|cl RW (YC a c l x w E J) aa fun Y Z G=> ?_;obtain ⟨⟨O,rfl,I,V⟩,hE7⟩:=G;exact p (ge aa aa)<|ay<|C<|rt<|a6 aa<|⟨by show ca (decide (O≥0))=_; exact congrArg ca (decide_eq_decide.2 I),hE7⟩
theorem Lt (a:Option Addr) (c:Nat) (l:List Nat) (x:Nat) (w:World) (E:aM w.heap a (l.map bo)) (J:l.length≤1048576):
 bm aw 43 (bh [.slice a l.length c,bo x]) w (fun v w'=>v= .bool (decide (x∈l))∧Wk w w'):=by
 refine enter func43 aa ntmps43 aa<|ag fun A=>ay<|A<|ag fun C=>au (.slice a l.length c)<|au (bo x)<|e<|cl TI (UR a c l x w E J) aa fun O V I=> ?_;obtain ⟨rfl,G⟩:=I;exact ay<|C<|rt<|a6 aa<|⟨aa,G⟩
theorem ED (B tb:Nat) (U:gJ) (F:aU) (xs:List bC) (fs:List Nat) (a:Option Addr) (c kd:Nat) (w:World) (aL:fY w B tb U F xs) (O:eC F xs) (aC:aM w.heap a (fs.map bo)) (bV:fs.length≤64) (aq:fs.Pairwise (· < ·)):
 bm aw 86 (bh [aV tb,.slice a fs.length c,ak kd]) w (fun v w'=>bz w' w.heap.size 3 1 v (bj F fs kd).length ((bj F fs kd).map bT)∧Wk w w'):=by
 have bZ:=O.len;refine enter func86 aa ntmps86 aa<|ag fun a0=>ay<|a0<|ag fun a9=>p aE<|nl<|a9<|az fun ba=>ag fun bb=>au (.slice a fs.length c)<|p (bM qn aa aa)<|p mv<|nl<|bb<|aT<|lp (fun J aY G=> ∃ (i:Nat) (v:Value),(i≤fs.length)∧(bz G w.heap.size 3 1 v ((fs.take i).flatMap<|ig F kd).length<|((fs.take i).flatMap<|ig F kd).map bT)∧(((fs.take i).flatMap<|ig F kd).length≤i*70000)∧(Wk w G)∧(Sl aY [(0,aV tb),(2,ak kd),(7,v),(13,.slice a fs.length c),(14,ak (fs.length)),(15,ak i)])∧(fs.length - i=J)) _ ⟨0,.slice none 0 0,ab,(dK _ _ _ _),(hZ _),(Md.refl _ _),aa,aa⟩ ?_;rintro J aY G ⟨i,v,hi,ac,aR,A,bK,rfl⟩;refine bG bK<|ag fun bd=>p (lt aa aa)<|nl<|bd<|az fun bi=>cd aa (fun bw=> ?_) fun bw=> ?_;refine aQ<|bi<|az fun I=>aT<|ag fun ai=>p (bc cy aa aa ab<|aM.ok (aC.wk A)<|cg ab)<|p (ld du aa<|aM.gY (aC.wk A) (show (fs.map bo)[i]? =some (bo<|fs.getD i 0) by rw [gx,cX,cx (by omega :i < fs.length)]; rfl)) ?_;refine ay<|ai<|ag fun bk=>au (aV tb)<|p (nc aa)<|p (fa zL aa)<|p (ld gF aa<|(bg (aL.wk A).cells).trans aa)<|p mv<|e<|cl Cm (Dj B U.fb U.mc F U.V (fs.getD i 0) G (aL.wk A).fl ab) aa fun v25 b6 aK=> ?_;obtain ⟨cl,aO⟩:∃ cl,(ej F.bE<|fs.getD i 0).getD uH=cl:=⟨_,rfl⟩
 rw [aO] at aK;have E:=WQ (f:=ig F kd) (show i < fs.length by omega);obtain ⟨rfl,aD⟩:=aK;have b1:=aD.size;refine p mv<|p (xt aa aa)<|p (xt aa aa)<|e<|gk vE fun aj b5 bQ aI bl=> ?_;have b0:=aI.size;refine e<|fU th aa aa aa aa bl (by simp) fun aW aG br=> ?_;have Z:Wk G aW:=(aD.trans aI.md).trans' aG fun q bY h=>by omega
 have b4:=aG.size;have am:aW.heap[aj]? =some (.cells (ph cl).toArray 192 (0,0)):=br;have ax:=a7 ac Z;refine ay<|bk<|az fun a1=>ag fun aA=>p mv<|p (no aa)<|p mv<|gb (t:=30) aa (fun av=> ?_) fun av=> ?_;have Y:ig F kd (fs.getD i 0)= []:=Ux<|by simpa using av
 exact aH aa<|aH aa<|aH aa<|aH aa<|p (bH aa)<|nl<|aA<|ct aa<|ext<|bf<|be<|I<|rg aa<|p (ad aa aa<|cB ab)<|p mv<|nl<|tn<|⟨_,ab,i+1,v,ab,(by rw [E,Y,eB]; exact ax),(by rewrite [E,Y,eB]; exact fz aR<|qD _<|Nat.le_succ i),(A.trans Z),aa,aa⟩
 have ao:=UA (k:=kd) (by simpa using av) aO;refine aJ aa (fa xj aa)<|aJ aa (ld bD aa<|(bg am).trans aa)<|aJ aa (aX (ak kd) aa)<|aJ aa (dd aa aa)<|p (bA aa)<|nl<|aA<|cd aa (fun aN=> ?_) fun aN=> ?_;have Y:ig F kd (fs.getD i 0)= []:=Uy ao fun h=>aN<|by rw [h]
 exact ext<|bf<|be<|I<|rg aa<|p (ad aa aa<|cB ab)<|p mv<|nl<|tn<|⟨_,ab,i+1,v,ab,(by rw [E,Y,eB]; exact ax),(by rewrite [E,Y,eB]; exact fz aR<|qD _<|Nat.le_succ i),(A.trans Z),aa,aa⟩
 have bB:cl.kind=kd:=ab;have aP:=UB ao bB;have bS:=Uv O.cls ao;refine aQ<|a1<|ag fun a2=>p (fa zR aa)<|p (ld bD aa<|(bg am).trans aa)<|p mv<|nl<|a2<|aT<|lp (fun J aZ ah=> ∃ (j:Nat) (v2:Value),(j≤cl.count)∧(bz ah w.heap.size 3 1 v2 ((fs.take i).flatMap (ig F kd)++(gX j).map (cl.first+ ·)).length<|((fs.take i).flatMap (ig F kd)++(gX j).map (cl.first+ ·)).map bT)∧(ah.heap[aj]? =some (.cells (ph cl).toArray 192 (0,0)))∧(Wk w ah)∧(Sl aZ [(0,aV tb),(2,ak kd),(7,v2),(10,aV aj),(13,.slice a fs.length c),(14,ak (fs.length)),(15,ak i),(37,ak (cl.count)),(38,ak j)])∧(cl.count - j=J)) _ ⟨0,v,ab,(by rw [List.range_zero,List.map_nil,eB]; exact ax),am,(A.trans Z),aa,aa⟩ ?_;rintro J aZ ah ⟨j,v2,bW,ae,an,al,bN,rfl⟩;refine bG bN<|ag fun a3=>p (lt aa aa)<|nl<|a3<|az fun a4=>cd aa (fun bx=> ?_) fun bx=> ?_;refine aQ<|a4<|az fun a5=>aT<|ag fun a8=>au (ak j)<|p (cE (ak j) aa)<|nl<|a8<|rg aa<|au (v2)<|p (fa KM aa)<|p (ld bD aa<|(bg an).trans aa)<|au (ak j)<|p (bJ ((cl.first+j:Nat):Int) aa aa<|bp ab ab)<|e<|gz lG aa aa fun bP b7 bR C bq=> ?_;have b2:=C.size;have bX:((fs.take i).flatMap (ig F kd)++(gX j).map (cl.first+ ·)).length=((fs.take i).flatMap<|ig F kd).length+j:=by rw [bL,fP,vR]
 have bI:(fs.take i).flatMap (ig F kd)++(gX<|j+1).map (cl.first+ ·)=((fs.take i).flatMap (ig F kd)++(gX j).map (cl.first+ ·))++ [cl.first+j]:=by rw [Qh,gW,← List.append_assoc]; rfl
 refine e<|ap lG (a7 ae C.md) aa (by have :=al.size; omega) aa (aM.ec bq) (aa) (aa) ab ab fun bO b8 bF aF b3 bU=> ?_;have bs:=Wk.own (al.trans C.md) (a7 ae C.md) aF<|cU _;have bv:=aF.aT (C.md.aT an) fun h=>dX (a7 ae C.md) (C.md.aT an) aB h;exact p aE<|nl<|bn<|a5<|rg aa<|p (ad aa aa<|cB ab)<|p mv<|nl<|tn<|⟨_,ab,j+1,bO,ab,(by rw [bI,gW,bL]; exact bF),bv,bs,aa,aa⟩
 exact ext<|bf<|bf<|be<|bn<|I<|rg aa<|p (ad aa aa<|cB ab)<|p mv<|nl<|tn<|⟨_,ab,i+1,v2,ab,(by rw [E,aP,show cl.count=j by omega]; exact ae),(by rewrite [E,aP,bL,fP,vR]; omega),al,aa,aa⟩
 refine ext<|bf<|bf<|be<|ba<|az fun I=> ?_;rw [List.take_of_length_le (show fs.length≤i by omega)] at ac;refine rg aa<|au (v)<|e<|cl RX (ab9 w.heap.size _ v ((fs.flatMap<|ig F kd).map fun i:Nat=>(i:Int)) G (by rw [Mm]; exact ac)<|by rw [fP]; have :=Z4 O.cls aq kd; omega) aa fun v51 b9 bu=> ?_;obtain ⟨rfl,aS,bt⟩:=bu;rw [aca O.cls aq,Mm,MI O.cls aq] at aS;exact nl<|I<|ag fun ai=>au (v)<|p (cE (v) aa)<|nl<|ai<|rt<|a6 aa<|⟨aS,Wk.own A ac bt<|cU _⟩
theorem acI (B tb:Nat) (U:gJ) (F:aU) (xs:List bC) (n:Int) (w:World) (V:fY w B tb U F xs) (A:eC F xs):
 bm aw 45 (bh [aV tb,.int .i64 n]) w (fun v w'=>bz w' w.heap.size 3 1 v (bj F (flagsOf xs n) 2).length ((bj F (flagsOf xs n) 2).map bT)∧Wk w w'):=by
 refine enter func45 aa ntmps45 aa<|ag fun Z=>ay<|Z<|ag fun ac=>au (aV tb)<|au (.int .i64 n)<|e<|cl rR (zu B tb U F xs n w V A) aa fun v10 aq am=> ?_;obtain ⟨⟨av,rfl,Y⟩,hE10⟩:=am;obtain ⟨G,I,rfl⟩:=cJ Y;have aB:=hE10.size;refine p mv<|p (xt aa aa)<|p (xt aa aa)<|e<|al sG fun ah aF ax O aj=> ?_;have aC:=O.size;refine e<|dt kZ aa aa aa aa (aj) (by simp) fun E J ai=> ?_;have C:Wk aq E:=O.md.trans' J fun q az h=>by omega
 have aA:=J.size;have ao:bS E.heap ah ([str (ow xs n),.slice G (flagsOf xs n).length I]):=ai;refine ay<|ac<|ag fun ae=>au (aV tb)<|p (fa tk aa)<|p (ld od aa<|ao.bB 1)<|e<|cl CN (ED B tb U F xs (flagsOf xs n) G I 2 E (V.wk<|hE10.trans C) A ((ba Y).2.wk C) (pO A n).1 (pO A n).2.1) aa fun aD aE an=> ?_;obtain ⟨ap,ak⟩:=an;exact ay<|ae<|rt<|a6 aa<|⟨eQ ap ab,(hE10.trans C).trans ak⟩
theorem aaW (B tb:Nat) (U:gJ) (F:aU) (xs:List bC) (n:Int) (w:World) (V:fY w B tb U F xs) (A:eC F xs):
 bm aw 47 (bh [aV tb,.int .i64 n]) w (fun v w'=>bz w' w.heap.size 3 1 v (bj F (flagsOf xs n) 1).length ((bj F (flagsOf xs n) 1).map bT)∧Wk w w'):=by
 refine enter func47 aa ntmps47 aa<|ag fun Z=>ay<|Z<|ag fun ac=>au (aV tb)<|au (.int .i64 n)<|e<|cl rR (zu B tb U F xs n w V A) aa fun v10 aq am=> ?_;obtain ⟨⟨av,rfl,Y⟩,hE10⟩:=am;obtain ⟨G,I,rfl⟩:=cJ Y;have aB:=hE10.size;refine p mv<|p (xt aa aa)<|p (xt aa aa)<|e<|al sG fun ah aF ax O aj=> ?_;have aC:=O.size;refine e<|dt kZ aa aa aa aa (aj) (by simp) fun E J ai=> ?_;have C:Wk aq E:=O.md.trans' J fun q az h=>by omega
 have aA:=J.size;have ao:bS E.heap ah ([str (ow xs n),.slice G (flagsOf xs n).length I]):=ai;refine ay<|ac<|ag fun ae=>au (aV tb)<|p (fa tk aa)<|p (ld od aa<|ao.bB 1)<|e<|cl CN (ED B tb U F xs (flagsOf xs n) G I 1 E (V.wk<|hE10.trans C) A ((ba Y).2.wk C) (pO A n).1 (pO A n).2.1) aa fun aD aE an=> ?_;obtain ⟨ap,ak⟩:=an;exact ay<|ae<|rt<|a6 aa<|⟨eQ ap ab,(hE10.trans C).trans ak⟩
theorem NM (B tb:Nat) (U:gJ) (F:aU) (xs:List bC) (n:Int) (w:World) (V:fY w B tb U F xs) (A:eC F xs):
 bm aw 46 (bh [aV tb,.int .i64 n]) w (fun v w'=>bz w' w.heap.size 3 1 v (bj F (cw F n) 2).length ((bj F (cw F n) 2).map bT)∧Wk w w'):=by
 refine enter func46 aa ntmps46 aa<|ag fun Z=>ay<|Z<|ag fun ac=>au (aV tb)<|au (.int .i64 n)<|e<|cl IB (AE B tb U F xs n w V A) aa fun v10 aq am=> ?_;obtain ⟨⟨av,rfl,Y⟩,hE10⟩:=am;obtain ⟨G,I,rfl⟩:=cJ Y;have aB:=hE10.size;refine p mv<|p (xt aa aa)<|p (xt aa aa)<|e<|al rp fun ah aF ax O aj=> ?_;have aC:=O.size;refine e<|dt po aa aa aa aa (aj) (by simp) fun E J ai=> ?_;have C:Wk aq E:=O.md.trans' J fun q az h=>by omega
 have aA:=J.size;have ao:bS E.heap ah (e6 (tE F n,.slice G (cw F n).length I)):=ai;refine ay<|ac<|ag fun ae=>au (aV tb)<|p (fa r4 aa)<|p (ld od aa<|ao.bB 6)<|e<|cl CN (ED B tb U F xs (cw F n) G I 2 E (V.wk<|hE10.trans C) A ((ba Y).2.wk C) (vu A n).1 (vu A n).2.1) aa fun aD aE an=> ?_;obtain ⟨ap,ak⟩:=an;exact ay<|ae<|rt<|a6 aa<|⟨eQ ap ab,(hE10.trans C).trans ak⟩
theorem JC (B tb:Nat) (U:gJ) (F:aU) (xs:List bC) (n:Int) (w:World) (ai:fY w B tb U F xs) (G:eC F xs):
 bm aw 90 (bh [aV tb,.int .i64 n]) w (fun v w'=>v= .bool (pw F n)∧Wk w w'):=by
 refine enter func90 aa ntmps90 aa<|ag fun am=>ay<|am<|ag fun an=>au (aV tb)<|au (.int .i64 n)<|e<|cl IB (AE B tb U F xs n w ai G) aa fun v10 aD ax=> ?_;obtain ⟨⟨aG,rfl,ak⟩,hE10⟩:=ax;obtain ⟨Y,Z,rfl⟩:=cJ ak;have aK:=hE10.size;refine p mv<|p (xt aa aa)<|p (xt aa aa)<|e<|al rp fun ao aM aH ah aq=> ?_;have aL:=ah.size;refine e<|dt po aa aa aa aa (aq) (by simp) fun C ae ap=> ?_;have ac:Wk aD C:=ah.md.trans' ae fun q aI h=>by omega
 have aJ:=ae.size;have aC:bS C.heap ao (e6 (tE F n,.slice Y (cw F n).length Z)):=ap;have I:=hE10.trans ac;have aB:=ai.wk I;refine ay<|an<|az fun V=> ?_;have A:(fun w'=>Wk C w') C.drew:=(Md.refl _ _).drew;refine bY (fun w'=>Wk C w') aa wide A<|aR 0 aa (mv) A<|aR 1 aa (mv) A<|js (t:=14) aa (fun O=> ?_) fun O=> ?_;refine bq 2 aa (fun _ _=>fa r4 aa) A<|bq 3 aa (fun w' J=>ld od aa<|Wk.aW J<|aC.bB 6) A<|bq 4 aa (fun _ _=>aX (aV tb) aa) A<|bq 5 aa (fun _ _=>nc aa) A<|bq 6 aa (fun _ _=>fa xa aa) A<|bq 7 aa (fun _ _=>fa zJ aa) A<|bq 8 aa (fun _ _=>kJ wm aa aa ab) A<|bq 9 aa (fun w' J=>ld du aa<|Wk.aW J<|Oq aB (k:=0) ab) A<|nB 10 aa aj aa aa aa<|cl It (Lt Y Z (cw F n) (F.sp.getD 0 0) C.drew (((ba ak).2.wk ac).wk A)<|by have :=(vu G n).1; omega) aa fun v23 aF aA=> ?_;obtain ⟨rfl,av⟩:=aA;have E:(fun w'=>Wk C w') aF:=A.trans av;refine ⟨E,?_⟩;exact bq 11 aa (fun _ _=>no aa) E<|aR 12 aa (bH aa) E<|aR 13 aa (aE) E<|hn aj<|V<|rt<|a6 aa<|⟨by unfold pw; rw [decide_eq_true O,Lu (vu G n).2.2]; rfl,I.trans E⟩
 exact a8 2 aa A<|a8 3 aa A<|a8 4 aa A<|a8 5 aa A<|a8 6 aa A<|a8 7 aa A<|a8 8 aa A<|a8 9 aa A<|a8 10 aa A<|a8 11 aa A<|aR 12 aa (bA aa) A<|aR 13 aa (aE) A<|hn aj<|V<|rt<|a6 aa<|⟨by unfold pw; rw [decide_eq_false O]; rfl,I.trans A⟩
theorem Aj (B tb:Nat) (U:gJ) (F:aU) (xs:List bC) (n k:Int) (w:World) (ah:fY w B tb U F xs) (J:eC F xs):
 bm aw 23 (bh [aV tb,.int .i64 n,.int .i64 k]) w (fun v w'=>v= .bool (kN F xs n k)∧Wk w w'):=by
 refine enter func23 aa ntmps23 aa<|ag fun am=>ay<|am<|ag fun an=>p mv<|p mv<|e<|cl rR (zu B tb U F xs n w ah J) aa fun v12 aF av=> ?_;obtain ⟨⟨a12,rfl,ak⟩,hE12⟩:=av;obtain ⟨V,Y,rfl⟩:=cJ ak;have aK:=hE12.size;refine p mv<|p (xt aa aa)<|p (xt aa aa)<|e<|al sG fun ao aN aH ae aq=> ?_;have aL:=ae.size;refine e<|dt kZ aa aa aa aa (aq) (by simp) fun C ac ap=> ?_;have Z:Wk aF C:=ae.md.trans' ac fun q aI h=>by omega
 have aJ:=ac.size;have aB:bS C.heap ao [str (ow xs n),.slice V (flagsOf xs n).length Y]:=ap;have E:=hE12.trans Z;have aA:=ah.wk E;refine ay<|an<|az fun G=> ?_;have A:(fun w'=>Wk C w') C.drew:=(Md.refl _ _).drew;refine bY (fun w'=>Wk C w') aa wide A<|aR 0 aa (mv) A<|aR 1 aa (mv) A<|js (t:=16) aa (fun ai=> ?_) fun ai=> ?_;refine bq 2 aa (fun _ _=>mv) A<|bq 3 aa (fun _ _=>ge aa aa) A<|aR 4 aa (bH aa) A<|aR 5 aa (mv) A<|js (t:=20) aa (fun aC=> ?_) fun aC=> ?_;refine bq 6 aa (fun _ _=>mv) A<|bq 7 aa (fun _ _=>lt aa aa) A<|aR 8 aa (bH aa) A<|aR 9 aa (mv) A<|js (t:=24) aa (fun aD=> ?_) fun aD=> ?_;obtain ⟨k,rfl⟩:∃ m:Nat,k=(m:Int):=⟨k.toNat,ab⟩
 refine bq 10 aa (fun _ _=>fa tk aa) A<|bq 11 aa (fun w' O=>ld od aa<|Wk.aW O<|aB.bB 1) A<|bq 12 aa (fun _ _=>mv) A<|bq 13 aa (fun _ _=>mv) A<|bq 14 aa (fun _ _=>nc aa) A<|bq 15 aa (fun _ _=>fa xa aa) A<|bq 16 aa (fun _ _=>fa zJ aa) A<|bq 17 aa (fun _ _=>kJ wm aa aa ab) A<|bq 18 aa (fun w' O=>ld du aa<|Wk.aW O<|Oq aA ab) A<|nB 19 aa aj aa aa aa<|cl It (Lt V Y (flagsOf xs n) (F.sp.getD k 0) C.drew (((ba ak).2.wk Z).wk A)<|by have :=(pO J n).1; omega) aa fun aM aG ax=> ?_;obtain ⟨rfl,au⟩:=ax;have I:(fun w'=>Wk C w') aG:=A.trans au;refine ⟨I,?_⟩;exact aR 20 aa (bH aa) I<|aR 21 aa (aE) I<|hn aj<|G<|rt<|a6 aa<|⟨by unfold kN tw; rw [decide_eq_true (show 0≤((k:Nat):Int)∧((k:Nat):Int) < 5 by omega),kQ,Lu (pO J n).2.2]; rfl,E.trans I⟩
 exact a8 10 aa A<|a8 11 aa A<|a8 12 aa A<|a8 13 aa A<|a8 14 aa A<|a8 15 aa A<|a8 16 aa A<|a8 17 aa A<|a8 18 aa A<|a8 19 aa A<|aR 20 aa (bA aa) A<|aR 21 aa (aE) A<|hn aj<|G<|rt<|a6 aa<|⟨by unfold kN; rw [decide_eq_false (show ¬(0≤k∧k < 5) by omega)]; rfl,E.trans A⟩
 exact a8 6 aa A<|a8 7 aa A<|aR 8 aa (bA aa) A<|aR 9 aa (mv) A<|a8 10 aa A<|a8 11 aa A<|a8 12 aa A<|a8 13 aa A<|a8 14 aa A<|a8 15 aa A<|a8 16 aa A<|a8 17 aa A<|a8 18 aa A<|a8 19 aa A<|aR 20 aa (bA aa) A<|aR 21 aa (aE) A<|hn aj<|G<|rt<|a6 aa<|⟨by unfold kN; rw [decide_eq_false (show ¬(0≤k∧k < 5) by omega)]; rfl,E.trans A⟩
 exact a8 2 aa A<|a8 3 aa A<|aR 4 aa (bA aa) A<|aR 5 aa (mv) A<|a8 6 aa A<|a8 7 aa A<|aR 8 aa (bA aa) A<|aR 9 aa (mv) A<|a8 10 aa A<|a8 11 aa A<|a8 12 aa A<|a8 13 aa A<|a8 14 aa A<|a8 15 aa A<|a8 16 aa A<|a8 17 aa A<|a8 18 aa A<|a8 19 aa A<|aR 20 aa (bA aa) A<|aR 21 aa (aE) A<|hn aj<|G<|rt<|a6 aa<|⟨by unfold kN tw; rw [(uA ai).2,decide_eq_false (show ¬(F.sp.getD k.toNat 0≠0∧F.sp.getD k.toNat 0∈[]) from fun h=>by cases h.2),Bool.and_false]; rfl,E.trans A⟩
end Go.Hb.kB
end
