/-
  Walks and plain laws that the law rests on, laid together. No conditions but those that each theorem names.
-/
import Derived.Test.YtchkamdekbbgeaaGreatDoorMnAnalyseStems6
set_option linter.unusedVariables false
set_option maxRecDepth 20000
set_option maxHeartbeats 1000000
open Array renaming getElem?_eq_some_iff→dT
open Bool renaming noConfusion→eA,or_eq_false_iff→oY
open Classical renaming byContradiction→yC,not_not→jT
open Go.Calls renaming mono→lU
open Go.Proofs.Tryz renaming prog→aE
open Go.Value renaming bool→cy,int→gY,slice→cg
open Go.World renaming ownsRow→bB,ownsRow_nil→dC
open Int renaming toNat_natCast→kH
open List renaming all_cons→wq,append_nil→eJ,drop_eq_nil_of_le→iS,eq_nil_of_length_eq_zero→fY,getD_eq_getElem?_getD→da,getElem?_eq_getElem→cz,getElem?_eq_some_iff→fS,getElem?_map→gi,getElem?_zip_eq_some→j9,length_append→bP,length_cons→db,length_map→fH,length_pos_iff→mr,length_range→wy,length_singleton→fE,map_append→fZ,mem_append→gq,mem_cons_self→o6,mem_of_getElem?→gL,mem_singleton→gD,range→gZ,range_succ→Ce,toArray→bl,zip_append→Ht
open Nat renaming le_refl→cU,le_trans→fu,lt_or_ge→fT,mul_le_mul_right→qO,zero_le→iK
open Go.Proofs.Tryz
open Go.Hb.dX Go.Proofs Go.Hb.jX Go.Hb.uE Go.Hb.eX Go.Hb.fI Go.Hb.mL Go.Hb.kL Go.Hb.iY Go.Hb.ir Go.Hb.jm

section
namespace Go.Hb.Cl
open Go.Hb.pc Go.Hb.yX Go.Hb.pf
theorem ach {kind ln:Nat} {al:List (List Nat)} {c:dD} {r:List Tx} {e:Nat} (h:r.length=4∨r.length=5) (h1:eW true (r.getD 2 [])= .error e):gy kind al c ln r= .error e:=by rw [nX h,h1]
theorem Od {kind ln:Nat} {al:List (List Nat)} {c:dD} {r:List Tx} {e:Nat} {st:Tx} (h:r.length=4∨r.length=5) (h1:eW true (r.getD 2 [])= .ok st) (h2:km (bK<|r.getD 3 [])= .error e):gy kind al c ln r= .error e:=by rw [nX h,h1]; simp only; rw [h2]
theorem Oe {kind ln:Nat} {al:List (List Nat)} {c:dD} {r:List Tx} {e:Nat} {st ad:Tx} (h:r.length=4∨r.length=5) (h1:eW true (r.getD 2 [])= .ok st) (h2:km (bK<|r.getD 3 [])= .ok ad) (h3:lO kind al c.kind (bK<|r.getD 3 [])= .error e):gy kind al c ln r= .error e:=by rw [nX h,h1]; simp only; rw [h2]; simp only; rw [h3]
theorem Of {kind ln:Nat} {al:List (List Nat)} {c:dD} {r:List Tx} {e:Nat} {st ad:Tx} {nx:List Nat} (h:r.length=4∨r.length=5) (h1:eW true (r.getD 2 [])= .ok st) (h2:km (bK<|r.getD 3 [])= .ok ad) (h3:lO kind al c.kind (bK<|r.getD 3 [])= .ok nx) (h4:lH r= .error e):gy kind al c ln r= .error e:=by rw [nX h,h1]; simp only; rw [h2]; simp only; rw [h3]; simp only; rw [h4]
theorem aci {kind ln:Nat} {al:List (List Nat)} {c:dD} {r:List Tx} {st ad cd:Tx} {nx:List Nat} (h:r.length=4∨r.length=5) (h1:eW true (r.getD 2 [])= .ok st) (h2:km (bK<|r.getD 3 [])= .ok ad) (h3:lO kind al c.kind (bK<|r.getD 3 [])= .ok nx) (h4:lH r= .ok cd):gy kind al c ln r= .ok ⟨c.kind,c.flag,c.eQ,st,ad,cd,nx,ln⟩:=by rw [nX h,h1]; simp only; rw [h2]; simp only; rw [h3]; simp only; rw [h4]
def ny (xb:Nat) (F:aX) (c:dD) (ln:Nat) (r:List Tx) (w:World) (v:Value) (w':World):Prop :=Md (fun k=>k=xb) w w'∧∃ L:List Value,L.length=8∧L.all Value.oneCell'=true∧w'.heap[xb]? =some (.cells L.toArray 214 (0,0))∧((∃ q vn,gy F.kind F.aliases c ln r= .ok q∧v= .int .i64 (0:Nat)∧L=kh (q,vn)∧Tg w' 0 3 q.next.length vn (q.next.map bV))∨(∃ e:Nat,gy F.kind F.aliases c ln r= .error e∧e≠0∧v= .int .i64 (e:Nat)))
section
variable {xb ln:Nat} {F:aX} {c:dD} {r:List Tx} {w w':World} {st ad cd:Tx} {vn:Value}
theorem ny.no {e:Nat} (hm:Md (fun k=>k=xb) w w') (C:w'.heap[xb]? =some (.cells [.int .i64 (c.kind:Nat),bV c.flag,.bool c.eQ,str st,str ad,str cd,vn,.int .i64 (ln:Nat)].toArray 214 (0,0))) (A:vn.oneCell'=true) (h:gy F.kind F.aliases c ln r= .error e) (he:e≠0):ny xb F c ln r w (.int .i64 (e:Nat)) w':=
 ⟨hm,_,rfl,by simp only [wq,A]; rfl,C,.inr ⟨e,h,he,rfl⟩⟩
theorem ny.ok {nx:List Nat} (hm:Md (fun k=>k=xb) w w') (E:w'.heap[xb]? =some (.cells [.int .i64 (c.kind:Nat),bV c.flag,.bool c.eQ,str st,str ad,str cd,vn,.int .i64 (ln:Nat)].toArray 214 (0,0))) (C:vn.oneCell'=true) (A:Tg w' 0 3 nx.length vn (nx.map bV)) (h:gy F.kind F.aliases c ln r= .ok ⟨c.kind,c.flag,c.eQ,st,ad,cd,nx,ln⟩):ny xb F c ln r w (.int .i64 (0:Nat)) w':=
 ⟨hm,_,rfl,by simp only [wq,C]; rfl,E,.inl ⟨_,vn,h,rfl,rfl,A⟩⟩
end
theorem VD {s t:Tx} (h:t∈(dE s).1) (hs:s.length≤1048576):(t.length=1∨3≤t.length)∧t.length≤1048576:=by
 have :=JF.1 t h;exact ⟨this.1,aj⟩
theorem tW (w:World) (B e:Nat):Tg w B e 0 (.slice none 0 0) []:=⟨none,0,rfl,cU _,.inl rfl⟩
theorem Ys {F F':aX} {ln:Nat} {row:List Tx} (h:jO F ln row= .ok F'):F'.bG=F.bG∧F'.kind=F.kind:=by
 unfold jO at h
 repeat' split at h
 all_goals first
  | (cases h; done)
  | (cases h; exact ⟨rfl,rfl⟩)
theorem LY (B fb xb:Nat) (F:aX) (V:eM) (c:dD) (ln:Nat) (r:List Tx) (aC:Nat) (ar:Option Addr) (cr:Nat) (w:World) (cj:ph w B 0 fb F V) (hk:F.kind=1∨F.kind=2∨F.kind=3) (cI:F.aliases.length≤70000) (cW:w.heap[xb]? =some (.cells [ay (c.kind),bV c.flag,.bool c.eQ,str [],str [],str [],.slice none 0 0,ay ln].toArray 214 (0,0))) (bj:Tg w aC 9 r.length (.slice ar r.length cr) (r.map str)) (G:r.length=4∨r.length=5) (a2:∀ x∈r,x.length≤70000):
 bw aE 254 (bl [a6 fb,a6 xb,.slice ar r.length cr]) w (ny xb F c ln r w):=by
 have bn:=bj.du;have da:(r.getD 2 []).length≤70000:=a2 _<|ek aj;have db:(r.getD 3 []).length≤70000:=a2 _<|ek aj;have dd:=ua<|r.getD 3 [];refine enter func254 ag ntmps254 ag<|ak fun b0=>az<|b0<|ak fun b4=>aw (.slice ar r.length cr)<|p (bh cE ag ag aj<|aR.ok (bn.2)<|bY aj)<|p (ld bW ag<|cw.get (i:=2) bn.2 aj)<|e<|cl CZ (Es (r.getD 2 []) true w aj) ag ?_;rintro de aA ⟨⟨st,e,rfl,bz⟩,hE19⟩;have a4:=Wk.aW hE19 cW;have ah:Md (fun k=>k=xb) w aA:=hE19.mono fun _ _ h=>h.elim;refine p mv<|p (xt ag ag)<|p (xt ag ag)<|p aJ<|az<|b4<|aH fun b5=>ak fun b6=>p mv<|p (dw ag ag)<|nl<|b6<|cd ag (fun cv=> ?_) fun cv=> ?_;have bx:eW true (r.getD 2 [])= .error e∧e≠0:=by
  rcases bz with ⟨_,h⟩ | h;omega;exact h
 exact ak fun aG=>p mv<|az<|aG<|rt<|tr<|ba ag<|ny.no ah a4 ag (ach G bx.1) bx.2;obtain ⟨av,rfl⟩:eW true (r.getD 2 [])= .ok st∧e=0:=by
  rcases bz with h | ⟨_,h⟩;exact h;omega
 refine aT<|b5<|ak fun aG=>aw (a6 xb)<|p mv<|p (nc ag)<|p (fa vo ag)<|e<|dB lI ag ag (v:=str st) ag a4 (by show _ < 8; omega) fun bP aP ci=> ?_;have bJ:=a4;have ap:=(bj.wk hE19).md aP<|gk bJ aM;have bf:=(cj.wk hE19).md aP (TF.eq (L:= [216]) (dS bJ) aM) aM;have cL:=(ah).trans' aP fun _ _ h=>h;have cZ:bP.heap[xb]? =some (.cells [ay (c.kind),bV c.flag,.bool c.eQ,str st,str [],str [],.slice none 0 0,ay ln].toArray 214 (0,0)):=ci;refine nl<|aG<|ak fun b7=>aw (.slice ar r.length cr)<|p (bh cE ag ag aj<|aR.ok (ap.du.2)<|bY aj)<|p (ld bW ag<|cw.get (i:=3) ap.du.2 aj)<|e<|cl zj (A1 (r.getD 3 []) bP aj) ag ?_;rintro v33 bO ⟨rfl,I⟩;have a7:=Wk.aW I cZ;have aU:Md (fun k=>k=xb) w bO:=cL.trans' I fun _ _ h=>h.elim;refine p mv<|p (xt ag ag)<|p (xt ag ag)<|p (xt ag ag)<|p (xt ag ag)<|p aJ<|p aJ<|p aJ<|az<|b7<|aH fun b8=>ak fun b9=>p mv<|p (dw ag ag)<|nl<|b9<|cd ag (fun cx=> ?_) fun cx=> ?_;exact ak fun A=>p mv<|az<|A<|rt<|tr<|ba ag<|ny.no aU a7 ag (Od G av<|HE aj) aj;have bc:(bK<|r.getD 3 []).2.2.2=0:=aj;refine aT<|b8 ?_;refine ez (fun bU O=> ∃ (s1 E:Tx),(eW true (r.getD 2 [])= .ok s1)∧(km (bK<|r.getD 3 [])= .ok E)∧(O.heap[xb]? =some (.cells [ay (c.kind),bV c.flag,.bool c.eQ,str s1,str E,str [],.slice none 0 0,ay ln].toArray 214 (0,0)))∧(ph O B 0 fb F V)∧(Tg O aC 9 r.length (.slice ar r.length cr)<|r.map str)∧(Md (fun k=>k=xb) w O)∧(Sl bU [(0,a6 fb),(1,a6 xb),(2,.slice ar r.length cr),(10,str (bK<|r.getD 3 []).2.1),(11,.bool (bK<|r.getD 3 []).2.2.1)])) ?_ ?_;refine ak fun A=>p mv<|p (nR ag ag)<|nl<|A<|cd ag (fun aq=> ?_) fun aq=> ?_;refine ak fun C=>p mv<|e<|cl C5 (Em (bK<|r.getD 3 []).1 bO aj) ag ?_;rintro v44 c5 ⟨rfl,am⟩;have a9:=Wk.aW am a7;have bs:Md (fun k=>k=xb) w c5:=aU.trans' am fun _ _ h=>h.elim;refine az<|C<|aH fun Z=>ak fun aa=>p mv<|p (dw ag ag)<|nl<|aa<|cd ag (fun cy=> ?_) fun cy=> ?_;exact ak fun aD=>p mv<|az<|aD<|rt<|tr<|tr<|ba ag<|ny.no bs a9 ag (Od G av<|HF bc aq aj) aj;refine aT<|Z<|rg ag<|aw (a6 xb)<|p mv<|p (nc ag)<|p (fa D9 ag)<|e<|dB lI ag ag (v:=str (bK<|r.getD 3 []).1) ag a9 (by show _ < 8; omega) fun c2 aN ca=> ?_;have bF:=a9;have cn:=((ap.wk I).wk am).md aN<|gk bF aM;have ck:=((bf.wk I).wk am).md aN (TF.eq (L:= [216]) (dS bF) aM) aM;have cJ:=(bs).trans' aN fun _ _ h=>h;have cX:c2.heap[xb]? =some (.cells [ay (c.kind),bV c.flag,.bool c.eQ,str st,str (bK<|r.getD 3 []).1,str [],.slice none 0 0,ay ln].toArray 214 (0,0)):=ca;exact nl<|tn<|⟨st,(bK<|r.getD 3 []).1,av,(HG bc aq aj),cX,ck,cn,cJ,ag⟩
 exact aT<|tn<|⟨st,[],av,(HH bc<|jT.1 aq),a7,(bf.wk I),(ap.wk I),aU,ag⟩
 rintro bU O ⟨s1,E,ai,ae,ax,aL,bk,aY,cR⟩;refine bH cR ?_;refine ez (fun bX bd=>((bK<|r.getD 3 []).2.2.1=true→c.kind≠1)∧(bd=O)∧(Sl bX [(0,a6 fb),(1,a6 xb),(2,.slice ar r.length cr),(10,str (bK<|r.getD 3 []).2.1),(11,.bool (bK<|r.getD 3 []).2.2.1)])) ?_ ?_;refine ak fun A=>aw (.bool (bK<|r.getD 3 []).2.2.1)<|aw (.bool (bK<|r.getD 3 []).2.2.1)<|gb (t:=53) ag (fun aS=> ?_) fun aS=> ?_;refine aV ag (a8 (a6 xb) ag)<|aV ag (nc ag)<|aV ag (fa xL ag)<|aV ag (ld bL ag<|(bo ax).trans ag)<|aV ag (bT ag ag)<|p (bI ag)<|nl<|A<|cd ag (fun cz=> ?_) fun cz=> ?_;exact ak fun C=>az<|C<|rt<|tr<|ba ag<|ny.no aY ax ag (Oe G ai ae<|Nk aS aj) aM;exact aT<|tn<|⟨(fun _=>by omega),ag,ag⟩
 exact aQ ag<|aQ ag<|aQ ag<|aQ ag<|aQ ag<|p (bD ag)<|nl<|A<|cf ag<|aT<|tn<|⟨(fun h=>absurd (h.symm.trans aS) eA),ag,ag⟩
 rintro bX bd ⟨bq,cV,cS⟩;refine bH cS ?_;subst cV;refine ez (fun bZ Y=> ∃ (l:List Nat) (vn:Value),(lO F.kind F.aliases c.kind (bK<|r.getD 3 [])= .ok l)∧(Y.heap[xb]? =some (.cells [ay (c.kind),bV c.flag,.bool c.eQ,str s1,str E,str [],vn,ay ln].toArray 214 (0,0)))∧(vn.oneCell'=true)∧(Tg Y 0 3 l.length vn<|l.map bV)∧(ph Y B 0 fb F V)∧(Tg Y aC 9 r.length (.slice ar r.length cr)<|r.map str)∧(Md (fun k=>k=xb) w Y)∧(Sl bZ [(0,a6 fb),(1,a6 xb),(2,.slice ar r.length cr)])) ?_ ?_;refine ak fun A=>aw (.bool (bK<|r.getD 3 []).2.2.1)<|nl<|A<|cb ag (fun J=> ?_) fun J=> ?_;refine ak fun C=>aw (a6 xb)<|aw (a6 fb)<|aw (str (bK<|r.getD 3 []).2.1)<|e<|cl Ix (LQ B fb F V (bK<|r.getD 3 []).2.1 bd aL hk cI aj) ag ?_;rintro df bQ ⟨⟨al,aI,rfl,a0,bp⟩,hE65⟩;have a5:=Wk.aW hE65 ax;have cN:Md (fun k=>k=xb) w bQ:=aY.trans' hE65 fun _ _ h=>h.elim;refine p mv<|p (xt ag ag)<|p (xt ag ag)<|p (nc ag)<|p (fa xM ag)<|e<|dB JT ag ag (v:=al) a0 a5 (by show _ < 8; omega) fun c3 an ce=> ?_;have bG:=a5;have co:=(bk.wk hE65).md an<|gk bG aM;have cm:=(aL.wk hE65).md an (TF.eq (L:= [216]) (dS bG) aM) aM;have br:=(cN).trans' an fun _ _ h=>h;have bM:c3.heap[xb]? =some (.cells [ay (c.kind),bV c.flag,.bool c.eQ,str s1,str E,str [],al,ay ln].toArray 214 (0,0)):=ce;refine az<|C<|ak fun Z=>p mv<|p (dw ag ag)<|nl<|Z<|cd ag (fun cA=> ?_) fun cA=> ?_;obtain ⟨cF,cG⟩:aI≠0∧gJ F.kind F.aliases (bK<|r.getD 3 []).2.1= .error aI:=by
  rcases bp with ⟨l,h,_⟩ | h;omega;exact h
 exact ak fun aa=>p mv<|az<|aa<|rt<|tr<|ba ag<|ny.no br bM a0 (Oe G ai ae<|(AJ J<|bq J).trans cG) cF;obtain ⟨l,rfl,cH,cq⟩:∃ l,aI=0∧gJ F.kind F.aliases (bK<|r.getD 3 []).2.1= .ok l∧Tg bQ 0 3 l.length al (l.map bV):=by
  rcases bp with h | ⟨h,_⟩;exact h;omega
 exact aT<|tn<|⟨l,al,((AJ J<|bq J).trans cH),bM,a0,(cq.md an<|gk a5 aM),cm,co,br,ag⟩
 exact aT<|tn<|⟨[],.slice none 0 0,(Nl J),ax,ag,(tW _ _ _),aL,bk,aY,ag⟩
 rintro bZ Y ⟨l,vn,aZ,bb,a3,ct,c9,cp,cP,cT⟩;refine bH cT<|ak fun A=>aw (a6 xb)<|p (nc ag)<|p (fa Ea ag)<|e<|dB lI ag ag (v:=str [46]) ag bb (by show _ < 8; omega) fun aA aO cg=> ?_;have c1:=bb;have ao:=(cp).md aO<|gk c1 aM;have ah:=(cP).trans' aO fun _ _ h=>h;have bA:aA.heap[xb]? =some (.cells [ay (c.kind),bV c.flag,.bool c.eQ,str s1,str E,str [46],vn,ay ln].toArray 214 (0,0)):=cg;have bm:=ct.md aO<|gk bb aM;refine nl<|A ?_;refine ez (fun c7 aB=> ∃ (cd:Tx),(lH r= .ok cd)∧(aB.heap[xb]? =some (.cells [ay (c.kind),bV c.flag,.bool c.eQ,str s1,str E,str cd,vn,ay ln].toArray 214 (0,0)))∧(Tg aB 0 3 l.length vn<|l.map bV)∧(Md (fun k=>k=xb) w aB)) ?_ ?_;refine ak fun C=>aw (.slice ar r.length cr)<|p (bN ee ag ag)<|p (bT ag ag)<|nl<|C<|cd ag (fun cB=> ?_) fun cB=> ?_;have dc:(r.getD 4 []).length≤70000:=a2 _<|ek aj;have a1:r.length=5:=aj;refine ak fun Z=>aw (.slice ar r.length cr)<|p (bh cE ag ag aj<|aR.ok (ao.du.2)<|bY aj)<|p (ld bW ag<|cw.get (i:=4) ao.du.2 aj)<|e<|cl xk (ya (r.getD 4 []) aA aj) ag ?_;rintro v82 bR ⟨rfl,ab⟩;have bB:=Wk.aW ab bA;have bt:Md (fun k=>k=xb) w bR:=ah.trans' ab fun _ _ h=>h.elim;refine az<|Z<|aH fun aa=>ak fun aD=>p mv<|p (no ag)<|nl<|aD<|cb ag (fun au=> ?_) fun au=> ?_;exact ak fun aF=>az<|aF<|rt<|tr<|tr<|ba ag<|ny.no bt bB a3 (Of G ai ae aZ<|JB a1<|by simpa using au) aM;refine aT<|aa<|ak fun aF=>aw (.slice ar r.length cr)<|p (bh cE ag ag aj<|aR.ok ((ao.wk ab).du.2)<|bY aj)<|p (ld bW ag<|cw.get (i:=4) (ao.wk ab).du.2 aj)<|e<|cl IQ (NU (r.getD 4 []) bR aj) ag ?_;rintro dg bS ⟨⟨c8,rfl,bv⟩,hE89⟩;obtain ⟨ac,cc,rfl⟩:=cM bv;have bC:=Wk.aW hE89 bB;have bu:Md (fun k=>k=xb) w bS:=bt.trans' hE89 fun _ _ h=>h.elim;refine p mv<|p (xt ag ag)<|p (xt ag ag)<|p aJ<|az<|aF<|aH fun b1=>ak fun b2=>p mv<|p (dw ag ag)<|nl<|b2<|cd ag (fun cC=> ?_) fun cC=> ?_;exact ak fun b3=>p mv<|az<|b3<|rt<|tr<|tr<|ba ag<|ny.no bu bC a3 (Of G ai ae aZ<|JC a1 (by simpa using au) aj) aj;refine aT<|b1<|rg ag<|aw (a6 xb)<|p mv<|e<|cl TH (ab7 (dE<|r.getD 4 []).1 ac cc bS (bg bv).2 (by have :=JH (r.getD 4 []); omega) fun t cU=>VD cU aj) ag ?_;rintro dh c6 ⟨rfl,aK⟩;have bE:=Wk.aW aK bC;have cO:Md (fun k=>k=xb) w c6:=bu.trans' aK fun _ _ h=>h.elim;refine p (nc ag)<|p (fa Ea ag)<|e<|dB lI ag ag (v:=str<|nf (dE<|r.getD 4 []).1) ag bE (by show _ < 8; omega) fun c4 bi ch=> ?_;have cY:c4.heap[xb]? =some (.cells [ay (c.kind),bV c.flag,.bool c.eQ,str s1,str E,str (nf (dE<|r.getD 4 []).1),vn,ay ln].toArray 214 (0,0)):=ch;have cK:=cO.trans' bi fun _ _ h=>h;have cs:=(((bm.wk ab).wk hE89).wk aK).md bi<|gk bE aM;exact nl<|tn<|⟨nf (dE<|r.getD 4 []).1,(JD a1 (by simpa using au) aj),cY,cs,cK⟩
 exact aT<|tn<|⟨[46],(JE aj),bA,bm,ah⟩
 rintro c7 aB ⟨cd,cD,c0,cu,cQ⟩;exact ak fun C=>az<|C<|rt<|ba ag<|ny.ok cQ c0 a3 cu<|aci G ai ae aZ cD
theorem Yt (J:World) (H:gT) (F:aX) (k ln:Nat) (seen r:List Tx) (bT:Nat) (ar:Option Addr) (cr:Nat) (w:World) (A:nv J w H F k ln seen) (bK:Tg w bT 9 r.length (.slice ar r.length cr) (r.map str)) (dg:r≠[]) (bz:∀ x∈r,x.length≤70000) (dC:F.dF.length+F.aliases.length+F.bG.length+F.rules.length+(H.rows.drop k).length < 70000) (c8:r.getD 0 []≠fQ→r.getD 0 []≠ff→0 < F.bG.length):
 bw aE 213 (bl [a6 H.rb,.slice ar r.length cr]) w (fun v w'=>((∃ F',jO F ln r= .ok F'∧v=ay 0∧nv J w' H F' k ln seen)∨(∃ e:Nat,jO F ln r= .error e∧e≠0∧v=ay e∧Hb.a7 w'.heap H.rb 5=some (ay ln)))∧Wk J w'):=by
 obtain ⟨V,vh,Y,ai,O,aG,bO⟩:=A;have bd:=bK.du;have dO:=ai.lo;have dM:=Y.lo;have dG:=O.len;have dQ:=mr.2 dg;have dP:=(dT.1 ai.cells).1;obtain ⟨cU,lG,cK⟩:=cM Y.eS;have bv:=Y.eS;rw [cK] at bv;have bM:Hb.a7 w.heap H.fb 11=some (.slice cU F.bG.length lG):=by rw [← cK]; exact (bo Y.cells).trans rfl
 refine enter func213 ag ntmps213 ag<|ak fun cP=>az<|cP<|ak fun cQ=>aw (a6 H.rb)<|p (nc ag)<|p (fa mD ag)<|p (ld jc ag<|(bo ai.cells).trans ag)<|az<|cQ<|aH fun cR=>aH fun cS=>rg ag<|aw (.slice ar r.length cr)<|p (bh cE ag ag aj<|aR.ok (bd.2)<|bY aj)<|p (ld bW ag<|cw.get (i:=0) bd.2 aj)<|nl<|cS<|aW<|aH fun cT=>rg ag<|p (ew ag ag)<|az<|cT<|cd ag (fun ch=> ?_) fun ch=> ?_;have ae:r.getD 0 []=fQ:=ch;refine aH fun bU=>ak fun bb=>aw (.slice ar r.length cr)<|p (bN ee ag ag)<|p (dw ag ag)<|nl<|bb<|cd ag (fun c4=> ?_) fun c4=> ?_;exact ak fun aF=>az<|aF<|rt<|tr<|br<|tr<|ba ag<|⟨.inr ⟨111,by unfold jO; rw [if_pos ae,N1 aj],aM,ag,ai.dH⟩,aG⟩
 have cp:r.length=3:=aj;have db:=bz _<|ek (d:= []) (i:=1) aj;have dN:=bz _<|ek (d:= []) (i:=2) aj;refine aT<|bU<|ak fun aF=>aw (.slice ar r.length cr)<|p (bh cE ag ag aj<|aR.ok (bd.2)<|bY aj)<|p (ld bW ag<|cw.get (i:=1) bd.2 aj)<|e<|cl CZ (Es (r.getD 1 []) false w aj) ag ?_;rintro v30 ds ⟨⟨aI,bA,rfl,bS⟩,hE30⟩;have cC:=bK.wk hE30;refine p mv<|p (xt ag ag)<|p (xt ag ag)<|p aJ<|az<|aF<|aH fun am=>ak fun aK=>p mv<|p (dw ag ag)<|nl<|aK<|cd ag (fun c5=> ?_) fun c5=> ?_;have cH:eW false (r.getD 1 [])= .error bA∧bA≠0:=by
  rcases bS with ⟨_,h⟩ | h;omega;exact h
 exact ak fun ax=>p mv<|az<|ax<|rt<|tr<|br<|tr<|ba ag<|⟨.inr ⟨bA,by unfold jO; rw [if_pos ae,N2 cp cH.1],cH.2,ag,(ai.wk hE30).dH⟩,aG.trans hE30⟩
 obtain ⟨cI,rfl⟩:eW false (r.getD 1 [])= .ok aI∧bA=0:=by
  rcases bS with h | ⟨_,h⟩;exact h;omega
 refine aT<|am<|ak fun ax=>aw (.slice ar r.length cr)<|p (bh cE ag ag aj<|aR.ok (cC.du.2)<|bY aj)<|p (ld bW ag<|cw.get (i:=2) cC.du.2 aj)<|e<|cl CZ (Es (r.getD 2 []) true ds aj) ag ?_;rintro v40 dY ⟨⟨a4,cW,rfl,df⟩,hE40⟩;have cA:=hE30.trans hE40;have Z:=Y.wk cA;refine p mv<|p (xt ag ag)<|p (xt ag ag)<|p aJ<|az<|ax<|aH fun bf=>rg ag<|p mv<|p mv<|p (nc ag)<|p (fa Lu ag)<|p (ld RE ag<|(bo Z.cells).trans ag)<|p mv<|p mv<|p (dt (ps:= [(0,str aI),(1,str a4)]) (L:= [str aI,str a4]) ac9 ag<|ag)<|e<|lF OE ag ag ag fun dz d0 dD cZ cX=> ?_;have bC:=cA.trans cZ.md;have E:=Y.wk bC;have aZ:=ai.wk bC;have dS:=bC.size;refine e<|ap OE (E.o9) ag aj ag (aR.dZ cX) (ag) (ag) aj aj fun cL cN cD bH dU dJ=> ?_;have a0:=aZ.own E.o9 bH aM;have aq:=bH.aW E.cells<|eh E.o9 E.cells aM;have dd:bB cN J.heap.size 351 2 cL (F.dF++ [(aI,a4)]).length (lQ<|F.dF++ [(aI,a4)]):=by rw [show lQ (F.dF++ [(aI,a4)])=lQ F.dF++ [str aI,str a4] from by simp [lQ],bP]; exact cD
 have a2:Wk J cN:=(aG.trans bC).trans' bH fun k hk h=>by have :=(dK E.o9 h).1; omega
 refine p (nc ag)<|p (fa Lu ag)<|e<|dB VX ag ag (v:=cL) (fG cD) aq (by show _ < 13; omega) fun a9 aa aN=> ?_;have aP:=e7.Cz (x:=(aI,a4)) E bH dd aa aN;have ao:=a0.ql aq aa;have ac:Wk J a9:=a2.trans' aa fun k hk h=>by omega
 refine nl<|bf<|ak fun bi=>p mv<|az<|bi<|rt<|br<|tr<|ba ag ?_;rcases df with ⟨av,rfl⟩ | ⟨av,bu⟩;exact ⟨.inl ⟨_,by unfold jO; rw [if_pos ae,N4 cp cI av],ag,⟨_,vh,aP,ao,⟨by simp only [bP,fE]; omega,O.sl,O.row,O.kd⟩,ac,bO⟩⟩,ac⟩;exact ⟨.inr ⟨cW,by unfold jO; rw [if_pos ae,N3 cp cI av],bu,ag,ao.dH⟩,ac⟩;have ae:¬r.getD 0 []=fQ:=ch;refine ak fun bU=>p (ew ag ag)<|az<|bU<|cd ag (fun ci=> ?_) fun ci=> ?_;have h1:r.getD 0 []=ff:=ci;refine aH fun bb=>ak fun aF=>aw (.slice ar r.length cr)<|p (bN ee ag ag)<|p (dw ag ag)<|nl<|aF<|cd ag (fun c6=> ?_) fun c6=> ?_;exact ak fun am=>az<|am<|rt<|tr<|br<|tr<|ba ag<|⟨.inr ⟨111,by unfold jO; rw [if_neg ae,if_pos h1,HV aj],aM,ag,ai.dH⟩,aG⟩
 have cJ:r.length=2:=aj;have db:=bz _<|ek (d:= []) (i:=1) aj;refine aT<|bb<|aH fun am=> ?_;have aC:(fun w'=>Wk w w') w.drew:=(Md.refl _ _).drew;refine cj (fun w'=>Wk w w') ag wide aC<|aU 0 ag (mv) aC<|aU 1 ag (nc ag) aC<|aU 2 ag (fa vg ag) aC<|bS 3 ag (fun w' A=>ld bL ag<|Wk.a7 A<|(bo Y.cells).trans ag) aC<|bQ 4 ag (.slice ar r.length cr) aC<|aU 5 ag (bh cE ag ag aj<|aR.ok (aR.wk bd.2 aC)<|bY aj) aC<|bS 6 ag (fun w' A=>ld bW ag<|Wk.a7 A<|cw.get (i:=1) bd.2 aj) aC<|he 7 ag au<|cl IN (N6 F.kind (r.getD 1 []) w.drew O.kd aj) ag ?_;rintro dX dv ⟨⟨dy,rfl,cF⟩,bk⟩;obtain ⟨cz,zr,rfl⟩:=cM cF;have bk:=jk bk;have Z:=Y.wk bk;have bc:(fun w'=>Wk w w') dv:=Md.mono bk fun _ _ h=>h;refine ⟨bc,?_⟩;refine aU 8 ag (mv) bc<|aU 9 ag (xt ag ag) bc<|aU 10 ag (xt ag ag) bc<|aU 11 ag (aJ) bc<|aU 12 ag (aJ) bc<|hn au<|am<|aH fun aK=>rg ag<|p mv<|p mv<|p (nc ag)<|p (fa xF ag)<|p (ld y4 ag<|(bo Z.cells).trans ag)<|p mv<|e<|fU OF ag ag fun dA dx dE cB cY=> ?_;have bE:=bk.trans cB.md;have E:=Y.wk bE;have aZ:=ai.wk bE;have dV:=bE.size;refine e<|ap OF (E.fD) ag aj ag (aR.dZ cY) (ag) (ag) aj aj fun v79 cO cG bJ dW dL=> ?_;have a0:=aZ.own E.fD bJ aM;have aq:=bJ.aW E.cells<|eh E.fD E.cells aM;have c0:Tg dx 0 3 (eD F.kind<|r.getD 1 []).1.length (.slice cz (eD F.kind<|r.getD 1 []).1.length zr) ((eD F.kind<|r.getD 1 []).1.map bV):=((Tg.kj cF).mono<|iK _).wk cB.md;have de:bB cO J.heap.size 85 1 v79 (F.aliases++ [(eD F.kind<|r.getD 1 []).1]).length (V.sa++ [.slice cz (eD F.kind<|r.getD 1 []).1.length zr]):=by rw [bP]; exact cG
 have a2:Wk J cO:=(aG.trans bE).trans' bJ fun k hk h=>by have :=(dK E.fD h).1; omega
 refine p (nc ag)<|p (fa xF ag)<|e<|dB VY ag ag (v:=v79) (fG cG) aq (by show _ < 13; omega) fun a9 aa aN=> ?_;have aP:=e7.Cx (x:=(eD F.kind<|r.getD 1 []).1) E c0 bJ de aa aN;have ao:=a0.ql aq aa;have ac:Wk J a9:=a2.trans' aa fun k hk h=>by omega
 refine nl<|aK<|ak fun ax=>p mv<|az<|ax<|rt<|br<|tr<|ba ag ?_;by_cases h:(eD F.kind<|r.getD 1 []).2=0;exact ⟨.inl ⟨_,by unfold jO; rw [if_neg ae,if_pos h1,y8 cJ,Am h],by rw [h]; rfl,⟨_,vh,aP,ao,⟨by simp only [bP,fE]; omega,O.sl,O.row,O.kd⟩,ac,bO⟩⟩,ac⟩;exact ⟨.inr ⟨_,by unfold jO; rw [if_neg ae,if_pos h1,y8 cJ,Al h],h,ag,ao.dH⟩,ac⟩;have h1:¬r.getD 0 []=ff:=ci;have dI:=c8 ae h1;refine aT<|bn<|cR<|aH fun bb=>ak fun aF=>aw (.slice ar r.length cr)<|p (bN ee ag ag)<|p (dw ag ag)<|p mv<|gs (t:=86) ag (fun da=> ?_) fun da=> ?_;refine aV ag (a8 (.slice ar r.length cr) ag)<|aV ag (bN ee ag ag)<|aV ag (dw ag ag)<|p (bI ag)<|nl<|aF<|cd ag (fun c7=> ?_) fun c7=> ?_;exact ak fun am=>az<|am<|rt<|tr<|ba ag<|⟨.inr ⟨111,by unfold jO; rw [if_neg ae,if_neg h1,FX aj aj],aM,ag,ai.dH⟩,aG⟩
 have cq:r.length=4∨r.length=5:=aj;refine aT<|bb<|aH fun am=> ?_;have C:(fun w'=>Wk w w') w.drew:=(Md.refl _ _).drew;refine cj (fun w'=>Wk w w') ag wide C<|aU 0 ag (mv) C<|aU 1 ag (nc ag) C<|aU 2 ag (fa rh ag) C<|bS 3 ag (fun w' A=>ld rZ ag<|Wk.a7 A<|bM) C<|aU 4 ag (mv) C<|aU 5 ag (nc ag) C<|aU 6 ag (fa rh ag) C<|bS 7 ag (fun w' A=>ld rZ ag<|Wk.a7 A<|bM) C<|aU 8 ag (bN Gw ag ag) C<|aU 9 ag (ed ((F.bG.length - 1:Nat):Int) ag ag<|bp aj aj) C<|aU 10 ag (bh zR ag ag aj<|aR.ok (aR.wk (bg bv).2 C)<|An aj) C<|bS 11 ag (fun w' A=>dp uH ag (ag) fun j bt=>fO (f:=oK) (m:=5) (fun _=>rfl) (aR.wk (bg bv).2 A) (xn (by omega :F.bG.length - 1 < F.bG.length)) j bt) C<|he 12 ag au<|hU ub fun bZ cv c1 aS b0=> ?_;have dj:=aS.size;have dn:=C.size;have ca:(fun w'=>Wk w w') cv:=C.trans aS.md;refine ⟨ca,?_⟩;refine he 13 ag au<|gS sc ag ag ag ag b0 aM fun I b7 b3=> ?_;have aB:Wk w I:=(C.trans aS.md).trans' b7 fun k hk h=>by omega
 have a3:I.heap[bZ]? =some (.cells (oK<|iG F).toArray 216 (0,0)):=b3;have cb:(fun w'=>Wk w w') I:=aB;refine ⟨cb,?_⟩;refine hn au<|am<|aH fun aK=> ?_;have G:(fun w'=>Wk I w') I.drew:=(Md.refl _ _).drew;refine cj (fun w'=>Wk I w') ag wide G<|aU 0 ag (fa Ah ag) G<|bS 1 ag (fun w' A=>ld bL ag<|Wk.a7 A<|(bo a3).trans ag) G<|aU 2 ag (fa Eb ag) G<|bS 3 ag (fun w' A=>ld bL ag<|Wk.a7 A<|(bo a3).trans ag) G<|aU 4 ag (fa LB ag) G<|bS 5 ag (fun w' A=>ld nC ag<|Wk.a7 A<|(bo a3).trans ag) G<|bQ 6 ag (a6 H.rb) G<|aU 7 ag (nc ag) G<|aU 8 ag (fa rj ag) G<|bS 9 ag (fun w' A=>ld bL ag<|Wk.a7 A<|(bo (ai.wk aB).cells).trans ag) G<|aU 10 ag (dt (ps:= [(0,ay ((iG F).kind)),(1,bV (iG F).flag),(2,.bool (iG F).eQ),(7,ay ln)]) (L:= [ay ((iG F).kind),bV (iG F).flag,.bool (iG F).eQ,.string ⟨⟨[]⟩⟩,.string ⟨⟨[]⟩⟩,.string ⟨⟨[]⟩⟩,.slice none 0 0,ay ln]) OS ag<|ag) G<|he 11 ag au<|hU GP fun aL cx c2 aY b1=> ?_;have dk:=aY.size;have cc:(fun w'=>Wk I w') cx:=G.trans aY.md;refine ⟨cc,?_⟩;refine he 12 ag au<|gS Ds ag ag ag ag b1 aM fun aD b8 b4=> ?_;have bj:Wk I aD:=(G.trans aY.md).trans' b8 fun k hk h=>by have :=G.size; omega
 have aO:=aB.trans bj;have ct:aD.heap[aL]? =some (.cells [ay ((iG F).kind),bV (iG F).flag,.bool (iG F).eQ,str [],str [],str [],.slice none 0 0,ay ln].toArray 214 (0,0)):=b4;have di:=G.size;have dh:=aB.size;have ce:(fun w'=>Wk I w') aD:=bj;refine ⟨ce,?_⟩;refine hn au<|aK<|ak fun ax=>p mv<|aw (.slice ar r.length cr)<|e<|cl IX (LY J.heap.size H.fb aL F V (iG F) ln r bT ar cr aD (Y.wk aO).r O.kd aj ct (bK.wk aO) cq bz) ag ?_;rintro dr al ⟨ck,L,bm,b5,b6,cs⟩;have aA:Wk w al:=aO.trans' ck fun k hk h=>by omega
 have Z:=Y.wk aA;have bq:=ai.wk aA;have dc:¬(V.v12.ownBlock=some H.rb):=eh Z.dR bq.cells aM;have cm:¬(V.v12.ownBlock=some H.fb):=eh Z.dR Z.cells aM;have cn:¬(V.v12.ownBlock=some aL):=fun h=>by have :=(dK Y.dR h).2; omega
 refine az<|ax<|aH fun bf=> ?_;have ab:(fun w'=>Md (fun k=>V.v12.ownBlock=some k) al w') al.drew:=(Md.refl _ _).drew;refine fj (fun w'=>Md (fun k=>V.v12.ownBlock=some k) al w') 10 ag wide ab<|bR 0 ag (mv) ab<|bR 1 ag (mv) ab<|bR 2 ag (nc ag) ab<|bR 3 ag (fa kq ag) ab<|ej 4 ag (fun w' A=>ld kM ag<|Md.a7 A ((bo Z.cells).trans ag) cm) ab<|ej 5 ag (fun w' A=>dp tp ag (bm) fun j bt=>bX.bF ⟨_,Md.aW A b6 cn⟩ j) ab<|ic 6 ag au<|lF A8 ag ag bm fun cV cy c3 b9 b2=> ?_;have ah:=jk b9.md;have E:=Z.wk ah;have aZ:=bq.wk ah;have dq:=(aA.trans ah).size;have bs:(fun w'=>Md (fun k=>V.v12.ownBlock=some k) al w') cy:=Md.mono ah fun _ _ h=>h.elim;refine ⟨bs,?_⟩;refine ic 7 ag au<|ap A8 (E.dR) ag aj ag (aR.dZ b2) aj (b5) aj aj fun v124 a5 bx an dl c9=> ?_;have a0:=aZ.own E.dR an aM;have aq:=an.aW E.cells<|eh E.dR E.cells aM;have a2:Wk J a5:=(aG.trans<|aA.trans ah).trans' an fun k hk h=>by have :=(dK E.dR h).1; omega
 have a1:(fun w'=>Md (fun k=>V.v12.ownBlock=some k) al w') a5:=bs.trans' an fun _ _ h=>h;refine ⟨a1,?_⟩;refine bR 8 ag (nc ag) a1<|bR 9 ag (fa kq ag) a1<|eb 10 ag au au<|dB JN ag ag (v:=v124) (fG bx) aq (by show _ < 13; omega) fun a9 aa aN=> ?_;have ao:=a0.ql aq aa;have ac:Wk J a9:=a2.trans' aa fun k hk h=>by omega
 refine fi au<|bf<|ak fun bi=>p mv<|az<|bi<|rt ?_;refine ba ag ?_;have cu:F.rules.length=V.rn.length:=by have :=E.nx.1; rw [fH] at this; exact this.symm
 rcases cs with ⟨q,vn,av,rfl,rfl,cg⟩ | ⟨e,av,bu,rfl⟩;have co:bB a5 J.heap.size 214 8 v124 (F.rules++ [q]).length (nL<|(F.rules++ [q]).zip<|V.rn++ [vn]):=by
  rw [Ht cu,show nL (F.rules.zip V.rn++ [q].zip [vn])=nL (F.rules.zip V.rn)++kh (q,vn) from by simp [nL],bP];exact bx
 have aP:=e7.ze (x:=q) (vx:=vn) E (cg.wk ah) an co aa aN;exact ⟨.inl ⟨_,by unfold jO; rw [if_neg ae,if_neg h1,av],ag,⟨_,vh,aP,ao,⟨by simp only [bP,fE]; omega,O.sl,O.row,O.kd⟩,ac,bO⟩⟩,ac⟩;exact ⟨.inr ⟨e,by unfold jO; rw [if_neg ae,if_neg h1,av],bu,ag,ao.dH⟩,ac⟩;have cq:r.length=4∨r.length=5:=aj;refine aQ ag<|aQ ag<|aQ ag<|p (bD ag)<|nl<|aF<|cf ag<|aT<|bb<|aH fun am=> ?_;have C:(fun w'=>Wk w w') w.drew:=(Md.refl _ _).drew;refine cj (fun w'=>Wk w w') ag wide C<|aU 0 ag (mv) C<|aU 1 ag (nc ag) C<|aU 2 ag (fa rh ag) C<|bS 3 ag (fun w' A=>ld rZ ag<|Wk.a7 A<|bM) C<|aU 4 ag (mv) C<|aU 5 ag (nc ag) C<|aU 6 ag (fa rh ag) C<|bS 7 ag (fun w' A=>ld rZ ag<|Wk.a7 A<|bM) C<|aU 8 ag (bN Gw ag ag) C<|aU 9 ag (ed ((F.bG.length - 1:Nat):Int) ag ag<|bp aj aj) C<|aU 10 ag (bh zR ag ag aj<|aR.ok (aR.wk (bg bv).2 C)<|An aj) C<|bS 11 ag (fun w' A=>dp uH ag (ag) fun j bt=>fO (f:=oK) (m:=5) (fun _=>rfl) (aR.wk (bg bv).2 A) (xn (by omega :F.bG.length - 1 < F.bG.length)) j bt) C<|he 12 ag au<|hU ub fun bZ cv c1 aS b0=> ?_;have dj:=aS.size;have dn:=C.size;have ca:(fun w'=>Wk w w') cv:=C.trans aS.md;refine ⟨ca,?_⟩;refine he 13 ag au<|gS sc ag ag ag ag b0 aM fun I b7 b3=> ?_;have aB:Wk w I:=(C.trans aS.md).trans' b7 fun k hk h=>by omega
 have a3:I.heap[bZ]? =some (.cells (oK<|iG F).toArray 216 (0,0)):=b3;have cb:(fun w'=>Wk w w') I:=aB;refine ⟨cb,?_⟩;refine hn au<|am<|aH fun aK=> ?_;have G:(fun w'=>Wk I w') I.drew:=(Md.refl _ _).drew;refine cj (fun w'=>Wk I w') ag wide G<|aU 0 ag (fa Ah ag) G<|bS 1 ag (fun w' A=>ld bL ag<|Wk.a7 A<|(bo a3).trans ag) G<|aU 2 ag (fa Eb ag) G<|bS 3 ag (fun w' A=>ld bL ag<|Wk.a7 A<|(bo a3).trans ag) G<|aU 4 ag (fa LB ag) G<|bS 5 ag (fun w' A=>ld nC ag<|Wk.a7 A<|(bo a3).trans ag) G<|bQ 6 ag (a6 H.rb) G<|aU 7 ag (nc ag) G<|aU 8 ag (fa rj ag) G<|bS 9 ag (fun w' A=>ld bL ag<|Wk.a7 A<|(bo (ai.wk aB).cells).trans ag) G<|aU 10 ag (dt (ps:= [(0,ay ((iG F).kind)),(1,bV (iG F).flag),(2,.bool (iG F).eQ),(7,ay ln)]) (L:= [ay ((iG F).kind),bV (iG F).flag,.bool (iG F).eQ,.string ⟨⟨[]⟩⟩,.string ⟨⟨[]⟩⟩,.string ⟨⟨[]⟩⟩,.slice none 0 0,ay ln]) OS ag<|ag) G<|he 11 ag au<|hU GP fun aL cx c2 aY b1=> ?_;have dk:=aY.size;have cc:(fun w'=>Wk I w') cx:=G.trans aY.md;refine ⟨cc,?_⟩;refine he 12 ag au<|gS Ds ag ag ag ag b1 aM fun aD b8 b4=> ?_;have bj:Wk I aD:=(G.trans aY.md).trans' b8 fun k hk h=>by have :=G.size; omega
 have aO:=aB.trans bj;have ct:aD.heap[aL]? =some (.cells [ay ((iG F).kind),bV (iG F).flag,.bool (iG F).eQ,str [],str [],str [],.slice none 0 0,ay ln].toArray 214 (0,0)):=b4;have di:=G.size;have dh:=aB.size;have ce:(fun w'=>Wk I w') aD:=bj;refine ⟨ce,?_⟩;refine hn au<|aK<|ak fun ax=>p mv<|aw (.slice ar r.length cr)<|e<|cl IX (LY J.heap.size H.fb aL F V (iG F) ln r bT ar cr aD (Y.wk aO).r O.kd aj ct (bK.wk aO) cq bz) ag ?_;rintro dr al ⟨ck,L,bm,b5,b6,cs⟩;have aA:Wk w al:=aO.trans' ck fun k hk h=>by omega
 have Z:=Y.wk aA;have bq:=ai.wk aA;have dc:¬(V.v12.ownBlock=some H.rb):=eh Z.dR bq.cells aM;have cm:¬(V.v12.ownBlock=some H.fb):=eh Z.dR Z.cells aM;have cn:¬(V.v12.ownBlock=some aL):=fun h=>by have :=(dK Y.dR h).2; omega
 refine az<|ax<|aH fun bf=> ?_;have ab:(fun w'=>Md (fun k=>V.v12.ownBlock=some k) al w') al.drew:=(Md.refl _ _).drew;refine fj (fun w'=>Md (fun k=>V.v12.ownBlock=some k) al w') 10 ag wide ab<|bR 0 ag (mv) ab<|bR 1 ag (mv) ab<|bR 2 ag (nc ag) ab<|bR 3 ag (fa kq ag) ab<|ej 4 ag (fun w' A=>ld kM ag<|Md.a7 A ((bo Z.cells).trans ag) cm) ab<|ej 5 ag (fun w' A=>dp tp ag (bm) fun j bt=>bX.bF ⟨_,Md.aW A b6 cn⟩ j) ab<|ic 6 ag au<|lF A8 ag ag bm fun cV cy c3 b9 b2=> ?_;have ah:=jk b9.md;have E:=Z.wk ah;have aZ:=bq.wk ah;have dq:=(aA.trans ah).size;have bs:(fun w'=>Md (fun k=>V.v12.ownBlock=some k) al w') cy:=Md.mono ah fun _ _ h=>h.elim;refine ⟨bs,?_⟩;refine ic 7 ag au<|ap A8 (E.dR) ag aj ag (aR.dZ b2) aj (b5) aj aj fun v124 a5 bx an dl c9=> ?_;have a0:=aZ.own E.dR an aM;have aq:=an.aW E.cells<|eh E.dR E.cells aM;have a2:Wk J a5:=(aG.trans<|aA.trans ah).trans' an fun k hk h=>by have :=(dK E.dR h).1; omega
 have a1:(fun w'=>Md (fun k=>V.v12.ownBlock=some k) al w') a5:=bs.trans' an fun _ _ h=>h;refine ⟨a1,?_⟩;refine bR 8 ag (nc ag) a1<|bR 9 ag (fa kq ag) a1<|eb 10 ag au au<|dB JN ag ag (v:=v124) (fG bx) aq (by show _ < 13; omega) fun a9 aa aN=> ?_;have ao:=a0.ql aq aa;have ac:Wk J a9:=a2.trans' aa fun k hk h=>by omega
 refine fi au<|bf<|ak fun bi=>p mv<|az<|bi<|rt ?_;refine ba ag ?_;have cu:F.rules.length=V.rn.length:=by have :=E.nx.1; rw [fH] at this; exact this.symm
 rcases cs with ⟨q,vn,av,rfl,rfl,cg⟩ | ⟨e,av,bu,rfl⟩;have co:bB a5 J.heap.size 214 8 v124 (F.rules++ [q]).length (nL<|(F.rules++ [q]).zip<|V.rn++ [vn]):=by
  rw [Ht cu,show nL (F.rules.zip V.rn++ [q].zip [vn])=nL (F.rules.zip V.rn)++kh (q,vn) from by simp [nL],bP];exact bx
 have aP:=e7.ze (x:=q) (vx:=vn) E (cg.wk ah) an co aa aN;exact ⟨.inl ⟨_,by unfold jO; rw [if_neg ae,if_neg h1,av],ag,⟨_,vh,aP,ao,⟨by simp only [bP,fE]; omega,O.sl,O.row,O.kd⟩,ac,bO⟩⟩,ac⟩;exact ⟨.inr ⟨e,by unfold jO; rw [if_neg ae,if_neg h1,av],bu,ag,ao.dH⟩,ac⟩
end Go.Hb.Cl
end
section
namespace Go.Hb.HB
open Go.Hb.Cl Go.Hb.pc Go.Hb.yX Go.Hb.pf
theorem drop_nil {α:Type} {l:List α} {k:Nat} (h:l.length≤k):l.drop k= []:=iS h
theorem ZV {F:aX} {c:dD} :iG {F with bG:=F.bG++ [c]} =c:=by
 unfold iG;simp [da]
theorem UN {eof ln x n:Nat} {F:aX} {rows:List Rw} {r:List Tx} (C:r.length=4) (hk:r.getD 0 []≠fQ) (A:r.getD 0 []≠ff) (h:iF F (r.getD 1 [])= .ok x) (h1:r.getD 2 []= [89]∨r.getD 2 []= [78]) (h2:fF (r.getD 3 []) 1024= .ok n) (h3:¬1024 < F.rules.length+n):
 iu eof F rows ln r=iO (k9 r) eof n {F with bG:=F.bG++ [(⟨x,(if r.getD 0 []=dG then 2 else 1:Nat),(decide (r.getD 2 []= [89])),F.rules.length,n⟩:dD)]} rows:=by
 rw [Mc C,Yq hk A,ZV];unfold iu;rw [h];simp only;rw [if_neg (fun h3=>h1.elim h3.1 h3.2),h2];simp only;rw [if_neg h3]
 all_goals rfl
theorem abR {eof ln n:Nat} {F:aX} {rows:List Rw} {r:List Tx} (A:r.length=2) (hk:r.getD 0 []=fQ) (h2:fF (r.getD 1 []) 256= .ok n):kE eof F rows ln r=iO (k9 r) eof n F rows:=by
 rw [Mb aj,hk,Yp];unfold kE;rw [h2]
 all_goals rfl
theorem RJ {eof ln n:Nat} {F:aX} {seen:List Tx} {rows:List Rw} {r:List Tx} (C:r.length=2) (hk:r.getD 0 []=ff) (A:¬(gx∈seen∨dG∈seen)) (h2:fF (r.getD 1 []) 1024= .ok n):kn eof F seen rows ln r=iO (k9 r) eof n F rows:=by
 rw [Mb aj,hk,Yo];unfold kn;rw [if_neg A,h2]
 all_goals rfl
theorem Yw {F:aX} {V:eM} {i o x:Nat} (h5:F.sp.length=5) (hi:i < 5) (A:o=3 +i):(pP F V).set o (bV x)=pP {F with sp:=F.sp.set i x} V:=by
 subst A;obtain ⟨k,cs,tr,sp,le,re,al,cl,ru⟩:=F
 match sp,h5 with
 | [a,b,c,d,e],_=>
   match i,hi with
   | 0,_=>rfl
   | 1,_=>rfl
   | 2,_=>rfl
   | 3,_=>rfl
   | 4,_=>rfl
theorem Gb {s:Tx} (h:s∈eF):eF.idxOf s < 5:=by
 have :∀ k∈eF,eF.idxOf k < 5:=aM;exact this s h
theorem Ga {s:Tx} (h:s∈eF):ry s=(eF.idxOf s:Nat):=if_pos h
section
variable {eof ln:Nat} {F:aX} {seen:List Tx} {rows:List Rw} {r:List Tx}
theorem L4 (h:r.getD 0 []∈eF):cW eof F seen rows ln r=kF F rows ln r:=by unfold cW; rw [if_pos h]
theorem YF (h:r.getD 0 []=jh):cW eof F seen rows ln r=kW F seen rows ln r:=by unfold cW; rw [h]; rfl
theorem L1 (h:r.getD 0 []=jt):cW eof F seen rows ln r=nb F rows ln r:=by unfold cW; rw [h]; rfl
theorem L5 (h:r.getD 0 []=jz):cW eof F seen rows ln r=nk F rows ln r:=by unfold cW; rw [h]; rfl
theorem Ex (h:r.getD 0 []=kU):cW eof F seen rows ln r=lj F rows ln r:=by unfold cW; rw [h]; rfl
theorem L0 (h:r.getD 0 []=fQ):cW eof F seen rows ln r=kE eof F rows ln r:=by unfold cW; rw [h]; rfl
theorem Ap (h:r.getD 0 []=ff):cW eof F seen rows ln r=kn eof F seen rows ln r:=by unfold cW; rw [h]; rfl
theorem YE (h:r.getD 0 []=gx∨r.getD 0 []=dG):cW eof F seen rows ln r=iu eof F rows ln r:=by rcases h with h | h <;> (unfold cW; rw [h]; rfl)
theorem abq {k:Tx} (hw:width k≠0) (A:k∉eF) (h1:k≠jh) (h2:k≠jt) (h3:k≠jz) (h4:k≠kU) (h5:k≠fQ) (C:k≠ff):k=gx∨k=dG:=by
 unfold width at hw;rw [if_neg (by simp [A,h1,h2,h3,h4,h5,C])] at hw;by_cases h:k=gx∨k=dG
 · exact h
 · rw [if_neg h] at hw; exact absurd rfl hw
end
theorem gE.eq {A:World} {H:gT} {seen:List Tx} {X Y:Except (Nat×Nat) (aX×List Rw)} {v:Value} {w:World} (h:gE A H seen X v w) (he:Y=X):gE A H seen Y v w:=he ▸ h
theorem gE.er {A:World} {H:gT} {seen:List Tx} {X:Except (Nat×Nat) (aX×List Rw)} {w:World} {l e:Nat} (h:X= .error (l,e)) (he:e≠0) (C:Hb.a7 w.heap H.rb 5=some (.int .i64 (l:Nat))) (hw:Wk A w):gE A H seen X (.int .i64 (e:Nat)) w:=⟨.inr ⟨l,e,h,he,rfl,C⟩,hw⟩
theorem Eo (O:World) (H:gT) (F:aX) (k ln:Nat) (seen hd:List Tx) (bB:Nat) (ac:Option Addr) (ai n:Nat) (w:World) (aS:GS O H) (C:nv O w H F k ln seen) (cc:Tg O bB 9 hd.length (.slice ac hd.length ai) (hd.map str)) (cI:hd.length=2∨hd.length=4) (cL:n≤70000) (cn:hd.getD 0 []≠fQ→hd.getD 0 []≠ff→0 < F.bG.length):
 bw aE 156 (bl [a6 H.rb,.slice ac hd.length ai,ay n]) w (gE O H seen<|iO (k9 hd) H.eof n F<|H.rows.drop k):=by
 have aG:∀ w,Wk O w→cw w.heap ac hd:=fun w h=>(cc.wk h).du.2;obtain ⟨a0,b1,bt⟩:∃ a c,H.vr= .slice a H.rows.length c:=by obtain ⟨B0,h1,_⟩:=aS; exact h1.slice
 have a2:∀ (w:World) (k l:Nat) (s:List Tx) (vh:Value),iZ w O.heap.size H k l s vh→Hb.a7 w.heap H.rb 1=some (.slice a0 H.rows.length b1):=fun w k l s vh h=>by rw [← bt]; exact (bo h.cells).trans rfl
 refine enter func156 ag ntmps156 ag<|ak fun bC=>az<|bC<|aH fun bP=>ak fun bU=>az<|bU<|aW<|lp (fun a5 bx Y=> ∃ (i:Nat) (F':aX) (k' a3:Nat),(i≤n)∧(iO (k9 hd) H.eof (n - i) F' (H.rows.drop k')=iO (k9 hd) H.eof n F (H.rows.drop k))∧(nv O Y H F' k' a3 seen)∧(F'.bG=F.bG)∧(Sl bx [(0,a6 H.rb),(1,.slice ac hd.length ai),(2,ay n),(7,ay i)])∧(n - i=a5)) _ ⟨0,F,k,ln,aj,ag,C,ag,ag,ag⟩ ?_;rintro a5 bx Y ⟨i,F',k',a3,hi,Z,bc,bd,cz,rfl⟩;refine bH cz ?_;have cb:=bc;obtain ⟨V,vh,b5,ap,aP,a9,cJ⟩:=bc;have cK:H.rows.length≤70000:=by obtain ⟨_,_,_,h⟩:=aS; exact h
 refine aH fun bV=>ak fun bX=>aw (ay i)<|aw (ay n)<|p (lt ag ag)<|nl<|bX<|cd ag (fun ci=> ?_) fun ci=> ?_;refine aT<|bV<|aH fun aN=>aW<|aH fun bZ=>aH fun b0=> ?_;have J:(fun w'=>Wk Y w') Y.drew:=(Md.refl _ _).drew;refine cj (fun w'=>Wk Y w') ag wide J<|bQ 0 ag (a6 H.rb) J<|aU 1 ag (nc ag) J<|aU 2 ag (fa qn ag) J<|bS 3 ag (fun w' C=>ld bL ag<|Wk.a7 C<|(bo ap.cells).trans ag) J<|bQ 4 ag (a6 H.rb) J<|aU 5 ag (nc ag) J<|aU 6 ag (fa D8 ag) J<|bS 7 ag (fun w' C=>ld Ct ag<|Wk.a7 C<|a2 _ _ _ _ _ ap) J<|aU 8 ag (bN Bw ag ag) J<|aU 9 ag (ge ag ag) J<|hn au ?_;have aq:=ap.wk J;have b6:=b5.wk J;have aQ:=a9.trans J;refine b0<|cd ag (fun ck=> ?_) fun ck=> ?_;have cy:H.rows.drop k'= []:=drop_nil aj;rw [cy] at Z;refine ak fun aO=>aw (a6 H.rb)<|aw (a6 H.rb)<|p (nc ag)<|p (fa XQ ag)<|p (ld bL ag<|(bo aq.cells).trans ag)<|p (nc ag)<|p (fa rj ag)<|e<|dB hZ ag ag (v:=ay<|H.eof) ag aq.cells (by show _ < 6; omega) fun cB bb b2=> ?_;have b9:=aq.ea (k':=k') (ln':=H.eof) bb b2;have ce:Wk O cB:=aQ.trans' bb fun q bk h=>by have :=ap.lo; omega
 exact nl<|aO<|ak fun aL=>az<|aL<|rt<|tr<|br<|tr<|tr<|br<|tr<|ba ag<|gE.er (Ym Z aj) aM b9.dH ce;obtain ⟨aa,ab,ar,cr,cD,cF,aK,bu,aC,bs,⟨bA,aA⟩,hvl⟩:=aS.get aQ (k:=k') aj;rw [bt] at bu;cases bu;have co:=congrArg List.length aK;simp only [db] at co;rw [aK] at Z;have aB:=aP.row (aa,ab)<|by rw [aK]; exact o6 ..
 have cM:0 < ab.length:=mr.2 aB.1;have cH:=aP.len;refine aT<|bZ<|aH fun aO=> ?_;have G:(fun w'=>Wk Y.drew w') Y.drew.drew:=(Md.refl _ _).drew;refine cj (fun w'=>Wk Y.drew w') ag wide G<|bQ 0 ag (a6 H.rb) G<|aU 1 ag (nc ag) G<|aU 2 ag (fa D8 ag) G<|bS 3 ag (fun w' C=>ld Ct ag<|Wk.a7 C<|a2 _ _ _ _ _ aq) G<|bQ 4 ag (a6 H.rb) G<|aU 5 ag (nc ag) G<|aU 6 ag (fa qn ag) G<|bS 7 ag (fun w' C=>ld bL ag<|Wk.a7 C<|(bo aq.cells).trans ag) G<|aU 8 ag (bh pL ag ag aj<|aR.ok (aC)<|mG aj) G<|aU 9 ag (fa xK ag) G<|bS 10 ag (fun w' C=>ld ky ag<|Wk.a7 C<|mH aC bs 1 aM) G<|aU 11 ag (aJ) G<|hn au ?_;have ax:=aq.wk G;refine aO<|aH fun aL=> ?_;have E:(fun w'=>Wk Y.drew.drew w') Y.drew.drew.drew:=(Md.refl _ _).drew;refine fj (fun w'=>Wk Y.drew.drew w') 14 ag wide E<|bM 0 ag (a6 H.rb) E<|bM 1 ag (a6 H.rb) E<|bR 2 ag (nc ag) E<|bR 3 ag (fa D8 ag) E<|ej 4 ag (fun w' C=>ld Ct ag<|Wk.a7 C<|a2 _ _ _ _ _ ax) E<|bM 5 ag (a6 H.rb) E<|bR 6 ag (nc ag) E<|bR 7 ag (fa qn ag) E<|ej 8 ag (fun w' C=>ld bL ag<|Wk.a7 C<|(bo ax.cells).trans ag) E<|bR 9 ag (bh pL ag ag aj<|aR.ok (aC)<|mG aj) E<|bR 10 ag (fa vm ag) E<|ej 11 ag (fun w' C=>ld bL ag<|Wk.a7 C<|mH (aR.wk aC G) bs 0 aM) E<|bR 12 ag (nc ag) E<|bR 13 ag (fa rj ag) E<|eb 14 ag au au<|dB hZ ag ag (v:=ay aa) ag (ax.wk E).cells (by show _ < 6; omega) fun cC aV b3=> ?_;have aD:=(ax.wk E).ea (k':=k') (ln':=aa) aV b3;have b7:=((b6.wk G).wk E).rb (ax.wk E) aV;have cg:Wk O cC:=((aQ.trans G).trans E).trans' aV fun q bk h=>by have :=ap.lo; omega
 refine fi au<|aL<|ak fun bE=>aw (a6 H.rb)<|aw (a6 H.rb)<|p (nc ag)<|p (fa qn ag)<|p (ld bL ag<|(bo aD.cells).trans ag) ?_;refine p (bJ ((k'+1:Nat):Int) ag ag<|bp aj aj)<|p (nc ag)<|p (fa qn ag)<|e<|dB hZ ag ag (v:=ay<|k'+1) ag aD.cells (by show _ < 6; omega) fun ae aY b4=> ?_;have aF:=aD.ea (k':=k'+1) (ln':=aa) aY b4;have b8:=b7.rb aD aY;have am:Wk O ae:=cg.trans' aY fun q bk h=>by have :=ap.lo; omega
 refine nl<|bE<|aH fun bF=>aH fun bK=> ?_;have I:(fun w'=>Wk ae w') ae.drew:=(Md.refl _ _).drew;refine cj (fun w'=>Wk ae w') ag wide I<|aU 0 ag (mv) I<|aU 1 ag (bh cE ag ag aj<|aR.ok ((aA.wk am).du.2)<|bY aj) I<|bS 2 ag (fun w' C=>ld bW ag<|Wk.a7 C<|cw.get (i:=0) (aA.wk am).du.2 aj) I<|bQ 3 ag (.slice ac hd.length ai) I<|aU 4 ag (bh cE ag ag aj<|aR.ok (aG _ am)<|bY aj) I<|bS 5 ag (fun w' C=>ld bW ag<|Wk.a7 C<|cw.get (i:=0) (aG _ am) aj) I<|aU 6 ag (nR ag ag) I<|hn au ?_;have al:=am.trans I;refine bK<|cd ag (fun aZ=> ?_) fun aZ=> ?_;have ao:ab.getD 0 []≠hd.getD 0 []:=aZ;exact ak fun ah=>az<|ah<|rt<|tr<|br<|tr<|tr<|br<|tr<|ba ag<|gE.er (En Z aj<|YX ao) aM (aF.wk I).dH al;have ao:ab.getD 0 []=hd.getD 0 []:=jT.1 aZ;refine aT<|bF ?_;refine ez (fun bz a4=>(ab.take (k9 hd).length=k9 hd)∧(Wk ae a4)∧(Sl bz [(0,a6 H.rb),(1,.slice ac hd.length ai),(2,ay n),(7,ay i),(8,.slice ar ab.length cr)])) ?_ ?_;refine aH fun ah=> ?_;have A:(fun w'=>Wk ae.drew w') ae.drew.drew:=(Md.refl _ _).drew;refine cj (fun w'=>Wk ae.drew w') ag wide A<|bQ 0 ag (.slice ac hd.length ai) A<|aU 1 ag (bN ee ag ag) A<|aU 2 ag (bT ag ag) A<|aU 3 ag (mv) A<|iP (t:=75) ag (fun cp=> ?_) fun cp=> ?_;refine bm 4 ag (fun _ _=>mv) A<|bm 5 ag (fun _ _=>bN ee ag ag) A<|bm 6 ag (fun _ _=>lt ag ag) A<|bm 7 ag (fun _ _=>mv) A<|iP (t:=79) ag (fun cq=> ?_) fun cq=> ?_;exact bf 8 ag A<|bf 9 ag A<|bf 10 ag A<|bf 11 ag A<|bf 12 ag A<|bf 13 ag A<|bf 14 ag A<|bm 15 ag (fun _ _=>bI ag) A<|aU 16 ag (bI ag) A<|hn au<|ah<|ct ag<|ak fun av=>p aJ<|nl<|av<|rt<|tr<|br<|tr<|tr<|br<|tr<|ba ag<|gE.er (En Z aj<|Mf aj<|.inl aj) aM ((aF.wk I).wk A).dH<|al.trans A;refine bm 8 ag (fun _ _=>mv) A<|bm 9 ag (fun _ _=>bh cE ag ag aj<|aR.ok ((aA.wk al).du.2)<|bY aj) A<|bm 10 ag (fun w' C=>ld bW ag<|Wk.a7 C<|cw.get (i:=1) (aA.wk al).du.2 aj) A<|bm 11 ag (fun _ _=>a8 (.slice ac hd.length ai) ag) A<|bm 12 ag (fun _ _=>bh cE ag ag aj<|aR.ok (aG _ al)<|bY aj) A<|bm 13 ag (fun w' C=>ld bW ag<|Wk.a7 C<|cw.get (i:=1) (aG _ al) aj) A<|bm 14 ag (fun _ _=>nR ag ag) A<|bm 15 ag (fun _ _=>bD ag) A<|aU 16 ag (bI ag) A<|hn au<|ah<|cd ag (fun a1=> ?_) fun a1=> ?_;exact ak fun av=>az<|av<|rt<|tr<|br<|tr<|tr<|br<|tr<|ba ag<|gE.er (En Z aj<|Mf aj<|.inr a1) aM ((aF.wk I).wk A).dH<|al.trans A;exact aT<|tn<|⟨(Mg ao aB.1 fun _=>⟨aj,jT.1 a1⟩),(I.trans A),ag⟩
 exact bf 4 ag A<|bf 5 ag A<|bf 6 ag A<|bf 7 ag A<|j4 8 ag au ag ag ag A<|j4 9 ag au ag ag ag A<|j4 10 ag au ag ag ag A<|j4 11 ag au ag ag ag A<|j4 12 ag au ag ag ag A<|j4 13 ag au ag ag ag A<|j4 14 ag au ag ag ag A<|bf 15 ag A<|aU 16 ag (bD ag) A<|hn au<|ah<|cf ag<|aT<|tn<|⟨(Mg ao aB.1 fun h=>absurd h aj),(I.trans A),ag⟩
 rintro bz a4 ⟨bq,aI,cA⟩;refine bH cA<|ak fun ah=>aw (a6 H.rb)<|aw (.slice ar ab.length cr)<|e<|cl Tf (Yt O H F' (k'+1) aa seen ab bA ar cr a4 ⟨V,vh,b8.wk aI,aF.wk aI,pd.q8 (aK ▸ aP),am.trans aI,aj⟩ (aA.wk<|am.trans aI) aB.1 aB.2.2 aj fun h1 h2=>by rw [bd]; exact cn (ao ▸ h1)<|ao ▸ h2) ag ?_;rintro v91 bv ⟨cu,ch⟩;obtain ⟨cG,rfl,bi⟩:∃ e:Nat,v91=ay e∧((e=0∧∃ an,jO F' aa ab= .ok an∧nv O bv H an (k'+1) aa seen)∨(e≠0∧jO F' aa ab= .error e∧Hb.a7 bv.heap H.rb 5=some (ay aa))):=by
  rcases cu with ⟨an,h1,h2,h3⟩ | ⟨e,h1,h2,h3,h4⟩;exact ⟨0,h2,.inl ⟨ag,an,h1,h3⟩⟩;exact ⟨e,h3,.inr ⟨h2,h1,h4⟩⟩
 refine az<|ah<|ak fun av=>p mv<|p (dw ag ag)<|nl<|av<|cd ag (fun cm=> ?_) fun cm=> ?_;obtain ⟨cx,cs,cv⟩:=bi.resolve_left fun h=>by omega
 exact ak fun bO=>p mv<|az<|bO<|rt<|br<|tr<|tr<|br<|tr<|ba ag<|gE.er (Yk Z aj bq cs) cx cv ch;obtain ⟨_,an,bg,ca⟩:=bi.resolve_right fun h=>by omega
 exact aT<|bn<|aN<|rg ag<|aw (ay i)<|p (ad ag ag<|cR aj)<|p aJ<|nl<|tn<|⟨_,aj,i+1,an,k'+1,aa,aj,(by rw [show n - (i+1)=n - i - 1 by omega]; exact Yn Z aj bq bg),ca,((Ys bg).1.trans bd),ag,ag⟩
 refine ext<|bj<|bj<|be<|bP<|ak fun aN=>p aJ<|nl<|aN<|rt<|ba ag ?_;rw [show n - i=0 by omega] at Z;exact ⟨.inl ⟨F',k',a3,Yl Z,ag,cb⟩,a9⟩
theorem X9 (I:World) (H:gT) (F:aX) (k ln:Nat) (seen r:List Tx) (bb:Nat) (ar:Option Addr) (cr:Nat) (w:World) (b6:GS I H) (C:nv I w H F k ln seen) (bi:Tg I bb 9 r.length (.slice ar r.length cr) (r.map str)) (bv:∀ x∈r,x.length≤70000) (cL:F.dF.length+F.aliases.length+F.bG.length+F.rules.length+(H.rows.drop k).length < 70000) (bu:r.length=4) (a0:r.getD 0 []=gx∨r.getD 0 []=dG):
 bw aE 157 (bl [a6 H.rb,.slice ar r.length cr]) w (gE I H seen<|iu H.eof F (H.rows.drop k) ln r):=by
 have cK:=C;obtain ⟨V,vh,ah,J,al,ae,cq⟩:=C;have G:∀ w,Wk I w→cw w.heap ar r:=fun w h=>(bi.wk h).du.2;have cT:=J.lo;have cR:=ah.lo;have cP:=al.len;have ck:=al.sl;have cX:=(dT.1 J.cells).1;have ct:r.getD 0 []≠fQ:=by rcases a0 with h | h <;> rw [h] <;> decide
 have cu:r.getD 0 []≠ff:=by rcases a0 with h | h <;> rw [h] <;> decide
 have cV:(r.getD 1 []).length≤70000:=bv _<|ek aj;have cW:(r.getD 3 []).length≤70000:=bv _<|ek aj;obtain ⟨a12,bZ,cD⟩:=cM ah.dR;have bk:Hb.a7 w.heap H.fb 12=some (.slice a12 F.rules.length bZ):=by rw [← cD]; exact (bo ah.cells).trans rfl
 refine enter func157 ag ntmps157 ag<|ak fun bC=>az<|bC<|ak fun bK=>aw (a6 H.rb)<|aw (.slice ar r.length cr)<|p (bh cE ag ag aj<|aR.ok (G _ ae)<|bY aj)<|p (ld bW ag<|cw.get (i:=1) (G _ ae) aj)<|e<|cl Iw (LR I.heap.size H F V k ln seen vh (r.getD 1 []) w ah J al.kd aj aj) ag ?_;rintro c3 cG ⟨⟨x,aL,rfl,br⟩,hE14⟩;have aa:=ae.trans hE14;refine p mv<|p (xt ag ag)<|p (xt ag ag)<|p aJ<|az<|bK<|aH fun bL=>ak fun bO=>p mv<|p (dw ag ag)<|nl<|bO<|cd ag (fun cm=> ?_) fun cm=> ?_;have bq:iF F (r.getD 1 [])= .error aL∧aL≠0:=by
  rcases br with ⟨_,_,h⟩ | h;omega;exact h
 exact ak fun ab=>p mv<|az<|ab<|rt<|tr<|ba ag<|gE.er (Dk bq.1) bq.2 (J.wk hE14).dH aa;obtain ⟨aD,cY,_⟩:iF F (r.getD 1 [])= .ok x∧x≠0∧aL=0:=by
  rcases br with h | ⟨_,h⟩;exact h;omega
 refine aT<|bL ?_;refine ez (fun bA a5=>(r.getD 2 []= [89]∨r.getD 2 []= [78])∧(a5=cG)∧(Sl bA [(0,a6 H.rb),(1,.slice ar r.length cr),(5,bV x)])) ?_ ?_;refine ak fun ab=>aw (.slice ar r.length cr)<|p (bh cE ag ag aj<|aR.ok (G _ aa)<|bY aj)<|p (ld bW ag<|cw.get (i:=2) (G _ aa) aj)<|p (nR ag ag)<|p mv<|gs (t:=24) ag (fun aZ=> ?_) fun aZ=> ?_;refine aV ag (a8 (.slice ar r.length cr) ag)<|aV ag (bh cE ag ag aj<|aR.ok (G _ aa)<|bY aj)<|aV ag (ld bW ag<|cw.get (i:=2) (G _ aa) aj)<|aV ag (nR ag ag)<|p (bI ag)<|nl<|ab<|cd ag (fun aS=> ?_) fun aS=> ?_;exact ak fun aI=>az<|aI<|rt<|tr<|ba ag<|gE.er (Dl aD aZ aS) aM (J.wk hE14).dH aa;exact aT<|tn<|⟨(.inr<|jT.1 aS),ag,ag⟩
 exact aQ ag<|aQ ag<|aQ ag<|aQ ag<|p (bD ag)<|nl<|ab<|cf ag<|aT<|tn<|⟨(.inl<|jT.1 aZ),ag,ag⟩
 rintro bA a5 ⟨a2,cF,cA⟩;refine bH cA ?_;subst cF;have aP:=aa;refine ak fun ab=>aw (.slice ar r.length cr)<|p (bh cE ag ag aj<|aR.ok (G _ aP)<|bY aj)<|p (ld bW ag<|cw.get (i:=3) (G _ aP) aj)<|e<|cl tz (tQ (r.getD 3 []) 1024 a5 aj aj) ag ?_;rintro c4 ai ⟨rfl,bd⟩;have aB:=aP.trans bd;have O:=hE14.trans bd;have cy:=sI (r.getD 3 []) 1024;refine p mv<|p (xt ag ag)<|p (xt ag ag)<|p aJ<|az<|ab<|aH fun aI=>ak fun bT=>p mv<|p (dw ag ag)<|nl<|bT<|cd ag (fun cn=> ?_) fun cn=> ?_;refine ak fun aK=>p mv<|az<|aK<|rt<|tr<|ba ag ?_;have bc:=rr (s:=r.getD 3 []) (most:=1024) aj;show gE I H seen _ (.int .i64 (eE (r.getD 3 []) 1024).2) ai;rw [bc.2];exact gE.er (Jq aD a2 bc.1) aM (J.wk O).dH aB;have a1:=pU (by omega :(eE (r.getD 3 []) 1024).2=0);have cx:=cy aj;obtain ⟨n,aC⟩:∃ n,n=(eE (r.getD 3 []) 1024).1:=⟨_,rfl⟩
 rw [← aC] at a1 cx;refine aT<|aI<|aH fun aK=>ak fun bU=>aw (a6 H.rb)<|p (nc ag)<|p (fa mD ag)<|p (ld jc ag<|(bo (J.wk O).cells).trans ag)<|p (nc ag)<|p (fa kq ag)<|p (ld kM ag<|Wk.a7 O bk)<|p (bN vP ag ag)<|p mv<|p (bJ ((F.rules.length+(eE (r.getD 3 []) 1024).1:Nat):Int) ag ag<|bp aj aj)<|p (gt ag ag)<|nl<|bU<|cd ag (fun co=> ?_) fun co=> ?_;exact ak fun aF=>az<|aF<|rt<|tr<|ba ag<|gE.er (Jr aD a2 a1 aj) aM (J.wk O).dH aB;refine aT<|aK<|aH fun aF=> ?_;have A:(fun w'=>Wk ai w') ai.drew:=(Md.refl _ _).drew;refine cj (fun w'=>Wk ai w') ag wide A<|bQ 0 ag (bV x) A<|bQ 1 ag (.slice ar r.length cr) A<|aU 2 ag (bh cE ag ag aj<|aR.ok (G _ aB)<|bY aj) A<|bS 3 ag (fun w' C=>ld bW ag<|Wk.a7 C<|cw.get (i:=2) (G _ aB) aj) A<|aU 4 ag (ew ag ag) A<|bQ 5 ag (a6 H.rb) A<|aU 6 ag (nc ag) A<|aU 7 ag (fa mD ag) A<|bS 8 ag (fun w' C=>ld jc ag<|Wk.a7 C<|(bo (J.wk O).cells).trans ag) A<|aU 9 ag (nc ag) A<|aU 10 ag (fa kq ag) A<|bS 11 ag (fun w' C=>ld kM ag<|Wk.a7 C<|Wk.a7 O bk) A<|aU 12 ag (bN vP ag ag) A<|aU 13 ag (mv) A<|bS 14 ag (fun _ _=>dt (ps:= [(0,bV x),(1,ay 2),(2,.bool (decide (r.getD 2 []= [89]))),(3,ay (F.rules.length)),(4,ay ((eE (r.getD 3 []) 1024).1))]) (L:= [bV x,ay 2,.bool (decide (r.getD 2 []= [89])),ay (F.rules.length),ay ((eE (r.getD 3 []) 1024).1)]) OT ag<|ag) A ?_;refine he 15 ag au<|hU ub fun ac cH cN ax b2=> ?_;have c0:=ax.size;have cZ:=A.size;have ce:(fun w'=>Wk ai w') cH:=A.trans ax.md;refine ⟨ce,?_⟩;refine he 16 ag au<|gS sc ag ag ag ag b2 aM fun a3 bf b0=> ?_;have aq:Wk w a3:=(O.trans<|A.trans ax.md).trans' bf fun k hk h=>by have :=O.size; omega
 have bn:a3.heap[ac]? =some (.cells [bV x,ay 2,.bool (decide (r.getD 2 []= [89])),ay (F.rules.length),ay n].toArray 216 (0,0)):=by rw [aC]; exact b0
 have bj:w.heap.size≤ac:=by have :=O.size; omega
 have cg:(fun w'=>Wk ai w') a3:=(A.trans ax.md).trans' bf fun k hk h=>by omega
 refine ⟨cg,?_⟩;refine hn au<|aF ?_;refine ez (fun a9 Y=>(Y.heap[ac]? =some (.cells [bV x,.int .i64 ((if r.getD 0 []=dG then 2 else 1:Nat):Nat),.bool (decide (r.getD 2 []= [89])),ay (F.rules.length),ay n].toArray 216 (0,0)))∧(Wk w Y)∧(w.heap.size≤ac)∧(a9 7=ay n)∧(Sl a9 [(0,a6 H.rb),(1,.slice ar r.length cr),(5,bV x),(8,a6 ac)])) ?_ ?_;refine ak fun aG=>aw (.slice ar r.length cr)<|p (bh cE ag ag aj<|aR.ok (G _<|ae.trans aq)<|bY aj)<|p (ld bW ag<|cw.get (i:=0) (G _<|ae.trans aq) aj)<|p (ew ag ag)<|nl<|aG<|cd ag (fun aY=> ?_) fun aY=> ?_;exact rg ag<|p (fa Ah ag)<|e<|dB hZ ag ag (v:=ay 1) ag bn (by show _ < 5; omega) fun c6 b7 b1=>nl<|tn<|⟨(by rw [if_neg (show ¬r.getD 0 []=dG from fun h=>by have h2:r.getD 0 []=gx:=aY; rw [h2] at h; exact absurd h aM)]; exact b1),(aq.trans' b7 fun k hk h=>by omega),bj,(by rw [aC]; rfl),ag⟩
 exact aT<|tn<|⟨(by rw [if_pos (a0.resolve_left aY)]; exact bn),aq,bj,(by rw [aC]; rfl),ag⟩
 rintro a9 Y ⟨cp,av,cU,cC,cB⟩;refine bH cB<|fx 7 cC ?_;have an:=ah.wk av;have aA:=J.wk av;have bs:¬(V.v11.ownBlock=some H.rb):=eh an.eS aA.cells aM;have cv:¬(V.v11.ownBlock=some H.fb):=eh an.eS an.cells aM;have cs:¬(V.v11.ownBlock=some ac):=fun h=>by have :=(dK ah.eS h).2; omega
 refine aH fun aG=> ?_;have E:(fun w'=>Md (fun k=>V.v11.ownBlock=some k) Y w') Y.drew:=(Md.refl _ _).drew;refine fj (fun w'=>Md (fun k=>V.v11.ownBlock=some k) Y w') 16 ag wide E<|bM 0 ag (a6 H.rb) E<|bR 1 ag (nc ag) E<|bR 2 ag (fa mD ag) E<|ej 3 ag (fun w' C=>ld jc ag<|Md.a7 C ((bo aA.cells).trans ag) bs) E<|bM 4 ag (a6 H.rb) E<|bR 5 ag (nc ag) E<|bR 6 ag (fa mD ag) E<|ej 7 ag (fun w' C=>ld jc ag<|Md.a7 C ((bo aA.cells).trans ag) bs) E<|bR 8 ag (nc ag) E<|bR 9 ag (fa rh ag) E<|ej 10 ag (fun w' C=>ld rZ ag<|Md.a7 C ((bo an.cells).trans ag) cv) E<|ej 11 ag (fun w' C=>dp uH ag (ag) fun j cS=>bX.bF ⟨_,Md.aW C cp cs⟩ j) E<|ic 12 ag au<|lF OG ag ag ag fun cJ cI cO b8 b3=> ?_;have am:=jk b8.md;have Z:=an.wk am;have b9:=aA.wk am;have c1:=(av.trans am).size;have bg:(fun w'=>Md (fun k=>V.v11.ownBlock=some k) Y w') cI:=Md.mono am fun _ _ h=>h.elim;refine ⟨bg,?_⟩;refine ic 13 ag au<|ap OG (Z.eS) ag aj ag (aR.dZ b3) (ag) (ag) aj aj fun bx a4 bt ao c2 cQ=> ?_;have ca:=b9.own Z.eS ao aM;have bm:=ao.aW Z.cells<|eh Z.eS Z.cells aM;have cz:bB a4 I.heap.size 216 5 bx (F.bG++ [(⟨x,(if r.getD 0 []=dG then 2 else 1:Nat),(decide (r.getD 2 []= [89])),F.rules.length,n⟩:dD)]).length (sw<|F.bG++ [(⟨x,(if r.getD 0 []=dG then 2 else 1:Nat),(decide (r.getD 2 []= [89])),F.rules.length,n⟩:dD)]):=by rw [show sw (F.bG++ [(⟨x,(if r.getD 0 []=dG then 2 else 1:Nat),(decide (r.getD 2 []= [89])),F.rules.length,n⟩:dD)])=sw F.bG++oK (⟨x,(if r.getD 0 []=dG then 2 else 1:Nat),(decide (r.getD 2 []= [89])),F.rules.length,n⟩:dD) from by simp [sw],bP]; exact bt
 have ch:Wk I a4:=(ae.trans<|av.trans am).trans' ao fun k hk h=>by have :=(dK Z.eS h).1; omega
 have aO:(fun w'=>Md (fun k=>V.v11.ownBlock=some k) Y w') a4:=bg.trans' ao fun _ _ h=>h;refine ⟨aO,?_⟩;refine bR 14 ag (nc ag) aO<|bR 15 ag (fa rh ag) aO<|eb 16 ag au au<|dB VZ ag ag (v:=bx) (fG bt) bm (by show _ < 13; omega) fun bz aN b4=> ?_;have b5:=e7.Cy (x:=(⟨x,(if r.getD 0 []=dG then 2 else 1:Nat),(decide (r.getD 2 []= [89])),F.rules.length,n⟩:dD)) Z ao cz aN b4;have cb:=ca.ql bm aN;have ci:Wk I bz:=ch.trans' aN fun k hk h=>by omega
 refine fi au<|aG<|ak fun bE=>aw (a6 H.rb)<|aw (.slice ar r.length cr)<|aw (ay n)<|e<|cl CO (Eo I H {F with bG:=F.bG++ [(⟨x,(if r.getD 0 []=dG then 2 else 1:Nat),(decide (r.getD 2 []= [89])),F.rules.length,n⟩:dD)]} k ln seen r bb ar cr n bz b6 ⟨_,vh,b5,cb,⟨by simp only [bP,fE]; omega,ck,al.row,al.kd⟩,ci,cq⟩ bi (.inr bu) aj fun _ _=>by simp only [bP,fE]; omega) ag fun c5 c7 cc=>p aJ ?_;exact nl<|bE<|rt<|ba ag<|gE.eq cc<|UN bu ct cu aD a2 a1 aj
theorem Yr (G:World) (H:gT) (F:aX) (k ln:Nat) (seen r:List Tx) (aC:Nat) (ar:Option Addr) (cr:Nat) (w:World) (a4:GS G H) (aA:nv G w H F k ln seen) (aL:Tg G aC 9 r.length (.slice ar r.length cr) (r.map str)) (bt:∀ x∈r,x.length≤70000) (b7:F.dF.length+F.aliases.length+F.bG.length+F.rules.length+(H.rows.drop k).length < 70000) (hw:r.length=width (r.getD 0 [])) (ch:width (r.getD 0 [])≠0):
 bw aE 97 (bl [a6 H.rb,.slice ar r.length cr]) w (gE G H seen<|cW H.eof F seen (H.rows.drop k) ln r):=by
 have bA:=aA;obtain ⟨V,vh,E,C,I,A,aB⟩:=aA;have J:∀ w,Wk G w→cw w.heap ar r:=fun w h=>(aL.wk h).du.2;have cA:=C.lo;have cz:=E.lo;have cy:=I.len;have aU:=I.sl;have cB:=(dT.1 C.cells).1;have cC:0 < r.length:=aj;have Y:2≤r.length→(r.getD 1 []).length≤70000:=fun h=>bt _<|ek aj;refine enter func97 ag ntmps97 ag<|ak fun bL=>az<|bL<|ak fun bO=>aw (.slice ar r.length cr)<|p (bh cE ag ag aj<|aR.ok (J _ A)<|bY aj)<|p (ld bW ag<|cw.get (i:=0) (J _ A) aj)<|az<|bO<|ak fun bQ=>p mv<|e<|cl CN (Ev (r.getD 0 []) w) ag ?_;rintro v24 am ⟨rfl,ck⟩;subst ck;refine az<|bQ<|aH fun bS=>ak fun bU=>p mv<|p (ge ag ag)<|nl<|bU<|cd ag (fun bf=> ?_) fun bf=> ?_;have ai:=vI.1 bf;have ab:r.length=2:=by rw [hw,PE ai]
 have Y:=Y aj;refine ak fun a0=>aw (a6 H.rb)<|aw (.slice ar r.length cr)<|p (bh cE ag ag aj<|aR.ok (J _ A)<|bY aj)<|p (ld bW ag<|cw.get (i:=1) (J _ A) aj)<|e<|cl Iw (LR G.heap.size H F V k ln seen vh (r.getD 1 []) am E C I.kd aj aj) ag ?_;rintro v32 cP ⟨⟨x,cx,rfl,cc⟩,hE32⟩;have b5:=A.trans hE32;refine p mv<|p (xt ag ag)<|p (xt ag ag)<|p aJ<|az<|a0<|aH fun a1=>rg ag<|aw (a6 H.rb)<|p (nc ag)<|p (fa mD ag)<|p (ld jc ag<|(bo (C.wk hE32).cells).trans ag)<|p mv<|p mv<|p (nc ag)<|p (fa vj ag)<|p (kT uM ag ag<|by rw [Ga ai]; have :=Gb ai; omega)<|e<|dB hZ ag ag (v:=bV x) ag (E.wk hE32).cells (by show 0 +3 +(ry<|r.getD 0 []).toNat*1 < 13; rw [Ga ai]; have :=Gb ai; omega) fun bK a5 bX=> ?_;have cg:=Yw (F:=F) (V:=V) (x:=x) (o:=0 +3 +(ry<|r.getD 0 []).toNat*1) E.gG (Gb ai)<|by rw [Ga ai]; omega
 have bZ:bK.heap[H.fb]? =some (.cells (pP {F with sp:=F.sp.set (eF.idxOf<|r.getD 0 []) x} V).toArray 154 (0,0)):=by rw [← cg]; exact bX
 have b0:=(E.wk hE32).put (F':= {F with sp:=F.sp.set (eF.idxOf<|r.getD 0 []) x}) a5 bZ rfl rfl rfl rfl (by show (F.sp.set _ _).length=5; rw [List.length_set]; exact E.gG);have bz:=(C.wk hE32).fb (E.wk hE32) a5;have a8:Wk G bK:=b5.trans' a5 fun k hk h=>by omega
 refine nl<|a1<|ak fun a2=>p mv<|az<|a2<|rt<|tr<|ba ag ?_;rcases cc with ⟨bu,_,rfl⟩ | ⟨bu,ce⟩;exact ⟨.inl ⟨_,k,ln,(L4 ai).trans (ON bu),ag,⟨V,vh,b0,bz,⟨I.len,aU,I.row,I.kd⟩,a8,aB⟩⟩,a8⟩;exact gE.er ((L4 ai).trans<|OM bu) ce bz.dH a8;have cm:r.getD 0 []∉eF:=fun h=>bf<|vI.2 h;refine aT<|bS<|aH fun a0=>ak fun a1=>p mv<|nl<|a1<|aW<|ak fun a2=>p (ew ag ag)<|az<|a2<|cd ag (fun bg=> ?_) fun bg=> ?_;have h1:r.getD 0 []=jh:=bg;have ab:r.length=2:=by rw [hw,h1]; rfl
 have Y:=Y aj;exact ak fun a3=>aw (a6 H.rb)<|aw (.slice ar r.length cr)<|e<|cl SP (Yu G H F k ln seen r aC ar cr am bA (aL.wk A) ab bt) ag fun v50 cQ b4=>az<|a3<|rt<|br<|tr<|ba ag<|gE.eq b4<|YF h1;have cn:¬r.getD 0 []=jh:=bg;refine ak fun a3=>p (ew ag ag)<|az<|a3<|cd ag (fun bi=> ?_) fun bi=> ?_;have h2:r.getD 0 []=jt:=bi;have ab:r.length=2:=by rw [hw,h2]; rfl
 have Y:=Y aj;refine ak fun aY=>aw (.slice ar r.length cr)<|p (bh cE ag ag aj<|aR.ok (J _ A)<|bY aj)<|p (ld bW ag<|cw.get (i:=1) (J _ A) aj)<|e<|cl xk (ya (r.getD 1 []) am aj) ag ?_;rintro cK bv ⟨rfl,aq⟩;have aS:=A.trans aq;refine az<|aY<|aH fun aD=>ak fun an=>p mv<|p (no ag)<|nl<|an<|cb ag (fun bj=> ?_) fun bj=> ?_;exact ak fun Z=>az<|Z<|rt<|tr<|br<|tr<|ba ag<|gE.er ((L1 h2).trans<|Ov<|by simpa using bj) aM (C.wk aq).dH aS;refine aT<|aD<|aH fun Z=> ?_;have O:(fun w'=>Wk bv w') bv.drew:=(Md.refl _ _).drew;refine fj (fun w'=>Wk bv w') 9 ag wide O<|bM 0 ag (a6 H.rb) O<|bR 1 ag (nc ag) O<|bR 2 ag (fa mD ag) O<|ej 3 ag (fun w' aA=>ld jc ag<|Wk.a7 aA<|(bo (C.wk aq).cells).trans ag) O<|bM 4 ag (.slice ar r.length cr) O<|bR 5 ag (bh cE ag ag aj<|aR.ok (J _ aS)<|bY aj) O<|ej 6 ag (fun w' aA=>ld bW ag<|Wk.a7 aA<|cw.get (i:=1) (J _ aS) aj) O<|bR 7 ag (nc ag) O<|bR 8 ag (fa XM ag) O<|eb 9 ag au au<|dB lI ag ag (v:=str<|r.getD 1 []) ag ((E.wk aq).wk O).cells (by show _ < 13; omega) fun aN aa aI=> ?_;have aK:=((E.wk aq).wk O).put (F':= {F with tA:=r.getD 1 []}) aa aI rfl rfl rfl rfl E.gG;have ax:=((C.wk aq).wk O).fb ((E.wk aq).wk O) aa;have ah:Wk G aN:=(aS.trans O).trans' aa fun k hk h=>by omega
 refine fi au<|Z<|ak fun ac=>az<|ac<|rt<|br ?_;exact tr<|ba ag<|⟨.inl ⟨_,k,ln,(L1 h2).trans (Ow<|by simpa using bj),ag,⟨V,vh,aK,ax,⟨I.len,aU,I.row,I.kd⟩,ah,aB⟩⟩,ah⟩
 have co:¬r.getD 0 []=jt:=bi;refine ak fun aY=>p (ew ag ag)<|az<|aY<|cd ag (fun bk=> ?_) fun bk=> ?_;have h3:r.getD 0 []=jz:=bk;have ab:r.length=2:=by rw [hw,h3]; rfl
 have Y:=Y aj;refine ak fun aD=>aw (.slice ar r.length cr)<|p (bh cE ag ag aj<|aR.ok (J _ A)<|bY aj)<|p (ld bW ag<|cw.get (i:=1) (J _ A) aj)<|e<|cl SQ (ab1 (r.getD 1 []) am aj) ag ?_;rintro cL cR ⟨rfl,av⟩;have b6:=A.trans av;refine p mv<|p (xt ag ag)<|p (xt ag ag)<|p aJ<|az<|aD<|aH fun an=>rg ag<|aw (a6 H.rb)<|p (nc ag)<|p (fa mD ag)<|p (ld jc ag<|(bo (C.wk av).cells).trans ag)<|p mv<|p (nc ag)<|p (fa XN ag)<|e<|dB lI ag ag (v:=str (letE<|r.getD 1 []).1) ag (E.wk av).cells (by show _ < 13; omega) fun aN aa aI=> ?_;have aK:=(E.wk av).put (F':= {F with tr:=(letE<|r.getD 1 []).1}) aa aI rfl rfl rfl rfl E.gG;have ax:=(C.wk av).fb (E.wk av) aa;have ah:Wk G aN:=b6.trans' aa fun k hk h=>by omega
 refine nl<|an<|ak fun Z=>p mv<|az<|Z<|rt<|br<|tr<|ba ag ?_;by_cases h:(letE<|r.getD 1 []).2=0;exact ⟨.inl ⟨_,k,ln,(L5 h3).trans (Pd h),by rw [h]; rfl,⟨V,vh,aK,ax,⟨I.len,aU,I.row,I.kd⟩,ah,aB⟩⟩,ah⟩;exact gE.er ((L5 h3).trans<|Pc h) h ax.dH ah;have cp:¬r.getD 0 []=jz:=bk;refine ak fun aD=>p (ew ag ag)<|az<|aD<|cd ag (fun bm=> ?_) fun bm=> ?_;have h4:r.getD 0 []=kU:=bm;have ab:r.length=2:=by rw [hw,h4]; rfl
 have Y:=Y aj;refine ak fun an=>aw (.slice ar r.length cr)<|p (bh cE ag ag aj<|aR.ok (J _ A)<|bY aj)<|p (ld bW ag<|cw.get (i:=1) (J _ A) aj)<|e<|cl tz (tQ (r.getD 1 []) 64 am aj aj) ag ?_;rintro v91 cS ⟨rfl,al⟩;have a9:=A.trans al;refine p mv<|p (xt ag ag)<|p (xt ag ag)<|p aJ<|az<|an<|aH fun Z=>ak fun ac=>p mv<|p (dw ag ag)<|p mv<|gs (t:=96) ag (fun bE=> ?_) fun bE=> ?_;exact aQ ag<|aQ ag<|p (bI ag)<|nl<|ac<|ct ag<|ak fun ae=>az<|ae<|rt<|tr<|br<|tr<|ba ag<|gE.er ((Ex h4).trans<|Nb (rr bE).1) aM (C.wk al).dH a9;refine aV ag mv<|aV ag (bT ag ag)<|p (bD ag)<|nl<|ac<|cd ag (fun ca=> ?_) fun ca=> ?_;exact ak fun ae=>az<|ae<|rt<|tr<|br<|tr<|ba ag<|gE.er ((Ex h4).trans<|Nc (pU aj) aj) aM (C.wk al).dH a9;refine aT<|Z<|ak fun ae=>aw (a6 H.rb)<|p (nc ag)<|p (fa mD ag)<|p (ld jc ag<|(bo (C.wk al).cells).trans ag)<|p mv<|p (nc ag)<|p (fa XO ag)<|e<|dB hZ ag ag (v:=ay<|(eE (r.getD 1 []) 64).1) ag (E.wk al).cells (by show _ < 13; omega) fun aN aa aI=> ?_;have aK:=(E.wk al).put (F':= {F with least:=(eE (r.getD 1 []) 64).1}) aa aI rfl rfl rfl rfl E.gG;have ax:=(C.wk al).fb (E.wk al) aa;have ah:Wk G aN:=a9.trans' aa fun k hk h=>by omega
 exact nl<|ae<|ak fun ao=>az<|ao<|rt<|br<|tr<|ba ag<|⟨.inl ⟨_,k,ln,(Ex h4).trans (Nd (pU aj) aj),ag,⟨V,vh,aK,ax,⟨I.len,aU,I.row,I.kd⟩,ah,aB⟩⟩,ah⟩
 have cq:¬r.getD 0 []=kU:=bm;refine ak fun an=>p (ew ag ag)<|az<|an<|cd ag (fun bb=> ?_) fun bb=> ?_;have h5:r.getD 0 []=fQ:=bb;have ab:r.length=2:=by rw [hw,h5]; rfl
 have Y:=Y aj;refine ak fun Z=>aw (.slice ar r.length cr)<|p (bh cE ag ag aj<|aR.ok (J _ A)<|bY aj)<|p (ld bW ag<|cw.get (i:=1) (J _ A) aj)<|e<|cl tz (tQ (r.getD 1 []) 256 am aj aj) ag ?_;rintro cD bH ⟨rfl,aO⟩;have bB:=A.trans aO;have bq:=sI (r.getD 1 []) 256;refine p mv<|p (xt ag ag)<|p (xt ag ag)<|p aJ<|az<|Z<|aH fun ac=>ak fun ae=>p mv<|p (dw ag ag)<|nl<|ae<|cd ag (fun b8=> ?_) fun b8=> ?_;refine ak fun ao=>p mv<|az<|ao<|rt<|tr<|br<|tr<|ba ag ?_;have aG:=rr (s:=r.getD 1 []) (most:=256) aj;show gE G H seen _ (.int .i64 (eE (r.getD 1 []) 256).2) bH;rw [aG.2];exact gE.er ((L0 h5).trans<|N5 aG.1) aM (C.wk aO).dH bB;exact aT<|ac<|ak fun ao=>aw (a6 H.rb)<|aw (.slice ar r.length cr)<|p mv<|e<|cl CO (Eo G H F k ln seen r aC ar cr (eE (r.getD 1 []) 256).1 bH a4 ⟨V,vh,E.wk aO,C.wk aO,I,bB,aB⟩ aL (.inl ab) (by have :=bq aj; omega) fun h _=>absurd h5 h) ag fun cF cM b1=>az<|ao<|rt<|br<|tr<|ba ag<|gE.eq b1<|(L0 h5).trans<|abR ab h5<|pU aj;have cs:¬r.getD 0 []=fQ:=bb;refine ak fun Z=>p (ew ag ag)<|az<|Z<|cd ag (fun bc=> ?_) fun bc=> ?_;have ap:r.getD 0 []=ff:=bc;have ab:r.length=2:=by rw [hw,ap]; rfl
 have Y:=Y aj;refine ak fun ac=>aw (a6 H.rb)<|e<|cl De (Ew G.heap.size H k ln seen vh gx am C aj) ag ?_;rintro cG cu ⟨rfl,ci⟩;subst ci;refine az<|ac<|ak fun ae=>aw (a6 H.rb)<|e<|cl De (Ew G.heap.size H k ln seen vh dG cu C aj) ag ?_;rintro cH cv ⟨rfl,cj⟩;subst cj;refine az<|ae<|aH fun ao=>ak fun bx=>p mv<|p mv<|gb (t:=130) ag (fun bp=> ?_) fun bp=> ?_;exact aQ ag<|p (bI ag)<|nl<|bx<|ct ag<|ak fun aF=>p aJ<|nl<|aF<|rt<|tr<|br<|tr<|ba ag<|gE.er ((Ap ap).trans<|Cw<|.inl<|of_decide_eq_true bp) aM C.dH A;refine aV ag mv<|p (bD ag)<|nl<|bx<|cb ag (fun bd=> ?_) fun bd=> ?_;exact ak fun aF=>az<|aF<|rt<|tr<|br<|tr<|ba ag<|gE.er ((Ap ap).trans<|Cw<|.inr<|of_decide_eq_true bd) aM C.dH A;have bF:¬(gx∈seen∨dG∈seen):=fun h=>h.elim (of_decide_eq_false bp)<|of_decide_eq_false bd;refine aT<|ao<|ak fun aF=>aw (.slice ar r.length cr)<|p (bh cE ag ag aj<|aR.ok (J _ A)<|bY aj)<|p (ld bW ag<|cw.get (i:=1) (J _ A) aj)<|e<|cl tz (tQ (r.getD 1 []) 1024 cv aj aj) ag ?_;rintro cI bJ ⟨rfl,aP⟩;have bC:=A.trans aP;have bq:=sI (r.getD 1 []) 1024;refine p mv<|p (xt ag ag)<|p (xt ag ag)<|p aJ<|az<|aF<|aH fun bN=>ak fun bP=>p mv<|p (dw ag ag)<|nl<|bP<|cd ag (fun b9=> ?_) fun b9=> ?_;refine ak fun aZ=>p mv<|az<|aZ<|rt<|tr<|br<|tr<|ba ag ?_;have aG:=rr (s:=r.getD 1 []) (most:=1024) aj;show gE G H seen _ (.int .i64 (eE (r.getD 1 []) 1024).2) bJ;rw [aG.2];exact gE.er ((Ap ap).trans<|HW bF aG.1) aM (C.wk aP).dH bC;exact aT<|bN<|ak fun aZ=>aw (a6 H.rb)<|aw (.slice ar r.length cr)<|p mv<|e<|cl CO (Eo G H F k ln seen r aC ar cr (eE (r.getD 1 []) 1024).1 bJ a4 ⟨V,vh,E.wk aP,C.wk aP,I,bC,aB⟩ aL (.inl ab) (by have :=bq aj; omega) fun _ h=>absurd ap h) ag fun v146 cN b2=>az<|aZ<|rt<|br<|tr<|ba ag<|gE.eq b2<|(Ap ap).trans<|RJ ab ap bF<|pU aj;have n6:¬r.getD 0 []=ff:=bc;have bs:=abq ch cm cn co cp cq cs n6;have cf:r.length=4:=by rw [hw,PF bs]
 exact aT<|bn<|a0<|ak fun ac=>aw (a6 H.rb)<|aw (.slice ar r.length cr)<|e<|cl SR (X9 G H F k ln seen r aC ar cr am a4 bA aL bt b7 cf bs) ag fun cJ cO b3=>az<|ac<|rt<|ba ag<|gE.eq b3<|YE bs
end Go.Hb.HB
end
section
namespace Go.Hb.k5
open Go.Hb.Cl Go.Hb.HB Go.Hb.pc
theorem Tg.blt {w:World} {B e n cp:Nat} {a:Option Addr} {xs:List Value} (h:Tg w B e n (.slice a n cp) xs) (G:xs≠[]):bk a < w.heap.size:=by
 obtain ⟨I,O,E,_,C⟩:=h;cases E;rcases C with rfl | ⟨J,cur,z2,rfl,_,A,_⟩
 · exact absurd ag G
 · exact (dT.1 A).1
def Rq (w':World) (B:Nat) (F:aX) (v:Value):Prop := ∃ B1 fb V,B≤B1∧v= .tuple #[.pointer (some ⟨fb,0,none⟩),.int .i64 0,.int .i64 0]∧e7 w' B1 0 fb F V∧(∃ seen,pd F [] seen)∧Nx F
def Rp (e:Nat×Nat) (v:Value):Prop :=v= .tuple #[.pointer none,.int .i64 (e.1:Nat),.int .i64 (e.2:Nat)]
theorem pQ {l:List (dd×Value)} {i:Nat} {q:dd×Value} (h:l[i]? =some q):nL l≠[]:=fun h2=>by
 have h3:(nL l).length=l.length*8:=mV (f:=kh) (m:=8) (fun _=>rfl) _;have h4:=(fS.1 h).1;rw [h2] at h3;have h5:0=l.length*8:=h3;omega
def mN (s:Tx) (w:World) (v:Value) (w':World):Prop :=(match ga s with | .ok F=>Rq w' w.heap.size F v | .error e=>Rp e v)∧Wk w w'
theorem mN.no {s:Tx} {w w':World} {l e:Nat} (h:ga s= .error (l,e)) (hm:Wk w w'):mN s w (.tuple #[.pointer none,.int .i64 (l:Nat),.int .i64 (e:Nat)]) w':=by
 unfold mN; rw [h]; exact ⟨rfl,hm⟩
theorem abD (s:Tx) (w:World) (hs:s.length≤1048576):
 bw aE 55 (bl [str s]) w (mN s w):=by
 refine enter func55 ag ntmps55 ag<|ak fun dh=>p aJ<|p aJ<|az<|dh<|aH fun di=>rg ag<|aw (str s)<|e<|cl zt (Ob s _ hs) ag ?_;rintro v20 eS ⟨⟨a20,rfl,cN⟩,hE20⟩;refine p mv<|p (xt ag ag)<|p (xt ag ag)<|p aJ<|az<|di<|aH fun dj=>ak fun dk=>p mv<|p (dw ag ag)<|nl<|dk<|cd ag (fun cm=> ?_) fun cm=> ?_;have cJ:65536 < s.length:=yC fun h=>cm<|by rw [if_neg h]
 refine ak fun b3=>p mv<|p aJ<|p aJ<|az<|b3<|rt<|tr<|f3 ag ag ag ag ?_;have h:=mN.no (HL cJ) hE20;show mN s w (.tuple #[.pointer none,.int .i64 0,.int .i64 (if 65536 < s.length then 10 else 0)]) eS;rw [if_pos cJ];exact h;have ax:¬65536 < s.length:=fun h=>cm<|by rw [if_pos h]; decide
 rw [if_neg ax] at cN;obtain ⟨vs,cZ,eF⟩:=cN;obtain ⟨ar,cr,rfl⟩:=cM cZ;refine aT<|dj<|ak fun b3=>aw (str s)<|e<|cl Dd (FM s _ hs) ag ?_;rintro fl I ⟨eD,b5⟩;obtain ⟨fk,eW,rfl⟩:=cM eD;have an:=hE20.trans b5;have e5:=pS s;have e9:=AW s;refine az<|b3<|ak fun dl=>p (dt (ps:= [(0,.int .i64 1),(4,.int .i64 3)]) (L:= [.int .i64 1,.string ⟨⟨[]⟩⟩,.string ⟨⟨[]⟩⟩,.int .i64 0,.int .i64 0,.int .i64 0,.int .i64 0,.int .i64 0,.int .i64 3,.slice none 0 0,.slice none 0 0,.slice none 0 0,.slice none 0 0]) ac2 ag<|ag)<|e<|oB ag fun C fu e1 cD dG=> ?_;have ff:=cD.size;refine p mv<|p mv<|p (bN ee ag ag)<|p (bJ (((bU s).length+1:Nat):Int) ag ag<|bp aj aj)<|p (dt (ps:= [(0,a6 C),(1,.slice ar (cx s).length cr),(3,ay ((bU s).length+1))]) (L:= [a6 C,.slice ar (cx s).length cr,.int .i64 0,ay ((bU s).length+1),.slice none 0 0,.int .i64 0]) ac8 ag<|ag)<|e<|oB ag fun A bC e2 ca dI=> ?_;have fg:=ca.size;have dM:Wk I bC:=cD.md.trans ca.md;have cB:GS I (⟨A,C,(bU s).length+1,.slice ar (cx s).length cr,vs,cx s⟩:gT):=⟨w.heap.size,(Tg.kj cZ).wk b5,eF.wk b5,by show (cx s).length≤70000; omega⟩
 have dN:e7 bC I.heap.size 0 C jb ⟨.slice none 0 0,.slice none 0 0,.slice none 0 0,.slice none 0 0,[],[]⟩:=⟨Wk.aW ca.md dG,dC _ _ _ _,dC _ _ _ _,jl.nil _ _ _,dC _ _ _ _,dC _ _ _ _,jl.nil _ _ _,aj,rfl⟩
 have d0:iZ bC I.heap.size (⟨A,C,(bU s).length+1,.slice ar (cx s).length cr,vs,cx s⟩:gT) 0 0 [] (.slice none 0 0):=⟨dI,dC _ _ _ _,by show I.heap.size≤A; omega⟩
 have d4:nv I bC (⟨A,C,(bU s).length+1,.slice ar (cx s).length cr,vs,cx s⟩:gT) jb 0 0 []:=⟨_,_,dN,d0,⟨by show 0 +0 +0 +0 +(cx s).length≤70000; omega,by show 0 +(cx s).length≤70000; omega,fun q aq=>by have h:=AX (show q∈cx s from aq); exact ⟨h.2.2.1,aj,fun x eO=>by have :=(h.2.2.2.2 x eO).2; omega⟩,.inl rfl⟩,dM,iK _⟩
 have ex:Nx jb:=⟨fun l co=>(by cases co),fun l co=>by cases co⟩
 refine az<|dl<|aH fun dn=>aW<|lp (fun am dc aK=> ∃ (bB:Nat) (F:aX) (k ln:Nat) (seen:List Tx),(iH (⟨A,C,(bU s).length+1,.slice ar (cx s).length cr,vs,cx s⟩:gT).eof bB F seen ((cx s).drop k)=iH ((bU s).length+1) (cx s).length jb [] (cx s))∧(((cx s).drop k).length≤bB)∧(nv I aK (⟨A,C,(bU s).length+1,.slice ar (cx s).length cr,vs,cx s⟩:gT) F k ln seen)∧(Nx F)∧(Sl dc [(5,.slice ar (cx s).length cr),(8,a6 A)])∧(((cx s).drop k).length=am)) _ ⟨(cx s).length,jb,0,0,[],ag,(cU _),d4,ex,ag,ag⟩ ?_;rintro am dc aK ⟨bB,F,k,ln,seen,aa,aG,G,cp,eG,rfl⟩;refine bH eG ?_;obtain ⟨V,vh,ao,ac,J,bb,cS⟩:=G;have cS:k≤(cx s).length:=cS;refine aH fun dp=>ak fun dq=>aw (a6 A)<|p (nc ag)<|p (fa qn ag)<|p (ld bL ag<|(bo ac.cells).trans ag)<|aw (.slice ar (cx s).length cr)<|p (bN Bw ag ag)<|p (lt ag ag)<|nl<|dq<|cd ag (fun el=> ?_) fun el=> ?_;obtain ⟨n,r,aO,ba,dr,dv,aF,eL,aS,bA,⟨dg,ce⟩,c2⟩:=cB.get bb (k:=k)<|by show k < (cx s).length; omega
 have c3:cg ar (cx s).length cr= .slice dr (cx s).length dv:=eL;simp only [Value.slice.injEq,true_and] at c3;obtain ⟨rfl,rfl⟩:=c3;have aS:aR aK.heap ar (lr vs):=aS;have bA:vs[k]? =some (n,.slice aO r.length ba):=bA;have c2:vs.length=(cx s).length:=c2;have aF:(cx s).drop k=(n,r)::(cx s).drop (k+1):=aF;have J:pd F ((cx s).drop k) seen:=J;rw [aF] at aa aG J;have c0:=J.row (n,r)<|o6 ..;have e8:0 < r.length:=mr.2 c0.1;have d9:=J.len;have ec:=J.sl;simp only [db] at d9 ec aG;have dA:=pd.q8 J;have aZ:∀ w,Wk I w→cw w.heap aO r:=fun w h=>(ce.wk h).du.2;refine aT<|dp<|aW<|ak fun bF=>aw (.slice ar (cx s).length cr)<|aw (a6 A)<|p (nc ag)<|p (fa qn ag)<|p (ld bL ag<|(bo ac.cells).trans ag)<|p (bh pL ag ag aj<|aR.ok (aS)<|mG aj)<|p (fa xK ag)<|p (ld ky ag<|mH aS bA 1 aM)<|az<|bF<|ak fun bK=>aw (a6 A)<|aw (.slice ar (cx s).length cr)<|aw (a6 A)<|p (nc ag)<|p (fa qn ag)<|p (ld bL ag<|(bo ac.cells).trans ag)<|p (bh pL ag ag aj<|aR.ok (aS)<|mG aj)<|p (fa vm ag)<|p (ld bL ag<|mH aS bA 0 aM)<|p (nc ag)<|p (fa rj ag)<|e<|dB hZ ag ag (v:=ay n) ag ac.cells (by show _ < 6; omega) fun eT b8 dJ=> ?_;have bq:=ac.ea (k':=k) (ln':=n) b8 dJ;have dV:=ao.rb ac b8;have d8:Wk I eT:=bb.trans' b8 fun q aq h=>by have :=ac.lo; omega
 refine nl<|bK<|ak fun bO=>aw (a6 A)<|aw (a6 A)<|p (nc ag)<|p (fa qn ag)<|p (ld bL ag<|(bo bq.cells).trans ag)<|p (bJ ((k+1:Nat):Int) ag ag<|bp aj aj)<|p (nc ag)<|p (fa qn ag)<|e<|dB hZ ag ag (v:=ay<|k+1) ag bq.cells (by show _ < 6; omega) fun c8 b9 dL=> ?_;have d2:=bq.ea (k':=k+1) (ln':=n) b9 dL;have dW:=dV.rb bq b9;have ci:Wk I c8:=d8.trans' b9 fun q aq h=>by have :=ac.lo; omega
 refine nl<|bO<|ak fun bX=>p mv<|p (bh cE ag ag aj<|aR.ok (aZ _ ci)<|bY aj)<|p (ld bW ag<|cw.get (i:=0) (aZ _ ci) aj)<|e<|cl Ur (YD (r.getD 0 []) c8) ag ?_;rintro fo aI ⟨rfl,b6⟩;have a0:=ci.trans b6;have bf:=d2.wk b6;have dU:=dW.wk b6;refine az<|bX<|aH fun bZ=>ak fun a3=>p mv<|p (bT ag ag)<|nl<|a3<|cd ag (fun em=> ?_) fun em=> ?_;have aB:width (r.getD 0 [])=0:=aj;refine aH fun a4=> ?_;have ae:(fun w'=>Wk aI w') aI.drew:=(Md.refl _ _).drew;exact cj (fun w'=>Wk aI w') ag wide ae<|bQ 0 ag (a6 A) ae<|aU 1 ag (nc ag) ae<|aU 2 ag (fa rj ag) ae<|bS 3 ag (fun w' G=>ld bL ag<|Wk.a7 G<|(bo bf.cells).trans ag) ae<|aU 4 ag (aJ) ae<|aU 5 ag (aJ) ae<|aU 6 ag (aJ) ae<|hn au<|a4<|rt<|tr<|br<|tr<|br<|tr<|f3 ag ag ag ag<|mN.no (qf ax<|NY aa aG aB)<|an.trans<|a0.trans ae;have aB:width (r.getD 0 [])≠0:=aj;refine aT<|bZ<|aH fun a4=>ak fun b0=>p mv<|p (bN ee ag ag)<|p mv<|p (dw ag ag)<|nl<|b0<|cd ag (fun en=> ?_) fun en=> ?_;refine aH fun a5=> ?_;have ah:(fun w'=>Wk aI w') aI.drew:=(Md.refl _ _).drew;exact cj (fun w'=>Wk aI w') ag wide ah<|bQ 0 ag (a6 A) ah<|aU 1 ag (nc ag) ah<|aU 2 ag (fa rj ag) ah<|bS 3 ag (fun w' G=>ld bL ag<|Wk.a7 G<|(bo bf.cells).trans ag) ah<|aU 4 ag (aJ) ah<|aU 5 ag (aJ) ah<|aU 6 ag (aJ) ah<|hn au<|a5<|rt<|tr<|br<|tr<|br<|tr<|f3 ag ag ag ag<|mN.no (qf ax<|NZ aa aG aB aj)<|an.trans<|a0.trans ah;have h1:r.length=width (r.getD 0 []):=aj;refine aT<|a4<|ak fun a5=>aw (a6 A)<|p mv<|p (bh cE ag ag aj<|aR.ok (aZ _ a0)<|bY aj)<|p (ld bW ag<|cw.get (i:=0) (aZ _ a0) aj)<|e<|cl De (Ew I.heap.size (⟨A,C,(bU s).length+1,.slice ar (cx s).length cr,vs,cx s⟩:gT) (k+1) n seen vh (r.getD 0 []) aI bf aj) ag ?_;rintro fq bE ⟨rfl,eN⟩;subst eN;refine az<|a5 ?_;refine ez (fun dd cv=>(width (r.getD 0 [])=2→r.getD 0 []∉seen)∧(cv=bE)∧(Sl dd [(5,.slice ar (cx s).length cr),(8,a6 A),(9,.slice aO r.length ba)])) ?_ ?_;refine ak fun aA=>p mv<|p (bT ag ag)<|p mv<|gs (t:=95) ag (fun ep=> ?_) fun ep=> ?_;refine aV ag mv<|p (bI ag)<|nl<|aA<|cb ag (fun cn=> ?_) fun cn=> ?_;refine aH fun a8=> ?_;have ai:(fun w'=>Wk bE w') bE.drew:=(Md.refl _ _).drew;exact cj (fun w'=>Wk bE w') ag wide ai<|bQ 0 ag (a6 A) ai<|aU 1 ag (nc ag) ai<|aU 2 ag (fa rj ag) ai<|bS 3 ag (fun w' G=>ld bL ag<|Wk.a7 G<|(bo bf.cells).trans ag) ai<|aU 4 ag (aJ) ai<|aU 5 ag (aJ) ai<|aU 6 ag (aJ) ai<|hn au<|a8<|rt<|tr<|br<|tr<|br<|tr<|f3 ag ag ag ag<|mN.no (qf ax<|FI aa aG aB h1 aj<|of_decide_eq_true cn)<|an.trans<|a0.trans ai;exact aT<|tn<|⟨(fun _=>of_decide_eq_false cn),ag,ag⟩
 exact aQ ag<|p (bD ag)<|nl<|aA<|cf ag<|aT<|tn<|⟨(fun h=>absurd h aj),ag,ag⟩
 rintro dd cv ⟨cX,eM,eH⟩;refine bH eH ?_;subst eM;refine ak fun aA=>aw (a6 A)<|aw (.slice aO r.length ba)<|e<|cl Us (Yr I (⟨A,C,(bU s).length+1,.slice ar (cx s).length cr,vs,cx s⟩:gT) F (k+1) n seen r dg aO ba cv cB ⟨V,vh,dU,bf,dA,a0,by show k+1≤(cx s).length; omega⟩ ce c0.2.2 (by show _+((cx s).drop<|k+1).length < 70000; omega) h1 aB) ag ?_;rintro eR ab ⟨es,d6⟩;obtain ⟨eX,rfl,cP⟩:∃ e:Nat,eR=ay e∧((e=0∧∃ F' k' ln',cW (⟨A,C,(bU s).length+1,.slice ar (cx s).length cr,vs,cx s⟩:gT).eof F seen ((cx s).drop<|k+1) n r= .ok (F',(cx s).drop k')∧nv I ab (⟨A,C,(bU s).length+1,.slice ar (cx s).length cr,vs,cx s⟩:gT) F' k' ln' seen)∨(e≠0∧∃ l:Nat,cW (⟨A,C,(bU s).length+1,.slice ar (cx s).length cr,vs,cx s⟩:gT).eof F seen ((cx s).drop<|k+1) n r= .error (l,e)∧Hb.a7 ab.heap A 5=some (ay l))):=by
  rcases es with ⟨F',k',ln',h1,h2,h3⟩ | ⟨l,e,h1,h2,h3,h4⟩;exact ⟨0,h2,.inl ⟨ag,F',k',ln',h1,h3⟩⟩;exact ⟨e,h3,.inr ⟨h2,l,h1,h4⟩⟩
 refine az<|aA<|aH fun a8=>ak fun b1=>p mv<|p (dw ag ag)<|nl<|b1<|cd ag (fun ed=> ?_) fun ed=> ?_;obtain ⟨cT,fh,er,ev⟩:=cP.resolve_left fun h=>by omega
 refine aH fun a9=> ?_;have Z:(fun w'=>Wk ab w') ab.drew:=(Md.refl _ _).drew;exact cj (fun w'=>Wk ab w') ag wide Z<|bQ 0 ag (a6 A) Z<|aU 1 ag (nc ag) Z<|aU 2 ag (fa rj ag) Z<|bS 3 ag (fun w' G=>ld bL ag<|Wk.a7 G<|ev) Z<|aU 4 ag (mv) Z<|aU 5 ag (aJ) Z<|aU 6 ag (aJ) Z<|aU 7 ag (aJ) Z<|hn au<|a9<|rt<|tr<|br<|tr<|br<|tr<|f3 ag ag ag ag<|mN.no (qf ax<|FJ aa aG aB h1 cX er)<|an.trans<|d6.trans Z;obtain ⟨_,F',k',ln',bt,d3⟩:=cP.resolve_right fun h=>by omega
 have cI:=FK aa aG aB h1 cX bt;obtain ⟨V2,fr,dO,aD,b4,bs,eu⟩:=d3;obtain ⟨aN,aP,rfl⟩:=cM aD.hd;have ew:¬((cg aN seen.length aP).ownBlock=some A):=eh aD.hd aD.cells aM;refine aT<|a8 ?_;have Y:(fun w'=>Md (fun q=>(cg aN seen.length aP).ownBlock=some q) ab w') ab.drew:=(Md.refl _ _).drew;refine fj (fun w'=>Md (fun q=>(cg aN seen.length aP).ownBlock=some q) ab w') 12 ag wide Y<|bM 0 ag (a6 A) Y<|bM 1 ag (a6 A) Y<|bR 2 ag (nc ag) Y<|bR 3 ag (fa ri ag) Y<|ej 4 ag (fun w' G=>ld ky ag<|Md.a7 G ((bo aD.cells).trans ag) ew) Y<|bM 5 ag (.slice aO r.length ba) Y<|bR 6 ag (bh cE ag ag aj<|aR.ok (aZ _ bs)<|bY aj) Y<|ej 7 ag (fun w' G=>ld bW ag<|cw.get (i:=0) (aR.md (aZ _ bs) G fun cT h=>by have h1:=Tg.blt ce cT; have h2:=(dK aD.hd h).1; omega) aj) Y<|ic 8 ag au<|fU eY ag ag fun eU c5 eZ dY dE=> ?_;have bd:=jk dY.md;have aY:=aD.wk bd;have cF:(fun w'=>Md (fun q=>(cg aN seen.length aP).ownBlock=some q) ab w') c5:=Md.mono bd fun _ _ h=>h.elim;refine ⟨cF,?_⟩;refine ic 9 ag au<|ap eY (aY.hd) ag (by have :=bs.size; have :=bd.size; omega) ag (aR.dZ dE) (ag) (ag) aj aj fun c4 c6 cY bm fc e4=> ?_;have cK:=bm.aW aY.cells<|eh aY.hd aY.cells aM;have eA:=nU cY;have cc:(fun w'=>Md (fun q=>(cg aN seen.length aP).ownBlock=some q) ab w') c6:=cF.trans' bm fun _ _ h=>h;refine ⟨cc,?_⟩;refine bR 10 ag (nc ag) cc<|bR 11 ag (fa ri ag) cc<|eb 12 ag au au<|dB JR ag ag (v:=c4) (fG cY) cK (by show _ < 6; omega) fun cu b7 dD=> ?_;have dP:=dO.wk bd;have d5:TF c5 [11] (fun q=>(cg aN seen.length aP).ownBlock=some q):=TF.own aY.hd aM;have dQ:=dP.md bm d5 aM;have cG:TF c6 [210] (fun q=>q=A):=TF.eq (dS cK) aM;have dT:=dQ.md b7 cG aM;have d1:iZ cu I.heap.size (⟨A,C,(bU s).length+1,.slice ar (cx s).length cr,vs,cx s⟩:gT) k' ln' (seen++ [r.getD 0 []]) c4:=⟨dD,c7 eA b7 cG aM,aD.lo⟩
 have d7:Wk I cu:=((bs.trans bd).trans' bm fun q aq h=>by have :=(dK aY.hd h).1; omega).trans' b7 fun q aq h=>by omega
 have fb:=sx bt;have Y:nv I cu (⟨A,C,(bU s).length+1,.slice ar (cx s).length cr,vs,cx s⟩:gT) F' k' ln' (seen++ [r.getD 0 []]):=⟨_,_,dT,d1,⟨b4.len,by rw [bP,fE]; show seen.length+1 +((cx s).drop k').length≤70000; omega,b4.row,b4.kd⟩,d7,eu⟩
 have ey:=Ar cp bt;exact fi au<|bn<|tn<|⟨_,by rw [aF]; have :=sx bt; simp only [db]; omega,bB - 1,F',k',ln',seen++ [r.getD 0 []],cI.1,cI.2,Y,ey,ag,ag⟩
 have aF:(cx s).drop k= []:=iS aj;rw [aF,yc] at aa;refine ext<|bj<|bj<|be<|dn<|ak fun bF=>aw (a6 A)<|p (nc ag)<|p (fa mD ag)<|p (ld jc ag<|(bo ac.cells).trans ag)<|az<|bF<|aH fun bK=>aH fun bO=>rg ag<|az<|bO<|aW ?_;obtain ⟨a12,dx,c1⟩:=cM ao.dR;have a1:=ao.dR;rw [c1] at a1;have bu:Hb.a7 aK.heap C 12=some (.slice a12 F.rules.length dx):=by rw [← c1]; exact (bo ao.cells).trans rfl
 have e3:=J.len;refine lp (fun am de c9=> ∃ (i:Nat),(i≤F.rules.length)∧(∀ j q,j < i→F.rules[j]? =some q→po F q=false)∧(Wk aK c9)∧(Sl de [(12,a6 C),(13,ay i)])∧(F.rules.length - i=am)) _ ⟨0,aj,(fun j q cQ=>by omega),(Md.refl _ _),ag,ag⟩ ?_;rintro am de c9 ⟨i,hi,bx,bk,eI,rfl⟩;refine bH eI<|aH fun bX=>aH fun bZ=> ?_;have ef:=Wk.a7 bk bu;refine rg ag<|aw (ay i)<|aw (a6 C)<|p (nc ag)<|p (fa kq ag)<|p (ld kM ag<|ef)<|p (bN vP ag ag)<|p (lt ag ag)<|nl<|bZ<|cd ag (fun eg=> ?_) fun eg=> ?_;refine aT<|bX<|aH fun a3=>aW<|aH fun a4=> ?_;have cO:i < F.rules.length:=aj;obtain ⟨vn,eK,ch⟩:=jl.get ao.nx (i:=i)<|by rw [fH]; exact cO
 obtain ⟨q,a2⟩:∃ q,F.rules[i]? =some q:=⟨_,cz cO⟩
 have eE:(F.rules.map (·.next)).getD i []=q.next:=by rw [da,gi,a2]; rfl
 rw [eE] at ch;have e6:=cp.2 q<|gL a2;obtain ⟨ds,dz,rfl⟩:=ch.slice;have av:(F.rules.zip V.rn)[i]? =some (q,.slice ds q.next.length dz):=by rw [j9]; exact ⟨a2,eK⟩
 refine rg ag<|az<|a4<|aW<|lp (fun am df cy=> ∃ (j:Nat),(j≤q.next.length)∧(∀ bi,bi < j→nS F (q.next.getD bi 0)=true)∧(Wk aK cy)∧(Sl df [(12,a6 C),(13,ay i),(14,ay j)])∧(q.next.length - j=am)) _ ⟨0,aj,(fun bi et=>by omega),bk,ag,ag⟩ ?_;rintro am df cy ⟨j,cQ,cq,aC,eJ,rfl⟩;refine bH eJ<|aH fun b0=>aH fun a5=> ?_;have cL:=Wk.a7 aC bu;have bz:=bc a1 aC;refine rg ag<|aw (ay j)<|aw (a6 C)<|p (nc ag)<|p (fa kq ag)<|p (ld kM ag<|cL)<|aw (ay i)<|p (bh pK ag ag aj<|aR.ok ((bg bz).2)<|pQ av)<|p (fa xM ag)<|p (ld qY ag<|fO (f:=kh) (m:=8) (fun _=>rfl) (bg bz).2 av 6 aM)<|p (bN mI ag ag)<|p (lt ag ag)<|nl<|a5<|cd ag (fun ei=> ?_) fun ei=> ?_;refine aT<|b0<|aH fun aA=>aW<|aH fun a8=> ?_;have cH:=ch.wk aC;have eP:(q.next.map bV)[j]? =some (bV<|q.next.getD j 0):=by rw [gi,da,cz (by omega :j < q.next.length)]; rfl
 refine rg ag<|aw (a6 C)<|p (nc ag)<|p (fa kq ag)<|p (ld kM ag<|cL)<|aw (ay i)<|p (bh pK ag ag aj<|aR.ok ((bg bz).2)<|pQ av)<|p (fa xM ag)<|p (ld qY ag<|fO (f:=kh) (m:=8) (fun _=>rfl) (bg bz).2 av 6 aM)<|aw (ay j)<|p (bh kp ag ag aj<|aR.ok (cH.du.2)<|bY aj)<|p (ld bL ag<|aR.gQ cH.du.2 eP)<|az<|a8<|aH fun b1=>rg ag<|aw (a6 C)<|p mv<|e<|cl Df (El I.heap.size 0 C F V (q.next.getD j 0) cy (ao.wk aC) aj) ag ?_;rintro v164 ft ⟨rfl,cA⟩;have fe:=cA.size;refine p mv<|p (xt ag ag)<|p (xt ag ag)<|e<|al ub fun eV fs e0 cC dF=>e<|dy sc ag ag ag ag (dF) (by simp) fun aL dX dH=> ?_;have O:Wk aK aL:=(aC.trans<|cA.trans cC.md).trans' dX fun q aq h=>by have :=aC.size; omega
 have fd:=cC.size;refine az<|b1<|ak fun a9=>p mv<|aw (a6 C)<|p (nc ag)<|p (fa vj ag)<|p (kT uM ag ag aj)<|p (ld bL ag<|(bo (ao.wk O).cells).trans ag)<|p (dw ag ag)<|p mv<|gs (t:=174) ag (fun eo=> ?_) fun eo=> ?_;refine aV ag mv<|aV ag (no ag)<|aV ag mv<|gb (t:=177) ag (fun bv=> ?_) fun bv=> ?_;refine aQ ag<|aQ ag<|aQ ag<|aV ag (bI ag)<|p (bI ag)<|nl<|a9<|ct ag<|aH fun b2=> ?_;have E:(fun w'=>Wk aL w') aL.drew:=(Md.refl _ _).drew;refine cj (fun w'=>Wk aL w') ag wide E<|bQ 0 ag (a6 C) E<|aU 1 ag (nc ag) E<|aU 2 ag (fa kq ag) E<|bS 3 ag (fun w' G=>ld kM ag<|Wk.a7 G<|Wk.a7 O bu) E<|bQ 4 ag (ay i) E<|aU 5 ag (bh pK ag ag aj<|aR.ok ((bg<|bc a1 O).2)<|pQ av) E<|aU 6 ag (fa LA ag) E<|bS 7 ag (fun w' G=>ld bL ag<|Wk.a7 G<|fO (f:=kh) (m:=8) (fun _=>rfl) (bg<|bc a1 O).2 av 7 aM) E<|aU 8 ag (aJ) E<|aU 9 ag (aJ) E<|aU 10 ag (aJ) E<|hn au<|b2<|rt<|br<|tr<|tr<|br<|br<|tr<|tr<|br<|tr<|f3 ag ag ag ag ?_;have ck:ga s= .error (q.line,118):=Cm ax aa.symm<|sn bx a2<|r6 (j:=j) aj<|AQ aj<|by simpa using bv
 exact mN.no ck<|an.trans<|bb.trans<|O.trans E;refine aV ag (fa Ah ag)<|aV ag (ld bL ag<|(dH.a7 1).trans ag)<|aV ag (dw ag ag)<|aV ag (bD ag)<|p (bI ag)<|nl<|a9<|cd ag (fun ek=> ?_) fun ek=> ?_;refine aH fun b2=> ?_;have E:(fun w'=>Wk aL w') aL.drew:=(Md.refl _ _).drew;refine cj (fun w'=>Wk aL w') ag wide E<|bQ 0 ag (a6 C) E<|aU 1 ag (nc ag) E<|aU 2 ag (fa kq ag) E<|bS 3 ag (fun w' G=>ld kM ag<|Wk.a7 G<|Wk.a7 O bu) E<|bQ 4 ag (ay i) E<|aU 5 ag (bh pK ag ag aj<|aR.ok ((bg<|bc a1 O).2)<|pQ av) E<|aU 6 ag (fa LA ag) E<|bS 7 ag (fun w' G=>ld bL ag<|Wk.a7 G<|fO (f:=kh) (m:=8) (fun _=>rfl) (bg<|bc a1 O).2 av 7 aM) E<|aU 8 ag (aJ) E<|aU 9 ag (aJ) E<|aU 10 ag (aJ) E<|hn au<|b2<|rt<|br<|tr<|tr<|br<|br<|tr<|tr<|br<|tr<|f3 ag ag ag ag ?_;have ck:ga s= .error (q.line,118):=Cm ax aa.symm<|sn bx a2<|r6 (j:=j) aj<|AP aj (by simpa using bv)<|by show ((eB F.bG<|q.next.getD j 0).getD pE).kind≠2; omega
 exact mN.no ck<|an.trans<|bb.trans<|O.trans E;exact aT<|bn<|aA<|rg ag<|aw (ay j)<|p (ad ag ag<|cR aj)<|p aJ<|nl<|tn<|⟨_,aj,j+1,aj,(fun k hk=>by rcases fT k j with h | h <;> first | exact cq k h | (rw [show k=j by omega]; exact ND (by simpa using bv)<|by show ((eB F.bG<|q.next.getD j 0).getD pE).kind=2; omega)),O,ag,ag⟩
 exact aQ ag<|aQ ag<|aQ ag<|eC ag<|eC ag<|eC ag<|aQ ag<|p (bD ag)<|nl<|a9<|cf ag<|aT<|bn<|aA<|rg ag<|aw (ay j)<|p (ad ag ag<|cR aj)<|p aJ<|nl<|tn<|⟨_,aj,j+1,aj,(fun k hk=>by rcases fT k j with h | h <;> first | exact cq k h | (rw [show k=j by omega]; exact NC aj)),O,ag,ag⟩
 exact ext<|bj<|bj<|be<|bn<|a3<|rg ag<|aw (ay i)<|p (ad ag ag<|cR aj)<|p aJ<|nl<|tn<|⟨_,aj,i+1,aj,(fun k eQ hk cs=>by rcases fT k i with h | h <;> first | exact bx k eQ h cs | (rw [show k=i by omega,a2] at cs; cases cs; exact H8 fun bi et=>cq bi aj)),aC,ag,ag⟩
 refine ext<|bj<|bj<|be<|bK<|ak fun a3=>aw (a6 C)<|p (cV (a6 C) ag)<|p aJ<|az<|a3<|rt<|f3 ag ag ag ag ?_;unfold mN;rw [HN ax aa.symm (KR fun j q cQ aq=>bx j q aj aq)];exact ⟨⟨I.heap.size,C,V,by have :=an.size; omega,ag,ao.wk bk,⟨seen,by have J:=J; rw [show (gT.rows (⟨A,C,(bU s).length+1,.slice ar (cx s).length cr,vs,cx s⟩:gT)).drop k= [] from aF] at J; exact J⟩,cp⟩,an.trans<|bb.trans bk⟩
end Go.Hb.k5
end
section
namespace Go.Hb.jK
open Go.Hb.k5
def Rj (w':World) (X:Except Nat bE) (v:Value):Prop :=(∃ x a,X= .ok x∧v= .tuple #[.agg [str x.1,a].toArray,.int .i64 (0:Nat)]∧a.oneCell'=true∧Tg w' 0 3 x.2.length a (x.2.map bV))∨(∃ e,X= .error e∧e≠0∧v= .tuple #[.agg [str [],.slice none 0 0].toArray,.int .i64 (e:Nat)])
theorem tW (w:World) (B e:Nat):Tg w B e 0 (.slice none 0 0) []:=Tg.kj (size:=1)<|dC _ _ _ _
def ow (w:World) (B:Nat) (v:Value) (xs:List bE):Prop := ∃ vs,bB w B 87 2 v xs.length (kP<|xs.zip vs)∧jl w 0 3 vs (xs.map (·.2))
theorem ow.md {G:Nat→Prop} {w w':World} {B:Nat} {v:Value} {xs:List bE} (h:ow w B v xs) (hm:Md G w w') {L:List Nat} (C:TF w L G) (A:(L.contains 89 || L.contains 5)=false):ow w' B v xs:=by
 simp only [oY] at A;obtain ⟨vs,h1,h2⟩:=h;exact ⟨vs,c7 h1 hm C A.1,h2.md hm fun k hk cur z E=>C.no (dS E) A.2 hk⟩
theorem ow.wk {w w':World} {B:Nat} {v:Value} {xs:List bE} (h:ow w B v xs) (hm:Wk w w'):ow w' B v xs:=h.md (L:= []) hm (fun _ hk=>hk.elim) rfl
def mu (F:aX) (t:Tx) (w:World) (v:Value) (w':World):Prop :=(match fV F t with | .ok xs=> ∃ a,v= .tuple #[a,.int .i64 0,.int .i64 0]∧ow w' w.heap.size a xs | .error e=>v= .tuple #[.slice none 0 0,.int .i64 (e.1:Nat),.int .i64 (e.2:Nat)])∧Wk w w'
theorem mu.no {F:aX} {t:Tx} {w w':World} {l e:Nat} (h:fV F t= .error (l,e)) (hm:Wk w w'):mu F t w (.tuple #[.slice none 0 0,.int .i64 (l:Nat),.int .i64 (e:Nat)]) w':=by
 unfold mu; rw [h]; exact ⟨rfl,hm⟩
theorem Yv (B fb:Nat) (F:aX) (V:eM) (x:Nat) (w:World) (E:e7 w B 0 fb F V) (av:F.bG.length≤70000):
 bw aE 160 (bl [a6 fb,bV x]) w (fun v w'=>v= .bool (e8 F x)∧Wk w w'):=by
 have aD:=E.gG;refine enter func160 ag ntmps160 ag<|ak fun ab=>az<|ab<|aH fun ac=>ak fun ae=>az<|ae<|aW<|lp (fun I aa G=> ∃ (i:Nat),(i≤5)∧(∀ j,j < i→F.sp.getD j 0≠x)∧(G=w)∧(Sl aa [(0,a6 fb),(1,bV x),(5,ay i)])∧(5 - i=I)) _ ⟨0,aj,(fun j Y=>by omega),ag,ag,ag⟩ ?_;rintro I aa G ⟨i,hi,Z,ao,ax,rfl⟩;refine bH ax ?_;subst ao;refine aH fun ah=>ak fun ai=>aw (ay i)<|p (lt ag ag)<|nl<|ai<|cd ag (fun au=> ?_) fun au=> ?_;refine aT<|ah<|aH fun A=>aW<|ak fun C=>aw (a6 fb)<|aw (ay i)<|p (nc ag)<|p (fa vj ag)<|p (kT uM ag ag aj)<|p (ld bL ag<|(bo E.cells).trans<|LS (i:=i) aj)<|aw (bV x)<|p (bT ag ag)<|nl<|C<|cd ag (fun O=> ?_) fun O=> ?_;exact ak fun am=>az<|am<|rt<|br<|tr<|tr<|br<|tr<|ba ag<|⟨by rw [J0 (show x∈F.sp from by obtain rfl :F.sp.getD i 0=x:=aj; exact ek aj)]; rfl,Md.refl _ _⟩
 exact aT<|bn<|A<|rg ag<|aw (ay i)<|p (ad ag ag<|cR aj)<|p aJ<|nl<|tn<|⟨_,aj,i+1,aj,(fun j Y=>by rcases fT j i with h | h <;> first | exact Z j h | (rw [show j=i by omega]; exact fun h2=>O<|by rw [h2])),ag,ag,ag⟩
 refine ext<|bj<|bj<|be<|ac<|ak fun A=>aw (a6 fb)<|aw (bV x)<|e<|cl Df (El B 0 fb F V x G E av) ag ?_;rintro v23 aG ⟨rfl,J⟩;have aF:=J.size;exact p mv<|p (xt ag ag)<|p (xt ag ag)<|e<|al ub fun aA aI aC aq an=>e<|dy sc ag ag ag ag (an) (by simp) fun aK ap aB=>az<|A<|ak fun C=>p mv<|az<|C<|rt<|ba ag<|⟨by rw [Ka (vy fun j Y=>Z j aj)]; rfl,(J.trans aq.md).trans' ap fun k hk h=>by omega⟩
theorem Ye (B fb:Nat) (F:aX) (V:eM) (r:List Tx) (bc:Nat) (ar:Option Addr) (cr:Nat) (w:World) (a2:e7 w B 0 fb F V) (bQ:∃ seen,pd F [] seen) (cc:Nx F) (b4:Tg w bc 9 r.length (.slice ar r.length cr) (r.map str)) (ce:∀ x∈r,x.length≤70000) (cq:r.length≤70000):
 bw aE 100 (bl [a6 fb,.slice ar r.length cr]) w (fun v w'=>Rj w' (gF F r) v∧Wk w w'):=by
 obtain ⟨seen,a0⟩:=bQ;have co:=a0.len;have cx:=ua<|r.getD 0 [];refine enter func100 ag ntmps100 ag<|ak fun bd=>e<|hU PR fun aS ba cn ac aZ=> ?_;have cB:=ac.size;have a4:=b4.wk ac.md;have bS:=a2.wk ac.md;have aF:bX ba.heap aS [str [],.slice none 0 0]:=⟨_,aZ⟩
 refine az<|bd<|aH fun bp=>ak fun bv=>aw (.slice ar r.length cr)<|p (bN ee ag ag)<|p (dw ag ag)<|nl<|bv<|cd ag (fun b5=> ?_) fun b5=> ?_;exact ak fun aA=>p (dt (ps:= []) (L:= [.string ⟨⟨[]⟩⟩,.slice none 0 0]) rA ag<|ag)<|e<|dy qj ag ag ag ag (aF) (by simp) fun cM b2 bO=>az<|aA<|rt<|tr<|eV ag (eo (cs:= [str [],.slice none 0 0]) ag qg ag fun j C=>bO.bF j) eI<|⟨.inr ⟨111,Kr aj,aM,ag⟩,ac.md.trans' b2 fun q A h=>by omega⟩
 have J:r.length=1:=aj;have cu:(r.getD 0 []).length≤70000:=ce _<|ek aj;refine aT<|bp<|ak fun aA=>aw (.slice ar r.length cr)<|p (bh cE ag ag aj<|aR.ok (a4.du.2)<|bY aj)<|p (ld bW ag<|cw.get (i:=0) a4.du.2 aj)<|e<|cl zj (A1 (r.getD 0 []) ba aj) ag ?_;rintro v22 ch ⟨rfl,Y⟩;have a1:=ac.md.trans Y;have cy:=Y.size;refine p mv<|p (xt ag ag)<|p (xt ag ag)<|p (xt ag ag)<|p (xt ag ag)<|p aJ<|p aJ<|p aJ<|az<|aA<|aH fun bx=>ak fun bz=>p mv<|p (dw ag ag)<|nl<|bz<|cd ag (fun b6=> ?_) fun b6=> ?_;exact ak fun aB=>p (dt (ps:= []) (L:= [.string ⟨⟨[]⟩⟩,.slice none 0 0]) rA ag<|ag)<|p mv<|e<|dy qj ag ag ag ag (Wk.B Y aF) (by simp) fun cN b3 bP=>az<|aB<|rt<|tr<|eV ag (eo (cs:= [str [],.slice none 0 0]) ag qg ag fun j C=>bP.bF j) eI<|⟨.inr ⟨_,zP J aj,aj,ag⟩,a1.trans' b3 fun q A h=>by omega⟩
 have O:(bK<|r.getD 0 []).2.2.2=0:=aj;refine aT<|bx<|ak fun aB=>p mv<|e<|cl xk (ya (bK<|r.getD 0 []).1 ch aj) ag ?_;rintro v32 ci ⟨rfl,aa⟩;have ab:=a1.trans aa;have ae:=Wk.B (Y.trans aa) aF;have cA:=aa.size;refine az<|aB<|aH fun bA=>ak fun aP=>p mv<|p (c8 u9 ag ag)<|p (bT ag ag)<|p mv<|gs (t:=36) ag (fun a9=> ?_) fun a9=> ?_;have aI:hY (bK<|r.getD 0 []).1=false∨(bK<|r.getD 0 []).1= []:= .inr<|fY aj;exact aQ ag<|aQ ag<|p (bI ag)<|nl<|aP<|ct ag<|ak fun Z=>p (dt (ps:= []) (L:= [.string ⟨⟨[]⟩⟩,.slice none 0 0]) rA ag<|ag)<|e<|dy qj ag ag ag ag (ae) (by simp) fun ck aD aC=>az<|Z<|rt<|tr<|eV ag (eo (cs:= [str [],.slice none 0 0]) ag qg ag fun j C=>aC.bF j) eI<|⟨.inr ⟨21,zQ J O aI,aM,ag⟩,ab.trans' aD fun q A h=>by omega⟩
 refine aV ag mv<|aV ag (no ag)<|p (bD ag)<|nl<|aP<|cb ag (fun aK=> ?_) fun aK=> ?_;have aI:hY (bK<|r.getD 0 []).1=false∨(bK<|r.getD 0 []).1= []:=by
  first
   | exact .inl<|by simpa using aK
   | exact .inr<|fY aj
 exact ak fun Z=>p (dt (ps:= []) (L:= [.string ⟨⟨[]⟩⟩,.slice none 0 0]) rA ag<|ag)<|e<|dy qj ag ag ag ag (ae) (by simp) fun ck aD aC=>az<|Z<|rt<|tr<|eV ag (eo (cs:= [str [],.slice none 0 0]) ag qg ag fun j C=>aC.bF j) eI<|⟨.inr ⟨21,zQ J O aI,aM,ag⟩,ab.trans' aD fun q A h=>by omega⟩
 have am:(bK<|r.getD 0 []).1≠[]:=fun h=>a9<|by rw [h]; rfl
 have ah:hY (bK<|r.getD 0 []).1=true :=by simpa using aK
 refine aT<|bA<|aH fun Z=>ak fun bf=>p mv<|p (c8 u9 ag ag)<|p (gt ag ag)<|nl<|bf<|cd ag (fun b7=> ?_) fun b7=> ?_;exact ak fun aq=>p (dt (ps:= []) (L:= [.string ⟨⟨[]⟩⟩,.slice none 0 0]) rA ag<|ag)<|e<|dy qj ag ag ag ag (ae) (by simp) fun cH bU bC=>az<|aq<|rt<|tr<|eV ag (eo (cs:= [str [],.slice none 0 0]) ag qg ag fun j C=>bC.bF j) eI<|⟨.inr ⟨22,Ks J O ah am aj,aM,ag⟩,ab.trans' bU fun q A h=>by omega⟩
 refine aT<|Z<|aH fun aq=>ak fun bg=>p mv<|p (no ag)<|nl<|bg<|cb ag (fun ai=> ?_) fun ai=> ?_;exact ak fun au=>p mv<|p (dt (ps:= [(0,str (bK<|r.getD 0 []).1)]) (L:= [str (bK<|r.getD 0 []).1,.slice none 0 0]) rA ag<|ag)<|e<|dy qj ag ag ag ag (ae) (by simp) fun cI bZ bE=>az<|au<|rt<|tr<|eV ag (eo (cs:= [str (bK<|r.getD 0 []).1,.slice none 0 0]) ag qg ag fun j C=>bE.bF j) eI<|⟨.inl ⟨_,.slice none 0 0,Kt J O ah am aj (by simpa using ai),ag,ag,tW _ _ _⟩,ab.trans' bZ fun q A h=>by omega⟩
 refine aT<|aq<|ak fun au=>aw (a6 fb)<|p mv<|e<|cl Ix (LQ B fb F V (bK<|r.getD 0 []).2.1 ci (bS.wk<|Y.trans aa).r a0.kd aj aj) ag ?_;rintro cF cj ⟨⟨cm,aU,rfl,cp,a8⟩,hE52⟩;have an:=ab.trans hE52;have aG:=Wk.B hE52 ae;have cC:=hE52.size;refine p mv<|p (xt ag ag)<|p (xt ag ag)<|p aJ<|az<|au<|aH fun bi=>ak fun bk=>p mv<|p (dw ag ag)<|nl<|bk<|cd ag (fun a7=> ?_) fun a7=> ?_;have aN:aU≠0:=fun bB=>a7<|by rw [bB]; rfl
 rcases a8 with ⟨l,h,_⟩ | ⟨ca,al⟩;exact absurd h aN;exact ak fun av=>p (dt (ps:= []) (L:= [.string ⟨⟨[]⟩⟩,.slice none 0 0]) rA ag<|ag)<|p mv<|e<|dy qj ag ag ag ag (aG) (by simp) fun cJ b0 bG=>az<|av<|rt<|tr<|eV ag (eo (cs:= [str [],.slice none 0 0]) ag qg ag fun j C=>bG.bF j) eI<|⟨.inr ⟨_,Ku J O ah am aj (by simpa using ai) al,ca,ag⟩,an.trans' b0 fun q A h=>by omega⟩
 have aN:aU=0:=aj;have b9:=a8.resolve_right fun h=>h.1 aN;obtain ⟨set,_,al,ap⟩:=b9;have cg:=ap.slice;obtain ⟨E,G,A⟩:=cg;subst A;have cv:=zX cc.1 al;refine aT<|bi<|aH fun av=>ak fun bm=>az<|bm<|aW<|lp (fun aY bb aO=> ∃ (j:Nat),(j≤set.length)∧(∀ q,q < j→e8 F (set.getD q 0)=true)∧(Wk cj aO)∧(Sl bb [(0,a6 fb),(4,a6 aS),(6,str (bK<|r.getD 0 []).1),(11,.slice E set.length G),(12,ay j)])∧(set.length - j=aY)) _ ⟨0,aj,(fun q A=>by omega),(Md.refl _ _),ag,ag⟩ ?_;rintro aY bb aO ⟨j,C,a5,I,cf,rfl⟩;refine bH cf<|aH fun bo=>ak fun bq=>aw (ay j)<|aw (.slice E set.length G)<|p (bN mI ag ag)<|p (lt ag ag)<|nl<|bq<|cd ag (fun b8=> ?_) fun b8=> ?_;refine aT<|bo<|aH fun ax=>aW<|ak fun bs=>aw (a6 fb)<|aw (.slice E set.length G)<|aw (ay j)<|p (bh kp ag ag aj<|aR.ok ((ap.wk I).du.2)<|bY aj)<|p (ld bL ag<|aR.gQ (ap.wk I).du.2 (show (set.map bV)[j]? =some (bV<|set.getD j 0) by rw [gi,da,cz (by omega :j < set.length)]; rfl)) ?_;refine e<|cl SS (Yv B fb F V (set.getD j 0) aO (a2.wk<|an.trans I) aj) ag ?_;rintro v70 cG ⟨rfl,bR⟩;have ao:=I.trans bR;have cD:=ao.size;refine az<|bs<|ak fun bt=>p mv<|p (no ag)<|nl<|bt<|cb ag (fun aL=> ?_) fun aL=> ?_;exact ak fun bu=>p (dt (ps:= []) (L:= [.string ⟨⟨[]⟩⟩,.slice none 0 0]) rA ag<|ag)<|e<|dy qj ag ag ag ag (Wk.B ao aG) (by simp) fun cK b1 bJ=>az<|bu<|rt<|br<|tr<|tr<|br<|tr<|eV ag (eo (cs:= [str [],.slice none 0 0]) ag qg ag fun j C=>bJ.bF j) eI<|⟨.inr ⟨120,Kv J O ah am aj (by simpa using ai) al (i:=j) aj (by simpa using aL),aM,ag⟩,(an.trans ao).trans' b1 fun q A h=>by omega⟩
 exact aT<|bn<|ax<|rg ag<|aw (ay j)<|p (ad ag ag<|cR aj)<|p aJ<|nl<|tn<|⟨_,aj,j+1,aj,(fun q A=>by rcases fT q j with h | h <;> first | exact a5 q h | (rw [show q=j by omega]; simpa using aL)),ao,ag,ag⟩
 exact ext<|bj<|bj<|be<|av<|ak fun ax=>aw (str (bK<|r.getD 0 []).1)<|aw (.slice E set.length G)<|p (dt (ps:= [(0,str (bK<|r.getD 0 []).1),(1,.slice E set.length G)]) (L:= [str (bK<|r.getD 0 []).1,.slice E set.length G]) rA ag<|ag)<|e<|dy qj ag ag ag ag (Wk.B I aG) (by simp) fun cL a3 bM=>az<|ax<|rt<|eV ag (eo (cs:= [str (bK<|r.getD 0 []).1,.slice E set.length G]) ag qg ag fun j C=>bM.bF j) eI<|⟨.inl ⟨((bK<|r.getD 0 []).1,set),.slice E set.length G,DD J O ah am aj (by simpa using ai) al (fun j C=>a5 j aj),ag,ag,(ap.wk I).md a3<|gk (Wk.aW ((Y.trans<|aa.trans hE52).trans I) aZ) aM⟩,(an.trans I).trans' a3 fun q A h=>by omega⟩
end Go.Hb.jK
end
section
namespace Go.Hb
open Go.Hb.k5 Go.Hb.jK
theorem Me {r:List Tx} (h:r.length≠1):mi r=(0,111):=if_pos h
theorem YY {r:List Tx} (h:r.length=1):mi r=eE (r.getD 0 []) 8192:=if_neg fun h2=>h2 h
theorem Yc (B fb:Nat) (F:aX) (V:eM) (t:Tx) (w:World) (cD:e7 w B 0 fb F V) (cv:∃ seen,pd F [] seen) (cX:Nx F) (hs:t.length≤1048576):
 bw aE 56 (bl [a6 fb,str t]) w (mu F t w):=by
 refine enter func56 ag ntmps56 ag<|ak fun b6=>p aJ<|p aJ<|az<|b6<|aH fun ce=>rg ag<|aw (str t)<|e<|cl zt (Ob t _ hs) ag ?_;rintro v17 db ⟨⟨a17,rfl,bC⟩,hE17⟩;refine p mv<|p (xt ag ag)<|p (xt ag ag)<|p aJ<|az<|ce<|aH fun ci=>ak fun ck=>p mv<|p (dw ag ag)<|nl<|ck<|cd ag (fun a2=> ?_) fun a2=> ?_;have bv:65536 < t.length:=yC fun h=>a2<|by rw [if_neg h]
 refine ak fun aO=>p mv<|p aJ<|p aJ<|az<|aO<|rt<|tr<|f3 ag ag ag ag ?_;have h:=mu.no (F:=F) (Kg bv) hE17;show mu F t w (.tuple #[.slice none 0 0,.int .i64 0,.int .i64 (if 65536 < t.length then 10 else 0)]) _;rw [if_pos bv];exact h;have am:¬65536 < t.length:=fun h=>a2<|by rw [if_pos h]; decide
 rw [if_neg am] at bC;obtain ⟨vs,b0,a8⟩:=bC;obtain ⟨ar,cr,rfl⟩:=cM b0;have dq:=AW t;have cy:=(bg b0).2;have dr:=a8.1;refine aT<|ci<|ak fun aO=>aw (str t)<|e<|cl Dd (FM t _ hs) ag ?_;rintro v24 ab ⟨cY,aq⟩;obtain ⟨b3,qZ,rfl⟩:=cM cY;have Y:=hE17.trans aq;have dj:=pS t;have C:=cy.wk aq;refine az<|aO<|aH fun cm=>ak fun cn=>p mv<|p (bN Bw ag ag)<|p (bT ag ag)<|nl<|cn<|cd ag (fun a3=> ?_) fun a3=> ?_;have cW:cx t= []:=fY aj;exact ak fun aP=>p mv<|p (bN ee ag ag)<|p (bJ (((bU t).length+1:Nat):Int) ag ag<|bp aj aj)<|p aJ<|p aJ<|p aJ<|nl<|aP<|rt<|tr<|f3 ag ag ag ag<|mu.no (Kh am cW) Y;obtain ⟨⟨ao,A⟩,rest,hrw⟩:∃ q rest,cx t=q::rest:=by
  cases h:cx t with
  | nil=>rw [h] at a3; exact absurd rfl a3
  | cons q rest=>exact ⟨q,rest,rfl⟩
 have b2:(cx t)[0]? =some (ao,A):=by rw [hrw]; rfl
 obtain ⟨b4,an⟩:∃ p,vs[0]? =some p:=⟨_,cz aj⟩
 obtain ⟨aQ,bf⟩:=a8.2 0 b4 (ao,A) an b2;obtain ⟨c7,c8⟩:=b4;obtain rfl :ao=c7:=aQ.symm;obtain ⟨a0,bd,c0⟩:=bf.slice;obtain rfl :c8= .slice a0 A.length bd:=c0;have bu:Tg ab w.heap.size 9 A.length (.slice a0 A.length bd) (A.map str):=bf.wk aq;have bK:∀ q∈cx t,q.2.length≤70000∧∀ x∈q.2,x.length≤70000:=fun q b1=>by
  have h:=AX b1;exact ⟨aj,fun x c5=>by have :=(h.2.2.2.2 x c5).2; omega⟩
 have cT:A.length≤70000∧∀ x∈A,x.length≤70000:=bK (ao,A)<|gL b2;refine aT<|cm<|aH fun aP=>ak fun cp=>p mv<|p (bh pL ag ag aj<|aR.ok (C)<|mG aj)<|p (fa xK ag)<|p (ld ky ag<|mH (i:=0) C an 1 aM)<|p (bN ee ag ag)<|p (dw ag ag)<|nl<|cp<|cd ag (fun bx=> ?_) fun bx=> ?_;have bO:A.length≠1:=aj;obtain ⟨bi,bG,cI⟩:=Dw (F:=F) am hrw<|by rw [Me bO]; decide
 rw [Me bO] at bG;obtain rfl :bi=111:=by have h:(111:Int)=bi:=bG; omega
 refine aH fun aG=> ?_;have Z:(fun w'=>Wk ab w') ab.drew:=(Md.refl _ _).drew;exact cj (fun w'=>Wk ab w') ag wide Z<|aU 0 ag (mv) Z<|aU 1 ag (bh pL ag ag aj<|aR.ok (C)<|mG aj) Z<|aU 2 ag (fa vm ag) Z<|bS 3 ag (fun w' ae=>ld bL ag<|Wk.a7 ae<|mH (i:=0) C an 0 aM) Z<|aU 4 ag (aJ) Z<|aU 5 ag (aJ) Z<|aU 6 ag (aJ) Z<|hn au<|aG<|rt<|tr<|f3 ag ag ag ag<|mu.no cI<|Y.trans Z;have dn:A.length=1:=by have h:¬((A.length:Nat):Int)≠1:=bx; omega
 refine aT<|aP<|ak fun aG=>p mv<|p (bh pL ag ag aj<|aR.ok (C)<|mG aj)<|p (fa xK ag)<|p (ld ky ag<|mH (i:=0) C an 1 aM)<|p (bh cE ag ag aj<|aR.ok (bu.du.2)<|bY aj)<|p (ld bW ag<|cw.get (i:=0) bu.du.2 aj)<|e<|cl tz (tQ (A.getD 0 []) 8192 ab (by have :=cT.2 _ (ek (d:= []) (show 0 < A.length by omega)); omega) aj) ag ?_;rintro dy a9 ⟨rfl,av⟩;have cA:=Y.trans av;have aB:=YY (show A.length=1 by omega);refine p mv<|p (xt ag ag)<|p (xt ag ag)<|p aJ<|az<|aG<|aH fun b7=>ak fun b8=>p mv<|p (dw ag ag)<|nl<|b8<|cd ag (fun bz=> ?_) fun bz=> ?_;obtain ⟨de,bI,aZ⟩:=Dw (F:=F) am hrw<|by rw [aB]; exact bz
 rw [aB] at bI;refine aH fun aI=> ?_;have I:(fun w'=>Wk a9 w') a9.drew:=(Md.refl _ _).drew;refine cj (fun w'=>Wk a9 w') ag wide I<|aU 0 ag (mv) I<|aU 1 ag (bh pL ag ag aj<|aR.ok (C.wk av)<|mG aj) I<|aU 2 ag (fa vm ag) I<|bS 3 ag (fun w' ae=>ld bL ag<|Wk.a7 ae<|mH (i:=0) (C.wk av) an 0 aM) I<|aU 4 ag (mv) I<|aU 5 ag (aJ) I<|aU 6 ag (aJ) I<|aU 7 ag (aJ) I<|hn au<|aI<|rt<|tr<|f3 ag ag ag ag ?_;have h:=mu.no aZ<|cA.trans I;show mu F t w (.tuple #[.slice none 0 0,ay ao,.int .i64 (eE (A.getD 0 []) 8192).2]) _;rw [bI];exact h;obtain ⟨n,a4,dk,aZ⟩:=Kd (F:=F) am hrw<|by rw [aB]; omega
 rw [aB] at a4;have cH:jx F ((bU t).length+1) (fV F t) [] (n - 0) ((cx t).drop<|0 +1):=by rw [aZ,hrw]; exact jx.start
 obtain ⟨seen,cu⟩:=cv;refine aT<|b7<|ak fun aI=>az<|aI<|aH fun b9=>ak fun ca=>az<|ca<|aW<|lp (fun bk ba aa=> ∃ (i:Nat) (xs:List bE) (vx:List Value) (ac:Option Addr) (co:Nat),(i+1≤(cx t).length∧i≤n)∧(xs.length=i)∧(jx F ((bU t).length+1) (fV F t) xs (n - i)<|(cx t).drop<|i+1)∧(bB aa ab.heap.size 87 2 (.slice ac xs.length co) xs.length<|kP<|xs.zip vx)∧(jl aa 0 3 vx<|xs.map (·.2))∧(Wk ab aa)∧(ba 10=ay n)∧(Sl ba [(0,a6 fb),(7,.slice ar (cx t).length cr),(9,.slice b3 (bU t).length qZ),(11,.slice ac xs.length co),(12,ay (i+1))])∧((cx t).length - i=bk)) _ ⟨0,[],[],none,0,aj,ag,cH,(dC _ _ _ _),(jl.nil _ _ _),av,(by first | rfl | (rw [← a4]; rfl)),ag,ag⟩ ?_;rintro bk ba aa ⟨i,xs,vx,ac,co,hi,c6,O,hO,a1,E,c3,c2,rfl⟩;refine bH c2<|fx 10 c3<|aH fun cb=>ak fun cc=>aw (ay<|i+1)<|aw (.slice ar (cx t).length cr)<|p (bN Bw ag ag)<|p (lt ag ag)<|nl<|cc<|cd ag (fun cL=> ?_) fun cL=> ?_;refine aT<|cb<|aH fun aK=>aW<|aH fun aL=>aH fun al=> ?_;obtain ⟨⟨ln,r⟩,hri⟩:∃ q,(cx t)[i+1]? =some q:=⟨_,cz aj⟩
 have cP:(cx t).drop (i+1)=(ln,r)::(cx t).drop (i+2):=by rw [List.drop_eq_getElem_cons aj]; rw [cz aj] at hri; rw [Option.some.inj hri]
 obtain ⟨p,aD⟩:∃ p,vs[i+1]? =some p:=⟨_,cz aj⟩
 obtain ⟨aQ,aA⟩:=a8.2 (i+1) p (ln,r) aD hri;obtain ⟨c9,da⟩:=p;obtain rfl :ln=c9:=aQ.symm;obtain ⟨a,c,c1⟩:=aA.slice;obtain rfl :da= .slice a r.length c:=c1;have aA:Tg db w.heap.size 9 r.length (.slice a r.length c) (r.map str):=aA;have bM:r.length≤70000∧∀ x∈r,x.length≤70000:=bK (ln,r)<|gL hri;rw [cP] at O;refine rg ag<|aw (ay<|i+1)<|aw (ay n)<|p (gt ag ag)<|nl<|al<|cd ag (fun cN=> ?_) fun cN=> ?_;refine aH fun aN=> ?_;have J:(fun w'=>Wk aa w') aa.drew:=(Md.refl _ _).drew;refine cj (fun w'=>Wk aa w') ag wide J<|bQ 0 ag (.slice ar (cx t).length cr) J<|bQ 1 ag (ay<|i+1) J<|aU 2 ag (bh pL ag ag aj<|aR.ok (C.wk E)<|mG aj) J<|aU 3 ag (fa vm ag) J<|bS 4 ag (fun w' ae=>ld bL ag<|Wk.a7 ae<|mH (C.wk E) aD 0 aM) J<|aU 5 ag (aJ) J<|aU 6 ag (aJ) J<|aU 7 ag (aJ) J<|hn au<|aN<|rt<|tr<|br<|tr<|tr<|br<|tr<|f3 ag ag ag ag ?_;rw [show n - i=0 by omega] at O;exact mu.no O.more<|Y.trans<|E.trans J;refine aT<|aL<|ak fun aN=>aw (a6 fb)<|aw (.slice ar (cx t).length cr)<|aw (ay<|i+1)<|p (bh pL ag ag aj<|aR.ok (C.wk E)<|mG aj)<|p (fa xK ag)<|p (ld ky ag<|mH (C.wk E) aD 1 aM)<|e<|cl Ss (Ye B fb F V r w.heap.size a c aa (cD.wk<|Y.trans E) ⟨seen,cu⟩ cX ((aA.wk aq).wk E) bM.2 bM.1) ag ?_;rintro v79 dc ⟨cC,bq⟩;obtain ⟨ah,a79,cq,rfl,bZ,bD⟩:∃ (u:Tx) (a:Value) (e:Nat),v79= .tuple #[.agg [str u,a].toArray,ay e]∧a.oneCell'=true∧((e=0∧∃ l,gF F r= .ok (u,l)∧Tg dc 0 3 l.length a (l.map bV))∨(e≠0∧gF F r= .error e)):=by
  rcases cC with ⟨x,a,h1,h2,h3,h4⟩ | ⟨e,h1,h2,h3⟩;exact ⟨x.1,a,0,h2,h3,.inl ⟨ag,x.2,h1,h4⟩⟩;exact ⟨_,_,e,h3,ag,.inr ⟨h2,h1⟩⟩
 have dt:=bq.size;refine p mv<|p (xt ag ag)<|p (xt ag ag)<|e<|hU PR fun bb dz df aY bm=> ?_;have ds:=aY.size;refine e<|gS qj ag ag ag (Bt bZ) bm aM fun ai bs cs=> ?_;have bo:Wk aa ai:=(bq.trans aY.md).trans' bs fun q b1 h=>by omega
 have cK:ai.heap[bb]? =some (.cells [str ah,a79].toArray 87 (0,0)):=cs;have aS:=E.trans bo;refine az<|aN<|aH fun cf=>ak fun cg=>p mv<|p (dw ag ag)<|nl<|cg<|cd ag (fun bA=> ?_) fun bA=> ?_;have a5:=bD.resolve_left fun h=>bA<|by rw [h.1]; rfl
 obtain ⟨dl,hex⟩:=a5;refine aH fun ch=> ?_;have G:(fun w'=>Wk ai w') ai.drew:=(Md.refl _ _).drew;exact cj (fun w'=>Wk ai w') ag wide G<|bQ 0 ag (.slice ar (cx t).length cr) G<|bQ 1 ag (ay<|i+1) G<|aU 2 ag (bh pL ag ag aj<|aR.ok (C.wk aS)<|mG aj) G<|aU 3 ag (fa vm ag) G<|bS 4 ag (fun w' ae=>ld bL ag<|Wk.a7 ae<|mH (C.wk aS) aD 0 aM) G<|aU 5 ag (mv) G<|aU 6 ag (aJ) G<|aU 7 ag (aJ) G<|aU 8 ag (aJ) G<|hn au<|ch<|rt<|tr<|br<|tr<|tr<|br<|tr<|f3 ag ag ag ag<|mu.no (O.bad aj hex)<|Y.trans<|aS.trans G;have cQ:cq=0:=aj;have a5:=bD.resolve_right fun h=>h.1 cQ;obtain ⟨_,aF,hex,cF⟩:=a5;refine aT<|cf<|rg ag<|aw (.slice ac xs.length co)<|p (dp qg ag (ag) (show ∀ j,j < 2→Hb.a7 ai.heap bb (0 +j)= [str ah,a79][j]? from fun j di=>bX.bF ⟨_,cK⟩ j))<|e<|lF OK ag ag ag fun dd dA dg bt ct=> ?_;have ax:=bo.trans bt.md;have aC:=bc hO ax;have dv:=ax.size;refine e<|ap OK (aC) ag (by have :=E.size; omega) ag (aR.dZ ct) (ag) (Bt bZ) aj aj fun v93 b5 cZ aV dx dh=> ?_;have cB:=Wk.own (E.trans ax) aC aV<|cU _;have bR:bB b5 ab.heap.size 87 2 v93 (xs++ [(ah,aF)]).length (kP<|(xs++ [(ah,aF)]).zip<|vx++ [a79]):=by
  have cS:xs.length=vx.length:=by have :=a1.1; rw [fH] at this; omega
  rw [Ht cS,List.zip_cons_cons,List.zip_nil_right,Kq,bP]; exact cZ
 have cJ:jl b5 0 3 (vx++ [a79]) ((xs++ [(ah,aF)]).map (·.2)):=by
  rw [fZ];exact ((a1.wk ax).md aV<|ji aC aM).snoc (((cF.wk aY.md).md bs<|gk bm aM).wk bt.md |>.md aV (ji aC aM))
 obtain ⟨a93,zt,c4⟩:=cM bR;subst c4;exact p aJ<|nl<|bn<|aK<|rg ag<|aw (ay<|i+1)<|p (ad ag ag<|cR aj)<|p aJ<|nl<|tn<|⟨_,aj,i+1,xs++ [(ah,aF)],vx++ [a79],a93,zt,aj,(by rw [bP,c6]; rfl),(by rw [show n - (i+1)=n - i - 1 by omega]; exact O.step aj hex),bR,cJ,cB,(by first | rfl | (rw [← a4]; rfl)),ag,ag⟩
 refine ext<|bj<|bj<|be<|b9<|aH fun aK=>ak fun aL=>aw (.slice ac xs.length co)<|p (bN Bx ag ag)<|aw (ay n)<|p (lt ag ag)<|nl<|aL<|cd ag (fun cO=> ?_) fun cO=> ?_;refine ak fun al=>aw (.slice b3 (bU t).length qZ)<|p (bN ee ag ag)<|p (bJ (((bU t).length+1:Nat):Int) ag ag<|bp aj aj)<|p aJ<|p aJ<|p aJ<|nl<|al<|rt<|tr<|f3 ag ag ag ag ?_;rw [iS aj] at O;exact mu.no (O.ends aj)<|Y.trans E;refine aT<|aK<|ak fun al=>aw (.slice ac xs.length co)<|p (cV (.slice ac xs.length co) ag)<|p aJ<|p aJ<|nl<|al<|rt<|f3 ag ag ag ag ?_;rw [iS aj,show n - i=0 by omega] at O;have cG:=O.done;unfold mu;rw [cG];exact ⟨⟨_,ag,⟨vx,eT hO Y.size,a1⟩⟩,Y.trans E⟩
end Go.Hb
end
namespace Go.Hb.jW
def Ny (F:aX):Prop := ∀ l∈F.aliases,∀ x∈l,x < 65536
theorem LJ {kind:Nat} {s:Tx} {l:List Nat} (h:lK kind s= .ok l):∀ x∈l,x < 65536:=by
 unfold lK at h;split at h
 · cases h
 · cases h;intro x A;unfold eD at A
   repeat' split at A
   all_goals first
    | (cases A; done)
    | (rw [Fi] at A
       obtain ⟨y,_,rfl⟩:=List.mem_map.1 A;exact La _ _)
theorem RG {kind ln:Nat} {row:List Tx} {l:List Nat} (h:k8 kind ln row= .ok l):∀ x∈l,x < 65536:=by
 unfold k8 at h;split at h
 · cases h
 · exact LJ h
theorem XB {kind:Nat} {al:List (List Nat)} {s:Tx} {l:List Nat} (A:∀ l∈al,∀ x∈l,x < 65536) (h:gJ kind al s= .ok l):∀ x∈l,x < 65536:=by
 unfold gJ at h;split at h
 · exact LJ h
 · split at h
   · cases h
   · split at h
     · cases h
     · cases h;rename_i n _ _;rw [da];cases hg:al[n - 1]? with
       | none=>simp
       | some y=>exact A y<|gL hg
theorem Y2 {eof ln:Nat} {F F':aX} {hs:List Tx} {rows rows':List Rw} {row:List Tx} (h:Ny F) (A:cW eof F hs rows ln row= .ok (F',rows')):Ny F':=by
 unfold cW at A
 repeat' split at A
 · unfold kF at A; repeat' split at A
   all_goals first | (cases A; done) | (cases A; exact h)
 · unfold kW at A; repeat' split at A
   all_goals first | (cases A; done) | (cases A; exact h)
 · unfold nb at A; repeat' split at A
   all_goals first | (cases A; done) | (cases A; exact h)
 · unfold nk at A; repeat' split at A
   all_goals first | (cases A; done) | (cases A; exact h)
 · unfold lj at A; repeat' split at A
   all_goals first | (cases A; done) | (cases A; exact h)
 · unfold kE at A; repeat' split at A
   all_goals first | (cases A; done) | (cases A; exact h)
 · unfold kn at A;split at A
   · cases A
   · split at A
     · cases A
     · split at A
       · cases A
       · rename_i r E;cases A;intro l C;rcases gq.1 C with C | C
         · exact h l C
         · obtain ⟨_,_,h2⟩:=Et _ _ _ E l C;exact RG h2
 · unfold iu at A; repeat' split at A
   all_goals first | (cases A; done) | (cases A; exact h)
theorem abI {eof:Nat} :∀ (k:Nat) (F F':aX) (hs:List Tx) (rows:List Rw),Ny F→iH eof k F hs rows= .ok F'→Ny F':=by
 intro k
 induction k with
 | zero=>intro F F' hs rows h A; rw [iH] at A; split at A <;> cases A; exact h
 | succ k E=>
   intro F F' hs rows h A;cases rows with
   | nil=>rw [yc] at A; cases A; exact h
   | cons q rows=>
     rw [iH] at A;split at A
     · cases A
     · split at A
       · cases A
       · split at A
         · cases A
         · split at A
           · cases A
           · rename_i r C;exact E _ _ _ _ (Y2 (rows':=r.2) h C) A
theorem HM {s:Tx} {F:aX} (h:ga s= .ok F):Ny F:=by
 unfold ga at h;split at h
 · cases h
 · split at h
   · cases h
   · rename_i f A;split at h
     · cases h
     · cases h;exact abI _ _ _ _ _ (fun l C=>by cases C) A
def yV (x:bE):Prop :=x.1.length≤64∧x.2.length≤64∧(∀ y∈x.2,y < 65536)
theorem zP {F:aX} {row:List Tx} {x:bE} (h1:Nx F) (h2:Ny F) (h:gF F row= .ok x):yV x:=by
 unfold gF at h;split at h
 · cases h
 · split at h
   · cases h
   · split at h
     · cases h
     · split at h
       · cases h
       · split at h
         · cases h; exact ⟨by simp only; omega,by simp,fun y C=>by cases C⟩
         · split at h
           · cases h
           · rename_i A;split at h
             · cases h;exact ⟨by simp only; omega,zX h1.1 A,XB h2 A⟩
             · cases h
theorem WX {F:aX} {eof:Nat} (h1:Nx F) (h2:Ny F):∀ {n:Nat} {rows:List Rw} {r:List bE},fJ F eof n rows= .ok r→∀ x∈r,yV x:=by
 intro n
 induction n with
 | zero=>
   intro rows r h;cases rows with
   | nil=>rw [fJ] at h; cases h; intro x A; cases A
   | cons q rows=>rw [fJ] at h; cases h
 | succ n E=>
   intro rows r h;cases rows with
   | nil=>rw [fJ] at h; cases h
   | cons q rows=>
     rw [fJ] at h;split at h
     · cases h
     · rename_i he;split at h
       · cases h
       · rename_i C;cases h;intro x A;rcases List.mem_cons.1 A with rfl | A
         · exact zP h1 h2 he
         · exact E C x A
theorem Ke {F:aX} {t:Tx} {xs:List bE} (h1:Nx F) (h2:Ny F) (h:fV F t= .ok xs):(∀ x∈xs,yV x)∧xs.length≤8192:=by
 unfold fV at h;split at h
 · cases h
 · split at h
   · cases h
   · split at h
     · cases h
     · split at h
       · cases h
       · rename_i hn;refine ⟨WX h1 h2 h,?_⟩;have C:=(WZ h).1;unfold fF at hn;split at hn
         · cases hn
         · cases hn;rename_i A;have :=sI _ 8192<|jT.1 A;omega
theorem su {F:aX} {s:Tx} {e:Nat} (h:iF F s= .error e):e≠0:=by
 unfold iF at h; repeat' split at h
 all_goals first | (cases h; done) | (cases h; decide) | (cases h; assumption)
theorem LI {k:Nat} {s:Tx} {e:Nat} (h:lK k s= .error e):e≠0:=by
 unfold lK at h; repeat' split at h
 all_goals first | (cases h; done) | (cases h; assumption)
theorem rv {s:Tx} {m:Int} {e:Nat} (h:fF s m= .error e):e≠0:=by
 unfold fF at h; repeat' split at h
 all_goals first | (cases h; done) | (cases h; decide)
theorem Lg {k:Nat} {al:List (List Nat)} {s:Tx} {e:Nat} (h:gJ k al s= .error e):e≠0:=by
 unfold gJ at h; repeat' split at h
 all_goals first | exact LI h | (cases h; done) | (cases h; decide)
theorem NK {b:Bool} {s:Tx} {e:Nat} (h:eW b s= .error e):e≠0:=by
 unfold eW at h; repeat' split at h
 all_goals first | (cases h; done) | (cases h; decide) | (cases h; assumption)
theorem Ry {r:my} {e:Nat} (h:km r= .error e):e≠0:=by
 unfold km at h; repeat' split at h
 all_goals first | (cases h; done) | (cases h; assumption)
theorem aaJ {k A:Nat} {al:List (List Nat)} {r:my} {e:Nat} (h:lO k al A r= .error e):e≠0:=by
 unfold lO at h; repeat' split at h
 all_goals first | exact Lg h | (cases h; done) | (cases h; decide)
theorem Vv {r:List Tx} {e:Nat} (h:lH r= .error e):e≠0:=by
 unfold lH at h; repeat' split at h
 all_goals first | (cases h; done) | (cases h; decide) | (cases h; assumption)
theorem sM {k ln:Nat} {al:List (List Nat)} {c:dD} {r:List Tx} {e:Nat} (h:gy k al c ln r= .error e):e≠0:=by
 unfold gy at h; repeat' split at h
 all_goals first
  | (cases h; done)
  | (cases h; decide)
  | (cases h; exact NK<|by assumption)
  | (cases h; exact Ry<|by assumption)
  | (cases h; exact aaJ<|by assumption)
  | (cases h; exact Vv<|by assumption)
theorem sL {ln:Nat} {r:List Tx} {e:Nat} (h:ll ln r= .error e):e≠0:=by
 unfold ll at h; repeat' split at h
 all_goals first
  | (cases h; done)
  | (cases h; decide)
  | (cases h; exact NK<|by assumption)
theorem r4 {k ln:Nat} {r:List Tx} {e:Nat} (h:k8 k ln r= .error e):e≠0:=by
 unfold k8 at h; repeat' split at h
 all_goals first | exact LI h | (cases h; decide)
theorem jP {α:Type} {hd:List Tx} {rd:Nat→List Tx→Except Nat α} {eof:Nat} (A:∀ l r e,rd l r= .error e→e≠0):∀ {n:Nat} {rows:List Rw} {l e:Nat},group hd rd eof n rows= .error (l,e)→e≠0:=by
 intro n
 induction n with
 | zero=>intro rows l e h; rw [group] at h; cases h
 | succ n C=>
   intro rows l e h;cases rows with
   | nil=>rw [group] at h; cases h; decide
   | cons q rows=>
     rw [group] at h;split at h
     · cases h; decide
     · split at h
       · rename_i he; cases h; exact A _ _ _ he
       · split at h
         · rename_i he; cases h; exact C he
         · cases h
theorem Y1 {eof ln l e:Nat} {F:aX} {hs:List Tx} {rows:List Rw} {row:List Tx} (h:cW eof F hs rows ln row= .error (l,e)):e≠0:=by
 unfold cW at h
 repeat' split at h
 · unfold kF at h; repeat' split at h
   all_goals first
    | (cases h; done)
    | (cases h; decide)
    | (cases h; assumption)
    | (cases h; exact su<|by assumption)
    | (cases h; exact rv<|by assumption)
    | (cases h; exact jP (fun _ _ _ h=>sL h)<|by assumption)
    | (cases h; exact jP (fun _ _ _ h=>r4 h)<|by assumption)
    | (cases h; exact jP (fun _ _ _ h=>sM h)<|by assumption)
 · unfold kW at h; repeat' split at h
   all_goals first
    | (cases h; done)
    | (cases h; decide)
    | (cases h; assumption)
    | (cases h; exact su<|by assumption)
    | (cases h; exact rv<|by assumption)
    | (cases h; exact jP (fun _ _ _ h=>sL h)<|by assumption)
    | (cases h; exact jP (fun _ _ _ h=>r4 h)<|by assumption)
    | (cases h; exact jP (fun _ _ _ h=>sM h)<|by assumption)
 · unfold nb at h; repeat' split at h
   all_goals first
    | (cases h; done)
    | (cases h; decide)
    | (cases h; assumption)
    | (cases h; exact su<|by assumption)
    | (cases h; exact rv<|by assumption)
    | (cases h; exact jP (fun _ _ _ h=>sL h)<|by assumption)
    | (cases h; exact jP (fun _ _ _ h=>r4 h)<|by assumption)
    | (cases h; exact jP (fun _ _ _ h=>sM h)<|by assumption)
 · unfold nk at h; repeat' split at h
   all_goals first
    | (cases h; done)
    | (cases h; decide)
    | (cases h; assumption)
    | (cases h; exact su<|by assumption)
    | (cases h; exact rv<|by assumption)
    | (cases h; exact jP (fun _ _ _ h=>sL h)<|by assumption)
    | (cases h; exact jP (fun _ _ _ h=>r4 h)<|by assumption)
    | (cases h; exact jP (fun _ _ _ h=>sM h)<|by assumption)
 · unfold lj at h; repeat' split at h
   all_goals first
    | (cases h; done)
    | (cases h; decide)
    | (cases h; assumption)
    | (cases h; exact su<|by assumption)
    | (cases h; exact rv<|by assumption)
    | (cases h; exact jP (fun _ _ _ h=>sL h)<|by assumption)
    | (cases h; exact jP (fun _ _ _ h=>r4 h)<|by assumption)
    | (cases h; exact jP (fun _ _ _ h=>sM h)<|by assumption)
 · unfold kE at h; repeat' split at h
   all_goals first
    | (cases h; done)
    | (cases h; decide)
    | (cases h; assumption)
    | (cases h; exact su<|by assumption)
    | (cases h; exact rv<|by assumption)
    | (cases h; exact jP (fun _ _ _ h=>sL h)<|by assumption)
    | (cases h; exact jP (fun _ _ _ h=>r4 h)<|by assumption)
    | (cases h; exact jP (fun _ _ _ h=>sM h)<|by assumption)
 · unfold kn at h; repeat' split at h
   all_goals first
    | (cases h; done)
    | (cases h; decide)
    | (cases h; assumption)
    | (cases h; exact su<|by assumption)
    | (cases h; exact rv<|by assumption)
    | (cases h; exact jP (fun _ _ _ h=>sL h)<|by assumption)
    | (cases h; exact jP (fun _ _ _ h=>r4 h)<|by assumption)
    | (cases h; exact jP (fun _ _ _ h=>sM h)<|by assumption)
 · unfold iu at h; repeat' split at h
   all_goals first
    | (cases h; done)
    | (cases h; decide)
    | (cases h; assumption)
    | (cases h; exact su<|by assumption)
    | (cases h; exact rv<|by assumption)
    | (cases h; exact jP (fun _ _ _ h=>sL h)<|by assumption)
    | (cases h; exact jP (fun _ _ _ h=>r4 h)<|by assumption)
    | (cases h; exact jP (fun _ _ _ h=>sM h)<|by assumption)
theorem abH {eof:Nat} :∀ (k:Nat) (F:aX) (hs:List Tx) (rows:List Rw) (l e:Nat),rows.length≤k→iH eof k F hs rows= .error (l,e)→e≠0:=by
 intro k
 induction k with
 | zero=>
   intro F hs rows l e hk A;obtain rfl :=fY<|Nat.le_zero.1 hk;rw [yc] at A; cases A
 | succ k E=>
   intro F hs rows l e hk A;cases rows with
   | nil=>rw [yc] at A; cases A
   | cons q rows=>
     rw [iH] at A;split at A
     · cases A; decide
     · split at A
       · cases A; decide
       · split at A
         · cases A; decide
         · split at A
           · rename_i he; cases A; exact Y1 he
           · rename_i r C;have h1:=sx (rows':=r.2) C;simp only [db] at hk;exact E _ _ _ _ _ aj A
theorem RB {s:Tx} {l e:Nat} (h:ga s= .error (l,e)):e≠0:=by
 unfold ga at h;split at h
 · cases h; decide
 · split at h
   · rename_i he; cases h; exact abH _ _ _ _ _ _ (cU _) he
   · split at h
     · cases h; decide
     · cases h
theorem WS {F:aX} {row:List Tx} {e:Nat} (h:gF F row= .error e):e≠0:=by
 unfold gF at h
 repeat' split at h
 all_goals first
  | (cases h; done)
  | (cases h; decide)
  | (cases h; assumption)
  | (cases h; exact Lg<|by assumption)
theorem W0 {F:aX} {eof l e:Nat} :∀ {n:Nat} {rows:List Rw},fJ F eof n rows= .error (l,e)→e≠0:=by
 intro n
 induction n with
 | zero=>
   intro rows h;cases rows with
   | nil=>rw [fJ] at h; cases h
   | cons q rows=>rw [fJ] at h; cases h; decide
 | succ n A=>
   intro rows h;cases rows with
   | nil=>rw [fJ] at h; cases h; decide
   | cons q rows=>
     rw [fJ] at h;split at h
     · rename_i he; cases h; exact WS he
     · split at h
       · rename_i he; cases h; exact A he
       · cases h
theorem WA {F:aX} {t:Tx} {l e:Nat} (h:fV F t= .error (l,e)):e≠0:=by
 unfold fV at h;split at h
 · cases h; decide
 · split at h
   · cases h; decide
   · split at h
     · cases h; decide
     · split at h
       · rename_i he; cases h; exact rv he
       · exact W0 h
end Go.Hb.jW
section
namespace Go.Hb
open Go.Hb.gr Go.Hb.jK Go.Hb.jW Go.Hb.k5
noncomputable def lx (a t:Tx):Option (aX×List bE):=match ga a with
 | .error _=>none
 | .ok F=>match fV F t with
   | .error _=>none
   | .ok xs=>some (F,xs)
theorem O3 {a t:Tx} {e:Nat×Nat} (h:ga a= .error e):lx a t=none:=by unfold lx; rw [h]
theorem O4 {a t:Tx} {F:aX} {e:Nat×Nat} (h:ga a= .ok F) (h1:fV F t= .error e):lx a t=none:=by unfold lx; rw [h]; simp only; rw [h1]
theorem Gp {a t:Tx} {F:aX} {xs:List bE} (h:ga a= .ok F) (h1:fV F t= .ok xs):lx a t=some (F,xs):=by unfold lx; rw [h]; simp only; rw [h1]
structure eH (F:aX) (xs:List bE):Prop where
 len:F.dF.length+F.aliases.length+F.bG.length+F.rules.length≤70000
 nx:Nx F
 xr:∀ x∈xs,yV x
 xl:xs.length≤8192
 fs:uB F
 cls:qS F
 WN:∀ x∈xs,l0 x.2
 gG:F.sp.length=5
 ne:∀ x∈xs,1≤x.1.length
theorem Cp {s:Tx} {F:aX} (h:ga s= .ok F):Nx F:=Co (Q:=Nx) ⟨fun l A=>(by cases A),fun l A=>by cases A⟩ (fun _ _ _ _ _ _ _ _ h C=>Ar h C) h
theorem eH.of {a t:Tx} {F:aX} {xs:List bE} (h:ga a= .ok F) (h1:fV F t= .ok xs) (A:∃ seen,lB F [] seen) (h5:F.sp.length=5):eH F xs:=by
 obtain ⟨seen,A⟩:=A;have E:=A.len;have C:=Ke (Cp h) (HM h) h1;exact ⟨by simpa using E,Cp h,C.1,C.2,(Cn h).1,(Cn h).2,Wz (Cn h).1 h1,h5,WC h1⟩
theorem eH.jG {F:aX} {xs:List bE} (h:eH F xs) {i:Nat} {r:dd} (A:F.rules[i]? =some r):r.next.length≤64∧l0 r.next∧kt r:=⟨h.nx.2 r (gL A),h.fs.2 r<|gL A⟩
structure gO where
 fb:Nat
 mc:Nat
 wb:Nat
 mb:Nat
 V:fN
 V2:fN
 va:Value
 ve:Value
 vs:List Value
 ws:List Value
def tbB (F:aX) (U:gO):List Value:= .pointer (some ⟨U.fb,0,none⟩):: .pointer (some ⟨U.wb,0,none⟩)::(mA F U.V2++ [U.ve])
structure gj (w:World) (B tb:Nat) (U:gO) (F:aX) (xs:List bE):Prop where
 cells:w.heap[tb]? =some (.cells (tbB F U).toArray 105 (0,0))
 fl:eu w B U.fb U.mc F U.V
 ax:qQ w B F U.V2
 wd:lZ w B U.wb U.mb U.va U.vs xs
 oe:bB w B 53 2 U.ve xs.length (kP<|xs.zip U.ws)
 ef:eU w B 95 U.ws (xs.map (·.2))
theorem CD {G:Nat→Prop} {w w':World} {B:Nat} {F:aX} {V:fN} (h:qQ w B F V) (hm:Md G w w') {L:List Nat} (A:TF w L G) (C:(L.contains 191 || L.contains 53 || L.contains 97 || L.contains 194 || L.contains 136)=false):qQ w' B F V:=by
 simp only [oY] at C;obtain ⟨⟨⟨⟨h1,h2⟩,h3⟩,h4⟩,h5⟩:=C;have E:∀ k,G k→∀ cur z,w.heap[k]?≠some (.cells cur 95 z):=fun k hk cur z I=>A.no (dS I) h3 hk;exact ⟨c7 h.o9 hm A h1,c7 h.fD hm A h2,h.al.md hm E,c7 h.eS hm A h4,c7 h.dR hm A h5,h.nx.md hm E⟩
theorem gj.M2 {G:Nat→Prop} {w w':World} {B tb:Nat} {U:gO} {F:aX} {xs:List bE} (h:gj w B tb U F xs) (hm:Md G w w') {L:List Nat} (A:TF w L G) (C:(L.contains 166 || L.contains 191 || L.contains 53 || L.contains 97 || L.contains 194 || L.contains 136 || L.contains 186 || L.contains 55 || L.contains 5 || L.contains 107)=false) (O:¬G U.mc) (J:¬G U.mb):gj w' B tb U F xs:=by
 simp only [oY] at C;obtain ⟨⟨⟨⟨⟨⟨⟨⟨⟨h1,h2⟩,h3⟩,h4⟩,h5⟩,h6⟩,h7⟩,h8⟩,h9⟩,h10⟩:=C;have E:∀ k,G k→∀ cur z,w.heap[k]?≠some (.cells cur 95 z):=fun k hk cur z I=>A.no (dS I) h4 hk;exact ⟨hm.jd A h.cells h10,h.fl.md hm A (by rw [h1,h2,h3,h4,h5,h6]; rfl) O,CD h.ax hm A (by rw [h2,h3,h4,h5,h6]; rfl),h.wd.md hm A (by rw [h7,h8,h4,h9]; rfl) J,c7 h.oe hm A h8,h.ef.md hm E⟩
theorem gj.wk {w w':World} {B tb:Nat} {U:gO} {F:aX} {xs:List bE} (h:gj w B tb U F xs) (hm:Wk w w'):gj w' B tb U F xs:=h.M2 (L:= []) hm (fun _ hk=>hk.elim) rfl id id
theorem R7 {w w':World} {B:Nat} {F:aX} {V:fN} (h:qQ w B F V) (hm:Wk w w'):qQ w' B F V:=CD (L:= []) h hm (fun _ hk=>hk.elim) rfl
theorem R5 {w:World} {B B':Nat} {F:aX} {V:fN} (h:qQ w B F V) (A:B'≤B):qQ w B' F V:=⟨eT h.o9 A,eT h.fD A,h.al.mono A,eT h.eS A,eT h.dR A,h.nx.mono A⟩
theorem abE {s:Tx} {w w':World} {v:Value} (h:qV s w v w'):∃ p E G I,v= .tuple #[.pointer p,.agg [.int .i64 E,.int .i64 G,.int .i64 I].toArray]∧((p=none∧∃ e,ga s= .error e)∨(∃ F fb mc V,p=some ⟨fb,0,none⟩∧ga s= .ok F∧eu w' w.heap.size fb mc F V∧(∃ seen,lB F [] seen)∧Nx F))∧Wk w w':=by
 obtain ⟨h,A⟩:=h;cases hx:ga s with
 | error e=>rw [hx] at h; exact ⟨_,_,_,_,h,.inl ⟨rfl,e,rfl⟩,A⟩
 | ok F=>rw [hx] at h; obtain ⟨fb,mc,V,C,h1,h2,h3⟩:=h; exact ⟨_,_,_,_,C,.inr ⟨F,fb,mc,V,rfl,rfl,h1,h2,h3⟩,A⟩
theorem WK {F:aX} {s:Tx} {w w':World} {v:Value} (h:mM F s w v w'):∃ p E G I,v= .tuple #[.pointer p,.agg [.int .i64 E,.int .i64 G,.int .i64 I].toArray]∧((p=none∧∃ e,fV F s= .error e)∨(∃ xs B wb mb va vs,p=some ⟨wb,0,none⟩∧fV F s= .ok xs∧w.heap.size≤B∧lZ w' B wb mb va vs xs∧w.heap.size≤wb∧w.heap.size≤mb))∧Wk w w':=by
 obtain ⟨h,A⟩:=h;cases hx:fV F s with
 | error e=>rw [hx] at h; exact ⟨_,_,_,_,h,.inl ⟨rfl,e,rfl⟩,A⟩
 | ok xs=>rw [hx] at h; obtain ⟨B,wb,mb,va,vs,h1,C,h2,h3,h4⟩:=h; exact ⟨_,_,_,_,C,.inr ⟨xs,B,wb,mb,va,vs,rfl,rfl,h1,h2,h3,h4⟩,A⟩
def wX (a t:Tx) (w:World) (v:Value) (w':World):Prop :=(∃ p A C E,v= .tuple #[.pointer p,.agg [.int .i64 A,.int .i64 C,.int .i64 E].toArray]∧match lx a t with
 | none=>p=none
 | some T=> ∃ B tb U,w.heap.size≤B∧p=some ⟨tb,0,none⟩∧gj w' B tb U T.1 T.2∧eH T.1 T.2)∧Wk w w'
theorem wX.no {a t:Tx} {w w':World} {A C E:Int} (h:lx a t=none) (hm:Wk w w'):wX a t w (.tuple #[.pointer none,.agg [.int .i64 A,.int .i64 C,.int .i64 E].toArray]) w':=⟨⟨none,A,C,E,rfl,by rw [h]⟩,hm⟩
theorem aep {w:World} {B B':Nat} {f:Value→Option Value} {xs:List bE} (h:ox w B f xs) (A:B'≤B):ox w B' f xs:=⟨fun s=>eT (h.own s) A,h.nil⟩
theorem WL {w:World} {B B' wb mb:Nat} {va:Value} {vs:List Value} {xs:List bE} (h:lZ w B wb mb va vs xs) (A:B'≤B):lZ w B' wb mb va vs xs:=by
 obtain ⟨f,C,E⟩:=h.mp;exact ⟨h.cells,eT h.own A,h.fl.mono A,f,C,aep E A⟩
theorem O9 (a t:Tx) (w:World) (bT:a.length≤1048576) (b6:t.length≤1048576):
 bw aE 22 (bl [str a,str t]) w (wX a t w):=by
 refine enter func22 ag ntmps22 ag<|ak fun br=>p aJ<|e<|hU rI fun C ai cf ap al=> ?_;have cv:=ap.size;refine nl<|br<|ak fun bt=>aw (str a)<|e<|cl TZ (RA a ai bT) ag fun v12 bp bM=> ?_;have bZ:=abE bM;obtain ⟨pp,bg,bh,bi,rfl,bf,aK⟩:=bZ;have cn:=aK.size;refine p mv<|p (xt ag ag)<|p (xt ag ag)<|e<|hU rI fun aS cB cg a5 bE=> ?_;have cw:=a5.size;refine p aJ<|e<|gS kz ag ag ag ag bE aM fun Z a0 aF=> ?_;have aI:Wk bp Z:=a5.md.trans' a0 fun q G h=>by omega
 have aY:=aK.trans aI;have ck:=a0.size;have b4:bX Z.heap aS [.int .i64 bg,.int .i64 bh,.int .i64 bi]:=⟨_,aF⟩
 refine nl<|bt<|aH fun bu=>ak fun bv=>p mv<|p (lJ yr ag ag)<|nl<|bv<|cb ag (fun ax=> ?_) fun ax=> ?_;obtain ⟨rfl,e,E⟩:pp=none∧∃ e,ga a= .error e:=by rcases bf with h | ⟨_,_,_,_,rfl,_⟩ <;> first | exact h | cases ax
 refine aH fun aB=> ?_;have aq:(fun w'=>Md (fun q=>q=C) Z w') Z.drew:=(Md.refl _ _).drew;refine cj (fun w'=>Md (fun q=>q=C) Z w') ag wide aq<|bS 0 ag (fun w' J=>dp l7 ag (ag) fun j Y=>(Md.B J b4 fun h=>by omega).bF j) aq<|aU 1 ag (aJ) aq<|he 2 ag au<|gS kz ag ag ag ag (Wk.aW aY al) aM fun b8 bK bB=> ?_;have a8:(fun w'=>Md (fun q=>q=C) Z w') b8:=aq.trans' bK fun q G h=>h;refine ⟨a8,?_⟩;exact hn au<|aB<|rt<|tr<|eV ag eI (eo (cs:= [.int .i64 bg,.int .i64 bh,.int .i64 bi]) ag l7 ag fun j Y=>(bo bB).trans<|by match j,Y with | 0,_=>rfl | 1,_=>rfl | 2,_=>rfl)<|wX.no (O3 E)<|(ap.md.trans aY).trans' a8 fun q G h=>by omega
 obtain ⟨F,fb,mc,V,rfl,E,an,aX,a4⟩:=bf.resolve_left fun h=>by rw [h.1] at ax; cases ax
 refine aT<|bu<|ak fun aB=>p mv<|aw (str t)<|e<|cl T0 (WE ai.heap.size fb mc F V t Z (an.wk aI) aX a4 b6) ag fun v21 cA bN=> ?_;have b0:=WK bN;obtain ⟨b7,bj,bk,bm,rfl,bd,am⟩:=b0;have co:=am.size;refine p mv<|p (xt ag ag)<|p (xt ag ag)<|p aJ<|e<|gS kz ag ag ag ag (Wk.aW am aF) (by simp) fun I aO bC=> ?_;have aZ:Wk bp I:=(aI.trans am).trans' aO fun q G h=>by omega
 have ac:=aK.trans aZ;have ct:=aO.size;have b5:bX I.heap aS [.int .i64 bj,.int .i64 bk,.int .i64 bm]:=⟨_,bC⟩
 refine nl<|aB<|aH fun bx=>ak fun bz=>p mv<|p (lJ GA ag ag)<|nl<|bz<|cb ag (fun ay=> ?_) fun ay=> ?_;obtain ⟨rfl,e,hd⟩:b7=none∧∃ e,fV F t= .error e:=by rcases bd with h | ⟨_,_,_,_,_,_,rfl,_⟩ <;> first | exact h | cases ay
 refine aH fun aC=> ?_;have av:(fun w'=>Md (fun q=>q=C) I w') I.drew:=(Md.refl _ _).drew;refine cj (fun w'=>Md (fun q=>q=C) I w') ag wide av<|bS 0 ag (fun w' J=>dp l7 ag (ag) fun j Y=>(Md.B J b5 fun h=>by omega).bF j) av<|aU 1 ag (aJ) av<|he 2 ag au<|gS kz ag ag ag ag (Wk.aW ac al) aM fun b9 bL bD=> ?_;have a9:(fun w'=>Md (fun q=>q=C) I w') b9:=av.trans' bL fun q G h=>h;refine ⟨a9,?_⟩;exact hn au<|aC<|rt<|tr<|eV ag eI (eo (cs:= [.int .i64 bj,.int .i64 bk,.int .i64 bm]) ag l7 ag fun j Y=>(bo bD).trans<|by match j,Y with | 0,_=>rfl | 1,_=>rfl | 2,_=>rfl)<|wX.no (O4 E hd)<|(ap.md.trans ac).trans' a9 fun q G h=>by omega
 obtain ⟨xs,B,wb,mb,va,vs,rfl,hd,cc,bQ,ci,ch⟩:=bd.resolve_left fun h=>by rw [h.1] at ay; cases ay
 have aQ:=bQ.md (L:= [47]) aO (TF.eq (dS<|Wk.aW am aF) aM) aM fun h=>by omega
 have aN:=an.wk aZ;have bV:=Ke (Cp E) (HM E) hd;obtain ⟨seen,aV⟩:=aX;have bW:=aV.len;refine aT<|bx<|ak fun aC=>p mv<|p mv<|p (dt (ps:= [(0,a6 fb),(1,a6 wb)]) (L:= [a6 fb,a6 wb,.int .i64 0,.string ⟨⟨[]⟩⟩,.string ⟨⟨[]⟩⟩,.int .u16 0,.int .u16 0,.int .u16 0,.int .u16 0,.int .u16 0,.int .i64 0,.slice none 0 0,.slice none 0 0,.slice none 0 0,.slice none 0 0,.slice none 0 0]) acZ ag<|ag)<|e<|oB ag fun aD aa ce ao aG=> ?_;have cp:=ao.size;refine az<|aC<|aH fun bA=> ?_;have A:(fun w'=>Wk aa w') aa.drew:=(Md.refl _ _).drew;refine fj (fun w'=>Wk aa w') 14 ag wide A<|bR 0 ag (mv) A<|bR 1 ag (mv) A<|bR 2 ag (mv) A<|bR 3 ag (nc ag) A<|bR 4 ag (fa Aa ag) A<|ej 5 ag (fun w' J=>ld gP ag<|Wk.a7 J<|(bo aG).trans ag) A<|bR 7 ag (mv) A<|bR 8 ag (nc ag) A<|bR 9 ag (fa Lp ag) A<|ej 10 ag (fun w' J=>ld HS ag<|Wk.a7 J<|(bo aG).trans ag) A<|ic 6 ag au<|cl zq (y1 ai.heap.size fb mc F V aa.drew ((aN.wk ao.md).wk A) (by simp only [List.length_nil] at bW; omega) a4) ag ?_;rintro v37 bq ⟨⟨V2,rfl,bU⟩,hE37⟩;have cq:=hE37.size;have cz:=A.size;have ba:(fun w'=>Wk aa w') bq:=A.trans hE37;refine ⟨ba,?_⟩;refine ic 11 ag au<|cl T1 (Wm B wb mb va vs xs bq (((aQ.wk ao.md).wk A).wk hE37) aj fun x E=>(bV.1 x E).2.1) ag ?_;rintro bn aA ⟨⟨ws,bc,bY,_⟩,hE42⟩;have cu:=hE42.size;have ah:=R7 bU hE42;have bb:=Wk.aW hE42<|Wk.aW hE37<|Wk.aW A aG;have aP:(fun w'=>Wk aa w') aA:=ba.trans hE42;refine ⟨aP,?_⟩;refine bR 12 ag (nc ag) aP<|bR 13 ag (fa xB ag) aP<|eb 14 ag au au<|gS Dr ag ag ag (CC (fG ah.o9) (fG ah.fD) (fG ah.eS)<|fG ah.dR) bb (by simp) fun cC a2 bH=> ?_;have cy:=a2.size;refine kB 15 ag (fun _=>nc ag) (fun h=>eA<|(show true =_ from by kernel_rfl).trans h)<|kB 16 ag (fun _=>fa D1 ag) (fun h=>eA<|(show true =_ from by kernel_rfl).trans h)<|eb 17 ag au au<|dB JM ag ag (v:=bn) (fG bc) bH (by show 15 < 16; omega) fun aR a1 bG=> ?_;have cx:=a1.size;have ab:=a2.trans' a1 fun q G h=>h;have O:TF aA [107] (fun q=>q=aD):=TF.eq (dS bb) aM;have bJ:Wk aa aA:=A.trans<|hE37.trans hE42;have ae:Wk I aA:=ao.md.trans bJ;have aL:Wk I aR:=ae.trans' ab fun q G h=>by omega
 obtain ⟨ca,b1,_⟩:=(aN.wk ae).cm;obtain ⟨fm,b2,_⟩:=(aQ.wk ae).mp;have bO:gj aR ai.heap.size aD ⟨fb,mc,wb,mb,V,V2,va,bn,vs,ws⟩ F xs:=⟨bG,(aN.wk ae).md ab O aM (O.no (e5 b1) aM),CD (R5 ah aj) ab O aM,WL ((aQ.wk ae).md ab O aM<|O.no (e5 b2) aM) aj,eT (c7 bc ab O aM) aj,(bY.md ab fun k hk cur z b3=>O.no (dS b3) aM hk).mono aj⟩
 refine fi au<|bA<|ak fun bs=>p mv<|p (dt (ps:= []) (L:= [.int .i64 0,.int .i64 0,.int .i64 0]) vJ ag<|ag)<|p aJ<|e<|gS kz ag ag ag ag (Wk.aW (ac.trans aL) al) aM fun cD a3 bI=>nl ?_;refine bs<|rt<|eV ag eI (eo (cs:= [.int .i64 0,.int .i64 0,.int .i64 0]) ag l7 ag fun j Y=>(bo bI).trans<|by match j,Y with | 0,_=>rfl | 1,_=>rfl | 2,_=>rfl) ?_;refine ⟨⟨_,_,_,_,ag,?_⟩,(ap.md.trans<|ac.trans aL).trans' a3 fun q G h=>by omega⟩;rw [Gp E hd];have bP:TF aR [47] (fun q=>q=C):=TF.eq (dS<|Wk.aW (ac.trans aL) al) aM;exact ⟨ai.heap.size,aD,_,aj,ag,bO.M2 a3 bP aM (fun h:mc=C=>by have :=an.lo.2; omega) (fun h:mb=C=>by omega),eH.of E hd ⟨seen,aV⟩ an.gG⟩
end Go.Hb
end
section
namespace Go.Hb
open Go.Hb.gr Go.Hb.jK Go.Hb.jW Go.Hb.k5
def kQ (xs:List bE) (n:Int):Tx:=if 0≤n∧n < xs.length then (xs.getD n.toNat ([],[])).1 else []
def tR (F:aX) (n:Int):dd:=if 0≤n∧n < F.rules.length then F.rules.getD n.toNat dU else dU
theorem tw {xs:List bE} {k:Nat} {x:bE} (h:xs[k]? =some x):kQ xs k=x.1∧flagsOf xs k=x.2∧k < xs.length∧xs.getD k ([],[])=x:=by
 have hk:=(fS.1 h).1;have hd:xs.getD k ([],[])=x:=by rw [da,h]; rfl
 refine ⟨?_,?_,hk,hd⟩
 · unfold kQ; rw [if_pos aj,kH,hd]
 · unfold flagsOf; rw [if_pos aj,kH,hd]
theorem uN {xs:List bE} {n:Int} (h:¬(0≤n∧n < xs.length)):kQ xs n= []∧flagsOf xs n= []:=by
 unfold kQ flagsOf; rw [if_neg h,if_neg h]; exact ⟨rfl,rfl⟩
theorem yf {F:aX} {k:Nat} {r:dd} (h:F.rules[k]? =some r):tR F k=r∧cH F k=r.next∧k < F.rules.length∧F.rules.getD k dU=r:=by
 have hk:=(fS.1 h).1;have hd:F.rules.getD k dU=r:=by rw [da,h]; rfl
 refine ⟨?_,?_,hk,hd⟩
 · unfold tR; rw [if_pos aj,kH,hd]
 · unfold cH; rw [if_pos aj,kH,hd]
theorem yg {F:aX} {n:Int} (h:¬(0≤n∧n < F.rules.length)):tR F n=dU∧cH F n= []:=by
 unfold tR cH; rw [if_neg h,if_neg h]; exact ⟨rfl,rfl⟩
theorem adI {w:World} {B tb:Nat} {U:gO} {F:aX} {xs:List bE} (h:gj w B tb U F xs) {k:Nat} {x:bE} (G:xs[k]? =some x):∃ A ce a c,U.ve= .slice A xs.length ce∧Hb.a7 w.heap tb 15=some (.slice A xs.length ce)∧aR w.heap A (kP<|xs.zip U.ws)∧(xs.zip U.ws)[k]? =some (x,.slice a x.2.length c)∧Tg w B 95 x.2.length (.slice a x.2.length c) (x.2.map bA):=by
 obtain ⟨A,ce,E⟩:=cM h.oe;have I:=h.oe;rw [E] at I;have hk:=(fS.1 G).1;obtain ⟨v,J,C⟩:=eU.get h.ef (show k < (xs.map (·.2)).length by rw [fH]; exact hk);have O:(xs.map (·.2)).getD k []=x.2:=by rw [da,gi,G]; rfl
 rw [O] at C;obtain ⟨a,c,rfl⟩:=C.slice;exact ⟨A,ce,a,c,E,by rw [← E]; exact (bo h.cells).trans ag,(bg I).2,j9.2 ⟨G,J⟩,C⟩
theorem adJ {w:World} {B tb:Nat} {U:gO} {F:aX} {xs:List bE} (h:gj w B tb U F xs):∃ A ce,Hb.a7 w.heap tb 15=some (.slice A xs.length ce):=by
 obtain ⟨A,ce,C⟩:=cM h.oe;exact ⟨A,ce,by rw [← C]; exact (bo h.cells).trans ag⟩
theorem adK {w:World} {B tb:Nat} {U:gO} {F:aX} {xs:List bE} (h:gj w B tb U F xs):∃ ar cr,Hb.a7 w.heap tb 14=some (.slice ar F.rules.length cr):=by
 obtain ⟨ar,cr,A⟩:=cM h.ax.dR;exact ⟨ar,cr,by rw [← A]; exact (bo h.cells).trans ag⟩
theorem R6 {w:World} {B:Nat} {F:aX} {V:fN} (h:qQ w B F V) {k:Nat} {r:dd} (C:F.rules[k]? =some r):∃ ar cr a c,V.v12= .slice ar F.rules.length cr∧aR w.heap ar (iQ<|F.rules.zip V.rn)∧(F.rules.zip V.rn)[k]? =some (r,.slice a r.next.length c)∧Tg w B 95 r.next.length (.slice a r.next.length c) (r.next.map bA):=by
 obtain ⟨ar,cr,G⟩:=cM h.dR;have E:=h.dR;rw [G] at E;have hk:=(fS.1 C).1;obtain ⟨v,I,A⟩:=eU.get h.nx (show k < (F.rules.map (·.next)).length by rw [fH]; exact hk);have J:(F.rules.map (·.next)).getD k []=r.next:=by rw [da,gi,C]; rfl
 rw [J] at A;obtain ⟨a,c,rfl⟩:=A.slice;exact ⟨ar,cr,a,c,G,(bg E).2,j9.2 ⟨C,I⟩,A⟩
structure gN (w:World) (B tb fb:Nat) (V:eM) (ve:Value) (F:aX) (xs:List bE):Prop where
 cells:w.heap[tb]? =some (.cells [.pointer (some ⟨fb,0,none⟩),ve].toArray 78 (0,0))
 fl:e7 w B 0 fb F V
 en:ow w B ve xs
theorem gN.wk {w w':World} {B tb fb:Nat} {V:eM} {ve:Value} {F:aX} {xs:List bE} (h:gN w B tb fb V ve F xs) (hm:Wk w w'):gN w' B tb fb V ve F xs:=⟨Wk.aW hm h.cells,h.fl.wk hm,h.en.wk hm⟩
theorem gN.dQ {w:World} {B tb fb:Nat} {V:eM} {ve:Value} {F:aX} {xs:List bE} (h:gN w B tb fb V ve F xs) {k:Nat} {x:bE} (G:xs[k]? =some x):∃ A ce ws a c,Hb.a7 w.heap tb 1=some (.slice A xs.length ce)∧aR w.heap A (kP<|xs.zip ws)∧(xs.zip ws)[k]? =some (x,.slice a x.2.length c)∧Tg w 0 3 x.2.length (.slice a x.2.length c) (x.2.map bV):=by
 obtain ⟨ws,E,J⟩:=h.en;obtain ⟨A,ce,I⟩:=cM E;rw [I] at E;have hk:=(fS.1 G).1;obtain ⟨v,O,C⟩:=jl.get J (show k < (xs.map (·.2)).length by rw [fH]; exact hk);have Y:(xs.map (·.2)).getD k []=x.2:=by rw [da,gi,G]; rfl
 rw [Y] at C;obtain ⟨a,c,rfl⟩:=C.slice;exact ⟨A,ce,ws,a,c,by rw [← I]; exact (bo h.cells).trans ag,(bg E).2,j9.2 ⟨G,O⟩,C⟩
theorem gN.GG {w:World} {B tb fb:Nat} {V:eM} {ve:Value} {F:aX} {xs:List bE} (h:gN w B tb fb V ve F xs):∃ A ce,Hb.a7 w.heap tb 1=some (.slice A xs.length ce):=by
 obtain ⟨ws,C,G⟩:=h.en;obtain ⟨A,ce,E⟩:=cM C;exact ⟨A,ce,by rw [← E]; exact (bo h.cells).trans ag⟩
theorem gN.GH {w:World} {B tb fb:Nat} {V:eM} {ve:Value} {F:aX} {xs:List bE} (h:gN w B tb fb V ve F xs):∃ ar cr,Hb.a7 w.heap fb 12=some (.slice ar F.rules.length cr):=by
 obtain ⟨ar,cr,A⟩:=cM h.fl.dR;exact ⟨ar,cr,by rw [← A]; exact (bo h.fl.cells).trans ag⟩
theorem gN.jG {w:World} {B tb fb:Nat} {V:eM} {ve:Value} {F:aX} {xs:List bE} (h:gN w B tb fb V ve F xs) {k:Nat} {r:dd} (C:F.rules[k]? =some r):∃ ar cr a c,Hb.a7 w.heap fb 12=some (.slice ar F.rules.length cr)∧aR w.heap ar (nL<|F.rules.zip V.rn)∧(F.rules.zip V.rn)[k]? =some (r,.slice a r.next.length c)∧Tg w 0 3 r.next.length (.slice a r.next.length c) (r.next.map bV):=by
 obtain ⟨ar,cr,G⟩:=cM h.fl.dR;have E:=h.fl.dR;rw [G] at E;have hk:=(fS.1 C).1;obtain ⟨v,I,A⟩:=jl.get h.fl.nx (show k < (F.rules.map (·.next)).length by rw [fH]; exact hk);have J:(F.rules.map (·.next)).getD k []=r.next:=by rw [da,gi,C]; rfl
 rw [J] at A;obtain ⟨a,c,rfl⟩:=A.slice;exact ⟨ar,cr,a,c,by rw [← G]; exact (bo h.fl.cells).trans ag,(bg E).2,j9.2 ⟨C,I⟩,A⟩
theorem Yj {w:World} {B B' B0 fb:Nat} {F:aX} {V:eM} (h:e7 w B B0 fb F V) (A:B'≤B):e7 w B' B0 fb F V:=⟨h.cells,eT h.o9 A,eT h.fD A,h.al,eT h.eS A,eT h.dR A,h.nx,fu A h.lo,h.gG⟩
theorem Yx {w:World} {B B':Nat} {v:Value} {xs:List bE} (h:ow w B v xs) (A:B'≤B):ow w B' v xs:=by
 obtain ⟨vs,h1,h2⟩:=h;exact ⟨vs,eT h1 A,h2⟩
theorem Yz {s:Tx} {w w':World} {v:Value} (h:mN s w v w'):∃ p l e,v= .tuple #[.pointer p,.int .i64 l,.int .i64 e]∧((e≠0∧∃ er,ga s= .error er)∨(e=0∧∃ F B fb V,p=some ⟨fb,0,none⟩∧ga s= .ok F∧w.heap.size≤B∧e7 w' B 0 fb F V∧(∃ seen,pd F [] seen)∧Nx F))∧Wk w w':=by
 obtain ⟨h,A⟩:=h;cases hx:ga s with
 | error e=>rw [hx] at h; exact ⟨_,_,_,h,.inl ⟨by have :=RB hx; omega,e,rfl⟩,A⟩
 | ok F=>rw [hx] at h; obtain ⟨B,fb,V,C,E,h1,h2,h3⟩:=h; exact ⟨_,_,_,E,.inr ⟨rfl,F,B,fb,V,rfl,rfl,C,h1,h2,h3⟩,A⟩
theorem YC {F:aX} {s:Tx} {w w':World} {v:Value} (h:mu F s w v w'):∃ a l e,v= .tuple #[a,.int .i64 l,.int .i64 e]∧a.oneCell'=true∧((e≠0∧∃ er,fV F s= .error er)∨(e=0∧∃ xs,fV F s= .ok xs∧ow w' w.heap.size a xs))∧Wk w w':=by
 obtain ⟨h,A⟩:=h;cases hx:fV F s with
 | error e=>rw [hx] at h; exact ⟨_,_,_,h,rfl,.inl ⟨by have :=WA hx; omega,e,rfl⟩,A⟩
 | ok xs=>rw [hx] at h; obtain ⟨a,E,h1⟩:=h; exact ⟨_,_,_,E,(by obtain ⟨ws,C,_⟩:=h1; exact fG C),.inr ⟨rfl,xs,rfl,h1⟩,A⟩
def wU (a t:Tx) (w:World) (v:Value) (w':World):Prop :=(∃ p A C E,v= .tuple #[.pointer p,.agg [.int .i64 A,.int .i64 C,.int .i64 E].toArray]∧match lx a t with
 | none=>p=none
 | some T=> ∃ B tb fb V ve,p=some ⟨tb,0,none⟩∧gN w' B tb fb V ve T.1 T.2)∧Wk w w'
theorem wU.no {a t:Tx} {w w':World} {A C E:Int} (h:lx a t=none) (hm:Wk w w'):wU a t w (.tuple #[.pointer none,.agg [.int .i64 A,.int .i64 C,.int .i64 E].toArray]) w':=⟨⟨none,A,C,E,rfl,by rw [h]⟩,hm⟩
theorem ace (a t:Tx) (w:World) (a1:a.length≤1048576) (a7:t.length≤1048576):
 bw aE 29 (bl [str a,str t]) w (wU a t w):=by
 refine enter func29 ag ntmps29 ag<|ak fun aC=>p aJ<|e<|hU PQ fun ap ao bd I aq=> ?_;have bj:=I.size;have ae:bX ao.heap ap [.int .i64 0,.int .i64 0,.int .i64 0]:=⟨_,aq⟩
 refine nl<|aC<|ak fun aD=>aw (str a)<|e<|cl T6 (abD a ao a1) ag fun v12 aB aZ=> ?_;have a4:=Yz aZ;obtain ⟨pp,am,ab,rfl,az,A⟩:=a4;have bg:=A.size;refine p mv<|p (xt ag ag)<|p (xt ag ag)<|p (xt ag ag)<|p aJ<|p aJ<|p aJ<|nl<|aD<|aH fun aF=>ak fun aG=>p mv<|p (dw ag ag)<|nl<|aG ?_;refine cd ag (fun ai=> ?_) fun ai=> ?_;obtain ⟨er,J⟩:=(az.resolve_right fun h=>ai h.1).2;exact ak fun O=>p mv<|p mv<|p (dt (ps:= [(0,.int .i64 1),(1,.int .i64 am),(2,.int .i64 ab)]) (L:= [.int .i64 1,.int .i64 am,.int .i64 ab]) Gh ag<|ag)<|p aJ<|e<|dy zD ag ag ag ag (Wk.B A ae) (by simp) fun bk aV aO=>nl<|O<|rt<|tr<|eV ag eI (eo (cs:= [.int .i64 1,.int .i64 am,.int .i64 ab]) ag Cv ag fun j av=>aO.bF j)<|wU.no (O3 J)<|(I.md.trans A).trans' aV fun q aA h=>by omega
 obtain ⟨bf,F,B,fb,V,rfl,J,aS,au,aR,aY⟩:=az.resolve_left fun h=>ai h.1;refine aT<|aF<|ak fun O=>p mv<|aw (str t)<|e<|cl T7 (Yc B fb F V t aB au aR aY a7) ag fun v24 a8 a0=> ?_;have a5:=YC a0;obtain ⟨a2,an,ac,rfl,bb,ay,C⟩:=a5;have bh:=C.size;refine p mv<|p (xt ag ag)<|p (xt ag ag)<|p (xt ag ag)<|p aJ<|p aJ<|p aJ<|nl<|O<|aH fun aI=>ak fun aK=>p mv<|p (dw ag ag)<|nl<|aK ?_;refine cd ag (fun al=> ?_) fun al=> ?_;obtain ⟨er,hd⟩:=(ay.resolve_right fun h=>al h.1).2;exact ak fun Y=>p mv<|p mv<|p (dt (ps:= [(0,.int .i64 2),(1,.int .i64 an),(2,.int .i64 ac)]) (L:= [.int .i64 2,.int .i64 an,.int .i64 ac]) Gh ag<|ag)<|p aJ<|e<|dy zD ag ag ag ag (Wk.B (A.trans C) ae) (by simp) fun bm aX aP=>nl<|Y<|rt<|tr<|eV ag eI (eo (cs:= [.int .i64 2,.int .i64 an,.int .i64 ac]) ag Cv ag fun j av=>aP.bF j)<|wU.no (O4 J hd)<|(I.md.trans<|A.trans C).trans' aX fun q aA h=>by omega
 obtain ⟨Ez,xs,hd,ba,ax,a3⟩:=ay.resolve_left fun h=>al h.1;obtain ⟨Z,aa,rfl⟩:=cM ax;have aU:ow a8 aB.heap.size (.slice Z xs.length aa) xs:=⟨ba,ax,a3⟩
 refine aT<|aI<|ak fun Y=>p mv<|p mv<|p (dt (ps:= [(0,a6 fb),(1,.slice Z xs.length aa)]) (L:= [a6 fb,.slice Z xs.length aa]) adb ag<|ag)<|e<|oB ag fun aL a9 bc E aN=> ?_;have bi:=E.size;refine p (dt (ps:= []) (L:= [.int .i64 0,.int .i64 0,.int .i64 0]) Gh ag<|ag)<|p aJ<|e<|dy zD ag ag ag ag (Wk.B ((A.trans C).trans E.md) ae) (by simp) fun bn G aQ=>nl<|Y<|rt<|eV ag eI (eo (cs:= [.int .i64 0,.int .i64 0,.int .i64 0]) ag Cv ag fun j av=>aQ.bF j) ?_;refine ⟨⟨_,_,_,_,ag,?_⟩,(I.md.trans<|(A.trans C).trans E.md).trans' G fun q aA h=>by omega⟩;rw [Gp J hd];have ah:TF a9 [71] (fun q=>q=ap):=TF.eq (dS<|Wk.aW ((A.trans C).trans E.md) aq) aM;refine ⟨ao.heap.size,aL,fb,V,_,ag,G.jd ah aN aM,Yj ((au.wk<|C.trans E.md).md G ah aM) aS,Yx ((aU.wk E.md).md G ah aM) aj⟩
end Go.Hb
end
namespace Go.Hb
def abM:Go.Shelf.Ren:=⟨fun n=>if n=125 then 66 else if n=128 then 123 else if n=129 then 124 else if n=189 then 143 else if n=215 then 177 else if n=216 then 249 else if n=257 then 208 else if n=294 then 243 else if n=295 then 244 else if n=296 then 245 else if n=297 then 246 else if n=298 then 247 else if n=299 then 248 else if n=300 then 250 else if n=301 then 251 else if n=328 then 269 else if n=329 then 184 else if n=330 then 185 else if n=331 then 270 else if n=332 then 271 else if n=343 then 293 else 0,fun n=>if n=0 then 0 else if n=3 then 3 else if n=4 then 4 else if n=5 then 5 else if n=9 then 9 else if n=28 then 85 else if n=46 then 145 else if n=51 then 240 else if n=53 then 242 else if n=131 then 237 else if n=182 then 232 else if n=183 then 233 else if n=218 then 287 else if n=222 then 291 else if n=228 then 335 else if n=229 then 219 else 0,fun n=>n⟩
theorem MM:Go.Proofs.Lays.n189 aE abM where
 mixed:=au
 f125:=au
 f128:=au
 f129:=au
 f189:=au
 f215:=au
 f216:=au
 f257:=au
 f294:=au
 f295:=au
 f296:=au
 f297:=au
 f298:=au
 f299:=au
 f300:=au
 f301:=au
 f328:=au
 f329:=au
 f330:=au
 f331:=au
 f332:=au
 f343:=au
 t0:=au
 a0:=fun _=>au
 z0:=fun _=>au
 v0:=fun _=>au
 t3:=au
 a3:=fun _=>au
 z3:=fun _=>au
 v3:=fun _=>au
 t4:=au
 a4:=fun _=>au
 z4:=fun _=>au
 v4:=fun _=>au
 t5:=au
 a5:=fun _=>au
 z5:=fun _=>au
 v5:=fun _=>au
 t9:=au
 a9:=fun _=>au
 z9:=fun _=>au
 v9:=fun _=>au
 t28:=au
 a28:=fun _=>au
 z28:=fun _=>au
 v28:=fun _=>au
 t46:=au
 a46:=fun _=>au
 z46:=fun _=>au
 v46:=fun _=>au
 t51:=au
 a51:=fun _=>au
 z51:=fun _=>au
 v51:=fun _=>au
 t53:=au
 a53:=fun _=>au
 z53:=fun _=>au
 v53:=fun _=>au
 t131:=au
 a131:=fun _=>au
 z131:=fun _=>au
 v131:=fun _=>au
 t182:=au
 a182:=fun _=>au
 z182:=fun _=>au
 v182:=fun _=>au
 t183:=au
 a183:=fun _=>au
 z183:=fun _=>au
 v183:=fun _=>au
 t218:=au
 a218:=fun _=>au
 z218:=fun _=>au
 v218:=fun _=>au
 t222:=au
 a222:=fun _=>au
 z222:=fun _=>au
 v222:=fun _=>au
 t228:=au
 a228:=fun _=>au
 z228:=fun _=>au
 v228:=fun _=>au
 t229:=au
 a229:=fun _=>au
 z229:=fun _=>au
 v229:=fun _=>au
theorem acN (B n:Nat) (v:Value) (A:List Int) (w:World) (G:bB w B 3 1 v n (A.map<|gY .i64)) (Y:A.length≤1048576):
 bw aE 143 [v].toArray w (fun V w'=>V= .tuple #[]∧bB w' B 3 1 v n ((A.mergeSort fun x y=>decide (x≤y)).map<|gY .i64)∧Md (fun k=>v.ownBlock=some k) w w'):=by
 have hn:A.length=n:=by have :=G.1; simpa using this
 have hlen:(A.mergeSort fun x y=>decide (x≤y)).length=A.length:=List.length_mergeSort _;rcases G.2 with ⟨rfl,Z⟩ | ⟨g,cap,cur,rfl,I,E,h1,h2,h3,h4⟩
 · have O:A= []:=fY aj;subst O;refine lU (Any.slices_Sort_int_none MM none 0 w) ?_;rintro e w' ⟨rfl,rfl⟩;exact ⟨_,ag,ag,by rw [List.mergeSort_nil]; exact G,Md.refl _ _⟩
 · subst hn;rw [Nat.mul_one] at h4;refine lU (calls_of_every_depth fun D=>AnyS.slices_Sort_int_alone MM D g 0 cap A w (holds_of_blockI E h4) (dT.1 E).1 aj) ?_;rintro e w' ⟨rfl,m,os,rfl⟩;have C:=grownBy_sortedI (w:=w) (g:=g) (n:=m) (os:=os) (A.mergeSort fun x y=>decide (x≤y)).toArray;refine ⟨_,ag,ag,ownsRow_sortedI hlen I E h1 h2 h3,⟨C.os,C.output,C.size,fun k hk J=>C.block k hk fun he=>J ?_⟩⟩;simp only [Value.ownBlock]; exact he.symm
end Go.Hb
section
namespace Go.Hb.ku
open Go.Hb.gr Go.Hb.jK Go.Hb.jW Go.Hb.k5
theorem MY (l:List Nat):(l.map fun i:Nat=>(i:Int)).map (gY .i64)=l.map bV:=by rw [List.map_map]; rfl
theorem pZ {F:aX} {xs:List bE} (h:eH F xs) (n:Int):(flagsOf xs n).length≤64∧l0 (flagsOf xs n):=by
 by_cases hn:0≤n∧n < xs.length
 · obtain ⟨k,rfl⟩:∃ k:Nat,n=(k:Int):=⟨n.toNat,aj⟩
   have A:xs[k]? =some xs[k]:=cz aj;rw [(tw A).2.1];exact ⟨(h.xr _<|gL A).2.1,h.WN _<|gL A⟩
 · rw [(uN hn).2]; exact ⟨iK _,xO⟩
theorem vM {F:aX} {xs:List bE} (h:eH F xs) (n:Int):(cH F n).length≤64∧l0 (cH F n):=by
 by_cases hn:0≤n∧n < F.rules.length
 · obtain ⟨k,rfl⟩:∃ k:Nat,n=(k:Int):=⟨n.toNat,aj⟩
   have A:F.rules[k]? =some F.rules[k]:=cz aj;rw [(yf A).2.1];exact ⟨(h.jG A).1,(h.jG A).2.1⟩
 · rw [(yg hn).2]; exact ⟨iK _,xO⟩
theorem Vf {F:aX} {k f:Nat} (h:(eB F.bG f).isSome=false):iw F k f= []:=by
 unfold iw;cases h2:eB F.bG f with
 | none=>rfl
 | some c=>rw [h2] at h; cases h
theorem Vi {F:aX} {k f:Nat} {c:dD} (h:(eB F.bG f).isSome=true) (A:(eB F.bG f).getD uU=c):eB F.bG f=some c:=by
 cases h2:eB F.bG f with
 | none=>rw [h2] at h; cases h
 | some d=>rw [h2] at A; exact congrArg some A
theorem Vg {F:aX} {k f:Nat} {c:dD} (h:eB F.bG f=some c) (hk:c.kind≠k):iw F k f= []:=by unfold iw; rw [h]; exact if_neg hk
theorem Vj {F:aX} {k f:Nat} {c:dD} (h:eB F.bG f=some c) (hk:c.kind=k):iw F k f=(gZ c.count).map (c.first+ ·):=by unfold iw; rw [h]; exact if_pos hk
theorem Vd {F:aX} (A:qS F) {f:Nat} {c:dD} (h:eB F.bG f=some c):c.first+c.count≤F.rules.length:=(A.xo c (KP h).1).1
theorem XC {fs:List Nat} {f:Nat→List Nat} {i:Nat} (h:i < fs.length):(fs.take<|i+1).flatMap f=(fs.take i).flatMap f++f (fs.getD i 0):=by
 rw [fX fs i 0 h,List.flatMap_append,List.flatMap_singleton]
theorem Nj {F:aX} (A:qS F) {fs:List Nat} (h:fs.Pairwise (· < ·)) (k:Nat):(fs.flatMap<|iw F k).length=(bq F fs k).length:=by
 obtain ⟨h1,h2⟩:=Ni A (k:=k) h;exact ((List.perm_ext_iff_of_nodup h1<|(E9 F fs k).imp fun h=>by omega).2 h2).length_eq
theorem aaH {F:aX} (A:qS F) {fs:List Nat} (h:fs.Pairwise (· < ·)) (k:Nat):(fs.flatMap<|iw F k).length≤F.rules.length:=by
 rw [Nj A h]; exact vC F fs k
def nQ (F:aX) (fs:List Nat) (kind n:Nat):List Nat:=(gZ n).filter fun i=>decide ((F.rules.getD i dU).kind=kind∧(F.rules.getD i dU).flag∈fs)
theorem aaG (F:aX) (fs:List Nat) (kd n:Nat):nQ F fs kd (n+1)=nQ F fs kd n++(if (F.rules.getD n dU).kind=kd∧(F.rules.getD n dU).flag∈fs then [n] else []):=by
 unfold nQ;rw [Ce,List.filter_append];congr 1;rw [List.filter_cons,List.filter_nil];by_cases h:(F.rules.getD n dU).kind=kd∧(F.rules.getD n dU).flag∈fs
 · rw [decide_eq_true h,if_pos h]; rfl
 · rw [decide_eq_false h,if_neg h]; rfl
theorem aaF (F:aX) (fs:List Nat) (kd n:Nat):(nQ F fs kd n).length≤n:=by
 unfold nQ; have :=List.length_filter_le (fun i=>decide ((F.rules.getD i dU).kind=kd∧(F.rules.getD i dU).flag∈fs)) (gZ n); simpa using this
def oP (r:dd) (fs:List Nat) (kd i k:Nat):List Nat:=if r.kind=kd∧r.flag∈fs.take k then [i] else []
theorem Nq (r:dd) (fs:List Nat) (kd i:Nat):oP r fs kd i 0= []:=if_neg fun h=>by simp at h
theorem Np {r:dd} {fs:List Nat} {kd i k:Nat} (hk:k < fs.length) (h:fs.getD k 0≠r.flag):oP r fs kd i (k+1)=oP r fs kd i k:=by
 unfold oP;rw [fX fs k 0 hk];have :r.flag∈fs.take k++ [fs.getD k 0]↔r.flag∈fs.take k:=by
  rw [gq,gD]; exact ⟨fun h2=>h2.elim id (fun e=>absurd e.symm h),.inl⟩
 simp only [this]
theorem aaN {r:dd} {fs:List Nat} {kd i k:Nat} (G:fs.Pairwise (· < ·)) (hk:k < fs.length) (h:fs.getD k 0=r.flag) (I:r.kind=kd):oP r fs kd i (k+1)=oP r fs kd i k++ [i]:=by
 unfold oP;rw [fX fs k 0 hk];have hn:r.flag∉fs.take k:=fun h2=>by
  obtain ⟨j,A⟩:=List.getElem?_of_mem h2;have C:j < k:=by have :=(fS.1 A).1; rw [List.length_take] at this; omega
  rw [List.getElem?_take_of_lt C] at A;have E:=fS.1 A;have :=List.pairwise_iff_getElem.1 G j k E.1 hk C;rw [da,cz hk] at h;simp only [Option.getD_some] at h;have h3:=E.2;omega
 rw [if_pos ⟨I,by rw [gq]; exact .inr<|gD.2 h.symm⟩,if_neg (fun h2=>hn h2.2)]; rfl
theorem No {F:aX} {r:dd} {fs:List Nat} {kd i k:Nat} (A:F.rules.getD i dU=r) (h:k=fs.length∨r.kind≠kd):nQ F fs kd i++oP r fs kd i k=nQ F fs kd (i+1):=by
 rw [aaG,A];congr 1;unfold oP;rcases h with rfl | h
 · rw [List.take_length]
 · rw [if_neg (fun h2=>h h2.1),if_neg (fun h2=>h h2.1)]
def gV (F:aX) (xs:List bE) (e k:Int):Bool:=decide (0≤k∧k < 5) && tJ F xs e k.toNat
theorem O8 {w:World} {B tb:Nat} {U:gO} {F:aX} {xs:List bE} (h:gj w B tb U F xs) {k:Nat} (hk:k < 5):Hb.a7 w.heap tb (5 +k*1)=some (bA<|F.sp.getD k 0):=by
 refine (bo h.cells).trans ?_
 match k,hk with
 | 0,_=>rfl
 | 1,_=>rfl
 | 2,_=>rfl
 | 3,_=>rfl
 | 4,_=>rfl
theorem LZ {w:World} {B tb fb:Nat} {V:eM} {ve:Value} {F:aX} {xs:List bE} (h:gN w B tb fb V ve F xs) {k:Nat} (hk:k < 5):Hb.a7 w.heap fb (3 +k*1)=some (bV<|F.sp.getD k 0):=by
 refine (bo h.fl.cells).trans ?_
 match k,hk with
 | 0,_=>rfl
 | 1,_=>rfl
 | 2,_=>rfl
 | 3,_=>rfl
 | 4,_=>rfl
theorem L8 {x:Nat} {l:List Nat} (h:0∉l):decide (x∈l)=decide (x≠0∧x∈l):=decide_eq_decide.2 ⟨fun h2=>⟨fun h3=>h (h3 ▸ h2),h2⟩,And.right⟩
theorem xq (B tb:Nat) (U:gO) (F:aX) (xs:List bE) (n:Int) (w:World) (aw:gj w B tb U F xs) (ai:eH F xs):
 bw aE 24 (bl [a6 tb,.int .i64 n]) w (fun v w'=>(∃ a,v= .tuple #[.agg [str (kQ xs n),a].toArray,.bool (decide (0≤n∧n < xs.length))]∧bB w' w.heap.size 95 1 a (flagsOf xs n).length ((flagsOf xs n).map bA))∧Wk w w'):=by
 obtain ⟨a3,ce,aZ⟩:=adJ aw;have bi:=ai.xl;refine enter func24 ag ntmps24 ag<|ak fun aD=>e<|al rJ fun a5 aB bb C J=> ?_;have bm:=C.size;have aU:=aw.wk C.md;have a1:=Wk.a7 C.md aZ;refine az<|aD<|aH fun aF=>ak fun ae=>p mv<|p (lJ yq ag ag)<|p mv<|gb (t:=9) ag (fun h=>absurd (h.symm.trans<|ag) eA) fun bd=>aV ag mv<|aV ag (lt ag ag)<|p (bD ag)<|p mv<|gs (t:=13) ag (fun aY=> ?_) fun aY=> ?_;refine aQ ag<|aQ ag<|aQ ag<|aQ ag<|aQ ag<|aQ ag<|aQ ag<|p (bI ag)<|nl<|ae<|ct ag<|ak fun E=>p (dt (ps:= []) (L:= [.string ⟨⟨[]⟩⟩,.slice none 0 0]) pX ag<|ag)<|e<|dy kO ag ag ag ag (J) (by simp) fun a2 V I=>p aJ<|nl<|E<|rt<|tr<|eV ag (eo (cs:= [str [],.slice none 0 0]) ag mz ag fun j Z=>I.bF j) eI ?_;have G:=uN (xs:=xs) (n:=n) aj;exact ⟨⟨.slice none 0 0,by rw [G.1,decide_eq_false (show ¬(0≤n∧n < (xs.length:Int)) by omega)]; rfl,by rw [G.2]; exact dC _ _ _ _⟩,C.md.trans' V fun q A h=>by omega⟩;refine aV ag mv<|aV ag mv<|aV ag (nc ag)<|aV ag (fa D1 ag)<|aV ag (ld wY ag<|a1)<|aV ag (bN Bu ag ag)<|aV ag (ge ag ag)<|p (bD ag)<|nl<|ae<|cd ag (fun aW=> ?_) fun aW=> ?_;refine ak fun E=>p (dt (ps:= []) (L:= [.string ⟨⟨[]⟩⟩,.slice none 0 0]) pX ag<|ag)<|e<|dy kO ag ag ag ag (J) (by simp) fun a2 V I=>az<|E<|rt<|tr<|eV ag (eo (cs:= [str [],.slice none 0 0]) ag mz ag fun j Z=>I.bF j) eI ?_;have G:=uN (xs:=xs) (n:=n) aj;exact ⟨⟨.slice none 0 0,by rw [G.1,decide_eq_false (show ¬(0≤n∧n < (xs.length:Int)) by omega)]; rfl,by rw [G.2]; exact dC _ _ _ _⟩,C.md.trans' V fun q A h=>by omega⟩;obtain ⟨k,rfl⟩:∃ k:Nat,n=(k:Int):=⟨n.toNat,aj⟩
 obtain ⟨x,ab⟩:∃ x,xs[k]? =some x:=⟨_,cz aj⟩
 obtain ⟨a4,a8,a,c,bf,a0,an,aA,ax⟩:=adI aU ab;have bg:=(ai.xr x<|gL ab).2.1;obtain ⟨aK,aL,a9,ba⟩:=tw ab;refine aT<|aF<|ak fun E=>p mv<|p (nc ag)<|p (fa D1 ag)<|p (ld wY ag<|a0)<|p mv<|p (bh DG ag ag aj<|aR.ok (an)<|uZ aA)<|p (dp mz ag (ag)<|fO (f:=qk) (m:=2) (fun _=>rfl) an aA)<|e<|al rJ fun ah bq bc av aS=> ?_;have bo:=av.size;refine e<|dy kO ag ag ag ag (aS) (by simp) fun ac aq aM=> ?_;have ao:Wk aB ac:=av.md.trans' aq fun q A h=>by omega
 have bj:=aq.size;have am:bX ac.heap ah [str x.1,.slice a x.2.length c]:=aM;refine nl<|E<|ak fun aG=>p (fa tE ag)<|p (ld oA ag<|am.bF 1)<|e<|cl uR (uT a x.2.length c (x.2.map bA) ac (ax.wk ao).du.2 (by simp) (fun h=>Tg.vD ax (by simp) h) (uL _) aj) ag ?_;rintro v32 bp ⟨aa,O⟩;obtain ⟨a32,zp,rfl⟩:=cM aa;have bk:=O.size;refine p (fa tE ag)<|e<|st uW ag ag (ag) (Wk.B O am) (by simp) fun aC Y aN=> ?_;have ap:Wk aB aC:=(ao.trans O).trans' Y fun q A h=>by omega
 have bn:=Y.size;have ay:=dz aa Y fun q A h=>by have :=(dK aa A).1; omega
 have aO:bX aC.heap ah [str x.1,.slice a32 x.2.length zp]:=aN;exact nl<|aG<|ak fun aI=>p (dp mz ag (ag) fun j Z=>aO.bF j)<|e<|dy kO ag ag ag ag (Wk.B ap J) (by simp) fun br au aP=>p aJ<|nl<|aI<|rt<|eV ag (eo (cs:= [str x.1,.slice a32 x.2.length zp]) ag mz ag fun j Z=>aP.bF j) eI<|⟨⟨_,by rw [aK,decide_eq_true (show 0≤(k:Int)∧(k:Int) < (xs.length:Int) by omega)]; rfl,by rw [aL]; exact dz (eT ay aj) au fun q A h=>by have :=(dK ay A).1; omega⟩,(C.md.trans ap).trans' au fun q A h=>by omega⟩
theorem AZ (B tb:Nat) (U:gO) (F:aX) (xs:List bE) (n:Int) (w:World) (aA:gj w B tb U F xs) (an:eH F xs):
 bw aE 87 (bl [a6 tb,.int .i64 n]) w (fun v w'=>(∃ a,v= .tuple #[.agg (fk (tR F n,a)).toArray,.bool (decide (0≤n∧n < F.rules.length))]∧bB w' w.heap.size 95 1 a (cH F n).length ((cH F n).map bA))∧Wk w w'):=by
 obtain ⟨bc,ce,a5⟩:=adK aA;have bm:=an.len;refine enter func87 ag ntmps87 ag<|ak fun aI=>e<|al rH fun aO I bg C O=> ?_;have bq:=C.size;have aB:=aA.wk C.md;have ba:=Wk.a7 C.md a5;have aZ:bX I.heap aO (fk (dU,.slice none 0 0)):=O;refine az<|aI<|aH fun aK=>ak fun ah=>p mv<|p (lJ yq ag ag)<|p mv<|gb (t:=9) ag (fun h=>absurd (h.symm.trans<|ag) eA) fun bj=>aV ag mv<|aV ag (lt ag ag)<|p (bD ag)<|p mv<|gs (t:=13) ag (fun a4=> ?_) fun a4=> ?_;refine aQ ag<|aQ ag<|aQ ag<|aQ ag<|aQ ag<|aQ ag<|aQ ag<|aQ ag<|p (bI ag)<|nl<|ah<|ct ag<|ak fun E=>p (dt (ps:= []) (L:= [.int .i64 0,.int .u16 0,.bool false,.string ⟨⟨[]⟩⟩,.string ⟨⟨[]⟩⟩,.string ⟨⟨[]⟩⟩,.slice none 0 0]) Ge ag<|ag)<|e<|dy pI ag ag ag ag (O) (by simp) fun bb Y J=>az<|E<|rt<|tr<|eV ag (eo (cs:=fk (dU,.slice none 0 0)) ag l6 ag fun j aa=>J.bF j) eI ?_;have G:=yg (F:=F) (n:=n) aj;exact ⟨⟨.slice none 0 0,by rw [G.1,decide_eq_false (show ¬(0≤n∧n < (F.rules.length:Int)) by omega)]; rfl,by rw [G.2]; exact dC _ _ _ _⟩,C.md.trans' Y fun q A h=>by omega⟩;refine aV ag mv<|aV ag mv<|aV ag (nc ag)<|aV ag (fa xB ag)<|aV ag (fa pM ag)<|aV ag (ld nB ag<|ba)<|aV ag (bN sR ag ag)<|aV ag (ge ag ag)<|p (bD ag)<|nl<|ah<|cd ag (fun a3=> ?_) fun a3=> ?_;refine ak fun E=>p (dt (ps:= []) (L:= [.int .i64 0,.int .u16 0,.bool false,.string ⟨⟨[]⟩⟩,.string ⟨⟨[]⟩⟩,.string ⟨⟨[]⟩⟩,.slice none 0 0]) Ge ag<|ag)<|e<|dy pI ag ag ag ag (O) (by simp) fun bb Y J=>az<|E<|rt<|tr<|eV ag (eo (cs:=fk (dU,.slice none 0 0)) ag l6 ag fun j aa=>J.bF j) eI ?_;have G:=yg (F:=F) (n:=n) aj;exact ⟨⟨.slice none 0 0,by rw [G.1,decide_eq_false (show ¬(0≤n∧n < (F.rules.length:Int)) by omega)]; rfl,by rw [G.2]; exact dC _ _ _ _⟩,C.md.trans' Y fun q A h=>by omega⟩;obtain ⟨k,rfl⟩:∃ k:Nat,n=(k:Int):=⟨n.toNat,aj⟩
 obtain ⟨r,ac⟩:∃ r,F.rules[k]? =some r:=⟨_,cz aj⟩
 obtain ⟨aN,aP,a,c,a8,ap,aF,aC⟩:=R6 aB.ax ac;have a9:Hb.a7 I.heap tb 14=some (.slice aN F.rules.length aP):=by rw [← a8]; exact (bo aB.cells).trans rfl
 have bk:=(an.jG ac).1;obtain ⟨aS,aU,bd,bf⟩:=yf ac;refine aT<|aK<|ak fun E=>p mv<|p (nc ag)<|p (fa xB ag)<|p (fa pM ag)<|p (ld nB ag<|a9)<|p mv<|p (bh nH ag ag aj<|aR.ok (ap)<|oV aF)<|p (dp l6 ag (ag)<|fO (f:=fk) (m:=7) (fun _=>rfl) ap aF)<|e<|al rH fun am bv bi ay a2=> ?_;have bs:=ay.size;refine e<|dy pI ag ag ag ag (a2) (by simp) fun ae av aW=> ?_;have aq:Wk I ae:=ay.md.trans' av fun q A h=>by omega
 have bn:=av.size;have ao:bX ae.heap am (fk (r,.slice a r.next.length c)):=aW;refine nl<|E<|ak fun aL=>p (fa ss ag)<|p (ld oA ag<|ao.bF 6)<|e<|cl uR (uT a r.next.length c (r.next.map bA) ae (aC.wk aq).du.2 (by simp) (fun h=>Tg.vD aC (by simp) h) (uL _) aj) ag ?_;rintro bt bu ⟨ab,V⟩;obtain ⟨ai,C8,rfl⟩:=cM ab;have bp:=V.size;refine p (fa ss ag)<|e<|st uW ag ag (ag) (Wk.B V ao) (by show 6 < 7; omega) fun aG Z aY=> ?_;have au:Wk I aG:=(aq.trans V).trans' Z fun q A h=>by omega
 have br:=Z.size;have aD:=dz ab Z fun q A h=>by have :=(dK ab A).1; omega
 have a0:bX aG.heap am (fk (r,.slice ai r.next.length C8)):=aY;exact nl<|aL<|ak fun aM=>p (dp l6 ag (ag) fun j aa=>a0.bF j)<|e<|dy pI ag ag ag ag (Wk.B au aZ) (by show 7≤7; omega) fun bx aw a1=>p aJ<|nl<|aM<|rt<|eV ag (eo (cs:=fk (r,.slice ai r.next.length C8)) ag l6 ag fun j aa=>a1.bF j) eI<|⟨⟨_,by rw [aS,decide_eq_true (show 0≤(k:Int)∧(k:Int) < (F.rules.length:Int) by omega)]; rfl,by rw [aU]; exact dz (eT aD aj) aw fun q A h=>by have :=(dK aD A).1; omega⟩,(C.md.trans au).trans' aw fun q A h=>by omega⟩
theorem Zl (a:Option Addr) (c:Nat) (l:List Nat) (x:Nat) (w:World) (E:aR w.heap a (l.map bA)) (ao:l.length≤1048576):
 bw aE 142 (bl [.slice a l.length c,bA x]) w (fun v w'=>(∃ k:Int,v= .int .i64 k∧(0≤k↔x∈l)∧ -1≤k∧k≤1048576)∧Wk w w'):=by
 refine enter func142 ag ntmps142 ag<|ak fun Y=>az<|Y<|aH fun Z=>ak fun aa=>aw (.slice a l.length c)<|p (bN Pf ag ag)<|p mv<|nl<|aa<|aW<|lp (fun C V O=> ∃ (i:Nat),(i≤l.length)∧(∀ j,j < i→l.getD j 0≠x)∧(O=w)∧(Sl V [(0,.slice a l.length c),(1,bA x),(7,ay (l.length)),(8,ay i)])∧(l.length - i=C)) _ ⟨0,aj,(fun j I=>by omega),ag,ag,ag⟩ ?_;rintro C V O ⟨i,hi,J,al,an,rfl⟩;refine bH an ?_;subst al;refine ak fun ab=>p (lt ag ag)<|nl<|ab<|aH fun ac=>cd ag (fun am=> ?_) fun am=> ?_;refine aT<|ac<|aH fun A=>aW<|ak fun ae=>aw (ay i)<|p (cV (ay i) ag)<|nl<|ae<|ak fun ah=>aw (bA x)<|aw (.slice a l.length c)<|aw (ay i)<|p (bh Ky ag ag aj<|aR.ok (E)<|bY aj)<|p (ld dA ag<|aR.gQ E (show (l.map bA)[i]? =some (bA<|l.getD i 0) by rw [gi,da,cz (by omega :i < l.length)]; rfl)) ?_;refine p (bT ag ag)<|nl<|ah<|cd ag (fun G=> ?_) fun G=> ?_;exact ak fun ai=>aw (ay i)<|p (cV (ay i) ag)<|nl<|ai<|rt<|br<|tr<|tr<|br<|tr<|ba ag<|⟨⟨(i:Nat),ag,⟨fun _=>by obtain rfl :x=l.getD i 0:=aj; exact ek aj,fun _=>by omega⟩,aj,aj⟩,Md.refl _ _⟩
 exact aT<|bn<|A<|rg ag<|p (ad ag ag<|cR aj)<|p mv<|nl<|tn<|⟨_,aj,i+1,aj,(fun j I=>by rcases fT j i with h | h <;> first | exact J j h | (rw [show j=i by omega]; exact fun h2=>G<|by rw [h2])),ag,ag,ag⟩
 exact ext<|bj<|bj<|be<|Z<|ak fun A=>p aJ<|nl<|A<|rt<|ba ag<|⟨⟨-1,ag,⟨fun h=>absurd h aj,fun h=>by obtain ⟨j,I,e⟩:=mY 0 h; exact absurd e<|J j aj⟩,aj,aj⟩,Md.refl _ _⟩
theorem Vz (a:Option Addr) (c:Nat) (l:List Nat) (x:Nat) (w:World) (E:aR w.heap a (l.map bA)) (I:l.length≤1048576):
 bw aE 85 (bl [.slice a l.length c,bA x]) w (fun v w'=>v= .bool (decide (x∈l))∧Wk w w'):=by
 refine enter func85 ag ntmps85 ag<|ak fun A=>az<|A<|ak fun C=>aw (.slice a l.length c)<|aw (bA x)<|e<|cl SK (Zl a c l x w E I) ag ?_;rintro V Y ⟨⟨J,rfl,G,O⟩,hE7⟩;exact p (ge ag ag)<|az<|C<|rt<|ba ag<|⟨by show cy (decide (J≥0))=_; exact congrArg cy (decide_eq_decide.2 G),hE7⟩
theorem L7 (a:Option Addr) (c:Nat) (l:List Nat) (x:Nat) (w:World) (E:aR w.heap a (l.map bA)) (I:l.length≤1048576):
 bw aE 43 (bl [.slice a l.length c,bA x]) w (fun v w'=>v= .bool (decide (x∈l))∧Wk w w'):=by
 refine enter func43 ag ntmps43 ag<|ak fun A=>az<|A<|ak fun C=>aw (.slice a l.length c)<|aw (bA x)<|e<|cl Uo (Vz a c l x w E I) ag ?_;rintro J O ⟨rfl,G⟩;exact az<|C<|rt<|ba ag<|⟨ag,G⟩
theorem Fa (B tb:Nat) (U:gO) (F:aX) (xs:List bE) (fs:List Nat) (a:Option Addr) (c kd:Nat) (w:World) (aG:gj w B tb U F xs) (O:eH F xs) (ax:aR w.heap a (fs.map bA)) (bT:fs.length≤64) (ao:fs.Pairwise (· < ·)):
 bw aE 86 (bl [a6 tb,.slice a fs.length c,ay kd]) w (fun v w'=>bB w' w.heap.size 3 1 v (bq F fs kd).length ((bq F fs kd).map bV)∧Wk w w'):=by
 have bZ:=O.len;refine enter func86 ag ntmps86 ag<|ak fun aY=>az<|aY<|ak fun a5=>p aJ<|nl<|a5<|aH fun a7=>ak fun a9=>aw (.slice a fs.length c)<|p (bN qA ag ag)<|p mv<|nl<|a9<|aW<|lp (fun J aS G=> ∃ (i:Nat) (v:Value),(i≤fs.length)∧(bB G w.heap.size 3 1 v ((fs.take i).flatMap<|iw F kd).length<|((fs.take i).flatMap<|iw F kd).map bV)∧(((fs.take i).flatMap<|iw F kd).length≤i*70000)∧(Wk w G)∧(Sl aS [(0,a6 tb),(2,ay kd),(7,v),(13,.slice a fs.length c),(14,ay (fs.length)),(15,ay i)])∧(fs.length - i=J)) _ ⟨0,.slice none 0 0,aj,(dC _ _ _ _),(iK _),(Md.refl _ _),ag,ag⟩ ?_;rintro J aS G ⟨i,v,hi,aa,aN,A,bC,rfl⟩;refine bH bC<|ak fun bb=>p (lt ag ag)<|nl<|bb<|aH fun bd=>cd ag (fun bt=> ?_) fun bt=> ?_;refine aT<|bd<|aH fun I=>aW<|ak fun ae=>p (bh cQ ag ag aj<|aR.ok (ax.wk A)<|bY aj)<|p (ld dA ag<|aR.gQ (ax.wk A) (show (fs.map bA)[i]? =some (bA<|fs.getD i 0) by rw [gi,da,cz (by omega :i < fs.length)]; rfl)) ?_;refine az<|ae<|ak fun bf=>aw (a6 tb)<|p (nc ag)<|p (fa Aa ag)<|p (ld gP ag<|(bo (aG.wk A).cells).trans ag)<|p mv<|e<|cl CL (DL B U.fb U.mc F U.V (fs.getD i 0) G (aG.wk A).fl aj) ag fun v25 b6 aF=> ?_;obtain ⟨cl,aK⟩:∃ cl,(eB F.bG<|fs.getD i 0).getD uU=cl:=⟨_,rfl⟩
 rw [aK] at aF;have E:=XC (f:=iw F kd) (show i < fs.length by omega);obtain ⟨rfl,aA⟩:=aF;have b1:=aA.size;refine p mv<|p (xt ag ag)<|p (xt ag ag)<|e<|hU vY fun ah b5 bO aD bg=> ?_;have b0:=aD.size;refine e<|gS tB ag ag ag ag bg (by simp) fun aP aC bk=> ?_;have Z:Wk G aP:=(aA.trans aD.md).trans' aC fun q bX h=>by omega
 have b4:=aC.size;have al:aP.heap[ah]? =some (.cells (pF cl).toArray 192 (0,0)):=bk;have au:=bc aa Z;refine az<|bf<|aH fun aZ=>ak fun av=>p mv<|p (no ag)<|p mv<|gb (t:=30) ag (fun aq=> ?_) fun aq=> ?_;have Y:iw F kd (fs.getD i 0)= []:=Vf<|by simpa using aq
 exact aQ ag<|aQ ag<|aQ ag<|aQ ag<|p (bI ag)<|nl<|av<|ct ag<|ext<|bj<|be<|I<|rg ag<|p (ad ag ag<|cR aj)<|p mv<|nl<|tn<|⟨_,aj,i+1,v,aj,(by rw [E,Y,eJ]; exact au),(by rewrite [E,Y,eJ]; exact fu aN<|qO _<|Nat.le_succ i),(A.trans Z),ag,ag⟩
 have an:=Vi (k:=kd) (by simpa using aq) aK;refine aV ag (fa xJ ag)<|aV ag (ld bL ag<|(bo al).trans ag)<|aV ag (a8 (ay kd) ag)<|aV ag (dw ag ag)<|p (bD ag)<|nl<|av<|cd ag (fun aI=> ?_) fun aI=> ?_;have Y:iw F kd (fs.getD i 0)= []:=Vg an fun h=>aI<|by rw [h]
 exact ext<|bj<|be<|I<|rg ag<|p (ad ag ag<|cR aj)<|p mv<|nl<|tn<|⟨_,aj,i+1,v,aj,(by rw [E,Y,eJ]; exact au),(by rewrite [E,Y,eJ]; exact fu aN<|qO _<|Nat.le_succ i),(A.trans Z),ag,ag⟩
 have bv:cl.kind=kd:=aj;have aL:=Vj an bv;have bR:=Vd O.cls an;refine aT<|aZ<|ak fun a0=>p (fa Ag ag)<|p (ld bL ag<|(bo al).trans ag)<|p mv<|nl<|a0<|aW<|lp (fun J aU ac=> ∃ (j:Nat) (v2:Value),(j≤cl.count)∧(bB ac w.heap.size 3 1 v2 ((fs.take i).flatMap (iw F kd)++(gZ j).map (cl.first+ ·)).length<|((fs.take i).flatMap (iw F kd)++(gZ j).map (cl.first+ ·)).map bV)∧(ac.heap[ah]? =some (.cells (pF cl).toArray 192 (0,0)))∧(Wk w ac)∧(Sl aU [(0,a6 tb),(2,ay kd),(7,v2),(10,a6 ah),(13,.slice a fs.length c),(14,ay (fs.length)),(15,ay i),(37,ay (cl.count)),(38,ay j)])∧(cl.count - j=J)) _ ⟨0,v,aj,(by rw [List.range_zero,List.map_nil,eJ]; exact au),al,(A.trans Z),ag,ag⟩ ?_;rintro J aU ac ⟨j,v2,bU,ab,am,ai,bF,rfl⟩;refine bH bF<|ak fun a1=>p (lt ag ag)<|nl<|a1<|aH fun a2=>cd ag (fun bu=> ?_) fun bu=> ?_;refine aT<|a2<|aH fun a3=>aW<|ak fun a4=>aw (ay j)<|p (cV (ay j) ag)<|nl<|a4<|rg ag<|aw (v2)<|p (fa Lz ag)<|p (ld bL ag<|(bo am).trans ag)<|aw (ay j)<|p (bJ ((cl.first+j:Nat):Int) ag ag<|bp aj aj)<|e<|fU lR ag ag fun bM b7 bQ C bi=> ?_;have b2:=C.size;have bW:((fs.take i).flatMap (iw F kd)++(gZ j).map (cl.first+ ·)).length=((fs.take i).flatMap<|iw F kd).length+j:=by rw [bP,fH,wy]
 have bz:(fs.take i).flatMap (iw F kd)++(gZ<|j+1).map (cl.first+ ·)=((fs.take i).flatMap (iw F kd)++(gZ j).map (cl.first+ ·))++ [cl.first+j]:=by rw [Ce,fZ,← List.append_assoc]; rfl
 refine e<|ap lR (bc ab C.md) ag (by have :=ai.size; omega) ag (aR.dZ bi) (ag) (ag) aj aj fun bK b8 bx aB b3 bS=> ?_;have bm:=Wk.own (ai.trans C.md) (bc ab C.md) aB<|cU _;have bs:=aB.aW (C.md.aW am) fun h=>eh (bc ab C.md) (C.md.aW am) aM h;exact p aJ<|nl<|bn<|a3<|rg ag<|p (ad ag ag<|cR aj)<|p mv<|nl<|tn<|⟨_,aj,j+1,bK,aj,(by rw [bz,fZ,bP]; exact bx),bs,bm,ag,ag⟩
 exact ext<|bj<|bj<|be<|bn<|I<|rg ag<|p (ad ag ag<|cR aj)<|p mv<|nl<|tn<|⟨_,aj,i+1,v2,aj,(by rw [E,aL,show cl.count=j by omega]; exact ab),(by rewrite [E,aL,bP,fH,wy]; omega),ai,ag,ag⟩
 refine ext<|bj<|bj<|be<|a7<|aH fun I=> ?_;rw [List.take_of_length_le (show fs.length≤i by omega)] at aa;refine rg ag<|aw (v)<|e<|cl SL (acN w.heap.size _ v ((fs.flatMap<|iw F kd).map fun i:Nat=>(i:Int)) G (by rw [MY]; exact aa)<|by rw [fH]; have :=aaH O.cls ao kd; omega) ag ?_;rintro v51 b9 ⟨rfl,aO,br⟩;rw [acO O.cls ao,MY,Nj O.cls ao] at aO;exact nl<|I<|ak fun ae=>aw (v)<|p (cV (v) ag)<|nl<|ae<|rt<|ba ag<|⟨aO,Wk.own A aa br<|cU _⟩
theorem adz (B tb:Nat) (U:gO) (F:aX) (xs:List bE) (n:Int) (w:World) (V:gj w B tb U F xs) (A:eH F xs):
 bw aE 45 (bl [a6 tb,.int .i64 n]) w (fun v w'=>bB w' w.heap.size 3 1 v (bq F (flagsOf xs n) 2).length ((bq F (flagsOf xs n) 2).map bV)∧Wk w w'):=by
 refine enter func45 ag ntmps45 ag<|ak fun Z=>az<|Z<|ak fun aa=>aw (a6 tb)<|aw (.int .i64 n)<|e<|cl qZ (xq B tb U F xs n w V A) ag ?_;rintro v10 ao ⟨⟨ap,rfl,Y⟩,hE10⟩;obtain ⟨G,I,rfl⟩:=cM Y;have ax:=hE10.size;refine p mv<|p (xt ag ag)<|p (xt ag ag)<|e<|al rJ fun ac aC aq O ah=> ?_;have ay:=O.size;refine e<|dy kO ag ag ag ag (ah) (by simp) fun E J ae=> ?_;have C:Wk ao E:=O.md.trans' J fun q au h=>by omega
 have av:=J.size;have am:bX E.heap ac ([str (kQ xs n),.slice G (flagsOf xs n).length I]):=ae;refine az<|aa<|ak fun ab=>aw (a6 tb)<|p (fa tE ag)<|p (ld oA ag<|am.bF 1)<|e<|cl Dc (Fa B tb U F xs (flagsOf xs n) G I 2 E (V.wk<|hE10.trans C) A ((bg Y).2.wk C) (pZ A n).1 (pZ A n).2.1) ag ?_;rintro aA aB ⟨an,ai⟩;exact az<|ab<|rt<|ba ag<|⟨eT an aj,(hE10.trans C).trans ai⟩
theorem abw (B tb:Nat) (U:gO) (F:aX) (xs:List bE) (n:Int) (w:World) (V:gj w B tb U F xs) (A:eH F xs):
 bw aE 47 (bl [a6 tb,.int .i64 n]) w (fun v w'=>bB w' w.heap.size 3 1 v (bq F (flagsOf xs n) 1).length ((bq F (flagsOf xs n) 1).map bV)∧Wk w w'):=by
 refine enter func47 ag ntmps47 ag<|ak fun Z=>az<|Z<|ak fun aa=>aw (a6 tb)<|aw (.int .i64 n)<|e<|cl qZ (xq B tb U F xs n w V A) ag ?_;rintro v10 ao ⟨⟨ap,rfl,Y⟩,hE10⟩;obtain ⟨G,I,rfl⟩:=cM Y;have ax:=hE10.size;refine p mv<|p (xt ag ag)<|p (xt ag ag)<|e<|al rJ fun ac aC aq O ah=> ?_;have ay:=O.size;refine e<|dy kO ag ag ag ag (ah) (by simp) fun E J ae=> ?_;have C:Wk ao E:=O.md.trans' J fun q au h=>by omega
 have av:=J.size;have am:bX E.heap ac ([str (kQ xs n),.slice G (flagsOf xs n).length I]):=ae;refine az<|aa<|ak fun ab=>aw (a6 tb)<|p (fa tE ag)<|p (ld oA ag<|am.bF 1)<|e<|cl Dc (Fa B tb U F xs (flagsOf xs n) G I 1 E (V.wk<|hE10.trans C) A ((bg Y).2.wk C) (pZ A n).1 (pZ A n).2.1) ag ?_;rintro aA aB ⟨an,ai⟩;exact az<|ab<|rt<|ba ag<|⟨eT an aj,(hE10.trans C).trans ai⟩
theorem Om (B tb:Nat) (U:gO) (F:aX) (xs:List bE) (n:Int) (w:World) (V:gj w B tb U F xs) (A:eH F xs):
 bw aE 46 (bl [a6 tb,.int .i64 n]) w (fun v w'=>bB w' w.heap.size 3 1 v (bq F (cH F n) 2).length ((bq F (cH F n) 2).map bV)∧Wk w w'):=by
 refine enter func46 ag ntmps46 ag<|ak fun Z=>az<|Z<|ak fun aa=>aw (a6 tb)<|aw (.int .i64 n)<|e<|cl Jh (AZ B tb U F xs n w V A) ag ?_;rintro v10 ao ⟨⟨ap,rfl,Y⟩,hE10⟩;obtain ⟨G,I,rfl⟩:=cM Y;have ax:=hE10.size;refine p mv<|p (xt ag ag)<|p (xt ag ag)<|e<|al rH fun ac aC aq O ah=> ?_;have ay:=O.size;refine e<|dy pI ag ag ag ag (ah) (by simp) fun E J ae=> ?_;have C:Wk ao E:=O.md.trans' J fun q au h=>by omega
 have av:=J.size;have am:bX E.heap ac (fk (tR F n,.slice G (cH F n).length I)):=ae;refine az<|aa<|ak fun ab=>aw (a6 tb)<|p (fa ss ag)<|p (ld oA ag<|am.bF 6)<|e<|cl Dc (Fa B tb U F xs (cH F n) G I 2 E (V.wk<|hE10.trans C) A ((bg Y).2.wk C) (vM A n).1 (vM A n).2.1) ag ?_;rintro aA aB ⟨an,ai⟩;exact az<|ab<|rt<|ba ag<|⟨eT an aj,(hE10.trans C).trans ai⟩
theorem Kp (B tb:Nat) (U:gO) (F:aX) (xs:List bE) (n:Int) (w:World) (ae:gj w B tb U F xs) (G:eH F xs):
 bw aE 90 (bl [a6 tb,.int .i64 n]) w (fun v w'=>v= .bool (pJ F n)∧Wk w w'):=by
 refine enter func90 ag ntmps90 ag<|ak fun ai=>az<|ai<|ak fun am=>aw (a6 tb)<|aw (.int .i64 n)<|e<|cl Jh (AZ B tb U F xs n w ae G) ag ?_;rintro v10 ay ⟨⟨aB,rfl,ah⟩,hE10⟩;obtain ⟨Y,Z,rfl⟩:=cM ah;have aG:=hE10.size;refine p mv<|p (xt ag ag)<|p (xt ag ag)<|e<|al rH fun an aK aC ac ap=> ?_;have aI:=ac.size;refine e<|dy pI ag ag ag ag (ap) (by simp) fun C ab ao=> ?_;have aa:Wk ay C:=ac.md.trans' ab fun q aD h=>by omega
 have aF:=ab.size;have ax:bX C.heap an (fk (tR F n,.slice Y (cH F n).length Z)):=ao;have I:=hE10.trans aa;have av:=ae.wk I;refine az<|am<|aH fun V=> ?_;have A:(fun w'=>Wk C w') C.drew:=(Md.refl _ _).drew;refine cj (fun w'=>Wk C w') ag wide A<|aU 0 ag (mv) A<|aU 1 ag (mv) A<|iP (t:=14) ag (fun O=> ?_) fun O=> ?_;refine bm 2 ag (fun _ _=>fa ss ag) A<|bm 3 ag (fun w' J=>ld oA ag<|Wk.a7 J<|ax.bF 6) A<|bm 4 ag (fun _ _=>a8 (a6 tb) ag) A<|bm 5 ag (fun _ _=>nc ag) A<|bm 6 ag (fun _ _=>fa xB ag) A<|bm 7 ag (fun _ _=>fa z7 ag) A<|bm 8 ag (fun _ _=>kT xf ag ag aj) A<|bm 9 ag (fun w' J=>ld dA ag<|Wk.a7 J<|O8 av (k:=0) aj) A<|nM 10 ag au ag ag ag<|cl I9 (L7 Y Z (cH F n) (F.sp.getD 0 0) C.drew (((bg ah).2.wk aa).wk A)<|by have :=(vM G n).1; omega) ag ?_;rintro v23 aA ⟨rfl,aq⟩;have E:(fun w'=>Wk C w') aA:=A.trans aq;refine ⟨E,?_⟩;exact bm 11 ag (fun _ _=>no ag) E<|aU 12 ag (bI ag) E<|aU 13 ag (aJ) E<|hn au<|V<|rt<|ba ag<|⟨by unfold pJ; rw [decide_eq_true O,L8 (vM G n).2.2]; rfl,I.trans E⟩
 exact bf 2 ag A<|bf 3 ag A<|bf 4 ag A<|bf 5 ag A<|bf 6 ag A<|bf 7 ag A<|bf 8 ag A<|bf 9 ag A<|bf 10 ag A<|bf 11 ag A<|aU 12 ag (bD ag) A<|aU 13 ag (aJ) A<|hn au<|V<|rt<|ba ag<|⟨by unfold pJ; rw [decide_eq_false O]; rfl,I.trans A⟩
theorem xV (B tb:Nat) (U:gO) (F:aX) (xs:List bE) (n k:Int) (w:World) (ac:gj w B tb U F xs) (J:eH F xs):
 bw aE 23 (bl [a6 tb,.int .i64 n,.int .i64 k]) w (fun v w'=>v= .bool (gV F xs n k)∧Wk w w'):=by
 refine enter func23 ag ntmps23 ag<|ak fun ai=>az<|ai<|ak fun am=>p mv<|p mv<|e<|cl qZ (xq B tb U F xs n w ac J) ag ?_;rintro v12 aA ⟨⟨a12,rfl,ah⟩,hE12⟩;obtain ⟨V,Y,rfl⟩:=cM ah;have aG:=hE12.size;refine p mv<|p (xt ag ag)<|p (xt ag ag)<|e<|al rJ fun an aL aC ab ap=> ?_;have aI:=ab.size;refine e<|dy kO ag ag ag ag (ap) (by simp) fun C aa ao=> ?_;have Z:Wk aA C:=ab.md.trans' aa fun q aD h=>by omega
 have aF:=aa.size;have aw:bX C.heap an [str (kQ xs n),.slice V (flagsOf xs n).length Y]:=ao;have E:=hE12.trans Z;have av:=ac.wk E;refine az<|am<|aH fun G=> ?_;have A:(fun w'=>Wk C w') C.drew:=(Md.refl _ _).drew;refine cj (fun w'=>Wk C w') ag wide A<|aU 0 ag (mv) A<|aU 1 ag (mv) A<|iP (t:=16) ag (fun ae=> ?_) fun ae=> ?_;refine bm 2 ag (fun _ _=>mv) A<|bm 3 ag (fun _ _=>ge ag ag) A<|aU 4 ag (bI ag) A<|aU 5 ag (mv) A<|iP (t:=20) ag (fun ax=> ?_) fun ax=> ?_;refine bm 6 ag (fun _ _=>mv) A<|bm 7 ag (fun _ _=>lt ag ag) A<|aU 8 ag (bI ag) A<|aU 9 ag (mv) A<|iP (t:=24) ag (fun ay=> ?_) fun ay=> ?_;obtain ⟨k,rfl⟩:∃ m:Nat,k=(m:Int):=⟨k.toNat,aj⟩
 refine bm 10 ag (fun _ _=>fa tE ag) A<|bm 11 ag (fun w' O=>ld oA ag<|Wk.a7 O<|aw.bF 1) A<|bm 12 ag (fun _ _=>mv) A<|bm 13 ag (fun _ _=>mv) A<|bm 14 ag (fun _ _=>nc ag) A<|bm 15 ag (fun _ _=>fa xB ag) A<|bm 16 ag (fun _ _=>fa z7 ag) A<|bm 17 ag (fun _ _=>kT xf ag ag aj) A<|bm 18 ag (fun w' O=>ld dA ag<|Wk.a7 O<|O8 av aj) A<|nM 19 ag au ag ag ag<|cl I9 (L7 V Y (flagsOf xs n) (F.sp.getD k 0) C.drew (((bg ah).2.wk Z).wk A)<|by have :=(pZ J n).1; omega) ag ?_;rintro aK aB ⟨rfl,aq⟩;have I:(fun w'=>Wk C w') aB:=A.trans aq;refine ⟨I,?_⟩;exact aU 20 ag (bI ag) I<|aU 21 ag (aJ) I<|hn au<|G<|rt<|ba ag<|⟨by unfold gV tJ; rw [decide_eq_true (show 0≤((k:Nat):Int)∧((k:Nat):Int) < 5 by omega),kH,L8 (pZ J n).2.2]; rfl,E.trans I⟩
 exact bf 10 ag A<|bf 11 ag A<|bf 12 ag A<|bf 13 ag A<|bf 14 ag A<|bf 15 ag A<|bf 16 ag A<|bf 17 ag A<|bf 18 ag A<|bf 19 ag A<|aU 20 ag (bD ag) A<|aU 21 ag (aJ) A<|hn au<|G<|rt<|ba ag<|⟨by unfold gV; rw [decide_eq_false (show ¬(0≤k∧k < 5) by omega)]; rfl,E.trans A⟩
 exact bf 6 ag A<|bf 7 ag A<|aU 8 ag (bD ag) A<|aU 9 ag (mv) A<|bf 10 ag A<|bf 11 ag A<|bf 12 ag A<|bf 13 ag A<|bf 14 ag A<|bf 15 ag A<|bf 16 ag A<|bf 17 ag A<|bf 18 ag A<|bf 19 ag A<|aU 20 ag (bD ag) A<|aU 21 ag (aJ) A<|hn au<|G<|rt<|ba ag<|⟨by unfold gV; rw [decide_eq_false (show ¬(0≤k∧k < 5) by omega)]; rfl,E.trans A⟩
 exact bf 2 ag A<|bf 3 ag A<|aU 4 ag (bD ag) A<|aU 5 ag (mv) A<|bf 6 ag A<|bf 7 ag A<|aU 8 ag (bD ag) A<|aU 9 ag (mv) A<|bf 10 ag A<|bf 11 ag A<|bf 12 ag A<|bf 13 ag A<|bf 14 ag A<|bf 15 ag A<|bf 16 ag A<|bf 17 ag A<|bf 18 ag A<|bf 19 ag A<|aU 20 ag (bD ag) A<|aU 21 ag (aJ) A<|hn au<|G<|rt<|ba ag<|⟨by unfold gV tJ; rw [(uN ae).2,decide_eq_false (show ¬(F.sp.getD k.toNat 0≠0∧F.sp.getD k.toNat 0∈[]) from fun h=>by cases h.2),Bool.and_false]; rfl,E.trans A⟩
end Go.Hb.ku
end
