/-
  Walks and plain laws that the law rests on, laid together. No conditions but those that each theorem names.
-/
import Derived.Test.YtffmhpaepdkabaaGreatDoorMnDeriveWhole5
set_option linter.unusedVariables false
set_option maxRecDepth 20000
set_option maxHeartbeats 1000000
open Array renaming getElem?_eq_some_iff→cg
open Bool renaming and_eq_true→fi,and_false→uM,noConfusion→c8
open Classical renaming byContradiction→uO
open Go.Proofs.Tryz renaming prog→au
open Go.Result renaming andThen_ok→nd
open Go.Sem renaming run_bind→ng,run_pure→n2
open Go.Value renaming bool→bL,slice→bz
open Go.World renaming ownsRow→bm,ownsRow_nil→dI
open Int renaming toNat_natCast→ji
open List renaming append_assoc→dx,append_nil→dS,cons_append→ss,filterMap_append→zq,flatMap_append→nj,flatMap_cons→iH,flatMap_singleton→oX,getD_eq_getElem?_getD→cO,getElem?_eq_getElem→cx,getElem?_eq_some_iff→eI,getElem?_map→fU,getElem?_zip_eq_some→iJ,length_append→bF,length_map→eJ,length_range→F4,map_append→iK,mem_of_getElem?→iL,nil_append→kN,prefix_append→sF,prefix_refl→Ge,range→gB,take_append_drop→vl,take_of_length_le→eL,toArray→aY
open Nat renaming le_refl→bX,le_trans→eV,lt_or_ge→gC,mul_le_mul_right→qB,zero_le→o3
open Option renaming bind_assoc→Gp,bind_eq_some_iff→zB,bind_some→nq,isSome_iff_exists→nr,toList_some→Gr
open Go.Proofs.Tryz
open Go.Hb.dB Go.Proofs Go.Hb.eN Go.Hb.fJ Go.Hb.jj Go.Hb.fV Go.Hb.iW Go.Hb.jU Go.Hb.ki

namespace Go.Hb.lZ
theorem C3 (l:List Nat):(l.map fun i:Nat=>(i:Int)).map (Value.int .i64)=l.map gG:=by rw [List.map_map]; rfl
theorem p8 {F:aE} {xs:List bj} (h:eW F xs) (n:Int):(flagsOf xs n).length≤64∧jl (flagsOf xs n):=by
 by_cases hn:0≤n∧n < xs.length
 · obtain ⟨k,rfl⟩:∃ k:Nat,n=(k:Int):=⟨n.toNat,ab⟩
   have a:xs[k]? =some xs[k]:=cx ab
   rw [(pk a).2.1]
   exact ⟨(h.tu _<|iL a).2.1,h.KR _<|iL a⟩
 · rw [(sW hn).2]; exact ⟨o3 _,rv⟩
theorem uu {F:aE} {xs:List bj} (h:eW F xs) (n:Int):(cy F n).length≤64∧jl (cy F n):=by
 by_cases hn:0≤n∧n < F.rules.length
 · obtain ⟨k,rfl⟩:∃ k:Nat,n=(k:Int):=⟨n.toNat,ab⟩
   have a:F.rules[k]? =some F.rules[k]:=cx ab
   rw [(DS a).2.1]
   exact ⟨(h.j8 a).1,(h.j8 a).2.1⟩
 · rw [(yx hn).2]; exact ⟨o3 _,rv⟩
theorem Jv {F:aE} {k f:Nat} (h:(dm F.bo f).isSome=false):eX F k f= []:=by
 unfold eX
 cases h2:dm F.bo f with
 | none=>rfl
 | some c=>rw [h2] at h; cases h
theorem Jy {F:aE} {k f:Nat} {c:dt} (h:(dm F.bo f).isSome=true) (a:(dm F.bo f).getD pC=c):dm F.bo f=some c:=by
 cases h2:dm F.bo f with
 | none=>rw [h2] at h; cases h
 | some d=>rw [h2] at a; exact congrArg some a
theorem Jw {F:aE} {k f:Nat} {c:dt} (h:dm F.bo f=some c) (hk:c.kind≠k):eX F k f= []:=by unfold eX; rw [h]; exact if_neg hk
theorem Jz {F:aE} {k f:Nat} {c:dt} (h:dm F.bo f=some c) (hk:c.kind=k):eX F k f=(gB c.count).map (c.first+ ·):=by unfold eX; rw [h]; exact if_pos hk
theorem Jt {F:aE} (a:mI F) {f:Nat} {c:dt} (h:dm F.bo f=some c):c.first+c.count≤F.rules.length:=(a.qT c (BJ h).1).1
theorem LZ {fs:List Nat} {f:Nat→List Nat} {i:Nat} (h:i < fs.length):(fs.take<|i+1).flatMap f=(fs.take i).flatMap f++f (fs.getD i 0):=by
 rw [ka fs i 0 h,nj,oX]
theorem Dd {F:aE} (a:mI F) {fs:List Nat} (h:fs.Pairwise (· < ·)) (k:Nat):(fs.flatMap<|eX F k).length=(aQ F fs k).length:=by
 obtain ⟨h1,h2⟩:=Dc a (k:=k) h
 exact ((List.perm_ext_iff_of_nodup h1<|(De F fs k).imp fun h=>by omega).2 h2).length_eq
theorem Oi {F:aE} (a:mI F) {fs:List Nat} (h:fs.Pairwise (· < ·)) (k:Nat):(fs.flatMap<|eX F k).length≤F.rules.length:=by
 rw [Dd a h]; exact rH F fs k
def nJ (F:aE) (xs:List bj) (e k:Int):Bool:=decide (0≤k∧k < 5) && pU F xs e k.toNat
theorem Ep {w:World} {B tb:Nat} {a:fK} {F:aE} {xs:List bj} (h:eB w B tb a F xs) {k:Nat} (hk:k < 5):Hb.aH w.heap tb (5 +k*1)=some (aO<|F.sp.getD k 0):=by
 refine (aX h.cells).trans ?_
 match k,hk with
 | 0,_=>rfl
 | 1,_=>rfl
 | 2,_=>rfl
 | 3,_=>rfl
 | 4,_=>rfl
theorem Cs {x:Nat} {l:List Nat} (h:0∉l):decide (x∈l)=decide (x≠0∧x∈l):=decide_eq_decide.2 ⟨fun h2=>⟨fun h3=>h (h3 ▸ h2),h2⟩,And.right⟩
theorem q4 (B tb:Nat) (aL:fK) (F:aE) (xs:List bj) (n:Int) (w:World) (ar:eB w B tb aL F xs) (ah:eW F xs):
 ba au 24 (aY [aU tb,.int .i64 n]) w (fun v w'=>(∃ a,v= .tuple #[.agg [str (gI xs n),a].toArray,.bool (decide (0≤n∧n < xs.length))]∧bm w' w.heap.size 51 1 a (flagsOf xs n).length ((flagsOf xs n).map aO))∧Wk w w'):=by
 obtain ⟨a7,ce,a3⟩:=QU ar
 have bl:=ah.xl
 refine enter func24 aa ntmps24 aa<|ak fun aF=>e<|al m8 fun a9 aB bf A I=> ?_
 have bp:=A.size
 have a0:=ar.wk A.md
 have a5:=Wk.aH A.md a3
 refine ay<|aF<|az fun aG=>ak fun ac=>p mv<|p (kY rZ aa aa)<|p mv<|gb (t:=9) aa (fun h=>absurd (h.symm.trans<|aa) c8) fun bh=>aR aa mv<|aR aa (lt aa aa)<|p (bD aa)<|p mv<|gs (t:=13) aa (fun a2=> ?_) fun a2=> ?_
 refine aJ aa<|aJ aa<|aJ aa<|aJ aa<|aJ aa<|aJ aa<|aJ aa<|p (bI aa)<|nl<|ac<|ct aa<|ak fun C=>p (cE (ps:= []) (L:= [.string ⟨⟨[]⟩⟩,.slice none 0 0]) lJ aa<|aa)<|e<|cw iu aa aa aa aa (I) (by simp) fun a6 M G=>p aA<|nl<|C<|rt<|tr<|eo aa (dy (cs:= [str [],.slice none 0 0]) aa jF aa fun j U=>G.bu j) dR ?_
 have E:=sW (xs:=xs) (n:=n) ab
 exact ⟨⟨.slice none 0 0,by rw [E.1,decide_eq_false (show ¬(0≤n∧n < (xs.length:Int)) by omega)]; rfl,by rw [E.2]; exact dI _ _ _ _⟩,A.md.trans' M fun q i h=>by omega⟩
 refine aR aa mv<|aR aa mv<|aR aa (nc aa)<|aR aa (fa xz aa)<|aR aa (ld qJ aa<|a5)<|aR aa (bO uA aa aa)<|aR aa (ge aa aa)<|p (bD aa)<|nl<|ac<|cd aa (fun a1=> ?_) fun a1=> ?_
 refine ak fun C=>p (cE (ps:= []) (L:= [.string ⟨⟨[]⟩⟩,.slice none 0 0]) lJ aa<|aa)<|e<|cw iu aa aa aa aa (I) (by simp) fun a6 M G=>ay<|C<|rt<|tr<|eo aa (dy (cs:= [str [],.slice none 0 0]) aa jF aa fun j U=>G.bu j) dR ?_
 have E:=sW (xs:=xs) (n:=n) ab
 exact ⟨⟨.slice none 0 0,by rw [E.1,decide_eq_false (show ¬(0≤n∧n < (xs.length:Int)) by omega)]; rfl,by rw [E.2]; exact dI _ _ _ _⟩,A.md.trans' M fun q i h=>by omega⟩
 obtain ⟨k,rfl⟩:∃ k:Nat,n=(k:Int):=⟨n.toNat,ab⟩
 obtain ⟨x,Y⟩:∃ x,xs[k]? =some x:=⟨_,cx ab⟩
 obtain ⟨a8,bb,a,c,bi,a4,aj,ax,av⟩:=QT a0 Y
 have bk:=(ah.tu x<|iL Y).2.1
 obtain ⟨aN,aP,bc,bd⟩:=pk Y
 refine aM<|aG<|ak fun C=>p mv<|p (nc aa)<|p (fa xz aa)<|p (ld qJ aa<|a4)<|p mv<|p (aW wV aa aa ab<|aC.ok (aj)<|wP ax)<|p (cI jF aa (aa)<|gK (f:=ox) (m:=2) (fun _=>rfl) aj ax)<|e<|al m8 fun ae bv bg aq aX=> ?_
 have br:=aq.size
 refine e<|cw iu aa aa aa aa (aX) (by simp) fun Z ao aQ=> ?_
 have am:Wk aB Z:=aq.md.trans' ao fun q i h=>by omega
 have bn:=ao.size
 have ai:bA Z.heap ae [str x.1,.slice a x.2.length c]:=aQ
 refine nl<|C<|ak fun aI=>p (fa oB aa)<|p (ld kR aa<|ai.bu 1)<|e<|cl ou (pB a x.2.length c (x.2.map aO) Z (av.wk am).c6.2 (by simp) (fun h=>Tg.pW av (by simp) h) (pj _) ab) aa fun bs bt aZ=> ?_
 obtain ⟨V,J⟩:=aZ
 obtain ⟨ad,ag,rfl⟩:=cR V
 have bo:=J.size
 refine p (fa oB aa)<|e<|st pD aa aa (aa) (Wk.B J ai) (by simp) fun aD O aS=> ?_
 have an:Wk aB aD:=(am.trans J).trans' O fun q i h=>by omega
 have bq:=O.size
 have aw:=bZ V O fun q i h=>by have :=(dd V i).1; omega
 have aT:bA aD.heap ae [str x.1,.slice ad x.2.length ag]:=aS
 exact nl<|aI<|ak fun aK=>p (cI jF aa (aa) fun j U=>aT.bu j)<|e<|cw iu aa aa aa aa (Wk.B an I) (by simp) fun bw ap aV=>p aA<|nl<|aK<|rt<|eo aa (dy (cs:= [str x.1,.slice ad x.2.length ag]) aa jF aa fun j U=>aV.bu j) dR<|⟨⟨_,by rw [aN,decide_eq_true (show 0≤(k:Int)∧(k:Int) < (xs.length:Int) by omega)]; rfl,by rw [aP]; exact bZ (eD aw ab) ap fun q i h=>by have :=(dd aw i).1; omega⟩,(A.md.trans an).trans' ap fun q i h=>by omega⟩
theorem tZ (B tb:Nat) (aP:fK) (F:aE) (xs:List bj) (n:Int) (w:World) (av:eB w B tb aP F xs) (ai:eW F xs):
 ba au 25 (aY [aU tb,.int .i64 n]) w (fun v w'=>(∃ a,v= .tuple #[.agg (dP (oL F n,a)).toArray,.bool (decide (0≤n∧n < F.rules.length))]∧bm w' w.heap.size 51 1 a (cy F n).length ((cy F n).map aO))∧Wk w w'):=by
 obtain ⟨bg,ce,a9⟩:=QV av
 have bp:=ai.len
 refine enter func25 aa ntmps25 aa<|ak fun aI=>e<|al oQ fun aS G bk A J=> ?_
 have bs:=A.size
 have aw:=av.wk A.md
 have bd:=Wk.aH A.md a9
 have a2:bA G.heap aS (dP (dv,.slice none 0 0)):=J
 refine ay<|aI<|az fun aK=>ak fun ad=>p mv<|p (kY rZ aa aa)<|p mv<|gb (t:=9) aa (fun h=>absurd (h.symm.trans<|aa) c8) fun bn=>aR aa mv<|aR aa (lt aa aa)<|p (bD aa)<|p mv<|gs (t:=13) aa (fun a8=> ?_) fun a8=> ?_
 refine aJ aa<|aJ aa<|aJ aa<|aJ aa<|aJ aa<|aJ aa<|aJ aa<|aJ aa<|p (bI aa)<|nl<|ad<|ct aa<|ak fun C=>p (cE (ps:= []) (L:= [.int .i64 0,.int .u16 0,.bool false,.string ⟨⟨[]⟩⟩,.string ⟨⟨[]⟩⟩,.string ⟨⟨[]⟩⟩,.slice none 0 0]) yH aa<|aa)<|e<|cw mO aa aa aa aa (J) (by simp) fun bf O I=>ay<|C<|rt<|tr<|eo aa (dy (cs:=dP (dv,.slice none 0 0)) aa ko aa fun j V=>I.bu j) dR ?_
 have E:=yx (F:=F) (n:=n) ab
 exact ⟨⟨.slice none 0 0,by rw [E.1,decide_eq_false (show ¬(0≤n∧n < (F.rules.length:Int)) by omega)]; rfl,by rw [E.2]; exact dI _ _ _ _⟩,A.md.trans' O fun q i h=>by omega⟩
 refine aR aa mv<|aR aa mv<|aR aa (nc aa)<|aR aa (fa rp aa)<|aR aa (fa lD aa)<|aR aa (ld jX aa<|bd)<|aR aa (bO qa aa aa)<|aR aa (ge aa aa)<|p (bD aa)<|nl<|ad<|cd aa (fun a7=> ?_) fun a7=> ?_
 refine ak fun C=>p (cE (ps:= []) (L:= [.int .i64 0,.int .u16 0,.bool false,.string ⟨⟨[]⟩⟩,.string ⟨⟨[]⟩⟩,.string ⟨⟨[]⟩⟩,.slice none 0 0]) yH aa<|aa)<|e<|cw mO aa aa aa aa (J) (by simp) fun bf O I=>ay<|C<|rt<|tr<|eo aa (dy (cs:=dP (dv,.slice none 0 0)) aa ko aa fun j V=>I.bu j) dR ?_
 have E:=yx (F:=F) (n:=n) ab
 exact ⟨⟨.slice none 0 0,by rw [E.1,decide_eq_false (show ¬(0≤n∧n < (F.rules.length:Int)) by omega)]; rfl,by rw [E.2]; exact dI _ _ _ _⟩,A.md.trans' O fun q i h=>by omega⟩
 obtain ⟨k,rfl⟩:∃ k:Nat,n=(k:Int):=⟨n.toNat,ab⟩
 obtain ⟨r,Z⟩:∃ r,F.rules[k]? =some r:=⟨_,cx ab⟩
 obtain ⟨aQ,aT,a,c,bb,am,aF,aB⟩:=Hh aw.ax Z
 have bc:Hb.aH G.heap tb 14=some (.slice aQ F.rules.length aT):=by rw [← bb]; exact (aX aw.cells).trans rfl
 have bo:=(ai.j8 Z).1
 obtain ⟨aV,aZ,bh,bi⟩:=DS Z
 refine aM<|aK<|ak fun C=>p mv<|p (nc aa)<|p (fa rp aa)<|p (fa lD aa)<|p (ld jX aa<|bc)<|p mv<|p (aW ks aa aa ab<|aC.ok (am)<|k6 aF)<|p (cI ko aa (aa)<|gK (f:=dP) (m:=7) (fun _=>rfl) am aF)<|e<|al oQ fun ag bz bl ar a5=> ?_
 have bv:=ar.size
 refine e<|cw mO aa aa aa aa (a5) (by simp) fun ac ap a0=> ?_
 have an:Wk G ac:=ar.md.trans' ap fun q i h=>by omega
 have bq:=ap.size
 have aj:bA ac.heap ag (dP (r,.slice a r.next.length c)):=a0
 refine nl<|C<|ak fun aL=>p (fa nE aa)<|p (ld kR aa<|aj.bu 6)<|e<|cl ou (pB a r.next.length c (r.next.map aO) ac (aB.wk an).c6.2 (by simp) (fun h=>Tg.pW aB (by simp) h) (pj _) ab) aa fun bw bx a6=> ?_
 obtain ⟨Y,M⟩:=a6
 obtain ⟨ae,ah,rfl⟩:=cR Y
 have br:=M.size
 refine p (fa nE aa)<|e<|st pD aa aa (aa) (Wk.B M aj) (by show 6 < 7; omega) fun aG U a1=> ?_
 have ao:Wk G aG:=(an.trans M).trans' U fun q i h=>by omega
 have bt:=U.size
 have aD:=bZ Y U fun q i h=>by have :=(dd Y i).1; omega
 have a3:bA aG.heap ag (dP (r,.slice ae r.next.length ah)):=a1
 exact nl<|aL<|ak fun aN=>p (cI ko aa (aa) fun j V=>a3.bu j)<|e<|cw mO aa aa aa aa (Wk.B ao a2) (by show 7≤7; omega) fun bB aq a4=>p aA<|nl<|aN<|rt<|eo aa (dy (cs:=dP (r,.slice ae r.next.length ah)) aa ko aa fun j V=>a4.bu j) dR<|⟨⟨_,by rw [aV,decide_eq_true (show 0≤(k:Int)∧(k:Int) < (F.rules.length:Int) by omega)]; rfl,by rw [aZ]; exact bZ (eD aD ab) aq fun q i h=>by have :=(dd aD i).1; omega⟩,(A.md.trans ao).trans' aq fun q i h=>by omega⟩
theorem M1 (a:Option Addr) (c:Nat) (l:List Nat) (x:Nat) (w:World) (E:aC w.heap a (l.map aO)) (aq:l.length≤1048576):
 ba au 213 (aY [.slice a l.length c,aO x]) w (fun v w'=>(∃ k:Int,v= .int .i64 k∧(0≤k↔x∈l)∧ -1≤k∧k≤1048576)∧Wk w w'):=by
 refine enter func213 aa ntmps213 aa<|ak fun O=>ay<|O<|az fun U=>ak fun V=>ao (.slice a l.length c)<|p (bO Ey aa aa)<|p mv<|nl<|V<|aB<|lp (fun C q M=> ∃ (i:Nat),(i≤l.length)∧(∀ j,j < i→l.getD j 0≠x)∧(M=w)∧(q 0= .slice a l.length c)∧(q 1=aO x)∧(q 7=aj (l.length))∧(q 8=aj i)∧(l.length - i=C)) _ ⟨0,ab,(fun j I=>by omega),aa,aa,aa,aa,aa,aa⟩ ?_
 rintro C q M ⟨i,hi,J,ah,al,am,an,ap,rfl⟩
 refine fx 0 al<|fx 1 am<|fx 7 an<|fx 8 ap ?_
 subst ah
 refine ak fun Y=>p (lt aa aa)<|nl<|Y<|az fun Z=>cd aa (fun ai=> ?_) fun ai=> ?_
 refine aM<|Z<|az fun A=>aB<|ak fun ac=>ao (aj i)<|p (bY (aj i) aa)<|nl<|ac<|ak fun ae=>ao (aO x)<|ao (.slice a l.length c)<|ao (aj i)<|p (aW Bw aa aa ab<|aC.ok (E)<|cK ab)<|p (ld bM aa<|aC.jo E (show (l.map aO)[i]? =some (aO<|l.getD i 0) by rw [fU,cO,cx (by omega :i < l.length)]; rfl)) ?_
 refine p (bS aa aa)<|nl<|ae<|cd aa (fun G=> ?_) fun G=> ?_
 exact ak fun ag=>ao (aj i)<|p (bY (aj i) aa)<|nl<|ag<|rt<|br<|tr<|tr<|br<|tr<|a6 aa<|⟨⟨(i:Nat),aa,⟨fun _=>by obtain rfl :x=l.getD i 0:=ab; exact eR ab,fun _=>by omega⟩,ab,ab⟩,Md.refl _ _⟩
 exact aM<|bn<|A<|rg aa<|p (ad aa aa<|bR ab)<|p mv<|nl<|tn<|⟨_,ab,i+1,ab,(fun j I=>by rcases gC j i with h | h <;> first | exact J j h | (rw [show j=i by omega]; exact fun h2=>G<|by rw [h2])),aa,aa,aa,aa,aa,aa⟩
 exact ext<|bc<|bc<|be<|U<|ak fun A=>p aA<|nl<|A<|rt<|a6 aa<|⟨⟨-1,aa,⟨fun h=>absurd h ab,fun h=>by obtain ⟨j,I,e⟩:=oG 0 h; exact absurd e<|J j ab⟩,ab,ab⟩,Md.refl _ _⟩
theorem JM (a:Option Addr) (c:Nat) (l:List Nat) (x:Nat) (w:World) (A:aC w.heap a (l.map aO)) (G:l.length≤1048576):
 ba au 151 (aY [.slice a l.length c,aO x]) w (fun v w'=>v= .bool (decide (x∈l))∧Wk w w'):=by
 refine enter func151 aa ntmps151 aa<|ak fun i=>ay<|i<|ak fun q=>ao (.slice a l.length c)<|ao (aO x)<|e<|cl HY (M1 a c l x w A G) aa fun M O C=> ?_
 obtain ⟨⟨I,rfl,E,J⟩,hE7⟩:=C
 exact p (ge aa aa)<|ay<|q<|rt<|a6 aa<|⟨by show bL (decide (I≥0))=_; exact congrArg bL (decide_eq_decide.2 E),hE7⟩
theorem Cr (a:Option Addr) (c:Nat) (l:List Nat) (x:Nat) (w:World) (A:aC w.heap a (l.map aO)) (G:l.length≤1048576):
 ba au 97 (aY [.slice a l.length c,aO x]) w (fun v w'=>v= .bool (decide (x∈l))∧Wk w w'):=by
 refine enter func97 aa ntmps97 aa<|ak fun i=>ay<|i<|ak fun q=>ao (.slice a l.length c)<|ao (aO x)<|e<|cl HN (JM a c l x w A G) aa fun I J E=> ?_
 obtain ⟨rfl,C⟩:=E
 exact ay<|q<|rt<|a6 aa<|⟨aa,C⟩
theorem x5 (B tb:Nat) (Z:fK) (F:aE) (xs:List bj) (fs:List Nat) (a:Option Addr) (c kd:Nat) (w:World) (aS:eB w B tb Z F xs) (U:eW F xs) (aH:aC w.heap a (fs.map aO)) (b9:fs.length≤64) (av:fs.Pairwise (· < ·)):
 ba au 91 (aY [aU tb,.slice a fs.length c,aj kd]) w (fun v w'=>bm w' w.heap.size 3 1 v (aQ F fs kd).length ((aQ F fs kd).map gG)∧Wk w w'):=by
 have ce:=U.len
 refine enter func91 aa ntmps91 aa<|ak fun a4=>ay<|a4<|ak fun bg=>p aA<|nl<|bg<|az fun bh=>ak fun bi=>ao (.slice a fs.length c)<|p (bO mm aa aa)<|p mv<|nl<|bi<|aB<|lp (fun O G J=> ∃ (i:Nat) (v:Value),(i≤fs.length)∧(bm J w.heap.size 3 1 v ((fs.take i).flatMap<|eX F kd).length<|((fs.take i).flatMap<|eX F kd).map gG)∧(((fs.take i).flatMap<|eX F kd).length≤i*70000)∧(Wk w J)∧(G 0=aU tb)∧(G 2=aj kd)∧(G 7=v)∧(G 13= .slice a fs.length c)∧(G 14=aj (fs.length))∧(G 15=aj i)∧(fs.length - i=O)) _ ⟨0,.slice none 0 0,ab,(dI _ _ _ _),(o3 _),(Md.refl _ _),aa,aa,aa,aa,aa,aa,aa⟩ ?_
 rintro O G J ⟨i,v,hi,ae,a1,C,bH,bN,bP,bJ,bK,bL,rfl⟩
 refine fx 0 bH<|fx 2 bN<|fx 7 bP<|fx 13 bJ<|fx 14 bK<|fx 15 bL<|ak fun bk=>p (lt aa aa)<|nl<|bk<|az fun bl=>cd aa (fun bx=> ?_) fun bx=> ?_
 refine aM<|bl<|az fun M=>aB<|ak fun ai=>p (aW bB aa aa ab<|aC.ok (aH.wk C)<|cK ab)<|p (ld bM aa<|aC.jo (aH.wk C) (show (fs.map aO)[i]? =some (aO<|fs.getD i 0) by rw [fU,cO,cx (by omega :i < fs.length)]; rfl)) ?_
 refine ay<|ai<|ak fun bp=>ao (aU tb)<|p (nc aa)<|p (fa rm aa)<|p (ld ed aa<|(aX (aS.wk C).cells).trans aa)<|p mv<|e<|cl vH (wX B Z.fb Z.mc F Z.V (fs.getD i 0) J (aS.wk C).fl ab) aa fun ck cn aP=> ?_
 obtain ⟨cl,aZ⟩:∃ cl,(dm F.bo<|fs.getD i 0).getD pC=cl:=⟨_,rfl⟩
 rw [aZ] at aP
 have I:=LZ (f:=eX F kd) (show i < fs.length by omega)
 obtain ⟨rfl,aI⟩:=aP
 have cg:=aI.size
 refine p mv<|p (xt aa aa)<|p (xt aa aa)<|e<|gR qj fun al cm b5 aN bq=> ?_
 have cf:=aN.size
 refine e<|ga ov aa aa aa aa bq (by simp) fun a3 aL bs=> ?_
 have ac:Wk J a3:=(aI.trans aN.md).trans' aL fun q cc h=>by omega
 have cj:=aL.size
 have an:a3.heap[al]? =some (.cells (lB cl).toArray 131 (0,0)):=bs
 have aD:=aV ae ac
 refine ay<|bp<|az fun a5=>ak fun aF=>p mv<|p (no aa)<|p mv<|gb (t:=30) aa (fun ax=> ?_) fun ax=> ?_
 have Y:eX F kd (fs.getD i 0)= []:=Jv<|by simpa using ax
 exact aJ aa<|aJ aa<|aJ aa<|aJ aa<|p (bI aa)<|nl<|aF<|ct aa<|ext<|bc<|be<|M<|rg aa<|p (ad aa aa<|bR ab)<|p mv<|nl<|tn<|⟨_,ab,i+1,v,ab,(by rw [I,Y,dS]; exact aD),(by rewrite [I,Y,dS]; exact eV a1<|qB _<|Nat.le_succ i),(C.trans ac),aa,aa,aa,aa,aa,aa,aa⟩
 have ar:=Jy (k:=kd) (by simpa using ax) aZ
 refine aR aa (fa rh aa)<|aR aa (ld bW aa<|(aX an).trans aa)<|aR aa (aG (aj kd) aa)<|aR aa (gO aa aa)<|p (bD aa)<|nl<|aF<|cd aa (fun aT=> ?_) fun aT=> ?_
 have Y:eX F kd (fs.getD i 0)= []:=Jw ar fun h=>aT<|by rw [h]
 exact ext<|bc<|be<|M<|rg aa<|p (ad aa aa<|bR ab)<|p mv<|nl<|tn<|⟨_,ab,i+1,v,ab,(by rw [I,Y,dS]; exact aD),(by rewrite [I,Y,dS]; exact eV a1<|qB _<|Nat.le_succ i),(C.trans ac),aa,aa,aa,aa,aa,aa,aa⟩
 have bA:cl.kind=kd:=ab
 have a0:=Jz ar bA
 have b7:=Jt U.cls ar
 refine aM<|a5<|ak fun a7=>p (fa tD aa)<|p (ld bW aa<|(aX an).trans aa)<|p mv<|nl<|a7<|aB<|lp (fun O A ah=> ∃ (j:Nat) (v2:Value),(j≤cl.count)∧(bm ah w.heap.size 3 1 v2 ((fs.take i).flatMap (eX F kd)++(gB j).map (cl.first+ ·)).length<|((fs.take i).flatMap (eX F kd)++(gB j).map (cl.first+ ·)).map gG)∧(ah.heap[al]? =some (.cells (lB cl).toArray 131 (0,0)))∧(Wk w ah)∧(A 0=aU tb)∧(A 2=aj kd)∧(A 7=v2)∧(A 10=aU al)∧(A 13= .slice a fs.length c)∧(A 14=aj (fs.length))∧(A 15=aj i)∧(A 37=aj (cl.count))∧(A 38=aj j)∧(cl.count - j=O)) _ ⟨0,v,ab,(by rw [List.range_zero,List.map_nil,dS]; exact aD),an,(C.trans ac),aa,aa,aa,aa,aa,aa,aa,aa,aa,aa⟩ ?_
 rintro O A ah ⟨j,v2,ca,ag,aq,am,bQ,bZ,b2,bS,bT,bU,bV,b0,b1,rfl⟩
 refine fx 0 bQ<|fx 2 bZ<|fx 7 b2<|fx 10 bS<|fx 13 bT<|fx 14 bU<|fx 15 bV<|fx 37 b0<|fx 38 b1<|ak fun a8=>p (lt aa aa)<|nl<|a8<|az fun a9=>cd aa (fun bz=> ?_) fun bz=> ?_
 refine aM<|a9<|az fun bb=>aB<|ak fun bf=>ao (aj j)<|p (bY (aj j) aa)<|nl<|bf<|rg aa<|ao (v2)<|p (fa B5 aa)<|p (ld bW aa<|(aX aq).trans aa)<|ao (aj j)<|p (bG ((cl.first+j:Nat):Int) aa aa<|bd ab ab)<|e<|kT p4 aa aa fun b4 co b6 E br=> ?_
 have ch:=E.size
 have cb:((fs.take i).flatMap (eX F kd)++(gB j).map (cl.first+ ·)).length=((fs.take i).flatMap<|eX F kd).length+j:=by rw [bF,eJ,F4]
 have bE:(fs.take i).flatMap (eX F kd)++(gB<|j+1).map (cl.first+ ·)=((fs.take i).flatMap (eX F kd)++(gB j).map (cl.first+ ·))++ [cl.first+j]:=by rw [List.range_succ,iK,← dx]; rfl
 refine e<|ap p4 (aV ag E.md) aa (by have :=am.size; omega) aa (aC.fO br) (aa) (aa) ab ab fun b3 cp bC aK ci b8=> ?_
 have bt:=Wk.own (am.trans E.md) (aV ag E.md) aK<|bX _
 have bw:=aK.aB (E.md.aB aq) fun h=>dp (aV ag E.md) (E.md.aB aq) aw h
 exact p aA<|nl<|bn<|bb<|rg aa<|p (ad aa aa<|bR ab)<|p mv<|nl<|tn<|⟨_,ab,j+1,b3,ab,(by rw [bE,iK,bF]; exact bC),bw,bt,aa,aa,aa,aa,aa,aa,aa,aa,aa,aa⟩
 exact ext<|bc<|bc<|be<|bn<|M<|rg aa<|p (ad aa aa<|bR ab)<|p mv<|nl<|tn<|⟨_,ab,i+1,v2,ab,(by rw [I,a0,show cl.count=j by omega]; exact ag),(by rewrite [I,a0,bF,eJ,F4]; omega),am,aa,aa,aa,aa,aa,aa,aa⟩
 refine ext<|bc<|bc<|be<|bh<|az fun M=> ?_
 rw [eL (show fs.length≤i by omega)] at ae
 refine rg aa<|ao (v)<|e<|cl IH (Qf w.heap.size _ v ((fs.flatMap<|eX F kd).map fun i:Nat=>(i:Int)) J (by rw [C3]; exact ae)<|by rw [eJ]; have :=Oi U.cls av kd; omega) aa fun v51 cq bv=> ?_
 obtain ⟨rfl,a2,bu⟩:=bv
 rw [Qg U.cls av,C3,Dd U.cls av] at a2
 exact nl<|M<|ak fun ai=>ao (v)<|p (bY (v) aa)<|nl<|ai<|rt<|a6 aa<|⟨a2,Wk.own C ae bu<|bX _⟩
theorem Ef (B tb:Nat) (c:fK) (F:aE) (xs:List bj) (n:Int) (w:World) (J:eB w B tb c F xs) (a:eW F xs):
 ba au 53 (aY [aU tb,.int .i64 n]) w (fun v w'=>bm w' w.heap.size 3 1 v (aQ F (flagsOf xs n) 2).length ((aQ F (flagsOf xs n) 2).map gG)∧Wk w w'):=by
 refine enter func53 aa ntmps53 aa<|ak fun O=>ay<|O<|ak fun U=>ao (aU tb)<|ao (.int .i64 n)<|e<|cl pz (q4 B tb c F xs n w J a) aa fun v10 aj ae=> ?_
 obtain ⟨⟨am,rfl,M⟩,hE10⟩:=ae
 obtain ⟨C,E,rfl⟩:=cR M
 have ar:=hE10.size
 refine p mv<|p (xt aa aa)<|p (xt aa aa)<|e<|al m8 fun Y az an I ac=> ?_
 have av:=I.size
 refine e<|cw iu aa aa aa aa (ac) (by simp) fun A G Z=> ?_
 have i:Wk aj A:=I.md.trans' G fun q ap h=>by omega
 have aq:=G.size
 have ah:bA A.heap Y ([str (gI xs n),.slice C (flagsOf xs n).length E]):=Z
 refine ay<|U<|ak fun V=>ao (aU tb)<|p (fa oB aa)<|p (ld kR aa<|ah.bu 1)<|e<|cl vY (x5 B tb c F xs (flagsOf xs n) C E 2 A (J.wk<|hE10.trans i) a ((aT M).2.wk i) (p8 a n).1 (p8 a n).2.1) aa fun aw ax ag=> ?_
 obtain ⟨ai,ad⟩:=ag
 exact ay<|V<|rt<|a6 aa<|⟨eD ai ab,(hE10.trans i).trans ad⟩
theorem DE (B tb:Nat) (c:fK) (F:aE) (xs:List bj) (n:Int) (w:World) (J:eB w B tb c F xs) (a:eW F xs):
 ba au 55 (aY [aU tb,.int .i64 n]) w (fun v w'=>bm w' w.heap.size 3 1 v (aQ F (flagsOf xs n) 1).length ((aQ F (flagsOf xs n) 1).map gG)∧Wk w w'):=by
 refine enter func55 aa ntmps55 aa<|ak fun O=>ay<|O<|ak fun U=>ao (aU tb)<|ao (.int .i64 n)<|e<|cl pz (q4 B tb c F xs n w J a) aa fun v10 aj ae=> ?_
 obtain ⟨⟨am,rfl,M⟩,hE10⟩:=ae
 obtain ⟨C,E,rfl⟩:=cR M
 have ar:=hE10.size
 refine p mv<|p (xt aa aa)<|p (xt aa aa)<|e<|al m8 fun Y az an I ac=> ?_
 have av:=I.size
 refine e<|cw iu aa aa aa aa (ac) (by simp) fun A G Z=> ?_
 have i:Wk aj A:=I.md.trans' G fun q ap h=>by omega
 have aq:=G.size
 have ah:bA A.heap Y ([str (gI xs n),.slice C (flagsOf xs n).length E]):=Z
 refine ay<|U<|ak fun V=>ao (aU tb)<|p (fa oB aa)<|p (ld kR aa<|ah.bu 1)<|e<|cl vY (x5 B tb c F xs (flagsOf xs n) C E 1 A (J.wk<|hE10.trans i) a ((aT M).2.wk i) (p8 a n).1 (p8 a n).2.1) aa fun aw ax ag=> ?_
 obtain ⟨ai,ad⟩:=ag
 exact ay<|V<|rt<|a6 aa<|⟨eD ai ab,(hE10.trans i).trans ad⟩
theorem DW (B tb:Nat) (c:fK) (F:aE) (xs:List bj) (n:Int) (w:World) (J:eB w B tb c F xs) (a:eW F xs):
 ba au 54 (aY [aU tb,.int .i64 n]) w (fun v w'=>bm w' w.heap.size 3 1 v (aQ F (cy F n) 2).length ((aQ F (cy F n) 2).map gG)∧Wk w w'):=by
 refine enter func54 aa ntmps54 aa<|ak fun O=>ay<|O<|ak fun U=>ao (aU tb)<|ao (.int .i64 n)<|e<|cl AB (tZ B tb c F xs n w J a) aa fun v10 aj ae=> ?_
 obtain ⟨⟨am,rfl,M⟩,hE10⟩:=ae
 obtain ⟨C,E,rfl⟩:=cR M
 have ar:=hE10.size
 refine p mv<|p (xt aa aa)<|p (xt aa aa)<|e<|al oQ fun Y az an I ac=> ?_
 have av:=I.size
 refine e<|cw mO aa aa aa aa (ac) (by simp) fun A G Z=> ?_
 have i:Wk aj A:=I.md.trans' G fun q ap h=>by omega
 have aq:=G.size
 have ah:bA A.heap Y (dP (oL F n,.slice C (cy F n).length E)):=Z
 refine ay<|U<|ak fun V=>ao (aU tb)<|p (fa nE aa)<|p (ld kR aa<|ah.bu 6)<|e<|cl vY (x5 B tb c F xs (cy F n) C E 2 A (J.wk<|hE10.trans i) a ((aT M).2.wk i) (uu a n).1 (uu a n).2.1) aa fun aw ax ag=> ?_
 obtain ⟨ai,ad⟩:=ag
 exact ay<|V<|rt<|a6 aa<|⟨eD ai ab,(hE10.trans i).trans ad⟩
theorem Bq (B tb:Nat) (J:fK) (F:aE) (xs:List bj) (n:Int) (w:World) (Z:eB w B tb J F xs) (A:eW F xs):
 ba au 93 (aY [aU tb,.int .i64 n]) w (fun v w'=>v= .bool (ow F n)∧Wk w w'):=by
 refine enter func93 aa ntmps93 aa<|ak fun ad=>ay<|ad<|ak fun ae=>ao (aU tb)<|ao (.int .i64 n)<|e<|cl AB (tZ B tb J F xs n w Z A) aa fun v10 av an=> ?_
 obtain ⟨⟨ax,rfl,ac⟩,hE10⟩:=an
 obtain ⟨M,O,rfl⟩:=cR ac
 have aF:=hE10.size
 refine p mv<|p (xt aa aa)<|p (xt aa aa)<|e<|al oQ fun ah aL aB Y aj=> ?_
 have aJ:=Y.size
 refine e<|cw mO aa aa aa aa (aj) (by simp) fun c V ai=> ?_
 have U:Wk av c:=Y.md.trans' V fun q aC h=>by omega
 have aD:=V.size
 have ar:bA c.heap ah (dP (oL F n,.slice M (cy F n).length O)):=ai
 have C:=hE10.trans U
 have aq:=Z.wk C
 refine ay<|ae<|az fun I=> ?_
 have a:(fun w'=>Wk c w') c.drew:=(Md.refl _ _).drew
 refine bK (fun w'=>Wk c w') aa wide a<|aI 0 aa (fun _ _=>mv) a<|aI 1 aa (fun _ _=>mv) a<|js (t:=14) aa (fun G=> ?_) fun G=> ?_
 refine bh 2 aa (fun _ _=>fa nE aa) a<|bh 3 aa (fun w' E=>ld kR aa<|Wk.aH E<|ar.bu 6) a<|bh 4 aa (fun _ _=>aG (aU tb) aa) a<|bh 5 aa (fun _ _=>nc aa) a<|bh 6 aa (fun _ _=>fa rp aa) a<|bh 7 aa (fun _ _=>fa tI aa) a<|bh 8 aa (fun _ _=>kv qL aa aa ab) a<|bh 9 aa (fun w' E=>ld bM aa<|Wk.aH E<|Ep aq (k:=0) ab) a<|ku 10 aa ag aa aa aa<|cl AR (Cr M O (cy F n) (F.sp.getD 0 0) c.drew (((aT ac).2.wk U).wk a)<|by have :=(uu A n).1; omega) aa fun aK aw ap=> ?_
 obtain ⟨rfl,am⟩:=ap
 have i:(fun w'=>Wk c w') aw:=a.trans am
 refine ⟨i,?_⟩
 exact bh 11 aa (fun _ _=>no aa) i<|aI 12 aa (fun _ _=>bI aa) i<|aI 13 aa (fun _ _=>aA) i<|hn ag<|I<|rt<|a6 aa<|⟨by unfold ow; rw [decide_eq_true G,Cs (uu A n).2.2]; rfl,C.trans i⟩
 exact a7 2 aa a<|a7 3 aa a<|a7 4 aa a<|a7 5 aa a<|a7 6 aa a<|a7 7 aa a<|a7 8 aa a<|a7 9 aa a<|a7 10 aa a<|a7 11 aa a<|aI 12 aa (fun _ _=>bD aa) a<|aI 13 aa (fun _ _=>aA) a<|hn ag<|I<|rt<|a6 aa<|⟨by unfold ow; rw [decide_eq_false G]; rfl,C.trans a⟩
theorem N2 (B tb:Nat) (I:fK) (F:aE) (xs:List bj) (n k:Int) (w:World) (Y:eB w B tb I F xs) (E:eW F xs):
 ba au 61 (aY [aU tb,.int .i64 n,.int .i64 k]) w (fun v w'=>v= .bool (nJ F xs n k)∧Wk w w'):=by
 refine enter func61 aa ntmps61 aa<|ak fun ad=>ay<|ad<|ak fun ae=>p mv<|p mv<|e<|cl pz (q4 B tb I F xs n w Y E) aa fun v12 aw an=> ?_
 obtain ⟨⟨a12,rfl,ac⟩,hE12⟩:=an
 obtain ⟨J,M,rfl⟩:=cR ac
 have aF:=hE12.size
 refine p mv<|p (xt aa aa)<|p (xt aa aa)<|e<|al m8 fun ah aK aB V aj=> ?_
 have aG:=V.size
 refine e<|cw iu aa aa aa aa (aj) (by simp) fun c U ai=> ?_
 have O:Wk aw c:=V.md.trans' U fun q aC h=>by omega
 have aD:=U.size
 have aq:bA c.heap ah [str (gI xs n),.slice J (flagsOf xs n).length M]:=ai
 have i:=hE12.trans O
 have ap:=Y.wk i
 refine ay<|ae<|az fun A=> ?_
 have a:(fun w'=>Wk c w') c.drew:=(Md.refl _ _).drew
 refine bK (fun w'=>Wk c w') aa wide a<|aI 0 aa (fun _ _=>mv) a<|aI 1 aa (fun _ _=>mv) a<|js (t:=16) aa (fun Z=> ?_) fun Z=> ?_
 refine bh 2 aa (fun _ _=>mv) a<|bh 3 aa (fun _ _=>ge aa aa) a<|aI 4 aa (fun _ _=>bI aa) a<|aI 5 aa (fun _ _=>mv) a<|js (t:=20) aa (fun ar=> ?_) fun ar=> ?_
 refine bh 6 aa (fun _ _=>mv) a<|bh 7 aa (fun _ _=>lt aa aa) a<|aI 8 aa (fun _ _=>bI aa) a<|aI 9 aa (fun _ _=>mv) a<|js (t:=24) aa (fun av=> ?_) fun av=> ?_
 obtain ⟨k,rfl⟩:∃ m:Nat,k=(m:Int):=⟨k.toNat,ab⟩
 refine bh 10 aa (fun _ _=>fa oB aa) a<|bh 11 aa (fun w' G=>ld kR aa<|Wk.aH G<|aq.bu 1) a<|bh 12 aa (fun _ _=>mv) a<|bh 13 aa (fun _ _=>mv) a<|bh 14 aa (fun _ _=>nc aa) a<|bh 15 aa (fun _ _=>fa rp aa) a<|bh 16 aa (fun _ _=>fa tI aa) a<|bh 17 aa (fun _ _=>kv qL aa aa ab) a<|bh 18 aa (fun w' G=>ld bM aa<|Wk.aH G<|Ep ap ab) a<|ku 19 aa ag aa aa aa<|cl AR (Cr J M (flagsOf xs n) (F.sp.getD k 0) c.drew (((aT ac).2.wk O).wk a)<|by have :=(p8 E n).1; omega) aa fun aJ ax ao=> ?_
 obtain ⟨rfl,am⟩:=ao
 have C:(fun w'=>Wk c w') ax:=a.trans am
 refine ⟨C,?_⟩
 exact aI 20 aa (fun _ _=>bI aa) C<|aI 21 aa (fun _ _=>aA) C<|hn ag<|A<|rt<|a6 aa<|⟨by unfold nJ pU; rw [decide_eq_true (show 0≤((k:Nat):Int)∧((k:Nat):Int) < 5 by omega),ji,Cs (p8 E n).2.2]; rfl,i.trans C⟩
 exact a7 10 aa a<|a7 11 aa a<|a7 12 aa a<|a7 13 aa a<|a7 14 aa a<|a7 15 aa a<|a7 16 aa a<|a7 17 aa a<|a7 18 aa a<|a7 19 aa a<|aI 20 aa (fun _ _=>bD aa) a<|aI 21 aa (fun _ _=>aA) a<|hn ag<|A<|rt<|a6 aa<|⟨by unfold nJ; rw [decide_eq_false (show ¬(0≤k∧k < 5) by omega)]; rfl,i.trans a⟩
 exact a7 6 aa a<|a7 7 aa a<|aI 8 aa (fun _ _=>bD aa) a<|aI 9 aa (fun _ _=>mv) a<|a7 10 aa a<|a7 11 aa a<|a7 12 aa a<|a7 13 aa a<|a7 14 aa a<|a7 15 aa a<|a7 16 aa a<|a7 17 aa a<|a7 18 aa a<|a7 19 aa a<|aI 20 aa (fun _ _=>bD aa) a<|aI 21 aa (fun _ _=>aA) a<|hn ag<|A<|rt<|a6 aa<|⟨by unfold nJ; rw [decide_eq_false (show ¬(0≤k∧k < 5) by omega)]; rfl,i.trans a⟩
 exact a7 2 aa a<|a7 3 aa a<|aI 4 aa (fun _ _=>bD aa) a<|aI 5 aa (fun _ _=>mv) a<|a7 6 aa a<|a7 7 aa a<|aI 8 aa (fun _ _=>bD aa) a<|aI 9 aa (fun _ _=>mv) a<|a7 10 aa a<|a7 11 aa a<|a7 12 aa a<|a7 13 aa a<|a7 14 aa a<|a7 15 aa a<|a7 16 aa a<|a7 17 aa a<|a7 18 aa a<|a7 19 aa a<|aI 20 aa (fun _ _=>bD aa) a<|aI 21 aa (fun _ _=>aA) a<|hn ag<|A<|rt<|a6 aa<|⟨by unfold nJ pU; rw [(sW Z).2,decide_eq_false (show ¬(F.sp.getD k.toNat 0≠0∧F.sp.getD k.toNat 0∈[]) from fun h=>by cases h.2),uM]; rfl,i.trans a⟩
end Go.Hb.lZ
section
namespace Go.Hb
open Go.Hb.oa
theorem Qy {ps:List Tx} {w:Tx} {i:Nat} (hi:i < ps.length) (h:et (ps.getD i []) (w.getD i 0)=false):ml ps w=false :=by
 unfold ml
 rw [Bool.and_eq_false_iff]
 refine .inr ?_
 rw [List.all_eq_false]
 exact ⟨i,by simpa using hi,by rw [h]; exact c8⟩
theorem QA {ps:List Tx} {w:Tx} (a:ps.length≤w.length) (h:∀ i,i < ps.length→et (ps.getD i []) (w.getD i 0)=true):ml ps w=true :=by
 unfold ml
 rw [fi,decide_eq_true a,List.all_eq_true]
 exact ⟨aa,fun i hi=>h i<|by simpa using hi⟩
theorem Qz {ps:List Tx} {w:Tx} (h:w.length < ps.length):ml ps w=false :=by
 unfold ml; rw [decide_eq_false ab]; rfl
theorem Mu (s pr:List UInt8) (w:World) (hs:s.length≤1099511627776) (hp:pr.length≤1099511627776):
 ba au 147 (aY [str s,str pr]) w (fun v w'=>v= .bool (decide (s.take pr.length=pr))∧Wk w w'):=by
 refine enter func147 aa ntmps147 aa<|ak fun a=>ay<|a<|ak fun c=>ao (str s)<|ao (str pr)<|e<|cl vQ (xH s pr _ hs hp) aa fun A C q=> ?_
 obtain ⟨rfl,i⟩:=q
 exact ay<|c<|rt<|a6 aa<|⟨aa,i⟩
theorem Mv (s pr:List UInt8) (w:World) (hs:s.length≤1099511627776) (hp:pr.length≤1099511627776):
 ba au 145 (aY [str s,str pr]) w (fun v w'=>v= .bool (decide (pr.length≤s.length∧s.drop (s.length - pr.length)=pr))∧Wk w w'):=by
 refine enter func145 aa ntmps145 aa<|ak fun a=>ay<|a<|ak fun c=>ao (str s)<|ao (str pr)<|e<|cl vP (xI s pr _ hs hp) aa fun A C q=> ?_
 obtain ⟨rfl,i⟩:=q
 exact ay<|c<|rt<|a6 aa<|⟨aa,i⟩
theorem OS (ps:List Tx) (a:Option Addr) (c:Nat) (i:Nat) (b:UInt8) (w:World) (C:aC w.heap a (jr ps)) (hi:i < ps.length) (ac:ps.length≤4096):
 ba au 212 (aY [.agg [.slice a ps.length c].toArray,aj i,.int .u8 b.toNat]) w (fun v w'=>v= .bool (et (ps.getD i []) b)∧Wk w w'):=by
 refine enter func212 aa ntmps212 aa<|ak fun G=>e<|jq aa fun J E V q M=> ?_
 have A:bA E.heap J [.slice a ps.length c]:=M
 refine ay<|G<|ak fun I=>ao (aj i)<|p (ge aa aa)<|p mv<|gs (t:=9) aa (fun Z=> ?_) fun h=>absurd ab h
 refine aR aa (aG (aj i) aa)<|aR aa (fa kt aa)<|aR aa (ld lx aa<|A.bu 0)<|aR aa (bO nV aa aa)<|aR aa (lt aa aa)<|p (bI aa)<|p mv<|gs (t:=16) aa (fun Y=> ?_) fun h=>absurd ab h
 refine aR aa (fa kt aa)<|aR aa (ld lx aa<|A.bu 0)<|aR aa (aG (aj i) aa)<|aR aa (aW Bx aa aa ab<|aC.ok (C.wk q.md)<|AY ab)<|aR aa (cI iX aa (aa)<|AX (C.wk q.md) hi)<|aR aa (aG (.int .u8 b.toNat) aa)<|eg aa aa aa<|cl vR (Ct (et<|ps.getD i []) b E) aa fun ad ae U=> ?_
 obtain ⟨rfl,O⟩:=U
 exact p (bI aa)<|ay<|I<|rt<|a6 aa<|⟨aa,q.md.trans O⟩
theorem DF (ps:List Tx) (a:Option Addr) (c:Nat) (s:Tx) (w:World) (ax:aC w.heap a (jr ps)) (aH:ps.length≤4096):
 ba au 148 (aY [.agg [.slice a ps.length c].toArray,str s]) w (fun v w'=>v= .bool (ml ps s)∧Wk w w'):=by
 refine enter func148 aa ntmps148 aa<|ak fun ah=>e<|jq aa fun V ae aP G aw=> ?_
 have M:bA ae.heap V [.slice a ps.length c]:=aw
 refine ay<|ah<|az fun am=>ak fun an=>ao (str s)<|p (db u9 aa aa)<|p (fa kt aa)<|p (ld lx aa<|M.bu 0)<|p (bO nV aa aa)<|p (lt aa aa)<|nl<|an<|cd aa (fun aF=> ?_) fun aF=> ?_
 exact ak fun I=>ay<|I<|rt<|tr<|a6 aa<|⟨by rw [Qz ab]; rfl,G.md⟩
 refine aM<|am<|az fun I=>ak fun ap=>p (fa kt aa)<|p (ld lx aa<|M.bu 0)<|p (bO nV aa aa)<|p mv<|nl<|ap<|aB<|lp (fun Y E A=> ∃ (i:Nat),(i≤ps.length)∧(∀ k,k < i→et (ps.getD k []) (s.getD k 0)=true)∧(Wk ae A)∧(E 1=str s)∧(E 2=aU V)∧(E 14=aj (ps.length))∧(E 15=aj i)∧(ps.length - i=Y)) _ ⟨0,ab,(fun k hk=>absurd hk<|Nat.not_lt_zero _),(Md.refl _ _),aa,aa,aa,aa,aa⟩ ?_
 rintro Y E A ⟨i,hi,ac,C,aJ,aN,aK,aL,rfl⟩
 refine fx 1 aJ<|fx 2 aN<|fx 14 aK<|fx 15 aL<|ak fun aq=>p (lt aa aa)<|nl<|aq<|az fun ar=>cd aa (fun aG=> ?_) fun aG=> ?_
 refine aM<|ar<|az fun J=>aB<|ak fun av=>ao (aj i)<|p (bY (aj i) aa)<|nl<|av<|az fun ai=> ?_
 have q:(fun w'=>Wk A w') A.drew:=(Md.refl _ _).drew
 refine bK (fun w'=>Wk A w') aa wide q<|aI 0 aa (fun w' aE=>cI kQ aa (aa) fun j aQ=>(Wk.B aE<|Wk.B C M).bu j) q<|bH 1 aa (aj i) q<|bH 2 aa (str s) q<|bH 3 aa (aj i) q<|aI 4 aa (fun _ _=>ja u9 aa aa ab) q<|he 5 aa ag<|cl HX (OS ps a c i (s.getD i 0) A.drew (ax.wk<|G.md.trans<|C.trans q) ab aH) aa fun aR aO aD=> ?_
 obtain ⟨rfl,O⟩:=aD
 have Z:(fun w'=>Wk A w') aO:=q.trans O
 refine ⟨Z,?_⟩
 refine aI 6 aa (fun _ _=>no aa) Z<|hn ag<|ai<|cb aa (fun U=> ?_) fun U=> ?_
 exact ak fun al=>ay<|al<|rt<|br<|tr<|tr<|br<|tr<|a6 aa<|⟨by rw [Qy (i:=i) ab (by simpa using U)]; rfl,G.md.trans<|C.trans<|q.trans O⟩
 exact aM<|bn<|J<|rg aa<|p (ad aa aa<|bR ab)<|p mv<|nl<|tn<|⟨_,ab,i+1,ab,(fun k hk=>by rcases Nat.lt_succ_iff_lt_or_eq.1 hk with h | rfl; exact ac k h; simpa using U),(C.trans<|q.trans O),aa,aa,aa,aa,aa⟩
 exact ext<|bc<|bc<|be<|I<|ak fun J=>p aA<|nl<|J<|rt<|a6 aa<|⟨by rw [QA ab (fun k hk=>ac k ab)]; rfl,G.md.trans C⟩
section
variable {r:cW} {s:Tx}
theorem LL (h:(dz r.cond).2≠0):gT r s=false :=by unfold gT; rw [decide_eq_false (fun h2=>h h2.1)]; rfl
theorem LM (h:s.length≤r.strip.length):gT r s=false :=by unfold gT; rw [decide_eq_false (fun h2=>by omega)]; rfl
variable (h:(dz r.cond).2=0) (h1:r.strip.length < s.length)
include h h1
theorem BQ (hk:r.kind=2):gT r s=(decide (s.drop (s.length - r.strip.length)=r.strip) && qY (dz r.cond).1 s):=by unfold gT; rw [decide_eq_true ⟨h,h1⟩,if_pos hk]; rfl
theorem BP (hk:r.kind=1):gT r s=(decide (s.take r.strip.length=r.strip) && ml (dz r.cond).1 s):=by unfold gT; rw [decide_eq_true ⟨h,h1⟩,if_neg ab,if_pos hk]; rfl
omit h h1 in
theorem LK (hk:r.kind≠1) (a:r.kind≠2):gT r s=false :=by unfold gT; rw [if_neg a,if_neg hk,uM]
end
theorem OZ (ps:List Tx) (a:Option Addr) (c:Nat) (s:Tx) (w:World) (U:aC w.heap a (jr ps)) (ac:ps.length≤4096) (ai:s.length≤1048576):
 ba au 146 (aY [.agg [.slice a ps.length c].toArray,str s]) w (fun v w'=>v= .bool (qY ps s)∧Wk w w'):=by
 refine enter func146 aa ntmps146 aa<|ak fun J=>e<|jq aa fun M q ae G O=> ?_
 have E:bA q.heap M [.slice a ps.length c]:=O
 refine ay<|J<|az fun I=> ?_
 have i:(fun w'=>Wk q w') q.drew:=(Md.refl _ _).drew
 refine bK (fun w'=>Wk q w') aa wide i<|bH 0 aa (str s) i<|aI 1 aa (fun _ _=>db u9 aa aa) i<|aI 2 aa (fun _ _=>fa kt aa) i<|aI 3 aa (fun w' A=>ld lx aa<|Wk.aH A<|E.bu 0) i<|aI 4 aa (fun _ _=>bO nV aa aa) i<|aI 5 aa (fun _ _=>ge aa aa) i<|aI 6 aa (fun _ _=>mv) i<|js (t:=11) aa (fun Z=> ?_) fun Z=> ?_
 refine bh 7 aa (fun w' A=>cI kQ aa (aa) fun j ah=>(Wk.B A E).bu j) i<|bh 8 aa (fun _ _=>aG (str s) aa) i<|bh 9 aa (fun _ _=>aG (str s) aa) i<|bh 10 aa (fun _ _=>db u9 aa aa) i<|bh 11 aa (fun _ _=>fa kt aa) i<|bh 12 aa (fun w' A=>ld lx aa<|Wk.aH A<|E.bu 0) i<|bh 13 aa (fun _ _=>bO nV aa aa) i<|bh 14 aa (fun _ _=>cU ((s.length - ps.length:Nat):Int) aa aa<|bd ab ab) i<|bh 15 aa (fun _ _=>mZ u9 aa aa ab) i<|ku 16 aa ag aa aa aa<|cl Am (DF ps a c (s.drop<|s.length - ps.length) q.drew (U.wk<|G.md.trans i) ac) aa fun v21 ad Y=> ?_
 obtain ⟨rfl,V⟩:=Y
 have C:(fun w'=>Wk q w') ad:=i.trans V
 refine ⟨C,?_⟩
 exact aI 17 aa (fun _ _=>bI aa) C<|aI 18 aa (fun _ _=>aA) C<|hn ag<|I<|rt<|a6 aa<|⟨by unfold qY; rw [decide_eq_true (show ps.length≤s.length by omega)]; rfl,G.md.trans C⟩
 exact a7 7 aa i<|a7 8 aa i<|a7 9 aa i<|a7 10 aa i<|a7 11 aa i<|a7 12 aa i<|a7 13 aa i<|a7 14 aa i<|a7 15 aa i<|a7 16 aa i<|aI 17 aa (fun _ _=>bD aa) i<|aI 18 aa (fun _ _=>aA) i<|hn ag<|I<|rt<|a6 aa<|⟨by unfold qY; rw [decide_eq_false (show ¬ps.length≤s.length by omega)]; rfl,G.md.trans i⟩
theorem LN (r:cW) (u:Value) (s:Tx) (w:World) (bb:r.strip.length≤1048576) (a5:r.add.length≤1048576) (aU:r.cond.length≤1048576) (aW:s.length≤1048576):
 ba au 94 (aY [.agg (dP (r,u)).toArray,str s]) w (fun v w'=>v= .bool (gT r s)∧Wk w w'):=by
 refine enter func94 aa ntmps94 aa<|ak fun am=>e<|jq aa fun av aj a1 ag aA=> ?_
 have a9:((r,u):cW×Value).1.strip.length=r.strip.length:=rfl
 have a8:((r,u):cW×Value).1.kind=r.kind:=rfl
 have a7:((r,u):cW×Value).1.add.length=r.add.length:=rfl
 have Z:bA aj.heap av (dP (r,u)):=aA
 refine ay<|am<|ak fun an=>p (fa Cc aa)<|p (ld cG aa<|Z.bu 5)<|e<|cl Al (A3 r.cond aj aU) aa fun v10 aX aH=> ?_
 obtain ⟨⟨ac,rfl,ai⟩,hE10⟩:=aH
 obtain ⟨a,c,rfl⟩:=cR ai
 have ae:=(aT ai).2
 have a3:=A2 r.cond
 have bd:=ag.size
 have bc:=hE10.size
 refine p mv<|p (xt aa aa)<|p (xt aa aa)<|e<|al uI fun aw bl a2 ah aC=> ?_
 have bf:=ah.size
 refine e<|cw nC aa aa aa aa (aC) (by simp) fun O aF ax=> ?_
 have I:Wk aX O:=ah.md.trans' aF fun q a4 h=>by omega
 have ad:bA O.heap aw [.slice a (dz r.cond).1.length c]:=ax
 have G:=Wk.B (hE10.trans I) Z
 have i:=ag.md.trans<|hE10.trans I
 refine ay<|an<|az fun ap=>ak fun Y=>p mv<|p (gO aa aa)<|p mv<|gs (t:=15) aa (fun aO=> ?_) fun aO=> ?_
 refine aJ aa<|aJ aa<|aJ aa<|aJ aa<|aJ aa<|aJ aa<|p (bI aa)<|nl<|Y<|ct aa<|ak fun A=>ay<|A<|rt ?_
 exact tr<|a6 aa<|⟨by rw [LL ab]; rfl,i⟩
 refine aR aa (aG (str s) aa)<|aR aa (db u9 aa aa)<|aR aa (fa pQ aa)<|aR aa (ld cG aa<|G.bu 3)<|aR aa (db u9 aa aa)<|aR aa (le aa aa)<|p (bD aa)<|nl<|Y<|cd aa (fun aV=> ?_) fun aV=> ?_
 exact ak fun A=>ay<|A<|rt<|tr<|a6 aa<|⟨by rw [LM ab]; rfl,i⟩
 refine aM<|ap<|az fun A=>ak fun aq=>p (fa Cb aa)<|p (ld bW aa<|G.bu 0)<|nl<|aq<|aB<|ak fun ar=>p (bS aa aa)<|ay<|ar ?_
 refine cd aa (fun aS=> ?_) fun aS=> ?_
 refine ak fun C=>ao (str s)<|p (fa pQ aa)<|p (ld cG aa<|G.bu 3)<|e<|cl HJ (Mv s r.strip O ab ab) aa fun v30 aZ aI=> ?_
 obtain ⟨rfl,J⟩:=aI
 refine p mv<|gb (t:=31) aa (fun V=> ?_) fun V=> ?_
 refine aR aa (cI kQ aa (aa) fun j aP=>(Wk.B J ad).bu j)<|aR aa (aG (str s) aa)<|eg aa aa aa<|cl HK (OZ (dz r.cond).1 a c s aZ (ae.wk<|I.trans J) ab aW) aa fun bg bj aK=> ?_
 obtain ⟨rfl,aD⟩:=aK
 exact p (bI aa)<|ay<|C<|rt<|br<|tr<|a6 aa<|⟨by rw [BQ ab ab ab,decide_eq_true (of_decide_eq_true V).2]; rfl,i.trans<|J.trans aD⟩
 exact aJ aa<|aJ aa<|aJ aa<|p (bD aa)<|ay<|C<|rt<|br<|tr<|a6 aa<|⟨by rw [BQ ab ab ab,decide_eq_false (fun h=>of_decide_eq_false V ⟨ab,h⟩)]; rfl,i.trans J⟩
 refine ak fun C=>p (bS aa aa)<|ay<|C<|cd aa (fun aQ=> ?_) fun aQ=> ?_
 refine ak fun E=>ao (str s)<|p (fa pQ aa)<|p (ld cG aa<|G.bu 3)<|e<|cl HL (Mu s r.strip O ab ab) aa fun bh a0 aL=> ?_
 obtain ⟨rfl,M⟩:=aL
 refine p mv<|gb (t:=42) aa (fun U=> ?_) fun U=> ?_
 refine aR aa (cI kQ aa (aa) fun j aP=>(Wk.B M ad).bu j)<|aR aa (aG (str s) aa)<|eg aa aa aa<|cl Am (DF (dz r.cond).1 a c s a0 (ae.wk<|I.trans M) ab) aa fun bi bk aN=> ?_
 obtain ⟨rfl,aE⟩:=aN
 exact p (bI aa)<|ay<|E<|rt<|br<|tr<|a6 aa<|⟨by rw [BP ab ab ab,U]; rfl,i.trans<|M.trans aE⟩
 exact aJ aa<|aJ aa<|aJ aa<|p (bD aa)<|ay<|E<|rt<|br<|tr<|a6 aa<|⟨by rw [BP ab ab ab,U]; rfl,i.trans M⟩
 exact aM<|bn<|A<|ak fun E=>ay<|E<|rt<|a6 aa<|⟨by rw [LK ab ab]; rfl,i⟩
def nS (s p:Tx):Tx:=if p.length≤s.length∧s.drop (s.length - p.length)=p then s.take (s.length - p.length) else s
theorem G9 {r:cW} {s:Tx} (h:gT r s=false):c5 r s=none:=if_neg<|by rw [h]; exact c8
theorem xh {r:cW} {s:Tx} (h:gT r s=true):r.strip.length < s.length∧(r.kind=2→s.drop (s.length - r.strip.length)=r.strip)∧(r.kind≠2→s.take r.strip.length=r.strip):=by
 unfold gT at h
 rw [fi,decide_eq_true_eq] at h
 refine ⟨h.1.2,fun hk=> ?_,fun hk=> ?_⟩
 · have h2:=h.2; rw [if_pos hk,fi] at h2; exact of_decide_eq_true h2.1
 · have h2:=h.2; rw [if_neg hk] at h2
   split at h2
   · rw [fi] at h2; exact of_decide_eq_true h2.1
   · cases h2
theorem Hc {r:cW} {s:Tx} (h:gT r s=true) (hk:r.kind=2):c5 r s=some (nS s r.strip++r.add):=by
 have h1:=xh h
 unfold c5 nS; rw [if_pos h,if_pos hk,if_pos ⟨ab,h1.2.1 hk⟩]
theorem Ha {r:cW} {s:Tx} (h:gT r s=true) (hk:r.kind≠2):c5 r s=some (r.add++eF s r.strip):=by
 have h1:=xh h
 unfold c5 eF; rw [if_pos h,if_neg hk,if_pos (h1.2.2 hk)]
def yj (x:Option Tx):Value:= .tuple #[str (x.getD []),.bool x.isSome]
theorem Q0 (s pr:List UInt8) (w:World) (hs:s.length≤1099511627776) (hp:pr.length≤1099511627776):
 ba au 149 (aY [str s,str pr]) w (fun v w'=>v=str (nS s pr)∧Wk w w'):=by
 refine enter func149 aa ntmps149 aa<|ak fun A=>ay<|A<|az fun C=>ak fun E=>ao (str s)<|ao (str pr)<|e<|cl vP (xI s pr _ hs hp) aa fun I J G=> ?_
 obtain ⟨rfl,q⟩:=G
 refine nl<|E<|cb aa (fun c=> ?_) fun c=> ?_
 have i:=of_decide_eq_true c
 exact ak fun a=>ao (str s)<|ao (str s)<|p (db u9 aa aa)<|ao (str pr)<|p (db u9 aa aa)<|p (cU ((s.length - pr.length:Nat):Int) aa aa<|bd ab ab)<|p (rU u9 aa aa ab)<|ay<|a<|rt<|tr<|a6 aa<|⟨by show str (s.take (((s.length - pr.length:Nat):Int)).toNat)=_; unfold nS; rw [if_pos i]; rfl,q⟩
 have i:=of_decide_eq_false c
 exact aM<|C<|ak fun a=>ao (str s)<|p (bY (str s) aa)<|nl<|a<|rt<|a6 aa<|⟨by show str s=_; unfold nS; rw [if_neg i],q⟩
theorem Q1 (s pr:List UInt8) (w:World) (hs:s.length≤1099511627776) (hp:pr.length≤1099511627776):
 ba au 95 (aY [str s,str pr]) w (fun v w'=>v=str (nS s pr)∧Wk w w'):=by
 refine enter func95 aa ntmps95 aa<|ak fun a=>ay<|a<|ak fun c=>ao (str s)<|ao (str pr)<|e<|cl An (Q0 s pr _ hs hp) aa fun A C q=> ?_
 obtain ⟨rfl,i⟩:=q
 exact ay<|c<|rt<|a6 aa<|⟨aa,i⟩
theorem sV (r:cW) (u:Value) (s:Tx) (w:World) (aw:r.strip.length≤1048576) (ar:r.add.length≤1048576) (av:r.cond.length≤1048576) (ax:s.length≤1048576):
 ba au 59 (aY [.agg (dP (r,u)).toArray,str s]) w (fun v w'=>v=yj (c5 r s)∧Wk w w'):=by
 refine enter func59 aa ntmps59 aa<|ak fun Z=>e<|jq aa fun ah Y aD am ai=> ?_
 have aK:((r,u):cW×Value).1.strip.length=r.strip.length:=rfl
 have aJ:((r,u):cW×Value).1.kind=r.kind:=rfl
 have aG:((r,u):cW×Value).1.add.length=r.add.length:=rfl
 have U:bA Y.heap ah (dP (r,u)):=ai
 refine p aA<|ay<|Z<|az fun ac=>ak fun ad=>p (cI ko aa (aa) fun j aF=>U.bu j)<|ao (str s)<|e<|cl IS (LN r u s Y aw ar av ax) aa fun aO a aq=> ?_
 obtain ⟨rfl,V⟩:=aq
 have E:=Wk.B V U
 have M:=am.md.trans V
 refine p (no aa)<|nl<|ad<|cb aa (fun O=> ?_) fun O=> ?_
 have G:gT r s=false :=by simpa using O
 exact ak fun I=>p aA<|ay<|I<|rt<|tr<|f2 aa aa aa<|⟨by rw [G9 G]; rfl,M⟩
 have G:gT r s=true :=by simpa using O
 have aE:=(xh G).1
 refine aM<|ac<|az fun I=>ak fun ae=>p (fa Cb aa)<|p (ld bW aa<|E.bu 0)<|p (bS aa aa)<|nl<|ae<|cd aa (fun hk=> ?_) fun hk=> ?_
 refine az fun J=> ?_
 have i:(fun w'=>Wk a w') a.drew:=(Md.refl _ _).drew
 refine bK (fun w'=>Wk a w') aa wide i<|bH 0 aa (str s) i<|aI 1 aa (fun _ _=>fa pQ aa) i<|aI 2 aa (fun w' c=>ld cG aa<|Wk.aH c<|E.bu 3) i<|aI 4 aa (fun _ _=>fa xA aa) i<|aI 5 aa (fun w' c=>ld cG aa<|Wk.aH c<|E.bu 4) i<|he 3 aa ag<|cl AP (Q1 s r.strip a.drew ab ab) aa fun aL aB an=> ?_
 obtain ⟨rfl,aj⟩:=an
 have A:(fun w'=>Wk a w') aB:=i.trans aj
 refine ⟨A,?_⟩
 exact aI 6 aa (fun _ _=>cc aa aa (by have :(nS s r.strip).length≤s.length:=(by unfold nS; split <;> simp <;> omega); omega)) A<|aI 7 aa (fun _ _=>aA) A<|aI 8 aa (fun _ _=>aA) A<|hn ag<|J<|rt<|tr<|f2 aa aa aa<|⟨by rw [Hc G ab]; rfl,M.trans A⟩
 refine aM<|I<|az fun J=> ?_
 have q:(fun w'=>Wk a w') a.drew:=(Md.refl _ _).drew
 refine bK (fun w'=>Wk a w') aa wide q<|aI 0 aa (fun _ _=>fa xA aa) q<|aI 1 aa (fun w' c=>ld cG aa<|Wk.aH c<|E.bu 4) q<|bH 2 aa (str s) q<|aI 3 aa (fun _ _=>fa pQ aa) q<|aI 4 aa (fun w' c=>ld cG aa<|Wk.aH c<|E.bu 3) q<|he 5 aa ag<|cl AQ (Es s r.strip a.drew ab ab) aa fun aN aC ap=> ?_
 obtain ⟨rfl,al⟩:=ap
 have C:(fun w'=>Wk a w') aC:=q.trans al
 refine ⟨C,?_⟩
 exact aI 6 aa (fun _ _=>cc aa aa (by have :(eF s r.strip).length≤s.length:=(by unfold eF; split <;> simp); omega)) C<|aI 7 aa (fun _ _=>aA) C<|aI 8 aa (fun _ _=>aA) C<|hn ag<|J<|rt<|f2 aa aa aa<|⟨by rw [Ha G ab]; rfl,M.trans C⟩
end Go.Hb
end
section
namespace Go.Hb
open Go.Hb.lZ
def gq (d:cV):List Value:= [str d.Eg,.int .i64 (d.KV:Nat),.int .i64 d.fst,.int .i64 d.snd,.int .i64 d.pre]
def l6 (l:List cV):List Value:=l.flatMap gq
def pH (d:cV):Array Value:= #[.agg (gq d).toArray]
theorem qN {h:Array Obj} {b e:Nat} {L:List Value} (a:h[b]? =some (.cells L.toArray e (0,0))):bA h b L:=⟨e,a⟩
def Rn (F:aE) (n:Int):Prop :=n= -1∨(0≤n∧n < F.rules.length)
section
variable {F:aE} {xs:List bj} {e:Nat} {f s p:Int}
theorem Ms (a:f= -1) (hp:p= -1):dZ F xs e f s p= !pU F xs e 0:=by unfold dZ; rw [if_pos a,decide_eq_false (fun h=>h hp)]; rfl
theorem Mt (a:f= -1) (hp:p≠ -1):dZ F xs e f s p=true :=by unfold dZ; rw [if_pos a,decide_eq_true hp]; rfl
theorem Cp (a:f≠ -1) (h:ow F (if s= -1 then f else s)=false):dZ F xs e f s p=false :=by unfold dZ; rw [if_neg a,if_pos h]
theorem Co (a:f≠ -1) (h:ow F (if s= -1 then f else s)=true) (hp:p= -1):dZ F xs e f s p=true :=by unfold dZ; rw [if_neg a,if_neg (by rw [h]; exact c8),decide_eq_true hp]; rfl
theorem pR (a:f≠ -1) (h:ow F (if s= -1 then f else s)=true) (hp:p≠ -1):dZ F xs e f s p=(l2 F f && l2 F s && l2 F p):=by unfold dZ; rw [if_neg a,if_neg (by rw [h]; exact c8),decide_eq_false hp]; rfl
theorem JR:l2 F (-1)=true :=by unfold l2; rw [decide_eq_true rfl]; rfl
theorem qU {k:Nat} {r:cW} (a:F.rules[k]? =some r):l2 F k=r.fu:=by
 unfold l2
 rw [decide_eq_false ab,ji,cO,a]; rfl
end
theorem N1 (F:aE) (xs:List bj) (e:Int):nJ F xs e 0=pU F xs e 0:=rfl
theorem Em {α β:Type} {g:α→Option β} {l:List α} {i:Nat} (d:α) (h:i < l.length):(l.take<|i+1).filterMap g=(l.take i).filterMap g++(g<|l.getD i d).toList:=by
 rw [ka l i d h,zq]
 congr 1
structure o7 where
 ar:Option Addr
 cr:Nat
 rn:List Value
 ap:Option Addr
 cp:Nat
def lF (tb l:Nat) (K:o7) (F:aE) (e:Int) (word:Tx) (ps:List Nat):List Value:= [.pointer (some ⟨tb,0,none⟩),.slice K.ar F.rules.length K.cr,.int .i64 e,str word,.slice K.ap ps.length K.cp,.func (.yield l) #[] #[]]
structure gQ (w:World) (fp:Nat→Prop) (S0 mb tb l:Nat) (K:o7) (F:aE) (e:Int) (word:Tx) (ps:List Nat):Prop where
 lo:S0≤mb
 cells:w.heap[mb]? =some (.cells (lF tb l K F e word ps).toArray 183 (0,0))
 nf:¬fp mb
 ru:bm w S0 77 7 (.slice K.ar F.rules.length K.cr) F.rules.length (fy<|F.rules.zip K.rn)
 rf:∀ k,(bz K.ar F.rules.length K.cr).ownBlock=some k→¬fp k
 rn:K.rn.length=F.rules.length
 pr:bm w S0 3 1 (.slice K.ap ps.length K.cp) ps.length (ps.map gG)
 pf:∀ k,(bz K.ap ps.length K.cp).ownBlock=some k→¬fp k
section
variable {w w':World} {fp fp':Nat→Prop} {S0 mb tb l:Nat} {K:o7} {F:aE} {e:Int} {word:Tx} {ps:List Nat}
theorem gQ.gw (h:gQ w fp S0 mb tb l K F e word ps) (a:Gw S0 fp w fp' w'):gQ w' fp' S0 mb tb l K F e word ps:=
 ⟨h.lo,(a.aB h.cells h.lo h.nf).1,(a.aB h.cells h.lo h.nf).2,(a.own h.ru h.rf).1,(a.own h.ru h.rf).2,h.rn,(a.own h.pr h.pf).1,(a.own h.pr h.pf).2⟩
theorem gQ.wk (h:gQ w fp S0 mb tb l K F e word ps) (hm:Wk w w'):gQ w' fp S0 mb tb l K F e word ps:=h.gw<|Gw.wk hm
theorem gQ.rC (h:gQ w fp S0 mb tb l K F e word ps) {G:Nat→Prop} (hm:Md G w w') {L:List Nat} (c:TF w L G) (a:(L.contains 185 || L.contains 79 || L.contains 5)=false):gQ w' fp S0 mb tb l K F e word ps:=by
 simp only [Bool.or_eq_false_iff] at a
 exact ⟨h.lo,hm.iY c h.cells a.1.1,h.nf,cM h.ru hm c a.1.2,h.rf,h.rn,cM h.pr hm c a.2,h.pf⟩
theorem gQ.j8 (h:gQ w fp S0 mb tb l K F e word ps) {k:Nat} {r:cW} (a:F.rules[k]? =some r):∃ u,(F.rules.zip K.rn)[k]? =some (r,u):=by
 have hk:=(eI.1 a).1
 have c:k < K.rn.length:=by rw [h.rn]; exact hk
 exact ⟨K.rn[k],iJ.2 ⟨a,cx c⟩⟩
end
theorem DD {α:Type} {a b c:List α} (h:b <+:c):a++b <+:a++c:=by obtain ⟨t,rfl⟩:=h; exact ⟨t,by rw [dx]⟩
theorem JY {F:aE} {xs:List bj} {e:Nat} {word:Tx} {f s:Int} {p:Nat} (h:dZ F xs e f s p=false):ib F xs e word f s p=none:=if_neg<|by rw [h]; exact c8
theorem JW {F:aE} {xs:List bj} {e:Nat} {word:Tx} {f s:Int} {p:Nat} (h:c5 (F.rules.getD p dv) word=none):ib F xs e word f s p=none:=by unfold ib; rw [h]; split <;> rfl
theorem JZ {F:aE} {xs:List bj} {e:Nat} {word v:Tx} {f s:Int} {p:Nat} (h:dZ F xs e f s p=true) (h1:c5 (F.rules.getD p dv) word=some v):ib F xs e word f s p=some ⟨v,e,f,s,p⟩:=by unfold ib; rw [if_pos h,h1]; rfl
theorem xF (B tb:Nat) (ap:fK) (F:aE) (xs:List bj) (ar:Option Addr) (cr:Nat) (rn:List Value) (word:Tx) (en:Nat) (f s pp:Int) (w:World) (a1:eB w B tb ap F xs) (aF:eW F xs) (aT:aC w.heap ar (fy<|F.rules.zip rn)) (al:rn.length=F.rules.length) (ad:Rn F f) (hs:Rn F s) (hp:Rn F pp):
 ba au 57 (aY [aU tb,.slice ar F.rules.length cr,.agg (gq ⟨word,en,f,s,pp⟩).toArray]) w (fun v w'=>v= .bool (dZ F xs en f s pp)∧Wk w w'):=by
 refine enter func57 aa ntmps57 aa<|ak fun aP=>e<|jq aa fun aQ ao a ax aS=> ?_
 have bc:=ax.size
 have U:=a1.wk ax.md
 have a:bA ao.heap aQ [str word,aj en,.int .i64 f,.int .i64 s,.int .i64 pp]:=aS
 have i:Wk w ao:=ax.md
 have G:=aT.wk ax.md
 refine ay<|aP<|az fun aK=>aB<|ak fun aL=>p (fa mQ aa)<|p (ld bW aa<|a.bu 2)<|p (lt aa aa)<|p mv<|gs (t:=11) aa (fun aG=> ?_) fun aG=> ?_
 refine aR aa (fa oA aa)<|aR aa (ld bW aa<|a.bu 4)<|aR aa (lt aa aa)<|p (bI aa)<|ay<|aL<|cd aa (fun a9=> ?_) fun a9=> ?_
 refine ak fun ae=>p mv<|p (fa tH aa)<|p (ld bW aa<|a.bu 1)<|e<|cl IG (N2 B tb ap F xs (en:Nat) 0 ao U aF) aa fun bd bh aX=> ?_
 obtain ⟨rfl,aV⟩:=aX
 refine p (no aa)<|ay<|ae<|rt<|br<|tr<|a6 aa ?_
 have c:dZ F xs en f s pp= !nJ F xs en 0:=by rw [Ms (by unfold Rn at ad; omega) (by unfold Rn at hp; omega),N1]
 exact ⟨Eq.trans (b:=bL<|!nJ F xs en 0) aa (congrArg bL c.symm),i.trans aV⟩
 refine ak fun ae=>p (fa mQ aa)<|p (ld bW aa<|a.bu 2)<|p (lt aa aa)<|ay<|ae<|cd aa (fun a2=> ?_) fun h=>absurd aG h
 refine ak fun ag=>ay<|ag<|rt<|br<|tr<|a6 aa ?_
 have c:dZ F xs en f s pp=true :=by exact Mt (by unfold Rn at ad; omega) ab
 exact ⟨Eq.trans (b:=bL<|true) aa (congrArg bL c.symm),i⟩
 refine aJ aa<|aJ aa<|aJ aa<|p (bD aa)<|ay<|aL<|cf aa<|ak fun ae=>p (fa mQ aa)<|p (ld bW aa<|a.bu 2)<|p (lt aa aa)<|ay<|ae<|cd aa (fun h=>absurd h aG) fun a2=> ?_
 refine az fun ag=>ak fun aN=>p (fa mR aa)<|p (ld bW aa<|a.bu 3)<|p (lt aa aa)<|p mv<|gs (t:=29) aa (fun aH=> ?_) fun aH=> ?_
 refine aR aa mv<|aR aa (fa mQ aa)<|aR aa (ld bW aa<|a.bu 2)<|eg aa aa aa<|cl AO (Bq B tb ap F xs f ao U aF) aa fun bf bi aZ=> ?_
 obtain ⟨rfl,aq⟩:=aZ
 have U:=U.wk aq
 have a:=Wk.B aq a
 have i:=i.trans aq
 have G:=G.wk aq
 refine aR aa (no aa)<|p (bI aa)<|ay<|aN<|cb aa (fun q=> ?_) fun q=> ?_
 refine aM<|ag<|ct (congrArg bL q)<|ak fun O=>ay<|O<|rt<|br<|tr<|a6 aa ?_
 have c:dZ F xs en f s pp=false :=by exact Cp ab<|by rw [if_pos (show s= -1 by unfold Rn at hs; omega)]; simpa using q
 exact ⟨Eq.trans (b:=bL<|false) aa (congrArg bL c.symm),i⟩
 refine rg aa<|p (fa mR aa)<|p (ld bW aa<|a.bu 3)<|p (ge aa aa)<|p mv<|gs (t:=39) aa (fun h=>absurd h ab) fun a4=>aJ aa<|aJ aa<|aJ aa<|aJ aa<|aJ aa<|p (bD aa)<|p aA<|nl<|ag<|cf aa<|ak fun O=>p (fa oA aa)<|p (ld bW aa<|a.bu 4)<|p (lt aa aa)<|p aA ?_
 refine nl<|O<|cd aa (fun aI=> ?_) fun aI=> ?_
 refine ak fun E=>ay<|E<|rt<|br<|tr<|a6 aa ?_
 have c:dZ F xs en f s pp=true :=by exact Co ab (by rw [if_pos (show s= -1 by unfold Rn at hs; omega)]; simpa using q)<|by unfold Rn at hp; omega
 exact ⟨Eq.trans (b:=bL<|true) aa (congrArg bL c.symm),i⟩
 obtain ⟨C,rfl⟩:∃ m:Nat,pp=(m:Int):=⟨(pp).toNat,by unfold Rn at hp; omega⟩
 obtain ⟨Z,J⟩:∃ r,F.rules[C]? =some r:=⟨_,cx<|by unfold Rn at hp; omega⟩
 have an:(F.rules.zip rn)[C]? =some (Z,rn[C]'(by rw [al]; exact (eI.1 J).1)):=iJ.2 ⟨J,cx _⟩
 have ai:=qU J
 have a8:=(eI.1 J).1
 obtain ⟨A,rfl⟩:∃ m:Nat,f=(m:Int):=⟨(f).toNat,by unfold Rn at ad; omega⟩
 obtain ⟨rf,I⟩:∃ r,F.rules[A]? =some r:=⟨_,cx<|by unfold Rn at ad; omega⟩
 have am:(F.rules.zip rn)[A]? =some (rf,rn[A]'(by rw [al]; exact (eI.1 I).1)):=iJ.2 ⟨I,cx _⟩
 have ah:=qU I
 have a7:=(eI.1 I).1
 have ac:=G
 refine aM<|bn<|aK<|ak fun E=>p mv<|p (fa oA aa)<|p (ld bW aa<|a.bu 4)<|p (aW ks aa aa ab<|aC.ok (G)<|k6 an)<|p (fa rq aa)<|p (ld oh aa<|gK (f:=dP) (m:=7) (fun _=>rfl) ac an 2 aw)<|p mv<|gb (t:=56) aa (fun Y=> ?_) fun Y=> ?_
 refine aR aa mv<|aR aa (fa mQ aa)<|aR aa (ld bW aa<|a.bu 2)<|aR aa (aW ks aa aa ab<|aC.ok (G)<|k6 am)<|aR aa (fa rq aa)<|aR aa (ld oh aa<|gK (f:=dP) (m:=7) (fun _=>rfl) ac am 2 aw)<|p (bI aa)<|p mv<|gb (t:=64) aa (fun V=> ?_) fun V=> ?_
 refine aR aa (fa mR aa)<|aR aa (ld bW aa<|a.bu 3)<|aR aa (lt aa aa)<|aR aa mv<|gs (t:=68) aa (fun a5=> ?_) fun h=>absurd aH h
 refine aJ aa<|aJ aa<|aJ aa<|aJ aa<|aJ aa<|aJ aa<|aR aa (bI aa)<|p (bI aa)<|ay<|E<|rt<|a6 aa ?_
 have c:dZ F xs en ((A:Nat):Int) s ((C:Nat):Int)=true :=by rw [pR ab (by rw [if_pos (show s= -1 by unfold Rn at hs; omega)]; simpa using q) ab,ah,ai,show s= -1 by (unfold Rn at hs; omega),JR,(show rf.fu=true from V),(show Z.fu=true from Y)]; rfl
 exact ⟨Eq.trans (b:=bL<|true) aa (congrArg bL c.symm),i⟩
 refine aJ aa<|aJ aa<|aJ aa<|aJ aa<|eT aa<|eT aa<|eT aa<|eT aa<|eT aa<|eT aa<|aJ aa<|p (bD aa)<|ay<|E<|rt<|a6 aa ?_
 have c:dZ F xs en ((A:Nat):Int) s ((C:Nat):Int)=false :=by rw [pR ab (by rw [if_pos (show s= -1 by unfold Rn at hs; omega)]; simpa using q) ab,ah,(show rf.fu=false from V)]; rfl
 exact ⟨Eq.trans (b:=bL<|false) aa (congrArg bL c.symm),i⟩
 refine aJ aa<|aJ aa<|aJ aa<|aJ aa<|aJ aa<|aJ aa<|p (bD aa)<|p mv<|aJ aa<|aJ aa<|aJ aa<|aJ aa<|eT aa<|eT aa<|eT aa<|eT aa<|eT aa<|eT aa<|aJ aa<|p (bD aa)<|ay<|E<|rt<|a6 aa ?_
 have c:dZ F xs en ((A:Nat):Int) s ((C:Nat):Int)=false :=by rw [pR ab (by rw [if_pos (show s= -1 by unfold Rn at hs; omega)]; simpa using q) ab,ai,(show Z.fu=false from Y),uM]
 exact ⟨Eq.trans (b:=bL<|false) aa (congrArg bL c.symm),i⟩
 refine aJ aa<|aJ aa<|aJ aa<|aJ aa<|aJ aa<|p (bD aa)<|p aA<|nl<|aN<|cf aa<|rg aa<|p (fa mR aa)<|p (ld bW aa<|a.bu 3)<|p (ge aa aa)<|p mv<|gs (t:=39) aa (fun a4=> ?_) fun h=>absurd ab h
 refine aR aa mv<|aR aa (fa mR aa)<|aR aa (ld bW aa<|a.bu 3)<|eg aa aa aa<|cl AO (Bq B tb ap F xs s ao U aF) aa fun bg bk a0=> ?_
 obtain ⟨rfl,av⟩:=a0
 have U:=U.wk av
 have a:=Wk.B av a
 have i:=i.trans av
 have G:=G.wk av
 refine aR aa (no aa)<|p (bI aa)<|ay<|ag<|cb aa (fun q=> ?_) fun q=> ?_
 refine ak fun O=>ay<|O<|rt<|br<|tr<|a6 aa ?_
 have c:dZ F xs en f s pp=false :=by exact Cp ab<|by rw [if_neg (show ¬s= -1 by omega)]; simpa using q
 exact ⟨Eq.trans (b:=bL<|false) aa (congrArg bL c.symm),i⟩
 refine ak fun O=>p (fa oA aa)<|p (ld bW aa<|a.bu 4)<|p (lt aa aa)<|ay<|O<|cd aa (fun aI=> ?_) fun aI=> ?_
 refine ak fun E=>ay<|E<|rt<|br<|tr<|a6 aa ?_
 have c:dZ F xs en f s pp=true :=by exact Co ab (by rw [if_neg (show ¬s= -1 by omega)]; simpa using q)<|by unfold Rn at hp; omega
 exact ⟨Eq.trans (b:=bL<|true) aa (congrArg bL c.symm),i⟩
 obtain ⟨C,rfl⟩:∃ m:Nat,pp=(m:Int):=⟨(pp).toNat,by unfold Rn at hp; omega⟩
 obtain ⟨Z,J⟩:∃ r,F.rules[C]? =some r:=⟨_,cx<|by unfold Rn at hp; omega⟩
 have an:(F.rules.zip rn)[C]? =some (Z,rn[C]'(by rw [al]; exact (eI.1 J).1)):=iJ.2 ⟨J,cx _⟩
 have ai:=qU J
 have a8:=(eI.1 J).1
 obtain ⟨A,rfl⟩:∃ m:Nat,f=(m:Int):=⟨(f).toNat,by unfold Rn at ad; omega⟩
 obtain ⟨rf,I⟩:∃ r,F.rules[A]? =some r:=⟨_,cx<|by unfold Rn at ad; omega⟩
 have am:(F.rules.zip rn)[A]? =some (rf,rn[A]'(by rw [al]; exact (eI.1 I).1)):=iJ.2 ⟨I,cx _⟩
 have ah:=qU I
 have a7:=(eI.1 I).1
 obtain ⟨M,rfl⟩:∃ m:Nat,s=(m:Int):=⟨(s).toNat,by unfold Rn at hs; omega⟩
 obtain ⟨rs,aD⟩:∃ r,F.rules[M]? =some r:=⟨_,cx<|by unfold Rn at hs; omega⟩
 have aO:(F.rules.zip rn)[M]? =some (rs,rn[M]'(by rw [al]; exact (eI.1 aD).1)):=iJ.2 ⟨aD,cx _⟩
 have a3:=qU aD
 have bb:=(eI.1 aD).1
 have ac:=G
 refine aM<|bn<|aK<|ak fun E=>p mv<|p (fa oA aa)<|p (ld bW aa<|a.bu 4)<|p (aW ks aa aa ab<|aC.ok (G)<|k6 an)<|p (fa rq aa)<|p (ld oh aa<|gK (f:=dP) (m:=7) (fun _=>rfl) ac an 2 aw)<|p mv<|gb (t:=56) aa (fun Y=> ?_) fun Y=> ?_
 refine aR aa mv<|aR aa (fa mQ aa)<|aR aa (ld bW aa<|a.bu 2)<|aR aa (aW ks aa aa ab<|aC.ok (G)<|k6 am)<|aR aa (fa rq aa)<|aR aa (ld oh aa<|gK (f:=dP) (m:=7) (fun _=>rfl) ac am 2 aw)<|p (bI aa)<|p mv<|gb (t:=64) aa (fun V=> ?_) fun V=> ?_
 refine aR aa (fa mR aa)<|aR aa (ld bW aa<|a.bu 3)<|aR aa (lt aa aa)<|aR aa mv<|gs (t:=68) aa (fun h=>absurd h aH) fun a5=>aR aa mv<|aR aa (fa mR aa)<|aR aa (ld bW aa<|a.bu 3)<|aR aa (aW ks aa aa ab<|aC.ok (G)<|k6 aO)<|aR aa (fa rq aa)<|aR aa (ld oh aa<|gK (f:=dP) (m:=7) (fun _=>rfl) ac aO 2 aw)<|aR aa (bD aa)<|p (bI aa)<|ay<|E<|rt<|a6 aa ?_
 have c:dZ F xs en ((A:Nat):Int) ((M:Nat):Int) ((C:Nat):Int)=rs.fu:=by rw [pR ab (by rw [if_neg (show ¬((M:Nat):Int)= -1 by omega)]; simpa using q) ab,ah,a3,ai,(show rf.fu=true from V),(show Z.fu=true from Y),Bool.true_and,Bool.and_true]
 exact ⟨Eq.trans (b:=bL<|rs.fu) aa (congrArg bL c.symm),i⟩
 refine aJ aa<|aJ aa<|aJ aa<|aJ aa<|eT aa<|eT aa<|eT aa<|eT aa<|eT aa<|eT aa<|aJ aa<|p (bD aa)<|ay<|E<|rt<|a6 aa ?_
 have c:dZ F xs en ((A:Nat):Int) ((M:Nat):Int) ((C:Nat):Int)=false :=by rw [pR ab (by rw [if_neg (show ¬((M:Nat):Int)= -1 by omega)]; simpa using q) ab,ah,(show rf.fu=false from V)]; rfl
 exact ⟨Eq.trans (b:=bL<|false) aa (congrArg bL c.symm),i⟩
 refine aJ aa<|aJ aa<|aJ aa<|aJ aa<|aJ aa<|aJ aa<|p (bD aa)<|p mv<|aJ aa<|aJ aa<|aJ aa<|aJ aa<|eT aa<|eT aa<|eT aa<|eT aa<|eT aa<|eT aa<|aJ aa<|p (bD aa)<|ay<|E<|rt<|a6 aa ?_
 have c:dZ F xs en ((A:Nat):Int) ((M:Nat):Int) ((C:Nat):Int)=false :=by rw [pR ab (by rw [if_neg (show ¬((M:Nat):Int)= -1 by omega)]; simpa using q) ab,ai,(show Z.fu=false from Y),uM]
 exact ⟨Eq.trans (b:=bL<|false) aa (congrArg bL c.symm),i⟩
end Go.Hb
end
section
namespace Go.Hb
open Go.Hb.lZ
theorem xE {l:List Nat} {i:Nat} (h:i < l.length):(l.map gG)[i]? =some (gG<|l.getD i 0):=by rw [fU,cO,cx h]; rfl
end Go.Hb
end
section
namespace Go.Hb
open Go.Hb.lZ
theorem jR {F:aE} {xs:List bj} (h:eW F xs) {k:Nat} {r:cW} (a:F.rules[k]? =some r):r.strip.length≤1048576∧r.add.length≤1048576∧r.cond.length≤1048576∧r.add.length≤32:=by
 have :=(h.j8 a).2.2; unfold sM at this; omega
theorem L7 {α β:Type} {g:α→Option β} (l:List α) (i:Nat):(l.take i).filterMap g <+:l.filterMap g:=by
 conv =>rhs; rw [← vl i l,zq]
 exact sF _ _
theorem IW {F:aE} {xs:List bj} {e:Nat} {word:Tx} {f s:Int} {pre tl a:List cV} {x:cV} (h:a=pre++(eO F xs e word f s++tl)) (c:kp F xs e word f s= [x]):
 a=pre++x::((aQ F (flagsOf xs e) 1).filterMap (ib F xs e word f s)++tl):=by
 rw [h]; unfold eO; rw [c,dx]; rfl
theorem IV {F:aE} {xs:List bj} {e:Nat} {word:Tx} {f s:Int} {pre tl a:List cV} {i:Nat} {x:cV} (h:a=pre++(eO F xs e word f s++tl)) (hi:i < (aQ F (flagsOf xs e) 1).length) (c:ib F xs e word f s ((aQ F (flagsOf xs e) 1).getD i 0)=some x):
 a=(pre++(kp F xs e word f s++((aQ F (flagsOf xs e) 1).take i).filterMap (ib F xs e word f s)))++x::(((aQ F (flagsOf xs e) 1).drop<|i+1).filterMap (ib F xs e word f s)++tl):=by
 have h2:(aQ F (flagsOf xs e) 1).filterMap (ib F xs e word f s)=((aQ F (flagsOf xs e) 1).take i).filterMap (ib F xs e word f s)++x::((aQ F (flagsOf xs e) 1).drop<|i+1).filterMap (ib F xs e word f s):=by
  conv =>lhs; rw [← vl (i+1) (aQ F (flagsOf xs e) 1),zq,Em 0 hi,c]
  rw [dx]; rfl
 unfold eO at h
 rw [h,h2]
 simp only [dx,ss]
theorem xn {α β:Type} {g:α→List β} {l:List α} {i:Nat} (d:α) (h:i < l.length):(l.take<|i+1).flatMap g=(l.take i).flatMap g++g (l.getD i d):=by
 rw [ka l i d h,nj,oX]
theorem BU {α β:Type} {g:α→List β} {l:List α} {i:Nat} (d:α) (h:i < l.length):l.flatMap g=(l.take i).flatMap g++(g (l.getD i d)++(l.drop<|i+1).flatMap g):=by
 conv =>lhs; rw [← vl (i+1) l,nj,xn d h]
 rw [dx]
theorem yt {α:Type} {C q s D R:List α} (a:R=C++(s++D)) (c:q <+:s):C++q <+:R:=by rw [a]; exact DD<|c.trans<|sF _ _
theorem vZ (B tb:Nat) (a1:fK) (F:aE) (xs:List bj) (ac:eW F xs) (J S0 mb:Nat) (bE:List cV) (am:Bool→List cV→(Nat→Prop)→World→Prop) (G:Yc au J S0 pH bE (fun W=>eB W B tb a1 F xs) am) (K:o7) (bG:Int) (M:Tx) (ps:List Nat) (pre:List cV) (fp:Nat→Prop) (en:Nat) (word:Tx) (f s:Int) (w:World) (aP:gQ w fp S0 mb tb J K F bG M ps) (bV:am true pre fp w) (c3:bG=(en:Int)) (c9:ps=aQ F (flagsOf xs en) 1) (b9:Rn F f) (hs:Rn F s) (ds:word.length≤1000) (tl:List cV) (cc:bE=pre++(eO F xs en word f s++tl)):
 ba au 125 (aY [aU mb,str word,.int .i64 f,.int .i64 s]) w (fun v w'=> ∃ b q fp',v= .bool b∧am b (pre++q) fp' w'∧Gw S0 fp w fp' w'∧q <+:eO F xs en word f s∧(b=true→q=eO F xs en word f s)):=by
 have c4:=G.lt _ _ _ _ bV
 have dq:=rH F (flagsOf xs (en:Int)) 1
 have dr:=ac.len
 subst c3
 subst c9
 refine enter func125 aa ntmps125 aa<|ak fun cm=>ay<|cm<|ak fun cv=>p mv<|p mv<|p (nc aa)<|p (fa xr aa)<|p (ld bW aa<|(aX aP.cells).trans aa)<|p mv<|p mv<|p (cE (ps:= [(0,str word),(1,aj en),(2,.int .i64 f),(3,.int .i64 s),(4,.int .i64 (-1))]) (L:= [str word,aj en,.int .i64 f,.int .i64 s,.int .i64 (-1)]) uq aa<|aa)<|e<|gR E6 fun a dw dp b5 cJ=> ?_
 have dt:=b5.size
 refine e<|ga A8 aa aa aa aa cJ aw fun aZ cQ cF=> ?_
 have a2:Wk w aZ:=b5.md.trans' cQ fun q ce h=>by omega
 have c1:aZ.heap[a]? =some (.cells (gq ⟨word,en,f,s,-1⟩).toArray 41 (0,0)):=cF
 have bX:=G.wk bV<|a2.trans (Md.refl _ _).drew
 have aR:=aP.wk<|a2.trans (Md.refl _ _).drew
 have ca:¬fp a:=fun h=>by have :=c4 a h; omega
 have aV:S0≤a:=by have :=aP.lo; have :=(cg.1 aP.cells).1; omega
 refine nl<|cv<|az fun cw=> ?_
 refine ep (fun aJ aF=> ∃ (aq:Bool) (V:Nat→Prop),(am (!aq) (pre++kp F xs en word f s) V aF)∧(gQ aF V S0 mb tb J K F (en:Int) M<|aQ F (flagsOf xs en) 1)∧(aF.heap[a]? =some (.cells (gq ⟨word,en,f,s,-1⟩).toArray 41 (0,0)))∧(¬V a)∧(Gw S0 fp w V aF)∧(aJ 0=aU mb)∧(aJ 1=str word)∧(aJ 9=aU a)∧(aJ 40= .bool aq)) ?_ ?_
 have I:(fun w'=>w'.heap[mb]? =some (.cells (lF tb J K F (en:Int) M<|aQ F (flagsOf xs en) 1).toArray 183 (0,0))∧w'.heap[a]? =some (.cells (gq ⟨word,en,f,s,-1⟩).toArray 41 (0,0))) aZ.drew:=⟨aR.cells,c1⟩
 refine E2 (fun w'=>w'.heap[mb]? =some (.cells (lF tb J K F (en:Int) M<|aQ F (flagsOf xs en) 1).toArray 183 (0,0))∧w'.heap[a]? =some (.cells (gq ⟨word,en,f,s,-1⟩).toArray 41 (0,0))) aa wide I ?_
 refine yp 0 aa ag (fun _ _=>mv) I ?_
 refine yp 1 aa ag (fun _ _=>nc aa) I ?_
 refine yp 2 aa ag (fun _ _=>fa pM aa) I ?_
 refine yp 3 aa ag (fun w' c=>ld nw aa<|(aX c.1).trans aa) I ?_
 refine yp 4 aa ag (fun _ _=>mv) I ?_
 refine yp 5 aa ag (fun _ _=>nc aa) I ?_
 refine yp 6 aa ag (fun _ _=>fa ri aa) I ?_
 refine yp 7 aa ag (fun w' c=>ld jX aa<|(aX c.1).trans aa) I ?_
 refine yp 8 aa ag (fun w' c=>cI ny aa (aa) fun j bz=>(qN c.2).bu j) I ?_
 refine ye 9 aa ag<|cl vW (xF B tb a1 F xs K.ar K.cr K.rn word en f s (-1) aZ.drew (G.cap _ _ _ _ bX) ac (aT aR.ru).2 aR.rn b9 hs<|.inl aa) aa fun v31 bB cS=> ?_
 obtain ⟨rfl,aK⟩:=cS
 have bZ:=G.wk bX aK
 have a8:=aR.wk aK
 have bQ:Gw S0 fp w fp bB:=Gw.wk<|(a2.trans (Md.refl _ _).drew).trans aK
 have A:(fun w'=>w'.heap[mb]? =some (.cells (lF tb J K F (en:Int) M<|aQ F (flagsOf xs en) 1).toArray 183 (0,0))∧w'.heap[a]? =some (.cells (gq ⟨word,en,f,s,-1⟩).toArray 41 (0,0))) bB:=⟨a8.cells,Wk.aB aK I.2⟩
 refine ⟨A,?_⟩
 refine yp 10 aa ag (fun _ _=>mv) A ?_
 refine E0 (t:=32) aa (fun bw=> ?_) fun bw=> ?_
 have aS:kp F xs en word f s= [⟨word,en,f,s,-1⟩]:=if_pos bw
 refine la 11 aa ag aa aa aa (fun _ _=>mv) A ?_
 refine la 12 aa ag aa aa aa (fun _ _=>nc aa) A ?_
 refine la 13 aa ag aa aa aa (fun _ _=>fa B7 aa) A ?_
 refine la 14 aa ag aa aa aa (fun w' c=>ld zM aa<|(aX c.1).trans aa) A ?_
 refine la 15 aa ag aa aa aa (fun w' c=>cI ny aa (aa) fun j bz=>(qN c.2).bu j) A ?_
 refine E3 16 aa ag aa aa aa aa aa (G.yl pre ⟨word,en,f,s,-1⟩ _ fp bB (IW cc aS) bZ) fun cC dl cT=> ?_
 obtain ⟨cD,cN,a3⟩:=cT
 have b3:=a8.gw a3
 have bq:=a3.aB A.2 aV ca
 have bg:(fun w'=>w'.heap[mb]? =some (.cells (lF tb J K F (en:Int) M<|aQ F (flagsOf xs en) 1).toArray 183 (0,0))∧w'.heap[a]? =some (.cells (gq ⟨word,en,f,s,-1⟩).toArray 41 (0,0))) dl:=⟨b3.cells,bq.1⟩
 refine ⟨bg,?_⟩
 refine la 17 aa ag aa aa aa (fun _ _=>no aa) bg ?_
 refine yp 18 aa ag (fun _ _=>bI aa) bg ?_
 refine yn ag ?_
 exact tn<|⟨(!cC),cD,(by rw [Bool.not_not,aS]; exact cN),b3,bq.1,bq.2,(bQ.trans a3),aa,aa,aa,aa⟩
 have aS:kp F xs en word f s= []:=if_neg<|by rw [bw]; exact c8
 refine ke 11 aa ag aa aa aa aa A ?_
 refine ke 12 aa ag aa aa aa aa A ?_
 refine ke 13 aa ag aa aa aa aa A ?_
 refine ke 14 aa ag aa aa aa aa A ?_
 refine ke 15 aa ag aa aa aa aa A ?_
 refine ke 16 aa ag aa aa aa aa A ?_
 refine ke 17 aa ag aa aa aa aa A ?_
 refine yp 18 aa ag (fun _ _=>bD aa) A ?_
 refine yn ag ?_
 exact tn<|⟨false,fp,(by rw [aS,dS]; exact bZ),a8,A.2,ca,bQ,aa,aa,aa,aa⟩
 rintro aJ aF ⟨aq,V,aO,b2,c2,c6,bP,da,db,dd,dc⟩
 refine fx 0 da<|fx 1 db<|fx 9 dd<|fx 40 dc<|cb aa (fun bl=> ?_) fun bl=> ?_
 refine ak fun a0=>ay<|a0<|rt<|tr<|a6 aa ?_
 have bi:aq=true :=bl
 rw [bi] at aO
 exact ⟨false,_,V,aa,aO,bP,(by unfold eO; exact sF _ _),fun h=>by cases h⟩
 refine aM<|cw<|az fun a0=>ak fun cy=>ao (aU mb)<|p (nc aa)<|p (fa B6 aa)<|p (ld sT aa<|(aX b2.cells).trans aa)<|p (bO uB aa aa)<|p mv<|nl<|cy<|aB<|lp (fun bL Z al=> ∃ (i:Nat) (O:Nat→Prop) (aD:Tx) (pp:Int),(i≤(aQ F (flagsOf xs en) 1).length)∧(am true (pre++(kp F xs en word f s++((aQ F (flagsOf xs en) 1).take i).filterMap (ib F xs en word f s))) O al)∧(gQ al O S0 mb tb J K F (en:Int) M<|aQ F (flagsOf xs en) 1)∧(al.heap[a]? =some (.cells (gq ⟨aD,en,f,s,pp⟩).toArray 41 (0,0)))∧(¬O a)∧(Gw S0 fp w O al)∧(Z 0=aU mb)∧(Z 1=str word)∧(Z 9=aU a)∧(Z 44= .slice K.ap (aQ F (flagsOf xs en) 1).length K.cp)∧(Z 45=aj ((aQ F (flagsOf xs en) 1).length))∧(Z 46=aj i)∧((aQ F (flagsOf xs en) 1).length - i=bL)) _ ⟨0,V,word,-1,ab,((by have bi:aq=false :=bl; rw [bi] at aO; simpa using aO)),b2,c2,c6,bP,aa,aa,aa,aa,aa,aa,aa⟩ ?_
 rintro bL Z al ⟨i,O,aD,pp,hi,a5,bb,bv,ax,bU,de,df,dk,dg,dh,dj,rfl⟩
 refine fx 0 de<|fx 1 df<|fx 9 dk<|fx 44 dg<|fx 45 dh<|fx 46 dj<|ak fun cz=>p (lt aa aa)<|nl<|cz<|az fun cA=>cd aa (fun c0=> ?_) fun c0=> ?_
 refine aM<|cA<|az fun an=>aB<|ak fun cB=>p (aW q7 aa aa ab<|aC.ok ((aT bb.pr).2)<|cK ab)<|p (ld bW aa<|aC.jo (i:=i) (aT bb.pr).2<|xE ab)<|ay<|cB<|ak fun cn=>p mv<|p (fa oA aa)<|e<|dA kW aa aa (v:= .int .i64 (((aQ F (flagsOf xs en) 1).getD i 0:Nat):Int)) aa bv (by show 4 < 5; omega) fun ai a9 cH=> ?_
 have b7:ai.heap[a]? =some (.cells (gq ⟨aD,en,f,s,((aQ F (flagsOf xs en) 1).getD i 0:Nat)⟩).toArray 41 (0,0)):=cH
 have cZ:TF al [43] (fun q=>q=a):=TF.eq (di bv) aw
 have b0:=G.rN a5 bv aV ax a9
 have av:=bb.rC a9 cZ aw
 have cL:=Gw.C6 bU a9 fun k hk=>by subst hk; omega
 have c7:=pV.1<|eR (d:=0) (show i < (aQ F (flagsOf xs en) 1).length by omega)
 obtain ⟨r,Y⟩:∃ r,F.rules[(aQ F (flagsOf xs en) 1).getD i 0]? =some r:=⟨_,cx c7.1⟩
 have ch:F.rules.getD ((aQ F (flagsOf xs en) 1).getD i 0) dv=r:=by rw [cO,Y]; rfl
 have ah:=Em (g:=ib F xs en word f s) 0 (show i < (aQ F (flagsOf xs en) 1).length by omega)
 refine nl<|cn<|az fun co=>az fun cq=> ?_
 have E:(fun w'=>Wk ai w') ai.drew:=(Md.refl _ _).drew
 refine bK (fun w'=>Wk ai w') aa wide E<|bH 0 aa (aU mb) E<|aI 1 aa (fun _ _=>nc aa) E<|aI 2 aa (fun _ _=>fa pM aa) E<|aI 3 aa (fun w' c=>ld nw aa<|Wk.aH c<|(aX av.cells).trans aa) E<|bH 4 aa (aU mb) E<|aI 5 aa (fun _ _=>nc aa) E<|aI 6 aa (fun _ _=>fa ri aa) E<|aI 7 aa (fun w' c=>ld jX aa<|Wk.aH c<|(aX av.cells).trans aa) E<|aI 8 aa (fun w' c=>cI ny aa (aa) fun j bz=>(Md.B c (qN b7) fun h=>h).bu j) E<|he 9 aa ag<|cl vW (xF B tb a1 F xs K.ar K.cr K.rn aD en f s ((aQ F (flagsOf xs en) 1).getD i 0:Nat) ai.drew (G.cap _ _ _ _<|G.wk b0 E) ac ((aT av.ru).2.wk E) av.rn b9 hs<|.inr ab) aa fun du ck cU=> ?_
 obtain ⟨rfl,bM⟩:=cU
 have aN:=E.trans bM
 have b1:=G.wk b0 aN
 have U:=av.wk aN
 have b8:=Wk.aB aN b7
 have bT:=cL.trans<|Gw.wk aN
 have b6:(fun w'=>Wk ai w') ck:=E.trans bM
 refine ⟨b6,?_⟩
 refine aI 10 aa (fun _ _=>no aa) b6<|hn ag<|cq<|cb aa (fun bm=> ?_) fun bm=> ?_
 have bx:dZ F xs en f s ((aQ F (flagsOf xs en) 1).getD i 0:Nat)=false :=by simpa using bm
 have bK:=JY (word:=word) bx
 rw [bK] at ah
 exact ext<|bc<|be<|an<|rg aa<|p (ad aa aa<|bR ab)<|p mv<|nl<|tn<|⟨_,ab,i+1,O,aD,_,ab,(by rw [ah]; simpa using b1),U,b8,ax,bT,aa,aa,aa,aa,aa,aa,aa⟩
 have bx:dZ F xs en f s ((aQ F (flagsOf xs en) 1).getD i 0:Nat)=true :=by simpa using bm
 refine aM<|co<|ak fun cs=>ao (aU mb)<|p (nc aa)<|p (fa ri aa)<|p (ld jX aa<|(aX U.cells).trans aa)<|p mv<|p (aW ks aa aa ab<|aC.ok ((aT U.ru).2)<|k6 (U.j8 Y).choose_spec)<|p (cI ko aa (aa)<|gK (f:=dP) (m:=7) (fun _=>rfl) (aT U.ru).2 (U.j8 Y).choose_spec)<|ao (str word)<|e<|cl s9 (sV r (U.j8 Y).choose word ck (jR ac Y).1 (jR ac Y).2.1 (jR ac Y).2.2.1 ab) aa fun v72 dm cW=> ?_
 obtain ⟨rfl,aL⟩:=cW
 have cP:=G.wk b1 aL
 have cR:=U.wk aL
 have bt:=Wk.aB aL b8
 have cM:=bT.trans<|Gw.wk aL
 refine p mv<|p (xt aa aa)<|p (xt aa aa)<|p aA<|ay<|cs<|az fun ct=>rg aa<|p mv<|p (fa xx aa)<|e<|dA mP aa aa (v:=str<|(c5 r word).getD []) aa bt (by show 0 < 5; omega) fun bA a7 cG=> ?_
 have bp:bA.heap[a]? =some (.cells (gq ⟨((c5 r word).getD []),en,f,s,((aQ F (flagsOf xs en) 1).getD i 0:Nat)⟩).toArray 41 (0,0)):=cG
 have cY:TF dm [43] (fun q=>q=a):=TF.eq (di bt) aw
 have bY:=G.wk (G.rN cP bt aV ax a7) (Md.refl _ _).drew
 have bd:=(cR.rC a7 cY aw).wk (Md.refl _ _).drew
 have bN:=(Gw.C6 cM a7 fun k hk=>by subst hk; omega).trans<|Gw.wk (Md.refl _ _).drew
 refine nl<|ct<|az fun bC=> ?_
 have C:(fun w'=>w'.heap[mb]? =some (.cells (lF tb J K F (en:Int) M<|aQ F (flagsOf xs en) 1).toArray 183 (0,0))∧w'.heap[a]? =some (.cells (gq ⟨((c5 r word).getD []),en,f,s,((aQ F (flagsOf xs en) 1).getD i 0:Nat)⟩).toArray 41 (0,0))) bA.drew:=⟨bd.cells,bp⟩
 refine E2 (fun w'=>w'.heap[mb]? =some (.cells (lF tb J K F (en:Int) M<|aQ F (flagsOf xs en) 1).toArray 183 (0,0))∧w'.heap[a]? =some (.cells (gq ⟨((c5 r word).getD []),en,f,s,((aQ F (flagsOf xs en) 1).getD i 0:Nat)⟩).toArray 41 (0,0))) aa wide C ?_
 refine yp 0 aa ag (fun _ _=>mv) C ?_
 refine yp 1 aa ag (fun _ _=>mv) C ?_
 refine E0 (t:=78) aa (fun bh=> ?_) fun bh=> ?_
 obtain ⟨v,ci⟩:∃ v,c5 r word=some v:=nr.1 bh
 have bK:=JZ (word:=word) bx<|by rw [ch]; exact ci
 rw [bK] at ah
 have cj:(c5 r word).getD []=v:=by rw [ci]; rfl
 refine la 2 aa ag aa aa aa (fun _ _=>aG (aU mb) aa) C ?_
 refine la 3 aa ag aa aa aa (fun _ _=>nc aa) C ?_
 refine la 4 aa ag aa aa aa (fun _ _=>fa B7 aa) C ?_
 refine la 5 aa ag aa aa aa (fun w' c=>ld zM aa<|(aX c.1).trans aa) C ?_
 refine la 6 aa ag aa aa aa (fun w' c=>cI ny aa (aa) fun j bz=>(qN c.2).bu j) C ?_
 refine E3 7 aa ag aa aa aa aa aa (G.yl (pre++(kp F xs en word f s++((aQ F (flagsOf xs en) 1).take i).filterMap (ib F xs en word f s))) ⟨(c5 r word).getD [],en,f,s,((aQ F (flagsOf xs en) 1).getD i 0:Nat)⟩ _ O bA.drew (IV cc ab<|by rw [bK,cj]) bY) fun bF dn cX=> ?_
 obtain ⟨bJ,ae,a4⟩:=cX
 have b4:=bd.gw a4
 have bs:=a4.aB bp aV ax
 have bS:=bN.trans a4
 rw [cj] at ae
 have ce:(kp F xs en word f s++((aQ F (flagsOf xs en) 1).take i).filterMap (ib F xs en word f s))++ [⟨v,en,f,s,((aQ F (flagsOf xs en) 1).getD i 0:Nat)⟩]=kp F xs en word f s++((aQ F (flagsOf xs en) 1).take<|i+1).filterMap (ib F xs en word f s):=by rw [ah,dx]; rfl
 rw [dx pre,ce] at ae
 have bf:(fun w'=>w'.heap[mb]? =some (.cells (lF tb J K F (en:Int) M<|aQ F (flagsOf xs en) 1).toArray 183 (0,0))∧w'.heap[a]? =some (.cells (gq ⟨((c5 r word).getD []),en,f,s,((aQ F (flagsOf xs en) 1).getD i 0:Nat)⟩).toArray 41 (0,0))) dn:=⟨b4.cells,bs.1⟩
 refine ⟨bf,?_⟩
 refine la 8 aa ag aa aa aa (fun _ _=>no aa) bf ?_
 refine yp 9 aa ag (fun _ _=>bI aa) bf ?_
 refine yn ag ?_
 refine bC<|cb aa (fun bo=> ?_) fun bo=> ?_
 refine ak fun cu=>ay<|cu<|rt<|br<|tr<|tr<|br<|tr<|a6 aa ?_
 have bk:bF=false :=by simpa using bo
 rw [bk] at ae
 exact ⟨false,_,bJ,aa,ae,bS,(by unfold eO; exact DD<|L7 _ _),fun h=>by cases h⟩
 exact aM<|bn<|an<|rg aa<|p (ad aa aa<|bR ab)<|p mv<|nl<|tn<|⟨_,ab,i+1,bJ,_,_,ab,((by have bk:bF=true :=(by simpa using bo); rw [bk] at ae; exact ae)),b4,bs.1,bs.2,bS,aa,aa,aa,aa,aa,aa,aa⟩
 have bK:=JW (xs:=xs) (e:=en) (f:=f) (s:=s) (word:=word) (p:=(aQ F (flagsOf xs en) 1).getD i 0)<|by rw [ch]; simpa using bh
 rw [bK] at ah
 refine ke 2 aa ag aa aa aa aa C ?_
 refine ke 3 aa ag aa aa aa aa C ?_
 refine ke 4 aa ag aa aa aa aa C ?_
 refine ke 5 aa ag aa aa aa aa C ?_
 refine ke 6 aa ag aa aa aa aa C ?_
 refine ke 7 aa ag aa aa aa aa C ?_
 refine ke 8 aa ag aa aa aa aa C ?_
 refine yp 9 aa ag (fun _ _=>bD aa) C ?_
 refine yn ag ?_
 refine bC<|cf aa<|aM<|bn<|an<|rg aa<|p (ad aa aa<|bR ab)<|p mv ?_
 exact nl<|tn<|⟨_,ab,i+1,O,_,_,ab,(by rw [ah]; simpa using bY),bd,bp,ax,bN,aa,aa,aa,aa,aa,aa,aa⟩
 refine ext<|bc<|bc<|be<|a0<|ak fun an=>p aA<|nl<|an<|rt<|a6 aa ?_
 rw [eL ab] at a5
 exact ⟨true,_,O,aa,a5,bU,Ge _,fun _=>rfl⟩
set_option maxHeartbeats 4000000 in
theorem PW (B tb:Nat) (am:fK) (F:aE) (xs:List bj) (a:eW F xs) (ah S0 mb:Nat) (an:List cV) (M:Bool→List cV→(Nat→Prop)→World→Prop) (C:Yc au ah S0 pH an (fun W=>eB W B tb am F xs) M) (K:o7) (pre:List cV) (fp:Nat→Prop) (en:Nat) (x:bj) (w:World) (ax:gQ w fp S0 mb tb ah K F (en:Int) x.1 (aQ F (flagsOf xs en) 1)) (cX:M true pre fp w) (cu:xs[en]? =some x) (tl:List cV) (cm:an=pre++(kX F xs en++tl)):
 ba au 79 (aY [aU mb]) w (fun v w'=> ∃ b q fp',v= .bool b∧M b (pre++q) fp' w'∧Gw S0 fp w fp' w'∧q <+:kX F xs en∧(b=true→q=kX F xs en)):=by
 obtain ⟨dI,dJ,dK,bb⟩:=pk cu
 have a4:kX F xs en=eO F xs en x.1 (-1) (-1)++(aQ F (flagsOf xs en) 2).flatMap (gu F xs en):=by unfold kX; rw [bb]
 have dT:=(a.tu x<|iL cu).1
 have dO:=a.len
 have dL:S0≤w.heap.size:=by have :=ax.lo; have :=(cg.1 ax.cells).1; omega
 have dM:=rH F (flagsOf xs (en:Int)) 2
 refine enter func79 aa ntmps79 aa<|ak fun cw=>ay<|cw<|az fun cJ=>ak fun cN=>ao (aU mb)<|ao (aU mb)<|p (nc aa)<|p (fa xu aa)<|p (ld cG aa<|(aX ax.cells).trans aa)<|e<|cl vG (vZ B tb am F xs a ah S0 mb an M C K (en:Int) x.1 _ pre fp en x.1 (-1) (-1) w ax cX aa aa (.inl aa) (.inl aa) ab ((aQ F (flagsOf xs en) 2).flatMap (gu F xs en)++tl)<|by rw [cm,a4,dx]) aa fun dX aK c3=> ?_
 obtain ⟨bP,dE,bd,rfl,a2,a0,dk,dl⟩:=c3
 have bo:=ax.gw a0
 refine p (no aa)<|nl<|cN<|cb aa (fun bt=> ?_) fun bt=> ?_
 obtain rfl :bP=false :=by simpa using bt
 exact ak fun a9=>ay<|a9<|rt<|tr<|a6 aa<|⟨false,dE,bd,aa,a2,a0,(by rw [a4]; exact dk.trans<|sF _ _),fun h=>by cases h⟩
 obtain rfl :bP=true :=by simpa using bt
 obtain rfl :=dl rfl
 refine aM<|cJ<|az fun a9=>az fun cP=> ?_
 have c:(fun w'=>Wk aK w') aK.drew:=(Md.refl _ _).drew
 refine bK (fun w'=>Wk aK w') aa wide c<|bH 0 aa (aU mb) c<|aI 1 aa (fun _ _=>nc aa) c<|aI 2 aa (fun _ _=>fa pM aa) c<|aI 3 aa (fun w' J=>ld nw aa<|Wk.aH J<|(aX bo.cells).trans aa) c<|bH 4 aa (aU mb) c<|aI 5 aa (fun _ _=>nc aa) c<|aI 6 aa (fun _ _=>fa xr aa) c<|aI 7 aa (fun w' J=>ld bW aa<|Wk.aH J<|(aX bo.cells).trans aa) c<|aI 10 aa (fun _ _=>mv) c<|he 8 aa ag<|cl AI (Ef B tb am F xs (en:Int) aK.drew (C.cap _ _ _ _<|C.wk a2 c) a) aa fun dY dF c4=> ?_
 obtain ⟨bB,bU⟩:=c4
 obtain ⟨ac,ae,rfl⟩:=cR bB
 have bg:=c.trans bU
 have cZ:=C.wk a2 bg
 have c2:=bo.wk bg
 have cW:=a0.trans<|Gw.wk bg
 have dU:=c.size
 have de:∀ q,(bz ac (aQ F (flagsOf xs en) 2).length ae).ownBlock=some q→¬bd q:=fun q bG h=>by have h1:=(dd bB bG).1; have h2:=C.lt _ _ _ _ a2 q h; omega
 have di:=eD bB (show S0≤_ by have :=a0.size; omega)
 have b5:(fun w'=>Wk aK w') dF:=c.trans bU
 refine ⟨b5,?_⟩
 refine aI 9 aa (fun _ _=>bO uB aa aa) b5<|hn ag<|cP<|aB<|lp (fun ar aL E=> ∃ (i:Nat) (O:Nat→Prop),(i≤(aQ F (flagsOf xs en) 2).length)∧(M true (pre++(eO F xs en x.1 (-1) (-1)++((aQ F (flagsOf xs en) 2).take i).flatMap (gu F xs en))) O E)∧(gQ E O S0 mb tb ah K F (en:Int) x.1<|aQ F (flagsOf xs en) 1)∧(bm E S0 3 1 (.slice ac (aQ F (flagsOf xs en) 2).length ae) (aQ F (flagsOf xs en) 2).length<|(aQ F (flagsOf xs en) 2).map gG)∧(∀ q,(bz ac (aQ F (flagsOf xs en) 2).length ae).ownBlock=some q→¬O q)∧(Gw S0 fp w O E)∧(aL 0=aU mb)∧(aL 26= .slice ac (aQ F (flagsOf xs en) 2).length ae)∧(aL 27=aj ((aQ F (flagsOf xs en) 2).length))∧(aL 28=aj i)∧((aQ F (flagsOf xs en) 2).length - i=ar)) _ ⟨0,bd,ab,(by simpa using cZ),c2,di,de,cW,aa,aa,aa,aa,aa⟩ ?_
 rintro ar aL E ⟨i,O,hi,bk,U,bE,b8,b0,dm,dn,dp,dq,rfl⟩
 refine fx 0 dm<|fx 26 dn<|fx 27 dp<|fx 28 dq<|ak fun cQ=>p (lt aa aa)<|nl<|cQ<|az fun cS=>cd aa (fun db=> ?_) fun db=> ?_
 refine aM<|cS<|az fun aN=>aB<|ak fun cT=>p (aW q7 aa aa ab<|aC.ok ((aT bE).2)<|cK ab)<|p (ld bW aa<|aC.jo (i:=i) (aT bE).2<|xE ab)<|ay<|cT<|az fun cz=> ?_
 have dC:=pV.1<|eR (d:=0) (show i < (aQ F (flagsOf xs en) 2).length by omega)
 obtain ⟨r,Y⟩:∃ r,F.rules[((aQ F (flagsOf xs en) 2).getD i 0)]? =some r:=⟨_,cx dC.1⟩
 have cr:F.rules.getD ((aQ F (flagsOf xs en) 2).getD i 0) dv=r:=by rw [cO,Y]; rfl
 have bJ:=xn (g:=gu F xs en) 0 (show i < (aQ F (flagsOf xs en) 2).length by omega)
 have A:(fun w'=>Wk E w') E.drew:=(Md.refl _ _).drew
 refine bK (fun w'=>Wk E w') aa wide A<|bH 0 aa (aU mb) A<|aI 1 aa (fun _ _=>nc aa) A<|aI 2 aa (fun _ _=>fa ri aa) A<|aI 3 aa (fun w' J=>ld jX aa<|Wk.aH J<|(aX U.cells).trans aa) A<|aI 4 aa (fun _ _=>mv) A<|aI 5 aa (fun _ _=>aW ks aa aa ab<|aC.ok ((aT U.ru).2)<|k6 (U.j8 Y).choose_spec) A<|aI 6 aa (fun w' J=>cI ko aa (aa) fun j dg=>gK (f:=dP) (m:=7) (fun _=>rfl) ((aT U.ru).2.wk J) (U.j8 Y).choose_spec j dg) A<|bH 7 aa (aU mb) A<|aI 8 aa (fun _ _=>nc aa) A<|aI 9 aa (fun _ _=>fa xu aa) A<|aI 10 aa (fun w' J=>ld cG aa<|Wk.aH J<|(aX U.cells).trans aa) A<|he 11 aa ag<|cl s9 (sV r (U.j8 Y).choose x.1 E.drew (jR a Y).1 (jR a Y).2.1 (jR a Y).2.2.1 ab) aa fun dZ cv c6=> ?_
 obtain ⟨rfl,bV⟩:=c6
 have aZ:=A.trans bV
 have b3:=C.wk bk aZ
 have bq:=U.wk aZ
 have bZ:=b0.trans<|Gw.wk aZ
 have ce:=aV bE aZ
 have ap:(fun w'=>Wk E w') cv:=A.trans bV
 refine ⟨ap,?_⟩
 refine aI 12 aa (fun _ _=>mv) ap<|aI 13 aa (fun _ _=>xt aa aa) ap<|aI 14 aa (fun _ _=>xt aa aa) ap<|aI 15 aa (fun _ _=>aA) ap<|aI 16 aa (fun _ _=>aA) ap<|hn ag<|cz<|az fun cA=>ak fun cB=>p mv<|p (no aa)<|nl<|cB<|cb aa (fun bu=> ?_) fun bu=> ?_
 have aD:c5 r x.1=none:=by simpa using bu
 have bK:gu F xs en ((aQ F (flagsOf xs en) 2).getD i 0)= []:=by unfold gu; rw [cr,bb,aD]
 rw [bK,dS] at bJ
 exact ext<|bc<|be<|aN<|rg aa<|p (ad aa aa<|bR ab)<|p mv<|nl<|tn<|⟨_,ab,i+1,O,ab,(by rw [bJ]; exact b3),bq,ce,b8,bZ,aa,aa,aa,aa,aa⟩
 obtain ⟨wd,aD⟩:∃ v,c5 r x.1=some v:=nr.1<|by simpa using bu
 have aq:((c5 r x.1).getD [])=wd:=by rw [aD]; rfl
 have bK:gu F xs en ((aQ F (flagsOf xs en) 2).getD i 0)=eO F xs en wd (((aQ F (flagsOf xs en) 2).getD i 0):Nat) (-1)++(aQ F (cy F (((aQ F (flagsOf xs en) 2).getD i 0):Nat)) 2).flatMap (jv F xs en wd (((aQ F (flagsOf xs en) 2).getD i 0):Nat)):=by unfold gu; rw [cr,bb,aD]
 have dR:=(vz (jR a Y).2.2.2 aD).2
 have bx:kX F xs en=(eO F xs en x.1 (-1) (-1)++((aQ F (flagsOf xs en) 2).take i).flatMap (gu F xs en))++(gu F xs en ((aQ F (flagsOf xs en) 2).getD i 0)++((aQ F (flagsOf xs en) 2).drop<|i+1).flatMap (gu F xs en)):=by rw [a4,BU 0 (show i < (aQ F (flagsOf xs en) 2).length by omega),dx]
 have b6:an=(pre++(eO F xs en x.1 (-1) (-1)++((aQ F (flagsOf xs en) 2).take i).flatMap (gu F xs en)))++(gu F xs en ((aQ F (flagsOf xs en) 2).getD i 0)++(((aQ F (flagsOf xs en) 2).drop<|i+1).flatMap (gu F xs en)++tl)):=by rw [cm,bx]; simp only [dx]
 refine aM<|cA<|az fun cC=>ak fun cD=>ao (aU mb)<|p mv<|p mv<|e<|cl vG (vZ B tb am F xs a ah S0 mb an M C K (en:Int) x.1 _ (pre++(eO F xs en x.1 (-1) (-1)++((aQ F (flagsOf xs en) 2).take i).flatMap (gu F xs en))) O en ((c5 r x.1).getD []) ((((aQ F (flagsOf xs en) 2).getD i 0):Nat):Int) (-1) cv bq b3 aa aa (.inr ab) (.inl aa) (by rw [aq]; omega) ((aQ F (cy F (((aQ F (flagsOf xs en) 2).getD i 0):Nat)) 2).flatMap (jv F xs en wd (((aQ F (flagsOf xs en) 2).getD i 0):Nat))++(((aQ F (flagsOf xs en) 2).drop<|i+1).flatMap (gu F xs en)++tl))<|by rw [aq,b6,bK]; simp only [dx]) aa fun d0 dG c7=> ?_
 obtain ⟨bQ,dV,bf,rfl,aw,bi,cn,co⟩:=c7
 rw [aq] at cn co
 have b4:=bq.gw bi
 have bh:=bZ.trans bi
 have ch:=bi.own ce b8
 refine p (no aa)<|nl<|cD<|cb aa (fun bv=> ?_) fun bv=> ?_
 obtain rfl :bQ=false :=by simpa using bv
 refine ak fun a8=>ay<|a8<|rt<|tr<|br<|tr<|tr<|br<|tr<|a6 aa ?_
 rw [dx] at aw
 exact ⟨false,_,bf,aa,aw,bh,yt bx (by rw [bK]; exact cn.trans<|sF _ _),fun h=>by cases h⟩
 obtain rfl :bQ=true :=by simpa using bv
 obtain rfl :=co rfl
 refine aM<|cC<|ak fun a8=>ao (aU mb)<|p (nc aa)<|p (fa pM aa)<|p (ld nw aa<|(aX b4.cells).trans aa)<|p mv<|e<|cl AJ (DW B tb am F xs (((aQ F (flagsOf xs en) 2).getD i 0):Nat) dG (C.cap _ _ _ _ aw) a) aa fun v59 d3 c8=> ?_
 obtain ⟨bC,aS⟩:=c8
 obtain ⟨aO,aP,rfl⟩:=cR bC
 have cY:=C.wk aw aS
 have c0:=b4.wk aS
 have cU:=bh.trans<|Gw.wk aS
 have dh:=aV ch.1 aS
 have df:∀ q,(bz aO (aQ F (cy F (((aQ F (flagsOf xs en) 2).getD i 0):Nat)) 2).length aP).ownBlock=some q→¬bf q:=fun q bG h=>by have h1:=(dd bC bG).1; have h2:=C.lt _ _ _ _ aw q h; omega
 have dj:=eD bC (show S0≤_ by have :=bh.size; omega)
 have dN:=rH F (cy F (((aQ F (flagsOf xs en) 2).getD i 0):Nat)) 2
 refine p (bO uB aa aa)<|p mv<|nl<|a8<|aB<|lp (fun ar G al=> ∃ (k:Nat) (I:Nat→Prop),(k≤(aQ F (cy F (((aQ F (flagsOf xs en) 2).getD i 0):Nat)) 2).length)∧(M true ((pre++(eO F xs en x.1 (-1) (-1)++((aQ F (flagsOf xs en) 2).take i).flatMap (gu F xs en)))++(eO F xs en wd (((aQ F (flagsOf xs en) 2).getD i 0):Nat) (-1)++((aQ F (cy F (((aQ F (flagsOf xs en) 2).getD i 0):Nat)) 2).take k).flatMap (jv F xs en wd (((aQ F (flagsOf xs en) 2).getD i 0):Nat)))) I al)∧(gQ al I S0 mb tb ah K F (en:Int) x.1<|aQ F (flagsOf xs en) 1)∧(bm al S0 3 1 (.slice ac (aQ F (flagsOf xs en) 2).length ae) (aQ F (flagsOf xs en) 2).length<|(aQ F (flagsOf xs en) 2).map gG)∧(∀ q,(bz ac (aQ F (flagsOf xs en) 2).length ae).ownBlock=some q→¬I q)∧(bm al S0 3 1 (.slice aO (aQ F (cy F (((aQ F (flagsOf xs en) 2).getD i 0):Nat)) 2).length aP) (aQ F (cy F (((aQ F (flagsOf xs en) 2).getD i 0):Nat)) 2).length<|(aQ F (cy F (((aQ F (flagsOf xs en) 2).getD i 0):Nat)) 2).map gG)∧(∀ q,(bz aO (aQ F (cy F (((aQ F (flagsOf xs en) 2).getD i 0):Nat)) 2).length aP).ownBlock=some q→¬I q)∧(Gw S0 fp w I al)∧(G 0=aU mb)∧(G 4= .int .i64 (((aQ F (flagsOf xs en) 2).getD i 0):Nat))∧(G 5=str ((c5 r x.1).getD []))∧(G 26= .slice ac (aQ F (flagsOf xs en) 2).length ae)∧(G 27=aj ((aQ F (flagsOf xs en) 2).length))∧(G 28=aj i)∧(G 59= .slice aO (aQ F (cy F (((aQ F (flagsOf xs en) 2).getD i 0):Nat)) 2).length aP)∧(G 60= .int .i64 ((aQ F (cy F (((aQ F (flagsOf xs en) 2).getD i 0):Nat)) 2).length:Nat))∧(G 61=aj k)∧((aQ F (cy F (((aQ F (flagsOf xs en) 2).getD i 0):Nat)) 2).length - k=ar)) _ ⟨0,bf,ab,(by simpa using cY),c0,dh,ch.2,dj,df,cU,aa,aa,aa,aa,aa,aa,aa,aa,aa,aa⟩ ?_
 rintro ar G al ⟨k,I,hk,bl,V,ci,bA,bF,b9,b1,dr,dw,dy,ds,dt,du,dz,dA,dB,rfl⟩
 refine fx 0 dr<|fx 4 dw<|fx 5 dy<|fx 26 ds<|fx 27 dt<|fx 28 du<|fx 59 dz<|fx 60 dA<|fx 61 dB<|ak fun cE=>p (lt aa aa)<|nl<|cE<|az fun cF=>cd aa (fun dc=> ?_) fun dc=> ?_
 refine aM<|cF<|az fun bM=>aB<|ak fun cH=>p (aW q7 aa aa ab<|aC.ok ((aT bF).2)<|cK ab)<|p (ld bW aa<|aC.jo (i:=k) (aT bF).2<|xE ab)<|ay<|cH<|az fun cL=> ?_
 have dD:=pV.1<|eR (d:=0) (show k < (aQ F (cy F (((aQ F (flagsOf xs en) 2).getD i 0):Nat)) 2).length by omega)
 obtain ⟨ai,Z⟩:∃ r,F.rules[((aQ F (cy F (((aQ F (flagsOf xs en) 2).getD i 0):Nat)) 2).getD k 0)]? =some r:=⟨_,cx dD.1⟩
 have cs:F.rules.getD ((aQ F (cy F (((aQ F (flagsOf xs en) 2).getD i 0):Nat)) 2).getD k 0) dv=ai:=by rw [cO,Z]; rfl
 have a5:=xn (g:=jv F xs en wd (((aQ F (flagsOf xs en) 2).getD i 0):Nat)) 0 (show k < (aQ F (cy F (((aQ F (flagsOf xs en) 2).getD i 0):Nat)) 2).length by omega)
 refine rg aa<|ao (aU mb)<|p (nc aa)<|p (fa ri aa)<|p (ld jX aa<|(aX V.cells).trans aa)<|p mv<|p (aW ks aa aa ab<|aC.ok ((aT V.ru).2)<|k6 (V.j8 Z).choose_spec)<|p (cI ko aa (aa)<|gK (f:=dP) (m:=7) (fun _=>rfl) (aT V.ru).2 (V.j8 Z).choose_spec)<|ao (str<|(c5 r x.1).getD [])<|e<|cl s9 (sV ai (V.j8 Z).choose ((c5 r x.1).getD []) al (jR a Z).1 (jR a Z).2.1 (jR a Z).2.2.1<|by rw [aq]; omega) aa fun d1 dH c9=> ?_
 obtain ⟨rfl,av⟩:=c9
 have b2:=C.wk bl av
 have bp:=V.wk av
 have bX:=b1.trans<|Gw.wk av
 have ca:=aV ci av
 have cj:=aV bF av
 refine p mv<|p (xt aa aa)<|p (xt aa aa)<|p aA<|ay<|cL<|az fun bN=>rg aa<|p mv<|p mv<|gb (t:=78) aa (fun bs=> ?_) fun bs=> ?_
 obtain ⟨v2,ct⟩:∃ v,c5 ai ((c5 r x.1).getD [])=some v:=nr.1 bs
 have bL:(c5 ai<|(c5 r x.1).getD []).getD []=v2:=by rw [ct]; rfl
 have a7:c5 ai wd=some v2:=by rw [← aq]; exact ct
 have aF:jv F xs en wd (((aQ F (flagsOf xs en) 2).getD i 0):Nat) ((aQ F (cy F (((aQ F (flagsOf xs en) 2).getD i 0):Nat)) 2).getD k 0)=eO F xs en v2 (((aQ F (flagsOf xs en) 2).getD i 0):Nat) (((aQ F (cy F (((aQ F (flagsOf xs en) 2).getD i 0):Nat)) 2).getD k 0):Nat):=by unfold jv; rw [cs,a7]
 have dQ:=(vz (jR a Z).2.2.2 a7).2
 have b7:gu F xs en ((aQ F (flagsOf xs en) 2).getD i 0)=(eO F xs en wd (((aQ F (flagsOf xs en) 2).getD i 0):Nat) (-1)++((aQ F (cy F (((aQ F (flagsOf xs en) 2).getD i 0):Nat)) 2).take k).flatMap (jv F xs en wd (((aQ F (flagsOf xs en) 2).getD i 0):Nat)))++(jv F xs en wd (((aQ F (flagsOf xs en) 2).getD i 0):Nat) ((aQ F (cy F (((aQ F (flagsOf xs en) 2).getD i 0):Nat)) 2).getD k 0)++((aQ F (cy F (((aQ F (flagsOf xs en) 2).getD i 0):Nat)) 2).drop<|k+1).flatMap (jv F xs en wd (((aQ F (flagsOf xs en) 2).getD i 0):Nat))):=by rw [bK,BU (g:=jv F xs en wd (((aQ F (flagsOf xs en) 2).getD i 0):Nat)) 0 (show k < (aQ F (cy F (((aQ F (flagsOf xs en) 2).getD i 0):Nat)) 2).length by omega),dx]
 refine aR aa (aG (aU mb) aa)<|aR aa mv<|aR aa (aG (.int .i64 (((aQ F (flagsOf xs en) 2).getD i 0):Nat)) aa)<|aR aa mv<|eg aa aa aa<|cl vG (vZ B tb am F xs a ah S0 mb an M C K (en:Int) x.1 _ ((pre++(eO F xs en x.1 (-1) (-1)++((aQ F (flagsOf xs en) 2).take i).flatMap (gu F xs en)))++(eO F xs en wd (((aQ F (flagsOf xs en) 2).getD i 0):Nat) (-1)++((aQ F (cy F (((aQ F (flagsOf xs en) 2).getD i 0):Nat)) 2).take k).flatMap (jv F xs en wd (((aQ F (flagsOf xs en) 2).getD i 0):Nat)))) I en ((c5 ai<|(c5 r x.1).getD []).getD []) ((((aQ F (flagsOf xs en) 2).getD i 0):Nat):Int) ((((aQ F (cy F (((aQ F (flagsOf xs en) 2).getD i 0):Nat)) 2).getD k 0):Nat):Int) dH bp b2 aa aa (.inr ab) (.inr ab) (by rw [bL]; omega) (((aQ F (cy F (((aQ F (flagsOf xs en) 2).getD i 0):Nat)) 2).drop<|k+1).flatMap (jv F xs en wd (((aQ F (flagsOf xs en) 2).getD i 0):Nat))++(((aQ F (flagsOf xs en) 2).drop<|i+1).flatMap (gu F xs en)++tl))<|by rw [bL,b6,b7,aF]; simp only [dx]) aa fun d2 d4 da=> ?_
 obtain ⟨bS,dW,bT,rfl,a3,a1,cp,cq⟩:=da
 rw [bL] at cp cq
 have c1:=bp.gw a1
 have bY:=bX.trans a1
 have cc:=a1.own ca bA
 have ck:=a1.own cj b9
 refine aR aa (no aa)<|p (bI aa)<|nl<|bN<|cb aa (fun bw=> ?_) fun bw=> ?_
 obtain rfl :bS=false :=by simpa using bw
 refine ak fun cM=>ay<|cM<|rt<|br<|tr<|tr<|br<|br<|tr<|tr<|br<|tr<|a6 aa ?_
 rw [dx,dx] at a3
 exact ⟨false,_,bT,aa,a3,bY,yt bx (yt b7<|by rw [aF]; exact cp),fun h=>by cases h⟩
 obtain rfl :bS=true :=by simpa using bw
 obtain rfl :=cq rfl
 rw [aF] at a5
 exact aM<|bn<|bM<|rg aa<|p (ad aa aa<|bR ab)<|p mv<|nl<|tn<|⟨_,ab,k+1,bT,ab,(by rw [a5,← dx (eO F xs en wd (((aQ F (flagsOf xs en) 2).getD i 0):Nat)<|-1)]; rw [dx] at a3; exact a3),c1,cc.1,cc.2,ck.1,ck.2,bY,aa,aa,aa,aa,aa,aa,aa,aa,aa,aa⟩
 have a7:c5 ai wd=none:=by rw [← aq]; simpa using bs
 have aF:jv F xs en wd (((aQ F (flagsOf xs en) 2).getD i 0):Nat) ((aQ F (cy F (((aQ F (flagsOf xs en) 2).getD i 0):Nat)) 2).getD k 0)= []:=by unfold jv; rw [cs,a7]
 rw [aF,dS] at a5
 refine aJ aa<|aJ aa<|aJ aa<|aJ aa<|aJ aa<|aJ aa<|p (bD aa)<|nl<|bN<|cf aa<|aM<|bn<|bM<|rg aa<|p (ad aa aa<|bR ab)<|p mv ?_
 exact nl<|tn<|⟨_,ab,k+1,I,ab,(by rw [a5]; exact b2),bp,ca,bA,cj,b9,bX,aa,aa,aa,aa,aa,aa,aa,aa,aa,aa⟩
 exact ext<|bc<|bc<|be<|bn<|aN<|rg aa<|p (ad aa aa<|bR ab)<|p mv<|nl<|tn<|⟨_,ab,i+1,I,ab,(by rw [bJ,bK]; rw [eL (show (aQ F (cy F (((aQ F (flagsOf xs en) 2).getD i 0):Nat)) 2).length≤k by omega),dx] at bl; rw [← dx (eO F xs en x.1 (-1)<|-1)]; exact bl),V,ci,bA,b1,aa,aa,aa,aa,aa⟩
 refine ext<|bc<|bc<|be<|a9<|ak fun aN=>p aA<|nl<|aN<|rt<|a6 aa ?_
 rw [eL ab,← a4] at bk
 exact ⟨true,_,O,aa,bk,b0,Ge _,fun _=>rfl⟩
end Go.Hb
end
section
namespace Go.Hb.qE
open Go.Hb.lZ
noncomputable def fL (F:aE) (xs:List bj) (n:Int):List cV:=if 0≤n∧n < xs.length then kX F xs n.toNat else []
theorem qW {F:aE} {xs:List bj} {k:Nat} (h:k < xs.length):fL F xs k=kX F xs k:=by unfold fL; rw [if_pos ab,ji]
theorem Bk {F:aE} {xs:List bj} {n:Int} (h:¬(0≤n∧n < xs.length)):fL F xs n= []:=if_neg h
def lr (W:World) (b:Nat) (a:Option Addr):Prop :=W.heap[b]? =some (.cells [.pointer a].toArray 22 (0,0))
def jy (W:World) (b:Nat) (n:Int):Prop :=W.heap[b]? =some (.cells [.int .i64 n].toArray 3 (0,0))
theorem Hk (B tb:Nat) (c:fK) (F:aE) (xs:List bj) (a S0:Nat) (w:World) (C:eB w B tb c F xs) (q:eW F xs) (O:S0≤w.heap.size):
 ba au 41 (aY [aU tb,.func (.yield a) #[] #[]]) w (fun v w'=> ∃ mb K,v=aU mb∧gQ w' (fun _=>False) S0 mb tb a K F 0 [] []∧Wk w w'):=by
 refine enter func41 aa ntmps41 aa<|ak fun E=>ay<|E<|ak fun G=>ao (aU tb)<|ao (aU tb)<|p (nc aa)<|p (fa rm aa)<|p (ld ed aa<|(aX C.cells).trans aa)<|e<|cl qR (qG B c.fb c.mc F c.V w C.fl (by have :=q.len; omega) q.nx) aa fun v10 ac M=> ?_
 obtain ⟨⟨⟨v9,v10,v11,v12,sa,rn⟩,rfl,hax⟩,hE10⟩:=M
 obtain ⟨ar,cr,i⟩:=cR hax.dN
 have i:v12=_:=i
 subst i
 have Z:=hE10.size
 have U:rn.length=F.rules.length:=by have :=hax.nx.1; rwa [eJ] at this
 exact p (wY xa aa aa)<|ao (.func (.yield a) #[] #[])<|p (cE (ps:= [(0,aU tb),(1,.slice ar F.rules.length cr),(5,.func (.yield a) #[] #[])]) (L:= [aU tb,.slice ar F.rules.length cr,.int .i64 0,.string ⟨⟨[]⟩⟩,.slice none 0 0,.func (.yield a) #[] #[]]) Qt aa<|aa)<|e<|qO aa fun I ad Y A J=>ay<|G<|rt<|a6 aa<|⟨I,⟨ar,cr,rn,none,0⟩,aa,⟨ab,J,id,aV (eD hax.dN O) A.md,fun _ _=>id,U,dI _ _ _ _,fun _ _=>id⟩,hE10.trans A.md⟩
theorem tU (B tb:Nat) (Y:fK) (F:aE) (xs:List bj) (ap:eW F xs) (C S0 mb:Nat) (an:List cV) (V:Bool→List cV→(Nat→Prop)→World→Prop) (i:Yc au C S0 pH an (fun W=>eB W B tb Y F xs) V) (K:o7) (aO:Int) (aN:Tx) (ps:List Nat) (pre:List cV) (fp:Nat→Prop) (n:Int) (w:World) (O:gQ w fp S0 mb tb C K F aO aN ps) (av:V true pre fp w) (tl:List cV) (bI:an=pre++(fL F xs n++tl)):
 ba au 42 (aY [aU mb,.int .i64 n]) w (fun v w'=> ∃ b q fp' bc bg bO bM,v= .bool b∧V b (pre++q) fp' w'∧gQ w' fp' S0 mb tb C bc F bg bO bM∧q <+:fL F xs n∧(b=true→q=fL F xs n)):=by
 have bU:=i.lt _ _ _ _ av
 have bD:=i.cap _ _ _ _ av
 have bS:S0≤w.heap.size:=by have :=O.lo; have :=(cg.1 O.cells).1; omega
 refine enter func42 aa ntmps42 aa<|ak fun a5=>ay<|a5<|ak fun a7=>p mv<|p (nc aa)<|p (fa pM aa)<|p (ld nw aa<|(aX O.cells).trans aa)<|p mv<|e<|cl pz (q4 B tb Y F xs n w bD ap) aa fun bZ b1 bw=> ?_
 obtain ⟨⟨bP,rfl,bF⟩,hE13⟩:=bw
 obtain ⟨G,I,rfl⟩:=cR bF
 have bW:=hE13.size
 refine p mv<|p (xt aa aa)<|p (xt aa aa)<|e<|al m8 fun A b3 aZ aV bn=> ?_
 have bY:=aV.size
 refine e<|cw iu aa aa aa aa (bn) (by simp) fun E bv bi=> ?_
 have aq:Wk w E:=(hE13.trans aV.md).trans' bv fun q ah h=>by omega
 have aZ:bA E.heap A [str (gI xs n),.slice G (flagsOf xs n).length I]:=bi
 have aP:=i.wk av aq
 have aR:=O.wk aq
 have bV:=aq.size
 refine ay<|a7<|az fun a8=>ak fun a9=>p mv<|p (no aa)<|nl<|a9<|cb aa (fun U=> ?_) fun U=> ?_
 have bH:¬(0≤n∧n < xs.length):=fun h=>by rw [decide_eq_true h] at U; cases U
 exact ak fun am=>ay<|am<|rt<|tr<|a6 aa<|⟨true,[],fp,K,aO,aN,ps,aa,by rw [dS]; exact aP,aR,List.nil_prefix,fun _=>(Bk bH).symm⟩
 have bT:0≤n∧n < xs.length:=uO fun h=>by rw [decide_eq_false h] at U; cases U
 obtain ⟨k,rfl⟩:∃ k:Nat,n=(k:Int):=⟨n.toNat,ab⟩
 obtain ⟨x,a1⟩:∃ x,xs[k]? =some x:=⟨_,cx ab⟩
 obtain ⟨bf,bQ,ao,bR⟩:=pk a1
 have ax:=i.wk aP (Md.refl (fun _=>False) E).drew
 have aS:=aR.wk (Md.refl (fun _=>False) E).drew
 have aF:A≠mb:=fun h=>by have :=(cg.1 O.cells).1; omega
 refine aM<|a8<|az fun am=> ?_
 have c:(fun w'=>bA w'.heap A [str (gI xs (k:Int)),.slice G (flagsOf xs (k:Int)).length I]∧Hb.aH w'.heap mb 0=some (aU tb)) E.drew:=⟨aZ,(aX aS.cells).trans rfl⟩
 refine bK (fun w'=>bA w'.heap A [str (gI xs (k:Int)),.slice G (flagsOf xs (k:Int)).length I]∧Hb.aH w'.heap mb 0=some (aU tb)) aa wide c<|aI 0 aa (fun _ _=>mv) c<|aI 1 aa (fun _ _=>mv) c<|aI 2 aa (fun _ _=>mv) c<|aI 3 aa (fun _ _=>mv) c<|aI 4 aa (fun _ _=>fa tK aa) c<|aI 5 aa (fun w' aD=>ld cG aa<|aD.1.bu 0) c<|aI 6 aa (fun _ _=>mv) c<|aI 7 aa (fun _ _=>nc aa) c<|aI 8 aa (fun _ _=>fa pM aa) c<|aI 9 aa (fun w' aD=>ld nw aa<|aD.2) c<|aI 10 aa (fun _ _=>mv) c<|he 11 aa ag<|cl AK (DE B tb Y F xs (k:Int) E.drew (i.cap _ _ _ _ ax) ap) aa fun b0 a2 bx=> ?_
 obtain ⟨aL,Z⟩:=bx
 obtain ⟨J,M,rfl⟩:=cR aL
 have bq:=i.wk ax Z
 have a:=aS.wk Z
 have bE:∀ q,(bz J (aQ F (flagsOf xs (k:Int)) 1).length M).ownBlock=some q→¬fp q:=fun q ah h=>by have h1:=(dd aL ah).1; have h2:=i.lt _ _ _ _ ax q h; omega
 have bG:=eD aL (show S0≤_ by have :E.heap.size≤E.drew.heap.size:=bX _; omega)
 have ac:(fun w'=>bA w'.heap A [str (gI xs (k:Int)),.slice G (flagsOf xs (k:Int)).length I]∧Hb.aH w'.heap mb 0=some (aU tb)) a2:=⟨Wk.B Z c.1,Wk.aH Z c.2⟩
 refine ⟨ac,?_⟩
 refine aI 12 aa (fun _ _=>nc aa) ac<|aI 13 aa (fun _ _=>fa xr aa) ac<|he 14 aa ag<|dA kW aa aa (v:=aj k) aa a.cells (by show 2 < 6; omega) fun a3 aA bk=> ?_
 have aG:a3.heap[mb]? =some (.cells (lF tb C K F (k:Int) aN ps).toArray 183 (0,0)):=bk
 have br:=i.rN bq a.cells a.lo a.nf aA
 have ad:(fun w'=>bA w'.heap A [str (gI xs (k:Int)),.slice G (flagsOf xs (k:Int)).length I]∧Hb.aH w'.heap mb 0=some (aU tb)) a3:=⟨Md.B aA ac.1 aF,(aX aG).trans rfl⟩
 refine ⟨ad,?_⟩
 refine aI 15 aa (fun _ _=>nc aa) ad<|aI 16 aa (fun _ _=>fa xu aa) ad<|he 17 aa ag<|dA mP aa aa (v:=str<|gI xs (k:Int)) aa aG (by show 3 < 6; omega) fun a4 aB bl=> ?_
 have aJ:a4.heap[mb]? =some (.cells (lF tb C K F (k:Int) (gI xs (k:Int)) ps).toArray 183 (0,0)):=bl
 have bs:=i.rN br aG a.lo a.nf aB
 have ae:(fun w'=>bA w'.heap A [str (gI xs (k:Int)),.slice G (flagsOf xs (k:Int)).length I]∧Hb.aH w'.heap mb 0=some (aU tb)) a4:=⟨Md.B aB ad.1 aF,(aX aJ).trans rfl⟩
 refine ⟨ae,?_⟩
 refine aI 18 aa (fun _ _=>nc aa) ae<|aI 19 aa (fun _ _=>fa B6 aa) ae<|he 20 aa ag<|dA Bf aa aa (v:= .slice J (aQ F (flagsOf xs (k:Int)) 1).length M) aa aJ (by show 4 < 6; omega) fun ai aC bm=> ?_
 have aK:ai.heap[mb]? =some (.cells (lF tb C ⟨K.ar,K.cr,K.rn,J,M⟩ F (k:Int) (gI xs (k:Int))<|aQ F (flagsOf xs (k:Int)) 1).toArray 183 (0,0)):=bm
 rw [bf] at aK
 have bt:=i.rN bs aJ a.lo a.nf aC
 have a0:=(aA.trans' aB fun q ah h=>h).trans' aC fun q ah h=>h
 have aW:TF a2 [185] (fun q=>q=mb):=TF.eq (di a.cells) aw
 have aT:gQ ai fp S0 mb tb C ⟨K.ar,K.cr,K.rn,J,M⟩ F (k:Int) x.1 (aQ F (flagsOf xs (k:Int)) 1):=⟨a.lo,aK,a.nf,cM a.ru a0 aW aw,a.rf,a.rn,cM bG a0 aW aw,bE⟩
 have bC:(fun w'=>bA w'.heap A [str (gI xs (k:Int)),.slice G (flagsOf xs (k:Int)).length I]∧Hb.aH w'.heap mb 0=some (aU tb)) ai:=⟨Md.B aC ae.1 aF,(aX aK).trans rfl⟩
 refine ⟨bC,?_⟩
 refine hn ag<|am<|ak fun bb=>p mv<|e<|cl II (PW B tb Y F xs ap C S0 mb an V i ⟨K.ar,K.cr,K.rn,J,M⟩ pre fp k x ai aT bt a1 tl<|by rw [bI,qW ao]) aa fun v37 b2 bB=> ?_
 obtain ⟨bd,bN,bh,rfl,bp,bo,bJ,bL⟩:=bB
 exact ay<|bb<|rt<|a6 aa<|⟨bd,bN,bh,_,_,_,_,aa,bp,aT.gw bo,by rw [qW ao]; exact bJ,fun h=>by rw [qW ao]; exact bL h⟩
theorem tq (q:Option Addr) (n:Int) (w:World):
 ba au 16 (aY [.pointer q,.int .i64 n]) w (fun v w'=> ∃ a be,v= .func (.func 40) #[] #[aU a,aU be]∧w.heap.size≤a∧w.heap.size≤be∧lr w' a q∧jy w' be n∧Wk w w'):=by
 refine enter func16 aa ntmps16 aa<|ak fun A=>e<|sY aa aa fun E V M c I=> ?_
 have U:=c.size
 exact e<|sY aa aa fun G Y O i J=>ay<|A<|ak fun C=>p C9<|p aA<|nl<|C<|rt<|a6 aa<|⟨E,G,aa,ab,ab,Wk.aB i.md I,J,c.md.trans i.md⟩
theorem wH (B tb:Nat) (C:fK) (F:aE) (xs:List bj) (M:eW F xs) (a be i:Nat) (n:Int) (q:Bool→List cV→(Nat→Prop)→World→Prop) (w:World) (J:q true [] (fun _=>False) w) (A:Yc au i w.heap.size pH (fL F xs n) (fun W=>eB W B tb C F xs∧lr W a (some ⟨tb,0,none⟩)∧jy W be n) q):
 ba au 40 (aY [.func (.yield i) #[] #[],aU a,aU be]) w (fun v w'=> ∃ b pre fp,q b pre fp w'∧pre <+:(fL F xs n)∧(b=true→pre=(fL F xs n))):=by
 obtain ⟨ai,O,aj⟩:=A.cap _ _ _ _ J
 refine enter func40 aa ntmps40 aa<|ak fun V=>p (ld nw aa<|(aX O).trans aa)<|p (Om rZ aa aa)<|nl<|V<|ct (aa) ?_
 have c:(fun w'=>lr w' a (some ⟨tb,0,none⟩)∧jy w' be n) w.drew:=⟨O,aj⟩
 refine bK (fun w'=>lr w' a (some ⟨tb,0,none⟩)∧jy w' be n) aa wide c<|aI 0 aa (fun w' I=>ld nw aa<|(aX I.1).trans aa) c<|bH 1 aa (.func (.yield i) #[] #[]) c<|aI 3 aa (fun w' I=>ld bW aa<|(aX I.2).trans aa) c<|he 2 aa ag<|cl Iw (Hk B tb C F xs i w.heap.size w.drew (ai.wk (Md.refl _ _).drew) M<|bX _) aa fun aw U ad=> ?_
 obtain ⟨mb,K,rfl,ab,E⟩:=ad
 have ae:(fun w'=>lr w' a (some ⟨tb,0,none⟩)∧jy w' be n) U:=⟨Wk.aB E c.1,Wk.aB E c.2⟩
 refine ⟨ae,?_⟩
 refine he 4 aa ag<|cl Ix (tU B tb C F xs M i w.heap.size mb (fL F xs n) q (A.Rt fun W h=>h.1) K 0 [] [] [] (fun _=>False) n U ab (A.wk J<|(Md.refl (fun _=>False) w).drew.trans E) []<|by rw [dS,kN]) aa fun v10 ao ac=> ?_
 obtain ⟨Y,an,Z,ap,aq,ax,av,rfl,G,ar,al,am⟩:=ac
 rw [kN] at G
 have ah:(fun w'=>lr w' a (some ⟨tb,0,none⟩)∧jy w' be n) ao:=(A.cap _ _ _ _ G).2
 refine ⟨ah,?_⟩
 exact hn ag<|f0 aa<|⟨Y,an,Z,G,al,am⟩
theorem tp (B tb:Nat) (c:fK) (F:aE) (xs:List bj) (A:eW F xs) (a be:Nat) (n:Int):zH au 40 #[.pointer (some ⟨a,0,none⟩),.pointer (some ⟨be,0,none⟩)] pH (fL F xs n) (fun W=>eB W B tb c F xs∧lr W a (some ⟨tb,0,none⟩)∧jy W be n):=
 fun l i W q C=>Calls.mono (wH B tb c F xs A a be l n i W q C) fun e w' ⟨v,he,E⟩=>⟨⟨v,he⟩,E⟩
end Go.Hb.qE
end
section
namespace Go.Hb
open Go.Hb.lZ Go.Hb.qE
def nR (L:List cV) (most:Int):List cV:=if most < 1 then [] else L.take most.toNat
theorem El {L:List cV} {most:Int} (h:(L.length:Int) < most):nR L most=L:=by unfold nR; rw [if_neg ab,eL ab]
theorem QP {L q:List cV} {most:Int} (h:q <+:L) (hm:(q.length:Int)=most) (h1:¬most < 1):nR L most=q:=by
 have e:=List.prefix_iff_eq_take.1 h
 unfold nR; rw [if_neg h1,show most.toNat=q.length by omega]; exact e.symm
theorem QO {L:List cV} {most:Int} (h:most < 1):nR L most= []:=if_pos h
theorem CY (B tb:Nat) (aq:fK) (F:aE) (xs:List bj) (n most:Int) (w:World) (aO:eB w B tb aq F xs) (a3:eW F xs) (bL:most≤1048576):
 ba au 13 (aY [.pointer (some ⟨tb,0,none⟩),.int .i64 n,.int .i64 most]) w (fun v w'=>bm w' w.heap.size 41 5 v (nR (fL F xs n) most).length (l6<|nR (fL F xs n) most)∧Wk w w'):=by
 refine wS [] func13 aa ntmps13 aa ?_
 refine ek<|eS<|rg aa<|e<|sY aa aa fun V b1 bB aN a5=> ?_
 have bT:=aN.size
 refine p aA<|nl<|ej<|ek<|eS<|rg aa<|e<|gR RV fun ag bt bC ay a7=> ?_
 have bU:=ay.size
 have aL:=aN.md.trans ay.md
 have aJ:=Wk.aB ay.md a5
 refine nl<|ej<|ek<|ek<|eS<|rg aa<|p (ld bW aa<|(aX aJ).trans aa)<|p (lt aa aa)<|nl<|ej<|eS<|cd aa (fun bH=> ?_) fun bH=> ?_
 refine sq fun a1 ax=>rg aa<|p aA<|nl<|tn<|ax _ _<|rt<|prt<|Lu aa aa ?_
 exact ⟨by rw [QO bH]; exact dI _ _ _ _,aL⟩
 refine aM<|ej<|ek<|ek<|eS<|rg aa<|p mv<|p mv<|e<|cl HO (tq (some ⟨tb,0,none⟩) n bt) aa fun bY aF bg=> ?_
 obtain ⟨Y,be,rfl,bI,bE,aR,aP,ai⟩:=bg
 have ah:=aL.trans ai
 have bP:=ai.size
 have bl:=Wk.aB ai a7
 have bi:jy aF V most:=Wk.aB ai aJ
 have ao:ag < aF.heap.size:=ab
 have aU:V < aF.heap.size:=ab
 have aW:=(cg.1 aR).1
 have hle:=(cg.1 aP).1
 have a0:=ah.size
 refine nl<|ej ?_
 apply PL (pH) (fL F xs n) (fun W=>eB W B tb aq F xs∧lr W Y (some ⟨tb,0,none⟩)∧jy W be n) (fun pre fp i=> ∃ v,i.heap[ag]? =some (.cells [v].toArray 27 (0,0))∧bm i w.heap.size 41 5 v pre.length (l6 pre)∧(∀ k,v.ownBlock=some k↔fp k)∧lr i Y (some ⟨tb,0,none⟩)∧jy i be n∧jy i V most∧Wk w i∧(pre.length:Int) < most) (fun r pre fp i=>r=false∧∃ v,i.heap[ag]? =some (.cells [v].toArray 27 (0,0))∧bm i w.heap.size 41 5 v pre.length (l6 pre)∧(∀ k,v.ownBlock=some k↔fp k)∧lr i Y (some ⟨tb,0,none⟩)∧jy i be n∧jy i V most∧Wk w i∧(pre.length:Int)=most) rfl Iv (fun _=>rfl) (tp B tb aq F xs a3 Y be n) (⟨.slice none 0 0,bl,dI _ _ _ _,fun k=>by simp [Value.ownBlock],aR,aP,bi,ah,by simp only [List.length_nil]; omega⟩) (fun pre fp W ⟨v,h1,h2,h3,h4,h5,Z,I,ac⟩=>⟨⟨aO.wk I,h4,h5⟩,fun k hk=>(dd h2<|(h3 k).2 hk).2⟩) (fun r pre fp W ⟨aH,v,h1,h2,h3,h4,h5,Z,I,ac⟩=>⟨⟨aO.wk I,h4,h5⟩,fun k hk=>(dd h2<|(h3 k).2 hk).2⟩) (fun pre fp W a2 F ⟨v,h1,h2,h3,h4,h5,Z,I,ac⟩ hm C=>⟨v,nQ h1 hm ao C,Eh h2 hm (fun k hk=>(h3 k).1 hk) C,h3,nQ h4 hm aW C,nQ h5 hm hle C,nQ Z hm aU C,Ei I hm a0 C,ac⟩) (fun r pre fp W a2 F ⟨aH,v,h1,h2,h3,h4,h5,Z,I,ac⟩ hm C=>⟨aH,v,nQ h1 hm ao C,Eh h2 hm (fun k hk=>(h3 k).1 hk) C,h3,nQ h4 hm aW C,nQ h5 hm hle C,nQ Z hm aU C,Ei I hm a0 C,ac⟩) (fun x b i=>i.heap[b]? =some (.cells (gq x).toArray 41 (0,0))) (He (f:=gq))
 intro l x i K J
 exact rg aa<|e<|gR E6 fun aG b3 bD bf a8=>e<|ga A8 aa aa aa aa a8 aw fun b2 bd a6=>nl<|tn<|J aG _ (bf.md.trans' bd fun q bM h=>by omega) a6
 intro l pre x rest fp aG i bN av aI
 obtain ⟨v,M,A,U,an,am,ak,O,hlen⟩:=av
 have bV:=O.size
 have bG:=(cg.1 aI).1
 refine aB<|sq fun a1 ax=>rg aa<|p (ld sR aa<|(aX M).trans aa)<|p (cI ny aa (aa) fun j bJ=>(qN aI).bu j)<|e<|nB D8 aa aa aa fun bx b0 bA a a4=> ?_
 have bQ:=a.size
 refine e<|ap D8 (aV A a.md) aa ab aa (aC.fO a4) (aa) (aa) ab ab fun ad bs aD E bR aT=> ?_
 have bb:=Wk.own (O.trans a.md) (aV A a.md) E<|bX _
 have al:=E.aB (a.md.aB M) fun h=>dp (aV A a.md) (a.md.aB M) aw h
 obtain ⟨bw,bz,br⟩:=cR aD
 have bp:=E.aB (a.md.aB an) fun h=>dp (aV A a.md) (a.md.aB an) aw h
 have bo:=E.aB (a.md.aB am) fun h=>dp (aV A a.md) (a.md.aB am) aw h
 have bk:=E.aB (a.md.aB ak) fun h=>dp (aV A a.md) (a.md.aB ak) aw h
 refine e<|dA Km aa aa (eb aD) al (by simp) fun ae G ar=> ?_
 have aK:Wk w ae:=Md.trans' bb G fun k hk h=>by omega
 have aj:TF bs [29] (fun q=>q=ag):=TF.eq (di al) aw
 have aZ:bm ae w.heap.size 41 5 ad (pre++ [x]).length (l6<|pre++ [x]):=cM (by rw [show l6 (pre++ [x])=l6 pre++gq x from by unfold l6; rw [nj,oX],bF]; exact aD) G aj aw
 have aS:lr ae Y (some ⟨tb,0,none⟩):=G.iY aj bp aw
 have aQ:jy ae be n:=G.iY aj bo aw
 have az:jy ae V most:=G.iY aj bk aw
 have bK:(pre++ [x]).length=pre.length+1:=by simp
 refine nl<|tn<|ax _ _<|sq fun bv bc=>rg aa<|p (ld sR aa<|(aX ar).trans<|by rw [br]; rfl)<|p (bO ux aa aa)<|p (ld bW aa<|(aX az).trans aa)<|p (bS aa aa)<|nl<|tn<|bc _ _<|cd aa (fun heq=> ?_) fun heq=> ?_
 exact ext<|lz aw<|⟨aa,(e6.wk a.md).trans ((e6.md E<|mY<|aV A a.md).trans<|e6.md G fun k hk=>⟨_,_,_,hk ▸ al⟩),fun k=>ad.ownBlock=some k,(Gw.wk a.md).trans ((Gw.md E (fun k hk=> .inl<|(U k).1 hk) fun k hk=>(aT k hk).imp (fun h=>(U k).1 h) id).trans<|Gw.md G (fun k hk=> .inr<|by subst hk; exact ao) fun _ h=> .inl h),aa,⟨ad,ar,aZ,fun _=>Iff.rfl,aS,aQ,az,aK,ab⟩⟩
 exact aM<|bn<|⟨(e6.wk a.md).trans ((e6.md E<|mY<|aV A a.md).trans<|e6.md G fun k hk=>⟨_,_,_,hk ▸ al⟩),fun k=>ad.ownBlock=some k,(Gw.wk a.md).trans ((Gw.md E (fun k hk=> .inl<|(U k).1 hk) fun k hk=>(aT k hk).imp (fun h=>(U k).1 h) id).trans<|Gw.md G (fun k hk=> .inr<|by subst hk; exact ao) fun _ h=> .inl h),⟨ad,ar,aZ,fun _=>Iff.rfl,aS,aQ,az,aK,ab⟩⟩
 intro D i a9 av J
 obtain ⟨fp,v,M,A,U,an,am,ak,O,hlen⟩:=av
 refine ej<|ek<|eS<|rg aa<|p (ld sR aa<|(aX M).trans aa)<|p aA<|nl<|ej<|rQ<|By aa aa J ?_
 exact ⟨bZ (by rw [El hlen]; exact A) (k0 _ _ _) (fun k hk h=>by obtain ⟨c,e,z,h1⟩:=mY A k hk; rw [h,J] at h1; cases h1),Md.trans' O (k0 _ _ _) fun k hk h=>by have :=ah.size; omega⟩
 intro D i pre a9 bq bh J
 obtain ⟨fp,_,v,M,A,U,an,am,ak,O,hlen⟩:=bh
 refine ej<|ek<|eS<|rg aa<|p (ld sR aa<|(aX M).trans aa)<|p aA<|nl<|ej<|rQ<|By aa aa J ?_
 exact ⟨bZ (by rw [QP bq hlen bH]; exact A) (k0 _ _ _) (fun k hk h=>by obtain ⟨c,e,z,h1⟩:=mY A k hk; rw [h,J] at h1; cases h1),Md.trans' O (k0 _ _ _) fun k hk h=>by have :=ah.size; omega⟩
 exact fun _ _ _ _ _ h _=>by obtain ⟨_,h,_⟩:=h; cases h
end Go.Hb
end
section
namespace Go.Hb.zD
open Go.Hb.lZ
def Bd (acc:List cV):Prop :=acc.length≤Ac acc∧Ac acc≤acc.length*1000∧acc.length≤2000000
section
variable {w w' w'':World} {fp fp' fp'':Nat→Prop} {S0 xb:Nat} {dE:Bool} {most limit:Int} {acc:List cV}
end
end Go.Hb.zD
end
section
namespace Go.Hb
open Go.Hb.lZ Go.Hb.qE Go.Hb.zD
theorem Bu (a s1:Tx) (a0 i A d0 c q C d1:Int) (w:World):(binOp .eql 41 (.agg [str a,.int .i64 a0,.int .i64 i,.int .i64 A,.int .i64 d0].toArray)<|.agg [str s1,.int .i64 c,.int .i64 q,.int .i64 C,.int .i64 d1].toArray).run au w= .ok (.bool<|decide (a=s1∧a0=c∧i=q∧A=C∧d0=d1)) w:=by
 have G:=underlying9
 have I:=underlying3
 have E:au.underlying 41=some (.struct<|au.fieldsOf 41):=ag
 have hp:au.stoodInHeld 41=false :=ag
 rw [run_eql_struct,show (10000:Nat)=9999 +1 from rfl,run_equalIn_agg w 9999 41 _ _ E hp]
 simp only [Program.fieldsOf,underlying41]
 have hs:(str a=str s1)=(a=s1):=by unfold str; simp
 unfold str at*
 go_simp
 by_cases h1:a=s1 <;> by_cases h2:a0=c <;> by_cases h3:i=q <;> by_cases h4:A=C <;> by_cases h5:d0=d1 <;> simp [h1,h2,h3,h4,h5]
section
variable {N:Fm} {σ:Nat→Value} {w:World} {dst:Option Nat} {ty:TypeId} {pos :String} {af:Array Edge} {g:Option (Nat×Bool)} {x y:Operand}
theorem Ll {J:TypeId} {C s1:Tx} {a0 c q d0 a i A d1:Int} (G:ev N σ x= .agg [str C,.int .i64 a0,.int .i64 c,.int .i64 q,.int .i64 d0].toArray) (I:ev N σ y= .agg [str s1,.int .i64 a,.int .i64 i,.int .i64 A,.int .i64 d1].toArray):
 (execOp (ev N σ) ⟨dst,.binOp .eql 41 x y J,ty,pos,af,g⟩).run au w= .ok (.value<|.bool<|decide (C=s1∧a0=a∧c=i∧q=A∧d0=d1)) w:=by
 have hm:au.eqGuardType au.depth 41=false :=ag
 have E:=run_eqGuard_agg w .eql 41 x y [str C,.int .i64 a0,.int .i64 c,.int .i64 q,.int .i64 d0].toArray [str s1,.int .i64 a,.int .i64 i,.int .i64 A,.int .i64 d1].toArray hm
 have he:=Bu C s1 a0 c q d0 a i A d1 w
 simp only [execOp,G,I,ng,E,he,nd,n2]
end
theorem tj {l:List cV} (h:0 < l.length):l6 l≠[]:=xm (f:=gq) (m:=5) (fun _=>rfl) aw h
theorem Rq:k8 qf uD=some (ik,k9):=Ej Rj Rl
theorem Rm:nR (fL ik k9 0) 9=r7:=by
 have h:=qW (F:=ik) (xs:=k9) (k:=0) aw
 rw [show ((0:Nat):Int)=0 from rfl] at h
 rw [h,Rk]; rfl
theorem nL {w:World} {B e:Nat} {a:Option Addr} {L:List cV} {c:Nat} (h:bm w B e 5 (.slice a L.length c) L.length (l6 L)):aC w.heap a (l6 L):=(aT h).2
theorem EN (w:World):
 ba au 12 (aY []) w (fun v w'=>v= .bool true∧Wk w w'):=by
 refine enter func12 aa ntmps12 aa<|ak fun G=>ay<|G<|ak fun I=>e<|cl vJ (yL qf uD w aw aw) aa fun v5 ah ac=> ?_
 obtain ⟨⟨pp,ax,az,aB,rfl,E⟩,hE5⟩:=ac
 rw [Rq] at E
 obtain ⟨B,tb,O,an,rfl,ae,V⟩:=E
 refine p mv<|p (xt aa aa)<|p (xt aa aa)<|e<|al mu fun ai aD ao c U=> ?_
 have av:=c.size
 refine p aA<|e<|cw gS aa aa aa aa (U) (by simp) fun A C am=> ?_
 have Y:Wk w A:=(hE5.trans c.md).trans' C fun q ag h=>by have :=hE5.size; omega
 have Z:Wk ah A:=c.md.trans' C fun q ag h=>by omega
 refine nl<|I<|ak fun J=>p mv<|e<|cl Ah (CY B tb O ik k9 0 9 A (ae.wk Z) V aw) aa fun v9 aE ad=> ?_
 obtain ⟨a,ab⟩:=ad
 rw [Rm] at a
 obtain ⟨a9,aj,rfl⟩:=cR a
 refine ay<|J<|ak fun M=>p mv<|p (bO ux aa aa)<|p (bS aa aa)<|p mv<|gs (t:=13) aa (fun ap=> ?_) fun h=>absurd aa h
 refine aR aa mv<|aR aa (aW tw aa aa aw<|aC.ok (nL a)<|tj aw)<|aR aa (fa xx aa)<|aR aa (ld cG aa<|gK (f:=gq) (m:=5) (i:=0) (fun _=>rfl) (nL a) (show r7[0]? =some ⟨[100,111],0,-1,-1,-1⟩ from aa) 0 aw)<|aR aa (iy aa aa)<|p (bI aa)<|p mv<|gs (t:=20) aa (fun aq=> ?_) fun h=>absurd aa h
 refine aR aa mv<|aR aa (aW tw aa aa aw<|aC.ok (nL a)<|tj aw)<|aR aa (fa xx aa)<|aR aa (ld cG aa<|gK (f:=gq) (m:=5) (i:=1) (fun _=>rfl) (nL a) (show r7[1]? =some ⟨[100,111,115],0,0,-1,-1⟩ from aa) 0 aw)<|aR aa (iy aa aa)<|p (bI aa)<|p mv<|gs (t:=27) aa (fun ar=> ?_) fun h=>absurd aa h
 exact aR aa mv<|aR aa (aW tw aa aa aw<|aC.ok (nL a)<|tj aw)<|aR aa (cI ny aa (aa)<|gK (f:=gq) (m:=5) (i:=2) (fun _=>rfl) (nL a) (show r7[2]? =some ⟨[100,111,101,114],0,1,-1,-1⟩ from aa))<|aR aa (cE (ps:= [(0,str [100,111,101,114]),(2,.int .i64 1),(3,.int .i64 (-1)),(4,.int .i64 (-1))]) (L:= [str [100,111,101,114],.int .i64 0,.int .i64 1,.int .i64 (-1),.int .i64 (-1)]) uq aa<|aa)<|aR aa (Ll aa aa)<|p (bI aa)<|p aA<|nl<|M<|rt<|a6 aa<|⟨congrArg bL (decide_eq_true ⟨aa,aa,aa,aa,aa⟩),Y.trans ab⟩
end Go.Hb
end
section
namespace Go.Hb
open Go.Hb.lZ Go.Hb.qE
noncomputable def kB (F:aE) (xs:List bj) (n f s p:Int):Option Tx:=if 0≤n∧n < xs.length then jd F xs n.toNat f s p else none
theorem xZ {F:aE} {xs:List bj} {n f s p:Int} (h:¬(0≤n∧n < xs.length)):kB F xs n f s p=none:=if_neg h
theorem rD {F:aE} {xs:List bj} {k:Nat} {f s p:Int} (h:k < xs.length):kB F xs k f s p=jd F xs k f s p:=by unfold kB; rw [if_pos ab,ji]
def kD (F:aE) (xs:List bj) (k:Nat) (f:Int):Nat→List Nat
 | 0=>aQ F (flagsOf xs k) 2
 | 1=>aQ F (cy F f) 2
 | _=>aQ F (flagsOf xs k) 1
def mW (f s p:Int):Nat→Int
 | 0=>f
 | 1=>s
 | _=>p
noncomputable def j6 (F:aE) (xs:List bj) (k:Nat) (f s p:Int):Nat→Option Tx
 | 0=>some (xs.getD k ([],[])).1
 | i+1=>(j6 F xs k f s p i).bind<|e5 F (kD F xs k f i)<|mW f s p i
section
variable {F:aE} {xs:List bj} {k:Nat} {f s p:Int}
theorem Oe (h:f= -1∧s≠ -1):jd F xs k f s p=none:=if_pos h
theorem x3 (h:¬(f= -1∧s≠ -1)):jd F xs k f s p=(j6 F xs k f s p 3).bind fun u=>if dZ F xs k f s p=true then some u else none:=by
 unfold jd
 rw [if_neg h]
 show _=(((some (xs.getD k ([],[])).1).bind<|e5 F (aQ F (flagsOf xs k) 2) f).bind (e5 F (aQ F (cy F f) 2) s) |>.bind (e5 F (aQ F (flagsOf xs k) 1) p)).bind _
 rw [nq,Gp,Gp]
theorem Db {i:Nat} (h:j6 F xs k f s p i=none):∀ j,j6 F xs k f s p (i+j)=none
 | 0=>h
 | j+1=>by
   show (j6 F xs k f s p<|i+j).bind _=none
   rw [Db h j]; rfl
theorem yJ {L:List Nat} {n:Int} {u v:Tx} (a:∀ i∈L,i < F.rules.length) (c: -1≤n) (h:e5 F L n u=some v):Rn F n:=by
 unfold e5 at h
 unfold Rn
 by_cases h1:n= -1
 · exact .inl h1
 · rw [if_neg h1] at h
   by_cases h2:n.toNat∈L
   · have :=a _ h2; omega
   · rw [if_neg h2] at h; cases h
theorem QB {L:List Nat} {n:Nat} {u:Tx} (h:n∈L):e5 F L n u=c5 (F.rules.getD n dv) u:=by unfold e5; rw [if_neg ab,ji,if_pos h]
theorem QD {L:List Nat} {n:Nat} {u:Tx} (h:n∉L):e5 F L n u=none:=by unfold e5; rw [if_neg ab,ji,if_neg h]
theorem rE (i:Nat):∀ j∈kD F xs k f i,j < F.rules.length:=by
 intro j a
 unfold kD at a
 split at a <;> exact (pV.1 a).1
theorem Oc (i:Nat):(kD F xs k f i).length≤F.rules.length:=by
 unfold kD
 split <;> exact rH _ _ _
theorem Od {u:Tx} (a: -1≤f) (hs: -1≤s) (hp: -1≤p) (h:j6 F xs k f s p 3=some u):Rn F f∧Rn F s∧Rn F p:=by
 obtain ⟨i,h2,h3⟩:=zB.1 (show (j6 F xs k f s p 2).bind _=some u from h)
 obtain ⟨c,h1,h2⟩:=zB.1 (show (j6 F xs k f s p 1).bind _=some i from h2)
 obtain ⟨q,_,h1⟩:=zB.1 (show (j6 F xs k f s p 0).bind _=some c from h1)
 exact ⟨yJ (rE 0) a h1,yJ (rE 1) hs h2,yJ (rE 2) hp h3⟩
end
theorem QC {F:aE} {xs:List bj} (c:eW F xs) {L:List Nat} {n:Int} {u v:Tx} (q:∀ i∈L,i < F.rules.length) (h:e5 F L n u=some v):v.length≤u.length+32:=by
 unfold e5 at h
 by_cases h1:n= -1
 · rw [if_pos h1] at h; cases h; omega
 · rw [if_neg h1] at h
   by_cases h2:n.toNat∈L
   · rw [if_pos h2] at h
     obtain ⟨r,a⟩:∃ r,F.rules[n.toNat]? =some r:=⟨_,cx<|q _ h2⟩
     rw [cO,a] at h
     exact (vz (jR c a).2.2.2 h).2
   · rw [if_neg h2] at h; cases h
def DC (p:Value×Value):List Value:= [p.1,p.2]
theorem M0 (a:Option Addr) (c:Nat) (l:List Nat) (x:Nat) (w:World) (E:aC w.heap a (l.map gG)) (aq:l.length≤1048576):
 ba au 143 (aY [.slice a l.length c,aj x]) w (fun v w'=>(∃ k:Int,v= .int .i64 k∧(0≤k↔x∈l)∧ -1≤k∧k≤1048576)∧Wk w w'):=by
 refine enter func143 aa ntmps143 aa<|ak fun O=>ay<|O<|az fun U=>ak fun V=>ao (.slice a l.length c)<|p (bO uB aa aa)<|p mv<|nl<|V<|aB<|lp (fun C q M=> ∃ (i:Nat),(i≤l.length)∧(∀ j,j < i→l.getD j 0≠x)∧(M=w)∧(q 0= .slice a l.length c)∧(q 1=aj x)∧(q 7=aj (l.length))∧(q 8=aj i)∧(l.length - i=C)) _ ⟨0,ab,(fun j I=>by omega),aa,aa,aa,aa,aa,aa⟩ ?_
 rintro C q M ⟨i,hi,J,ah,al,am,an,ap,rfl⟩
 refine fx 0 al<|fx 1 am<|fx 7 an<|fx 8 ap ?_
 subst ah
 refine ak fun Y=>p (lt aa aa)<|nl<|Y<|az fun Z=>cd aa (fun ai=> ?_) fun ai=> ?_
 refine aM<|Z<|az fun A=>aB<|ak fun ac=>ao (aj i)<|p (bY (aj i) aa)<|nl<|ac<|ak fun ae=>ao (aj x)<|ao (.slice a l.length c)<|ao (aj i)<|p (aW q7 aa aa ab<|aC.ok (E)<|cK ab)<|p (ld bW aa<|aC.jo E (show (l.map gG)[i]? =some (aj<|l.getD i 0) by rw [fU,cO,cx (by omega :i < l.length)]; rfl)) ?_
 refine p (bS aa aa)<|nl<|ae<|cd aa (fun G=> ?_) fun G=> ?_
 exact ak fun ag=>ao (aj i)<|p (bY (aj i) aa)<|nl<|ag<|rt<|br<|tr<|tr<|br<|tr<|a6 aa<|⟨⟨(i:Nat),aa,⟨fun _=>by obtain rfl :x=l.getD i 0:=ab; exact eR ab,fun _=>by omega⟩,ab,ab⟩,Md.refl _ _⟩
 exact aM<|bn<|A<|rg aa<|p (ad aa aa<|bR ab)<|p mv<|nl<|tn<|⟨_,ab,i+1,ab,(fun j I=>by rcases gC j i with h | h <;> first | exact J j h | (rw [show j=i by omega]; exact fun h2=>G<|by rw [h2])),aa,aa,aa,aa,aa,aa⟩
 exact ext<|bc<|bc<|be<|U<|ak fun A=>p aA<|nl<|A<|rt<|a6 aa<|⟨⟨-1,aa,⟨fun h=>absurd h ab,fun h=>by obtain ⟨j,I,e⟩:=oG 0 h; exact absurd e<|J j ab⟩,ab,ab⟩,Md.refl _ _⟩
theorem JL (a:Option Addr) (c:Nat) (l:List Nat) (x:Nat) (w:World) (A:aC w.heap a (l.map gG)) (G:l.length≤1048576):
 ba au 92 (aY [.slice a l.length c,aj x]) w (fun v w'=>v= .bool (decide (x∈l))∧Wk w w'):=by
 refine enter func92 aa ntmps92 aa<|ak fun i=>ay<|i<|ak fun q=>ao (.slice a l.length c)<|ao (aj x)<|e<|cl HI (M0 a c l x w A G) aa fun M O C=> ?_
 obtain ⟨⟨I,rfl,E,J⟩,hE7⟩:=C
 exact p (ge aa aa)<|ay<|q<|rt<|a6 aa<|⟨by show bL (decide (I≥0))=_; exact congrArg bL (decide_eq_decide.2 E),hE7⟩
theorem QE (F:aE) (xs:List bj) (G:eW F xs) (ar:Option Addr) (cr:Nat) (rn:List Value) (a:Option Addr) (c:Nat) (L:List Nat) (n:Int) (u:Tx) (w:World) (J:aC w.heap ar (fy<|F.rules.zip rn)) (an:rn.length=F.rules.length) (ad:aC w.heap a (L.map gG)) (ai:∀ i∈L,i < F.rules.length) (ah:L.length≤1048576) (aq: -1≤n) (ao:u.length≤1048576):
 ba au 56 (aY [.slice ar F.rules.length cr,.slice a L.length c,.int .i64 n,str u]) w (fun v w'=>v=yj (e5 F L n u)∧Wk w w'):=by
 refine enter func56 aa ntmps56 aa<|ak fun U=>p aA<|ay<|U<|az fun V=>az fun Y=>rg aa<|p mv<|p (bS aa aa)<|nl<|Y<|cd aa (fun h1=> ?_) fun h1=> ?_
 obtain rfl :n= -1:=h1
 exact ak fun C=>p mv<|p aA<|ay<|C<|rt<|tr<|f2 aa aa aa<|⟨by rw [rX]; rfl,Md.refl _ _⟩
 obtain ⟨m,rfl⟩:∃ m:Nat,n=(m:Int):=⟨n.toNat,ab⟩
 refine aM<|V<|az fun C=>ak fun Z=>p mv<|p mv<|e<|cl IQ (JL a c L m w ad ah) aa fun av ap ae=> ?_
 obtain ⟨rfl,A⟩:=ae
 refine p (no aa)<|nl<|Z<|cb aa (fun I=> ?_) fun I=> ?_
 have aj:m∉L:=by simpa using I
 exact ak fun E=>p aA<|ay<|E<|rt<|tr<|f2 aa aa aa<|⟨by rw [QD aj]; rfl,A⟩
 have M:m∈L:=by simpa using I
 obtain ⟨r,q⟩:∃ r,F.rules[m]? =some r:=⟨_,cx<|ai m M⟩
 have am:=(eI.1 q).1
 have O:(F.rules.zip rn)[m]? =some (r,rn[m]'(by rw [an]; exact am)):=iJ.2 ⟨q,cx _⟩
 have al:F.rules.getD m dv=r:=by rw [cO,q]; rfl
 refine aM<|C<|ak fun E=>p mv<|p mv<|p (aW ks aa aa ab<|aC.ok (J.wk A)<|k6 O)<|p (cI ko aa (aa)<|gK (f:=dP) (m:=7) (fun _=>rfl) (J.wk A) O)<|p mv<|e<|cl s9 (sV r _ u ap (jR G q).1 (jR G q).2.1 (jR G q).2.2.1 ao) aa fun aw ax ag=> ?_
 obtain ⟨rfl,ac⟩:=ag
 exact p (xt aa aa)<|p (xt aa aa)<|p aA<|ay<|E<|rt<|f2 aa aa aa<|⟨by rw [QB M,al]; rfl,A.trans ac⟩
theorem NZ (B tb:Nat) (J:fK) (F:aE) (xs:List bj) (bk:Tx) (n f s a:Int) (w:World) (bN:eB w B tb J F xs) (E:eW F xs) (cP: -1≤f) (c5: -1≤s) (cY: -1≤a):
 ba au 21 (aY [aU tb,.agg [str bk,.int .i64 n,.int .i64 f,.int .i64 s,.int .i64 a].toArray]) w (fun v w'=>v=yj (kB F xs n f s a)∧Wk w w'):=by
 refine enter func21 aa ntmps21 aa<|ak fun b3=>e<|jq aa fun aP b0 a4 aZ cj=> ?_
 have dr:=aZ.size
 have cJ:=bN.wk aZ.md
 have a4:bA b0.heap aP [str bk,.int .i64 n,.int .i64 f,.int .i64 s,.int .i64 a]:=cj
 refine p aA<|ay<|b3<|ak fun b6=>p mv<|p (fa tH aa)<|p (ld bW aa<|a4.bu 1)<|e<|cl pz (q4 B tb J F xs n b0 cJ E) aa fun du df cz=> ?_
 obtain ⟨⟨dh,rfl,cW⟩,hE16⟩:=cz
 obtain ⟨cc,cg,rfl⟩:=cR cW
 have dq:=hE16.size
 refine p mv<|p (xt aa aa)<|p (xt aa aa)<|e<|al m8 fun bp dB bR bL ck=> ?_
 have dt:=bL.size
 refine e<|cw iu aa aa aa aa (ck) (by simp) fun bm bF ci=> ?_
 have cs:Wk df bm:=bL.md.trans' bF fun q cZ h=>by omega
 have dn:=bF.size
 have bR:bA bm.heap bp [str (gI xs n),.slice cc (flagsOf xs n).length cg]:=ci
 have bz:=hE16.trans cs
 have ad:=aZ.md.trans bz
 have aG:=bN.wk ad
 have a5:=Wk.B bz a4
 refine ay<|b6 ?_
 refine ep (fun aL bl=>(bl=bm)∧(0≤n∧n < xs.length)∧(¬(f= -1∧s≠ -1))∧(aL 0=aU tb)∧(aL 3=aU aP)∧(aL 6=aU bp)) ?_ ?_
 refine ak fun an=>p mv<|p (no aa)<|p mv<|gb (t:=21) aa (fun aq=> ?_) fun aq=> ?_
 have cX:¬(0≤n∧n < xs.length):=fun h=>by rw [decide_eq_true h] at aq; cases aq
 exact aJ aa<|aJ aa<|aJ aa<|aJ aa<|eT aa<|eT aa<|eT aa<|aJ aa<|p (bI aa)<|nl<|an<|ct aa<|ak fun ap=>p aA<|p aA<|nl<|ap<|rt<|tr<|f2 aa aa aa<|⟨by rw [xZ cX]; rfl,ad⟩
 have bb:0≤n∧n < xs.length:=uO fun h=>by rw [decide_eq_false h] at aq; cases aq
 refine aR aa (fa mQ aa)<|aR aa (ld bW aa<|a5.bu 2)<|aR aa (bS aa aa)<|aR aa mv<|gs (t:=25) aa (fun a7=> ?_) fun a7=> ?_
 refine aR aa (fa mR aa)<|aR aa (ld bW aa<|a5.bu 3)<|aR aa (gO aa aa)<|aR aa (bI aa)<|p (bD aa)<|nl<|an<|cd aa (fun bg=> ?_) fun bg=> ?_
 refine ak fun ap=>p aA<|ay<|ap<|rt<|tr<|f2 aa aa aa ?_
 obtain ⟨k,rfl⟩:∃ m:Nat,n=(m:Int):=⟨n.toNat,ab⟩
 exact ⟨by rw [rD ab,Oe ⟨a7,bg⟩]; rfl,ad⟩
 exact aM<|tn<|⟨aa,bb,(fun h=>bg h.2),aa,aa,aa⟩
 exact aJ aa<|aJ aa<|aJ aa<|aR aa (bD aa)<|p (bD aa)<|nl<|an<|cf aa<|aM<|tn<|⟨aa,bb,(fun h=>a7 h.1),aa,aa,aa⟩
 rintro aL bl ⟨dd,bb,a8,c2,c3,c4⟩
 refine fx 0 c2<|fx 3 c3<|fx 6 c4 ?_
 subst dd
 refine ak fun an=>ao (aU tb)<|p (nc aa)<|p (fa rm aa)<|p (ld ed aa<|(aX aG.cells).trans aa)<|e<|cl qR (qG B J.fb J.mc F J.V bl aG.fl (by have :=E.len; omega) E.nx) aa fun dv I cA=> ?_
 obtain ⟨⟨⟨v9,v10,v11,v12,sa,rn⟩,rfl,hax⟩,hE35⟩:=cA
 obtain ⟨ar,cr,bi⟩:=cR hax.dN
 have bi:v12=_:=bi
 subst bi
 have ds:=hE35.size
 have bX:rn.length=F.rules.length:=by have :=hax.nx.1; rwa [eJ] at this
 have bx:aC I.heap ar (fy<|F.rules.zip rn):=(aT hax.dN).2
 have Y:=Wk.B hE35 a5
 have cM:=Wk.B hE35 bR
 have bP:=(aG.wk hE35).wk (Md.refl _ _).drew
 refine p (wY xa aa aa)<|ay<|an<|ak fun ap=>p (fa tK aa)<|p (ld cG aa<|cM.bu 0)<|ay<|ap<|az fun b7=>az fun b8=> ?_
 have c:(fun w'=>Wk I w') I.drew:=(Md.refl _ _).drew
 refine bK (fun w'=>Wk I w') aa wide c<|bH 0 aa (aU tb) c<|aI 1 aa (fun _ _=>fa tH aa) c<|aI 2 aa (fun w' G=>ld bW aa<|Wk.aH G<|Y.bu 1) c<|aI 4 aa (fun _ _=>fa mQ aa) c<|aI 5 aa (fun w' G=>ld bW aa<|Wk.aH G<|Y.bu 2) c<|bH 7 aa (aU tb) c<|aI 8 aa (fun _ _=>fa mQ aa) c<|aI 9 aa (fun w' G=>ld bW aa<|Wk.aH G<|Y.bu 2) c<|aI 11 aa (fun _ _=>fa mR aa) c<|aI 12 aa (fun w' G=>ld bW aa<|Wk.aH G<|Y.bu 3) c<|bH 14 aa (aU tb) c<|aI 15 aa (fun _ _=>fa tH aa) c<|aI 16 aa (fun w' G=>ld bW aa<|Wk.aH G<|Y.bu 1) c<|aI 18 aa (fun _ _=>fa oA aa) c<|aI 19 aa (fun w' G=>ld bW aa<|Wk.aH G<|Y.bu 4) c<|aI 23 aa (fun _ _=>mv) c<|he 3 aa ag<|cl AI (Ef B tb J F xs n I.drew bP E) aa fun dw b1 cB=> ?_
 obtain ⟨bT,aS⟩:=cB
 obtain ⟨Z,ae,rfl⟩:=cR bT
 have bQ:=bP.wk aS
 have a2:(fun w'=>Wk I w') b1:=c.trans aS
 refine ⟨a2,?_⟩
 refine aI 6 aa (fun _ _=>cE (ps:= [(0,.slice Z (aQ F (flagsOf xs n) 2).length ae),(1,.int .i64 f)]) (L:= [.slice Z (aQ F (flagsOf xs n) 2).length ae,.int .i64 f]) yG aa<|aa) a2<|he 10 aa ag<|cl AJ (DW B tb J F xs f b1 bQ E) aa fun v49 b2 cC=> ?_
 obtain ⟨bU,aV⟩:=cC
 obtain ⟨a49,ah,rfl⟩:=cR bU
 have cK:=bQ.wk aV
 have a0:(fun w'=>Wk I w') b2:=a2.trans aV
 refine ⟨a0,?_⟩
 refine aI 13 aa (fun _ _=>cE (ps:= [(0,.slice a49 (aQ F (cy F f) 2).length ah),(1,.int .i64 s)]) (L:= [.slice a49 (aQ F (cy F f) 2).length ah,.int .i64 s]) yG aa<|aa) a0<|he 17 aa ag<|cl AK (DE B tb J F xs n b2 cK E) aa fun dx dg cD=> ?_
 obtain ⟨bV,aW⟩:=cD
 obtain ⟨ac,ai,rfl⟩:=cR bV
 have a1:(fun w'=>Wk I w') dg:=a0.trans aW
 refine ⟨a1,?_⟩
 refine aI 20 aa (fun _ _=>cE (ps:= [(0,.slice ac (aQ F (flagsOf xs n) 1).length ai),(1,.int .i64 a)]) (L:= [.slice ac (aQ F (flagsOf xs n) 1).length ai,.int .i64 a]) yG aa<|aa) a1<|he 21 aa ag<|Hu [[.slice Z (aQ F (flagsOf xs n) 2).length ae,.int .i64 f],[.slice a49 (aQ F (cy F f) 2).length ah,.int .i64 s],[.slice ac (aQ F (flagsOf xs n) 1).length ai,.int .i64 a]] Qe aa aa aa aa fun bq ax di aF cm=> ?_
 obtain ⟨k,rfl⟩:∃ m:Nat,n=(m:Int):=⟨n.toNat,ab⟩
 obtain ⟨A,bt,bv,bw⟩:∃ A:Nat→Option Addr,A 0=Z∧A 1=a49∧A 2=ac:=⟨fun i=>match i with | 0=>Z | 1=>a49 | _=>ac,rfl,rfl,rfl⟩
 obtain ⟨C,co,cp,cq⟩:∃ C:Nat→Nat,C 0=ae∧C 1=ah∧C 2=ai:=⟨fun i=>match i with | 0=>ae | 1=>ah | _=>ai,rfl,rfl,rfl⟩
 have bE:=aV.trans<|aW.trans aF.md
 have O:Wk I ax:=((Md.refl (fun _=>False) I).drew.trans aS).trans bE
 have cT:∀ i,i < 3→([(.slice Z (aQ F (flagsOf xs k) 2).length ae,.int .i64 f),(.slice a49 (aQ F (cy F f) 2).length ah,.int .i64 s),(.slice ac (aQ F (flagsOf xs k) 1).length ai,.int .i64 a)]:List (Value×Value))[i]? =some (.slice (A i) (kD F xs k f i).length (C i),.int .i64 (mW f s a i)):=by
  intro i hi
  rcases (show i=0∨i=1∨i=2 by omega) with rfl | rfl | rfl
  rw [bt,co]; rfl
  rw [bv,cp]; rfl
  rw [bw,cq]; rfl
 have cN:∀ i,i < 3→aC ax.heap (A i) ((kD F xs k f i).map gG):=by
  intro i hi
  rcases (show i=0∨i=1∨i=2 by omega) with rfl | rfl | rfl
  rw [bt]; exact (aT bT).2.wk bE
  rw [bv]; exact (aT bU).2.wk<|aW.trans aF.md
  rw [bw]; exact (aT bV).2.wk aF.md
 have c0:∀ i,i < 3→∀ {W:World},Wk ax W→∀ j,j < 2→Hb.aH W.heap bq (0 +i*2 +j)=(DC (.slice (A i) (kD F xs k f i).length (C i),.int .i64 (mW f s a i)))[j]? :=fun i hi W cL=>gK (f:=DC) (m:=2) (fun _=>rfl) ((aC.fO ⟨_,cm⟩).wk cL)<|cT i hi
 have de:gI xs (k:Int)=(xs.getD k ([],[])).1:=by
  obtain ⟨x,aw⟩:∃ x,xs[k]? =some x:=⟨_,cx ab⟩
  rw [(pk aw).1,cO,aw]; rfl
 have dm:(gI xs (k:Int)).length≤1000:=by
  obtain ⟨x,aw⟩:∃ x,xs[k]? =some x:=⟨_,cx ab⟩
  rw [(pk aw).1]; have :=(E.tu x<|iL aw).1; omega
 have bM:(fun w'=>Wk I w') ax:=a1.trans aF.md
 refine ⟨bM,?_⟩
 refine aI 22 aa (fun _ _=>bO Q7 aa aa) bM<|hn ag<|b8<|aB<|lp (fun bs M aK=> ∃ (i:Nat) (u:Tx),(i≤3)∧(j6 F xs k f s a i=some u)∧(u.length≤1000 +i*32)∧(Wk ax aK)∧(M 0=aU tb)∧(M 3=aU aP)∧(M 8= .slice ar F.rules.length cr)∧(M 9=str u)∧(M 60= .slice (some ⟨bq,0,none⟩) 3 3)∧(M 61= .int .i64 3)∧(M 62=aj i)∧(3 - i=bs)) _ ⟨0,gI xs (k:Int),ab,(by rw [de]; rfl),ab,(Md.refl _ _),aa,aa,aa,(by first | rfl | exact congrArg str bZ),aa,aa,aa,aa⟩ ?_
 rintro bs M aK ⟨i,u,hi,av,dk,U,c6,c7,db,dc,c8,c9,da,rfl⟩
 refine fx 0 c6<|fx 3 c7<|fx 8 db<|fx 9 dc<|fx 60 c8<|fx 61 c9<|fx 62 da<|ak fun b9=>p (lt aa aa)<|nl<|b9<|az fun ca=>cd aa (fun cQ=> ?_) fun cQ=> ?_
 refine aM<|ca<|az fun aO=>aB<|az fun aN=> ?_
 have cS:i < 3:=ab
 refine rg aa<|p (ia Lr aa aa ab)<|p (cI GO aa (aa)<|c0 i ab U)<|e<|al RS fun ce dA a3 bJ ch=> ?_
 have dp:=bJ.size
 refine e<|cw Kh aa aa aa aa (ch) (by simp) fun bo cv cn=> ?_
 have cu:Wk aK bo:=bJ.md.trans' cv fun q cZ h=>by omega
 have a3:bA bo.heap ce [.slice (A i) (kD F xs k f i).length (C i),.int .i64 (mW f s a i)]:=cn
 have aD:=U.trans cu
 refine nl<|aN<|ak fun am=>ao (.slice ar F.rules.length cr)<|p (fa L8 aa)<|p (ld sT aa<|a3.bu 0)<|p (fa L9 aa)<|p (ld bW aa<|a3.bu 1)<|ao (str u)<|e<|cl IF (QE F xs E ar cr rn (A i) (C i) (kD F xs k f i) (mW f s a i) u bo (bx.wk<|O.trans aD) bX ((cN i cS).wk aD) (rE i) (by have :=Oc (F:=F) (xs:=xs) (k:=k) (f:=f) i; have :=E.len; omega) (by unfold mW; split <;> assumption) ab) aa fun dy dC cF=> ?_
 obtain ⟨rfl,bB⟩:=cF
 refine p mv<|p (xt aa aa)<|p (xt aa aa)<|p aA<|ay<|am<|az fun b4=>rg aa<|p mv<|p (no aa)<|nl<|b4<|cb aa (fun a6=> ?_) fun a6=> ?_
 have cV:e5 F (kD F xs k f i) (mW f s a i) u=none:=by simpa using a6
 refine ak fun b5=>p aA<|ay<|b5<|rt<|br<|tr<|tr<|br<|tr<|f2 aa aa aa ?_
 have cU:j6 F xs k f s a 3=none:=by rw [show 3=(i+1)+(2 - i) by omega]; exact Db (by show (j6 F xs k f s a i).bind _=none; rw [av]; exact cV) _
 exact ⟨by rw [rD ab,x3 a8,cU]; rfl,ad.trans<|hE35.trans<|O.trans<|aD.trans bB⟩
 obtain ⟨v,bh⟩:∃ v,e5 F (kD F xs k f i) (mW f s a i) u=some v:=nr.1<|by simpa using a6
 have dl:=QC E (rE i) bh
 have c1:j6 F xs k f s a (i+1)=some v:=by show (j6 F xs k f s a i).bind _=_; rw [av]; exact bh
 have bZ:(e5 F (kD F xs k f i) (mW f s a i) u).getD []=v:=by rw [bh]; rfl
 exact aM<|bn<|aO<|rg aa<|p (bG ((i+1:Nat):Int) aa aa<|bd ab ab)<|p mv<|nl<|tn<|⟨_,ab,i+1,v,ab,c1,ab,(aD.trans bB),aa,aa,aa,(by first | rfl | exact congrArg str bZ),aa,aa,aa,aa⟩
 refine ext<|bc<|bc<|be<|b7<|az fun aO=>az fun aN=> ?_
 obtain rfl :i=3:=ab
 have bf:=Od cP c5 cY av
 refine rg aa<|ao (aU tb)<|ao (.slice ar F.rules.length cr)<|p (cI ny aa (aa) fun j dj=>(Wk.B (O.trans U) Y).bu j)<|e<|cl vW (xF B tb J F xs ar cr rn bk k f s a aK (aG.wk<|hE35.trans<|O.trans U) E (bx.wk<|O.trans U) bX bf.1 bf.2.1 bf.2.2) aa fun dz dD cH=> ?_
 obtain ⟨rfl,bC⟩:=cH
 refine p (no aa)<|nl<|aN<|cb aa (fun a9=> ?_) fun a9=> ?_
 exact ak fun am=>p aA<|ay<|am<|rt<|tr<|f2 aa aa aa<|⟨by rw [rD ab,x3 a8,av,nq,if_neg (by simpa using a9)]; rfl,ad.trans<|hE35.trans<|O.trans<|U.trans bC⟩
 exact aM<|aO<|ak fun am=>ao (str u)<|p (bY (str u) aa)<|p aA<|nl<|am<|rt<|f2 aa aa aa<|⟨by rw [rD ab,x3 a8,av,nq,if_pos (by simpa using a9)]; rfl,ad.trans<|hE35.trans<|O.trans<|U.trans bC⟩
end Go.Hb
end
section
namespace Go.Hb
open Go.Hb.lZ Go.Hb.qE
section
variable {N:Fm} {σ:Nat→Value} {w:World} {dst:Option Nat} {ty:TypeId} {pos :String} {af:Array Edge} {g:Option (Nat×Bool)} {x y:Operand}
theorem Ol (E s1:Tx) (a0 i A d0 c q C d1:Int) (w:World):(binOp .neq 41 (.agg [str E,.int .i64 a0,.int .i64 i,.int .i64 A,.int .i64 d0].toArray)<|.agg [str s1,.int .i64 c,.int .i64 q,.int .i64 C,.int .i64 d1].toArray).run au w= .ok (.bool<|!decide (E=s1∧a0=c∧i=q∧A=C∧d0=d1)) w:=by
 have h:=Bu E s1 a0 i A d0 c q C d1 w
 rw [run_eql_struct] at h
 rw [run_neq_struct]
 generalize (Op.equalIn 10000 41 (.agg [str E,.int .i64 a0,.int .i64 i,.int .i64 A,.int .i64 d0].toArray)<|.agg [str s1,.int .i64 c,.int .i64 q,.int .i64 C,.int .i64 d1].toArray).run au w=X at h
 cases X with
 | ok b w'=>
   have h:Result.ok (bL b) w'= .ok (.bool<|decide (E=s1∧a0=c∧i=q∧A=C∧d0=d1)) w:=h
   injection h with h1 h2
   injection h1 with h1
   subst h1 h2
   rfl
 | halt a b=>cases h
theorem Oj {J:TypeId} {C s1:Tx} {a0 c q d0 a i A d1:Int} (G:ev N σ x= .agg [str C,.int .i64 a0,.int .i64 c,.int .i64 q,.int .i64 d0].toArray) (I:ev N σ y= .agg [str s1,.int .i64 a,.int .i64 i,.int .i64 A,.int .i64 d1].toArray):
 (execOp (ev N σ) ⟨dst,.binOp .neq 41 x y J,ty,pos,af,g⟩).run au w= .ok (.value<|.bool<|!decide (C=s1∧a0=a∧c=i∧q=A∧d0=d1)) w:=by
 have hm:au.eqGuardType au.depth 41=false :=ag
 have E:=run_eqGuard_agg w .neq 41 x y [str C,.int .i64 a0,.int .i64 c,.int .i64 q,.int .i64 d0].toArray [str s1,.int .i64 a,.int .i64 i,.int .i64 A,.int .i64 d1].toArray hm
 have he:=Ol C s1 a0 c q d0 a i A d1 w
 simp only [execOp,G,I,ng,E,he,nd,n2]
end
theorem yv (R:Nat):(fQ R).length=R+1:=by unfold fQ; simp
theorem PK {R i:Nat} (h:i < R+1):(fQ R)[i]? =some ((i:Int) - 1):=by
 unfold fQ
 cases i with
 | zero=>rfl
 | succ i=>rw [List.getElem?_cons_succ,fU,List.getElem?_range ab]; exact congrArg some<|by show ((i:Nat):Int)=((i+1:Nat):Int) - 1; omega
theorem ra {β:Type} {R i:Nat} (g:Int→List β) (h:i < R+1):((fQ R).take<|i+1).flatMap g=((fQ R).take i).flatMap g++g ((i:Int) - 1):=by
 rw [List.take_add_one,PK h,Gr,nj,oX]
theorem xi {β:Type} {R i:Nat} (g:Int→List β) (h:i < R+1):∃ r,((fQ R).take<|R+1).flatMap g=((fQ R).take i).flatMap g++(g ((i:Int) - 1)++r):=by
 refine ⟨((fQ R).drop<|i+1).flatMap g,?_⟩
 rw [← dx,← ra g h,← nj,vl,eL (by rw [yv]; omega)]
theorem tC {α β:Type} {g:α→List β} {m:Nat} (h:∀ x,(g x).length≤m):∀ l:List α,(l.flatMap g).length≤l.length*m
 | []=>o3 _
 | x::l=>by
   have :=tC h l; have :=h x
   rw [iH,bF,List.length_cons,Nat.succ_mul]; omega
theorem B2 {α β:Type} (g:α→Option β):∀ l:List α,l.filterMap g=l.flatMap fun x=>(g x).toList
 | []=>rfl
 | x::l=>by
   rw [List.filterMap_cons,iH,← B2 g l]
   cases g x <;> rfl
section
variable (F:aE) (xs:List bj) (n:Int)
noncomputable def l7 (f s p:Int):Option cV:=(kB F xs n f s p).map fun u=>(⟨u,n.toNat,f,s,p⟩:cV)
noncomputable def gy (f s:Int) (k:Nat):List cV:=((fQ F.rules.length).take k).flatMap fun p=>(l7 F xs n f s p).toList
noncomputable def fC (f:Int) (j:Nat):List cV:=((fQ F.rules.length).take j).flatMap fun s=>gy F xs n f s<|F.rules.length+1
noncomputable def fT (i:Nat):List cV:=((fQ F.rules.length).take i).flatMap fun f=>fC F xs n f<|F.rules.length+1
variable {F xs n}
theorem wv:fL F xs n=fT F xs n (F.rules.length+1):=by
 have a:(fQ F.rules.length).take (F.rules.length+1)=fQ F.rules.length:=eL<|by rw [yv]; omega
 unfold fT
 rw [a]
 by_cases hn:0≤n∧n < xs.length
 · obtain ⟨k,rfl⟩:∃ k:Nat,n=(k:Int):=⟨n.toNat,ab⟩
   rw [qW ab,KC]
   congr 1
   funext f
   unfold fC tv
   rw [a]
   congr 1
   funext s
   unfold gy q5 l7
   rw [a,B2]
   congr 1
   funext p
   rw [rD ab,ji]
 · rw [Bk hn]
   refine (pL fun f _=>pL fun s _=>pL fun p _=> ?_).symm
   unfold l7
   rw [xZ hn]; rfl
theorem Ru {i:Nat} (h:i < F.rules.length+1):fT F xs n (i+1)=fT F xs n i++fC F xs n ((i:Int) - 1) (F.rules.length+1):=ra _ h
theorem Ry {f:Int} {j:Nat} (h:j < F.rules.length+1):fC F xs n f (j+1)=fC F xs n f j++gy F xs n f ((j:Int) - 1) (F.rules.length+1):=ra _ h
theorem Rv {f s:Int} {k:Nat} (h:k < F.rules.length+1) (hm:kB F xs n f s ((k:Int) - 1)=none):gy F xs n f s (k+1)=gy F xs n f s k:=by
 refine (ra _ h).trans ?_
 unfold l7
 rw [hm]; exact dS _
theorem Rx {f s:Int} {k:Nat} {u:Tx} (h:k < F.rules.length+1) (hm:kB F xs n f s ((k:Int) - 1)=some u):gy F xs n f s (k+1)=gy F xs n f s k++ [⟨u,n.toNat,f,s,(k:Int) - 1⟩]:=by
 refine (ra _ h).trans ?_
 unfold l7
 rw [hm]; rfl
theorem Rz {i j k:Nat} {u:Tx} (hi:i < F.rules.length+1) (a:j < F.rules.length+1) (hk:k < F.rules.length+1) (hm:kB F xs n ((i:Int) - 1) ((j:Int) - 1) ((k:Int) - 1)=some u):
 ∃ r,fL F xs n=(fT F xs n i++(fC F xs n ((i:Int) - 1) j++gy F xs n ((i:Int) - 1) ((j:Int) - 1) k))++⟨u,n.toNat,(i:Int) - 1,(j:Int) - 1,(k:Int) - 1⟩::r:=by
 obtain ⟨c,h1⟩:=xi (fun f=>fC F xs n f<|F.rules.length+1) hi
 obtain ⟨q,h2⟩:=xi (fun s=>gy F xs n ((i:Int) - 1) s<|F.rules.length+1) a
 obtain ⟨A,h3⟩:=xi (fun p=>(l7 F xs n ((i:Int) - 1) ((j:Int) - 1) p).toList) hk
 have e:l7 F xs n ((i:Int) - 1) ((j:Int) - 1) ((k:Int) - 1)=some ⟨u,n.toNat,(i:Int) - 1,(j:Int) - 1,(k:Int) - 1⟩:=by unfold l7; rw [hm]; rfl
 rw [e] at h3
 refine ⟨A++(q++c),?_⟩
 rw [wv]
 refine h1.trans ?_
 rw [show fC F xs n ((i:Int) - 1) (F.rules.length+1)=_ from h2,show gy F xs n ((i:Int) - 1) ((j:Int) - 1) (F.rules.length+1)=_ from h3]
 simp only [Gr,dx,ss,kN]
 rfl
theorem KB (h:F.rules.length≤8):(fL F xs n).length≤729:=by
 have a:∀ i,((fQ F.rules.length).take i).length≤9:=fun i=>by rw [List.length_take,yv]; omega
 have c:∀ f s,(gy F xs n f s<|F.rules.length+1).length≤9:=fun f s=>by
  have :=tC (g:=fun p=>(l7 F xs n f s p).toList) (m:=1) (fun x=>by cases l7 F xs n f s x <;> simp)<|(fQ F.rules.length).take<|F.rules.length+1
  have :=a<|F.rules.length+1
  unfold gy; omega
 have q:∀ f,(fC F xs n f<|F.rules.length+1).length≤81:=fun f=>by
  have :=tC (g:=fun s=>gy F xs n f s<|F.rules.length+1) (m:=9) (fun x=>c f x)<|(fQ F.rules.length).take<|F.rules.length+1
  have :=a<|F.rules.length+1
  unfold fC; omega
 have :=tC (g:=fun f=>fC F xs n f<|F.rules.length+1) (m:=81) (fun x=>q x)<|(fQ F.rules.length).take<|F.rules.length+1
 have :=a<|F.rules.length+1
 rw [wv]; unfold fT; omega
end
theorem RB (a t:Tx) (n:Int) (w:World) (bA:a.length≤1048576) (ce:t.length≤1048576) (F:aE) (xs:List bj) (ch:k8 a t=some (F,xs)):
 ba au 6 (aY [str a,str t,.int .i64 n]) w (fun v w'=>v= .bool true∧Wk w w'):=by
 refine enter func6 aa ntmps6 aa<|ak fun aP=>ay<|aP<|az fun a3=>ak fun bh=>e<|cl jY (EN w) aa fun cL ci bt=> ?_
 obtain ⟨rfl,av⟩:=bt
 have cA:=av.size
 refine p (no aa)<|nl<|bh<|cf (aa)<|aM<|a3<|ak fun bi=>p mv<|p mv<|e<|cl vJ (yL a t ci bA ce) aa fun cM aK bu=> ?_
 obtain ⟨⟨pp,cG,cH,cJ,rfl,aJ⟩,hE22⟩:=bu
 rw [ch] at aJ
 have cB:=hE22.size
 obtain ⟨B,tb,G,cp,rfl,ah,M⟩:=aJ
 have ah:eB aK B tb G F xs:=ah
 have M:eW F xs:=M
 refine p mv<|p (xt aa aa)<|p (xt aa aa)<|e<|al mu fun ck cQ cs aH bq=> ?_
 have cF:=aH.size
 refine p aA<|e<|cw gS aa aa aa aa (bq) (by simp) fun aO bs co=> ?_
 have ag:Wk aK aO:=aH.md.trans' bs fun q cz h=>by omega
 have cC:=ag.size
 have ax:=(av.trans hE22).trans ag
 have Y:=ah.wk ag
 refine nl<|bi<|az fun bk=>ak fun bl=>p mv<|p (kY rZ aa aa)<|nl<|bl<|cf (aa)<|aM<|bk<|ak fun bm=>p mv<|p (nc aa) ?_
 refine p (fa rm aa)<|p (ld ed aa<|(aX Y.cells).trans aa)<|e<|cl qR (qG B G.fb G.mc F G.V aO Y.fl (by have :=M.len; omega) M.nx) aa fun v31 cj bv=> ?_
 obtain ⟨⟨⟨v9,v10,v11,v12,sa,rn⟩,rfl,hax⟩,hE31⟩:=bv
 obtain ⟨ar,cr,am⟩:=cR hax.dN
 have am:v12=_:=am
 subst am
 have cD:=hE31.size
 refine p (wY xa aa aa)<|p (bO qa aa aa)<|ay<|bm<|az fun bo=>ak fun bp=>p mv<|p (gt aa aa)<|nl<|bp<|cd aa (fun bB=> ?_) fun bB=> ?_
 exact ak fun ac=>ay<|ac<|rt<|tr<|a6 aa<|⟨aa,ax.trans hE31⟩
 refine aM<|bo<|ak fun ac=>p mv<|p mv<|e<|cl Ah (CY B tb G F xs n 1600 cj (Y.wk hE31) M ab) aa fun cN an bw=> ?_
 obtain ⟨Z,aw⟩:=bw
 have cv:=KB (F:=F) (xs:=xs) (n:=n) ab
 rw [El ab] at Z
 obtain ⟨I,J,rfl⟩:=cR Z
 have br:=(ax.trans hE31).trans aw
 have bz:=(Y.wk hE31).wk aw
 refine ay<|ac<|ak fun aQ=>ay<|aQ<|az fun aS=>ak fun aT=>ay<|aT<|aB<|lp (fun A E aL=> ∃ (i:Nat),(i≤F.rules.length+1)∧(Wk an aL)∧(E 2= .int .i64 n)∧(E 7=aU tb)∧(E 9=aj (F.rules.length))∧(E 10= .slice I (fL F xs n).length J)∧(E 11=aj ((fT F xs n i).length))∧(E 12= .int .i64 ((i:Int) - 1))∧(F.rules.length+1 - i=A)) _ ⟨0,ab,(Md.refl _ _),aa,aa,aa,aa,(by first | rfl | exact iv ab),(by first | rfl | exact iv ab),aa⟩ ?_
 rintro A E aL ⟨i,hi,aD,bT,bU,bV,bN,bP,bQ,rfl⟩
 refine fx 2 bT<|fx 7 bU<|fx 9 bV<|fx 10 bN<|fx 11 bP<|fx 12 bQ<|az fun aV=>ak fun aZ=>ao (.int .i64<|(i:Int) - 1)<|ao (aj<|F.rules.length)<|p (lt aa aa)<|nl<|aZ<|cd aa (fun bE=> ?_) fun bE=> ?_
 refine aM<|aV<|az fun ae=>aB<|ak fun a0=>p aA<|nl<|a0<|aB ?_
 have cm:(fT F xs n i++fC F xs n ((i:Int) - 1) 0).length=(fT F xs n i).length:=by unfold fC; simp
 refine lp (fun A C aN=> ∃ (j:Nat),(j≤F.rules.length+1)∧(Wk an aN)∧(C 2= .int .i64 n)∧(C 7=aU tb)∧(C 9=aj (F.rules.length))∧(C 10= .slice I (fL F xs n).length J)∧(C 11= .int .i64 ((fT F xs n i++fC F xs n ((i:Int) - 1) j).length:Nat))∧(C 12= .int .i64 ((i:Int) - 1))∧(C 13= .int .i64 ((j:Int) - 1))∧(F.rules.length+1 - j=A)) _ ⟨0,ab,aD,aa,aa,aa,aa,(by first | rfl | exact iv ab),aa,(by first | rfl | exact iv ab),aa⟩ ?_
 rintro A C aN ⟨j,cu,aF,b1,b2,b3,bW,bY,bZ,b0,rfl⟩
 refine fx 2 b1<|fx 7 b2<|fx 9 b3<|fx 10 bW<|fx 11 bY<|fx 12 bZ<|fx 13 b0<|az fun a1=>ak fun a2=>ao (.int .i64<|(j:Int) - 1)<|ao (aj<|F.rules.length)<|p (lt aa aa)<|nl<|a2<|cd aa (fun bG=> ?_) fun bG=> ?_
 refine aM<|a1<|az fun a4=>aB<|ak fun a5=>p aA<|nl<|a5<|aB ?_
 have cn:(fT F xs n i++(fC F xs n ((i:Int) - 1) j++gy F xs n ((i:Int) - 1) ((j:Int) - 1) 0)).length=(fT F xs n i++fC F xs n ((i:Int) - 1) j).length:=by unfold gy; simp
 refine lp (fun A c ap=> ∃ (k:Nat),(k≤F.rules.length+1)∧(Wk an ap)∧(c 2= .int .i64 n)∧(c 7=aU tb)∧(c 9=aj (F.rules.length))∧(c 10= .slice I (fL F xs n).length J)∧(c 11= .int .i64 ((fT F xs n i++(fC F xs n ((i:Int) - 1) j++gy F xs n ((i:Int) - 1) ((j:Int) - 1) k)).length:Nat))∧(c 12= .int .i64 ((i:Int) - 1))∧(c 13= .int .i64 ((j:Int) - 1))∧(c 14= .int .i64 ((k:Int) - 1))∧(F.rules.length+1 - k=A)) _ ⟨0,ab,aF,aa,aa,aa,aa,(by first | rfl | exact iv ab),aa,aa,(by first | rfl | exact iv ab),aa⟩ ?_
 rintro A c ap ⟨k,hk,O,b9,ca,cc,b4,b5,b6,b7,b8,rfl⟩
 refine fx 2 b9<|fx 7 ca<|fx 9 cc<|fx 10 b4<|fx 11 b5<|fx 12 b6<|fx 13 b7<|fx 14 b8<|az fun a7=>ak fun a8=>ao (.int .i64<|(k:Int) - 1)<|ao (aj<|F.rules.length)<|p (lt aa aa)<|nl<|a8<|cd aa (fun bH=> ?_) fun bH=> ?_
 refine aM<|a7<|az fun aq=>aB<|ak fun a9=>ao (aU tb)<|ao (.int .i64 n)<|ao (.int .i64<|(i:Int) - 1)<|ao (.int .i64<|(j:Int) - 1)<|ao (.int .i64<|(k:Int) - 1)<|p (cE (ps:= [(1,.int .i64 n),(2,.int .i64 ((i:Int) - 1)),(3,.int .i64 ((j:Int) - 1)),(4,.int .i64 ((k:Int) - 1))]) (L:= [.string ⟨⟨[]⟩⟩,.int .i64 n,.int .i64 ((i:Int) - 1),.int .i64 ((j:Int) - 1),.int .i64 ((k:Int) - 1)]) uq aa<|aa)<|e<|cl HW (NZ B tb G F xs [] n ((i:Int) - 1) ((j:Int) - 1) ((k:Int) - 1) ap (bz.wk O) M ab ab ab) aa fun cO cP bx=> ?_
 obtain ⟨rfl,U⟩:=bx
 refine p mv<|p (xt aa aa)<|p (xt aa aa)<|p aA<|ay<|a9<|az fun bb=>ak fun bd=>p mv<|p (no aa)<|nl<|bd<|cb aa (fun ai=> ?_) fun ai=> ?_
 have bJ:kB F xs n ((i:Int) - 1) ((j:Int) - 1) ((k:Int) - 1)=none:=by simpa using ai
 have bK:=congrArg (fun z=>(fT F xs n i++(fC F xs n ((i:Int) - 1) j++z)).length)<|Rv ab bJ
 exact ext<|bc<|be<|aq<|rg aa<|ao (.int .i64<|(k:Int) - 1)<|p (ad aa aa<|bR ab)<|p aA<|nl<|tn<|⟨_,ab,k+1,ab,(O.trans U),aa,aa,aa,aa,(by first | rfl | exact iv ab),aa,aa,(by first | rfl | exact iv ab),aa⟩
 obtain ⟨u,hu⟩:∃ u,kB F xs n ((i:Int) - 1) ((j:Int) - 1) ((k:Int) - 1)=some u:=nr.1<|by simpa using ai
 obtain ⟨cK,bM⟩:=Rz ab ab ab hu
 have aI:(fL F xs n)[(fT F xs n i++(fC F xs n ((i:Int) - 1) j++gy F xs n ((i:Int) - 1) ((j:Int) - 1) k)).length]? =some ⟨u,n.toNat,(i:Int) - 1,(j:Int) - 1,(k:Int) - 1⟩:=by rw [bM,List.getElem?_append_right (bX _),Nat.sub_self]; rfl
 have cq:=(eI.1 aI).1
 have bI:((n.toNat:Nat):Int)=n:=by
  by_cases hn:0≤n∧n < xs.length
  omega
  rw [xZ hn] at hu; cases hu
 have cg:u=(kB F xs n ((i:Int) - 1) ((j:Int) - 1)<|(k:Int) - 1).getD []:=by rw [hu]; rfl
 have bK:(fT F xs n i++(fC F xs n ((i:Int) - 1) j++gy F xs n ((i:Int) - 1) ((j:Int) - 1) (k+1))).length=(fT F xs n i++(fC F xs n ((i:Int) - 1) j++gy F xs n ((i:Int) - 1) ((j:Int) - 1) k)).length+1:=by rw [Rx ab hu]; simp only [bF,List.length_singleton]; omega
 refine aM<|bb<|az fun bf=>ak fun bg=>p (aG (.int .i64 ((fT F xs n i++(fC F xs n ((i:Int) - 1) j++gy F xs n ((i:Int) - 1) ((j:Int) - 1) k)).length:Nat)) aa)<|ao (.slice I (fL F xs n).length J)<|p (bO ux aa aa)<|p (ge aa aa)<|p mv<|gs (t:=70) aa (fun h=>absurd h ab) fun ct=>aR aa (aG (.slice I (fL F xs n).length J) aa)<|aR aa (aG (.int .i64 ((fT F xs n i++(fC F xs n ((i:Int) - 1) j++gy F xs n ((i:Int) - 1) ((j:Int) - 1) k)).length:Nat)) aa)<|aR aa (aW tw aa aa ab<|aC.ok ((nL Z).wk<|O.trans U)<|tj ab)<|aR aa (cI ny aa (aa)<|gK (f:=gq) (m:=5) (fun _=>rfl) ((nL Z).wk<|O.trans U) aI)<|aR aa mv<|aR aa (aG (.int .i64 n) aa)<|aR aa (aG (.int .i64<|(i:Int) - 1) aa)<|aR aa (aG (.int .i64<|(j:Int) - 1) aa) ?_
 refine aR aa (aG (.int .i64<|(k:Int) - 1) aa)<|aR aa (cE (ps:= [(0,str ((kB F xs n ((i:Int) - 1) ((j:Int) - 1)<|(k:Int) - 1).getD [])),(1,.int .i64 n),(2,.int .i64 ((i:Int) - 1)),(3,.int .i64 ((j:Int) - 1)),(4,.int .i64 ((k:Int) - 1))]) (L:= [str ((kB F xs n ((i:Int) - 1) ((j:Int) - 1)<|(k:Int) - 1).getD []),.int .i64 n,.int .i64 ((i:Int) - 1),.int .i64 ((j:Int) - 1),.int .i64 ((k:Int) - 1)]) uq aa<|aa)<|aR aa (Oj aa aa)<|p (bD aa)<|nl<|bg<|cf (congrArg bL<|by rw [decide_eq_true ⟨cg,bI,aa,aa,aa⟩]; rfl)<|aM<|bf<|rg aa<|p (aG (.int .i64 ((fT F xs n i++(fC F xs n ((i:Int) - 1) j++gy F xs n ((i:Int) - 1) ((j:Int) - 1) k)).length:Nat)) aa)<|p (ad aa aa<|bR ab)<|p aA<|nl<|bn<|aq ?_
 exact rg aa<|ao (.int .i64<|(k:Int) - 1)<|p (ad aa aa<|bR ab)<|p aA<|nl<|tn<|⟨_,ab,k+1,ab,(O.trans U),aa,aa,aa,aa,(by first | rfl | exact iv ab),aa,aa,(by first | rfl | exact iv ab),aa⟩
 refine ext<|bc<|bc<|be<|bn<|a4 ?_
 obtain rfl :k=F.rules.length+1:=ab
 have cy:(fT F xs n i++fC F xs n ((i:Int) - 1) (j+1)).length=(fT F xs n i++(fC F xs n ((i:Int) - 1) j++gy F xs n ((i:Int) - 1) ((j:Int) - 1) (F.rules.length+1))).length:=by rw [Ry ab]
 exact rg aa<|ao (.int .i64<|(j:Int) - 1)<|p (ad aa aa<|bR ab)<|p aA<|nl<|tn<|⟨_,ab,j+1,ab,O,aa,aa,aa,aa,(by first | rfl | exact iv ab),aa,(by first | rfl | exact iv ab),aa⟩
 refine ext<|bc<|bc<|be<|bn<|ae ?_
 obtain rfl :j=F.rules.length+1:=ab
 have cx:(fT F xs n<|i+1).length=(fT F xs n i++fC F xs n ((i:Int) - 1) (F.rules.length+1)).length:=by rw [Ru ab]
 exact rg aa<|ao (.int .i64<|(i:Int) - 1)<|p (ad aa aa<|bR ab)<|p aA<|nl<|tn<|⟨_,ab,i+1,ab,aF,aa,aa,aa,aa,(by first | rfl | exact iv ab),(by first | rfl | exact iv ab),aa⟩
 refine ext<|bc<|bc<|be<|aS<|az fun ae=> ?_
 have bC:i=F.rules.length+1:=ab
 exact rg aa<|ao (aj<|(fT F xs n i).length)<|ao (.slice I (fL F xs n).length J)<|p (bO ux aa aa)<|p (bS aa aa)<|ay<|ae<|rt<|a6 aa<|⟨congrArg bL (decide_eq_true<|by rw [wv,bC]),br.trans aD⟩
theorem RA (a t:Tx) (n:Int) (w:World) (ac:a.length≤1048576) (ad:t.length≤1048576) (ae:k8 a t=none):
 ba au 6 (aY [str a,str t,.int .i64 n]) w (fun v w'=>v= .bool true∧Wk w w'):=by
 refine enter func6 aa ntmps6 aa<|ak fun E=>ay<|E<|az fun G=>ak fun I=>e<|cl jY (EN w) aa fun aD ag Z=> ?_
 obtain ⟨rfl,i⟩:=Z
 have aq:=i.size
 refine p (no aa)<|nl<|I<|cf (aa)<|aM<|G<|ak fun J=>p mv<|p mv<|e<|cl vJ (yL a t ag ac ad) aa fun aE ah ab=> ?_
 obtain ⟨⟨pp,ax,aB,aC,rfl,c⟩,hE22⟩:=ab
 rw [ae] at c
 have ar:=hE22.size
 have c:pp=none:=c
 subst c
 refine p mv<|p (xt aa aa)<|p (xt aa aa)<|e<|al mu fun am aF ao C U=> ?_
 have aw:=C.size
 refine p aA<|e<|cw gS aa aa aa aa (U) (by simp) fun ai Y an=> ?_
 have A:Wk ah ai:=C.md.trans' Y fun q ap h=>by omega
 have av:=A.size
 have V:=(i.trans hE22).trans A
 refine nl<|J<|az fun aj=>ak fun M=>p mv<|p (kY rZ aa aa)<|nl<|M<|ct (aa)<|ak fun O=>ay<|O<|rt ?_
 exact tr<|a6 aa<|⟨aa,V⟩
theorem RC (a t:Tx) (n:Int) (w:World) (c:a.length≤1048576) (i:t.length≤1048576):ba au 6 [str a,str t,.int .i64 n].toArray w (fun v w'=>v= .bool true∧Wk w w'):=by
 cases hx:k8 a t with
 | none=>exact RA a t n w c i hx
 | some Y=>obtain ⟨F,xs⟩:=Y; exact RB a t n w c i F xs hx
end Go.Hb
end
