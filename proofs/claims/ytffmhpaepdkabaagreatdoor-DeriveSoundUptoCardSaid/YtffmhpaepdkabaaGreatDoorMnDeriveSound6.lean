/-
  Walks and plain laws that the law rests on, laid together. No conditions but those that each theorem names.
-/
import Derived.Test.YtffmhpaepdkabaaGreatDoorMnDeriveSound5
set_option linter.unusedVariables false
set_option maxRecDepth 20000
set_option maxHeartbeats 1000000
open Array renaming getElem?_eq_some_iff→cy
open Bool renaming and_eq_true→fE,and_false→vc,noConfusion→c7
open Classical renaming byContradiction→qD
open Go.Calls renaming mono→jQ
open Go.Proofs.Tryz renaming prog→ao
open Go.Value renaming bool→bQ,ownBlock→fT,slice→bB
open Go.World renaming ownsRow→bp,ownsRow_nil→dJ
open Int renaming toNat_natCast→jv
open List renaming append_assoc→dK,append_nil→eb,filterMap_append→zJ,flatMap_append→nC,flatMap_singleton→oo,getD_eq_getElem?_getD→cX,getElem?_eq_getElem→cj,getElem?_eq_some_iff→eH,getElem?_map→gu,getElem?_zip_eq_some→iR,length_append→bJ,length_map→eX,length_nil→fV,length_range→Gr,map_append→iJ,mem_flatMap→qP,mem_map→lH,mem_of_getElem?→gV,nil_append→lJ,pairwise_flatMap→GA,prefix_append→sX,prefix_refl→zQ,range→gH,take_append_drop→zR,take_of_length_le→fq,toArray→a7
open Nat renaming le_refl→cw,le_trans→e9,lt_or_ge→gI,mul_le_mul_right→qT,zero_le→qV
open Option renaming bind_assoc→zU,bind_eq_some_iff→pz,bind_some→mj,isSome_iff_exists→nI,map_eq_some_iff→lL
open Prod renaming fst→gW
open Go.Proofs.Tryz
open Go.Hb.dG Go.Proofs Go.Hb.eO Go.Hb.fL Go.Hb.je Go.Hb.fW Go.Hb.iT Go.Hb.jU Go.Hb.ke

namespace Go.Hb.lO
theorem Dl (l:List Nat):(l.map fun i:Nat=>(i:Int)).map (Value.int .i64)=l.map gN:=by rw [List.map_map]; rfl
theorem qm {F:aG} {xs:List bo} (h:ff F xs) (n:Int):(flagsOf xs n).length≤64∧jy (flagsOf xs n):=by
 by_cases hn:0≤n∧n < xs.length
 · obtain ⟨k,rfl⟩:∃ k:Nat,n=(k:Int):=⟨n.toNat,ab⟩
   have a:xs[k]? =some xs[k]:=cj ab
   rw [(nL a).2.1]
   exact ⟨(h.rC _<|gV a).2.1,h.Lp _<|gV a⟩
 · rw [(tt hn).2]; exact ⟨qV _,rR⟩
theorem uM {F:aG} {xs:List bo} (h:ff F xs) (n:Int):(bY F n).length≤64∧jy (bY F n):=by
 by_cases hn:0≤n∧n < F.rules.length
 · obtain ⟨k,rfl⟩:∃ k:Nat,n=(k:Int):=⟨n.toNat,ab⟩
   have a:F.rules[k]? =some F.rules[k]:=cj ab
   rw [(uv a).2.1]
   exact ⟨(h.ku a).1,(h.ku a).2.1⟩
 · rw [(yJ hn).2]; exact ⟨qV _,rR⟩
theorem JS {F:aG} {k f:Nat} (h:(dx F.bu f).isSome=false):fg F k f= []:=by
 unfold fg
 cases h2:dx F.bu f with
 | none=>rfl
 | some c=>rw [h2] at h; cases h
theorem JV {F:aG} {k f:Nat} {c:dz} (h:(dx F.bu f).isSome=true) (a:(dx F.bu f).getD pP=c):dx F.bu f=some c:=by
 cases h2:dx F.bu f with
 | none=>rw [h2] at h; cases h
 | some d=>rw [h2] at a; exact congrArg some a
theorem JT {F:aG} {k f:Nat} {c:dz} (h:dx F.bu f=some c) (hk:c.kind≠k):fg F k f= []:=by unfold fg; rw [h]; exact if_neg hk
theorem JW {F:aG} {k f:Nat} {c:dz} (h:dx F.bu f=some c) (hk:c.kind=k):fg F k f=(gH c.count).map (c.first+ ·):=by unfold fg; rw [h]; exact if_pos hk
theorem JQ {F:aG} (a:m5 F) {f:Nat} {c:dz} (h:dx F.bu f=some c):c.first+c.count≤F.rules.length:=(a.rl c (B4 h).1).1
theorem Ms {fs:List Nat} {f:Nat→List Nat} {i:Nat} (h:i < fs.length):(fs.take<|i+1).flatMap f=(fs.take i).flatMap f++f (fs.getD i 0):=by
 rw [ky fs i 0 h,nC,oo]
theorem Dx {F:aG} (a:m5 F) {fs:List Nat} (h:fs.Pairwise (· < ·)) (k:Nat):(fs.flatMap<|fg F k).length=(aT F fs k).length:=by
 obtain ⟨h1,h2⟩:=Dw a (k:=k) h
 exact ((List.perm_ext_iff_of_nodup h1<|(Dy F fs k).imp fun h=>by omega).2 h2).length_eq
theorem OP {F:aG} (a:m5 F) {fs:List Nat} (h:fs.Pairwise (· < ·)) (k:Nat):(fs.flatMap<|fg F k).length≤F.rules.length:=by
 rw [Dx a h]; exact rZ F fs k
def nW (F:aG) (xs:List bo) (e k:Int):Bool:=decide (0≤k∧k < 5) && qc F xs e k.toNat
theorem EK {w:World} {B tb:Nat} {a:fX} {F:aG} {xs:List bo} (h:eQ w B tb a F xs) {k:Nat} (hk:k < 5):Hb.aI w.heap tb (5 +k*1)=some (aR<|F.sp.getD k 0):=by
 refine (aY h.cells).trans ?_
 match k,hk with
 | 0,_=>rfl
 | 1,_=>rfl
 | 2,_=>rfl
 | 3,_=>rfl
 | 4,_=>rfl
theorem CJ {x:Nat} {l:List Nat} (h:0∉l):decide (x∈l)=decide (x≠0∧x∈l):=decide_eq_decide.2 ⟨fun h2=>⟨fun h3=>h (h3 ▸ h2),h2⟩,And.right⟩
theorem pU (B tb:Nat) (aL:fX) (F:aG) (xs:List bo) (n:Int) (w:World) (au:eQ w B tb aL F xs) (ah:ff F xs):
 bd ao 24 (a7 [aW tb,.int .i64 n]) w (fun v w'=>(∃ a,v= .tuple #[.agg [str (fO xs n),a].toArray,.bool (decide (0≤n∧n < xs.length))]∧bp w' w.heap.size 51 1 a (flagsOf xs n).length ((flagsOf xs n).map aR))∧Wk w w'):=by
 obtain ⟨a5,ce,a1⟩:=Ro au
 have bk:=ah.xl
 refine enter func24 aa ntmps24 aa<|ak fun aD=>e<|al lD fun a9 aB bf A I=> ?_
 have bq:=A.size
 have aY:=au.wk A.md
 have a3:=Wk.aI A.md a1
 refine ay<|aD<|az fun aF=>ak fun ac=>p mv<|p (lU sv aa aa)<|p mv<|gb (t:=9) aa (fun h=>absurd (h.symm.trans<|aa) c7) fun bh=>aU aa mv<|aU aa (lt aa aa)<|p (bC aa)<|p mv<|gs (t:=13) aa (fun a0=> ?_) fun a0=> ?_
 refine aK aa<|aK aa<|aK aa<|aK aa<|aK aa<|aK aa<|aK aa<|p (bL aa)<|nl<|ac<|ct aa<|ak fun C=>p (cT (ps:= []) (L:= [.string ⟨⟨[]⟩⟩,.slice none 0 0]) lz aa<|aa)<|e<|ca gP aa aa aa aa (I) (by simp) fun a4 M G=>p aA<|nl<|C<|rt<|tr<|ew aa (dB (cs:= [str [],.slice none 0 0]) aa jD aa fun j U=>G.bm j) dX ?_
 have E:=tt (xs:=xs) (n:=n) ab
 exact ⟨⟨.slice none 0 0,by rw [E.1,decide_eq_false (show ¬(0≤n∧n < (xs.length:Int)) by omega)]; rfl,by rw [E.2]; exact dJ _ _ _ _⟩,A.md.trans' M fun q i h=>by omega⟩
 refine aU aa mv<|aU aa mv<|aU aa (nc aa)<|aU aa (fa xL aa)<|aU aa (ld q4 aa<|a3)<|aU aa (bO uR aa aa)<|aU aa (ge aa aa)<|p (bC aa)<|nl<|ac<|cd aa (fun aZ=> ?_) fun aZ=> ?_
 refine ak fun C=>p (cT (ps:= []) (L:= [.string ⟨⟨[]⟩⟩,.slice none 0 0]) lz aa<|aa)<|e<|ca gP aa aa aa aa (I) (by simp) fun a4 M G=>ay<|C<|rt<|tr<|ew aa (dB (cs:= [str [],.slice none 0 0]) aa jD aa fun j U=>G.bm j) dX ?_
 have E:=tt (xs:=xs) (n:=n) ab
 exact ⟨⟨.slice none 0 0,by rw [E.1,decide_eq_false (show ¬(0≤n∧n < (xs.length:Int)) by omega)]; rfl,by rw [E.2]; exact dJ _ _ _ _⟩,A.md.trans' M fun q i h=>by omega⟩
 obtain ⟨k,rfl⟩:∃ k:Nat,n=(k:Int):=⟨n.toNat,ab⟩
 obtain ⟨x,Y⟩:∃ x,xs[k]? =some x:=⟨_,cj ab⟩
 obtain ⟨a8,ba,a,c,bi,a2,aj,ax,av⟩:=Rm aY Y
 have bj:=(ah.rC x<|gV Y).2.1
 obtain ⟨aM,aN,bb,bc⟩:=nL Y
 refine aO<|aF<|ak fun C=>p mv<|p (nc aa)<|p (fa xL aa)<|p (ld q4 aa<|a2)<|p mv<|p (a6 xn aa aa ab<|aE.ok (aj)<|xj ax)<|p (cz jD aa (aa)<|gn (f:=oI) (m:=2) (fun _=>rfl) aj ax)<|e<|al lD fun ae bv bg ar aV=> ?_
 have bs:=ar.size
 refine e<|ca gP aa aa aa aa (aV) (by simp) fun Z ap aP=> ?_
 have am:Wk aB Z:=ar.md.trans' ap fun q i h=>by omega
 have bl:=ap.size
 have ai:bw Z.heap ae [str x.1,.slice a x.2.length c]:=aP
 refine nl<|C<|ak fun aH=>p (fa oM aa)<|p (ld k8 aa<|ai.bm 1)<|e<|cl oF (pO a x.2.length c (x.2.map aR) Z (av.wk am).dq.2 (by simp) (fun h=>Tg.qe av (by simp) h) (pJ _) ab) aa fun bt bu aX=> ?_
 obtain ⟨V,J⟩:=aX
 obtain ⟨ad,ag,rfl⟩:=cU V
 have bn:=J.size
 refine p (fa oM aa)<|e<|st pQ aa aa (aa) (Wk.B J ai) (by simp) fun aC O aQ=> ?_
 have an:Wk aB aC:=(am.trans J).trans' O fun q i h=>by omega
 have br:=O.size
 have aw:=cx V O fun q i h=>by have :=(dd V i).1; omega
 have aS:bw aC.heap ae [str x.1,.slice ad x.2.length ag]:=aQ
 exact nl<|aH<|ak fun aJ=>p (cz jD aa (aa) fun j U=>aS.bm j)<|e<|ca gP aa aa aa aa (Wk.B an I) (by simp) fun bx aq aT=>p aA<|nl<|aJ<|rt<|ew aa (dB (cs:= [str x.1,.slice ad x.2.length ag]) aa jD aa fun j U=>aT.bm j) dX<|⟨⟨_,by rw [aM,decide_eq_true (show 0≤(k:Int)∧(k:Int) < (xs.length:Int) by omega)]; rfl,by rw [aN]; exact cx (eS aw ab) aq fun q i h=>by have :=(dd aw i).1; omega⟩,(A.md.trans an).trans' aq fun q i h=>by omega⟩
theorem se (B tb:Nat) (aN:fX) (F:aG) (xs:List bo) (n:Int) (w:World) (av:eQ w B tb aN F xs) (ai:ff F xs):
 bd ao 25 (a7 [aW tb,.int .i64 n]) w (fun v w'=>(∃ a,v= .tuple #[.agg (dC (jr F n,a)).toArray,.bool (decide (0≤n∧n < F.rules.length))]∧bp w' w.heap.size 51 1 a (bY F n).length ((bY F n).map aR))∧Wk w w'):=by
 obtain ⟨bg,ce,a9⟩:=Rp av
 have bq:=ai.len
 refine enter func25 aa ntmps25 aa<|ak fun aH=>e<|al nv fun aQ G bj A J=> ?_
 have bt:=A.size
 have aw:=av.wk A.md
 have bc:=Wk.aI A.md a9
 have a0:bw G.heap aQ (dC (di,.slice none 0 0)):=J
 refine ay<|aH<|az fun aJ=>ak fun ad=>p mv<|p (lU sv aa aa)<|p mv<|gb (t:=9) aa (fun h=>absurd (h.symm.trans<|aa) c7) fun bl=>aU aa mv<|aU aa (lt aa aa)<|p (bC aa)<|p mv<|gs (t:=13) aa (fun a8=> ?_) fun a8=> ?_
 refine aK aa<|aK aa<|aK aa<|aK aa<|aK aa<|aK aa<|aK aa<|aK aa<|p (bL aa)<|nl<|ad<|ct aa<|ak fun C=>p (cT (ps:= []) (L:= [.int .i64 0,.int .u16 0,.bool false,.string ⟨⟨[]⟩⟩,.string ⟨⟨[]⟩⟩,.string ⟨⟨[]⟩⟩,.slice none 0 0]) yT aa<|aa)<|e<|ca lT aa aa aa aa (J) (by simp) fun bf O I=>ay<|C<|rt<|tr<|ew aa (dB (cs:=dC (di,.slice none 0 0)) aa jF aa fun j V=>I.bm j) dX ?_
 have E:=yJ (F:=F) (n:=n) ab
 exact ⟨⟨.slice none 0 0,by rw [E.1,decide_eq_false (show ¬(0≤n∧n < (F.rules.length:Int)) by omega)]; rfl,by rw [E.2]; exact dJ _ _ _ _⟩,A.md.trans' O fun q i h=>by omega⟩
 refine aU aa mv<|aU aa mv<|aU aa (nc aa)<|aU aa (fa rO aa)<|aU aa (fa lV aa)<|aU aa (ld kh aa<|bc)<|aU aa (bO qp aa aa)<|aU aa (ge aa aa)<|p (bC aa)<|nl<|ad<|cd aa (fun a5=> ?_) fun a5=> ?_
 refine ak fun C=>p (cT (ps:= []) (L:= [.int .i64 0,.int .u16 0,.bool false,.string ⟨⟨[]⟩⟩,.string ⟨⟨[]⟩⟩,.string ⟨⟨[]⟩⟩,.slice none 0 0]) yT aa<|aa)<|e<|ca lT aa aa aa aa (J) (by simp) fun bf O I=>ay<|C<|rt<|tr<|ew aa (dB (cs:=dC (di,.slice none 0 0)) aa jF aa fun j V=>I.bm j) dX ?_
 have E:=yJ (F:=F) (n:=n) ab
 exact ⟨⟨.slice none 0 0,by rw [E.1,decide_eq_false (show ¬(0≤n∧n < (F.rules.length:Int)) by omega)]; rfl,by rw [E.2]; exact dJ _ _ _ _⟩,A.md.trans' O fun q i h=>by omega⟩
 obtain ⟨k,rfl⟩:∃ k:Nat,n=(k:Int):=⟨n.toNat,ab⟩
 obtain ⟨r,Z⟩:∃ r,F.rules[k]? =some r:=⟨_,cj ab⟩
 obtain ⟨aP,aS,a,c,ba,am,aD,aB⟩:=HB aw.ax Z
 have bb:Hb.aI G.heap tb 14=some (.slice aP F.rules.length aS):=by rw [← ba]; exact (aY aw.cells).trans rfl
 have bn:=(ai.ku Z).1
 obtain ⟨aT,aV,bh,bi⟩:=uv Z
 refine aO<|aJ<|ak fun C=>p mv<|p (nc aa)<|p (fa rO aa)<|p (fa lV aa)<|p (ld kh aa<|bb)<|p mv<|p (a6 km aa aa ab<|aE.ok (am)<|kT aD)<|p (cz jF aa (aa)<|gn (f:=dC) (m:=7) (fun _=>rfl) am aD)<|e<|al nv fun ag bA bk au a3=> ?_
 have bv:=au.size
 refine e<|ca lT aa aa aa aa (a3) (by simp) fun ac aq aX=> ?_
 have an:Wk G ac:=au.md.trans' aq fun q i h=>by omega
 have br:=aq.size
 have aj:bw ac.heap ag (dC (r,.slice a r.next.length c)):=aX
 refine nl<|C<|ak fun aL=>p (fa nS aa)<|p (ld k8 aa<|aj.bm 6)<|e<|cl oF (pO a r.next.length c (r.next.map aR) ac (aB.wk an).dq.2 (by simp) (fun h=>Tg.qe aB (by simp) h) (pJ _) ab) aa fun bx bz a4=> ?_
 obtain ⟨Y,M⟩:=a4
 obtain ⟨ae,ah,rfl⟩:=cU Y
 have bs:=M.size
 refine p (fa nS aa)<|e<|st pQ aa aa (aa) (Wk.B M aj) (by show 6 < 7; omega) fun aF U aZ=> ?_
 have ap:Wk G aF:=(an.trans M).trans' U fun q i h=>by omega
 have bu:=U.size
 have aC:=cx Y U fun q i h=>by have :=(dd Y i).1; omega
 have a1:bw aF.heap ag (dC (r,.slice ae r.next.length ah)):=aZ
 exact nl<|aL<|ak fun aM=>p (cz jF aa (aa) fun j V=>a1.bm j)<|e<|ca lT aa aa aa aa (Wk.B ap a0) (by show 7≤7; omega) fun bB ar a2=>p aA<|nl<|aM<|rt<|ew aa (dB (cs:=dC (r,.slice ae r.next.length ah)) aa jF aa fun j V=>a2.bm j) dX<|⟨⟨_,by rw [aT,decide_eq_true (show 0≤(k:Int)∧(k:Int) < (F.rules.length:Int) by omega)]; rfl,by rw [aV]; exact cx (eS aC ab) ar fun q i h=>by have :=(dd aC i).1; omega⟩,(A.md.trans ap).trans' ar fun q i h=>by omega⟩
theorem Nt (a:Option Addr) (c:Nat) (l:List Nat) (x:Nat) (w:World) (E:aE w.heap a (l.map aR)) (aq:l.length≤1048576):
 bd ao 213 (a7 [.slice a l.length c,aR x]) w (fun v w'=>(∃ k:Int,v= .int .i64 k∧(0≤k↔x∈l)∧ -1≤k∧k≤1048576)∧Wk w w'):=by
 refine enter func213 aa ntmps213 aa<|ak fun O=>ay<|O<|az fun U=>ak fun V=>au (.slice a l.length c)<|p (bO ET aa aa)<|p mv<|nl<|V<|aB<|lp (fun C q M=> ∃ (i:Nat),(i≤l.length)∧(∀ j,j < i→l.getD j 0≠x)∧(M=w)∧(q 0= .slice a l.length c)∧(q 1=aR x)∧(q 7=aj (l.length))∧(q 8=aj i)∧(l.length - i=C)) _ ⟨0,ab,(fun j I=>by omega),aa,aa,aa,aa,aa,aa⟩ ?_
 rintro C q M ⟨i,hi,J,ah,al,am,an,ap,rfl⟩
 refine fx 0 al<|fx 1 am<|fx 7 an<|fx 8 ap ?_
 subst ah
 refine ak fun Y=>p (lt aa aa)<|nl<|Y<|az fun Z=>cd aa (fun ai=> ?_) fun ai=> ?_
 refine aO<|Z<|az fun A=>aB<|ak fun ac=>au (aj i)<|p (bZ (aj i) aa)<|nl<|ac<|ak fun ae=>au (aR x)<|au (.slice a l.length c)<|au (aj i)<|p (a6 BO aa aa ab<|aE.ok (E)<|cY ab)<|p (ld bP aa<|aE.jj E (show (l.map aR)[i]? =some (aR<|l.getD i 0) by rw [gu,cX,cj (by omega :i < l.length)]; rfl)) ?_
 refine p (bR aa aa)<|nl<|ae<|cd aa (fun G=> ?_) fun G=> ?_
 exact ak fun ag=>au (aj i)<|p (bZ (aj i) aa)<|nl<|ag<|rt<|br<|tr<|tr<|br<|tr<|ba aa<|⟨⟨(i:Nat),aa,⟨fun _=>by obtain rfl :x=l.getD i 0:=ab; exact e6 ab,fun _=>by omega⟩,ab,ab⟩,Md.refl _ _⟩
 exact aO<|bn<|A<|rg aa<|p (ad aa aa<|cg ab)<|p mv<|nl<|tn<|⟨_,ab,i+1,ab,(fun j I=>by rcases gI j i with h | h <;> first | exact J j h | (rw [show j=i by omega]; exact fun h2=>G<|by rw [h2])),aa,aa,aa,aa,aa,aa⟩
 exact ext<|bj<|bj<|be<|U<|ak fun A=>p aA<|nl<|A<|rt<|ba aa<|⟨⟨-1,aa,⟨fun h=>absurd h ab,fun h=>by obtain ⟨j,I,e⟩:=oR 0 h; exact absurd e<|J j ab⟩,ab,ab⟩,Md.refl _ _⟩
theorem Kk (a:Option Addr) (c:Nat) (l:List Nat) (x:Nat) (w:World) (A:aE w.heap a (l.map aR)) (G:l.length≤1048576):
 bd ao 151 (a7 [.slice a l.length c,aR x]) w (fun v w'=>v= .bool (decide (x∈l))∧Wk w w'):=by
 refine enter func151 aa ntmps151 aa<|ak fun i=>ay<|i<|ak fun q=>au (.slice a l.length c)<|au (aR x)<|e<|cl Il (Nt a c l x w A G) aa fun M O C=> ?_
 obtain ⟨⟨I,rfl,E,J⟩,hE7⟩:=C
 exact p (ge aa aa)<|ay<|q<|rt<|ba aa<|⟨by show bQ (decide (I≥0))=_; exact congrArg bQ (decide_eq_decide.2 E),hE7⟩
theorem CI (a:Option Addr) (c:Nat) (l:List Nat) (x:Nat) (w:World) (A:aE w.heap a (l.map aR)) (G:l.length≤1048576):
 bd ao 97 (a7 [.slice a l.length c,aR x]) w (fun v w'=>v= .bool (decide (x∈l))∧Wk w w'):=by
 refine enter func97 aa ntmps97 aa<|ak fun i=>ay<|i<|ak fun q=>au (.slice a l.length c)<|au (aR x)<|e<|cl Ia (Kk a c l x w A G) aa fun I J E=> ?_
 obtain ⟨rfl,C⟩:=E
 exact ay<|q<|rt<|ba aa<|⟨aa,C⟩
theorem yi (B tb:Nat) (Z:fX) (F:aG) (xs:List bo) (fs:List Nat) (a:Option Addr) (c kd:Nat) (w:World) (aP:eQ w B tb Z F xs) (U:ff F xs) (aF:aE w.heap a (fs.map aR)) (b7:fs.length≤64) (av:fs.Pairwise (· < ·)):
 bd ao 91 (a7 [aW tb,.slice a fs.length c,aj kd]) w (fun v w'=>bp w' w.heap.size 3 1 v (aT F fs kd).length ((aT F fs kd).map gN)∧Wk w w'):=by
 have cb:=U.len
 refine enter func91 aa ntmps91 aa<|ak fun a2=>ay<|a2<|ak fun bc=>p aA<|nl<|bc<|az fun bg=>ak fun bh=>au (.slice a fs.length c)<|p (bO mN aa aa)<|p mv<|nl<|bh<|aB<|lp (fun O G J=> ∃ (i:Nat) (v:Value),(i≤fs.length)∧(bp J w.heap.size 3 1 v ((fs.take i).flatMap<|fg F kd).length<|((fs.take i).flatMap<|fg F kd).map gN)∧(((fs.take i).flatMap<|fg F kd).length≤i*70000)∧(Wk w J)∧(G 0=aW tb)∧(G 2=aj kd)∧(G 7=v)∧(G 13= .slice a fs.length c)∧(G 14=aj (fs.length))∧(G 15=aj i)∧(fs.length - i=O)) _ ⟨0,.slice none 0 0,ab,(dJ _ _ _ _),(qV _),(Md.refl _ _),aa,aa,aa,aa,aa,aa,aa⟩ ?_
 rintro O G J ⟨i,v,hi,ae,aZ,C,bF,bN,bQ,bG,bH,bM,rfl⟩
 refine fx 0 bF<|fx 2 bN<|fx 7 bQ<|fx 13 bG<|fx 14 bH<|fx 15 bM<|ak fun bi=>p (lt aa aa)<|nl<|bi<|az fun bk=>cd aa (fun bx=> ?_) fun bx=> ?_
 refine aO<|bk<|az fun M=>aB<|ak fun ai=>p (a6 bE aa aa ab<|aE.ok (aF.wk C)<|cY ab)<|p (ld bP aa<|aE.jj (aF.wk C) (show (fs.map aR)[i]? =some (aR<|fs.getD i 0) by rw [gu,cX,cj (by omega :i < fs.length)]; rfl)) ?_
 refine ay<|ai<|ak fun bl=>au (aW tb)<|p (nc aa)<|p (fa tZ aa)<|p (ld eF aa<|(aY (aP.wk C).cells).trans aa)<|p mv<|e<|cl vX (xp B Z.fb Z.mc F Z.V (fs.getD i 0) J (aP.wk C).fl ab) aa fun ck cn aN=> ?_
 obtain ⟨cl,aS⟩:∃ cl,(dx F.bu<|fs.getD i 0).getD pP=cl:=⟨_,rfl⟩
 rw [aS] at aN
 have I:=Ms (f:=fg F kd) (show i < fs.length by omega)
 obtain ⟨rfl,aI⟩:=aN
 have ce:=aI.size
 refine p mv<|p (xt aa aa)<|p (xt aa aa)<|e<|gx qz fun al cm b3 aM bm=> ?_
 have cc:=aM.size
 refine e<|gi oG aa aa aa aa bm (by simp) fun a1 aL br=> ?_
 have ac:Wk J a1:=(aI.trans aM.md).trans' aL fun q ca h=>by omega
 have ci:=aL.size
 have an:a1.heap[al]? =some (.cells (lR cl).toArray 131 (0,0)):=br
 have aC:=aX ae ac
 refine ay<|bl<|az fun a3=>ak fun aD=>p mv<|p (no aa)<|p mv<|gb (t:=30) aa (fun ax=> ?_) fun ax=> ?_
 have Y:fg F kd (fs.getD i 0)= []:=JS<|by simpa using ax
 exact aK aa<|aK aa<|aK aa<|aK aa<|p (bL aa)<|nl<|aD<|ct aa<|ext<|bj<|be<|M<|rg aa<|p (ad aa aa<|cg ab)<|p mv<|nl<|tn<|⟨_,ab,i+1,v,ab,(by rw [I,Y,eb]; exact aC),(by rewrite [I,Y,eb]; exact e9 aZ<|qT _<|Nat.le_succ i),(C.trans ac),aa,aa,aa,aa,aa,aa,aa⟩
 have ar:=JV (k:=kd) (by simpa using ax) aS
 refine aU aa (fa rI aa)<|aU aa (ld bK aa<|(aY an).trans aa)<|aU aa (aH (aj kd) aa)<|aU aa (fR aa aa)<|p (bC aa)<|nl<|aD<|cd aa (fun aQ=> ?_) fun aQ=> ?_
 have Y:fg F kd (fs.getD i 0)= []:=JT ar fun h=>aQ<|by rw [h]
 exact ext<|bj<|be<|M<|rg aa<|p (ad aa aa<|cg ab)<|p mv<|nl<|tn<|⟨_,ab,i+1,v,ab,(by rw [I,Y,eb]; exact aC),(by rewrite [I,Y,eb]; exact e9 aZ<|qT _<|Nat.le_succ i),(C.trans ac),aa,aa,aa,aa,aa,aa,aa⟩
 have bA:cl.kind=kd:=ab
 have aV:=JW ar bA
 have b5:=JQ U.cls ar
 refine aO<|a3<|ak fun a4=>p (fa tS aa)<|p (ld bK aa<|(aY an).trans aa)<|p mv<|nl<|a4<|aB<|lp (fun O A ah=> ∃ (j:Nat) (v2:Value),(j≤cl.count)∧(bp ah w.heap.size 3 1 v2 ((fs.take i).flatMap (fg F kd)++(gH j).map (cl.first+ ·)).length<|((fs.take i).flatMap (fg F kd)++(gH j).map (cl.first+ ·)).map gN)∧(ah.heap[al]? =some (.cells (lR cl).toArray 131 (0,0)))∧(Wk w ah)∧(A 0=aW tb)∧(A 2=aj kd)∧(A 7=v2)∧(A 10=aW al)∧(A 13= .slice a fs.length c)∧(A 14=aj (fs.length))∧(A 15=aj i)∧(A 37=aj (cl.count))∧(A 38=aj j)∧(cl.count - j=O)) _ ⟨0,v,ab,(by rw [List.range_zero,List.map_nil,eb]; exact aC),an,(C.trans ac),aa,aa,aa,aa,aa,aa,aa,aa,aa,aa⟩ ?_
 rintro O A ah ⟨j,v2,b8,ag,aq,am,bR,bW,b0,bS,bT,bU,bV,bX,bY,rfl⟩
 refine fx 0 bR<|fx 2 bW<|fx 7 b0<|fx 10 bS<|fx 13 bT<|fx 14 bU<|fx 15 bV<|fx 37 bX<|fx 38 bY<|ak fun a5=>p (lt aa aa)<|nl<|a5<|az fun a8=>cd aa (fun bz=> ?_) fun bz=> ?_
 refine aO<|a8<|az fun a9=>aB<|ak fun bb=>au (aj j)<|p (bZ (aj j) aa)<|nl<|bb<|rg aa<|au (v2)<|p (fa Cn aa)<|p (ld bK aa<|(aY aq).trans aa)<|au (aj j)<|p (bI ((cl.first+j:Nat):Int) aa aa<|bf ab ab)<|e<|lf o0 aa aa fun b2 co b4 E bq=> ?_
 have cf:=E.size
 have b9:((fs.take i).flatMap (fg F kd)++(gH j).map (cl.first+ ·)).length=((fs.take i).flatMap<|fg F kd).length+j:=by rw [bJ,eX,Gr]
 have bD:(fs.take i).flatMap (fg F kd)++(gH<|j+1).map (cl.first+ ·)=((fs.take i).flatMap (fg F kd)++(gH j).map (cl.first+ ·))++ [cl.first+j]:=by rw [List.range_succ,iJ,← dK]; rfl
 refine e<|ap o0 (aX ag E.md) aa (by have :=am.size; omega) aa (aE.fA bq) (aa) (aa) ab ab fun b1 cp bB aJ ch b6=> ?_
 have bs:=Wk.own (am.trans E.md) (aX ag E.md) aJ<|cw _
 have bw:=aJ.aB (E.md.aB aq) fun h=>c8 (aX ag E.md) (E.md.aB aq) aw h
 exact p aA<|nl<|bn<|a9<|rg aa<|p (ad aa aa<|cg ab)<|p mv<|nl<|tn<|⟨_,ab,j+1,b1,ab,(by rw [bD,iJ,bJ]; exact bB),bw,bs,aa,aa,aa,aa,aa,aa,aa,aa,aa,aa⟩
 exact ext<|bj<|bj<|be<|bn<|M<|rg aa<|p (ad aa aa<|cg ab)<|p mv<|nl<|tn<|⟨_,ab,i+1,v2,ab,(by rw [I,aV,show cl.count=j by omega]; exact ag),(by rewrite [I,aV,bJ,eX,Gr]; omega),am,aa,aa,aa,aa,aa,aa,aa⟩
 refine ext<|bj<|bj<|be<|bg<|az fun M=> ?_
 rw [fq (show fs.length≤i by omega)] at ae
 refine rg aa<|au (v)<|e<|cl I6 (QG w.heap.size _ v ((fs.flatMap<|fg F kd).map fun i:Nat=>(i:Int)) J (by rw [Dl]; exact ae)<|by rw [eX]; have :=OP U.cls av kd; omega) aa fun v51 cq bv=> ?_
 obtain ⟨rfl,a0,bt⟩:=bv
 rw [QH U.cls av,Dl,Dx U.cls av] at a0
 exact nl<|M<|ak fun ai=>au (v)<|p (bZ (v) aa)<|nl<|ai<|rt<|ba aa<|⟨a0,Wk.own C ae bt<|cw _⟩
theorem EA (B tb:Nat) (c:fX) (F:aG) (xs:List bo) (n:Int) (w:World) (J:eQ w B tb c F xs) (a:ff F xs):
 bd ao 53 (a7 [aW tb,.int .i64 n]) w (fun v w'=>bp w' w.heap.size 3 1 v (aT F (flagsOf xs n) 2).length ((aT F (flagsOf xs n) 2).map gN)∧Wk w w'):=by
 refine enter func53 aa ntmps53 aa<|ak fun O=>ay<|O<|ak fun U=>au (aW tb)<|au (.int .i64 n)<|e<|cl nO (pU B tb c F xs n w J a) aa fun v10 aj ae=> ?_
 obtain ⟨⟨am,rfl,M⟩,hE10⟩:=ae
 obtain ⟨C,E,rfl⟩:=cU M
 have ar:=hE10.size
 refine p mv<|p (xt aa aa)<|p (xt aa aa)<|e<|al lD fun Y az an I ac=> ?_
 have av:=I.size
 refine e<|ca gP aa aa aa aa (ac) (by simp) fun A G Z=> ?_
 have i:Wk aj A:=I.md.trans' G fun q ap h=>by omega
 have aq:=G.size
 have ah:bw A.heap Y ([str (fO xs n),.slice C (flagsOf xs n).length E]):=Z
 refine ay<|U<|ak fun V=>au (aW tb)<|p (fa oM aa)<|p (ld k8 aa<|ah.bm 1)<|e<|cl wO (yi B tb c F xs (flagsOf xs n) C E 2 A (J.wk<|hE10.trans i) a ((aV M).2.wk i) (qm a n).1 (qm a n).2.1) aa fun aw ax ag=> ?_
 obtain ⟨ai,ad⟩:=ag
 exact ay<|V<|rt<|ba aa<|⟨eS ai ab,(hE10.trans i).trans ad⟩
theorem DY (B tb:Nat) (c:fX) (F:aG) (xs:List bo) (n:Int) (w:World) (J:eQ w B tb c F xs) (a:ff F xs):
 bd ao 55 (a7 [aW tb,.int .i64 n]) w (fun v w'=>bp w' w.heap.size 3 1 v (aT F (flagsOf xs n) 1).length ((aT F (flagsOf xs n) 1).map gN)∧Wk w w'):=by
 refine enter func55 aa ntmps55 aa<|ak fun O=>ay<|O<|ak fun U=>au (aW tb)<|au (.int .i64 n)<|e<|cl nO (pU B tb c F xs n w J a) aa fun v10 aj ae=> ?_
 obtain ⟨⟨am,rfl,M⟩,hE10⟩:=ae
 obtain ⟨C,E,rfl⟩:=cU M
 have ar:=hE10.size
 refine p mv<|p (xt aa aa)<|p (xt aa aa)<|e<|al lD fun Y az an I ac=> ?_
 have av:=I.size
 refine e<|ca gP aa aa aa aa (ac) (by simp) fun A G Z=> ?_
 have i:Wk aj A:=I.md.trans' G fun q ap h=>by omega
 have aq:=G.size
 have ah:bw A.heap Y ([str (fO xs n),.slice C (flagsOf xs n).length E]):=Z
 refine ay<|U<|ak fun V=>au (aW tb)<|p (fa oM aa)<|p (ld k8 aa<|ah.bm 1)<|e<|cl wO (yi B tb c F xs (flagsOf xs n) C E 1 A (J.wk<|hE10.trans i) a ((aV M).2.wk i) (qm a n).1 (qm a n).2.1) aa fun aw ax ag=> ?_
 obtain ⟨ai,ad⟩:=ag
 exact ay<|V<|rt<|ba aa<|⟨eS ai ab,(hE10.trans i).trans ad⟩
theorem Eh (B tb:Nat) (c:fX) (F:aG) (xs:List bo) (n:Int) (w:World) (J:eQ w B tb c F xs) (a:ff F xs):
 bd ao 54 (a7 [aW tb,.int .i64 n]) w (fun v w'=>bp w' w.heap.size 3 1 v (aT F (bY F n) 2).length ((aT F (bY F n) 2).map gN)∧Wk w w'):=by
 refine enter func54 aa ntmps54 aa<|ak fun O=>ay<|O<|ak fun U=>au (aW tb)<|au (.int .i64 n)<|e<|cl wo (se B tb c F xs n w J a) aa fun v10 aj ae=> ?_
 obtain ⟨⟨am,rfl,M⟩,hE10⟩:=ae
 obtain ⟨C,E,rfl⟩:=cU M
 have ar:=hE10.size
 refine p mv<|p (xt aa aa)<|p (xt aa aa)<|e<|al nv fun Y az an I ac=> ?_
 have av:=I.size
 refine e<|ca lT aa aa aa aa (ac) (by simp) fun A G Z=> ?_
 have i:Wk aj A:=I.md.trans' G fun q ap h=>by omega
 have aq:=G.size
 have ah:bw A.heap Y (dC (jr F n,.slice C (bY F n).length E)):=Z
 refine ay<|U<|ak fun V=>au (aW tb)<|p (fa nS aa)<|p (ld k8 aa<|ah.bm 6)<|e<|cl wO (yi B tb c F xs (bY F n) C E 2 A (J.wk<|hE10.trans i) a ((aV M).2.wk i) (uM a n).1 (uM a n).2.1) aa fun aw ax ag=> ?_
 obtain ⟨ai,ad⟩:=ag
 exact ay<|V<|rt<|ba aa<|⟨eS ai ab,(hE10.trans i).trans ad⟩
theorem BK (B tb:Nat) (J:fX) (F:aG) (xs:List bo) (n:Int) (w:World) (Z:eQ w B tb J F xs) (A:ff F xs):
 bd ao 93 (a7 [aW tb,.int .i64 n]) w (fun v w'=>v= .bool (oH F n)∧Wk w w'):=by
 refine enter func93 aa ntmps93 aa<|ak fun ad=>ay<|ad<|ak fun ae=>au (aW tb)<|au (.int .i64 n)<|e<|cl wo (se B tb J F xs n w Z A) aa fun v10 av an=> ?_
 obtain ⟨⟨ax,rfl,ac⟩,hE10⟩:=an
 obtain ⟨M,O,rfl⟩:=cU ac
 have aE:=hE10.size
 refine p mv<|p (xt aa aa)<|p (xt aa aa)<|e<|al nv fun ah aL aB Y aj=> ?_
 have aF:=Y.size
 refine e<|ca lT aa aa aa aa (aj) (by simp) fun c V ai=> ?_
 have U:Wk av c:=Y.md.trans' V fun q aC h=>by omega
 have aD:=V.size
 have ar:bw c.heap ah (dC (jr F n,.slice M (bY F n).length O)):=ai
 have C:=hE10.trans U
 have aq:=Z.wk C
 refine ay<|ae<|az fun I=> ?_
 have a:(fun w'=>Wk c w') c.drew:=(Md.refl _ _).drew
 refine bM (fun w'=>Wk c w') aa wide a<|aJ 0 aa (fun _ _=>mv) a<|aJ 1 aa (fun _ _=>mv) a<|ir (t:=14) aa (fun G=> ?_) fun G=> ?_
 refine bg 2 aa (fun _ _=>fa nS aa) a<|bg 3 aa (fun w' E=>ld k8 aa<|Wk.aI E<|ar.bm 6) a<|bg 4 aa (fun _ _=>aH (aW tb) aa) a<|bg 5 aa (fun _ _=>nc aa) a<|bg 6 aa (fun _ _=>fa rO aa) a<|bg 7 aa (fun _ _=>fa tX aa) a<|bg 8 aa (fun _ _=>kM q7 aa aa ab) a<|bg 9 aa (fun w' E=>ld bP aa<|Wk.aI E<|EK aq (k:=0) ab) a<|kq 10 aa ag aa aa aa<|cl A8 (CI M O (bY F n) (F.sp.getD 0 0) c.drew (((aV ac).2.wk U).wk a)<|by have :=(uM A n).1; omega) aa fun aK aw ap=> ?_
 obtain ⟨rfl,am⟩:=ap
 have i:(fun w'=>Wk c w') aw:=a.trans am
 refine ⟨i,?_⟩
 exact bg 11 aa (fun _ _=>no aa) i<|aJ 12 aa (fun _ _=>bL aa) i<|aJ 13 aa (fun _ _=>aA) i<|hn ag<|I<|rt<|ba aa<|⟨by unfold oH; rw [decide_eq_true G,CJ (uM A n).2.2]; rfl,C.trans i⟩
 exact a8 2 aa a<|a8 3 aa a<|a8 4 aa a<|a8 5 aa a<|a8 6 aa a<|a8 7 aa a<|a8 8 aa a<|a8 9 aa a<|a8 10 aa a<|a8 11 aa a<|aJ 12 aa (fun _ _=>bC aa) a<|aJ 13 aa (fun _ _=>aA) a<|hn ag<|I<|rt<|ba aa<|⟨by unfold oH; rw [decide_eq_false G]; rfl,C.trans a⟩
theorem Ox (B tb:Nat) (I:fX) (F:aG) (xs:List bo) (n k:Int) (w:World) (Y:eQ w B tb I F xs) (E:ff F xs):
 bd ao 61 (a7 [aW tb,.int .i64 n,.int .i64 k]) w (fun v w'=>v= .bool (nW F xs n k)∧Wk w w'):=by
 refine enter func61 aa ntmps61 aa<|ak fun ad=>ay<|ad<|ak fun ae=>p mv<|p mv<|e<|cl nO (pU B tb I F xs n w Y E) aa fun v12 aw an=> ?_
 obtain ⟨⟨a12,rfl,ac⟩,hE12⟩:=an
 obtain ⟨J,M,rfl⟩:=cU ac
 have aE:=hE12.size
 refine p mv<|p (xt aa aa)<|p (xt aa aa)<|e<|al lD fun ah aK aB V aj=> ?_
 have aF:=V.size
 refine e<|ca gP aa aa aa aa (aj) (by simp) fun c U ai=> ?_
 have O:Wk aw c:=V.md.trans' U fun q aC h=>by omega
 have aD:=U.size
 have ar:bw c.heap ah [str (fO xs n),.slice J (flagsOf xs n).length M]:=ai
 have i:=hE12.trans O
 have aq:=Y.wk i
 refine ay<|ae<|az fun A=> ?_
 have a:(fun w'=>Wk c w') c.drew:=(Md.refl _ _).drew
 refine bM (fun w'=>Wk c w') aa wide a<|aJ 0 aa (fun _ _=>mv) a<|aJ 1 aa (fun _ _=>mv) a<|ir (t:=16) aa (fun Z=> ?_) fun Z=> ?_
 refine bg 2 aa (fun _ _=>mv) a<|bg 3 aa (fun _ _=>ge aa aa) a<|aJ 4 aa (fun _ _=>bL aa) a<|aJ 5 aa (fun _ _=>mv) a<|ir (t:=20) aa (fun au=> ?_) fun au=> ?_
 refine bg 6 aa (fun _ _=>mv) a<|bg 7 aa (fun _ _=>lt aa aa) a<|aJ 8 aa (fun _ _=>bL aa) a<|aJ 9 aa (fun _ _=>mv) a<|ir (t:=24) aa (fun av=> ?_) fun av=> ?_
 obtain ⟨k,rfl⟩:∃ m:Nat,k=(m:Int):=⟨k.toNat,ab⟩
 refine bg 10 aa (fun _ _=>fa oM aa) a<|bg 11 aa (fun w' G=>ld k8 aa<|Wk.aI G<|ar.bm 1) a<|bg 12 aa (fun _ _=>mv) a<|bg 13 aa (fun _ _=>mv) a<|bg 14 aa (fun _ _=>nc aa) a<|bg 15 aa (fun _ _=>fa rO aa) a<|bg 16 aa (fun _ _=>fa tX aa) a<|bg 17 aa (fun _ _=>kM q7 aa aa ab) a<|bg 18 aa (fun w' G=>ld bP aa<|Wk.aI G<|EK aq ab) a<|kq 19 aa ag aa aa aa<|cl A8 (CI J M (flagsOf xs n) (F.sp.getD k 0) c.drew (((aV ac).2.wk O).wk a)<|by have :=(qm E n).1; omega) aa fun aH ax ap=> ?_
 obtain ⟨rfl,am⟩:=ap
 have C:(fun w'=>Wk c w') ax:=a.trans am
 refine ⟨C,?_⟩
 exact aJ 20 aa (fun _ _=>bL aa) C<|aJ 21 aa (fun _ _=>aA) C<|hn ag<|A<|rt<|ba aa<|⟨by unfold nW qc; rw [decide_eq_true (show 0≤((k:Nat):Int)∧((k:Nat):Int) < 5 by omega),jv,CJ (qm E n).2.2]; rfl,i.trans C⟩
 exact a8 10 aa a<|a8 11 aa a<|a8 12 aa a<|a8 13 aa a<|a8 14 aa a<|a8 15 aa a<|a8 16 aa a<|a8 17 aa a<|a8 18 aa a<|a8 19 aa a<|aJ 20 aa (fun _ _=>bC aa) a<|aJ 21 aa (fun _ _=>aA) a<|hn ag<|A<|rt<|ba aa<|⟨by unfold nW; rw [decide_eq_false (show ¬(0≤k∧k < 5) by omega)]; rfl,i.trans a⟩
 exact a8 6 aa a<|a8 7 aa a<|aJ 8 aa (fun _ _=>bC aa) a<|aJ 9 aa (fun _ _=>mv) a<|a8 10 aa a<|a8 11 aa a<|a8 12 aa a<|a8 13 aa a<|a8 14 aa a<|a8 15 aa a<|a8 16 aa a<|a8 17 aa a<|a8 18 aa a<|a8 19 aa a<|aJ 20 aa (fun _ _=>bC aa) a<|aJ 21 aa (fun _ _=>aA) a<|hn ag<|A<|rt<|ba aa<|⟨by unfold nW; rw [decide_eq_false (show ¬(0≤k∧k < 5) by omega)]; rfl,i.trans a⟩
 exact a8 2 aa a<|a8 3 aa a<|aJ 4 aa (fun _ _=>bC aa) a<|aJ 5 aa (fun _ _=>mv) a<|a8 6 aa a<|a8 7 aa a<|aJ 8 aa (fun _ _=>bC aa) a<|aJ 9 aa (fun _ _=>mv) a<|a8 10 aa a<|a8 11 aa a<|a8 12 aa a<|a8 13 aa a<|a8 14 aa a<|a8 15 aa a<|a8 16 aa a<|a8 17 aa a<|a8 18 aa a<|a8 19 aa a<|aJ 20 aa (fun _ _=>bC aa) a<|aJ 21 aa (fun _ _=>aA) a<|hn ag<|A<|rt<|ba aa<|⟨by unfold nW qc; rw [(tt Z).2,decide_eq_false (show ¬(F.sp.getD k.toNat 0≠0∧F.sp.getD k.toNat 0∈[]) from fun h=>by cases h.2),vc]; rfl,i.trans a⟩
end Go.Hb.lO
section
namespace Go.Hb
open Go.Hb.ov
theorem Q2 {ps:List Tx} {w:Tx} {i:Nat} (hi:i < ps.length) (h:eI (ps.getD i []) (w.getD i 0)=false):mL ps w=false :=by
 unfold mL
 rw [Bool.and_eq_false_iff]
 refine .inr ?_
 rw [List.all_eq_false]
 exact ⟨i,by simpa using hi,by rw [h]; exact c7⟩
theorem Q4 {ps:List Tx} {w:Tx} (a:ps.length≤w.length) (h:∀ i,i < ps.length→eI (ps.getD i []) (w.getD i 0)=true):mL ps w=true :=by
 unfold mL
 rw [fE,decide_eq_true a,List.all_eq_true]
 exact ⟨aa,fun i hi=>h i<|by simpa using hi⟩
theorem Q3 {ps:List Tx} {w:Tx} (h:w.length < ps.length):mL ps w=false :=by
 unfold mL; rw [decide_eq_false ab]; rfl
theorem MV (s pr:List UInt8) (w:World) (hs:s.length≤1099511627776) (hp:pr.length≤1099511627776):
 bd ao 147 (a7 [str s,str pr]) w (fun v w'=>v= .bool (decide (s.take pr.length=pr))∧Wk w w'):=by
 refine enter func147 aa ntmps147 aa<|ak fun a=>ay<|a<|ak fun c=>au (str s)<|au (str pr)<|e<|cl wm (xU s pr _ hs hp) aa fun A C q=> ?_
 obtain ⟨rfl,i⟩:=q
 exact ay<|c<|rt<|ba aa<|⟨aa,i⟩
theorem MW (s pr:List UInt8) (w:World) (hs:s.length≤1099511627776) (hp:pr.length≤1099511627776):
 bd ao 145 (a7 [str s,str pr]) w (fun v w'=>v= .bool (decide (pr.length≤s.length∧s.drop (s.length - pr.length)=pr))∧Wk w w'):=by
 refine enter func145 aa ntmps145 aa<|ak fun a=>ay<|a<|ak fun c=>au (str s)<|au (str pr)<|e<|cl wj (xV s pr _ hs hp) aa fun A C q=> ?_
 obtain ⟨rfl,i⟩:=q
 exact ay<|c<|rt<|ba aa<|⟨aa,i⟩
theorem Pk (ps:List Tx) (a:Option Addr) (c:Nat) (i:Nat) (b:UInt8) (w:World) (C:aE w.heap a (jH ps)) (hi:i < ps.length) (ac:ps.length≤4096):
 bd ao 212 (a7 [.agg [.slice a ps.length c].toArray,aj i,.int .u8 b.toNat]) w (fun v w'=>v= .bool (eI (ps.getD i []) b)∧Wk w w'):=by
 refine enter func212 aa ntmps212 aa<|ak fun G=>e<|iV aa fun J E V q M=> ?_
 have A:bw E.heap J [.slice a ps.length c]:=M
 refine ay<|G<|ak fun I=>au (aj i)<|p (ge aa aa)<|p mv<|gs (t:=9) aa (fun Z=> ?_) fun h=>absurd ab h
 refine aU aa (aH (aj i) aa)<|aU aa (fa kL aa)<|aU aa (ld lP aa<|A.bm 0)<|aU aa (bO n7 aa aa)<|aU aa (lt aa aa)<|p (bL aa)<|p mv<|gs (t:=16) aa (fun Y=> ?_) fun h=>absurd ab h
 refine aU aa (fa kL aa)<|aU aa (ld lP aa<|A.bm 0)<|aU aa (aH (aj i) aa)<|aU aa (a6 BP aa aa ab<|aE.ok (C.wk q.md)<|Bg ab)<|aU aa (cz ji aa (aa)<|Bf (C.wk q.md) hi)<|aU aa (aH (.int .u8 b.toNat) aa)<|eg aa aa aa<|cl wq (CK (eI<|ps.getD i []) b E) aa fun ad ae U=> ?_
 obtain ⟨rfl,O⟩:=U
 exact p (bL aa)<|ay<|I<|rt<|ba aa<|⟨aa,q.md.trans O⟩
theorem DZ (ps:List Tx) (a:Option Addr) (c:Nat) (s:Tx) (w:World) (ax:aE w.heap a (jH ps)) (aH:ps.length≤4096):
 bd ao 148 (a7 [.agg [.slice a ps.length c].toArray,str s]) w (fun v w'=>v= .bool (mL ps s)∧Wk w w'):=by
 refine enter func148 aa ntmps148 aa<|ak fun ah=>e<|iV aa fun V ae aP G aw=> ?_
 have M:bw ae.heap V [.slice a ps.length c]:=aw
 refine ay<|ah<|az fun am=>ak fun an=>au (str s)<|p (dv u9 aa aa)<|p (fa kL aa)<|p (ld lP aa<|M.bm 0)<|p (bO n7 aa aa)<|p (lt aa aa)<|nl<|an<|cd aa (fun aF=> ?_) fun aF=> ?_
 exact ak fun I=>ay<|I<|rt<|tr<|ba aa<|⟨by rw [Q3 ab]; rfl,G.md⟩
 refine aO<|am<|az fun I=>ak fun ap=>p (fa kL aa)<|p (ld lP aa<|M.bm 0)<|p (bO n7 aa aa)<|p mv<|nl<|ap<|aB<|lp (fun Y E A=> ∃ (i:Nat),(i≤ps.length)∧(∀ k,k < i→eI (ps.getD k []) (s.getD k 0)=true)∧(Wk ae A)∧(E 1=str s)∧(E 2=aW V)∧(E 14=aj (ps.length))∧(E 15=aj i)∧(ps.length - i=Y)) _ ⟨0,ab,(fun k hk=>absurd hk<|Nat.not_lt_zero _),(Md.refl _ _),aa,aa,aa,aa,aa⟩ ?_
 rintro Y E A ⟨i,hi,ac,C,aI,aM,aK,aL,rfl⟩
 refine fx 1 aI<|fx 2 aM<|fx 14 aK<|fx 15 aL<|ak fun aq=>p (lt aa aa)<|nl<|aq<|az fun ar=>cd aa (fun aG=> ?_) fun aG=> ?_
 refine aO<|ar<|az fun J=>aB<|ak fun av=>au (aj i)<|p (bZ (aj i) aa)<|nl<|av<|az fun ai=> ?_
 have q:(fun w'=>Wk A w') A.drew:=(Md.refl _ _).drew
 refine bM (fun w'=>Wk A w') aa wide q<|aJ 0 aa (fun w' aD=>cz k5 aa (aa) fun j aQ=>(Wk.B aD<|Wk.B C M).bm j) q<|bH 1 aa (aj i) q<|bH 2 aa (str s) q<|bH 3 aa (aj i) q<|aJ 4 aa (fun _ _=>jm u9 aa aa ab) q<|he 5 aa ag<|cl Ik (Pk ps a c i (s.getD i 0) A.drew (ax.wk<|G.md.trans<|C.trans q) ab aH) aa fun aR aN aC=> ?_
 obtain ⟨rfl,O⟩:=aC
 have Z:(fun w'=>Wk A w') aN:=q.trans O
 refine ⟨Z,?_⟩
 refine aJ 6 aa (fun _ _=>no aa) Z<|hn ag<|ai<|cb aa (fun U=> ?_) fun U=> ?_
 exact ak fun al=>ay<|al<|rt<|br<|tr<|tr<|br<|tr<|ba aa<|⟨by rw [Q2 (i:=i) ab (by simpa using U)]; rfl,G.md.trans<|C.trans<|q.trans O⟩
 exact aO<|bn<|J<|rg aa<|p (ad aa aa<|cg ab)<|p mv<|nl<|tn<|⟨_,ab,i+1,ab,(fun k hk=>by rcases Nat.lt_succ_iff_lt_or_eq.1 hk with h | rfl; exact ac k h; simpa using U),(C.trans<|q.trans O),aa,aa,aa,aa,aa⟩
 exact ext<|bj<|bj<|be<|I<|ak fun J=>p aA<|nl<|J<|rt<|ba aa<|⟨by rw [Q4 ab (fun k hk=>ac k ab)]; rfl,G.md.trans C⟩
section
variable {r:cG} {s:Tx}
theorem Mf (h:(dH r.cond).2≠0):gZ r s=false :=by unfold gZ; rw [decide_eq_false (fun h2=>h h2.1)]; rfl
theorem Mg (h:s.length≤r.strip.length):gZ r s=false :=by unfold gZ; rw [decide_eq_false (fun h2=>by omega)]; rfl
variable (h:(dH r.cond).2=0) (h1:r.strip.length < s.length)
include h h1
theorem Cb (hk:r.kind=2):gZ r s=(decide (s.drop (s.length - r.strip.length)=r.strip) && rA (dH r.cond).1 s):=by unfold gZ; rw [decide_eq_true ⟨h,h1⟩,if_pos hk]; rfl
theorem Ca (hk:r.kind=1):gZ r s=(decide (s.take r.strip.length=r.strip) && mL (dH r.cond).1 s):=by unfold gZ; rw [decide_eq_true ⟨h,h1⟩,if_neg ab,if_pos hk]; rfl
omit h h1 in
theorem Me (hk:r.kind≠1) (a:r.kind≠2):gZ r s=false :=by unfold gZ; rw [if_neg a,if_neg hk,vc]
end
theorem Ps (ps:List Tx) (a:Option Addr) (c:Nat) (s:Tx) (w:World) (U:aE w.heap a (jH ps)) (ac:ps.length≤4096) (ai:s.length≤1048576):
 bd ao 146 (a7 [.agg [.slice a ps.length c].toArray,str s]) w (fun v w'=>v= .bool (rA ps s)∧Wk w w'):=by
 refine enter func146 aa ntmps146 aa<|ak fun J=>e<|iV aa fun M q ae G O=> ?_
 have E:bw q.heap M [.slice a ps.length c]:=O
 refine ay<|J<|az fun I=> ?_
 have i:(fun w'=>Wk q w') q.drew:=(Md.refl _ _).drew
 refine bM (fun w'=>Wk q w') aa wide i<|bH 0 aa (str s) i<|aJ 1 aa (fun _ _=>dv u9 aa aa) i<|aJ 2 aa (fun _ _=>fa kL aa) i<|aJ 3 aa (fun w' A=>ld lP aa<|Wk.aI A<|E.bm 0) i<|aJ 4 aa (fun _ _=>bO n7 aa aa) i<|aJ 5 aa (fun _ _=>ge aa aa) i<|aJ 6 aa (fun _ _=>mv) i<|ir (t:=11) aa (fun Z=> ?_) fun Z=> ?_
 refine bg 7 aa (fun w' A=>cz k5 aa (aa) fun j ah=>(Wk.B A E).bm j) i<|bg 8 aa (fun _ _=>aH (str s) aa) i<|bg 9 aa (fun _ _=>aH (str s) aa) i<|bg 10 aa (fun _ _=>dv u9 aa aa) i<|bg 11 aa (fun _ _=>fa kL aa) i<|bg 12 aa (fun w' A=>ld lP aa<|Wk.aI A<|E.bm 0) i<|bg 13 aa (fun _ _=>bO n7 aa aa) i<|bg 14 aa (fun _ _=>c4 ((s.length - ps.length:Nat):Int) aa aa<|bf ab ab) i<|bg 15 aa (fun _ _=>nn u9 aa aa ab) i<|kq 16 aa ag aa aa aa<|cl AE (DZ ps a c (s.drop<|s.length - ps.length) q.drew (U.wk<|G.md.trans i) ac) aa fun v21 ad Y=> ?_
 obtain ⟨rfl,V⟩:=Y
 have C:(fun w'=>Wk q w') ad:=i.trans V
 refine ⟨C,?_⟩
 exact aJ 17 aa (fun _ _=>bL aa) C<|aJ 18 aa (fun _ _=>aA) C<|hn ag<|I<|rt<|ba aa<|⟨by unfold rA; rw [decide_eq_true (show ps.length≤s.length by omega)]; rfl,G.md.trans C⟩
 exact a8 7 aa i<|a8 8 aa i<|a8 9 aa i<|a8 10 aa i<|a8 11 aa i<|a8 12 aa i<|a8 13 aa i<|a8 14 aa i<|a8 15 aa i<|a8 16 aa i<|aJ 17 aa (fun _ _=>bC aa) i<|aJ 18 aa (fun _ _=>aA) i<|hn ag<|I<|rt<|ba aa<|⟨by unfold rA; rw [decide_eq_false (show ¬ps.length≤s.length by omega)]; rfl,G.md.trans i⟩
theorem Mh (r:cG) (u:Value) (s:Tx) (w:World) (a9:r.strip.length≤1048576) (a4:r.add.length≤1048576) (aS:r.cond.length≤1048576) (aW:s.length≤1048576):
 bd ao 94 (a7 [.agg (dC (r,u)).toArray,str s]) w (fun v w'=>v= .bool (gZ r s)∧Wk w w'):=by
 refine enter func94 aa ntmps94 aa<|ak fun am=>e<|iV aa fun av aj a0 ag aA=> ?_
 have a8:((r,u):cG×Value).1.strip.length=r.strip.length:=rfl
 have a6:((r,u):cG×Value).1.kind=r.kind:=rfl
 have a5:((r,u):cG×Value).1.add.length=r.add.length:=rfl
 have Z:bw aj.heap av (dC (r,u)):=aA
 refine ay<|am<|ak fun an=>p (fa Ct aa)<|p (ld cO aa<|Z.bm 5)<|e<|cl AD (Bn r.cond aj aS) aa fun v10 aX aG=> ?_
 obtain ⟨⟨ac,rfl,ai⟩,hE10⟩:=aG
 obtain ⟨a,c,rfl⟩:=cU ai
 have ae:=(aV ai).2
 have a2:=Bl r.cond
 have bc:=ag.size
 have bb:=hE10.size
 refine p mv<|p (xt aa aa)<|p (xt aa aa)<|e<|al uY fun aw bl a1 ah aC=> ?_
 have bf:=ah.size
 refine e<|ca nP aa aa aa aa (aC) (by simp) fun O aF ax=> ?_
 have I:Wk aX O:=ah.md.trans' aF fun q a3 h=>by omega
 have ad:bw O.heap aw [.slice a (dH r.cond).1.length c]:=ax
 have G:=Wk.B (hE10.trans I) Z
 have i:=ag.md.trans<|hE10.trans I
 refine ay<|an<|az fun ap=>ak fun Y=>p mv<|p (fR aa aa)<|p mv<|gs (t:=15) aa (fun aN=> ?_) fun aN=> ?_
 refine aK aa<|aK aa<|aK aa<|aK aa<|aK aa<|aK aa<|p (bL aa)<|nl<|Y<|ct aa<|ak fun A=>ay<|A<|rt ?_
 exact tr<|ba aa<|⟨by rw [Mf ab]; rfl,i⟩
 refine aU aa (aH (str s) aa)<|aU aa (dv u9 aa aa)<|aU aa (fa p7 aa)<|aU aa (ld cO aa<|G.bm 3)<|aU aa (dv u9 aa aa)<|aU aa (le aa aa)<|p (bC aa)<|nl<|Y<|cd aa (fun aT=> ?_) fun aT=> ?_
 exact ak fun A=>ay<|A<|rt<|tr<|ba aa<|⟨by rw [Mg ab]; rfl,i⟩
 refine aO<|ap<|az fun A=>ak fun aq=>p (fa xM aa)<|p (ld bK aa<|G.bm 0)<|nl<|aq<|aB<|ak fun ar=>p (bR aa aa)<|ay<|ar ?_
 refine cd aa (fun aR=> ?_) fun aR=> ?_
 refine ak fun C=>au (str s)<|p (fa p7 aa)<|p (ld cO aa<|G.bm 3)<|e<|cl H6 (MW s r.strip O ab ab) aa fun v30 aY aI=> ?_
 obtain ⟨rfl,J⟩:=aI
 refine p mv<|gb (t:=31) aa (fun V=> ?_) fun V=> ?_
 refine aU aa (cz k5 aa (aa) fun j aP=>(Wk.B J ad).bm j)<|aU aa (aH (str s) aa)<|eg aa aa aa<|cl H7 (Ps (dH r.cond).1 a c s aY (ae.wk<|I.trans J) ab aW) aa fun bg bj aJ=> ?_
 obtain ⟨rfl,aD⟩:=aJ
 exact p (bL aa)<|ay<|C<|rt<|br<|tr<|ba aa<|⟨by rw [Cb ab ab ab,decide_eq_true (of_decide_eq_true V).2]; rfl,i.trans<|J.trans aD⟩
 exact aK aa<|aK aa<|aK aa<|p (bC aa)<|ay<|C<|rt<|br<|tr<|ba aa<|⟨by rw [Cb ab ab ab,decide_eq_false (fun h=>of_decide_eq_false V ⟨ab,h⟩)]; rfl,i.trans J⟩
 refine ak fun C=>p (bR aa aa)<|ay<|C<|cd aa (fun aQ=> ?_) fun aQ=> ?_
 refine ak fun E=>au (str s)<|p (fa p7 aa)<|p (ld cO aa<|G.bm 3)<|e<|cl H8 (MV s r.strip O ab ab) aa fun bh aZ aL=> ?_
 obtain ⟨rfl,M⟩:=aL
 refine p mv<|gb (t:=42) aa (fun U=> ?_) fun U=> ?_
 refine aU aa (cz k5 aa (aa) fun j aP=>(Wk.B M ad).bm j)<|aU aa (aH (str s) aa)<|eg aa aa aa<|cl AE (DZ (dH r.cond).1 a c s aZ (ae.wk<|I.trans M) ab) aa fun bi bk aM=> ?_
 obtain ⟨rfl,aE⟩:=aM
 exact p (bL aa)<|ay<|E<|rt<|br<|tr<|ba aa<|⟨by rw [Ca ab ab ab,U]; rfl,i.trans<|M.trans aE⟩
 exact aK aa<|aK aa<|aK aa<|p (bC aa)<|ay<|E<|rt<|br<|tr<|ba aa<|⟨by rw [Ca ab ab ab,U]; rfl,i.trans M⟩
 exact aO<|bn<|A<|ak fun E=>ay<|E<|rt<|ba aa<|⟨by rw [Me ab ab]; rfl,i⟩
def n4 (s p:Tx):Tx:=if p.length≤s.length∧s.drop (s.length - p.length)=p then s.take (s.length - p.length) else s
theorem Hv {r:cG} {s:Tx} (h:gZ r s=false):cQ r s=none:=if_neg<|by rw [h]; exact c7
theorem xx {r:cG} {s:Tx} (h:gZ r s=true):r.strip.length < s.length∧(r.kind=2→s.drop (s.length - r.strip.length)=r.strip)∧(r.kind≠2→s.take r.strip.length=r.strip):=by
 unfold gZ at h
 rw [fE,decide_eq_true_eq] at h
 refine ⟨h.1.2,fun hk=> ?_,fun hk=> ?_⟩
 · have h2:=h.2; rw [if_pos hk,fE] at h2; exact of_decide_eq_true h2.1
 · have h2:=h.2; rw [if_neg hk] at h2
   split at h2
   · rw [fE] at h2; exact of_decide_eq_true h2.1
   · cases h2
theorem Hx {r:cG} {s:Tx} (h:gZ r s=true) (hk:r.kind=2):cQ r s=some (n4 s r.strip++r.add):=by
 have h1:=xx h
 unfold cQ n4; rw [if_pos h,if_pos hk,if_pos ⟨ab,h1.2.1 hk⟩]
theorem Hw {r:cG} {s:Tx} (h:gZ r s=true) (hk:r.kind≠2):cQ r s=some (r.add++eV s r.strip):=by
 have h1:=xx h
 unfold cQ eV; rw [if_pos h,if_neg hk,if_pos (h1.2.2 hk)]
def r5 (x:Option Tx):Value:= .tuple #[str (x.getD []),.bool x.isSome]
theorem Ru (s pr:List UInt8) (w:World) (hs:s.length≤1099511627776) (hp:pr.length≤1099511627776):
 bd ao 149 (a7 [str s,str pr]) w (fun v w'=>v=str (n4 s pr)∧Wk w w'):=by
 refine enter func149 aa ntmps149 aa<|ak fun A=>ay<|A<|az fun C=>ak fun E=>au (str s)<|au (str pr)<|e<|cl wj (xV s pr _ hs hp) aa fun I J G=> ?_
 obtain ⟨rfl,q⟩:=G
 refine nl<|E<|cb aa (fun c=> ?_) fun c=> ?_
 have i:=of_decide_eq_true c
 exact ak fun a=>au (str s)<|au (str s)<|p (dv u9 aa aa)<|au (str pr)<|p (dv u9 aa aa)<|p (c4 ((s.length - pr.length:Nat):Int) aa aa<|bf ab ab)<|p (sj u9 aa aa ab)<|ay<|a<|rt<|tr<|ba aa<|⟨by show str (s.take (((s.length - pr.length:Nat):Int)).toNat)=_; unfold n4; rw [if_pos i]; rfl,q⟩
 have i:=of_decide_eq_false c
 exact aO<|C<|ak fun a=>au (str s)<|p (bZ (str s) aa)<|nl<|a<|rt<|ba aa<|⟨by show str s=_; unfold n4; rw [if_neg i],q⟩
theorem Rv (s pr:List UInt8) (w:World) (hs:s.length≤1099511627776) (hp:pr.length≤1099511627776):
 bd ao 95 (a7 [str s,str pr]) w (fun v w'=>v=str (n4 s pr)∧Wk w w'):=by
 refine enter func95 aa ntmps95 aa<|ak fun a=>ay<|a<|ak fun c=>au (str s)<|au (str pr)<|e<|cl AF (Ru s pr _ hs hp) aa fun A C q=> ?_
 obtain ⟨rfl,i⟩:=q
 exact ay<|c<|rt<|ba aa<|⟨aa,i⟩
theorem q6 (r:cG) (u:Value) (s:Tx) (w:World) (aw:r.strip.length≤1048576) (ar:r.add.length≤1048576) (av:r.cond.length≤1048576) (ax:s.length≤1048576):
 bd ao 59 (a7 [.agg (dC (r,u)).toArray,str s]) w (fun v w'=>v=r5 (cQ r s)∧Wk w w'):=by
 refine enter func59 aa ntmps59 aa<|ak fun Z=>e<|iV aa fun ah Y aD am ai=> ?_
 have aK:((r,u):cG×Value).1.strip.length=r.strip.length:=rfl
 have aH:((r,u):cG×Value).1.kind=r.kind:=rfl
 have aG:((r,u):cG×Value).1.add.length=r.add.length:=rfl
 have U:bw Y.heap ah (dC (r,u)):=ai
 refine p aA<|ay<|Z<|az fun ac=>ak fun ad=>p (cz jF aa (aa) fun j aF=>U.bm j)<|au (str s)<|e<|cl Jf (Mh r u s Y aw ar av ax) aa fun aN a aq=> ?_
 obtain ⟨rfl,V⟩:=aq
 have E:=Wk.B V U
 have M:=am.md.trans V
 refine p (no aa)<|nl<|ad<|cb aa (fun O=> ?_) fun O=> ?_
 have G:gZ r s=false :=by simpa using O
 exact ak fun I=>p aA<|ay<|I<|rt<|tr<|f2 aa aa aa<|⟨by rw [Hv G]; rfl,M⟩
 have G:gZ r s=true :=by simpa using O
 have aE:=(xx G).1
 refine aO<|ac<|az fun I=>ak fun ae=>p (fa xM aa)<|p (ld bK aa<|E.bm 0)<|p (bR aa aa)<|nl<|ae<|cd aa (fun hk=> ?_) fun hk=> ?_
 refine az fun J=> ?_
 have i:(fun w'=>Wk a w') a.drew:=(Md.refl _ _).drew
 refine bM (fun w'=>Wk a w') aa wide i<|bH 0 aa (str s) i<|aJ 1 aa (fun _ _=>fa p7 aa) i<|aJ 2 aa (fun w' c=>ld cO aa<|Wk.aI c<|E.bm 3) i<|aJ 4 aa (fun _ _=>fa xN aa) i<|aJ 5 aa (fun w' c=>ld cO aa<|Wk.aI c<|E.bm 4) i<|he 3 aa ag<|cl A6 (Rv s r.strip a.drew ab ab) aa fun aL aB an=> ?_
 obtain ⟨rfl,aj⟩:=an
 have A:(fun w'=>Wk a w') aB:=i.trans aj
 refine ⟨A,?_⟩
 exact aJ 6 aa (fun _ _=>cc aa aa (by have :(n4 s r.strip).length≤s.length:=(by unfold n4; split <;> simp <;> omega); omega)) A<|aJ 7 aa (fun _ _=>aA) A<|aJ 8 aa (fun _ _=>aA) A<|hn ag<|J<|rt<|tr<|f2 aa aa aa<|⟨by rw [Hx G ab]; rfl,M.trans A⟩
 refine aO<|I<|az fun J=> ?_
 have q:(fun w'=>Wk a w') a.drew:=(Md.refl _ _).drew
 refine bM (fun w'=>Wk a w') aa wide q<|aJ 0 aa (fun _ _=>fa xN aa) q<|aJ 1 aa (fun w' c=>ld cO aa<|Wk.aI c<|E.bm 4) q<|bH 2 aa (str s) q<|aJ 3 aa (fun _ _=>fa p7 aa) q<|aJ 4 aa (fun w' c=>ld cO aa<|Wk.aI c<|E.bm 3) q<|he 5 aa ag<|cl A7 (EM s r.strip a.drew ab ab) aa fun aM aC ap=> ?_
 obtain ⟨rfl,al⟩:=ap
 have C:(fun w'=>Wk a w') aC:=q.trans al
 refine ⟨C,?_⟩
 exact aJ 6 aa (fun _ _=>cc aa aa (by have :(eV s r.strip).length≤s.length:=(by unfold eV; split <;> simp); omega)) C<|aJ 7 aa (fun _ _=>aA) C<|aJ 8 aa (fun _ _=>aA) C<|hn ag<|J<|rt<|f2 aa aa aa<|⟨by rw [Hw G ab]; rfl,M.trans C⟩
end Go.Hb
end
section
namespace Go.Hb
open Go.Hb.lO
def eG (d:cJ):List Value:= [str d.mM,.int .i64 (d.tL:Nat),.int .i64 d.fst,.int .i64 d.snd,.int .i64 d.pre]
def jl (l:List cJ):List Value:=l.flatMap eG
def nQ (d:cJ):Array Value:= #[.agg (eG d).toArray]
theorem pL {h:Array Obj} {b e:Nat} {L:List Value} (a:h[b]? =some (.cells L.toArray e (0,0))):bw h b L:=⟨e,a⟩
def Rn (F:aG) (n:Int):Prop :=n= -1∨(0≤n∧n < F.rules.length)
section
variable {F:aG} {xs:List bo} {e:Nat} {f s p:Int}
theorem MT (a:f= -1) (hp:p= -1):eo F xs e f s p= !qc F xs e 0:=by unfold eo; rw [if_pos a,decide_eq_false (fun h=>h hp)]; rfl
theorem MU (a:f= -1) (hp:p≠ -1):eo F xs e f s p=true :=by unfold eo; rw [if_pos a,decide_eq_true hp]; rfl
theorem CG (a:f≠ -1) (h:oH F (if s= -1 then f else s)=false):eo F xs e f s p=false :=by unfold eo; rw [if_neg a,if_pos h]
theorem CF (a:f≠ -1) (h:oH F (if s= -1 then f else s)=true) (hp:p= -1):eo F xs e f s p=true :=by unfold eo; rw [if_neg a,if_neg (by rw [h]; exact c7),decide_eq_true hp]; rfl
theorem p8 (a:f≠ -1) (h:oH F (if s= -1 then f else s)=true) (hp:p≠ -1):eo F xs e f s p=(my F f && my F s && my F p):=by unfold eo; rw [if_neg a,if_neg (by rw [h]; exact c7),decide_eq_false hp]; rfl
theorem Kp:my F (-1)=true :=by unfold my; rw [decide_eq_true rfl]; rfl
theorem rm {k:Nat} {r:cG} (a:F.rules[k]? =some r):my F k=r.fI:=by
 unfold my
 rw [decide_eq_false ab,jv,cX,a]; rfl
end
theorem Ow (F:aG) (xs:List bo) (e:Int):nW F xs e 0=qc F xs e 0:=rfl
theorem EH {α β:Type} {g:α→Option β} {l:List α} {i:Nat} (d:α) (h:i < l.length):(l.take<|i+1).filterMap g=(l.take i).filterMap g++(g<|l.getD i d).toList:=by
 rw [ky l i d h,zJ]
 congr 1
structure pE where
 ar:Option Addr
 cr:Nat
 rn:List Value
 ap:Option Addr
 cp:Nat
def lX (tb l:Nat) (K:pE) (F:aG) (e:Int) (word:Tx) (ps:List Nat):List Value:= [.pointer (some ⟨tb,0,none⟩),.slice K.ar F.rules.length K.cr,.int .i64 e,str word,.slice K.ap ps.length K.cp,.func (.yield l) #[] #[]]
structure gX (w:World) (fp:Nat→Prop) (S0 mb tb l:Nat) (K:pE) (F:aG) (e:Int) (word:Tx) (ps:List Nat):Prop where
 lo:S0≤mb
 cells:w.heap[mb]? =some (.cells (lX tb l K F e word ps).toArray 183 (0,0))
 nf:¬fp mb
 ru:bp w S0 77 7 (.slice K.ar F.rules.length K.cr) F.rules.length (eC<|F.rules.zip K.rn)
 rf:∀ k,(bB K.ar F.rules.length K.cr).ownBlock=some k→¬fp k
 rn:K.rn.length=F.rules.length
 pr:bp w S0 3 1 (.slice K.ap ps.length K.cp) ps.length (ps.map gN)
 pf:∀ k,(bB K.ap ps.length K.cp).ownBlock=some k→¬fp k
section
variable {w w':World} {fp fp':Nat→Prop} {S0 mb tb l:Nat} {K:pE} {F:aG} {e:Int} {word:Tx} {ps:List Nat}
theorem gX.gw (h:gX w fp S0 mb tb l K F e word ps) (a:Gw S0 fp w fp' w'):gX w' fp' S0 mb tb l K F e word ps:=
 ⟨h.lo,(a.aB h.cells h.lo h.nf).1,(a.aB h.cells h.lo h.nf).2,(a.own h.ru h.rf).1,(a.own h.ru h.rf).2,h.rn,(a.own h.pr h.pf).1,(a.own h.pr h.pf).2⟩
theorem gX.wk (h:gX w fp S0 mb tb l K F e word ps) (hm:Wk w w'):gX w' fp S0 mb tb l K F e word ps:=h.gw<|Gw.wk hm
theorem gX.rV (h:gX w fp S0 mb tb l K F e word ps) {G:Nat→Prop} (hm:Md G w w') {L:List Nat} (c:TF w L G) (a:(L.contains 185 || L.contains 79 || L.contains 5)=false):gX w' fp S0 mb tb l K F e word ps:=by
 simp only [Bool.or_eq_false_iff] at a
 exact ⟨h.lo,hm.im c h.cells a.1.1,h.nf,cW h.ru hm c a.1.2,h.rf,h.rn,cW h.pr hm c a.2,h.pf⟩
theorem gX.ku (h:gX w fp S0 mb tb l K F e word ps) {k:Nat} {r:cG} (a:F.rules[k]? =some r):∃ u,(F.rules.zip K.rn)[k]? =some (r,u):=by
 have hk:=(eH.1 a).1
 have c:k < K.rn.length:=by rw [h.rn]; exact hk
 exact ⟨K.rn[k],iR.2 ⟨a,cj c⟩⟩
end
theorem DX {α:Type} {a b c:List α} (h:b <+:c):a++b <+:a++c:=by obtain ⟨t,rfl⟩:=h; exact ⟨t,by rw [dK]⟩
theorem Kv {F:aG} {xs:List bo} {e:Nat} {word:Tx} {f s:Int} {p:Nat} (h:eo F xs e f s p=false):iq F xs e word f s p=none:=if_neg<|by rw [h]; exact c7
theorem Ku {F:aG} {xs:List bo} {e:Nat} {word:Tx} {f s:Int} {p:Nat} (h:cQ (F.rules.getD p di) word=none):iq F xs e word f s p=none:=by unfold iq; rw [h]; split <;> rfl
theorem Kw {F:aG} {xs:List bo} {e:Nat} {word v:Tx} {f s:Int} {p:Nat} (h:eo F xs e f s p=true) (h1:cQ (F.rules.getD p di) word=some v):iq F xs e word f s p=some ⟨v,e,f,s,p⟩:=by unfold iq; rw [if_pos h,h1]; rfl
theorem xS (B tb:Nat) (aq:fX) (F:aG) (xs:List bo) (ar:Option Addr) (cr:Nat) (rn:List Value) (word:Tx) (en:Nat) (f s pp:Int) (w:World) (aZ:eQ w B tb aq F xs) (aD:ff F xs) (aS:aE w.heap ar (eC<|F.rules.zip rn)) (al:rn.length=F.rules.length) (ad:Rn F f) (hs:Rn F s) (hp:Rn F pp):
 bd ao 57 (a7 [aW tb,.slice ar F.rules.length cr,.agg (eG ⟨word,en,f,s,pp⟩).toArray]) w (fun v w'=>v= .bool (eo F xs en f s pp)∧Wk w w'):=by
 refine enter func57 aa ntmps57 aa<|ak fun aP=>e<|iV aa fun aQ ap a ax aR=> ?_
 have bb:=ax.size
 have U:=aZ.wk ax.md
 have a:bw ap.heap aQ [str word,aj en,.int .i64 f,.int .i64 s,.int .i64 pp]:=aR
 have i:Wk w ap:=ax.md
 have G:=aS.wk ax.md
 refine ay<|aP<|az fun aI=>aB<|ak fun aL=>p (fa kn aa)<|p (ld bK aa<|a.bm 2)<|p (lt aa aa)<|p mv<|gs (t:=11) aa (fun aF=> ?_) fun aF=> ?_
 refine aU aa (fa mC aa)<|aU aa (ld bK aa<|a.bm 4)<|aU aa (lt aa aa)<|p (bL aa)<|ay<|aL<|cd aa (fun a8=> ?_) fun a8=> ?_
 refine ak fun ae=>p mv<|p (fa rN aa)<|p (ld bK aa<|a.bm 1)<|e<|cl I5 (Ox B tb aq F xs (en:Nat) 0 ap U aD) aa fun bc bh aV=> ?_
 obtain ⟨rfl,aT⟩:=aV
 refine p (no aa)<|ay<|ae<|rt<|br<|tr<|ba aa ?_
 have c:eo F xs en f s pp= !nW F xs en 0:=by rw [MT (by unfold Rn at ad; omega) (by unfold Rn at hp; omega),Ow]
 exact ⟨Eq.trans (b:=bQ<|!nW F xs en 0) aa (congrArg bQ c.symm),i.trans aT⟩
 refine ak fun ae=>p (fa kn aa)<|p (ld bK aa<|a.bm 2)<|p (lt aa aa)<|ay<|ae<|cd aa (fun a0=> ?_) fun h=>absurd aF h
 refine ak fun ag=>ay<|ag<|rt<|br<|tr<|ba aa ?_
 have c:eo F xs en f s pp=true :=by exact MU (by unfold Rn at ad; omega) ab
 exact ⟨Eq.trans (b:=bQ<|true) aa (congrArg bQ c.symm),i⟩
 refine aK aa<|aK aa<|aK aa<|p (bC aa)<|ay<|aL<|cf aa<|ak fun ae=>p (fa kn aa)<|p (ld bK aa<|a.bm 2)<|p (lt aa aa)<|ay<|ae<|cd aa (fun h=>absurd h aF) fun a0=> ?_
 refine az fun ag=>ak fun aM=>p (fa ko aa)<|p (ld bK aa<|a.bm 3)<|p (lt aa aa)<|p mv<|gs (t:=29) aa (fun aH=> ?_) fun aH=> ?_
 refine aU aa mv<|aU aa (fa kn aa)<|aU aa (ld bK aa<|a.bm 2)<|eg aa aa aa<|cl A5 (BK B tb aq F xs f ap U aD) aa fun bf bi aX=> ?_
 obtain ⟨rfl,au⟩:=aX
 have U:=U.wk au
 have a:=Wk.B au a
 have i:=i.trans au
 have G:=G.wk au
 refine aU aa (no aa)<|p (bL aa)<|ay<|aM<|cb aa (fun q=> ?_) fun q=> ?_
 refine aO<|ag<|ct (congrArg bQ q)<|ak fun O=>ay<|O<|rt<|br<|tr<|ba aa ?_
 have c:eo F xs en f s pp=false :=by exact CG ab<|by rw [if_pos (show s= -1 by unfold Rn at hs; omega)]; simpa using q
 exact ⟨Eq.trans (b:=bQ<|false) aa (congrArg bQ c.symm),i⟩
 refine rg aa<|p (fa ko aa)<|p (ld bK aa<|a.bm 3)<|p (ge aa aa)<|p mv<|gs (t:=39) aa (fun h=>absurd h ab) fun a2=>aK aa<|aK aa<|aK aa<|aK aa<|aK aa<|p (bC aa)<|p aA<|nl<|ag<|cf aa<|ak fun O=>p (fa mC aa)<|p (ld bK aa<|a.bm 4)<|p (lt aa aa)<|p aA ?_
 refine nl<|O<|cd aa (fun aJ=> ?_) fun aJ=> ?_
 refine ak fun E=>ay<|E<|rt<|br<|tr<|ba aa ?_
 have c:eo F xs en f s pp=true :=by exact CF ab (by rw [if_pos (show s= -1 by unfold Rn at hs; omega)]; simpa using q)<|by unfold Rn at hp; omega
 exact ⟨Eq.trans (b:=bQ<|true) aa (congrArg bQ c.symm),i⟩
 obtain ⟨C,rfl⟩:∃ m:Nat,pp=(m:Int):=⟨(pp).toNat,by unfold Rn at hp; omega⟩
 obtain ⟨Z,J⟩:∃ r,F.rules[C]? =some r:=⟨_,cj<|by unfold Rn at hp; omega⟩
 have an:(F.rules.zip rn)[C]? =some (Z,rn[C]'(by rw [al]; exact (eH.1 J).1)):=iR.2 ⟨J,cj _⟩
 have ai:=rm J
 have a5:=(eH.1 J).1
 obtain ⟨A,rfl⟩:∃ m:Nat,f=(m:Int):=⟨(f).toNat,by unfold Rn at ad; omega⟩
 obtain ⟨rf,I⟩:∃ r,F.rules[A]? =some r:=⟨_,cj<|by unfold Rn at ad; omega⟩
 have am:(F.rules.zip rn)[A]? =some (rf,rn[A]'(by rw [al]; exact (eH.1 I).1)):=iR.2 ⟨I,cj _⟩
 have ah:=rm I
 have a4:=(eH.1 I).1
 have ac:=G
 refine aO<|bn<|aI<|ak fun E=>p mv<|p (fa mC aa)<|p (ld bK aa<|a.bm 4)<|p (a6 km aa aa ab<|aE.ok (G)<|kT an)<|p (fa rQ aa)<|p (ld oz aa<|gn (f:=dC) (m:=7) (fun _=>rfl) ac an 2 aw)<|p mv<|gb (t:=56) aa (fun Y=> ?_) fun Y=> ?_
 refine aU aa mv<|aU aa (fa kn aa)<|aU aa (ld bK aa<|a.bm 2)<|aU aa (a6 km aa aa ab<|aE.ok (G)<|kT am)<|aU aa (fa rQ aa)<|aU aa (ld oz aa<|gn (f:=dC) (m:=7) (fun _=>rfl) ac am 2 aw)<|p (bL aa)<|p mv<|gb (t:=64) aa (fun V=> ?_) fun V=> ?_
 refine aU aa (fa ko aa)<|aU aa (ld bK aa<|a.bm 3)<|aU aa (lt aa aa)<|aU aa mv<|gs (t:=68) aa (fun a3=> ?_) fun h=>absurd aH h
 refine aK aa<|aK aa<|aK aa<|aK aa<|aK aa<|aK aa<|aU aa (bL aa)<|p (bL aa)<|ay<|E<|rt<|ba aa ?_
 have c:eo F xs en ((A:Nat):Int) s ((C:Nat):Int)=true :=by rw [p8 ab (by rw [if_pos (show s= -1 by unfold Rn at hs; omega)]; simpa using q) ab,ah,ai,show s= -1 by (unfold Rn at hs; omega),Kp,(show rf.fI=true from V),(show Z.fI=true from Y)]; rfl
 exact ⟨Eq.trans (b:=bQ<|true) aa (congrArg bQ c.symm),i⟩
 refine aK aa<|aK aa<|aK aa<|aK aa<|e7 aa<|e7 aa<|e7 aa<|e7 aa<|e7 aa<|e7 aa<|aK aa<|p (bC aa)<|ay<|E<|rt<|ba aa ?_
 have c:eo F xs en ((A:Nat):Int) s ((C:Nat):Int)=false :=by rw [p8 ab (by rw [if_pos (show s= -1 by unfold Rn at hs; omega)]; simpa using q) ab,ah,(show rf.fI=false from V)]; rfl
 exact ⟨Eq.trans (b:=bQ<|false) aa (congrArg bQ c.symm),i⟩
 refine aK aa<|aK aa<|aK aa<|aK aa<|aK aa<|aK aa<|p (bC aa)<|p mv<|aK aa<|aK aa<|aK aa<|aK aa<|e7 aa<|e7 aa<|e7 aa<|e7 aa<|e7 aa<|e7 aa<|aK aa<|p (bC aa)<|ay<|E<|rt<|ba aa ?_
 have c:eo F xs en ((A:Nat):Int) s ((C:Nat):Int)=false :=by rw [p8 ab (by rw [if_pos (show s= -1 by unfold Rn at hs; omega)]; simpa using q) ab,ai,(show Z.fI=false from Y),vc]
 exact ⟨Eq.trans (b:=bQ<|false) aa (congrArg bQ c.symm),i⟩
 refine aK aa<|aK aa<|aK aa<|aK aa<|aK aa<|p (bC aa)<|p aA<|nl<|aM<|cf aa<|rg aa<|p (fa ko aa)<|p (ld bK aa<|a.bm 3)<|p (ge aa aa)<|p mv<|gs (t:=39) aa (fun a2=> ?_) fun h=>absurd ab h
 refine aU aa mv<|aU aa (fa ko aa)<|aU aa (ld bK aa<|a.bm 3)<|eg aa aa aa<|cl A5 (BK B tb aq F xs s ap U aD) aa fun bg bj aY=> ?_
 obtain ⟨rfl,av⟩:=aY
 have U:=U.wk av
 have a:=Wk.B av a
 have i:=i.trans av
 have G:=G.wk av
 refine aU aa (no aa)<|p (bL aa)<|ay<|ag<|cb aa (fun q=> ?_) fun q=> ?_
 refine ak fun O=>ay<|O<|rt<|br<|tr<|ba aa ?_
 have c:eo F xs en f s pp=false :=by exact CG ab<|by rw [if_neg (show ¬s= -1 by omega)]; simpa using q
 exact ⟨Eq.trans (b:=bQ<|false) aa (congrArg bQ c.symm),i⟩
 refine ak fun O=>p (fa mC aa)<|p (ld bK aa<|a.bm 4)<|p (lt aa aa)<|ay<|O<|cd aa (fun aJ=> ?_) fun aJ=> ?_
 refine ak fun E=>ay<|E<|rt<|br<|tr<|ba aa ?_
 have c:eo F xs en f s pp=true :=by exact CF ab (by rw [if_neg (show ¬s= -1 by omega)]; simpa using q)<|by unfold Rn at hp; omega
 exact ⟨Eq.trans (b:=bQ<|true) aa (congrArg bQ c.symm),i⟩
 obtain ⟨C,rfl⟩:∃ m:Nat,pp=(m:Int):=⟨(pp).toNat,by unfold Rn at hp; omega⟩
 obtain ⟨Z,J⟩:∃ r,F.rules[C]? =some r:=⟨_,cj<|by unfold Rn at hp; omega⟩
 have an:(F.rules.zip rn)[C]? =some (Z,rn[C]'(by rw [al]; exact (eH.1 J).1)):=iR.2 ⟨J,cj _⟩
 have ai:=rm J
 have a5:=(eH.1 J).1
 obtain ⟨A,rfl⟩:∃ m:Nat,f=(m:Int):=⟨(f).toNat,by unfold Rn at ad; omega⟩
 obtain ⟨rf,I⟩:∃ r,F.rules[A]? =some r:=⟨_,cj<|by unfold Rn at ad; omega⟩
 have am:(F.rules.zip rn)[A]? =some (rf,rn[A]'(by rw [al]; exact (eH.1 I).1)):=iR.2 ⟨I,cj _⟩
 have ah:=rm I
 have a4:=(eH.1 I).1
 obtain ⟨M,rfl⟩:∃ m:Nat,s=(m:Int):=⟨(s).toNat,by unfold Rn at hs; omega⟩
 obtain ⟨rs,aC⟩:∃ r,F.rules[M]? =some r:=⟨_,cj<|by unfold Rn at hs; omega⟩
 have aN:(F.rules.zip rn)[M]? =some (rs,rn[M]'(by rw [al]; exact (eH.1 aC).1)):=iR.2 ⟨aC,cj _⟩
 have a1:=rm aC
 have a9:=(eH.1 aC).1
 have ac:=G
 refine aO<|bn<|aI<|ak fun E=>p mv<|p (fa mC aa)<|p (ld bK aa<|a.bm 4)<|p (a6 km aa aa ab<|aE.ok (G)<|kT an)<|p (fa rQ aa)<|p (ld oz aa<|gn (f:=dC) (m:=7) (fun _=>rfl) ac an 2 aw)<|p mv<|gb (t:=56) aa (fun Y=> ?_) fun Y=> ?_
 refine aU aa mv<|aU aa (fa kn aa)<|aU aa (ld bK aa<|a.bm 2)<|aU aa (a6 km aa aa ab<|aE.ok (G)<|kT am)<|aU aa (fa rQ aa)<|aU aa (ld oz aa<|gn (f:=dC) (m:=7) (fun _=>rfl) ac am 2 aw)<|p (bL aa)<|p mv<|gb (t:=64) aa (fun V=> ?_) fun V=> ?_
 refine aU aa (fa ko aa)<|aU aa (ld bK aa<|a.bm 3)<|aU aa (lt aa aa)<|aU aa mv<|gs (t:=68) aa (fun h=>absurd h aH) fun a3=>aU aa mv<|aU aa (fa ko aa)<|aU aa (ld bK aa<|a.bm 3)<|aU aa (a6 km aa aa ab<|aE.ok (G)<|kT aN)<|aU aa (fa rQ aa)<|aU aa (ld oz aa<|gn (f:=dC) (m:=7) (fun _=>rfl) ac aN 2 aw)<|aU aa (bC aa)<|p (bL aa)<|ay<|E<|rt<|ba aa ?_
 have c:eo F xs en ((A:Nat):Int) ((M:Nat):Int) ((C:Nat):Int)=rs.fI:=by rw [p8 ab (by rw [if_neg (show ¬((M:Nat):Int)= -1 by omega)]; simpa using q) ab,ah,a1,ai,(show rf.fI=true from V),(show Z.fI=true from Y),Bool.true_and,Bool.and_true]
 exact ⟨Eq.trans (b:=bQ<|rs.fI) aa (congrArg bQ c.symm),i⟩
 refine aK aa<|aK aa<|aK aa<|aK aa<|e7 aa<|e7 aa<|e7 aa<|e7 aa<|e7 aa<|e7 aa<|aK aa<|p (bC aa)<|ay<|E<|rt<|ba aa ?_
 have c:eo F xs en ((A:Nat):Int) ((M:Nat):Int) ((C:Nat):Int)=false :=by rw [p8 ab (by rw [if_neg (show ¬((M:Nat):Int)= -1 by omega)]; simpa using q) ab,ah,(show rf.fI=false from V)]; rfl
 exact ⟨Eq.trans (b:=bQ<|false) aa (congrArg bQ c.symm),i⟩
 refine aK aa<|aK aa<|aK aa<|aK aa<|aK aa<|aK aa<|p (bC aa)<|p mv<|aK aa<|aK aa<|aK aa<|aK aa<|e7 aa<|e7 aa<|e7 aa<|e7 aa<|e7 aa<|e7 aa<|aK aa<|p (bC aa)<|ay<|E<|rt<|ba aa ?_
 have c:eo F xs en ((A:Nat):Int) ((M:Nat):Int) ((C:Nat):Int)=false :=by rw [p8 ab (by rw [if_neg (show ¬((M:Nat):Int)= -1 by omega)]; simpa using q) ab,ai,(show Z.fI=false from Y),vc]
 exact ⟨Eq.trans (b:=bQ<|false) aa (congrArg bQ c.symm),i⟩
end Go.Hb
end
section
namespace Go.Hb
open Go.Hb.lO
theorem xR {l:List Nat} {i:Nat} (h:i < l.length):(l.map gN)[i]? =some (gN<|l.getD i 0):=by rw [gu,cX,cj h]; rfl
end Go.Hb
end
section
namespace Go.Hb
open Go.Hb.lO
theorem ja {F:aG} {xs:List bo} (h:ff F xs) {k:Nat} {r:cG} (a:F.rules[k]? =some r):r.strip.length≤1048576∧r.add.length≤1048576∧r.cond.length≤1048576∧r.add.length≤32:=by
 have :=(h.ku a).2.2; unfold ta at this; omega
theorem Mz {α β:Type} {g:α→Option β} (l:List α) (i:Nat):(l.take i).filterMap g <+:l.filterMap g:=by
 conv =>rhs; rw [← zR i l,zJ]
 exact sX _ _
theorem Jj {F:aG} {xs:List bo} {e:Nat} {word:Tx} {f s:Int} {pre tl a:List cJ} {x:cJ} (h:a=pre++(e0 F xs e word f s++tl)) (c:kI F xs e word f s= [x]):
 a=pre++x::((aT F (flagsOf xs e) 1).filterMap (iq F xs e word f s)++tl):=by
 rw [h]; unfold e0; rw [c,dK]; rfl
theorem Ji {F:aG} {xs:List bo} {e:Nat} {word:Tx} {f s:Int} {pre tl a:List cJ} {i:Nat} {x:cJ} (h:a=pre++(e0 F xs e word f s++tl)) (hi:i < (aT F (flagsOf xs e) 1).length) (c:iq F xs e word f s ((aT F (flagsOf xs e) 1).getD i 0)=some x):
 a=(pre++(kI F xs e word f s++((aT F (flagsOf xs e) 1).take i).filterMap (iq F xs e word f s)))++x::(((aT F (flagsOf xs e) 1).drop<|i+1).filterMap (iq F xs e word f s)++tl):=by
 have h2:(aT F (flagsOf xs e) 1).filterMap (iq F xs e word f s)=((aT F (flagsOf xs e) 1).take i).filterMap (iq F xs e word f s)++x::((aT F (flagsOf xs e) 1).drop<|i+1).filterMap (iq F xs e word f s):=by
  conv =>lhs; rw [← zR (i+1) (aT F (flagsOf xs e) 1),zJ,EH 0 hi,c]
  rw [dK]; rfl
 unfold e0 at h
 rw [h,h2]
 simp only [dK,List.cons_append]
theorem xC {α β:Type} {g:α→List β} {l:List α} {i:Nat} (d:α) (h:i < l.length):(l.take<|i+1).flatMap g=(l.take i).flatMap g++g (l.getD i d):=by
 rw [ky l i d h,nC,oo]
theorem Cf {α β:Type} {g:α→List β} {l:List α} {i:Nat} (d:α) (h:i < l.length):l.flatMap g=(l.take i).flatMap g++(g (l.getD i d)++(l.drop<|i+1).flatMap g):=by
 conv =>lhs; rw [← zR (i+1) l,nC,xC d h]
 rw [dK]
theorem yE {α:Type} {C q s D R:List α} (a:R=C++(s++D)) (c:q <+:s):C++q <+:R:=by rw [a]; exact DX<|c.trans<|sX _ _
theorem wP (B tb:Nat) (aZ:fX) (F:aG) (xs:List bo) (ac:ff F xs) (J S0 mb:Nat) (bE:List cJ) (am:Bool→List cJ→(Nat→Prop)→World→Prop) (G:Yc ao J S0 nQ bE (fun W=>eQ W B tb aZ F xs) am) (K:pE) (bG:Int) (M:Tx) (ps:List Nat) (pre:List cJ) (fp:Nat→Prop) (en:Nat) (word:Tx) (f s:Int) (w:World) (aP:gX w fp S0 mb tb J K F bG M ps) (bV:am true pre fp w) (c4:bG=(en:Int)) (c9:ps=aT F (flagsOf xs en) 1) (b8:Rn F f) (hs:Rn F s) (ds:word.length≤1000) (tl:List cJ) (ca:bE=pre++(e0 F xs en word f s++tl)):
 bd ao 125 (a7 [aW mb,str word,.int .i64 f,.int .i64 s]) w (fun v w'=> ∃ b q fp',v= .bool b∧am b (pre++q) fp' w'∧Gw S0 fp w fp' w'∧q <+:e0 F xs en word f s∧(b=true→q=e0 F xs en word f s)):=by
 have c5:=G.lt _ _ _ _ bV
 have dq:=rZ F (flagsOf xs (en:Int)) 1
 have dr:=ac.len
 subst c4
 subst c9
 refine enter func125 aa ntmps125 aa<|ak fun cm=>ay<|cm<|ak fun cv=>p mv<|p mv<|p (nc aa)<|p (fa xG aa)<|p (ld bK aa<|(aY aP.cells).trans aa)<|p mv<|p mv<|p (cT (ps:= [(0,str word),(1,aj en),(2,.int .i64 f),(3,.int .i64 s),(4,.int .i64 (-1))]) (L:= [str word,aj en,.int .i64 f,.int .i64 s,.int .i64 (-1)]) Ew aa<|aa)<|e<|gx uZ fun a dw dp b4 cI=> ?_
 have du:=b4.size
 refine e<|gi tF aa aa aa aa cI aw fun aU cO cF=> ?_
 have a0:Wk w aU:=b4.md.trans' cO fun q cc h=>by omega
 have c2:aU.heap[a]? =some (.cells (eG ⟨word,en,f,s,-1⟩).toArray 41 (0,0)):=cF
 have bW:=G.wk bV<|a0.trans (Md.refl _ _).drew
 have aQ:=aP.wk<|a0.trans (Md.refl _ _).drew
 have b9:¬fp a:=fun h=>by have :=c5 a h; omega
 have aS:S0≤a:=by have :=aP.lo; have :=(cy.1 aP.cells).1; omega
 refine nl<|cv<|az fun cw=> ?_
 refine eD (fun aF aD=> ∃ (aq:Bool) (V:Nat→Prop),(am (!aq) (pre++kI F xs en word f s) V aD)∧(gX aD V S0 mb tb J K F (en:Int) M<|aT F (flagsOf xs en) 1)∧(aD.heap[a]? =some (.cells (eG ⟨word,en,f,s,-1⟩).toArray 41 (0,0)))∧(¬V a)∧(Gw S0 fp w V aD)∧(aF 0=aW mb)∧(aF 1=str word)∧(aF 9=aW a)∧(aF 40= .bool aq)) ?_ ?_
 have I:(fun w'=>w'.heap[mb]? =some (.cells (lX tb J K F (en:Int) M<|aT F (flagsOf xs en) 1).toArray 183 (0,0))∧w'.heap[a]? =some (.cells (eG ⟨word,en,f,s,-1⟩).toArray 41 (0,0))) aU.drew:=⟨aQ.cells,c2⟩
 refine Fq (fun w'=>w'.heap[mb]? =some (.cells (lX tb J K F (en:Int) M<|aT F (flagsOf xs en) 1).toArray 183 (0,0))∧w'.heap[a]? =some (.cells (eG ⟨word,en,f,s,-1⟩).toArray 41 (0,0))) aa wide I ?_
 refine yp 0 aa ag (fun _ _=>mv) I ?_
 refine yp 1 aa ag (fun _ _=>nc aa) I ?_
 refine yp 2 aa ag (fun _ _=>fa pZ aa) I ?_
 refine yp 3 aa ag (fun w' c=>ld m8 aa<|(aY c.1).trans aa) I ?_
 refine yp 4 aa ag (fun _ _=>mv) I ?_
 refine yp 5 aa ag (fun _ _=>nc aa) I ?_
 refine yp 6 aa ag (fun _ _=>fa rJ aa) I ?_
 refine yp 7 aa ag (fun w' c=>ld kh aa<|(aY c.1).trans aa) I ?_
 refine yp 8 aa ag (fun w' c=>cz k6 aa (aa) fun j bz=>(pL c.2).bm j) I ?_
 refine ye 9 aa ag<|cl wz (xS B tb aZ F xs K.ar K.cr K.rn word en f s (-1) aU.drew (G.cap _ _ _ _ bW) ac (aV aQ.ru).2 aQ.rn b8 hs<|.inl aa) aa fun v31 bB cR=> ?_
 obtain ⟨rfl,aK⟩:=cR
 have bY:=G.wk bW aK
 have a5:=aQ.wk aK
 have bR:Gw S0 fp w fp bB:=Gw.wk<|(a0.trans (Md.refl _ _).drew).trans aK
 have A:(fun w'=>w'.heap[mb]? =some (.cells (lX tb J K F (en:Int) M<|aT F (flagsOf xs en) 1).toArray 183 (0,0))∧w'.heap[a]? =some (.cells (eG ⟨word,en,f,s,-1⟩).toArray 41 (0,0))) bB:=⟨a5.cells,Wk.aB aK I.2⟩
 refine ⟨A,?_⟩
 refine yp 10 aa ag (fun _ _=>mv) A ?_
 refine Fo (t:=32) aa (fun bw=> ?_) fun bw=> ?_
 have aR:kI F xs en word f s= [⟨word,en,f,s,-1⟩]:=if_pos bw
 refine lC 11 aa ag aa aa aa (fun _ _=>mv) A ?_
 refine lC 12 aa ag aa aa aa (fun _ _=>nc aa) A ?_
 refine lC 13 aa ag aa aa aa (fun _ _=>fa Cp aa) A ?_
 refine lC 14 aa ag aa aa aa (fun w' c=>ld z7 aa<|(aY c.1).trans aa) A ?_
 refine lC 15 aa ag aa aa aa (fun w' c=>cz k6 aa (aa) fun j bz=>(pL c.2).bm j) A ?_
 refine Fs 16 aa ag aa aa aa aa aa (G.yl pre ⟨word,en,f,s,-1⟩ _ fp bB (Jj ca aR) bY) fun cD dl cS=> ?_
 obtain ⟨cE,cM,a1⟩:=cS
 have b2:=a5.gw a1
 have bs:=a1.aB A.2 aS b9
 have bf:(fun w'=>w'.heap[mb]? =some (.cells (lX tb J K F (en:Int) M<|aT F (flagsOf xs en) 1).toArray 183 (0,0))∧w'.heap[a]? =some (.cells (eG ⟨word,en,f,s,-1⟩).toArray 41 (0,0))) dl:=⟨b2.cells,bs.1⟩
 refine ⟨bf,?_⟩
 refine lC 17 aa ag aa aa aa (fun _ _=>no aa) bf ?_
 refine yp 18 aa ag (fun _ _=>bL aa) bf ?_
 refine yn ag ?_
 exact tn<|⟨(!cD),cE,(by rw [Bool.not_not,aR]; exact cM),b2,bs.1,bs.2,(bR.trans a1),aa,aa,aa,aa⟩
 have aR:kI F xs en word f s= []:=if_neg<|by rw [bw]; exact c7
 refine kA 11 aa ag aa aa aa aa A ?_
 refine kA 12 aa ag aa aa aa aa A ?_
 refine kA 13 aa ag aa aa aa aa A ?_
 refine kA 14 aa ag aa aa aa aa A ?_
 refine kA 15 aa ag aa aa aa aa A ?_
 refine kA 16 aa ag aa aa aa aa A ?_
 refine kA 17 aa ag aa aa aa aa A ?_
 refine yp 18 aa ag (fun _ _=>bC aa) A ?_
 refine yn ag ?_
 exact tn<|⟨false,fp,(by rw [aR,eb]; exact bY),a5,A.2,b9,bR,aa,aa,aa,aa⟩
 rintro aF aD ⟨aq,V,aN,b1,c3,c6,bQ,da,db,dd,dc⟩
 refine fx 0 da<|fx 1 db<|fx 9 dd<|fx 40 dc<|cb aa (fun bk=> ?_) fun bk=> ?_
 refine ak fun aX=>ay<|aX<|rt<|tr<|ba aa ?_
 have bh:aq=true :=bk
 rw [bh] at aN
 exact ⟨false,_,V,aa,aN,bQ,(by unfold e0; exact sX _ _),fun h=>by cases h⟩
 refine aO<|cw<|az fun aX=>ak fun cx=>au (aW mb)<|p (nc aa)<|p (fa Co aa)<|p (ld tk aa<|(aY b1.cells).trans aa)<|p (bO sx aa aa)<|p mv<|nl<|cx<|aB<|lp (fun bJ Z al=> ∃ (i:Nat) (O:Nat→Prop) (aC:Tx) (pp:Int),(i≤(aT F (flagsOf xs en) 1).length)∧(am true (pre++(kI F xs en word f s++((aT F (flagsOf xs en) 1).take i).filterMap (iq F xs en word f s))) O al)∧(gX al O S0 mb tb J K F (en:Int) M<|aT F (flagsOf xs en) 1)∧(al.heap[a]? =some (.cells (eG ⟨aC,en,f,s,pp⟩).toArray 41 (0,0)))∧(¬O a)∧(Gw S0 fp w O al)∧(Z 0=aW mb)∧(Z 1=str word)∧(Z 9=aW a)∧(Z 44= .slice K.ap (aT F (flagsOf xs en) 1).length K.cp)∧(Z 45=aj ((aT F (flagsOf xs en) 1).length))∧(Z 46=aj i)∧((aT F (flagsOf xs en) 1).length - i=bJ)) _ ⟨0,V,word,-1,ab,((by have bh:aq=false :=bk; rw [bh] at aN; simpa using aN)),b1,c3,c6,bQ,aa,aa,aa,aa,aa,aa,aa⟩ ?_
 rintro bJ Z al ⟨i,O,aC,pp,hi,a3,a9,bv,ax,bU,de,df,dk,dg,dh,dj,rfl⟩
 refine fx 0 de<|fx 1 df<|fx 9 dk<|fx 44 dg<|fx 45 dh<|fx 46 dj<|ak fun cA=>p (lt aa aa)<|nl<|cA<|az fun cB=>cd aa (fun c1=> ?_) fun c1=> ?_
 refine aO<|cB<|az fun an=>aB<|ak fun cC=>p (a6 pX aa aa ab<|aE.ok ((aV a9.pr).2)<|cY ab)<|p (ld bK aa<|aE.jj (i:=i) (aV a9.pr).2<|xR ab)<|ay<|cC<|ak fun cn=>p mv<|p (fa mC aa)<|e<|dF lj aa aa (v:= .int .i64 (((aT F (flagsOf xs en) 1).getD i 0:Nat):Int)) aa bv (by show 4 < 5; omega) fun ai a8 cH=> ?_
 have b6:ai.heap[a]? =some (.cells (eG ⟨aC,en,f,s,((aT F (flagsOf xs en) 1).getD i 0:Nat)⟩).toArray 41 (0,0)):=cH
 have c0:TF al [43] (fun q=>q=a):=TF.eq (dt bv) aw
 have bZ:=G.r9 a3 bv aS ax a8
 have av:=a9.rV a8 c0 aw
 have cK:=Gw.Dp bU a8 fun k hk=>by subst hk; omega
 have c8:=oS.1<|e6 (d:=0) (show i < (aT F (flagsOf xs en) 1).length by omega)
 obtain ⟨r,Y⟩:∃ r,F.rules[(aT F (flagsOf xs en) 1).getD i 0]? =some r:=⟨_,cj c8.1⟩
 have ce:F.rules.getD ((aT F (flagsOf xs en) 1).getD i 0) di=r:=by rw [cX,Y]; rfl
 have ah:=EH (g:=iq F xs en word f s) 0 (show i < (aT F (flagsOf xs en) 1).length by omega)
 refine nl<|cn<|az fun co=>az fun cq=> ?_
 have E:(fun w'=>Wk ai w') ai.drew:=(Md.refl _ _).drew
 refine bM (fun w'=>Wk ai w') aa wide E<|bH 0 aa (aW mb) E<|aJ 1 aa (fun _ _=>nc aa) E<|aJ 2 aa (fun _ _=>fa pZ aa) E<|aJ 3 aa (fun w' c=>ld m8 aa<|Wk.aI c<|(aY av.cells).trans aa) E<|bH 4 aa (aW mb) E<|aJ 5 aa (fun _ _=>nc aa) E<|aJ 6 aa (fun _ _=>fa rJ aa) E<|aJ 7 aa (fun w' c=>ld kh aa<|Wk.aI c<|(aY av.cells).trans aa) E<|aJ 8 aa (fun w' c=>cz k6 aa (aa) fun j bz=>(Md.B c (pL b6) fun h=>h).bm j) E<|he 9 aa ag<|cl wz (xS B tb aZ F xs K.ar K.cr K.rn aC en f s ((aT F (flagsOf xs en) 1).getD i 0:Nat) ai.drew (G.cap _ _ _ _<|G.wk bZ E) ac ((aV av.ru).2.wk E) av.rn b8 hs<|.inr ab) aa fun dv ck cU=> ?_
 obtain ⟨rfl,bN⟩:=cU
 have aM:=E.trans bN
 have b0:=G.wk bZ aM
 have U:=av.wk aM
 have b7:=Wk.aB aM b6
 have bT:=cK.trans<|Gw.wk aM
 have b5:(fun w'=>Wk ai w') ck:=E.trans bN
 refine ⟨b5,?_⟩
 refine aJ 10 aa (fun _ _=>no aa) b5<|hn ag<|cq<|cb aa (fun bl=> ?_) fun bl=> ?_
 have bx:eo F xs en f s ((aT F (flagsOf xs en) 1).getD i 0:Nat)=false :=by simpa using bl
 have bM:=Kv (word:=word) bx
 rw [bM] at ah
 exact ext<|bj<|be<|an<|rg aa<|p (ad aa aa<|cg ab)<|p mv<|nl<|tn<|⟨_,ab,i+1,O,aC,_,ab,(by rw [ah]; simpa using b0),U,b7,ax,bT,aa,aa,aa,aa,aa,aa,aa⟩
 have bx:eo F xs en f s ((aT F (flagsOf xs en) 1).getD i 0:Nat)=true :=by simpa using bl
 refine aO<|co<|ak fun cs=>au (aW mb)<|p (nc aa)<|p (fa rJ aa)<|p (ld kh aa<|(aY U.cells).trans aa)<|p mv<|p (a6 km aa aa ab<|aE.ok ((aV U.ru).2)<|kT (U.ku Y).choose_spec)<|p (cz jF aa (aa)<|gn (f:=dC) (m:=7) (fun _=>rfl) (aV U.ru).2 (U.ku Y).choose_spec)<|au (str word)<|e<|cl rj (q6 r (U.ku Y).choose word ck (ja ac Y).1 (ja ac Y).2.1 (ja ac Y).2.2.1 ab) aa fun v72 dm cV=> ?_
 obtain ⟨rfl,aL⟩:=cV
 have cN:=G.wk b0 aL
 have cP:=U.wk aL
 have bu:=Wk.aB aL b7
 have cL:=bT.trans<|Gw.wk aL
 refine p mv<|p (xt aa aa)<|p (xt aa aa)<|p aA<|ay<|cs<|az fun ct=>rg aa<|p mv<|p (fa tW aa)<|e<|dF nd aa aa (v:=str<|(cQ r word).getD []) aa bu (by show 0 < 5; omega) fun bA a4 cG=> ?_
 have bq:bA.heap[a]? =some (.cells (eG ⟨((cQ r word).getD []),en,f,s,((aT F (flagsOf xs en) 1).getD i 0:Nat)⟩).toArray 41 (0,0)):=cG
 have cZ:TF dm [43] (fun q=>q=a):=TF.eq (dt bu) aw
 have bX:=G.wk (G.r9 cN bu aS ax a4) (Md.refl _ _).drew
 have bb:=(cP.rV a4 cZ aw).wk (Md.refl _ _).drew
 have bP:=(Gw.Dp cL a4 fun k hk=>by subst hk; omega).trans<|Gw.wk (Md.refl _ _).drew
 refine nl<|ct<|az fun bD=> ?_
 have C:(fun w'=>w'.heap[mb]? =some (.cells (lX tb J K F (en:Int) M<|aT F (flagsOf xs en) 1).toArray 183 (0,0))∧w'.heap[a]? =some (.cells (eG ⟨((cQ r word).getD []),en,f,s,((aT F (flagsOf xs en) 1).getD i 0:Nat)⟩).toArray 41 (0,0))) bA.drew:=⟨bb.cells,bq⟩
 refine Fq (fun w'=>w'.heap[mb]? =some (.cells (lX tb J K F (en:Int) M<|aT F (flagsOf xs en) 1).toArray 183 (0,0))∧w'.heap[a]? =some (.cells (eG ⟨((cQ r word).getD []),en,f,s,((aT F (flagsOf xs en) 1).getD i 0:Nat)⟩).toArray 41 (0,0))) aa wide C ?_
 refine yp 0 aa ag (fun _ _=>mv) C ?_
 refine yp 1 aa ag (fun _ _=>mv) C ?_
 refine Fo (t:=78) aa (fun bg=> ?_) fun bg=> ?_
 obtain ⟨v,ch⟩:∃ v,cQ r word=some v:=nI.1 bg
 have bM:=Kw (word:=word) bx<|by rw [ce]; exact ch
 rw [bM] at ah
 have ci:(cQ r word).getD []=v:=by rw [ch]; rfl
 refine lC 2 aa ag aa aa aa (fun _ _=>aH (aW mb) aa) C ?_
 refine lC 3 aa ag aa aa aa (fun _ _=>nc aa) C ?_
 refine lC 4 aa ag aa aa aa (fun _ _=>fa Cp aa) C ?_
 refine lC 5 aa ag aa aa aa (fun w' c=>ld z7 aa<|(aY c.1).trans aa) C ?_
 refine lC 6 aa ag aa aa aa (fun w' c=>cz k6 aa (aa) fun j bz=>(pL c.2).bm j) C ?_
 refine Fs 7 aa ag aa aa aa aa aa (G.yl (pre++(kI F xs en word f s++((aT F (flagsOf xs en) 1).take i).filterMap (iq F xs en word f s))) ⟨(cQ r word).getD [],en,f,s,((aT F (flagsOf xs en) 1).getD i 0:Nat)⟩ _ O bA.drew (Ji ca ab<|by rw [bM,ci]) bX) fun bF dn cW=> ?_
 obtain ⟨bI,ae,a2⟩:=cW
 have b3:=bb.gw a2
 have bt:=a2.aB bq aS ax
 have bS:=bP.trans a2
 rw [ci] at ae
 have cc:(kI F xs en word f s++((aT F (flagsOf xs en) 1).take i).filterMap (iq F xs en word f s))++ [⟨v,en,f,s,((aT F (flagsOf xs en) 1).getD i 0:Nat)⟩]=kI F xs en word f s++((aT F (flagsOf xs en) 1).take<|i+1).filterMap (iq F xs en word f s):=by rw [ah,dK]; rfl
 rw [dK pre,cc] at ae
 have bc:(fun w'=>w'.heap[mb]? =some (.cells (lX tb J K F (en:Int) M<|aT F (flagsOf xs en) 1).toArray 183 (0,0))∧w'.heap[a]? =some (.cells (eG ⟨((cQ r word).getD []),en,f,s,((aT F (flagsOf xs en) 1).getD i 0:Nat)⟩).toArray 41 (0,0))) dn:=⟨b3.cells,bt.1⟩
 refine ⟨bc,?_⟩
 refine lC 8 aa ag aa aa aa (fun _ _=>no aa) bc ?_
 refine yp 9 aa ag (fun _ _=>bL aa) bc ?_
 refine yn ag ?_
 refine bD<|cb aa (fun bp=> ?_) fun bp=> ?_
 refine ak fun cu=>ay<|cu<|rt<|br<|tr<|tr<|br<|tr<|ba aa ?_
 have bi:bF=false :=by simpa using bp
 rw [bi] at ae
 exact ⟨false,_,bI,aa,ae,bS,(by unfold e0; exact DX<|Mz _ _),fun h=>by cases h⟩
 exact aO<|bn<|an<|rg aa<|p (ad aa aa<|cg ab)<|p mv<|nl<|tn<|⟨_,ab,i+1,bI,_,_,ab,((by have bi:bF=true :=(by simpa using bp); rw [bi] at ae; exact ae)),b3,bt.1,bt.2,bS,aa,aa,aa,aa,aa,aa,aa⟩
 have bM:=Ku (xs:=xs) (e:=en) (f:=f) (s:=s) (word:=word) (p:=(aT F (flagsOf xs en) 1).getD i 0)<|by rw [ce]; simpa using bg
 rw [bM] at ah
 refine kA 2 aa ag aa aa aa aa C ?_
 refine kA 3 aa ag aa aa aa aa C ?_
 refine kA 4 aa ag aa aa aa aa C ?_
 refine kA 5 aa ag aa aa aa aa C ?_
 refine kA 6 aa ag aa aa aa aa C ?_
 refine kA 7 aa ag aa aa aa aa C ?_
 refine kA 8 aa ag aa aa aa aa C ?_
 refine yp 9 aa ag (fun _ _=>bC aa) C ?_
 refine yn ag ?_
 refine bD<|cf aa<|aO<|bn<|an<|rg aa<|p (ad aa aa<|cg ab)<|p mv ?_
 exact nl<|tn<|⟨_,ab,i+1,O,_,_,ab,(by rw [ah]; simpa using bX),bb,bq,ax,bP,aa,aa,aa,aa,aa,aa,aa⟩
 refine ext<|bj<|bj<|be<|aX<|ak fun an=>p aA<|nl<|an<|rt<|ba aa ?_
 rw [fq ab] at a3
 exact ⟨true,_,O,aa,a3,bU,zQ _,fun _=>rfl⟩
set_option maxHeartbeats 4000000 in
theorem Qn (B tb:Nat) (am:fX) (F:aG) (xs:List bo) (a:ff F xs) (ah S0 mb:Nat) (an:List cJ) (M:Bool→List cJ→(Nat→Prop)→World→Prop) (C:Yc ao ah S0 nQ an (fun W=>eQ W B tb am F xs) M) (K:pE) (pre:List cJ) (fp:Nat→Prop) (en:Nat) (x:bo) (w:World) (ax:gX w fp S0 mb tb ah K F (en:Int) x.1 (aT F (flagsOf xs en) 1)) (cW:M true pre fp w) (cv:xs[en]? =some x) (tl:List cJ) (cn:an=pre++(eK F xs en++tl)):
 bd ao 79 (a7 [aW mb]) w (fun v w'=> ∃ b q fp',v= .bool b∧M b (pre++q) fp' w'∧Gw S0 fp w fp' w'∧q <+:eK F xs en∧(b=true→q=eK F xs en)):=by
 obtain ⟨dI,dJ,dL,a9⟩:=nL cv
 have a2:eK F xs en=e0 F xs en x.1 (-1) (-1)++(aT F (flagsOf xs en) 2).flatMap (gC F xs en):=by unfold eK; rw [a9]
 have dS:=(a.rC x<|gV cv).1
 have dP:=a.len
 have dM:S0≤w.heap.size:=by have :=ax.lo; have :=(cy.1 ax.cells).1; omega
 have dN:=rZ F (flagsOf xs (en:Int)) 2
 refine enter func79 aa ntmps79 aa<|ak fun cx=>ay<|cx<|az fun cI=>ak fun cM=>au (aW mb)<|au (aW mb)<|p (nc aa)<|p (fa xH aa)<|p (ld cO aa<|(aY ax.cells).trans aa)<|e<|cl vV (wP B tb am F xs a ah S0 mb an M C K (en:Int) x.1 _ pre fp en x.1 (-1) (-1) w ax cW aa aa (.inl aa) (.inl aa) ab ((aT F (flagsOf xs en) 2).flatMap (gC F xs en)++tl)<|by rw [cn,a2,dK]) aa fun dW aF c4=> ?_
 obtain ⟨bQ,dE,bb,rfl,a0,aS,dl,dm⟩:=c4
 have bl:=ax.gw aS
 refine p (no aa)<|nl<|cM<|cb aa (fun bt=> ?_) fun bt=> ?_
 obtain rfl :bQ=false :=by simpa using bt
 exact ak fun a8=>ay<|a8<|rt<|tr<|ba aa<|⟨false,dE,bb,aa,a0,aS,(by rw [a2]; exact dl.trans<|sX _ _),fun h=>by cases h⟩
 obtain rfl :bQ=true :=by simpa using bt
 obtain rfl :=dm rfl
 refine aO<|cI<|az fun a8=>az fun cN=> ?_
 have c:(fun w'=>Wk aF w') aF.drew:=(Md.refl _ _).drew
 refine bM (fun w'=>Wk aF w') aa wide c<|bH 0 aa (aW mb) c<|aJ 1 aa (fun _ _=>nc aa) c<|aJ 2 aa (fun _ _=>fa pZ aa) c<|aJ 3 aa (fun w' J=>ld m8 aa<|Wk.aI J<|(aY bl.cells).trans aa) c<|bH 4 aa (aW mb) c<|aJ 5 aa (fun _ _=>nc aa) c<|aJ 6 aa (fun _ _=>fa xG aa) c<|aJ 7 aa (fun w' J=>ld bK aa<|Wk.aI J<|(aY bl.cells).trans aa) c<|aJ 10 aa (fun _ _=>mv) c<|he 8 aa ag<|cl AZ (EA B tb am F xs (en:Int) aF.drew (C.cap _ _ _ _<|C.wk a0 c) a) aa fun dX dF c5=> ?_
 obtain ⟨bA,bU⟩:=c5
 obtain ⟨ac,ae,rfl⟩:=cU bA
 have bf:=c.trans bU
 have c0:=C.wk a0 bf
 have c3:=bl.wk bf
 have cV:=aS.trans<|Gw.wk bf
 have dT:=c.size
 have de:∀ q,(bB ac (aT F (flagsOf xs en) 2).length ae).ownBlock=some q→¬bb q:=fun q bG h=>by have h1:=(dd bA bG).1; have h2:=C.lt _ _ _ _ a0 q h; omega
 have dj:=eS bA (show S0≤_ by have :=aS.size; omega)
 have b5:(fun w'=>Wk aF w') dF:=c.trans bU
 refine ⟨b5,?_⟩
 refine aJ 9 aa (fun _ _=>bO sx aa aa) b5<|hn ag<|cN<|aB<|lp (fun ar aL E=> ∃ (i:Nat) (O:Nat→Prop),(i≤(aT F (flagsOf xs en) 2).length)∧(M true (pre++(e0 F xs en x.1 (-1) (-1)++((aT F (flagsOf xs en) 2).take i).flatMap (gC F xs en))) O E)∧(gX E O S0 mb tb ah K F (en:Int) x.1<|aT F (flagsOf xs en) 1)∧(bp E S0 3 1 (.slice ac (aT F (flagsOf xs en) 2).length ae) (aT F (flagsOf xs en) 2).length<|(aT F (flagsOf xs en) 2).map gN)∧(∀ q,(bB ac (aT F (flagsOf xs en) 2).length ae).ownBlock=some q→¬O q)∧(Gw S0 fp w O E)∧(aL 0=aW mb)∧(aL 26= .slice ac (aT F (flagsOf xs en) 2).length ae)∧(aL 27=aj ((aT F (flagsOf xs en) 2).length))∧(aL 28=aj i)∧((aT F (flagsOf xs en) 2).length - i=ar)) _ ⟨0,bb,ab,(by simpa using c0),c3,dj,de,cV,aa,aa,aa,aa,aa⟩ ?_
 rintro ar aL E ⟨i,O,hi,bi,U,bE,b8,b0,dn,dp,dq,dr,rfl⟩
 refine fx 0 dn<|fx 26 dp<|fx 27 dq<|fx 28 dr<|ak fun cP=>p (lt aa aa)<|nl<|cP<|az fun cR=>cd aa (fun db=> ?_) fun db=> ?_
 refine aO<|cR<|az fun aM=>aB<|ak fun cS=>p (a6 pX aa aa ab<|aE.ok ((aV bE).2)<|cY ab)<|p (ld bK aa<|aE.jj (i:=i) (aV bE).2<|xR ab)<|ay<|cS<|az fun cA=> ?_
 have dB:=oS.1<|e6 (d:=0) (show i < (aT F (flagsOf xs en) 2).length by omega)
 obtain ⟨r,Y⟩:∃ r,F.rules[((aT F (flagsOf xs en) 2).getD i 0)]? =some r:=⟨_,cj dB.1⟩
 have cs:F.rules.getD ((aT F (flagsOf xs en) 2).getD i 0) di=r:=by rw [cX,Y]; rfl
 have bI:=xC (g:=gC F xs en) 0 (show i < (aT F (flagsOf xs en) 2).length by omega)
 have A:(fun w'=>Wk E w') E.drew:=(Md.refl _ _).drew
 refine bM (fun w'=>Wk E w') aa wide A<|bH 0 aa (aW mb) A<|aJ 1 aa (fun _ _=>nc aa) A<|aJ 2 aa (fun _ _=>fa rJ aa) A<|aJ 3 aa (fun w' J=>ld kh aa<|Wk.aI J<|(aY U.cells).trans aa) A<|aJ 4 aa (fun _ _=>mv) A<|aJ 5 aa (fun _ _=>a6 km aa aa ab<|aE.ok ((aV U.ru).2)<|kT (U.ku Y).choose_spec) A<|aJ 6 aa (fun w' J=>cz jF aa (aa) fun j dg=>gn (f:=dC) (m:=7) (fun _=>rfl) ((aV U.ru).2.wk J) (U.ku Y).choose_spec j dg) A<|bH 7 aa (aW mb) A<|aJ 8 aa (fun _ _=>nc aa) A<|aJ 9 aa (fun _ _=>fa xH aa) A<|aJ 10 aa (fun w' J=>ld cO aa<|Wk.aI J<|(aY U.cells).trans aa) A<|he 11 aa ag<|cl rj (q6 r (U.ku Y).choose x.1 E.drew (ja a Y).1 (ja a Y).2.1 (ja a Y).2.2.1 ab) aa fun dY cw c6=> ?_
 obtain ⟨rfl,bV⟩:=c6
 have aR:=A.trans bV
 have b3:=C.wk bi aR
 have bq:=U.wk aR
 have bZ:=b0.trans<|Gw.wk aR
 have ce:=aX bE aR
 have ap:(fun w'=>Wk E w') cw:=A.trans bV
 refine ⟨ap,?_⟩
 refine aJ 12 aa (fun _ _=>mv) ap<|aJ 13 aa (fun _ _=>xt aa aa) ap<|aJ 14 aa (fun _ _=>xt aa aa) ap<|aJ 15 aa (fun _ _=>aA) ap<|aJ 16 aa (fun _ _=>aA) ap<|hn ag<|cA<|az fun cB=>ak fun cC=>p mv<|p (no aa)<|nl<|cC<|cb aa (fun bu=> ?_) fun bu=> ?_
 have aC:cQ r x.1=none:=by simpa using bu
 have bM:gC F xs en ((aT F (flagsOf xs en) 2).getD i 0)= []:=by unfold gC; rw [cs,a9,aC]
 rw [bM,eb] at bI
 exact ext<|bj<|be<|aM<|rg aa<|p (ad aa aa<|cg ab)<|p mv<|nl<|tn<|⟨_,ab,i+1,O,ab,(by rw [bI]; exact b3),bq,ce,b8,bZ,aa,aa,aa,aa,aa⟩
 obtain ⟨wd,aC⟩:∃ v,cQ r x.1=some v:=nI.1<|by simpa using bu
 have aq:((cQ r x.1).getD [])=wd:=by rw [aC]; rfl
 have bM:gC F xs en ((aT F (flagsOf xs en) 2).getD i 0)=e0 F xs en wd (((aT F (flagsOf xs en) 2).getD i 0):Nat) (-1)++(aT F (bY F (((aT F (flagsOf xs en) 2).getD i 0):Nat)) 2).flatMap (jN F xs en wd (((aT F (flagsOf xs en) 2).getD i 0):Nat)):=by unfold gC; rw [cs,a9,aC]
 have dR:=(tq (ja a Y).2.2.2 aC).2
 have bx:eK F xs en=(e0 F xs en x.1 (-1) (-1)++((aT F (flagsOf xs en) 2).take i).flatMap (gC F xs en))++(gC F xs en ((aT F (flagsOf xs en) 2).getD i 0)++((aT F (flagsOf xs en) 2).drop<|i+1).flatMap (gC F xs en)):=by rw [a2,Cf 0 (show i < (aT F (flagsOf xs en) 2).length by omega),dK]
 have b6:an=(pre++(e0 F xs en x.1 (-1) (-1)++((aT F (flagsOf xs en) 2).take i).flatMap (gC F xs en)))++(gC F xs en ((aT F (flagsOf xs en) 2).getD i 0)++(((aT F (flagsOf xs en) 2).drop<|i+1).flatMap (gC F xs en)++tl)):=by rw [cn,bx]; simp only [dK]
 refine aO<|cB<|az fun cD=>ak fun cE=>au (aW mb)<|p mv<|p mv<|e<|cl vV (wP B tb am F xs a ah S0 mb an M C K (en:Int) x.1 _ (pre++(e0 F xs en x.1 (-1) (-1)++((aT F (flagsOf xs en) 2).take i).flatMap (gC F xs en))) O en ((cQ r x.1).getD []) ((((aT F (flagsOf xs en) 2).getD i 0):Nat):Int) (-1) cw bq b3 aa aa (.inr ab) (.inl aa) (by rw [aq]; omega) ((aT F (bY F (((aT F (flagsOf xs en) 2).getD i 0):Nat)) 2).flatMap (jN F xs en wd (((aT F (flagsOf xs en) 2).getD i 0):Nat))++(((aT F (flagsOf xs en) 2).drop<|i+1).flatMap (gC F xs en)++tl))<|by rw [aq,b6,bM]; simp only [dK]) aa fun dZ dG c7=> ?_
 obtain ⟨bR,dU,bc,rfl,aw,bh,co,cp⟩:=c7
 rw [aq] at co cp
 have b4:=bq.gw bh
 have bg:=bZ.trans bh
 have ch:=bh.own ce b8
 refine p (no aa)<|nl<|cE<|cb aa (fun bv=> ?_) fun bv=> ?_
 obtain rfl :bR=false :=by simpa using bv
 refine ak fun a5=>ay<|a5<|rt<|tr<|br<|tr<|tr<|br<|tr<|ba aa ?_
 rw [dK] at aw
 exact ⟨false,_,bc,aa,aw,bg,yE bx (by rw [bM]; exact co.trans<|sX _ _),fun h=>by cases h⟩
 obtain rfl :bR=true :=by simpa using bv
 obtain rfl :=cp rfl
 refine aO<|cD<|ak fun a5=>au (aW mb)<|p (nc aa)<|p (fa pZ aa)<|p (ld m8 aa<|(aY b4.cells).trans aa)<|p mv<|e<|cl A0 (Eh B tb am F xs (((aT F (flagsOf xs en) 2).getD i 0):Nat) dG (C.cap _ _ _ _ aw) a) aa fun v59 d2 c8=> ?_
 obtain ⟨bD,aQ⟩:=c8
 obtain ⟨aN,aP,rfl⟩:=cU bD
 have cZ:=C.wk aw aQ
 have c1:=b4.wk aQ
 have cT:=bg.trans<|Gw.wk aQ
 have dh:=aX ch.1 aQ
 have df:∀ q,(bB aN (aT F (bY F (((aT F (flagsOf xs en) 2).getD i 0):Nat)) 2).length aP).ownBlock=some q→¬bc q:=fun q bG h=>by have h1:=(dd bD bG).1; have h2:=C.lt _ _ _ _ aw q h; omega
 have dk:=eS bD (show S0≤_ by have :=bg.size; omega)
 have dO:=rZ F (bY F (((aT F (flagsOf xs en) 2).getD i 0):Nat)) 2
 refine p (bO sx aa aa)<|p mv<|nl<|a5<|aB<|lp (fun ar G al=> ∃ (k:Nat) (I:Nat→Prop),(k≤(aT F (bY F (((aT F (flagsOf xs en) 2).getD i 0):Nat)) 2).length)∧(M true ((pre++(e0 F xs en x.1 (-1) (-1)++((aT F (flagsOf xs en) 2).take i).flatMap (gC F xs en)))++(e0 F xs en wd (((aT F (flagsOf xs en) 2).getD i 0):Nat) (-1)++((aT F (bY F (((aT F (flagsOf xs en) 2).getD i 0):Nat)) 2).take k).flatMap (jN F xs en wd (((aT F (flagsOf xs en) 2).getD i 0):Nat)))) I al)∧(gX al I S0 mb tb ah K F (en:Int) x.1<|aT F (flagsOf xs en) 1)∧(bp al S0 3 1 (.slice ac (aT F (flagsOf xs en) 2).length ae) (aT F (flagsOf xs en) 2).length<|(aT F (flagsOf xs en) 2).map gN)∧(∀ q,(bB ac (aT F (flagsOf xs en) 2).length ae).ownBlock=some q→¬I q)∧(bp al S0 3 1 (.slice aN (aT F (bY F (((aT F (flagsOf xs en) 2).getD i 0):Nat)) 2).length aP) (aT F (bY F (((aT F (flagsOf xs en) 2).getD i 0):Nat)) 2).length<|(aT F (bY F (((aT F (flagsOf xs en) 2).getD i 0):Nat)) 2).map gN)∧(∀ q,(bB aN (aT F (bY F (((aT F (flagsOf xs en) 2).getD i 0):Nat)) 2).length aP).ownBlock=some q→¬I q)∧(Gw S0 fp w I al)∧(G 0=aW mb)∧(G 4= .int .i64 (((aT F (flagsOf xs en) 2).getD i 0):Nat))∧(G 5=str ((cQ r x.1).getD []))∧(G 26= .slice ac (aT F (flagsOf xs en) 2).length ae)∧(G 27=aj ((aT F (flagsOf xs en) 2).length))∧(G 28=aj i)∧(G 59= .slice aN (aT F (bY F (((aT F (flagsOf xs en) 2).getD i 0):Nat)) 2).length aP)∧(G 60= .int .i64 ((aT F (bY F (((aT F (flagsOf xs en) 2).getD i 0):Nat)) 2).length:Nat))∧(G 61=aj k)∧((aT F (bY F (((aT F (flagsOf xs en) 2).getD i 0):Nat)) 2).length - k=ar)) _ ⟨0,bc,ab,(by simpa using cZ),c1,dh,ch.2,dk,df,cT,aa,aa,aa,aa,aa,aa,aa,aa,aa,aa⟩ ?_
 rintro ar G al ⟨k,I,hk,bk,V,ci,bz,bF,b9,b1,ds,dw,dx,dt,du,dv,dy,dz,dA,rfl⟩
 refine fx 0 ds<|fx 4 dw<|fx 5 dx<|fx 26 dt<|fx 27 du<|fx 28 dv<|fx 59 dy<|fx 60 dz<|fx 61 dA<|ak fun cF=>p (lt aa aa)<|nl<|cF<|az fun cG=>cd aa (fun dc=> ?_) fun dc=> ?_
 refine aO<|cG<|az fun bN=>aB<|ak fun cH=>p (a6 pX aa aa ab<|aE.ok ((aV bF).2)<|cY ab)<|p (ld bK aa<|aE.jj (i:=k) (aV bF).2<|xR ab)<|ay<|cH<|az fun cK=> ?_
 have dD:=oS.1<|e6 (d:=0) (show k < (aT F (bY F (((aT F (flagsOf xs en) 2).getD i 0):Nat)) 2).length by omega)
 obtain ⟨ai,Z⟩:∃ r,F.rules[((aT F (bY F (((aT F (flagsOf xs en) 2).getD i 0):Nat)) 2).getD k 0)]? =some r:=⟨_,cj dD.1⟩
 have ct:F.rules.getD ((aT F (bY F (((aT F (flagsOf xs en) 2).getD i 0):Nat)) 2).getD k 0) di=ai:=by rw [cX,Z]; rfl
 have a3:=xC (g:=jN F xs en wd (((aT F (flagsOf xs en) 2).getD i 0):Nat)) 0 (show k < (aT F (bY F (((aT F (flagsOf xs en) 2).getD i 0):Nat)) 2).length by omega)
 refine rg aa<|au (aW mb)<|p (nc aa)<|p (fa rJ aa)<|p (ld kh aa<|(aY V.cells).trans aa)<|p mv<|p (a6 km aa aa ab<|aE.ok ((aV V.ru).2)<|kT (V.ku Z).choose_spec)<|p (cz jF aa (aa)<|gn (f:=dC) (m:=7) (fun _=>rfl) (aV V.ru).2 (V.ku Z).choose_spec)<|au (str<|(cQ r x.1).getD [])<|e<|cl rj (q6 ai (V.ku Z).choose ((cQ r x.1).getD []) al (ja a Z).1 (ja a Z).2.1 (ja a Z).2.2.1<|by rw [aq]; omega) aa fun d0 dH c9=> ?_
 obtain ⟨rfl,av⟩:=c9
 have b2:=C.wk bk av
 have bm:=V.wk av
 have bW:=b1.trans<|Gw.wk av
 have ca:=aX ci av
 have ck:=aX bF av
 refine p mv<|p (xt aa aa)<|p (xt aa aa)<|p aA<|ay<|cK<|az fun bP=>rg aa<|p mv<|p mv<|gb (t:=78) aa (fun bs=> ?_) fun bs=> ?_
 obtain ⟨v2,cu⟩:∃ v,cQ ai ((cQ r x.1).getD [])=some v:=nI.1 bs
 have bJ:(cQ ai<|(cQ r x.1).getD []).getD []=v2:=by rw [cu]; rfl
 have a4:cQ ai wd=some v2:=by rw [← aq]; exact cu
 have aD:jN F xs en wd (((aT F (flagsOf xs en) 2).getD i 0):Nat) ((aT F (bY F (((aT F (flagsOf xs en) 2).getD i 0):Nat)) 2).getD k 0)=e0 F xs en v2 (((aT F (flagsOf xs en) 2).getD i 0):Nat) (((aT F (bY F (((aT F (flagsOf xs en) 2).getD i 0):Nat)) 2).getD k 0):Nat):=by unfold jN; rw [ct,a4]
 have dQ:=(tq (ja a Z).2.2.2 a4).2
 have b7:gC F xs en ((aT F (flagsOf xs en) 2).getD i 0)=(e0 F xs en wd (((aT F (flagsOf xs en) 2).getD i 0):Nat) (-1)++((aT F (bY F (((aT F (flagsOf xs en) 2).getD i 0):Nat)) 2).take k).flatMap (jN F xs en wd (((aT F (flagsOf xs en) 2).getD i 0):Nat)))++(jN F xs en wd (((aT F (flagsOf xs en) 2).getD i 0):Nat) ((aT F (bY F (((aT F (flagsOf xs en) 2).getD i 0):Nat)) 2).getD k 0)++((aT F (bY F (((aT F (flagsOf xs en) 2).getD i 0):Nat)) 2).drop<|k+1).flatMap (jN F xs en wd (((aT F (flagsOf xs en) 2).getD i 0):Nat))):=by rw [bM,Cf (g:=jN F xs en wd (((aT F (flagsOf xs en) 2).getD i 0):Nat)) 0 (show k < (aT F (bY F (((aT F (flagsOf xs en) 2).getD i 0):Nat)) 2).length by omega),dK]
 refine aU aa (aH (aW mb) aa)<|aU aa mv<|aU aa (aH (.int .i64 (((aT F (flagsOf xs en) 2).getD i 0):Nat)) aa)<|aU aa mv<|eg aa aa aa<|cl vV (wP B tb am F xs a ah S0 mb an M C K (en:Int) x.1 _ ((pre++(e0 F xs en x.1 (-1) (-1)++((aT F (flagsOf xs en) 2).take i).flatMap (gC F xs en)))++(e0 F xs en wd (((aT F (flagsOf xs en) 2).getD i 0):Nat) (-1)++((aT F (bY F (((aT F (flagsOf xs en) 2).getD i 0):Nat)) 2).take k).flatMap (jN F xs en wd (((aT F (flagsOf xs en) 2).getD i 0):Nat)))) I en ((cQ ai<|(cQ r x.1).getD []).getD []) ((((aT F (flagsOf xs en) 2).getD i 0):Nat):Int) ((((aT F (bY F (((aT F (flagsOf xs en) 2).getD i 0):Nat)) 2).getD k 0):Nat):Int) dH bm b2 aa aa (.inr ab) (.inr ab) (by rw [bJ]; omega) (((aT F (bY F (((aT F (flagsOf xs en) 2).getD i 0):Nat)) 2).drop<|k+1).flatMap (jN F xs en wd (((aT F (flagsOf xs en) 2).getD i 0):Nat))++(((aT F (flagsOf xs en) 2).drop<|i+1).flatMap (gC F xs en)++tl))<|by rw [bJ,b6,b7,aD]; simp only [dK]) aa fun d1 d3 da=> ?_
 obtain ⟨bS,dV,bT,rfl,a1,aZ,cq,cr⟩:=da
 rw [bJ] at cq cr
 have c2:=bm.gw aZ
 have bX:=bW.trans aZ
 have cc:=aZ.own ca bz
 have cm:=aZ.own ck b9
 refine aU aa (no aa)<|p (bL aa)<|nl<|bP<|cb aa (fun bw=> ?_) fun bw=> ?_
 obtain rfl :bS=false :=by simpa using bw
 refine ak fun cL=>ay<|cL<|rt<|br<|tr<|tr<|br<|br<|tr<|tr<|br<|tr<|ba aa ?_
 rw [dK,dK] at a1
 exact ⟨false,_,bT,aa,a1,bX,yE bx (yE b7<|by rw [aD]; exact cq),fun h=>by cases h⟩
 obtain rfl :bS=true :=by simpa using bw
 obtain rfl :=cr rfl
 rw [aD] at a3
 exact aO<|bn<|bN<|rg aa<|p (ad aa aa<|cg ab)<|p mv<|nl<|tn<|⟨_,ab,k+1,bT,ab,(by rw [a3,← dK (e0 F xs en wd (((aT F (flagsOf xs en) 2).getD i 0):Nat)<|-1)]; rw [dK] at a1; exact a1),c2,cc.1,cc.2,cm.1,cm.2,bX,aa,aa,aa,aa,aa,aa,aa,aa,aa,aa⟩
 have a4:cQ ai wd=none:=by rw [← aq]; simpa using bs
 have aD:jN F xs en wd (((aT F (flagsOf xs en) 2).getD i 0):Nat) ((aT F (bY F (((aT F (flagsOf xs en) 2).getD i 0):Nat)) 2).getD k 0)= []:=by unfold jN; rw [ct,a4]
 rw [aD,eb] at a3
 refine aK aa<|aK aa<|aK aa<|aK aa<|aK aa<|aK aa<|p (bC aa)<|nl<|bP<|cf aa<|aO<|bn<|bN<|rg aa<|p (ad aa aa<|cg ab)<|p mv ?_
 exact nl<|tn<|⟨_,ab,k+1,I,ab,(by rw [a3]; exact b2),bm,ca,bz,ck,b9,bW,aa,aa,aa,aa,aa,aa,aa,aa,aa,aa⟩
 exact ext<|bj<|bj<|be<|bn<|aM<|rg aa<|p (ad aa aa<|cg ab)<|p mv<|nl<|tn<|⟨_,ab,i+1,I,ab,(by rw [bI,bM]; rw [fq (show (aT F (bY F (((aT F (flagsOf xs en) 2).getD i 0):Nat)) 2).length≤k by omega),dK] at bk; rw [← dK (e0 F xs en x.1 (-1)<|-1)]; exact bk),V,ci,bz,b1,aa,aa,aa,aa,aa⟩
 refine ext<|bj<|bj<|be<|a8<|ak fun aM=>p aA<|nl<|aM<|rt<|ba aa ?_
 rw [fq ab,← a2] at bi
 exact ⟨true,_,O,aa,bi,b0,zQ _,fun _=>rfl⟩
end Go.Hb
end
section
namespace Go.Hb.pC
open Go.Hb.lO
noncomputable def jJ (F:aG) (xs:List bo) (n:Int):List cJ:=if 0≤n∧n < xs.length then eK F xs n.toNat else []
theorem rq {F:aG} {xs:List bo} {k:Nat} (h:k < xs.length):jJ F xs k=eK F xs k:=by unfold jJ; rw [if_pos ab,jv]
theorem BD {F:aG} {xs:List bo} {n:Int} (h:¬(0≤n∧n < xs.length)):jJ F xs n= []:=if_neg h
def jh (W:World) (b:Nat) (a:Option Addr):Prop :=W.heap[b]? =some (.cells [.pointer a].toArray 22 (0,0))
def gJ (W:World) (b:Nat) (n:Int):Prop :=W.heap[b]? =some (.cells [.int .i64 n].toArray 3 (0,0))
theorem HE (B tb:Nat) (c:fX) (F:aG) (xs:List bo) (a S0:Nat) (w:World) (C:eQ w B tb c F xs) (q:ff F xs) (O:S0≤w.heap.size):
 bd ao 41 (a7 [aW tb,.func (.yield a) #[] #[]]) w (fun v w'=> ∃ mb K,v=aW mb∧gX w' (fun _=>False) S0 mb tb a K F 0 [] []∧Wk w w'):=by
 refine enter func41 aa ntmps41 aa<|ak fun E=>ay<|E<|ak fun G=>au (aW tb)<|au (aW tb)<|p (nc aa)<|p (fa tZ aa)<|p (ld eF aa<|(aY C.cells).trans aa)<|e<|cl tB (th B c.fb c.mc F c.V w C.fl (by have :=q.len; omega) q.nx) aa fun v10 ac M=> ?_
 obtain ⟨⟨⟨v9,v10,v11,v12,sa,rn⟩,rfl,hax⟩,hE10⟩:=M
 obtain ⟨ar,cr,i⟩:=cU hax.ea
 have i:v12=_:=i
 subst i
 have Z:=hE10.size
 have U:rn.length=F.rules.length:=by have :=hax.nx.1; rwa [eX] at this
 exact p (BU BV aa aa)<|au (.func (.yield a) #[] #[])<|p (cT (ps:= [(0,aW tb),(1,.slice ar F.rules.length cr),(5,.func (.yield a) #[] #[])]) (L:= [aW tb,.slice ar F.rules.length cr,.int .i64 0,.string ⟨⟨[]⟩⟩,.slice none 0 0,.func (.yield a) #[] #[]]) QX aa<|aa)<|e<|ra aa fun I ad Y A J=>ay<|G<|rt<|ba aa<|⟨I,⟨ar,cr,rn,none,0⟩,aa,⟨ab,J,id,aX (eS hax.ea O) A.md,fun _ _=>id,U,dJ _ _ _ _,fun _ _=>id⟩,hE10.trans A.md⟩
theorem um (B tb:Nat) (Y:fX) (F:aG) (xs:List bo) (aq:ff F xs) (C S0 mb:Nat) (an:List cJ) (V:Bool→List cJ→(Nat→Prop)→World→Prop) (i:Yc ao C S0 nQ an (fun W=>eQ W B tb Y F xs) V) (K:pE) (aN:Int) (aM:Tx) (ps:List Nat) (pre:List cJ) (fp:Nat→Prop) (n:Int) (w:World) (O:gX w fp S0 mb tb C K F aN aM ps) (av:V true pre fp w) (tl:List cJ) (bI:an=pre++(jJ F xs n++tl)):
 bd ao 42 (a7 [aW mb,.int .i64 n]) w (fun v w'=> ∃ b q fp' bb bg bO bL,v= .bool b∧V b (pre++q) fp' w'∧gX w' fp' S0 mb tb C bb F bg bO bL∧q <+:jJ F xs n∧(b=true→q=jJ F xs n)):=by
 have bU:=i.lt _ _ _ _ av
 have bD:=i.cap _ _ _ _ av
 have bS:S0≤w.heap.size:=by have :=O.lo; have :=(cy.1 O.cells).1; omega
 refine enter func42 aa ntmps42 aa<|ak fun a4=>ay<|a4<|ak fun a5=>p mv<|p (nc aa)<|p (fa pZ aa)<|p (ld m8 aa<|(aY O.cells).trans aa)<|p mv<|e<|cl nO (pU B tb Y F xs n w bD aq) aa fun bY b0 bx=> ?_
 obtain ⟨⟨bP,rfl,bF⟩,hE13⟩:=bx
 obtain ⟨G,I,rfl⟩:=cU bF
 have bW:=hE13.size
 refine p mv<|p (xt aa aa)<|p (xt aa aa)<|e<|al lD fun A b2 aX aU bn=> ?_
 have bX:=aU.size
 refine e<|ca gP aa aa aa aa (bn) (by simp) fun E bv bi=> ?_
 have au:Wk w E:=(hE13.trans aU.md).trans' bv fun q ah h=>by omega
 have aX:bw E.heap A [str (fO xs n),.slice G (flagsOf xs n).length I]:=bi
 have aP:=i.wk av au
 have aQ:=O.wk au
 have bV:=au.size
 refine ay<|a5<|az fun a6=>ak fun a8=>p mv<|p (no aa)<|nl<|a8<|cb aa (fun U=> ?_) fun U=> ?_
 have bH:¬(0≤n∧n < xs.length):=fun h=>by rw [decide_eq_true h] at U; cases U
 exact ak fun am=>ay<|am<|rt<|tr<|ba aa<|⟨true,[],fp,K,aN,aM,ps,aa,by rw [eb]; exact aP,aQ,List.nil_prefix,fun _=>(BD bH).symm⟩
 have bT:0≤n∧n < xs.length:=qD fun h=>by rw [decide_eq_false h] at U; cases U
 obtain ⟨k,rfl⟩:∃ k:Nat,n=(k:Int):=⟨n.toNat,ab⟩
 obtain ⟨x,a0⟩:∃ x,xs[k]? =some x:=⟨_,cj ab⟩
 obtain ⟨bf,bQ,ap,bR⟩:=nL a0
 have ax:=i.wk aP (Md.refl (fun _=>False) E).drew
 have aR:=aQ.wk (Md.refl (fun _=>False) E).drew
 have aE:A≠mb:=fun h=>by have :=(cy.1 O.cells).1; omega
 refine aO<|a6<|az fun am=> ?_
 have c:(fun w'=>bw w'.heap A [str (fO xs (k:Int)),.slice G (flagsOf xs (k:Int)).length I]∧Hb.aI w'.heap mb 0=some (aW tb)) E.drew:=⟨aX,(aY aR.cells).trans rfl⟩
 refine bM (fun w'=>bw w'.heap A [str (fO xs (k:Int)),.slice G (flagsOf xs (k:Int)).length I]∧Hb.aI w'.heap mb 0=some (aW tb)) aa wide c<|aJ 0 aa (fun _ _=>mv) c<|aJ 1 aa (fun _ _=>mv) c<|aJ 2 aa (fun _ _=>mv) c<|aJ 3 aa (fun _ _=>mv) c<|aJ 4 aa (fun _ _=>fa rP aa) c<|aJ 5 aa (fun w' aD=>ld cO aa<|aD.1.bm 0) c<|aJ 6 aa (fun _ _=>mv) c<|aJ 7 aa (fun _ _=>nc aa) c<|aJ 8 aa (fun _ _=>fa pZ aa) c<|aJ 9 aa (fun w' aD=>ld m8 aa<|aD.2) c<|aJ 10 aa (fun _ _=>mv) c<|he 11 aa ag<|cl A1 (DY B tb Y F xs (k:Int) E.drew (i.cap _ _ _ _ ax) aq) aa fun bZ a1 bz=> ?_
 obtain ⟨aL,Z⟩:=bz
 obtain ⟨J,M,rfl⟩:=cU aL
 have br:=i.wk ax Z
 have a:=aR.wk Z
 have bE:∀ q,(bB J (aT F (flagsOf xs (k:Int)) 1).length M).ownBlock=some q→¬fp q:=fun q ah h=>by have h1:=(dd aL ah).1; have h2:=i.lt _ _ _ _ ax q h; omega
 have bG:=eS aL (show S0≤_ by have :E.heap.size≤E.drew.heap.size:=cw _; omega)
 have ac:(fun w'=>bw w'.heap A [str (fO xs (k:Int)),.slice G (flagsOf xs (k:Int)).length I]∧Hb.aI w'.heap mb 0=some (aW tb)) a1:=⟨Wk.B Z c.1,Wk.aI Z c.2⟩
 refine ⟨ac,?_⟩
 refine aJ 12 aa (fun _ _=>nc aa) ac<|aJ 13 aa (fun _ _=>fa xG aa) ac<|he 14 aa ag<|dF lj aa aa (v:=aj k) aa a.cells (by show 2 < 6; omega) fun a2 aA bj=> ?_
 have aF:a2.heap[mb]? =some (.cells (lX tb C K F (k:Int) aM ps).toArray 183 (0,0)):=bj
 have bs:=i.r9 br a.cells a.lo a.nf aA
 have ad:(fun w'=>bw w'.heap A [str (fO xs (k:Int)),.slice G (flagsOf xs (k:Int)).length I]∧Hb.aI w'.heap mb 0=some (aW tb)) a2:=⟨Md.B aA ac.1 aE,(aY aF).trans rfl⟩
 refine ⟨ad,?_⟩
 refine aJ 15 aa (fun _ _=>nc aa) ad<|aJ 16 aa (fun _ _=>fa xH aa) ad<|he 17 aa ag<|dF nd aa aa (v:=str<|fO xs (k:Int)) aa aF (by show 3 < 6; omega) fun a3 aB bk=> ?_
 have aH:a3.heap[mb]? =some (.cells (lX tb C K F (k:Int) (fO xs (k:Int)) ps).toArray 183 (0,0)):=bk
 have bt:=i.r9 bs aF a.lo a.nf aB
 have ae:(fun w'=>bw w'.heap A [str (fO xs (k:Int)),.slice G (flagsOf xs (k:Int)).length I]∧Hb.aI w'.heap mb 0=some (aW tb)) a3:=⟨Md.B aB ad.1 aE,(aY aH).trans rfl⟩
 refine ⟨ae,?_⟩
 refine aJ 18 aa (fun _ _=>nc aa) ae<|aJ 19 aa (fun _ _=>fa Co aa) ae<|he 20 aa ag<|dF Bz aa aa (v:= .slice J (aT F (flagsOf xs (k:Int)) 1).length M) aa aH (by show 4 < 6; omega) fun ai aC bl=> ?_
 have aK:ai.heap[mb]? =some (.cells (lX tb C ⟨K.ar,K.cr,K.rn,J,M⟩ F (k:Int) (fO xs (k:Int))<|aT F (flagsOf xs (k:Int)) 1).toArray 183 (0,0)):=bl
 rw [bf] at aK
 have bu:=i.r9 bt aH a.lo a.nf aC
 have aZ:=(aA.trans' aB fun q ah h=>h).trans' aC fun q ah h=>h
 have aV:TF a1 [185] (fun q=>q=mb):=TF.eq (dt a.cells) aw
 have aS:gX ai fp S0 mb tb C ⟨K.ar,K.cr,K.rn,J,M⟩ F (k:Int) x.1 (aT F (flagsOf xs (k:Int)) 1):=⟨a.lo,aK,a.nf,cW a.ru aZ aV aw,a.rf,a.rn,cW bG aZ aV aw,bE⟩
 have bC:(fun w'=>bw w'.heap A [str (fO xs (k:Int)),.slice G (flagsOf xs (k:Int)).length I]∧Hb.aI w'.heap mb 0=some (aW tb)) ai:=⟨Md.B aC ae.1 aE,(aY aK).trans rfl⟩
 refine ⟨bC,?_⟩
 refine hn ag<|am<|ak fun a9=>p mv<|e<|cl I7 (Qn B tb Y F xs aq C S0 mb an V i ⟨K.ar,K.cr,K.rn,J,M⟩ pre fp k x ai aS bu a0 tl<|by rw [bI,rq ap]) aa fun v37 b1 bA=> ?_
 obtain ⟨bc,bN,bh,rfl,bq,bp,bJ,bK⟩:=bA
 exact ay<|a9<|rt<|ba aa<|⟨bc,bN,bh,_,_,_,_,aa,bq,aS.gw bp,by rw [rq ap]; exact bJ,fun h=>by rw [rq ap]; exact bK h⟩
theorem ry (q:Option Addr) (n:Int) (w:World):
 bd ao 16 (a7 [.pointer q,.int .i64 n]) w (fun v w'=> ∃ a be,v= .func (.func 40) #[] #[aW a,aW be]∧w.heap.size≤a∧w.heap.size≤be∧jh w' a q∧gJ w' be n∧Wk w w'):=by
 refine enter func16 aa ntmps16 aa<|ak fun A=>e<|q9 aa aa fun E V M c I=> ?_
 have U:=c.size
 exact e<|q9 aa aa fun G Y O i J=>ay<|A<|ak fun C=>p Ds<|p aA<|nl<|C<|rt<|ba aa<|⟨E,G,aa,ab,ab,Wk.aB i.md I,J,c.md.trans i.md⟩
theorem xh (B tb:Nat) (C:fX) (F:aG) (xs:List bo) (M:ff F xs) (a be i:Nat) (n:Int) (q:Bool→List cJ→(Nat→Prop)→World→Prop) (w:World) (J:q true [] (fun _=>False) w) (A:Yc ao i w.heap.size nQ (jJ F xs n) (fun W=>eQ W B tb C F xs∧jh W a (some ⟨tb,0,none⟩)∧gJ W be n) q):
 bd ao 40 (a7 [.func (.yield i) #[] #[],aW a,aW be]) w (fun v w'=> ∃ b pre fp,q b pre fp w'∧pre <+:(jJ F xs n)∧(b=true→pre=(jJ F xs n))):=by
 obtain ⟨ai,O,aj⟩:=A.cap _ _ _ _ J
 refine enter func40 aa ntmps40 aa<|ak fun V=>p (ld m8 aa<|(aY O).trans aa)<|p (Dz sv aa aa)<|nl<|V<|ct (aa) ?_
 have c:(fun w'=>jh w' a (some ⟨tb,0,none⟩)∧gJ w' be n) w.drew:=⟨O,aj⟩
 refine bM (fun w'=>jh w' a (some ⟨tb,0,none⟩)∧gJ w' be n) aa wide c<|aJ 0 aa (fun w' I=>ld m8 aa<|(aY I.1).trans aa) c<|bH 1 aa (.func (.yield i) #[] #[]) c<|aJ 3 aa (fun w' I=>ld bK aa<|(aY I.2).trans aa) c<|he 2 aa ag<|cl IU (HE B tb C F xs i w.heap.size w.drew (ai.wk (Md.refl _ _).drew) M<|cw _) aa fun aw U ad=> ?_
 obtain ⟨mb,K,rfl,ab,E⟩:=ad
 have ae:(fun w'=>jh w' a (some ⟨tb,0,none⟩)∧gJ w' be n) U:=⟨Wk.aB E c.1,Wk.aB E c.2⟩
 refine ⟨ae,?_⟩
 refine he 4 aa ag<|cl IV (um B tb C F xs M i w.heap.size mb (jJ F xs n) q (A.RW fun W h=>h.1) K 0 [] [] [] (fun _=>False) n U ab (A.wk J<|(Md.refl (fun _=>False) w).drew.trans E) []<|by rw [eb,lJ]) aa fun v10 ap ac=> ?_
 obtain ⟨Y,an,Z,aq,ar,ax,av,rfl,G,au,al,am⟩:=ac
 rw [lJ] at G
 have ah:(fun w'=>jh w' a (some ⟨tb,0,none⟩)∧gJ w' be n) ap:=(A.cap _ _ _ _ G).2
 refine ⟨ah,?_⟩
 exact hn ag<|f0 aa<|⟨Y,an,Z,G,al,am⟩
theorem Ln (c be C:Nat) (n:Int) (a:Bool→List cJ→(Nat→Prop)→World→Prop) (w:World) (q:a true [] (fun _=>False) w) (A:jh w c none):
 bd ao 40 (a7 [.func (.yield C) #[] #[],aW c,aW be]) w (fun v w'=> ∃ b pre fp,a b pre fp w'∧pre <+:([]:List cJ)∧(b=true→pre=([]:List cJ))):=by
 refine enter func40 aa ntmps40 aa<|ak fun i=>p (ld m8 aa<|(aY A).trans aa)<|p (Dz sv aa aa)<|nl<|i<|cf (aa)<|aO<|f0 aa ?_
 exact ⟨true,[],_,q,zQ _,fun _=>rfl⟩
theorem tJ (B tb:Nat) (c:fX) (F:aG) (xs:List bo) (A:ff F xs) (a be:Nat) (n:Int):vG ao 40 #[.pointer (some ⟨a,0,none⟩),.pointer (some ⟨be,0,none⟩)] nQ (jJ F xs n) (fun W=>eQ W B tb c F xs∧jh W a (some ⟨tb,0,none⟩)∧gJ W be n):=
 fun l i W q C=>jQ (xh B tb c F xs A a be l n i W q C) fun e w' ⟨v,he,E⟩=>⟨⟨v,he⟩,E⟩
theorem Lo (a be:Nat) (n:Int):vG ao 40 #[.pointer (some ⟨a,0,none⟩),.pointer (some ⟨be,0,none⟩)] nQ [] (fun W=>jh W a none):=
 fun l i W c q=>jQ (Ln a be l n i W c<|q.cap _ _ _ _ c) fun e w' ⟨v,he,A⟩=>⟨⟨v,he⟩,A⟩
end Go.Hb.pC
end
section
namespace Go.Hb
open Go.Hb.lO Go.Hb.pC
def kX (L:List cJ) (most:Int):List cJ:=if most < 1 then [] else L.take most.toNat
theorem ED {L:List cJ} {most:Int} (h:(L.length:Int) < most):kX L most=L:=by unfold kX; rw [if_neg ab,fq ab]
theorem EG {L q:List cJ} {most:Int} (h:q <+:L) (hm:(q.length:Int)=most) (h1:¬most < 1):kX L most=q:=by
 have e:=List.prefix_iff_eq_take.1 h
 unfold kX; rw [if_neg h1,show most.toNat=q.length by omega]; exact e.symm
theorem EF {L:List cJ} {most:Int} (h:most < 1):kX L most= []:=if_pos h
theorem Dg (B tb:Nat) (ar:fX) (F:aG) (xs:List bo) (n most:Int) (w:World) (aN:eQ w B tb ar F xs) (a2:ff F xs) (bM:most≤1048576):
 bd ao 13 (a7 [.pointer (some ⟨tb,0,none⟩),.int .i64 n,.int .i64 most]) w (fun v w'=>bp w' w.heap.size 41 5 v (kX (jJ F xs n) most).length (jl<|kX (jJ F xs n) most)∧Wk w w'):=by
 refine tM [] func13 aa ntmps13 aa ?_
 refine dI<|dY<|rg aa<|e<|q9 aa aa fun V bZ bB aM a4=> ?_
 have bU:=aM.size
 refine p aA<|nl<|dE<|dI<|dY<|rg aa<|e<|gx Fv fun ag bu bC ay a6=> ?_
 have bV:=ay.size
 have aL:=aM.md.trans ay.md
 have aJ:=Wk.aB ay.md a4
 refine nl<|dE<|dI<|dI<|dY<|rg aa<|p (ld bK aa<|(aY aJ).trans aa)<|p (lt aa aa)<|nl<|dE<|dY<|cd aa (fun bH=> ?_) fun bH=> ?_
 refine sq fun a0 ax=>rg aa<|p aA<|nl<|tn<|ax _ _<|rt<|prt<|BQ aa aa ?_
 exact ⟨by rw [EF bH]; exact dJ _ _ _ _,aL⟩
 refine aO<|dE<|dI<|dI<|dY<|rg aa<|p mv<|p mv<|e<|cl AG (ry (some ⟨tb,0,none⟩) n bu) aa fun bX aD bg=> ?_
 obtain ⟨Y,be,rfl,bG,bE,aR,aP,ai⟩:=bg
 have ah:=aL.trans ai
 have bQ:=ai.size
 have bk:=Wk.aB ai a6
 have bi:gJ aD V most:=Wk.aB ai aJ
 have aq:ag < aD.heap.size:=ab
 have aU:V < aD.heap.size:=ab
 have aV:=(cy.1 aR).1
 have hle:=(cy.1 aP).1
 have aZ:=ah.size
 refine nl<|dE ?_
 apply D9 (nQ) (jJ F xs n) (fun W=>eQ W B tb ar F xs∧jh W Y (some ⟨tb,0,none⟩)∧gJ W be n) (fun pre fp i=> ∃ v,i.heap[ag]? =some (.cells [v].toArray 27 (0,0))∧bp i w.heap.size 41 5 v pre.length (jl pre)∧(∀ k,v.ownBlock=some k↔fp k)∧jh i Y (some ⟨tb,0,none⟩)∧gJ i be n∧gJ i V most∧Wk w i∧(pre.length:Int) < most) (fun r pre fp i=>r=false∧∃ v,i.heap[ag]? =some (.cells [v].toArray 27 (0,0))∧bp i w.heap.size 41 5 v pre.length (jl pre)∧(∀ k,v.ownBlock=some k↔fp k)∧jh i Y (some ⟨tb,0,none⟩)∧gJ i be n∧gJ i V most∧Wk w i∧(pre.length:Int)=most) rfl AY (fun _=>rfl) (tJ B tb ar F xs a2 Y be n) (⟨.slice none 0 0,bk,dJ _ _ _ _,fun k=>by simp [fT],aR,aP,bi,ah,by simp only [fV]; omega⟩) (fun pre fp W ⟨v,h1,h2,h3,h4,h5,Z,I,ac⟩=>⟨⟨aN.wk I,h4,h5⟩,fun k hk=>(dd h2<|(h3 k).2 hk).2⟩) (fun r pre fp W ⟨aH,v,h1,h2,h3,h4,h5,Z,I,ac⟩=>⟨⟨aN.wk I,h4,h5⟩,fun k hk=>(dd h2<|(h3 k).2 hk).2⟩) (fun pre fp W a1 F ⟨v,h1,h2,h3,h4,h5,Z,I,ac⟩ hm C=>⟨v,jO h1 hm aq C,uK h2 hm (fun k hk=>(h3 k).1 hk) C,h3,jO h4 hm aV C,jO h5 hm hle C,jO Z hm aU C,uL I hm aZ C,ac⟩) (fun r pre fp W a1 F ⟨aH,v,h1,h2,h3,h4,h5,Z,I,ac⟩ hm C=>⟨aH,v,jO h1 hm aq C,uK h2 hm (fun k hk=>(h3 k).1 hk) C,h3,jO h4 hm aV C,jO h5 hm hle C,jO Z hm aU C,uL I hm aZ C,ac⟩) (fun x b i=>i.heap[b]? =some (.cells (eG x).toArray 41 (0,0))) (An (f:=eG))
 intro l x i K J
 exact rg aa<|e<|gx uZ fun aF b1 bD bf a8=>e<|gi tF aa aa aa aa a8 aw fun b0 bc a5=>nl<|tn<|J aF _ (bf.md.trans' bc fun q bN h=>by omega) a5
 intro l pre x rest fp aF i bP av aI
 obtain ⟨v,M,A,U,an,am,ak,O,hlen⟩:=av
 have bW:=O.size
 have bF:=(cy.1 aI).1
 refine aB<|sq fun a0 ax=>rg aa<|p (ld nK aa<|(aY M).trans aa)<|p (cz k6 aa (aa) fun j bI=>(pL aI).bm j)<|e<|mu uD aa aa aa fun bx bY bA a a3=> ?_
 have bS:=a.size
 refine e<|ap uD (aX A a.md) aa ab aa (aE.fA a3) (aa) (aa) ab ab fun ad bt aC E bT aT=> ?_
 have ba:=Wk.own (O.trans a.md) (aX A a.md) E<|cw _
 have al:=E.aB (a.md.aB M) fun h=>c8 (aX A a.md) (a.md.aB M) aw h
 obtain ⟨bw,bz,bs⟩:=cU aC
 have bq:=E.aB (a.md.aB an) fun h=>c8 (aX A a.md) (a.md.aB an) aw h
 have bl:=E.aB (a.md.aB am) fun h=>c8 (aX A a.md) (a.md.aB am) aw h
 have bj:=E.aB (a.md.aB ak) fun h=>c8 (aX A a.md) (a.md.aB ak) aw h
 refine e<|dF Bs aa aa (ej aC) al (by simp) fun ae G au=> ?_
 have aK:Wk w ae:=Md.trans' ba G fun k hk h=>by omega
 have aj:TF bt [29] (fun q=>q=ag):=TF.eq (dt al) aw
 have aW:bp ae w.heap.size 41 5 ad (pre++ [x]).length (jl<|pre++ [x]):=cW (by rw [show jl (pre++ [x])=jl pre++eG x from by unfold jl; rw [nC,oo],bJ]; exact aC) G aj aw
 have aS:jh ae Y (some ⟨tb,0,none⟩):=G.im aj bq aw
 have aQ:gJ ae be n:=G.im aj bl aw
 have az:gJ ae V most:=G.im aj bj aw
 have bL:(pre++ [x]).length=pre.length+1:=by simp
 refine nl<|tn<|ax _ _<|sq fun bv bb=>rg aa<|p (ld nK aa<|(aY au).trans<|by rw [bs]; rfl)<|p (bO qo aa aa)<|p (ld bK aa<|(aY az).trans aa)<|p (bR aa aa)<|nl<|tn<|bb _ _<|cd aa (fun heq=> ?_) fun heq=> ?_
 exact ext<|la aw<|⟨aa,(eu.wk a.md).trans ((eu.md E<|kR<|aX A a.md).trans<|eu.md G fun k hk=>⟨_,_,_,hk ▸ al⟩),fun k=>ad.ownBlock=some k,(Gw.wk a.md).trans ((Gw.md E (fun k hk=> .inl<|(U k).1 hk) fun k hk=>(aT k hk).imp (fun h=>(U k).1 h) id).trans<|Gw.md G (fun k hk=> .inr<|by subst hk; exact aq) fun _ h=> .inl h),aa,⟨ad,au,aW,fun _=>Iff.rfl,aS,aQ,az,aK,ab⟩⟩
 exact aO<|bn<|⟨(eu.wk a.md).trans ((eu.md E<|kR<|aX A a.md).trans<|eu.md G fun k hk=>⟨_,_,_,hk ▸ al⟩),fun k=>ad.ownBlock=some k,(Gw.wk a.md).trans ((Gw.md E (fun k hk=> .inl<|(U k).1 hk) fun k hk=>(aT k hk).imp (fun h=>(U k).1 h) id).trans<|Gw.md G (fun k hk=> .inr<|by subst hk; exact aq) fun _ h=> .inl h),⟨ad,au,aW,fun _=>Iff.rfl,aS,aQ,az,aK,ab⟩⟩
 intro D i a9 av J
 obtain ⟨fp,v,M,A,U,an,am,ak,O,hlen⟩:=av
 refine dE<|dI<|dY<|rg aa<|p (ld nK aa<|(aY M).trans aa)<|p aA<|nl<|dE<|oY<|tP aa aa J ?_
 exact ⟨cx (by rw [ED hlen]; exact A) (jL _ _ _) (fun k hk h=>by obtain ⟨c,e,z,h1⟩:=kR A k hk; rw [h,J] at h1; cases h1),Md.trans' O (jL _ _ _) fun k hk h=>by have :=ah.size; omega⟩
 intro D i pre a9 br bh J
 obtain ⟨fp,_,v,M,A,U,an,am,ak,O,hlen⟩:=bh
 refine dE<|dI<|dY<|rg aa<|p (ld nK aa<|(aY M).trans aa)<|p aA<|nl<|dE<|oY<|tP aa aa J ?_
 exact ⟨cx (by rw [EG br hlen bH]; exact A) (jL _ _ _) (fun k hk h=>by obtain ⟨c,e,z,h1⟩:=kR A k hk; rw [h,J] at h1; cases h1),Md.trans' O (jL _ _ _) fun k hk h=>by have :=ah.size; omega⟩
 exact fun _ _ _ _ _ h _=>by obtain ⟨_,h,_⟩:=h; cases h
theorem Oc (n most:Int) (w:World) (bE:most≤1048576):
 bd ao 13 (a7 [.pointer none,.int .i64 n,.int .i64 most]) w (fun v w'=>bp w' w.heap.size 41 5 v (kX ([]:List cJ) most).length (jl<|kX ([]:List cJ) most)∧Wk w w'):=by
 refine tM [] func13 aa ntmps13 aa ?_
 refine dI<|dY<|rg aa<|e<|q9 aa aa fun U bU bv aK a0=> ?_
 have bN:=aK.size
 refine p aA<|nl<|dE<|dI<|dY<|rg aa<|e<|gx Fv fun ag bo bw ax a2=> ?_
 have bP:=ax.size
 have aJ:=aK.md.trans ax.md
 have aH:=Wk.aB ax.md a0
 refine nl<|dE<|dI<|dI<|dY<|rg aa<|p (ld bK aa<|(aY aH).trans aa)<|p (lt aa aa)<|nl<|dE<|dY<|cd aa (fun bH=> ?_) fun bH=> ?_
 refine sq fun aV av=>rg aa<|p aA<|nl<|tn<|av _ _<|rt<|prt<|BQ aa aa ?_
 exact ⟨by rw [EF bH]; exact dJ _ _ _ _,aJ⟩
 refine aO<|dE<|dI<|dI<|dY<|rg aa<|p mv<|p mv<|e<|cl AG (ry none n bo) aa fun bS aC ba=> ?_
 obtain ⟨V,be,rfl,bB,bz,aN,aL,ai⟩:=ba
 have ah:=aJ.trans ai
 have bI:=ai.size
 have bg:=Wk.aB ai a2
 have bc:gJ aC U most:=Wk.aB ai aH
 have aq:ag < aC.heap.size:=ab
 have aR:U < aC.heap.size:=ab
 have aS:=(cy.1 aN).1
 have hle:=(cy.1 aL).1
 have aU:=ah.size
 refine nl<|dE ?_
 apply D9 (nQ) (([]:List cJ)) (fun W=>jh W V none) (fun pre fp i=> ∃ v,i.heap[ag]? =some (.cells [v].toArray 27 (0,0))∧bp i w.heap.size 41 5 v pre.length (jl pre)∧(∀ k,v.ownBlock=some k↔fp k)∧jh i V none∧gJ i be n∧gJ i U most∧Wk w i∧(pre.length:Int) < most) (fun r pre fp i=>r=false∧∃ v,i.heap[ag]? =some (.cells [v].toArray 27 (0,0))∧bp i w.heap.size 41 5 v pre.length (jl pre)∧(∀ k,v.ownBlock=some k↔fp k)∧jh i V none∧gJ i be n∧gJ i U most∧Wk w i∧(pre.length:Int)=most) rfl AY (fun _=>rfl) (Lo V be n) (⟨.slice none 0 0,bg,dJ _ _ _ _,fun k=>by simp [fT],aN,aL,bc,ah,by simp only [fV]; omega⟩) (fun pre fp W ⟨v,h1,h2,h3,h4,h5,Y,Z,ac⟩=>⟨h4,fun k hk=>(dd h2<|(h3 k).2 hk).2⟩) (fun r pre fp W ⟨aF,v,h1,h2,h3,h4,h5,Y,Z,ac⟩=>⟨h4,fun k hk=>(dd h2<|(h3 k).2 hk).2⟩) (fun pre fp W aW F ⟨v,h1,h2,h3,h4,h5,Y,Z,ac⟩ hm C=>⟨v,jO h1 hm aq C,uK h2 hm (fun k hk=>(h3 k).1 hk) C,h3,jO h4 hm aS C,jO h5 hm hle C,jO Y hm aR C,uL Z hm aU C,ac⟩) (fun r pre fp W aW F ⟨aF,v,h1,h2,h3,h4,h5,Y,Z,ac⟩ hm C=>⟨aF,v,jO h1 hm aq C,uK h2 hm (fun k hk=>(h3 k).1 hk) C,h3,jO h4 hm aS C,jO h5 hm hle C,jO Y hm aR C,uL Z hm aU C,ac⟩) (fun x b i=>i.heap[b]? =some (.cells (eG x).toArray 41 (0,0))) (An (f:=eG))
 intro l x i K I
 exact rg aa<|e<|gx uZ fun aD bW bx a9 a3=>e<|gi tF aa aa aa aa a3 aw fun bV a8 a1=>nl<|tn<|I aD _ (a9.md.trans' a8 fun q bF h=>by omega) a1
 intro l pre x rest fp aD i bG au aG
 obtain ⟨v,J,A,O,an,am,ak,M,hlen⟩:=au
 have bQ:=M.size
 have bA:=(cy.1 aG).1
 refine aB<|sq fun aV av=>rg aa<|p (ld nK aa<|(aY J).trans aa)<|p (cz k6 aa (aa) fun j bC=>(pL aG).bm j)<|e<|mu uD aa aa aa fun bs bT bu a aZ=> ?_
 have bL:=a.size
 refine e<|ap uD (aX A a.md) aa ab aa (aE.fA aZ) (aa) (aa) ab ab fun ad bl az E bM aQ=> ?_
 have a5:=Wk.own (M.trans a.md) (aX A a.md) E<|cw _
 have al:=E.aB (a.md.aB J) fun h=>c8 (aX A a.md) (a.md.aB J) aw h
 obtain ⟨br,bt,bk⟩:=cU az
 have bi:=E.aB (a.md.aB an) fun h=>c8 (aX A a.md) (a.md.aB an) aw h
 have bh:=E.aB (a.md.aB am) fun h=>c8 (aX A a.md) (a.md.aB am) aw h
 have bf:=E.aB (a.md.aB ak) fun h=>c8 (aX A a.md) (a.md.aB ak) aw h
 refine e<|dF Bs aa aa (ej az) al (by simp) fun ae G ar=> ?_
 have aI:Wk w ae:=Md.trans' a5 G fun k hk h=>by omega
 have aj:TF bl [29] (fun q=>q=ag):=TF.eq (dt al) aw
 have aT:bp ae w.heap.size 41 5 ad (pre++ [x]).length (jl<|pre++ [x]):=cW (by rw [show jl (pre++ [x])=jl pre++eG x from by unfold jl; rw [nC,oo],bJ]; exact az) G aj aw
 have aP:jh ae V none:=G.im aj bi aw
 have aM:gJ ae be n:=G.im aj bh aw
 have ay:gJ ae U most:=G.im aj bf aw
 have bD:(pre++ [x]).length=pre.length+1:=by simp
 refine nl<|tn<|av _ _<|sq fun bq a6=>rg aa<|p (ld nK aa<|(aY ar).trans<|by rw [bk]; rfl)<|p (bO qo aa aa)<|p (ld bK aa<|(aY ay).trans aa)<|p (bR aa aa)<|nl<|tn<|a6 _ _<|cd aa (fun heq=> ?_) fun heq=> ?_
 exact ext<|la aw<|⟨aa,(eu.wk a.md).trans ((eu.md E<|kR<|aX A a.md).trans<|eu.md G fun k hk=>⟨_,_,_,hk ▸ al⟩),fun k=>ad.ownBlock=some k,(Gw.wk a.md).trans ((Gw.md E (fun k hk=> .inl<|(O k).1 hk) fun k hk=>(aQ k hk).imp (fun h=>(O k).1 h) id).trans<|Gw.md G (fun k hk=> .inr<|by subst hk; exact aq) fun _ h=> .inl h),aa,⟨ad,ar,aT,fun _=>Iff.rfl,aP,aM,ay,aI,ab⟩⟩
 exact aO<|bn<|⟨(eu.wk a.md).trans ((eu.md E<|kR<|aX A a.md).trans<|eu.md G fun k hk=>⟨_,_,_,hk ▸ al⟩),fun k=>ad.ownBlock=some k,(Gw.wk a.md).trans ((Gw.md E (fun k hk=> .inl<|(O k).1 hk) fun k hk=>(aQ k hk).imp (fun h=>(O k).1 h) id).trans<|Gw.md G (fun k hk=> .inr<|by subst hk; exact aq) fun _ h=> .inl h),⟨ad,ar,aT,fun _=>Iff.rfl,aP,aM,ay,aI,ab⟩⟩
 intro D i a4 au I
 obtain ⟨fp,v,J,A,O,an,am,ak,M,hlen⟩:=au
 refine dE<|dI<|dY<|rg aa<|p (ld nK aa<|(aY J).trans aa)<|p aA<|nl<|dE<|oY<|tP aa aa I ?_
 exact ⟨cx (by rw [ED hlen]; exact A) (jL _ _ _) (fun k hk h=>by obtain ⟨c,e,z,h1⟩:=kR A k hk; rw [h,I] at h1; cases h1),Md.trans' M (jL _ _ _) fun k hk h=>by have :=ah.size; omega⟩
 intro D i pre a4 bj bb I
 obtain ⟨fp,_,v,J,A,O,an,am,ak,M,hlen⟩:=bb
 refine dE<|dI<|dY<|rg aa<|p (ld nK aa<|(aY J).trans aa)<|p aA<|nl<|dE<|oY<|tP aa aa I ?_
 exact ⟨cx (by rw [EG bj hlen bH]; exact A) (jL _ _ _) (fun k hk h=>by obtain ⟨c,e,z,h1⟩:=kR A k hk; rw [h,I] at h1; cases h1),Md.trans' M (jL _ _ _) fun k hk h=>by have :=ah.size; omega⟩
 exact fun _ _ _ _ _ h _=>by obtain ⟨_,h,_⟩:=h; cases h
end Go.Hb
end
section
namespace Go.Hb.zW
open Go.Hb.lO
def Bd (acc:List cJ):Prop :=acc.length≤Au acc∧Au acc≤acc.length*1000∧acc.length≤2000000
section
variable {w w' w'':World} {fp fp' fp'':Nat→Prop} {S0 xb:Nat} {dO:Bool} {most limit:Int} {acc:List cJ}
end
end Go.Hb.zW
end
section
namespace Go.Hb
open Go.Hb.lO Go.Hb.pC Go.Hb.zW
theorem LL (a s1:Tx) (a0 i A d0 c q C d1:Int) (w:World):(binOp .eql 41 (.agg [str a,.int .i64 a0,.int .i64 i,.int .i64 A,.int .i64 d0].toArray)<|.agg [str s1,.int .i64 c,.int .i64 q,.int .i64 C,.int .i64 d1].toArray).run ao w= .ok (.bool<|decide (a=s1∧a0=c∧i=q∧A=C∧d0=d1)) w:=by
 have G:=underlying9
 have I:=underlying3
 have E:ao.underlying 41=some (.struct<|ao.fieldsOf 41):=ag
 have hp:ao.stoodInHeld 41=false :=ag
 rw [run_eql_struct,show (10000:Nat)=9999 +1 from rfl,run_equalIn_agg w 9999 41 _ _ E hp]
 simp only [Program.fieldsOf,underlying41]
 have hs:(str a=str s1)=(a=s1):=by unfold str; simp
 unfold str at*
 go_simp
 by_cases h1:a=s1 <;> by_cases h2:a0=c <;> by_cases h3:i=q <;> by_cases h4:A=C <;> by_cases h5:d0=d1 <;> simp [h1,h2,h3,h4,h5]
section
variable {N:Fm} {σ:Nat→Value} {w:World} {dst:Option Nat} {ty:TypeId} {pos :String} {af:Array Edge} {g:Option (Nat×Bool)} {x y:Operand}
theorem LK {J:TypeId} {C s1:Tx} {a0 c q d0 a i A d1:Int} (G:ev N σ x= .agg [str C,.int .i64 a0,.int .i64 c,.int .i64 q,.int .i64 d0].toArray) (I:ev N σ y= .agg [str s1,.int .i64 a,.int .i64 i,.int .i64 A,.int .i64 d1].toArray):
 (execOp (ev N σ) ⟨dst,.binOp .eql 41 x y J,ty,pos,af,g⟩).run ao w= .ok (.value<|.bool<|decide (C=s1∧a0=a∧c=i∧q=A∧d0=d1)) w:=by
 have hm:ao.eqGuardType ao.depth 41=false :=ag
 have E:=run_eqGuard_agg w .eql 41 x y [str C,.int .i64 a0,.int .i64 c,.int .i64 q,.int .i64 d0].toArray [str s1,.int .i64 a,.int .i64 i,.int .i64 A,.int .i64 d1].toArray hm
 have he:=LL C s1 a0 c q d0 a i A d1 w
 simp only [execOp,G,I,Sem.run_bind,E,he,Result.andThen_ok,Sem.run_pure]
end
theorem rv {l:List cJ} (h:0 < l.length):jl l≠[]:=xB (f:=eG) (m:=5) (fun _=>rfl) aw h
theorem RT:lA qu uT=some (iD,lB):=EB RN RP
theorem RQ:kX (jJ iD lB 0) 9=sB:=by
 have h:=rq (F:=iD) (xs:=lB) (k:=0) aw
 rw [show ((0:Nat):Int)=0 from rfl] at h
 rw [h,RO]; rfl
theorem mI {w:World} {B e:Nat} {a:Option Addr} {L:List cJ} {c:Nat} (h:bp w B e 5 (.slice a L.length c) L.length (jl L)):aE w.heap a (jl L):=(aV h).2
theorem E8 (w:World):
 bd ao 12 (a7 []) w (fun v w'=>v= .bool true∧Wk w w'):=by
 refine enter func12 aa ntmps12 aa<|ak fun G=>ay<|G<|ak fun I=>e<|cl vZ (yY qu uT w aw aw) aa fun v5 ah ac=> ?_
 obtain ⟨⟨pp,ax,az,aB,rfl,E⟩,hE5⟩:=ac
 rw [RT] at E
 obtain ⟨B,tb,O,an,rfl,ae,V⟩:=E
 refine p mv<|p (xt aa aa)<|p (xt aa aa)<|e<|al mR fun ai aC ap c U=> ?_
 have av:=c.size
 refine p aA<|e<|ca gY aa aa aa aa (U) (by simp) fun A C am=> ?_
 have Y:Wk w A:=(hE5.trans c.md).trans' C fun q ag h=>by have :=hE5.size; omega
 have Z:Wk ah A:=c.md.trans' C fun q ag h=>by omega
 refine nl<|I<|ak fun J=>p mv<|e<|cl vW (Dg B tb O iD lB 0 9 A (ae.wk Z) V aw) aa fun v9 aD ad=> ?_
 obtain ⟨a,ab⟩:=ad
 rw [RQ] at a
 obtain ⟨a9,aj,rfl⟩:=cU a
 refine ay<|J<|ak fun M=>p mv<|p (bO qo aa aa)<|p (bR aa aa)<|p mv<|gs (t:=13) aa (fun aq=> ?_) fun h=>absurd aa h
 refine aU aa mv<|aU aa (a6 rF aa aa aw<|aE.ok (mI a)<|rv aw)<|aU aa (fa tW aa)<|aU aa (ld cO aa<|gn (f:=eG) (m:=5) (i:=0) (fun _=>rfl) (mI a) (show sB[0]? =some ⟨[100,111],0,-1,-1,-1⟩ from aa) 0 aw)<|aU aa (iM aa aa)<|p (bL aa)<|p mv<|gs (t:=20) aa (fun ar=> ?_) fun h=>absurd aa h
 refine aU aa mv<|aU aa (a6 rF aa aa aw<|aE.ok (mI a)<|rv aw)<|aU aa (fa tW aa)<|aU aa (ld cO aa<|gn (f:=eG) (m:=5) (i:=1) (fun _=>rfl) (mI a) (show sB[1]? =some ⟨[100,111,115],0,0,-1,-1⟩ from aa) 0 aw)<|aU aa (iM aa aa)<|p (bL aa)<|p mv<|gs (t:=27) aa (fun au=> ?_) fun h=>absurd aa h
 exact aU aa mv<|aU aa (a6 rF aa aa aw<|aE.ok (mI a)<|rv aw)<|aU aa (cz k6 aa (aa)<|gn (f:=eG) (m:=5) (i:=2) (fun _=>rfl) (mI a) (show sB[2]? =some ⟨[100,111,101,114],0,1,-1,-1⟩ from aa))<|aU aa (cT (ps:= [(0,str [100,111,101,114]),(2,.int .i64 1),(3,.int .i64 (-1)),(4,.int .i64 (-1))]) (L:= [str [100,111,101,114],.int .i64 0,.int .i64 1,.int .i64 (-1),.int .i64 (-1)]) Ew aa<|aa)<|aU aa (LK aa aa)<|p (bL aa)<|p aA<|nl<|M<|rt<|ba aa<|⟨congrArg bQ (decide_eq_true ⟨aa,aa,aa,aa,aa⟩),Y.trans ab⟩
end Go.Hb
end
section
namespace Go.Hb
open Go.Hb.lO Go.Hb.pC
noncomputable def uf (F:aG) (xs:List bo) (n f s p:Int):Option Tx:=if 0≤n∧n < xs.length then iw F xs n.toNat f s p else none
theorem OI {F:aG} {xs:List bo} {n f s p:Int} (h:¬(0≤n∧n < xs.length)):uf F xs n f s p=none:=if_neg h
theorem rW {F:aG} {xs:List bo} {k:Nat} {f s p:Int} (h:k < xs.length):uf F xs k f s p=iw F xs k f s p:=by unfold uf; rw [if_pos ab,jv]
def kQ (F:aG) (xs:List bo) (k:Nat) (f:Int):Nat→List Nat
 | 0=>aT F (flagsOf xs k) 2
 | 1=>aT F (bY F f) 2
 | _=>aT F (flagsOf xs k) 1
def dV (f s p:Int):Nat→Int
 | 0=>f
 | 1=>s
 | _=>p
noncomputable def jq (F:aG) (xs:List bo) (k:Nat) (f s p:Int):Nat→Option Tx
 | 0=>some (xs.getD k ([],[])).1
 | i+1=>(jq F xs k f s p i).bind<|eU F (kQ F xs k f i)<|dV f s p i
section
variable {F:aG} {xs:List bo} {k:Nat} {f s p:Int}
theorem Dv (h:f= -1∧s≠ -1):iw F xs k f s p=none:=if_pos h
theorem ug (h:¬(f= -1∧s≠ -1)):iw F xs k f s p=(jq F xs k f s p 3).bind fun u=>if eo F xs k f s p=true then some u else none:=by
 unfold iw
 rw [if_neg h]
 show _=(((some (xs.getD k ([],[])).1).bind<|eU F (aT F (flagsOf xs k) 2) f).bind (eU F (aT F (bY F f) 2) s) |>.bind (eU F (aT F (flagsOf xs k) 1) p)).bind _
 rw [mj,zU,zU]
theorem Du {i:Nat} (h:jq F xs k f s p i=none):∀ j,jq F xs k f s p (i+j)=none
 | 0=>h
 | j+1=>by
   show (jq F xs k f s p<|i+j).bind _=none
   rw [Du h j]; rfl
theorem yW {L:List Nat} {n:Int} {u v:Tx} (a:∀ i∈L,i < F.rules.length) (c: -1≤n) (h:eU F L n u=some v):Rn F n:=by
 unfold eU at h
 unfold Rn
 by_cases h1:n= -1
 · exact .inl h1
 · rw [if_neg h1] at h
   by_cases h2:n.toNat∈L
   · have :=a _ h2; omega
   · rw [if_neg h2] at h; cases h
theorem Q5 {L:List Nat} {n:Nat} {u:Tx} (h:n∈L):eU F L n u=cQ (F.rules.getD n di) u:=by unfold eU; rw [if_neg ab,jv,if_pos h]
theorem Q7 {L:List Nat} {n:Nat} {u:Tx} (h:n∉L):eU F L n u=none:=by unfold eU; rw [if_neg ab,jv,if_neg h]
theorem nX (i:Nat):∀ j∈kQ F xs k f i,j < F.rules.length:=by
 intro j a
 unfold kQ at a
 split at a <;> exact (oS.1 a).1
theorem OJ (i:Nat):(kQ F xs k f i).length≤F.rules.length:=by
 unfold kQ
 split <;> exact rZ _ _ _
theorem OK {u:Tx} (a: -1≤f) (hs: -1≤s) (hp: -1≤p) (h:jq F xs k f s p 3=some u):Rn F f∧Rn F s∧Rn F p:=by
 obtain ⟨i,h2,h3⟩:=pz.1 (show (jq F xs k f s p 2).bind _=some u from h)
 obtain ⟨c,h1,h2⟩:=pz.1 (show (jq F xs k f s p 1).bind _=some i from h2)
 obtain ⟨q,_,h1⟩:=pz.1 (show (jq F xs k f s p 0).bind _=some c from h1)
 exact ⟨yW (nX 0) a h1,yW (nX 1) hs h2,yW (nX 2) hp h3⟩
end
theorem Q6 {F:aG} {xs:List bo} (c:ff F xs) {L:List Nat} {n:Int} {u v:Tx} (q:∀ i∈L,i < F.rules.length) (h:eU F L n u=some v):v.length≤u.length+32:=by
 unfold eU at h
 by_cases h1:n= -1
 · rw [if_pos h1] at h; cases h; omega
 · rw [if_neg h1] at h
   by_cases h2:n.toNat∈L
   · rw [if_pos h2] at h
     obtain ⟨r,a⟩:∃ r,F.rules[n.toNat]? =some r:=⟨_,cj<|q _ h2⟩
     rw [cX,a] at h
     exact (tq (ja c a).2.2.2 h).2
   · rw [if_neg h2] at h; cases h
def DW (p:Value×Value):List Value:= [p.1,p.2]
theorem Ns (a:Option Addr) (c:Nat) (l:List Nat) (x:Nat) (w:World) (E:aE w.heap a (l.map gN)) (aq:l.length≤1048576):
 bd ao 143 (a7 [.slice a l.length c,aj x]) w (fun v w'=>(∃ k:Int,v= .int .i64 k∧(0≤k↔x∈l)∧ -1≤k∧k≤1048576)∧Wk w w'):=by
 refine enter func143 aa ntmps143 aa<|ak fun O=>ay<|O<|az fun U=>ak fun V=>au (.slice a l.length c)<|p (bO sx aa aa)<|p mv<|nl<|V<|aB<|lp (fun C q M=> ∃ (i:Nat),(i≤l.length)∧(∀ j,j < i→l.getD j 0≠x)∧(M=w)∧(q 0= .slice a l.length c)∧(q 1=aj x)∧(q 7=aj (l.length))∧(q 8=aj i)∧(l.length - i=C)) _ ⟨0,ab,(fun j I=>by omega),aa,aa,aa,aa,aa,aa⟩ ?_
 rintro C q M ⟨i,hi,J,ah,al,am,an,ap,rfl⟩
 refine fx 0 al<|fx 1 am<|fx 7 an<|fx 8 ap ?_
 subst ah
 refine ak fun Y=>p (lt aa aa)<|nl<|Y<|az fun Z=>cd aa (fun ai=> ?_) fun ai=> ?_
 refine aO<|Z<|az fun A=>aB<|ak fun ac=>au (aj i)<|p (bZ (aj i) aa)<|nl<|ac<|ak fun ae=>au (aj x)<|au (.slice a l.length c)<|au (aj i)<|p (a6 pX aa aa ab<|aE.ok (E)<|cY ab)<|p (ld bK aa<|aE.jj E (show (l.map gN)[i]? =some (aj<|l.getD i 0) by rw [gu,cX,cj (by omega :i < l.length)]; rfl)) ?_
 refine p (bR aa aa)<|nl<|ae<|cd aa (fun G=> ?_) fun G=> ?_
 exact ak fun ag=>au (aj i)<|p (bZ (aj i) aa)<|nl<|ag<|rt<|br<|tr<|tr<|br<|tr<|ba aa<|⟨⟨(i:Nat),aa,⟨fun _=>by obtain rfl :x=l.getD i 0:=ab; exact e6 ab,fun _=>by omega⟩,ab,ab⟩,Md.refl _ _⟩
 exact aO<|bn<|A<|rg aa<|p (ad aa aa<|cg ab)<|p mv<|nl<|tn<|⟨_,ab,i+1,ab,(fun j I=>by rcases gI j i with h | h <;> first | exact J j h | (rw [show j=i by omega]; exact fun h2=>G<|by rw [h2])),aa,aa,aa,aa,aa,aa⟩
 exact ext<|bj<|bj<|be<|U<|ak fun A=>p aA<|nl<|A<|rt<|ba aa<|⟨⟨-1,aa,⟨fun h=>absurd h ab,fun h=>by obtain ⟨j,I,e⟩:=oR 0 h; exact absurd e<|J j ab⟩,ab,ab⟩,Md.refl _ _⟩
theorem Kj (a:Option Addr) (c:Nat) (l:List Nat) (x:Nat) (w:World) (A:aE w.heap a (l.map gN)) (G:l.length≤1048576):
 bd ao 92 (a7 [.slice a l.length c,aj x]) w (fun v w'=>v= .bool (decide (x∈l))∧Wk w w'):=by
 refine enter func92 aa ntmps92 aa<|ak fun i=>ay<|i<|ak fun q=>au (.slice a l.length c)<|au (aj x)<|e<|cl H5 (Ns a c l x w A G) aa fun M O C=> ?_
 obtain ⟨⟨I,rfl,E,J⟩,hE7⟩:=C
 exact p (ge aa aa)<|ay<|q<|rt<|ba aa<|⟨by show bQ (decide (I≥0))=_; exact congrArg bQ (decide_eq_decide.2 E),hE7⟩
theorem Q8 (F:aG) (xs:List bo) (G:ff F xs) (ar:Option Addr) (cr:Nat) (rn:List Value) (a:Option Addr) (c:Nat) (L:List Nat) (n:Int) (u:Tx) (w:World) (J:aE w.heap ar (eC<|F.rules.zip rn)) (an:rn.length=F.rules.length) (ad:aE w.heap a (L.map gN)) (ai:∀ i∈L,i < F.rules.length) (ah:L.length≤1048576) (au: -1≤n) (ap:u.length≤1048576):
 bd ao 56 (a7 [.slice ar F.rules.length cr,.slice a L.length c,.int .i64 n,str u]) w (fun v w'=>v=r5 (eU F L n u)∧Wk w w'):=by
 refine enter func56 aa ntmps56 aa<|ak fun U=>p aA<|ay<|U<|az fun V=>az fun Y=>rg aa<|p mv<|p (bR aa aa)<|nl<|Y<|cd aa (fun h1=> ?_) fun h1=> ?_
 obtain rfl :n= -1:=h1
 exact ak fun C=>p mv<|p aA<|ay<|C<|rt<|tr<|f2 aa aa aa<|⟨by rw [ss]; rfl,Md.refl _ _⟩
 obtain ⟨m,rfl⟩:∃ m:Nat,n=(m:Int):=⟨n.toNat,ab⟩
 refine aO<|V<|az fun C=>ak fun Z=>p mv<|p mv<|e<|cl Je (Kj a c L m w ad ah) aa fun av aq ae=> ?_
 obtain ⟨rfl,A⟩:=ae
 refine p (no aa)<|nl<|Z<|cb aa (fun I=> ?_) fun I=> ?_
 have aj:m∉L:=by simpa using I
 exact ak fun E=>p aA<|ay<|E<|rt<|tr<|f2 aa aa aa<|⟨by rw [Q7 aj]; rfl,A⟩
 have M:m∈L:=by simpa using I
 obtain ⟨r,q⟩:∃ r,F.rules[m]? =some r:=⟨_,cj<|ai m M⟩
 have am:=(eH.1 q).1
 have O:(F.rules.zip rn)[m]? =some (r,rn[m]'(by rw [an]; exact am)):=iR.2 ⟨q,cj _⟩
 have al:F.rules.getD m di=r:=by rw [cX,q]; rfl
 refine aO<|C<|ak fun E=>p mv<|p mv<|p (a6 km aa aa ab<|aE.ok (J.wk A)<|kT O)<|p (cz jF aa (aa)<|gn (f:=dC) (m:=7) (fun _=>rfl) (J.wk A) O)<|p mv<|e<|cl rj (q6 r _ u aq (ja G q).1 (ja G q).2.1 (ja G q).2.2.1 ap) aa fun aw ax ag=> ?_
 obtain ⟨rfl,ac⟩:=ag
 exact p (xt aa aa)<|p (xt aa aa)<|p aA<|ay<|E<|rt<|f2 aa aa aa<|⟨by rw [Q5 M,al]; rfl,A.trans ac⟩
theorem Ou (B tb:Nat) (J:fX) (F:aG) (xs:List bo) (bi:Tx) (n f s a:Int) (w:World) (bP:eQ w B tb J F xs) (E:ff F xs) (cM: -1≤f) (c5: -1≤s) (cY: -1≤a):
 bd ao 21 (a7 [aW tb,.agg [str bi,.int .i64 n,.int .i64 f,.int .i64 s,.int .i64 a].toArray]) w (fun v w'=>v=r5 (uf F xs n f s a)∧Wk w w'):=by
 refine enter func21 aa ntmps21 aa<|ak fun b4=>e<|iV aa fun aP b1 a3 aX cn=> ?_
 have dr:=aX.size
 have cH:=bP.wk aX.md
 have a3:bw b1.heap aP [str bi,.int .i64 n,.int .i64 f,.int .i64 s,.int .i64 a]:=cn
 refine p aA<|ay<|b4<|ak fun b7=>p mv<|p (fa rN aa)<|p (ld bK aa<|a3.bm 1)<|e<|cl nO (pU B tb J F xs n b1 cH E) aa fun du df cA=> ?_
 obtain ⟨⟨dh,rfl,cV⟩,hE16⟩:=cA
 obtain ⟨cg,ci,rfl⟩:=cU cV
 have dq:=hE16.size
 refine p mv<|p (xt aa aa)<|p (xt aa aa)<|e<|al lD fun bq dB bT bJ co=> ?_
 have dt:=bJ.size
 refine e<|ca gP aa aa aa aa (co) (by simp) fun bl bF cm=> ?_
 have cw:Wk df bl:=bJ.md.trans' bF fun q cZ h=>by omega
 have dn:=bF.size
 have bT:bw bl.heap bq [str (fO xs n),.slice cg (flagsOf xs n).length ci]:=cm
 have bA:=hE16.trans cw
 have ad:=aX.md.trans bA
 have aF:=bP.wk ad
 have a4:=Wk.B bA a3
 refine ay<|b7 ?_
 refine eD (fun aL bk=>(bk=bl)∧(0≤n∧n < xs.length)∧(¬(f= -1∧s≠ -1))∧(aL 0=aW tb)∧(aL 3=aW aP)∧(aL 6=aW bq)) ?_ ?_
 refine ak fun an=>p mv<|p (no aa)<|p mv<|gb (t:=21) aa (fun aq=> ?_) fun aq=> ?_
 have cW:¬(0≤n∧n < xs.length):=fun h=>by rw [decide_eq_true h] at aq; cases aq
 exact aK aa<|aK aa<|aK aa<|aK aa<|e7 aa<|e7 aa<|e7 aa<|aK aa<|p (bL aa)<|nl<|an<|ct aa<|ak fun ap=>p aA<|p aA<|nl<|ap<|rt<|tr<|f2 aa aa aa<|⟨by rw [OI cW]; rfl,ad⟩
 have ba:0≤n∧n < xs.length:=qD fun h=>by rw [decide_eq_false h] at aq; cases aq
 refine aU aa (fa kn aa)<|aU aa (ld bK aa<|a4.bm 2)<|aU aa (bR aa aa)<|aU aa mv<|gs (t:=25) aa (fun a6=> ?_) fun a6=> ?_
 refine aU aa (fa ko aa)<|aU aa (ld bK aa<|a4.bm 3)<|aU aa (fR aa aa)<|aU aa (bL aa)<|p (bC aa)<|nl<|an<|cd aa (fun bc=> ?_) fun bc=> ?_
 refine ak fun ap=>p aA<|ay<|ap<|rt<|tr<|f2 aa aa aa ?_
 obtain ⟨k,rfl⟩:∃ m:Nat,n=(m:Int):=⟨n.toNat,ab⟩
 exact ⟨by rw [rW ab,Dv ⟨a6,bc⟩]; rfl,ad⟩
 exact aO<|tn<|⟨aa,ba,(fun h=>bc h.2),aa,aa,aa⟩
 exact aK aa<|aK aa<|aK aa<|aU aa (bC aa)<|p (bC aa)<|nl<|an<|cf aa<|aO<|tn<|⟨aa,ba,(fun h=>a6 h.1),aa,aa,aa⟩
 rintro aL bk ⟨dd,ba,a8,c2,c3,c4⟩
 refine fx 0 c2<|fx 3 c3<|fx 6 c4 ?_
 subst dd
 refine ak fun an=>au (aW tb)<|p (nc aa)<|p (fa tZ aa)<|p (ld eF aa<|(aY aF.cells).trans aa)<|e<|cl tB (th B J.fb J.mc F J.V bk aF.fl (by have :=E.len; omega) E.nx) aa fun dv I cB=> ?_
 obtain ⟨⟨⟨v9,v10,v11,v12,sa,rn⟩,rfl,hax⟩,hE35⟩:=cB
 obtain ⟨ar,cr,bh⟩:=cU hax.ea
 have bh:v12=_:=bh
 subst bh
 have ds:=hE35.size
 have bX:rn.length=F.rules.length:=by have :=hax.nx.1; rwa [eX] at this
 have bz:aE I.heap ar (eC<|F.rules.zip rn):=(aV hax.ea).2
 have Y:=Wk.B hE35 a4
 have cK:=Wk.B hE35 bT
 have bQ:=(aF.wk hE35).wk (Md.refl _ _).drew
 refine p (BU BV aa aa)<|ay<|an<|ak fun ap=>p (fa rP aa)<|p (ld cO aa<|cK.bm 0)<|ay<|ap<|az fun b8=>az fun b9=> ?_
 have c:(fun w'=>Wk I w') I.drew:=(Md.refl _ _).drew
 refine bM (fun w'=>Wk I w') aa wide c<|bH 0 aa (aW tb) c<|aJ 1 aa (fun _ _=>fa rN aa) c<|aJ 2 aa (fun w' G=>ld bK aa<|Wk.aI G<|Y.bm 1) c<|aJ 4 aa (fun _ _=>fa kn aa) c<|aJ 5 aa (fun w' G=>ld bK aa<|Wk.aI G<|Y.bm 2) c<|bH 7 aa (aW tb) c<|aJ 8 aa (fun _ _=>fa kn aa) c<|aJ 9 aa (fun w' G=>ld bK aa<|Wk.aI G<|Y.bm 2) c<|aJ 11 aa (fun _ _=>fa ko aa) c<|aJ 12 aa (fun w' G=>ld bK aa<|Wk.aI G<|Y.bm 3) c<|bH 14 aa (aW tb) c<|aJ 15 aa (fun _ _=>fa rN aa) c<|aJ 16 aa (fun w' G=>ld bK aa<|Wk.aI G<|Y.bm 1) c<|aJ 18 aa (fun _ _=>fa mC aa) c<|aJ 19 aa (fun w' G=>ld bK aa<|Wk.aI G<|Y.bm 4) c<|aJ 23 aa (fun _ _=>mv) c<|he 3 aa ag<|cl AZ (EA B tb J F xs n I.drew bQ E) aa fun dw b2 cC=> ?_
 obtain ⟨bU,aQ⟩:=cC
 obtain ⟨Z,ae,rfl⟩:=cU bU
 have bS:=bQ.wk aQ
 have a1:(fun w'=>Wk I w') b2:=c.trans aQ
 refine ⟨a1,?_⟩
 refine aJ 6 aa (fun _ _=>cT (ps:= [(0,.slice Z (aT F (flagsOf xs n) 2).length ae),(1,.int .i64 f)]) (L:= [.slice Z (aT F (flagsOf xs n) 2).length ae,.int .i64 f]) yS aa<|aa) a1<|he 10 aa ag<|cl A0 (Eh B tb J F xs f b2 bS E) aa fun v49 b3 cD=> ?_
 obtain ⟨bV,aR⟩:=cD
 obtain ⟨a49,ah,rfl⟩:=cU bV
 have cI:=bS.wk aR
 have aZ:(fun w'=>Wk I w') b3:=a1.trans aR
 refine ⟨aZ,?_⟩
 refine aJ 13 aa (fun _ _=>cT (ps:= [(0,.slice a49 (aT F (bY F f) 2).length ah),(1,.int .i64 s)]) (L:= [.slice a49 (aT F (bY F f) 2).length ah,.int .i64 s]) yS aa<|aa) aZ<|he 17 aa ag<|cl A1 (DY B tb J F xs n b3 cI E) aa fun dx dg cE=> ?_
 obtain ⟨bW,aS⟩:=cE
 obtain ⟨ac,ai,rfl⟩:=cU bW
 have a0:(fun w'=>Wk I w') dg:=aZ.trans aS
 refine ⟨a0,?_⟩
 refine aJ 20 aa (fun _ _=>cT (ps:= [(0,.slice ac (aT F (flagsOf xs n) 1).length ai),(1,.int .i64 a)]) (L:= [.slice ac (aT F (flagsOf xs n) 1).length ai,.int .i64 a]) yS aa<|aa) a0<|he 21 aa ag<|HQ [[.slice Z (aT F (flagsOf xs n) 2).length ae,.int .i64 f],[.slice a49 (aT F (bY F f) 2).length ah,.int .i64 s],[.slice ac (aT F (flagsOf xs n) 1).length ai,.int .i64 a]] QF aa aa aa aa fun bs ax di aD cp=> ?_
 obtain ⟨k,rfl⟩:∃ m:Nat,n=(m:Int):=⟨n.toNat,ab⟩
 obtain ⟨A,bu,bv,bx⟩:∃ A:Nat→Option Addr,A 0=Z∧A 1=a49∧A 2=ac:=⟨fun i=>match i with | 0=>Z | 1=>a49 | _=>ac,rfl,rfl,rfl⟩
 obtain ⟨C,cs,cu,cv⟩:∃ C:Nat→Nat,C 0=ae∧C 1=ah∧C 2=ai:=⟨fun i=>match i with | 0=>ae | 1=>ah | _=>ai,rfl,rfl,rfl⟩
 have bE:=aR.trans<|aS.trans aD.md
 have O:Wk I ax:=((Md.refl (fun _=>False) I).drew.trans aQ).trans bE
 have cQ:∀ i,i < 3→([(.slice Z (aT F (flagsOf xs k) 2).length ae,.int .i64 f),(.slice a49 (aT F (bY F f) 2).length ah,.int .i64 s),(.slice ac (aT F (flagsOf xs k) 1).length ai,.int .i64 a)]:List (Value×Value))[i]? =some (.slice (A i) (kQ F xs k f i).length (C i),.int .i64 (dV f s a i)):=by
  intro i hi
  rcases (show i=0∨i=1∨i=2 by omega) with rfl | rfl | rfl
  rw [bu,cs]; rfl
  rw [bv,cu]; rfl
  rw [bx,cv]; rfl
 have cL:∀ i,i < 3→aE ax.heap (A i) ((kQ F xs k f i).map gN):=by
  intro i hi
  rcases (show i=0∨i=1∨i=2 by omega) with rfl | rfl | rfl
  rw [bu]; exact (aV bU).2.wk bE
  rw [bv]; exact (aV bV).2.wk<|aS.trans aD.md
  rw [bx]; exact (aV bW).2.wk aD.md
 have c0:∀ i,i < 3→∀ {W:World},Wk ax W→∀ j,j < 2→Hb.aI W.heap bs (0 +i*2 +j)=(DW (.slice (A i) (kQ F xs k f i).length (C i),.int .i64 (dV f s a i)))[j]? :=fun i hi W cJ=>gn (f:=DW) (m:=2) (fun _=>rfl) ((aE.fA ⟨_,cp⟩).wk cJ)<|cQ i hi
 have de:fO xs (k:Int)=(xs.getD k ([],[])).1:=by
  obtain ⟨x,aw⟩:∃ x,xs[k]? =some x:=⟨_,cj ab⟩
  rw [(nL aw).1,cX,aw]; rfl
 have dm:(fO xs (k:Int)).length≤1000:=by
  obtain ⟨x,aw⟩:∃ x,xs[k]? =some x:=⟨_,cj ab⟩
  rw [(nL aw).1]; have :=(E.rC x<|gV aw).1; omega
 have bN:(fun w'=>Wk I w') ax:=a0.trans aD.md
 refine ⟨bN,?_⟩
 refine aJ 22 aa (fun _ _=>bO RC aa aa) bN<|hn ag<|b9<|aB<|lp (fun bt M aH=> ∃ (i:Nat) (u:Tx),(i≤3)∧(jq F xs k f s a i=some u)∧(u.length≤1000 +i*32)∧(Wk ax aH)∧(M 0=aW tb)∧(M 3=aW aP)∧(M 8= .slice ar F.rules.length cr)∧(M 9=str u)∧(M 60= .slice (some ⟨bs,0,none⟩) 3 3)∧(M 61= .int .i64 3)∧(M 62=aj i)∧(3 - i=bt)) _ ⟨0,fO xs (k:Int),ab,(by rw [de]; rfl),ab,(Md.refl _ _),aa,aa,aa,(by first | rfl | exact congrArg str b0),aa,aa,aa,aa⟩ ?_
 rintro bt M aH ⟨i,u,hi,av,dk,U,c6,c7,db,dc,c8,c9,da,rfl⟩
 refine fx 0 c6<|fx 3 c7<|fx 8 db<|fx 9 dc<|fx 60 c8<|fx 61 c9<|fx 62 da<|ak fun cc=>p (lt aa aa)<|nl<|cc<|az fun ce=>cd aa (fun cN=> ?_) fun cN=> ?_
 refine aO<|ce<|az fun aN=>aB<|az fun aM=> ?_
 have cP:i < 3:=ab
 refine rg aa<|p (ia LU aa aa ab)<|p (cz G9 aa (aa)<|c0 i ab U)<|e<|al Sg fun ch dA a2 bG ck=> ?_
 have dp:=bG.size
 refine e<|ca KF aa aa aa aa (ck) (by simp) fun bp cy cq=> ?_
 have cx:Wk aH bp:=bG.md.trans' cy fun q cZ h=>by omega
 have a2:bw bp.heap ch [.slice (A i) (kQ F xs k f i).length (C i),.int .i64 (dV f s a i)]:=cq
 have aC:=U.trans cx
 refine nl<|aM<|ak fun am=>au (.slice ar F.rules.length cr)<|p (fa MA aa)<|p (ld tk aa<|a2.bm 0)<|p (fa MB aa)<|p (ld bK aa<|a2.bm 1)<|au (str u)<|e<|cl I3 (Q8 F xs E ar cr rn (A i) (C i) (kQ F xs k f i) (dV f s a i) u bp (bz.wk<|O.trans aC) bX ((cL i cP).wk aC) (nX i) (by have :=OJ (F:=F) (xs:=xs) (k:=k) (f:=f) i; have :=E.len; omega) (by unfold dV; split <;> assumption) ab) aa fun dy dC cF=> ?_
 obtain ⟨rfl,bB⟩:=cF
 refine p mv<|p (xt aa aa)<|p (xt aa aa)<|p aA<|ay<|am<|az fun b5=>rg aa<|p mv<|p (no aa)<|nl<|b5<|cb aa (fun a5=> ?_) fun a5=> ?_
 have cS:eU F (kQ F xs k f i) (dV f s a i) u=none:=by simpa using a5
 refine ak fun b6=>p aA<|ay<|b6<|rt<|br<|tr<|tr<|br<|tr<|f2 aa aa aa ?_
 have cR:jq F xs k f s a 3=none:=by rw [show 3=(i+1)+(2 - i) by omega]; exact Du (by show (jq F xs k f s a i).bind _=none; rw [av]; exact cS) _
 exact ⟨by rw [rW ab,ug a8,cR]; rfl,ad.trans<|hE35.trans<|O.trans<|aC.trans bB⟩
 obtain ⟨v,bg⟩:∃ v,eU F (kQ F xs k f i) (dV f s a i) u=some v:=nI.1<|by simpa using a5
 have dl:=Q6 E (nX i) bg
 have c1:jq F xs k f s a (i+1)=some v:=by show (jq F xs k f s a i).bind _=_; rw [av]; exact bg
 have b0:(eU F (kQ F xs k f i) (dV f s a i) u).getD []=v:=by rw [bg]; rfl
 exact aO<|bn<|aN<|rg aa<|p (bI ((i+1:Nat):Int) aa aa<|bf ab ab)<|p mv<|nl<|tn<|⟨_,ab,i+1,v,ab,c1,ab,(aC.trans bB),aa,aa,aa,(by first | rfl | exact congrArg str b0),aa,aa,aa,aa⟩
 refine ext<|bj<|bj<|be<|b8<|az fun aN=>az fun aM=> ?_
 obtain rfl :i=3:=ab
 have bb:=OK cM c5 cY av
 refine rg aa<|au (aW tb)<|au (.slice ar F.rules.length cr)<|p (cz k6 aa (aa) fun j dj=>(Wk.B (O.trans U) Y).bm j)<|e<|cl wz (xS B tb J F xs ar cr rn bi k f s a aH (aF.wk<|hE35.trans<|O.trans U) E (bz.wk<|O.trans U) bX bb.1 bb.2.1 bb.2.2) aa fun dz dD cG=> ?_
 obtain ⟨rfl,bD⟩:=cG
 refine p (no aa)<|nl<|aM<|cb aa (fun a9=> ?_) fun a9=> ?_
 exact ak fun am=>p aA<|ay<|am<|rt<|tr<|f2 aa aa aa<|⟨by rw [rW ab,ug a8,av,mj,if_neg (by simpa using a9)]; rfl,ad.trans<|hE35.trans<|O.trans<|U.trans bD⟩
 exact aO<|aN<|ak fun am=>au (str u)<|p (bZ (str u) aa)<|p aA<|nl<|am<|rt<|f2 aa aa aa<|⟨by rw [rW ab,ug a8,av,mj,if_pos (by simpa using a9)]; rfl,ad.trans<|hE35.trans<|O.trans<|U.trans bD⟩
end Go.Hb
end
section
namespace Go.Hb
open Go.Hb.lO Go.Hb.pC
theorem Qj {r:cG} {v:Value} (h:v.oneCell'=true):(dC (r,v)).all Value.oneCell'=true :=by
 unfold dC
 simp only [List.all_cons,List.all_nil,h]
 rfl
noncomputable def jV:List cG→Tx→Option Tx
 | [],u=>some u
 | r::rs,u=>(cQ r u).bind<|jV rs
theorem vN:∀ (a b:List cG) (u:Tx),jV (a++b) u=(jV a u).bind (jV b)
 | [],_,_=>rfl
 | r::a,b,u=>by
   show (cQ r u).bind (jV<|a++b)=((cQ r u).bind<|jV a).bind _
   rw [zU]
   congr 1
   funext v
   exact vN a b v
def jX (F:aG) (n:Int):List cG:=if n= -1 then [] else [F.rules.getD n.toNat di]
theorem yV {F:aG} {L:List Nat} {n:Int} {u v:Tx} (a:∀ i∈L,i < F.rules.length) (hn: -1≤n) (h:eU F L n u=some v):jV (jX F n) u=some v∧(n= -1∨∃ m:Nat,n=(m:Int)∧m∈L∧m < F.rules.length):=by
 unfold eU at h
 unfold jX
 by_cases h1:n= -1
 · rw [if_pos h1] at h ⊢
   exact ⟨h,.inl h1⟩
 · rw [if_neg h1] at h ⊢
   by_cases h2:n.toNat∈L
   · rw [if_pos h2] at h
     exact ⟨by show (cQ _ u).bind _=_; rw [h]; rfl,.inr ⟨n.toNat,ab,h2,a _ h2⟩⟩
   · rw [if_neg h2] at h; cases h
def s9 (F:aG) (n:Int) (b:Bool):Prop :=n= -1∨∃ m:Nat,n=(m:Int)∧m < F.rules.length∧((F.rules.getD m di).kind=1↔b=true)
theorem OL {F:aG} {xs:List bo} {k:Nat} {f s p:Int} {u:Tx} (I: -1≤f) (hs: -1≤s) (hp: -1≤p) (h:iw F xs k f s p=some u):
 jV (jX F f++(jX F s++jX F p)) (xs.getD k ([],[])).1=some u∧s9 F f false∧s9 F s false∧s9 F p true :=by
 have i:¬(f= -1∧s≠ -1):=fun i=>by rw [Dv i] at h; cases h
 rw [ug i] at h
 obtain ⟨v,J,h⟩:=pz.1 h
 split at h
 case isFalse=>cases h
 cases h
 obtain ⟨O,h2,h3⟩:=pz.1 (show (jq F xs k f s p 2).bind _=some u from J)
 obtain ⟨M,h1,h2⟩:=pz.1 (show (jq F xs k f s p 1).bind _=some O from h2)
 obtain ⟨U,i,h1⟩:=pz.1 (show (jq F xs k f s p 0).bind _=some M from h1)
 obtain ⟨C,A⟩:=yV (nX 0) I h1
 obtain ⟨E,c2⟩:=yV (nX 1) hs h2
 obtain ⟨G,c3⟩:=yV (nX 2) hp h3
 cases i
 have kd:∀ {fs:List Nat} {q m:Nat},m∈aT F fs q→(F.rules.getD m di).kind=q:=fun hm=>(oS.1 hm).2.1
 refine ⟨by rw [vN,C,mj,vN,E,mj]; exact G,?_,?_,?_⟩
 · exact A.imp id fun ⟨m,a,b,c⟩=>⟨m,a,c,by rw [kd (show m∈aT F (flagsOf xs k) 2 from b)]; decide⟩
 · exact c2.imp id fun ⟨m,a,b,c⟩=>⟨m,a,c,by rw [kd (show m∈aT F (bY F f) 2 from b)]; decide⟩
 · exact c3.imp id fun ⟨m,a,b,c⟩=>⟨m,a,c,by rw [kd (show m∈aT F (flagsOf xs k) 1 from b)]; decide⟩
def mr (a b:cJ):Bool:=if a.fst≠b.fst then decide (a.fst < b.fst) else if a.snd≠b.snd then decide (a.snd < b.snd) else decide (a.pre < b.pre)
theorem yH (R:Nat):(lu R).Pairwise (· < ·):=by
 unfold lu
 rw [List.pairwise_cons]
 exact ⟨fun x a=>by obtain ⟨i,_,rfl⟩:=lH.1 a; omega,List.pairwise_map.2<|List.pairwise_lt_range.imp fun h=>by omega⟩
theorem yG {R:Nat} {x:Int} (h:x∈lu R): -1≤x:=by
 rcases List.mem_cons.1 h with h | h
 · omega
 · obtain ⟨i,_,rfl⟩:=lH.1 h; omega
theorem qd {F:aG} {xs:List bo} {e:Nat} {f s:Int} {d:cJ} (h:d∈oJ F xs e f s):d.tL=e∧d.fst=f∧d.snd=s∧d.pre∈lu F.rules.length∧iw F xs e d.fst d.snd d.pre=some d.mM:=by
 obtain ⟨p,hp,h⟩:=List.mem_filterMap.1 h
 obtain ⟨u,hu,rfl⟩:=lL.1 h
 exact ⟨aa,aa,aa,hp,hu⟩
theorem yf {F:aG} {xs:List bo} {e:Nat} {f:Int} {d:cJ} (h:d∈rE F xs e f):d∈oJ F xs e f d.snd∧d.snd∈lu F.rules.length:=by
 obtain ⟨s,hs,h⟩:=qP.1 h
 have :=(qd h).2.2.1
 subst this
 exact ⟨h,hs⟩
theorem OE {F:aG} {xs:List bo} {e:Nat} {d:cJ} (h:d∈eK F xs e):d.tL=e∧ -1≤d.fst∧ -1≤d.snd∧ -1≤d.pre∧iw F xs e d.fst d.snd d.pre=some d.mM:=by
 rw [BE] at h
 obtain ⟨f,i,h⟩:=qP.1 h
 obtain ⟨h1,h2⟩:=yf h
 obtain ⟨a,b,c,d,e⟩:=qd h1
 exact ⟨a,by rw [b]; exact yG i,yG h2,yG d,e⟩
theorem KZ (F:aG) (xs:List bo) (e:Nat):(eK F xs e).Pairwise fun a b=>mr a b=true :=by
 rw [BE,GA]
 refine ⟨fun f _=> ?_,(yH _).imp fun {a b} c x i y q=> ?_⟩
 · unfold rE
   rw [GA]
   refine ⟨fun s _=> ?_,(yH _).imp fun {a b} c x i y q=> ?_⟩
   · unfold oJ
     rw [List.pairwise_filterMap]
     refine (yH _).imp fun {a b} c x i y q=> ?_
     obtain ⟨u,_,rfl⟩:=lL.1 i
     obtain ⟨v,_,rfl⟩:=lL.1 q
     unfold mr
     rw [if_neg (fun h=>h rfl),if_neg (fun h=>h rfl)]
     exact decide_eq_true c
   · obtain ⟨_,a2,a3,_⟩:=qd i
     obtain ⟨_,A,C,_⟩:=qd q
     unfold mr
     rw [if_neg (fun h=>h<|by rw [a2,A]),if_pos (by rw [a3,C]; omega),a3,C]
     exact decide_eq_true c
 · have a2:=(qd (yf i).1).2.1
   have A:=(qd (yf q).1).2.1
   unfold mr
   rw [if_pos (by rw [a2,A]; omega),a2,A]
   exact decide_eq_true c
theorem HF {F:aG} {xs:List bo} {e m i:Nat} {a b:cJ} (A:((eK F xs e).take m)[i]? =some a) (C:((eK F xs e).take m)[i+1]? =some b):mr a b=true :=by
 obtain ⟨h1,c⟩:=eH.1 A
 obtain ⟨h2,q⟩:=eH.1 C
 have :=List.pairwise_iff_getElem.1 ((KZ F xs e).sublist<|List.take_sublist m _) i (i+1) h1 h2 ab
 rw [c,q] at this
 exact this
theorem Hl (rs:List (cG×Value)) (a:Option Addr) (c:Nat) (A:Tx) (w:World) (Z:aE w.heap a (eC rs)) (aM:∀ r∈rs,r.1.strip.length≤1048576∧r.1.add.length≤32∧r.1.cond.length≤1048576∧r.2.oneCell'=true) (aY:rs.length≤1000) (aZ:A.length≤1000):
 bd ao 58 (a7 [.func (.func 59) #[] #[],str A,.slice a rs.length c]) w (fun v w'=>v=r5 (jV (rs.map gW) A)∧Wk w w'):=by
 refine enter func58 aa ntmps58 aa<|ak fun ah=>p aA<|ay<|ah<|az fun an=>az fun ap=>rg aa<|p mv<|p (bO qp aa aa)<|p mv<|nl<|ap<|aB<|lp (fun Y C U=> ∃ (i:Nat) (u:Tx),(i≤rs.length)∧(jV (rs.map gW) A=jV ((rs.drop i).map gW) u)∧(u.length≤1000 +i*32)∧(Wk w U)∧(C 0= .func (.func 59) #[] #[])∧(C 1=str u)∧(C 11= .slice a rs.length c)∧(C 12=aj (rs.length))∧(C 13=aj i)∧(rs.length - i=Y)) _ ⟨0,A,ab,aa,ab,(Md.refl _ _),aa,(by first | rfl | exact congrArg str ag),aa,aa,aa,aa⟩ ?_
 rintro Y C U ⟨i,u,hi,E,hu,G,aR,aS,aT,aU,aV,rfl⟩
 refine fx 0 aR<|fx 1 aS<|fx 11 aT<|fx 12 aU<|fx 13 aV<|ak fun aq=>p (lt aa aa)<|nl<|aq<|az fun ar=>cd aa (fun aN=> ?_) fun aN=> ?_
 refine aO<|ar<|az fun J=>aB<|az fun av=> ?_
 obtain ⟨⟨r,vr⟩,hri⟩:∃ q,rs[i]? =some q:=⟨_,cj ab⟩
 have I:r.strip.length≤1048576∧r.add.length≤32∧r.cond.length≤1048576∧vr.oneCell'=true :=aM _<|gV hri
 rw [List.drop_eq_getElem_cons (show i < rs.length by omega),show rs[i]=(r,vr) from (eH.1 hri).2] at E
 refine rg aa<|p (a6 km aa aa ab<|aE.ok (Z.wk G)<|kT hri)<|p (cz jF aa (aa)<|gn (f:=dC) (m:=7) (fun _=>rfl) (Z.wk G) hri)<|e<|al nv fun aD a3 ae ad aG=> ?_
 have a1:=ad.size
 refine e<|ca lT aa aa aa (Qj I.2.2.2) aG aw fun V aJ aF=> ?_
 have aI:Wk U V:=ad.md.trans' aJ fun q aX h=>by omega
 have ae:bw V.heap aD (dC (r,vr)):=aF
 refine nl<|av<|ak fun ax=>ay<|ax<|az fun aC=>rg aa<|au (.func (.func 59) #[] #[])<|p (cz jF aa (aa) fun j aW=>ae.bm j)<|au (str u)<|e<|JY rj aa (q6 r vr u V I.1 ab I.2.2.1 ab) aa fun v21 a2 aK=> ?_
 obtain ⟨rfl,aH⟩:=aK
 have ac:=G.trans<|aI.trans aH
 refine p mv<|p (xt aa aa)<|p (xt aa aa)<|p aA<|ay<|aC<|az fun ai=>rg aa<|p mv<|p (no aa)<|nl<|ai<|cb aa (fun M=> ?_) fun M=> ?_
 have aQ:cQ r u=none:=by simpa using M
 have aP:jV (rs.map gW) A=none:=by rw [E]; show (cQ r u).bind _=none; rw [aQ]; rfl
 exact ak fun am=>p aA<|ay<|am<|rt<|br<|tr<|tr<|br<|tr<|f2 aa aa aa<|⟨by rw [aP]; rfl,ac⟩
 obtain ⟨v,O⟩:∃ v,cQ r u=some v:=nI.1<|by simpa using M
 have a0:=(tq I.2.1 O).2
 have ag:(cQ r u).getD []=v:=by rw [O]; rfl
 have aL:jV (rs.map gW) A=jV ((rs.drop<|i+1).map gW) v:=by rw [E]; show (cQ r u).bind _=_; rw [O]; rfl
 exact aO<|bn<|J<|rg aa<|p (bI ((i+1:Nat):Int) aa aa<|bf ab ab)<|p mv<|nl<|tn<|⟨_,ab,i+1,v,ab,aL,ab,ac,aa,(by first | rfl | exact congrArg str ag),aa,aa,aa,aa⟩
 refine ext<|bj<|bj<|be<|an<|ak fun J=>au (str u)<|p (bZ (str u) aa)<|ay<|J<|rt<|f2 aa aa aa ?_
 rw [show rs.drop i= [] from List.drop_eq_nil_of_le ab] at E
 exact ⟨by rw [E]; rfl,G⟩
theorem PL (rs:List (cG×Value)) (a:Option Addr) (c:Nat) (i:Tx) (w:World) (C:aE w.heap a (eC rs)) (I:∀ r∈rs,r.1.strip.length≤1048576∧r.1.add.length≤32∧r.1.cond.length≤1048576∧r.2.oneCell'=true) (J:rs.length≤1000) (M:i.length≤1000):
 bd ao 26 (a7 [str i,.slice a rs.length c]) w (fun v w'=>v=r5 (jV (rs.map gW) i)∧Wk w w'):=by
 refine enter func26 aa ntmps26 aa<|ak fun q=>p aA<|ay<|q<|ak fun A=>au (str i)<|au (.slice a rs.length c)<|e<|cl I4 (Hl rs a c i w C I J M) aa fun O U G=> ?_
 obtain ⟨rfl,E⟩:=G
 exact p (xt aa aa)<|p (xt aa aa)<|p aA<|ay<|A<|rt<|f2 aa aa aa<|⟨aa,E⟩
theorem LF (n:Int) (w:World):
 bd ao 24 (a7 [.pointer none,.int .i64 n]) w (fun v w'=>v= .tuple #[.agg [str [],.slice none 0 0].toArray,.bool false]∧Wk w w'):=by
 refine enter func24 aa ntmps24 aa<|ak fun c=>e<|al lD fun J Z M a E=> ?_
 have Y:=a.size
 refine ay<|c<|az fun I=>ak fun i=>p mv<|p (lU sv aa aa)<|p mv<|gb (t:=9) aa (fun O=> ?_) fun h=>absurd ((aa).symm.trans h) c7
 exact aK aa<|aK aa<|p (bL aa)<|p mv<|aK aa<|aK aa<|aK aa<|aK aa<|aK aa<|aK aa<|aK aa<|p (bL aa)<|nl<|i<|ct aa<|az fun A=>rg aa<|p (cT (ps:= []) (L:= [.string ⟨⟨[]⟩⟩,.slice none 0 0]) lz aa<|aa)<|e<|ca gP aa aa aa aa (E) (by simp) fun ab G C=>ay<|A<|rt<|tr<|ew aa (dB (cs:= [str [],.slice none 0 0]) aa jD aa fun j U=>C.bm j) dX<|⟨aa,a.md.trans' G fun q V h=>by omega⟩
theorem HG (a b:cJ) (w:World):
 bd ao 27 (a7 [.agg (eG a).toArray,.agg (eG b).toArray]) w (fun v w'=>v= .bool (mr a b)∧Wk w w'):=by
 refine enter func27 aa ntmps27 aa<|ak fun G=>e<|iV aa fun O Z c E V=> ?_
 have c:bw Z.heap O (eG a):=V
 refine e<|iV aa fun U ab i q Y=> ?_
 have i:bw ab.heap U (eG b):=Y
 have c:=Wk.B q.md c
 refine ay<|G<|az fun I=>ak fun J=>p (fa kn aa)<|p (ld bK aa<|c.bm 2)<|p (fa kn aa)<|p (ld bK aa<|i.bm 2)<|p (fR aa aa)<|nl<|J<|cd aa (fun h1=> ?_) fun h1=> ?_
 exact ak fun A=>p (fa kn aa)<|p (ld bK aa<|c.bm 2)<|p (fa kn aa)<|p (ld bK aa<|i.bm 2)<|p (lt aa aa)<|p aA<|nl<|A<|rt<|tr<|ba aa<|⟨by unfold mr; rw [if_pos h1]; rfl,E.md.trans q.md⟩
 refine aO<|I<|az fun A=>ak fun M=>p (fa ko aa)<|p (ld bK aa<|c.bm 3)<|p (fa ko aa)<|p (ld bK aa<|i.bm 3)<|p (fR aa aa)<|nl<|M<|cd aa (fun h2=> ?_) fun h2=> ?_
 exact ak fun C=>p (fa ko aa)<|p (ld bK aa<|c.bm 3)<|p (fa ko aa)<|p (ld bK aa<|i.bm 3)<|p (lt aa aa)<|p aA<|nl<|C<|rt<|tr<|ba aa<|⟨by unfold mr; rw [if_neg h1,if_pos h2]; rfl,E.md.trans q.md⟩
 exact aO<|A<|ak fun C=>p (fa mC aa)<|p (ld bK aa<|c.bm 4)<|p (fa mC aa)<|p (ld bK aa<|i.bm 4)<|p (lt aa aa)<|ay<|C<|rt<|ba aa<|⟨by unfold mr; rw [if_neg h1,if_neg h2]; rfl,E.md.trans q.md⟩
end Go.Hb
end
section
namespace Go.Hb
open Go.Hb.lO Go.Hb.pC
theorem EE (most:Int):kX [] most= []:=by unfold kX; split <;> simp
set_option maxHeartbeats 4000000 in
theorem QM (a t:Tx) (n:Int) (w:World) (ds:a.length≤1048576) (eq:t.length≤1048576) (F:aG) (xs:List bo) (et:lA a t=some (F,xs)):
 bd ao 8 (a7 [str a,str t,.int .i64 n]) w (fun v w'=>v= .bool true∧Wk w w'):=by
 refine enter func8 aa ntmps8 aa<|ak fun cv=>ay<|cv<|az fun cI=>ak fun cK=>e<|cl ki (E8 w) aa fun fj ex dm=> ?_
 obtain ⟨rfl,bN⟩:=dm
 have e2:=bN.size
 refine p (no aa)<|nl<|cK<|cf (aa)<|aO<|cI<|ak fun cL=>p mv<|p mv<|e<|cl vZ (yY a t ex ds eq) aa fun v28 cq dn=> ?_
 obtain ⟨⟨pp,fd,fe,fg,rfl,ci⟩,hE28⟩:=dn
 rw [et] at ci
 have e3:=hE28.size
 obtain ⟨B,tb,ah,eJ,rfl,bc,E⟩:=ci
 have bc:eQ cq B tb ah F xs:=bc
 have E:ff F xs:=E
 refine p mv<|p (xt aa aa)<|p (xt aa aa)<|e<|al mR fun eF fu eL bV c5=> ?_
 have e8:=bV.size
 refine p aA<|e<|ca gY aa aa aa aa (c5) (by simp) fun cu dj eI=> ?_
 have a4:Wk cq cu:=bV.md.trans' dj fun q aC h=>by omega
 have e4:=a4.size
 have da:=(bN.trans hE28).trans a4
 have b2:=bc.wk a4
 refine nl<|cL<|ak fun cM=>p mv<|p mv<|e<|cl nO (pU B tb ah F xs n cu b2 E) aa fun fk ey dp=> ?_
 obtain ⟨⟨eB,rfl,dM⟩,hE34⟩:=dp
 obtain ⟨cR,cV,rfl⟩:=cU dM
 have e5:=hE34.size
 refine p mv<|p (xt aa aa)<|p (xt aa aa)<|e<|al lD fun aQ fv b7 bW c6=> ?_
 have e9:=bW.size
 refine e<|ca gP aa aa aa aa (c6) (by simp) fun bx dk c2=> ?_
 have bS:Wk ey bx:=bW.md.trans' dk fun q aC h=>by omega
 have b7:bw bx.heap aQ [str (fO xs n),.slice cR (flagsOf xs n).length cV]:=c2
 have db:=da.trans<|hE34.trans bS
 have b4:=b2.wk<|hE34.trans bS
 refine ay<|cM<|ak fun cN=>p mv<|p mv<|e<|cl vW (Dg B tb ah F xs n 400 bx b4 E ab) aa fun fl cr dq=> ?_
 obtain ⟨ad,a5⟩:=dq
 obtain ⟨M,V,rfl⟩:=cU ad
 have bP:=db.trans a5
 have b3:=b4.wk a5
 have dw:=Wk.B a5 b7
 refine ay<|cN<|az fun cP=>ak fun cQ=>p mv<|p (no aa)<|nl<|cQ<|cb aa (fun aq=> ?_) fun aq=> ?_
 have ax:¬(0≤n∧n < xs.length):=fun h=>by rw [decide_eq_true h] at aq; cases aq
 exact ak fun a2=>p mv<|p (bO qo aa aa)<|p (bR aa aa)<|ay<|a2<|rt<|tr<|ba aa<|⟨congrArg bQ (decide_eq_true<|by rw [BD ax,EE]; rfl),bP⟩
 have eW:0≤n∧n < xs.length:=qD fun h=>by rw [decide_eq_false h] at aq; cases aq
 obtain ⟨k,rfl⟩:∃ m:Nat,n=(m:Int):=⟨n.toNat,ab⟩
 have df:kX (jJ F xs (k:Int)) 400=((eK F xs k).take 400):=by rw [rq ab]; exact if_neg ab
 rw [df] at ad ⊢
 have eX:((eK F xs k).take 400).length≤400:=by rw [List.length_take]; omega
 have er:fO xs (k:Int)=(xs.getD k ([],[])).1:=by
  obtain ⟨x,aF⟩:∃ x,xs[k]? =some x:=⟨_,cj ab⟩
  rw [(nL aF).1,cX,aF]; rfl
 have es:(fO xs (k:Int)).length≤1000:=by
  obtain ⟨x,aF⟩:∃ x,xs[k]? =some x:=⟨_,cj ab⟩
  rw [(nL aF).1]; have :=(E.rC x<|gV aF).1; omega
 refine aO<|cP<|az fun a2=>ak fun cx=>p mv<|p (bO qo aa aa)<|p mv<|nl<|cx<|aB<|lp (fun ai I bv=> ∃ (i:Nat),(i≤((eK F xs k).take 400).length)∧(Wk cr bv)∧(I 2=aj k)∧(I 7=aW tb)∧(I 9=aW aQ)∧(I 11= .slice M ((eK F xs k).take 400).length V)∧(I 45= .slice M ((eK F xs k).take 400).length V)∧(I 46=aj (((eK F xs k).take 400).length))∧(I 47=aj i)∧(((eK F xs k).take 400).length - i=ai)) _ ⟨0,ab,(Md.refl _ _),aa,aa,aa,aa,aa,aa,aa,aa⟩ ?_
 rintro ai I bv ⟨i,hi,aT,dS,dX,dY,dR,dT,dU,dW,rfl⟩
 refine fx 2 dS<|fx 7 dX<|fx 9 dY<|fx 11 dR<|fx 45 dT<|fx 46 dU<|fx 47 dW<|ak fun cy=>p (lt aa aa)<|nl<|cy<|az fun cA=>cd aa (fun dE=> ?_) fun dE=> ?_
 refine aO<|cA<|az fun aL=>aB<|az fun cB=> ?_
 obtain ⟨d,hd⟩:∃ d,((eK F xs k).take 400)[i]? =some d:=⟨_,cj ab⟩
 obtain ⟨dA,b8,b9,cc,ce⟩:=OE<|List.mem_of_mem_take<|gV hd
 obtain ⟨dt,dH,dI,dK⟩:=OL b8 b9 cc ce
 refine rg aa<|au (aj i)<|p (a6 rF aa aa ab<|aE.ok ((mI ad).wk aT)<|rv ab)<|p (cz k6 aa (aa)<|gn (f:=eG) (m:=5) (fun _=>rfl) ((mI ad).wk aT) hd)<|e<|al uZ fun aP fr an bT cZ=> ?_
 have e0:=bT.size
 refine p (bZ (aj i) aa)<|e<|ca tF aa aa aa aa (cZ) (by simp) fun cs dg cY=> ?_
 have bE:Wk bv cs:=bT.md.trans' dg fun q aC h=>by omega
 have eZ:=bE.size
 have an:bw cs.heap aP (eG d):=cY
 refine nl<|cB<|ak fun cC=>ay<|cC<|az fun cD=>ak fun cE=>p (fa kn aa)<|p (ld bK aa<|an.bm 2)<|p (fa ko aa)<|p (ld bK aa<|an.bm 3)<|p (fa mC aa)<|p (ld bK aa<|an.bm 4)<|e<|oE (L:= [.int .i64 d.fst,.int .i64 d.snd,.int .i64 d.pre]) o0 aa aa aa aa fun bD a0 b6 bb c3=> ?_
 have e6:=bb.size
 have b6:bw a0.heap bD [.int .i64 d.fst,.int .i64 d.snd,.int .i64 d.pre]:=⟨_,c3⟩
 have dc:=bE.trans bb.md
 have aS:=aT.trans dc
 have du:=Wk.B bb.md an
 refine p (bO sx aa aa)<|p mv<|nl<|cE<|aB<|lp (fun ai A ae=> ∃ (j:Nat) (rs:List (cG×Value)) (J:Option Addr) (U:Nat),(j≤3)∧(rs.map gW=([d.fst,d.snd,d.pre].take j).flatMap (jX F))∧(rs.length≤j)∧(∀ r∈rs,r.1.strip.length≤1048576∧r.1.add.length≤32∧r.1.cond.length≤1048576∧r.2.oneCell'=true)∧(bp ae a0.heap.size 77 7 (.slice J rs.length U) rs.length<|eC rs)∧(Wk a0 ae)∧(A 2=aj k)∧(A 7=aW tb)∧(A 9=aW aQ)∧(A 11= .slice M ((eK F xs k).take 400).length V)∧(A 45= .slice M ((eK F xs k).take 400).length V)∧(A 46=aj (((eK F xs k).take 400).length))∧(A 47=aj i)∧(A 12=aj i)∧(A 13=aW aP)∧(A 14= .slice J rs.length U)∧(A 58= .slice (some ⟨bD,0,none⟩) 3 3)∧(A 59= .int .i64 3)∧(A 60=aj j)∧(3 - j=ai)) _ ⟨0,[],none,0,ab,aa,(cw _),(fun _ h=>by cases h),(dJ _ _ _ _),(Md.refl _ _),aa,aa,aa,aa,aa,aa,aa,aa,aa,aa,aa,aa,aa,aa⟩ ?_
 rintro ai A ae ⟨j,rs,J,U,bl,bu,eY,bt,cn,Z,d3,ea,ec,dZ,d4,d5,d6,d0,d1,d2,d7,d8,d9,rfl⟩
 refine fx 2 d3<|fx 7 ea<|fx 9 ec<|fx 11 dZ<|fx 45 d4<|fx 46 d5<|fx 47 d6<|fx 12 d0<|fx 13 d1<|fx 14 d2<|fx 58 d7<|fx 59 d8<|fx 60 d9<|ak fun cF=>p (lt aa aa)<|nl<|cF<|az fun cH=>cd aa (fun dF=> ?_) fun dF=> ?_
 refine aO<|cH<|az fun aM=>aB<|az fun aN=> ?_
 have av:j=0∨j=1∨j=2:=ab
 have dL:([.int .i64 d.fst,.int .i64 d.snd,.int .i64 d.pre]:List Value)[j]? =some (.int .i64<|dV d.fst d.snd d.pre j):=by rcases av with rfl | rfl | rfl <;> rfl
 have ck:s9 F (dV d.fst d.snd d.pre j) (decide (j=2)):=by
  rcases av with rfl | rfl | rfl
  exact dH
  exact dI
  exact dK
 have cp:([d.fst,d.snd,d.pre].take<|j+1).flatMap (jX F)=([d.fst,d.snd,d.pre].take j).flatMap (jX F)++jX F (dV d.fst d.snd d.pre j):=by rcases av with rfl | rfl | rfl <;> simp [dV]
 refine rg aa<|au (aj j)<|p (ia pX aa aa ab)<|p (ld bK aa<|aE.jj ((aE.fA b6).wk Z) dL)<|p (bZ (aj j) aa)<|ay<|aN<|ak fun cJ=>au (aW tb)<|p mv<|e<|cl wo (se B tb ah F xs (dV d.fst d.snd d.pre j) ae (b3.wk<|aS.trans Z) E) aa fun fm ft dr=> ?_
 obtain ⟨⟨eE,rfl,dN⟩,hE68⟩:=dr
 obtain ⟨O,Y,rfl⟩:=cU dN
 have e7:=hE68.size
 refine p mv<|p (xt aa aa)<|p (xt aa aa)<|e<|al nv fun cT fs bh bU c1=> ?_
 have e1:=bU.size
 refine e<|ca lT aa aa aa aa (c1) aw fun ct dh c0=> ?_
 have bG:Wk ae ct:=(hE68.trans bU.md).trans' dh fun q aC h=>by omega
 have bh:bw ct.heap cT (dC (jr F (dV d.fst d.snd d.pre j),bB O (bY F<|dV d.fst d.snd d.pre j).length Y)):=c0
 have a3:=Z.trans bG
 have br:=aX cn bG
 refine ay<|cJ<|az fun bz=>ak fun bA=>p mv<|p (no aa)<|p mv<|gb (t:=73) aa (fun ar=> ?_) fun ar=> ?_
 have ax:¬(0≤(dV d.fst d.snd d.pre j)∧(dV d.fst d.snd d.pre j) < F.rules.length):=fun h=>by rw [decide_eq_true h] at ar; cases ar
 have bH:(dV d.fst d.snd d.pre j)= -1:=ck.resolve_right fun ⟨m,a,b,_⟩=>ax ab
 have bk:jX F (dV d.fst d.snd d.pre j)= []:=if_pos bH
 exact aU aa mv<|aU aa (fR aa aa)<|p (bL aa)<|p mv<|gs (t:=77) aa (fun h=>absurd h fun h=>h bH) fun eV=>aU aa mv<|aU aa mv<|gs (t:=79) aa (fun h=>absurd h ax) fun dB=>aK aa<|aK aa<|aK aa<|aK aa<|aK aa<|aK aa<|aU aa (bC aa)<|p (bC aa)<|nl<|bA<|cf aa<|aO<|bz<|ak fun a1=>p mv<|nl<|a1<|cd aa (fun h=>absurd h ax) fun dy=>aO<|bn<|aM<|rg aa<|p (bI ((j+1:Nat):Int) aa aa<|bf ab ab)<|p mv<|nl<|tn<|⟨_,ab,j+1,rs,J,U,ab,(by rw [cp,bk,eb]; exact bu),ab,bt,br,a3,aa,aa,aa,aa,aa,aa,aa,aa,aa,aa,aa,aa,aa,aa⟩
 have ch:0≤(dV d.fst d.snd d.pre j)∧(dV d.fst d.snd d.pre j) < F.rules.length:=qD fun h=>by rw [decide_eq_false h] at ar; cases ar
 obtain ⟨m,hm,dG,bq⟩:=ck.resolve_left fun h=>by omega
 obtain ⟨r,aD⟩:∃ r,F.rules[m]? =some r:=⟨_,cj dG⟩
 have bs:jr F (dV d.fst d.snd d.pre j)=r:=by rw [hm]; exact (uv aD).1
 have co:F.rules.getD m di=r:=(uv aD).2.2.2
 rw [co] at bq
 have bk:jX F (dV d.fst d.snd d.pre j)= [jr F (dV d.fst d.snd d.pre j)]:=by unfold jX; rw [if_neg ab,bs,hm,jv,co]
 have dz:decide ((j:Int)=2)=decide (((jr F<|dV d.fst d.snd d.pre j).kind:Int)=1):=by
  rw [bs]
  exact decide_eq_decide.2 ⟨fun h=>by have :=bq.2 (decide_eq_true ab); omega,fun h=>by have :=of_decide_eq_true (bq.1 ab); omega⟩
 refine aK aa<|aK aa<|p (bC aa)<|p mv<|aU aa mv<|aU aa mv<|gs (t:=79) aa (fun dB=> ?_) fun h=>absurd ch h
 refine aU aa (aH (aj j) aa)<|aU aa (bR aa aa)<|aU aa (fa xM aa)<|aU aa (ld bK aa<|bh.bm 0)<|aU aa (bR aa aa)<|aU aa (OQ u4 aa aa)<|aU aa (bL aa)<|p (bC aa)<|nl<|bA<|cd aa (fun h=>absurd h fun h=>h dz) fun eN=>aO<|bz<|ak fun a1=>p mv<|nl<|a1<|cd aa (fun dy=> ?_) fun h=>absurd ch h
 refine rg aa<|au (.slice J rs.length U)<|p (cz jF aa (aa) fun q aC=>bh.bm q)<|e<|mu qi aa aa aa fun eH fw eM aZ c8=> ?_
 have fb:=aZ.size
 refine e<|ap qi (aX br aZ.md) aa (by have :=a3.size; omega) aa (aE.fA c8) (aa) (aa) ab ab fun ev ez dO dl fc eO=> ?_
 have dd:=Wk.own (a3.trans aZ.md) (aX br aZ.md) dl<|cw _
 have cm:bp ez a0.heap.size 77 7 ev (rs++ [(jr F (dV d.fst d.snd d.pre j),bB O (bY F<|dV d.fst d.snd d.pre j).length Y)]).length (eC<|rs++ [(jr F (dV d.fst d.snd d.pre j),bB O (bY F<|dV d.fst d.snd d.pre j).length Y)]):=by rw [show eC (rs++ [(jr F (dV d.fst d.snd d.pre j),bB O (bY F<|dV d.fst d.snd d.pre j).length Y)])=eC rs++dC (jr F (dV d.fst d.snd d.pre j),bB O (bY F<|dV d.fst d.snd d.pre j).length Y) from by unfold eC; rw [nC,oo],bJ]; exact dO
 obtain ⟨cS,cW,rfl⟩:=cU cm
 exact p aA<|nl<|bn<|aM<|rg aa<|p (bI ((j+1:Nat):Int) aa aa<|bf ab ab)<|p mv<|nl<|tn<|⟨_,ab,j+1,rs++ [(jr F (dV d.fst d.snd d.pre j),bB O (bY F<|dV d.fst d.snd d.pre j).length Y)],cS,cW,ab,(by rw [cp,bk,iJ,bu]; rfl),(by rw [bJ,List.length_singleton]; omega),(fun eu dP=>by rcases List.mem_append.1 dP with h | h; exact bt eu h; obtain rfl :=List.mem_singleton.1 h; rw [show (((jr F (dV d.fst d.snd d.pre j),bB O (bY F<|dV d.fst d.snd d.pre j).length Y):cG×Value)).1=r from bs]; exact ⟨(ja E aD).1,(ja E aD).2.2.2,(ja E aD).2.2.1,aa⟩),cm,dd,aa,aa,aa,aa,aa,aa,aa,aa,aa,aa,aa,aa,aa,aa⟩
 refine ext<|bj<|bj<|be<|cD<|az fun aM=> ?_
 have av:j=3:=ab
 have dQ:rs.map gW=jX F d.fst++(jX F d.snd++jX F d.pre):=by rw [bu,av]; simp
 refine rg aa<|p (fa rP aa)<|p (ld cO aa<|(Wk.B (aS.trans Z) dw).bm 0)<|au (.slice J rs.length U)<|e<|cl Iz (PL rs J U (fO xs (k:Int)) ae (aV cn).2 bt ab es) aa fun fo eA b1=> ?_
 rw [dQ,er,dt] at b1
 obtain ⟨rfl,a9⟩:=b1
 have b5:=Wk.B (Z.trans a9) du
 refine p mv<|p (xt aa aa)<|p (xt aa aa)<|p aA<|ay<|aM ?_
 refine eD (fun C G=>(Wk cr G)∧(bw G.heap aP<|eG d)∧(C 2=aj k)∧(C 7=aW tb)∧(C 9=aW aQ)∧(C 11= .slice M ((eK F xs k).take 400).length V)∧(C 45= .slice M ((eK F xs k).take 400).length V)∧(C 46=aj (((eK F xs k).take 400).length))∧(C 47=aj i)∧(C 12=aj i)∧(C 13=aW aP)∧(C 19=str d.mM)∧(C 20= .bool true)∧(C 21=str d.mM)∧(C 22= .bool true)) ?_ ?_
 refine rg aa<|au (aW tb)<|p (cz k6 aa (aa) fun q aC=>b5.bm q)<|e<|cl Ij (Ou B tb ah F xs d.mM (d.tL:Nat) d.fst d.snd d.pre eA (b3.wk<|(aS.trans Z).trans a9) E b8 b9 cc) aa fun fh fq bX=> ?_
 rw [dA,rW ab,ce] at bX
 obtain ⟨rfl,bF⟩:=bX
 have dv:=Wk.B bF b5
 have de:=((aS.trans Z).trans a9).trans bF
 exact p mv<|p (xt aa aa)<|p (xt aa aa)<|p aA<|p aA<|nl<|tn<|⟨de,dv,aa,aa,aa,aa,aa,aa,aa,aa,aa,aa,aa,aa,aa⟩
 rintro C G ⟨aY,bi,eh,eo,ep,ed,el,em,en,ee,ef,eg,ei,ej,ek⟩
 refine fx 2 eh<|fx 7 eo<|fx 9 ep<|fx 11 ed<|fx 45 el<|fx 46 em<|fx 47 en<|fx 12 ee<|fx 13 ef<|fx 19 eg<|fx 20 ei<|fx 21 ej<|fx 22 ek<|az fun aN=> ?_
 have c:(fun w'=>Wk G w') G.drew:=(Md.refl _ _).drew
 refine bM (fun w'=>Wk G w') aa wide c<|bH 0 aa (.bool true) c<|aJ 1 aa (fun _ _=>no aa) c<|aJ 2 aa (fun _ _=>mv) c<|CS (t:=109) aa (fun h=>absurd (h.symm.trans<|aa) c7) fun eP=>bg 3 aa (fun _ _=>aH (str d.mM) aa) c<|bg 4 aa (fun _ _=>fa tW aa) c<|bg 5 aa (fun w' ac=>ld cO aa<|Wk.aI ac<|bi.bm 0) c<|bg 6 aa (fun _ _=>oV aa aa) c<|aJ 7 aa (fun _ _=>bC aa) c<|aJ 8 aa (fun _ _=>mv) c<|ir (t:=115) aa (fun h=>absurd h fun h=>h aa) fun eR=>bg 9 aa (fun _ _=>aH (.bool true) aa) c<|bg 10 aa (fun _ _=>no aa) c<|aJ 11 aa (fun _ _=>bC aa) c<|aJ 12 aa (fun _ _=>mv) c<|CS (t:=119) aa (fun h=>absurd (h.symm.trans<|aa) c7) fun eS=>bg 13 aa (fun _ _=>aH (str d.mM) aa) c<|bg 14 aa (fun _ _=>aH (str d.mM) aa) c<|bg 15 aa (fun _ _=>oV aa aa) c<|aJ 16 aa (fun _ _=>bC aa) c<|aJ 17 aa (fun _ _=>mv) c<|ir (t:=124) aa (fun h=>absurd h fun h=>h aa) fun eT=> ?_
 refine bg 18 aa (fun _ _=>fa rN aa) c<|bg 19 aa (fun w' ac=>ld bK aa<|Wk.aI ac<|bi.bm 1) c<|bg 20 aa (fun _ _=>aH (aj k) aa) c<|bg 21 aa (fun _ _=>fR aa aa) c<|aJ 22 aa (fun _ _=>bC aa) c<|aJ 23 aa (fun _ _=>mv) c<|ir (t:=130) aa (fun h=>absurd h fun h=>h ab) fun eU=>bg 24 aa (fun _ _=>aH (aj i) aa) c<|bg 25 aa (fun _ _=>gt aa aa) c<|bg 26 aa (fun _ _=>mv) c<|ir (t:=133) aa (fun dD=> ?_) fun dD=> ?_
 obtain ⟨aR,cg⟩:∃ aR,((eK F xs k).take 400)[i - 1]? =some aR:=⟨_,cj ab⟩
 have dx:mr aR d=true :=HF cg<|by rw [show i - 1 +1=i by omega]; exact hd
 refine bg 27 aa (fun _ _=>aH (.slice M ((eK F xs k).take 400).length V) aa) c<|bg 28 aa (fun _ _=>aH (aj i) aa) c<|bg 29 aa (fun _ _=>c4 ((i - 1:Nat):Int) aa aa<|bf ab ab) c<|bg 30 aa (fun _ _=>a6 rF aa aa ab<|aE.ok (((mI ad).wk aY).wk c)<|rv ab) c<|bg 31 aa (fun w' ac=>cz k6 aa (aa) fun j bl=>gn (f:=eG) (m:=5) (fun _=>rfl) (((mI ad).wk aY).wk ac) cg j bl) c<|bg 32 aa (fun w' ac=>cz k6 aa (aa) fun j bl=>(Wk.B ac bi).bm j) c<|kq 33 aa ag aa aa aa<|cl IC (HG aR d G.drew) aa fun fi ew b0=> ?_
 rw [dx] at b0
 obtain ⟨rfl,c9⟩:=b0
 have am:(fun w'=>Wk G w') ew:=c.trans c9
 refine ⟨am,?_⟩
 exact bg 34 aa (fun _ _=>no aa) am<|bg 35 aa (fun _ _=>bL aa) am<|aJ 36 aa (fun _ _=>bC aa) am<|hn ag<|aN<|cf (aa)<|aO<|bn<|aL<|rg aa<|p (bI ((i+1:Nat):Int) aa aa<|bf ab ab)<|p mv<|nl<|tn<|⟨_,ab,i+1,ab,(aY.trans am),aa,aa,aa,aa,aa,aa,aa,aa⟩
 exact a8 27 aa c<|a8 28 aa c<|a8 29 aa c<|a8 30 aa c<|a8 31 aa c<|a8 32 aa c<|a8 33 aa c<|a8 34 aa c<|bg 35 aa (fun _ _=>bC aa) c<|aJ 36 aa (fun _ _=>bC aa) c<|hn ag<|aN<|cf aa<|aO<|bn<|aL<|rg aa<|p (bI ((i+1:Nat):Int) aa aa<|bf ab ab)<|p mv<|nl<|tn<|⟨_,ab,i+1,ab,(aY.trans c),aa,aa,aa,aa,aa,aa,aa,aa⟩
 exact ext<|bj<|bj<|be<|a2<|ak fun aL=>p aA<|nl<|aL<|rt<|ba aa<|⟨aa,bP.trans aT⟩
theorem QL (a t:Tx) (n:Int) (w:World) (ax:a.length≤1048576) (aC:t.length≤1048576) (aD:lA a t=none):
 bd ao 8 (a7 [str a,str t,.int .i64 n]) w (fun v w'=>v= .bool true∧Wk w w'):=by
 refine enter func8 aa ntmps8 aa<|ak fun O=>ay<|O<|az fun U=>ak fun V=>e<|cl ki (E8 w) aa fun a0 aE ar=> ?_
 obtain ⟨rfl,i⟩:=ar
 have aR:=i.size
 refine p (no aa)<|nl<|V<|cf (aa)<|aO<|U<|ak fun Y=>p mv<|p mv<|e<|cl vZ (yY a t aE ax aC) aa fun v28 aF au=> ?_
 obtain ⟨⟨pp,aX,aY,aZ,rfl,c⟩,hE28⟩:=au
 rw [aD] at c
 have aS:=hE28.size
 have c:pp=none:=c
 subst c
 refine p mv<|p (xt aa aa)<|p (xt aa aa)<|e<|al mR fun aJ a4 aP E ag=> ?_
 have aV:=E.size
 refine p aA<|e<|ca gY aa aa aa aa (ag) (by simp) fun J ap aM=> ?_
 have A:Wk aF J:=E.md.trans' ap fun q aB h=>by omega
 have aT:=A.size
 have aj:=(i.trans hE28).trans A
 refine nl<|Y<|ak fun Z=>p mv<|p mv<|e<|cl nO (LF n J) aa fun a1 aG av=> ?_
 obtain ⟨rfl,C⟩:=av
 have aU:=C.size
 refine p mv<|p (xt aa aa)<|p (xt aa aa)<|e<|al lD fun aK a5 aQ G ah=> ?_
 have aW:=G.size
 refine e<|ca gP aa aa aa aa (ah) (by simp) fun M aq aN=> ?_
 have am:Wk aG M:=G.md.trans' aq fun q aB h=>by omega
 have an:=aj.trans<|C.trans am
 refine ay<|Z<|ak fun ac=>p mv<|p mv<|e<|cl vW (Oc n 400 M ab) aa fun a2 a3 aw=> ?_
 obtain ⟨I,ai⟩:=aw
 rw [EE] at I
 obtain ⟨aI,aL,rfl⟩:=cU I
 exact ay<|ac<|az fun aH=>ak fun ad=>p mv<|p (no aa)<|nl<|ad<|ct (aa)<|ak fun ae=>p mv<|p (bO qo aa aa)<|p (bR aa aa)<|ay<|ae<|rt<|tr<|ba aa<|⟨aa,an.trans ai⟩
theorem QN (a t:Tx) (n:Int) (w:World) (c:a.length≤1048576) (i:t.length≤1048576):bd ao 8 [str a,str t,.int .i64 n].toArray w (fun v w'=>v= .bool true∧Wk w w'):=by
 cases hx:lA a t with
 | none=>exact QL a t n w c i hx
 | some Y=>obtain ⟨F,xs⟩:=Y; exact QM a t n w c i F xs hx
end Go.Hb
end
