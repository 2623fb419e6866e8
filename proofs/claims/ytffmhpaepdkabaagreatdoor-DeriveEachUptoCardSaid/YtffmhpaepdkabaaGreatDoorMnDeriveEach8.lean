/-
  Walks and plain laws that the law rests on, laid together. No conditions but those that each theorem names.
-/
import Derived.Test.YtffmhpaepdkabaaGreatDoorMnDeriveEach7
set_option linter.unusedVariables false
set_option maxRecDepth 20000
set_option maxHeartbeats 1000000
open Array renaming getElem?_eq_some_iff→cQ
open Bool renaming and_eq_true→gU,and_false→vL,and_true→DN,noConfusion→ei
open Classical renaming not_not→jq
open Go.Calls renaming mono→lN
open Go.Proofs.Tryz renaming prog→aw
open Go.Value renaming bool→bT,ownBlock→iU,slice→bR
open Go.World renaming ownsRow→bu,ownsRow_nil→dx
open Int renaming toNat_natCast→mM
open List renaming append_assoc→dF,append_nil→ek,filterMap_append→zz,flatMap_append→n8,flatMap_singleton→pX,getD_eq_getElem?_getD→cV,getElem?_eq_getElem→cD,getElem?_eq_some_iff→fJ,getElem?_zip_eq_some→jx,length_append→bL,length_nil→ga,length_singleton→e5,mem_of_getElem?→iP,nil_append→pY,prefix_append→wm,prefix_refl→El,take_append_drop→wq,take_of_length_le→eN,toArray→bh
open Nat renaming le_refl→cB,lt_or_ge→fg,lt_succ_iff_lt_or_eq→Ns,not_lt_zero→Nt,zero_le→jD
open Option renaming isSome_iff_exists→oX
open Go.Proofs.Tryz
open Go.Hb.dX Go.Proofs Go.Hb.fk Go.Hb.gh Go.Hb.kn Go.Hb.iu Go.Hb.jQ Go.Hb.kI Go.Hb.lA Go.Hb.lQ Go.Hb.jG Go.Hb.k3 Go.Hb.nv

namespace Go.Hb
theorem m9 {l:List Nat} {i:Nat} (h:i < l.length):(l.map bP)[i]? =some (bP<|l.getD i 0):=by rw [List.getElem?_map,cV,cD h]; rfl
theorem C0 (B tb fb:Nat) (V:ep) (ve:Value) (F:aT) (xs:List bF) (n:Int) (w:World) (E:gi w B tb fb V ve F xs) (U:eW F xs):
 bo aw 99 (bh [aR tb,.int .i64 n]) w (fun v w'=>(∃ a c,v= .slice a (flagsOf xs n).length c∧Tg w' 0 3 (flagsOf xs n).length v ((flagsOf xs n).map bP))∧Wk w w'):=by
 obtain ⟨ai,ce,ae⟩:=E.LL
 have ao:=U.xl
 refine enter func99 aa ntmps99 aa<|ag fun J=>ay<|J<|aC fun M=>ag fun A=>p mv<|p (lt aa aa)<|p mv<|gs (t:=7) aa (fun ac=> ?_) fun ac=> ?_
 refine aH aa<|aH aa<|aH aa<|aH aa<|aH aa<|aH aa<|aH aa<|p (bB aa)<|nl<|A<|ct aa<|ag fun i=>ay<|i<|rt<|tr<|aX aa ?_
 have q:=(sD (xs:=xs) (n:=n) ab).2
 rw [q]
 exact ⟨⟨none,0,aa,rN _ _ _⟩,Md.refl _ _⟩
 refine aI aa mv<|aI aa mv<|aI aa (nc aa)<|aI aa (fa xW aa)<|aI aa (ld wU aa<|ae)<|aI aa (bK Du aa aa)<|aI aa (ge aa aa)<|p (bq aa)<|nl<|A<|cd aa (fun Z=> ?_) fun Z=> ?_
 refine ag fun i=>ay<|i<|rt<|tr<|aX aa ?_
 have q:=(sD (xs:=xs) (n:=n) ab).2
 rw [q]
 exact ⟨⟨none,0,aa,rN _ _ _⟩,Md.refl _ _⟩
 obtain ⟨k,rfl⟩:∃ k:Nat,n=(k:Int):=⟨n.toNat,ab⟩
 obtain ⟨x,I⟩:∃ x,xs[k]? =some x:=⟨_,cD ab⟩
 obtain ⟨aj,ak,ws,a,c,ah,C,G,Y⟩:=E.sQ I
 obtain ⟨al,O,am,an⟩:=sB I
 refine aO<|M<|ag fun i=>p mv<|p (nc aa)<|p (fa xW aa)<|p (ld wU aa<|ah)<|p mv<|p (ba G6 aa aa ab<|aJ.ok (C)<|uy G)<|p (fa S6 aa)<|p (ld pc aa<|fw (f:=pw) (m:=2) (fun _=>rfl) C G 1 az)<|ay<|i<|rt<|aX aa ?_
 rw [O]
 exact ⟨⟨a,c,aa,Y⟩,Md.refl _ _⟩
theorem W7 (B tb fb:Nat) (V:ep) (ve:Value) (F:aT) (xs:List bF) (n:Int) (w:World) (q:gi w B tb fb V ve F xs) (U:eW F xs):
 bo aw 124 (bh [aR tb,.int .i64 n]) w (fun v w'=>(∃ a c,v= .slice a (cW F n).length c∧Tg w' 0 3 (cW F n).length v ((cW F n).map bP))∧Wk w w'):=by
 obtain ⟨ai,ce,ae⟩:=q.Dx
 have ao:=U.len
 refine enter func124 aa ntmps124 aa<|ag fun J=>ay<|J<|aC fun M=>ag fun C=>p mv<|p (lt aa aa)<|p mv<|gs (t:=7) aa (fun ac=> ?_) fun ac=> ?_
 refine aH aa<|aH aa<|aH aa<|aH aa<|aH aa<|aH aa<|aH aa<|aH aa<|aH aa<|aH aa<|p (bB aa)<|nl<|C<|ct aa<|ag fun i=>ay<|i<|rt<|tr<|aX aa ?_
 have A:=(vq (F:=F) (n:=n) ab).2
 rw [A]
 exact ⟨⟨none,0,aa,rN _ _ _⟩,Md.refl _ _⟩
 refine aI aa mv<|aI aa mv<|aI aa (nc aa)<|aI aa (fa m6 aa)<|aI aa (ld ib aa<|(a7 q.cells).trans aa)<|aI aa (nc aa)<|aI aa (fa jL aa)<|aI aa (ld j8 aa<|ae)<|aI aa (bK tx aa aa)<|aI aa (ge aa aa)<|p (bq aa)<|nl<|C<|cd aa (fun Z=> ?_) fun Z=> ?_
 refine ag fun i=>ay<|i<|rt<|tr<|aX aa ?_
 have A:=(vq (F:=F) (n:=n) ab).2
 rw [A]
 exact ⟨⟨none,0,aa,rN _ _ _⟩,Md.refl _ _⟩
 obtain ⟨k,rfl⟩:∃ k:Nat,n=(k:Int):=⟨n.toNat,ab⟩
 obtain ⟨r,I⟩:∃ r,F.rules[k]? =some r:=⟨_,cD ab⟩
 obtain ⟨aj,ak,a,c,ah,E,G,Y⟩:=q.iL I
 obtain ⟨al,O,am,an⟩:=vp I
 refine aO<|M<|ag fun i=>p mv<|p (nc aa)<|p (fa m6 aa)<|p (ld ib aa<|(a7 q.cells).trans aa)<|p (nc aa)<|p (fa jL aa)<|p (ld j8 aa<|ah)<|p mv<|p (ba nE aa aa ab<|aJ.ok (E)<|nJ G)<|p (fa uH aa)<|p (ld pc aa<|fw (f:=jv) (m:=8) (fun _=>rfl) E G 6 az)<|p aB<|nl<|i<|rt<|aX aa ?_
 rw [O]
 exact ⟨⟨a,c,aa,Y⟩,Md.refl _ _⟩
theorem IC (a:Option Addr) (c:Nat) (l:List Nat) (x:Nat) (w:World) (J:aJ w.heap a (l.map bP)) (an:l.length≤1048576):
 bo aw 100 (bh [.slice a l.length c,bP x]) w (fun v w'=>v= .bool (decide (x≠0∧x∈l))∧Wk w w'):=by
 refine enter func100 aa ntmps100 aa<|ag fun O=>ay<|O<|aC fun U=>ag fun V=>ay<|V<|aM<|lp (fun I A M=> ∃ (i:Nat),(i≤l.length)∧(∀ j,j < i→¬(l.getD j 0=x∧x≠0))∧(M=w)∧(A 0= .slice a l.length c)∧(A 1=bP x)∧(A 5=ak i)∧(l.length - i=I)) _ ⟨0,ab,(fun j C=>by omega),aa,aa,aa,aa,aa⟩ ?_
 rintro I A M ⟨i,hi,E,ae,aj,al,am,rfl⟩
 refine fx 0 aj<|fx 1 al<|fx 5 am ?_
 subst ae
 refine aC fun Y=>ag fun Z=>au (ak i)<|au (.slice a l.length c)<|p (bK ng aa aa)<|p (lt aa aa)<|nl<|Z<|cd aa (fun ah=> ?_) fun ah=> ?_
 refine aO<|Y<|aC fun q=>aM<|ag fun G=>au (.slice a l.length c)<|au (ak i)<|p (ba kb aa aa ab<|aJ.ok (J)<|bS ab)<|p (ld bC aa<|aJ.gL (i:=i) J<|m9 ab)<|au (bP x)<|p (bI aa aa)<|p mv<|gs (t:=18) aa (fun heq=> ?_) fun heq=> ?_
 refine aI aa (aU (bP x) aa)<|aI aa (dj aa aa)<|p (bB aa)<|nl<|G<|cd aa (fun ai=> ?_) fun ai=> ?_
 exact ag fun ac=>ay<|ac<|rt<|br<|tr<|tr<|br<|tr<|aX aa<|⟨by rw [decide_eq_true (show x≠0∧x∈l from ⟨ab,(show l.getD i 0=x by omega) ▸ dV ab⟩)]; rfl,Md.refl _ _⟩
 exact aO<|bn<|q<|rg aa<|au (ak i)<|p (bG ((i+1:Nat):Int) aa aa<|bl ab ab)<|p aB<|nl<|tn<|⟨_,ab,i+1,ab,(fun j C=>by rcases fg j i with h | h <;> first | exact E j h | (rw [show j=i by omega]; omega)),aa,aa,aa,aa,aa⟩
 exact aH aa<|aH aa<|p (bq aa)<|nl<|G<|cf aa<|aO<|bn<|q<|rg aa<|au (ak i)<|p (bG ((i+1:Nat):Int) aa aa<|bl ab ab)<|p aB<|nl<|tn<|⟨_,ab,i+1,ab,(fun j C=>by rcases fg j i with h | h <;> first | exact E j h | (rw [show j=i by omega]; omega)),aa,aa,aa,aa,aa⟩
 exact ext<|bf<|bf<|be<|U<|ag fun q=>p aB<|nl<|q<|rt<|aX aa<|⟨by rw [decide_eq_false (show ¬(x≠0∧x∈l) from fun h=>by obtain ⟨j,C,e⟩:=nM 0 h.2; exact E j ab ⟨e,h.1⟩)]; rfl,Md.refl _ _⟩
theorem WW (B tb fb:Nat) (V:ep) (ve:Value) (F:aT) (xs:List bF) (n:Int) (w:World) (A:gi w B tb fb V ve F xs) (J:eW F xs):
 bo aw 183 (bh [aR tb,.int .i64 n]) w (fun v w'=>v= .bool (nD F n)∧Wk w w'):=by
 obtain ⟨ap,ce,am⟩:=A.Dx
 have aD:=J.len
 refine enter func183 aa ntmps183 aa<|ag fun U=>ay<|U<|aC fun Y=>ag fun I=>p mv<|p (lt aa aa)<|p mv<|gs (t:=8) aa (fun al=> ?_) fun al=> ?_
 exact aH aa<|aH aa<|aH aa<|aH aa<|aH aa<|aH aa<|aH aa<|aH aa<|aH aa<|aH aa<|p (bB aa)<|nl<|I<|ct aa<|ag fun C=>ay<|C<|rt<|tr<|aX aa<|⟨by unfold nD; rw [decide_eq_false (show ¬(0≤n∧n < (F.rules.length:Int)) by omega)]; rfl,Md.refl _ _⟩
 refine aI aa mv<|aI aa mv<|aI aa (nc aa)<|aI aa (fa m6 aa)<|aI aa (ld ib aa<|(a7 A.cells).trans aa)<|aI aa (nc aa)<|aI aa (fa jL aa)<|aI aa (ld j8 aa<|am)<|aI aa (bK tx aa aa)<|aI aa (ge aa aa)<|p (bq aa)<|nl<|I<|cd aa (fun ak=> ?_) fun ak=> ?_
 exact ag fun C=>ay<|C<|rt<|tr<|aX aa<|⟨by unfold nD; rw [decide_eq_false (show ¬(0≤n∧n < (F.rules.length:Int)) by omega)]; rfl,Md.refl _ _⟩
 obtain ⟨k,rfl⟩:∃ k:Nat,n=(k:Int):=⟨n.toNat,ab⟩
 obtain ⟨r,G⟩:∃ r,F.rules[k]? =some r:=⟨_,cD ab⟩
 obtain ⟨aq,ar,a,c,an,M,O,ai⟩:=A.iL G
 obtain ⟨au,ac,av,ax⟩:=vp G
 have aA:=(J.iL G).1
 refine aO<|Y<|aC fun C=> ?_
 have i:(fun w'=>Wk w w') w.drew:=(Md.refl _ _).drew
 refine bM (fun w'=>Wk w w') aa wide i<|aE 0 aa (fun _ _=>mv) i<|aE 1 aa (fun _ _=>nc aa) i<|aE 2 aa (fun _ _=>fa m6 aa) i<|aE 3 aa (fun w' q=>ld ib aa<|Wk.aQ q<|(a7 A.cells).trans aa) i<|aE 4 aa (fun _ _=>nc aa) i<|aE 5 aa (fun _ _=>fa jL aa) i<|aE 6 aa (fun w' q=>ld j8 aa<|Wk.aQ q<|an) i<|aE 7 aa (fun _ _=>mv) i<|aE 8 aa (fun _ _=>ba nE aa aa ab<|aJ.ok (M.wk i)<|nJ O) i<|aE 9 aa (fun _ _=>fa uH aa) i<|aE 10 aa (fun w' q=>ld pc aa<|Wk.aQ q<|fw (f:=jv) (m:=8) (fun _=>rfl) M O 6 az) i<|aE 11 aa (fun _ _=>mv) i<|aE 12 aa (fun _ _=>nc aa) i<|aE 13 aa (fun _ _=>fa m6 aa) i<|aE 14 aa (fun w' q=>ld ib aa<|Wk.aQ q<|(a7 A.cells).trans aa) i<|aE 15 aa (fun _ _=>nc aa) i<|aE 16 aa (fun _ _=>fa sY aa) i<|aE 17 aa (fun _ _=>ke sA aa aa ab) i<|aE 18 aa (fun w' q=>ld bC aa<|Wk.aQ q<|Ii A (k:=0) ab) i<|he 19 aa aj<|cl Fb (IC a c r.next (F.sp.getD 0 0) w.drew (ai.wk i).cM.2 ab) aa fun aF ao ah=> ?_
 obtain ⟨rfl,ae⟩:=ah
 have E:(fun w'=>Wk w w') ao:=i.trans ae
 refine ⟨E,?_⟩
 exact aE 20 aa (fun _ _=>aB) E<|hn aj<|C<|ag fun Z=>p mv<|p (no aa)<|p aB<|nl<|Z<|rt<|aX aa<|⟨by unfold nD; rw [decide_eq_true (show 0≤(k:Int)∧(k:Int) < (F.rules.length:Int) by omega),ac]; rfl,E⟩
theorem W4 (B tb fb:Nat) (V:ep) (ve:Value) (F:aT) (xs:List bF) (n k:Int) (w:World) (C:gi w B tb fb V ve F xs) (A:eW F xs):
 bo aw 64 (bh [aR tb,.int .i64 n,.int .i64 k]) w (fun v w'=>v= .bool (l3 F xs n k)∧Wk w w'):=by
 refine enter func64 aa ntmps64 aa<|ag fun G=>ay<|G<|aC fun I=>ag fun q=>p mv<|p (lt aa aa)<|p mv<|gs (t:=10) aa (fun ac=> ?_) fun ac=> ?_
 exact aH aa<|aH aa<|p (bB aa)<|nl<|q<|ct aa<|ag fun i=>ay<|i<|rt<|tr<|aX aa<|⟨by unfold l3; rw [decide_eq_false (show ¬(0≤k∧k < 5) by omega)]; rfl,Md.refl _ _⟩
 refine aI aa mv<|aI aa (gt aa aa)<|p (bq aa)<|nl<|q<|cd aa (fun Z=> ?_) fun Z=> ?_
 exact ag fun i=>ay<|i<|rt<|tr<|aX aa<|⟨by unfold l3; rw [decide_eq_false (show ¬(0≤k∧k < 5) by omega)]; rfl,Md.refl _ _⟩
 obtain ⟨k,rfl⟩:∃ m:Nat,k=(m:Int):=⟨k.toNat,ab⟩
 refine aO<|I<|ag fun i=>p mv<|p mv<|e<|cl AN (C0 B tb fb V ve F xs n w C A) aa fun ah ae O=> ?_
 obtain ⟨⟨a,c,rfl,Y⟩,hE16⟩:=O
 have E:=C.wk hE16
 refine ay<|i<|ag fun J=>p mv<|p mv<|p (nc aa)<|p (fa m6 aa)<|p (ld ib aa<|(a7 E.cells).trans aa)<|p mv<|p (nc aa)<|p (fa sY aa)<|p (ke sA aa aa ab)<|p (ld bC aa<|Ii E ab)<|e<|cl Fb (IC a c (flagsOf xs n) (F.sp.getD k 0) ae Y.cM.2<|by have :=(nT A n).1; omega) aa fun ai aj U=> ?_
 obtain ⟨rfl,M⟩:=U
 exact ay<|J<|rt<|aX aa<|⟨by unfold l3 rA; rw [decide_eq_true (show 0≤((k:Nat):Int)∧((k:Nat):Int) < 5 by omega),mM]; rfl,hE16.trans M⟩
theorem C2 (B tb fb:Nat) (V:ep) (ve:Value) (F:aT) (xs:List bF) (fs:List Nat) (a:Option Addr) (c kd:Nat) (w:World) (ac:gi w B tb fb V ve F xs) (bc:eW F xs) (av:aJ w.heap a (fs.map bP)) (b8:fs.length≤64) (br:fs.Pairwise (· < ·)):
 bo aw 120 (bh [aR tb,.slice a fs.length c,ak kd]) w (fun v w'=>bu w' w.heap.size 3 1 v (aV F fs kd).length ((aV F fs kd).map bP)∧Wk w w'):=by
 have ch:=bc.len
 obtain ⟨ar,cr,bV⟩:=ac.Dx
 refine enter func120 aa ntmps120 aa<|ag fun a0=>ay<|a0<|ag fun a3=>p aB<|nl<|a3<|aC fun a4=>ag fun a5=>ay<|a5<|aM<|lp (fun U O ah=> ∃ (i:Nat) (v:Value),(i≤F.rules.length)∧(bu ah w.heap.size 3 1 v (my F fs kd i).length<|(my F fs kd i).map bP)∧(Wk w ah)∧(O 0=aR tb)∧(O 1= .slice a fs.length c)∧(O 2=ak kd)∧(O 7=v)∧(O 8=ak i)∧(F.rules.length - i=U)) _ ⟨0,.slice none 0 0,ab,(dx _ _ _ _),(Md.refl _ _),aa,aa,aa,aa,aa,aa⟩ ?_
 rintro U O ah ⟨i,v,hi,aP,J,bv,bw,bx,bz,bA,rfl⟩
 refine fx 0 bv<|fx 1 bw<|fx 2 bx<|fx 7 bz<|fx 8 bA<|aC fun a6=>ag fun a8=>au (ak i)<|au (aR tb)<|p (nc aa)<|p (fa m6 aa)<|p (ld ib aa<|(a7 (ac.wk J).cells).trans aa)<|p (nc aa)<|p (fa jL aa)<|p (ld j8 aa<|Wk.aQ J bV)<|p (bK tx aa aa)<|p (lt aa aa)<|nl<|a8<|cd aa (fun bp=> ?_) fun bp=> ?_
 obtain ⟨r,aY⟩:∃ r,F.rules[i]? =some r:=⟨_,cD ab⟩
 obtain ⟨bY,b0,ae,rc,bU,ax,aS,b4⟩:=(ac.wk J).iL aY
 obtain ⟨b1,b2,b3,aq⟩:=vp aY
 have cb:=VD F fs kd i
 have ce:((r,bR ae r.next.length rc):dd×Value).1.flag=r.flag:=rfl
 have cg:((r,bR ae r.next.length rc):dd×Value).1.kind=r.kind:=rfl
 refine aO<|a6<|aC fun Z=>aM<|ag fun a9=>au (aR tb)<|p (nc aa)<|p (fa m6 aa)<|p (ld ib aa<|(a7 (ac.wk J).cells).trans aa)<|p (nc aa)<|p (fa jL aa)<|p (ld j8 aa<|bU)<|au (ak i)<|p (ba nE aa aa ab<|aJ.ok (ax)<|nJ aS)<|p (c8 qZ aa (aa)<|fw (f:=jv) (m:=8) (fun _=>rfl) ax aS)<|e<|fi DG fun ai cn b6 aK bi=> ?_
 have cl:=aK.size
 refine e<|fZ AY aa aa aa aa bi (by show 8≤8; omega) fun aZ aD bd=> ?_
 have aA:Wk ah aZ:=aK.md.trans' aD fun q cc h=>by omega
 have ci:=aD.size
 have bk:aZ.heap[ai]? =some (.cells (jv (r,.slice ae r.next.length rc)).toArray 174 (0,0)):=bd
 have bs:=aW aP aA
 refine nl<|a9<|ag fun bb=>ay<|bb<|aM<|lp (fun U E C=> ∃ (k:Nat) (v2:Value),(k≤fs.length)∧(bu C w.heap.size 3 1 v2 (my F fs kd i++na r fs kd i k).length<|(my F fs kd i++na r fs kd i k).map bP)∧((my F fs kd i++na r fs kd i k).length≤i+k)∧(C.heap[ai]? =some (.cells (jv (r,.slice ae r.next.length rc)).toArray 174 (0,0)))∧(Wk w C)∧(E 0=aR tb)∧(E 1= .slice a fs.length c)∧(E 2=ak kd)∧(E 7=v2)∧(E 8=ak i)∧(E 9=aR ai)∧(E 10=ak k)∧(fs.length - k=U)) _ ⟨0,v,ab,(by rw [Jw,ek]; exact bs),(by rw [Jw,ek]; omega),bk,(J.trans aA),aa,aa,aa,aa,aa,aa,aa,aa⟩ ?_
 rintro U E C ⟨k,v2,b9,M,ca,Y,I,bD,bE,bN,bO,bQ,bT,bJ,rfl⟩
 refine fx 0 bD<|fx 1 bE<|fx 2 bN<|fx 7 bO<|fx 8 bQ<|fx 9 bT<|fx 10 bJ<|aC fun a1=>ag fun an=>au (ak k)<|au (.slice a fs.length c)<|p (bK ng aa aa)<|p (lt aa aa)<|p mv<|gs (t:=37) aa (fun hk=> ?_) fun hk=> ?_
 refine aI aa (fa uG aa)<|aI aa (ld bC aa<|(a7 Y).trans aa)<|aI aa (aU (ak kd) aa)<|aI aa (bI aa aa)<|p (bB aa)<|nl<|an<|cd aa (fun aL=> ?_) fun aL=> ?_
 refine aO<|a1<|aC fun ao=>aM<|aC fun a2=> ?_
 have A:(fun w'=>Wk C w') C.drew:=(Md.refl _ _).drew
 refine bM (fun w'=>Wk C w') aa wide A<|bH 0 aa (.slice a fs.length c) A<|bH 1 aa (ak k) A<|aE 2 aa (fun _ _=>ba kb aa aa ab<|aJ.ok (av.wk<|I.trans A)<|bS ab) A<|aE 3 aa (fun w' al=>ld bC aa<|Wk.aQ al<|aJ.gL (i:=k) (av.wk I)<|m9 ab) A<|aE 4 aa (fun _ _=>fa S7 aa) A<|aE 5 aa (fun w' al=>ld bC aa<|Wk.aQ al<|(a7 Y).trans aa) A<|aE 6 aa (fun _ _=>bI aa aa) A<|hn aj<|a2<|cd aa (fun am=> ?_) fun am=> ?_
 have aN:=VM (kd:=kd) (i:=i) br (show k < fs.length by omega) (show fs.getD k 0=r.flag by omega) (show r.kind=kd by omega)
 refine rg aa<|au (v2)<|au (ak i)<|e<|fU nd aa aa fun bZ bX b5 aG bg=> ?_
 have cj:=aG.size
 have G:Wk C bX:=A.trans aG.md
 refine e<|ap nd (aW M G) aa (by have :=I.size; have :=G.size; omega) aa (aJ.dZ bg) (aa) (aa) ab ab fun bW cm bt aF ck b7=> ?_
 have bj:=Wk.own (I.trans G) (aW M G) aF<|cB _
 have bm:=aF.aM (G.aM Y) fun h=>dE (aW M G) (G.aM Y) az h
 exact p aB<|nl<|bn<|ao<|rg aa<|au (ak k)<|p (bG ((k+1:Nat):Int) aa aa<|bl ab ab)<|p aB<|nl<|tn<|⟨_,ab,k+1,bW,ab,(by rw [aN,← dF,List.map_append,bL]; exact bt),(by rewrite [aN,← dF,bL]; simp only [e5]; omega),bm,bj,aa,aa,aa,aa,aa,aa,aa,aa⟩
 exact aO<|bn<|ao<|rg aa<|au (ak k)<|p (bG ((k+1:Nat):Int) aa aa<|bl ab ab)<|p aB<|nl<|tn<|⟨_,ab,k+1,v2,ab,(by rw [Jv (show k < fs.length by omega) (fun h=>am ab)]; exact aW M A),(by rewrite [Jv (show k < fs.length by omega) (fun h=>am ab)]; omega),(A.aM Y),(I.trans A),aa,aa,aa,aa,aa,aa,aa,aa⟩
 exact ext<|bf<|bf<|be<|bn<|Z<|rg aa<|au (ak i)<|p (bG ((i+1:Nat):Int) aa aa<|bl ab ab)<|p aB<|nl<|tn<|⟨_,ab,i+1,v2,ab,(by rw [← Ju (r:=r) aq (.inr fun h=>aL ab)]; exact M),I,aa,aa,aa,aa,aa,aa⟩
 exact aH aa<|aH aa<|aH aa<|aH aa<|p (bq aa)<|nl<|an<|cf aa<|ext<|bf<|bf<|be<|bn<|Z<|rg aa<|au (ak i)<|p (bG ((i+1:Nat):Int) aa aa<|bl ab ab)<|p aB<|nl<|tn<|⟨_,ab,i+1,v2,ab,(by rw [← Ju (r:=r) aq (.inl (show k=fs.length by omega))]; exact M),I,aa,aa,aa,aa,aa,aa⟩
 refine ext<|bf<|bf<|be<|a4<|ag fun Z=>au (v)<|p (cO (v) aa)<|nl<|Z<|rt<|aX aa ?_
 have hn:my F fs kd i=aV F fs kd:=by rw [show i=F.rules.length by omega]; rfl
 rw [← hn]
 exact ⟨aP,J⟩
theorem Xf (B tb fb:Nat) (V:ep) (ve:Value) (F:aT) (xs:List bF) (n:Int) (w:World) (q:gi w B tb fb V ve F xs) (i:eW F xs):
 bo aw 76 (bh [aR tb,.int .i64 n]) w (fun v w'=>bu w' w.heap.size 3 1 v (aV F (flagsOf xs n) 2).length ((aV F (flagsOf xs n) 2).map bP)∧Wk w w'):=by
 refine enter func76 aa ntmps76 aa<|ag fun A=>ay<|A<|ag fun C=>au (aR tb)<|au (.int .i64 n)<|e<|cl AN (C0 B tb fb V ve F xs n w q i) aa fun Z U J=> ?_
 obtain ⟨⟨a,c,rfl,M⟩,hE8⟩:=J
 have Y:=hE8.size
 refine ay<|C<|ag fun E=>au (aR tb)<|p mv<|e<|cl Ag (C2 B tb fb V ve F xs (flagsOf xs n) a c 2 U (q.wk hE8) i M.cM.2 (nT i n).1 (nT i n).2.1) aa fun v11 ac I=> ?_
 obtain ⟨O,G⟩:=I
 exact ay<|E<|rt<|aX aa<|⟨ew O ab,hE8.trans G⟩
theorem Xb (B tb fb:Nat) (V:ep) (ve:Value) (F:aT) (xs:List bF) (n:Int) (w:World) (q:gi w B tb fb V ve F xs) (i:eW F xs):
 bo aw 74 (bh [aR tb,.int .i64 n]) w (fun v w'=>bu w' w.heap.size 3 1 v (aV F (flagsOf xs n) 1).length ((aV F (flagsOf xs n) 1).map bP)∧Wk w w'):=by
 refine enter func74 aa ntmps74 aa<|ag fun A=>ay<|A<|ag fun C=>au (aR tb)<|au (.int .i64 n)<|e<|cl AN (C0 B tb fb V ve F xs n w q i) aa fun Z U J=> ?_
 obtain ⟨⟨a,c,rfl,M⟩,hE8⟩:=J
 have Y:=hE8.size
 refine ay<|C<|ag fun E=>au (aR tb)<|p mv<|e<|cl Ag (C2 B tb fb V ve F xs (flagsOf xs n) a c 1 U (q.wk hE8) i M.cM.2 (nT i n).1 (nT i n).2.1) aa fun v11 ac I=> ?_
 obtain ⟨O,G⟩:=I
 exact ay<|E<|rt<|aX aa<|⟨ew O ab,hE8.trans G⟩
theorem Xe (B tb fb:Nat) (V:ep) (ve:Value) (F:aT) (xs:List bF) (n:Int) (w:World) (q:gi w B tb fb V ve F xs) (i:eW F xs):
 bo aw 78 (bh [aR tb,.int .i64 n]) w (fun v w'=>bu w' w.heap.size 3 1 v (aV F (cW F n) 2).length ((aV F (cW F n) 2).map bP)∧Wk w w'):=by
 refine enter func78 aa ntmps78 aa<|ag fun A=>ay<|A<|ag fun C=>au (aR tb)<|au (.int .i64 n)<|e<|cl OG (W7 B tb fb V ve F xs n w q i) aa fun Z U J=> ?_
 obtain ⟨⟨a,c,rfl,M⟩,hE8⟩:=J
 have Y:=hE8.size
 refine ay<|C<|ag fun E=>au (aR tb)<|p mv<|e<|cl Ag (C2 B tb fb V ve F xs (cW F n) a c 2 U (q.wk hE8) i M.cM.2 (tv i n).1 (tv i n).2.1) aa fun v11 ac I=> ?_
 obtain ⟨O,G⟩:=I
 exact ay<|E<|rt<|aX aa<|⟨ew O ab,hE8.trans G⟩
end Go.Hb
section
namespace Go.Hb
open Go.Hb.od
theorem KZ {ps:List Tx} {w:Tx} {i:Nat} (hi:i < ps.length) (h:cE (ps.getD i []) (w.getD i 0)=false):nS ps w=false :=by
 unfold nS
 rw [Bool.and_eq_false_iff]
 refine .inr ?_
 rw [List.all_eq_false]
 exact ⟨i,by simpa using hi,by rw [h]; exact ei⟩
theorem La {ps:List Tx} {w:Tx} (a:ps.length≤w.length) (h:∀ i,i < ps.length→cE (ps.getD i []) (w.getD i 0)=true):nS ps w=true :=by
 unfold nS
 rw [gU,decide_eq_true a,List.all_eq_true]
 exact ⟨aa,fun i hi=>h i<|by simpa using hi⟩
theorem K0 {ps:List Tx} {w:Tx} (h:w.length < ps.length):nS ps w=false :=by
 unfold nS; rw [decide_eq_false ab]; rfl
theorem TX (s pr:List UInt8) (w:World) (hs:s.length≤1099511627776) (hp:pr.length≤1099511627776):
 bo aw 147 (bh [str s,str pr]) w (fun v w'=>v= .bool (decide (s.take pr.length=pr))∧Wk w w'):=by
 refine enter func147 aa ntmps147 aa<|ag fun a=>ay<|a<|ag fun i=>au (str s)<|au (str pr)<|e<|cl Aw (Ca s pr _ hs hp) aa fun C E A=> ?_
 obtain ⟨rfl,q⟩:=A
 exact ay<|i<|rt<|aX aa<|⟨aa,q⟩
theorem TY (s pr:List UInt8) (w:World) (hs:s.length≤1099511627776) (hp:pr.length≤1099511627776):
 bo aw 145 (bh [str s,str pr]) w (fun v w'=>v= .bool (decide (pr.length≤s.length∧s.drop (s.length - pr.length)=pr))∧Wk w w'):=by
 refine enter func145 aa ntmps145 aa<|ag fun a=>ay<|a<|ag fun i=>au (str s)<|au (str pr)<|e<|cl Av (Cb s pr _ hs hp) aa fun C E A=> ?_
 obtain ⟨rfl,q⟩:=A
 exact ay<|i<|rt<|aX aa<|⟨aa,q⟩
theorem Wd (ps:List Tx) (a:Option Addr) (c:Nat) (i:Nat) (b:UInt8) (w:World) (C:aJ w.heap a (k6 ps)) (hi:i < ps.length) (ac:ps.length≤4096):
 bo aw 212 (bh [.agg [.slice a ps.length c].toArray,ak i,.int .u8 b.toNat]) w (fun v w'=>v= .bool (cE (ps.getD i []) b)∧Wk w w'):=by
 refine enter func212 aa ntmps212 aa<|ag fun G=>e<|iY aa fun J E V q M=> ?_
 have A:bO E.heap J [.slice a ps.length c]:=M
 refine ay<|G<|ag fun I=>au (ak i)<|p (ge aa aa)<|p mv<|gs (t:=9) aa (fun Z=> ?_) fun h=>absurd ab h
 refine aI aa (aU (ak i) aa)<|aI aa (fa mq aa)<|aI aa (ld nw aa<|A.bE 0)<|aI aa (bK qJ aa aa)<|aI aa (lt aa aa)<|p (bB aa)<|p mv<|gs (t:=16) aa (fun Y=> ?_) fun h=>absurd ab h
 refine aI aa (fa mq aa)<|aI aa (ld nw aa<|A.bE 0)<|aI aa (aU (ak i) aa)<|aI aa (ba G5 aa aa ab<|aJ.ok (C.wk q.md)<|Gb ab)<|aI aa (c8 kJ aa (aa)<|Ga (C.wk q.md) hi)<|aI aa (aU (.int .u8 b.toNat) aa)<|eg aa aa aa<|cl Ay (Iq (cE<|ps.getD i []) b E) aa fun ae ah U=> ?_
 obtain ⟨rfl,O⟩:=U
 exact p (bB aa)<|ay<|I<|rt<|aX aa<|⟨aa,q.md.trans O⟩
theorem JV (ps:List Tx) (a:Option Addr) (c:Nat) (s:Tx) (w:World) (ax:aJ w.heap a (k6 ps)) (aG:ps.length≤4096):
 bo aw 148 (bh [.agg [.slice a ps.length c].toArray,str s]) w (fun v w'=>v= .bool (nS ps s)∧Wk w w'):=by
 refine enter func148 aa ntmps148 aa<|ag fun ah=>e<|iY aa fun V ae aP G av=> ?_
 have M:bO ae.heap V [.slice a ps.length c]:=av
 refine ay<|ah<|aC fun am=>ag fun an=>au (str s)<|p (cy u9 aa aa)<|p (fa mq aa)<|p (ld nw aa<|M.bE 0)<|p (bK qJ aa aa)<|p (lt aa aa)<|nl<|an<|cd aa (fun aD=> ?_) fun aD=> ?_
 exact ag fun I=>ay<|I<|rt<|tr<|aX aa<|⟨by rw [K0 ab]; rfl,G.md⟩
 refine aO<|am<|aC fun I=>ag fun ao=>p (fa mq aa)<|p (ld nw aa<|M.bE 0)<|p (bK qJ aa aa)<|p mv<|nl<|ao<|aM<|lp (fun Y E A=> ∃ (i:Nat),(i≤ps.length)∧(∀ k,k < i→cE (ps.getD k []) (s.getD k 0)=true)∧(Wk ae A)∧(E 1=str s)∧(E 2=aR V)∧(E 14=ak (ps.length))∧(E 15=ak i)∧(ps.length - i=Y)) _ ⟨0,ab,(fun k hk=>absurd hk<|Nt _),(Md.refl _ _),aa,aa,aa,aa,aa⟩ ?_
 rintro Y E A ⟨i,hi,ac,C,aH,aL,aI,aK,rfl⟩
 refine fx 1 aH<|fx 2 aL<|fx 14 aI<|fx 15 aK<|ag fun ap=>p (lt aa aa)<|nl<|ap<|aC fun aq=>cd aa (fun aF=> ?_) fun aF=> ?_
 refine aO<|aq<|aC fun J=>aM<|ag fun ar=>au (ak i)<|p (cO (ak i) aa)<|nl<|ar<|aC fun ai=> ?_
 have q:(fun w'=>Wk A w') A.drew:=(Md.refl _ _).drew
 refine bM (fun w'=>Wk A w') aa wide q<|aE 0 aa (fun w' aA=>c8 mS aa (aa) fun j aQ=>(Wk.B aA<|Wk.B C M).bE j) q<|bH 1 aa (ak i) q<|bH 2 aa (str s) q<|bH 3 aa (ak i) q<|aE 4 aa (fun _ _=>eQ u9 aa aa ab) q<|he 5 aa aj<|cl Pc (Wd ps a c i (s.getD i 0) A.drew (ax.wk<|G.md.trans<|C.trans q) ab aG) aa fun aS aN az=> ?_
 obtain ⟨rfl,O⟩:=az
 have Z:(fun w'=>Wk A w') aN:=q.trans O
 refine ⟨Z,?_⟩
 refine aE 6 aa (fun _ _=>no aa) Z<|hn aj<|ai<|cb aa (fun U=> ?_) fun U=> ?_
 exact ag fun al=>ay<|al<|rt<|br<|tr<|tr<|br<|tr<|aX aa<|⟨by rw [KZ (i:=i) ab (by simpa using U)]; rfl,G.md.trans<|C.trans<|q.trans O⟩
 exact aO<|bn<|J<|rg aa<|p (ad aa aa<|bX ab)<|p mv<|nl<|tn<|⟨_,ab,i+1,ab,(fun k hk=>by rcases Ns.1 hk with h | rfl; exact ac k h; simpa using U),(C.trans<|q.trans O),aa,aa,aa,aa,aa⟩
 exact ext<|bf<|bf<|be<|I<|ag fun J=>p aB<|nl<|J<|rt<|aX aa<|⟨by rw [La ab (fun k hk=>ac k ab)]; rfl,G.md.trans C⟩
section
variable {r:dd} {s:Tx}
theorem Hp (h:(di r.cond).2≠0):iF r s=false :=by unfold iF; rw [decide_eq_false (fun h2=>h h2.1)]; rfl
theorem Hq (h:s.length≤r.strip.length):iF r s=false :=by unfold iF; rw [decide_eq_false (fun h2=>by omega)]; rfl
variable (h:(di r.cond).2=0) (h1:r.strip.length < s.length)
include h h1
theorem xL (hk:r.kind=2):iF r s=(decide (s.drop (s.length - r.strip.length)=r.strip) && ql (di r.cond).1 s):=by unfold iF; rw [decide_eq_true ⟨h,h1⟩,if_pos hk]; rfl
theorem xJ (hk:r.kind=1):iF r s=(decide (s.take r.strip.length=r.strip) && nS (di r.cond).1 s):=by unfold iF; rw [decide_eq_true ⟨h,h1⟩,if_neg ab,if_pos hk]; rfl
omit h h1 in
theorem Ho (hk:r.kind≠1) (a:r.kind≠2):iF r s=false :=by unfold iF; rw [if_neg a,if_neg hk,vL]
end
theorem Wm (ps:List Tx) (a:Option Addr) (c:Nat) (s:Tx) (w:World) (U:aJ w.heap a (k6 ps)) (ac:ps.length≤4096) (ak:s.length≤1048576):
 bo aw 146 (bh [.agg [.slice a ps.length c].toArray,str s]) w (fun v w'=>v= .bool (ql ps s)∧Wk w w'):=by
 refine enter func146 aa ntmps146 aa<|ag fun J=>e<|iY aa fun M q ah G O=> ?_
 have E:bO q.heap M [.slice a ps.length c]:=O
 refine ay<|J<|aC fun I=> ?_
 have i:(fun w'=>Wk q w') q.drew:=(Md.refl _ _).drew
 refine bM (fun w'=>Wk q w') aa wide i<|bH 0 aa (str s) i<|aE 1 aa (fun _ _=>cy u9 aa aa) i<|aE 2 aa (fun _ _=>fa mq aa) i<|aE 3 aa (fun w' A=>ld nw aa<|Wk.aQ A<|E.bE 0) i<|aE 4 aa (fun _ _=>bK qJ aa aa) i<|aE 5 aa (fun _ _=>ge aa aa) i<|aE 6 aa (fun _ _=>mv) i<|iH (t:=11) aa (fun Z=> ?_) fun Z=> ?_
 refine bj 7 aa (fun w' A=>c8 mS aa (aa) fun j ai=>(Wk.B A E).bE j) i<|bj 8 aa (fun _ _=>aU (str s) aa) i<|bj 9 aa (fun _ _=>aU (str s) aa) i<|bj 10 aa (fun _ _=>cy u9 aa aa) i<|bj 11 aa (fun _ _=>fa mq aa) i<|bj 12 aa (fun w' A=>ld nw aa<|Wk.aQ A<|E.bE 0) i<|bj 13 aa (fun _ _=>bK qJ aa aa) i<|bj 14 aa (fun _ _=>dN ((s.length - ps.length:Nat):Int) aa aa<|bl ab ab) i<|bj 15 aa (fun _ _=>l7 u9 aa aa ab) i<|lY 16 aa aj aa aa aa<|cl Fo (JV ps a c (s.drop<|s.length - ps.length) q.drew (U.wk<|G.md.trans i) ac) aa fun v21 ae Y=> ?_
 obtain ⟨rfl,V⟩:=Y
 have C:(fun w'=>Wk q w') ae:=i.trans V
 refine ⟨C,?_⟩
 exact aE 17 aa (fun _ _=>bB aa) C<|aE 18 aa (fun _ _=>aB) C<|hn aj<|I<|rt<|aX aa<|⟨by unfold ql; rw [decide_eq_true (show ps.length≤s.length by omega)]; rfl,G.md.trans C⟩
 exact a6 7 aa i<|a6 8 aa i<|a6 9 aa i<|a6 10 aa i<|a6 11 aa i<|a6 12 aa i<|a6 13 aa i<|a6 14 aa i<|a6 15 aa i<|a6 16 aa i<|aE 17 aa (fun _ _=>bq aa) i<|aE 18 aa (fun _ _=>aB) i<|hn aj<|I<|rt<|aX aa<|⟨by unfold ql; rw [decide_eq_false (show ¬ps.length≤s.length by omega)]; rfl,G.md.trans i⟩
theorem SW (r:dd) (u:Value) (s:Tx) (w:World) (ba:r.strip.length≤1048576) (a5:r.add.length≤1048576) (aT:r.cond.length≤1048576) (aW:s.length≤1048576):
 bo aw 94 (bh [.agg (fz (r,u)).toArray,str s]) w (fun v w'=>v= .bool (iF r s)∧Wk w w'):=by
 refine enter func94 aa ntmps94 aa<|ag fun an=>e<|iY aa fun av am a1 ai aA=> ?_
 have a9:((r,u):dd×Value).1.strip.length=r.strip.length:=rfl
 have a7:((r,u):dd×Value).1.kind=r.kind:=rfl
 have a6:((r,u):dd×Value).1.add.length=r.add.length:=rfl
 have Z:bO am.heap av (fz (r,u)):=aA
 refine ay<|an<|ag fun ao=>p (fa HT aa)<|p (ld bU aa<|Z.bE 5)<|e<|cl Fl (Gm r.cond am aT) aa fun v10 aY aG=> ?_
 obtain ⟨⟨ac,rfl,ak⟩,hE10⟩:=aG
 obtain ⟨a,c,rfl⟩:=cC ak
 have ah:=(a8 ak).2
 have a3:=Gk r.cond
 have bc:=ai.size
 have bb:=hE10.size
 refine p mv<|p (xt aa aa)<|p (xt aa aa)<|e<|al zg fun ax bl a2 aj aB=> ?_
 have bd:=aj.size
 refine e<|da qj aa aa aa aa (aB) (by simp) fun O aF az=> ?_
 have I:Wk aY O:=aj.md.trans' aF fun q a4 h=>by omega
 have ae:bO O.heap ax [.slice a (di r.cond).1.length c]:=az
 have G:=Wk.B (hE10.trans I) Z
 have i:=ai.md.trans<|hE10.trans I
 refine ay<|ao<|aC fun ap=>ag fun Y=>p mv<|p (dj aa aa)<|p mv<|gs (t:=15) aa (fun aP=> ?_) fun aP=> ?_
 refine aH aa<|aH aa<|aH aa<|aH aa<|aH aa<|aH aa<|p (bB aa)<|nl<|Y<|ct aa<|ag fun A=>ay<|A<|rt ?_
 exact tr<|aX aa<|⟨by rw [Hp ab]; rfl,i⟩
 refine aI aa (aU (str s) aa)<|aI aa (cy u9 aa aa)<|aI aa (fa s9 aa)<|aI aa (ld bU aa<|G.bE 3)<|aI aa (cy u9 aa aa)<|aI aa (le aa aa)<|p (bq aa)<|nl<|Y<|cd aa (fun aV=> ?_) fun aV=> ?_
 exact ag fun A=>ay<|A<|rt<|tr<|aX aa<|⟨by rw [Hq ab]; rfl,i⟩
 refine aO<|ap<|aC fun A=>ag fun aq=>p (fa HS aa)<|p (ld bC aa<|G.bE 0)<|nl<|aq<|aM<|ag fun ar=>p (bI aa aa)<|ay<|ar ?_
 refine cd aa (fun aS=> ?_) fun aS=> ?_
 refine ag fun C=>au (str s)<|p (fa s9 aa)<|p (ld bU aa<|G.bE 3)<|e<|cl OQ (TY s r.strip O ab ab) aa fun v30 aZ aJ=> ?_
 obtain ⟨rfl,J⟩:=aJ
 refine p mv<|gb (t:=31) aa (fun V=> ?_) fun V=> ?_
 refine aI aa (c8 mS aa (aa) fun j aQ=>(Wk.B J ae).bE j)<|aI aa (aU (str s) aa)<|eg aa aa aa<|cl OR (Wm (di r.cond).1 a c s aZ (ah.wk<|I.trans J) ab aW) aa fun bf bj aK=> ?_
 obtain ⟨rfl,aD⟩:=aK
 exact p (bB aa)<|ay<|C<|rt<|br<|tr<|aX aa<|⟨by rw [xL ab ab ab,decide_eq_true (of_decide_eq_true V).2]; rfl,i.trans<|J.trans aD⟩
 exact aH aa<|aH aa<|aH aa<|p (bq aa)<|ay<|C<|rt<|br<|tr<|aX aa<|⟨by rw [xL ab ab ab,decide_eq_false (fun h=>of_decide_eq_false V ⟨ab,h⟩)]; rfl,i.trans J⟩
 refine ag fun C=>p (bI aa aa)<|ay<|C<|cd aa (fun aR=> ?_) fun aR=> ?_
 refine ag fun E=>au (str s)<|p (fa s9 aa)<|p (ld bU aa<|G.bE 3)<|e<|cl OS (TX s r.strip O ab ab) aa fun bg a0 aL=> ?_
 obtain ⟨rfl,M⟩:=aL
 refine p mv<|gb (t:=42) aa (fun U=> ?_) fun U=> ?_
 refine aI aa (c8 mS aa (aa) fun j aQ=>(Wk.B M ae).bE j)<|aI aa (aU (str s) aa)<|eg aa aa aa<|cl Fo (JV (di r.cond).1 a c s a0 (ah.wk<|I.trans M) ab) aa fun bi bk aN=> ?_
 obtain ⟨rfl,aE⟩:=aN
 exact p (bB aa)<|ay<|E<|rt<|br<|tr<|aX aa<|⟨by rw [xJ ab ab ab,U]; rfl,i.trans<|M.trans aE⟩
 exact aH aa<|aH aa<|aH aa<|p (bq aa)<|ay<|E<|rt<|br<|tr<|aX aa<|⟨by rw [xJ ab ab ab,U]; rfl,i.trans M⟩
 exact aO<|bn<|A<|ag fun E=>ay<|E<|rt<|aX aa<|⟨by rw [Ho ab ab]; rfl,i⟩
def qH (s p:Tx):Tx:=if p.length≤s.length∧s.drop (s.length - p.length)=p then s.take (s.length - p.length) else s
theorem EV {r:dd} {s:Tx} (h:iF r s=false):dC r s=none:=if_neg<|by rw [h]; exact ei
theorem xK {r:dd} {s:Tx} (h:iF r s=true):r.strip.length < s.length∧(r.kind=2→s.drop (s.length - r.strip.length)=r.strip)∧(r.kind≠2→s.take r.strip.length=r.strip):=by
 unfold iF at h
 rw [gU,decide_eq_true_eq] at h
 refine ⟨h.1.2,fun hk=> ?_,fun hk=> ?_⟩
 · have h2:=h.2; rw [if_pos hk,gU] at h2; exact of_decide_eq_true h2.1
 · have h2:=h.2; rw [if_neg hk] at h2
   split at h2
   · rw [gU] at h2; exact of_decide_eq_true h2.1
   · cases h2
theorem Oa {r:dd} {s:Tx} (h:iF r s=true) (hk:r.kind=2):dC r s=some (qH s r.strip++r.add):=by
 have h1:=xK h
 unfold dC qH; rw [if_pos h,if_pos hk,if_pos ⟨ab,h1.2.1 hk⟩]
theorem N8 {r:dd} {s:Tx} (h:iF r s=true) (hk:r.kind≠2):dC r s=some (r.add++gy s r.strip):=by
 have h1:=xK h
 unfold dC gy; rw [if_pos h,if_neg hk,if_pos (h1.2.2 hk)]
theorem Ob {r:dd} {s:Tx} (h:iF r s=true) (hk:r.kind=2):dC r s=some (s.take (s.length - r.strip.length)++r.add):=by
 unfold dC; rw [if_pos h,if_pos hk]
theorem N9 {r:dd} {s:Tx} (h:iF r s=true) (hk:r.kind≠2):dC r s=some (r.add++s.drop r.strip.length):=by
 unfold dC; rw [if_pos h,if_neg hk]
def JF (x:Option Tx):Value:= .tuple #[str (x.getD []),.bool x.isSome]
theorem Yv (s pr:List UInt8) (w:World) (hs:s.length≤1099511627776) (hp:pr.length≤1099511627776):
 bo aw 149 (bh [str s,str pr]) w (fun v w'=>v=str (qH s pr)∧Wk w w'):=by
 refine enter func149 aa ntmps149 aa<|ag fun C=>ay<|C<|aC fun E=>ag fun G=>au (str s)<|au (str pr)<|e<|cl Av (Cb s pr _ hs hp) aa fun J M I=> ?_
 obtain ⟨rfl,A⟩:=I
 refine nl<|G<|cb aa (fun i=> ?_) fun i=> ?_
 have q:=of_decide_eq_true i
 exact ag fun a=>au (str s)<|au (str s)<|p (cy u9 aa aa)<|au (str pr)<|p (cy u9 aa aa)<|p (dN ((s.length - pr.length:Nat):Int) aa aa<|bl ab ab)<|p (rM u9 aa aa ab)<|ay<|a<|rt<|tr<|aX aa<|⟨by show str (s.take (((s.length - pr.length:Nat):Int)).toNat)=_; unfold qH; rw [if_pos q]; rfl,A⟩
 have q:=of_decide_eq_false i
 exact aO<|E<|ag fun a=>au (str s)<|p (cO (str s) aa)<|nl<|a<|rt<|aX aa<|⟨by show str s=_; unfold qH; rw [if_neg q],A⟩
theorem Yw (s pr:List UInt8) (w:World) (hs:s.length≤1099511627776) (hp:pr.length≤1099511627776):
 bo aw 95 (bh [str s,str pr]) w (fun v w'=>v=str (qH s pr)∧Wk w w'):=by
 refine enter func95 aa ntmps95 aa<|ag fun a=>ay<|a<|ag fun i=>au (str s)<|au (str pr)<|e<|cl Fp (Yv s pr _ hs hp) aa fun C E A=> ?_
 obtain ⟨rfl,q⟩:=A
 exact ay<|i<|rt<|aX aa<|⟨aa,q⟩
theorem z1 (r:dd) (u:Value) (s:Tx) (w:World) (az:r.strip.length≤1048576) (av:r.add.length≤1048576) (ax:r.cond.length≤1048576) (aA:s.length≤1048576):
 bo aw 59 (bh [.agg (fz (r,u)).toArray,str s]) w (fun v w'=>v=JF (dC r s)∧Wk w w'):=by
 refine enter func59 aa ntmps59 aa<|ag fun ac=>e<|iY aa fun ak Z aG ao al=> ?_
 have aL:((r,u):dd×Value).1.strip.length=r.strip.length:=rfl
 have aK:((r,u):dd×Value).1.kind=r.kind:=rfl
 have aJ:((r,u):dd×Value).1.add.length=r.add.length:=rfl
 have V:bO Z.heap ak (fz (r,u)):=al
 refine p aB<|ay<|ac<|aC fun ae=>ag fun ah=>p (c8 mU aa (aa) fun j aI=>V.bE j)<|au (str s)<|e<|cl Ql (SW r u s Z az av ax aA) aa fun aP a ar=> ?_
 obtain ⟨rfl,Y⟩:=ar
 have G:=Wk.B Y V
 have O:=ao.md.trans Y
 refine p (no aa)<|nl<|ah<|cb aa (fun U=> ?_) fun U=> ?_
 have I:iF r s=false :=by simpa using U
 exact ag fun J=>p aB<|ay<|J<|rt<|tr<|f2 aa aa aa<|⟨by rw [EV I]; rfl,O⟩
 have I:iF r s=true :=by simpa using U
 have aH:=(xK I).1
 refine aO<|ae<|aC fun J=>ag fun ai=>p (fa HS aa)<|p (ld bC aa<|G.bE 0)<|p (bI aa aa)<|nl<|ai<|cd aa (fun hk=> ?_) fun hk=> ?_
 refine aC fun M=> ?_
 have q:(fun w'=>Wk a w') a.drew:=(Md.refl _ _).drew
 refine bM (fun w'=>Wk a w') aa wide q<|bH 0 aa (str s) q<|aE 1 aa (fun _ _=>fa s9 aa) q<|aE 2 aa (fun w' i=>ld bU aa<|Wk.aQ i<|G.bE 3) q<|aE 4 aa (fun _ _=>fa BQ aa) q<|aE 5 aa (fun w' i=>ld bU aa<|Wk.aQ i<|G.bE 4) q<|he 3 aa aj<|cl F1 (Yw s r.strip a.drew ab ab) aa fun aM aD ap=> ?_
 obtain ⟨rfl,am⟩:=ap
 have C:(fun w'=>Wk a w') aD:=q.trans am
 refine ⟨C,?_⟩
 exact aE 6 aa (fun _ _=>cc aa aa (by have :(qH s r.strip).length≤s.length:=(by unfold qH; split <;> simp <;> omega); omega)) C<|aE 7 aa (fun _ _=>aB) C<|aE 8 aa (fun _ _=>aB) C<|hn aj<|M<|rt<|tr<|f2 aa aa aa<|⟨by rw [Oa I ab]; rfl,O.trans C⟩
 refine aO<|J<|aC fun M=> ?_
 have A:(fun w'=>Wk a w') a.drew:=(Md.refl _ _).drew
 refine bM (fun w'=>Wk a w') aa wide A<|aE 0 aa (fun _ _=>fa BQ aa) A<|aE 1 aa (fun w' i=>ld bU aa<|Wk.aQ i<|G.bE 4) A<|bH 2 aa (str s) A<|aE 3 aa (fun _ _=>fa s9 aa) A<|aE 4 aa (fun w' i=>ld bU aa<|Wk.aQ i<|G.bE 3) A<|he 5 aa aj<|cl F3 (Lo s r.strip a.drew ab ab) aa fun aN aF aq=> ?_
 obtain ⟨rfl,an⟩:=aq
 have E:(fun w'=>Wk a w') aF:=A.trans an
 refine ⟨E,?_⟩
 exact aE 6 aa (fun _ _=>cc aa aa (by have :(gy s r.strip).length≤s.length:=(by unfold gy; split <;> simp); omega)) E<|aE 7 aa (fun _ _=>aB) E<|aE 8 aa (fun _ _=>aB) E<|hn aj<|M<|rt<|f2 aa aa aa<|⟨by rw [N8 I ab]; rfl,O.trans E⟩
theorem Kp (ps:List Tx) (a:Option Addr) (c:Nat) (s:Tx) (w:World) (U:aJ w.heap a (ps.map str)) (aH:ps.length≤4096) (Y:∀ t∈ps,(t.length=1∨3≤t.length)∧t.length≤1048576):
 bo aw 188 (bh [.slice a ps.length c,str s]) w (fun v w'=>v= .bool (nS ps s)∧Wk w w'):=by
 refine enter func188 aa ntmps188 aa<|ag fun Z=>ay<|Z<|aC fun ah=>ag fun ai=>au (str s)<|p (cy u9 aa aa)<|au (.slice a ps.length c)<|p (bK rP aa aa)<|p (lt aa aa)<|nl<|ai<|cd aa (fun av=> ?_) fun av=> ?_
 exact ag fun I=>ay<|I<|rt<|tr<|aX aa<|⟨by rw [K0 ab]; rfl,Md.refl _ _⟩
 refine aO<|ah<|aC fun I=>ag fun al=>ay<|al<|aM<|lp (fun O G A=> ∃ (i:Nat),(i≤ps.length)∧(∀ k,k < i→cE (ps.getD k []) (s.getD k 0)=true)∧(Wk w A)∧(G 0= .slice a ps.length c)∧(G 1=str s)∧(G 5=ak i)∧(ps.length - i=O)) _ ⟨0,ab,(fun k hk=>absurd hk<|Nt _),(Md.refl _ _),aa,aa,aa,aa⟩ ?_
 rintro O G A ⟨i,hi,V,C,az,aA,aD,rfl⟩
 refine fx 0 az<|fx 1 aA<|fx 5 aD<|aC fun am=>ag fun an=>au (ak i)<|au (.slice a ps.length c)<|p (bK rP aa aa)<|p (lt aa aa)<|nl<|an<|cd aa (fun ax=> ?_) fun ax=> ?_
 refine aO<|am<|aC fun J=>aM<|aC fun ao=> ?_
 have q:(fun w'=>Wk A w') A.drew:=(Md.refl _ _).drew
 refine bM (fun w'=>Wk A w') aa wide q<|bH 0 aa (.slice a ps.length c) q<|bH 1 aa (ak i) q<|aE 2 aa (fun _ _=>ba G7 aa aa ab<|aJ.ok (U.wk C)<|bS ab) q<|aE 3 aa (fun w' ar=>c8 sw aa (aa) (show ∀ j,j < 1→Hb.aQ w'.heap (bk a) (fo a+i*1 +j)= [str (ps.getD i [])][j]? from fun j aG=>by cases j with | zero=>exact Wk.aQ ar (I9 (U.wk C) ab) | succ j=>omega)) q<|bH 4 aa (str s) q<|bH 5 aa (ak i) q<|aE 6 aa (fun _ _=>eQ u9 aa aa ab) q<|he 7 aa aj<|cl Ax (Ez (ps.getD i []) (s.getD i 0) A.drew (Y _<|dV ab).1 (Y _<|dV ab).2) aa fun aI aF aq=> ?_
 obtain ⟨rfl,ap⟩:=aq
 have E:(fun w'=>Wk A w') aF:=q.trans ap
 refine ⟨E,?_⟩
 refine aE 8 aa (fun _ _=>aB) E<|hn aj<|ao<|ag fun ac=>p mv<|p (no aa)<|nl<|ac<|cb aa (fun M=> ?_) fun M=> ?_
 exact ag fun ae=>ay<|ae<|rt<|br<|tr<|tr<|br<|tr<|aX aa<|⟨by rw [KZ (i:=i) ab (by simpa using M)]; rfl,C.trans E⟩
 exact aO<|bn<|J<|rg aa<|au (ak i)<|p (bG ((i+1:Nat):Int) aa aa<|bl ab ab)<|p aB<|nl<|tn<|⟨_,ab,i+1,ab,(fun k hk=>by rcases Ns.1 hk with h | rfl; exact V k h; simpa using M),(C.trans E),aa,aa,aa,aa⟩
 exact ext<|bf<|bf<|be<|I<|ag fun J=>p aB<|nl<|J<|rt<|aX aa<|⟨by rw [La ab (fun k hk=>V k ab)]; rfl,C⟩
theorem WK (ps:List Tx) (a:Option Addr) (c:Nat) (s:Tx) (w:World) (E:aJ w.heap a (ps.map str)) (M:ps.length≤4096) (U:s.length≤1048576) (O:∀ t∈ps,(t.length=1∨3≤t.length)∧t.length≤1048576):
 bo aw 187 (bh [.slice a ps.length c,str s]) w (fun v w'=>v= .bool (ql ps s)∧Wk w w'):=by
 refine enter func187 aa ntmps187 aa<|ag fun q=>ay<|q<|aC fun A=>ag fun C=>au (str s)<|p (cy u9 aa aa)<|au (.slice a ps.length c)<|p (bK rP aa aa)<|p (lt aa aa)<|nl<|C<|cd aa (fun J=> ?_) fun J=> ?_
 exact ag fun i=>ay<|i<|rt<|tr<|aX aa<|⟨by unfold ql; rw [decide_eq_false (show ¬ps.length≤s.length by omega)]; rfl,Md.refl _ _⟩
 refine aO<|A<|ag fun i=>au (.slice a ps.length c)<|au (str s)<|au (str s)<|p (cy u9 aa aa)<|au (.slice a ps.length c)<|p (bK rP aa aa)<|p (dN ((s.length - ps.length:Nat):Int) aa aa<|bl ab ab)<|p (l7 u9 aa aa ab)<|e<|cl Fv (Kp ps a c (s.drop<|s.length - ps.length) w E M O) aa fun V Y I=> ?_
 obtain ⟨rfl,G⟩:=I
 exact ay<|i<|rt<|aX aa<|⟨by unfold ql; rw [decide_eq_true (show ps.length≤s.length by omega)]; rfl,G⟩
theorem WV (r:dd) (u:Value) (s:Tx) (w:World) (a2:r.strip.length≤1048576) (aW:r.add.length≤1048576) (aY:r.cond.length≤1048576) (a3:s.length≤1048576):
 bo aw 123 (bh [.agg (jv (r,u)).toArray,str s]) w (fun v w'=>v= .bool (iF r s)∧Wk w w'):=by
 refine enter func123 aa ntmps123 aa<|ag fun av=>e<|iY aa fun aF ar aT aJ aG=> ?_
 have a1:((r,u):dd×Value).1.strip.length=r.strip.length:=rfl
 have a0:((r,u):dd×Value).1.kind=r.kind:=rfl
 have aZ:((r,u):dd×Value).1.add.length=r.add.length:=rfl
 have al:bO ar.heap aF (jv (r,u)):=aG
 refine ay<|av<|ag fun ax=>p (fa BD aa)<|p (ld bU aa<|al.bE 5)<|e<|cl Fu (JY r.cond ar ab) aa fun a4 aq aK=> ?_
 obtain ⟨⟨ac,rfl,an⟩,hE13⟩:=aK
 obtain ⟨a,c,rfl⟩:=cC an
 have am:=(a8 an).2
 have V:= @Gj r.cond
 have ao:∀ t∈(di r.cond).1,(t.length=1∨3≤t.length)∧t.length≤1048576:=fun t ap=>⟨(V.1 t ap).1,by have :=(V.1 t ap).2; omega⟩
 have E:=Wk.B hE13 al
 have A:=aJ.md.trans hE13
 have aV:=V.2
 refine p mv<|p (xt aa aa)<|p (xt aa aa)<|p aB<|ay<|ax<|aC fun az=>rg aa<|p (fa sW aa)<|p (ld bU aa<|E.bE 3)<|p (cy u9 aa aa)<|ay<|az<|aC fun aA=>ag fun ak=>p mv<|p (dj aa aa)<|p mv<|gs (t:=21) aa (fun aN=> ?_) fun aN=> ?_
 exact aH aa<|aH aa<|aH aa<|aH aa<|p (bB aa)<|nl<|ak<|ct aa<|ag fun C=>ay<|C<|rt<|tr<|aX aa<|⟨by rw [Hp ab]; rfl,A⟩
 refine aI aa (aU (str s) aa)<|aI aa (cy u9 aa aa)<|aI aa mv<|aI aa (le aa aa)<|p (bq aa)<|nl<|ak<|cd aa (fun aS=> ?_) fun aS=> ?_
 exact ag fun C=>ay<|C<|rt<|tr<|aX aa<|⟨by rw [Hq ab]; rfl,A⟩
 refine aO<|aA<|aC fun C=>ag fun aD=>p (fa uG aa)<|p (ld bC aa<|E.bE 0)<|p (bI aa aa)<|nl<|aD<|cd aa (fun aR=> ?_) fun aR=> ?_
 refine ag fun J=>p mv<|au (str s)<|e<|cl O5 (WK (di r.cond).1 a c s aq am ab ab ao) aa fun a5 ae aL=> ?_
 obtain ⟨rfl,M⟩:=aL
 refine ay<|J<|aC fun G=> ?_
 have i:(fun w'=>Wk ae w') ae.drew:=(Md.refl _ _).drew
 refine bM (fun w'=>Wk ae w') aa wide i<|aE 0 aa (fun _ _=>mv) i<|aE 1 aa (fun _ _=>mv) i<|yg (t:=34) aa (fun Z=> ?_) fun Z=> ?_
 exact bj 2 aa (fun _ _=>aU (str s) aa) i<|bj 3 aa (fun _ _=>aU (str s) aa) i<|bj 4 aa (fun _ _=>cy u9 aa aa) i<|bj 5 aa (fun _ _=>mv) i<|bj 6 aa (fun _ _=>dN ((s.length - r.strip.length:Nat):Int) aa aa<|bl ab ab) i<|bj 7 aa (fun _ _=>l7 u9 aa aa ab) i<|bj 8 aa (fun _ _=>fa sW aa) i<|bj 9 aa (fun w' U=>ld bU aa<|Wk.aQ U<|(Wk.B M E).bE 3) i<|bj 10 aa (fun _ _=>dW aa aa) i<|aE 11 aa (fun _ _=>bB aa) i<|aE 12 aa (fun _ _=>aB) i<|hn aj<|G<|rt<|tr<|aX aa<|⟨by rw [xL ab ab ab,Z,DN]; rfl,A.trans<|M.trans i⟩
 exact a6 2 aa i<|a6 3 aa i<|a6 4 aa i<|a6 5 aa i<|a6 6 aa i<|a6 7 aa i<|a6 8 aa i<|a6 9 aa i<|a6 10 aa i<|aE 11 aa (fun _ _=>bq aa) i<|aE 12 aa (fun _ _=>aB) i<|hn aj<|G<|rt<|tr<|aX aa<|⟨by rw [xL ab ab ab,Z,vL]; rfl,A.trans<|M.trans i⟩
 refine aO<|C<|aC fun J=>ag fun G=>p (fa uG aa)<|p (ld bC aa<|E.bE 0)<|p (bI aa aa)<|nl<|G<|cd aa (fun aP=> ?_) fun aP=> ?_
 refine ag fun I=>p mv<|au (str s)<|e<|cl Fv (Kp (di r.cond).1 a c s aq am ab ao) aa fun a7 ah aM=> ?_
 obtain ⟨rfl,O⟩:=aM
 refine ay<|I<|aC fun ai=> ?_
 have q:(fun w'=>Wk ah w') ah.drew:=(Md.refl _ _).drew
 refine bM (fun w'=>Wk ah w') aa wide q<|aE 0 aa (fun _ _=>mv) q<|aE 1 aa (fun _ _=>mv) q<|yg (t:=52) aa (fun Y=> ?_) fun Y=> ?_
 exact bj 2 aa (fun _ _=>aU (str s) aa) q<|bj 3 aa (fun _ _=>mv) q<|bj 4 aa (fun _ _=>rM u9 aa aa ab) q<|bj 5 aa (fun _ _=>fa sW aa) q<|bj 6 aa (fun w' U=>ld bU aa<|Wk.aQ U<|(Wk.B O E).bE 3) q<|bj 7 aa (fun _ _=>dW aa aa) q<|aE 8 aa (fun _ _=>bB aa) q<|aE 9 aa (fun _ _=>aB) q<|hn aj<|ai<|rt<|tr<|aX aa<|⟨by rw [xJ ab ab ab,Y,DN]; rfl,A.trans<|O.trans q⟩
 exact a6 2 aa q<|a6 3 aa q<|a6 4 aa q<|a6 5 aa q<|a6 6 aa q<|a6 7 aa q<|aE 8 aa (fun _ _=>bq aa) q<|aE 9 aa (fun _ _=>aB) q<|hn aj<|ai<|rt<|tr<|aX aa<|⟨by rw [xJ ab ab ab,Y,vL]; rfl,A.trans<|O.trans q⟩
 exact aO<|J<|ag fun I=>ay<|I<|rt<|aX aa<|⟨by rw [Ho ab ab]; rfl,A⟩
theorem CV (r:dd) (u:Value) (s:Tx) (w:World) (ap:r.strip.length≤1048576) (an:r.add.length≤1048576) (ao:r.cond.length≤1048576) (aq:s.length≤1048576):
 bo aw 77 (bh [.agg (jv (r,u)).toArray,str s]) w (fun v w'=>v=JF (dC r s)∧Wk w w'):=by
 refine enter func77 aa ntmps77 aa<|ag fun Y=>e<|iY aa fun ai V ar al ak=> ?_
 have aD:((r,u):dd×Value).1.strip.length=r.strip.length:=rfl
 have aA:((r,u):dd×Value).1.kind=r.kind:=rfl
 have az:((r,u):dd×Value).1.add.length=r.add.length:=rfl
 have O:bO V.heap ai (jv (r,u)):=ak
 refine p aB<|ay<|Y<|ag fun Z=>p (c8 qZ aa (aa) fun j ax=>O.bE j)<|au (str s)<|e<|cl OF (WV r u s V ap an ao aq) aa fun v9 A am=> ?_
 obtain ⟨rfl,U⟩:=am
 have C:=Wk.B U O
 have J:=al.md.trans U
 refine ay<|Z<|aC fun ac=>ag fun ae=>p mv<|p (no aa)<|nl<|ae<|cb aa (fun M=> ?_) fun M=> ?_
 have E:iF r s=false :=by simpa using M
 exact ag fun G=>p aB<|ay<|G<|rt<|tr<|f2 aa aa aa<|⟨by rw [EV E]; rfl,J⟩
 have E:iF r s=true :=by simpa using M
 have av:=(xK E).1
 refine aO<|ac<|aC fun G=>ag fun ah=>p (fa uG aa)<|p (ld bC aa<|C.bE 0)<|p (bI aa aa)<|nl<|ah<|cd aa (fun hk=> ?_) fun hk=> ?_
 refine aC fun I=> ?_
 have a:(fun w'=>Wk A w') A.drew:=(Md.refl _ _).drew
 exact bM (fun w'=>Wk A w') aa wide a<|bH 0 aa (str s) a<|bH 1 aa (str s) a<|aE 2 aa (fun _ _=>cy u9 aa aa) a<|aE 3 aa (fun _ _=>fa sW aa) a<|aE 4 aa (fun w' q=>ld bU aa<|Wk.aQ q<|C.bE 3) a<|aE 5 aa (fun _ _=>cy u9 aa aa) a<|aE 6 aa (fun _ _=>dN ((s.length - r.strip.length:Nat):Int) aa aa<|bl ab ab) a<|aE 7 aa (fun _ _=>rM u9 aa aa ab) a<|aE 8 aa (fun _ _=>fa BC aa) a<|aE 9 aa (fun w' q=>ld bU aa<|Wk.aQ q<|C.bE 4) a<|aE 10 aa (fun _ _=>cc aa aa<|by simp only [List.length_take]; omega) a<|aE 11 aa (fun _ _=>aB) a<|aE 12 aa (fun _ _=>aB) a<|hn aj<|I<|rt<|tr<|f2 aa aa aa<|⟨by rw [Ob E ab]; rfl,J.trans a⟩
 refine aO<|G<|aC fun I=> ?_
 have i:(fun w'=>Wk A w') A.drew:=(Md.refl _ _).drew
 exact bM (fun w'=>Wk A w') aa wide i<|aE 0 aa (fun _ _=>fa BC aa) i<|aE 1 aa (fun w' q=>ld bU aa<|Wk.aQ q<|C.bE 4) i<|bH 2 aa (str s) i<|aE 3 aa (fun _ _=>fa sW aa) i<|aE 4 aa (fun w' q=>ld bU aa<|Wk.aQ q<|C.bE 3) i<|aE 5 aa (fun _ _=>cy u9 aa aa) i<|aE 6 aa (fun _ _=>l7 u9 aa aa ab) i<|aE 7 aa (fun _ _=>cc aa aa<|by simp only [List.length_drop]; omega) i<|aE 8 aa (fun _ _=>aB) i<|aE 9 aa (fun _ _=>aB) i<|hn aj<|I<|rt<|f2 aa aa aa<|⟨by rw [N9 E ab]; rfl,J.trans i⟩
end Go.Hb
end
section
namespace Go.Hb
def eH (d:bZ):List Value:= [str d.kG,.int .i64 (d.sQ:Nat),.int .i64 d.fst,.int .i64 d.snd,.int .i64 d.pre]
def jV (l:List bZ):List Value:=l.flatMap eH
def pq (d:bZ):Array Value:= #[.agg (eH d).toArray]
theorem oq {h:Array Obj} {b e:Nat} {L:List Value} (a:h[b]? =some (.cells L.toArray e (0,0))):bO h b L:=⟨e,a⟩
def Rn (F:aT) (n:Int):Prop :=n= -1∨(0≤n∧n < F.rules.length)
section
variable {F:aT} {xs:List bF} {e:Nat} {f s p:Int}
theorem Ib (a:f= -1) (hp:p= -1):fy F xs e f s p= !rA F xs e 0:=by unfold fy; rw [if_pos a,decide_eq_false (fun h=>h hp)]; rfl
theorem Ic (a:f= -1) (hp:p≠ -1):fy F xs e f s p=true :=by unfold fy; rw [if_pos a,decide_eq_true hp]; rfl
theorem B4 (a:f≠ -1) (h:nD F (if s= -1 then f else s)=false):fy F xs e f s p=false :=by unfold fy; rw [if_neg a,if_pos h]
theorem B3 (a:f≠ -1) (h:nD F (if s= -1 then f else s)=true) (hp:p= -1):fy F xs e f s p=true :=by unfold fy; rw [if_neg a,if_neg (by rw [h]; exact ei),decide_eq_true hp]; rfl
theorem pD (a:f≠ -1) (h:nD F (if s= -1 then f else s)=true) (hp:p≠ -1):fy F xs e f s p=(lF F f && lF F s && lF F p):=by unfold fy; rw [if_neg a,if_neg (by rw [h]; exact ei),decide_eq_false hp]; rfl
theorem Gn:lF F (-1)=true :=by unfold lF; rw [decide_eq_true rfl]; rfl
theorem sK {k:Nat} {r:dd} (a:F.rules[k]? =some r):lF F k=r.et:=by
 unfold lF
 rw [decide_eq_false ab,mM,cV,a]; rfl
end
theorem Ja (F:aT) (xs:List bF) (e:Int):l3 F xs e 0=rA F xs e 0:=rfl
theorem Dr {α β:Type} {g:α→Option β} {l:List α} {i:Nat} (d:α) (h:i < l.length):(l.take<|i+1).filterMap g=(l.take i).filterMap g++(g<|l.getD i d).toList:=by
 rw [fH l i d h,zz]
 congr 1
structure sn where
 ar:Option Addr
 cr:Nat
 rn:List Value
 ap:Option Addr
 cp:Nat
def nN (tb l:Nat) (K:sn) (F:aT) (e:Int) (word:Tx) (ps:List Nat):List Value:= [.pointer (some ⟨tb,0,none⟩),.slice K.ar F.rules.length K.cr,.int .i64 e,str word,.slice K.ap ps.length K.cp,.func (.yield l) #[] #[]]
structure jF (w:World) (fp:Nat→Prop) (S0 mb tb l:Nat) (K:sn) (F:aT) (e:Int) (word:Tx) (ps:List Nat):Prop where
 lo:S0≤mb
 cells:w.heap[mb]? =some (.cells (nN tb l K F e word ps).toArray 183 (0,0))
 nf:¬fp mb
 ru:bu w S0 77 7 (.slice K.ar F.rules.length K.cr) F.rules.length (iT<|F.rules.zip K.rn)
 rf:∀ k,(bR K.ar F.rules.length K.cr).ownBlock=some k→¬fp k
 rn:K.rn.length=F.rules.length
 pr:bu w S0 3 1 (.slice K.ap ps.length K.cp) ps.length (ps.map bP)
 pf:∀ k,(bR K.ap ps.length K.cp).ownBlock=some k→¬fp k
section
variable {w w':World} {fp fp':Nat→Prop} {S0 mb tb l:Nat} {K:sn} {F:aT} {e:Int} {word:Tx} {ps:List Nat}
theorem jF.gw (h:jF w fp S0 mb tb l K F e word ps) (a:Gw S0 fp w fp' w'):jF w' fp' S0 mb tb l K F e word ps:=
 ⟨h.lo,(a.aM h.cells h.lo h.nf).1,(a.aM h.cells h.lo h.nf).2,(a.own h.ru h.rf).1,(a.own h.ru h.rf).2,h.rn,(a.own h.pr h.pf).1,(a.own h.pr h.pf).2⟩
theorem jF.wk (h:jF w fp S0 mb tb l K F e word ps) (hm:Wk w w'):jF w' fp S0 mb tb l K F e word ps:=h.gw<|Gw.wk hm
theorem jF.uX (h:jF w fp S0 mb tb l K F e word ps) {G:Nat→Prop} (hm:Md G w w') {L:List Nat} (i:TF w L G) (a:(L.contains 185 || L.contains 79 || L.contains 5)=false):jF w' fp S0 mb tb l K F e word ps:=by
 simp only [Bool.or_eq_false_iff] at a
 exact ⟨h.lo,hm.gA i h.cells a.1.1,h.nf,cj h.ru hm i a.1.2,h.rf,h.rn,cj h.pr hm i a.2,h.pf⟩
theorem jF.iL (h:jF w fp S0 mb tb l K F e word ps) {k:Nat} {r:dd} (a:F.rules[k]? =some r):∃ u,(F.rules.zip K.rn)[k]? =some (r,u):=by
 have hk:=(fJ.1 a).1
 have i:k < K.rn.length:=by rw [h.rn]; exact hk
 exact ⟨K.rn[k],jx.2 ⟨a,cD i⟩⟩
end
theorem JU {α:Type} {a b c:List α} (h:b <+:c):a++b <+:a++c:=by obtain ⟨t,rfl⟩:=h; exact ⟨t,by rw [dF]⟩
theorem Gq {F:aT} {xs:List bF} {e:Nat} {word:Tx} {f s:Int} {p:Nat} (h:fy F xs e f s p=false):ju F xs e word f s p=none:=if_neg<|by rw [h]; exact ei
theorem Gp {F:aT} {xs:List bF} {e:Nat} {word:Tx} {f s:Int} {p:Nat} (h:dC (F.rules.getD p eY) word=none):ju F xs e word f s p=none:=by unfold ju; rw [h]; split <;> rfl
theorem Gr {F:aT} {xs:List bF} {e:Nat} {word v:Tx} {f s:Int} {p:Nat} (h:fy F xs e f s p=true) (h1:dC (F.rules.getD p eY) word=some v):ju F xs e word f s p=some ⟨v,e,f,s,p⟩:=by unfold ju; rw [if_pos h,h1]; rfl
theorem Ie (B tb:Nat) (au:iX) (F:aT) (xs:List bF) (ar:Option Addr) (cr:Nat) (rn:List Value) (word:Tx) (en:Nat) (f s pp:Int) (w:World) (a2:fT w B tb au F xs) (aF:eW F xs) (aW:aJ w.heap ar (iT<|F.rules.zip rn)) (an:rn.length=F.rules.length) (ah:Rn F f) (hs:Rn F s) (hp:Rn F pp):
 bo aw 57 (bh [aR tb,.slice ar F.rules.length cr,.agg (eH ⟨word,en,f,s,pp⟩).toArray]) w (fun v w'=>v= .bool (fy F xs en f s pp)∧Wk w w'):=by
 refine enter func57 aa ntmps57 aa<|ag fun aS=>e<|iY aa fun aU aq a aA aV=> ?_
 have bc:=aA.size
 have V:=a2.wk aA.md
 have a:bO aq.heap aU [str word,ak en,.int .i64 f,.int .i64 s,.int .i64 pp]:=aV
 have q:Wk w aq:=aA.md
 have I:=aW.wk aA.md
 refine ay<|aS<|aC fun aL=>aM<|ag fun aN=>p (fa rl aa)<|p (ld bC aa<|a.bE 2)<|p (lt aa aa)<|p mv<|gs (t:=11) aa (fun aG=> ?_) fun aG=> ?_
 refine aI aa (fa rm aa)<|aI aa (ld bC aa<|a.bE 4)<|aI aa (lt aa aa)<|p (bB aa)<|ay<|aN<|cd aa (fun a9=> ?_) fun a9=> ?_
 refine ag fun ai=>p mv<|p (fa HQ aa)<|p (ld bC aa<|a.bE 1)<|e<|cl P6 (Ct B tb au F xs (en:Nat) 0 aq V aF) aa fun bd bi aZ=> ?_
 obtain ⟨rfl,aY⟩:=aZ
 refine p (no aa)<|ay<|ai<|rt<|br<|tr<|aX aa ?_
 have i:fy F xs en f s pp= !l3 F xs en 0:=by rw [Ib (by unfold Rn at ah; omega) (by unfold Rn at hp; omega),Ja]
 exact ⟨Eq.trans (b:=bT<|!l3 F xs en 0) aa (congrArg bT i.symm),q.trans aY⟩
 refine ag fun ai=>p (fa rl aa)<|p (ld bC aa<|a.bE 2)<|p (lt aa aa)<|ay<|ai<|cd aa (fun a3=> ?_) fun h=>absurd aG h
 refine ag fun aj=>ay<|aj<|rt<|br<|tr<|aX aa ?_
 have i:fy F xs en f s pp=true :=by exact Ic (by unfold Rn at ah; omega) ab
 exact ⟨Eq.trans (b:=bT<|true) aa (congrArg bT i.symm),q⟩
 refine aH aa<|aH aa<|aH aa<|p (bq aa)<|ay<|aN<|cf aa<|ag fun ai=>p (fa rl aa)<|p (ld bC aa<|a.bE 2)<|p (lt aa aa)<|ay<|ai<|cd aa (fun h=>absurd h aG) fun a3=> ?_
 refine aC fun aj=>ag fun aP=>p (fa qn aa)<|p (ld bC aa<|a.bE 3)<|p (lt aa aa)<|p mv<|gs (t:=29) aa (fun aK=> ?_) fun aK=> ?_
 refine aI aa mv<|aI aa (fa rl aa)<|aI aa (ld bC aa<|a.bE 2)<|eg aa aa aa<|cl xh (GV B tb au F xs f aq V aF) aa fun bf bj a0=> ?_
 obtain ⟨rfl,av⟩:=a0
 have V:=V.wk av
 have a:=Wk.B av a
 have q:=q.trans av
 have I:=I.wk av
 refine aI aa (no aa)<|p (bB aa)<|ay<|aP<|cb aa (fun A=> ?_) fun A=> ?_
 refine aO<|aj<|ct (congrArg bT A)<|ag fun U=>ay<|U<|rt<|br<|tr<|aX aa ?_
 have i:fy F xs en f s pp=false :=by exact B4 ab<|by rw [if_pos (show s= -1 by unfold Rn at hs; omega)]; simpa using A
 exact ⟨Eq.trans (b:=bT<|false) aa (congrArg bT i.symm),q⟩
 refine rg aa<|p (fa qn aa)<|p (ld bC aa<|a.bE 3)<|p (ge aa aa)<|p mv<|gs (t:=39) aa (fun h=>absurd h ab) fun a5=>aH aa<|aH aa<|aH aa<|aH aa<|aH aa<|p (bq aa)<|p aB<|nl<|aj<|cf aa<|ag fun U=>p (fa rm aa)<|p (ld bC aa<|a.bE 4)<|p (lt aa aa)<|p aB ?_
 refine nl<|U<|cd aa (fun aE=> ?_) fun aE=> ?_
 refine ag fun G=>ay<|G<|rt<|br<|tr<|aX aa ?_
 have i:fy F xs en f s pp=true :=by exact B3 ab (by rw [if_pos (show s= -1 by unfold Rn at hs; omega)]; simpa using A)<|by unfold Rn at hp; omega
 exact ⟨Eq.trans (b:=bT<|true) aa (congrArg bT i.symm),q⟩
 obtain ⟨E,rfl⟩:∃ m:Nat,pp=(m:Int):=⟨(pp).toNat,by unfold Rn at hp; omega⟩
 obtain ⟨ac,M⟩:∃ r,F.rules[E]? =some r:=⟨_,cD<|by unfold Rn at hp; omega⟩
 have ap:(F.rules.zip rn)[E]? =some (ac,rn[E]'(by rw [an]; exact (fJ.1 M).1)):=jx.2 ⟨M,cD _⟩
 have am:=sK M
 have a8:=(fJ.1 M).1
 obtain ⟨C,rfl⟩:∃ m:Nat,f=(m:Int):=⟨(f).toNat,by unfold Rn at ah; omega⟩
 obtain ⟨rf,J⟩:∃ r,F.rules[C]? =some r:=⟨_,cD<|by unfold Rn at ah; omega⟩
 have ao:(F.rules.zip rn)[C]? =some (rf,rn[C]'(by rw [an]; exact (fJ.1 J).1)):=jx.2 ⟨J,cD _⟩
 have al:=sK J
 have a7:=(fJ.1 J).1
 have ae:=I
 refine aO<|bn<|aL<|ag fun G=>p mv<|p (fa rm aa)<|p (ld bC aa<|a.bE 4)<|p (ba m5 aa aa ab<|aJ.ok (I)<|nQ ap)<|p (fa uP aa)<|p (ld k4 aa<|fw (f:=fz) (m:=7) (fun _=>rfl) ae ap 2 az)<|p mv<|gb (t:=56) aa (fun Z=> ?_) fun Z=> ?_
 refine aI aa mv<|aI aa (fa rl aa)<|aI aa (ld bC aa<|a.bE 2)<|aI aa (ba m5 aa aa ab<|aJ.ok (I)<|nQ ao)<|aI aa (fa uP aa)<|aI aa (ld k4 aa<|fw (f:=fz) (m:=7) (fun _=>rfl) ae ao 2 az)<|p (bB aa)<|p mv<|gb (t:=64) aa (fun Y=> ?_) fun Y=> ?_
 refine aI aa (fa qn aa)<|aI aa (ld bC aa<|a.bE 3)<|aI aa (lt aa aa)<|aI aa mv<|gs (t:=68) aa (fun a6=> ?_) fun h=>absurd aK h
 refine aH aa<|aH aa<|aH aa<|aH aa<|aH aa<|aH aa<|aI aa (bB aa)<|p (bB aa)<|ay<|G<|rt<|aX aa ?_
 have i:fy F xs en ((C:Nat):Int) s ((E:Nat):Int)=true :=by rw [pD ab (by rw [if_pos (show s= -1 by unfold Rn at hs; omega)]; simpa using A) ab,al,am,show s= -1 by (unfold Rn at hs; omega),Gn,(show rf.et=true from Y),(show ac.et=true from Z)]; rfl
 exact ⟨Eq.trans (b:=bT<|true) aa (congrArg bT i.symm),q⟩
 refine aH aa<|aH aa<|aH aa<|aH aa<|eh aa<|eh aa<|eh aa<|eh aa<|eh aa<|eh aa<|aH aa<|p (bq aa)<|ay<|G<|rt<|aX aa ?_
 have i:fy F xs en ((C:Nat):Int) s ((E:Nat):Int)=false :=by rw [pD ab (by rw [if_pos (show s= -1 by unfold Rn at hs; omega)]; simpa using A) ab,al,(show rf.et=false from Y)]; rfl
 exact ⟨Eq.trans (b:=bT<|false) aa (congrArg bT i.symm),q⟩
 refine aH aa<|aH aa<|aH aa<|aH aa<|aH aa<|aH aa<|p (bq aa)<|p mv<|aH aa<|aH aa<|aH aa<|aH aa<|eh aa<|eh aa<|eh aa<|eh aa<|eh aa<|eh aa<|aH aa<|p (bq aa)<|ay<|G<|rt<|aX aa ?_
 have i:fy F xs en ((C:Nat):Int) s ((E:Nat):Int)=false :=by rw [pD ab (by rw [if_pos (show s= -1 by unfold Rn at hs; omega)]; simpa using A) ab,am,(show ac.et=false from Z),vL]
 exact ⟨Eq.trans (b:=bT<|false) aa (congrArg bT i.symm),q⟩
 refine aH aa<|aH aa<|aH aa<|aH aa<|aH aa<|p (bq aa)<|p aB<|nl<|aP<|cf aa<|rg aa<|p (fa qn aa)<|p (ld bC aa<|a.bE 3)<|p (ge aa aa)<|p mv<|gs (t:=39) aa (fun a5=> ?_) fun h=>absurd ab h
 refine aI aa mv<|aI aa (fa qn aa)<|aI aa (ld bC aa<|a.bE 3)<|eg aa aa aa<|cl xh (GV B tb au F xs s aq V aF) aa fun bg bk a1=> ?_
 obtain ⟨rfl,ax⟩:=a1
 have V:=V.wk ax
 have a:=Wk.B ax a
 have q:=q.trans ax
 have I:=I.wk ax
 refine aI aa (no aa)<|p (bB aa)<|ay<|aj<|cb aa (fun A=> ?_) fun A=> ?_
 refine ag fun U=>ay<|U<|rt<|br<|tr<|aX aa ?_
 have i:fy F xs en f s pp=false :=by exact B4 ab<|by rw [if_neg (show ¬s= -1 by omega)]; simpa using A
 exact ⟨Eq.trans (b:=bT<|false) aa (congrArg bT i.symm),q⟩
 refine ag fun U=>p (fa rm aa)<|p (ld bC aa<|a.bE 4)<|p (lt aa aa)<|ay<|U<|cd aa (fun aE=> ?_) fun aE=> ?_
 refine ag fun G=>ay<|G<|rt<|br<|tr<|aX aa ?_
 have i:fy F xs en f s pp=true :=by exact B3 ab (by rw [if_neg (show ¬s= -1 by omega)]; simpa using A)<|by unfold Rn at hp; omega
 exact ⟨Eq.trans (b:=bT<|true) aa (congrArg bT i.symm),q⟩
 obtain ⟨E,rfl⟩:∃ m:Nat,pp=(m:Int):=⟨(pp).toNat,by unfold Rn at hp; omega⟩
 obtain ⟨ac,M⟩:∃ r,F.rules[E]? =some r:=⟨_,cD<|by unfold Rn at hp; omega⟩
 have ap:(F.rules.zip rn)[E]? =some (ac,rn[E]'(by rw [an]; exact (fJ.1 M).1)):=jx.2 ⟨M,cD _⟩
 have am:=sK M
 have a8:=(fJ.1 M).1
 obtain ⟨C,rfl⟩:∃ m:Nat,f=(m:Int):=⟨(f).toNat,by unfold Rn at ah; omega⟩
 obtain ⟨rf,J⟩:∃ r,F.rules[C]? =some r:=⟨_,cD<|by unfold Rn at ah; omega⟩
 have ao:(F.rules.zip rn)[C]? =some (rf,rn[C]'(by rw [an]; exact (fJ.1 J).1)):=jx.2 ⟨J,cD _⟩
 have al:=sK J
 have a7:=(fJ.1 J).1
 obtain ⟨O,rfl⟩:∃ m:Nat,s=(m:Int):=⟨(s).toNat,by unfold Rn at hs; omega⟩
 obtain ⟨rs,aD⟩:∃ r,F.rules[O]? =some r:=⟨_,cD<|by unfold Rn at hs; omega⟩
 have aQ:(F.rules.zip rn)[O]? =some (rs,rn[O]'(by rw [an]; exact (fJ.1 aD).1)):=jx.2 ⟨aD,cD _⟩
 have a4:=sK aD
 have bb:=(fJ.1 aD).1
 have ae:=I
 refine aO<|bn<|aL<|ag fun G=>p mv<|p (fa rm aa)<|p (ld bC aa<|a.bE 4)<|p (ba m5 aa aa ab<|aJ.ok (I)<|nQ ap)<|p (fa uP aa)<|p (ld k4 aa<|fw (f:=fz) (m:=7) (fun _=>rfl) ae ap 2 az)<|p mv<|gb (t:=56) aa (fun Z=> ?_) fun Z=> ?_
 refine aI aa mv<|aI aa (fa rl aa)<|aI aa (ld bC aa<|a.bE 2)<|aI aa (ba m5 aa aa ab<|aJ.ok (I)<|nQ ao)<|aI aa (fa uP aa)<|aI aa (ld k4 aa<|fw (f:=fz) (m:=7) (fun _=>rfl) ae ao 2 az)<|p (bB aa)<|p mv<|gb (t:=64) aa (fun Y=> ?_) fun Y=> ?_
 refine aI aa (fa qn aa)<|aI aa (ld bC aa<|a.bE 3)<|aI aa (lt aa aa)<|aI aa mv<|gs (t:=68) aa (fun h=>absurd h aK) fun a6=>aI aa mv<|aI aa (fa qn aa)<|aI aa (ld bC aa<|a.bE 3)<|aI aa (ba m5 aa aa ab<|aJ.ok (I)<|nQ aQ)<|aI aa (fa uP aa)<|aI aa (ld k4 aa<|fw (f:=fz) (m:=7) (fun _=>rfl) ae aQ 2 az)<|aI aa (bq aa)<|p (bB aa)<|ay<|G<|rt<|aX aa ?_
 have i:fy F xs en ((C:Nat):Int) ((O:Nat):Int) ((E:Nat):Int)=rs.et:=by rw [pD ab (by rw [if_neg (show ¬((O:Nat):Int)= -1 by omega)]; simpa using A) ab,al,a4,am,(show rf.et=true from Y),(show ac.et=true from Z),Bool.true_and,DN]
 exact ⟨Eq.trans (b:=bT<|rs.et) aa (congrArg bT i.symm),q⟩
 refine aH aa<|aH aa<|aH aa<|aH aa<|eh aa<|eh aa<|eh aa<|eh aa<|eh aa<|eh aa<|aH aa<|p (bq aa)<|ay<|G<|rt<|aX aa ?_
 have i:fy F xs en ((C:Nat):Int) ((O:Nat):Int) ((E:Nat):Int)=false :=by rw [pD ab (by rw [if_neg (show ¬((O:Nat):Int)= -1 by omega)]; simpa using A) ab,al,(show rf.et=false from Y)]; rfl
 exact ⟨Eq.trans (b:=bT<|false) aa (congrArg bT i.symm),q⟩
 refine aH aa<|aH aa<|aH aa<|aH aa<|aH aa<|aH aa<|p (bq aa)<|p mv<|aH aa<|aH aa<|aH aa<|aH aa<|eh aa<|eh aa<|eh aa<|eh aa<|eh aa<|eh aa<|aH aa<|p (bq aa)<|ay<|G<|rt<|aX aa ?_
 have i:fy F xs en ((C:Nat):Int) ((O:Nat):Int) ((E:Nat):Int)=false :=by rw [pD ab (by rw [if_neg (show ¬((O:Nat):Int)= -1 by omega)]; simpa using A) ab,am,(show ac.et=false from Z),vL]
 exact ⟨Eq.trans (b:=bT<|false) aa (congrArg bT i.symm),q⟩
end Go.Hb
end
namespace Go.Hb
theorem nP {F:aT} {xs:List bF} (h:eW F xs) {k:Nat} {r:dd} (a:F.rules[k]? =some r):r.strip.length≤1048576∧r.add.length≤1048576∧r.cond.length≤1048576∧r.add.length≤32:=by
 have :=(h.iL a).2.2; unfold jR at this; omega
theorem S2 {α β:Type} {g:α→Option β} (l:List α) (i:Nat):(l.take i).filterMap g <+:l.filterMap g:=by
 conv =>rhs; rw [← wq i l,zz]
 exact wm _ _
theorem Qp {F:aT} {xs:List bF} {e:Nat} {word:Tx} {f s:Int} {pre tl a:List bZ} {x:bZ} (h:a=pre++(eD F xs e word f s++tl)) (i:kt F xs e word f s= [x]):
 a=pre++x::((aV F (flagsOf xs e) 1).filterMap (ju F xs e word f s)++tl):=by
 rw [h]; unfold eD; rw [i,dF]; rfl
theorem Qo {F:aT} {xs:List bF} {e:Nat} {word:Tx} {f s:Int} {pre tl a:List bZ} {i:Nat} {x:bZ} (h:a=pre++(eD F xs e word f s++tl)) (hi:i < (aV F (flagsOf xs e) 1).length) (q:ju F xs e word f s ((aV F (flagsOf xs e) 1).getD i 0)=some x):
 a=(pre++(kt F xs e word f s++((aV F (flagsOf xs e) 1).take i).filterMap (ju F xs e word f s)))++x::(((aV F (flagsOf xs e) 1).drop<|i+1).filterMap (ju F xs e word f s)++tl):=by
 have h2:(aV F (flagsOf xs e) 1).filterMap (ju F xs e word f s)=((aV F (flagsOf xs e) 1).take i).filterMap (ju F xs e word f s)++x::((aV F (flagsOf xs e) 1).drop<|i+1).filterMap (ju F xs e word f s):=by
  conv =>lhs; rw [← wq (i+1) (aV F (flagsOf xs e) 1),zz,Dr 0 hi,q]
  rw [dF]; rfl
 unfold eD at h
 rw [h,h2]
 simp only [dF,List.cons_append]
theorem uD {α β:Type} {g:α→List β} {l:List α} {i:Nat} (d:α) (h:i < l.length):(l.take<|i+1).flatMap g=(l.take i).flatMap g++g (l.getD i d):=by
 rw [fH l i d h,n8,pX]
theorem HA {α β:Type} {g:α→List β} {l:List α} {i:Nat} (d:α) (h:i < l.length):l.flatMap g=(l.take i).flatMap g++(g (l.getD i d)++(l.drop<|i+1).flatMap g):=by
 conv =>lhs; rw [← wq (i+1) l,n8,uD d h]
 rw [dF]
theorem CT {α:Type} {C q s D R:List α} (a:R=C++(s++D)) (i:q <+:s):C++q <+:R:=by rw [a]; exact JU<|i.trans<|wm _ _
theorem AP (B tb:Nat) (aZ:iX) (F:aT) (xs:List bF) (ae:eW F xs) (M S0 mb:Nat) (bI:List bZ) (an:Bool→List bZ→(Nat→Prop)→World→Prop) (I:Yc aw M S0 pq bI (fun W=>fT W B tb aZ F xs) an) (K:sn) (bL:Int) (O:Tx) (ps:List Nat) (pre:List bZ) (fp:Nat→Prop) (en:Nat) (word:Tx) (f s:Int) (w:World) (aL:jF w fp S0 mb tb M K F bL O ps) (bY:an true pre fp w) (c4:bL=(en:Int)) (c9:ps=aV F (flagsOf xs en) 1) (ce:Rn F f) (hs:Rn F s) (dr:word.length≤1000) (tl:List bZ) (ch:bI=pre++(eD F xs en word f s++tl)):
 bo aw 125 (bh [aR mb,str word,.int .i64 f,.int .i64 s]) w (fun v w'=> ∃ b q fp',v= .bool b∧an b (pre++q) fp' w'∧Gw S0 fp w fp' w'∧q <+:eD F xs en word f s∧(b=true→q=eD F xs en word f s)):=by
 have c5:=I.lt _ _ _ _ bY
 have dp:=rE F (flagsOf xs (en:Int)) 1
 have dq:=ae.len
 subst c4
 subst c9
 refine enter func125 aa ntmps125 aa<|ag fun co=>ay<|co<|ag fun cx=>p mv<|p mv<|p (nc aa)<|p (fa BE aa)<|p (ld bC aa<|(a7 aL.cells).trans aa)<|p mv<|p mv<|p (cU (ps:= [(0,str word),(1,ak en),(2,.int .i64 f),(3,.int .i64 s),(4,.int .i64 (-1))]) (L:= [str word,ak en,.int .i64 f,.int .i64 s,.int .i64 (-1)]) KW aa<|aa)<|e<|fi zh fun a du dn b8 cK=> ?_
 have ds:=b8.size
 refine e<|fZ xu aa aa aa aa cK az fun aW cP cG=> ?_
 have a0:Wk w aW:=b8.md.trans' cP fun q ci h=>by omega
 have c2:aW.heap[a]? =some (.cells (eH ⟨word,en,f,s,-1⟩).toArray 41 (0,0)):=cG
 have b0:=I.wk bY<|a0.trans (Md.refl _ _).drew
 have aN:=aL.wk<|a0.trans (Md.refl _ _).drew
 have cg:¬fp a:=fun h=>by have :=c5 a h; omega
 have aS:S0≤a:=by have :=aL.lo; have :=(cQ.1 aL.cells).1; omega
 refine nl<|cx<|aC fun cy=> ?_
 refine ej (fun aF aD=> ∃ (aq:Bool) (Y:Nat→Prop),(an (!aq) (pre++kt F xs en word f s) Y aD)∧(jF aD Y S0 mb tb M K F (en:Int) O<|aV F (flagsOf xs en) 1)∧(aD.heap[a]? =some (.cells (eH ⟨word,en,f,s,-1⟩).toArray 41 (0,0)))∧(¬Y a)∧(Gw S0 fp w Y aD)∧(aF 0=aR mb)∧(aF 1=str word)∧(aF 9=aR a)∧(aF 40= .bool aq)) ?_ ?_
 have J:(fun w'=>w'.heap[mb]? =some (.cells (nN tb M K F (en:Int) O<|aV F (flagsOf xs en) 1).toArray 183 (0,0))∧w'.heap[a]? =some (.cells (eH ⟨word,en,f,s,-1⟩).toArray 41 (0,0))) aW.drew:=⟨aN.cells,c2⟩
 refine L1 (fun w'=>w'.heap[mb]? =some (.cells (nN tb M K F (en:Int) O<|aV F (flagsOf xs en) 1).toArray 183 (0,0))∧w'.heap[a]? =some (.cells (eH ⟨word,en,f,s,-1⟩).toArray 41 (0,0))) aa wide J ?_
 refine yp 0 aa aj (fun _ _=>mv) J ?_
 refine yp 1 aa aj (fun _ _=>nc aa) J ?_
 refine yp 2 aa aj (fun _ _=>fa sZ aa) J ?_
 refine yp 3 aa aj (fun w' A=>ld o7 aa<|(a7 A.1).trans aa) J ?_
 refine yp 4 aa aj (fun _ _=>mv) J ?_
 refine yp 5 aa aj (fun _ _=>nc aa) J ?_
 refine yp 6 aa aj (fun _ _=>fa uJ aa) J ?_
 refine yp 7 aa aj (fun w' A=>ld lT aa<|(a7 A.1).trans aa) J ?_
 refine yp 8 aa aj (fun w' A=>c8 q5 aa (aa) fun j bz=>(oq A.2).bE j) J ?_
 refine ye 9 aa aj<|cl FW (Ie B tb aZ F xs K.ar K.cr K.rn word en f s (-1) aW.drew (I.cap _ _ _ _ b0) ae (a8 aN.ru).2 aN.rn ce hs<|.inl aa) aa fun v31 bD cS=> ?_
 obtain ⟨rfl,aG⟩:=cS
 have b2:=I.wk b0 aG
 have a5:=aN.wk aG
 have bT:Gw S0 fp w fp bD:=Gw.wk<|(a0.trans (Md.refl _ _).drew).trans aG
 have C:(fun w'=>w'.heap[mb]? =some (.cells (nN tb M K F (en:Int) O<|aV F (flagsOf xs en) 1).toArray 183 (0,0))∧w'.heap[a]? =some (.cells (eH ⟨word,en,f,s,-1⟩).toArray 41 (0,0))) bD:=⟨a5.cells,Wk.aM aG J.2⟩
 refine ⟨C,?_⟩
 refine yp 10 aa aj (fun _ _=>mv) C ?_
 refine LZ (t:=32) aa (fun bw=> ?_) fun bw=> ?_
 have aP:kt F xs en word f s= [⟨word,en,f,s,-1⟩]:=if_pos bw
 refine nj 11 aa aj aa aa aa (fun _ _=>mv) C ?_
 refine nj 12 aa aj aa aa aa (fun _ _=>nc aa) C ?_
 refine nj 13 aa aj aa aa aa (fun _ _=>fa HL aa) C ?_
 refine nj 14 aa aj aa aa aa (fun w' A=>ld EG aa<|(a7 A.1).trans aa) C ?_
 refine nj 15 aa aj aa aa aa (fun w' A=>c8 q5 aa (aa) fun j bz=>(oq A.2).bE j) C ?_
 refine L2 16 aa aj aa aa aa aa aa (I.yl pre ⟨word,en,f,s,-1⟩ _ fp bD (Qp ch aP) b2) fun cE dk cT=> ?_
 obtain ⟨cF,cN,a1⟩:=cT
 have b6:=a5.gw a1
 have bs:=a1.aM C.2 aS cg
 have bd:(fun w'=>w'.heap[mb]? =some (.cells (nN tb M K F (en:Int) O<|aV F (flagsOf xs en) 1).toArray 183 (0,0))∧w'.heap[a]? =some (.cells (eH ⟨word,en,f,s,-1⟩).toArray 41 (0,0))) dk:=⟨b6.cells,bs.1⟩
 refine ⟨bd,?_⟩
 refine nj 17 aa aj aa aa aa (fun _ _=>no aa) bd ?_
 refine yp 18 aa aj (fun _ _=>bB aa) bd ?_
 refine yn aj ?_
 exact tn<|⟨(!cE),cF,(by rw [Bool.not_not,aP]; exact cN),b6,bs.1,bs.2,(bT.trans a1),aa,aa,aa,aa⟩
 have aP:kt F xs en word f s= []:=if_neg<|by rw [bw]; exact ei
 refine l9 11 aa aj aa aa aa aa C ?_
 refine l9 12 aa aj aa aa aa aa C ?_
 refine l9 13 aa aj aa aa aa aa C ?_
 refine l9 14 aa aj aa aa aa aa C ?_
 refine l9 15 aa aj aa aa aa aa C ?_
 refine l9 16 aa aj aa aa aa aa C ?_
 refine l9 17 aa aj aa aa aa aa C ?_
 refine yp 18 aa aj (fun _ _=>bq aa) C ?_
 refine yn aj ?_
 exact tn<|⟨false,fp,(by rw [aP,ek]; exact b2),a5,C.2,cg,bT,aa,aa,aa,aa⟩
 rintro aF aD ⟨aq,Y,aK,b5,c3,c6,bR,da,db,dd,dc⟩
 refine fx 0 da<|fx 1 db<|fx 9 dd<|fx 40 dc<|cb aa (fun bk=> ?_) fun bk=> ?_
 refine ag fun aY=>ay<|aY<|rt<|tr<|aX aa ?_
 have bi:aq=true :=bk
 rw [bi] at aK
 exact ⟨false,_,Y,aa,aK,bR,(by unfold eD; exact wm _ _),fun h=>by cases h⟩
 refine aO<|cy<|aC fun aY=>ag fun cz=>au (aR mb)<|p (nc aa)<|p (fa HK aa)<|p (ld pc aa<|(a7 b5.cells).trans aa)<|p (bK ng aa aa)<|p mv<|nl<|cz<|aM<|lp (fun bO ac am=> ∃ (i:Nat) (U:Nat→Prop) (aA:Tx) (pp:Int),(i≤(aV F (flagsOf xs en) 1).length)∧(an true (pre++(kt F xs en word f s++((aV F (flagsOf xs en) 1).take i).filterMap (ju F xs en word f s))) U am)∧(jF am U S0 mb tb M K F (en:Int) O<|aV F (flagsOf xs en) 1)∧(am.heap[a]? =some (.cells (eH ⟨aA,en,f,s,pp⟩).toArray 41 (0,0)))∧(¬U a)∧(Gw S0 fp w U am)∧(ac 0=aR mb)∧(ac 1=str word)∧(ac 9=aR a)∧(ac 44= .slice K.ap (aV F (flagsOf xs en) 1).length K.cp)∧(ac 45=ak ((aV F (flagsOf xs en) 1).length))∧(ac 46=ak i)∧((aV F (flagsOf xs en) 1).length - i=bO)) _ ⟨0,Y,word,-1,ab,((by have bi:aq=false :=bk; rw [bi] at aK; simpa using aK)),b5,c3,c6,bR,aa,aa,aa,aa,aa,aa,aa⟩ ?_
 rintro bO ac am ⟨i,U,aA,pp,hi,a3,a9,bv,ax,bW,de,df,dj,dg,dh,di,rfl⟩
 refine fx 0 de<|fx 1 df<|fx 9 dj<|fx 44 dg<|fx 45 dh<|fx 46 di<|ag fun cA=>p (lt aa aa)<|nl<|cA<|aC fun cB=>cd aa (fun c1=> ?_) fun c1=> ?_
 refine aO<|cB<|aC fun ao=>aM<|ag fun cC=>p (ba kb aa aa ab<|aJ.ok ((a8 a9.pr).2)<|bS ab)<|p (ld bC aa<|aJ.gL (i:=i) (a8 a9.pr).2<|m9 ab)<|ay<|cC<|ag fun cq=>p mv<|p (fa rm aa)<|e<|cJ gB aa aa (v:= .int .i64 (((aV F (flagsOf xs en) 1).getD i 0:Nat):Int)) aa bv (by show 4 < 5; omega) fun al a6 cI=> ?_
 have ca:al.heap[a]? =some (.cells (eH ⟨aA,en,f,s,((aV F (flagsOf xs en) 1).getD i 0:Nat)⟩).toArray 41 (0,0)):=cI
 have c0:TF am [43] (fun q=>q=a):=TF.eq (dw bv) az
 have b3:=I.vg a3 bv aS ax a6
 have av:=a9.uX a6 c0 az
 have cL:=Gw.Jc bW a6 fun k hk=>by subst hk; omega
 have c7:=rB.1<|dV (d:=0) (show i < (aV F (flagsOf xs en) 1).length by omega)
 obtain ⟨r,Z⟩:∃ r,F.rules[(aV F (flagsOf xs en) 1).getD i 0]? =some r:=⟨_,cD c7.1⟩
 have cj:F.rules.getD ((aV F (flagsOf xs en) 1).getD i 0) eY=r:=by rw [cV,Z]; rfl
 have ai:=Dr (g:=ju F xs en word f s) 0 (show i < (aV F (flagsOf xs en) 1).length by omega)
 refine nl<|cq<|aC fun cs=>aC fun ct=> ?_
 have G:(fun w'=>Wk al w') al.drew:=(Md.refl _ _).drew
 refine bM (fun w'=>Wk al w') aa wide G<|bH 0 aa (aR mb) G<|aE 1 aa (fun _ _=>nc aa) G<|aE 2 aa (fun _ _=>fa sZ aa) G<|aE 3 aa (fun w' A=>ld o7 aa<|Wk.aQ A<|(a7 av.cells).trans aa) G<|bH 4 aa (aR mb) G<|aE 5 aa (fun _ _=>nc aa) G<|aE 6 aa (fun _ _=>fa uJ aa) G<|aE 7 aa (fun w' A=>ld lT aa<|Wk.aQ A<|(a7 av.cells).trans aa) G<|aE 8 aa (fun w' A=>c8 q5 aa (aa) fun j bz=>(Md.B A (oq ca) fun h=>h).bE j) G<|he 9 aa aj<|cl FW (Ie B tb aZ F xs K.ar K.cr K.rn aA en f s ((aV F (flagsOf xs en) 1).getD i 0:Nat) al.drew (I.cap _ _ _ _<|I.wk b3 G) ae ((a8 av.ru).2.wk G) av.rn ce hs<|.inr ab) aa fun dt cn cW=> ?_
 obtain ⟨rfl,bP⟩:=cW
 have aI:=G.trans bP
 have b4:=I.wk b3 aI
 have V:=av.wk aI
 have cc:=Wk.aM aI ca
 have bV:=cL.trans<|Gw.wk aI
 have b9:(fun w'=>Wk al w') cn:=G.trans bP
 refine ⟨b9,?_⟩
 refine aE 10 aa (fun _ _=>no aa) b9<|hn aj<|ct<|cb aa (fun bl=> ?_) fun bl=> ?_
 have bx:fy F xs en f s ((aV F (flagsOf xs en) 1).getD i 0:Nat)=false :=by simpa using bl
 have bM:=Gq (word:=word) bx
 rw [bM] at ai
 exact ext<|bf<|be<|ao<|rg aa<|p (ad aa aa<|bX ab)<|p mv<|nl<|tn<|⟨_,ab,i+1,U,aA,_,ab,(by rw [ai]; simpa using b4),V,cc,ax,bV,aa,aa,aa,aa,aa,aa,aa⟩
 have bx:fy F xs en f s ((aV F (flagsOf xs en) 1).getD i 0:Nat)=true :=by simpa using bl
 refine aO<|cs<|ag fun cu=>au (aR mb)<|p (nc aa)<|p (fa uJ aa)<|p (ld lT aa<|(a7 V.cells).trans aa)<|p mv<|p (ba m5 aa aa ab<|aJ.ok ((a8 V.ru).2)<|nQ (V.iL Z).choose_spec)<|p (c8 mU aa (aa)<|fw (f:=fz) (m:=7) (fun _=>rfl) (a8 V.ru).2 (V.iL Z).choose_spec)<|au (str word)<|e<|cl AI (z1 r (V.iL Z).choose word cn (nP ae Z).1 (nP ae Z).2.1 (nP ae Z).2.2.1 ab) aa fun v72 dl cX=> ?_
 obtain ⟨rfl,aH⟩:=cX
 have cO:=I.wk b4 aH
 have cR:=V.wk aH
 have bu:=Wk.aM aH cc
 have cM:=bV.trans<|Gw.wk aH
 refine p mv<|p (xt aa aa)<|p (xt aa aa)<|p aB<|ay<|cu<|aC fun cv=>rg aa<|p mv<|p (fa xX aa)<|e<|cJ kM aa aa (v:=str<|(dC r word).getD []) aa bu (by show 0 < 5; omega) fun bA a4 cH=> ?_
 have bp:bA.heap[a]? =some (.cells (eH ⟨((dC r word).getD []),en,f,s,((aV F (flagsOf xs en) 1).getD i 0:Nat)⟩).toArray 41 (0,0)):=cH
 have cZ:TF dl [43] (fun q=>q=a):=TF.eq (dw bu) az
 have b1:=I.wk (I.vg cO bu aS ax a4) (Md.refl _ _).drew
 have bb:=(cR.uX a4 cZ az).wk (Md.refl _ _).drew
 have bQ:=(Gw.Jc cM a4 fun k hk=>by subst hk; omega).trans<|Gw.wk (Md.refl _ _).drew
 refine nl<|cv<|aC fun bG=> ?_
 have E:(fun w'=>w'.heap[mb]? =some (.cells (nN tb M K F (en:Int) O<|aV F (flagsOf xs en) 1).toArray 183 (0,0))∧w'.heap[a]? =some (.cells (eH ⟨((dC r word).getD []),en,f,s,((aV F (flagsOf xs en) 1).getD i 0:Nat)⟩).toArray 41 (0,0))) bA.drew:=⟨bb.cells,bp⟩
 refine L1 (fun w'=>w'.heap[mb]? =some (.cells (nN tb M K F (en:Int) O<|aV F (flagsOf xs en) 1).toArray 183 (0,0))∧w'.heap[a]? =some (.cells (eH ⟨((dC r word).getD []),en,f,s,((aV F (flagsOf xs en) 1).getD i 0:Nat)⟩).toArray 41 (0,0))) aa wide E ?_
 refine yp 0 aa aj (fun _ _=>mv) E ?_
 refine yp 1 aa aj (fun _ _=>mv) E ?_
 refine LZ (t:=78) aa (fun bg=> ?_) fun bg=> ?_
 obtain ⟨v,ck⟩:∃ v,dC r word=some v:=oX.1 bg
 have bM:=Gr (word:=word) bx<|by rw [cj]; exact ck
 rw [bM] at ai
 have cm:(dC r word).getD []=v:=by rw [ck]; rfl
 refine nj 2 aa aj aa aa aa (fun _ _=>aU (aR mb) aa) E ?_
 refine nj 3 aa aj aa aa aa (fun _ _=>nc aa) E ?_
 refine nj 4 aa aj aa aa aa (fun _ _=>fa HL aa) E ?_
 refine nj 5 aa aj aa aa aa (fun w' A=>ld EG aa<|(a7 A.1).trans aa) E ?_
 refine nj 6 aa aj aa aa aa (fun w' A=>c8 q5 aa (aa) fun j bz=>(oq A.2).bE j) E ?_
 refine L2 7 aa aj aa aa aa aa aa (I.yl (pre++(kt F xs en word f s++((aV F (flagsOf xs en) 1).take i).filterMap (ju F xs en word f s))) ⟨(dC r word).getD [],en,f,s,((aV F (flagsOf xs en) 1).getD i 0:Nat)⟩ _ U bA.drew (Qo ch ab<|by rw [bM,cm]) b1) fun bJ dm cY=> ?_
 obtain ⟨bN,ah,a2⟩:=cY
 have b7:=bb.gw a2
 have bt:=a2.aM bp aS ax
 have bU:=bQ.trans a2
 rw [cm] at ah
 have ci:(kt F xs en word f s++((aV F (flagsOf xs en) 1).take i).filterMap (ju F xs en word f s))++ [⟨v,en,f,s,((aV F (flagsOf xs en) 1).getD i 0:Nat)⟩]=kt F xs en word f s++((aV F (flagsOf xs en) 1).take<|i+1).filterMap (ju F xs en word f s):=by rw [ai,dF]; rfl
 rw [dF pre,ci] at ah
 have bc:(fun w'=>w'.heap[mb]? =some (.cells (nN tb M K F (en:Int) O<|aV F (flagsOf xs en) 1).toArray 183 (0,0))∧w'.heap[a]? =some (.cells (eH ⟨((dC r word).getD []),en,f,s,((aV F (flagsOf xs en) 1).getD i 0:Nat)⟩).toArray 41 (0,0))) dm:=⟨b7.cells,bt.1⟩
 refine ⟨bc,?_⟩
 refine nj 8 aa aj aa aa aa (fun _ _=>no aa) bc ?_
 refine yp 9 aa aj (fun _ _=>bB aa) bc ?_
 refine yn aj ?_
 refine bG<|cb aa (fun bm=> ?_) fun bm=> ?_
 refine ag fun cw=>ay<|cw<|rt<|br<|tr<|tr<|br<|tr<|aX aa ?_
 have bj:bJ=false :=by simpa using bm
 rw [bj] at ah
 exact ⟨false,_,bN,aa,ah,bU,(by unfold eD; exact JU<|S2 _ _),fun h=>by cases h⟩
 exact aO<|bn<|ao<|rg aa<|p (ad aa aa<|bX ab)<|p mv<|nl<|tn<|⟨_,ab,i+1,bN,_,_,ab,((by have bj:bJ=true :=(by simpa using bm); rw [bj] at ah; exact ah)),b7,bt.1,bt.2,bU,aa,aa,aa,aa,aa,aa,aa⟩
 have bM:=Gp (xs:=xs) (e:=en) (f:=f) (s:=s) (word:=word) (p:=(aV F (flagsOf xs en) 1).getD i 0)<|by rw [cj]; simpa using bg
 rw [bM] at ai
 refine l9 2 aa aj aa aa aa aa E ?_
 refine l9 3 aa aj aa aa aa aa E ?_
 refine l9 4 aa aj aa aa aa aa E ?_
 refine l9 5 aa aj aa aa aa aa E ?_
 refine l9 6 aa aj aa aa aa aa E ?_
 refine l9 7 aa aj aa aa aa aa E ?_
 refine l9 8 aa aj aa aa aa aa E ?_
 refine yp 9 aa aj (fun _ _=>bq aa) E ?_
 refine yn aj ?_
 refine bG<|cf aa<|aO<|bn<|ao<|rg aa<|p (ad aa aa<|bX ab)<|p mv ?_
 exact nl<|tn<|⟨_,ab,i+1,U,_,_,ab,(by rw [ai]; simpa using b1),bb,bp,ax,bQ,aa,aa,aa,aa,aa,aa,aa⟩
 refine ext<|bf<|bf<|be<|aY<|ag fun ao=>p aB<|nl<|ao<|rt<|aX aa ?_
 rw [eN ab] at a3
 exact ⟨true,_,U,aa,a3,bW,El _,fun _=>rfl⟩
set_option maxHeartbeats 4000000 in
theorem Xp (B tb:Nat) (an:iX) (F:aT) (xs:List bF) (a:eW F xs) (ai S0 mb:Nat) (ao:List bZ) (O:Bool→List bZ→(Nat→Prop)→World→Prop) (E:Yc aw ai S0 pq ao (fun W=>fT W B tb an F xs) O) (K:sn) (pre:List bZ) (fp:Nat→Prop) (en:Nat) (x:bF) (w:World) (az:jF w fp S0 mb tb ai K F (en:Int) x.1 (aV F (flagsOf xs en) 1)) (cY:O true pre fp w) (cy:xs[en]? =some x) (tl:List bZ) (cq:ao=pre++(lH F xs en++tl)):
 bo aw 79 (bh [aR mb]) w (fun v w'=> ∃ b q fp',v= .bool b∧O b (pre++q) fp' w'∧Gw S0 fp w fp' w'∧q <+:lH F xs en∧(b=true→q=lH F xs en)):=by
 obtain ⟨dJ,dK,dL,a9⟩:=sB cy
 have a2:lH F xs en=eD F xs en x.1 (-1) (-1)++(aV F (flagsOf xs en) 2).flatMap (fW F xs en):=by unfold lH; rw [a9]
 have dS:=(a.uA x<|iP cy).1
 have dP:=a.len
 have dM:S0≤w.heap.size:=by have :=az.lo; have :=(cQ.1 az.cells).1; omega
 have dN:=rE F (flagsOf xs (en:Int)) 2
 refine enter func79 aa ntmps79 aa<|ag fun cA=>ay<|cA<|aC fun cL=>ag fun cO=>au (aR mb)<|au (aR mb)<|p (nc aa)<|p (fa BG aa)<|p (ld bU aa<|(a7 az.cells).trans aa)<|e<|cl Ah (AP B tb an F xs a ai S0 mb ao O E K (en:Int) x.1 _ pre fp en x.1 (-1) (-1) w az cY aa aa (.inl aa) (.inl aa) ab ((aV F (flagsOf xs en) 2).flatMap (fW F xs en)++tl)<|by rw [cq,a2,dF]) aa fun dX aF c4=> ?_
 obtain ⟨bT,dD,bb,rfl,a0,aY,dk,dl⟩:=c4
 have bl:=az.gw aY
 refine p (no aa)<|nl<|cO<|cb aa (fun bt=> ?_) fun bt=> ?_
 obtain rfl :bT=false :=by simpa using bt
 exact ag fun a6=>ay<|a6<|rt<|tr<|aX aa<|⟨false,dD,bb,aa,a0,aY,(by rw [a2]; exact dk.trans<|wm _ _),fun h=>by cases h⟩
 obtain rfl :bT=true :=by simpa using bt
 obtain rfl :=dl rfl
 refine aO<|cL<|aC fun a6=>aC fun cP=> ?_
 have A:(fun w'=>Wk aF w') aF.drew:=(Md.refl _ _).drew
 refine bM (fun w'=>Wk aF w') aa wide A<|bH 0 aa (aR mb) A<|aE 1 aa (fun _ _=>nc aa) A<|aE 2 aa (fun _ _=>fa sZ aa) A<|aE 3 aa (fun w' M=>ld o7 aa<|Wk.aQ M<|(a7 bl.cells).trans aa) A<|bH 4 aa (aR mb) A<|aE 5 aa (fun _ _=>nc aa) A<|aE 6 aa (fun _ _=>fa BE aa) A<|aE 7 aa (fun w' M=>ld bC aa<|Wk.aQ M<|(a7 bl.cells).trans aa) A<|aE 10 aa (fun _ _=>mv) A<|he 8 aa aj<|cl P3 (Ye B tb an F xs (en:Int) aF.drew (E.cap _ _ _ _<|E.wk a0 A) a) aa fun dY dE c5=> ?_
 obtain ⟨bD,b0⟩:=c5
 obtain ⟨ae,ah,rfl⟩:=cC bD
 have bd:=A.trans b0
 have c0:=E.wk a0 bd
 have c3:=bl.wk bd
 have cX:=aY.trans<|Gw.wk bd
 have dT:=A.size
 have de:∀ q,(bR ae (aV F (flagsOf xs en) 2).length ah).ownBlock=some q→¬bb q:=fun q bJ h=>by have h1:=(dG bD bJ).1; have h2:=E.lt _ _ _ _ a0 q h; omega
 have di:=ew bD (show S0≤_ by have :=aY.size; omega)
 have ca:(fun w'=>Wk aF w') dE:=A.trans b0
 refine ⟨ca,?_⟩
 refine aE 9 aa (fun _ _=>bK ng aa aa) ca<|hn aj<|cP<|aM<|lp (fun ar aG G=> ∃ (i:Nat) (U:Nat→Prop),(i≤(aV F (flagsOf xs en) 2).length)∧(O true (pre++(eD F xs en x.1 (-1) (-1)++((aV F (flagsOf xs en) 2).take i).flatMap (fW F xs en))) U G)∧(jF G U S0 mb tb ai K F (en:Int) x.1<|aV F (flagsOf xs en) 1)∧(bu G S0 3 1 (.slice ae (aV F (flagsOf xs en) 2).length ah) (aV F (flagsOf xs en) 2).length<|(aV F (flagsOf xs en) 2).map bP)∧(∀ q,(bR ae (aV F (flagsOf xs en) 2).length ah).ownBlock=some q→¬U q)∧(Gw S0 fp w U G)∧(aG 0=aR mb)∧(aG 26= .slice ae (aV F (flagsOf xs en) 2).length ah)∧(aG 27=ak ((aV F (flagsOf xs en) 2).length))∧(aG 28=ak i)∧((aV F (flagsOf xs en) 2).length - i=ar)) _ ⟨0,bb,ab,(by simpa using c0),c3,di,de,cX,aa,aa,aa,aa,aa⟩ ?_
 rintro ar aG G ⟨i,U,hi,bj,V,bG,cg,b5,dm,dn,dp,dq,rfl⟩
 refine fx 0 dm<|fx 26 dn<|fx 27 dp<|fx 28 dq<|ag fun cR=>p (lt aa aa)<|nl<|cR<|aC fun cS=>cd aa (fun dc=> ?_) fun dc=> ?_
 refine aO<|cS<|aC fun aK=>aM<|ag fun cT=>p (ba kb aa aa ab<|aJ.ok ((a8 bG).2)<|bS ab)<|p (ld bC aa<|aJ.gL (i:=i) (a8 bG).2<|m9 ab)<|ay<|cT<|aC fun cB=> ?_
 have dA:=rB.1<|dV (d:=0) (show i < (aV F (flagsOf xs en) 2).length by omega)
 obtain ⟨r,Z⟩:∃ r,F.rules[((aV F (flagsOf xs en) 2).getD i 0)]? =some r:=⟨_,cD dA.1⟩
 have cv:F.rules.getD ((aV F (flagsOf xs en) 2).getD i 0) eY=r:=by rw [cV,Z]; rfl
 have bL:=uD (g:=fW F xs en) 0 (show i < (aV F (flagsOf xs en) 2).length by omega)
 have C:(fun w'=>Wk G w') G.drew:=(Md.refl _ _).drew
 refine bM (fun w'=>Wk G w') aa wide C<|bH 0 aa (aR mb) C<|aE 1 aa (fun _ _=>nc aa) C<|aE 2 aa (fun _ _=>fa uJ aa) C<|aE 3 aa (fun w' M=>ld lT aa<|Wk.aQ M<|(a7 V.cells).trans aa) C<|aE 4 aa (fun _ _=>mv) C<|aE 5 aa (fun _ _=>ba m5 aa aa ab<|aJ.ok ((a8 V.ru).2)<|nQ (V.iL Z).choose_spec) C<|aE 6 aa (fun w' M=>c8 mU aa (aa) fun j dg=>fw (f:=fz) (m:=7) (fun _=>rfl) ((a8 V.ru).2.wk M) (V.iL Z).choose_spec j dg) C<|bH 7 aa (aR mb) C<|aE 8 aa (fun _ _=>nc aa) C<|aE 9 aa (fun _ _=>fa BG aa) C<|aE 10 aa (fun w' M=>ld bU aa<|Wk.aQ M<|(a7 V.cells).trans aa) C<|he 11 aa aj<|cl AI (z1 r (V.iL Z).choose x.1 G.drew (nP a Z).1 (nP a Z).2.1 (nP a Z).2.2.1 ab) aa fun dZ cz c6=> ?_
 obtain ⟨rfl,b1⟩:=c6
 have aS:=C.trans b1
 have b8:=E.wk bj aS
 have bp:=V.wk aS
 have b4:=b5.trans<|Gw.wk aS
 have ck:=aW bG aS
 have ap:(fun w'=>Wk G w') cz:=C.trans b1
 refine ⟨ap,?_⟩
 refine aE 12 aa (fun _ _=>mv) ap<|aE 13 aa (fun _ _=>xt aa aa) ap<|aE 14 aa (fun _ _=>xt aa aa) ap<|aE 15 aa (fun _ _=>aB) ap<|aE 16 aa (fun _ _=>aB) ap<|hn aj<|cB<|aC fun cE=>ag fun cF=>p mv<|p (no aa)<|nl<|cF<|cb aa (fun bv=> ?_) fun bv=> ?_
 have aA:dC r x.1=none:=by simpa using bv
 have bM:fW F xs en ((aV F (flagsOf xs en) 2).getD i 0)= []:=by unfold fW; rw [cv,a9,aA]
 rw [bM,ek] at bL
 exact ext<|bf<|be<|aK<|rg aa<|p (ad aa aa<|bX ab)<|p mv<|nl<|tn<|⟨_,ab,i+1,U,ab,(by rw [bL]; exact b8),bp,ck,cg,b4,aa,aa,aa,aa,aa⟩
 obtain ⟨wd,aA⟩:∃ v,dC r x.1=some v:=oX.1<|by simpa using bv
 have aq:((dC r x.1).getD [])=wd:=by rw [aA]; rfl
 have bM:fW F xs en ((aV F (flagsOf xs en) 2).getD i 0)=eD F xs en wd (((aV F (flagsOf xs en) 2).getD i 0):Nat) (-1)++(aV F (cW F (((aV F (flagsOf xs en) 2).getD i 0):Nat)) 2).flatMap (ji F xs en wd (((aV F (flagsOf xs en) 2).getD i 0):Nat)):=by unfold fW; rw [cv,a9,aA]
 have dR:=(qa (nP a Z).2.2.2 aA).2
 have bz:lH F xs en=(eD F xs en x.1 (-1) (-1)++((aV F (flagsOf xs en) 2).take i).flatMap (fW F xs en))++(fW F xs en ((aV F (flagsOf xs en) 2).getD i 0)++((aV F (flagsOf xs en) 2).drop<|i+1).flatMap (fW F xs en)):=by rw [a2,HA 0 (show i < (aV F (flagsOf xs en) 2).length by omega),dF]
 have cc:ao=(pre++(eD F xs en x.1 (-1) (-1)++((aV F (flagsOf xs en) 2).take i).flatMap (fW F xs en)))++(fW F xs en ((aV F (flagsOf xs en) 2).getD i 0)++(((aV F (flagsOf xs en) 2).drop<|i+1).flatMap (fW F xs en)++tl)):=by rw [cq,bz]; simp only [dF]
 refine aO<|cE<|aC fun cG=>ag fun cH=>au (aR mb)<|p mv<|p mv<|e<|cl Ah (AP B tb an F xs a ai S0 mb ao O E K (en:Int) x.1 _ (pre++(eD F xs en x.1 (-1) (-1)++((aV F (flagsOf xs en) 2).take i).flatMap (fW F xs en))) U en ((dC r x.1).getD []) ((((aV F (flagsOf xs en) 2).getD i 0):Nat):Int) (-1) cz bp b8 aa aa (.inr ab) (.inl aa) (by rw [aq]; omega) ((aV F (cW F (((aV F (flagsOf xs en) 2).getD i 0):Nat)) 2).flatMap (ji F xs en wd (((aV F (flagsOf xs en) 2).getD i 0):Nat))++(((aV F (flagsOf xs en) 2).drop<|i+1).flatMap (fW F xs en)++tl))<|by rw [aq,cc,bM]; simp only [dF]) aa fun d0 dH c7=> ?_
 obtain ⟨bV,dU,bc,rfl,ax,bi,cr,cs⟩:=c7
 rw [aq] at cr cs
 have b9:=bp.gw bi
 have bg:=b4.trans bi
 have cm:=bi.own ck cg
 refine p (no aa)<|nl<|cH<|cb aa (fun bw=> ?_) fun bw=> ?_
 obtain rfl :bV=false :=by simpa using bw
 refine ag fun a5=>ay<|a5<|rt<|tr<|br<|tr<|tr<|br<|tr<|aX aa ?_
 rw [dF] at ax
 exact ⟨false,_,bc,aa,ax,bg,CT bz (by rw [bM]; exact cr.trans<|wm _ _),fun h=>by cases h⟩
 obtain rfl :bV=true :=by simpa using bw
 obtain rfl :=cs rfl
 refine aO<|cG<|ag fun a5=>au (aR mb)<|p (nc aa)<|p (fa sZ aa)<|p (ld o7 aa<|(a7 b9.cells).trans aa)<|p mv<|e<|cl P4 (Xr B tb an F xs (((aV F (flagsOf xs en) 2).getD i 0):Nat) dH (E.cap _ _ _ _ ax) a) aa fun v59 d3 c9=> ?_
 obtain ⟨bE,aP⟩:=c9
 obtain ⟨aL,aN,rfl⟩:=cC bE
 have cZ:=E.wk ax aP
 have c1:=b9.wk aP
 have cU:=bg.trans<|Gw.wk aP
 have dh:=aW cm.1 aP
 have df:∀ q,(bR aL (aV F (cW F (((aV F (flagsOf xs en) 2).getD i 0):Nat)) 2).length aN).ownBlock=some q→¬bc q:=fun q bJ h=>by have h1:=(dG bE bJ).1; have h2:=E.lt _ _ _ _ ax q h; omega
 have dj:=ew bE (show S0≤_ by have :=bg.size; omega)
 have dO:=rE F (cW F (((aV F (flagsOf xs en) 2).getD i 0):Nat)) 2
 refine p (bK ng aa aa)<|p mv<|nl<|a5<|aM<|lp (fun ar I am=> ∃ (k:Nat) (J:Nat→Prop),(k≤(aV F (cW F (((aV F (flagsOf xs en) 2).getD i 0):Nat)) 2).length)∧(O true ((pre++(eD F xs en x.1 (-1) (-1)++((aV F (flagsOf xs en) 2).take i).flatMap (fW F xs en)))++(eD F xs en wd (((aV F (flagsOf xs en) 2).getD i 0):Nat) (-1)++((aV F (cW F (((aV F (flagsOf xs en) 2).getD i 0):Nat)) 2).take k).flatMap (ji F xs en wd (((aV F (flagsOf xs en) 2).getD i 0):Nat)))) J am)∧(jF am J S0 mb tb ai K F (en:Int) x.1<|aV F (flagsOf xs en) 1)∧(bu am S0 3 1 (.slice ae (aV F (flagsOf xs en) 2).length ah) (aV F (flagsOf xs en) 2).length<|(aV F (flagsOf xs en) 2).map bP)∧(∀ q,(bR ae (aV F (flagsOf xs en) 2).length ah).ownBlock=some q→¬J q)∧(bu am S0 3 1 (.slice aL (aV F (cW F (((aV F (flagsOf xs en) 2).getD i 0):Nat)) 2).length aN) (aV F (cW F (((aV F (flagsOf xs en) 2).getD i 0):Nat)) 2).length<|(aV F (cW F (((aV F (flagsOf xs en) 2).getD i 0):Nat)) 2).map bP)∧(∀ q,(bR aL (aV F (cW F (((aV F (flagsOf xs en) 2).getD i 0):Nat)) 2).length aN).ownBlock=some q→¬J q)∧(Gw S0 fp w J am)∧(I 0=aR mb)∧(I 4= .int .i64 (((aV F (flagsOf xs en) 2).getD i 0):Nat))∧(I 5=str ((dC r x.1).getD []))∧(I 26= .slice ae (aV F (flagsOf xs en) 2).length ah)∧(I 27=ak ((aV F (flagsOf xs en) 2).length))∧(I 28=ak i)∧(I 59= .slice aL (aV F (cW F (((aV F (flagsOf xs en) 2).getD i 0):Nat)) 2).length aN)∧(I 60= .int .i64 ((aV F (cW F (((aV F (flagsOf xs en) 2).getD i 0):Nat)) 2).length:Nat))∧(I 61=ak k)∧((aV F (cW F (((aV F (flagsOf xs en) 2).getD i 0):Nat)) 2).length - k=ar)) _ ⟨0,bc,ab,(by simpa using cZ),c1,dh,cm.2,dj,df,cU,aa,aa,aa,aa,aa,aa,aa,aa,aa,aa⟩ ?_
 rintro ar I am ⟨k,J,hk,bk,Y,cn,bA,bI,ch,b6,dr,dv,dw,ds,dt,du,dx,dy,dz,rfl⟩
 refine fx 0 dr<|fx 4 dv<|fx 5 dw<|fx 26 ds<|fx 27 dt<|fx 28 du<|fx 59 dx<|fx 60 dy<|fx 61 dz<|ag fun cI=>p (lt aa aa)<|nl<|cI<|aC fun cJ=>cd aa (fun dd=> ?_) fun dd=> ?_
 refine aO<|cJ<|aC fun bO=>aM<|ag fun cK=>p (ba kb aa aa ab<|aJ.ok ((a8 bI).2)<|bS ab)<|p (ld bC aa<|aJ.gL (i:=k) (a8 bI).2<|m9 ab)<|ay<|cK<|aC fun cM=> ?_
 have dB:=rB.1<|dV (d:=0) (show k < (aV F (cW F (((aV F (flagsOf xs en) 2).getD i 0):Nat)) 2).length by omega)
 obtain ⟨al,ac⟩:∃ r,F.rules[((aV F (cW F (((aV F (flagsOf xs en) 2).getD i 0):Nat)) 2).getD k 0)]? =some r:=⟨_,cD dB.1⟩
 have cw:F.rules.getD ((aV F (cW F (((aV F (flagsOf xs en) 2).getD i 0):Nat)) 2).getD k 0) eY=al:=by rw [cV,ac]; rfl
 have a3:=uD (g:=ji F xs en wd (((aV F (flagsOf xs en) 2).getD i 0):Nat)) 0 (show k < (aV F (cW F (((aV F (flagsOf xs en) 2).getD i 0):Nat)) 2).length by omega)
 refine rg aa<|au (aR mb)<|p (nc aa)<|p (fa uJ aa)<|p (ld lT aa<|(a7 Y.cells).trans aa)<|p mv<|p (ba m5 aa aa ab<|aJ.ok ((a8 Y.ru).2)<|nQ (Y.iL ac).choose_spec)<|p (c8 mU aa (aa)<|fw (f:=fz) (m:=7) (fun _=>rfl) (a8 Y.ru).2 (Y.iL ac).choose_spec)<|au (str<|(dC r x.1).getD [])<|e<|cl AI (z1 al (Y.iL ac).choose ((dC r x.1).getD []) am (nP a ac).1 (nP a ac).2.1 (nP a ac).2.2.1<|by rw [aq]; omega) aa fun d1 dI da=> ?_
 obtain ⟨rfl,av⟩:=da
 have b7:=E.wk bk av
 have bm:=Y.wk av
 have b2:=b6.trans<|Gw.wk av
 have ci:=aW cn av
 have co:=aW bI av
 refine p mv<|p (xt aa aa)<|p (xt aa aa)<|p aB<|ay<|cM<|aC fun bQ=>rg aa<|p mv<|p mv<|gb (t:=78) aa (fun bs=> ?_) fun bs=> ?_
 obtain ⟨v2,cx⟩:∃ v,dC al ((dC r x.1).getD [])=some v:=oX.1 bs
 have bN:(dC al<|(dC r x.1).getD []).getD []=v2:=by rw [cx]; rfl
 have a4:dC al wd=some v2:=by rw [← aq]; exact cx
 have aD:ji F xs en wd (((aV F (flagsOf xs en) 2).getD i 0):Nat) ((aV F (cW F (((aV F (flagsOf xs en) 2).getD i 0):Nat)) 2).getD k 0)=eD F xs en v2 (((aV F (flagsOf xs en) 2).getD i 0):Nat) (((aV F (cW F (((aV F (flagsOf xs en) 2).getD i 0):Nat)) 2).getD k 0):Nat):=by unfold ji; rw [cw,a4]
 have dQ:=(qa (nP a ac).2.2.2 a4).2
 have ce:fW F xs en ((aV F (flagsOf xs en) 2).getD i 0)=(eD F xs en wd (((aV F (flagsOf xs en) 2).getD i 0):Nat) (-1)++((aV F (cW F (((aV F (flagsOf xs en) 2).getD i 0):Nat)) 2).take k).flatMap (ji F xs en wd (((aV F (flagsOf xs en) 2).getD i 0):Nat)))++(ji F xs en wd (((aV F (flagsOf xs en) 2).getD i 0):Nat) ((aV F (cW F (((aV F (flagsOf xs en) 2).getD i 0):Nat)) 2).getD k 0)++((aV F (cW F (((aV F (flagsOf xs en) 2).getD i 0):Nat)) 2).drop<|k+1).flatMap (ji F xs en wd (((aV F (flagsOf xs en) 2).getD i 0):Nat))):=by rw [bM,HA (g:=ji F xs en wd (((aV F (flagsOf xs en) 2).getD i 0):Nat)) 0 (show k < (aV F (cW F (((aV F (flagsOf xs en) 2).getD i 0):Nat)) 2).length by omega),dF]
 refine aI aa (aU (aR mb) aa)<|aI aa mv<|aI aa (aU (.int .i64 (((aV F (flagsOf xs en) 2).getD i 0):Nat)) aa)<|aI aa mv<|eg aa aa aa<|cl Ah (AP B tb an F xs a ai S0 mb ao O E K (en:Int) x.1 _ ((pre++(eD F xs en x.1 (-1) (-1)++((aV F (flagsOf xs en) 2).take i).flatMap (fW F xs en)))++(eD F xs en wd (((aV F (flagsOf xs en) 2).getD i 0):Nat) (-1)++((aV F (cW F (((aV F (flagsOf xs en) 2).getD i 0):Nat)) 2).take k).flatMap (ji F xs en wd (((aV F (flagsOf xs en) 2).getD i 0):Nat)))) J en ((dC al<|(dC r x.1).getD []).getD []) ((((aV F (flagsOf xs en) 2).getD i 0):Nat):Int) ((((aV F (cW F (((aV F (flagsOf xs en) 2).getD i 0):Nat)) 2).getD k 0):Nat):Int) dI bm b7 aa aa (.inr ab) (.inr ab) (by rw [bN]; omega) (((aV F (cW F (((aV F (flagsOf xs en) 2).getD i 0):Nat)) 2).drop<|k+1).flatMap (ji F xs en wd (((aV F (flagsOf xs en) 2).getD i 0):Nat))++(((aV F (flagsOf xs en) 2).drop<|i+1).flatMap (fW F xs en)++tl))<|by rw [bN,cc,ce,aD]; simp only [dF]) aa fun d2 d4 db=> ?_
 obtain ⟨bW,dW,bY,rfl,a1,aZ,ct,cu⟩:=db
 rw [bN] at ct cu
 have c2:=bm.gw aZ
 have b3:=b2.trans aZ
 have cj:=aZ.own ci bA
 have cp:=aZ.own co ch
 refine aI aa (no aa)<|p (bB aa)<|nl<|bQ<|cb aa (fun bx=> ?_) fun bx=> ?_
 obtain rfl :bW=false :=by simpa using bx
 refine ag fun cN=>ay<|cN<|rt<|br<|tr<|tr<|br<|br<|tr<|tr<|br<|tr<|aX aa ?_
 rw [dF,dF] at a1
 exact ⟨false,_,bY,aa,a1,b3,CT bz (CT ce<|by rw [aD]; exact ct),fun h=>by cases h⟩
 obtain rfl :bW=true :=by simpa using bx
 obtain rfl :=cu rfl
 rw [aD] at a3
 exact aO<|bn<|bO<|rg aa<|p (ad aa aa<|bX ab)<|p mv<|nl<|tn<|⟨_,ab,k+1,bY,ab,(by rw [a3,← dF (eD F xs en wd (((aV F (flagsOf xs en) 2).getD i 0):Nat)<|-1)]; rw [dF] at a1; exact a1),c2,cj.1,cj.2,cp.1,cp.2,b3,aa,aa,aa,aa,aa,aa,aa,aa,aa,aa⟩
 have a4:dC al wd=none:=by rw [← aq]; simpa using bs
 have aD:ji F xs en wd (((aV F (flagsOf xs en) 2).getD i 0):Nat) ((aV F (cW F (((aV F (flagsOf xs en) 2).getD i 0):Nat)) 2).getD k 0)= []:=by unfold ji; rw [cw,a4]
 rw [aD,ek] at a3
 refine aH aa<|aH aa<|aH aa<|aH aa<|aH aa<|aH aa<|p (bq aa)<|nl<|bQ<|cf aa<|aO<|bn<|bO<|rg aa<|p (ad aa aa<|bX ab)<|p mv ?_
 exact nl<|tn<|⟨_,ab,k+1,J,ab,(by rw [a3]; exact b7),bm,ci,bA,co,ch,b2,aa,aa,aa,aa,aa,aa,aa,aa,aa,aa⟩
 exact ext<|bf<|bf<|be<|bn<|aK<|rg aa<|p (ad aa aa<|bX ab)<|p mv<|nl<|tn<|⟨_,ab,i+1,J,ab,(by rw [bL,bM]; rw [eN (show (aV F (cW F (((aV F (flagsOf xs en) 2).getD i 0):Nat)) 2).length≤k by omega),dF] at bk; rw [← dF (eD F xs en x.1 (-1)<|-1)]; exact bk),Y,cn,bA,b6,aa,aa,aa,aa,aa⟩
 refine ext<|bf<|bf<|be<|a6<|ag fun aK=>p aB<|nl<|aK<|rt<|aX aa ?_
 rw [eN ab,← a2] at bj
 exact ⟨true,_,U,aa,bj,b5,El _,fun _=>rfl⟩
end Go.Hb
namespace Go.Hb.sh
noncomputable def fj (F:aT) (xs:List bF) (n:Int):List bZ:=if 0≤n∧n < xs.length then lH F xs n.toNat else []
theorem uv {F:aT} {xs:List bF} {k:Nat} (h:k < xs.length):fj F xs k=lH F xs k:=by unfold fj; rw [if_pos ab,mM]
theorem A2 {F:aT} {xs:List bF} {n:Int} (h:¬(0≤n∧n < xs.length)):fj F xs n= []:=if_neg h
def jP (W:World) (b:Nat) (a:Option Addr):Prop :=W.heap[b]? =some (.cells [.pointer a].toArray 22 (0,0))
def gK (W:World) (b:Nat) (n:Int):Prop :=W.heap[b]? =some (.cells [.int .i64 n].toArray 3 (0,0))
theorem Oh (B tb:Nat) (i:iX) (F:aT) (xs:List bF) (a S0:Nat) (w:World) (E:fT w B tb i F xs) (A:eW F xs) (U:S0≤w.heap.size):
 bo aw 41 (bh [aR tb,.func (.yield a) #[] #[]]) w (fun v w'=> ∃ mb K,v=aR mb∧jF w' (fun _=>False) S0 mb tb a K F 0 [] []∧Wk w w'):=by
 refine enter func41 aa ntmps41 aa<|ag fun G=>ay<|G<|ag fun I=>au (aR tb)<|au (aR tb)<|p (nc aa)<|p (fa BM aa)<|p (ld gl aa<|(a7 E.cells).trans aa)<|e<|cl As (zQ B i.fb i.mc F i.V w E.fl (by have :=A.len; omega) A.nx) aa fun v10 ae O=> ?_
 obtain ⟨⟨⟨v9,v10,v11,v12,sa,rn⟩,rfl,hax⟩,hE10⟩:=O
 obtain ⟨ar,cr,q⟩:=cC hax.dD
 have q:v12=_:=q
 subst q
 have ac:=hE10.size
 have Y:rn.length=F.rules.length:=by have :=hax.nx.1; rwa [List.length_map] at this
 exact p (SK SL aa aa)<|au (.func (.yield a) #[] #[])<|p (cU (ps:= [(0,aR tb),(1,.slice ar F.rules.length cr),(5,.func (.yield a) #[] #[])]) (L:= [aR tb,.slice ar F.rules.length cr,.int .i64 0,.string ⟨⟨[]⟩⟩,.slice none 0 0,.func (.yield a) #[] #[]]) XY aa<|aa)<|e<|ot aa fun J ah Z C M=>ay<|I<|rt<|aX aa<|⟨J,⟨ar,cr,rn,none,0⟩,aa,⟨ab,M,id,aW (ew hax.dD U) C.md,fun _ _=>id,Y,dx _ _ _ _,fun _ _=>id⟩,hE10.trans C.md⟩
theorem yA (B tb:Nat) (Z:iX) (F:aT) (xs:List bF) (au:eW F xs) (E S0 mb:Nat) (ap:List bZ) (Y:Bool→List bZ→(Nat→Prop)→World→Prop) (A:Yc aw E S0 pq ap (fun W=>fT W B tb Z F xs) Y) (K:sn) (aN:Int) (aM:Tx) (ps:List Nat) (pre:List bZ) (fp:Nat→Prop) (n:Int) (w:World) (U:jF w fp S0 mb tb E K F aN aM ps) (ax:Y true pre fp w) (tl:List bZ) (bI:ap=pre++(fj F xs n++tl)):
 bo aw 42 (bh [aR mb,.int .i64 n]) w (fun v w'=> ∃ b q fp' bc bg bP bL,v= .bool b∧Y b (pre++q) fp' w'∧jF w' fp' S0 mb tb E bc F bg bP bL∧q <+:fj F xs n∧(b=true→q=fj F xs n)):=by
 have bX:=A.lt _ _ _ _ ax
 have bB:=A.cap _ _ _ _ ax
 have bV:S0≤w.heap.size:=by have :=U.lo; have :=(cQ.1 U.cells).1; omega
 refine enter func42 aa ntmps42 aa<|ag fun a6=>ay<|a6<|ag fun a8=>p mv<|p (nc aa)<|p (fa sZ aa)<|p (ld o7 aa<|(a7 U.cells).trans aa)<|p mv<|e<|cl qh (xD B tb Z F xs n w bB au) aa fun b2 b4 bw=> ?_
 obtain ⟨⟨bQ,rfl,bD⟩,hE13⟩:=bw
 obtain ⟨I,J,rfl⟩:=cC bD
 have b0:=hE13.size
 refine p mv<|p (xt aa aa)<|p (xt aa aa)<|e<|al qL fun C b6 a0 aY bn=> ?_
 have b1:=aY.size
 refine e<|da ku aa aa aa aa (bn) (by simp) fun G bv bj=> ?_
 have av:Wk w G:=(hE13.trans aY.md).trans' bv fun q am h=>by omega
 have a0:bO G.heap C [str (ky xs n),.slice I (flagsOf xs n).length J]:=bj
 have aP:=A.wk ax av
 have aS:=U.wk av
 have bY:=av.size
 refine ay<|a8<|aC fun a9=>ag fun ba=>p mv<|p (no aa)<|nl<|ba<|cb aa (fun V=> ?_) fun V=> ?_
 have bH:¬(0≤n∧n < xs.length):=fun h=>by rw [decide_eq_true h] at V; cases V
 exact ag fun ao=>ay<|ao<|rt<|tr<|aX aa<|⟨true,[],fp,K,aN,aM,ps,aa,by rw [ek]; exact aP,aS,List.nil_prefix,fun _=>(A2 bH).symm⟩
 have bW:0≤n∧n < xs.length:=Classical.byContradiction fun h=>by rw [decide_eq_false h] at V; cases V
 obtain ⟨k,rfl⟩:∃ k:Nat,n=(k:Int):=⟨n.toNat,ab⟩
 obtain ⟨x,a2⟩:∃ x,xs[k]? =some x:=⟨_,cD ab⟩
 obtain ⟨bf,bS,aq,bT⟩:=sB a2
 have aA:=A.wk aP (Md.refl (fun _=>False) G).drew
 have aU:=aS.wk (Md.refl (fun _=>False) G).drew
 have aH:C≠mb:=fun h=>by have :=(cQ.1 U.cells).1; omega
 refine aO<|a9<|aC fun ao=> ?_
 have i:(fun w'=>bO w'.heap C [str (ky xs (k:Int)),.slice I (flagsOf xs (k:Int)).length J]∧Hb.aQ w'.heap mb 0=some (aR tb)) G.drew:=⟨a0,(a7 aU.cells).trans rfl⟩
 refine bM (fun w'=>bO w'.heap C [str (ky xs (k:Int)),.slice I (flagsOf xs (k:Int)).length J]∧Hb.aQ w'.heap mb 0=some (aR tb)) aa wide i<|aE 0 aa (fun _ _=>mv) i<|aE 1 aa (fun _ _=>mv) i<|aE 2 aa (fun _ _=>mv) i<|aE 3 aa (fun _ _=>mv) i<|aE 4 aa (fun _ _=>fa BO aa) i<|aE 5 aa (fun w' aG=>ld bU aa<|aG.1.bE 0) i<|aE 6 aa (fun _ _=>mv) i<|aE 7 aa (fun _ _=>nc aa) i<|aE 8 aa (fun _ _=>fa sZ aa) i<|aE 9 aa (fun w' aG=>ld o7 aa<|aG.2) i<|aE 10 aa (fun _ _=>mv) i<|he 11 aa aj<|cl P5 (Wv B tb Z F xs (k:Int) G.drew (A.cap _ _ _ _ aA) au) aa fun b3 a3 bx=> ?_
 obtain ⟨aL,ac⟩:=bx
 obtain ⟨M,O,rfl⟩:=cC aL
 have br:=A.wk aA ac
 have a:=aU.wk ac
 have bC:∀ q,(bR M (aV F (flagsOf xs (k:Int)) 1).length O).ownBlock=some q→¬fp q:=fun q am h=>by have h1:=(dG aL am).1; have h2:=A.lt _ _ _ _ aA q h; omega
 have bG:=ew aL (show S0≤_ by have :G.heap.size≤G.drew.heap.size:=cB _; omega)
 have ae:(fun w'=>bO w'.heap C [str (ky xs (k:Int)),.slice I (flagsOf xs (k:Int)).length J]∧Hb.aQ w'.heap mb 0=some (aR tb)) a3:=⟨Wk.B ac i.1,Wk.aQ ac i.2⟩
 refine ⟨ae,?_⟩
 refine aE 12 aa (fun _ _=>nc aa) ae<|aE 13 aa (fun _ _=>fa BE aa) ae<|he 14 aa aj<|cJ gB aa aa (v:=ak k) aa a.cells (by show 2 < 6; omega) fun a4 aB bk=> ?_
 have aI:a4.heap[mb]? =some (.cells (nN tb E K F (k:Int) aM ps).toArray 183 (0,0)):=bk
 have bs:=A.vg br a.cells a.lo a.nf aB
 have ah:(fun w'=>bO w'.heap C [str (ky xs (k:Int)),.slice I (flagsOf xs (k:Int)).length J]∧Hb.aQ w'.heap mb 0=some (aR tb)) a4:=⟨Md.B aB ae.1 aH,(a7 aI).trans rfl⟩
 refine ⟨ah,?_⟩
 refine aE 15 aa (fun _ _=>nc aa) ah<|aE 16 aa (fun _ _=>fa BG aa) ah<|he 17 aa aj<|cJ kM aa aa (v:=str<|ky xs (k:Int)) aa aI (by show 3 < 6; omega) fun a5 aD bl=> ?_
 have aJ:a5.heap[mb]? =some (.cells (nN tb E K F (k:Int) (ky xs (k:Int)) ps).toArray 183 (0,0)):=bl
 have bt:=A.vg bs aI a.lo a.nf aD
 have ai:(fun w'=>bO w'.heap C [str (ky xs (k:Int)),.slice I (flagsOf xs (k:Int)).length J]∧Hb.aQ w'.heap mb 0=some (aR tb)) a5:=⟨Md.B aD ah.1 aH,(a7 aJ).trans rfl⟩
 refine ⟨ai,?_⟩
 refine aE 18 aa (fun _ _=>nc aa) ai<|aE 19 aa (fun _ _=>fa HK aa) ai<|he 20 aa aj<|cJ A1 aa aa (v:= .slice M (aV F (flagsOf xs (k:Int)) 1).length O) aa aJ (by show 4 < 6; omega) fun an aF bm=> ?_
 have aK:an.heap[mb]? =some (.cells (nN tb E ⟨K.ar,K.cr,K.rn,M,O⟩ F (k:Int) (ky xs (k:Int))<|aV F (flagsOf xs (k:Int)) 1).toArray 183 (0,0)):=bm
 rw [bf] at aK
 have bu:=A.vg bt aJ a.lo a.nf aF
 have a1:=(aB.trans' aD fun q am h=>h).trans' aF fun q am h=>h
 have aZ:TF a3 [185] (fun q=>q=mb):=TF.eq (dw a.cells) az
 have aW:jF an fp S0 mb tb E ⟨K.ar,K.cr,K.rn,M,O⟩ F (k:Int) x.1 (aV F (flagsOf xs (k:Int)) 1):=⟨a.lo,aK,a.nf,cj a.ru a1 aZ az,a.rf,a.rn,cj bG a1 aZ az,bC⟩
 have bA:(fun w'=>bO w'.heap C [str (ky xs (k:Int)),.slice I (flagsOf xs (k:Int)).length J]∧Hb.aQ w'.heap mb 0=some (aR tb)) an:=⟨Md.B aF ai.1 aH,(a7 aK).trans rfl⟩
 refine ⟨bA,?_⟩
 refine hn aj<|ao<|ag fun bb=>p mv<|e<|cl Qe (Xp B tb Z F xs au E S0 mb ap Y A ⟨K.ar,K.cr,K.rn,M,O⟩ pre fp k x an aW bu a2 tl<|by rw [bI,uv aq]) aa fun v37 b5 bz=> ?_
 obtain ⟨bd,bN,bi,rfl,bq,bp,bJ,bK⟩:=bz
 exact ay<|bb<|rt<|aX aa<|⟨bd,bN,bi,_,_,_,_,aa,bq,aW.gw bp,by rw [uv aq]; exact bJ,fun h=>by rw [uv aq]; exact bK h⟩
theorem sP (A:Option Addr) (n:Int) (w:World):
 bo aw 16 (bh [.pointer A,.int .i64 n]) w (fun v w'=> ∃ a be,v= .func (.func 40) #[] #[aR a,aR be]∧w.heap.size≤a∧w.heap.size≤be∧jP w' a A∧gK w' be n∧Wk w w'):=by
 refine enter func16 aa ntmps16 aa<|ag fun C=>e<|xc aa aa fun G Y O i J=> ?_
 have V:=i.size
 exact e<|xc aa aa fun I Z U q M=>ay<|C<|ag fun E=>p Jk<|p aB<|nl<|E<|rt<|aX aa<|⟨G,I,aa,ab,ab,Wk.aM q.md J,M,i.md.trans q.md⟩
theorem A8 (B tb:Nat) (E:iX) (F:aT) (xs:List bF) (O:eW F xs) (a be q:Nat) (n:Int) (A:Bool→List bZ→(Nat→Prop)→World→Prop) (w:World) (M:A true [] (fun _=>False) w) (C:Yc aw q w.heap.size pq (fj F xs n) (fun W=>fT W B tb E F xs∧jP W a (some ⟨tb,0,none⟩)∧gK W be n) A):
 bo aw 40 (bh [.func (.yield q) #[] #[],aR a,aR be]) w (fun v w'=> ∃ b pre fp,A b pre fp w'∧pre <+:(fj F xs n)∧(b=true→pre=(fj F xs n))):=by
 obtain ⟨al,U,am⟩:=C.cap _ _ _ _ M
 refine enter func40 aa ntmps40 aa<|ag fun Y=>p (ld o7 aa<|(a7 U).trans aa)<|p (yu vC aa aa)<|nl<|Y<|ct (aa) ?_
 have i:(fun w'=>jP w' a (some ⟨tb,0,none⟩)∧gK w' be n) w.drew:=⟨U,am⟩
 refine bM (fun w'=>jP w' a (some ⟨tb,0,none⟩)∧gK w' be n) aa wide i<|aE 0 aa (fun w' J=>ld o7 aa<|(a7 J.1).trans aa) i<|bH 1 aa (.func (.yield q) #[] #[]) i<|aE 3 aa (fun w' J=>ld bC aa<|(a7 J.2).trans aa) i<|he 2 aa aj<|cl PU (Oh B tb E F xs q w.heap.size w.drew (al.wk (Md.refl _ _).drew) O<|cB _) aa fun ay V ah=> ?_
 obtain ⟨mb,K,rfl,ac,G⟩:=ah
 have ai:(fun w'=>jP w' a (some ⟨tb,0,none⟩)∧gK w' be n) V:=⟨Wk.aM G i.1,Wk.aM G i.2⟩
 refine ⟨ai,?_⟩
 refine he 4 aa aj<|cl PV (yA B tb E F xs O q w.heap.size mb (fj F xs n) A (C.YX fun W h=>h.1) K 0 [] [] [] (fun _=>False) n V ac (C.wk M<|(Md.refl (fun _=>False) w).drew.trans G) []<|by rw [ek,pY]) aa fun v10 aq ae=> ?_
 obtain ⟨Z,ap,ab,ar,au,az,ax,rfl,I,av,an,ao⟩:=ae
 rw [pY] at I
 have ak:(fun w'=>jP w' a (some ⟨tb,0,none⟩)∧gK w' be n) aq:=(C.cap _ _ _ _ I).2
 refine ⟨ak,?_⟩
 exact hn aj<|f0 aa<|⟨Z,ap,ab,I,an,ao⟩
theorem Sa (i be E:Nat) (n:Int) (a:Bool→List bZ→(Nat→Prop)→World→Prop) (w:World) (A:a true [] (fun _=>False) w) (C:jP w i none):
 bo aw 40 (bh [.func (.yield E) #[] #[],aR i,aR be]) w (fun v w'=> ∃ b pre fp,a b pre fp w'∧pre <+:([]:List bZ)∧(b=true→pre=([]:List bZ))):=by
 refine enter func40 aa ntmps40 aa<|ag fun q=>p (ld o7 aa<|(a7 C).trans aa)<|p (yu vC aa aa)<|nl<|q<|cf (aa)<|aO<|f0 aa ?_
 exact ⟨true,[],_,A,El _,fun _=>rfl⟩
theorem uw (B tb:Nat) (i:iX) (F:aT) (xs:List bF) (C:eW F xs) (a be:Nat) (n:Int):zK aw 40 #[.pointer (some ⟨a,0,none⟩),.pointer (some ⟨be,0,none⟩)] pq (fj F xs n) (fun W=>fT W B tb i F xs∧jP W a (some ⟨tb,0,none⟩)∧gK W be n):=
 fun l q W A E=>lN (A8 B tb i F xs C a be l n q W A E) fun e w' ⟨v,he,G⟩=>⟨⟨v,he⟩,G⟩
theorem Sf (a be:Nat) (n:Int):zK aw 40 #[.pointer (some ⟨a,0,none⟩),.pointer (some ⟨be,0,none⟩)] pq [] (fun W=>jP W a none):=
 fun l q W i A=>lN (Sa a be l n q W i<|A.cap _ _ _ _ i) fun e w' ⟨v,he,C⟩=>⟨⟨v,he⟩,C⟩
end Go.Hb.sh
section
namespace Go.Hb
open Go.Hb.sh
def iM (L:List bZ) (most:Int):List bZ:=if most < 1 then [] else L.take most.toNat
theorem Lg {L:List bZ} {most:Int} (h:(L.length:Int) < most):iM L most=L:=by unfold iM; rw [if_neg ab,eN ab]
theorem Li {L q:List bZ} {most:Int} (h:q <+:L) (hm:(q.length:Int)=most) (h1:¬most < 1):iM L most=q:=by
 have e:=List.prefix_iff_eq_take.1 h
 unfold iM; rw [if_neg h1,show most.toNat=q.length by omega]; exact e.symm
theorem Lh {L:List bZ} {most:Int} (h:most < 1):iM L most= []:=if_pos h
theorem Vg (B tb:Nat) (ar:iX) (F:aT) (xs:List bF) (n most:Int) (w:World) (aN:fT w B tb ar F xs) (a2:eW F xs) (bP:most≤1048576):
 bo aw 13 (bh [.pointer (some ⟨tb,0,none⟩),.int .i64 n,.int .i64 most]) w (fun v w'=>bu w' w.heap.size 41 5 v (iM (fj F xs n) most).length (jV<|iM (fj F xs n) most)∧Wk w w'):=by
 refine uz [] func13 aa ntmps13 aa ?_
 refine dO<|ed<|rg aa<|e<|xc aa aa fun V b0 bA aL a4=> ?_
 have bV:=aL.size
 refine p aB<|nl<|dJ<|dO<|ed<|rg aa<|e<|fi Zh fun ah bs bB ay a6=> ?_
 have bW:=ay.size
 have aK:=aL.md.trans ay.md
 have aH:=Wk.aM ay.md a4
 refine nl<|dJ<|dO<|dO<|ed<|rg aa<|p (ld bC aa<|(a7 aH).trans aa)<|p (lt aa aa)<|nl<|dJ<|ed<|cd aa (fun bH=> ?_) fun bH=> ?_
 refine sq fun a0 ax=>rg aa<|p aB<|nl<|tn<|ax _ _<|rt<|prt<|SH aa aa ?_
 exact ⟨by rw [Lh bH]; exact dx _ _ _ _,aK⟩
 refine aO<|dJ<|dO<|dO<|ed<|rg aa<|p mv<|p mv<|e<|cl Ak (sP (some ⟨tb,0,none⟩) n bs) aa fun bY aD bf=> ?_
 obtain ⟨Y,be,rfl,bM,bG,aR,aP,aj⟩:=bf
 have ai:=aK.trans aj
 have bS:=aj.size
 have bk:=Wk.aM aj a6
 have bi:gK aD V most:=Wk.aM aj aH
 have aq:ah < aD.heap.size:=ab
 have aV:V < aD.heap.size:=ab
 have aX:=(cQ.1 aR).1
 have hle:=(cQ.1 aP).1
 have aZ:=ai.size
 refine nl<|dJ ?_
 apply C3 (pq) (fj F xs n) (fun W=>fT W B tb ar F xs∧jP W Y (some ⟨tb,0,none⟩)∧gK W be n) (fun pre fp i=> ∃ v,i.heap[ah]? =some (.cells [v].toArray 27 (0,0))∧bu i w.heap.size 41 5 v pre.length (jV pre)∧(∀ k,v.ownBlock=some k↔fp k)∧jP i Y (some ⟨tb,0,none⟩)∧gK i be n∧gK i V most∧Wk w i∧(pre.length:Int) < most) (fun r pre fp i=>r=false∧∃ v,i.heap[ah]? =some (.cells [v].toArray 27 (0,0))∧bu i w.heap.size 41 5 v pre.length (jV pre)∧(∀ k,v.ownBlock=some k↔fp k)∧jP i Y (some ⟨tb,0,none⟩)∧gK i be n∧gK i V most∧Wk w i∧(pre.length:Int)=most) rfl AH (fun _=>rfl) (uw B tb ar F xs a2 Y be n) (⟨.slice none 0 0,bk,dx _ _ _ _,fun k=>by simp [iU],aR,aP,bi,ai,by simp only [ga]; omega⟩) (fun pre fp W ⟨v,h1,h2,h3,h4,h5,Z,I,ac⟩=>⟨⟨aN.wk I,h4,h5⟩,fun k hk=>(dG h2<|(h3 k).2 hk).2⟩) (fun r pre fp W ⟨aF,v,h1,h2,h3,h4,h5,Z,I,ac⟩=>⟨⟨aN.wk I,h4,h5⟩,fun k hk=>(dG h2<|(h3 k).2 hk).2⟩) (fun pre fp W a1 F ⟨v,h1,h2,h3,h4,h5,Z,I,ac⟩ hm C=>⟨v,gT h1 hm aq C,Lc h2 hm (fun k hk=>(h3 k).1 hk) C,h3,gT h4 hm aX C,gT h5 hm hle C,gT Z hm aV C,Ld I hm aZ C,ac⟩) (fun r pre fp W a1 F ⟨aF,v,h1,h2,h3,h4,h5,Z,I,ac⟩ hm C=>⟨aF,v,gT h1 hm aq C,Lc h2 hm (fun k hk=>(h3 k).1 hk) C,h3,gT h4 hm aX C,gT h5 hm hle C,gT Z hm aV C,Ld I hm aZ C,ac⟩) (fun x b i=>i.heap[b]? =some (.cells (eH x).toArray 41 (0,0))) (z7 (f:=eH))
 intro l x i K J
 exact rg aa<|e<|fi zh fun aE b2 bD bd a8=>e<|fZ xu aa aa aa aa a8 az fun b1 bc a5=>nl<|tn<|J aE _ (bd.md.trans' bc fun q bQ h=>by omega) a5
 intro l pre x rest fp aE i bR av aG
 obtain ⟨v,M,A,U,ao,an,al,O,hlen⟩:=av
 have bX:=O.size
 have bJ:=(cQ.1 aG).1
 refine aM<|sq fun a0 ax=>rg aa<|p (ld wT aa<|(a7 M).trans aa)<|p (c8 q5 aa (aa) fun j bN=>(oq aG).bE j)<|e<|kK KJ aa aa aa fun bw bZ bz a a3=> ?_
 have bT:=a.size
 refine e<|ap KJ (aW A a.md) aa ab aa (aJ.dZ a3) (aa) (aa) ab ab fun ae br aC E bU aU=> ?_
 have ba:=Wk.own (O.trans a.md) (aW A a.md) E<|cB _
 have am:=E.aM (a.md.aM M) fun h=>dE (aW A a.md) (a.md.aM M) az h
 obtain ⟨bv,bx,bq⟩:=cC aC
 have bm:=E.aM (a.md.aM ao) fun h=>dE (aW A a.md) (a.md.aM ao) az h
 have bl:=E.aM (a.md.aM an) fun h=>dE (aW A a.md) (a.md.aM an) az h
 have bj:=E.aM (a.md.aM al) fun h=>dE (aW A a.md) (a.md.aM al) az h
 refine e<|cJ RE aa aa (eU aC) am (by simp) fun ag G au=> ?_
 have aI:Wk w ag:=Md.trans' ba G fun k hk h=>by omega
 have ak:TF br [29] (fun q=>q=ah):=TF.eq (dw am) az
 have aY:bu ag w.heap.size 41 5 ae (pre++ [x]).length (jV<|pre++ [x]):=cj (by rw [show jV (pre++ [x])=jV pre++eH x from by unfold jV; rw [n8,pX],bL]; exact aC) G ak az
 have aS:jP ag Y (some ⟨tb,0,none⟩):=G.gA ak bm az
 have aQ:gK ag be n:=G.gA ak bl az
 have aA:gK ag V most:=G.gA ak bj az
 have bO:(pre++ [x]).length=pre.length+1:=by simp
 refine nl<|tn<|ax _ _<|sq fun bt bb=>rg aa<|p (ld wT aa<|(a7 au).trans<|by rw [bq]; rfl)<|p (bK Ly aa aa)<|p (ld bC aa<|(a7 aA).trans aa)<|p (bI aa aa)<|nl<|tn<|bb _ _<|cd aa (fun heq=> ?_) fun heq=> ?_
 exact ext<|mV az<|⟨aa,(gk.wk a.md).trans ((gk.md E<|pI<|aW A a.md).trans<|gk.md G fun k hk=>⟨_,_,_,hk ▸ am⟩),fun k=>ae.ownBlock=some k,(Gw.wk a.md).trans ((Gw.md E (fun k hk=> .inl<|(U k).1 hk) fun k hk=>(aU k hk).imp (fun h=>(U k).1 h) id).trans<|Gw.md G (fun k hk=> .inr<|by subst hk; exact aq) fun _ h=> .inl h),aa,⟨ae,au,aY,fun _=>Iff.rfl,aS,aQ,aA,aI,ab⟩⟩
 exact aO<|bn<|⟨(gk.wk a.md).trans ((gk.md E<|pI<|aW A a.md).trans<|gk.md G fun k hk=>⟨_,_,_,hk ▸ am⟩),fun k=>ae.ownBlock=some k,(Gw.wk a.md).trans ((Gw.md E (fun k hk=> .inl<|(U k).1 hk) fun k hk=>(aU k hk).imp (fun h=>(U k).1 h) id).trans<|Gw.md G (fun k hk=> .inr<|by subst hk; exact aq) fun _ h=> .inl h),⟨ae,au,aY,fun _=>Iff.rfl,aS,aQ,aA,aI,ab⟩⟩
 intro D i a9 av J
 obtain ⟨fp,v,M,A,U,ao,an,al,O,hlen⟩:=av
 refine dJ<|dO<|ed<|rg aa<|p (ld wT aa<|(a7 M).trans aa)<|p aB<|nl<|dJ<|pJ<|G8 aa aa J ?_
 exact ⟨cX (by rw [Lg hlen]; exact A) (lh _ _ _) (fun k hk h=>by obtain ⟨c,e,z,h1⟩:=pI A k hk; rw [h,J] at h1; cases h1),Md.trans' O (lh _ _ _) fun k hk h=>by have :=ai.size; omega⟩
 intro D i pre a9 bp bg J
 obtain ⟨fp,_,v,M,A,U,ao,an,al,O,hlen⟩:=bg
 refine dJ<|dO<|ed<|rg aa<|p (ld wT aa<|(a7 M).trans aa)<|p aB<|nl<|dJ<|pJ<|G8 aa aa J ?_
 exact ⟨cX (by rw [Li bp hlen bH]; exact A) (lh _ _ _) (fun k hk h=>by obtain ⟨c,e,z,h1⟩:=pI A k hk; rw [h,J] at h1; cases h1),Md.trans' O (lh _ _ _) fun k hk h=>by have :=ai.size; omega⟩
 exact fun _ _ _ _ _ h _=>by obtain ⟨_,h,_⟩:=h; cases h
end Go.Hb
end
section
namespace Go.Hb.sj
def vA (cz:Bool) (most limit:Int) (acc:List bZ) (v:Value):List Value:= [.bool cz,.bool false,str [],.int .i64 most,.int .i64 limit,.int .i64 (acc.length:Nat),.int .i64 (iZ acc:Nat),v]
def Bd (acc:List bZ):Prop :=acc.length≤iZ acc∧iZ acc≤acc.length*1000∧acc.length≤2000000
theorem Bd.nil:Bd []:=⟨jD _,jD _,jD _⟩
def Sd (d:bZ):Prop :=1≤d.kG.length∧d.kG.length≤1000
theorem Jh {most limit:Int} {acc:List bZ} {d:bZ} (h:kO most limit acc=true):rC most limit acc d=acc:=if_pos h
theorem Ji {most limit:Int} {acc:List bZ} {d:bZ} (h:kO most limit acc=false):rC most limit acc d=acc++ [d]:=if_neg<|by rw [h]; exact ei
theorem Tn {most limit:Int} {acc:List bZ} (h:kO most limit acc=false):(acc.length:Int) < most∧(iZ acc:Int)≤limit:=by
 unfold kO at h; have :=of_decide_eq_false h; omega
theorem E7 (acc:List bZ) (d:bZ):iZ (acc++ [d])=iZ acc+d.kG.length:=by rw [E5,E6]
theorem Bd.met {most limit:Int} {acc:List bZ} {d:bZ} (h:Bd acc) (hm:most≤2000∨limit≤1048576) (hd:Sd d):Bd (rC most limit acc d):=by
 by_cases a:kO most limit acc=true
 · rw [Jh a]; exact h
 · rw [Ji (by simpa using a)]
   have :=Tn<|by simpa using a
   unfold Bd Sd at*
   rw [E7,bL,e5]
   omega
structure iw (w:World) (fp:Nat→Prop) (S0 xb:Nat) (cz:Bool) (most limit:Int) (acc:List bZ):Prop where
 lo:S0≤xb
 ex:∃ v,w.heap[xb]? =some (.cells (vA cz most limit acc v).toArray 111 (0,0))∧(if cz=true then bu w S0 43 5 v acc.length (jV acc) else v= .slice none 0 0)∧∀ k,fp k↔(k=xb∨v.ownBlock=some k)
 bd:Bd acc
structure Tw (fp:Nat→Prop) (w:World) (fp':Nat→Prop) (w':World):Prop where
 md:Md fp w w'
 sub:∀ k,fp' k→fp k∨w.heap.size≤k
section
variable {w w' w'':World} {fp fp' fp'':Nat→Prop} {S0 xb:Nat} {cz:Bool} {most limit:Int} {acc:List bZ}
theorem Tw.refl (fp:Nat→Prop) (w:World):Tw fp w fp w:=⟨Md.refl _ _,fun _ h=> .inl h⟩
theorem Tw.trans (h:Tw fp w fp' w') (a:Tw fp' w' fp'' w''):Tw fp w fp'' w'':=
 ⟨h.md.trans' a.md fun k hk i=>(h.sub k i).elim id (fun h2=>by omega),fun k hk=>(a.sub k hk).elim (h.sub k) fun h2=> .inr<|Nat.le_trans h.md.size h2⟩
theorem Tw.wk (h:Wk w w'):Tw fp w fp w':=⟨h.mono fun _ _ h=>h.elim,fun _ h=> .inl h⟩
theorem iw.wk (h:iw w fp S0 xb cz most limit acc) (hm:Wk w w'):iw w' fp S0 xb cz most limit acc:=by
 obtain ⟨v,h1,h2,h3⟩:=h.ex
 refine ⟨h.lo,⟨v,Wk.aM hm h1,?_,h3⟩,h.bd⟩
 cases cz with
 | true =>rw [if_pos rfl] at h2 ⊢; exact aW h2 hm
 | false =>exact h2
theorem iw.tf (h:iw w fp S0 xb cz most limit acc):TF w [113,45] fp:=by
 obtain ⟨v,h1,h2,h3⟩:=h.ex
 intro k hk
 rcases (h3 k).1 hk with rfl | hk
 · rw [dw h1]; decide
 · cases cz with
   | true =>rw [if_pos rfl] at h2; rw [Dq h2 hk]; decide
   | false =>rw [if_neg az] at h2; rw [h2] at hk; cases hk
theorem iw.lt (h:iw w fp S0 xb cz most limit acc):∀ k,fp k→k < w.heap.size:=by
 obtain ⟨v,h1,h2,h3⟩:=h.ex
 intro k hk
 rcases (h3 k).1 hk with rfl | hk
 · exact (cQ.1 h1).1
 · cases cz with
   | true =>rw [if_pos rfl] at h2; exact (dG h2 hk).2
   | false =>rw [if_neg az] at h2; rw [h2] at hk; cases hk
theorem iw.Je (h:iw w fp S0 xb cz most limit acc) {b:Nat} (hm:Md (fun q=>q=b) w w') (a:¬fp b):iw w' fp S0 xb cz most limit acc:=by
 obtain ⟨v,h1,h2,h3⟩:=h.ex
 refine ⟨h.lo,⟨v,hm.aM h1 (fun h4=>a<|(h3 b).2<|.inl h4.symm),?_,h3⟩,h.bd⟩
 cases cz with
 | true =>rw [if_pos rfl] at h2 ⊢; exact cX h2 hm fun k hk h4=>a<|by subst h4; exact (h3 _).2<|.inr hk
 | false =>exact h2
theorem iw.aQ (h:iw w fp S0 xb cz most limit acc):Hb.aQ w.heap xb 0=some (.bool cz)∧Hb.aQ w.heap xb 1=some (.bool false)∧Hb.aQ w.heap xb 3=some (.int .i64 most)∧Hb.aQ w.heap xb 4=some (.int .i64 limit)∧Hb.aQ w.heap xb 5=some (.int .i64 (acc.length:Nat))∧Hb.aQ w.heap xb 6=some (.int .i64 (iZ acc:Nat)):=by
 obtain ⟨v,h1,_⟩:=h.ex
 exact ⟨(a7 h1).trans aa,(a7 h1).trans aa,(a7 h1).trans aa,(a7 h1).trans aa,(a7 h1).trans aa,(a7 h1).trans aa⟩
theorem uR {B tb fb:Nat} {V:ep} {ve:Value} {F:aT} {xs:List bF} (a:gi w B tb fb V ve F xs) (h:iw w fp S0 xb cz most limit acc) (hm:Md fp w w'):gi w' B tb fb V ve F xs:=
 ⟨hm.gA h.tf a.cells az,a.fl.md hm h.tf az,a.en.md hm h.tf az⟩
theorem TS {B tb fb:Nat} {V:ep} {ve:Value} {F:aT} {xs:List bF} (a:gi w B tb fb V ve F xs) {b:Nat} {cs:Array Value} {z:Nat×Nat} (i:w.heap[b]? =some (.cells cs 43 z)) (hm:Md (fun q=>q=b) w w'):gi w' B tb fb V ve F xs:=
 ⟨hm.gA (TF.eq (L:= [45]) (dw i) az) a.cells az,a.fl.md hm (TF.eq (L:= [45]) (dw i) az) az,a.en.md hm (TF.eq (L:= [45]) (dw i) az) az⟩
end
theorem CW (B tb fb:Nat) (V:ep) (ve:Value) (F:aT) (xs:List bF) (n:Int) (w:World) (C:gi w B tb fb V ve F xs) (O:eW F xs) (hn:Rn F n):
 bo aw 184 (bh [aR tb,.int .i64 n]) w (fun v w'=>v= .bool (lF F n)∧Wk w w'):=by
 refine enter func184 aa ntmps184 aa<|ag fun G=>ay<|G<|ag fun q=>p mv<|p (bI aa aa)<|p mv<|gs (t:=7) aa (fun bH=> ?_) fun bH=> ?_
 exact aH aa<|aH aa<|aH aa<|aH aa<|aH aa<|aH aa<|aH aa<|aH aa<|aH aa<|aH aa<|aH aa<|p (bB aa)<|ay<|q<|rt<|aX aa<|⟨by rw [bH,Gn]; rfl,Md.refl _ _⟩
 obtain ⟨k,rfl⟩:∃ k:Nat,n=(k:Int):=⟨n.toNat,by unfold Rn at hn; omega⟩
 obtain ⟨r,i⟩:∃ r,F.rules[k]? =some r:=⟨_,cD<|by unfold Rn at hn; omega⟩
 obtain ⟨J,M,a,c,I,A,E,U⟩:=C.iL i
 have Y:=(fJ.1 i).1
 exact aI aa mv<|aI aa (nc aa)<|aI aa (fa m6 aa)<|aI aa (ld ib aa<|(a7 C.cells).trans aa)<|aI aa (nc aa)<|aI aa (fa jL aa)<|aI aa (ld j8 aa<|I)<|aI aa mv<|aI aa (ba nE aa aa ab<|aJ.ok (A)<|nJ E)<|aI aa (fa S8 aa)<|aI aa (ld k4 aa<|fw (f:=jv) (m:=8) (fun _=>rfl) A E 2 az)<|p (bq aa)<|ay<|q<|rt<|aX aa<|⟨by rw [sK i]; rfl,Md.refl _ _⟩
theorem Kk (B tb fb:Nat) (V:ep) (ve:Value) (F:aT) (xs:List bF) (word:Tx) (en:Nat) (f s pp:Int) (w:World) (J:gi w B tb fb V ve F xs) (I:eW F xs) (a0:Rn F f) (hs:Rn F s) (hp:Rn F pp):
 bo aw 121 (bh [aR tb,.agg (eH ⟨word,en,f,s,pp⟩).toArray]) w (fun v w'=>v= .bool (fy F xs en f s pp)∧Wk w w'):=by
 refine enter func121 aa ntmps121 aa<|ag fun aA=>e<|iY aa fun aj aq q am aN=> ?_
 have a7:=am.size
 have aQ:=J.wk am.md
 have q:bO aq.heap aj [str word,ak en,.int .i64 f,.int .i64 s,.int .i64 pp]:=aN
 have Y:Wk w aq:=am.md
 refine ay<|aA<|aC fun aG=>ag fun aJ=>p (fa xZ aa)<|p (ld bC aa<|q.bE 2)<|p (bI aa aa)<|nl<|aJ<|cd aa (fun C=> ?_) fun C=> ?_
 refine ag fun ah=>p mv<|p (fa HR aa)<|p (ld bC aa<|q.bE 1)<|e<|cl P7 (W4 B tb fb V ve F xs (en:Nat) 0 aq aQ I) aa fun a8 bc aS=> ?_
 obtain ⟨rfl,al⟩:=aS
 have q:=Wk.B al q
 refine ay<|ah<|ag fun E=>p (fa rp aa)<|p (ld bC aa<|q.bE 4)<|p (dj aa aa)<|p mv<|gs (t:=21) aa (fun aE=> ?_) fun aE=> ?_
 refine aH aa<|aH aa<|p (bB aa)<|ay<|E<|rt<|tr<|aX aa ?_
 have i:fy F xs en f s pp=true :=Ic C aE
 exact ⟨Eq.trans (b:=bT true) aa (congrArg bT i.symm),Y.trans al⟩
 refine aI aa mv<|aI aa (no aa)<|p (bq aa)<|ay<|E<|rt<|tr<|aX aa ?_
 have i:fy F xs en f s pp= !l3 F xs en 0:=by rw [Ib C (jq.1 aE),Ja]
 exact ⟨Eq.trans (b:=bT<|!l3 F xs en 0) aa (congrArg bT i.symm),Y.trans al⟩
 refine aO<|aG<|ag fun ah=>p (fa xZ aa)<|p (ld bC aa<|q.bE 2)<|p aB<|nl<|ah ?_
 refine ej (fun ab Z=> ∃ (U:Int),(U=if s= -1 then f else s)∧(Wk w Z)∧(bO Z.heap aj [str word,ak en,.int .i64 f,.int .i64 s,.int .i64 pp])∧(ab 0=aR tb)∧(ab 3=aR aj)∧(ab 6= .int .i64 U)) ?_ ?_
 refine ag fun E=>p (fa x3 aa)<|p (ld bC aa<|q.bE 3)<|p (dj aa aa)<|nl<|E<|cd aa (fun an=> ?_) fun an=> ?_
 exact rg aa<|p (fa x3 aa)<|p (ld bC aa<|q.bE 3)<|p aB<|nl<|tn<|⟨s,(by rw [if_neg an]),Y,q,aa,aa,aa⟩
 exact aO<|tn<|⟨f,(by rw [if_pos (jq.1 an)]),Y,q,aa,aa,aa⟩
 rintro ab Z ⟨U,M,az,aZ,a1,a2,a3⟩
 refine fx 0 a1<|fx 3 a2<|fx 6 a3<|ag fun E=>au (aR tb)<|au (.int .i64 U)<|e<|cl O3 (WW B tb fb V ve F xs U Z (J.wk az) I) aa fun a9 a4 aU=> ?_
 obtain ⟨rfl,ar⟩:=aU
 have A:=Wk.B ar aZ
 have a:=az.trans ar
 refine ay<|E<|aC fun aK=>ag fun aL=>p mv<|p (no aa)<|nl<|aL<|cb aa (fun G=> ?_) fun G=> ?_
 refine ag fun ai=>ay<|ai<|rt<|tr<|aX aa ?_
 have i:fy F xs en f s pp=false :=B4 C<|by rw [← M]; simpa using G
 exact ⟨Eq.trans (b:=bT false) aa (congrArg bT i.symm),a⟩
 refine aO<|aK<|aC fun ai=>ag fun aM=>p (fa rp aa)<|p (ld bC aa<|A.bE 4)<|p (bI aa aa)<|nl<|aM<|cd aa (fun O=> ?_) fun O=> ?_
 refine ag fun ac=>ay<|ac<|rt<|tr<|aX aa ?_
 have i:fy F xs en f s pp=true :=B3 C (by rw [← M]; simpa using G) O
 exact ⟨Eq.trans (b:=bT true) aa (congrArg bT i.symm),a⟩
 refine aO<|ai<|ag fun ac=>au (aR tb)<|p (fa xZ aa)<|p (ld bC aa<|A.bE 2)<|e<|cl An (CW B tb fb V ve F xs f a4 (J.wk a) I a0) aa fun ba a5 aV=> ?_
 obtain ⟨rfl,av⟩:=aV
 have A:=Wk.B av A
 have a:=a.trans av
 refine ay<|ac<|ag fun aD=>au (aR tb)<|p (fa x3 aa)<|p (ld bC aa<|A.bE 3)<|e<|cl An (CW B tb fb V ve F xs s a5 (J.wk a) I hs) aa fun bb a6 aW=> ?_
 obtain ⟨rfl,ax⟩:=aW
 have A:=Wk.B ax A
 have a:=a.trans ax
 refine ay<|aD<|ag fun aF=>au (aR tb)<|p (fa rp aa)<|p (ld bC aa<|A.bE 4)<|e<|cl An (CW B tb fb V ve F xs pp a6 (J.wk a) I hp) aa fun v51 bd aY=> ?_
 obtain ⟨rfl,aP⟩:=aY
 have a:=a.trans aP
 refine ay<|aF<|ag fun ae=>p mv<|p mv<|gb (t:=53) aa (fun ao=> ?_) fun ao=> ?_
 refine aI aa mv<|p (bB aa)<|p mv<|gb (t:=56) aa (fun ap=> ?_) fun ap=> ?_
 refine aI aa mv<|p (bB aa)<|ay<|ae<|rt<|aX aa ?_
 have i:fy F xs en f s pp=lF F pp:=by rw [pD C (by rw [← M]; simpa using G) O,ao,(show lF F s=true by simpa using ap)]; simp
 exact ⟨Eq.trans (b:=bT<|lF F pp) aa (congrArg bT i.symm),a⟩
 refine aH aa<|p (bq aa)<|ay<|ae<|rt<|aX aa ?_
 have i:fy F xs en f s pp=false :=by rw [pD C (by rw [← M]; simpa using G) O,(show lF F s=false by simpa using ap)]; simp
 exact ⟨Eq.trans (b:=bT false) aa (congrArg bT i.symm),a⟩
 refine aH aa<|p (bq aa)<|p mv<|aH aa<|p (bq aa)<|ay<|ae<|rt<|aX aa ?_
 have i:fy F xs en f s pp=false :=by rw [pD C (by rw [← M]; simpa using G) O,ao]; rfl
 exact ⟨Eq.trans (b:=bT false) aa (congrArg bT i.symm),a⟩
theorem To (S0 xb:Nat) (cz:Bool) (most limit:Int) (acc:List bZ) (fp:Nat→Prop) (w:World) (J:iw w fp S0 xb cz most limit acc):
 bo aw 185 (bh [aR xb]) w (fun v w'=>v= .bool (kO most limit acc)∧Wk w w'):=by
 obtain ⟨M,O,c3,E,G,I⟩:=J.aQ
 refine enter func185 aa ntmps185 aa<|ag fun C=>ay<|C<|aC fun A=> ?_
 have a:(fun w'=>Wk w w') w.drew:=(Md.refl _ _).drew
 refine bM (fun w'=>Wk w w') aa wide a<|bH 0 aa (aR xb) a<|aE 1 aa (fun _ _=>nc aa) a<|aE 2 aa (fun _ _=>fa sU aa) a<|aE 3 aa (fun w' i=>ld bC aa<|Wk.aQ i<|G) a<|bH 4 aa (aR xb) a<|aE 5 aa (fun _ _=>nc aa) a<|aE 6 aa (fun _ _=>fa xP aa) a<|aE 7 aa (fun w' i=>ld bC aa<|Wk.aQ i<|c3) a<|aE 8 aa (fun _ _=>ge aa aa) a<|aE 9 aa (fun _ _=>mv) a<|iH (t:=12) aa (fun hm=> ?_) fun hm=> ?_
 refine a6 10 aa a<|a6 11 aa a<|a6 12 aa a<|a6 13 aa a<|a6 14 aa a<|a6 15 aa a<|a6 16 aa a<|a6 17 aa a<|a6 18 aa a<|aE 19 aa (fun _ _=>bB aa) a<|aE 20 aa (fun _ _=>aB) a<|hn aj<|A<|rt<|aX aa ?_
 have q:kO most limit acc=true :=decide_eq_true<|Or.inl hm
 exact ⟨Eq.trans (b:=bT true) aa (congrArg bT q.symm),a⟩
 refine bj 10 aa (fun _ _=>aU (aR xb) aa) a<|bj 11 aa (fun _ _=>nc aa) a<|bj 12 aa (fun _ _=>fa sV aa) a<|bj 13 aa (fun w' i=>ld bC aa<|Wk.aQ i<|I) a<|bj 14 aa (fun _ _=>aU (aR xb) aa) a<|bj 15 aa (fun _ _=>nc aa) a<|bj 16 aa (fun _ _=>fa xQ aa) a<|bj 17 aa (fun w' i=>ld bC aa<|Wk.aQ i<|E) a<|bj 18 aa (fun _ _=>gt aa aa) a<|aE 19 aa (fun _ _=>bq aa) a<|aE 20 aa (fun _ _=>aB) a<|hn aj<|A<|rt<|aX aa ?_
 have q:kO most limit acc=decide ((iZ acc:Int) > limit):=by unfold kO; rw [decide_eq_decide]; omega
 exact ⟨Eq.trans (b:=bT<|decide ((iZ acc:Int) > limit)) aa (congrArg bT q.symm),a⟩
theorem Jj (S0 xb:Nat) (cz:Bool) (most limit:Int) (acc:List bZ) (fp:Nat→Prop) (d:bZ) (w:World) (O:iw w fp S0 xb cz most limit acc) (hd:Sd d) (bv:most≤2000∨limit≤1048576):
 bo aw 122 (bh [aR xb,.agg (eH d).toArray]) w (fun v w'=>v= .tuple #[]∧∃ fp',iw w' fp' S0 xb cz most limit (rC most limit acc d)∧Tw fp w fp' w'):=by
 refine enter func122 aa ntmps122 aa<|ag fun a2=>e<|iY aa fun C aZ aL Z bb=> ?_
 have bK:=Z.size
 have aL:bO aZ.heap C (eH d):=bb
 have aK:=O.wk Z.md
 have bu:=O.lt
 have aT:¬fp C:=fun h=>by have :=bu C h; omega
 refine nl<|a2<|ag fun a3=>p mv<|e<|cl O4 (To S0 xb cz most limit acc fp aZ aK) aa fun v6 J bk=> ?_
 obtain ⟨rfl,Y⟩:=bk
 have ae:=aK.wk Y
 obtain ⟨bx,ba,c3,bA,bD,bF⟩:=ae.aQ
 have br:=Wk.B Y aL
 refine ay<|a3<|aC fun a4=>aC fun aB=> ?_
 have a:(fun w'=>Wk J w') J.drew:=(Md.refl _ _).drew
 refine bM (fun w'=>Wk J w') aa wide a<|aE 0 aa (fun _ _=>mv) a<|aE 1 aa (fun _ _=>mv) a<|yg (t:=8) aa (fun ar=> ?_) fun ar=> ?_
 exact a6 2 aa a<|a6 3 aa a<|a6 4 aa a<|a6 5 aa a<|a6 6 aa a<|lZ 7 aa aj aa aa aa a<|lZ 8 aa aj aa aa aa a<|lZ 9 aa aj aa aa aa a<|lZ 10 aa aj aa aa aa a<|lZ 11 aa aj aa aa aa a<|lZ 12 aa aj aa aa aa a<|lZ 13 aa aj aa aa aa a<|a6 14 aa a<|aE 15 aa (fun _ _=>bB aa) a<|hn aj<|aB<|ct aa<|rt<|tr<|rk aa<|⟨aa,fp,by rw [Jh ar]; exact ae.wk a,Tw.wk<|(Z.md.trans Y).trans a⟩
 have ai:=Ji (d:=d) ar
 have aP:=ae.bd
 have aq:=aP.met (d:=d) bv hd
 have au:Bd (acc++ [d]):=ai ▸ aq
 unfold Bd at aP au
 unfold Sd at hd
 obtain ⟨v,al,av,I⟩:=(ae.wk (Md.refl (fun _=>False) J).drew).ex
 have aU:C≠xb:=fun h=>aT<|(I C).2<|.inl h
 have ax:=E7 acc d
 rw [ax] at au
 simp only [bL,e5] at au
 refine bj 2 aa (fun _ _=>mv) a<|bj 3 aa (fun _ _=>nc aa) a<|bj 4 aa (fun _ _=>fa S4 aa) a<|bj 5 aa (fun w' E=>ld k4 aa<|Wk.aQ E<|ba) a<|bj 6 aa (fun _ _=>mv) a<|yg (t:=13) aa (fun h=>absurd (h.symm.trans<|aa) ei) fun bI=>a6 7 aa a<|a6 8 aa a<|a6 9 aa a<|a6 10 aa a<|a6 11 aa a<|a6 12 aa a<|a6 13 aa a<|bj 14 aa (fun _ _=>bq aa) a<|aE 15 aa (fun _ _=>bq aa) a<|hn aj<|aB<|cf aa<|aO<|a4<|aC fun a5=>rg aa<|p mv<|p mv<|p (nc aa)<|p (fa sU aa)<|p (ld bC aa<|(a7 al).trans aa)<|p (bG ((acc.length+1:Nat):Int) aa aa<|bl ab ab)<|p (nc aa)<|p (fa sU aa)<|e<|cJ gB aa aa (v:= .int .i64 ((acc.length+1:Nat):Int)) aa al (by show 5 < 8; omega) fun am aF bc=> ?_
 have aY:am.heap[xb]? =some (.cells [.bool cz,.bool false,str [],.int .i64 most,.int .i64 limit,.int .i64 ((acc.length+1:Nat):Int),ak (iZ acc),v].toArray 111 (0,0)):=bc
 have aN:=Md.B aF br fun h=>aU h
 refine nl<|a5<|aC fun a8=> ?_
 have A:(fun w'=>Wk am w') am.drew:=(Md.refl _ _).drew
 refine eS (fun w'=>Wk am w') 11 aa wide A<|bz 0 aa (fun _=>mv) (fun _=>A)<|bz 1 aa (fun _=>mv) (fun _=>A)<|bz 2 aa (fun _=>nc aa) (fun _=>A)<|bz 3 aa (fun _=>fa sV aa) (fun _=>A)<|dM 4 aa (fun w' E=>ld bC aa<|Wk.aQ E<|(a7 aY).trans aa) A<|bz 5 aa (fun _=>fa xY aa) (fun _=>A)<|dM 6 aa (fun w' E=>ld bU aa<|Wk.aQ E<|aN.bE 0) A<|bz 7 aa (fun _=>cy u9 aa aa) (fun _=>A)<|bz 8 aa (fun _=>bG ((iZ acc+d.kG.length:Nat):Int) aa aa<|bl ab ab) (fun _=>A)<|bz 9 aa (fun _=>nc aa) (fun _=>A)<|bz 10 aa (fun _=>fa sV aa) (fun _=>A)<|dK 11 aa aj aj<|cJ gB aa aa (v:= .int .i64 ((iZ acc+d.kG.length:Nat):Int)) aa aY (by show 6 < 8; omega) fun V aG bf=> ?_
 have U:V.heap[xb]? =some (.cells [.bool cz,.bool false,str [],.int .i64 most,.int .i64 limit,.int .i64 ((acc.length+1:Nat):Int),.int .i64 ((iZ acc+d.kG.length:Nat):Int),v].toArray 111 (0,0)):=bf
 have bp:=Md.B aG aN fun h=>aU h
 have ah:Md (fun q=>q=xb) J.drew V:=aF.trans' (il aG) fun q i h=>h
 have aD:Wk w J.drew:=(Z.md.trans Y).trans (Md.refl _ _).drew
 have bm:TF J.drew [113] (fun q=>q=xb):=TF.eq (dw al) az
 refine eR aj<|a8<|ag fun a9=>p mv<|p (nc aa)<|p (fa S3 aa)<|p (ld k4 aa<|(a7 U).trans aa)<|nl ?_
 refine a9<|cb aa (fun hk=> ?_) fun hk=> ?_
 rw [if_pos hk] at av
 have aV:=cj av ah bm az
 subst hk
 have G:(fun w'=>Hb.aQ w'.heap xb 7=some v∧bO w'.heap C (eH d)) V.drew:=⟨(a7 U).trans rfl,bp⟩
 refine eS (fun w'=>Hb.aQ w'.heap xb 7=some v∧bO w'.heap C (eH d)) 10 aa wide G<|bz 0 aa (fun _=>mv) (fun _=>G)<|bz 1 aa (fun _=>mv) (fun _=>G)<|bz 2 aa (fun _=>nc aa) (fun _=>G)<|bz 3 aa (fun _=>fa Bz aa) (fun _=>G)<|dM 4 aa (fun w' E=>ld p8 aa<|E.1) G<|dM 5 aa (fun w' E=>c8 sx aa (aa) fun j bJ=>E.2.bE j) G<|gQ 6 aa aj<|kK KM aa aa aa fun bw a0 bH ac bg=> ?_
 have bN:=ac.size
 have M:Wk V a0:=((Md.refl (fun _=>False) V).drew).trans ac.md
 have aI:(fun w'=>Hb.aQ w'.heap xb 7=some v∧bO w'.heap C (eH d)) a0:=⟨Wk.aQ ac.md G.1,Wk.B ac.md G.2⟩
 refine ⟨aI,?_⟩
 refine gQ 7 aa aj<|ap KM (aW aV M) aa (by have :=O.lo; have :=(cQ.1 al).1; have :=ah.size; have :=M.size; omega) aa (aJ.dZ bg) (aa) (aa) ab ab fun v53 a1 aX an bP bs=> ?_
 have aA:=an.aM (Wk.aM M U) fun h=>dE (aW aV M) (Wk.aM M U) az h
 have ao:(fun w'=>Hb.aQ w'.heap xb 7=some v∧bO w'.heap C (eH d)) a1:=⟨(a7 aA).trans rfl,Md.B an aI.2 fun h=>aT<|(I C).2<|.inr h⟩
 refine ⟨ao,?_⟩
 refine bz 8 aa (fun _=>nc aa) (fun _=>ao)<|bz 9 aa (fun _=>fa Bz aa) (fun _=>ao)<|dK 10 aa aj aj<|cJ Gx aa aa (v:=v53) (eU aX) aA (by show 7 < 8; omega) fun bQ aH bi=> ?_
 have bn:TF a1 [113] (fun q=>q=xb):=TF.eq (dw aA) az
 refine eR aj<|f0 aa ?_
 refine ⟨aa,fun q=>q=xb∨v53.ownBlock=some q,⟨O.lo,⟨v53,?_,?_,fun _=>Iff.rfl⟩,aq⟩,?_⟩
 rw [ai]
 have h1:vA true most limit (acc++ [d]) v53= [.bool true,.bool false,str [],.int .i64 most,.int .i64 limit,.int .i64 ((acc.length+1:Nat):Int),.int .i64 ((iZ acc+d.kG.length:Nat):Int),v53]:=by unfold vA; rw [ax,bL]; rfl
 rw [h1]; exact bi
 rw [if_pos rfl,ai,bL,show jV (acc++ [d])=jV acc++eH d from by unfold jV; rw [n8,pX]]
 exact cj aX aH bn az
 have aS:∀ q,q=xb→fp q:=fun q i=>(I q).2<|.inl i
 refine Tw.trans (Tw.wk aD)<|Tw.trans ⟨ah.mono (fun q _ i=>aS q i),fun q i=> .inl i⟩<|Tw.trans (Tw.wk M)<|Tw.trans (fp':=fun q=>q=xb∨v53.ownBlock=some q) ⟨an.mono (fun q _ i=>(I q).2<|.inr i),fun q i=>i.elim (fun h=> .inl<|aS q h) fun h=>(bs q h).imp (fun h=>(I q).2<|.inr h) id⟩ ⟨aH.mono (fun q _ i=> .inl i),fun q i=> .inl i⟩
 refine aO<|f0 aa ?_
 have bt:cz=false :=by simpa using hk
 subst bt
 refine ⟨aa,fp,⟨O.lo,⟨v,?_,?_,I⟩,aq⟩,?_⟩
 rw [ai]
 have h1:vA false most limit (acc++ [d]) v= [.bool false,.bool false,str [],.int .i64 most,.int .i64 limit,.int .i64 ((acc.length+1:Nat):Int),.int .i64 ((iZ acc+d.kG.length:Nat):Int),v]:=by unfold vA; rw [ax,bL]; rfl
 rw [h1]; exact U
 exact av
 exact Tw.trans (Tw.wk aD) ⟨ah.mono (fun q _ i=>(I q).2<|.inl i),fun q i=> .inl i⟩
end Go.Hb.sj
end
section
namespace Go.Hb
open Go.Hb.sh Go.Hb.sj
section
variable {w w':World} {fp fp':Nat→Prop} {S0 xb:Nat} {cz:Bool} {most limit:Int} {acc:List bZ}
theorem rG {B n:Nat} {v:Value} {xs:List Value} (a:bu w B 3 1 v n xs) (h:iw w fp S0 xb cz most limit acc) (hm:Tw fp w fp' w'):bu w' B 3 1 v n xs:=cj a hm.md h.tf az
theorem Jt {b:Nat} (h:Tw fp w fp' w') (hn:¬fp b) (a:b < w.heap.size):¬fp' b:=fun h2=>(h.sub b h2).elim hn fun h3=>by omega
end
theorem IP {most limit:Int} {acc A:List bZ} {α:Type} {g:α→Option bZ} {l:List α} {i:Nat} (h:kO most limit (gP most limit acc<|A++(l.take i).filterMap g)=true):gP most limit acc (A++l.filterMap g)=gP most limit acc (A++(l.take i).filterMap g):=by
 conv =>lhs; rw [← wq i l,zz,← dF,uS,yi h]
theorem Cj {most limit:Int} {acc A:List bZ} {α:Type} {g:α→List bZ} {l:List α} {i:Nat} (h:kO most limit (gP most limit acc<|A++(l.take i).flatMap g)=true):gP most limit acc (A++l.flatMap g)=gP most limit acc (A++(l.take i).flatMap g):=by
 conv =>lhs; rw [← wq i l,n8,← dF,uS,yi h]
theorem BT {most limit:Int} {a:List bZ} (h:¬(iZ a:Int)≤limit):kO most limit a=true :=decide_eq_true<|Or.inr ab
theorem BU {most limit:Int} {a:List bZ} (h:¬(a.length:Int) < most):kO most limit a=true :=decide_eq_true<|Or.inl ab
theorem IN {most limit:Int} {acc A C:List bZ} {α:Type} {g:α→List bZ} {l:List α} {i:Nat} (h:kO most limit (gP most limit acc<|A++(C++(l.take i).flatMap g))=true):gP most limit acc (A++(C++l.flatMap g))=gP most limit acc (A++(C++(l.take i).flatMap g)):=by
 rw [← dF] at h ⊢
 rw [Cj h,dF]
theorem RS {F:aT} {xs:List bF} (a:eW F xs) (n:Int):∀ d∈fj F xs n,1≤d.kG.length∧d.kG.length≤200:=by
 intro d hd
 unfold fj at hd
 split at hd
 · rename_i h
   obtain ⟨k,rfl⟩:∃ k:Nat,n=(k:Int):=⟨n.toNat,ab⟩
   have i:xs[k]? =some xs[k]:=cD ab
   have A:xs.getD k ([],[])=xs[k]:=by rw [cV,i]; rfl
   rw [mM] at hd
   have h1:=a.ne _<|iP i
   have h2:=(a.uA _<|iP i).1
   have :=RT (fun q C=>(a.fs.2 q C).2) (by rw [A]; exact h1) d hd
   rw [A] at this
   omega
 · cases hd
theorem UW {F:aT} {xs:List bF} (a:eW F xs) {n most:Int} (i:most≤2000):gP most 1152921504606846976 [] (fj F xs n)=iM (fj F xs n) most:=by
 by_cases hm:most < 1
 · rw [Lh hm,yi (decide_eq_true<|Or.inl<|by simp only [ga]; omega)]
 · unfold iM; rw [if_neg hm]
   have :=UU (most:=most) (limit:=1152921504606846976) 200 ab ab (fj F xs n) [] (fun d hd=>(RS a n d hd).2) (by simp only [ga]; omega)<|jD _
   rw [this]; rfl
set_option maxHeartbeats 4000000 in
theorem Dy (B tb fb:Nat) (V:ep) (ve:Value) (F:aT) (xs:List bF) (S0 xb:Nat) (cz:Bool) (most limit:Int) (acc:List bZ) (fp:Nat→Prop) (word c7:Tx) (en:Nat) (f s c6:Int) (ap:Option Addr) (cp bV:Nat) (w:World) (bv:gi w B tb fb V ve F xs) (ai:eW F xs) (ao:iw w fp S0 xb cz most limit acc) (bN:most≤2000∨limit≤1048576) (cM:bu w bV 3 1 (.slice ap (aV F (flagsOf xs en) 1).length cp) (aV F (flagsOf xs en) 1).length ((aV F (flagsOf xs en) 1).map bP)) (bL:Rn F f) (hs:Rn F s) (c5:1≤word.length∧word.length≤500):
 bo aw 75 (bh [aR tb,aR xb,str word,.agg (eH ⟨c7,en,f,s,c6⟩).toArray,.slice ap (aV F (flagsOf xs en) 1).length cp]) w (fun v w'=>v= .tuple #[]∧∃ fp',iw w' fp' S0 xb cz most limit (gP most limit acc<|eD F xs en word f s)∧Tw fp w fp' w'):=by
 have cG:=ao.lt
 have di:=rE F (flagsOf xs (en:Int)) 1
 have dj:=ai.len
 refine enter func75 aa ntmps75 aa<|ag fun bW=>e<|ot aa fun G ds dh bx cg=> ?_
 have dk:=bx.size
 refine nl<|bW<|ag fun b1=>p (fa rp aa)<|e<|cJ gB aa aa (v:= .int .i64<|-1) aa cg (by show 4 < 5; omega) fun dq cj cc=>nl<|b1<|ag fun b2=>p mv<|p (fa xY aa)<|e<|cJ kM aa aa (v:=str word) aa cc (by simp only [List.length_set]; show 0 < 5; omega) fun bc ck ce=> ?_
 have a0:bc.heap[G]? =some (.cells (eH ⟨word,en,f,s,-1⟩).toArray 43 (0,0)):=ce
 have br:Wk w bc:=(bx.md.trans' cj fun q a4 h=>by omega).trans' ck fun q a4 h=>by omega
 have a3:¬fp G:=fun h=>by have :=cG G h; omega
 refine nl<|b2<|ag fun b3=>p mv<|p (c8 sx aa (aa) fun j ah=>(oq a0).bE j)<|e<|cl Ff (Kk B tb fb V ve F xs word en f s (-1) bc (bv.wk br) ai bL hs<|.inl aa) aa fun dm c9 cm=> ?_
 obtain ⟨rfl,bp⟩:=cm
 have aG:=br.trans bp
 have bz:=ao.wk aG
 have aq:=Wk.aM bp a0
 refine ay<|b3 ?_
 refine ej (fun ac ax=> ∃ (ae:Nat→Prop),(iw ax ae S0 xb cz most limit<|gP most limit acc<|kt F xs en word f s)∧(Tw fp w ae ax)∧(ax.heap[G]? =some (.cells (eH ⟨word,en,f,s,-1⟩).toArray 43 (0,0)))∧(¬ae G)∧(ac 0=aR tb)∧(ac 1=aR xb)∧(ac 2=str word)∧(ac 4= .slice ap (aV F (flagsOf xs en) 1).length cp)∧(ac 8=aR G)) ?_ ?_
 refine ag fun az=>p mv<|nl<|az<|cb aa (fun a1=> ?_) fun a1=> ?_
 have aX:kt F xs en word f s= [⟨word,en,f,s,-1⟩]:=if_pos a1
 refine rg aa<|p mv<|p (c8 sx aa (aa) fun j ah=>(oq aq).bE j)<|e<|cl Fg (Jj S0 xb cz most limit acc fp ⟨word,en,f,s,-1⟩ c9 bz ⟨c5.1,by show word.length≤1000; omega⟩ bN) aa fun dn dr cn=> ?_
 obtain ⟨rfl,ca,cw,aP⟩:=cn
 have cE:=aP.md.aM aq a3
 have cK:=Jt aP a3 (cQ.1 aq).1
 exact nl<|tn<|⟨ca,(by rw [aX]; exact cw),((Tw.wk aG).trans aP),cE,cK,aa,aa,aa,aa,aa⟩
 have aX:kt F xs en word f s= []:=if_neg<|by rw [a1]; exact ei
 exact aO<|tn<|⟨fp,(by rw [aX]; exact bz),(Tw.wk aG),aq,a3,aa,aa,aa,aa,aa⟩
 rintro ac ax ⟨ae,cx,ct,cF,cL,cO,cP,cR,cS,cT⟩
 refine fx 0 cO<|fx 1 cP<|fx 2 cR<|fx 4 cS<|fx 8 cT<|ag fun az=>ay<|az<|aM<|lp (fun bg J I=> ∃ (i:Nat) (E:Nat→Prop) (av:Tx) (pp:Int),(i≤(aV F (flagsOf xs en) 1).length)∧(iw I E S0 xb cz most limit<|gP most limit acc<|kt F xs en word f s++((aV F (flagsOf xs en) 1).take i).filterMap (ju F xs en word f s))∧(Tw fp w E I)∧(I.heap[G]? =some (.cells (eH ⟨av,en,f,s,pp⟩).toArray 43 (0,0)))∧(¬E G)∧(J 0=aR tb)∧(J 1=aR xb)∧(J 2=str word)∧(J 4= .slice ap (aV F (flagsOf xs en) 1).length cp)∧(J 8=aR G)∧(J 11=ak i)∧((aV F (flagsOf xs en) 1).length - i=bg)) _ ⟨0,ae,word,-1,ab,(by simpa using cx),ct,cF,cL,aa,aa,aa,aa,aa,aa,aa⟩ ?_
 rintro bg J I ⟨i,E,av,pp,hi,O,an,cB,U,cU,cW,cY,cZ,c0,cX,rfl⟩
 refine fx 0 cU<|fx 1 cW<|fx 2 cY<|fx 4 cZ<|fx 8 c0<|fx 11 cX<|aC fun b4=>aC fun aA=> ?_
 obtain ⟨dc,dd,c3,b6,b7,b8⟩:=O.aQ
 have a:(fun w'=>Wk I w') I.drew:=(Md.refl _ _).drew
 refine bM (fun w'=>Wk I w') aa wide a<|bH 0 aa (ak i) a<|bH 1 aa (.slice ap (aV F (flagsOf xs en) 1).length cp) a<|aE 2 aa (fun _ _=>bK ng aa aa) a<|aE 3 aa (fun _ _=>lt aa aa) a<|aE 4 aa (fun _ _=>mv) a<|iH (t:=28) aa (fun cH=> ?_) fun cH=> ?_
 refine bj 5 aa (fun _ _=>aU (aR xb) aa) a<|bj 6 aa (fun _ _=>nc aa) a<|bj 7 aa (fun _ _=>fa sU aa) a<|bj 8 aa (fun w' C=>ld bC aa<|Wk.aQ C<|b7) a<|bj 9 aa (fun _ _=>aU (aR xb) aa) a<|bj 10 aa (fun _ _=>nc aa) a<|bj 11 aa (fun _ _=>fa xP aa) a<|bj 12 aa (fun w' C=>ld bC aa<|Wk.aQ C<|c3) a<|bj 13 aa (fun _ _=>lt aa aa) a<|aE 14 aa (fun _ _=>bB aa) a<|aE 15 aa (fun _ _=>mv) a<|iH (t:=39) aa (fun bT=> ?_) fun bT=> ?_
 refine bj 16 aa (fun _ _=>aU (aR xb) aa) a<|bj 17 aa (fun _ _=>nc aa) a<|bj 18 aa (fun _ _=>fa sV aa) a<|bj 19 aa (fun w' C=>ld bC aa<|Wk.aQ C<|b8) a<|bj 20 aa (fun _ _=>aU (aR xb) aa) a<|bj 21 aa (fun _ _=>nc aa) a<|bj 22 aa (fun _ _=>fa xQ aa) a<|bj 23 aa (fun w' C=>ld bC aa<|Wk.aQ C<|b6) a<|bj 24 aa (fun _ _=>le aa aa) a<|aE 25 aa (fun _ _=>bB aa) a<|hn aj<|aA<|cd aa (fun bA=> ?_) fun bA=> ?_
 have cy:=O.wk a
 have bI:=Wk.aM a cB
 have am:=an.trans<|Tw.wk a
 have ci:=uR bv ao am.md
 have bO:=rG cM ao am
 have cN:=rB.1<|dV (d:=0) (show i < (aV F (flagsOf xs en) 1).length by omega)
 obtain ⟨r,a5⟩:∃ r,F.rules[((aV F (flagsOf xs en) 1).getD i 0)]? =some r:=⟨_,cD cN.1⟩
 have bR:F.rules.getD ((aV F (flagsOf xs en) 1).getD i 0) eY=r:=by rw [cV,a5]; rfl
 have Y:=Dr (g:=ju F xs en word f s) 0 (show i < (aV F (flagsOf xs en) 1).length by omega)
 have ar:=(ai.iL a5).2.2
 refine aO<|b4<|aC fun aD=>aM<|ag fun b5=>au (.slice ap (aV F (flagsOf xs en) 1).length cp)<|au (ak i)<|p (ba kb aa aa ab<|aJ.ok ((a8 bO).2)<|bS ab)<|p (ld bC aa<|aJ.gL (i:=i) (a8 bO).2<|m9 ab)<|p (fa rp aa)<|e<|cJ gB aa aa (v:= .int .i64 ((((aV F (flagsOf xs en) 1).getD i 0):Nat):Int)) aa bI (by show 4 < 5; omega) fun Z aL ch=> ?_
 have bJ:Z.heap[G]? =some (.cells (eH ⟨av,en,f,s,(((aV F (flagsOf xs en) 1).getD i 0):Nat)⟩).toArray 43 (0,0)):=ch
 have cA:=cy.Je aL U
 have aK:=TS ci bI aL
 obtain ⟨db,de,dl,rc,c1,bk,bQ,df⟩:=aK.iL a5
 refine nl<|b5<|aC fun bX=> ?_
 have A:(fun w'=>Wk Z w') Z.drew:=(Md.refl _ _).drew
 refine bM (fun w'=>Wk Z w') aa wide A<|bH 0 aa (aR tb) A<|aE 1 aa (fun _ _=>nc aa) A<|aE 2 aa (fun _ _=>fa m6 aa) A<|aE 3 aa (fun w' C=>ld ib aa<|Wk.aQ C<|(a7 aK.cells).trans aa) A<|aE 4 aa (fun _ _=>nc aa) A<|aE 5 aa (fun _ _=>fa jL aa) A<|aE 6 aa (fun w' C=>ld j8 aa<|Wk.aQ C<|c1) A<|aE 7 aa (fun _ _=>fa rp aa) A<|aE 8 aa (fun w' C=>ld bC aa<|Wk.aQ C<|(a7 bJ).trans (show _=some (Value.int .i64 ((((aV F (flagsOf xs en) 1).getD i 0):Nat):Int)) from aa)) A<|aE 9 aa (fun _ _=>ba nE aa aa ab<|aJ.ok (bk.wk A)<|nJ bQ) A<|aE 10 aa (fun w' C=>c8 qZ aa (aa) fun j ah=>fw (f:=jv) (m:=8) (fun _=>rfl) (bk.wk C) bQ j ah) A<|bH 11 aa (str word) A<|he 12 aa aj<|cl AL (CV r _ word Z.drew (by unfold jR at ar; omega) (by unfold jR at ar; omega) (by unfold jR at ar; omega) ab) aa fun v70 bU co=> ?_
 obtain ⟨rfl,bs⟩:=co
 have aF:=A.trans bs
 have bD:=Wk.aM aF bJ
 have M:(fun w'=>Wk Z w') bU:=A.trans bs
 refine ⟨M,?_⟩
 refine aE 13 aa (fun _ _=>mv) M<|aE 14 aa (fun _ _=>xt aa aa) M<|aE 15 aa (fun _ _=>xt aa aa) M<|aE 16 aa (fun _ _=>aB) M<|aE 17 aa (fun _ _=>aB) M<|hn aj<|bX<|aC fun bY=>rg aa<|au (aR tb)<|p (c8 sx aa (aa) fun j ah=>(oq bD).bE j)<|e<|cl Ff (Kk B tb fb V ve F xs av en f s (((aV F (flagsOf xs en) 1).getD i 0):Nat) bU (aK.wk aF) ai bL hs<|.inr ab) aa fun v75 da cq=> ?_
 obtain ⟨rfl,bt⟩:=cq
 have bm:=aF.trans bt
 have aS:=cA.wk bm
 have aY:=Wk.aM bt bD
 have dg:=(cQ.1 a0).1
 have al:Tw fp w E da:=⟨(am.md.trans' aL fun q a4 h=>by omega).trans' bm (fun _ _ h=>h.elim),fun k hk=>am.sub k hk⟩
 refine ay<|bY<|ag fun bd=>p mv<|p mv<|gb (t:=77) aa (fun aW=> ?_) fun aW=> ?_
 obtain ⟨v,a9⟩:∃ v,dC r word=some v:=oX.1 aW
 have c2:(dC r word).getD []=v:=by rw [a9]; rfl
 have c4:=qa (by unfold jR at ar; omega) a9
 refine aI aa mv<|p (bB aa)<|nl<|bd<|cb aa (fun a2=> ?_) fun a2=> ?_
 have bM:=Gr (word:=word) a2<|by rw [bR]; exact a9
 rw [bM] at Y
 refine ag fun b0=>p mv<|p (fa xY aa)<|e<|cJ kM aa aa (v:=str<|(dC r word).getD []) aa aY (by show 0 < 5; omega) fun bb bw bi=> ?_
 rw [c2] at bi
 have aZ:bb.heap[G]? =some (.cells (eH ⟨v,en,f,s,(((aV F (flagsOf xs en) 1).getD i 0):Nat)⟩).toArray 43 (0,0)):=bi
 have cu:=aS.Je bw U
 have cs:Tw fp w E bb:=⟨al.md.trans' bw (fun q a4 h=>by omega),al.sub⟩
 refine nl<|b0<|rg aa<|au (aR xb)<|p (c8 sx aa (aa) fun j ah=>(oq aZ).bE j)<|e<|cl Fg (Jj S0 xb cz most limit (gP most limit acc<|kt F xs en word f s++((aV F (flagsOf xs en) 1).take i).filterMap (ju F xs en word f s)) E ⟨v,en,f,s,(((aV F (flagsOf xs en) 1).getD i 0):Nat)⟩ bb cu ⟨c4.1,by show v.length≤1000; omega⟩ bN) aa fun dp dt cr=> ?_
 obtain ⟨rfl,b9,cv,aN⟩:=cr
 have cC:=aN.md.aM aZ U
 have cI:=Jt aN U (cQ.1 aZ).1
 exact nl<|bn<|aD<|rg aa<|au (ak i)<|p (bG ((i+1:Nat):Int) aa aa<|bl ab ab)<|p aB<|nl<|tn<|⟨_,ab,i+1,b9,_,_,ab,(by rw [Y,← dF,uS]; exact cv),(cs.trans aN),cC,cI,aa,aa,aa,aa,aa,aa,aa⟩
 have bM:=Gq (word:=word) a2
 rw [bM] at Y
 exact aO<|bn<|aD<|rg aa<|au (ak i)<|p (bG ((i+1:Nat):Int) aa aa<|bl ab ab)<|p aB<|nl<|tn<|⟨_,ab,i+1,E,_,_,ab,(by rw [Y]; simpa using aS),al,aY,U,aa,aa,aa,aa,aa,aa,aa⟩
 have bM:=Gp (xs:=xs) (e:=en) (f:=f) (s:=s) (word:=word) (p:=(aV F (flagsOf xs en) 1).getD i 0)<|by rw [bR]; simpa using aW
 rw [bM] at Y
 exact aH aa<|p (bq aa)<|nl<|bd<|cf aa<|aO<|bn<|aD<|rg aa<|au (ak i)<|p (bG ((i+1:Nat):Int) aa aa<|bl ab ab)<|p aB<|nl<|tn<|⟨_,ab,i+1,E,_,_,ab,(by rw [Y]; simpa using aS),al,aY,U,aa,aa,aa,aa,aa,aa,aa⟩
 exact ext<|bf<|bf<|be<|f0 aa<|⟨aa,E,(by unfold eD; rw [IP (BT bA)]; exact O.wk a),an.trans<|Tw.wk a⟩
 refine a6 16 aa a<|a6 17 aa a<|a6 18 aa a<|a6 19 aa a<|a6 20 aa a<|a6 21 aa a<|a6 22 aa a<|a6 23 aa a<|a6 24 aa a<|aE 25 aa (fun _ _=>bq aa) a<|hn aj<|aA<|cf aa<|ext<|bf<|bf<|be<|f0 aa ?_
 exact ⟨aa,E,(by unfold eD; rw [IP (BU bT)]; exact O.wk a),an.trans<|Tw.wk a⟩
 refine a6 5 aa a<|a6 6 aa a<|a6 7 aa a<|a6 8 aa a<|a6 9 aa a<|a6 10 aa a<|a6 11 aa a<|a6 12 aa a<|a6 13 aa a<|aE 14 aa (fun _ _=>bq aa) a<|aE 15 aa (fun _ _=>mv) a<|a6 16 aa a<|a6 17 aa a<|a6 18 aa a<|a6 19 aa a<|a6 20 aa a<|a6 21 aa a<|a6 22 aa a ?_
 refine a6 23 aa a<|a6 24 aa a<|aE 25 aa (fun _ _=>bq aa) a<|hn aj<|aA<|cf aa<|ext<|bf<|bf<|be<|f0 aa ?_
 rw [eN ab] at O
 exact ⟨aa,E,O.wk a,an.trans<|Tw.wk a⟩
set_option maxHeartbeats 4000000 in
theorem YV (B tb fb:Nat) (V:ep) (ve:Value) (F:aT) (xs:List bF) (S0 xb:Nat) (cz:Bool) (most limit:Int) (acc:List bZ) (fp:Nat→Prop) (n:Int) (w:World) (al:gi w B tb fb V ve F xs) (O:eW F xs) (an:iw w fp S0 xb cz most limit acc) (bX:most≤2000∨limit≤1048576):
 bo aw 39 (bh [aR tb,.int .i64 n,aR xb]) w (fun v w'=>v= .tuple #[]∧∃ fp',iw w' fp' S0 xb cz most limit (gP most limit acc<|fj F xs n)∧Tw fp w fp' w'):=by
 obtain ⟨em,ce,ec⟩:=al.LL
 have eG:=O.xl
 have eC:=O.len
 refine enter func39 aa ntmps39 aa<|aC fun cK=>ag fun b9=>p mv<|p (lt aa aa)<|p mv<|gs (t:=18) aa (fun dy=> ?_) fun dy=> ?_
 exact aH aa<|aH aa<|aH aa<|aH aa<|aH aa<|aH aa<|aH aa<|p (bB aa)<|nl<|b9<|ct aa<|rt<|tr<|rk aa<|⟨aa,fp,by rw [A2 ab,Ci]; exact an,Tw.refl _ _⟩
 refine aI aa mv<|aI aa mv<|aI aa (nc aa)<|aI aa (fa xW aa)<|aI aa (ld wU aa<|ec)<|aI aa (bK Du aa aa)<|aI aa (ge aa aa)<|p (bq aa)<|nl<|b9<|cd aa (fun dv=> ?_) fun dv=> ?_
 exact rt<|tr<|rk aa<|⟨aa,fp,by rw [A2 ab,Ci]; exact an,Tw.refl _ _⟩
 obtain ⟨k,rfl⟩:∃ k:Nat,n=(k:Int):=⟨n.toNat,ab⟩
 obtain ⟨x,bm⟩:∃ x,xs[k]? =some x:=⟨_,cD ab⟩
 obtain ⟨en,er,ws,a,c,ed,ca,cx,ex⟩:=al.sQ bm
 obtain ⟨eu,ev,c6,bw⟩:=sB bm
 have bW:lH F xs k=eD F xs k x.1 (-1) (-1)++(aV F (flagsOf xs (k:Int)) 2).flatMap (fW F xs k):=by unfold lH; rw [bw]
 have eH:=(O.uA x<|iP bm).1
 have eg:=O.ne x<|iP bm
 have eA:=rE F (flagsOf xs (k:Int)) 2
 have bJ:fj F xs (k:Int)=lH F xs k:=uv c6
 refine aO<|cK<|ag fun cX=>p mv<|p (nc aa)<|p (fa xW aa)<|p (ld wU aa<|ed)<|p mv<|p (ba G6 aa aa ab<|aJ.ok (ca)<|uy cx)<|p (fa S5 aa)<|p (ld bU aa<|fw (f:=pw) (m:=2) (fun _=>rfl) ca cx 0 az)<|ay<|cX<|aC fun cY=>rg aa<|p mv<|p mv<|e<|cl Qb (Xb B tb fb V ve F xs (k:Int) w al O) aa fun v37 ej di=> ?_
 obtain ⟨bY,bx⟩:=di
 obtain ⟨Y,ac,rfl⟩:=cC bY
 have cr:=an.wk bx
 refine ay<|cY<|ag fun cZ=>p mv<|p mv<|p mv<|p mv<|p (cU (ps:= [(1,ak k),(2,.int .i64 (-1)),(3,.int .i64 (-1))]) (L:= [.string ⟨⟨[]⟩⟩,ak k,.int .i64 (-1),.int .i64 (-1),.int .i64 0]) Dk aa<|aa)<|p mv<|e<|cl AK (Dy B tb fb V ve F xs S0 xb cz most limit acc fp x.1 [] k (-1) (-1) 0 Y ac w.heap.size ej (al.wk bx) O cr bX bY (.inl aa) (.inl aa) ⟨eg,ab⟩) aa fun eO el dj=> ?_
 obtain ⟨rfl,da,ds,cm⟩:=dj
 have bO:=(Tw.wk bx).trans cm
 have dE:=rG bY cr cm
 refine nl<|cZ<|ag fun c0=>p mv<|p mv<|e<|cl Qc (Xf B tb fb V ve F xs (k:Int) el (uR al an bO.md) O) aa fun eP eU dk=> ?_
 obtain ⟨cv,bA⟩:=dk
 obtain ⟨Z,ae,rfl⟩:=cC cv
 have dt:=ds.wk bA
 have dp:=bO.trans<|Tw.wk bA
 have dG:=aW dE bA
 have dO:=ew cv (show w.heap.size≤_ from bO.md.size)
 refine ay<|c0<|ag fun c1=>ay<|c1<|aM<|lp (fun aF am M=> ∃ (i:Nat) (ah:Nat→Prop),(i≤(aV F (flagsOf xs (k:Int)) 2).length)∧(iw M ah S0 xb cz most limit<|gP most limit acc<|eD F xs k x.1 (-1) (-1)++((aV F (flagsOf xs (k:Int)) 2).take i).flatMap (fW F xs k))∧(Tw fp w ah M)∧(bu M w.heap.size 3 1 (.slice Y (aV F (flagsOf xs (k:Int)) 1).length ac) (aV F (flagsOf xs (k:Int)) 1).length<|(aV F (flagsOf xs (k:Int)) 1).map bP)∧(bu M w.heap.size 3 1 (.slice Z (aV F (flagsOf xs (k:Int)) 2).length ae) (aV F (flagsOf xs (k:Int)) 2).length<|(aV F (flagsOf xs (k:Int)) 2).map bP)∧(am 0=aR tb)∧(am 1=ak k)∧(am 2=aR xb)∧(am 6=str x.1)∧(am 7= .slice Y (aV F (flagsOf xs (k:Int)) 1).length ac)∧(am 8= .slice Z (aV F (flagsOf xs (k:Int)) 2).length ae)∧(am 9=ak i)∧((aV F (flagsOf xs (k:Int)) 2).length - i=aF)) _ ⟨0,da,ab,(by simpa using dt),dp,dG,dO,aa,aa,aa,aa,aa,aa,aa,aa⟩ ?_
 rintro aF am M ⟨i,ah,hi,av,a0,dI,dP,dU,dW,dX,dY,dZ,d0,d1,rfl⟩
 refine fx 0 dU<|fx 1 dW<|fx 2 dX<|fx 6 dY<|fx 7 dZ<|fx 8 d0<|fx 9 d1<|aC fun c2=>aC fun br=> ?_
 obtain ⟨c4,c5,c3,bs,bt,bv⟩:=av.aQ
 have A:(fun w'=>Wk M w') M.drew:=(Md.refl _ _).drew
 refine bM (fun w'=>Wk M w') aa wide A<|bH 0 aa (ak i) A<|bH 1 aa (.slice Z (aV F (flagsOf xs (k:Int)) 2).length ae) A<|aE 2 aa (fun _ _=>bK ng aa aa) A<|aE 3 aa (fun _ _=>lt aa aa) A<|aE 4 aa (fun _ _=>mv) A<|iH (t:=52) aa (fun dw=> ?_) fun dw=> ?_
 refine bj 5 aa (fun _ _=>aU (aR xb) aa) A<|bj 6 aa (fun _ _=>nc aa) A<|bj 7 aa (fun _ _=>fa sU aa) A<|bj 8 aa (fun w' C=>ld bC aa<|Wk.aQ C<|bt) A<|bj 9 aa (fun _ _=>aU (aR xb) aa) A<|bj 10 aa (fun _ _=>nc aa) A<|bj 11 aa (fun _ _=>fa xP aa) A<|bj 12 aa (fun w' C=>ld bC aa<|Wk.aQ C<|c3) A<|bj 13 aa (fun _ _=>lt aa aa) A<|aE 14 aa (fun _ _=>bB aa) A<|aE 15 aa (fun _ _=>mv) A<|iH (t:=63) aa (fun cH=> ?_) fun cH=> ?_
 refine bj 16 aa (fun _ _=>aU (aR xb) aa) A<|bj 17 aa (fun _ _=>nc aa) A<|bj 18 aa (fun _ _=>fa sV aa) A<|bj 19 aa (fun w' C=>ld bC aa<|Wk.aQ C<|bv) A<|bj 20 aa (fun _ _=>aU (aR xb) aa) A<|bj 21 aa (fun _ _=>nc aa) A<|bj 22 aa (fun _ _=>fa xQ aa) A<|bj 23 aa (fun w' C=>ld bC aa<|Wk.aQ C<|bs) A<|bj 24 aa (fun _ _=>le aa aa) A<|aE 25 aa (fun _ _=>bB aa) A<|hn aj<|br<|cd aa (fun cs=> ?_) fun cs=> ?_
 have du:=av.wk A
 have cn:=a0.trans<|Tw.wk A
 have bI:=uR al an cn.md
 have dH:=aW dI A
 have b3:=aW dP A
 have dT:=rB.1<|dV (d:=0) (show i < (aV F (flagsOf xs (k:Int)) 2).length by omega)
 obtain ⟨r,b5⟩:∃ r,F.rules[((aV F (flagsOf xs (k:Int)) 2).getD i 0)]? =some r:=⟨_,cD dT.1⟩
 have cB:F.rules.getD ((aV F (flagsOf xs (k:Int)) 2).getD i 0) eY=r:=by rw [cV,b5]; rfl
 have aN:=uD (g:=fW F xs k) 0 (show i < (aV F (flagsOf xs (k:Int)) 2).length by omega)
 have bd:=(O.iL b5).2.2
 obtain ⟨eo,es,eI,rc,ee,cc,cy,ey⟩:=bI.iL b5
 refine aO<|c2<|aC fun aX=>aM<|aC fun cL=> ?_
 have I:(fun w'=>Wk M.drew w') M.drew.drew:=(Md.refl _ _).drew
 refine bM (fun w'=>Wk M.drew w') aa wide I<|bH 0 aa (aR tb) I<|aE 1 aa (fun _ _=>nc aa) I<|aE 2 aa (fun _ _=>fa m6 aa) I<|aE 3 aa (fun w' C=>ld ib aa<|Wk.aQ C<|(a7 bI.cells).trans aa) I<|aE 4 aa (fun _ _=>nc aa) I<|aE 5 aa (fun _ _=>fa jL aa) I<|aE 6 aa (fun w' C=>ld j8 aa<|Wk.aQ C<|ee) I<|bH 7 aa (.slice Z (aV F (flagsOf xs (k:Int)) 2).length ae) I<|bH 8 aa (ak i) I<|aE 9 aa (fun _ _=>ba kb aa aa ab<|aJ.ok ((a8 b3).2.wk I)<|bS ab) I<|aE 10 aa (fun w' C=>ld bC aa<|Wk.aQ C<|aJ.gL (i:=i) (a8 b3).2<|m9 ab) I<|aE 11 aa (fun _ _=>ba nE aa aa ab<|aJ.ok (cc.wk I)<|nJ cy) I<|aE 12 aa (fun w' C=>c8 qZ aa (aa) fun j a3=>fw (f:=jv) (m:=8) (fun _=>rfl) (cc.wk C) cy j a3) I<|bH 13 aa (str x.1) I<|he 14 aa aj<|cl AL (CV r _ x.1 M.drew.drew (by unfold jR at bd; omega) (by unfold jR at bd; omega) (by unfold jR at bd; omega) ab) aa fun v91 cJ dl=> ?_
 obtain ⟨rfl,ci⟩:=dl
 have aG:=I.trans ci
 have a2:=du.wk aG
 have co:=cn.trans<|Tw.wk aG
 have dd:=bI.wk aG
 have b1:=aW dH aG
 have a9:=aW b3 aG
 have ar:(fun w'=>Wk M.drew w') cJ:=I.trans ci
 refine ⟨ar,?_⟩
 refine aE 15 aa (fun _ _=>mv) ar<|aE 16 aa (fun _ _=>xt aa aa) ar<|aE 17 aa (fun _ _=>xt aa aa) ar<|aE 18 aa (fun _ _=>aB) ar<|aE 19 aa (fun _ _=>aB) ar<|hn aj<|cL<|aC fun cM=>ag fun cN=>p mv<|p (no aa)<|nl<|cN<|cb aa (fun bV=> ?_) fun bV=> ?_
 have aK:dC r x.1=none:=by simpa using bV
 have aL:fW F xs k ((aV F (flagsOf xs (k:Int)) 2).getD i 0)= []:=by unfold fW; rw [cB,bw,aK]
 rw [aL,ek] at aN
 exact ext<|bf<|be<|aX<|rg aa<|au (ak i)<|p (bG ((i+1:Nat):Int) aa aa<|bl ab ab)<|p aB<|nl<|tn<|⟨_,ab,i+1,ah,ab,(by rw [aN]; exact a2),co,b1,a9,aa,aa,aa,aa,aa,aa,aa,aa⟩
 obtain ⟨wd,aK⟩:∃ v,dC r x.1=some v:=oX.1<|by simpa using bV
 have aP:((dC r x.1).getD [])=wd:=by rw [aK]; rfl
 have aL:fW F xs k ((aV F (flagsOf xs (k:Int)) 2).getD i 0)=eD F xs k wd (((aV F (flagsOf xs (k:Int)) 2).getD i 0):Nat) (-1)++(aV F (cW F (((aV F (flagsOf xs (k:Int)) 2).getD i 0):Nat)) 2).flatMap (ji F xs k wd (((aV F (flagsOf xs (k:Int)) 2).getD i 0):Nat)):=by unfold fW; rw [cB,bw,aK]
 have eF:=qa (by unfold jR at bd; omega) aK
 refine aO<|cM<|ag fun cO=>au (aR tb)<|au (aR xb)<|p mv<|au (ak k)<|au (.slice Z (aV F (flagsOf xs (k:Int)) 2).length ae)<|au (ak i)<|p (ba kb aa aa ab<|aJ.ok ((a8 a9).2)<|bS ab)<|p (ld bC aa<|aJ.gL (i:=i) (a8 a9).2<|m9 ab)<|p (cU (ps:= [(1,ak k),(2,.int .i64 (((aV F (flagsOf xs (k:Int)) 2).getD i 0):Nat)),(3,.int .i64 (-1))]) (L:= [.string ⟨⟨[]⟩⟩,ak k,.int .i64 (((aV F (flagsOf xs (k:Int)) 2).getD i 0):Nat),.int .i64 (-1),.int .i64 0]) Dk aa<|aa)<|au (.slice Y (aV F (flagsOf xs (k:Int)) 1).length ac)<|e<|cl AK (Dy B tb fb V ve F xs S0 xb cz most limit (gP most limit acc<|eD F xs k x.1 (-1) (-1)++((aV F (flagsOf xs (k:Int)) 2).take i).flatMap (fW F xs k)) ah ((dC r x.1).getD []) [] k ((((aV F (flagsOf xs (k:Int)) 2).getD i 0):Nat):Int) (-1) 0 Y ac w.heap.size cJ dd O a2 bX b1 (.inr ab) (.inl aa)<|by rw [aP]; omega) aa fun eJ ei de=> ?_
 obtain ⟨rfl,c7,cp,bN⟩:=de
 rw [aP,← uS] at cp
 have bL:=co.trans bN
 have dz:=rG b1 a2 bN
 have b2:=rG a9 a2 bN
 have db:=uR al an bL.md
 refine nl<|cO<|ag fun cP=>au (aR tb)<|au (.slice Z (aV F (flagsOf xs (k:Int)) 2).length ae)<|au (ak i)<|p (ba kb aa aa ab<|aJ.ok ((a8 b2).2)<|bS ab)<|p (ld bC aa<|aJ.gL (i:=i) (a8 b2).2<|m9 ab)<|e<|cl Qd (Xe B tb fb V ve F xs (((aV F (flagsOf xs (k:Int)) 2).getD i 0):Nat) ei db O) aa fun eK eQ df=> ?_
 obtain ⟨cw,aY⟩:=df
 obtain ⟨aA,aD,rfl⟩:=cC cw
 have dq:=cp.wk aY
 have dm:=bL.trans<|Tw.wk aY
 have dA:=aW dz aY
 have dJ:=aW b2 aY
 have dQ:=ew cw (show w.heap.size≤_ from bL.md.size)
 have eB:=rE F (cW F (((aV F (flagsOf xs (k:Int)) 2).getD i 0):Nat)) 2
 refine ay<|cP<|ag fun cQ=>ay<|cQ<|aM<|lp (fun aF U J=> ∃ (j:Nat) (ai:Nat→Prop),(j≤(aV F (cW F (((aV F (flagsOf xs (k:Int)) 2).getD i 0):Nat)) 2).length)∧(iw J ai S0 xb cz most limit<|gP most limit acc<|eD F xs k x.1 (-1) (-1)++((aV F (flagsOf xs (k:Int)) 2).take i).flatMap (fW F xs k)++(eD F xs k wd (((aV F (flagsOf xs (k:Int)) 2).getD i 0):Nat) (-1)++((aV F (cW F (((aV F (flagsOf xs (k:Int)) 2).getD i 0):Nat)) 2).take j).flatMap (ji F xs k wd (((aV F (flagsOf xs (k:Int)) 2).getD i 0):Nat))))∧(Tw fp w ai J)∧(bu J w.heap.size 3 1 (.slice Y (aV F (flagsOf xs (k:Int)) 1).length ac) (aV F (flagsOf xs (k:Int)) 1).length<|(aV F (flagsOf xs (k:Int)) 1).map bP)∧(bu J w.heap.size 3 1 (.slice Z (aV F (flagsOf xs (k:Int)) 2).length ae) (aV F (flagsOf xs (k:Int)) 2).length<|(aV F (flagsOf xs (k:Int)) 2).map bP)∧(bu J w.heap.size 3 1 (.slice aA (aV F (cW F (((aV F (flagsOf xs (k:Int)) 2).getD i 0):Nat)) 2).length aD) (aV F (cW F (((aV F (flagsOf xs (k:Int)) 2).getD i 0):Nat)) 2).length<|(aV F (cW F (((aV F (flagsOf xs (k:Int)) 2).getD i 0):Nat)) 2).map bP)∧(U 0=aR tb)∧(U 1=ak k)∧(U 2=aR xb)∧(U 6=str x.1)∧(U 7= .slice Y (aV F (flagsOf xs (k:Int)) 1).length ac)∧(U 8= .slice Z (aV F (flagsOf xs (k:Int)) 2).length ae)∧(U 9=ak i)∧(U 10=str ((dC r x.1).getD []))∧(U 12= .slice aA (aV F (cW F (((aV F (flagsOf xs (k:Int)) 2).getD i 0):Nat)) 2).length aD)∧(U 13=ak j)∧((aV F (cW F (((aV F (flagsOf xs (k:Int)) 2).getD i 0):Nat)) 2).length - j=aF)) _ ⟨0,c7,ab,(by simpa using dq),dm,dA,dJ,dQ,aa,aa,aa,aa,aa,aa,aa,aa,aa,aa,aa⟩ ?_
 rintro aF U J ⟨j,ai,a3,ax,a1,a4,bb,dS,d2,d3,d7,d8,d9,ea,eb,d4,d5,d6,rfl⟩
 refine fx 0 d2<|fx 1 d3<|fx 2 d7<|fx 6 d8<|fx 7 d9<|fx 8 ea<|fx 9 eb<|fx 10 d4<|fx 12 d5<|fx 13 d6<|aC fun cR=>aC fun bp=> ?_
 obtain ⟨c4,c5,c3,bs,bt,bv⟩:=ax.aQ
 have q:(fun w'=>Wk J w') J.drew:=(Md.refl _ _).drew
 refine bM (fun w'=>Wk J w') aa wide q<|bH 0 aa (ak j) q<|aE 1 aa (fun _ _=>aU (.slice aA (aV F (cW F (((aV F (flagsOf xs (k:Int)) 2).getD i 0):Nat)) 2).length aD) aa) q<|aE 2 aa (fun _ _=>bK ng aa aa) q<|aE 3 aa (fun _ _=>lt aa aa) q<|aE 4 aa (fun _ _=>mv) q<|iH (t:=117) aa (fun dx=> ?_) fun dx=> ?_
 refine bj 5 aa (fun _ _=>aU (aR xb) aa) q<|bj 6 aa (fun _ _=>nc aa) q<|bj 7 aa (fun _ _=>fa sU aa) q<|bj 8 aa (fun w' C=>ld bC aa<|Wk.aQ C<|bt) q<|bj 9 aa (fun _ _=>aU (aR xb) aa) q<|bj 10 aa (fun _ _=>nc aa) q<|bj 11 aa (fun _ _=>fa xP aa) q<|bj 12 aa (fun w' C=>ld bC aa<|Wk.aQ C<|c3) q<|bj 13 aa (fun _ _=>lt aa aa) q<|aE 14 aa (fun _ _=>bB aa) q<|aE 15 aa (fun _ _=>mv) q<|iH (t:=128) aa (fun cI=> ?_) fun cI=> ?_
 refine bj 16 aa (fun _ _=>aU (aR xb) aa) q<|bj 17 aa (fun _ _=>nc aa) q<|bj 18 aa (fun _ _=>fa sV aa) q<|bj 19 aa (fun w' C=>ld bC aa<|Wk.aQ C<|bv) q<|bj 20 aa (fun _ _=>aU (aR xb) aa) q<|bj 21 aa (fun _ _=>nc aa) q<|bj 22 aa (fun _ _=>fa xQ aa) q<|bj 23 aa (fun w' C=>ld bC aa<|Wk.aQ C<|bs) q<|bj 24 aa (fun _ _=>le aa aa) q<|aE 25 aa (fun _ _=>bB aa) q<|hn aj<|bp<|cd aa (fun cu=> ?_) fun cu=> ?_
 have dr:=ax.wk q
 have cj:=a1.trans<|Tw.wk q
 have bE:=uR al an cj.md
 have dB:=aW a4 q
 have dL:=aW bb q
 have b4:=aW dS q
 have eh:=rB.1<|dV (d:=0) (show j < (aV F (cW F (((aV F (flagsOf xs (k:Int)) 2).getD i 0):Nat)) 2).length by omega)
 obtain ⟨ao,b6⟩:∃ r,F.rules[((aV F (cW F (((aV F (flagsOf xs (k:Int)) 2).getD i 0):Nat)) 2).getD j 0)]? =some r:=⟨_,cD eh.1⟩
 have cE:F.rules.getD ((aV F (cW F (((aV F (flagsOf xs (k:Int)) 2).getD i 0):Nat)) 2).getD j 0) eY=ao:=by rw [cV,b6]; rfl
 have bi:=uD (g:=ji F xs k wd (((aV F (flagsOf xs (k:Int)) 2).getD i 0):Nat)) 0 (show j < (aV F (cW F (((aV F (flagsOf xs (k:Int)) 2).getD i 0):Nat)) 2).length by omega)
 have bg:=(O.iL b6).2.2
 obtain ⟨eq,et,eV,eX,ef,cg,cA,ez⟩:=bE.iL b6
 refine aO<|cR<|aC fun b8=>aM<|aC fun cS=> ?_
 have G:(fun w'=>Wk J.drew w') J.drew.drew:=(Md.refl _ _).drew
 refine bM (fun w'=>Wk J.drew w') aa wide G<|bH 0 aa (aR tb) G<|aE 1 aa (fun _ _=>nc aa) G<|aE 2 aa (fun _ _=>fa m6 aa) G<|aE 3 aa (fun w' C=>ld ib aa<|Wk.aQ C<|(a7 bE.cells).trans aa) G<|aE 4 aa (fun _ _=>nc aa) G<|aE 5 aa (fun _ _=>fa jL aa) G<|aE 6 aa (fun w' C=>ld j8 aa<|Wk.aQ C<|ef) G<|aE 7 aa (fun _ _=>aU (.slice aA (aV F (cW F (((aV F (flagsOf xs (k:Int)) 2).getD i 0):Nat)) 2).length aD) aa) G<|bH 8 aa (ak j) G<|aE 9 aa (fun _ _=>ba kb aa aa ab<|aJ.ok ((a8 b4).2.wk G)<|bS ab) G<|aE 10 aa (fun w' C=>ld bC aa<|Wk.aQ C<|aJ.gL (i:=j) (a8 b4).2<|m9 ab) G<|aE 11 aa (fun _ _=>ba nE aa aa ab<|aJ.ok (cg.wk G)<|nJ cA) G<|aE 12 aa (fun w' C=>c8 qZ aa (aa) fun j a3=>fw (f:=jv) (m:=8) (fun _=>rfl) (cg.wk C) cA j a3) G<|bH 13 aa (str<|(dC r x.1).getD []) G<|he 14 aa aj<|cl AL (CV ao _ ((dC r x.1).getD []) J.drew.drew (by unfold jR at bg; omega) (by unfold jR at bg; omega) (by unfold jR at bg; omega)<|by rw [aP]; omega) aa fun eL aS dg=> ?_
 obtain ⟨rfl,ch⟩:=dg
 have ap:=G.trans ch
 have bQ:=dr.wk ap
 have ck:=cj.trans<|Tw.wk ap
 have dc:=bE.wk ap
 have b0:=aW dB ap
 have a5:=aW dL ap
 have bc:=aW b4 ap
 have aq:(fun w'=>Wk J.drew w') aS:=G.trans ch
 refine ⟨aq,?_⟩
 refine aE 15 aa (fun _ _=>mv) aq<|aE 16 aa (fun _ _=>xt aa aa) aq<|aE 17 aa (fun _ _=>xt aa aa) aq<|aE 18 aa (fun _ _=>aB) aq<|aE 19 aa (fun _ _=>aB) aq<|hn aj<|cS<|aC fun cT=>rg aa<|p mv<|nl<|cT<|cb aa (fun bT=> ?_) fun bT=> ?_
 obtain ⟨v2,cF⟩:∃ v,dC ao ((dC r x.1).getD [])=some v:=oX.1 bT
 have cG:(dC ao<|(dC r x.1).getD []).getD []=v2:=by rw [cF]; rfl
 have bk:dC ao wd=some v2:=by rw [← aP]; exact cF
 have b7:ji F xs k wd (((aV F (flagsOf xs (k:Int)) 2).getD i 0):Nat) ((aV F (cW F (((aV F (flagsOf xs (k:Int)) 2).getD i 0):Nat)) 2).getD j 0)=eD F xs k v2 (((aV F (flagsOf xs (k:Int)) 2).getD i 0):Nat) (((aV F (cW F (((aV F (flagsOf xs (k:Int)) 2).getD i 0):Nat)) 2).getD j 0):Nat):=by unfold ji; rw [cE,bk]
 have eE:=qa (by unfold jR at bg; omega) bk
 rw [b7] at bi
 have E:(fun w'=>Wk aS w') aS.drew:=(Md.refl _ _).drew
 refine eS (fun w'=>Wk aS w') 14 aa wide E<|bD 0 aa (aR tb) E<|bD 1 aa (aR xb) E<|bz 2 aa (fun _=>mv) (fun _=>E)<|bD 3 aa (ak k) E<|bD 4 aa (.slice Z (aV F (flagsOf xs (k:Int)) 2).length ae) E<|bD 5 aa (ak i) E<|bz 6 aa (fun _=>ba kb aa aa ab<|aJ.ok ((a8 a5).2.wk E)<|bS ab) (fun _=>E)<|dM 7 aa (fun w' C=>ld bC aa<|Wk.aQ C<|aJ.gL (i:=i) (a8 a5).2<|m9 ab) E<|bz 8 aa (fun _=>aU (.slice aA (aV F (cW F (((aV F (flagsOf xs (k:Int)) 2).getD i 0):Nat)) 2).length aD) aa) (fun _=>E)<|bD 9 aa (ak j) E<|bz 10 aa (fun _=>ba kb aa aa ab<|aJ.ok ((a8 bc).2.wk E)<|bS ab) (fun _=>E)<|dM 11 aa (fun w' C=>ld bC aa<|Wk.aQ C<|aJ.gL (i:=j) (a8 bc).2<|m9 ab) E<|bz 12 aa (fun _=>cU (ps:= [(1,ak k),(2,.int .i64 (((aV F (flagsOf xs (k:Int)) 2).getD i 0):Nat)),(3,.int .i64 (((aV F (cW F (((aV F (flagsOf xs (k:Int)) 2).getD i 0):Nat)) 2).getD j 0):Nat))]) (L:= [.string ⟨⟨[]⟩⟩,ak k,.int .i64 (((aV F (flagsOf xs (k:Int)) 2).getD i 0):Nat),.int .i64 (((aV F (cW F (((aV F (flagsOf xs (k:Int)) 2).getD i 0):Nat)) 2).getD j 0):Nat),.int .i64 0]) Dk aa<|aa) (fun _=>E)<|bD 13 aa (.slice Y (aV F (flagsOf xs (k:Int)) 1).length ac) E<|dK 14 aa aj aj<|cl AK (Dy B tb fb V ve F xs S0 xb cz most limit (gP most limit acc<|eD F xs k x.1 (-1) (-1)++((aV F (flagsOf xs (k:Int)) 2).take i).flatMap (fW F xs k)++(eD F xs k wd (((aV F (flagsOf xs (k:Int)) 2).getD i 0):Nat) (-1)++((aV F (cW F (((aV F (flagsOf xs (k:Int)) 2).getD i 0):Nat)) 2).take j).flatMap (ji F xs k wd (((aV F (flagsOf xs (k:Int)) 2).getD i 0):Nat)))) ai ((dC ao<|(dC r x.1).getD []).getD []) [] k ((((aV F (flagsOf xs (k:Int)) 2).getD i 0):Nat):Int) ((((aV F (cW F (((aV F (flagsOf xs (k:Int)) 2).getD i 0):Nat)) 2).getD j 0):Nat):Int) 0 Y ac w.heap.size aS.drew (dc.wk E) O (bQ.wk E) bX (aW b0 E) (.inr ab) (.inr ab)<|by rw [cG]; omega) aa fun eM eT dh=> ?_
 obtain ⟨rfl,c9,cq,aZ⟩:=dh
 rw [cG,← uS] at cq
 have bR:=bQ.wk E
 have dn:=(ck.trans<|Tw.wk E).trans aZ
 have dD:=rG (aW b0 E) bR aZ
 have dN:=rG (aW a5 E) bR aZ
 have dR:=rG (aW bc E) bR aZ
 exact eR aj<|bn<|b8<|rg aa<|au (ak j)<|p (bG ((j+1:Nat):Int) aa aa<|bl ab ab)<|p aB<|nl<|tn<|⟨_,ab,j+1,c9,ab,(by rw [bi,← dF (eD F xs k wd (((aV F (flagsOf xs (k:Int)) 2).getD i 0):Nat)<|-1),← dF]; exact cq),dn,dD,dN,dR,aa,aa,aa,aa,aa,aa,aa,aa,aa,aa,aa⟩
 have bk:dC ao wd=none:=by rw [← aP]; simpa using bT
 have b7:ji F xs k wd (((aV F (flagsOf xs (k:Int)) 2).getD i 0):Nat) ((aV F (cW F (((aV F (flagsOf xs (k:Int)) 2).getD i 0):Nat)) 2).getD j 0)= []:=by unfold ji; rw [cE,bk]
 rw [b7,ek] at bi
 exact aO<|bn<|b8<|rg aa<|au (ak j)<|p (bG ((j+1:Nat):Int) aa aa<|bl ab ab)<|p aB<|nl<|tn<|⟨_,ab,j+1,ai,ab,(by rw [bi]; exact bQ),ck,b0,a5,bc,aa,aa,aa,aa,aa,aa,aa,aa,aa,aa,aa⟩
 exact ext<|bf<|bf<|be<|bn<|aX<|rg aa<|au (ak i)<|p (bG ((i+1:Nat):Int) aa aa<|bl ab ab)<|p aB<|nl<|tn<|⟨_,ab,i+1,ai,ab,(by rw [aN,aL,← dF (eD F xs k x.1 (-1)<|-1)]; rw [IN (BT cu)]; exact ax.wk q),(a1.trans<|Tw.wk q),(aW a4 q),(aW bb q),aa,aa,aa,aa,aa,aa,aa,aa⟩
 exact a6 16 aa q<|a6 17 aa q<|a6 18 aa q<|a6 19 aa q<|a6 20 aa q<|a6 21 aa q<|a6 22 aa q<|a6 23 aa q<|a6 24 aa q<|aE 25 aa (fun _ _=>bq aa) q<|hn aj<|bp<|cf aa<|ext<|bf<|bf<|be<|bn<|aX<|rg aa<|au (ak i)<|p (bG ((i+1:Nat):Int) aa aa<|bl ab ab)<|p aB<|nl<|tn<|⟨_,ab,i+1,ai,ab,(by rw [aN,aL,← dF (eD F xs k x.1 (-1)<|-1)]; rw [IN (BU cI)]; exact ax.wk q),(a1.trans<|Tw.wk q),(aW a4 q),(aW bb q),aa,aa,aa,aa,aa,aa,aa,aa⟩
 refine a6 5 aa q<|a6 6 aa q<|a6 7 aa q<|a6 8 aa q<|a6 9 aa q<|a6 10 aa q<|a6 11 aa q<|a6 12 aa q<|a6 13 aa q<|aE 14 aa (fun _ _=>bq aa) q<|aE 15 aa (fun _ _=>mv) q<|a6 16 aa q<|a6 17 aa q<|a6 18 aa q<|a6 19 aa q<|a6 20 aa q<|a6 21 aa q<|a6 22 aa q ?_
 exact a6 23 aa q<|a6 24 aa q<|aE 25 aa (fun _ _=>bq aa) q<|hn aj<|bp<|cf aa<|ext<|bf<|bf<|be<|bn<|aX<|rg aa<|au (ak i)<|p (bG ((i+1:Nat):Int) aa aa<|bl ab ab)<|p aB<|nl<|tn<|⟨_,ab,i+1,ai,ab,(by rw [aN,aL,← dF (eD F xs k x.1 (-1)<|-1)]; rw [eN (show (aV F (cW F (((aV F (flagsOf xs (k:Int)) 2).getD i 0):Nat)) 2).length≤j by omega)] at ax; exact ax.wk q),(a1.trans<|Tw.wk q),(aW a4 q),(aW bb q),aa,aa,aa,aa,aa,aa,aa,aa⟩
 exact ext<|bf<|bf<|be<|f0 aa<|⟨aa,ah,by rw [bJ,bW,Cj (BT cs)]; exact av.wk A,a0.trans<|Tw.wk A⟩
 refine a6 16 aa A<|a6 17 aa A<|a6 18 aa A<|a6 19 aa A<|a6 20 aa A<|a6 21 aa A<|a6 22 aa A<|a6 23 aa A<|a6 24 aa A<|aE 25 aa (fun _ _=>bq aa) A<|hn aj<|br<|cf aa<|ext<|bf<|bf<|be<|f0 aa ?_
 exact ⟨aa,ah,by rw [bJ,bW,Cj (BU cH)]; exact av.wk A,a0.trans<|Tw.wk A⟩
 refine a6 5 aa A<|a6 6 aa A<|a6 7 aa A<|a6 8 aa A<|a6 9 aa A<|a6 10 aa A<|a6 11 aa A<|a6 12 aa A<|a6 13 aa A<|aE 14 aa (fun _ _=>bq aa) A<|aE 15 aa (fun _ _=>mv) A<|a6 16 aa A<|a6 17 aa A<|a6 18 aa A<|a6 19 aa A<|a6 20 aa A<|a6 21 aa A<|a6 22 aa A ?_
 refine a6 23 aa A<|a6 24 aa A<|aE 25 aa (fun _ _=>bq aa) A<|hn aj<|br<|cf aa<|ext<|bf<|bf<|be<|f0 aa ?_
 rw [eN ab] at av
 exact ⟨aa,ah,by rw [bJ,bW]; exact av.wk A,a0.trans<|Tw.wk A⟩
theorem W0 (B tb fb:Nat) (V:ep) (ve:Value) (F:aT) (xs:List bF) (n most:Int) (w:World) (Y:gi w B tb fb V ve F xs) (A:eW F xs) (E:most≤2000):
 bo aw 15 (bh [aR tb,.int .i64 n,.int .i64 most]) w (fun v w'=>bu w' w.heap.size 43 5 v (iM (fj F xs n) most).length (jV<|iM (fj F xs n) most)∧Wk w w'):=by
 refine enter func15 aa ntmps15 aa<|ag fun I=>ay<|I<|ag fun J=>au (.int .i64 most)<|p (cU (ps:= [(0,.bool true),(3,.int .i64 most),(4,.int .i64 1152921504606846976)]) (L:= [.bool true,.bool false,.string ⟨⟨[]⟩⟩,.int .i64 most,.int .i64 1152921504606846976,.int .i64 0,.int .i64 0,.slice none 0 0]) XU aa<|aa)<|e<|ot aa fun a G ak C U=> ?_
 have ae:iw G (fun q=>q=a) w.heap.size a true most 1152921504606846976 []:=⟨ab,⟨.slice none 0 0,U,by rw [if_pos rfl]; exact dx _ _ _ _,fun q=>by simp [iU]⟩,sj.Bd.nil⟩
 refine ay<|J<|ag fun M=>au (aR tb)<|au (.int .i64 n)<|p mv<|e<|cl PT (YV B tb fb V ve F xs w.heap.size a true most 1152921504606846976 [] (fun q=>q=a) n G (Y.wk C.md) A ae<|.inl E) aa fun an ao Z=> ?_
 obtain ⟨rfl,aj,ah,ac⟩:=Z
 obtain ⟨v,ai,i,al⟩:=ah.ex
 rw [if_pos rfl] at i
 refine nl<|M<|ag fun O=>p mv<|p (nc aa)<|p (fa Bz aa)<|p (ld p8 aa<|(a7 ai).trans aa)<|ay<|O<|rt<|aX aa ?_
 rw [UW A E] at i
 exact ⟨i,C.md.trans' ac.md fun q am h=>by omega⟩
end Go.Hb
end
section
namespace Go.Hb
open Go.Hb.sh Go.Hb.sj
theorem Sw (a s1:Tx) (a0 q C d0 i A E d1:Int) (w:World):(binOp .eql 41 (.agg [str a,.int .i64 a0,.int .i64 q,.int .i64 C,.int .i64 d0].toArray)<|.agg [str s1,.int .i64 i,.int .i64 A,.int .i64 E,.int .i64 d1].toArray).run aw w= .ok (.bool<|decide (a=s1∧a0=i∧q=A∧C=E∧d0=d1)) w:=by
 have I:=underlying9
 have J:=underlying3
 have G:aw.underlying 41=some (.struct<|aw.fieldsOf 41):=aj
 have hp:aw.stoodInHeld 41=false :=aj
 rw [run_eql_struct,show (10000:Nat)=9999 +1 from rfl,run_equalIn_agg w 9999 41 _ _ G hp]
 simp only [Program.fieldsOf,underlying41]
 have hs:(str a=str s1)=(a=s1):=by unfold str; simp
 unfold str at*
 go_simp
 by_cases h1:a=s1 <;> by_cases h2:a0=i <;> by_cases h3:q=A <;> by_cases h4:C=E <;> by_cases h5:d0=d1 <;> simp [h1,h2,h3,h4,h5]
section
variable {N:Fm} {σ:Nat→Value} {w:World} {dst:Option Nat} {ty:TypeId} {pos :String} {af:Array Edge} {g:Option (Nat×Bool)} {x y:Operand}
theorem Sv {M:TypeId} {E s1:Tx} {a0 i A d0 a q C d1:Int} (I:ev N σ x= .agg [str E,.int .i64 a0,.int .i64 i,.int .i64 A,.int .i64 d0].toArray) (J:ev N σ y= .agg [str s1,.int .i64 a,.int .i64 q,.int .i64 C,.int .i64 d1].toArray):
 (execOp (ev N σ) ⟨dst,.binOp .eql 41 x y M,ty,pos,af,g⟩).run aw w= .ok (.value<|.bool<|decide (E=s1∧a0=a∧i=q∧A=C∧d0=d1)) w:=by
 have hm:aw.eqGuardType aw.depth 41=false :=aj
 have G:=run_eqGuard_agg w .eql 41 x y [str E,.int .i64 a0,.int .i64 i,.int .i64 A,.int .i64 d0].toArray [str s1,.int .i64 a,.int .i64 q,.int .i64 C,.int .i64 d1].toArray hm
 have he:=Sw E s1 a0 i A d0 a q C d1 w
 simp only [execOp,I,J,Sem.run_bind,G,he,Result.andThen_ok,Sem.run_pure]
end
theorem xz {l:List bZ} (h:0 < l.length):jV l≠[]:=Bu (f:=eH) (m:=5) (fun _=>rfl) az h
theorem YU:lr tB y9=some (jY,ni):=Dp YO YQ
theorem YR:iM (fj jY ni 0) 9=vH:=by
 have h:=uv (F:=jY) (xs:=ni) (k:=0) az
 rw [show ((0:Nat):Int)=0 from rfl] at h
 rw [h,YP]; rfl
theorem qC {w:World} {B e:Nat} {a:Option Addr} {L:List bZ} {c:Nat} (h:bu w B e 5 (.slice a L.length c) L.length (jV L)):aJ w.heap a (jV L):=(a8 h).2
theorem LO (w:World):
 bo aw 12 (bh []) w (fun v w'=>v= .bool true∧Wk w w'):=by
 refine enter func12 aa ntmps12 aa<|ag fun I=>ay<|I<|ag fun J=>e<|cl Fy (Ln tB y9 w az az) aa fun v5 ak ae=> ?_
 obtain ⟨⟨pp,aA,aC,aD,rfl,G⟩,hE5⟩:=ae
 rw [YU] at G
 obtain ⟨B,tb,U,ap,rfl,ai,Y⟩:=G
 refine p mv<|p (xt aa aa)<|p (xt aa aa)<|e<|al pT fun am aE aq A V=> ?_
 have ax:=A.size
 refine p aB<|e<|da jU aa aa aa aa (V) (by simp) fun C E ao=> ?_
 have Z:Wk w C:=(hE5.trans A.md).trans' E fun q aj h=>by have :=hE5.size; omega
 have ab:Wk ak C:=A.md.trans' E fun q aj h=>by omega
 refine nl<|J<|ag fun M=>p mv<|e<|cl OK (Vg B tb U jY ni 0 9 C (ai.wk ab) Y az) aa fun v9 aF ah=> ?_
 obtain ⟨a,ac⟩:=ah
 rw [YR] at a
 obtain ⟨a9,an,rfl⟩:=cC a
 refine ay<|M<|ag fun O=>p mv<|p (bK Ly aa aa)<|p (bI aa aa)<|p mv<|gs (t:=13) aa (fun ar=> ?_) fun h=>absurd aa h
 refine aI aa mv<|aI aa (ba Bb aa aa az<|aJ.ok (qC a)<|xz az)<|aI aa (fa xX aa)<|aI aa (ld bU aa<|fw (f:=eH) (m:=5) (i:=0) (fun _=>rfl) (qC a) (show vH[0]? =some ⟨[100,111],0,-1,-1,-1⟩ from aa) 0 az)<|aI aa (dW aa aa)<|p (bB aa)<|p mv<|gs (t:=20) aa (fun au=> ?_) fun h=>absurd aa h
 refine aI aa mv<|aI aa (ba Bb aa aa az<|aJ.ok (qC a)<|xz az)<|aI aa (fa xX aa)<|aI aa (ld bU aa<|fw (f:=eH) (m:=5) (i:=1) (fun _=>rfl) (qC a) (show vH[1]? =some ⟨[100,111,115],0,0,-1,-1⟩ from aa) 0 az)<|aI aa (dW aa aa)<|p (bB aa)<|p mv<|gs (t:=27) aa (fun av=> ?_) fun h=>absurd aa h
 exact aI aa mv<|aI aa (ba Bb aa aa az<|aJ.ok (qC a)<|xz az)<|aI aa (c8 q5 aa (aa)<|fw (f:=eH) (m:=5) (i:=2) (fun _=>rfl) (qC a) (show vH[2]? =some ⟨[100,111,101,114],0,1,-1,-1⟩ from aa))<|aI aa (cU (ps:= [(0,str [100,111,101,114]),(2,.int .i64 1),(3,.int .i64 (-1)),(4,.int .i64 (-1))]) (L:= [str [100,111,101,114],.int .i64 0,.int .i64 1,.int .i64 (-1),.int .i64 (-1)]) KW aa<|aa)<|aI aa (Sv aa aa)<|p (bB aa)<|p aB<|nl<|O<|rt<|aX aa<|⟨congrArg bT (decide_eq_true ⟨aa,aa,aa,aa,aa⟩),Z.trans ac⟩
theorem Ve (d:bZ) (w:World):
 bo aw 17 (bh [.agg (eH d).toArray,.agg (eH d).toArray]) w (fun v w'=>v= .bool true∧Wk w w'):=by
 refine enter func17 aa ntmps17 aa<|ag fun C=>e<|iY aa fun G U A O J=> ?_
 have A:bO U.heap G (eH d):=J
 refine e<|iY aa fun I V a q M=> ?_
 have a:bO V.heap I (eH d):=M
 have i:=Wk.B q.md A
 refine ay<|C<|ag fun E=>p (fa xX aa)<|p (ld bU aa<|i.bE 0)<|p (fa xY aa)<|p (ld bU aa<|a.bE 0)<|p (dW aa aa)<|p mv<|gs (t:=10) aa (fun Y=> ?_) fun h=>absurd aa h
 refine aI aa (fa HQ aa)<|aI aa (ld bC aa<|i.bE 1)<|aI aa (fa HR aa)<|aI aa (ld bC aa<|a.bE 1)<|aI aa (bI aa aa)<|p (bB aa)<|p mv<|gs (t:=17) aa (fun Z=> ?_) fun h=>absurd aa h
 refine aI aa (fa rl aa)<|aI aa (ld bC aa<|i.bE 2)<|aI aa (fa xZ aa)<|aI aa (ld bC aa<|a.bE 2)<|aI aa (bI aa aa)<|p (bB aa)<|p mv<|gs (t:=24) aa (fun ab=> ?_) fun h=>absurd aa h
 refine aI aa (fa qn aa)<|aI aa (ld bC aa<|i.bE 3)<|aI aa (fa x3 aa)<|aI aa (ld bC aa<|a.bE 3)<|aI aa (bI aa aa)<|p (bB aa)<|p mv<|gs (t:=31) aa (fun ac=> ?_) fun h=>absurd aa h
 exact aI aa (fa rm aa)<|aI aa (ld bC aa<|i.bE 4)<|aI aa (fa rp aa)<|aI aa (ld bC aa<|a.bE 4)<|aI aa (bI aa aa)<|p (bB aa)<|p aB<|nl<|E<|rt<|aX aa<|⟨congrArg bT (decide_eq_true aa),O.md.trans q.md⟩
theorem Kd (a t:Tx) (w:World) (Y:a.length≤1048576) (Z:t.length≤1048576):
 bo aw 11 (bh [str a,str t]) w (fun v w'=>(match lr a t with | none=>v= .tuple #[.pointer none,.pointer none,.bool true] | some T=> ∃ B tb G E C fb V ve,v= .tuple #[aR tb,aR C,.bool true]∧fT w' B tb G T.1 T.2∧eW T.1 T.2∧gi w' E C fb V ve T.1 T.2)∧Wk w w'):=by
 refine enter func11 aa ntmps11 aa<|ag fun ac=>p aB<|p aB<|ay<|ac<|aC fun ae=>rg aa<|au (str a)<|au (str t)<|e<|cl Fy (Ln a t w Y Z) aa fun aY ax ap=> ?_
 obtain ⟨⟨aP,aS,aT,aU,rfl,i⟩,hE14⟩:=ap
 have aM:=hE14.size
 refine p mv<|p (xt aa aa)<|p (xt aa aa)<|e<|al pT fun aE a0 aJ U am=> ?_
 have aO:=U.size
 refine p aB<|e<|da jU aa aa aa aa (am) (by simp) fun ab M aF=> ?_
 have J:Wk ax ab:=U.md.trans' M fun q av h=>by omega
 have aK:=M.size
 refine nl<|ae<|ag fun ah=>au (str a)<|au (str t)<|e<|cl PS (Xg a t ab Y Z) aa fun v20 az aq=> ?_
 obtain ⟨⟨aQ,aV,aW,aX,rfl,A⟩,hE20⟩:=aq
 have aN:=hE20.size
 refine p mv<|p (xt aa aa)<|p (xt aa aa)<|e<|al L4 fun aD aZ aI O ak=> ?_
 have aL:=O.size
 refine p aB<|e<|da xq aa aa aa aa (ak) (by simp) fun aA ao aG=> ?_
 have I:Wk az aA:=O.md.trans' ao fun q av h=>by omega
 refine nl<|ah<|ag fun ai=>p mv<|p mv<|p mv<|p (m4 vC aa aa)<|p mv<|p (m4 Dt aa aa)<|p (G2 u4 aa aa)<|p aB<|p aB<|ay<|ai<|rt<|f3 aa aa aa aa ?_
 refine ⟨?_,hE14.trans<|J.trans<|hE20.trans I⟩
 cases hx:lr a t with
 | none=>rw [hx] at i A; subst i A; rfl
 | some T=>
   rw [hx] at i A
   obtain ⟨B,tb,G,aH,rfl,ar,aj⟩:=i
   obtain ⟨E,C,fb,V,ve,rfl,an⟩:=A
   exact ⟨B,tb,G,E,C,fb,V,ve,aa,ar.wk (J.trans<|hE20.trans I),aj,an.wk I⟩
end Go.Hb
end
section
namespace Go.Hb
open Go.Hb.sh Go.Hb.sj
theorem Yi {a pre rest:List bZ} {x:bZ} (h:a=pre++x::rest) (hp:pre.length < 400):(iM a 400)[pre.length]? =some x:=by
 unfold iM
 rw [if_neg ab,List.getElem?_take_of_lt (by show pre.length < 400; exact hp),h,List.getElem?_append_right (cB _),Nat.sub_self]; rfl
end Go.Hb
end
section
namespace Go.Hb
open Go.Hb.sh Go.Hb.sj
theorem Sc (a t:Tx) (n:Int) (w:World) (b6:a.length≤1048576) (ch:t.length≤1048576) (F:aT) (xs:List bF) (cm:lr a t=some (F,xs)):
 bo aw 4 (bh [str a,str t,.int .i64 n]) w (fun v w'=>v= .bool true∧Wk w w'):=by
 refine uz [] func4 aa ntmps4 aa ?_
 refine dO<|ed<|rg aa<|e<|fi Ma fun al cp cA aL bN=> ?_
 have cO:=aL.size
 refine nl<|dJ<|dO<|ed<|rg aa<|p mv<|p mv<|e<|cl kr (Kd a t cp b6 ch) aa fun cT bw b0=> ?_
 obtain ⟨br,aG⟩:=b0
 rw [cm] at br
 obtain ⟨B,tb,ay,aV,bt,fb,V,ve,ci,aN,aA,aI⟩:=br
 subst ci
 have aN:fT _ B tb ay F xs:=aN
 have aA:eW F xs:=aA
 have aI:gi _ aV bt fb V ve F xs:=aI
 refine p mv<|p (xt aa aa)<|p (xt aa aa)<|p (xt aa aa)<|p aB<|p aB<|p aB<|nl<|dJ<|dO<|dO<|ed<|rg aa<|p mv<|p (no aa)<|p mv<|gb (t:=22) aa (fun h=>absurd (h.symm.trans<|aa) ei) fun cE=>eg aa aa aa<|cl ks (LO bw) aa fun cU c0 b1=> ?_
 obtain ⟨rfl,an⟩:=b1
 have a2:=(aL.md.trans aG).trans an
 have cI:=aG.size
 have cL:=an.size
 refine pg aa aa aa (no aa)<|p (bq aa)<|nl<|dJ<|ed<|cf (aa)<|aO<|dJ<|dO<|ed<|rg aa<|e<|fi L9 fun aE bv cw au bD=> ?_
 have cG:=au.size
 have cK:=a2.size
 refine nl<|dJ<|dO<|dO<|ed<|rg aa<|p mv<|p (yu Dt aa aa)<|nl<|dJ<|ed<|ct (aa)<|rg aa<|p mv<|p mv<|e<|cl uo (W0 aV bt fb V ve F xs n 400 bv (aI.wk<|an.trans au.md) aA ab) aa fun v30 c1 b2=> ?_
 obtain ⟨aR,ao⟩:=b2
 obtain ⟨ai,ak,rfl⟩:=cC aR
 have cM:=ao.size
 refine e<|cJ Gx aa aa (v:= .slice ai (iM (fj F xs n) 400).length ak) aa (Wk.aM ao bD) (by simp) fun aD ar bP=> ?_
 have cS:=ar.size
 have bS:Wk w aD:=(a2.trans<|au.md.trans ao).trans' ar fun q ah h=>by have :=aL.size; omega
 have ce:=cX (ew aR (show w.heap.size≤bv.heap.size by omega)) ar fun q ah h=>by have :=(dG aR ah).1; omega
 have b7:aD.heap[aE]? =some (.cells [.slice ai (iM (fj F xs n) 400).length ak].toArray 34 (0,0)):=bP
 refine nl<|dJ<|dO<|ed<|rg aa<|e<|fi DH fun J cY cx a6 bH=> ?_
 have cH:=a6.size
 refine e<|cJ gB aa aa (v:= .int .i64 0) aa bH (by simp) fun bx a5 bO=> ?_
 have a3:Wk aD bx:=a6.md.trans' a5 fun q ah h=>by omega
 have cR:=a5.size
 have cP:=a3.size
 refine nl<|dJ<|dO<|dO<|ed<|rg aa<|p mv<|p mv<|e<|cl Ak (sP (some ⟨tb,0,none⟩) n bx) aa fun cV ac b3=> ?_
 obtain ⟨am,be,rfl,cD,cB,bf,bc,aH⟩:=b3
 have cN:=aH.size
 have ap:Wk aD ac:=a3.trans aH
 have a4:Wk w ac:=bS.trans ap
 have bp:=(cQ.1 bf).1
 have hle:=(cQ.1 bc).1
 have aC:J < ac.heap.size:=ab
 have bi:=Wk.aM ap b7
 have bk:=(cQ.1 bi).1
 have b8:gK ac J 0:=Wk.aM aH bO
 have b9:=Wk.aM (aG.trans<|an.trans<|au.md.trans ao) bN
 have ca:∃ u,ac.heap[al]? =some (.cells [.bool u].toArray 4 (0,0)):=⟨false,Wk.aM ap<|ar.aM b9 fun h=>by omega⟩
 have bm:al < ac.heap.size:=ab
 have aS:=aW ce ap
 have bT:Wk bw ac:=(((an.trans au.md).trans ao).trans' ar fun q ah h=>by omega).trans ap
 have aY:∀ {W:World},(∃ G:Nat→Prop,Md G ac W∧∀ k,G k→k=J)→fT W B tb ay F xs:=fun ⟨G,hm,cb⟩=>aN.wk<|bT.trans' hm fun k hk I=>by have :=cb k I; omega
 refine nl<|dJ ?_
 apply C3 (pq) (fj F xs n) (fun W=>fT W B tb ay F xs∧jP W am (some ⟨tb,0,none⟩)∧gK W be n) (fun pre fp i=>gK i J (pre.length:Nat)∧i.heap[aE]? =some (.cells [.slice ai (iM (fj F xs n) 400).length ak].toArray 34 (0,0))∧bu i w.heap.size 43 5 (.slice ai (iM (fj F xs n) 400).length ak) (iM (fj F xs n) 400).length (jV<|iM (fj F xs n) 400)∧(∃ u,i.heap[al]? =some (.cells [.bool u].toArray 4 (0,0)))∧(∀ k,¬fp k)∧jP i am (some ⟨tb,0,none⟩)∧gK i be n∧(∃ G:Nat→Prop,Md G ac i∧∀ k,G k→k=J)∧pre.length < 400) (fun r pre fp i=>r=false∧gK i J (pre.length:Nat)∧i.heap[aE]? =some (.cells [.slice ai (iM (fj F xs n) 400).length ak].toArray 34 (0,0))∧bu i w.heap.size 43 5 (.slice ai (iM (fj F xs n) 400).length ak) (iM (fj F xs n) 400).length (jV<|iM (fj F xs n) 400)∧(∃ u,i.heap[al]? =some (.cells [.bool u].toArray 4 (0,0)))∧(∀ k,¬fp k)∧jP i am (some ⟨tb,0,none⟩)∧gK i be n∧(∃ G:Nat→Prop,Md G ac i∧∀ k,G k→k=J)∧pre.length=400) rfl AH (fun _=>rfl) (uw B tb ay F xs aA am be n) (⟨b8,bi,aS,ca,fun _=>id,bf,bc,⟨fun _=>False,Md.refl _ _,fun _ h=>h.elim⟩,by simp⟩) (fun pre fp W ⟨h1,h2,h3,h4,O,h5,U,ae,ag⟩=>⟨⟨aY ae,h5,U⟩,fun k hk=>absurd hk<|O k⟩) (fun r pre fp W ⟨aZ,h1,h2,h3,h4,O,h5,U,ae,ag⟩=>⟨⟨aY ae,h5,U⟩,fun k hk=>absurd hk<|O k⟩) (fun pre fp W bz F ⟨h1,h2,h3,h4,O,h5,U,ae,ag⟩ hm E=>⟨gT h1 hm aC E,gT h2 hm bk E,cX h3 hm (fun k hk I=>by have :=(dG aS hk).2; have :=(E k I).1; omega),(by obtain ⟨u,h⟩:=h4; exact ⟨u,gT h hm bm E⟩),O,gT h5 hm bp E,gT U hm hle E,(by obtain ⟨G,g1,g2⟩:=ae; exact ⟨G,g1.trans' hm (fun k hk I=>by have :=(E k I).1; omega),g2⟩),ag⟩) (fun r pre fp W bz F ⟨aZ,h1,h2,h3,h4,O,h5,U,ae,ag⟩ hm E=>⟨aZ,gT h1 hm aC E,gT h2 hm bk E,cX h3 hm (fun k hk I=>by have :=(dG aS hk).2; have :=(E k I).1; omega),(by obtain ⟨u,h⟩:=h4; exact ⟨u,gT h hm bm E⟩),O,gT h5 hm bp E,gT U hm hle E,(by obtain ⟨G,g1,g2⟩:=ae; exact ⟨G,g1.trans' hm (fun k hk I=>by have :=(E k I).1; omega),g2⟩),ag⟩) (fun x b i=>i.heap[b]? =some (.cells (eH x).toArray 41 (0,0))) (z7 (f:=eH))
 intro l x i K A
 exact rg aa<|e<|fi zh fun aX cZ cy bZ bJ=>e<|fZ xu aa aa aa aa bJ az fun c2 bY bL=>nl<|tn<|A aX _ (bZ.md.trans' bY fun q ah h=>by omega) bL
 intro l pre x rest fp aX i ck aK bB
 obtain ⟨h1,h2,h3,h4,O,h5,U,ae,ag⟩:=aK
 have a8:=Yi ck ag
 have cv:=(fJ.1 a8).1
 refine aM<|sq fun cq bU=>sq fun cr bV=> ?_
 have M:(fun w'=>Wk i w') i.drew:=(Md.refl _ _).drew
 refine bM (fun w'=>Wk i w') aa wide M<|hp 0 aa aj (fun w' Z=>ld bC aa<|Wk.aQ Z<|(a7 h1).trans aa) M<|hp 1 aa aj (fun w' Z=>ld p8 aa<|Wk.aQ Z<|(a7 h2).trans aa) M<|hp 2 aa aj (fun _ _=>bK vD aa aa) M<|hp 3 aa aj (fun _ _=>ge aa aa) M<|hp 4 aa aj (fun _ _=>mv) M<|iH (t:=39) aa (fun h=>absurd h ab) fun cF=>la 5 aa aj aa aa aa (fun w' Z=>c8 q5 aa (aa) fun j bj=>(Wk.B Z<|oq bB).bE j) M<|la 6 aa aj aa aa aa (fun w' Z=>ld p8 aa<|Wk.aQ Z<|(a7 h2).trans aa) M<|la 7 aa aj aa aa aa (fun w' Z=>ld bC aa<|Wk.aQ Z<|(a7 h1).trans aa) M<|la 8 aa aj aa aa aa (fun _ _=>ba SF aa aa ab<|aJ.ok ((qC h3).wk M)<|xz ab) M<|la 9 aa aj aa aa aa (fun w' Z=>c8 sx aa (aa) fun j bj=>fw (f:=eH) (m:=5) (fun _=>rfl) ((qC h3).wk Z) a8 j bj) M<|lY 10 aa aj aa aa aa<|cl OW (Ve x i.drew) aa fun cW aU b4=> ?_
 obtain ⟨rfl,bR⟩:=b4
 have C:(fun w'=>Wk i w') aU:=M.trans bR
 refine ⟨C,?_⟩
 refine la 11 aa aj aa aa aa (fun _ _=>no aa) C<|hp 12 aa aj (fun _ _=>bq aa) C<|hn aj<|tn<|bV _ _<|cf (aa)<|aO<|tn<|bU _ _<|sq fun cs bW=>rg aa<|p (ld bC aa<|(a7 (show _=_ from Wk.aM C h1)).trans aa)<|p (bG ((pre.length+1:Nat):Int) aa aa<|bl ab ab)<|e<|cJ gB aa aa (v:= .int .i64 ((pre.length+1:Nat):Int)) aa (Wk.aM C h1) (by simp) fun ax Y a0=> ?_
 have cc:(pre++ [x]).length=pre.length+1:=by simp
 have aP:aU.heap[J]? =some (.cells [.int .i64 (pre.length:Nat)].toArray 3 (0,0)):=Wk.aM C h1
 have av:TF aU [5] (fun q=>q=J):=TF.eq (dw aP) az
 have a1:gK ax J ((pre++ [x]).length:Nat):=by rw [cc]; exact a0
 have a9:=Y.gA av (Wk.aM C h2) az
 have bb:∃ u,ax.heap[al]? =some (.cells [.bool u].toArray 4 (0,0)):=by obtain ⟨u,h⟩:=h4; exact ⟨u,Y.gA av (Wk.aM C h) az⟩
 have bg:jP ax am (some ⟨tb,0,none⟩):=Y.gA av (Wk.aM C h5) az
 have bd:gK ax be n:=Y.aM (Wk.aM C U) (fun h=>by have h:be=J:=h; omega)
 have bs:∃ G:Nat→Prop,Md G ac ax∧∀ k,G k→k=J:=by
  obtain ⟨G,g1,g2⟩:=ae
  exact ⟨fun k=>k=J,((g1.trans' C fun _ _ h=>h.elim).mono fun k _ hk=>g2 k hk).trans' Y (fun k _ hk=>hk),fun k hk=>hk⟩
 refine nl<|tn<|bW _ _<|sq fun cu bX=>rg aa<|p (ld bC aa<|(a7 a0).trans aa)<|p (bI aa aa)<|nl<|tn<|bX _ _<|cd aa (fun bA=> ?_) fun bA=> ?_
 exact ext<|mV az<|⟨aa,(gk.wk C).trans (gk.md Y fun k hk=>⟨_,_,_,hk ▸ aP⟩),fp,(Gw.wk C).trans (Gw.md Y (fun k hk=> .inr<|by subst hk; exact aC) fun _ h=> .inl h),aa,⟨a1,a9,cj (aW h3 C) Y av az,bb,O,bg,bd,bs,ab⟩⟩
 exact aO<|bn<|⟨(gk.wk C).trans (gk.md Y fun k hk=>⟨_,_,_,hk ▸ aP⟩),fp,(Gw.wk C).trans (Gw.md Y (fun k hk=> .inr<|by subst hk; exact aC) fun _ h=> .inl h),⟨a1,a9,cj (aW h3 C) Y av az,bb,O,bg,bd,bs,ab⟩⟩
 intro D i bQ aK A
 obtain ⟨fp,h1,h2,h3,⟨cn,h4⟩,O,h5,U,⟨G,g1,g2⟩,ag⟩:=aK
 have ah:(((fj F xs n).length:Nat):Int)=((iM (fj F xs n) 400).length:Nat):=by rw [Lg ab]
 refine dJ<|dO<|ed<|rg aa<|p (ld bC aa<|(a7 h1).trans aa)<|p (ld p8 aa<|(a7 h2).trans aa)<|p (bK vD aa aa)<|p ((bI aa aa).trans<|by rw [decide_eq_true ah])<|e<|cJ sL aa aa (v:= .bool true) aa h4 (by simp) fun co aq aF=> ?_
 have A:=(aq.cz D (cQ.1 A).1 fun h=>by have h:=h; subst h; rw [h4] at A; cases A).trans A
 refine nl<|dJ<|pJ<|xG aa A (rJ aa k4<|xi ((a7 aF).trans aa) A fun _ _ _ h=>by cases h) ?_
 exact ⟨aa,((a4.trans' g1 fun k hk I=>by have :=g2 k I; omega).trans' aq fun k hk I=>by omega).trans' (lh _ _ _) fun k hk h=>by omega⟩
 intro D i pre bQ cg b5 A
 obtain ⟨fp,_,h1,h2,h3,⟨cn,h4⟩,O,h5,U,⟨G,g1,g2⟩,ag⟩:=b5
 have ah:((pre.length:Nat):Int)=((iM (fj F xs n) 400).length:Nat):=by rw [Li cg ab ab]
 refine dJ<|dO<|ed<|rg aa<|p (ld bC aa<|(a7 h1).trans aa)<|p (ld p8 aa<|(a7 h2).trans aa)<|p (bK vD aa aa)<|p ((bI aa aa).trans<|by rw [decide_eq_true ah])<|e<|cJ sL aa aa (v:= .bool true) aa h4 (by simp) fun co aq aF=> ?_
 have A:=(aq.cz D (cQ.1 A).1 fun h=>by have h:=h; subst h; rw [h4] at A; cases A).trans A
 refine nl<|dJ<|pJ<|xG aa A (rJ aa k4<|xi ((a7 aF).trans aa) A fun _ _ _ h=>by cases h) ?_
 exact ⟨aa,((a4.trans' g1 fun k hk I=>by have :=g2 k I; omega).trans' aq fun k hk I=>by omega).trans' (lh _ _ _) fun k hk h=>by omega⟩
 exact fun _ _ _ _ _ h _=>by obtain ⟨_,h,_⟩:=h; cases h
theorem Sb (a t:Tx) (n:Int) (w:World) (a9:a.length≤1048576) (bi:t.length≤1048576) (bl:lr a t=none):
 bo aw 4 (bh [str a,str t,.int .i64 n]) w (fun v w'=>v= .bool true∧Wk w w'):=by
 refine uz [] func4 aa ntmps4 aa ?_
 refine dO<|ed<|rg aa<|e<|fi Ma fun ag bs bz aE aY=> ?_
 have bM:=aE.size
 refine nl<|dJ<|dO<|ed<|rg aa<|p mv<|p mv<|e<|cl kr (Kd a t bs a9 bi) aa fun bn br a4=> ?_
 obtain ⟨aQ,am⟩:=a4
 rw [bl] at aQ
 have bj:bn=_:=aQ
 subst bj
 refine p mv<|p (xt aa aa)<|p (xt aa aa)<|p (xt aa aa)<|p aB<|p aB<|p aB<|nl<|dJ<|dO<|dO<|ed<|rg aa<|p mv<|p (no aa)<|p mv<|gb (t:=22) aa (fun h=>absurd (h.symm.trans<|aa) ei) fun bD=>eg aa aa aa<|cl ks (LO br) aa fun bP bT a5=> ?_
 obtain ⟨rfl,an⟩:=a5
 have av:=(aE.md.trans am).trans an
 have bG:=am.size
 have bJ:=an.size
 refine pg aa aa aa (no aa)<|p (bq aa)<|nl<|dJ<|ed<|cf (aa)<|aO<|dJ<|dO<|ed<|rg aa<|e<|fi L9 fun ak aj bv ap aT=> ?_
 have bE:=ap.size
 have bH:=av.size
 refine nl<|dJ<|dO<|dO<|ed<|rg aa<|p mv<|p (yu Dt aa aa)<|nl<|dJ<|ed<|cf (aa)<|aO<|dJ<|dO<|ed<|rg aa<|e<|fi DH fun Y bR bw aD aU=> ?_
 have bF:=aD.size
 have a1:=av.trans ap.md
 obtain ⟨J,M,aF,aJ⟩:∃ (J:Option Addr) (M:Nat),J=none∧M=0:=⟨none,0,rfl,rfl⟩
 have bf:bu aj w.heap.size 43 5 (.slice J ([]:List bZ).length M) ([]:List bZ).length (jV []):=by rw [aF,aJ]; exact dx _ _ _ _
 have ba:aj.heap[ak]? =some (.cells [.slice J ([]:List bZ).length M].toArray 34 (0,0)):=by rw [aF,aJ]; exact aT
 refine e<|cJ gB aa aa (v:= .int .i64 0) aa aU (by simp) fun aR aC aZ=> ?_
 have ax:Wk aj aR:=aD.md.trans' aC fun q ae h=>by omega
 have bO:=aC.size
 have bN:=ax.size
 refine nl<|dJ<|dO<|dO<|ed<|rg aa<|p mv<|p mv<|e<|cl Ak (sP none n aR) aa fun bQ O a6=> ?_
 obtain ⟨ah,be,rfl,bB,bA,aH,aG,ao⟩:=a6
 have bL:=ao.size
 have ai:Wk aj O:=ax.trans ao
 have ay:Wk w O:=a1.trans ai
 have aP:=(cQ.1 aH).1
 have hle:=(cQ.1 aG).1
 have aL:Y < O.heap.size:=ab
 have aI:=Wk.aM ai ba
 have aK:=(cQ.1 aI).1
 have bb:gK O Y 0:=Wk.aM ao aZ
 have bc:=Wk.aM (am.trans<|an.trans ap.md) aY
 have bd:∃ u,O.heap[ag]? =some (.cells [.bool u].toArray 4 (0,0)):=⟨false,Wk.aM ai<|bc⟩
 have aN:ag < O.heap.size:=ab
 have aq:=aW bf ai
 refine nl<|dJ ?_
 apply C3 (pq) (([]:List bZ)) (fun W=>jP W ah none) (fun pre fp i=>gK i Y (pre.length:Nat)∧i.heap[ak]? =some (.cells [.slice J ([]:List bZ).length M].toArray 34 (0,0))∧bu i w.heap.size 43 5 (.slice J ([]:List bZ).length M) ([]:List bZ).length (jV ([]:List bZ))∧(∃ u,i.heap[ag]? =some (.cells [.bool u].toArray 4 (0,0)))∧(∀ k,¬fp k)∧jP i ah none∧gK i be n∧(∃ G:Nat→Prop,Md G O i∧∀ k,G k→k=Y)∧pre.length < 400) (fun r pre fp i=>r=false∧gK i Y (pre.length:Nat)∧i.heap[ak]? =some (.cells [.slice J ([]:List bZ).length M].toArray 34 (0,0))∧bu i w.heap.size 43 5 (.slice J ([]:List bZ).length M) ([]:List bZ).length (jV ([]:List bZ))∧(∃ u,i.heap[ag]? =some (.cells [.bool u].toArray 4 (0,0)))∧(∀ k,¬fp k)∧jP i ah none∧gK i be n∧(∃ G:Nat→Prop,Md G O i∧∀ k,G k→k=Y)∧pre.length=400) rfl AH (fun _=>rfl) (Sf ah be n) (⟨bb,aI,aq,bd,fun _=>id,aH,aG,⟨fun _=>False,Md.refl _ _,fun _ h=>h.elim⟩,by simp⟩) (fun pre fp W ⟨h1,h2,h3,h4,I,h5,U,Z,V⟩=>⟨h5,fun k hk=>absurd hk<|I k⟩) (fun r pre fp W ⟨au,h1,h2,h3,h4,I,h5,U,Z,V⟩=>⟨h5,fun k hk=>absurd hk<|I k⟩) (fun pre fp W aS F ⟨h1,h2,h3,h4,I,h5,U,Z,V⟩ hm C=>⟨gT h1 hm aL C,gT h2 hm aK C,cX h3 hm (fun k hk E=>by have :=(dG aq hk).2; have :=(C k E).1; omega),(by obtain ⟨u,h⟩:=h4; exact ⟨u,gT h hm aN C⟩),I,gT h5 hm aP C,gT U hm hle C,(by obtain ⟨G,g1,g2⟩:=Z; exact ⟨G,g1.trans' hm (fun k hk E=>by have :=(C k E).1; omega),g2⟩),V⟩) (fun r pre fp W aS F ⟨au,h1,h2,h3,h4,I,h5,U,Z,V⟩ hm C=>⟨au,gT h1 hm aL C,gT h2 hm aK C,cX h3 hm (fun k hk E=>by have :=(dG aq hk).2; have :=(C k E).1; omega),(by obtain ⟨u,h⟩:=h4; exact ⟨u,gT h hm aN C⟩),I,gT h5 hm aP C,gT U hm hle C,(by obtain ⟨G,g1,g2⟩:=Z; exact ⟨G,g1.trans' hm (fun k hk E=>by have :=(C k E).1; omega),g2⟩),V⟩) (fun x b i=>i.heap[b]? =some (.cells (eH x).toArray 41 (0,0))) (z7 (f:=eH))
 intro l x i K A
 exact rg aa<|e<|fi zh fun ar bS bx a3 aV=>e<|fZ xu aa aa aa aa aV az fun bU a2 aX=>nl<|tn<|A ar _ (a3.md.trans' a2 fun q ae h=>by omega) aX
 intro l pre x rest fp ar i bk aA bt
 cases pre <;> cases bk
 intro D i a0 aA A
 obtain ⟨fp,h1,h2,h3,⟨bm,h4⟩,I,h5,U,⟨G,g1,g2⟩,V⟩:=aA
 have ae:((([]:List bZ).length:Nat):Int)=(([]:List bZ).length:Nat):=rfl
 refine dJ<|dO<|ed<|rg aa<|p (ld bC aa<|(a7 h1).trans aa)<|p (ld p8 aa<|(a7 h2).trans aa)<|p (bK vD aa aa)<|p ((bI aa aa).trans<|by rw [decide_eq_true ae])<|e<|cJ sL aa aa (v:= .bool true) aa h4 (by simp) fun bp ac al=> ?_
 have A:=(ac.cz D (cQ.1 A).1 fun h=>by have h:=h; subst h; rw [h4] at A; cases A).trans A
 refine nl<|dJ<|pJ<|xG aa A (rJ aa k4<|xi ((a7 al).trans aa) A fun _ _ _ h=>by cases h) ?_
 exact ⟨aa,((ay.trans' g1 fun k hk E=>by have :=g2 k E; omega).trans' ac fun k hk E=>by omega).trans' (lh _ _ _) fun k hk h=>by omega⟩
 intro D i pre a0 bg a8 A
 obtain ⟨fp,_,h1,h2,h3,⟨bm,h4⟩,I,h5,U,⟨G,g1,g2⟩,V⟩:=a8
 have ae:((pre.length:Nat):Int)=(([]:List bZ).length:Nat):=by have :=bg.length_le; simp at this; subst this; rfl
 refine dJ<|dO<|ed<|rg aa<|p (ld bC aa<|(a7 h1).trans aa)<|p (ld p8 aa<|(a7 h2).trans aa)<|p (bK vD aa aa)<|p ((bI aa aa).trans<|by rw [decide_eq_true ae])<|e<|cJ sL aa aa (v:= .bool true) aa h4 (by simp) fun bp ac al=> ?_
 have A:=(ac.cz D (cQ.1 A).1 fun h=>by have h:=h; subst h; rw [h4] at A; cases A).trans A
 refine nl<|dJ<|pJ<|xG aa A (rJ aa k4<|xi ((a7 al).trans aa) A fun _ _ _ h=>by cases h) ?_
 exact ⟨aa,((ay.trans' g1 fun k hk E=>by have :=g2 k E; omega).trans' ac fun k hk E=>by omega).trans' (lh _ _ _) fun k hk h=>by omega⟩
 exact fun _ _ _ _ _ h _=>by obtain ⟨_,h,_⟩:=h; cases h
theorem Se (a t:Tx) (n:Int) (w:World) (i:a.length≤1048576) (q:t.length≤1048576):bo aw 4 [str a,str t,.int .i64 n].toArray w (fun v w'=>v= .bool true∧Wk w w'):=by
 cases hx:lr a t with
 | none=>exact Sb a t n w i q hx
 | some Y=>obtain ⟨F,xs⟩:=Y; exact Sc a t n w i q F xs hx
end Go.Hb
end
