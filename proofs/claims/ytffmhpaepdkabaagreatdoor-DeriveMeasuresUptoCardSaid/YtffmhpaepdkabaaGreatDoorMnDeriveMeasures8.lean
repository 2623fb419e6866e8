/-
  Walks and plain laws that the law rests on, laid together. No conditions but those that each theorem names.
-/
import Derived.Test.YtffmhpaepdkabaaGreatDoorMnDeriveMeasures7
set_option linter.unusedVariables false
set_option maxRecDepth 20000
set_option maxHeartbeats 1000000
open Array renaming getElem?_eq_some_iff→cU
open Bool renaming and_eq_true→gT,and_false→vU,and_true→D1,noConfusion→ee
open Classical renaming not_not→jk
open Go.Calls renaming mono→lF
open Go.Proofs.Tryz renaming prog→ay
open Go.Value renaming bool→bQ,slice→bR
open Go.World renaming ownsRow→bq,ownsRow_nil→dz
open Int renaming toNat_natCast→mR
open List renaming append_assoc→dD,append_nil→eh,filterMap_append→zC,flatMap_append→nw,flatMap_singleton→o0,getD_eq_getElem?_getD→cR,getElem?_eq_getElem→cC,getElem?_eq_some_iff→fS,getElem?_zip_eq_some→jy,length_append→bL,length_singleton→fA,mem_of_getElem?→iN,nil_append→oq,prefix_append→ui,prefix_refl→zL,take_append_drop→wP,take_of_length_le→eM,toArray→bf
open Nat renaming le_refl→cA,lt_or_ge→fi,lt_succ_iff_lt_or_eq→EA,not_lt_zero→NF,zero_le→jP
open Option renaming isSome_iff_exists→o8
open Go.Proofs.Tryz
open Go.Hb.dT Go.Proofs Go.Hb.fj Go.Hb.fX Go.Hb.j9 Go.Hb.gX Go.Hb.jF Go.Hb.kr Go.Hb.lf Go.Hb.lH Go.Hb.js Go.Hb.kN Go.Hb.mV

namespace Go.Hb
theorem ni {l:List Nat} {i:Nat} (h:i < l.length):(l.map bN)[i]? =some (bN<|l.getD i 0):=by rw [List.getElem?_map,cR,cC h]; rfl
theorem Dc (B tb fb:Nat) (V:ej) (ve:Value) (F:aR) (xs:List bD) (n:Int) (w:World) (E:fY w B tb fb V ve F xs) (U:eF F xs):
 bm ay 99 (bf [aQ tb,.int .i64 n]) w (fun v w'=>(∃ a c,v= .slice a (flagsOf xs n).length c∧Tg w' 0 3 (flagsOf xs n).length v ((flagsOf xs n).map bN))∧Wk w w'):=by
 obtain ⟨ai,ce,ae⟩:=E.DK
 have ao:=U.xl
 refine enter func99 aa ntmps99 aa<|ag fun J=>aw<|J<|aB fun M=>ag fun A=>p mv<|p (lt aa aa)<|p mv<|gs (t:=7) aa (fun ac=> ?_) fun ac=> ?_
 refine aE aa<|aE aa<|aE aa<|aE aa<|aE aa<|aE aa<|aE aa<|p (bB aa)<|nl<|A<|ct aa<|ag fun i=>aw<|i<|rt<|tr<|aV aa ?_
 have q:=(sK (xs:=xs) (n:=n) ab).2
 rw [q]
 exact ⟨⟨none,0,aa,rX _ _ _⟩,Md.refl _ _⟩
 refine aI aa mv<|aI aa mv<|aI aa (nc aa)<|aI aa (fa uY aa)<|aI aa (ld uv aa<|ae)<|aI aa (bK y7 aa aa)<|aI aa (ge aa aa)<|p (bp aa)<|nl<|A<|cd aa (fun Z=> ?_) fun Z=> ?_
 refine ag fun i=>aw<|i<|rt<|tr<|aV aa ?_
 have q:=(sK (xs:=xs) (n:=n) ab).2
 rw [q]
 exact ⟨⟨none,0,aa,rX _ _ _⟩,Md.refl _ _⟩
 obtain ⟨k,rfl⟩:∃ k:Nat,n=(k:Int):=⟨n.toNat,ab⟩
 obtain ⟨x,I⟩:∃ x,xs[k]? =some x:=⟨_,cC ab⟩
 obtain ⟨aj,ak,ws,a,c,ah,C,G,Y⟩:=E.sV I
 obtain ⟨al,O,am,an⟩:=sJ I
 refine aM<|M<|ag fun i=>p mv<|p (nc aa)<|p (fa uY aa)<|p (ld uv aa<|ah)<|p mv<|p (a8 Hn aa aa ab<|aJ.ok (C)<|uH G)<|p (fa Tf aa)<|p (ld pz aa<|fG (f:=pG) (m:=2) (fun _=>rfl) C G 1 az)<|aw<|i<|rt<|aV aa ?_
 rw [O]
 exact ⟨⟨a,c,aa,Y⟩,Md.refl _ _⟩
theorem Xn (B tb fb:Nat) (V:ej) (ve:Value) (F:aR) (xs:List bD) (n:Int) (w:World) (q:fY w B tb fb V ve F xs) (U:eF F xs):
 bm ay 124 (bf [aQ tb,.int .i64 n]) w (fun v w'=>(∃ a c,v= .slice a (cT F n).length c∧Tg w' 0 3 (cT F n).length v ((cT F n).map bN))∧Wk w w'):=by
 obtain ⟨ai,ce,ae⟩:=q.DL
 have ao:=U.len
 refine enter func124 aa ntmps124 aa<|ag fun J=>aw<|J<|aB fun M=>ag fun C=>p mv<|p (lt aa aa)<|p mv<|gs (t:=7) aa (fun ac=> ?_) fun ac=> ?_
 refine aE aa<|aE aa<|aE aa<|aE aa<|aE aa<|aE aa<|aE aa<|aE aa<|aE aa<|aE aa<|p (bB aa)<|nl<|C<|ct aa<|ag fun i=>aw<|i<|rt<|tr<|aV aa ?_
 have A:=(vC (F:=F) (n:=n) ab).2
 rw [A]
 exact ⟨⟨none,0,aa,rX _ _ _⟩,Md.refl _ _⟩
 refine aI aa mv<|aI aa mv<|aI aa (nc aa)<|aI aa (fa nb aa)<|aI aa (ld ig aa<|(aX q.cells).trans aa)<|aI aa (nc aa)<|aI aa (fa jK aa)<|aI aa (ld kb aa<|ae)<|aI aa (bK tG aa aa)<|aI aa (ge aa aa)<|p (bp aa)<|nl<|C<|cd aa (fun Z=> ?_) fun Z=> ?_
 refine ag fun i=>aw<|i<|rt<|tr<|aV aa ?_
 have A:=(vC (F:=F) (n:=n) ab).2
 rw [A]
 exact ⟨⟨none,0,aa,rX _ _ _⟩,Md.refl _ _⟩
 obtain ⟨k,rfl⟩:∃ k:Nat,n=(k:Int):=⟨n.toNat,ab⟩
 obtain ⟨r,I⟩:∃ r,F.rules[k]? =some r:=⟨_,cC ab⟩
 obtain ⟨aj,ak,a,c,ah,E,G,Y⟩:=q.iK I
 obtain ⟨al,O,am,an⟩:=vB I
 refine aM<|M<|ag fun i=>p mv<|p (nc aa)<|p (fa nb aa)<|p (ld ig aa<|(aX q.cells).trans aa)<|p (nc aa)<|p (fa jK aa)<|p (ld kb aa<|ah)<|p mv<|p (a8 nM aa aa ab<|aJ.ok (E)<|nR G)<|p (fa uQ aa)<|p (ld pz aa<|fG (f:=jv) (m:=8) (fun _=>rfl) E G 6 az)<|p aA<|nl<|i<|rt<|aV aa ?_
 rw [O]
 exact ⟨⟨a,c,aa,Y⟩,Md.refl _ _⟩
theorem IV (a:Option Addr) (c:Nat) (l:List Nat) (x:Nat) (w:World) (J:aJ w.heap a (l.map bN)) (an:l.length≤1048576):
 bm ay 100 (bf [.slice a l.length c,bN x]) w (fun v w'=>v= .bool (decide (x≠0∧x∈l))∧Wk w w'):=by
 refine enter func100 aa ntmps100 aa<|ag fun O=>aw<|O<|aB fun U=>ag fun V=>aw<|V<|aH<|lp (fun I A M=> ∃ (i:Nat),(i≤l.length)∧(∀ j,j < i→¬(l.getD j 0=x∧x≠0))∧(M=w)∧(A 0= .slice a l.length c)∧(A 1=bN x)∧(A 5=au i)∧(l.length - i=I)) _ ⟨0,ab,(fun j C=>by omega),aa,aa,aa,aa,aa⟩ ?_
 rintro I A M ⟨i,hi,E,ae,aj,al,am,rfl⟩
 refine fx 0 aj<|fx 1 al<|fx 5 am ?_
 subst ae
 refine aB fun Y=>ag fun Z=>ak (au i)<|ak (.slice a l.length c)<|p (bK np aa aa)<|p (lt aa aa)<|nl<|Z<|cd aa (fun ah=> ?_) fun ah=> ?_
 refine aM<|Y<|aB fun q=>aH<|ag fun G=>ak (.slice a l.length c)<|ak (au i)<|p (a8 kg aa aa ab<|aJ.ok (J)<|bS ab)<|p (ld bu aa<|aJ.gK (i:=i) J<|ni ab)<|ak (bN x)<|p (bJ aa aa)<|p mv<|gs (t:=18) aa (fun heq=> ?_) fun heq=> ?_
 refine aI aa (aT (bN x) aa)<|aI aa (db aa aa)<|p (bB aa)<|nl<|G<|cd aa (fun ai=> ?_) fun ai=> ?_
 exact ag fun ac=>aw<|ac<|rt<|br<|tr<|tr<|br<|tr<|aV aa<|⟨by rw [decide_eq_true (show x≠0∧x∈l from ⟨ab,(show l.getD i 0=x by omega) ▸ dU ab⟩)]; rfl,Md.refl _ _⟩
 exact aM<|bn<|q<|rg aa<|ak (au i)<|p (bE ((i+1:Nat):Int) aa aa<|bj ab ab)<|p aA<|nl<|tn<|⟨_,ab,i+1,ab,(fun j C=>by rcases fi j i with h | h <;> first | exact E j h | (rw [show j=i by omega]; omega)),aa,aa,aa,aa,aa⟩
 exact aE aa<|aE aa<|p (bp aa)<|nl<|G<|cf aa<|aM<|bn<|q<|rg aa<|ak (au i)<|p (bE ((i+1:Nat):Int) aa aa<|bj ab ab)<|p aA<|nl<|tn<|⟨_,ab,i+1,ab,(fun j C=>by rcases fi j i with h | h <;> first | exact E j h | (rw [show j=i by omega]; omega)),aa,aa,aa,aa,aa⟩
 exact ext<|ba<|ba<|be<|U<|ag fun q=>p aA<|nl<|q<|rt<|aV aa<|⟨by rw [decide_eq_false (show ¬(x≠0∧x∈l) from fun h=>by obtain ⟨j,C,e⟩:=nU 0 h.2; exact E j ab ⟨e,h.1⟩)]; rfl,Md.refl _ _⟩
theorem Xf (B tb fb:Nat) (V:ej) (ve:Value) (F:aR) (xs:List bD) (n:Int) (w:World) (A:fY w B tb fb V ve F xs) (J:eF F xs):
 bm ay 183 (bf [aQ tb,.int .i64 n]) w (fun v w'=>v= .bool (nL F n)∧Wk w w'):=by
 obtain ⟨ap,ce,am⟩:=A.DL
 have aF:=J.len
 refine enter func183 aa ntmps183 aa<|ag fun U=>aw<|U<|aB fun Y=>ag fun I=>p mv<|p (lt aa aa)<|p mv<|gs (t:=8) aa (fun al=> ?_) fun al=> ?_
 exact aE aa<|aE aa<|aE aa<|aE aa<|aE aa<|aE aa<|aE aa<|aE aa<|aE aa<|aE aa<|p (bB aa)<|nl<|I<|ct aa<|ag fun C=>aw<|C<|rt<|tr<|aV aa<|⟨by unfold nL; rw [decide_eq_false (show ¬(0≤n∧n < (F.rules.length:Int)) by omega)]; rfl,Md.refl _ _⟩
 refine aI aa mv<|aI aa mv<|aI aa (nc aa)<|aI aa (fa nb aa)<|aI aa (ld ig aa<|(aX A.cells).trans aa)<|aI aa (nc aa)<|aI aa (fa jK aa)<|aI aa (ld kb aa<|am)<|aI aa (bK tG aa aa)<|aI aa (ge aa aa)<|p (bp aa)<|nl<|I<|cd aa (fun ak=> ?_) fun ak=> ?_
 exact ag fun C=>aw<|C<|rt<|tr<|aV aa<|⟨by unfold nL; rw [decide_eq_false (show ¬(0≤n∧n < (F.rules.length:Int)) by omega)]; rfl,Md.refl _ _⟩
 obtain ⟨k,rfl⟩:∃ k:Nat,n=(k:Int):=⟨n.toNat,ab⟩
 obtain ⟨r,G⟩:∃ r,F.rules[k]? =some r:=⟨_,cC ab⟩
 obtain ⟨aq,ar,a,c,an,M,O,ai⟩:=A.iK G
 obtain ⟨au,ac,av,ax⟩:=vB G
 have aD:=(J.iK G).1
 refine aM<|Y<|aB fun C=> ?_
 have i:(fun w'=>Wk w w') w.drew:=(Md.refl _ _).drew
 refine bI (fun w'=>Wk w w') aa wide i<|aC 0 aa (fun _ _=>mv) i<|aC 1 aa (fun _ _=>nc aa) i<|aC 2 aa (fun _ _=>fa nb aa) i<|aC 3 aa (fun w' q=>ld ig aa<|Wk.aO q<|(aX A.cells).trans aa) i<|aC 4 aa (fun _ _=>nc aa) i<|aC 5 aa (fun _ _=>fa jK aa) i<|aC 6 aa (fun w' q=>ld kb aa<|Wk.aO q<|an) i<|aC 7 aa (fun _ _=>mv) i<|aC 8 aa (fun _ _=>a8 nM aa aa ab<|aJ.ok (M.wk i)<|nR O) i<|aC 9 aa (fun _ _=>fa uQ aa) i<|aC 10 aa (fun w' q=>ld pz aa<|Wk.aO q<|fG (f:=jv) (m:=8) (fun _=>rfl) M O 6 az) i<|aC 11 aa (fun _ _=>mv) i<|aC 12 aa (fun _ _=>nc aa) i<|aC 13 aa (fun _ _=>fa nb aa) i<|aC 14 aa (fun w' q=>ld ig aa<|Wk.aO q<|(aX A.cells).trans aa) i<|aC 15 aa (fun _ _=>nc aa) i<|aC 16 aa (fun _ _=>fa s6 aa) i<|aC 17 aa (fun _ _=>kh sI aa aa ab) i<|aC 18 aa (fun w' q=>ld bu aa<|Wk.aO q<|IA A (k:=0) ab) i<|he 19 aa aj<|cl Fu (IV a c r.next (F.sp.getD 0 0) w.drew (ai.wk i).cI.2 ab) aa fun aG ao ah=> ?_
 obtain ⟨rfl,ae⟩:=ah
 have E:(fun w'=>Wk w w') ao:=i.trans ae
 refine ⟨E,?_⟩
 exact aC 20 aa (fun _ _=>aA) E<|hn aj<|C<|ag fun Z=>p mv<|p (no aa)<|p aA<|nl<|Z<|rt<|aV aa<|⟨by unfold nL; rw [decide_eq_true (show 0≤(k:Int)∧(k:Int) < (F.rules.length:Int) by omega),ac]; rfl,E⟩
theorem Xj (B tb fb:Nat) (V:ej) (ve:Value) (F:aR) (xs:List bD) (n k:Int) (w:World) (C:fY w B tb fb V ve F xs) (A:eF F xs):
 bm ay 64 (bf [aQ tb,.int .i64 n,.int .i64 k]) w (fun v w'=>v= .bool (l8 F xs n k)∧Wk w w'):=by
 refine enter func64 aa ntmps64 aa<|ag fun G=>aw<|G<|aB fun I=>ag fun q=>p mv<|p (lt aa aa)<|p mv<|gs (t:=10) aa (fun ac=> ?_) fun ac=> ?_
 exact aE aa<|aE aa<|p (bB aa)<|nl<|q<|ct aa<|ag fun i=>aw<|i<|rt<|tr<|aV aa<|⟨by unfold l8; rw [decide_eq_false (show ¬(0≤k∧k < 5) by omega)]; rfl,Md.refl _ _⟩
 refine aI aa mv<|aI aa (gt aa aa)<|p (bp aa)<|nl<|q<|cd aa (fun Z=> ?_) fun Z=> ?_
 exact ag fun i=>aw<|i<|rt<|tr<|aV aa<|⟨by unfold l8; rw [decide_eq_false (show ¬(0≤k∧k < 5) by omega)]; rfl,Md.refl _ _⟩
 obtain ⟨k,rfl⟩:∃ m:Nat,k=(m:Int):=⟨k.toNat,ab⟩
 refine aM<|I<|ag fun i=>p mv<|p mv<|e<|cl AT (Dc B tb fb V ve F xs n w C A) aa fun ah ae O=> ?_
 obtain ⟨⟨a,c,rfl,Y⟩,hE16⟩:=O
 have E:=C.wk hE16
 refine aw<|i<|ag fun J=>p mv<|p mv<|p (nc aa)<|p (fa nb aa)<|p (ld ig aa<|(aX E.cells).trans aa)<|p mv<|p (nc aa)<|p (fa s6 aa)<|p (kh sI aa aa ab)<|p (ld bu aa<|IA E ab)<|e<|cl Fu (IV a c (flagsOf xs n) (F.sp.getD k 0) ae Y.cI.2<|by have :=(n8 A n).1; omega) aa fun ai aj U=> ?_
 obtain ⟨rfl,M⟩:=U
 exact aw<|J<|rt<|aV aa<|⟨by unfold l8 rL; rw [decide_eq_true (show 0≤((k:Nat):Int)∧((k:Nat):Int) < 5 by omega),mR]; rfl,hE16.trans M⟩
theorem De (B tb fb:Nat) (V:ej) (ve:Value) (F:aR) (xs:List bD) (fs:List Nat) (a:Option Addr) (c kd:Nat) (w:World) (ac:fY w B tb fb V ve F xs) (bd:eF F xs) (av:aJ w.heap a (fs.map bN)) (b8:fs.length≤64) (bs:fs.Pairwise (· < ·)):
 bm ay 120 (bf [aQ tb,.slice a fs.length c,au kd]) w (fun v w'=>bq w' w.heap.size 3 1 v (aU F fs kd).length ((aU F fs kd).map bN)∧Wk w w'):=by
 have ch:=bd.len
 obtain ⟨ar,cr,bV⟩:=ac.DL
 refine enter func120 aa ntmps120 aa<|ag fun a1=>aw<|a1<|ag fun a4=>p aA<|nl<|a4<|aB fun a5=>ag fun a6=>aw<|a6<|aH<|lp (fun U O ah=> ∃ (i:Nat) (v:Value),(i≤F.rules.length)∧(bq ah w.heap.size 3 1 v (mE F fs kd i).length<|(mE F fs kd i).map bN)∧(Wk w ah)∧(O 0=aQ tb)∧(O 1= .slice a fs.length c)∧(O 2=au kd)∧(O 7=v)∧(O 8=au i)∧(F.rules.length - i=U)) _ ⟨0,.slice none 0 0,ab,(dz _ _ _ _),(Md.refl _ _),aa,aa,aa,aa,aa,aa⟩ ?_
 rintro U O ah ⟨i,v,hi,aS,J,bw,bx,bz,bA,bC,rfl⟩
 refine fx 0 bw<|fx 1 bx<|fx 2 bz<|fx 7 bA<|fx 8 bC<|aB fun a7=>ag fun a9=>ak (au i)<|ak (aQ tb)<|p (nc aa)<|p (fa nb aa)<|p (ld ig aa<|(aX (ac.wk J).cells).trans aa)<|p (nc aa)<|p (fa jK aa)<|p (ld kb aa<|Wk.aO J bV)<|p (bK tG aa aa)<|p (lt aa aa)<|nl<|a9<|cd aa (fun br=> ?_) fun br=> ?_
 obtain ⟨r,aZ⟩:∃ r,F.rules[i]? =some r:=⟨_,cC ab⟩
 obtain ⟨bY,b0,ae,rc,bU,ax,aY,b4⟩:=(ac.wk J).iK aZ
 obtain ⟨b1,b2,b3,aq⟩:=vB aZ
 have cb:=VS F fs kd i
 have ce:((r,bR ae r.next.length rc):c7×Value).1.flag=r.flag:=rfl
 have cg:((r,bR ae r.next.length rc):c7×Value).1.kind=r.kind:=rfl
 refine aM<|a7<|aB fun Z=>aH<|ag fun bb=>ak (aQ tb)<|p (nc aa)<|p (fa nb aa)<|p (ld ig aa<|(aX (ac.wk J).cells).trans aa)<|p (nc aa)<|p (fa jK aa)<|p (ld kb aa<|bU)<|ak (au i)<|p (a8 nM aa aa ab<|aJ.ok (ax)<|nR aY)<|p (da rm aa (aa)<|fG (f:=jv) (m:=8) (fun _=>rfl) ax aY)<|e<|fk DU fun ai cn b6 aL bi=> ?_
 have cl:=aL.size
 refine e<|gj A4 aa aa aa aa bi (by show 8≤8; omega) fun a0 aF bg=> ?_
 have aD:Wk ah a0:=aL.md.trans' aF fun q cc h=>by omega
 have ci:=aF.size
 have bl:a0.heap[ai]? =some (.cells (jv (r,.slice ae r.next.length rc)).toArray 174 (0,0)):=bg
 have bt:=aW aS aD
 refine nl<|bb<|ag fun bc=>aw<|bc<|aH<|lp (fun U E C=> ∃ (k:Nat) (v2:Value),(k≤fs.length)∧(bq C w.heap.size 3 1 v2 (mE F fs kd i++nj r fs kd i k).length<|(mE F fs kd i++nj r fs kd i k).map bN)∧((mE F fs kd i++nj r fs kd i k).length≤i+k)∧(C.heap[ai]? =some (.cells (jv (r,.slice ae r.next.length rc)).toArray 174 (0,0)))∧(Wk w C)∧(E 0=aQ tb)∧(E 1= .slice a fs.length c)∧(E 2=au kd)∧(E 7=v2)∧(E 8=au i)∧(E 9=aQ ai)∧(E 10=au k)∧(fs.length - k=U)) _ ⟨0,v,ab,(by rw [JM,eh]; exact bt),(by rw [JM,eh]; omega),bl,(J.trans aD),aa,aa,aa,aa,aa,aa,aa,aa⟩ ?_
 rintro U E C ⟨k,v2,b9,M,ca,Y,I,bG,bH,bO,bP,bQ,bT,bM,rfl⟩
 refine fx 0 bG<|fx 1 bH<|fx 2 bO<|fx 7 bP<|fx 8 bQ<|fx 9 bT<|fx 10 bM<|aB fun a2=>ag fun an=>ak (au k)<|ak (.slice a fs.length c)<|p (bK np aa aa)<|p (lt aa aa)<|p mv<|gs (t:=37) aa (fun hk=> ?_) fun hk=> ?_
 refine aI aa (fa uP aa)<|aI aa (ld bu aa<|(aX Y).trans aa)<|aI aa (aT (au kd) aa)<|aI aa (bJ aa aa)<|p (bB aa)<|nl<|an<|cd aa (fun aN=> ?_) fun aN=> ?_
 refine aM<|a2<|aB fun ao=>aH<|aB fun a3=> ?_
 have A:(fun w'=>Wk C w') C.drew:=(Md.refl _ _).drew
 refine bI (fun w'=>Wk C w') aa wide A<|bF 0 aa (.slice a fs.length c) A<|bF 1 aa (au k) A<|aC 2 aa (fun _ _=>a8 kg aa aa ab<|aJ.ok (av.wk<|I.trans A)<|bS ab) A<|aC 3 aa (fun w' al=>ld bu aa<|Wk.aO al<|aJ.gK (i:=k) (av.wk I)<|ni ab) A<|aC 4 aa (fun _ _=>fa Th aa) A<|aC 5 aa (fun w' al=>ld bu aa<|Wk.aO al<|(aX Y).trans aa) A<|aC 6 aa (fun _ _=>bJ aa aa) A<|hn aj<|a3<|cd aa (fun am=> ?_) fun am=> ?_
 have aP:=V5 (kd:=kd) (i:=i) bs (show k < fs.length by omega) (show fs.getD k 0=r.flag by omega) (show r.kind=kd by omega)
 refine rg aa<|ak (v2)<|ak (au i)<|e<|fZ nm aa aa fun bZ bX b5 aK bh=> ?_
 have cj:=aK.size
 have G:Wk C bX:=A.trans aK.md
 refine e<|ap nm (aW M G) aa (by have :=I.size; have :=G.size; omega) aa (aJ.dX bh) (aa) (aa) ab ab fun bW cm bv aG ck b7=> ?_
 have bk:=Wk.own (I.trans G) (aW M G) aG<|cA _
 have bo:=aG.aH (G.aH Y) fun h=>dC (aW M G) (G.aH Y) az h
 exact p aA<|nl<|bn<|ao<|rg aa<|ak (au k)<|p (bE ((k+1:Nat):Int) aa aa<|bj ab ab)<|p aA<|nl<|tn<|⟨_,ab,k+1,bW,ab,(by rw [aP,← dD,List.map_append,bL]; exact bv),(by rewrite [aP,← dD,bL]; simp only [fA]; omega),bo,bk,aa,aa,aa,aa,aa,aa,aa,aa⟩
 exact aM<|bn<|ao<|rg aa<|ak (au k)<|p (bE ((k+1:Nat):Int) aa aa<|bj ab ab)<|p aA<|nl<|tn<|⟨_,ab,k+1,v2,ab,(by rw [JL (show k < fs.length by omega) (fun h=>am ab)]; exact aW M A),(by rewrite [JL (show k < fs.length by omega) (fun h=>am ab)]; omega),(A.aH Y),(I.trans A),aa,aa,aa,aa,aa,aa,aa,aa⟩
 exact ext<|ba<|ba<|be<|bn<|Z<|rg aa<|ak (au i)<|p (bE ((i+1:Nat):Int) aa aa<|bj ab ab)<|p aA<|nl<|tn<|⟨_,ab,i+1,v2,ab,(by rw [← JK (r:=r) aq (.inr fun h=>aN ab)]; exact M),I,aa,aa,aa,aa,aa,aa⟩
 exact aE aa<|aE aa<|aE aa<|aE aa<|p (bp aa)<|nl<|an<|cf aa<|ext<|ba<|ba<|be<|bn<|Z<|rg aa<|ak (au i)<|p (bE ((i+1:Nat):Int) aa aa<|bj ab ab)<|p aA<|nl<|tn<|⟨_,ab,i+1,v2,ab,(by rw [← JK (r:=r) aq (.inl (show k=fs.length by omega))]; exact M),I,aa,aa,aa,aa,aa,aa⟩
 refine ext<|ba<|ba<|be<|a5<|ag fun Z=>ak (v)<|p (cJ (v) aa)<|nl<|Z<|rt<|aV aa ?_
 have hn:mE F fs kd i=aU F fs kd:=by rw [show i=F.rules.length by omega]; rfl
 rw [← hn]
 exact ⟨aS,J⟩
theorem Xv (B tb fb:Nat) (V:ej) (ve:Value) (F:aR) (xs:List bD) (n:Int) (w:World) (q:fY w B tb fb V ve F xs) (i:eF F xs):
 bm ay 76 (bf [aQ tb,.int .i64 n]) w (fun v w'=>bq w' w.heap.size 3 1 v (aU F (flagsOf xs n) 2).length ((aU F (flagsOf xs n) 2).map bN)∧Wk w w'):=by
 refine enter func76 aa ntmps76 aa<|ag fun A=>aw<|A<|ag fun C=>ak (aQ tb)<|ak (.int .i64 n)<|e<|cl AT (Dc B tb fb V ve F xs n w q i) aa fun Z U J=> ?_
 obtain ⟨⟨a,c,rfl,M⟩,hE8⟩:=J
 have Y:=hE8.size
 refine aw<|C<|ag fun E=>ak (aQ tb)<|p mv<|e<|cl An (De B tb fb V ve F xs (flagsOf xs n) a c 2 U (q.wk hE8) i M.cI.2 (n8 i n).1 (n8 i n).2.1) aa fun v11 ac I=> ?_
 obtain ⟨O,G⟩:=I
 exact aw<|E<|rt<|aV aa<|⟨ez O ab,hE8.trans G⟩
theorem Xr (B tb fb:Nat) (V:ej) (ve:Value) (F:aR) (xs:List bD) (n:Int) (w:World) (q:fY w B tb fb V ve F xs) (i:eF F xs):
 bm ay 74 (bf [aQ tb,.int .i64 n]) w (fun v w'=>bq w' w.heap.size 3 1 v (aU F (flagsOf xs n) 1).length ((aU F (flagsOf xs n) 1).map bN)∧Wk w w'):=by
 refine enter func74 aa ntmps74 aa<|ag fun A=>aw<|A<|ag fun C=>ak (aQ tb)<|ak (.int .i64 n)<|e<|cl AT (Dc B tb fb V ve F xs n w q i) aa fun Z U J=> ?_
 obtain ⟨⟨a,c,rfl,M⟩,hE8⟩:=J
 have Y:=hE8.size
 refine aw<|C<|ag fun E=>ak (aQ tb)<|p mv<|e<|cl An (De B tb fb V ve F xs (flagsOf xs n) a c 1 U (q.wk hE8) i M.cI.2 (n8 i n).1 (n8 i n).2.1) aa fun v11 ac I=> ?_
 obtain ⟨O,G⟩:=I
 exact aw<|E<|rt<|aV aa<|⟨ez O ab,hE8.trans G⟩
theorem Xu (B tb fb:Nat) (V:ej) (ve:Value) (F:aR) (xs:List bD) (n:Int) (w:World) (q:fY w B tb fb V ve F xs) (i:eF F xs):
 bm ay 78 (bf [aQ tb,.int .i64 n]) w (fun v w'=>bq w' w.heap.size 3 1 v (aU F (cT F n) 2).length ((aU F (cT F n) 2).map bN)∧Wk w w'):=by
 refine enter func78 aa ntmps78 aa<|ag fun A=>aw<|A<|ag fun C=>ak (aQ tb)<|ak (.int .i64 n)<|e<|cl OS (Xn B tb fb V ve F xs n w q i) aa fun Z U J=> ?_
 obtain ⟨⟨a,c,rfl,M⟩,hE8⟩:=J
 have Y:=hE8.size
 refine aw<|C<|ag fun E=>ak (aQ tb)<|p mv<|e<|cl An (De B tb fb V ve F xs (cT F n) a c 2 U (q.wk hE8) i M.cI.2 (tE i n).1 (tE i n).2.1) aa fun v11 ac I=> ?_
 obtain ⟨O,G⟩:=I
 exact aw<|E<|rt<|aV aa<|⟨ez O ab,hE8.trans G⟩
end Go.Hb
section
namespace Go.Hb
open Go.Hb.ow
theorem Lm {ps:List Tx} {w:Tx} {i:Nat} (hi:i < ps.length) (h:cD (ps.getD i []) (w.getD i 0)=false):n7 ps w=false :=by
 unfold n7
 rw [Bool.and_eq_false_iff]
 refine .inr ?_
 rw [List.all_eq_false]
 exact ⟨i,by simpa using hi,by rw [h]; exact ee⟩
theorem Lo {ps:List Tx} {w:Tx} (a:ps.length≤w.length) (h:∀ i,i < ps.length→cD (ps.getD i []) (w.getD i 0)=true):n7 ps w=true :=by
 unfold n7
 rw [gT,decide_eq_true a,List.all_eq_true]
 exact ⟨aa,fun i hi=>h i<|by simpa using hi⟩
theorem Ln {ps:List Tx} {w:Tx} (h:w.length < ps.length):n7 ps w=false :=by
 unfold n7; rw [decide_eq_false ab]; rfl
theorem T7 (s pr:List UInt8) (w:World) (hs:s.length≤1099511627776) (hp:pr.length≤1099511627776):
 bm ay 147 (bf [str s,str pr]) w (fun v w'=>v= .bool (decide (s.take pr.length=pr))∧Wk w w'):=by
 refine enter func147 aa ntmps147 aa<|ag fun a=>aw<|a<|ag fun i=>ak (str s)<|ak (str pr)<|e<|cl AE (Cj s pr _ hs hp) aa fun C E A=> ?_
 obtain ⟨rfl,q⟩:=A
 exact aw<|i<|rt<|aV aa<|⟨aa,q⟩
theorem T8 (s pr:List UInt8) (w:World) (hs:s.length≤1099511627776) (hp:pr.length≤1099511627776):
 bm ay 145 (bf [str s,str pr]) w (fun v w'=>v= .bool (decide (pr.length≤s.length∧s.drop (s.length - pr.length)=pr))∧Wk w w'):=by
 refine enter func145 aa ntmps145 aa<|ag fun a=>aw<|a<|ag fun i=>ak (str s)<|ak (str pr)<|e<|cl AD (Ck s pr _ hs hp) aa fun C E A=> ?_
 obtain ⟨rfl,q⟩:=A
 exact aw<|i<|rt<|aV aa<|⟨aa,q⟩
theorem Wv (ps:List Tx) (a:Option Addr) (c:Nat) (i:Nat) (b:UInt8) (w:World) (C:aJ w.heap a (lk ps)) (hi:i < ps.length) (ac:ps.length≤4096):
 bm ay 212 (bf [.agg [.slice a ps.length c].toArray,au i,.int .u8 b.toNat]) w (fun v w'=>v= .bool (cD (ps.getD i []) b)∧Wk w w'):=by
 refine enter func212 aa ntmps212 aa<|ag fun G=>e<|jt aa fun J E V q M=> ?_
 have A:bO E.heap J [.slice a ps.length c]:=M
 refine aw<|G<|ag fun I=>ak (au i)<|p (ge aa aa)<|p mv<|gs (t:=9) aa (fun Z=> ?_) fun h=>absurd ab h
 refine aI aa (aT (au i) aa)<|aI aa (fa mz aa)<|aI aa (ld nC aa<|A.bG 0)<|aI aa (bK qS aa aa)<|aI aa (lt aa aa)<|p (bB aa)<|p mv<|gs (t:=16) aa (fun Y=> ?_) fun h=>absurd ab h
 refine aI aa (fa mz aa)<|aI aa (ld nC aa<|A.bG 0)<|aI aa (aT (au i) aa)<|aI aa (a8 Hm aa aa ab<|aJ.ok (C.wk q.md)<|Gu ab)<|aI aa (da kP aa (aa)<|Gt (C.wk q.md) hi)<|aI aa (aT (.int .u8 b.toNat) aa)<|eg aa aa aa<|cl AG (IH (cD<|ps.getD i []) b E) aa fun ae ah U=> ?_
 obtain ⟨rfl,O⟩:=U
 exact p (bB aa)<|aw<|I<|rt<|aV aa<|⟨aa,q.md.trans O⟩
theorem Kk (ps:List Tx) (a:Option Addr) (c:Nat) (s:Tx) (w:World) (ax:aJ w.heap a (lk ps)) (aG:ps.length≤4096):
 bm ay 148 (bf [.agg [.slice a ps.length c].toArray,str s]) w (fun v w'=>v= .bool (n7 ps s)∧Wk w w'):=by
 refine enter func148 aa ntmps148 aa<|ag fun ah=>e<|jt aa fun V ae aP G av=> ?_
 have M:bO ae.heap V [.slice a ps.length c]:=av
 refine aw<|ah<|aB fun am=>ag fun an=>ak (str s)<|p (cz u9 aa aa)<|p (fa mz aa)<|p (ld nC aa<|M.bG 0)<|p (bK qS aa aa)<|p (lt aa aa)<|nl<|an<|cd aa (fun aE=> ?_) fun aE=> ?_
 exact ag fun I=>aw<|I<|rt<|tr<|aV aa<|⟨by rw [Ln ab]; rfl,G.md⟩
 refine aM<|am<|aB fun I=>ag fun ao=>p (fa mz aa)<|p (ld nC aa<|M.bG 0)<|p (bK qS aa aa)<|p mv<|nl<|ao<|aH<|lp (fun Y E A=> ∃ (i:Nat),(i≤ps.length)∧(∀ k,k < i→cD (ps.getD k []) (s.getD k 0)=true)∧(Wk ae A)∧(E 1=str s)∧(E 2=aQ V)∧(E 14=au (ps.length))∧(E 15=au i)∧(ps.length - i=Y)) _ ⟨0,ab,(fun k hk=>absurd hk<|NF _),(Md.refl _ _),aa,aa,aa,aa,aa⟩ ?_
 rintro Y E A ⟨i,hi,ac,C,aI,aN,aK,aL,rfl⟩
 refine fx 1 aI<|fx 2 aN<|fx 14 aK<|fx 15 aL<|ag fun ap=>p (lt aa aa)<|nl<|ap<|aB fun aq=>cd aa (fun aF=> ?_) fun aF=> ?_
 refine aM<|aq<|aB fun J=>aH<|ag fun ar=>ak (au i)<|p (cJ (au i) aa)<|nl<|ar<|aB fun ai=> ?_
 have q:(fun w'=>Wk A w') A.drew:=(Md.refl _ _).drew
 refine bI (fun w'=>Wk A w') aa wide q<|aC 0 aa (fun w' aD=>da mY aa (aa) fun j aR=>(Wk.B aD<|Wk.B C M).bG j) q<|bF 1 aa (au i) q<|bF 2 aa (str s) q<|bF 3 aa (au i) q<|aC 4 aa (fun _ _=>eQ u9 aa aa ab) q<|he 5 aa aj<|cl Pq (Wv ps a c i (s.getD i 0) A.drew (ax.wk<|G.md.trans<|C.trans q) ab aG) aa fun aS aO az=> ?_
 obtain ⟨rfl,O⟩:=az
 have Z:(fun w'=>Wk A w') aO:=q.trans O
 refine ⟨Z,?_⟩
 refine aC 6 aa (fun _ _=>no aa) Z<|hn aj<|ai<|cb aa (fun U=> ?_) fun U=> ?_
 exact ag fun al=>aw<|al<|rt<|br<|tr<|tr<|br<|tr<|aV aa<|⟨by rw [Lm (i:=i) ab (by simpa using U)]; rfl,G.md.trans<|C.trans<|q.trans O⟩
 exact aM<|bn<|J<|rg aa<|p (ad aa aa<|bX ab)<|p mv<|nl<|tn<|⟨_,ab,i+1,ab,(fun k hk=>by rcases EA.1 hk with h | rfl; exact ac k h; simpa using U),(C.trans<|q.trans O),aa,aa,aa,aa,aa⟩
 exact ext<|ba<|ba<|be<|I<|ag fun J=>p aA<|nl<|J<|rt<|aV aa<|⟨by rw [Lo ab (fun k hk=>ac k ab)]; rfl,G.md.trans C⟩
section
variable {r:c7} {s:Tx}
theorem HG (h:(c8 r.cond).2≠0):iF r s=false :=by unfold iF; rw [decide_eq_false (fun h2=>h h2.1)]; rfl
theorem HH (h:s.length≤r.strip.length):iF r s=false :=by unfold iF; rw [decide_eq_false (fun h2=>by omega)]; rfl
variable (h:(c8 r.cond).2=0) (h1:r.strip.length < s.length)
include h h1
theorem xU (hk:r.kind=2):iF r s=(decide (s.drop (s.length - r.strip.length)=r.strip) && qs (c8 r.cond).1 s):=by unfold iF; rw [decide_eq_true ⟨h,h1⟩,if_pos hk]; rfl
theorem xS (hk:r.kind=1):iF r s=(decide (s.take r.strip.length=r.strip) && n7 (c8 r.cond).1 s):=by unfold iF; rw [decide_eq_true ⟨h,h1⟩,if_neg ab,if_pos hk]; rfl
omit h h1 in
theorem HF (hk:r.kind≠1) (a:r.kind≠2):iF r s=false :=by unfold iF; rw [if_neg a,if_neg hk,vU]
end
theorem WD (ps:List Tx) (a:Option Addr) (c:Nat) (s:Tx) (w:World) (U:aJ w.heap a (lk ps)) (ac:ps.length≤4096) (ak:s.length≤1048576):
 bm ay 146 (bf [.agg [.slice a ps.length c].toArray,str s]) w (fun v w'=>v= .bool (qs ps s)∧Wk w w'):=by
 refine enter func146 aa ntmps146 aa<|ag fun J=>e<|jt aa fun M q ah G O=> ?_
 have E:bO q.heap M [.slice a ps.length c]:=O
 refine aw<|J<|aB fun I=> ?_
 have i:(fun w'=>Wk q w') q.drew:=(Md.refl _ _).drew
 refine bI (fun w'=>Wk q w') aa wide i<|bF 0 aa (str s) i<|aC 1 aa (fun _ _=>cz u9 aa aa) i<|aC 2 aa (fun _ _=>fa mz aa) i<|aC 3 aa (fun w' A=>ld nC aa<|Wk.aO A<|E.bG 0) i<|aC 4 aa (fun _ _=>bK qS aa aa) i<|aC 5 aa (fun _ _=>ge aa aa) i<|aC 6 aa (fun _ _=>mv) i<|iQ (t:=11) aa (fun Z=> ?_) fun Z=> ?_
 refine bh 7 aa (fun w' A=>da mY aa (aa) fun j ai=>(Wk.B A E).bG j) i<|bh 8 aa (fun _ _=>aT (str s) aa) i<|bh 9 aa (fun _ _=>aT (str s) aa) i<|bh 10 aa (fun _ _=>cz u9 aa aa) i<|bh 11 aa (fun _ _=>fa mz aa) i<|bh 12 aa (fun w' A=>ld nC aa<|Wk.aO A<|E.bG 0) i<|bh 13 aa (fun _ _=>bK qS aa aa) i<|bh 14 aa (fun _ _=>dK ((s.length - ps.length:Nat):Int) aa aa<|bj ab ab) i<|bh 15 aa (fun _ _=>mg u9 aa aa ab) i<|mB 16 aa aj aa aa aa<|cl FF (Kk ps a c (s.drop<|s.length - ps.length) q.drew (U.wk<|G.md.trans i) ac) aa fun v21 ae Y=> ?_
 obtain ⟨rfl,V⟩:=Y
 have C:(fun w'=>Wk q w') ae:=i.trans V
 refine ⟨C,?_⟩
 exact aC 17 aa (fun _ _=>bB aa) C<|aC 18 aa (fun _ _=>aA) C<|hn aj<|I<|rt<|aV aa<|⟨by unfold qs; rw [decide_eq_true (show ps.length≤s.length by omega)]; rfl,G.md.trans C⟩
 exact a6 7 aa i<|a6 8 aa i<|a6 9 aa i<|a6 10 aa i<|a6 11 aa i<|a6 12 aa i<|a6 13 aa i<|a6 14 aa i<|a6 15 aa i<|a6 16 aa i<|aC 17 aa (fun _ _=>bp aa) i<|aC 18 aa (fun _ _=>aA) i<|hn aj<|I<|rt<|aV aa<|⟨by unfold qs; rw [decide_eq_false (show ¬ps.length≤s.length by omega)]; rfl,G.md.trans i⟩
theorem S6 (r:c7) (u:Value) (s:Tx) (w:World) (ba:r.strip.length≤1048576) (a5:r.add.length≤1048576) (aU:r.cond.length≤1048576) (aX:s.length≤1048576):
 bm ay 94 (bf [.agg (fz (r,u)).toArray,str s]) w (fun v w'=>v= .bool (iF r s)∧Wk w w'):=by
 refine enter func94 aa ntmps94 aa<|ag fun ao=>e<|jt aa fun av an a1 ai aA=> ?_
 have a9:((r,u):c7×Value).1.strip.length=r.strip.length:=rfl
 have a8:((r,u):c7×Value).1.kind=r.kind:=rfl
 have a6:((r,u):c7×Value).1.add.length=r.add.length:=rfl
 have Z:bO an.heap av (fz (r,u)):=aA
 refine aw<|ao<|ag fun ap=>p (fa Ib aa)<|p (ld bT aa<|Z.bG 5)<|e<|cl FE (GH r.cond an aU) aa fun v10 aY aJ=> ?_
 obtain ⟨⟨ac,rfl,am⟩,hE10⟩:=aJ
 obtain ⟨a,c,rfl⟩:=cB am
 have ah:=(a7 am).2
 have a3:=GF r.cond
 have bc:=ai.size
 have bb:=hE10.size
 refine p mv<|p (xt aa aa)<|p (xt aa aa)<|e<|al zj fun ax bl a2 aj aC=> ?_
 have bd:=aj.size
 refine e<|cW qo aa aa aa aa (aC) (by simp) fun O aG az=> ?_
 have I:Wk aY O:=aj.md.trans' aG fun q a4 h=>by omega
 have ae:bO O.heap ax [.slice a (c8 r.cond).1.length c]:=az
 have G:=Wk.B (hE10.trans I) Z
 have i:=ai.md.trans<|hE10.trans I
 refine aw<|ap<|aB fun aq=>ag fun Y=>p mv<|p (db aa aa)<|p mv<|gs (t:=15) aa (fun aP=> ?_) fun aP=> ?_
 refine aE aa<|aE aa<|aE aa<|aE aa<|aE aa<|aE aa<|p (bB aa)<|nl<|Y<|ct aa<|ag fun A=>aw<|A<|rt ?_
 exact tr<|aV aa<|⟨by rw [HG ab]; rfl,i⟩
 refine aI aa (aT (str s) aa)<|aI aa (cz u9 aa aa)<|aI aa (fa ti aa)<|aI aa (ld bT aa<|G.bG 3)<|aI aa (cz u9 aa aa)<|aI aa (le aa aa)<|p (bp aa)<|nl<|Y<|cd aa (fun aW=> ?_) fun aW=> ?_
 exact ag fun A=>aw<|A<|rt<|tr<|aV aa<|⟨by rw [HH ab]; rfl,i⟩
 refine aM<|aq<|aB fun A=>ag fun ar=>p (fa Ia aa)<|p (ld bu aa<|G.bG 0)<|nl<|ar<|aH<|ag fun au=>p (bJ aa aa)<|aw<|au ?_
 refine cd aa (fun aS=> ?_) fun aS=> ?_
 refine ag fun C=>ak (str s)<|p (fa ti aa)<|p (ld bT aa<|G.bG 3)<|e<|cl O2 (T8 s r.strip O ab ab) aa fun v30 aZ aK=> ?_
 obtain ⟨rfl,J⟩:=aK
 refine p mv<|gb (t:=31) aa (fun V=> ?_) fun V=> ?_
 refine aI aa (da mY aa (aa) fun j aQ=>(Wk.B J ae).bG j)<|aI aa (aT (str s) aa)<|eg aa aa aa<|cl O3 (WD (c8 r.cond).1 a c s aZ (ah.wk<|I.trans J) ab aX) aa fun bg bj aL=> ?_
 obtain ⟨rfl,aD⟩:=aL
 exact p (bB aa)<|aw<|C<|rt<|br<|tr<|aV aa<|⟨by rw [xU ab ab ab,decide_eq_true (of_decide_eq_true V).2]; rfl,i.trans<|J.trans aD⟩
 exact aE aa<|aE aa<|aE aa<|p (bp aa)<|aw<|C<|rt<|br<|tr<|aV aa<|⟨by rw [xU ab ab ab,decide_eq_false (fun h=>of_decide_eq_false V ⟨ab,h⟩)]; rfl,i.trans J⟩
 refine ag fun C=>p (bJ aa aa)<|aw<|C<|cd aa (fun aR=> ?_) fun aR=> ?_
 refine ag fun E=>ak (str s)<|p (fa ti aa)<|p (ld bT aa<|G.bG 3)<|e<|cl O4 (T7 s r.strip O ab ab) aa fun bh a0 aN=> ?_
 obtain ⟨rfl,M⟩:=aN
 refine p mv<|gb (t:=42) aa (fun U=> ?_) fun U=> ?_
 refine aI aa (da mY aa (aa) fun j aQ=>(Wk.B M ae).bG j)<|aI aa (aT (str s) aa)<|eg aa aa aa<|cl FF (Kk (c8 r.cond).1 a c s a0 (ah.wk<|I.trans M) ab) aa fun bi bk aO=> ?_
 obtain ⟨rfl,aF⟩:=aO
 exact p (bB aa)<|aw<|E<|rt<|br<|tr<|aV aa<|⟨by rw [xS ab ab ab,U]; rfl,i.trans<|M.trans aF⟩
 exact aE aa<|aE aa<|aE aa<|p (bp aa)<|aw<|E<|rt<|br<|tr<|aV aa<|⟨by rw [xS ab ab ab,U]; rfl,i.trans M⟩
 exact aM<|bn<|A<|ag fun E=>aw<|E<|rt<|aV aa<|⟨by rw [HF ab ab]; rfl,i⟩
def qQ (s p:Tx):Tx:=if p.length≤s.length∧s.drop (s.length - p.length)=p then s.take (s.length - p.length) else s
theorem Fc {r:c7} {s:Tx} (h:iF r s=false):dA r s=none:=if_neg<|by rw [h]; exact ee
theorem xT {r:c7} {s:Tx} (h:iF r s=true):r.strip.length < s.length∧(r.kind=2→s.drop (s.length - r.strip.length)=r.strip)∧(r.kind≠2→s.take r.strip.length=r.strip):=by
 unfold iF at h
 rw [gT,decide_eq_true_eq] at h
 refine ⟨h.1.2,fun hk=> ?_,fun hk=> ?_⟩
 · have h2:=h.2; rw [if_pos hk,gT] at h2; exact of_decide_eq_true h2.1
 · have h2:=h.2; rw [if_neg hk] at h2
   split at h2
   · rw [gT] at h2; exact of_decide_eq_true h2.1
   · cases h2
theorem On {r:c7} {s:Tx} (h:iF r s=true) (hk:r.kind=2):dA r s=some (qQ s r.strip++r.add):=by
 have h1:=xT h
 unfold dA qQ; rw [if_pos h,if_pos hk,if_pos ⟨ab,h1.2.1 hk⟩]
theorem Ol {r:c7} {s:Tx} (h:iF r s=true) (hk:r.kind≠2):dA r s=some (r.add++gy s r.strip):=by
 have h1:=xT h
 unfold dA gy; rw [if_pos h,if_neg hk,if_pos (h1.2.2 hk)]
theorem Oo {r:c7} {s:Tx} (h:iF r s=true) (hk:r.kind=2):dA r s=some (s.take (s.length - r.strip.length)++r.add):=by
 unfold dA; rw [if_pos h,if_pos hk]
theorem Om {r:c7} {s:Tx} (h:iF r s=true) (hk:r.kind≠2):dA r s=some (r.add++s.drop r.strip.length):=by
 unfold dA; rw [if_pos h,if_neg hk]
def JV (x:Option Tx):Value:= .tuple #[str (x.getD []),.bool x.isSome]
theorem YN (s pr:List UInt8) (w:World) (hs:s.length≤1099511627776) (hp:pr.length≤1099511627776):
 bm ay 149 (bf [str s,str pr]) w (fun v w'=>v=str (qQ s pr)∧Wk w w'):=by
 refine enter func149 aa ntmps149 aa<|ag fun C=>aw<|C<|aB fun E=>ag fun G=>ak (str s)<|ak (str pr)<|e<|cl AD (Ck s pr _ hs hp) aa fun J M I=> ?_
 obtain ⟨rfl,A⟩:=I
 refine nl<|G<|cb aa (fun i=> ?_) fun i=> ?_
 have q:=of_decide_eq_true i
 exact ag fun a=>ak (str s)<|ak (str s)<|p (cz u9 aa aa)<|ak (str pr)<|p (cz u9 aa aa)<|p (dK ((s.length - pr.length:Nat):Int) aa aa<|bj ab ab)<|p (rW u9 aa aa ab)<|aw<|a<|rt<|tr<|aV aa<|⟨by show str (s.take (((s.length - pr.length:Nat):Int)).toNat)=_; unfold qQ; rw [if_pos q]; rfl,A⟩
 have q:=of_decide_eq_false i
 exact aM<|E<|ag fun a=>ak (str s)<|p (cJ (str s) aa)<|nl<|a<|rt<|aV aa<|⟨by show str s=_; unfold qQ; rw [if_neg q],A⟩
theorem YO (s pr:List UInt8) (w:World) (hs:s.length≤1099511627776) (hp:pr.length≤1099511627776):
 bm ay 95 (bf [str s,str pr]) w (fun v w'=>v=str (qQ s pr)∧Wk w w'):=by
 refine enter func95 aa ntmps95 aa<|ag fun a=>aw<|a<|ag fun i=>ak (str s)<|ak (str pr)<|e<|cl FG (YN s pr _ hs hp) aa fun C E A=> ?_
 obtain ⟨rfl,q⟩:=A
 exact aw<|i<|rt<|aV aa<|⟨aa,q⟩
theorem Ab (r:c7) (u:Value) (s:Tx) (w:World) (az:r.strip.length≤1048576) (av:r.add.length≤1048576) (ax:r.cond.length≤1048576) (aD:s.length≤1048576):
 bm ay 59 (bf [.agg (fz (r,u)).toArray,str s]) w (fun v w'=>v=JV (dA r s)∧Wk w w'):=by
 refine enter func59 aa ntmps59 aa<|ag fun ac=>e<|jt aa fun al Z aG ap am=> ?_
 have aL:((r,u):c7×Value).1.strip.length=r.strip.length:=rfl
 have aK:((r,u):c7×Value).1.kind=r.kind:=rfl
 have aJ:((r,u):c7×Value).1.add.length=r.add.length:=rfl
 have V:bO Z.heap al (fz (r,u)):=am
 refine p aA<|aw<|ac<|aB fun ae=>ag fun ah=>p (da m3 aa (aa) fun j aI=>V.bG j)<|ak (str s)<|e<|cl Qy (S6 r u s Z az av ax aD) aa fun aQ a au=> ?_
 obtain ⟨rfl,Y⟩:=au
 have G:=Wk.B Y V
 have O:=ap.md.trans Y
 refine p (no aa)<|nl<|ah<|cb aa (fun U=> ?_) fun U=> ?_
 have I:iF r s=false :=by simpa using U
 exact ag fun J=>p aA<|aw<|J<|rt<|tr<|f2 aa aa aa<|⟨by rw [Fc I]; rfl,O⟩
 have I:iF r s=true :=by simpa using U
 have aH:=(xT I).1
 refine aM<|ae<|aB fun J=>ag fun ai=>p (fa Ia aa)<|p (ld bu aa<|G.bG 0)<|p (bJ aa aa)<|nl<|ai<|cd aa (fun hk=> ?_) fun hk=> ?_
 refine aB fun M=> ?_
 have q:(fun w'=>Wk a w') a.drew:=(Md.refl _ _).drew
 refine bI (fun w'=>Wk a w') aa wide q<|bF 0 aa (str s) q<|aC 1 aa (fun _ _=>fa ti aa) q<|aC 2 aa (fun w' i=>ld bT aa<|Wk.aO i<|G.bG 3) q<|aC 4 aa (fun _ _=>fa BZ aa) q<|aC 5 aa (fun w' i=>ld bT aa<|Wk.aO i<|G.bG 4) q<|he 3 aa aj<|cl Gk (YO s r.strip a.drew ab ab) aa fun aN aE aq=> ?_
 obtain ⟨rfl,an⟩:=aq
 have C:(fun w'=>Wk a w') aE:=q.trans an
 refine ⟨C,?_⟩
 exact aC 6 aa (fun _ _=>cc aa aa (by have :(qQ s r.strip).length≤s.length:=(by unfold qQ; split <;> simp <;> omega); omega)) C<|aC 7 aa (fun _ _=>aA) C<|aC 8 aa (fun _ _=>aA) C<|hn aj<|M<|rt<|tr<|f2 aa aa aa<|⟨by rw [On I ab]; rfl,O.trans C⟩
 refine aM<|J<|aB fun M=> ?_
 have A:(fun w'=>Wk a w') a.drew:=(Md.refl _ _).drew
 refine bI (fun w'=>Wk a w') aa wide A<|aC 0 aa (fun _ _=>fa BZ aa) A<|aC 1 aa (fun w' i=>ld bT aa<|Wk.aO i<|G.bG 4) A<|bF 2 aa (str s) A<|aC 3 aa (fun _ _=>fa ti aa) A<|aC 4 aa (fun w' i=>ld bT aa<|Wk.aO i<|G.bG 3) A<|he 5 aa aj<|cl Gl (Lz s r.strip a.drew ab ab) aa fun aP aF ar=> ?_
 obtain ⟨rfl,ao⟩:=ar
 have E:(fun w'=>Wk a w') aF:=A.trans ao
 refine ⟨E,?_⟩
 exact aC 6 aa (fun _ _=>cc aa aa (by have :(gy s r.strip).length≤s.length:=(by unfold gy; split <;> simp); omega)) E<|aC 7 aa (fun _ _=>aA) E<|aC 8 aa (fun _ _=>aA) E<|hn aj<|M<|rt<|f2 aa aa aa<|⟨by rw [Ol I ab]; rfl,O.trans E⟩
theorem KD (ps:List Tx) (a:Option Addr) (c:Nat) (s:Tx) (w:World) (U:aJ w.heap a (ps.map str)) (aI:ps.length≤4096) (Y:∀ t∈ps,(t.length=1∨3≤t.length)∧t.length≤1048576):
 bm ay 188 (bf [.slice a ps.length c,str s]) w (fun v w'=>v= .bool (n7 ps s)∧Wk w w'):=by
 refine enter func188 aa ntmps188 aa<|ag fun Z=>aw<|Z<|aB fun ah=>ag fun ai=>ak (str s)<|p (cz u9 aa aa)<|ak (.slice a ps.length c)<|p (bK rZ aa aa)<|p (lt aa aa)<|nl<|ai<|cd aa (fun av=> ?_) fun av=> ?_
 exact ag fun I=>aw<|I<|rt<|tr<|aV aa<|⟨by rw [Ln ab]; rfl,Md.refl _ _⟩
 refine aM<|ah<|aB fun I=>ag fun al=>aw<|al<|aH<|lp (fun O G A=> ∃ (i:Nat),(i≤ps.length)∧(∀ k,k < i→cD (ps.getD k []) (s.getD k 0)=true)∧(Wk w A)∧(G 0= .slice a ps.length c)∧(G 1=str s)∧(G 5=au i)∧(ps.length - i=O)) _ ⟨0,ab,(fun k hk=>absurd hk<|NF _),(Md.refl _ _),aa,aa,aa,aa⟩ ?_
 rintro O G A ⟨i,hi,V,C,az,aD,aE,rfl⟩
 refine fx 0 az<|fx 1 aD<|fx 5 aE<|aB fun am=>ag fun an=>ak (au i)<|ak (.slice a ps.length c)<|p (bK rZ aa aa)<|p (lt aa aa)<|nl<|an<|cd aa (fun ax=> ?_) fun ax=> ?_
 refine aM<|am<|aB fun J=>aH<|aB fun ao=> ?_
 have q:(fun w'=>Wk A w') A.drew:=(Md.refl _ _).drew
 refine bI (fun w'=>Wk A w') aa wide q<|bF 0 aa (.slice a ps.length c) q<|bF 1 aa (au i) q<|aC 2 aa (fun _ _=>a8 Ho aa aa ab<|aJ.ok (U.wk C)<|bS ab) q<|aC 3 aa (fun w' ar=>da sE aa (aa) (show ∀ j,j < 1→Hb.aO w'.heap (bk a) (fo a+i*1 +j)= [str (ps.getD i [])][j]? from fun j aG=>by cases j with | zero=>exact Wk.aO ar (Jq (U.wk C) ab) | succ j=>omega)) q<|bF 4 aa (str s) q<|bF 5 aa (au i) q<|aC 6 aa (fun _ _=>eQ u9 aa aa ab) q<|he 7 aa aj<|cl AF (EM (ps.getD i []) (s.getD i 0) A.drew (Y _<|dU ab).1 (Y _<|dU ab).2) aa fun aK aF aq=> ?_
 obtain ⟨rfl,ap⟩:=aq
 have E:(fun w'=>Wk A w') aF:=q.trans ap
 refine ⟨E,?_⟩
 refine aC 8 aa (fun _ _=>aA) E<|hn aj<|ao<|ag fun ac=>p mv<|p (no aa)<|nl<|ac<|cb aa (fun M=> ?_) fun M=> ?_
 exact ag fun ae=>aw<|ae<|rt<|br<|tr<|tr<|br<|tr<|aV aa<|⟨by rw [Lm (i:=i) ab (by simpa using M)]; rfl,C.trans E⟩
 exact aM<|bn<|J<|rg aa<|ak (au i)<|p (bE ((i+1:Nat):Int) aa aa<|bj ab ab)<|p aA<|nl<|tn<|⟨_,ab,i+1,ab,(fun k hk=>by rcases EA.1 hk with h | rfl; exact V k h; simpa using M),(C.trans E),aa,aa,aa,aa⟩
 exact ext<|ba<|ba<|be<|I<|ag fun J=>p aA<|nl<|J<|rt<|aV aa<|⟨by rw [Lo ab (fun k hk=>V k ab)]; rfl,C⟩
theorem W4 (ps:List Tx) (a:Option Addr) (c:Nat) (s:Tx) (w:World) (E:aJ w.heap a (ps.map str)) (M:ps.length≤4096) (U:s.length≤1048576) (O:∀ t∈ps,(t.length=1∨3≤t.length)∧t.length≤1048576):
 bm ay 187 (bf [.slice a ps.length c,str s]) w (fun v w'=>v= .bool (qs ps s)∧Wk w w'):=by
 refine enter func187 aa ntmps187 aa<|ag fun q=>aw<|q<|aB fun A=>ag fun C=>ak (str s)<|p (cz u9 aa aa)<|ak (.slice a ps.length c)<|p (bK rZ aa aa)<|p (lt aa aa)<|nl<|C<|cd aa (fun J=> ?_) fun J=> ?_
 exact ag fun i=>aw<|i<|rt<|tr<|aV aa<|⟨by unfold qs; rw [decide_eq_false (show ¬ps.length≤s.length by omega)]; rfl,Md.refl _ _⟩
 refine aM<|A<|ag fun i=>ak (.slice a ps.length c)<|ak (str s)<|ak (str s)<|p (cz u9 aa aa)<|ak (.slice a ps.length c)<|p (bK rZ aa aa)<|p (dK ((s.length - ps.length:Nat):Int) aa aa<|bj ab ab)<|p (mg u9 aa aa ab)<|e<|cl FL (KD ps a c (s.drop<|s.length - ps.length) w E M O) aa fun V Y I=> ?_
 obtain ⟨rfl,G⟩:=I
 exact aw<|i<|rt<|aV aa<|⟨by unfold qs; rw [decide_eq_true (show ps.length≤s.length by omega)]; rfl,G⟩
theorem Xe (r:c7) (u:Value) (s:Tx) (w:World) (a2:r.strip.length≤1048576) (aX:r.add.length≤1048576) (aY:r.cond.length≤1048576) (a3:s.length≤1048576):
 bm ay 123 (bf [.agg (jv (r,u)).toArray,str s]) w (fun v w'=>v= .bool (iF r s)∧Wk w w'):=by
 refine enter func123 aa ntmps123 aa<|ag fun av=>e<|jt aa fun aG au aU aJ aH=> ?_
 have a1:((r,u):c7×Value).1.strip.length=r.strip.length:=rfl
 have a0:((r,u):c7×Value).1.kind=r.kind:=rfl
 have aZ:((r,u):c7×Value).1.add.length=r.add.length:=rfl
 have am:bO au.heap aG (jv (r,u)):=aH
 refine aw<|av<|ag fun ax=>p (fa BK aa)<|p (ld bT aa<|am.bG 5)<|e<|cl FK (Km r.cond au ab) aa fun a4 ar aK=> ?_
 obtain ⟨⟨ac,rfl,ao⟩,hE13⟩:=aK
 obtain ⟨a,c,rfl⟩:=cB ao
 have an:=(a7 ao).2
 have V:= @GD r.cond
 have ap:∀ t∈(c8 r.cond).1,(t.length=1∨3≤t.length)∧t.length≤1048576:=fun t aq=>⟨(V.1 t aq).1,by have :=(V.1 t aq).2; omega⟩
 have E:=Wk.B hE13 am
 have A:=aJ.md.trans hE13
 have aW:=V.2
 refine p mv<|p (xt aa aa)<|p (xt aa aa)<|p aA<|aw<|ax<|aB fun az=>rg aa<|p (fa sZ aa)<|p (ld bT aa<|E.bG 3)<|p (cz u9 aa aa)<|aw<|az<|aB fun aD=>ag fun al=>p mv<|p (db aa aa)<|p mv<|gs (t:=21) aa (fun aP=> ?_) fun aP=> ?_
 exact aE aa<|aE aa<|aE aa<|aE aa<|p (bB aa)<|nl<|al<|ct aa<|ag fun C=>aw<|C<|rt<|tr<|aV aa<|⟨by rw [HG ab]; rfl,A⟩
 refine aI aa (aT (str s) aa)<|aI aa (cz u9 aa aa)<|aI aa mv<|aI aa (le aa aa)<|p (bp aa)<|nl<|al<|cd aa (fun aS=> ?_) fun aS=> ?_
 exact ag fun C=>aw<|C<|rt<|tr<|aV aa<|⟨by rw [HH ab]; rfl,A⟩
 refine aM<|aD<|aB fun C=>ag fun aF=>p (fa uP aa)<|p (ld bu aa<|E.bG 0)<|p (bJ aa aa)<|nl<|aF<|cd aa (fun aR=> ?_) fun aR=> ?_
 refine ag fun J=>p mv<|ak (str s)<|e<|cl Ph (W4 (c8 r.cond).1 a c s ar an ab ab ap) aa fun a5 ae aL=> ?_
 obtain ⟨rfl,M⟩:=aL
 refine aw<|J<|aB fun G=> ?_
 have i:(fun w'=>Wk ae w') ae.drew:=(Md.refl _ _).drew
 refine bI (fun w'=>Wk ae w') aa wide i<|aC 0 aa (fun _ _=>mv) i<|aC 1 aa (fun _ _=>mv) i<|ym (t:=34) aa (fun Z=> ?_) fun Z=> ?_
 exact bh 2 aa (fun _ _=>aT (str s) aa) i<|bh 3 aa (fun _ _=>aT (str s) aa) i<|bh 4 aa (fun _ _=>cz u9 aa aa) i<|bh 5 aa (fun _ _=>mv) i<|bh 6 aa (fun _ _=>dK ((s.length - r.strip.length:Nat):Int) aa aa<|bj ab ab) i<|bh 7 aa (fun _ _=>mg u9 aa aa ab) i<|bh 8 aa (fun _ _=>fa sZ aa) i<|bh 9 aa (fun w' U=>ld bT aa<|Wk.aO U<|(Wk.B M E).bG 3) i<|bh 10 aa (fun _ _=>dV aa aa) i<|aC 11 aa (fun _ _=>bB aa) i<|aC 12 aa (fun _ _=>aA) i<|hn aj<|G<|rt<|tr<|aV aa<|⟨by rw [xU ab ab ab,Z,D1]; rfl,A.trans<|M.trans i⟩
 exact a6 2 aa i<|a6 3 aa i<|a6 4 aa i<|a6 5 aa i<|a6 6 aa i<|a6 7 aa i<|a6 8 aa i<|a6 9 aa i<|a6 10 aa i<|aC 11 aa (fun _ _=>bp aa) i<|aC 12 aa (fun _ _=>aA) i<|hn aj<|G<|rt<|tr<|aV aa<|⟨by rw [xU ab ab ab,Z,vU]; rfl,A.trans<|M.trans i⟩
 refine aM<|C<|aB fun J=>ag fun G=>p (fa uP aa)<|p (ld bu aa<|E.bG 0)<|p (bJ aa aa)<|nl<|G<|cd aa (fun aQ=> ?_) fun aQ=> ?_
 refine ag fun I=>p mv<|ak (str s)<|e<|cl FL (KD (c8 r.cond).1 a c s ar an ab ap) aa fun a8 ah aN=> ?_
 obtain ⟨rfl,O⟩:=aN
 refine aw<|I<|aB fun ai=> ?_
 have q:(fun w'=>Wk ah w') ah.drew:=(Md.refl _ _).drew
 refine bI (fun w'=>Wk ah w') aa wide q<|aC 0 aa (fun _ _=>mv) q<|aC 1 aa (fun _ _=>mv) q<|ym (t:=52) aa (fun Y=> ?_) fun Y=> ?_
 exact bh 2 aa (fun _ _=>aT (str s) aa) q<|bh 3 aa (fun _ _=>mv) q<|bh 4 aa (fun _ _=>rW u9 aa aa ab) q<|bh 5 aa (fun _ _=>fa sZ aa) q<|bh 6 aa (fun w' U=>ld bT aa<|Wk.aO U<|(Wk.B O E).bG 3) q<|bh 7 aa (fun _ _=>dV aa aa) q<|aC 8 aa (fun _ _=>bB aa) q<|aC 9 aa (fun _ _=>aA) q<|hn aj<|ai<|rt<|tr<|aV aa<|⟨by rw [xS ab ab ab,Y,D1]; rfl,A.trans<|O.trans q⟩
 exact a6 2 aa q<|a6 3 aa q<|a6 4 aa q<|a6 5 aa q<|a6 6 aa q<|a6 7 aa q<|aC 8 aa (fun _ _=>bp aa) q<|aC 9 aa (fun _ _=>aA) q<|hn aj<|ai<|rt<|tr<|aV aa<|⟨by rw [xS ab ab ab,Y,vU]; rfl,A.trans<|O.trans q⟩
 exact aM<|J<|ag fun I=>aw<|I<|rt<|aV aa<|⟨by rw [HF ab ab]; rfl,A⟩
theorem C7 (r:c7) (u:Value) (s:Tx) (w:World) (aq:r.strip.length≤1048576) (ao:r.add.length≤1048576) (ap:r.cond.length≤1048576) (ar:s.length≤1048576):
 bm ay 77 (bf [.agg (jv (r,u)).toArray,str s]) w (fun v w'=>v=JV (dA r s)∧Wk w w'):=by
 refine enter func77 aa ntmps77 aa<|ag fun Y=>e<|jt aa fun ai V au am al=> ?_
 have aE:((r,u):c7×Value).1.strip.length=r.strip.length:=rfl
 have aD:((r,u):c7×Value).1.kind=r.kind:=rfl
 have az:((r,u):c7×Value).1.add.length=r.add.length:=rfl
 have O:bO V.heap ai (jv (r,u)):=al
 refine p aA<|aw<|Y<|ag fun Z=>p (da rm aa (aa) fun j ax=>O.bG j)<|ak (str s)<|e<|cl OR (Xe r u s V aq ao ap ar) aa fun v9 A an=> ?_
 obtain ⟨rfl,U⟩:=an
 have C:=Wk.B U O
 have J:=am.md.trans U
 refine aw<|Z<|aB fun ac=>ag fun ae=>p mv<|p (no aa)<|nl<|ae<|cb aa (fun M=> ?_) fun M=> ?_
 have E:iF r s=false :=by simpa using M
 exact ag fun G=>p aA<|aw<|G<|rt<|tr<|f2 aa aa aa<|⟨by rw [Fc E]; rfl,J⟩
 have E:iF r s=true :=by simpa using M
 have av:=(xT E).1
 refine aM<|ac<|aB fun G=>ag fun ah=>p (fa uP aa)<|p (ld bu aa<|C.bG 0)<|p (bJ aa aa)<|nl<|ah<|cd aa (fun hk=> ?_) fun hk=> ?_
 refine aB fun I=> ?_
 have a:(fun w'=>Wk A w') A.drew:=(Md.refl _ _).drew
 exact bI (fun w'=>Wk A w') aa wide a<|bF 0 aa (str s) a<|bF 1 aa (str s) a<|aC 2 aa (fun _ _=>cz u9 aa aa) a<|aC 3 aa (fun _ _=>fa sZ aa) a<|aC 4 aa (fun w' q=>ld bT aa<|Wk.aO q<|C.bG 3) a<|aC 5 aa (fun _ _=>cz u9 aa aa) a<|aC 6 aa (fun _ _=>dK ((s.length - r.strip.length:Nat):Int) aa aa<|bj ab ab) a<|aC 7 aa (fun _ _=>rW u9 aa aa ab) a<|aC 8 aa (fun _ _=>fa BJ aa) a<|aC 9 aa (fun w' q=>ld bT aa<|Wk.aO q<|C.bG 4) a<|aC 10 aa (fun _ _=>cc aa aa<|by simp only [List.length_take]; omega) a<|aC 11 aa (fun _ _=>aA) a<|aC 12 aa (fun _ _=>aA) a<|hn aj<|I<|rt<|tr<|f2 aa aa aa<|⟨by rw [Oo E ab]; rfl,J.trans a⟩
 refine aM<|G<|aB fun I=> ?_
 have i:(fun w'=>Wk A w') A.drew:=(Md.refl _ _).drew
 exact bI (fun w'=>Wk A w') aa wide i<|aC 0 aa (fun _ _=>fa BJ aa) i<|aC 1 aa (fun w' q=>ld bT aa<|Wk.aO q<|C.bG 4) i<|bF 2 aa (str s) i<|aC 3 aa (fun _ _=>fa sZ aa) i<|aC 4 aa (fun w' q=>ld bT aa<|Wk.aO q<|C.bG 3) i<|aC 5 aa (fun _ _=>cz u9 aa aa) i<|aC 6 aa (fun _ _=>mg u9 aa aa ab) i<|aC 7 aa (fun _ _=>cc aa aa<|by simp only [List.length_drop]; omega) i<|aC 8 aa (fun _ _=>aA) i<|aC 9 aa (fun _ _=>aA) i<|hn aj<|I<|rt<|f2 aa aa aa<|⟨by rw [Om E ab]; rfl,J.trans i⟩
end Go.Hb
end
section
namespace Go.Hb
def e7 (d:bV):List Value:= [str d.jx,.int .i64 (d.sV:Nat),.int .i64 d.fst,.int .i64 d.snd,.int .i64 d.pre]
def l3 (l:List bV):List Value:=l.flatMap e7
def nK (d:bV):Array Value:= #[.agg (e7 d).toArray]
theorem pA {h:Array Obj} {b e:Nat} {L:List Value} (a:h[b]? =some (.cells L.toArray e (0,0))):bO h b L:=⟨e,a⟩
def Rn (F:aR) (n:Int):Prop :=n= -1∨(0≤n∧n < F.rules.length)
section
variable {F:aR} {xs:List bD} {e:Nat} {f s p:Int}
theorem Iu (a:f= -1) (hp:p= -1):fw F xs e f s p= !rL F xs e 0:=by unfold fw; rw [if_pos a,decide_eq_false (fun h=>h hp)]; rfl
theorem Iv (a:f= -1) (hp:p≠ -1):fw F xs e f s p=true :=by unfold fw; rw [if_pos a,decide_eq_true hp]; rfl
theorem Cd (a:f≠ -1) (h:nL F (if s= -1 then f else s)=false):fw F xs e f s p=false :=by unfold fw; rw [if_neg a,if_pos h]
theorem Cc (a:f≠ -1) (h:nL F (if s= -1 then f else s)=true) (hp:p= -1):fw F xs e f s p=true :=by unfold fw; rw [if_neg a,if_neg (by rw [h]; exact ee),decide_eq_true hp]; rfl
theorem pL (a:f≠ -1) (h:nL F (if s= -1 then f else s)=true) (hp:p≠ -1):fw F xs e f s p=(lM F f && lM F s && lM F p):=by unfold fw; rw [if_neg a,if_neg (by rw [h]; exact ee),decide_eq_false hp]; rfl
theorem GI:lM F (-1)=true :=by unfold lM; rw [decide_eq_true rfl]; rfl
theorem sR {k:Nat} {r:c7} (a:F.rules[k]? =some r):lM F k=r.ek:=by
 unfold lM
 rw [decide_eq_false ab,mR,cR,a]; rfl
end
theorem Jr (F:aR) (xs:List bD) (e:Int):l8 F xs e 0=rL F xs e 0:=rfl
theorem DE {α β:Type} {g:α→Option β} {l:List α} {i:Nat} (d:α) (h:i < l.length):(l.take<|i+1).filterMap g=(l.take i).filterMap g++(g<|l.getD i d).toList:=by
 rw [fK l i d h,zC]
 congr 1
structure rl where
 ar:Option Addr
 cr:Nat
 rn:List Value
 ap:Option Addr
 cp:Nat
def nV (tb l:Nat) (K:rl) (F:aR) (e:Int) (word:Tx) (ps:List Nat):List Value:= [.pointer (some ⟨tb,0,none⟩),.slice K.ar F.rules.length K.cr,.int .i64 e,str word,.slice K.ap ps.length K.cp,.func (.yield l) #[] #[]]
structure jr (w:World) (fp:Nat→Prop) (S0 mb tb l:Nat) (K:rl) (F:aR) (e:Int) (word:Tx) (ps:List Nat):Prop where
 lo:S0≤mb
 cells:w.heap[mb]? =some (.cells (nV tb l K F e word ps).toArray 183 (0,0))
 nf:¬fp mb
 ru:bq w S0 77 7 (.slice K.ar F.rules.length K.cr) F.rules.length (iS<|F.rules.zip K.rn)
 rf:∀ k,(bR K.ar F.rules.length K.cr).ownBlock=some k→¬fp k
 rn:K.rn.length=F.rules.length
 pr:bq w S0 3 1 (.slice K.ap ps.length K.cp) ps.length (ps.map bN)
 pf:∀ k,(bR K.ap ps.length K.cp).ownBlock=some k→¬fp k
section
variable {w w':World} {fp fp':Nat→Prop} {S0 mb tb l:Nat} {K:rl} {F:aR} {e:Int} {word:Tx} {ps:List Nat}
theorem jr.gw (h:jr w fp S0 mb tb l K F e word ps) (a:Gw S0 fp w fp' w'):jr w' fp' S0 mb tb l K F e word ps:=
 ⟨h.lo,(a.aH h.cells h.lo h.nf).1,(a.aH h.cells h.lo h.nf).2,(a.own h.ru h.rf).1,(a.own h.ru h.rf).2,h.rn,(a.own h.pr h.pf).1,(a.own h.pr h.pf).2⟩
theorem jr.wk (h:jr w fp S0 mb tb l K F e word ps) (hm:Wk w w'):jr w' fp S0 mb tb l K F e word ps:=h.gw<|Gw.wk hm
theorem jr.vf (h:jr w fp S0 mb tb l K F e word ps) {G:Nat→Prop} (hm:Md G w w') {L:List Nat} (i:TF w L G) (a:(L.contains 185 || L.contains 79 || L.contains 5)=false):jr w' fp S0 mb tb l K F e word ps:=by
 simp only [Bool.or_eq_false_iff] at a
 exact ⟨h.lo,hm.gL i h.cells a.1.1,h.nf,cj h.ru hm i a.1.2,h.rf,h.rn,cj h.pr hm i a.2,h.pf⟩
theorem jr.iK (h:jr w fp S0 mb tb l K F e word ps) {k:Nat} {r:c7} (a:F.rules[k]? =some r):∃ u,(F.rules.zip K.rn)[k]? =some (r,u):=by
 have hk:=(fS.1 a).1
 have i:k < K.rn.length:=by rw [h.rn]; exact hk
 exact ⟨K.rn[k],jy.2 ⟨a,cC i⟩⟩
end
theorem C4 {α:Type} {a b c:List α} (h:b <+:c):a++b <+:a++c:=by obtain ⟨t,rfl⟩:=h; exact ⟨t,by rw [dD]⟩
theorem GK {F:aR} {xs:List bD} {e:Nat} {word:Tx} {f s:Int} {p:Nat} (h:fw F xs e f s p=false):ju F xs e word f s p=none:=if_neg<|by rw [h]; exact ee
theorem GJ {F:aR} {xs:List bD} {e:Nat} {word:Tx} {f s:Int} {p:Nat} (h:dA (F.rules.getD p eY) word=none):ju F xs e word f s p=none:=by unfold ju; rw [h]; split <;> rfl
theorem GL {F:aR} {xs:List bD} {e:Nat} {word v:Tx} {f s:Int} {p:Nat} (h:fw F xs e f s p=true) (h1:dA (F.rules.getD p eY) word=some v):ju F xs e word f s p=some ⟨v,e,f,s,p⟩:=by unfold ju; rw [if_pos h,h1]; rfl
theorem Iw (B tb:Nat) (aq:hU) (F:aR) (xs:List bD) (ar:Option Addr) (cr:Nat) (rn:List Value) (word:Tx) (en:Nat) (f s pp:Int) (w:World) (a2:fE w B tb aq F xs) (aG:eF F xs) (aX:aJ w.heap ar (iS<|F.rules.zip rn)) (am:rn.length=F.rules.length) (ah:Rn F f) (hs:Rn F s) (hp:Rn F pp):
 bm ay 57 (bf [aQ tb,.slice ar F.rules.length cr,.agg (e7 ⟨word,en,f,s,pp⟩).toArray]) w (fun v w'=>v= .bool (fw F xs en f s pp)∧Wk w w'):=by
 refine enter func57 aa ntmps57 aa<|ag fun aT=>e<|jt aa fun aU ap a aD aW=> ?_
 have bc:=aD.size
 have V:=a2.wk aD.md
 have a:bO ap.heap aU [str word,au en,.int .i64 f,.int .i64 s,.int .i64 pp]:=aW
 have q:Wk w ap:=aD.md
 have I:=aX.wk aD.md
 refine aw<|aT<|aB fun aN=>aH<|ag fun aO=>p (fa ta aa)<|p (ld bu aa<|a.bG 2)<|p (lt aa aa)<|p mv<|gs (t:=11) aa (fun aK=> ?_) fun aK=> ?_
 refine aI aa (fa tc aa)<|aI aa (ld bu aa<|a.bG 4)<|aI aa (lt aa aa)<|p (bB aa)<|aw<|aO<|cd aa (fun ba=> ?_) fun ba=> ?_
 refine ag fun ai=>p mv<|p (fa Tp aa)<|p (ld bu aa<|a.bG 1)<|e<|cl Qj (CD B tb aq F xs (en:Nat) 0 ap V aG) aa fun bd bi aZ=> ?_
 obtain ⟨rfl,aY⟩:=aZ
 refine p (no aa)<|aw<|ai<|rt<|br<|tr<|aV aa ?_
 have i:fw F xs en f s pp= !l8 F xs en 0:=by rw [Iu (by unfold Rn at ah; omega) (by unfold Rn at hp; omega),Jr]
 exact ⟨Eq.trans (b:=bQ<|!l8 F xs en 0) aa (congrArg bQ i.symm),q.trans aY⟩
 refine ag fun ai=>p (fa ta aa)<|p (ld bu aa<|a.bG 2)<|p (lt aa aa)<|aw<|ai<|cd aa (fun a3=> ?_) fun h=>absurd aK h
 refine ag fun aj=>aw<|aj<|rt<|br<|tr<|aV aa ?_
 have i:fw F xs en f s pp=true :=by exact Iv (by unfold Rn at ah; omega) ab
 exact ⟨Eq.trans (b:=bQ<|true) aa (congrArg bQ i.symm),q⟩
 refine aE aa<|aE aa<|aE aa<|p (bp aa)<|aw<|aO<|cf aa<|ag fun ai=>p (fa ta aa)<|p (ld bu aa<|a.bG 2)<|p (lt aa aa)<|aw<|ai<|cd aa (fun h=>absurd h aK) fun a3=> ?_
 refine aB fun aj=>ag fun aP=>p (fa rF aa)<|p (ld bu aa<|a.bG 3)<|p (lt aa aa)<|p mv<|gs (t:=29) aa (fun aL=> ?_) fun aL=> ?_
 refine aI aa mv<|aI aa (fa ta aa)<|aI aa (ld bu aa<|a.bG 2)<|eg aa aa aa<|cl xq (Hd B tb aq F xs f ap V aG) aa fun bg bj a0=> ?_
 obtain ⟨rfl,av⟩:=a0
 have V:=V.wk av
 have a:=Wk.B av a
 have q:=q.trans av
 have I:=I.wk av
 refine aI aa (no aa)<|p (bB aa)<|aw<|aP<|cb aa (fun A=> ?_) fun A=> ?_
 refine aM<|aj<|ct (congrArg bQ A)<|ag fun U=>aw<|U<|rt<|br<|tr<|aV aa ?_
 have i:fw F xs en f s pp=false :=by exact Cd ab<|by rw [if_pos (show s= -1 by unfold Rn at hs; omega)]; simpa using A
 exact ⟨Eq.trans (b:=bQ<|false) aa (congrArg bQ i.symm),q⟩
 refine rg aa<|p (fa rF aa)<|p (ld bu aa<|a.bG 3)<|p (ge aa aa)<|p mv<|gs (t:=39) aa (fun h=>absurd h ab) fun a5=>aE aa<|aE aa<|aE aa<|aE aa<|aE aa<|p (bp aa)<|p aA<|nl<|aj<|cf aa<|ag fun U=>p (fa tc aa)<|p (ld bu aa<|a.bG 4)<|p (lt aa aa)<|p aA ?_
 refine nl<|U<|cd aa (fun aC=> ?_) fun aC=> ?_
 refine ag fun G=>aw<|G<|rt<|br<|tr<|aV aa ?_
 have i:fw F xs en f s pp=true :=by exact Cc ab (by rw [if_pos (show s= -1 by unfold Rn at hs; omega)]; simpa using A)<|by unfold Rn at hp; omega
 exact ⟨Eq.trans (b:=bQ<|true) aa (congrArg bQ i.symm),q⟩
 obtain ⟨E,rfl⟩:∃ m:Nat,pp=(m:Int):=⟨(pp).toNat,by unfold Rn at hp; omega⟩
 obtain ⟨ac,M⟩:∃ r,F.rules[E]? =some r:=⟨_,cC<|by unfold Rn at hp; omega⟩
 have ao:(F.rules.zip rn)[E]? =some (ac,rn[E]'(by rw [am]; exact (fS.1 M).1)):=jy.2 ⟨M,cC _⟩
 have al:=sR M
 have a9:=(fS.1 M).1
 obtain ⟨C,rfl⟩:∃ m:Nat,f=(m:Int):=⟨(f).toNat,by unfold Rn at ah; omega⟩
 obtain ⟨rf,J⟩:∃ r,F.rules[C]? =some r:=⟨_,cC<|by unfold Rn at ah; omega⟩
 have an:(F.rules.zip rn)[C]? =some (rf,rn[C]'(by rw [am]; exact (fS.1 J).1)):=jy.2 ⟨J,cC _⟩
 have ak:=sR J
 have a7:=(fS.1 J).1
 have ae:=I
 refine aM<|bn<|aN<|ag fun G=>p mv<|p (fa tc aa)<|p (ld bu aa<|a.bG 4)<|p (a8 na aa aa ab<|aJ.ok (I)<|nY ao)<|p (fa u0 aa)<|p (ld kt aa<|fG (f:=fz) (m:=7) (fun _=>rfl) ae ao 2 az)<|p mv<|gb (t:=56) aa (fun Z=> ?_) fun Z=> ?_
 refine aI aa mv<|aI aa (fa ta aa)<|aI aa (ld bu aa<|a.bG 2)<|aI aa (a8 na aa aa ab<|aJ.ok (I)<|nY an)<|aI aa (fa u0 aa)<|aI aa (ld kt aa<|fG (f:=fz) (m:=7) (fun _=>rfl) ae an 2 az)<|p (bB aa)<|p mv<|gb (t:=64) aa (fun Y=> ?_) fun Y=> ?_
 refine aI aa (fa rF aa)<|aI aa (ld bu aa<|a.bG 3)<|aI aa (lt aa aa)<|aI aa mv<|gs (t:=68) aa (fun a6=> ?_) fun h=>absurd aL h
 refine aE aa<|aE aa<|aE aa<|aE aa<|aE aa<|aE aa<|aI aa (bB aa)<|p (bB aa)<|aw<|G<|rt<|aV aa ?_
 have i:fw F xs en ((C:Nat):Int) s ((E:Nat):Int)=true :=by rw [pL ab (by rw [if_pos (show s= -1 by unfold Rn at hs; omega)]; simpa using A) ab,ak,al,show s= -1 by (unfold Rn at hs; omega),GI,(show rf.ek=true from Y),(show ac.ek=true from Z)]; rfl
 exact ⟨Eq.trans (b:=bQ<|true) aa (congrArg bQ i.symm),q⟩
 refine aE aa<|aE aa<|aE aa<|aE aa<|ec aa<|ec aa<|ec aa<|ec aa<|ec aa<|ec aa<|aE aa<|p (bp aa)<|aw<|G<|rt<|aV aa ?_
 have i:fw F xs en ((C:Nat):Int) s ((E:Nat):Int)=false :=by rw [pL ab (by rw [if_pos (show s= -1 by unfold Rn at hs; omega)]; simpa using A) ab,ak,(show rf.ek=false from Y)]; rfl
 exact ⟨Eq.trans (b:=bQ<|false) aa (congrArg bQ i.symm),q⟩
 refine aE aa<|aE aa<|aE aa<|aE aa<|aE aa<|aE aa<|p (bp aa)<|p mv<|aE aa<|aE aa<|aE aa<|aE aa<|ec aa<|ec aa<|ec aa<|ec aa<|ec aa<|ec aa<|aE aa<|p (bp aa)<|aw<|G<|rt<|aV aa ?_
 have i:fw F xs en ((C:Nat):Int) s ((E:Nat):Int)=false :=by rw [pL ab (by rw [if_pos (show s= -1 by unfold Rn at hs; omega)]; simpa using A) ab,al,(show ac.ek=false from Z),vU]
 exact ⟨Eq.trans (b:=bQ<|false) aa (congrArg bQ i.symm),q⟩
 refine aE aa<|aE aa<|aE aa<|aE aa<|aE aa<|p (bp aa)<|p aA<|nl<|aP<|cf aa<|rg aa<|p (fa rF aa)<|p (ld bu aa<|a.bG 3)<|p (ge aa aa)<|p mv<|gs (t:=39) aa (fun a5=> ?_) fun h=>absurd ab h
 refine aI aa mv<|aI aa (fa rF aa)<|aI aa (ld bu aa<|a.bG 3)<|eg aa aa aa<|cl xq (Hd B tb aq F xs s ap V aG) aa fun bh bk a1=> ?_
 obtain ⟨rfl,ax⟩:=a1
 have V:=V.wk ax
 have a:=Wk.B ax a
 have q:=q.trans ax
 have I:=I.wk ax
 refine aI aa (no aa)<|p (bB aa)<|aw<|aj<|cb aa (fun A=> ?_) fun A=> ?_
 refine ag fun U=>aw<|U<|rt<|br<|tr<|aV aa ?_
 have i:fw F xs en f s pp=false :=by exact Cd ab<|by rw [if_neg (show ¬s= -1 by omega)]; simpa using A
 exact ⟨Eq.trans (b:=bQ<|false) aa (congrArg bQ i.symm),q⟩
 refine ag fun U=>p (fa tc aa)<|p (ld bu aa<|a.bG 4)<|p (lt aa aa)<|aw<|U<|cd aa (fun aC=> ?_) fun aC=> ?_
 refine ag fun G=>aw<|G<|rt<|br<|tr<|aV aa ?_
 have i:fw F xs en f s pp=true :=by exact Cc ab (by rw [if_neg (show ¬s= -1 by omega)]; simpa using A)<|by unfold Rn at hp; omega
 exact ⟨Eq.trans (b:=bQ<|true) aa (congrArg bQ i.symm),q⟩
 obtain ⟨E,rfl⟩:∃ m:Nat,pp=(m:Int):=⟨(pp).toNat,by unfold Rn at hp; omega⟩
 obtain ⟨ac,M⟩:∃ r,F.rules[E]? =some r:=⟨_,cC<|by unfold Rn at hp; omega⟩
 have ao:(F.rules.zip rn)[E]? =some (ac,rn[E]'(by rw [am]; exact (fS.1 M).1)):=jy.2 ⟨M,cC _⟩
 have al:=sR M
 have a9:=(fS.1 M).1
 obtain ⟨C,rfl⟩:∃ m:Nat,f=(m:Int):=⟨(f).toNat,by unfold Rn at ah; omega⟩
 obtain ⟨rf,J⟩:∃ r,F.rules[C]? =some r:=⟨_,cC<|by unfold Rn at ah; omega⟩
 have an:(F.rules.zip rn)[C]? =some (rf,rn[C]'(by rw [am]; exact (fS.1 J).1)):=jy.2 ⟨J,cC _⟩
 have ak:=sR J
 have a7:=(fS.1 J).1
 obtain ⟨O,rfl⟩:∃ m:Nat,s=(m:Int):=⟨(s).toNat,by unfold Rn at hs; omega⟩
 obtain ⟨rs,aF⟩:∃ r,F.rules[O]? =some r:=⟨_,cC<|by unfold Rn at hs; omega⟩
 have aS:(F.rules.zip rn)[O]? =some (rs,rn[O]'(by rw [am]; exact (fS.1 aF).1)):=jy.2 ⟨aF,cC _⟩
 have a4:=sR aF
 have bb:=(fS.1 aF).1
 have ae:=I
 refine aM<|bn<|aN<|ag fun G=>p mv<|p (fa tc aa)<|p (ld bu aa<|a.bG 4)<|p (a8 na aa aa ab<|aJ.ok (I)<|nY ao)<|p (fa u0 aa)<|p (ld kt aa<|fG (f:=fz) (m:=7) (fun _=>rfl) ae ao 2 az)<|p mv<|gb (t:=56) aa (fun Z=> ?_) fun Z=> ?_
 refine aI aa mv<|aI aa (fa ta aa)<|aI aa (ld bu aa<|a.bG 2)<|aI aa (a8 na aa aa ab<|aJ.ok (I)<|nY an)<|aI aa (fa u0 aa)<|aI aa (ld kt aa<|fG (f:=fz) (m:=7) (fun _=>rfl) ae an 2 az)<|p (bB aa)<|p mv<|gb (t:=64) aa (fun Y=> ?_) fun Y=> ?_
 refine aI aa (fa rF aa)<|aI aa (ld bu aa<|a.bG 3)<|aI aa (lt aa aa)<|aI aa mv<|gs (t:=68) aa (fun h=>absurd h aL) fun a6=>aI aa mv<|aI aa (fa rF aa)<|aI aa (ld bu aa<|a.bG 3)<|aI aa (a8 na aa aa ab<|aJ.ok (I)<|nY aS)<|aI aa (fa u0 aa)<|aI aa (ld kt aa<|fG (f:=fz) (m:=7) (fun _=>rfl) ae aS 2 az)<|aI aa (bp aa)<|p (bB aa)<|aw<|G<|rt<|aV aa ?_
 have i:fw F xs en ((C:Nat):Int) ((O:Nat):Int) ((E:Nat):Int)=rs.ek:=by rw [pL ab (by rw [if_neg (show ¬((O:Nat):Int)= -1 by omega)]; simpa using A) ab,ak,a4,al,(show rf.ek=true from Y),(show ac.ek=true from Z),Bool.true_and,D1]
 exact ⟨Eq.trans (b:=bQ<|rs.ek) aa (congrArg bQ i.symm),q⟩
 refine aE aa<|aE aa<|aE aa<|aE aa<|ec aa<|ec aa<|ec aa<|ec aa<|ec aa<|ec aa<|aE aa<|p (bp aa)<|aw<|G<|rt<|aV aa ?_
 have i:fw F xs en ((C:Nat):Int) ((O:Nat):Int) ((E:Nat):Int)=false :=by rw [pL ab (by rw [if_neg (show ¬((O:Nat):Int)= -1 by omega)]; simpa using A) ab,ak,(show rf.ek=false from Y)]; rfl
 exact ⟨Eq.trans (b:=bQ<|false) aa (congrArg bQ i.symm),q⟩
 refine aE aa<|aE aa<|aE aa<|aE aa<|aE aa<|aE aa<|p (bp aa)<|p mv<|aE aa<|aE aa<|aE aa<|aE aa<|ec aa<|ec aa<|ec aa<|ec aa<|ec aa<|ec aa<|aE aa<|p (bp aa)<|aw<|G<|rt<|aV aa ?_
 have i:fw F xs en ((C:Nat):Int) ((O:Nat):Int) ((E:Nat):Int)=false :=by rw [pL ab (by rw [if_neg (show ¬((O:Nat):Int)= -1 by omega)]; simpa using A) ab,al,(show ac.ek=false from Z),vU]
 exact ⟨Eq.trans (b:=bQ<|false) aa (congrArg bQ i.symm),q⟩
end Go.Hb
end
namespace Go.Hb
theorem nX {F:aR} {xs:List bD} (h:eF F xs) {k:Nat} {r:c7} (a:F.rules[k]? =some r):r.strip.length≤1048576∧r.add.length≤1048576∧r.cond.length≤1048576∧r.add.length≤32:=by
 have :=(h.iK a).2.2; unfold jQ at this; omega
theorem Tb {α β:Type} {g:α→Option β} (l:List α) (i:Nat):(l.take i).filterMap g <+:l.filterMap g:=by
 conv =>rhs; rw [← wP i l,zC]
 exact ui _ _
theorem QC {F:aR} {xs:List bD} {e:Nat} {word:Tx} {f s:Int} {pre tl a:List bV} {x:bV} (h:a=pre++(eC F xs e word f s++tl)) (i:kA F xs e word f s= [x]):
 a=pre++x::((aU F (flagsOf xs e) 1).filterMap (ju F xs e word f s)++tl):=by
 rw [h]; unfold eC; rw [i,dD]; rfl
theorem QB {F:aR} {xs:List bD} {e:Nat} {word:Tx} {f s:Int} {pre tl a:List bV} {i:Nat} {x:bV} (h:a=pre++(eC F xs e word f s++tl)) (hi:i < (aU F (flagsOf xs e) 1).length) (q:ju F xs e word f s ((aU F (flagsOf xs e) 1).getD i 0)=some x):
 a=(pre++(kA F xs e word f s++((aU F (flagsOf xs e) 1).take i).filterMap (ju F xs e word f s)))++x::(((aU F (flagsOf xs e) 1).drop<|i+1).filterMap (ju F xs e word f s)++tl):=by
 have h2:(aU F (flagsOf xs e) 1).filterMap (ju F xs e word f s)=((aU F (flagsOf xs e) 1).take i).filterMap (ju F xs e word f s)++x::((aU F (flagsOf xs e) 1).drop<|i+1).filterMap (ju F xs e word f s):=by
  conv =>lhs; rw [← wP (i+1) (aU F (flagsOf xs e) 1),zC,DE 0 hi,q]
  rw [dD]; rfl
 unfold eC at h
 rw [h,h2]
 simp only [dD,List.cons_append]
theorem uM {α β:Type} {g:α→List β} {l:List α} {i:Nat} (d:α) (h:i < l.length):(l.take<|i+1).flatMap g=(l.take i).flatMap g++g (l.getD i d):=by
 rw [fK l i d h,nw,o0]
theorem HR {α β:Type} {g:α→List β} {l:List α} {i:Nat} (d:α) (h:i < l.length):l.flatMap g=(l.take i).flatMap g++(g (l.getD i d)++(l.drop<|i+1).flatMap g):=by
 conv =>lhs; rw [← wP (i+1) l,nw,uM d h]
 rw [dD]
theorem C5 {α:Type} {C q s D R:List α} (a:R=C++(s++D)) (i:q <+:s):C++q <+:R:=by rw [a]; exact C4<|i.trans<|ui _ _
theorem AV (B tb:Nat) (a0:hU) (F:aR) (xs:List bD) (ae:eF F xs) (M S0 mb:Nat) (bJ:List bV) (an:Bool→List bV→(Nat→Prop)→World→Prop) (I:Yc ay M S0 nK bJ (fun W=>fE W B tb a0 F xs) an) (K:rl) (bM:Int) (O:Tx) (ps:List Nat) (pre:List bV) (fp:Nat→Prop) (en:Nat) (word:Tx) (f s:Int) (w:World) (aN:jr w fp S0 mb tb M K F bM O ps) (bZ:an true pre fp w) (c4:bM=(en:Int)) (c8:ps=aU F (flagsOf xs en) 1) (ce:Rn F f) (hs:Rn F s) (dr:word.length≤1000) (tl:List bV) (ch:bJ=pre++(eC F xs en word f s++tl)):
 bm ay 125 (bf [aQ mb,str word,.int .i64 f,.int .i64 s]) w (fun v w'=> ∃ b q fp',v= .bool b∧an b (pre++q) fp' w'∧Gw S0 fp w fp' w'∧q <+:eC F xs en word f s∧(b=true→q=eC F xs en word f s)):=by
 have c5:=I.lt _ _ _ _ bZ
 have dp:=rO F (flagsOf xs (en:Int)) 1
 have dq:=ae.len
 subst c4
 subst c8
 refine enter func125 aa ntmps125 aa<|ag fun co=>aw<|co<|ag fun cy=>p mv<|p mv<|p (nc aa)<|p (fa BL aa)<|p (ld bu aa<|(aX aN.cells).trans aa)<|p mv<|p mv<|p (cQ (ps:= [(0,str word),(1,au en),(2,.int .i64 f),(3,.int .i64 s),(4,.int .i64 (-1))]) (L:= [str word,au en,.int .i64 f,.int .i64 s,.int .i64 (-1)]) Lj aa<|aa)<|e<|fk zk fun a dv dn b8 cK=> ?_
 have ds:=b8.size
 refine e<|gj xB aa aa aa aa cK az fun aY cP cH=> ?_
 have a1:Wk w aY:=b8.md.trans' cP fun q ci h=>by omega
 have c2:aY.heap[a]? =some (.cells (e7 ⟨word,en,f,s,-1⟩).toArray 41 (0,0)):=cH
 have b0:=I.wk bZ<|a1.trans (Md.refl _ _).drew
 have aP:=aN.wk<|a1.trans (Md.refl _ _).drew
 have cg:¬fp a:=fun h=>by have :=c5 a h; omega
 have aW:S0≤a:=by have :=aN.lo; have :=(cU.1 aN.cells).1; omega
 refine nl<|cy<|aB fun cz=> ?_
 refine ed (fun aF aE=> ∃ (aq:Bool) (Y:Nat→Prop),(an (!aq) (pre++kA F xs en word f s) Y aE)∧(jr aE Y S0 mb tb M K F (en:Int) O<|aU F (flagsOf xs en) 1)∧(aE.heap[a]? =some (.cells (e7 ⟨word,en,f,s,-1⟩).toArray 41 (0,0)))∧(¬Y a)∧(Gw S0 fp w Y aE)∧(aF 0=aQ mb)∧(aF 1=str word)∧(aF 9=aQ a)∧(aF 40= .bool aq)) ?_ ?_
 have J:(fun w'=>w'.heap[mb]? =some (.cells (nV tb M K F (en:Int) O<|aU F (flagsOf xs en) 1).toArray 183 (0,0))∧w'.heap[a]? =some (.cells (e7 ⟨word,en,f,s,-1⟩).toArray 41 (0,0))) aY.drew:=⟨aP.cells,c2⟩
 refine Me (fun w'=>w'.heap[mb]? =some (.cells (nV tb M K F (en:Int) O<|aU F (flagsOf xs en) 1).toArray 183 (0,0))∧w'.heap[a]? =some (.cells (e7 ⟨word,en,f,s,-1⟩).toArray 41 (0,0))) aa wide J ?_
 refine yp 0 aa aj (fun _ _=>mv) J ?_
 refine yp 1 aa aj (fun _ _=>nc aa) J ?_
 refine yp 2 aa aj (fun _ _=>fa s7 aa) J ?_
 refine yp 3 aa aj (fun w' A=>ld mX aa<|(aX A.1).trans aa) J ?_
 refine yp 4 aa aj (fun _ _=>mv) J ?_
 refine yp 5 aa aj (fun _ _=>nc aa) J ?_
 refine yp 6 aa aj (fun _ _=>fa uS aa) J ?_
 refine yp 7 aa aj (fun w' A=>ld lX aa<|(aX A.1).trans aa) J ?_
 refine yp 8 aa aj (fun w' A=>da sF aa (aa) fun j bA=>(pA A.2).bG j) J ?_
 refine ye 9 aa aj<|cl Gg (Iw B tb a0 F xs K.ar K.cr K.rn word en f s (-1) aY.drew (I.cap _ _ _ _ b0) ae (a7 aP.ru).2 aP.rn ce hs<|.inl aa) aa fun v31 bE cT=> ?_
 obtain ⟨rfl,aG⟩:=cT
 have b2:=I.wk b0 aG
 have a6:=aP.wk aG
 have bT:Gw S0 fp w fp bE:=Gw.wk<|(a1.trans (Md.refl _ _).drew).trans aG
 have C:(fun w'=>w'.heap[mb]? =some (.cells (nV tb M K F (en:Int) O<|aU F (flagsOf xs en) 1).toArray 183 (0,0))∧w'.heap[a]? =some (.cells (e7 ⟨word,en,f,s,-1⟩).toArray 41 (0,0))) bE:=⟨a6.cells,Wk.aH aG J.2⟩
 refine ⟨C,?_⟩
 refine yp 10 aa aj (fun _ _=>mv) C ?_
 refine Mb (t:=32) aa (fun bx=> ?_) fun bx=> ?_
 have aS:kA F xs en word f s= [⟨word,en,f,s,-1⟩]:=if_pos bx
 refine nr 11 aa aj aa aa aa (fun _ _=>mv) C ?_
 refine nr 12 aa aj aa aa aa (fun _ _=>nc aa) C ?_
 refine nr 13 aa aj aa aa aa (fun _ _=>fa H4 aa) C ?_
 refine nr 14 aa aj aa aa aa (fun w' A=>ld EU aa<|(aX A.1).trans aa) C ?_
 refine nr 15 aa aj aa aa aa (fun w' A=>da sF aa (aa) fun j bA=>(pA A.2).bG j) C ?_
 refine Mf 16 aa aj aa aa aa aa aa (I.yl pre ⟨word,en,f,s,-1⟩ _ fp bE (QC ch aS) b2) fun cF dk cV=> ?_
 obtain ⟨cG,cN,a2⟩:=cV
 have b6:=a6.gw a2
 have bs:=a2.aH C.2 aW cg
 have bg:(fun w'=>w'.heap[mb]? =some (.cells (nV tb M K F (en:Int) O<|aU F (flagsOf xs en) 1).toArray 183 (0,0))∧w'.heap[a]? =some (.cells (e7 ⟨word,en,f,s,-1⟩).toArray 41 (0,0))) dk:=⟨b6.cells,bs.1⟩
 refine ⟨bg,?_⟩
 refine nr 17 aa aj aa aa aa (fun _ _=>no aa) bg ?_
 refine yp 18 aa aj (fun _ _=>bB aa) bg ?_
 refine yn aj ?_
 exact tn<|⟨(!cF),cG,(by rw [Bool.not_not,aS]; exact cN),b6,bs.1,bs.2,(bT.trans a2),aa,aa,aa,aa⟩
 have aS:kA F xs en word f s= []:=if_neg<|by rw [bx]; exact ee
 refine mi 11 aa aj aa aa aa aa C ?_
 refine mi 12 aa aj aa aa aa aa C ?_
 refine mi 13 aa aj aa aa aa aa C ?_
 refine mi 14 aa aj aa aa aa aa C ?_
 refine mi 15 aa aj aa aa aa aa C ?_
 refine mi 16 aa aj aa aa aa aa C ?_
 refine mi 17 aa aj aa aa aa aa C ?_
 refine yp 18 aa aj (fun _ _=>bp aa) C ?_
 refine yn aj ?_
 exact tn<|⟨false,fp,(by rw [aS,eh]; exact b2),a6,C.2,cg,bT,aa,aa,aa,aa⟩
 rintro aF aE ⟨aq,Y,aL,b5,c3,c6,bR,c9,db,dd,dc⟩
 refine fx 0 c9<|fx 1 db<|fx 9 dd<|fx 40 dc<|cb aa (fun bk=> ?_) fun bk=> ?_
 refine ag fun aZ=>aw<|aZ<|rt<|tr<|aV aa ?_
 have bi:aq=true :=bk
 rw [bi] at aL
 exact ⟨false,_,Y,aa,aL,bR,(by unfold eC; exact ui _ _),fun h=>by cases h⟩
 refine aM<|cz<|aB fun aZ=>ag fun cA=>ak (aQ mb)<|p (nc aa)<|p (fa H3 aa)<|p (ld pz aa<|(aX b5.cells).trans aa)<|p (bK np aa aa)<|p mv<|nl<|cA<|aH<|lp (fun bO ac am=> ∃ (i:Nat) (U:Nat→Prop) (aD:Tx) (pp:Int),(i≤(aU F (flagsOf xs en) 1).length)∧(an true (pre++(kA F xs en word f s++((aU F (flagsOf xs en) 1).take i).filterMap (ju F xs en word f s))) U am)∧(jr am U S0 mb tb M K F (en:Int) O<|aU F (flagsOf xs en) 1)∧(am.heap[a]? =some (.cells (e7 ⟨aD,en,f,s,pp⟩).toArray 41 (0,0)))∧(¬U a)∧(Gw S0 fp w U am)∧(ac 0=aQ mb)∧(ac 1=str word)∧(ac 9=aQ a)∧(ac 44= .slice K.ap (aU F (flagsOf xs en) 1).length K.cp)∧(ac 45=au ((aU F (flagsOf xs en) 1).length))∧(ac 46=au i)∧((aU F (flagsOf xs en) 1).length - i=bO)) _ ⟨0,Y,word,-1,ab,((by have bi:aq=false :=bk; rw [bi] at aL; simpa using aL)),b5,c3,c6,bR,aa,aa,aa,aa,aa,aa,aa⟩ ?_
 rintro bO ac am ⟨i,U,aD,pp,hi,a4,bb,bw,ax,bY,de,df,dj,dg,dh,di,rfl⟩
 refine fx 0 de<|fx 1 df<|fx 9 dj<|fx 44 dg<|fx 45 dh<|fx 46 di<|ag fun cB=>p (lt aa aa)<|nl<|cB<|aB fun cD=>cd aa (fun c1=> ?_) fun c1=> ?_
 refine aM<|cD<|aB fun ao=>aH<|ag fun cE=>p (a8 kg aa aa ab<|aJ.ok ((a7 bb.pr).2)<|bS ab)<|p (ld bu aa<|aJ.gK (i:=i) (a7 bb.pr).2<|ni ab)<|aw<|cE<|ag fun cq=>p mv<|p (fa tc aa)<|e<|cw eZ aa aa (v:= .int .i64 (((aU F (flagsOf xs en) 1).getD i 0:Nat):Int)) aa bw (by show 4 < 5; omega) fun al a9 cJ=> ?_
 have ca:al.heap[a]? =some (.cells (e7 ⟨aD,en,f,s,((aU F (flagsOf xs en) 1).getD i 0:Nat)⟩).toArray 41 (0,0)):=cJ
 have c0:TF am [43] (fun q=>q=a):=TF.eq (dt bw) az
 have b3:=I.vu a4 bw aW ax a9
 have av:=bb.vf a9 c0 az
 have cL:=Gw.Jt bY a9 fun k hk=>by subst hk; omega
 have c7:=rM.1<|dU (d:=0) (show i < (aU F (flagsOf xs en) 1).length by omega)
 obtain ⟨r,Z⟩:∃ r,F.rules[(aU F (flagsOf xs en) 1).getD i 0]? =some r:=⟨_,cC c7.1⟩
 have cj:F.rules.getD ((aU F (flagsOf xs en) 1).getD i 0) eY=r:=by rw [cR,Z]; rfl
 have ai:=DE (g:=ju F xs en word f s) 0 (show i < (aU F (flagsOf xs en) 1).length by omega)
 refine nl<|cq<|aB fun cs=>aB fun ct=> ?_
 have G:(fun w'=>Wk al w') al.drew:=(Md.refl _ _).drew
 refine bI (fun w'=>Wk al w') aa wide G<|bF 0 aa (aQ mb) G<|aC 1 aa (fun _ _=>nc aa) G<|aC 2 aa (fun _ _=>fa s7 aa) G<|aC 3 aa (fun w' A=>ld mX aa<|Wk.aO A<|(aX av.cells).trans aa) G<|bF 4 aa (aQ mb) G<|aC 5 aa (fun _ _=>nc aa) G<|aC 6 aa (fun _ _=>fa uS aa) G<|aC 7 aa (fun w' A=>ld lX aa<|Wk.aO A<|(aX av.cells).trans aa) G<|aC 8 aa (fun w' A=>da sF aa (aa) fun j bA=>(Md.B A (pA ca) fun h=>h).bG j) G<|he 9 aa aj<|cl Gg (Iw B tb a0 F xs K.ar K.cr K.rn aD en f s ((aU F (flagsOf xs en) 1).getD i 0:Nat) al.drew (I.cap _ _ _ _<|I.wk b3 G) ae ((a7 av.ru).2.wk G) av.rn ce hs<|.inr ab) aa fun du cn cW=> ?_
 obtain ⟨rfl,bP⟩:=cW
 have aK:=G.trans bP
 have b4:=I.wk b3 aK
 have V:=av.wk aK
 have cc:=Wk.aH aK ca
 have bW:=cL.trans<|Gw.wk aK
 have b9:(fun w'=>Wk al w') cn:=G.trans bP
 refine ⟨b9,?_⟩
 refine aC 10 aa (fun _ _=>no aa) b9<|hn aj<|ct<|cb aa (fun bl=> ?_) fun bl=> ?_
 have bz:fw F xs en f s ((aU F (flagsOf xs en) 1).getD i 0:Nat)=false :=by simpa using bl
 have bI:=GK (word:=word) bz
 rw [bI] at ai
 exact ext<|ba<|be<|ao<|rg aa<|p (ad aa aa<|bX ab)<|p mv<|nl<|tn<|⟨_,ab,i+1,U,aD,_,ab,(by rw [ai]; simpa using b4),V,cc,ax,bW,aa,aa,aa,aa,aa,aa,aa⟩
 have bz:fw F xs en f s ((aU F (flagsOf xs en) 1).getD i 0:Nat)=true :=by simpa using bl
 refine aM<|cs<|ag fun cu=>ak (aQ mb)<|p (nc aa)<|p (fa uS aa)<|p (ld lX aa<|(aX V.cells).trans aa)<|p mv<|p (a8 na aa aa ab<|aJ.ok ((a7 V.ru).2)<|nY (V.iK Z).choose_spec)<|p (da m3 aa (aa)<|fG (f:=fz) (m:=7) (fun _=>rfl) (a7 V.ru).2 (V.iK Z).choose_spec)<|ak (str word)<|e<|cl AO (Ab r (V.iK Z).choose word cn (nX ae Z).1 (nX ae Z).2.1 (nX ae Z).2.2.1 ab) aa fun v72 dl cX=> ?_
 obtain ⟨rfl,aI⟩:=cX
 have cO:=I.wk b4 aI
 have cS:=V.wk aI
 have bv:=Wk.aH aI cc
 have cM:=bW.trans<|Gw.wk aI
 refine p mv<|p (xt aa aa)<|p (xt aa aa)<|p aA<|aw<|cu<|aB fun cv=>rg aa<|p mv<|p (fa x7 aa)<|e<|cw kS aa aa (v:=str<|(dA r word).getD []) aa bv (by show 0 < 5; omega) fun bC a5 cI=> ?_
 have bq:bC.heap[a]? =some (.cells (e7 ⟨((dA r word).getD []),en,f,s,((aU F (flagsOf xs en) 1).getD i 0:Nat)⟩).toArray 41 (0,0)):=cI
 have cZ:TF dl [43] (fun q=>q=a):=TF.eq (dt bv) az
 have b1:=I.wk (I.vu cO bv aW ax a5) (Md.refl _ _).drew
 have bc:=(cS.vf a5 cZ az).wk (Md.refl _ _).drew
 have bQ:=(Gw.Jt cM a5 fun k hk=>by subst hk; omega).trans<|Gw.wk (Md.refl _ _).drew
 refine nl<|cv<|aB fun bH=> ?_
 have E:(fun w'=>w'.heap[mb]? =some (.cells (nV tb M K F (en:Int) O<|aU F (flagsOf xs en) 1).toArray 183 (0,0))∧w'.heap[a]? =some (.cells (e7 ⟨((dA r word).getD []),en,f,s,((aU F (flagsOf xs en) 1).getD i 0:Nat)⟩).toArray 41 (0,0))) bC.drew:=⟨bc.cells,bq⟩
 refine Me (fun w'=>w'.heap[mb]? =some (.cells (nV tb M K F (en:Int) O<|aU F (flagsOf xs en) 1).toArray 183 (0,0))∧w'.heap[a]? =some (.cells (e7 ⟨((dA r word).getD []),en,f,s,((aU F (flagsOf xs en) 1).getD i 0:Nat)⟩).toArray 41 (0,0))) aa wide E ?_
 refine yp 0 aa aj (fun _ _=>mv) E ?_
 refine yp 1 aa aj (fun _ _=>mv) E ?_
 refine Mb (t:=78) aa (fun bh=> ?_) fun bh=> ?_
 obtain ⟨v,ck⟩:∃ v,dA r word=some v:=o8.1 bh
 have bI:=GL (word:=word) bz<|by rw [cj]; exact ck
 rw [bI] at ai
 have cm:(dA r word).getD []=v:=by rw [ck]; rfl
 refine nr 2 aa aj aa aa aa (fun _ _=>aT (aQ mb) aa) E ?_
 refine nr 3 aa aj aa aa aa (fun _ _=>nc aa) E ?_
 refine nr 4 aa aj aa aa aa (fun _ _=>fa H4 aa) E ?_
 refine nr 5 aa aj aa aa aa (fun w' A=>ld EU aa<|(aX A.1).trans aa) E ?_
 refine nr 6 aa aj aa aa aa (fun w' A=>da sF aa (aa) fun j bA=>(pA A.2).bG j) E ?_
 refine Mf 7 aa aj aa aa aa aa aa (I.yl (pre++(kA F xs en word f s++((aU F (flagsOf xs en) 1).take i).filterMap (ju F xs en word f s))) ⟨(dA r word).getD [],en,f,s,((aU F (flagsOf xs en) 1).getD i 0:Nat)⟩ _ U bC.drew (QB ch ab<|by rw [bI,cm]) b1) fun bL dm cY=> ?_
 obtain ⟨bN,ah,a3⟩:=cY
 have b7:=bc.gw a3
 have bt:=a3.aH bq aW ax
 have bU:=bQ.trans a3
 rw [cm] at ah
 have ci:(kA F xs en word f s++((aU F (flagsOf xs en) 1).take i).filterMap (ju F xs en word f s))++ [⟨v,en,f,s,((aU F (flagsOf xs en) 1).getD i 0:Nat)⟩]=kA F xs en word f s++((aU F (flagsOf xs en) 1).take<|i+1).filterMap (ju F xs en word f s):=by rw [ai,dD]; rfl
 rw [dD pre,ci] at ah
 have bd:(fun w'=>w'.heap[mb]? =some (.cells (nV tb M K F (en:Int) O<|aU F (flagsOf xs en) 1).toArray 183 (0,0))∧w'.heap[a]? =some (.cells (e7 ⟨((dA r word).getD []),en,f,s,((aU F (flagsOf xs en) 1).getD i 0:Nat)⟩).toArray 41 (0,0))) dm:=⟨b7.cells,bt.1⟩
 refine ⟨bd,?_⟩
 refine nr 8 aa aj aa aa aa (fun _ _=>no aa) bd ?_
 refine yp 9 aa aj (fun _ _=>bB aa) bd ?_
 refine yn aj ?_
 refine bH<|cb aa (fun bo=> ?_) fun bo=> ?_
 refine ag fun cx=>aw<|cx<|rt<|br<|tr<|tr<|br<|tr<|aV aa ?_
 have bj:bL=false :=by simpa using bo
 rw [bj] at ah
 exact ⟨false,_,bN,aa,ah,bU,(by unfold eC; exact C4<|Tb _ _),fun h=>by cases h⟩
 exact aM<|bn<|ao<|rg aa<|p (ad aa aa<|bX ab)<|p mv<|nl<|tn<|⟨_,ab,i+1,bN,_,_,ab,((by have bj:bL=true :=(by simpa using bo); rw [bj] at ah; exact ah)),b7,bt.1,bt.2,bU,aa,aa,aa,aa,aa,aa,aa⟩
 have bI:=GJ (xs:=xs) (e:=en) (f:=f) (s:=s) (word:=word) (p:=(aU F (flagsOf xs en) 1).getD i 0)<|by rw [cj]; simpa using bh
 rw [bI] at ai
 refine mi 2 aa aj aa aa aa aa E ?_
 refine mi 3 aa aj aa aa aa aa E ?_
 refine mi 4 aa aj aa aa aa aa E ?_
 refine mi 5 aa aj aa aa aa aa E ?_
 refine mi 6 aa aj aa aa aa aa E ?_
 refine mi 7 aa aj aa aa aa aa E ?_
 refine mi 8 aa aj aa aa aa aa E ?_
 refine yp 9 aa aj (fun _ _=>bp aa) E ?_
 refine yn aj ?_
 refine bH<|cf aa<|aM<|bn<|ao<|rg aa<|p (ad aa aa<|bX ab)<|p mv ?_
 exact nl<|tn<|⟨_,ab,i+1,U,_,_,ab,(by rw [ai]; simpa using b1),bc,bq,ax,bQ,aa,aa,aa,aa,aa,aa,aa⟩
 refine ext<|ba<|ba<|be<|aZ<|ag fun ao=>p aA<|nl<|ao<|rt<|aV aa ?_
 rw [eM ab] at a4
 exact ⟨true,_,U,aa,a4,bY,zL _,fun _=>rfl⟩
set_option maxHeartbeats 4000000 in
theorem XF (B tb:Nat) (an:hU) (F:aR) (xs:List bD) (a:eF F xs) (ai S0 mb:Nat) (ao:List bV) (O:Bool→List bV→(Nat→Prop)→World→Prop) (E:Yc ay ai S0 nK ao (fun W=>fE W B tb an F xs) O) (K:rl) (pre:List bV) (fp:Nat→Prop) (en:Nat) (x:bD) (w:World) (az:jr w fp S0 mb tb ai K F (en:Int) x.1 (aU F (flagsOf xs en) 1)) (cY:O true pre fp w) (cy:xs[en]? =some x) (tl:List bV) (cq:ao=pre++(jV F xs en++tl)):
 bm ay 79 (bf [aQ mb]) w (fun v w'=> ∃ b q fp',v= .bool b∧O b (pre++q) fp' w'∧Gw S0 fp w fp' w'∧q <+:jV F xs en∧(b=true→q=jV F xs en)):=by
 obtain ⟨dI,dJ,dK,bb⟩:=sJ cy
 have a3:jV F xs en=eC F xs en x.1 (-1) (-1)++(aU F (flagsOf xs en) 2).flatMap (gd F xs en):=by unfold jV; rw [bb]
 have dS:=(a.uJ x<|iN cy).1
 have dP:=a.len
 have dL:S0≤w.heap.size:=by have :=az.lo; have :=(cU.1 az.cells).1; omega
 have dN:=rO F (flagsOf xs (en:Int)) 2
 refine enter func79 aa ntmps79 aa<|ag fun cA=>aw<|cA<|aB fun cL=>ag fun cO=>ak (aQ mb)<|ak (aQ mb)<|p (nc aa)<|p (fa BM aa)<|p (ld bT aa<|(aX az.cells).trans aa)<|e<|cl Ao (AV B tb an F xs a ai S0 mb ao O E K (en:Int) x.1 _ pre fp en x.1 (-1) (-1) w az cY aa aa (.inl aa) (.inl aa) ab ((aU F (flagsOf xs en) 2).flatMap (gd F xs en)++tl)<|by rw [cq,a3,dD]) aa fun dX aG c4=> ?_
 obtain ⟨bU,dE,bc,rfl,a1,aZ,dk,dl⟩:=c4
 have bl:=az.gw aZ
 refine p (no aa)<|nl<|cO<|cb aa (fun bv=> ?_) fun bv=> ?_
 obtain rfl :bU=false :=by simpa using bv
 exact ag fun a9=>aw<|a9<|rt<|tr<|aV aa<|⟨false,dE,bc,aa,a1,aZ,(by rw [a3]; exact dk.trans<|ui _ _),fun h=>by cases h⟩
 obtain rfl :bU=true :=by simpa using bv
 obtain rfl :=dl rfl
 refine aM<|cL<|aB fun a9=>aB fun cP=> ?_
 have A:(fun w'=>Wk aG w') aG.drew:=(Md.refl _ _).drew
 refine bI (fun w'=>Wk aG w') aa wide A<|bF 0 aa (aQ mb) A<|aC 1 aa (fun _ _=>nc aa) A<|aC 2 aa (fun _ _=>fa s7 aa) A<|aC 3 aa (fun w' M=>ld mX aa<|Wk.aO M<|(aX bl.cells).trans aa) A<|bF 4 aa (aQ mb) A<|aC 5 aa (fun _ _=>nc aa) A<|aC 6 aa (fun _ _=>fa BL aa) A<|aC 7 aa (fun w' M=>ld bu aa<|Wk.aO M<|(aX bl.cells).trans aa) A<|aC 10 aa (fun _ _=>mv) A<|he 8 aa aj<|cl Qg (Yu B tb an F xs (en:Int) aG.drew (E.cap _ _ _ _<|E.wk a1 A) a) aa fun dY dF c5=> ?_
 obtain ⟨bE,b0⟩:=c5
 obtain ⟨ae,ah,rfl⟩:=cB bE
 have bg:=A.trans b0
 have c0:=E.wk a1 bg
 have c3:=bl.wk bg
 have cX:=aZ.trans<|Gw.wk bg
 have dT:=A.size
 have de:∀ q,(bR ae (aU F (flagsOf xs en) 2).length ah).ownBlock=some q→¬bc q:=fun q bL h=>by have h1:=(dM bE bL).1; have h2:=E.lt _ _ _ _ a1 q h; omega
 have di:=ez bE (show S0≤_ by have :=aZ.size; omega)
 have ca:(fun w'=>Wk aG w') dF:=A.trans b0
 refine ⟨ca,?_⟩
 refine aC 9 aa (fun _ _=>bK np aa aa) ca<|hn aj<|cP<|aH<|lp (fun ar aK G=> ∃ (i:Nat) (U:Nat→Prop),(i≤(aU F (flagsOf xs en) 2).length)∧(O true (pre++(eC F xs en x.1 (-1) (-1)++((aU F (flagsOf xs en) 2).take i).flatMap (gd F xs en))) U G)∧(jr G U S0 mb tb ai K F (en:Int) x.1<|aU F (flagsOf xs en) 1)∧(bq G S0 3 1 (.slice ae (aU F (flagsOf xs en) 2).length ah) (aU F (flagsOf xs en) 2).length<|(aU F (flagsOf xs en) 2).map bN)∧(∀ q,(bR ae (aU F (flagsOf xs en) 2).length ah).ownBlock=some q→¬U q)∧(Gw S0 fp w U G)∧(aK 0=aQ mb)∧(aK 26= .slice ae (aU F (flagsOf xs en) 2).length ah)∧(aK 27=au ((aU F (flagsOf xs en) 2).length))∧(aK 28=au i)∧((aU F (flagsOf xs en) 2).length - i=ar)) _ ⟨0,bc,ab,(by simpa using c0),c3,di,de,cX,aa,aa,aa,aa,aa⟩ ?_
 rintro ar aK G ⟨i,U,hi,bj,V,bH,cg,b5,dm,dn,dp,dq,rfl⟩
 refine fx 0 dm<|fx 26 dn<|fx 27 dp<|fx 28 dq<|ag fun cQ=>p (lt aa aa)<|nl<|cQ<|aB fun cS=>cd aa (fun dc=> ?_) fun dc=> ?_
 refine aM<|cS<|aB fun aL=>aH<|ag fun cV=>p (a8 kg aa aa ab<|aJ.ok ((a7 bH).2)<|bS ab)<|p (ld bu aa<|aJ.gK (i:=i) (a7 bH).2<|ni ab)<|aw<|cV<|aB fun cD=> ?_
 have dB:=rM.1<|dU (d:=0) (show i < (aU F (flagsOf xs en) 2).length by omega)
 obtain ⟨r,Z⟩:∃ r,F.rules[((aU F (flagsOf xs en) 2).getD i 0)]? =some r:=⟨_,cC dB.1⟩
 have cv:F.rules.getD ((aU F (flagsOf xs en) 2).getD i 0) eY=r:=by rw [cR,Z]; rfl
 have bM:=uM (g:=gd F xs en) 0 (show i < (aU F (flagsOf xs en) 2).length by omega)
 have C:(fun w'=>Wk G w') G.drew:=(Md.refl _ _).drew
 refine bI (fun w'=>Wk G w') aa wide C<|bF 0 aa (aQ mb) C<|aC 1 aa (fun _ _=>nc aa) C<|aC 2 aa (fun _ _=>fa uS aa) C<|aC 3 aa (fun w' M=>ld lX aa<|Wk.aO M<|(aX V.cells).trans aa) C<|aC 4 aa (fun _ _=>mv) C<|aC 5 aa (fun _ _=>a8 na aa aa ab<|aJ.ok ((a7 V.ru).2)<|nY (V.iK Z).choose_spec) C<|aC 6 aa (fun w' M=>da m3 aa (aa) fun j dg=>fG (f:=fz) (m:=7) (fun _=>rfl) ((a7 V.ru).2.wk M) (V.iK Z).choose_spec j dg) C<|bF 7 aa (aQ mb) C<|aC 8 aa (fun _ _=>nc aa) C<|aC 9 aa (fun _ _=>fa BM aa) C<|aC 10 aa (fun w' M=>ld bT aa<|Wk.aO M<|(aX V.cells).trans aa) C<|he 11 aa aj<|cl AO (Ab r (V.iK Z).choose x.1 G.drew (nX a Z).1 (nX a Z).2.1 (nX a Z).2.2.1 ab) aa fun dZ cz c6=> ?_
 obtain ⟨rfl,b1⟩:=c6
 have aY:=C.trans b1
 have b8:=E.wk bj aY
 have bs:=V.wk aY
 have b4:=b5.trans<|Gw.wk aY
 have ck:=aW bH aY
 have ap:(fun w'=>Wk G w') cz:=C.trans b1
 refine ⟨ap,?_⟩
 refine aC 12 aa (fun _ _=>mv) ap<|aC 13 aa (fun _ _=>xt aa aa) ap<|aC 14 aa (fun _ _=>xt aa aa) ap<|aC 15 aa (fun _ _=>aA) ap<|aC 16 aa (fun _ _=>aA) ap<|hn aj<|cD<|aB fun cE=>ag fun cF=>p mv<|p (no aa)<|nl<|cF<|cb aa (fun bw=> ?_) fun bw=> ?_
 have aD:dA r x.1=none:=by simpa using bw
 have bI:gd F xs en ((aU F (flagsOf xs en) 2).getD i 0)= []:=by unfold gd; rw [cv,bb,aD]
 rw [bI,eh] at bM
 exact ext<|ba<|be<|aL<|rg aa<|p (ad aa aa<|bX ab)<|p mv<|nl<|tn<|⟨_,ab,i+1,U,ab,(by rw [bM]; exact b8),bs,ck,cg,b4,aa,aa,aa,aa,aa⟩
 obtain ⟨wd,aD⟩:∃ v,dA r x.1=some v:=o8.1<|by simpa using bw
 have aq:((dA r x.1).getD [])=wd:=by rw [aD]; rfl
 have bI:gd F xs en ((aU F (flagsOf xs en) 2).getD i 0)=eC F xs en wd (((aU F (flagsOf xs en) 2).getD i 0):Nat) (-1)++(aU F (cT F (((aU F (flagsOf xs en) 2).getD i 0):Nat)) 2).flatMap (jc F xs en wd (((aU F (flagsOf xs en) 2).getD i 0):Nat)):=by unfold gd; rw [cv,bb,aD]
 have dR:=(qg (nX a Z).2.2.2 aD).2
 have bA:jV F xs en=(eC F xs en x.1 (-1) (-1)++((aU F (flagsOf xs en) 2).take i).flatMap (gd F xs en))++(gd F xs en ((aU F (flagsOf xs en) 2).getD i 0)++((aU F (flagsOf xs en) 2).drop<|i+1).flatMap (gd F xs en)):=by rw [a3,HR 0 (show i < (aU F (flagsOf xs en) 2).length by omega),dD]
 have cc:ao=(pre++(eC F xs en x.1 (-1) (-1)++((aU F (flagsOf xs en) 2).take i).flatMap (gd F xs en)))++(gd F xs en ((aU F (flagsOf xs en) 2).getD i 0)++(((aU F (flagsOf xs en) 2).drop<|i+1).flatMap (gd F xs en)++tl)):=by rw [cq,bA]; simp only [dD]
 refine aM<|cE<|aB fun cG=>ag fun cH=>ak (aQ mb)<|p mv<|p mv<|e<|cl Ao (AV B tb an F xs a ai S0 mb ao O E K (en:Int) x.1 _ (pre++(eC F xs en x.1 (-1) (-1)++((aU F (flagsOf xs en) 2).take i).flatMap (gd F xs en))) U en ((dA r x.1).getD []) ((((aU F (flagsOf xs en) 2).getD i 0):Nat):Int) (-1) cz bs b8 aa aa (.inr ab) (.inl aa) (by rw [aq]; omega) ((aU F (cT F (((aU F (flagsOf xs en) 2).getD i 0):Nat)) 2).flatMap (jc F xs en wd (((aU F (flagsOf xs en) 2).getD i 0):Nat))++(((aU F (flagsOf xs en) 2).drop<|i+1).flatMap (gd F xs en)++tl))<|by rw [aq,cc,bI]; simp only [dD]) aa fun d0 dG c7=> ?_
 obtain ⟨bW,dV,bd,rfl,ax,bi,cr,cs⟩:=c7
 rw [aq] at cr cs
 have b9:=bs.gw bi
 have bh:=b4.trans bi
 have cm:=bi.own ck cg
 refine p (no aa)<|nl<|cH<|cb aa (fun bx=> ?_) fun bx=> ?_
 obtain rfl :bW=false :=by simpa using bx
 refine ag fun a6=>aw<|a6<|rt<|tr<|br<|tr<|tr<|br<|tr<|aV aa ?_
 rw [dD] at ax
 exact ⟨false,_,bd,aa,ax,bh,C5 bA (by rw [bI]; exact cr.trans<|ui _ _),fun h=>by cases h⟩
 obtain rfl :bW=true :=by simpa using bx
 obtain rfl :=cs rfl
 refine aM<|cG<|ag fun a6=>ak (aQ mb)<|p (nc aa)<|p (fa s7 aa)<|p (ld mX aa<|(aX b9.cells).trans aa)<|p mv<|e<|cl Qh (XH B tb an F xs (((aU F (flagsOf xs en) 2).getD i 0):Nat) dG (E.cap _ _ _ _ ax) a) aa fun v59 d3 c8=> ?_
 obtain ⟨bG,aS⟩:=c8
 obtain ⟨aN,aP,rfl⟩:=cB bG
 have cZ:=E.wk ax aS
 have c1:=b9.wk aS
 have cW:=bh.trans<|Gw.wk aS
 have dh:=aW cm.1 aS
 have df:∀ q,(bR aN (aU F (cT F (((aU F (flagsOf xs en) 2).getD i 0):Nat)) 2).length aP).ownBlock=some q→¬bd q:=fun q bL h=>by have h1:=(dM bG bL).1; have h2:=E.lt _ _ _ _ ax q h; omega
 have dj:=ez bG (show S0≤_ by have :=bh.size; omega)
 have dO:=rO F (cT F (((aU F (flagsOf xs en) 2).getD i 0):Nat)) 2
 refine p (bK np aa aa)<|p mv<|nl<|a6<|aH<|lp (fun ar I am=> ∃ (k:Nat) (J:Nat→Prop),(k≤(aU F (cT F (((aU F (flagsOf xs en) 2).getD i 0):Nat)) 2).length)∧(O true ((pre++(eC F xs en x.1 (-1) (-1)++((aU F (flagsOf xs en) 2).take i).flatMap (gd F xs en)))++(eC F xs en wd (((aU F (flagsOf xs en) 2).getD i 0):Nat) (-1)++((aU F (cT F (((aU F (flagsOf xs en) 2).getD i 0):Nat)) 2).take k).flatMap (jc F xs en wd (((aU F (flagsOf xs en) 2).getD i 0):Nat)))) J am)∧(jr am J S0 mb tb ai K F (en:Int) x.1<|aU F (flagsOf xs en) 1)∧(bq am S0 3 1 (.slice ae (aU F (flagsOf xs en) 2).length ah) (aU F (flagsOf xs en) 2).length<|(aU F (flagsOf xs en) 2).map bN)∧(∀ q,(bR ae (aU F (flagsOf xs en) 2).length ah).ownBlock=some q→¬J q)∧(bq am S0 3 1 (.slice aN (aU F (cT F (((aU F (flagsOf xs en) 2).getD i 0):Nat)) 2).length aP) (aU F (cT F (((aU F (flagsOf xs en) 2).getD i 0):Nat)) 2).length<|(aU F (cT F (((aU F (flagsOf xs en) 2).getD i 0):Nat)) 2).map bN)∧(∀ q,(bR aN (aU F (cT F (((aU F (flagsOf xs en) 2).getD i 0):Nat)) 2).length aP).ownBlock=some q→¬J q)∧(Gw S0 fp w J am)∧(I 0=aQ mb)∧(I 4= .int .i64 (((aU F (flagsOf xs en) 2).getD i 0):Nat))∧(I 5=str ((dA r x.1).getD []))∧(I 26= .slice ae (aU F (flagsOf xs en) 2).length ah)∧(I 27=au ((aU F (flagsOf xs en) 2).length))∧(I 28=au i)∧(I 59= .slice aN (aU F (cT F (((aU F (flagsOf xs en) 2).getD i 0):Nat)) 2).length aP)∧(I 60= .int .i64 ((aU F (cT F (((aU F (flagsOf xs en) 2).getD i 0):Nat)) 2).length:Nat))∧(I 61=au k)∧((aU F (cT F (((aU F (flagsOf xs en) 2).getD i 0):Nat)) 2).length - k=ar)) _ ⟨0,bd,ab,(by simpa using cZ),c1,dh,cm.2,dj,df,cW,aa,aa,aa,aa,aa,aa,aa,aa,aa,aa⟩ ?_
 rintro ar I am ⟨k,J,hk,bk,Y,cn,bC,bJ,ch,b6,dr,dv,dw,ds,dt,du,dx,dy,dz,rfl⟩
 refine fx 0 dr<|fx 4 dv<|fx 5 dw<|fx 26 ds<|fx 27 dt<|fx 28 du<|fx 59 dx<|fx 60 dy<|fx 61 dz<|ag fun cI=>p (lt aa aa)<|nl<|cI<|aB fun cJ=>cd aa (fun dd=> ?_) fun dd=> ?_
 refine aM<|cJ<|aB fun bP=>aH<|ag fun cK=>p (a8 kg aa aa ab<|aJ.ok ((a7 bJ).2)<|bS ab)<|p (ld bu aa<|aJ.gK (i:=k) (a7 bJ).2<|ni ab)<|aw<|cK<|aB fun cM=> ?_
 have dC:=rM.1<|dU (d:=0) (show k < (aU F (cT F (((aU F (flagsOf xs en) 2).getD i 0):Nat)) 2).length by omega)
 obtain ⟨al,ac⟩:∃ r,F.rules[((aU F (cT F (((aU F (flagsOf xs en) 2).getD i 0):Nat)) 2).getD k 0)]? =some r:=⟨_,cC dC.1⟩
 have cw:F.rules.getD ((aU F (cT F (((aU F (flagsOf xs en) 2).getD i 0):Nat)) 2).getD k 0) eY=al:=by rw [cR,ac]; rfl
 have a4:=uM (g:=jc F xs en wd (((aU F (flagsOf xs en) 2).getD i 0):Nat)) 0 (show k < (aU F (cT F (((aU F (flagsOf xs en) 2).getD i 0):Nat)) 2).length by omega)
 refine rg aa<|ak (aQ mb)<|p (nc aa)<|p (fa uS aa)<|p (ld lX aa<|(aX Y.cells).trans aa)<|p mv<|p (a8 na aa aa ab<|aJ.ok ((a7 Y.ru).2)<|nY (Y.iK ac).choose_spec)<|p (da m3 aa (aa)<|fG (f:=fz) (m:=7) (fun _=>rfl) (a7 Y.ru).2 (Y.iK ac).choose_spec)<|ak (str<|(dA r x.1).getD [])<|e<|cl AO (Ab al (Y.iK ac).choose ((dA r x.1).getD []) am (nX a ac).1 (nX a ac).2.1 (nX a ac).2.2.1<|by rw [aq]; omega) aa fun d1 dH c9=> ?_
 obtain ⟨rfl,av⟩:=c9
 have b7:=E.wk bk av
 have bo:=Y.wk av
 have b2:=b6.trans<|Gw.wk av
 have ci:=aW cn av
 have co:=aW bJ av
 refine p mv<|p (xt aa aa)<|p (xt aa aa)<|p aA<|aw<|cM<|aB fun bQ=>rg aa<|p mv<|p mv<|gb (t:=78) aa (fun bt=> ?_) fun bt=> ?_
 obtain ⟨v2,cx⟩:∃ v,dA al ((dA r x.1).getD [])=some v:=o8.1 bt
 have bO:(dA al<|(dA r x.1).getD []).getD []=v2:=by rw [cx]; rfl
 have a5:dA al wd=some v2:=by rw [← aq]; exact cx
 have aF:jc F xs en wd (((aU F (flagsOf xs en) 2).getD i 0):Nat) ((aU F (cT F (((aU F (flagsOf xs en) 2).getD i 0):Nat)) 2).getD k 0)=eC F xs en v2 (((aU F (flagsOf xs en) 2).getD i 0):Nat) (((aU F (cT F (((aU F (flagsOf xs en) 2).getD i 0):Nat)) 2).getD k 0):Nat):=by unfold jc; rw [cw,a5]
 have dQ:=(qg (nX a ac).2.2.2 a5).2
 have ce:gd F xs en ((aU F (flagsOf xs en) 2).getD i 0)=(eC F xs en wd (((aU F (flagsOf xs en) 2).getD i 0):Nat) (-1)++((aU F (cT F (((aU F (flagsOf xs en) 2).getD i 0):Nat)) 2).take k).flatMap (jc F xs en wd (((aU F (flagsOf xs en) 2).getD i 0):Nat)))++(jc F xs en wd (((aU F (flagsOf xs en) 2).getD i 0):Nat) ((aU F (cT F (((aU F (flagsOf xs en) 2).getD i 0):Nat)) 2).getD k 0)++((aU F (cT F (((aU F (flagsOf xs en) 2).getD i 0):Nat)) 2).drop<|k+1).flatMap (jc F xs en wd (((aU F (flagsOf xs en) 2).getD i 0):Nat))):=by rw [bI,HR (g:=jc F xs en wd (((aU F (flagsOf xs en) 2).getD i 0):Nat)) 0 (show k < (aU F (cT F (((aU F (flagsOf xs en) 2).getD i 0):Nat)) 2).length by omega),dD]
 refine aI aa (aT (aQ mb) aa)<|aI aa mv<|aI aa (aT (.int .i64 (((aU F (flagsOf xs en) 2).getD i 0):Nat)) aa)<|aI aa mv<|eg aa aa aa<|cl Ao (AV B tb an F xs a ai S0 mb ao O E K (en:Int) x.1 _ ((pre++(eC F xs en x.1 (-1) (-1)++((aU F (flagsOf xs en) 2).take i).flatMap (gd F xs en)))++(eC F xs en wd (((aU F (flagsOf xs en) 2).getD i 0):Nat) (-1)++((aU F (cT F (((aU F (flagsOf xs en) 2).getD i 0):Nat)) 2).take k).flatMap (jc F xs en wd (((aU F (flagsOf xs en) 2).getD i 0):Nat)))) J en ((dA al<|(dA r x.1).getD []).getD []) ((((aU F (flagsOf xs en) 2).getD i 0):Nat):Int) ((((aU F (cT F (((aU F (flagsOf xs en) 2).getD i 0):Nat)) 2).getD k 0):Nat):Int) dH bo b7 aa aa (.inr ab) (.inr ab) (by rw [bO]; omega) (((aU F (cT F (((aU F (flagsOf xs en) 2).getD i 0):Nat)) 2).drop<|k+1).flatMap (jc F xs en wd (((aU F (flagsOf xs en) 2).getD i 0):Nat))++(((aU F (flagsOf xs en) 2).drop<|i+1).flatMap (gd F xs en)++tl))<|by rw [bO,cc,ce,aF]; simp only [dD]) aa fun d2 d4 db=> ?_
 obtain ⟨bY,dW,bZ,rfl,a2,a0,ct,cu⟩:=db
 rw [bO] at ct cu
 have c2:=bo.gw a0
 have b3:=b2.trans a0
 have cj:=a0.own ci bC
 have cp:=a0.own co ch
 refine aI aa (no aa)<|p (bB aa)<|nl<|bQ<|cb aa (fun bz=> ?_) fun bz=> ?_
 obtain rfl :bY=false :=by simpa using bz
 refine ag fun cN=>aw<|cN<|rt<|br<|tr<|tr<|br<|br<|tr<|tr<|br<|tr<|aV aa ?_
 rw [dD,dD] at a2
 exact ⟨false,_,bZ,aa,a2,b3,C5 bA (C5 ce<|by rw [aF]; exact ct),fun h=>by cases h⟩
 obtain rfl :bY=true :=by simpa using bz
 obtain rfl :=cu rfl
 rw [aF] at a4
 exact aM<|bn<|bP<|rg aa<|p (ad aa aa<|bX ab)<|p mv<|nl<|tn<|⟨_,ab,k+1,bZ,ab,(by rw [a4,← dD (eC F xs en wd (((aU F (flagsOf xs en) 2).getD i 0):Nat)<|-1)]; rw [dD] at a2; exact a2),c2,cj.1,cj.2,cp.1,cp.2,b3,aa,aa,aa,aa,aa,aa,aa,aa,aa,aa⟩
 have a5:dA al wd=none:=by rw [← aq]; simpa using bt
 have aF:jc F xs en wd (((aU F (flagsOf xs en) 2).getD i 0):Nat) ((aU F (cT F (((aU F (flagsOf xs en) 2).getD i 0):Nat)) 2).getD k 0)= []:=by unfold jc; rw [cw,a5]
 rw [aF,eh] at a4
 refine aE aa<|aE aa<|aE aa<|aE aa<|aE aa<|aE aa<|p (bp aa)<|nl<|bQ<|cf aa<|aM<|bn<|bP<|rg aa<|p (ad aa aa<|bX ab)<|p mv ?_
 exact nl<|tn<|⟨_,ab,k+1,J,ab,(by rw [a4]; exact b7),bo,ci,bC,co,ch,b2,aa,aa,aa,aa,aa,aa,aa,aa,aa,aa⟩
 exact ext<|ba<|ba<|be<|bn<|aL<|rg aa<|p (ad aa aa<|bX ab)<|p mv<|nl<|tn<|⟨_,ab,i+1,J,ab,(by rw [bM,bI]; rw [eM (show (aU F (cT F (((aU F (flagsOf xs en) 2).getD i 0):Nat)) 2).length≤k by omega),dD] at bk; rw [← dD (eC F xs en x.1 (-1)<|-1)]; exact bk),Y,cn,bC,b6,aa,aa,aa,aa,aa⟩
 refine ext<|ba<|ba<|be<|a9<|ag fun aL=>p aA<|nl<|aL<|rt<|aV aa ?_
 rw [eM ab,← a3] at bj
 exact ⟨true,_,U,aa,bj,b5,zL _,fun _=>rfl⟩
end Go.Hb
namespace Go.Hb.ri
noncomputable def jU (F:aR) (xs:List bD) (n:Int):List bV:=if 0≤n∧n < xs.length then jV F xs n.toNat else []
theorem qp {F:aR} {xs:List bD} {k:Nat} (h:k < xs.length):jU F xs k=jV F xs k:=by unfold jU; rw [if_pos ab,mR]
theorem A8 {F:aR} {xs:List bD} {n:Int} (h:¬(0≤n∧n < xs.length)):jU F xs n= []:=if_neg h
noncomputable def eN (F:aR) (xs:List bD) (k:Nat):List bV:=(List.range k).flatMap<|jV F xs
theorem z1 (F:aR) (xs:List bD) (k:Nat):eN F xs (k+1)=eN F xs k++jV F xs k:=by unfold eN; rw [List.range_succ,nw,o0]
theorem E3 {F:aR} {xs:List bD} {k n:Nat} (h:k < n):∃ tl,eN F xs n=eN F xs k++(jV F xs k++tl):=by
 induction n with
 | zero=>omega
 | succ n i=>
   rw [z1]
   rcases EA.1 h with h | rfl
   · obtain ⟨tl,a⟩:=i h; exact ⟨tl++jV F xs n,by rw [a]; simp only [dD]⟩
   · exact ⟨[],by rw [eh]⟩
def jn (W:World) (b:Nat) (a:Option Addr):Prop :=W.heap[b]? =some (.cells [.pointer a].toArray 22 (0,0))
def dE (W:World) (b:Nat) (n:Int):Prop :=W.heap[b]? =some (.cells [.int .i64 n].toArray 3 (0,0))
theorem Fi (B tb:Nat) (i:hU) (F:aR) (xs:List bD) (a S0:Nat) (w:World) (E:fE w B tb i F xs) (A:eF F xs) (U:S0≤w.heap.size):
 bm ay 41 (bf [aQ tb,.func (.yield a) #[] #[]]) w (fun v w'=> ∃ mb K,v=aQ mb∧jr w' (fun _=>False) S0 mb tb a K F 0 [] []∧Wk w w'):=by
 refine enter func41 aa ntmps41 aa<|ag fun G=>aw<|G<|ag fun I=>ak (aQ tb)<|ak (aQ tb)<|p (nc aa)<|p (fa BW aa)<|p (ld gn aa<|(aX E.cells).trans aa)<|e<|cl AA (zU B i.fb i.mc F i.V w E.fl (by have :=A.len; omega) A.nx) aa fun v10 ae O=> ?_
 obtain ⟨⟨⟨v9,v10,v11,v12,sa,rn⟩,rfl,hax⟩,hE10⟩:=O
 obtain ⟨ar,cr,q⟩:=cB hax.dB
 have q:v12=_:=q
 subst q
 have ac:=hE10.size
 have Y:rn.length=F.rules.length:=by have :=hax.nx.1; rwa [List.length_map] at this
 exact p (SU SV aa aa)<|ak (.func (.yield a) #[] #[])<|p (cQ (ps:= [(0,aQ tb),(1,.slice ar F.rules.length cr),(5,.func (.yield a) #[] #[])]) (L:= [aQ tb,.slice ar F.rules.length cr,.int .i64 0,.string ⟨⟨[]⟩⟩,.slice none 0 0,.func (.yield a) #[] #[]]) Yh aa<|aa)<|e<|oB aa fun J ah Z C M=>aw<|I<|rt<|aV aa<|⟨J,⟨ar,cr,rn,none,0⟩,aa,⟨ab,M,id,aW (ez hax.dB U) C.md,fun _ _=>id,Y,dz _ _ _ _,fun _ _=>id⟩,hE10.trans C.md⟩
theorem vo (B tb:Nat) (Z:hU) (F:aR) (xs:List bD) (aq:eF F xs) (E S0 mb:Nat) (ao:List bV) (Y:Bool→List bV→(Nat→Prop)→World→Prop) (A:Yc ay E S0 nK ao (fun W=>fE W B tb Z F xs) Y) (K:rl) (aP:Int) (aN:Tx) (ps:List Nat) (pre:List bV) (fp:Nat→Prop) (n:Int) (w:World) (U:jr w fp S0 mb tb E K F aP aN ps) (ax:Y true pre fp w) (tl:List bV) (bJ:ao=pre++(jU F xs n++tl)):
 bm ay 42 (bf [aQ mb,.int .i64 n]) w (fun v w'=> ∃ b q fp' bc bh bP bM,v= .bool b∧Y b (pre++q) fp' w'∧jr w' fp' S0 mb tb E bc F bh bP bM∧q <+:jU F xs n∧(b=true→q=jU F xs n)):=by
 have bY:=A.lt _ _ _ _ ax
 have bB:=A.cap _ _ _ _ ax
 have bW:S0≤w.heap.size:=by have :=U.lo; have :=(cU.1 U.cells).1; omega
 refine enter func42 aa ntmps42 aa<|ag fun a7=>aw<|a7<|ag fun a8=>p mv<|p (nc aa)<|p (fa s7 aa)<|p (ld mX aa<|(aX U.cells).trans aa)<|p mv<|e<|cl qm (xL B tb Z F xs n w bB aq) aa fun b2 b4 bw=> ?_
 obtain ⟨⟨bQ,rfl,bE⟩,hE13⟩:=bw
 obtain ⟨I,J,rfl⟩:=cB bE
 have b0:=hE13.size
 refine p mv<|p (xt aa aa)<|p (xt aa aa)<|e<|al qU fun C b6 a1 aZ bo=> ?_
 have b1:=aZ.size
 refine e<|cW kB aa aa aa aa (bo) (by simp) fun G bv bj=> ?_
 have av:Wk w G:=(hE13.trans aZ.md).trans' bv fun q ak h=>by omega
 have a1:bO G.heap C [str (kD xs n),.slice I (flagsOf xs n).length J]:=bj
 have aS:=A.wk ax av
 have aT:=U.wk av
 have bZ:=av.size
 refine aw<|a8<|aB fun a9=>ag fun ba=>p mv<|p (no aa)<|nl<|ba<|cb aa (fun V=> ?_) fun V=> ?_
 have bH:¬(0≤n∧n < xs.length):=fun h=>by rw [decide_eq_true h] at V; cases V
 exact ag fun an=>aw<|an<|rt<|tr<|aV aa<|⟨true,[],fp,K,aP,aN,ps,aa,by rw [eh]; exact aS,aT,List.nil_prefix,fun _=>(A8 bH).symm⟩
 have bX:0≤n∧n < xs.length:=Classical.byContradiction fun h=>by rw [decide_eq_false h] at V; cases V
 obtain ⟨k,rfl⟩:∃ k:Nat,n=(k:Int):=⟨n.toNat,ab⟩
 obtain ⟨x,a3⟩:∃ x,xs[k]? =some x:=⟨_,cC ab⟩
 obtain ⟨bg,bS,ap,bU⟩:=sJ a3
 have aA:=A.wk aS (Md.refl (fun _=>False) G).drew
 have aW:=aT.wk (Md.refl (fun _=>False) G).drew
 have aH:C≠mb:=fun h=>by have :=(cU.1 U.cells).1; omega
 refine aM<|a9<|aB fun an=> ?_
 have i:(fun w'=>bO w'.heap C [str (kD xs (k:Int)),.slice I (flagsOf xs (k:Int)).length J]∧Hb.aO w'.heap mb 0=some (aQ tb)) G.drew:=⟨a1,(aX aW.cells).trans rfl⟩
 refine bI (fun w'=>bO w'.heap C [str (kD xs (k:Int)),.slice I (flagsOf xs (k:Int)).length J]∧Hb.aO w'.heap mb 0=some (aQ tb)) aa wide i<|aC 0 aa (fun _ _=>mv) i<|aC 1 aa (fun _ _=>mv) i<|aC 2 aa (fun _ _=>mv) i<|aC 3 aa (fun _ _=>mv) i<|aC 4 aa (fun _ _=>fa BY aa) i<|aC 5 aa (fun w' aG=>ld bT aa<|aG.1.bG 0) i<|aC 6 aa (fun _ _=>mv) i<|aC 7 aa (fun _ _=>nc aa) i<|aC 8 aa (fun _ _=>fa s7 aa) i<|aC 9 aa (fun w' aG=>ld mX aa<|aG.2) i<|aC 10 aa (fun _ _=>mv) i<|he 11 aa aj<|cl Qi (WM B tb Z F xs (k:Int) G.drew (A.cap _ _ _ _ aA) aq) aa fun b3 a4 bx=> ?_
 obtain ⟨aL,ac⟩:=bx
 obtain ⟨M,O,rfl⟩:=cB aL
 have br:=A.wk aA ac
 have a:=aW.wk ac
 have bC:∀ q,(bR M (aU F (flagsOf xs (k:Int)) 1).length O).ownBlock=some q→¬fp q:=fun q ak h=>by have h1:=(dM aL ak).1; have h2:=A.lt _ _ _ _ aA q h; omega
 have bF:=ez aL (show S0≤_ by have :G.heap.size≤G.drew.heap.size:=cA _; omega)
 have ae:(fun w'=>bO w'.heap C [str (kD xs (k:Int)),.slice I (flagsOf xs (k:Int)).length J]∧Hb.aO w'.heap mb 0=some (aQ tb)) a4:=⟨Wk.B ac i.1,Wk.aO ac i.2⟩
 refine ⟨ae,?_⟩
 refine aC 12 aa (fun _ _=>nc aa) ae<|aC 13 aa (fun _ _=>fa BL aa) ae<|he 14 aa aj<|cw eZ aa aa (v:=au k) aa a.cells (by show 2 < 6; omega) fun a5 aD bk=> ?_
 have aI:a5.heap[mb]? =some (.cells (nV tb E K F (k:Int) aN ps).toArray 183 (0,0)):=bk
 have bs:=A.vu br a.cells a.lo a.nf aD
 have ah:(fun w'=>bO w'.heap C [str (kD xs (k:Int)),.slice I (flagsOf xs (k:Int)).length J]∧Hb.aO w'.heap mb 0=some (aQ tb)) a5:=⟨Md.B aD ae.1 aH,(aX aI).trans rfl⟩
 refine ⟨ah,?_⟩
 refine aC 15 aa (fun _ _=>nc aa) ah<|aC 16 aa (fun _ _=>fa BM aa) ah<|he 17 aa aj<|cw kS aa aa (v:=str<|kD xs (k:Int)) aa aI (by show 3 < 6; omega) fun a6 aE bl=> ?_
 have aJ:a6.heap[mb]? =some (.cells (nV tb E K F (k:Int) (kD xs (k:Int)) ps).toArray 183 (0,0)):=bl
 have bt:=A.vu bs aI a.lo a.nf aE
 have ai:(fun w'=>bO w'.heap C [str (kD xs (k:Int)),.slice I (flagsOf xs (k:Int)).length J]∧Hb.aO w'.heap mb 0=some (aQ tb)) a6:=⟨Md.B aE ah.1 aH,(aX aJ).trans rfl⟩
 refine ⟨ai,?_⟩
 refine aC 18 aa (fun _ _=>nc aa) ai<|aC 19 aa (fun _ _=>fa H3 aa) ai<|he 20 aa aj<|cw A7 aa aa (v:= .slice M (aU F (flagsOf xs (k:Int)) 1).length O) aa aJ (by show 4 < 6; omega) fun am aF bn=> ?_
 have aK:am.heap[mb]? =some (.cells (nV tb E ⟨K.ar,K.cr,K.rn,M,O⟩ F (k:Int) (kD xs (k:Int))<|aU F (flagsOf xs (k:Int)) 1).toArray 183 (0,0)):=bn
 rw [bg] at aK
 have bu:=A.vu bt aJ a.lo a.nf aF
 have a2:=(aD.trans' aE fun q ak h=>h).trans' aF fun q ak h=>h
 have a0:TF a4 [185] (fun q=>q=mb):=TF.eq (dt a.cells) az
 have aY:jr am fp S0 mb tb E ⟨K.ar,K.cr,K.rn,M,O⟩ F (k:Int) x.1 (aU F (flagsOf xs (k:Int)) 1):=⟨a.lo,aK,a.nf,cj a.ru a2 a0 az,a.rf,a.rn,cj bF a2 a0 az,bC⟩
 have bA:(fun w'=>bO w'.heap C [str (kD xs (k:Int)),.slice I (flagsOf xs (k:Int)).length J]∧Hb.aO w'.heap mb 0=some (aQ tb)) am:=⟨Md.B aF ai.1 aH,(aX aK).trans rfl⟩
 refine ⟨bA,?_⟩
 refine hn aj<|an<|ag fun bb=>p mv<|e<|cl Qr (XF B tb Z F xs aq E S0 mb ao Y A ⟨K.ar,K.cr,K.rn,M,O⟩ pre fp k x am aY bu a3 tl<|by rw [bJ,qp ap]) aa fun v37 b5 bz=> ?_
 obtain ⟨bd,bN,bi,rfl,bq,bp,bK,bL⟩:=bz
 exact aw<|bb<|rt<|aV aa<|⟨bd,bN,bi,_,_,_,_,aa,bq,aY.gw bp,by rw [qp ap]; exact bK,fun h=>by rw [qp ap]; exact bL h⟩
theorem xH (A:Option Addr) (n:Int) (w:World):
 bm ay 16 (bf [.pointer A,.int .i64 n]) w (fun v w'=> ∃ a be,v= .func (.func 40) #[] #[aQ a,aQ be]∧w.heap.size≤a∧w.heap.size≤be∧jn w' a A∧dE w' be n∧Wk w w'):=by
 refine enter func16 aa ntmps16 aa<|ag fun C=>e<|rv aa aa fun G Y O i J=> ?_
 have V:=i.size
 exact e<|rv aa aa fun I Z U q M=>aw<|C<|ag fun E=>p CF<|p aA<|nl<|E<|rt<|aV aa<|⟨G,I,aa,ab,ab,Wk.aH q.md J,M,i.md.trans q.md⟩
theorem E6 (i:Option Addr) (w:World):
 bm ay 18 (bf [.pointer i]) w (fun v w'=> ∃ a,v= .func (.func 43) #[] #[aQ a]∧w.heap.size≤a∧jn w' a i∧Wk w w'):=by
 exact enter func18 aa ntmps18 aa<|ag fun q=>e<|rv aa aa fun C J I G E=>aw<|q<|ag fun A=>p CF<|aw<|A<|rt<|aV aa<|⟨C,aa,ab,E,G.md⟩
theorem Bg (B tb:Nat) (E:hU) (F:aR) (xs:List bD) (O:eF F xs) (a be q:Nat) (n:Int) (A:Bool→List bV→(Nat→Prop)→World→Prop) (w:World) (M:A true [] (fun _=>False) w) (C:Yc ay q w.heap.size nK (jU F xs n) (fun W=>fE W B tb E F xs∧jn W a (some ⟨tb,0,none⟩)∧dE W be n) A):
 bm ay 40 (bf [.func (.yield q) #[] #[],aQ a,aQ be]) w (fun v w'=> ∃ b pre fp,A b pre fp w'∧pre <+:(jU F xs n)∧(b=true→pre=(jU F xs n))):=by
 obtain ⟨al,U,am⟩:=C.cap _ _ _ _ M
 refine enter func40 aa ntmps40 aa<|ag fun Y=>p (ld mX aa<|(aX U).trans aa)<|p (VV tH aa aa)<|nl<|Y<|ct (aa) ?_
 have i:(fun w'=>jn w' a (some ⟨tb,0,none⟩)∧dE w' be n) w.drew:=⟨U,am⟩
 refine bI (fun w'=>jn w' a (some ⟨tb,0,none⟩)∧dE w' be n) aa wide i<|aC 0 aa (fun w' J=>ld mX aa<|(aX J.1).trans aa) i<|bF 1 aa (.func (.yield q) #[] #[]) i<|aC 3 aa (fun w' J=>ld bu aa<|(aX J.2).trans aa) i<|he 2 aa aj<|cl Gd (Fi B tb E F xs q w.heap.size w.drew (al.wk (Md.refl _ _).drew) O<|cA _) aa fun ax V ah=> ?_
 obtain ⟨mb,K,rfl,ac,G⟩:=ah
 have ai:(fun w'=>jn w' a (some ⟨tb,0,none⟩)∧dE w' be n) V:=⟨Wk.aH G i.1,Wk.aH G i.2⟩
 refine ⟨ai,?_⟩
 refine he 4 aa aj<|cl Ge (vo B tb E F xs O q w.heap.size mb (jU F xs n) A (C.L0 fun W h=>h.1) K 0 [] [] [] (fun _=>False) n V ac (C.wk M<|(Md.refl (fun _=>False) w).drew.trans G) []<|by rw [eh,oq]) aa fun v10 aq ae=> ?_
 obtain ⟨Z,ap,ab,ar,au,az,aw,rfl,I,av,an,ao⟩:=ae
 rw [oq] at I
 have ak:(fun w'=>jn w' a (some ⟨tb,0,none⟩)∧dE w' be n) aq:=(C.cap _ _ _ _ I).2
 refine ⟨ak,?_⟩
 exact hn aj<|f0 aa<|⟨Z,ap,ab,I,an,ao⟩
theorem Oa (B tb:Nat) (a:hU) (F:aR) (xs:List bD) (V:eF F xs) (O A:Nat) (C:Bool→List bV→(Nat→Prop)→World→Prop) (w:World) (aj:C true [] (fun _=>False) w) (q:Yc ay A w.heap.size nK (eN F xs xs.length) (fun W=>fE W B tb a F xs∧jn W O (some ⟨tb,0,none⟩)) C):
 bm ay 43 (bf [.func (.yield A) #[] #[],aQ O]) w (fun v w'=> ∃ b pre fp,C b pre fp w'∧pre <+:(eN F xs xs.length)∧(b=true→pre=(eN F xs xs.length))):=by
 obtain ⟨aY,ao⟩:=q.cap _ _ _ _ aj
 have a6:=V.xl
 refine enter func43 aa ntmps43 aa<|aB fun ax=>ag fun az=>p (ld mX aa<|(aX ao).trans aa)<|p (kT tH aa aa)<|nl<|az<|cf (aa)<|aM<|ax<|ag fun aC=>p (ld mX aa<|(aX ao).trans aa)<|ak (.func (.yield A) #[] #[])<|e<|cl Gd (Fi B tb a F xs A w.heap.size w aY V<|cA _) aa fun v9 bb aW=> ?_
 obtain ⟨mb,K,rfl,aP,aL⟩:=aW
 refine aw<|aC<|ag fun aD=>aw<|aD<|aH<|lp (fun ai J I=> ∃ (i:Nat) (E:Nat→Prop) (M:rl) (U:Int) (Z:Tx) (ps:List Nat),(i≤xs.length)∧(C true (eN F xs i) E I)∧(jr I E w.heap.size mb tb A M F U Z ps)∧(J 1=aQ O)∧(J 3=aQ mb)∧(J 4=au i)∧(xs.length - i=ai)) _ ⟨0,_,K,0,[],[],ab,(q.wk aj aL),aP,aa,aa,aa,aa⟩ ?_
 rintro ai J I ⟨i,E,M,U,Z,ps,hi,G,aS,a0,a1,a2,rfl⟩
 refine fx 1 a0<|fx 3 a1<|fx 4 a2<|aB fun aF=>ag fun ac=>ak (au i)<|p (ld mX aa<|(aX (q.cap _ _ _ _ G).2).trans aa)<|p (nc aa)<|p (fa H9 aa)<|p (ld E0 aa<|(aX (q.cap _ _ _ _ G).1.cells).trans aa)<|e<|cl P8 (Sl B a.wb a.mb a.va a.vs xs I (q.cap _ _ _ _ G).1.wd ab) aa fun a8 a4 aU=> ?_
 obtain ⟨rfl,al⟩:=aU
 have an:=q.wk G al
 have aO:=aS.wk al
 refine p (lt aa aa)<|p mv<|gs (t:=17) aa (fun aZ=> ?_) fun aZ=> ?_
 obtain ⟨tl,av⟩:=E3 (F:=F) (xs:=xs) (show i < xs.length by omega)
 have ap:jU F xs (i:Int)=jV F xs i:=qp ab
 refine aI aa (aT (aQ mb) aa)<|aI aa (aT (au i) aa)<|eg aa aa aa<|cl Ge (vo B tb a F xs V A w.heap.size mb (eN F xs xs.length) C (q.L0 fun W h=>h.1) M U Z ps (eN F xs i) E (i:Int) a4 aO an tl<|by rw [ap]; exact av) aa fun v20 a9 aV=> ?_
 obtain ⟨ae,a7,ah,aJ,aK,a5,a3,rfl,am,aN,aq,ar⟩:=aV
 rw [ap] at aq ar
 refine p (bB aa)<|nl<|ac<|cb aa (fun Y=> ?_) fun Y=> ?_
 obtain rfl :ae=true :=by simpa using Y
 obtain rfl :=ar rfl
 exact aM<|aF<|aB fun aG=>aH<|aM<|bn<|aG<|rg aa<|ak (au i)<|p (bE ((i+1:Nat):Int) aa aa<|bj ab ab)<|p aA<|nl<|tn<|⟨_,ab,i+1,ah,aJ,aK,a5,a3,ab,(by rw [z1]; exact am),aN,aa,aa,aa,aa⟩
 obtain rfl :ae=false :=by simpa using Y
 exact ext<|ba<|ba<|be<|f0 aa<|⟨false,_,ah,am,(by rw [av]; exact C4<|aq.trans<|ui _ _),fun h=>by cases h⟩
 refine aE aa<|aE aa<|aE aa<|p (bp aa)<|nl<|ac<|cf aa<|ext<|ba<|ba<|be<|f0 aa ?_
 obtain rfl :i=xs.length:=ab
 exact ⟨true,_,E,an,zL _,fun _=>rfl⟩
theorem N9 (i E:Nat) (a:Bool→List bV→(Nat→Prop)→World→Prop) (w:World) (A:a true [] (fun _=>False) w) (C:jn w i none):
 bm ay 43 (bf [.func (.yield E) #[] #[],aQ i]) w (fun v w'=> ∃ b pre fp,a b pre fp w'∧pre <+:([]:List bV)∧(b=true→pre=([]:List bV))):=by
 exact enter func43 aa ntmps43 aa<|aB fun G=>ag fun q=>p (ld mX aa<|(aX C).trans aa)<|p (kT tH aa aa)<|nl<|q<|ct (aa)<|rt<|tr<|qt aa<|⟨true,[],_,A,zL _,fun _=>rfl⟩
theorem xG (B tb:Nat) (i:hU) (F:aR) (xs:List bD) (C:eF F xs) (a be:Nat) (n:Int):wV ay 40 #[.pointer (some ⟨a,0,none⟩),.pointer (some ⟨be,0,none⟩)] nK (jU F xs n) (fun W=>fE W B tb i F xs∧jn W a (some ⟨tb,0,none⟩)∧dE W be n):=
 fun l q W A E=>lF (Bg B tb i F xs C a be l n q W A E) fun e w' ⟨v,he,G⟩=>⟨⟨v,he⟩,G⟩
theorem Oc (B tb:Nat) (i:hU) (F:aR) (xs:List bD) (C:eF F xs) (a:Nat):wV ay 43 #[.pointer (some ⟨a,0,none⟩)] nK (eN F xs xs.length) (fun W=>fE W B tb i F xs∧jn W a (some ⟨tb,0,none⟩)):=
 fun l q W A E=>lF (Oa B tb i F xs C a l q W A E) fun e w' ⟨v,he,G⟩=>⟨⟨v,he⟩,G⟩
theorem Ob (a:Nat):wV ay 43 #[.pointer (some ⟨a,0,none⟩)] nK [] (fun W=>jn W a none):=
 fun l q W i A=>lF (N9 a l q W i<|A.cap _ _ _ _ i) fun e w' ⟨v,he,C⟩=>⟨⟨v,he⟩,C⟩
end Go.Hb.ri
section
namespace Go.Hb
open Go.Hb.ri
def qP (L:List bV) (most:Int):List bV:=if most < 1 then [] else L.take most.toNat
theorem Yy {L:List bV} {most:Int} (h:(L.length:Int) < most):qP L most=L:=by unfold qP; rw [if_neg ab,eM ab]
theorem YA {L q:List bV} {most:Int} (h:q <+:L) (hm:(q.length:Int)=most) (h1:¬most < 1):qP L most=q:=by
 have e:=List.prefix_iff_eq_take.1 h
 unfold qP; rw [if_neg h1,show most.toNat=q.length by omega]; exact e.symm
theorem Yz {L:List bV} {most:Int} (h:most < 1):qP L most= []:=if_pos h
theorem Vp (B tb:Nat) (ar:hU) (F:aR) (xs:List bD) (n most:Int) (w:World) (aO:fE w B tb ar F xs) (a3:eF F xs) (bO:most≤1048576):
 bm ay 13 (bf [.pointer (some ⟨tb,0,none⟩),.int .i64 n,.int .i64 most]) w (fun v w'=>bq w' w.heap.size 41 5 v (qP (jU F xs n) most).length (l3<|qP (jU F xs n) most)∧Wk w w'):=by
 refine uI [] func13 aa ntmps13 aa ?_
 refine et<|eW<|rg aa<|e<|rv aa aa fun V bZ bA aN a5=> ?_
 have bU:=aN.size
 refine p aA<|nl<|eo<|et<|eW<|rg aa<|e<|fk Zy fun ah bt bB ax a7=> ?_
 have bV:=ax.size
 have aL:=aN.md.trans ax.md
 have aI:=Wk.aH ax.md a5
 refine nl<|eo<|et<|et<|eW<|rg aa<|p (ld bu aa<|(aX aI).trans aa)<|p (lt aa aa)<|nl<|eo<|eW<|cd aa (fun bF=> ?_) fun bF=> ?_
 refine sq fun a1 aw=>rg aa<|p aA<|nl<|tn<|aw _ _<|rt<|prt<|SQ aa aa ?_
 exact ⟨by rw [Yz bF]; exact dz _ _ _ _,aL⟩
 refine aM<|eo<|et<|et<|eW<|rg aa<|p mv<|p mv<|e<|cl O7 (xH (some ⟨tb,0,none⟩) n bt) aa fun bX aD bg=> ?_
 obtain ⟨Y,be,rfl,bI,bE,aS,aP,aj⟩:=bg
 have ai:=aL.trans aj
 have bR:=aj.size
 have bk:=Wk.aH aj a7
 have bi:dE aD V most:=Wk.aH aj aI
 have aq:ah < aD.heap.size:=ab
 have aV:V < aD.heap.size:=ab
 have aY:=(cU.1 aS).1
 have hle:=(cU.1 aP).1
 have a0:=ai.size
 refine nl<|eo ?_
 apply Df (nK) (jU F xs n) (fun W=>fE W B tb ar F xs∧jn W Y (some ⟨tb,0,none⟩)∧dE W be n) (fun pre fp i=> ∃ v,i.heap[ah]? =some (.cells [v].toArray 27 (0,0))∧bq i w.heap.size 41 5 v pre.length (l3 pre)∧(∀ k,v.ownBlock=some k↔fp k)∧jn i Y (some ⟨tb,0,none⟩)∧dE i be n∧dE i V most∧Wk w i∧(pre.length:Int) < most) (fun r pre fp i=>r=false∧∃ v,i.heap[ah]? =some (.cells [v].toArray 27 (0,0))∧bq i w.heap.size 41 5 v pre.length (l3 pre)∧(∀ k,v.ownBlock=some k↔fp k)∧jn i Y (some ⟨tb,0,none⟩)∧dE i be n∧dE i V most∧Wk w i∧(pre.length:Int)=most) rfl P7 (fun _=>rfl) (xG B tb ar F xs a3 Y be n) (⟨.slice none 0 0,bk,dz _ _ _ _,fun k=>by simp [Value.ownBlock],aS,aP,bi,ai,by simp only [List.length_nil]; omega⟩) (fun pre fp W ⟨v,h1,h2,h3,h4,h5,Z,I,ac⟩=>⟨⟨aO.wk I,h4,h5⟩,fun k hk=>(dM h2<|(h3 k).2 hk).2⟩) (fun r pre fp W ⟨aF,v,h1,h2,h3,h4,h5,Z,I,ac⟩=>⟨⟨aO.wk I,h4,h5⟩,fun k hk=>(dM h2<|(h3 k).2 hk).2⟩) (fun pre fp W a2 F ⟨v,h1,h2,h3,h4,h5,Z,I,ac⟩ hm C=>⟨v,gS h1 hm aq C,Lq h2 hm (fun k hk=>(h3 k).1 hk) C,h3,gS h4 hm aY C,gS h5 hm hle C,gS Z hm aV C,Lr I hm a0 C,ac⟩) (fun r pre fp W a2 F ⟨aF,v,h1,h2,h3,h4,h5,Z,I,ac⟩ hm C=>⟨aF,v,gS h1 hm aq C,Lq h2 hm (fun k hk=>(h3 k).1 hk) C,h3,gS h4 hm aY C,gS h5 hm hle C,gS Z hm aV C,Lr I hm a0 C,ac⟩) (fun x b i=>i.heap[b]? =some (.cells (e7 x).toArray 41 (0,0))) (Ad (f:=e7))
 intro l x i K J
 exact rg aa<|e<|fk zk fun aE b1 bC bd a8=>e<|gj xB aa aa aa aa a8 az fun b0 bc a6=>nl<|tn<|J aE _ (bd.md.trans' bc fun q bP h=>by omega) a6
 intro l pre x rest fp aE i bQ av aG
 obtain ⟨v,M,A,U,ao,an,al,O,hlen⟩:=av
 have bW:=O.size
 have bH:=(cU.1 aG).1
 refine aH<|sq fun a1 aw=>rg aa<|p (ld xe aa<|(aX M).trans aa)<|p (da sF aa (aa) fun j bM=>(pA aG).bG j)<|e<|kQ KY aa aa aa fun bx bY bz a a4=> ?_
 have bS:=a.size
 refine e<|ap KY (aW A a.md) aa ab aa (aJ.dX a4) (aa) (aa) ab ab fun ae bs aC E bT aU=> ?_
 have ba:=Wk.own (O.trans a.md) (aW A a.md) E<|cA _
 have am:=E.aH (a.md.aH M) fun h=>dC (aW A a.md) (a.md.aH M) az h
 obtain ⟨bw,Au,br⟩:=cB aC
 have bo:=E.aH (a.md.aH ao) fun h=>dC (aW A a.md) (a.md.aH ao) az h
 have bl:=E.aH (a.md.aH an) fun h=>dC (aW A a.md) (a.md.aH an) az h
 have bj:=E.aH (a.md.aH al) fun h=>dC (aW A a.md) (a.md.aH al) az h
 refine e<|cw RR aa aa (eU aC) am (by simp) fun ag G au=> ?_
 have aK:Wk w ag:=Md.trans' ba G fun k hk h=>by omega
 have ak:TF bs [29] (fun q=>q=ah):=TF.eq (dt am) az
 have aZ:bq ag w.heap.size 41 5 ae (pre++ [x]).length (l3<|pre++ [x]):=cj (by rw [show l3 (pre++ [x])=l3 pre++e7 x from by unfold l3; rw [nw,o0],bL]; exact aC) G ak az
 have aT:jn ag Y (some ⟨tb,0,none⟩):=G.gL ak bo az
 have aQ:dE ag be n:=G.gL ak bl az
 have aB:dE ag V most:=G.gL ak bj az
 have bN:(pre++ [x]).length=pre.length+1:=by simp
 refine nl<|tn<|aw _ _<|sq fun bv bb=>rg aa<|p (ld xe aa<|(aX au).trans<|by rw [br]; rfl)<|p (bK LK aa aa)<|p (ld bu aa<|(aX aB).trans aa)<|p (bJ aa aa)<|nl<|tn<|bb _ _<|cd aa (fun heq=> ?_) fun heq=> ?_
 exact ext<|nE az<|⟨aa,(fO.wk a.md).trans ((fO.md E<|pQ<|aW A a.md).trans<|fO.md G fun k hk=>⟨_,_,_,hk ▸ am⟩),fun k=>ae.ownBlock=some k,(Gw.wk a.md).trans ((Gw.md E (fun k hk=> .inl<|(U k).1 hk) fun k hk=>(aU k hk).imp (fun h=>(U k).1 h) id).trans<|Gw.md G (fun k hk=> .inr<|by subst hk; exact aq) fun _ h=> .inl h),aa,⟨ae,au,aZ,fun _=>Iff.rfl,aT,aQ,aB,aK,ab⟩⟩
 exact aM<|bn<|⟨(fO.wk a.md).trans ((fO.md E<|pQ<|aW A a.md).trans<|fO.md G fun k hk=>⟨_,_,_,hk ▸ am⟩),fun k=>ae.ownBlock=some k,(Gw.wk a.md).trans ((Gw.md E (fun k hk=> .inl<|(U k).1 hk) fun k hk=>(aU k hk).imp (fun h=>(U k).1 h) id).trans<|Gw.md G (fun k hk=> .inr<|by subst hk; exact aq) fun _ h=> .inl h),⟨ae,au,aZ,fun _=>Iff.rfl,aT,aQ,aB,aK,ab⟩⟩
 intro D i a9 av J
 obtain ⟨fp,v,M,A,U,ao,an,al,O,hlen⟩:=av
 refine eo<|et<|eW<|rg aa<|p (ld xe aa<|(aX M).trans aa)<|p aA<|nl<|eo<|rT<|Hp aa aa J ?_
 exact ⟨dq (by rw [Yy hlen]; exact A) (lz _ _ _) (fun k hk h=>by obtain ⟨c,e,z,h1⟩:=pQ A k hk; rw [h,J] at h1; cases h1),Md.trans' O (lz _ _ _) fun k hk h=>by have :=ai.size; omega⟩
 intro D i pre a9 bp bh J
 obtain ⟨fp,_,v,M,A,U,ao,an,al,O,hlen⟩:=bh
 refine eo<|et<|eW<|rg aa<|p (ld xe aa<|(aX M).trans aa)<|p aA<|nl<|eo<|rT<|Hp aa aa J ?_
 exact ⟨dq (by rw [YA bp hlen bF]; exact A) (lz _ _ _) (fun k hk h=>by obtain ⟨c,e,z,h1⟩:=pQ A k hk; rw [h,J] at h1; cases h1),Md.trans' O (lz _ _ _) fun k hk h=>by have :=ai.size; omega⟩
 exact fun _ _ _ _ _ h _=>by obtain ⟨_,h,_⟩:=h; cases h
end Go.Hb
end
section
namespace Go.Hb.rj
def vJ (cx:Bool) (most limit:Int) (acc:List bV) (v:Value):List Value:= [.bool cx,.bool false,str [],.int .i64 most,.int .i64 limit,.int .i64 (acc.length:Nat),.int .i64 (dJ acc:Nat),v]
def Bd (acc:List bV):Prop :=acc.length≤dJ acc∧dJ acc≤acc.length*1000∧acc.length≤2000000
theorem Bd.nil:Bd []:=⟨jP _,jP _,jP _⟩
def Sd (d:bV):Prop :=1≤d.jx.length∧d.jx.length≤1000
theorem Jy {most limit:Int} {acc:List bV} {d:bV} (h:kE most limit acc=true):qI most limit acc d=acc:=if_pos h
theorem Jz {most limit:Int} {acc:List bV} {d:bV} (h:kE most limit acc=false):qI most limit acc d=acc++ [d]:=if_neg<|by rw [h]; exact ee
theorem Tz {most limit:Int} {acc:List bV} (h:kE most limit acc=false):(acc.length:Int) < most∧(dJ acc:Int)≤limit:=by
 unfold kE at h; have :=of_decide_eq_false h; omega
theorem xm (acc:List bV) (d:bV):dJ (acc++ [d])=dJ acc+d.jx.length:=by rw [Ai,OI]
theorem Bd.met {most limit:Int} {acc:List bV} {d:bV} (h:Bd acc) (hm:most≤2000∨limit≤1048576) (hd:Sd d):Bd (qI most limit acc d):=by
 by_cases a:kE most limit acc=true
 · rw [Jy a]; exact h
 · rw [Jz (by simpa using a)]
   have :=Tz<|by simpa using a
   unfold Bd Sd at*
   rw [xm,bL,fA]
   omega
structure hZ (w:World) (fp:Nat→Prop) (S0 xb:Nat) (cx:Bool) (most limit:Int) (acc:List bV):Prop where
 lo:S0≤xb
 ex:∃ v,w.heap[xb]? =some (.cells (vJ cx most limit acc v).toArray 111 (0,0))∧(if cx=true then bq w S0 43 5 v acc.length (l3 acc) else v= .slice none 0 0)∧∀ k,fp k↔(k=xb∨v.ownBlock=some k)
 bd:Bd acc
structure Tw (fp:Nat→Prop) (w:World) (fp':Nat→Prop) (w':World):Prop where
 md:Md fp w w'
 sub:∀ k,fp' k→fp k∨w.heap.size≤k
section
variable {w w' w'':World} {fp fp' fp'':Nat→Prop} {S0 xb:Nat} {cx:Bool} {most limit:Int} {acc:List bV}
theorem Tw.refl (fp:Nat→Prop) (w:World):Tw fp w fp w:=⟨Md.refl _ _,fun _ h=> .inl h⟩
theorem Tw.trans (h:Tw fp w fp' w') (a:Tw fp' w' fp'' w''):Tw fp w fp'' w'':=
 ⟨h.md.trans' a.md fun k hk i=>(h.sub k i).elim id (fun h2=>by omega),fun k hk=>(a.sub k hk).elim (h.sub k) fun h2=> .inr<|Nat.le_trans h.md.size h2⟩
theorem Tw.wk (h:Wk w w'):Tw fp w fp w':=⟨h.mono fun _ _ h=>h.elim,fun _ h=> .inl h⟩
theorem hZ.wk (h:hZ w fp S0 xb cx most limit acc) (hm:Wk w w'):hZ w' fp S0 xb cx most limit acc:=by
 obtain ⟨v,h1,h2,h3⟩:=h.ex
 refine ⟨h.lo,⟨v,Wk.aH hm h1,?_,h3⟩,h.bd⟩
 cases cx with
 | true =>rw [if_pos rfl] at h2 ⊢; exact aW h2 hm
 | false =>exact h2
theorem hZ.tf (h:hZ w fp S0 xb cx most limit acc):TF w [113,45] fp:=by
 obtain ⟨v,h1,h2,h3⟩:=h.ex
 intro k hk
 rcases (h3 k).1 hk with rfl | hk
 · rw [dt h1]; decide
 · cases cx with
   | true =>rw [if_pos rfl] at h2; rw [DD h2 hk]; decide
   | false =>rw [if_neg az] at h2; rw [h2] at hk; cases hk
theorem hZ.lt (h:hZ w fp S0 xb cx most limit acc):∀ k,fp k→k < w.heap.size:=by
 obtain ⟨v,h1,h2,h3⟩:=h.ex
 intro k hk
 rcases (h3 k).1 hk with rfl | hk
 · exact (cU.1 h1).1
 · cases cx with
   | true =>rw [if_pos rfl] at h2; exact (dM h2 hk).2
   | false =>rw [if_neg az] at h2; rw [h2] at hk; cases hk
theorem hZ.Jv (h:hZ w fp S0 xb cx most limit acc) {b:Nat} (hm:Md (fun q=>q=b) w w') (a:¬fp b):hZ w' fp S0 xb cx most limit acc:=by
 obtain ⟨v,h1,h2,h3⟩:=h.ex
 refine ⟨h.lo,⟨v,hm.aH h1 (fun h4=>a<|(h3 b).2<|.inl h4.symm),?_,h3⟩,h.bd⟩
 cases cx with
 | true =>rw [if_pos rfl] at h2 ⊢; exact dq h2 hm fun k hk h4=>a<|by subst h4; exact (h3 _).2<|.inr hk
 | false =>exact h2
theorem hZ.aO (h:hZ w fp S0 xb cx most limit acc):Hb.aO w.heap xb 0=some (.bool cx)∧Hb.aO w.heap xb 1=some (.bool false)∧Hb.aO w.heap xb 3=some (.int .i64 most)∧Hb.aO w.heap xb 4=some (.int .i64 limit)∧Hb.aO w.heap xb 5=some (.int .i64 (acc.length:Nat))∧Hb.aO w.heap xb 6=some (.int .i64 (dJ acc:Nat)):=by
 obtain ⟨v,h1,_⟩:=h.ex
 exact ⟨(aX h1).trans aa,(aX h1).trans aa,(aX h1).trans aa,(aX h1).trans aa,(aX h1).trans aa,(aX h1).trans aa⟩
theorem rH {B tb fb:Nat} {V:ej} {ve:Value} {F:aR} {xs:List bD} (a:fY w B tb fb V ve F xs) (h:hZ w fp S0 xb cx most limit acc) (hm:Md fp w w'):fY w' B tb fb V ve F xs:=
 ⟨hm.gL h.tf a.cells az,a.fl.md hm h.tf az,a.en.md hm h.tf az⟩
theorem T2 {B tb fb:Nat} {V:ej} {ve:Value} {F:aR} {xs:List bD} (a:fY w B tb fb V ve F xs) {b:Nat} {cs:Array Value} {z:Nat×Nat} (i:w.heap[b]? =some (.cells cs 43 z)) (hm:Md (fun q=>q=b) w w'):fY w' B tb fb V ve F xs:=
 ⟨hm.gL (TF.eq (L:= [45]) (dt i) az) a.cells az,a.fl.md hm (TF.eq (L:= [45]) (dt i) az) az,a.en.md hm (TF.eq (L:= [45]) (dt i) az) az⟩
end
theorem C8 (B tb fb:Nat) (V:ej) (ve:Value) (F:aR) (xs:List bD) (n:Int) (w:World) (C:fY w B tb fb V ve F xs) (O:eF F xs) (hn:Rn F n):
 bm ay 184 (bf [aQ tb,.int .i64 n]) w (fun v w'=>v= .bool (lM F n)∧Wk w w'):=by
 refine enter func184 aa ntmps184 aa<|ag fun G=>aw<|G<|ag fun q=>p mv<|p (bJ aa aa)<|p mv<|gs (t:=7) aa (fun bF=> ?_) fun bF=> ?_
 exact aE aa<|aE aa<|aE aa<|aE aa<|aE aa<|aE aa<|aE aa<|aE aa<|aE aa<|aE aa<|aE aa<|p (bB aa)<|aw<|q<|rt<|aV aa<|⟨by rw [bF,GI]; rfl,Md.refl _ _⟩
 obtain ⟨k,rfl⟩:∃ k:Nat,n=(k:Int):=⟨n.toNat,by unfold Rn at hn; omega⟩
 obtain ⟨r,i⟩:∃ r,F.rules[k]? =some r:=⟨_,cC<|by unfold Rn at hn; omega⟩
 obtain ⟨J,M,a,c,I,A,E,U⟩:=C.iK i
 have Y:=(fS.1 i).1
 exact aI aa mv<|aI aa (nc aa)<|aI aa (fa nb aa)<|aI aa (ld ig aa<|(aX C.cells).trans aa)<|aI aa (nc aa)<|aI aa (fa jK aa)<|aI aa (ld kb aa<|I)<|aI aa mv<|aI aa (a8 nM aa aa ab<|aJ.ok (A)<|nR E)<|aI aa (fa Ti aa)<|aI aa (ld kt aa<|fG (f:=jv) (m:=8) (fun _=>rfl) A E 2 az)<|p (bp aa)<|aw<|q<|rt<|aV aa<|⟨by rw [sR i]; rfl,Md.refl _ _⟩
theorem Kz (B tb fb:Nat) (V:ej) (ve:Value) (F:aR) (xs:List bD) (word:Tx) (en:Nat) (f s pp:Int) (w:World) (J:fY w B tb fb V ve F xs) (I:eF F xs) (a0:Rn F f) (hs:Rn F s) (hp:Rn F pp):
 bm ay 121 (bf [aQ tb,.agg (e7 ⟨word,en,f,s,pp⟩).toArray]) w (fun v w'=>v= .bool (fw F xs en f s pp)∧Wk w w'):=by
 refine enter func121 aa ntmps121 aa<|ag fun aD=>e<|jt aa fun aj aq q am aO=> ?_
 have a7:=am.size
 have aS:=J.wk am.md
 have q:bO aq.heap aj [str word,au en,.int .i64 f,.int .i64 s,.int .i64 pp]:=aO
 have Y:Wk w aq:=am.md
 refine aw<|aD<|aB fun aH=>ag fun aJ=>p (fa BT aa)<|p (ld bu aa<|q.bG 2)<|p (bJ aa aa)<|nl<|aJ<|cd aa (fun C=> ?_) fun C=> ?_
 refine ag fun ah=>p mv<|p (fa Tq aa)<|p (ld bu aa<|q.bG 1)<|e<|cl Qk (Xj B tb fb V ve F xs (en:Nat) 0 aq aS I) aa fun a8 bc aT=> ?_
 obtain ⟨rfl,al⟩:=aT
 have q:=Wk.B al q
 refine aw<|ah<|ag fun E=>p (fa td aa)<|p (ld bu aa<|q.bG 4)<|p (db aa aa)<|p mv<|gs (t:=21) aa (fun aC=> ?_) fun aC=> ?_
 refine aE aa<|aE aa<|p (bB aa)<|aw<|E<|rt<|tr<|aV aa ?_
 have i:fw F xs en f s pp=true :=Iv C aC
 exact ⟨Eq.trans (b:=bQ true) aa (congrArg bQ i.symm),Y.trans al⟩
 refine aI aa mv<|aI aa (no aa)<|p (bp aa)<|aw<|E<|rt<|tr<|aV aa ?_
 have i:fw F xs en f s pp= !l8 F xs en 0:=by rw [Iu C (jk.1 aC),Jr]
 exact ⟨Eq.trans (b:=bQ<|!l8 F xs en 0) aa (congrArg bQ i.symm),Y.trans al⟩
 refine aM<|aH<|ag fun ah=>p (fa BT aa)<|p (ld bu aa<|q.bG 2)<|p aA<|nl<|ah ?_
 refine ed (fun ab Z=> ∃ (U:Int),(U=if s= -1 then f else s)∧(Wk w Z)∧(bO Z.heap aj [str word,au en,.int .i64 f,.int .i64 s,.int .i64 pp])∧(ab 0=aQ tb)∧(ab 3=aQ aj)∧(ab 6= .int .i64 U)) ?_ ?_
 refine ag fun E=>p (fa BU aa)<|p (ld bu aa<|q.bG 3)<|p (db aa aa)<|nl<|E<|cd aa (fun an=> ?_) fun an=> ?_
 exact rg aa<|p (fa BU aa)<|p (ld bu aa<|q.bG 3)<|p aA<|nl<|tn<|⟨s,(by rw [if_neg an]),Y,q,aa,aa,aa⟩
 exact aM<|tn<|⟨f,(by rw [if_pos (jk.1 an)]),Y,q,aa,aa,aa⟩
 rintro ab Z ⟨U,M,az,aZ,a1,a2,a3⟩
 refine fx 0 a1<|fx 3 a2<|fx 6 a3<|ag fun E=>ak (aQ tb)<|ak (.int .i64 U)<|e<|cl Pf (Xf B tb fb V ve F xs U Z (J.wk az) I) aa fun a9 a4 aU=> ?_
 obtain ⟨rfl,ar⟩:=aU
 have A:=Wk.B ar aZ
 have a:=az.trans ar
 refine aw<|E<|aB fun aK=>ag fun aL=>p mv<|p (no aa)<|nl<|aL<|cb aa (fun G=> ?_) fun G=> ?_
 refine ag fun ai=>aw<|ai<|rt<|tr<|aV aa ?_
 have i:fw F xs en f s pp=false :=Cd C<|by rw [← M]; simpa using G
 exact ⟨Eq.trans (b:=bQ false) aa (congrArg bQ i.symm),a⟩
 refine aM<|aK<|aB fun ai=>ag fun aN=>p (fa td aa)<|p (ld bu aa<|A.bG 4)<|p (bJ aa aa)<|nl<|aN<|cd aa (fun O=> ?_) fun O=> ?_
 refine ag fun ac=>aw<|ac<|rt<|tr<|aV aa ?_
 have i:fw F xs en f s pp=true :=Cc C (by rw [← M]; simpa using G) O
 exact ⟨Eq.trans (b:=bQ true) aa (congrArg bQ i.symm),a⟩
 refine aM<|ai<|ag fun ac=>ak (aQ tb)<|p (fa BT aa)<|p (ld bu aa<|A.bG 2)<|e<|cl Av (C8 B tb fb V ve F xs f a4 (J.wk a) I a0) aa fun ba a5 aW=> ?_
 obtain ⟨rfl,av⟩:=aW
 have A:=Wk.B av A
 have a:=a.trans av
 refine aw<|ac<|ag fun aF=>ak (aQ tb)<|p (fa BU aa)<|p (ld bu aa<|A.bG 3)<|e<|cl Av (C8 B tb fb V ve F xs s a5 (J.wk a) I hs) aa fun bb a6 aX=> ?_
 obtain ⟨rfl,ax⟩:=aX
 have A:=Wk.B ax A
 have a:=a.trans ax
 refine aw<|aF<|ag fun aG=>ak (aQ tb)<|p (fa td aa)<|p (ld bu aa<|A.bG 4)<|e<|cl Av (C8 B tb fb V ve F xs pp a6 (J.wk a) I hp) aa fun v51 bd aY=> ?_
 obtain ⟨rfl,aP⟩:=aY
 have a:=a.trans aP
 refine aw<|aG<|ag fun ae=>p mv<|p mv<|gb (t:=53) aa (fun ao=> ?_) fun ao=> ?_
 refine aI aa mv<|p (bB aa)<|p mv<|gb (t:=56) aa (fun ap=> ?_) fun ap=> ?_
 refine aI aa mv<|p (bB aa)<|aw<|ae<|rt<|aV aa ?_
 have i:fw F xs en f s pp=lM F pp:=by rw [pL C (by rw [← M]; simpa using G) O,ao,(show lM F s=true by simpa using ap)]; simp
 exact ⟨Eq.trans (b:=bQ<|lM F pp) aa (congrArg bQ i.symm),a⟩
 refine aE aa<|p (bp aa)<|aw<|ae<|rt<|aV aa ?_
 have i:fw F xs en f s pp=false :=by rw [pL C (by rw [← M]; simpa using G) O,(show lM F s=false by simpa using ap)]; simp
 exact ⟨Eq.trans (b:=bQ false) aa (congrArg bQ i.symm),a⟩
 refine aE aa<|p (bp aa)<|p mv<|aE aa<|p (bp aa)<|aw<|ae<|rt<|aV aa ?_
 have i:fw F xs en f s pp=false :=by rw [pL C (by rw [← M]; simpa using G) O,ao]; rfl
 exact ⟨Eq.trans (b:=bQ false) aa (congrArg bQ i.symm),a⟩
theorem TA (S0 xb:Nat) (cx:Bool) (most limit:Int) (acc:List bV) (fp:Nat→Prop) (w:World) (J:hZ w fp S0 xb cx most limit acc):
 bm ay 185 (bf [aQ xb]) w (fun v w'=>v= .bool (kE most limit acc)∧Wk w w'):=by
 obtain ⟨M,O,c3,E,G,I⟩:=J.aO
 refine enter func185 aa ntmps185 aa<|ag fun C=>aw<|C<|aB fun A=> ?_
 have a:(fun w'=>Wk w w') w.drew:=(Md.refl _ _).drew
 refine bI (fun w'=>Wk w w') aa wide a<|bF 0 aa (aQ xb) a<|aC 1 aa (fun _ _=>nc aa) a<|aC 2 aa (fun _ _=>fa qv aa) a<|aC 3 aa (fun w' i=>ld bu aa<|Wk.aO i<|G) a<|bF 4 aa (aQ xb) a<|aC 5 aa (fun _ _=>nc aa) a<|aC 6 aa (fun _ _=>fa xY aa) a<|aC 7 aa (fun w' i=>ld bu aa<|Wk.aO i<|c3) a<|aC 8 aa (fun _ _=>ge aa aa) a<|aC 9 aa (fun _ _=>mv) a<|iQ (t:=12) aa (fun hm=> ?_) fun hm=> ?_
 refine a6 10 aa a<|a6 11 aa a<|a6 12 aa a<|a6 13 aa a<|a6 14 aa a<|a6 15 aa a<|a6 16 aa a<|a6 17 aa a<|a6 18 aa a<|aC 19 aa (fun _ _=>bB aa) a<|aC 20 aa (fun _ _=>aA) a<|hn aj<|A<|rt<|aV aa ?_
 have q:kE most limit acc=true :=decide_eq_true<|Or.inl hm
 exact ⟨Eq.trans (b:=bQ true) aa (congrArg bQ q.symm),a⟩
 refine bh 10 aa (fun _ _=>aT (aQ xb) aa) a<|bh 11 aa (fun _ _=>nc aa) a<|bh 12 aa (fun _ _=>fa nO aa) a<|bh 13 aa (fun w' i=>ld bu aa<|Wk.aO i<|I) a<|bh 14 aa (fun _ _=>aT (aQ xb) aa) a<|bh 15 aa (fun _ _=>nc aa) a<|bh 16 aa (fun _ _=>fa xZ aa) a<|bh 17 aa (fun w' i=>ld bu aa<|Wk.aO i<|E) a<|bh 18 aa (fun _ _=>gt aa aa) a<|aC 19 aa (fun _ _=>bp aa) a<|aC 20 aa (fun _ _=>aA) a<|hn aj<|A<|rt<|aV aa ?_
 have q:kE most limit acc=decide ((dJ acc:Int) > limit):=by unfold kE; rw [decide_eq_decide]; omega
 exact ⟨Eq.trans (b:=bQ<|decide ((dJ acc:Int) > limit)) aa (congrArg bQ q.symm),a⟩
theorem JA (S0 xb:Nat) (cx:Bool) (most limit:Int) (acc:List bV) (fp:Nat→Prop) (d:bV) (w:World) (O:hZ w fp S0 xb cx most limit acc) (hd:Sd d) (bw:most≤2000∨limit≤1048576):
 bm ay 122 (bf [aQ xb,.agg (e7 d).toArray]) w (fun v w'=>v= .tuple #[]∧∃ fp',hZ w' fp' S0 xb cx most limit (qI most limit acc d)∧Tw fp w fp' w'):=by
 refine enter func122 aa ntmps122 aa<|ag fun a3=>e<|jt aa fun C a0 aN Z bb=> ?_
 have bM:=Z.size
 have aN:bO a0.heap C (e7 d):=bb
 have aL:=O.wk Z.md
 have bv:=O.lt
 have aT:¬fp C:=fun h=>by have :=bv C h; omega
 refine nl<|a3<|ag fun a4=>p mv<|e<|cl Pg (TA S0 xb cx most limit acc fp a0 aL) aa fun v6 J bl=> ?_
 obtain ⟨rfl,Y⟩:=bl
 have ae:=aL.wk Y
 obtain ⟨bA,ba,c3,bC,bD,bF⟩:=ae.aO
 have br:=Wk.B Y aN
 refine aw<|a4<|aB fun a5=>aB fun aD=> ?_
 have a:(fun w'=>Wk J w') J.drew:=(Md.refl _ _).drew
 refine bI (fun w'=>Wk J w') aa wide a<|aC 0 aa (fun _ _=>mv) a<|aC 1 aa (fun _ _=>mv) a<|ym (t:=8) aa (fun aq=> ?_) fun aq=> ?_
 exact a6 2 aa a<|a6 3 aa a<|a6 4 aa a<|a6 5 aa a<|a6 6 aa a<|l6 7 aa aj aa aa aa a<|l6 8 aa aj aa aa aa a<|l6 9 aa aj aa aa aa a<|l6 10 aa aj aa aa aa a<|l6 11 aa aj aa aa aa a<|l6 12 aa aj aa aa aa a<|l6 13 aa aj aa aa aa a<|a6 14 aa a<|aC 15 aa (fun _ _=>bB aa) a<|hn aj<|aD<|ct aa<|rt<|tr<|qt aa<|⟨aa,fp,by rw [Jy aq]; exact ae.wk a,Tw.wk<|(Z.md.trans Y).trans a⟩
 have ai:=Jz (d:=d) aq
 have aR:=ae.bd
 have ao:=aR.met (d:=d) bw hd
 have ar:Bd (acc++ [d]):=ai ▸ ao
 unfold Bd at aR ar
 unfold Sd at hd
 obtain ⟨v,ak,av,I⟩:=(ae.wk (Md.refl (fun _=>False) J).drew).ex
 have aU:C≠xb:=fun h=>aT<|(I C).2<|.inl h
 have ax:=xm acc d
 rw [ax] at ar
 simp only [bL,fA] at ar
 refine bh 2 aa (fun _ _=>mv) a<|bh 3 aa (fun _ _=>nc aa) a<|bh 4 aa (fun _ _=>fa Td aa) a<|bh 5 aa (fun w' E=>ld kt aa<|Wk.aO E<|ba) a<|bh 6 aa (fun _ _=>mv) a<|ym (t:=13) aa (fun h=>absurd (h.symm.trans<|aa) ee) fun bJ=>a6 7 aa a<|a6 8 aa a<|a6 9 aa a<|a6 10 aa a<|a6 11 aa a<|a6 12 aa a<|a6 13 aa a<|bh 14 aa (fun _ _=>bp aa) a<|aC 15 aa (fun _ _=>bp aa) a<|hn aj<|aD<|cf aa<|aM<|a5<|aB fun a7=>rg aa<|p mv<|p mv<|p (nc aa)<|p (fa qv aa)<|p (ld bu aa<|(aX ak).trans aa)<|p (bE ((acc.length+1:Nat):Int) aa aa<|bj ab ab)<|p (nc aa)<|p (fa qv aa)<|e<|cw eZ aa aa (v:= .int .i64 ((acc.length+1:Nat):Int)) aa ak (by show 5 < 8; omega) fun al aF bc=> ?_
 have aZ:al.heap[xb]? =some (.cells [.bool cx,.bool false,str [],.int .i64 most,.int .i64 limit,.int .i64 ((acc.length+1:Nat):Int),au (dJ acc),v].toArray 111 (0,0)):=bc
 have aP:=Md.B aF br fun h=>aU h
 refine nl<|a7<|aB fun a8=> ?_
 have A:(fun w'=>Wk al w') al.drew:=(Md.refl _ _).drew
 refine eS (fun w'=>Wk al w') 11 aa wide A<|bz 0 aa (fun _=>mv) (fun _=>A)<|bz 1 aa (fun _=>mv) (fun _=>A)<|bz 2 aa (fun _=>nc aa) (fun _=>A)<|bz 3 aa (fun _=>fa nO aa) (fun _=>A)<|dI 4 aa (fun w' E=>ld bu aa<|Wk.aO E<|(aX aZ).trans aa) A<|bz 5 aa (fun _=>fa BS aa) (fun _=>A)<|dI 6 aa (fun w' E=>ld bT aa<|Wk.aO E<|aP.bG 0) A<|bz 7 aa (fun _=>cz u9 aa aa) (fun _=>A)<|bz 8 aa (fun _=>bE ((dJ acc+d.jx.length:Nat):Int) aa aa<|bj ab ab) (fun _=>A)<|bz 9 aa (fun _=>nc aa) (fun _=>A)<|bz 10 aa (fun _=>fa nO aa) (fun _=>A)<|dH 11 aa aj aj<|cw eZ aa aa (v:= .int .i64 ((dJ acc+d.jx.length:Nat):Int)) aa aZ (by show 6 < 8; omega) fun V aG bg=> ?_
 have U:V.heap[xb]? =some (.cells [.bool cx,.bool false,str [],.int .i64 most,.int .i64 limit,.int .i64 ((acc.length+1:Nat):Int),.int .i64 ((dJ acc+d.jx.length:Nat):Int),v].toArray 111 (0,0)):=bg
 have bq:=Md.B aG aP fun h=>aU h
 have ah:Md (fun q=>q=xb) J.drew V:=aF.trans' (iq aG) fun q i h=>h
 have aE:Wk w J.drew:=(Z.md.trans Y).trans (Md.refl _ _).drew
 have bn:TF J.drew [113] (fun q=>q=xb):=TF.eq (dt ak) az
 refine eR aj<|a8<|ag fun a9=>p mv<|p (nc aa)<|p (fa Tc aa)<|p (ld kt aa<|(aX U).trans aa)<|nl ?_
 refine a9<|cb aa (fun hk=> ?_) fun hk=> ?_
 rw [if_pos hk] at av
 have aV:=cj av ah bn az
 subst hk
 have G:(fun w'=>Hb.aO w'.heap xb 7=some v∧bO w'.heap C (e7 d)) V.drew:=⟨(aX U).trans rfl,bq⟩
 refine eS (fun w'=>Hb.aO w'.heap xb 7=some v∧bO w'.heap C (e7 d)) 10 aa wide G<|bz 0 aa (fun _=>mv) (fun _=>G)<|bz 1 aa (fun _=>mv) (fun _=>G)<|bz 2 aa (fun _=>nc aa) (fun _=>G)<|bz 3 aa (fun _=>fa HW aa) (fun _=>G)<|dI 4 aa (fun w' E=>ld N3 aa<|E.1) G<|dI 5 aa (fun w' E=>da uw aa (aa) fun j bK=>E.2.bG j) G<|gP 6 aa aj<|kQ La aa aa aa fun bx a1 bH ac bi=> ?_
 have bN:=ac.size
 have M:Wk V a1:=((Md.refl (fun _=>False) V).drew).trans ac.md
 have aK:(fun w'=>Hb.aO w'.heap xb 7=some v∧bO w'.heap C (e7 d)) a1:=⟨Wk.aO ac.md G.1,Wk.B ac.md G.2⟩
 refine ⟨aK,?_⟩
 refine gP 7 aa aj<|ap La (aW aV M) aa (by have :=O.lo; have :=(cU.1 ak).1; have :=ah.size; have :=M.size; omega) aa (aJ.dX bi) (aa) (aa) ab ab fun v53 a2 aY am bP bs=> ?_
 have aA:=am.aH (Wk.aH M U) fun h=>dC (aW aV M) (Wk.aH M U) az h
 have an:(fun w'=>Hb.aO w'.heap xb 7=some v∧bO w'.heap C (e7 d)) a2:=⟨(aX aA).trans rfl,Md.B am aK.2 fun h=>aT<|(I C).2<|.inr h⟩
 refine ⟨an,?_⟩
 refine bz 8 aa (fun _=>nc aa) (fun _=>an)<|bz 9 aa (fun _=>fa HW aa) (fun _=>an)<|dH 10 aa aj aj<|cw RS aa aa (v:=v53) (eU aY) aA (by show 7 < 8; omega) fun bQ aI bk=> ?_
 have bo:TF a2 [113] (fun q=>q=xb):=TF.eq (dt aA) az
 refine eR aj<|f0 aa ?_
 refine ⟨aa,fun q=>q=xb∨v53.ownBlock=some q,⟨O.lo,⟨v53,?_,?_,fun _=>Iff.rfl⟩,ao⟩,?_⟩
 rw [ai]
 have h1:vJ true most limit (acc++ [d]) v53= [.bool true,.bool false,str [],.int .i64 most,.int .i64 limit,.int .i64 ((acc.length+1:Nat):Int),.int .i64 ((dJ acc+d.jx.length:Nat):Int),v53]:=by unfold vJ; rw [ax,bL]; rfl
 rw [h1]; exact bk
 rw [if_pos rfl,ai,bL,show l3 (acc++ [d])=l3 acc++e7 d from by unfold l3; rw [nw,o0]]
 exact cj aY aI bo az
 have aS:∀ q,q=xb→fp q:=fun q i=>(I q).2<|.inl i
 refine Tw.trans (Tw.wk aE)<|Tw.trans ⟨ah.mono (fun q _ i=>aS q i),fun q i=> .inl i⟩<|Tw.trans (Tw.wk M)<|Tw.trans (fp':=fun q=>q=xb∨v53.ownBlock=some q) ⟨am.mono (fun q _ i=>(I q).2<|.inr i),fun q i=>i.elim (fun h=> .inl<|aS q h) fun h=>(bs q h).imp (fun h=>(I q).2<|.inr h) id⟩ ⟨aI.mono (fun q _ i=> .inl i),fun q i=> .inl i⟩
 refine aM<|f0 aa ?_
 have bt:cx=false :=by simpa using hk
 subst bt
 refine ⟨aa,fp,⟨O.lo,⟨v,?_,?_,I⟩,ao⟩,?_⟩
 rw [ai]
 have h1:vJ false most limit (acc++ [d]) v= [.bool false,.bool false,str [],.int .i64 most,.int .i64 limit,.int .i64 ((acc.length+1:Nat):Int),.int .i64 ((dJ acc+d.jx.length:Nat):Int),v]:=by unfold vJ; rw [ax,bL]; rfl
 rw [h1]; exact U
 exact av
 exact Tw.trans (Tw.wk aE) ⟨ah.mono (fun q _ i=>(I q).2<|.inl i),fun q i=> .inl i⟩
end Go.Hb.rj
end
section
namespace Go.Hb
open Go.Hb.ri Go.Hb.rj
section
variable {w w':World} {fp fp':Nat→Prop} {S0 xb:Nat} {cx:Bool} {most limit:Int} {acc:List bV}
theorem rQ {B n:Nat} {v:Value} {xs:List Value} (a:bq w B 3 1 v n xs) (h:hZ w fp S0 xb cx most limit acc) (hm:Tw fp w fp' w'):bq w' B 3 1 v n xs:=cj a hm.md h.tf az
theorem JJ {b:Nat} (h:Tw fp w fp' w') (hn:¬fp b) (a:b < w.heap.size):¬fp' b:=fun h2=>(h.sub b h2).elim hn fun h3=>by omega
end
theorem I8 {most limit:Int} {acc A:List bV} {α:Type} {g:α→Option bV} {l:List α} {i:Nat} (h:kE most limit (fy most limit acc<|A++(l.take i).filterMap g)=true):fy most limit acc (A++l.filterMap g)=fy most limit acc (A++(l.take i).filterMap g):=by
 conv =>lhs; rw [← wP i l,zC,← dD,tk,yq h]
theorem Cs {most limit:Int} {acc A:List bV} {α:Type} {g:α→List bV} {l:List α} {i:Nat} (h:kE most limit (fy most limit acc<|A++(l.take i).flatMap g)=true):fy most limit acc (A++l.flatMap g)=fy most limit acc (A++(l.take i).flatMap g):=by
 conv =>lhs; rw [← wP i l,nw,← dD,tk,yq h]
theorem B5 {most limit:Int} {a:List bV} (h:¬(dJ a:Int)≤limit):kE most limit a=true :=decide_eq_true<|Or.inr ab
theorem B6 {most limit:Int} {a:List bV} (h:¬(a.length:Int) < most):kE most limit a=true :=decide_eq_true<|Or.inl ab
theorem I7 {most limit:Int} {acc A C:List bV} {α:Type} {g:α→List bV} {l:List α} {i:Nat} (h:kE most limit (fy most limit acc<|A++(C++(l.take i).flatMap g))=true):fy most limit acc (A++(C++l.flatMap g))=fy most limit acc (A++(C++(l.take i).flatMap g)):=by
 rw [← dD] at h ⊢
 rw [Cs h,dD]
theorem Sb {F:aR} {xs:List bD} (a:eF F xs) (n:Int):∀ d∈jU F xs n,1≤d.jx.length∧d.jx.length≤200:=by
 intro d hd
 unfold jU at hd
 split at hd
 · rename_i h
   obtain ⟨k,rfl⟩:∃ k:Nat,n=(k:Int):=⟨n.toNat,ab⟩
   have i:xs[k]? =some xs[k]:=cC ab
   have A:xs.getD k ([],[])=xs[k]:=by rw [cR,i]; rfl
   rw [mR] at hd
   have h1:=a.ne _<|iN i
   have h2:=(a.uJ _<|iN i).1
   have :=Sc (fun q C=>(a.fs.2 q C).2) (by rw [A]; exact h1) d hd
   rw [A] at this
   omega
 · cases hd
set_option maxHeartbeats 4000000 in
theorem DM (B tb fb:Nat) (V:ej) (ve:Value) (F:aR) (xs:List bD) (S0 xb:Nat) (cx:Bool) (most limit:Int) (acc:List bV) (fp:Nat→Prop) (word c7:Tx) (en:Nat) (f s c6:Int) (ap:Option Addr) (cp bW:Nat) (w:World) (bw:fY w B tb fb V ve F xs) (ai:eF F xs) (ao:hZ w fp S0 xb cx most limit acc) (bO:most≤2000∨limit≤1048576) (cM:bq w bW 3 1 (.slice ap (aU F (flagsOf xs en) 1).length cp) (aU F (flagsOf xs en) 1).length ((aU F (flagsOf xs en) 1).map bN)) (bM:Rn F f) (hs:Rn F s) (c5:1≤word.length∧word.length≤500):
 bm ay 75 (bf [aQ tb,aQ xb,str word,.agg (e7 ⟨c7,en,f,s,c6⟩).toArray,.slice ap (aU F (flagsOf xs en) 1).length cp]) w (fun v w'=>v= .tuple #[]∧∃ fp',hZ w' fp' S0 xb cx most limit (fy most limit acc<|eC F xs en word f s)∧Tw fp w fp' w'):=by
 have cH:=ao.lt
 have di:=rO F (flagsOf xs (en:Int)) 1
 have dj:=ai.len
 refine enter func75 aa ntmps75 aa<|ag fun bX=>e<|oB aa fun G ds dh bz cg=> ?_
 have dk:=bz.size
 refine nl<|bX<|ag fun b1=>p (fa td aa)<|e<|cw eZ aa aa (v:= .int .i64<|-1) aa cg (by show 4 < 5; omega) fun dq cj cc=>nl<|b1<|ag fun b2=>p mv<|p (fa BS aa)<|e<|cw kS aa aa (v:=str word) aa cc (by simp only [List.length_set]; show 0 < 5; omega) fun bd ck ce=> ?_
 have a1:bd.heap[G]? =some (.cells (e7 ⟨word,en,f,s,-1⟩).toArray 43 (0,0)):=ce
 have bs:Wk w bd:=(bz.md.trans' cj fun q a5 h=>by omega).trans' ck fun q a5 h=>by omega
 have a4:¬fp G:=fun h=>by have :=cH G h; omega
 refine nl<|b2<|ag fun b3=>p mv<|p (da uw aa (aa) fun j ah=>(pA a1).bG j)<|e<|cl Fy (Kz B tb fb V ve F xs word en f s (-1) bd (bw.wk bs) ai bM hs<|.inl aa) aa fun dm c8 cm=> ?_
 obtain ⟨rfl,br⟩:=cm
 have aK:=bs.trans br
 have bA:=ao.wk aK
 have aq:=Wk.aH br a1
 refine aw<|b3 ?_
 refine ed (fun ac ax=> ∃ (ae:Nat→Prop),(hZ ax ae S0 xb cx most limit<|fy most limit acc<|kA F xs en word f s)∧(Tw fp w ae ax)∧(ax.heap[G]? =some (.cells (e7 ⟨word,en,f,s,-1⟩).toArray 43 (0,0)))∧(¬ae G)∧(ac 0=aQ tb)∧(ac 1=aQ xb)∧(ac 2=str word)∧(ac 4= .slice ap (aU F (flagsOf xs en) 1).length cp)∧(ac 8=aQ G)) ?_ ?_
 refine ag fun az=>p mv<|nl<|az<|cb aa (fun a2=> ?_) fun a2=> ?_
 have aY:kA F xs en word f s= [⟨word,en,f,s,-1⟩]:=if_pos a2
 refine rg aa<|p mv<|p (da uw aa (aa) fun j ah=>(pA aq).bG j)<|e<|cl Fz (JA S0 xb cx most limit acc fp ⟨word,en,f,s,-1⟩ c8 bA ⟨c5.1,by show word.length≤1000; omega⟩ bO) aa fun dn dr cn=> ?_
 obtain ⟨rfl,ca,cy,aS⟩:=cn
 have cF:=aS.md.aH aq a4
 have cK:=JJ aS a4 (cU.1 aq).1
 exact nl<|tn<|⟨ca,(by rw [aY]; exact cy),((Tw.wk aK).trans aS),cF,cK,aa,aa,aa,aa,aa⟩
 have aY:kA F xs en word f s= []:=if_neg<|by rw [a2]; exact ee
 exact aM<|tn<|⟨fp,(by rw [aY]; exact bA),(Tw.wk aK),aq,a4,aa,aa,aa,aa,aa⟩
 rintro ac ax ⟨ae,cz,ct,cG,cL,cO,cP,cQ,cS,cT⟩
 refine fx 0 cO<|fx 1 cP<|fx 2 cQ<|fx 4 cS<|fx 8 cT<|ag fun az=>aw<|az<|aH<|lp (fun bi J I=> ∃ (i:Nat) (E:Nat→Prop) (av:Tx) (pp:Int),(i≤(aU F (flagsOf xs en) 1).length)∧(hZ I E S0 xb cx most limit<|fy most limit acc<|kA F xs en word f s++((aU F (flagsOf xs en) 1).take i).filterMap (ju F xs en word f s))∧(Tw fp w E I)∧(I.heap[G]? =some (.cells (e7 ⟨av,en,f,s,pp⟩).toArray 43 (0,0)))∧(¬E G)∧(J 0=aQ tb)∧(J 1=aQ xb)∧(J 2=str word)∧(J 4= .slice ap (aU F (flagsOf xs en) 1).length cp)∧(J 8=aQ G)∧(J 11=au i)∧((aU F (flagsOf xs en) 1).length - i=bi)) _ ⟨0,ae,word,-1,ab,(by simpa using cz),ct,cG,cL,aa,aa,aa,aa,aa,aa,aa⟩ ?_
 rintro bi J I ⟨i,E,av,pp,hi,O,an,cD,U,cV,cW,cY,cZ,c0,cX,rfl⟩
 refine fx 0 cV<|fx 1 cW<|fx 2 cY<|fx 4 cZ<|fx 8 c0<|fx 11 cX<|aB fun b4=>aB fun aD=> ?_
 obtain ⟨dc,dd,c3,b6,b7,b8⟩:=O.aO
 have a:(fun w'=>Wk I w') I.drew:=(Md.refl _ _).drew
 refine bI (fun w'=>Wk I w') aa wide a<|bF 0 aa (au i) a<|bF 1 aa (.slice ap (aU F (flagsOf xs en) 1).length cp) a<|aC 2 aa (fun _ _=>bK np aa aa) a<|aC 3 aa (fun _ _=>lt aa aa) a<|aC 4 aa (fun _ _=>mv) a<|iQ (t:=28) aa (fun cI=> ?_) fun cI=> ?_
 refine bh 5 aa (fun _ _=>aT (aQ xb) aa) a<|bh 6 aa (fun _ _=>nc aa) a<|bh 7 aa (fun _ _=>fa qv aa) a<|bh 8 aa (fun w' C=>ld bu aa<|Wk.aO C<|b7) a<|bh 9 aa (fun _ _=>aT (aQ xb) aa) a<|bh 10 aa (fun _ _=>nc aa) a<|bh 11 aa (fun _ _=>fa xY aa) a<|bh 12 aa (fun w' C=>ld bu aa<|Wk.aO C<|c3) a<|bh 13 aa (fun _ _=>lt aa aa) a<|aC 14 aa (fun _ _=>bB aa) a<|aC 15 aa (fun _ _=>mv) a<|iQ (t:=39) aa (fun bT=> ?_) fun bT=> ?_
 refine bh 16 aa (fun _ _=>aT (aQ xb) aa) a<|bh 17 aa (fun _ _=>nc aa) a<|bh 18 aa (fun _ _=>fa nO aa) a<|bh 19 aa (fun w' C=>ld bu aa<|Wk.aO C<|b8) a<|bh 20 aa (fun _ _=>aT (aQ xb) aa) a<|bh 21 aa (fun _ _=>nc aa) a<|bh 22 aa (fun _ _=>fa xZ aa) a<|bh 23 aa (fun w' C=>ld bu aa<|Wk.aO C<|b6) a<|bh 24 aa (fun _ _=>le aa aa) a<|aC 25 aa (fun _ _=>bB aa) a<|hn aj<|aD<|cd aa (fun bC=> ?_) fun bC=> ?_
 have cA:=O.wk a
 have bJ:=Wk.aH a cD
 have am:=an.trans<|Tw.wk a
 have ci:=rH bw ao am.md
 have bP:=rQ cM ao am
 have cN:=rM.1<|dU (d:=0) (show i < (aU F (flagsOf xs en) 1).length by omega)
 obtain ⟨r,a9⟩:∃ r,F.rules[((aU F (flagsOf xs en) 1).getD i 0)]? =some r:=⟨_,cC cN.1⟩
 have bR:F.rules.getD ((aU F (flagsOf xs en) 1).getD i 0) eY=r:=by rw [cR,a9]; rfl
 have Y:=DE (g:=ju F xs en word f s) 0 (show i < (aU F (flagsOf xs en) 1).length by omega)
 have ar:=(ai.iK a9).2.2
 refine aM<|b4<|aB fun aF=>aH<|ag fun b5=>ak (.slice ap (aU F (flagsOf xs en) 1).length cp)<|ak (au i)<|p (a8 kg aa aa ab<|aJ.ok ((a7 bP).2)<|bS ab)<|p (ld bu aa<|aJ.gK (i:=i) (a7 bP).2<|ni ab)<|p (fa td aa)<|e<|cw eZ aa aa (v:= .int .i64 ((((aU F (flagsOf xs en) 1).getD i 0):Nat):Int)) aa bJ (by show 4 < 5; omega) fun Z aN ch=> ?_
 have bL:Z.heap[G]? =some (.cells (e7 ⟨av,en,f,s,(((aU F (flagsOf xs en) 1).getD i 0):Nat)⟩).toArray 43 (0,0)):=ch
 have cB:=cA.Jv aN U
 have aL:=T2 ci bJ aN
 obtain ⟨db,de,dl,rc,c1,bl,bQ,df⟩:=aL.iK a9
 refine nl<|b5<|aB fun bY=> ?_
 have A:(fun w'=>Wk Z w') Z.drew:=(Md.refl _ _).drew
 refine bI (fun w'=>Wk Z w') aa wide A<|bF 0 aa (aQ tb) A<|aC 1 aa (fun _ _=>nc aa) A<|aC 2 aa (fun _ _=>fa nb aa) A<|aC 3 aa (fun w' C=>ld ig aa<|Wk.aO C<|(aX aL.cells).trans aa) A<|aC 4 aa (fun _ _=>nc aa) A<|aC 5 aa (fun _ _=>fa jK aa) A<|aC 6 aa (fun w' C=>ld kb aa<|Wk.aO C<|c1) A<|aC 7 aa (fun _ _=>fa td aa) A<|aC 8 aa (fun w' C=>ld bu aa<|Wk.aO C<|(aX bL).trans (show _=some (Value.int .i64 ((((aU F (flagsOf xs en) 1).getD i 0):Nat):Int)) from aa)) A<|aC 9 aa (fun _ _=>a8 nM aa aa ab<|aJ.ok (bl.wk A)<|nR bQ) A<|aC 10 aa (fun w' C=>da rm aa (aa) fun j ah=>fG (f:=jv) (m:=8) (fun _=>rfl) (bl.wk C) bQ j ah) A<|bF 11 aa (str word) A<|he 12 aa aj<|cl AR (C7 r _ word Z.drew (by unfold jQ at ar; omega) (by unfold jQ at ar; omega) (by unfold jQ at ar; omega) ab) aa fun v70 bU co=> ?_
 obtain ⟨rfl,bt⟩:=co
 have aG:=A.trans bt
 have bH:=Wk.aH aG bL
 have M:(fun w'=>Wk Z w') bU:=A.trans bt
 refine ⟨M,?_⟩
 refine aC 13 aa (fun _ _=>mv) M<|aC 14 aa (fun _ _=>xt aa aa) M<|aC 15 aa (fun _ _=>xt aa aa) M<|aC 16 aa (fun _ _=>aA) M<|aC 17 aa (fun _ _=>aA) M<|hn aj<|bY<|aB fun bZ=>rg aa<|ak (aQ tb)<|p (da uw aa (aa) fun j ah=>(pA bH).bG j)<|e<|cl Fy (Kz B tb fb V ve F xs av en f s (((aU F (flagsOf xs en) 1).getD i 0):Nat) bU (aL.wk aG) ai bM hs<|.inr ab) aa fun v75 c9 cq=> ?_
 obtain ⟨rfl,bv⟩:=cq
 have bo:=aG.trans bv
 have aV:=cB.wk bo
 have aZ:=Wk.aH bv bH
 have dg:=(cU.1 a1).1
 have al:Tw fp w E c9:=⟨(am.md.trans' aN fun q a5 h=>by omega).trans' bo (fun _ _ h=>h.elim),fun k hk=>am.sub k hk⟩
 refine aw<|bZ<|ag fun bg=>p mv<|p mv<|gb (t:=77) aa (fun aW=> ?_) fun aW=> ?_
 obtain ⟨v,bb⟩:∃ v,dA r word=some v:=o8.1 aW
 have c2:(dA r word).getD []=v:=by rw [bb]; rfl
 have c4:=qg (by unfold jQ at ar; omega) bb
 refine aI aa mv<|p (bB aa)<|nl<|bg<|cb aa (fun a3=> ?_) fun a3=> ?_
 have bI:=GL (word:=word) a3<|by rw [bR]; exact bb
 rw [bI] at Y
 refine ag fun b0=>p mv<|p (fa BS aa)<|e<|cw kS aa aa (v:=str<|(dA r word).getD []) aa aZ (by show 0 < 5; omega) fun bc bx bk=> ?_
 rw [c2] at bk
 have a0:bc.heap[G]? =some (.cells (e7 ⟨v,en,f,s,(((aU F (flagsOf xs en) 1).getD i 0):Nat)⟩).toArray 43 (0,0)):=bk
 have cu:=aV.Jv bx U
 have cs:Tw fp w E bc:=⟨al.md.trans' bx (fun q a5 h=>by omega),al.sub⟩
 refine nl<|b0<|rg aa<|ak (aQ xb)<|p (da uw aa (aa) fun j ah=>(pA a0).bG j)<|e<|cl Fz (JA S0 xb cx most limit (fy most limit acc<|kA F xs en word f s++((aU F (flagsOf xs en) 1).take i).filterMap (ju F xs en word f s)) E ⟨v,en,f,s,(((aU F (flagsOf xs en) 1).getD i 0):Nat)⟩ bc cu ⟨c4.1,by show v.length≤1000; omega⟩ bO) aa fun dp dt cr=> ?_
 obtain ⟨rfl,b9,cv,aP⟩:=cr
 have cE:=aP.md.aH a0 U
 have cJ:=JJ aP U (cU.1 a0).1
 exact nl<|bn<|aF<|rg aa<|ak (au i)<|p (bE ((i+1:Nat):Int) aa aa<|bj ab ab)<|p aA<|nl<|tn<|⟨_,ab,i+1,b9,_,_,ab,(by rw [Y,← dD,tk]; exact cv),(cs.trans aP),cE,cJ,aa,aa,aa,aa,aa,aa,aa⟩
 have bI:=GK (word:=word) a3
 rw [bI] at Y
 exact aM<|bn<|aF<|rg aa<|ak (au i)<|p (bE ((i+1:Nat):Int) aa aa<|bj ab ab)<|p aA<|nl<|tn<|⟨_,ab,i+1,E,_,_,ab,(by rw [Y]; simpa using aV),al,aZ,U,aa,aa,aa,aa,aa,aa,aa⟩
 have bI:=GJ (xs:=xs) (e:=en) (f:=f) (s:=s) (word:=word) (p:=(aU F (flagsOf xs en) 1).getD i 0)<|by rw [bR]; simpa using aW
 rw [bI] at Y
 exact aE aa<|p (bp aa)<|nl<|bg<|cf aa<|aM<|bn<|aF<|rg aa<|ak (au i)<|p (bE ((i+1:Nat):Int) aa aa<|bj ab ab)<|p aA<|nl<|tn<|⟨_,ab,i+1,E,_,_,ab,(by rw [Y]; simpa using aV),al,aZ,U,aa,aa,aa,aa,aa,aa,aa⟩
 exact ext<|ba<|ba<|be<|f0 aa<|⟨aa,E,(by unfold eC; rw [I8 (B5 bC)]; exact O.wk a),an.trans<|Tw.wk a⟩
 refine a6 16 aa a<|a6 17 aa a<|a6 18 aa a<|a6 19 aa a<|a6 20 aa a<|a6 21 aa a<|a6 22 aa a<|a6 23 aa a<|a6 24 aa a<|aC 25 aa (fun _ _=>bp aa) a<|hn aj<|aD<|cf aa<|ext<|ba<|ba<|be<|f0 aa ?_
 exact ⟨aa,E,(by unfold eC; rw [I8 (B6 bT)]; exact O.wk a),an.trans<|Tw.wk a⟩
 refine a6 5 aa a<|a6 6 aa a<|a6 7 aa a<|a6 8 aa a<|a6 9 aa a<|a6 10 aa a<|a6 11 aa a<|a6 12 aa a<|a6 13 aa a<|aC 14 aa (fun _ _=>bp aa) a<|aC 15 aa (fun _ _=>mv) a<|a6 16 aa a<|a6 17 aa a<|a6 18 aa a<|a6 19 aa a<|a6 20 aa a<|a6 21 aa a<|a6 22 aa a ?_
 refine a6 23 aa a<|a6 24 aa a<|aC 25 aa (fun _ _=>bp aa) a<|hn aj<|aD<|cf aa<|ext<|ba<|ba<|be<|f0 aa ?_
 rw [eM ab] at O
 exact ⟨aa,E,O.wk a,an.trans<|Tw.wk a⟩
set_option maxHeartbeats 4000000 in
theorem Zd (B tb fb:Nat) (V:ej) (ve:Value) (F:aR) (xs:List bD) (S0 xb:Nat) (cx:Bool) (most limit:Int) (acc:List bV) (fp:Nat→Prop) (n:Int) (w:World) (al:fY w B tb fb V ve F xs) (O:eF F xs) (an:hZ w fp S0 xb cx most limit acc) (bY:most≤2000∨limit≤1048576):
 bm ay 39 (bf [aQ tb,.int .i64 n,aQ xb]) w (fun v w'=>v= .tuple #[]∧∃ fp',hZ w' fp' S0 xb cx most limit (fy most limit acc<|jU F xs n)∧Tw fp w fp' w'):=by
 obtain ⟨en,ce,ec⟩:=al.DK
 have eH:=O.xl
 have eD:=O.len
 refine enter func39 aa ntmps39 aa<|aB fun cK=>ag fun b9=>p mv<|p (lt aa aa)<|p mv<|gs (t:=18) aa (fun dy=> ?_) fun dy=> ?_
 exact aE aa<|aE aa<|aE aa<|aE aa<|aE aa<|aE aa<|aE aa<|p (bB aa)<|nl<|b9<|ct aa<|rt<|tr<|qt aa<|⟨aa,fp,by rw [A8 ab,Cr]; exact an,Tw.refl _ _⟩
 refine aI aa mv<|aI aa mv<|aI aa (nc aa)<|aI aa (fa uY aa)<|aI aa (ld uv aa<|ec)<|aI aa (bK y7 aa aa)<|aI aa (ge aa aa)<|p (bp aa)<|nl<|b9<|cd aa (fun dv=> ?_) fun dv=> ?_
 exact rt<|tr<|qt aa<|⟨aa,fp,by rw [A8 ab,Cr]; exact an,Tw.refl _ _⟩
 obtain ⟨k,rfl⟩:∃ k:Nat,n=(k:Int):=⟨n.toNat,ab⟩
 obtain ⟨x,bo⟩:∃ x,xs[k]? =some x:=⟨_,cC ab⟩
 obtain ⟨eo,er,ws,a,c,ed,ca,cy,ew⟩:=al.sV bo
 obtain ⟨eu,ev,c6,bx⟩:=sJ bo
 have bX:jV F xs k=eC F xs k x.1 (-1) (-1)++(aU F (flagsOf xs (k:Int)) 2).flatMap (gd F xs k):=by unfold jV; rw [bx]
 have eI:=(O.uJ x<|iN bo).1
 have eg:=O.ne x<|iN bo
 have eA:=rO F (flagsOf xs (k:Int)) 2
 have bL:jU F xs (k:Int)=jV F xs k:=qp c6
 refine aM<|cK<|ag fun cX=>p mv<|p (nc aa)<|p (fa uY aa)<|p (ld uv aa<|ed)<|p mv<|p (a8 Hn aa aa ab<|aJ.ok (ca)<|uH cy)<|p (fa Te aa)<|p (ld bT aa<|fG (f:=pG) (m:=2) (fun _=>rfl) ca cy 0 az)<|aw<|cX<|aB fun cY=>rg aa<|p mv<|p mv<|e<|cl Qo (Xr B tb fb V ve F xs (k:Int) w al O) aa fun v37 el di=> ?_
 obtain ⟨bZ,bA⟩:=di
 obtain ⟨Y,ac,rfl⟩:=cB bZ
 have cr:=an.wk bA
 refine aw<|cY<|ag fun cZ=>p mv<|p mv<|p mv<|p mv<|p (cQ (ps:= [(1,au k),(2,.int .i64 (-1)),(3,.int .i64 (-1))]) (L:= [.string ⟨⟨[]⟩⟩,au k,.int .i64 (-1),.int .i64 (-1),.int .i64 0]) Dy aa<|aa)<|p mv<|e<|cl AQ (DM B tb fb V ve F xs S0 xb cx most limit acc fp x.1 [] k (-1) (-1) 0 Y ac w.heap.size el (al.wk bA) O cr bY bZ (.inl aa) (.inl aa) ⟨eg,ab⟩) aa fun eP em dj=> ?_
 obtain ⟨rfl,c9,ds,cm⟩:=dj
 have bP:=(Tw.wk bA).trans cm
 have dF:=rQ bZ cr cm
 refine nl<|cZ<|ag fun c0=>p mv<|p mv<|e<|cl Qp (Xv B tb fb V ve F xs (k:Int) em (rH al an bP.md) O) aa fun eQ eV dk=> ?_
 obtain ⟨cv,bG⟩:=dk
 obtain ⟨Z,ae,rfl⟩:=cB cv
 have dt:=ds.wk bG
 have dp:=bP.trans<|Tw.wk bG
 have dG:=aW dF bG
 have dO:=ez cv (show w.heap.size≤_ from bP.md.size)
 refine aw<|c0<|ag fun c1=>aw<|c1<|aH<|lp (fun aG am M=> ∃ (i:Nat) (ah:Nat→Prop),(i≤(aU F (flagsOf xs (k:Int)) 2).length)∧(hZ M ah S0 xb cx most limit<|fy most limit acc<|eC F xs k x.1 (-1) (-1)++((aU F (flagsOf xs (k:Int)) 2).take i).flatMap (gd F xs k))∧(Tw fp w ah M)∧(bq M w.heap.size 3 1 (.slice Y (aU F (flagsOf xs (k:Int)) 1).length ac) (aU F (flagsOf xs (k:Int)) 1).length<|(aU F (flagsOf xs (k:Int)) 1).map bN)∧(bq M w.heap.size 3 1 (.slice Z (aU F (flagsOf xs (k:Int)) 2).length ae) (aU F (flagsOf xs (k:Int)) 2).length<|(aU F (flagsOf xs (k:Int)) 2).map bN)∧(am 0=aQ tb)∧(am 1=au k)∧(am 2=aQ xb)∧(am 6=str x.1)∧(am 7= .slice Y (aU F (flagsOf xs (k:Int)) 1).length ac)∧(am 8= .slice Z (aU F (flagsOf xs (k:Int)) 2).length ae)∧(am 9=au i)∧((aU F (flagsOf xs (k:Int)) 2).length - i=aG)) _ ⟨0,c9,ab,(by simpa using dt),dp,dG,dO,aa,aa,aa,aa,aa,aa,aa,aa⟩ ?_
 rintro aG am M ⟨i,ah,hi,av,a1,dK,dP,dV,dW,dX,dY,dZ,d0,d1,rfl⟩
 refine fx 0 dV<|fx 1 dW<|fx 2 dX<|fx 6 dY<|fx 7 dZ<|fx 8 d0<|fx 9 d1<|aB fun c2=>aB fun bs=> ?_
 obtain ⟨c4,c5,c3,bt,bv,bw⟩:=av.aO
 have A:(fun w'=>Wk M w') M.drew:=(Md.refl _ _).drew
 refine bI (fun w'=>Wk M w') aa wide A<|bF 0 aa (au i) A<|bF 1 aa (.slice Z (aU F (flagsOf xs (k:Int)) 2).length ae) A<|aC 2 aa (fun _ _=>bK np aa aa) A<|aC 3 aa (fun _ _=>lt aa aa) A<|aC 4 aa (fun _ _=>mv) A<|iQ (t:=52) aa (fun dw=> ?_) fun dw=> ?_
 refine bh 5 aa (fun _ _=>aT (aQ xb) aa) A<|bh 6 aa (fun _ _=>nc aa) A<|bh 7 aa (fun _ _=>fa qv aa) A<|bh 8 aa (fun w' C=>ld bu aa<|Wk.aO C<|bv) A<|bh 9 aa (fun _ _=>aT (aQ xb) aa) A<|bh 10 aa (fun _ _=>nc aa) A<|bh 11 aa (fun _ _=>fa xY aa) A<|bh 12 aa (fun w' C=>ld bu aa<|Wk.aO C<|c3) A<|bh 13 aa (fun _ _=>lt aa aa) A<|aC 14 aa (fun _ _=>bB aa) A<|aC 15 aa (fun _ _=>mv) A<|iQ (t:=63) aa (fun cH=> ?_) fun cH=> ?_
 refine bh 16 aa (fun _ _=>aT (aQ xb) aa) A<|bh 17 aa (fun _ _=>nc aa) A<|bh 18 aa (fun _ _=>fa nO aa) A<|bh 19 aa (fun w' C=>ld bu aa<|Wk.aO C<|bw) A<|bh 20 aa (fun _ _=>aT (aQ xb) aa) A<|bh 21 aa (fun _ _=>nc aa) A<|bh 22 aa (fun _ _=>fa xZ aa) A<|bh 23 aa (fun w' C=>ld bu aa<|Wk.aO C<|bt) A<|bh 24 aa (fun _ _=>le aa aa) A<|aC 25 aa (fun _ _=>bB aa) A<|hn aj<|bs<|cd aa (fun cs=> ?_) fun cs=> ?_
 have du:=av.wk A
 have cn:=a1.trans<|Tw.wk A
 have bJ:=rH al an cn.md
 have dJ:=aW dK A
 have b3:=aW dP A
 have dT:=rM.1<|dU (d:=0) (show i < (aU F (flagsOf xs (k:Int)) 2).length by omega)
 obtain ⟨r,b5⟩:∃ r,F.rules[((aU F (flagsOf xs (k:Int)) 2).getD i 0)]? =some r:=⟨_,cC dT.1⟩
 have cD:F.rules.getD ((aU F (flagsOf xs (k:Int)) 2).getD i 0) eY=r:=by rw [cR,b5]; rfl
 have aP:=uM (g:=gd F xs k) 0 (show i < (aU F (flagsOf xs (k:Int)) 2).length by omega)
 have bg:=(O.iK b5).2.2
 obtain ⟨ep,es,eJ,rc,ee,cc,cz,ex⟩:=bJ.iK b5
 refine aM<|c2<|aB fun aY=>aH<|aB fun cL=> ?_
 have I:(fun w'=>Wk M.drew w') M.drew.drew:=(Md.refl _ _).drew
 refine bI (fun w'=>Wk M.drew w') aa wide I<|bF 0 aa (aQ tb) I<|aC 1 aa (fun _ _=>nc aa) I<|aC 2 aa (fun _ _=>fa nb aa) I<|aC 3 aa (fun w' C=>ld ig aa<|Wk.aO C<|(aX bJ.cells).trans aa) I<|aC 4 aa (fun _ _=>nc aa) I<|aC 5 aa (fun _ _=>fa jK aa) I<|aC 6 aa (fun w' C=>ld kb aa<|Wk.aO C<|ee) I<|bF 7 aa (.slice Z (aU F (flagsOf xs (k:Int)) 2).length ae) I<|bF 8 aa (au i) I<|aC 9 aa (fun _ _=>a8 kg aa aa ab<|aJ.ok ((a7 b3).2.wk I)<|bS ab) I<|aC 10 aa (fun w' C=>ld bu aa<|Wk.aO C<|aJ.gK (i:=i) (a7 b3).2<|ni ab) I<|aC 11 aa (fun _ _=>a8 nM aa aa ab<|aJ.ok (cc.wk I)<|nR cz) I<|aC 12 aa (fun w' C=>da rm aa (aa) fun j a4=>fG (f:=jv) (m:=8) (fun _=>rfl) (cc.wk C) cz j a4) I<|bF 13 aa (str x.1) I<|he 14 aa aj<|cl AR (C7 r _ x.1 M.drew.drew (by unfold jQ at bg; omega) (by unfold jQ at bg; omega) (by unfold jQ at bg; omega) ab) aa fun v91 cJ dl=> ?_
 obtain ⟨rfl,ci⟩:=dl
 have aK:=I.trans ci
 have a3:=du.wk aK
 have co:=cn.trans<|Tw.wk aK
 have dd:=bJ.wk aK
 have b1:=aW dJ aK
 have bb:=aW b3 aK
 have ar:(fun w'=>Wk M.drew w') cJ:=I.trans ci
 refine ⟨ar,?_⟩
 refine aC 15 aa (fun _ _=>mv) ar<|aC 16 aa (fun _ _=>xt aa aa) ar<|aC 17 aa (fun _ _=>xt aa aa) ar<|aC 18 aa (fun _ _=>aA) ar<|aC 19 aa (fun _ _=>aA) ar<|hn aj<|cL<|aB fun cM=>ag fun cN=>p mv<|p (no aa)<|nl<|cN<|cb aa (fun bW=> ?_) fun bW=> ?_
 have aL:dA r x.1=none:=by simpa using bW
 have aN:gd F xs k ((aU F (flagsOf xs (k:Int)) 2).getD i 0)= []:=by unfold gd; rw [cD,bx,aL]
 rw [aN,eh] at aP
 exact ext<|ba<|be<|aY<|rg aa<|ak (au i)<|p (bE ((i+1:Nat):Int) aa aa<|bj ab ab)<|p aA<|nl<|tn<|⟨_,ab,i+1,ah,ab,(by rw [aP]; exact a3),co,b1,bb,aa,aa,aa,aa,aa,aa,aa,aa⟩
 obtain ⟨wd,aL⟩:∃ v,dA r x.1=some v:=o8.1<|by simpa using bW
 have aS:((dA r x.1).getD [])=wd:=by rw [aL]; rfl
 have aN:gd F xs k ((aU F (flagsOf xs (k:Int)) 2).getD i 0)=eC F xs k wd (((aU F (flagsOf xs (k:Int)) 2).getD i 0):Nat) (-1)++(aU F (cT F (((aU F (flagsOf xs (k:Int)) 2).getD i 0):Nat)) 2).flatMap (jc F xs k wd (((aU F (flagsOf xs (k:Int)) 2).getD i 0):Nat)):=by unfold gd; rw [cD,bx,aL]
 have eG:=qg (by unfold jQ at bg; omega) aL
 refine aM<|cM<|ag fun cO=>ak (aQ tb)<|ak (aQ xb)<|p mv<|ak (au k)<|ak (.slice Z (aU F (flagsOf xs (k:Int)) 2).length ae)<|ak (au i)<|p (a8 kg aa aa ab<|aJ.ok ((a7 bb).2)<|bS ab)<|p (ld bu aa<|aJ.gK (i:=i) (a7 bb).2<|ni ab)<|p (cQ (ps:= [(1,au k),(2,.int .i64 (((aU F (flagsOf xs (k:Int)) 2).getD i 0):Nat)),(3,.int .i64 (-1))]) (L:= [.string ⟨⟨[]⟩⟩,au k,.int .i64 (((aU F (flagsOf xs (k:Int)) 2).getD i 0):Nat),.int .i64 (-1),.int .i64 0]) Dy aa<|aa)<|ak (.slice Y (aU F (flagsOf xs (k:Int)) 1).length ac)<|e<|cl AQ (DM B tb fb V ve F xs S0 xb cx most limit (fy most limit acc<|eC F xs k x.1 (-1) (-1)++((aU F (flagsOf xs (k:Int)) 2).take i).flatMap (gd F xs k)) ah ((dA r x.1).getD []) [] k ((((aU F (flagsOf xs (k:Int)) 2).getD i 0):Nat):Int) (-1) 0 Y ac w.heap.size cJ dd O a3 bY b1 (.inr ab) (.inl aa)<|by rw [aS]; omega) aa fun eK ek de=> ?_
 obtain ⟨rfl,c7,cp,bO⟩:=de
 rw [aS,← tk] at cp
 have bM:=co.trans bO
 have dz:=rQ b1 a3 bO
 have b2:=rQ bb a3 bO
 have db:=rH al an bM.md
 refine nl<|cO<|ag fun cP=>ak (aQ tb)<|ak (.slice Z (aU F (flagsOf xs (k:Int)) 2).length ae)<|ak (au i)<|p (a8 kg aa aa ab<|aJ.ok ((a7 b2).2)<|bS ab)<|p (ld bu aa<|aJ.gK (i:=i) (a7 b2).2<|ni ab)<|e<|cl Qq (Xu B tb fb V ve F xs (((aU F (flagsOf xs (k:Int)) 2).getD i 0):Nat) ek db O) aa fun eL eT df=> ?_
 obtain ⟨cw,aZ⟩:=df
 obtain ⟨aD,aF,rfl⟩:=cB cw
 have dq:=cp.wk aZ
 have dm:=bM.trans<|Tw.wk aZ
 have dB:=aW dz aZ
 have dL:=aW b2 aZ
 have dQ:=ez cw (show w.heap.size≤_ from bM.md.size)
 have eB:=rO F (cT F (((aU F (flagsOf xs (k:Int)) 2).getD i 0):Nat)) 2
 refine aw<|cP<|ag fun cS=>aw<|cS<|aH<|lp (fun aG U J=> ∃ (j:Nat) (ai:Nat→Prop),(j≤(aU F (cT F (((aU F (flagsOf xs (k:Int)) 2).getD i 0):Nat)) 2).length)∧(hZ J ai S0 xb cx most limit<|fy most limit acc<|eC F xs k x.1 (-1) (-1)++((aU F (flagsOf xs (k:Int)) 2).take i).flatMap (gd F xs k)++(eC F xs k wd (((aU F (flagsOf xs (k:Int)) 2).getD i 0):Nat) (-1)++((aU F (cT F (((aU F (flagsOf xs (k:Int)) 2).getD i 0):Nat)) 2).take j).flatMap (jc F xs k wd (((aU F (flagsOf xs (k:Int)) 2).getD i 0):Nat))))∧(Tw fp w ai J)∧(bq J w.heap.size 3 1 (.slice Y (aU F (flagsOf xs (k:Int)) 1).length ac) (aU F (flagsOf xs (k:Int)) 1).length<|(aU F (flagsOf xs (k:Int)) 1).map bN)∧(bq J w.heap.size 3 1 (.slice Z (aU F (flagsOf xs (k:Int)) 2).length ae) (aU F (flagsOf xs (k:Int)) 2).length<|(aU F (flagsOf xs (k:Int)) 2).map bN)∧(bq J w.heap.size 3 1 (.slice aD (aU F (cT F (((aU F (flagsOf xs (k:Int)) 2).getD i 0):Nat)) 2).length aF) (aU F (cT F (((aU F (flagsOf xs (k:Int)) 2).getD i 0):Nat)) 2).length<|(aU F (cT F (((aU F (flagsOf xs (k:Int)) 2).getD i 0):Nat)) 2).map bN)∧(U 0=aQ tb)∧(U 1=au k)∧(U 2=aQ xb)∧(U 6=str x.1)∧(U 7= .slice Y (aU F (flagsOf xs (k:Int)) 1).length ac)∧(U 8= .slice Z (aU F (flagsOf xs (k:Int)) 2).length ae)∧(U 9=au i)∧(U 10=str ((dA r x.1).getD []))∧(U 12= .slice aD (aU F (cT F (((aU F (flagsOf xs (k:Int)) 2).getD i 0):Nat)) 2).length aF)∧(U 13=au j)∧((aU F (cT F (((aU F (flagsOf xs (k:Int)) 2).getD i 0):Nat)) 2).length - j=aG)) _ ⟨0,c7,ab,(by simpa using dq),dm,dB,dL,dQ,aa,aa,aa,aa,aa,aa,aa,aa,aa,aa,aa⟩ ?_
 rintro aG U J ⟨j,ai,a4,ax,a2,a5,bc,dS,d2,d3,d7,d8,d9,ea,eb,d4,d5,d6,rfl⟩
 refine fx 0 d2<|fx 1 d3<|fx 2 d7<|fx 6 d8<|fx 7 d9<|fx 8 ea<|fx 9 eb<|fx 10 d4<|fx 12 d5<|fx 13 d6<|aB fun cU=>aB fun br=> ?_
 obtain ⟨c4,c5,c3,bt,bv,bw⟩:=ax.aO
 have q:(fun w'=>Wk J w') J.drew:=(Md.refl _ _).drew
 refine bI (fun w'=>Wk J w') aa wide q<|bF 0 aa (au j) q<|aC 1 aa (fun _ _=>aT (.slice aD (aU F (cT F (((aU F (flagsOf xs (k:Int)) 2).getD i 0):Nat)) 2).length aF) aa) q<|aC 2 aa (fun _ _=>bK np aa aa) q<|aC 3 aa (fun _ _=>lt aa aa) q<|aC 4 aa (fun _ _=>mv) q<|iQ (t:=117) aa (fun dx=> ?_) fun dx=> ?_
 refine bh 5 aa (fun _ _=>aT (aQ xb) aa) q<|bh 6 aa (fun _ _=>nc aa) q<|bh 7 aa (fun _ _=>fa qv aa) q<|bh 8 aa (fun w' C=>ld bu aa<|Wk.aO C<|bv) q<|bh 9 aa (fun _ _=>aT (aQ xb) aa) q<|bh 10 aa (fun _ _=>nc aa) q<|bh 11 aa (fun _ _=>fa xY aa) q<|bh 12 aa (fun w' C=>ld bu aa<|Wk.aO C<|c3) q<|bh 13 aa (fun _ _=>lt aa aa) q<|aC 14 aa (fun _ _=>bB aa) q<|aC 15 aa (fun _ _=>mv) q<|iQ (t:=128) aa (fun cI=> ?_) fun cI=> ?_
 refine bh 16 aa (fun _ _=>aT (aQ xb) aa) q<|bh 17 aa (fun _ _=>nc aa) q<|bh 18 aa (fun _ _=>fa nO aa) q<|bh 19 aa (fun w' C=>ld bu aa<|Wk.aO C<|bw) q<|bh 20 aa (fun _ _=>aT (aQ xb) aa) q<|bh 21 aa (fun _ _=>nc aa) q<|bh 22 aa (fun _ _=>fa xZ aa) q<|bh 23 aa (fun w' C=>ld bu aa<|Wk.aO C<|bt) q<|bh 24 aa (fun _ _=>le aa aa) q<|aC 25 aa (fun _ _=>bB aa) q<|hn aj<|br<|cd aa (fun cu=> ?_) fun cu=> ?_
 have dr:=ax.wk q
 have cj:=a2.trans<|Tw.wk q
 have bH:=rH al an cj.md
 have dC:=aW a5 q
 have dM:=aW bc q
 have b4:=aW dS q
 have ei:=rM.1<|dU (d:=0) (show j < (aU F (cT F (((aU F (flagsOf xs (k:Int)) 2).getD i 0):Nat)) 2).length by omega)
 obtain ⟨ao,b6⟩:∃ r,F.rules[((aU F (cT F (((aU F (flagsOf xs (k:Int)) 2).getD i 0):Nat)) 2).getD j 0)]? =some r:=⟨_,cC ei.1⟩
 have cE:F.rules.getD ((aU F (cT F (((aU F (flagsOf xs (k:Int)) 2).getD i 0):Nat)) 2).getD j 0) eY=ao:=by rw [cR,b6]; rfl
 have bk:=uM (g:=jc F xs k wd (((aU F (flagsOf xs (k:Int)) 2).getD i 0):Nat)) 0 (show j < (aU F (cT F (((aU F (flagsOf xs (k:Int)) 2).getD i 0):Nat)) 2).length by omega)
 have bi:=(O.iK b6).2.2
 obtain ⟨eq,et,eW,eX,ef,cg,cA,ey⟩:=bH.iK b6
 refine aM<|cU<|aB fun b8=>aH<|aB fun cV=> ?_
 have G:(fun w'=>Wk J.drew w') J.drew.drew:=(Md.refl _ _).drew
 refine bI (fun w'=>Wk J.drew w') aa wide G<|bF 0 aa (aQ tb) G<|aC 1 aa (fun _ _=>nc aa) G<|aC 2 aa (fun _ _=>fa nb aa) G<|aC 3 aa (fun w' C=>ld ig aa<|Wk.aO C<|(aX bH.cells).trans aa) G<|aC 4 aa (fun _ _=>nc aa) G<|aC 5 aa (fun _ _=>fa jK aa) G<|aC 6 aa (fun w' C=>ld kb aa<|Wk.aO C<|ef) G<|aC 7 aa (fun _ _=>aT (.slice aD (aU F (cT F (((aU F (flagsOf xs (k:Int)) 2).getD i 0):Nat)) 2).length aF) aa) G<|bF 8 aa (au j) G<|aC 9 aa (fun _ _=>a8 kg aa aa ab<|aJ.ok ((a7 b4).2.wk G)<|bS ab) G<|aC 10 aa (fun w' C=>ld bu aa<|Wk.aO C<|aJ.gK (i:=j) (a7 b4).2<|ni ab) G<|aC 11 aa (fun _ _=>a8 nM aa aa ab<|aJ.ok (cg.wk G)<|nR cA) G<|aC 12 aa (fun w' C=>da rm aa (aa) fun j a4=>fG (f:=jv) (m:=8) (fun _=>rfl) (cg.wk C) cA j a4) G<|bF 13 aa (str<|(dA r x.1).getD []) G<|he 14 aa aj<|cl AR (C7 ao _ ((dA r x.1).getD []) J.drew.drew (by unfold jQ at bi; omega) (by unfold jQ at bi; omega) (by unfold jQ at bi; omega)<|by rw [aS]; omega) aa fun eN aV dg=> ?_
 obtain ⟨rfl,ch⟩:=dg
 have ap:=G.trans ch
 have bQ:=dr.wk ap
 have ck:=cj.trans<|Tw.wk ap
 have dc:=bH.wk ap
 have b0:=aW dC ap
 have a9:=aW dM ap
 have bd:=aW b4 ap
 have aq:(fun w'=>Wk J.drew w') aV:=G.trans ch
 refine ⟨aq,?_⟩
 refine aC 15 aa (fun _ _=>mv) aq<|aC 16 aa (fun _ _=>xt aa aa) aq<|aC 17 aa (fun _ _=>xt aa aa) aq<|aC 18 aa (fun _ _=>aA) aq<|aC 19 aa (fun _ _=>aA) aq<|hn aj<|cV<|aB fun cW=>rg aa<|p mv<|nl<|cW<|cb aa (fun bU=> ?_) fun bU=> ?_
 obtain ⟨v2,cF⟩:∃ v,dA ao ((dA r x.1).getD [])=some v:=o8.1 bU
 have cG:(dA ao<|(dA r x.1).getD []).getD []=v2:=by rw [cF]; rfl
 have bl:dA ao wd=some v2:=by rw [← aS]; exact cF
 have b7:jc F xs k wd (((aU F (flagsOf xs (k:Int)) 2).getD i 0):Nat) ((aU F (cT F (((aU F (flagsOf xs (k:Int)) 2).getD i 0):Nat)) 2).getD j 0)=eC F xs k v2 (((aU F (flagsOf xs (k:Int)) 2).getD i 0):Nat) (((aU F (cT F (((aU F (flagsOf xs (k:Int)) 2).getD i 0):Nat)) 2).getD j 0):Nat):=by unfold jc; rw [cE,bl]
 have eE:=qg (by unfold jQ at bi; omega) bl
 rw [b7] at bk
 have E:(fun w'=>Wk aV w') aV.drew:=(Md.refl _ _).drew
 refine eS (fun w'=>Wk aV w') 14 aa wide E<|bC 0 aa (aQ tb) E<|bC 1 aa (aQ xb) E<|bz 2 aa (fun _=>mv) (fun _=>E)<|bC 3 aa (au k) E<|bC 4 aa (.slice Z (aU F (flagsOf xs (k:Int)) 2).length ae) E<|bC 5 aa (au i) E<|bz 6 aa (fun _=>a8 kg aa aa ab<|aJ.ok ((a7 a9).2.wk E)<|bS ab) (fun _=>E)<|dI 7 aa (fun w' C=>ld bu aa<|Wk.aO C<|aJ.gK (i:=i) (a7 a9).2<|ni ab) E<|bz 8 aa (fun _=>aT (.slice aD (aU F (cT F (((aU F (flagsOf xs (k:Int)) 2).getD i 0):Nat)) 2).length aF) aa) (fun _=>E)<|bC 9 aa (au j) E<|bz 10 aa (fun _=>a8 kg aa aa ab<|aJ.ok ((a7 bd).2.wk E)<|bS ab) (fun _=>E)<|dI 11 aa (fun w' C=>ld bu aa<|Wk.aO C<|aJ.gK (i:=j) (a7 bd).2<|ni ab) E<|bz 12 aa (fun _=>cQ (ps:= [(1,au k),(2,.int .i64 (((aU F (flagsOf xs (k:Int)) 2).getD i 0):Nat)),(3,.int .i64 (((aU F (cT F (((aU F (flagsOf xs (k:Int)) 2).getD i 0):Nat)) 2).getD j 0):Nat))]) (L:= [.string ⟨⟨[]⟩⟩,au k,.int .i64 (((aU F (flagsOf xs (k:Int)) 2).getD i 0):Nat),.int .i64 (((aU F (cT F (((aU F (flagsOf xs (k:Int)) 2).getD i 0):Nat)) 2).getD j 0):Nat),.int .i64 0]) Dy aa<|aa) (fun _=>E)<|bC 13 aa (.slice Y (aU F (flagsOf xs (k:Int)) 1).length ac) E<|dH 14 aa aj aj<|cl AQ (DM B tb fb V ve F xs S0 xb cx most limit (fy most limit acc<|eC F xs k x.1 (-1) (-1)++((aU F (flagsOf xs (k:Int)) 2).take i).flatMap (gd F xs k)++(eC F xs k wd (((aU F (flagsOf xs (k:Int)) 2).getD i 0):Nat) (-1)++((aU F (cT F (((aU F (flagsOf xs (k:Int)) 2).getD i 0):Nat)) 2).take j).flatMap (jc F xs k wd (((aU F (flagsOf xs (k:Int)) 2).getD i 0):Nat)))) ai ((dA ao<|(dA r x.1).getD []).getD []) [] k ((((aU F (flagsOf xs (k:Int)) 2).getD i 0):Nat):Int) ((((aU F (cT F (((aU F (flagsOf xs (k:Int)) 2).getD i 0):Nat)) 2).getD j 0):Nat):Int) 0 Y ac w.heap.size aV.drew (dc.wk E) O (bQ.wk E) bY (aW b0 E) (.inr ab) (.inr ab)<|by rw [cG]; omega) aa fun eO eU dh=> ?_
 obtain ⟨rfl,c8,cq,a0⟩:=dh
 rw [cG,← tk] at cq
 have bR:=bQ.wk E
 have dn:=(ck.trans<|Tw.wk E).trans a0
 have dE:=rQ (aW b0 E) bR a0
 have dN:=rQ (aW a9 E) bR a0
 have dR:=rQ (aW bd E) bR a0
 exact eR aj<|bn<|b8<|rg aa<|ak (au j)<|p (bE ((j+1:Nat):Int) aa aa<|bj ab ab)<|p aA<|nl<|tn<|⟨_,ab,j+1,c8,ab,(by rw [bk,← dD (eC F xs k wd (((aU F (flagsOf xs (k:Int)) 2).getD i 0):Nat)<|-1),← dD]; exact cq),dn,dE,dN,dR,aa,aa,aa,aa,aa,aa,aa,aa,aa,aa,aa⟩
 have bl:dA ao wd=none:=by rw [← aS]; simpa using bU
 have b7:jc F xs k wd (((aU F (flagsOf xs (k:Int)) 2).getD i 0):Nat) ((aU F (cT F (((aU F (flagsOf xs (k:Int)) 2).getD i 0):Nat)) 2).getD j 0)= []:=by unfold jc; rw [cE,bl]
 rw [b7,eh] at bk
 exact aM<|bn<|b8<|rg aa<|ak (au j)<|p (bE ((j+1:Nat):Int) aa aa<|bj ab ab)<|p aA<|nl<|tn<|⟨_,ab,j+1,ai,ab,(by rw [bk]; exact bQ),ck,b0,a9,bd,aa,aa,aa,aa,aa,aa,aa,aa,aa,aa,aa⟩
 exact ext<|ba<|ba<|be<|bn<|aY<|rg aa<|ak (au i)<|p (bE ((i+1:Nat):Int) aa aa<|bj ab ab)<|p aA<|nl<|tn<|⟨_,ab,i+1,ai,ab,(by rw [aP,aN,← dD (eC F xs k x.1 (-1)<|-1)]; rw [I7 (B5 cu)]; exact ax.wk q),(a2.trans<|Tw.wk q),(aW a5 q),(aW bc q),aa,aa,aa,aa,aa,aa,aa,aa⟩
 exact a6 16 aa q<|a6 17 aa q<|a6 18 aa q<|a6 19 aa q<|a6 20 aa q<|a6 21 aa q<|a6 22 aa q<|a6 23 aa q<|a6 24 aa q<|aC 25 aa (fun _ _=>bp aa) q<|hn aj<|br<|cf aa<|ext<|ba<|ba<|be<|bn<|aY<|rg aa<|ak (au i)<|p (bE ((i+1:Nat):Int) aa aa<|bj ab ab)<|p aA<|nl<|tn<|⟨_,ab,i+1,ai,ab,(by rw [aP,aN,← dD (eC F xs k x.1 (-1)<|-1)]; rw [I7 (B6 cI)]; exact ax.wk q),(a2.trans<|Tw.wk q),(aW a5 q),(aW bc q),aa,aa,aa,aa,aa,aa,aa,aa⟩
 refine a6 5 aa q<|a6 6 aa q<|a6 7 aa q<|a6 8 aa q<|a6 9 aa q<|a6 10 aa q<|a6 11 aa q<|a6 12 aa q<|a6 13 aa q<|aC 14 aa (fun _ _=>bp aa) q<|aC 15 aa (fun _ _=>mv) q<|a6 16 aa q<|a6 17 aa q<|a6 18 aa q<|a6 19 aa q<|a6 20 aa q<|a6 21 aa q<|a6 22 aa q ?_
 exact a6 23 aa q<|a6 24 aa q<|aC 25 aa (fun _ _=>bp aa) q<|hn aj<|br<|cf aa<|ext<|ba<|ba<|be<|bn<|aY<|rg aa<|ak (au i)<|p (bE ((i+1:Nat):Int) aa aa<|bj ab ab)<|p aA<|nl<|tn<|⟨_,ab,i+1,ai,ab,(by rw [aP,aN,← dD (eC F xs k x.1 (-1)<|-1)]; rw [eM (show (aU F (cT F (((aU F (flagsOf xs (k:Int)) 2).getD i 0):Nat)) 2).length≤j by omega)] at ax; exact ax.wk q),(a2.trans<|Tw.wk q),(aW a5 q),(aW bc q),aa,aa,aa,aa,aa,aa,aa,aa⟩
 exact ext<|ba<|ba<|be<|f0 aa<|⟨aa,ah,by rw [bL,bX,Cs (B5 cs)]; exact av.wk A,a1.trans<|Tw.wk A⟩
 refine a6 16 aa A<|a6 17 aa A<|a6 18 aa A<|a6 19 aa A<|a6 20 aa A<|a6 21 aa A<|a6 22 aa A<|a6 23 aa A<|a6 24 aa A<|aC 25 aa (fun _ _=>bp aa) A<|hn aj<|bs<|cf aa<|ext<|ba<|ba<|be<|f0 aa ?_
 exact ⟨aa,ah,by rw [bL,bX,Cs (B6 cH)]; exact av.wk A,a1.trans<|Tw.wk A⟩
 refine a6 5 aa A<|a6 6 aa A<|a6 7 aa A<|a6 8 aa A<|a6 9 aa A<|a6 10 aa A<|a6 11 aa A<|a6 12 aa A<|a6 13 aa A<|aC 14 aa (fun _ _=>bp aa) A<|aC 15 aa (fun _ _=>mv) A<|a6 16 aa A<|a6 17 aa A<|a6 18 aa A<|a6 19 aa A<|a6 20 aa A<|a6 21 aa A<|a6 22 aa A ?_
 refine a6 23 aa A<|a6 24 aa A<|aC 25 aa (fun _ _=>bp aa) A<|hn aj<|bs<|cf aa<|ext<|ba<|ba<|be<|f0 aa ?_
 rw [eM ab] at av
 exact ⟨aa,ah,by rw [bL,bX]; exact av.wk A,a1.trans<|Tw.wk A⟩
end Go.Hb
end
section
namespace Go.Hb
open Go.Hb.ri Go.Hb.rj
def qc (W:World) (b:Nat) (v:Bool):Prop :=W.heap[b]? =some (.cells [.bool v].toArray 4 (0,0))
def l9 (L:List bV) (most:Int):Int×Int×Bool:=if most < 0∨min most 1048576 < (dJ L:Nat) then (0,0,false) else (((L.length:Nat):Int),((dJ L:Nat):Int),true)
theorem qH {L:List bV} {most:Int} (h:most < 0∨min most 1048576 < (dJ L:Nat)):l9 L most=(0,0,false):=if_pos h
theorem yx {L:List bV} {most:Int} (h:¬(most < 0∨min most 1048576 < (dJ L:Nat))):l9 L most=(((L.length:Nat):Int),((dJ L:Nat):Int),true):=if_neg h
theorem Aj {p L:List bV} (h:p <+:L):dJ p≤dJ L:=by obtain ⟨t,rfl⟩:=h; rw [Ai]; omega
theorem E4 {F:aR} {xs:List bD} (a:eF F xs):∀ d∈eN F xs xs.length,1≤d.jx.length∧d.jx.length≤200:=by
 intro d hd
 unfold eN at hd
 obtain ⟨k,hk,hd⟩:=List.mem_flatMap.1 hd
 rw [← qp (F:=F) (xs:=xs) (List.mem_range.1 hk)] at hd
 exact Sb a _ d hd
theorem VN (B tb:Nat) (aq:hU) (F:aR) (xs:List bD) (most:Int) (w:World) (b0:fE w B tb aq F xs) (aZ:eF F xs):
 bm ay 22 (bf [.pointer (some ⟨tb,0,none⟩),.int .i64 most]) w (fun v w'=>v= .tuple #[.int .i64 (l9 (eN F xs xs.length) most).1,.int .i64 (l9 (eN F xs xs.length) most).2.1,.bool (l9 (eN F xs xs.length) most).2.2]∧Wk w w'):=by
 refine uI [] func22 aa ntmps22 aa ?_
 refine et<|eW<|rg aa<|e<|rv aa aa fun ak cJ co a3 bA=> ?_
 have cy:=a3.size
 refine e<|fk vR fun A cK cp aN bC=> ?_
 have cC:=aN.size
 refine e<|fk vR fun C cL cq aB bF=> ?_
 have cD:=aB.size
 refine e<|fk Mk fun O ap cr am bH=> ?_
 have cE:=am.size
 have a2:Wk w ap:=((a3.md.trans aN.md).trans aB.md).trans am.md
 have aS:dE ap ak most:=Wk.aH (aN.md.trans<|aB.md.trans am.md) bA
 have a5:dE ap A 0:=Wk.aH (aB.md.trans am.md) bC
 have a6:dE ap C 0:=Wk.aH am.md bF
 have a7:qc ap O false :=bH
 refine nl<|eo<|et<|et<|eW<|rg aa<|p (ld bu aa<|(aX aS).trans aa)<|p (lt aa aa)<|nl<|eo<|eW<|cd aa (fun ba=> ?_) fun ba=> ?_
 refine sq fun bk aI=>rg aa<|e<|cw eZ aa aa (v:= .int .i64 0) aa a5 (by simp) fun cG aJ bw=>e<|cw eZ aa aa (v:= .int .i64 0) aa (aJ.aH a6 fun h=>by omega) (by simp) fun cH aK bx=>e<|cw rD aa aa (v:= .bool false) aa (aK.aH (aJ.aH a7 fun h=>by omega) fun h=>by omega) (by simp) fun cI aL bz=>nl<|tn<|aI _ _<|rt<|prt<|Ht aa (jN aa bu<|(aX<|aL.aH (aK.aH bw fun h=>by omega) fun h=>by omega).trans aa) (jN aa bu<|(aX<|aL.aH bx fun h=>by omega).trans aa) (jN aa kt<|(aX bz).trans aa) ?_
 exact ⟨by rw [qH (.inl ba)]; rfl,((a2.trans' aJ fun q ah h=>by omega).trans' aK fun q ah h=>by omega).trans' aL fun q ah h=>by omega⟩
 refine aM<|eo<|et<|eW<|rg aa<|p (ld bu aa<|(aX aS).trans aa)<|p (mn aa aa)<|e<|cw eZ aa aa (v:= .int .i64<|min most 1048576) aa aS (by simp) fun bh al bB=> ?_
 have bP:Wk w bh:=a2.trans' al fun q ah h=>by omega
 have cB:=al.size
 refine nl<|eo<|et<|et<|eW<|rg aa<|p mv<|e<|cl Au (E6 (some ⟨tb,0,none⟩) bh) aa fun cF I bW=> ?_
 obtain ⟨ar,rfl,ct,a4,ai⟩:=bW
 have cv:=ai.size
 have aF:Wk w I:=bP.trans ai
 have a9:=(cU.1 a4).1
 have a8:ak < I.heap.size:=ab
 have an:A < I.heap.size:=ab
 have ao:C < I.heap.size:=ab
 have aT:O < I.heap.size:=ab
 have b3:dE I ak (min most 1048576):=Wk.aH ai bB
 have b4:dE I A 0:=Wk.aH ai<|al.aH a5 fun h=>by omega
 have b5:dE I C 0:=Wk.aH ai<|al.aH a6 fun h=>by omega
 have b6:qc I O false :=Wk.aH ai<|al.aH a7 fun h=>by omega
 have aV:∀ {W:World},(∃ G:Nat→Prop,Md G I W∧∀ k,G k→k=A∨k=C∨k=O)→fE W B tb aq F xs:=fun ⟨G,hm,b7⟩=>b0.wk<|aF.trans' hm fun k hk Z=>by have :=b7 k Z; omega
 refine nl<|eo ?_
 apply Df (nK) (eN F xs xs.length) (fun W=>fE W B tb aq F xs∧jn W ar (some ⟨tb,0,none⟩)) (fun pre fp i=>dE i A (pre.length:Nat)∧dE i C (dJ pre:Nat)∧dE i ak (min most 1048576)∧qc i O false∧(∀ k,¬fp k)∧jn i ar (some ⟨tb,0,none⟩)∧(∃ G:Nat→Prop,Md G I i∧∀ k,G k→k=A∨k=C∨k=O)∧(pre.length≤dJ pre∧(dJ pre:Int)≤(min most 1048576))) (fun r pre fp i=>r=true∧dE i A 0∧dE i C 0∧dE i ak (min most 1048576)∧qc i O false∧(∀ k,¬fp k)∧jn i ar (some ⟨tb,0,none⟩)∧(∃ G:Nat→Prop,Md G I i∧∀ k,G k→k=A∨k=C∨k=O)∧(min most 1048576) < (dJ pre:Int)) rfl Gf (fun _=>rfl) (Oc B tb aq F xs aZ ar) (⟨b4,b5,b3,b6,fun _=>id,a4,⟨fun _=>False,Md.refl _ _,fun _ h=>h.elim⟩,cA _,by show (0:Int)≤_; omega⟩) (fun pre fp W ⟨h1,h2,h3,h4,h5,J,U,ac⟩=>⟨⟨aV U,J⟩,fun k hk=>absurd hk<|h5 k⟩) (fun r pre fp W ⟨aW,h1,h2,h3,h4,h5,J,U,ac⟩=>⟨⟨aV U,J⟩,fun k hk=>absurd hk<|h5 k⟩) (fun pre fp W bl F ⟨h1,h2,h3,h4,h5,J,U,ac⟩ hm E=>⟨gS h1 hm an E,gS h2 hm ao E,gS h3 hm a8 E,gS h4 hm aT E,h5,gS J hm a9 E,(by obtain ⟨G,g1,g2⟩:=U; exact ⟨G,g1.trans' hm (fun k hk Z=>by have :=(E k Z).1; omega),g2⟩),ac⟩) (fun r pre fp W bl F ⟨aW,h1,h2,h3,h4,h5,J,U,ac⟩ hm E=>⟨aW,gS h1 hm an E,gS h2 hm ao E,gS h3 hm a8 E,gS h4 hm aT E,h5,gS J hm a9 E,(by obtain ⟨G,g1,g2⟩:=U; exact ⟨G,g1.trans' hm (fun k hk Z=>by have :=(E k Z).1; omega),g2⟩),ac⟩) (fun x b i=>i.heap[b]? =some (.cells (e7 x).toArray 41 (0,0))) (Ad (f:=e7))
 intro l x i K a
 exact rg aa<|e<|fk zk fun aU cO cs bV bK=>e<|gj xB aa aa aa aa bK az fun cM bU bG=>nl<|tn<|a aU _ (bV.md.trans' bU fun q ah h=>by omega) bG
 intro l pre x rest fp aU i cb aG bs
 obtain ⟨h1,h2,h3,h4,h5,J,U,ac⟩:=aG
 have cu:=E4 aZ x<|by rw [cb]; simp
 refine aH<|sq fun bk aI=>rg aa<|p (ld bu aa<|(aX h1).trans aa)<|p (bE ((pre.length+1:Nat):Int) aa aa<|bj ab ab)<|e<|cw eZ aa aa (v:= .int .i64 ((pre.length+1:Nat):Int)) aa h1 (by simp) fun cN M bJ=> ?_
 have b8:(pre++ [x]).length=pre.length+1:=by simp
 have b1:TF i [5] (fun q=>q=A):=TF.eq (dt h1) az
 have bt:=M.gL b1 bs az
 have au:=M.aH h2 fun h=>by omega
 have bo:=M.aH h3 fun h=>by omega
 have bp:=M.aH h4 fun h=>by omega
 have bq:=M.aH J fun h=>by omega
 refine nl<|tn<|aI _ _<|sq fun ck bQ=>rg aa<|p (ld bu aa<|(aX au).trans aa)<|p (fa x7 aa)<|p (ld bT aa<|(aX bt).trans aa)<|p (cz u9 aa aa)<|p (bE ((dJ pre+x.jx.length:Nat):Int) aa aa<|bj ab ab)<|e<|cw eZ aa aa (v:= .int .i64 ((dJ pre+x.jx.length:Nat):Int)) aa au (by simp) fun cP V av=> ?_
 have aQ:=xm pre x
 have aC:=V.aH bJ fun h=>by omega
 have aD:=V.aH bo fun h=>by omega
 have aE:=V.aH bp fun h=>by omega
 have aY:=V.aH bq fun h=>by omega
 refine nl<|tn<|bQ _ _<|sq fun cm bR=>rg aa<|p (ld bu aa<|(aX av).trans aa)<|p (ld bu aa<|(aX aD).trans aa)<|p (gt aa aa)<|nl<|tn<|bR _ _<|cd aa (fun b9=> ?_) fun b9=> ?_
 refine sq fun cn bS=>rg aa<|e<|cw eZ aa aa (v:= .int .i64 0) aa aC (by simp) fun cQ Y bL=>e<|cw eZ aa aa (v:= .int .i64 0) aa (Y.aH av fun h=>by omega) (by simp) fun cR ae bM=>e<|cw rD aa aa (v:= .bool false) aa (ae.aH (Y.aH aE fun h=>by omega) fun h=>by omega) (by simp) fun bi ag bN=> ?_
 have ce:dE bi A 0:=ag.aH (ae.aH bL fun h=>by omega) fun h=>by omega
 have cf:dE bi C 0:=ag.aH bM fun h=>by omega
 have cc:=ag.aH (ae.aH (Y.aH aD fun h=>by omega) fun h=>by omega) fun h=>by omega
 have cg:=ag.aH (ae.aH (Y.aH aY fun h=>by omega) fun h=>by omega) fun h=>by omega
 exact nl<|tn<|bS _ _<|rt<|br<|⟨((((fO.md M fun k hk=>⟨_,_,_,hk ▸ h1⟩).trans<|fO.md V fun k hk=>⟨_,_,_,hk ▸ au⟩).trans<|fO.md Y fun k hk=>⟨_,_,_,hk ▸ aC⟩).trans<|fO.md ae fun k hk=>⟨_,_,_,hk ▸ (Y.aH av fun h=>by omega)⟩).trans (fO.md ag fun k hk=>⟨_,_,_,hk ▸ (ae.aH (Y.aH aE fun h=>by omega) fun h=>by omega)⟩),fp,((((Gw.md M (fun k hk=> .inr<|by subst hk; exact an) fun _ h=> .inl h).trans<|Gw.md V (fun k hk=> .inr<|by subst hk; exact ao) fun _ h=> .inl h).trans<|Gw.md Y (fun k hk=> .inr<|by subst hk; exact an) fun _ h=> .inl h).trans<|Gw.md ae (fun k hk=> .inr<|by subst hk; exact ao) fun _ h=> .inl h).trans (Gw.md ag (fun k hk=> .inr<|by subst hk; exact aT) fun _ h=> .inl h),aa,ce,cf,cc,bN,h5,cg,(by obtain ⟨G,g1,g2⟩:=U; exact ⟨fun k=>k=A∨k=C∨k=O,(((((g1.mono fun k _ hk=>g2 k hk).trans' M fun _ _ h=> .inl h).trans' V fun _ _ h=> .inr<|.inl h).trans' Y fun _ _ h=> .inl h).trans' ae fun _ _ h=> .inr<|.inl h).trans' ag (fun _ _ h=> .inr<|.inr h),fun _ h=>h⟩),by rw [aQ]; omega⟩
 exact aM<|bn<|⟨((fO.md M fun k hk=>⟨_,_,_,hk ▸ h1⟩).trans<|fO.md V fun k hk=>⟨_,_,_,hk ▸ au⟩),fp,((Gw.md M (fun k hk=> .inr<|by subst hk; exact an) fun _ h=> .inl h).trans<|Gw.md V (fun k hk=> .inr<|by subst hk; exact ao) fun _ h=> .inl h),(by rw [b8]; exact aC),(by rw [aQ]; exact av),aD,aE,h5,aY,(by obtain ⟨G,g1,g2⟩:=U; exact ⟨fun k=>k=A∨k=C∨k=O,((g1.mono fun k _ hk=>g2 k hk).trans' M fun _ _ h=> .inl h).trans' V (fun _ _ h=> .inr<|.inl h),fun _ h=>h⟩),ab,by rw [aQ]; omega⟩
 intro D i bO aG a
 obtain ⟨fp,h1,h2,h3,h4,h5,J,⟨G,g1,g2⟩,ac⟩:=aG
 refine eo<|et<|eW ?_
 have aP:(fun w'=>dE w' A ((eN F xs xs.length).length:Nat)∧dE w' C (dJ (eN F xs xs.length):Nat)) i.drew:=⟨h1,h2⟩
 refine bI (fun w'=>dE w' A ((eN F xs xs.length).length:Nat)∧dE w' C (dJ (eN F xs xs.length):Nat)) aa wide aP<|hp 0 aa aj (fun w' aO=>ld bu aa<|(aX aO.1).trans aa) aP<|hp 1 aa aj (fun w' aO=>ld bu aa<|(aX aO.2).trans aa) aP<|he 2 aa aj<|cw eZ aa aa (v:= .int .i64 ((eN F xs xs.length).length:Nat)) aa h1 (by simp) fun ch aw a0=> ?_
 have a:=(aw.cx D (cU.1 a).1 fun h=>by have h:=h; subst h; rw [h1] at a; cases a).trans a
 have i2:=aw.aH h2 fun h=>by omega
 have i6:=aw.aH h4 fun h=>by omega
 have bX:(fun w'=>dE w' A ((eN F xs xs.length).length:Nat)∧dE w' C (dJ (eN F xs xs.length):Nat)) ch:=⟨a0,i2⟩
 refine ⟨bX,?_⟩
 refine he 3 aa aj<|cw eZ aa aa (v:= .int .i64 (dJ (eN F xs xs.length):Nat)) aa i2 (by simp) fun ci ax a1=> ?_
 have a:=(ax.cx D (cU.1 a).1 fun h=>by have h:=h; subst h; rw [i2] at a; cases a).trans a
 have bb:=ax.aH a0 fun h=>by omega
 have bc:=ax.aH i6 fun h=>by omega
 have bY:(fun w'=>dE w' A ((eN F xs xs.length).length:Nat)∧dE w' C (dJ (eN F xs xs.length):Nat)) ci:=⟨bb,a1⟩
 refine ⟨bY,?_⟩
 refine he 4 aa aj<|cw rD aa aa (v:= .bool true) aa bc (by simp) fun cj aA bv=> ?_
 have a:=(aA.cx D (cU.1 a).1 fun h=>by have h:=h; subst h; rw [bc] at a; cases a).trans a
 have bd:=aA.aH bb fun h=>by omega
 have bg:=aA.aH a1 fun h=>by omega
 have bZ:(fun w'=>dE w' A ((eN F xs xs.length).length:Nat)∧dE w' C (dJ (eN F xs xs.length):Nat)) cj:=⟨bd,bg⟩
 refine ⟨bZ,?_⟩
 refine hn aj<|eo<|rT<|xP aa a (jN aa bu<|m6 ((aX bd).trans aa) a fun _ _ _ h=>by cases h) (jN aa bu<|m6 ((aX bg).trans aa) a fun _ _ _ h=>by cases h) (jN aa kt<|m6 ((aX bv).trans aa) a fun _ _ _ h=>by cases h) ?_
 exact ⟨by rw [yx ab]; rfl,(((((aF.trans' g1 fun k hk Z=>by have :=g2 k Z; omega).trans (Md.refl (fun _=>False) i).drew).trans' aw fun q ah h=>by omega).trans' ax fun q ah h=>by omega).trans' aA fun q ah h=>by omega).trans' (lz _ _ _) fun k hk h=>by omega⟩
 exact fun _ _ _ _ _ h _=>by obtain ⟨_,h,_⟩:=h; cases h
 intro D i pre bO ca b2 a
 obtain ⟨fp,_,h1,h2,h3,h4,h5,J,⟨G,g1,g2⟩,ac⟩:=b2
 refine prt<|xP aa a (jN aa bu<|m6 ((aX h1).trans aa) a fun _ _ _ h=>by cases h) (jN aa bu<|m6 ((aX h2).trans aa) a fun _ _ _ h=>by cases h) (jN aa kt<|m6 ((aX h4).trans aa) a fun _ _ _ h=>by cases h) ?_
 exact ⟨by rw [qH (.inr<|by have :=Aj ca; omega)]; rfl,(aF.trans' g1 fun k hk Z=>by have :=g2 k Z; omega).trans' (lz _ _ _) fun k hk h=>by omega⟩
theorem VM (most:Int) (w:World):
 bm ay 22 (bf [.pointer none,.int .i64 most]) w (fun v w'=>v= .tuple #[.int .i64 (l9 ([]:List bV) most).1,.int .i64 (l9 ([]:List bV) most).2.1,.bool (l9 ([]:List bV) most).2.2]∧Wk w w'):=by
 refine uI [] func22 aa ntmps22 aa ?_
 refine et<|eW<|rg aa<|e<|rv aa aa fun Z bS bB aG a4=> ?_
 have bJ:=aG.size
 refine e<|fk vR fun C bT bC ar a6=> ?_
 have bL:=ar.size
 refine e<|fk vR fun E bU bD an a7=> ?_
 have bM:=an.size
 refine e<|fk Mk fun M ah bE ag a9=> ?_
 have bN:=ag.size
 have aD:Wk w ah:=((aG.md.trans ar.md).trans an.md).trans ag.md
 have aw:dE ah Z most:=Wk.aH (ar.md.trans<|an.md.trans ag.md) a4
 have aJ:dE ah C 0:=Wk.aH (an.md.trans ag.md) a6
 have aK:dE ah E 0:=Wk.aH ag.md a7
 have aL:qc ah M false :=a9
 refine nl<|eo<|et<|et<|eW<|rg aa<|p (ld bu aa<|(aX aw).trans aa)<|p (lt aa aa)<|nl<|eo<|eW<|cd aa (fun aS=> ?_) fun aS=> ?_
 refine sq fun bz bd=>rg aa<|e<|cw eZ aa aa (v:= .int .i64 0) aa aJ (by simp) fun bP ao a1=>e<|cw eZ aa aa (v:= .int .i64 0) aa (ao.aH aK fun h=>by omega) (by simp) fun bQ ap a2=>e<|cw rD aa aa (v:= .bool false) aa (ap.aH (ao.aH aL fun h=>by omega) fun h=>by omega) (by simp) fun bR aq a3=>nl<|tn<|bd _ _<|rt<|prt<|Ht aa (jN aa bu<|(aX<|aq.aH (ap.aH a1 fun h=>by omega) fun h=>by omega).trans aa) (jN aa bu<|(aX<|aq.aH a2 fun h=>by omega).trans aa) (jN aa kt<|(aX a3).trans aa) ?_
 exact ⟨by rw [qH (.inl aS)]; rfl,((aD.trans' ao fun q V h=>by omega).trans' ap fun q V h=>by omega).trans' aq fun q V h=>by omega⟩
 refine aM<|eo<|et<|eW<|rg aa<|p (ld bu aa<|(aX aw).trans aa)<|p (mn aa aa)<|e<|cw eZ aa aa (v:= .int .i64<|min most 1048576) aa aw (by simp) fun aY ae a5=> ?_
 have bc:Wk w aY:=aD.trans' ae fun q V h=>by omega
 have bK:=ae.size
 refine nl<|eo<|et<|et<|eW<|rg aa<|p mv<|e<|cl Au (E6 none aY) aa fun bO I bi=> ?_
 obtain ⟨ai,rfl,bG,aI,Y⟩:=bi
 have bH:=Y.size
 have aE:Wk w I:=bc.trans Y
 have aR:=(cU.1 aI).1
 have aN:Z < I.heap.size:=ab
 have aO:C < I.heap.size:=ab
 have aP:E < I.heap.size:=ab
 have aQ:M < I.heap.size:=ab
 have bo:dE I Z (min most 1048576):=Wk.aH Y a5
 have bp:dE I C 0:=Wk.aH Y<|ae.aH aJ fun h=>by omega
 have bq:dE I E 0:=Wk.aH Y<|ae.aH aK fun h=>by omega
 have br:qc I M false :=Wk.aH Y<|ae.aH aL fun h=>by omega
 refine nl<|eo ?_
 apply Df (nK) (([]:List bV)) (fun W=>jn W ai none) (fun pre fp i=>dE i C (pre.length:Nat)∧dE i E (dJ pre:Nat)∧dE i Z (min most 1048576)∧qc i M false∧(∀ k,¬fp k)∧jn i ai none∧(∃ G:Nat→Prop,Md G I i∧∀ k,G k→k=C∨k=E∨k=M)∧(pre.length≤dJ pre∧(dJ pre:Int)≤(min most 1048576))) (fun r pre fp i=>r=true∧dE i C 0∧dE i E 0∧dE i Z (min most 1048576)∧qc i M false∧(∀ k,¬fp k)∧jn i ai none∧(∃ G:Nat→Prop,Md G I i∧∀ k,G k→k=C∨k=E∨k=M)∧(min most 1048576) < (dJ pre:Int)) rfl Gf (fun _=>rfl) (Ob ai) (⟨bp,bq,bo,br,fun _=>id,aI,⟨fun _=>False,Md.refl _ _,fun _ h=>h.elim⟩,cA _,by show (0:Int)≤_; omega⟩) (fun pre fp W ⟨h1,h2,h3,h4,h5,J,ac,O⟩=>⟨J,fun k hk=>absurd hk<|h5 k⟩) (fun r pre fp W ⟨aA,h1,h2,h3,h4,h5,J,ac,O⟩=>⟨J,fun k hk=>absurd hk<|h5 k⟩) (fun pre fp W aZ F ⟨h1,h2,h3,h4,h5,J,ac,O⟩ hm A=>⟨gS h1 hm aO A,gS h2 hm aP A,gS h3 hm aN A,gS h4 hm aQ A,h5,gS J hm aR A,(by obtain ⟨G,g1,g2⟩:=ac; exact ⟨G,g1.trans' hm (fun k hk U=>by have :=(A k U).1; omega),g2⟩),O⟩) (fun r pre fp W aZ F ⟨aA,h1,h2,h3,h4,h5,J,ac,O⟩ hm A=>⟨aA,gS h1 hm aO A,gS h2 hm aP A,gS h3 hm aN A,gS h4 hm aQ A,h5,gS J hm aR A,(by obtain ⟨G,g1,g2⟩:=ac; exact ⟨G,g1.trans' hm (fun k hk U=>by have :=(A k U).1; omega),g2⟩),O⟩) (fun x b i=>i.heap[b]? =some (.cells (e7 x).toArray 41 (0,0))) (Ad (f:=e7))
 intro l x i K a
 exact rg aa<|e<|fk zk fun ax bX bF bh ba=>e<|gj xB aa aa aa aa ba az fun bW bg a8=>nl<|tn<|a ax _ (bh.md.trans' bg fun q V h=>by omega) a8
 intro l pre x rest fp ax i bt aF bA
 cases pre <;> cases bt
 intro D i bb aF a
 obtain ⟨fp,h1,h2,h3,h4,h5,J,⟨G,g1,g2⟩,O⟩:=aF
 refine eo<|et<|eW ?_
 have av:(fun w'=>dE w' C (([]:List bV).length:Nat)∧dE w' E (dJ ([]:List bV):Nat)) i.drew:=⟨h1,h2⟩
 refine bI (fun w'=>dE w' C (([]:List bV).length:Nat)∧dE w' E (dJ ([]:List bV):Nat)) aa wide av<|hp 0 aa aj (fun w' au=>ld bu aa<|(aX au.1).trans aa) av<|hp 1 aa aj (fun w' au=>ld bu aa<|(aX au.2).trans aa) av<|he 2 aa aj<|cw eZ aa aa (v:= .int .i64 (([]:List bV).length:Nat)) aa h1 (by simp) fun bv ak aB=> ?_
 have a:=(ak.cx D (cU.1 a).1 fun h=>by have h:=h; subst h; rw [h1] at a; cases a).trans a
 have i2:=ak.aH h2 fun h=>by omega
 have i6:=ak.aH h4 fun h=>by omega
 have bj:(fun w'=>dE w' C (([]:List bV).length:Nat)∧dE w' E (dJ ([]:List bV):Nat)) bv:=⟨aB,i2⟩
 refine ⟨bj,?_⟩
 refine he 3 aa aj<|cw eZ aa aa (v:= .int .i64 (dJ ([]:List bV):Nat)) aa i2 (by simp) fun bw al aC=> ?_
 have a:=(al.cx D (cU.1 a).1 fun h=>by have h:=h; subst h; rw [i2] at a; cases a).trans a
 have aT:=al.aH aB fun h=>by omega
 have aU:=al.aH i6 fun h=>by omega
 have bk:(fun w'=>dE w' C (([]:List bV).length:Nat)∧dE w' E (dJ ([]:List bV):Nat)) bw:=⟨aT,aC⟩
 refine ⟨bk,?_⟩
 refine he 4 aa aj<|cw rD aa aa (v:= .bool true) aa aU (by simp) fun bx am a0=> ?_
 have a:=(am.cx D (cU.1 a).1 fun h=>by have h:=h; subst h; rw [aU] at a; cases a).trans a
 have aV:=am.aH aT fun h=>by omega
 have aW:=am.aH aC fun h=>by omega
 have bl:(fun w'=>dE w' C (([]:List bV).length:Nat)∧dE w' E (dJ ([]:List bV):Nat)) bx:=⟨aV,aW⟩
 refine ⟨bl,?_⟩
 refine hn aj<|eo<|rT<|xP aa a (jN aa bu<|m6 ((aX aV).trans aa) a fun _ _ _ h=>by cases h) (jN aa bu<|m6 ((aX aW).trans aa) a fun _ _ _ h=>by cases h) (jN aa kt<|m6 ((aX a0).trans aa) a fun _ _ _ h=>by cases h) ?_
 exact ⟨by rw [yx ab]; rfl,(((((aE.trans' g1 fun k hk U=>by have :=g2 k U; omega).trans (Md.refl (fun _=>False) i).drew).trans' ak fun q V h=>by omega).trans' al fun q V h=>by omega).trans' am fun q V h=>by omega).trans' (lz _ _ _) fun k hk h=>by omega⟩
 exact fun _ _ _ _ _ h _=>by obtain ⟨_,h,_⟩:=h; cases h
 intro D i pre bb bs bn a
 obtain ⟨fp,_,h1,h2,h3,h4,h5,J,⟨G,g1,g2⟩,O⟩:=bn
 refine prt<|xP aa a (jN aa bu<|m6 ((aX h1).trans aa) a fun _ _ _ h=>by cases h) (jN aa bu<|m6 ((aX h2).trans aa) a fun _ _ _ h=>by cases h) (jN aa kt<|m6 ((aX h4).trans aa) a fun _ _ _ h=>by cases h) ?_
 exact ⟨by rw [qH (.inr<|by have :=Aj bs; omega)]; rfl,(aE.trans' g1 fun k hk U=>by have :=g2 k U; omega).trans' (lz _ _ _) fun k hk h=>by omega⟩
end Go.Hb
end
