/-
  Walks and plain laws that the law rests on, laid together. No conditions but those that each theorem names.
-/
import Derived.Test.YtffmhpaepdkabaaGreatDoorMnDeriveWalks7
set_option linter.unusedVariables false
set_option maxRecDepth 20000
set_option maxHeartbeats 1000000
open Array renaming getElem?_eq_some_iff→dB
open Bool renaming and_eq_true→gU,and_false→wh,and_true→Ea,noConfusion→eo
open Classical renaming not_not→jr
open Go.Calls renaming mono→lE
open Go.Proofs.Tryz renaming prog→aw
open Go.Value renaming bool→bU,ownBlock→iW,slice→bS
open Go.World renaming ownsRow→bw,ownsRow_nil→dC
open Int renaming toNat_natCast→mU
open List renaming append_assoc→dH,append_nil→ei,filterMap_append→zQ,flatMap_append→nC,flatMap_singleton→o5,getD_eq_getElem?_getD→da,getElem?_eq_getElem→cI,getElem?_eq_some_iff→fS,getElem?_zip_eq_some→jz,length_append→bM,length_nil→fU,length_singleton→e9,length_take→dQ,mem_of_getElem?→iR,nil_append→qc,prefix_append→uv,prefix_refl→zW,take_append_drop→xc,take_of_length_le→eU,toArray→bh
open Nat renaming le_refl→cD,lt_or_ge→fu,lt_succ_iff_lt_or_eq→EJ,not_lt_zero→N0,zero_le→jG
open Option renaming isSome_iff_exists→ph
open Go.Proofs.Tryz
open Go.Hb.ea Go.Proofs Go.Hb.fw Go.Hb.gl Go.Hb.kq Go.Hb.iw Go.Hb.jR Go.Hb.kN Go.Hb.lG Go.Hb.lV Go.Hb.jH Go.Hb.lg Go.Hb.nI

namespace Go.Hb
theorem nk {l:List Nat} {i:Nat} (h:i < l.length):(l.map bQ)[i]? =some (bQ<|l.getD i 0):=by rw [List.getElem?_map,da,cI h]; rfl
theorem Dk (B tb fb:Nat) (V:eu) (ve:Value) (F:aU) (xs:List bH) (n:Int) (w:World) (E:gn w B tb fb V ve F xs) (U:eN F xs):
 bp aw 99 (bh [aT tb,.int .i64 n]) w (fun v w'=>(∃ a c,v= .slice a (flagsOf xs n).length c∧Tg w' 0 3 (flagsOf xs n).length v ((flagsOf xs n).map bQ))∧Wk w w'):=by
 obtain ⟨ai,ce,ae⟩:=E.DT
 have ao:=U.xl
 refine enter func99 aa ntmps99 aa<|ag fun J=>ay<|J<|aB fun M=>ag fun A=>p mv<|p (lt aa aa)<|p mv<|gs (t:=7) aa (fun ac=> ?_) fun ac=> ?_
 refine aI aa<|aI aa<|aI aa<|aI aa<|aI aa<|aI aa<|aI aa<|p (bC aa)<|nl<|A<|ct aa<|ag fun i=>ay<|i<|rt<|tr<|aX aa ?_
 have q:=(sS (xs:=xs) (n:=n) ab).2
 rw [q]
 exact ⟨⟨none,0,aa,r6 _ _ _⟩,Md.refl _ _⟩
 refine aM aa mv<|aM aa mv<|aM aa (nc aa)<|aM aa (fa vc aa)<|aM aa (ld uC aa<|ae)<|aM aa (bJ zk aa aa)<|aM aa (ge aa aa)<|p (bu aa)<|nl<|A<|cd aa (fun Z=> ?_) fun Z=> ?_
 refine ag fun i=>ay<|i<|rt<|tr<|aX aa ?_
 have q:=(sS (xs:=xs) (n:=n) ab).2
 rw [q]
 exact ⟨⟨none,0,aa,r6 _ _ _⟩,Md.refl _ _⟩
 obtain ⟨k,rfl⟩:∃ k:Nat,n=(k:Int):=⟨n.toNat,ab⟩
 obtain ⟨x,I⟩:∃ x,xs[k]? =some x:=⟨_,cI ab⟩
 obtain ⟨aj,ak,ws,a,c,ah,C,G,Y⟩:=E.s8 I
 obtain ⟨al,O,am,an⟩:=sR I
 refine aQ<|M<|ag fun i=>p mv<|p (nc aa)<|p (fa vc aa)<|p (ld uC aa<|ah)<|p mv<|p (bc HA aa aa ab<|aO.ok (C)<|uN G)<|p (fa TJ aa)<|p (ld pC aa<|fA (f:=pI) (m:=2) (fun _=>rfl) C G 1 az)<|ay<|i<|rt<|aX aa ?_
 rw [O]
 exact ⟨⟨a,c,aa,Y⟩,Md.refl _ _⟩
theorem XF (B tb fb:Nat) (V:eu) (ve:Value) (F:aU) (xs:List bH) (n:Int) (w:World) (q:gn w B tb fb V ve F xs) (U:eN F xs):
 bp aw 124 (bh [aT tb,.int .i64 n]) w (fun v w'=>(∃ a c,v= .slice a (db F n).length c∧Tg w' 0 3 (db F n).length v ((db F n).map bQ))∧Wk w w'):=by
 obtain ⟨ai,ce,ae⟩:=q.DU
 have ao:=U.len
 refine enter func124 aa ntmps124 aa<|ag fun J=>ay<|J<|aB fun M=>ag fun C=>p mv<|p (lt aa aa)<|p mv<|gs (t:=7) aa (fun ac=> ?_) fun ac=> ?_
 refine aI aa<|aI aa<|aI aa<|aI aa<|aI aa<|aI aa<|aI aa<|aI aa<|aI aa<|aI aa<|p (bC aa)<|nl<|C<|ct aa<|ag fun i=>ay<|i<|rt<|tr<|aX aa ?_
 have A:=(vL (F:=F) (n:=n) ab).2
 rw [A]
 exact ⟨⟨none,0,aa,r6 _ _ _⟩,Md.refl _ _⟩
 refine aM aa mv<|aM aa mv<|aM aa (nc aa)<|aM aa (fa ng aa)<|aM aa (ld ib aa<|(a7 q.cells).trans aa)<|aM aa (nc aa)<|aM aa (fa jN aa)<|aM aa (ld ka aa<|ae)<|aM aa (bJ tM aa aa)<|aM aa (ge aa aa)<|p (bu aa)<|nl<|C<|cd aa (fun Z=> ?_) fun Z=> ?_
 refine ag fun i=>ay<|i<|rt<|tr<|aX aa ?_
 have A:=(vL (F:=F) (n:=n) ab).2
 rw [A]
 exact ⟨⟨none,0,aa,r6 _ _ _⟩,Md.refl _ _⟩
 obtain ⟨k,rfl⟩:∃ k:Nat,n=(k:Int):=⟨n.toNat,ab⟩
 obtain ⟨r,I⟩:∃ r,F.rules[k]? =some r:=⟨_,cI ab⟩
 obtain ⟨aj,ak,a,c,ah,E,G,Y⟩:=q.iN I
 obtain ⟨al,O,am,an⟩:=vK I
 refine aQ<|M<|ag fun i=>p mv<|p (nc aa)<|p (fa ng aa)<|p (ld ib aa<|(a7 q.cells).trans aa)<|p (nc aa)<|p (fa jN aa)<|p (ld ka aa<|ah)<|p mv<|p (bc nR aa aa ab<|aO.ok (E)<|nW G)<|p (fa uW aa)<|p (ld pC aa<|fA (f:=jx) (m:=8) (fun _=>rfl) E G 6 az)<|p aE<|nl<|i<|rt<|aX aa ?_
 rw [O]
 exact ⟨⟨a,c,aa,Y⟩,Md.refl _ _⟩
theorem I9 (a:Option Addr) (c:Nat) (l:List Nat) (x:Nat) (w:World) (J:aO w.heap a (l.map bQ)) (an:l.length≤1048576):
 bp aw 100 (bh [.slice a l.length c,bQ x]) w (fun v w'=>v= .bool (decide (x≠0∧x∈l))∧Wk w w'):=by
 refine enter func100 aa ntmps100 aa<|ag fun O=>ay<|O<|aB fun U=>ag fun V=>ay<|V<|aJ<|lp (fun I A M=> ∃ (i:Nat),(i≤l.length)∧(∀ j,j < i→¬(l.getD j 0=x∧x≠0))∧(M=w)∧(A 0= .slice a l.length c)∧(A 1=bQ x)∧(A 5=ak i)∧(l.length - i=I)) _ ⟨0,ab,(fun j C=>by omega),aa,aa,aa,aa,aa⟩ ?_
 rintro I A M ⟨i,hi,E,ae,aj,al,am,rfl⟩
 refine fx 0 aj<|fx 1 al<|fx 5 am ?_
 subst ae
 refine aB fun Y=>ag fun Z=>au (ak i)<|au (.slice a l.length c)<|p (bJ nu aa aa)<|p (lt aa aa)<|nl<|Z<|cd aa (fun ah=> ?_) fun ah=> ?_
 refine aQ<|Y<|aB fun q=>aJ<|ag fun G=>au (.slice a l.length c)<|au (ak i)<|p (bc kf aa aa ab<|aO.ok (J)<|bT ab)<|p (ld bz aa<|aO.gN (i:=i) J<|nk ab)<|au (bQ x)<|p (bK aa aa)<|p mv<|gs (t:=18) aa (fun heq=> ?_) fun heq=> ?_
 refine aM aa (aV (bQ x) aa)<|aM aa (cO aa aa)<|p (bC aa)<|nl<|G<|cd aa (fun ai=> ?_) fun ai=> ?_
 exact ag fun ac=>ay<|ac<|rt<|br<|tr<|tr<|br<|tr<|aX aa<|⟨by rw [decide_eq_true (show x≠0∧x∈l from ⟨ab,(show l.getD i 0=x by omega) ▸ dY ab⟩)]; rfl,Md.refl _ _⟩
 exact aQ<|bn<|q<|rg aa<|au (ak i)<|p (bF ((i+1:Nat):Int) aa aa<|bl ab ab)<|p aE<|nl<|tn<|⟨_,ab,i+1,ab,(fun j C=>by rcases fu j i with h | h <;> first | exact E j h | (rw [show j=i by omega]; omega)),aa,aa,aa,aa,aa⟩
 exact aI aa<|aI aa<|p (bu aa)<|nl<|G<|cf aa<|aQ<|bn<|q<|rg aa<|au (ak i)<|p (bF ((i+1:Nat):Int) aa aa<|bl ab ab)<|p aE<|nl<|tn<|⟨_,ab,i+1,ab,(fun j C=>by rcases fu j i with h | h <;> first | exact E j h | (rw [show j=i by omega]; omega)),aa,aa,aa,aa,aa⟩
 exact ext<|bf<|bf<|be<|U<|ag fun q=>p aE<|nl<|q<|rt<|aX aa<|⟨by rw [decide_eq_false (show ¬(x≠0∧x∈l) from fun h=>by obtain ⟨j,C,e⟩:=nZ 0 h.2; exact E j ab ⟨e,h.1⟩)]; rfl,Md.refl _ _⟩
theorem Xx (B tb fb:Nat) (V:eu) (ve:Value) (F:aU) (xs:List bH) (n:Int) (w:World) (A:gn w B tb fb V ve F xs) (J:eN F xs):
 bp aw 183 (bh [aT tb,.int .i64 n]) w (fun v w'=>v= .bool (nQ F n)∧Wk w w'):=by
 obtain ⟨ap,ce,am⟩:=A.DU
 have aC:=J.len
 refine enter func183 aa ntmps183 aa<|ag fun U=>ay<|U<|aB fun Y=>ag fun I=>p mv<|p (lt aa aa)<|p mv<|gs (t:=8) aa (fun al=> ?_) fun al=> ?_
 exact aI aa<|aI aa<|aI aa<|aI aa<|aI aa<|aI aa<|aI aa<|aI aa<|aI aa<|aI aa<|p (bC aa)<|nl<|I<|ct aa<|ag fun C=>ay<|C<|rt<|tr<|aX aa<|⟨by unfold nQ; rw [decide_eq_false (show ¬(0≤n∧n < (F.rules.length:Int)) by omega)]; rfl,Md.refl _ _⟩
 refine aM aa mv<|aM aa mv<|aM aa (nc aa)<|aM aa (fa ng aa)<|aM aa (ld ib aa<|(a7 A.cells).trans aa)<|aM aa (nc aa)<|aM aa (fa jN aa)<|aM aa (ld ka aa<|am)<|aM aa (bJ tM aa aa)<|aM aa (ge aa aa)<|p (bu aa)<|nl<|I<|cd aa (fun ak=> ?_) fun ak=> ?_
 exact ag fun C=>ay<|C<|rt<|tr<|aX aa<|⟨by unfold nQ; rw [decide_eq_false (show ¬(0≤n∧n < (F.rules.length:Int)) by omega)]; rfl,Md.refl _ _⟩
 obtain ⟨k,rfl⟩:∃ k:Nat,n=(k:Int):=⟨n.toNat,ab⟩
 obtain ⟨r,G⟩:∃ r,F.rules[k]? =some r:=⟨_,cI ab⟩
 obtain ⟨aq,ar,a,c,an,M,O,ai⟩:=A.iN G
 obtain ⟨au,ac,av,ax⟩:=vK G
 have aA:=(J.iN G).1
 refine aQ<|Y<|aB fun C=> ?_
 have i:(fun w'=>Wk w w') w.drew:=(Md.refl _ _).drew
 refine bN (fun w'=>Wk w w') aa wide i<|aH 0 aa (fun _ _=>mv) i<|aH 1 aa (fun _ _=>nc aa) i<|aH 2 aa (fun _ _=>fa ng aa) i<|aH 3 aa (fun w' q=>ld ib aa<|Wk.aR q<|(a7 A.cells).trans aa) i<|aH 4 aa (fun _ _=>nc aa) i<|aH 5 aa (fun _ _=>fa jN aa) i<|aH 6 aa (fun w' q=>ld ka aa<|Wk.aR q<|an) i<|aH 7 aa (fun _ _=>mv) i<|aH 8 aa (fun _ _=>bc nR aa aa ab<|aO.ok (M.wk i)<|nW O) i<|aH 9 aa (fun _ _=>fa uW aa) i<|aH 10 aa (fun w' q=>ld pC aa<|Wk.aR q<|fA (f:=jx) (m:=8) (fun _=>rfl) M O 6 az) i<|aH 11 aa (fun _ _=>mv) i<|aH 12 aa (fun _ _=>nc aa) i<|aH 13 aa (fun _ _=>fa ng aa) i<|aH 14 aa (fun w' q=>ld ib aa<|Wk.aR q<|(a7 A.cells).trans aa) i<|aH 15 aa (fun _ _=>nc aa) i<|aH 16 aa (fun _ _=>fa tj aa) i<|aH 17 aa (fun _ _=>kg sQ aa aa ab) i<|aH 18 aa (fun w' q=>ld bz aa<|Wk.aR q<|IP A (k:=0) ab) i<|he 19 aa aj<|cl FF (I9 a c r.next (F.sp.getD 0 0) w.drew (ai.wk i).cV.2 ab) aa fun aD ao ah=> ?_
 obtain ⟨rfl,ae⟩:=ah
 have E:(fun w'=>Wk w w') ao:=i.trans ae
 refine ⟨E,?_⟩
 exact aH 20 aa (fun _ _=>aE) E<|hn aj<|C<|ag fun Z=>p mv<|p (no aa)<|p aE<|nl<|Z<|rt<|aX aa<|⟨by unfold nQ; rw [decide_eq_true (show 0≤(k:Int)∧(k:Int) < (F.rules.length:Int) by omega),ac]; rfl,E⟩
theorem XC (B tb fb:Nat) (V:eu) (ve:Value) (F:aU) (xs:List bH) (n k:Int) (w:World) (C:gn w B tb fb V ve F xs) (A:eN F xs):
 bp aw 64 (bh [aT tb,.int .i64 n,.int .i64 k]) w (fun v w'=>v= .bool (ma F xs n k)∧Wk w w'):=by
 refine enter func64 aa ntmps64 aa<|ag fun G=>ay<|G<|aB fun I=>ag fun q=>p mv<|p (lt aa aa)<|p mv<|gs (t:=10) aa (fun ac=> ?_) fun ac=> ?_
 exact aI aa<|aI aa<|p (bC aa)<|nl<|q<|ct aa<|ag fun i=>ay<|i<|rt<|tr<|aX aa<|⟨by unfold ma; rw [decide_eq_false (show ¬(0≤k∧k < 5) by omega)]; rfl,Md.refl _ _⟩
 refine aM aa mv<|aM aa (gt aa aa)<|p (bu aa)<|nl<|q<|cd aa (fun Z=> ?_) fun Z=> ?_
 exact ag fun i=>ay<|i<|rt<|tr<|aX aa<|⟨by unfold ma; rw [decide_eq_false (show ¬(0≤k∧k < 5) by omega)]; rfl,Md.refl _ _⟩
 obtain ⟨k,rfl⟩:∃ m:Nat,k=(m:Int):=⟨k.toNat,ab⟩
 refine aQ<|I<|ag fun i=>p mv<|p mv<|e<|cl A1 (Dk B tb fb V ve F xs n w C A) aa fun ah ae O=> ?_
 obtain ⟨⟨a,c,rfl,Y⟩,hE16⟩:=O
 have E:=C.wk hE16
 refine ay<|i<|ag fun J=>p mv<|p mv<|p (nc aa)<|p (fa ng aa)<|p (ld ib aa<|(a7 E.cells).trans aa)<|p mv<|p (nc aa)<|p (fa tj aa)<|p (kg sQ aa aa ab)<|p (ld bz aa<|IP E ab)<|e<|cl FF (I9 a c (flagsOf xs n) (F.sp.getD k 0) ae Y.cV.2<|by have :=(og A n).1; omega) aa fun ai aj U=> ?_
 obtain ⟨rfl,M⟩:=U
 exact ay<|J<|rt<|aX aa<|⟨by unfold ma rP; rw [decide_eq_true (show 0≤((k:Nat):Int)∧((k:Nat):Int) < 5 by omega),mU]; rfl,hE16.trans M⟩
theorem Dm (B tb fb:Nat) (V:eu) (ve:Value) (F:aU) (xs:List bH) (fs:List Nat) (a:Option Addr) (c kd:Nat) (w:World) (ac:gn w B tb fb V ve F xs) (bb:eN F xs) (av:aO w.heap a (fs.map bQ)) (b8:fs.length≤64) (bq:fs.Pairwise (· < ·)):
 bp aw 120 (bh [aT tb,.slice a fs.length c,ak kd]) w (fun v w'=>bw w' w.heap.size 3 1 v (aW F fs kd).length ((aW F fs kd).map bQ)∧Wk w w'):=by
 have ch:=bb.len
 obtain ⟨ar,cr,bV⟩:=ac.DU
 refine enter func120 aa ntmps120 aa<|ag fun aZ=>ay<|aZ<|ag fun a2=>p aE<|nl<|a2<|aB fun a3=>ag fun a4=>ay<|a4<|aJ<|lp (fun U O ah=> ∃ (i:Nat) (v:Value),(i≤F.rules.length)∧(bw ah w.heap.size 3 1 v (mG F fs kd i).length<|(mG F fs kd i).map bQ)∧(Wk w ah)∧(O 0=aT tb)∧(O 1= .slice a fs.length c)∧(O 2=ak kd)∧(O 7=v)∧(O 8=ak i)∧(F.rules.length - i=U)) _ ⟨0,.slice none 0 0,ab,(dC _ _ _ _),(Md.refl _ _),aa,aa,aa,aa,aa,aa⟩ ?_
 rintro U O ah ⟨i,v,hi,aN,J,bt,bv,bx,bA,bB,rfl⟩
 refine fx 0 bt<|fx 1 bv<|fx 2 bx<|fx 7 bA<|fx 8 bB<|aB fun a5=>ag fun a8=>au (ak i)<|au (aT tb)<|p (nc aa)<|p (fa ng aa)<|p (ld ib aa<|(a7 (ac.wk J).cells).trans aa)<|p (nc aa)<|p (fa jN aa)<|p (ld ka aa<|Wk.aR J bV)<|p (bJ tM aa aa)<|p (lt aa aa)<|nl<|a8<|cd aa (fun bo=> ?_) fun bo=> ?_
 obtain ⟨r,aS⟩:∃ r,F.rules[i]? =some r:=⟨_,cI ab⟩
 obtain ⟨bY,b0,ae,rc,bU,ax,aP,b4⟩:=(ac.wk J).iN aS
 obtain ⟨b1,b2,b3,aq⟩:=vK aS
 have cb:=We F fs kd i
 have ce:((r,bS ae r.next.length rc):dp×Value).1.flag=r.flag:=rfl
 have cg:((r,bS ae r.next.length rc):dp×Value).1.kind=r.kind:=rfl
 refine aQ<|a5<|aB fun Z=>aJ<|ag fun a9=>au (aT tb)<|p (nc aa)<|p (fa ng aa)<|p (ld ib aa<|(a7 (ac.wk J).cells).trans aa)<|p (nc aa)<|p (fa jN aa)<|p (ld ka aa<|bU)<|au (ak i)<|p (bc nR aa aa ab<|aO.ok (ax)<|nW aP)<|p (di rq aa (aa)<|fA (f:=jx) (m:=8) (fun _=>rfl) ax aP)<|e<|fg D4 fun ai cn b6 aG bi=> ?_
 have cl:=aG.size
 refine e<|gj Bc aa aa aa aa bi (by show 8≤8; omega) fun aY aC bd=> ?_
 have aA:Wk ah aY:=aG.md.trans' aC fun q cc h=>by omega
 have ci:=aC.size
 have bk:aY.heap[ai]? =some (.cells (jx (r,.slice ae r.next.length rc)).toArray 174 (0,0)):=bd
 have br:=a6 aN aA
 refine nl<|a9<|ag fun ba=>ay<|ba<|aJ<|lp (fun U E C=> ∃ (k:Nat) (v2:Value),(k≤fs.length)∧(bw C w.heap.size 3 1 v2 (mG F fs kd i++nm r fs kd i k).length<|(mG F fs kd i++nm r fs kd i k).map bQ)∧((mG F fs kd i++nm r fs kd i k).length≤i+k)∧(C.heap[ai]? =some (.cells (jx (r,.slice ae r.next.length rc)).toArray 174 (0,0)))∧(Wk w C)∧(E 0=aT tb)∧(E 1= .slice a fs.length c)∧(E 2=ak kd)∧(E 7=v2)∧(E 8=ak i)∧(E 9=aT ai)∧(E 10=ak k)∧(fs.length - k=U)) _ ⟨0,v,ab,(by rw [Kf,ei]; exact br),(by rw [Kf,ei]; omega),bk,(J.trans aA),aa,aa,aa,aa,aa,aa,aa,aa⟩ ?_
 rintro U E C ⟨k,v2,b9,M,ca,Y,I,bD,bE,bL,bO,bP,bR,bG,rfl⟩
 refine fx 0 bD<|fx 1 bE<|fx 2 bL<|fx 7 bO<|fx 8 bP<|fx 9 bR<|fx 10 bG<|aB fun a0=>ag fun an=>au (ak k)<|au (.slice a fs.length c)<|p (bJ nu aa aa)<|p (lt aa aa)<|p mv<|gs (t:=37) aa (fun hk=> ?_) fun hk=> ?_
 refine aM aa (fa uV aa)<|aM aa (ld bz aa<|(a7 Y).trans aa)<|aM aa (aV (ak kd) aa)<|aM aa (bK aa aa)<|p (bC aa)<|nl<|an<|cd aa (fun aK=> ?_) fun aK=> ?_
 refine aQ<|a0<|aB fun ao=>aJ<|aB fun a1=> ?_
 have A:(fun w'=>Wk C w') C.drew:=(Md.refl _ _).drew
 refine bN (fun w'=>Wk C w') aa wide A<|bI 0 aa (.slice a fs.length c) A<|bI 1 aa (ak k) A<|aH 2 aa (fun _ _=>bc kf aa aa ab<|aO.ok (av.wk<|I.trans A)<|bT ab) A<|aH 3 aa (fun w' al=>ld bz aa<|Wk.aR al<|aO.gN (i:=k) (av.wk I)<|nk ab) A<|aH 4 aa (fun _ _=>fa TK aa) A<|aH 5 aa (fun w' al=>ld bz aa<|Wk.aR al<|(a7 Y).trans aa) A<|aH 6 aa (fun _ _=>bK aa aa) A<|hn aj<|a1<|cd aa (fun am=> ?_) fun am=> ?_
 have aL:=Wo (kd:=kd) (i:=i) bq (show k < fs.length by omega) (show fs.getD k 0=r.flag by omega) (show r.kind=kd by omega)
 refine rg aa<|au (v2)<|au (ak i)<|e<|fZ nq aa aa fun bZ bX b5 aF bg=> ?_
 have cj:=aF.size
 have G:Wk C bX:=A.trans aF.md
 refine e<|ap nq (a6 M G) aa (by have :=I.size; have :=G.size; omega) aa (aO.ec bg) (aa) (aa) ab ab fun bW cm bs aD ck b7=> ?_
 have bj:=Wk.own (I.trans G) (a6 M G) aD<|cD _
 have bm:=aD.aJ (G.aJ Y) fun h=>dI (a6 M G) (G.aJ Y) az h
 exact p aE<|nl<|bn<|ao<|rg aa<|au (ak k)<|p (bF ((k+1:Nat):Int) aa aa<|bl ab ab)<|p aE<|nl<|tn<|⟨_,ab,k+1,bW,ab,(by rw [aL,← dH,List.map_append,bM]; exact bs),(by rewrite [aL,← dH,bM]; simp only [e9]; omega),bm,bj,aa,aa,aa,aa,aa,aa,aa,aa⟩
 exact aQ<|bn<|ao<|rg aa<|au (ak k)<|p (bF ((k+1:Nat):Int) aa aa<|bl ab ab)<|p aE<|nl<|tn<|⟨_,ab,k+1,v2,ab,(by rw [Ke (show k < fs.length by omega) (fun h=>am ab)]; exact a6 M A),(by rewrite [Ke (show k < fs.length by omega) (fun h=>am ab)]; omega),(A.aJ Y),(I.trans A),aa,aa,aa,aa,aa,aa,aa,aa⟩
 exact ext<|bf<|bf<|be<|bn<|Z<|rg aa<|au (ak i)<|p (bF ((i+1:Nat):Int) aa aa<|bl ab ab)<|p aE<|nl<|tn<|⟨_,ab,i+1,v2,ab,(by rw [← Kd (r:=r) aq (.inr fun h=>aK ab)]; exact M),I,aa,aa,aa,aa,aa,aa⟩
 exact aI aa<|aI aa<|aI aa<|aI aa<|p (bu aa)<|nl<|an<|cf aa<|ext<|bf<|bf<|be<|bn<|Z<|rg aa<|au (ak i)<|p (bF ((i+1:Nat):Int) aa aa<|bl ab ab)<|p aE<|nl<|tn<|⟨_,ab,i+1,v2,ab,(by rw [← Kd (r:=r) aq (.inl (show k=fs.length by omega))]; exact M),I,aa,aa,aa,aa,aa,aa⟩
 refine ext<|bf<|bf<|be<|a3<|ag fun Z=>au (v)<|p (cU (v) aa)<|nl<|Z<|rt<|aX aa ?_
 have hn:mG F fs kd i=aW F fs kd:=by rw [show i=F.rules.length by omega]; rfl
 rw [← hn]
 exact ⟨aN,J⟩
theorem XN (B tb fb:Nat) (V:eu) (ve:Value) (F:aU) (xs:List bH) (n:Int) (w:World) (q:gn w B tb fb V ve F xs) (i:eN F xs):
 bp aw 76 (bh [aT tb,.int .i64 n]) w (fun v w'=>bw w' w.heap.size 3 1 v (aW F (flagsOf xs n) 2).length ((aW F (flagsOf xs n) 2).map bQ)∧Wk w w'):=by
 refine enter func76 aa ntmps76 aa<|ag fun A=>ay<|A<|ag fun C=>au (aT tb)<|au (.int .i64 n)<|e<|cl A1 (Dk B tb fb V ve F xs n w q i) aa fun Z U J=> ?_
 obtain ⟨⟨a,c,rfl,M⟩,hE8⟩:=J
 have Y:=hE8.size
 refine ay<|C<|ag fun E=>au (aT tb)<|p mv<|e<|cl Aw (Dm B tb fb V ve F xs (flagsOf xs n) a c 2 U (q.wk hE8) i M.cV.2 (og i n).1 (og i n).2.1) aa fun v11 ac I=> ?_
 obtain ⟨O,G⟩:=I
 exact ay<|E<|rt<|aX aa<|⟨eE O ab,hE8.trans G⟩
theorem XJ (B tb fb:Nat) (V:eu) (ve:Value) (F:aU) (xs:List bH) (n:Int) (w:World) (q:gn w B tb fb V ve F xs) (i:eN F xs):
 bp aw 74 (bh [aT tb,.int .i64 n]) w (fun v w'=>bw w' w.heap.size 3 1 v (aW F (flagsOf xs n) 1).length ((aW F (flagsOf xs n) 1).map bQ)∧Wk w w'):=by
 refine enter func74 aa ntmps74 aa<|ag fun A=>ay<|A<|ag fun C=>au (aT tb)<|au (.int .i64 n)<|e<|cl A1 (Dk B tb fb V ve F xs n w q i) aa fun Z U J=> ?_
 obtain ⟨⟨a,c,rfl,M⟩,hE8⟩:=J
 have Y:=hE8.size
 refine ay<|C<|ag fun E=>au (aT tb)<|p mv<|e<|cl Aw (Dm B tb fb V ve F xs (flagsOf xs n) a c 1 U (q.wk hE8) i M.cV.2 (og i n).1 (og i n).2.1) aa fun v11 ac I=> ?_
 obtain ⟨O,G⟩:=I
 exact ay<|E<|rt<|aX aa<|⟨eE O ab,hE8.trans G⟩
theorem XM (B tb fb:Nat) (V:eu) (ve:Value) (F:aU) (xs:List bH) (n:Int) (w:World) (q:gn w B tb fb V ve F xs) (i:eN F xs):
 bp aw 78 (bh [aT tb,.int .i64 n]) w (fun v w'=>bw w' w.heap.size 3 1 v (aW F (db F n) 2).length ((aW F (db F n) 2).map bQ)∧Wk w w'):=by
 refine enter func78 aa ntmps78 aa<|ag fun A=>ay<|A<|ag fun C=>au (aT tb)<|au (.int .i64 n)<|e<|cl Pc (XF B tb fb V ve F xs n w q i) aa fun Z U J=> ?_
 obtain ⟨⟨a,c,rfl,M⟩,hE8⟩:=J
 have Y:=hE8.size
 refine ay<|C<|ag fun E=>au (aT tb)<|p mv<|e<|cl Aw (Dm B tb fb V ve F xs (db F n) a c 2 U (q.wk hE8) i M.cV.2 (tK i n).1 (tK i n).2.1) aa fun v11 ac I=> ?_
 obtain ⟨O,G⟩:=I
 exact ay<|E<|rt<|aX aa<|⟨eE O ab,hE8.trans G⟩
end Go.Hb
section
namespace Go.Hb
open Go.Hb.ox
theorem LG {ps:List Tx} {w:Tx} {i:Nat} (hi:i < ps.length) (h:cJ (ps.getD i []) (w.getD i 0)=false):od ps w=false :=by
 unfold od
 rw [Bool.and_eq_false_iff]
 refine .inr ?_
 rw [List.all_eq_false]
 exact ⟨i,by simpa using hi,by rw [h]; exact eo⟩
theorem LI {ps:List Tx} {w:Tx} (a:ps.length≤w.length) (h:∀ i,i < ps.length→cJ (ps.getD i []) (w.getD i 0)=true):od ps w=true :=by
 unfold od
 rw [gU,decide_eq_true a,List.all_eq_true]
 exact ⟨aa,fun i hi=>h i<|by simpa using hi⟩
theorem LH {ps:List Tx} {w:Tx} (h:w.length < ps.length):od ps w=false :=by
 unfold od; rw [decide_eq_false ab]; rfl
theorem Uv (s pr:List UInt8) (w:World) (hs:s.length≤1099511627776) (hp:pr.length≤1099511627776):
 bp aw 147 (bh [str s,str pr]) w (fun v w'=>v= .bool (decide (s.take pr.length=pr))∧Wk w w'):=by
 refine enter func147 aa ntmps147 aa<|ag fun a=>ay<|a<|ag fun i=>au (str s)<|au (str pr)<|e<|cl AM (Cq s pr _ hs hp) aa fun C E A=> ?_
 obtain ⟨rfl,q⟩:=A
 exact ay<|i<|rt<|aX aa<|⟨aa,q⟩
theorem Uw (s pr:List UInt8) (w:World) (hs:s.length≤1099511627776) (hp:pr.length≤1099511627776):
 bp aw 145 (bh [str s,str pr]) w (fun v w'=>v= .bool (decide (pr.length≤s.length∧s.drop (s.length - pr.length)=pr))∧Wk w w'):=by
 refine enter func145 aa ntmps145 aa<|ag fun a=>ay<|a<|ag fun i=>au (str s)<|au (str pr)<|e<|cl AL (Cr s pr _ hs hp) aa fun C E A=> ?_
 obtain ⟨rfl,q⟩:=A
 exact ay<|i<|rt<|aX aa<|⟨aa,q⟩
theorem WO (ps:List Tx) (a:Option Addr) (c:Nat) (i:Nat) (b:UInt8) (w:World) (C:aO w.heap a (lj ps)) (hi:i < ps.length) (ac:ps.length≤4096):
 bp aw 212 (bh [.agg [.slice a ps.length c].toArray,ak i,.int .u8 b.toNat]) w (fun v w'=>v= .bool (cJ (ps.getD i []) b)∧Wk w w'):=by
 refine enter func212 aa ntmps212 aa<|ag fun G=>e<|iZ aa fun J E V q M=> ?_
 have A:bP E.heap J [.slice a ps.length c]:=M
 refine ay<|G<|ag fun I=>au (ak i)<|p (ge aa aa)<|p mv<|gs (t:=9) aa (fun Z=> ?_) fun h=>absurd ab h
 refine aM aa (aV (ak i) aa)<|aM aa (fa mB aa)<|aM aa (ld nJ aa<|A.bG 0)<|aM aa (bJ qV aa aa)<|aM aa (lt aa aa)<|p (bC aa)<|p mv<|gs (t:=16) aa (fun Y=> ?_) fun h=>absurd ab h
 refine aM aa (fa mB aa)<|aM aa (ld nJ aa<|A.bG 0)<|aM aa (aV (ak i) aa)<|aM aa (bc Hz aa aa ab<|aO.ok (C.wk q.md)<|GG ab)<|aM aa (di kO aa (aa)<|GF (C.wk q.md) hi)<|aM aa (aV (.int .u8 b.toNat) aa)<|eg aa aa aa<|cl AO (IX (cJ<|ps.getD i []) b E) aa fun ae ah U=> ?_
 obtain ⟨rfl,O⟩:=U
 exact p (bC aa)<|ay<|I<|rt<|aX aa<|⟨aa,q.md.trans O⟩
theorem KD (ps:List Tx) (a:Option Addr) (c:Nat) (s:Tx) (w:World) (ax:aO w.heap a (lj ps)) (aF:ps.length≤4096):
 bp aw 148 (bh [.agg [.slice a ps.length c].toArray,str s]) w (fun v w'=>v= .bool (od ps s)∧Wk w w'):=by
 refine enter func148 aa ntmps148 aa<|ag fun ah=>e<|iZ aa fun V ae aN G av=> ?_
 have M:bP ae.heap V [.slice a ps.length c]:=av
 refine ay<|ah<|aB fun am=>ag fun an=>au (str s)<|p (cz u9 aa aa)<|p (fa mB aa)<|p (ld nJ aa<|M.bG 0)<|p (bJ qV aa aa)<|p (lt aa aa)<|nl<|an<|cd aa (fun aC=> ?_) fun aC=> ?_
 exact ag fun I=>ay<|I<|rt<|tr<|aX aa<|⟨by rw [LH ab]; rfl,G.md⟩
 refine aQ<|am<|aB fun I=>ag fun ao=>p (fa mB aa)<|p (ld nJ aa<|M.bG 0)<|p (bJ qV aa aa)<|p mv<|nl<|ao<|aJ<|lp (fun Y E A=> ∃ (i:Nat),(i≤ps.length)∧(∀ k,k < i→cJ (ps.getD k []) (s.getD k 0)=true)∧(Wk ae A)∧(E 1=str s)∧(E 2=aT V)∧(E 14=ak (ps.length))∧(E 15=ak i)∧(ps.length - i=Y)) _ ⟨0,ab,(fun k hk=>absurd hk<|N0 _),(Md.refl _ _),aa,aa,aa,aa,aa⟩ ?_
 rintro Y E A ⟨i,hi,ac,C,aG,aL,aI,aK,rfl⟩
 refine fx 1 aG<|fx 2 aL<|fx 14 aI<|fx 15 aK<|ag fun ap=>p (lt aa aa)<|nl<|ap<|aB fun aq=>cd aa (fun aD=> ?_) fun aD=> ?_
 refine aQ<|aq<|aB fun J=>aJ<|ag fun ar=>au (ak i)<|p (cU (ak i) aa)<|nl<|ar<|aB fun ai=> ?_
 have q:(fun w'=>Wk A w') A.drew:=(Md.refl _ _).drew
 refine bN (fun w'=>Wk A w') aa wide q<|aH 0 aa (fun w' aA=>di m4 aa (aa) fun j aP=>(Wk.B aA<|Wk.B C M).bG j) q<|bI 1 aa (ak i) q<|bI 2 aa (str s) q<|bI 3 aa (ak i) q<|aH 4 aa (fun _ _=>eX u9 aa aa ab) q<|he 5 aa aj<|cl PL (WO ps a c i (s.getD i 0) A.drew (ax.wk<|G.md.trans<|C.trans q) ab aF) aa fun aR aM az=> ?_
 obtain ⟨rfl,O⟩:=az
 have Z:(fun w'=>Wk A w') aM:=q.trans O
 refine ⟨Z,?_⟩
 refine aH 6 aa (fun _ _=>no aa) Z<|hn aj<|ai<|cb aa (fun U=> ?_) fun U=> ?_
 exact ag fun al=>ay<|al<|rt<|br<|tr<|tr<|br<|tr<|aX aa<|⟨by rw [LG (i:=i) ab (by simpa using U)]; rfl,G.md.trans<|C.trans<|q.trans O⟩
 exact aQ<|bn<|J<|rg aa<|p (ad aa aa<|bY ab)<|p mv<|nl<|tn<|⟨_,ab,i+1,ab,(fun k hk=>by rcases EJ.1 hk with h | rfl; exact ac k h; simpa using U),(C.trans<|q.trans O),aa,aa,aa,aa,aa⟩
 exact ext<|bf<|bf<|be<|I<|ag fun J=>p aE<|nl<|J<|rt<|aX aa<|⟨by rw [LI ab (fun k hk=>ac k ab)]; rfl,G.md.trans C⟩
section
variable {r:dp} {s:Tx}
theorem HT (h:(dq r.cond).2≠0):iH r s=false :=by unfold iH; rw [decide_eq_false (fun h2=>h h2.1)]; rfl
theorem HU (h:s.length≤r.strip.length):iH r s=false :=by unfold iH; rw [decide_eq_false (fun h2=>by omega)]; rfl
variable (h:(dq r.cond).2=0) (h1:r.strip.length < s.length)
include h h1
theorem x6 (hk:r.kind=2):iH r s=(decide (s.drop (s.length - r.strip.length)=r.strip) && qv (dq r.cond).1 s):=by unfold iH; rw [decide_eq_true ⟨h,h1⟩,if_pos hk]; rfl
theorem x4 (hk:r.kind=1):iH r s=(decide (s.take r.strip.length=r.strip) && od (dq r.cond).1 s):=by unfold iH; rw [decide_eq_true ⟨h,h1⟩,if_neg ab,if_pos hk]; rfl
omit h h1 in
theorem HS (hk:r.kind≠1) (a:r.kind≠2):iH r s=false :=by unfold iH; rw [if_neg a,if_neg hk,wh]
end
theorem WX (ps:List Tx) (a:Option Addr) (c:Nat) (s:Tx) (w:World) (U:aO w.heap a (lj ps)) (ac:ps.length≤4096) (ak:s.length≤1048576):
 bp aw 146 (bh [.agg [.slice a ps.length c].toArray,str s]) w (fun v w'=>v= .bool (qv ps s)∧Wk w w'):=by
 refine enter func146 aa ntmps146 aa<|ag fun J=>e<|iZ aa fun M q ah G O=> ?_
 have E:bP q.heap M [.slice a ps.length c]:=O
 refine ay<|J<|aB fun I=> ?_
 have i:(fun w'=>Wk q w') q.drew:=(Md.refl _ _).drew
 refine bN (fun w'=>Wk q w') aa wide i<|bI 0 aa (str s) i<|aH 1 aa (fun _ _=>cz u9 aa aa) i<|aH 2 aa (fun _ _=>fa mB aa) i<|aH 3 aa (fun w' A=>ld nJ aa<|Wk.aR A<|E.bG 0) i<|aH 4 aa (fun _ _=>bJ qV aa aa) i<|aH 5 aa (fun _ _=>ge aa aa) i<|aH 6 aa (fun _ _=>mv) i<|iK (t:=11) aa (fun Z=> ?_) fun Z=> ?_
 refine bm 7 aa (fun w' A=>di m4 aa (aa) fun j ai=>(Wk.B A E).bG j) i<|bm 8 aa (fun _ _=>aV (str s) aa) i<|bm 9 aa (fun _ _=>aV (str s) aa) i<|bm 10 aa (fun _ _=>cz u9 aa aa) i<|bm 11 aa (fun _ _=>fa mB aa) i<|bm 12 aa (fun w' A=>ld nJ aa<|Wk.aR A<|E.bG 0) i<|bm 13 aa (fun _ _=>bJ qV aa aa) i<|bm 14 aa (fun _ _=>dR ((s.length - ps.length:Nat):Int) aa aa<|bl ab ab) i<|bm 15 aa (fun _ _=>mh u9 aa aa ab) i<|l7 16 aa aj aa aa aa<|cl FP (KD ps a c (s.drop<|s.length - ps.length) q.drew (U.wk<|G.md.trans i) ac) aa fun v21 ae Y=> ?_
 obtain ⟨rfl,V⟩:=Y
 have C:(fun w'=>Wk q w') ae:=i.trans V
 refine ⟨C,?_⟩
 exact aH 17 aa (fun _ _=>bC aa) C<|aH 18 aa (fun _ _=>aE) C<|hn aj<|I<|rt<|aX aa<|⟨by unfold qv; rw [decide_eq_true (show ps.length≤s.length by omega)]; rfl,G.md.trans C⟩
 exact a8 7 aa i<|a8 8 aa i<|a8 9 aa i<|a8 10 aa i<|a8 11 aa i<|a8 12 aa i<|a8 13 aa i<|a8 14 aa i<|a8 15 aa i<|a8 16 aa i<|aH 17 aa (fun _ _=>bu aa) i<|aH 18 aa (fun _ _=>aE) i<|hn aj<|I<|rt<|aX aa<|⟨by unfold qv; rw [decide_eq_false (show ¬ps.length≤s.length by omega)]; rfl,G.md.trans i⟩
theorem Tz (r:dp) (u:Value) (s:Tx) (w:World) (a9:r.strip.length≤1048576) (a5:r.add.length≤1048576) (aT:r.cond.length≤1048576) (aW:s.length≤1048576):
 bp aw 94 (bh [.agg (fD (r,u)).toArray,str s]) w (fun v w'=>v= .bool (iH r s)∧Wk w w'):=by
 refine enter func94 aa ntmps94 aa<|ag fun an=>e<|iZ aa fun av am a1 ai aA=> ?_
 have a8:((r,u):dp×Value).1.strip.length=r.strip.length:=rfl
 have a7:((r,u):dp×Value).1.kind=r.kind:=rfl
 have a6:((r,u):dp×Value).1.add.length=r.add.length:=rfl
 have Z:bP am.heap av (fD (r,u)):=aA
 refine ay<|an<|ag fun ao=>p (fa Ir aa)<|p (ld bV aa<|Z.bG 5)<|e<|cl FO (GR r.cond am aT) aa fun v10 aY aG=> ?_
 obtain ⟨⟨ac,rfl,ak⟩,hE10⟩:=aG
 obtain ⟨a,c,rfl⟩:=cE ak
 have ah:=(ba ak).2
 have a3:=GP r.cond
 have bc:=ai.size
 have bb:=hE10.size
 refine p mv<|p (xt aa aa)<|p (xt aa aa)<|e<|al zw fun ax bl a2 aj aC=> ?_
 have bd:=aj.size
 refine e<|dj qs aa aa aa aa (aC) (by simp) fun O aF az=> ?_
 have I:Wk aY O:=aj.md.trans' aF fun q a4 h=>by omega
 have ae:bP O.heap ax [.slice a (dq r.cond).1.length c]:=az
 have G:=Wk.B (hE10.trans I) Z
 have i:=ai.md.trans<|hE10.trans I
 refine ay<|ao<|aB fun ap=>ag fun Y=>p mv<|p (cO aa aa)<|p mv<|gs (t:=15) aa (fun aO=> ?_) fun aO=> ?_
 refine aI aa<|aI aa<|aI aa<|aI aa<|aI aa<|aI aa<|p (bC aa)<|nl<|Y<|ct aa<|ag fun A=>ay<|A<|rt ?_
 exact tr<|aX aa<|⟨by rw [HT ab]; rfl,i⟩
 refine aM aa (aV (str s) aa)<|aM aa (cz u9 aa aa)<|aM aa (fa tw aa)<|aM aa (ld bV aa<|G.bG 3)<|aM aa (cz u9 aa aa)<|aM aa (le aa aa)<|p (bu aa)<|nl<|Y<|cd aa (fun aU=> ?_) fun aU=> ?_
 exact ag fun A=>ay<|A<|rt<|tr<|aX aa<|⟨by rw [HU ab]; rfl,i⟩
 refine aQ<|ap<|aB fun A=>ag fun aq=>p (fa Iq aa)<|p (ld bz aa<|G.bG 0)<|nl<|aq<|aJ<|ag fun ar=>p (bK aa aa)<|ay<|ar ?_
 refine cd aa (fun aS=> ?_) fun aS=> ?_
 refine ag fun C=>au (str s)<|p (fa tw aa)<|p (ld bV aa<|G.bG 3)<|e<|cl Po (Uw s r.strip O ab ab) aa fun v30 aZ aH=> ?_
 obtain ⟨rfl,J⟩:=aH
 refine p mv<|gb (t:=31) aa (fun V=> ?_) fun V=> ?_
 refine aM aa (di m4 aa (aa) fun j aP=>(Wk.B J ae).bG j)<|aM aa (aV (str s) aa)<|eg aa aa aa<|cl Pp (WX (dq r.cond).1 a c s aZ (ah.wk<|I.trans J) ab aW) aa fun bf bj aK=> ?_
 obtain ⟨rfl,aD⟩:=aK
 exact p (bC aa)<|ay<|C<|rt<|br<|tr<|aX aa<|⟨by rw [x6 ab ab ab,decide_eq_true (of_decide_eq_true V).2]; rfl,i.trans<|J.trans aD⟩
 exact aI aa<|aI aa<|aI aa<|p (bu aa)<|ay<|C<|rt<|br<|tr<|aX aa<|⟨by rw [x6 ab ab ab,decide_eq_false (fun h=>of_decide_eq_false V ⟨ab,h⟩)]; rfl,i.trans J⟩
 refine ag fun C=>p (bK aa aa)<|ay<|C<|cd aa (fun aR=> ?_) fun aR=> ?_
 refine ag fun E=>au (str s)<|p (fa tw aa)<|p (ld bV aa<|G.bG 3)<|e<|cl Pq (Uv s r.strip O ab ab) aa fun bg a0 aL=> ?_
 obtain ⟨rfl,M⟩:=aL
 refine p mv<|gb (t:=42) aa (fun U=> ?_) fun U=> ?_
 refine aM aa (di m4 aa (aa) fun j aP=>(Wk.B M ae).bG j)<|aM aa (aV (str s) aa)<|eg aa aa aa<|cl FP (KD (dq r.cond).1 a c s a0 (ah.wk<|I.trans M) ab) aa fun bi bk aN=> ?_
 obtain ⟨rfl,aE⟩:=aN
 exact p (bC aa)<|ay<|E<|rt<|br<|tr<|aX aa<|⟨by rw [x4 ab ab ab,U]; rfl,i.trans<|M.trans aE⟩
 exact aI aa<|aI aa<|aI aa<|p (bu aa)<|ay<|E<|rt<|br<|tr<|aX aa<|⟨by rw [x4 ab ab ab,U]; rfl,i.trans M⟩
 exact aQ<|bn<|A<|ag fun E=>ay<|E<|rt<|aX aa<|⟨by rw [HS ab ab]; rfl,i⟩
def qT (s p:Tx):Tx:=if p.length≤s.length∧s.drop (s.length - p.length)=p then s.take (s.length - p.length) else s
theorem Fk {r:dp} {s:Tx} (h:iH r s=false):dJ r s=none:=if_neg<|by rw [h]; exact eo
theorem x5 {r:dp} {s:Tx} (h:iH r s=true):r.strip.length < s.length∧(r.kind=2→s.drop (s.length - r.strip.length)=r.strip)∧(r.kind≠2→s.take r.strip.length=r.strip):=by
 unfold iH at h
 rw [gU,decide_eq_true_eq] at h
 refine ⟨h.1.2,fun hk=> ?_,fun hk=> ?_⟩
 · have h2:=h.2; rw [if_pos hk,gU] at h2; exact of_decide_eq_true h2.1
 · have h2:=h.2; rw [if_neg hk] at h2
   split at h2
   · rw [gU] at h2; exact of_decide_eq_true h2.1
   · cases h2
theorem OL {r:dp} {s:Tx} (h:iH r s=true) (hk:r.kind=2):dJ r s=some (qT s r.strip++r.add):=by
 have h1:=x5 h
 unfold dJ qT; rw [if_pos h,if_pos hk,if_pos ⟨ab,h1.2.1 hk⟩]
theorem OJ {r:dp} {s:Tx} (h:iH r s=true) (hk:r.kind≠2):dJ r s=some (r.add++gC s r.strip):=by
 have h1:=x5 h
 unfold dJ gC; rw [if_pos h,if_neg hk,if_pos (h1.2.2 hk)]
theorem OM {r:dp} {s:Tx} (h:iH r s=true) (hk:r.kind=2):dJ r s=some (s.take (s.length - r.strip.length)++r.add):=by
 unfold dJ; rw [if_pos h,if_pos hk]
theorem OK {r:dp} {s:Tx} (h:iH r s=true) (hk:r.kind≠2):dJ r s=some (r.add++s.drop r.strip.length):=by
 unfold dJ; rw [if_pos h,if_neg hk]
def Ko (x:Option Tx):Value:= .tuple #[str (x.getD []),.bool x.isSome]
theorem Y5 (s pr:List UInt8) (w:World) (hs:s.length≤1099511627776) (hp:pr.length≤1099511627776):
 bp aw 149 (bh [str s,str pr]) w (fun v w'=>v=str (qT s pr)∧Wk w w'):=by
 refine enter func149 aa ntmps149 aa<|ag fun C=>ay<|C<|aB fun E=>ag fun G=>au (str s)<|au (str pr)<|e<|cl AL (Cr s pr _ hs hp) aa fun J M I=> ?_
 obtain ⟨rfl,A⟩:=I
 refine nl<|G<|cb aa (fun i=> ?_) fun i=> ?_
 have q:=of_decide_eq_true i
 exact ag fun a=>au (str s)<|au (str s)<|p (cz u9 aa aa)<|au (str pr)<|p (cz u9 aa aa)<|p (dR ((s.length - pr.length:Nat):Int) aa aa<|bl ab ab)<|p (r5 u9 aa aa ab)<|ay<|a<|rt<|tr<|aX aa<|⟨by show str (s.take (((s.length - pr.length:Nat):Int)).toNat)=_; unfold qT; rw [if_pos q]; rfl,A⟩
 have q:=of_decide_eq_false i
 exact aQ<|E<|ag fun a=>au (str s)<|p (cU (str s) aa)<|nl<|a<|rt<|aX aa<|⟨by show str s=_; unfold qT; rw [if_neg q],A⟩
theorem Y6 (s pr:List UInt8) (w:World) (hs:s.length≤1099511627776) (hp:pr.length≤1099511627776):
 bp aw 95 (bh [str s,str pr]) w (fun v w'=>v=str (qT s pr)∧Wk w w'):=by
 refine enter func95 aa ntmps95 aa<|ag fun a=>ay<|a<|ag fun i=>au (str s)<|au (str pr)<|e<|cl FQ (Y5 s pr _ hs hp) aa fun C E A=> ?_
 obtain ⟨rfl,q⟩:=A
 exact ay<|i<|rt<|aX aa<|⟨aa,q⟩
theorem Al (r:dp) (u:Value) (s:Tx) (w:World) (az:r.strip.length≤1048576) (av:r.add.length≤1048576) (ax:r.cond.length≤1048576) (aA:s.length≤1048576):
 bp aw 59 (bh [.agg (fD (r,u)).toArray,str s]) w (fun v w'=>v=Ko (dJ r s)∧Wk w w'):=by
 refine enter func59 aa ntmps59 aa<|ag fun ac=>e<|iZ aa fun ak Z aF ao al=> ?_
 have aL:((r,u):dp×Value).1.strip.length=r.strip.length:=rfl
 have aK:((r,u):dp×Value).1.kind=r.kind:=rfl
 have aJ:((r,u):dp×Value).1.add.length=r.add.length:=rfl
 have V:bP Z.heap ak (fD (r,u)):=al
 refine p aE<|ay<|ac<|aB fun ae=>ag fun ah=>p (di m6 aa (aa) fun j aI=>V.bG j)<|au (str s)<|e<|cl QS (Tz r u s Z az av ax aA) aa fun aO a ar=> ?_
 obtain ⟨rfl,Y⟩:=ar
 have G:=Wk.B Y V
 have O:=ao.md.trans Y
 refine p (no aa)<|nl<|ah<|cb aa (fun U=> ?_) fun U=> ?_
 have I:iH r s=false :=by simpa using U
 exact ag fun J=>p aE<|ay<|J<|rt<|tr<|f2 aa aa aa<|⟨by rw [Fk I]; rfl,O⟩
 have I:iH r s=true :=by simpa using U
 have aG:=(x5 I).1
 refine aQ<|ae<|aB fun J=>ag fun ai=>p (fa Iq aa)<|p (ld bz aa<|G.bG 0)<|p (bK aa aa)<|nl<|ai<|cd aa (fun hk=> ?_) fun hk=> ?_
 refine aB fun M=> ?_
 have q:(fun w'=>Wk a w') a.drew:=(Md.refl _ _).drew
 refine bN (fun w'=>Wk a w') aa wide q<|bI 0 aa (str s) q<|aH 1 aa (fun _ _=>fa tw aa) q<|aH 2 aa (fun w' i=>ld bV aa<|Wk.aR i<|G.bG 3) q<|aH 4 aa (fun _ _=>fa B9 aa) q<|aH 5 aa (fun w' i=>ld bV aa<|Wk.aR i<|G.bG 4) q<|he 3 aa aj<|cl Gv (Y6 s r.strip a.drew ab ab) aa fun aM aC ap=> ?_
 obtain ⟨rfl,am⟩:=ap
 have C:(fun w'=>Wk a w') aC:=q.trans am
 refine ⟨C,?_⟩
 exact aH 6 aa (fun _ _=>cc aa aa (by have :(qT s r.strip).length≤s.length:=(by unfold qT; split <;> simp <;> omega); omega)) C<|aH 7 aa (fun _ _=>aE) C<|aH 8 aa (fun _ _=>aE) C<|hn aj<|M<|rt<|tr<|f2 aa aa aa<|⟨by rw [OL I ab]; rfl,O.trans C⟩
 refine aQ<|J<|aB fun M=> ?_
 have A:(fun w'=>Wk a w') a.drew:=(Md.refl _ _).drew
 refine bN (fun w'=>Wk a w') aa wide A<|aH 0 aa (fun _ _=>fa B9 aa) A<|aH 1 aa (fun w' i=>ld bV aa<|Wk.aR i<|G.bG 4) A<|bI 2 aa (str s) A<|aH 3 aa (fun _ _=>fa tw aa) A<|aH 4 aa (fun w' i=>ld bV aa<|Wk.aR i<|G.bG 3) A<|he 5 aa aj<|cl Gx (LV s r.strip a.drew ab ab) aa fun aN aD aq=> ?_
 obtain ⟨rfl,an⟩:=aq
 have E:(fun w'=>Wk a w') aD:=A.trans an
 refine ⟨E,?_⟩
 exact aH 6 aa (fun _ _=>cc aa aa (by have :(gC s r.strip).length≤s.length:=(by unfold gC; split <;> simp); omega)) E<|aH 7 aa (fun _ _=>aE) E<|aH 8 aa (fun _ _=>aE) E<|hn aj<|M<|rt<|f2 aa aa aa<|⟨by rw [OJ I ab]; rfl,O.trans E⟩
theorem KY (ps:List Tx) (a:Option Addr) (c:Nat) (s:Tx) (w:World) (U:aO w.heap a (ps.map str)) (aG:ps.length≤4096) (Y:∀ t∈ps,(t.length=1∨3≤t.length)∧t.length≤1048576):
 bp aw 188 (bh [.slice a ps.length c,str s]) w (fun v w'=>v= .bool (od ps s)∧Wk w w'):=by
 refine enter func188 aa ntmps188 aa<|ag fun Z=>ay<|Z<|aB fun ah=>ag fun ai=>au (str s)<|p (cz u9 aa aa)<|au (.slice a ps.length c)<|p (bJ r8 aa aa)<|p (lt aa aa)<|nl<|ai<|cd aa (fun av=> ?_) fun av=> ?_
 exact ag fun I=>ay<|I<|rt<|tr<|aX aa<|⟨by rw [LH ab]; rfl,Md.refl _ _⟩
 refine aQ<|ah<|aB fun I=>ag fun al=>ay<|al<|aJ<|lp (fun O G A=> ∃ (i:Nat),(i≤ps.length)∧(∀ k,k < i→cJ (ps.getD k []) (s.getD k 0)=true)∧(Wk w A)∧(G 0= .slice a ps.length c)∧(G 1=str s)∧(G 5=ak i)∧(ps.length - i=O)) _ ⟨0,ab,(fun k hk=>absurd hk<|N0 _),(Md.refl _ _),aa,aa,aa,aa⟩ ?_
 rintro O G A ⟨i,hi,V,C,az,aA,aC,rfl⟩
 refine fx 0 az<|fx 1 aA<|fx 5 aC<|aB fun am=>ag fun an=>au (ak i)<|au (.slice a ps.length c)<|p (bJ r8 aa aa)<|p (lt aa aa)<|nl<|an<|cd aa (fun ax=> ?_) fun ax=> ?_
 refine aQ<|am<|aB fun J=>aJ<|aB fun ao=> ?_
 have q:(fun w'=>Wk A w') A.drew:=(Md.refl _ _).drew
 refine bN (fun w'=>Wk A w') aa wide q<|bI 0 aa (.slice a ps.length c) q<|bI 1 aa (ak i) q<|aH 2 aa (fun _ _=>bc HB aa aa ab<|aO.ok (U.wk C)<|bT ab) q<|aH 3 aa (fun w' ar=>di sM aa (aa) (show ∀ j,j < 1→Hb.aR w'.heap (bk a) (fo a+i*1 +j)= [str (ps.getD i [])][j]? from fun j aF=>by cases j with | zero=>exact Wk.aR ar (JF (U.wk C) ab) | succ j=>omega)) q<|bI 4 aa (str s) q<|bI 5 aa (ak i) q<|aH 6 aa (fun _ _=>eX u9 aa aa ab) q<|he 7 aa aj<|cl AN (EW (ps.getD i []) (s.getD i 0) A.drew (Y _<|dY ab).1 (Y _<|dY ab).2) aa fun aI aD aq=> ?_
 obtain ⟨rfl,ap⟩:=aq
 have E:(fun w'=>Wk A w') aD:=q.trans ap
 refine ⟨E,?_⟩
 refine aH 8 aa (fun _ _=>aE) E<|hn aj<|ao<|ag fun ac=>p mv<|p (no aa)<|nl<|ac<|cb aa (fun M=> ?_) fun M=> ?_
 exact ag fun ae=>ay<|ae<|rt<|br<|tr<|tr<|br<|tr<|aX aa<|⟨by rw [LG (i:=i) ab (by simpa using M)]; rfl,C.trans E⟩
 exact aQ<|bn<|J<|rg aa<|au (ak i)<|p (bF ((i+1:Nat):Int) aa aa<|bl ab ab)<|p aE<|nl<|tn<|⟨_,ab,i+1,ab,(fun k hk=>by rcases EJ.1 hk with h | rfl; exact V k h; simpa using M),(C.trans E),aa,aa,aa,aa⟩
 exact ext<|bf<|bf<|be<|I<|ag fun J=>p aE<|nl<|J<|rt<|aX aa<|⟨by rw [LI ab (fun k hk=>V k ab)]; rfl,C⟩
theorem Xm (ps:List Tx) (a:Option Addr) (c:Nat) (s:Tx) (w:World) (E:aO w.heap a (ps.map str)) (M:ps.length≤4096) (U:s.length≤1048576) (O:∀ t∈ps,(t.length=1∨3≤t.length)∧t.length≤1048576):
 bp aw 187 (bh [.slice a ps.length c,str s]) w (fun v w'=>v= .bool (qv ps s)∧Wk w w'):=by
 refine enter func187 aa ntmps187 aa<|ag fun q=>ay<|q<|aB fun A=>ag fun C=>au (str s)<|p (cz u9 aa aa)<|au (.slice a ps.length c)<|p (bJ r8 aa aa)<|p (lt aa aa)<|nl<|C<|cd aa (fun J=> ?_) fun J=> ?_
 exact ag fun i=>ay<|i<|rt<|tr<|aX aa<|⟨by unfold qv; rw [decide_eq_false (show ¬ps.length≤s.length by omega)]; rfl,Md.refl _ _⟩
 refine aQ<|A<|ag fun i=>au (.slice a ps.length c)<|au (str s)<|au (str s)<|p (cz u9 aa aa)<|au (.slice a ps.length c)<|p (bJ r8 aa aa)<|p (dR ((s.length - ps.length:Nat):Int) aa aa<|bl ab ab)<|p (mh u9 aa aa ab)<|e<|cl FW (KY ps a c (s.drop<|s.length - ps.length) w E M O) aa fun V Y I=> ?_
 obtain ⟨rfl,G⟩:=I
 exact ay<|i<|rt<|aX aa<|⟨by unfold qv; rw [decide_eq_true (show ps.length≤s.length by omega)]; rfl,G⟩
theorem Xw (r:dp) (u:Value) (s:Tx) (w:World) (a2:r.strip.length≤1048576) (aW:r.add.length≤1048576) (aY:r.cond.length≤1048576) (a3:s.length≤1048576):
 bp aw 123 (bh [.agg (jx (r,u)).toArray,str s]) w (fun v w'=>v= .bool (iH r s)∧Wk w w'):=by
 refine enter func123 aa ntmps123 aa<|ag fun av=>e<|iZ aa fun aD ar aT aG aF=> ?_
 have a1:((r,u):dp×Value).1.strip.length=r.strip.length:=rfl
 have a0:((r,u):dp×Value).1.kind=r.kind:=rfl
 have aZ:((r,u):dp×Value).1.add.length=r.add.length:=rfl
 have al:bP ar.heap aD (jx (r,u)):=aF
 refine ay<|av<|ag fun ax=>p (fa BV aa)<|p (ld bV aa<|al.bG 5)<|e<|cl FV (KF r.cond ar ab) aa fun a4 aq aJ=> ?_
 obtain ⟨⟨ac,rfl,an⟩,hE13⟩:=aJ
 obtain ⟨a,c,rfl⟩:=cE an
 have am:=(ba an).2
 have V:= @GO r.cond
 have ao:∀ t∈(dq r.cond).1,(t.length=1∨3≤t.length)∧t.length≤1048576:=fun t ap=>⟨(V.1 t ap).1,by have :=(V.1 t ap).2; omega⟩
 have E:=Wk.B hE13 al
 have A:=aG.md.trans hE13
 have aU:=V.2
 refine p mv<|p (xt aa aa)<|p (xt aa aa)<|p aE<|ay<|ax<|aB fun az=>rg aa<|p (fa th aa)<|p (ld bV aa<|E.bG 3)<|p (cz u9 aa aa)<|ay<|az<|aB fun aA=>ag fun ak=>p mv<|p (cO aa aa)<|p mv<|gs (t:=21) aa (fun aN=> ?_) fun aN=> ?_
 exact aI aa<|aI aa<|aI aa<|aI aa<|p (bC aa)<|nl<|ak<|ct aa<|ag fun C=>ay<|C<|rt<|tr<|aX aa<|⟨by rw [HT ab]; rfl,A⟩
 refine aM aa (aV (str s) aa)<|aM aa (cz u9 aa aa)<|aM aa mv<|aM aa (le aa aa)<|p (bu aa)<|nl<|ak<|cd aa (fun aS=> ?_) fun aS=> ?_
 exact ag fun C=>ay<|C<|rt<|tr<|aX aa<|⟨by rw [HU ab]; rfl,A⟩
 refine aQ<|aA<|aB fun C=>ag fun aC=>p (fa uV aa)<|p (ld bz aa<|E.bG 0)<|p (bK aa aa)<|nl<|aC<|cd aa (fun aP=> ?_) fun aP=> ?_
 refine ag fun J=>p mv<|au (str s)<|e<|cl PE (Xm (dq r.cond).1 a c s aq am ab ab ao) aa fun a5 ae aK=> ?_
 obtain ⟨rfl,M⟩:=aK
 refine ay<|J<|aB fun G=> ?_
 have i:(fun w'=>Wk ae w') ae.drew:=(Md.refl _ _).drew
 refine bN (fun w'=>Wk ae w') aa wide i<|aH 0 aa (fun _ _=>mv) i<|aH 1 aa (fun _ _=>mv) i<|yB (t:=34) aa (fun Z=> ?_) fun Z=> ?_
 exact bm 2 aa (fun _ _=>aV (str s) aa) i<|bm 3 aa (fun _ _=>aV (str s) aa) i<|bm 4 aa (fun _ _=>cz u9 aa aa) i<|bm 5 aa (fun _ _=>mv) i<|bm 6 aa (fun _ _=>dR ((s.length - r.strip.length:Nat):Int) aa aa<|bl ab ab) i<|bm 7 aa (fun _ _=>mh u9 aa aa ab) i<|bm 8 aa (fun _ _=>fa th aa) i<|bm 9 aa (fun w' U=>ld bV aa<|Wk.aR U<|(Wk.B M E).bG 3) i<|bm 10 aa (fun _ _=>dZ aa aa) i<|aH 11 aa (fun _ _=>bC aa) i<|aH 12 aa (fun _ _=>aE) i<|hn aj<|G<|rt<|tr<|aX aa<|⟨by rw [x6 ab ab ab,Z,Ea]; rfl,A.trans<|M.trans i⟩
 exact a8 2 aa i<|a8 3 aa i<|a8 4 aa i<|a8 5 aa i<|a8 6 aa i<|a8 7 aa i<|a8 8 aa i<|a8 9 aa i<|a8 10 aa i<|aH 11 aa (fun _ _=>bu aa) i<|aH 12 aa (fun _ _=>aE) i<|hn aj<|G<|rt<|tr<|aX aa<|⟨by rw [x6 ab ab ab,Z,wh]; rfl,A.trans<|M.trans i⟩
 refine aQ<|C<|aB fun J=>ag fun G=>p (fa uV aa)<|p (ld bz aa<|E.bG 0)<|p (bK aa aa)<|nl<|G<|cd aa (fun aO=> ?_) fun aO=> ?_
 refine ag fun I=>p mv<|au (str s)<|e<|cl FW (KY (dq r.cond).1 a c s aq am ab ao) aa fun a6 ah aL=> ?_
 obtain ⟨rfl,O⟩:=aL
 refine ay<|I<|aB fun ai=> ?_
 have q:(fun w'=>Wk ah w') ah.drew:=(Md.refl _ _).drew
 refine bN (fun w'=>Wk ah w') aa wide q<|aH 0 aa (fun _ _=>mv) q<|aH 1 aa (fun _ _=>mv) q<|yB (t:=52) aa (fun Y=> ?_) fun Y=> ?_
 exact bm 2 aa (fun _ _=>aV (str s) aa) q<|bm 3 aa (fun _ _=>mv) q<|bm 4 aa (fun _ _=>r5 u9 aa aa ab) q<|bm 5 aa (fun _ _=>fa th aa) q<|bm 6 aa (fun w' U=>ld bV aa<|Wk.aR U<|(Wk.B O E).bG 3) q<|bm 7 aa (fun _ _=>dZ aa aa) q<|aH 8 aa (fun _ _=>bC aa) q<|aH 9 aa (fun _ _=>aE) q<|hn aj<|ai<|rt<|tr<|aX aa<|⟨by rw [x4 ab ab ab,Y,Ea]; rfl,A.trans<|O.trans q⟩
 exact a8 2 aa q<|a8 3 aa q<|a8 4 aa q<|a8 5 aa q<|a8 6 aa q<|a8 7 aa q<|aH 8 aa (fun _ _=>bu aa) q<|aH 9 aa (fun _ _=>aE) q<|hn aj<|ai<|rt<|tr<|aX aa<|⟨by rw [x4 ab ab ab,Y,wh]; rfl,A.trans<|O.trans q⟩
 exact aQ<|J<|ag fun I=>ay<|I<|rt<|aX aa<|⟨by rw [HS ab ab]; rfl,A⟩
theorem Df (r:dp) (u:Value) (s:Tx) (w:World) (ap:r.strip.length≤1048576) (an:r.add.length≤1048576) (ao:r.cond.length≤1048576) (aq:s.length≤1048576):
 bp aw 77 (bh [.agg (jx (r,u)).toArray,str s]) w (fun v w'=>v=Ko (dJ r s)∧Wk w w'):=by
 refine enter func77 aa ntmps77 aa<|ag fun Y=>e<|iZ aa fun ai V ar al ak=> ?_
 have aC:((r,u):dp×Value).1.strip.length=r.strip.length:=rfl
 have aA:((r,u):dp×Value).1.kind=r.kind:=rfl
 have az:((r,u):dp×Value).1.add.length=r.add.length:=rfl
 have O:bP V.heap ai (jx (r,u)):=ak
 refine p aE<|ay<|Y<|ag fun Z=>p (di rq aa (aa) fun j ax=>O.bG j)<|au (str s)<|e<|cl Pb (Xw r u s V ap an ao aq) aa fun v9 A am=> ?_
 obtain ⟨rfl,U⟩:=am
 have C:=Wk.B U O
 have J:=al.md.trans U
 refine ay<|Z<|aB fun ac=>ag fun ae=>p mv<|p (no aa)<|nl<|ae<|cb aa (fun M=> ?_) fun M=> ?_
 have E:iH r s=false :=by simpa using M
 exact ag fun G=>p aE<|ay<|G<|rt<|tr<|f2 aa aa aa<|⟨by rw [Fk E]; rfl,J⟩
 have E:iH r s=true :=by simpa using M
 have av:=(x5 E).1
 refine aQ<|ac<|aB fun G=>ag fun ah=>p (fa uV aa)<|p (ld bz aa<|C.bG 0)<|p (bK aa aa)<|nl<|ah<|cd aa (fun hk=> ?_) fun hk=> ?_
 refine aB fun I=> ?_
 have a:(fun w'=>Wk A w') A.drew:=(Md.refl _ _).drew
 exact bN (fun w'=>Wk A w') aa wide a<|bI 0 aa (str s) a<|bI 1 aa (str s) a<|aH 2 aa (fun _ _=>cz u9 aa aa) a<|aH 3 aa (fun _ _=>fa th aa) a<|aH 4 aa (fun w' q=>ld bV aa<|Wk.aR q<|C.bG 3) a<|aH 5 aa (fun _ _=>cz u9 aa aa) a<|aH 6 aa (fun _ _=>dR ((s.length - r.strip.length:Nat):Int) aa aa<|bl ab ab) a<|aH 7 aa (fun _ _=>r5 u9 aa aa ab) a<|aH 8 aa (fun _ _=>fa BU aa) a<|aH 9 aa (fun w' q=>ld bV aa<|Wk.aR q<|C.bG 4) a<|aH 10 aa (fun _ _=>cc aa aa<|by simp only [dQ]; omega) a<|aH 11 aa (fun _ _=>aE) a<|aH 12 aa (fun _ _=>aE) a<|hn aj<|I<|rt<|tr<|f2 aa aa aa<|⟨by rw [OM E ab]; rfl,J.trans a⟩
 refine aQ<|G<|aB fun I=> ?_
 have i:(fun w'=>Wk A w') A.drew:=(Md.refl _ _).drew
 exact bN (fun w'=>Wk A w') aa wide i<|aH 0 aa (fun _ _=>fa BU aa) i<|aH 1 aa (fun w' q=>ld bV aa<|Wk.aR q<|C.bG 4) i<|bI 2 aa (str s) i<|aH 3 aa (fun _ _=>fa th aa) i<|aH 4 aa (fun w' q=>ld bV aa<|Wk.aR q<|C.bG 3) i<|aH 5 aa (fun _ _=>cz u9 aa aa) i<|aH 6 aa (fun _ _=>mh u9 aa aa ab) i<|aH 7 aa (fun _ _=>cc aa aa<|by simp only [List.length_drop]; omega) i<|aH 8 aa (fun _ _=>aE) i<|aH 9 aa (fun _ _=>aE) i<|hn aj<|I<|rt<|f2 aa aa aa<|⟨by rw [OK E ab]; rfl,J.trans i⟩
end Go.Hb
end
section
namespace Go.Hb
def eC (d:bZ):List Value:= [str d.kL,.int .i64 (d.s8:Nat),.int .i64 d.fst,.int .i64 d.snd,.int .i64 d.pre]
def jm (l:List bZ):List Value:=l.flatMap eC
def nP (d:bZ):Array Value:= #[.agg (eC d).toArray]
theorem oD {h:Array Obj} {b e:Nat} {L:List Value} (a:h[b]? =some (.cells L.toArray e (0,0))):bP h b L:=⟨e,a⟩
def Rn (F:aU) (n:Int):Prop :=n= -1∨(0≤n∧n < F.rules.length)
section
variable {F:aU} {xs:List bH} {e:Nat} {f s p:Int}
theorem II (a:f= -1) (hp:p= -1):fC F xs e f s p= !rP F xs e 0:=by unfold fC; rw [if_pos a,decide_eq_false (fun h=>h hp)]; rfl
theorem IJ (a:f= -1) (hp:p≠ -1):fC F xs e f s p=true :=by unfold fC; rw [if_pos a,decide_eq_true hp]; rfl
theorem Ck (a:f≠ -1) (h:nQ F (if s= -1 then f else s)=false):fC F xs e f s p=false :=by unfold fC; rw [if_neg a,if_pos h]
theorem Cj (a:f≠ -1) (h:nQ F (if s= -1 then f else s)=true) (hp:p= -1):fC F xs e f s p=true :=by unfold fC; rw [if_neg a,if_neg (by rw [h]; exact eo),decide_eq_true hp]; rfl
theorem pN (a:f≠ -1) (h:nQ F (if s= -1 then f else s)=true) (hp:p≠ -1):fC F xs e f s p=(lL F f && lL F s && lL F p):=by unfold fC; rw [if_neg a,if_neg (by rw [h]; exact eo),decide_eq_false hp]; rfl
theorem GU:lL F (-1)=true :=by unfold lL; rw [decide_eq_true rfl]; rfl
theorem sZ {k:Nat} {r:dp} (a:F.rules[k]? =some r):lL F k=r.ew:=by
 unfold lL
 rw [decide_eq_false ab,mU,da,a]; rfl
end
theorem JG (F:aU) (xs:List bH) (e:Int):ma F xs e 0=rP F xs e 0:=rfl
theorem DN {α β:Type} {g:α→Option β} {l:List α} {i:Nat} (d:α) (h:i < l.length):(l.take<|i+1).filterMap g=(l.take i).filterMap g++(g<|l.getD i d).toList:=by
 rw [fK l i d h,zQ]
 congr 1
structure rp where
 ar:Option Addr
 cr:Nat
 rn:List Value
 ap:Option Addr
 cp:Nat
def n7 (tb l:Nat) (K:rp) (F:aU) (e:Int) (word:Tx) (ps:List Nat):List Value:= [.pointer (some ⟨tb,0,none⟩),.slice K.ar F.rules.length K.cr,.int .i64 e,str word,.slice K.ap ps.length K.cp,.func (.yield l) #[] #[]]
structure jv (w:World) (fp:Nat→Prop) (S0 mb tb l:Nat) (K:rp) (F:aU) (e:Int) (word:Tx) (ps:List Nat):Prop where
 lo:S0≤mb
 cells:w.heap[mb]? =some (.cells (n7 tb l K F e word ps).toArray 183 (0,0))
 nf:¬fp mb
 ru:bw w S0 77 7 (.slice K.ar F.rules.length K.cr) F.rules.length (iV<|F.rules.zip K.rn)
 rf:∀ k,(bS K.ar F.rules.length K.cr).ownBlock=some k→¬fp k
 rn:K.rn.length=F.rules.length
 pr:bw w S0 3 1 (.slice K.ap ps.length K.cp) ps.length (ps.map bQ)
 pf:∀ k,(bS K.ap ps.length K.cp).ownBlock=some k→¬fp k
section
variable {w w':World} {fp fp':Nat→Prop} {S0 mb tb l:Nat} {K:rp} {F:aU} {e:Int} {word:Tx} {ps:List Nat}
theorem jv.gw (h:jv w fp S0 mb tb l K F e word ps) (a:Gw S0 fp w fp' w'):jv w' fp' S0 mb tb l K F e word ps:=
 ⟨h.lo,(a.aJ h.cells h.lo h.nf).1,(a.aJ h.cells h.lo h.nf).2,(a.own h.ru h.rf).1,(a.own h.ru h.rf).2,h.rn,(a.own h.pr h.pf).1,(a.own h.pr h.pf).2⟩
theorem jv.wk (h:jv w fp S0 mb tb l K F e word ps) (hm:Wk w w'):jv w' fp S0 mb tb l K F e word ps:=h.gw<|Gw.wk hm
theorem jv.vq (h:jv w fp S0 mb tb l K F e word ps) {G:Nat→Prop} (hm:Md G w w') {L:List Nat} (i:TF w L G) (a:(L.contains 185 || L.contains 79 || L.contains 5)=false):jv w' fp S0 mb tb l K F e word ps:=by
 simp only [Bool.or_eq_false_iff] at a
 exact ⟨h.lo,hm.ic i h.cells a.1.1,h.nf,cx h.ru hm i a.1.2,h.rf,h.rn,cx h.pr hm i a.2,h.pf⟩
theorem jv.iN (h:jv w fp S0 mb tb l K F e word ps) {k:Nat} {r:dp} (a:F.rules[k]? =some r):∃ u,(F.rules.zip K.rn)[k]? =some (r,u):=by
 have hk:=(fS.1 a).1
 have i:k < K.rn.length:=by rw [h.rn]; exact hk
 exact ⟨K.rn[k],jz.2 ⟨a,cI i⟩⟩
end
theorem Dc {α:Type} {a b c:List α} (h:b <+:c):a++b <+:a++c:=by obtain ⟨t,rfl⟩:=h; exact ⟨t,by rw [dH]⟩
theorem GW {F:aU} {xs:List bH} {e:Nat} {word:Tx} {f s:Int} {p:Nat} (h:fC F xs e f s p=false):jw F xs e word f s p=none:=if_neg<|by rw [h]; exact eo
theorem GV {F:aU} {xs:List bH} {e:Nat} {word:Tx} {f s:Int} {p:Nat} (h:dJ (F.rules.getD p e6) word=none):jw F xs e word f s p=none:=by unfold jw; rw [h]; split <;> rfl
theorem GX {F:aU} {xs:List bH} {e:Nat} {word v:Tx} {f s:Int} {p:Nat} (h:fC F xs e f s p=true) (h1:dJ (F.rules.getD p e6) word=some v):jw F xs e word f s p=some ⟨v,e,f,s,p⟩:=by unfold jw; rw [if_pos h,h1]; rfl
theorem IK (B tb:Nat) (au:iy) (F:aU) (xs:List bH) (ar:Option Addr) (cr:Nat) (rn:List Value) (word:Tx) (en:Nat) (f s pp:Int) (w:World) (a2:fW w B tb au F xs) (aD:eN F xs) (aW:aO w.heap ar (iV<|F.rules.zip rn)) (an:rn.length=F.rules.length) (ah:Rn F f) (hs:Rn F s) (hp:Rn F pp):
 bp aw 57 (bh [aT tb,.slice ar F.rules.length cr,.agg (eC ⟨word,en,f,s,pp⟩).toArray]) w (fun v w'=>v= .bool (fC F xs en f s pp)∧Wk w w'):=by
 refine enter func57 aa ntmps57 aa<|ag fun aR=>e<|iZ aa fun aS aq a aA aV=> ?_
 have bb:=aA.size
 have V:=a2.wk aA.md
 have a:bP aq.heap aS [str word,ak en,.int .i64 f,.int .i64 s,.int .i64 pp]:=aV
 have q:Wk w aq:=aA.md
 have I:=aW.wk aA.md
 refine ay<|aR<|aB fun aK=>aJ<|ag fun aL=>p (fa rI aa)<|p (ld bz aa<|a.bG 2)<|p (lt aa aa)<|p mv<|gs (t:=11) aa (fun aF=> ?_) fun aF=> ?_
 refine aM aa (fa rJ aa)<|aM aa (ld bz aa<|a.bG 4)<|aM aa (lt aa aa)<|p (bC aa)<|ay<|aL<|cd aa (fun a9=> ?_) fun a9=> ?_
 refine ag fun ai=>p mv<|p (fa Im aa)<|p (ld bz aa<|a.bG 1)<|e<|cl QD (CK B tb au F xs (en:Nat) 0 aq V aD) aa fun bd bi aZ=> ?_
 obtain ⟨rfl,aY⟩:=aZ
 refine p (no aa)<|ay<|ai<|rt<|br<|tr<|aX aa ?_
 have i:fC F xs en f s pp= !ma F xs en 0:=by rw [II (by unfold Rn at ah; omega) (by unfold Rn at hp; omega),JG]
 exact ⟨Eq.trans (b:=bU<|!ma F xs en 0) aa (congrArg bU i.symm),q.trans aY⟩
 refine ag fun ai=>p (fa rI aa)<|p (ld bz aa<|a.bG 2)<|p (lt aa aa)<|ay<|ai<|cd aa (fun a3=> ?_) fun h=>absurd aF h
 refine ag fun aj=>ay<|aj<|rt<|br<|tr<|aX aa ?_
 have i:fC F xs en f s pp=true :=by exact IJ (by unfold Rn at ah; omega) ab
 exact ⟨Eq.trans (b:=bU<|true) aa (congrArg bU i.symm),q⟩
 refine aI aa<|aI aa<|aI aa<|p (bu aa)<|ay<|aL<|cf aa<|ag fun ai=>p (fa rI aa)<|p (ld bz aa<|a.bG 2)<|p (lt aa aa)<|ay<|ai<|cd aa (fun h=>absurd h aF) fun a3=> ?_
 refine aB fun aj=>ag fun aN=>p (fa qz aa)<|p (ld bz aa<|a.bG 3)<|p (lt aa aa)<|p mv<|gs (t:=29) aa (fun aG=> ?_) fun aG=> ?_
 refine aM aa mv<|aM aa (fa rI aa)<|aM aa (ld bz aa<|a.bG 2)<|eg aa aa aa<|cl xB (Ho B tb au F xs f aq V aD) aa fun bf bj a0=> ?_
 obtain ⟨rfl,av⟩:=a0
 have V:=V.wk av
 have a:=Wk.B av a
 have q:=q.trans av
 have I:=I.wk av
 refine aM aa (no aa)<|p (bC aa)<|ay<|aN<|cb aa (fun A=> ?_) fun A=> ?_
 refine aQ<|aj<|ct (congrArg bU A)<|ag fun U=>ay<|U<|rt<|br<|tr<|aX aa ?_
 have i:fC F xs en f s pp=false :=by exact Ck ab<|by rw [if_pos (show s= -1 by unfold Rn at hs; omega)]; simpa using A
 exact ⟨Eq.trans (b:=bU<|false) aa (congrArg bU i.symm),q⟩
 refine rg aa<|p (fa qz aa)<|p (ld bz aa<|a.bG 3)<|p (ge aa aa)<|p mv<|gs (t:=39) aa (fun h=>absurd h ab) fun a5=>aI aa<|aI aa<|aI aa<|aI aa<|aI aa<|p (bu aa)<|p aE<|nl<|aj<|cf aa<|ag fun U=>p (fa rJ aa)<|p (ld bz aa<|a.bG 4)<|p (lt aa aa)<|p aE ?_
 refine nl<|U<|cd aa (fun aH=> ?_) fun aH=> ?_
 refine ag fun G=>ay<|G<|rt<|br<|tr<|aX aa ?_
 have i:fC F xs en f s pp=true :=by exact Cj ab (by rw [if_pos (show s= -1 by unfold Rn at hs; omega)]; simpa using A)<|by unfold Rn at hp; omega
 exact ⟨Eq.trans (b:=bU<|true) aa (congrArg bU i.symm),q⟩
 obtain ⟨E,rfl⟩:∃ m:Nat,pp=(m:Int):=⟨(pp).toNat,by unfold Rn at hp; omega⟩
 obtain ⟨ac,M⟩:∃ r,F.rules[E]? =some r:=⟨_,cI<|by unfold Rn at hp; omega⟩
 have ap:(F.rules.zip rn)[E]? =some (ac,rn[E]'(by rw [an]; exact (fS.1 M).1)):=jz.2 ⟨M,cI _⟩
 have am:=sZ M
 have a8:=(fS.1 M).1
 obtain ⟨C,rfl⟩:∃ m:Nat,f=(m:Int):=⟨(f).toNat,by unfold Rn at ah; omega⟩
 obtain ⟨rf,J⟩:∃ r,F.rules[C]? =some r:=⟨_,cI<|by unfold Rn at ah; omega⟩
 have ao:(F.rules.zip rn)[C]? =some (rf,rn[C]'(by rw [an]; exact (fS.1 J).1)):=jz.2 ⟨J,cI _⟩
 have al:=sZ J
 have a7:=(fS.1 J).1
 have ae:=I
 refine aQ<|bn<|aK<|ag fun G=>p mv<|p (fa rJ aa)<|p (ld bz aa<|a.bG 4)<|p (bc nd aa aa ab<|aO.ok (I)<|oa ap)<|p (fa vf aa)<|p (ld lY aa<|fA (f:=fD) (m:=7) (fun _=>rfl) ae ap 2 az)<|p mv<|gb (t:=56) aa (fun Z=> ?_) fun Z=> ?_
 refine aM aa mv<|aM aa (fa rI aa)<|aM aa (ld bz aa<|a.bG 2)<|aM aa (bc nd aa aa ab<|aO.ok (I)<|oa ao)<|aM aa (fa vf aa)<|aM aa (ld lY aa<|fA (f:=fD) (m:=7) (fun _=>rfl) ae ao 2 az)<|p (bC aa)<|p mv<|gb (t:=64) aa (fun Y=> ?_) fun Y=> ?_
 refine aM aa (fa qz aa)<|aM aa (ld bz aa<|a.bG 3)<|aM aa (lt aa aa)<|aM aa mv<|gs (t:=68) aa (fun a6=> ?_) fun h=>absurd aG h
 refine aI aa<|aI aa<|aI aa<|aI aa<|aI aa<|aI aa<|aM aa (bC aa)<|p (bC aa)<|ay<|G<|rt<|aX aa ?_
 have i:fC F xs en ((C:Nat):Int) s ((E:Nat):Int)=true :=by rw [pN ab (by rw [if_pos (show s= -1 by unfold Rn at hs; omega)]; simpa using A) ab,al,am,show s= -1 by (unfold Rn at hs; omega),GU,(show rf.ew=true from Y),(show ac.ew=true from Z)]; rfl
 exact ⟨Eq.trans (b:=bU<|true) aa (congrArg bU i.symm),q⟩
 refine aI aa<|aI aa<|aI aa<|aI aa<|ek aa<|ek aa<|ek aa<|ek aa<|ek aa<|ek aa<|aI aa<|p (bu aa)<|ay<|G<|rt<|aX aa ?_
 have i:fC F xs en ((C:Nat):Int) s ((E:Nat):Int)=false :=by rw [pN ab (by rw [if_pos (show s= -1 by unfold Rn at hs; omega)]; simpa using A) ab,al,(show rf.ew=false from Y)]; rfl
 exact ⟨Eq.trans (b:=bU<|false) aa (congrArg bU i.symm),q⟩
 refine aI aa<|aI aa<|aI aa<|aI aa<|aI aa<|aI aa<|p (bu aa)<|p mv<|aI aa<|aI aa<|aI aa<|aI aa<|ek aa<|ek aa<|ek aa<|ek aa<|ek aa<|ek aa<|aI aa<|p (bu aa)<|ay<|G<|rt<|aX aa ?_
 have i:fC F xs en ((C:Nat):Int) s ((E:Nat):Int)=false :=by rw [pN ab (by rw [if_pos (show s= -1 by unfold Rn at hs; omega)]; simpa using A) ab,am,(show ac.ew=false from Z),wh]
 exact ⟨Eq.trans (b:=bU<|false) aa (congrArg bU i.symm),q⟩
 refine aI aa<|aI aa<|aI aa<|aI aa<|aI aa<|p (bu aa)<|p aE<|nl<|aN<|cf aa<|rg aa<|p (fa qz aa)<|p (ld bz aa<|a.bG 3)<|p (ge aa aa)<|p mv<|gs (t:=39) aa (fun a5=> ?_) fun h=>absurd ab h
 refine aM aa mv<|aM aa (fa qz aa)<|aM aa (ld bz aa<|a.bG 3)<|eg aa aa aa<|cl xB (Ho B tb au F xs s aq V aD) aa fun bg bk a1=> ?_
 obtain ⟨rfl,ax⟩:=a1
 have V:=V.wk ax
 have a:=Wk.B ax a
 have q:=q.trans ax
 have I:=I.wk ax
 refine aM aa (no aa)<|p (bC aa)<|ay<|aj<|cb aa (fun A=> ?_) fun A=> ?_
 refine ag fun U=>ay<|U<|rt<|br<|tr<|aX aa ?_
 have i:fC F xs en f s pp=false :=by exact Ck ab<|by rw [if_neg (show ¬s= -1 by omega)]; simpa using A
 exact ⟨Eq.trans (b:=bU<|false) aa (congrArg bU i.symm),q⟩
 refine ag fun U=>p (fa rJ aa)<|p (ld bz aa<|a.bG 4)<|p (lt aa aa)<|ay<|U<|cd aa (fun aH=> ?_) fun aH=> ?_
 refine ag fun G=>ay<|G<|rt<|br<|tr<|aX aa ?_
 have i:fC F xs en f s pp=true :=by exact Cj ab (by rw [if_neg (show ¬s= -1 by omega)]; simpa using A)<|by unfold Rn at hp; omega
 exact ⟨Eq.trans (b:=bU<|true) aa (congrArg bU i.symm),q⟩
 obtain ⟨E,rfl⟩:∃ m:Nat,pp=(m:Int):=⟨(pp).toNat,by unfold Rn at hp; omega⟩
 obtain ⟨ac,M⟩:∃ r,F.rules[E]? =some r:=⟨_,cI<|by unfold Rn at hp; omega⟩
 have ap:(F.rules.zip rn)[E]? =some (ac,rn[E]'(by rw [an]; exact (fS.1 M).1)):=jz.2 ⟨M,cI _⟩
 have am:=sZ M
 have a8:=(fS.1 M).1
 obtain ⟨C,rfl⟩:∃ m:Nat,f=(m:Int):=⟨(f).toNat,by unfold Rn at ah; omega⟩
 obtain ⟨rf,J⟩:∃ r,F.rules[C]? =some r:=⟨_,cI<|by unfold Rn at ah; omega⟩
 have ao:(F.rules.zip rn)[C]? =some (rf,rn[C]'(by rw [an]; exact (fS.1 J).1)):=jz.2 ⟨J,cI _⟩
 have al:=sZ J
 have a7:=(fS.1 J).1
 obtain ⟨O,rfl⟩:∃ m:Nat,s=(m:Int):=⟨(s).toNat,by unfold Rn at hs; omega⟩
 obtain ⟨rs,aC⟩:∃ r,F.rules[O]? =some r:=⟨_,cI<|by unfold Rn at hs; omega⟩
 have aP:(F.rules.zip rn)[O]? =some (rs,rn[O]'(by rw [an]; exact (fS.1 aC).1)):=jz.2 ⟨aC,cI _⟩
 have a4:=sZ aC
 have ba:=(fS.1 aC).1
 have ae:=I
 refine aQ<|bn<|aK<|ag fun G=>p mv<|p (fa rJ aa)<|p (ld bz aa<|a.bG 4)<|p (bc nd aa aa ab<|aO.ok (I)<|oa ap)<|p (fa vf aa)<|p (ld lY aa<|fA (f:=fD) (m:=7) (fun _=>rfl) ae ap 2 az)<|p mv<|gb (t:=56) aa (fun Z=> ?_) fun Z=> ?_
 refine aM aa mv<|aM aa (fa rI aa)<|aM aa (ld bz aa<|a.bG 2)<|aM aa (bc nd aa aa ab<|aO.ok (I)<|oa ao)<|aM aa (fa vf aa)<|aM aa (ld lY aa<|fA (f:=fD) (m:=7) (fun _=>rfl) ae ao 2 az)<|p (bC aa)<|p mv<|gb (t:=64) aa (fun Y=> ?_) fun Y=> ?_
 refine aM aa (fa qz aa)<|aM aa (ld bz aa<|a.bG 3)<|aM aa (lt aa aa)<|aM aa mv<|gs (t:=68) aa (fun h=>absurd h aG) fun a6=>aM aa mv<|aM aa (fa qz aa)<|aM aa (ld bz aa<|a.bG 3)<|aM aa (bc nd aa aa ab<|aO.ok (I)<|oa aP)<|aM aa (fa vf aa)<|aM aa (ld lY aa<|fA (f:=fD) (m:=7) (fun _=>rfl) ae aP 2 az)<|aM aa (bu aa)<|p (bC aa)<|ay<|G<|rt<|aX aa ?_
 have i:fC F xs en ((C:Nat):Int) ((O:Nat):Int) ((E:Nat):Int)=rs.ew:=by rw [pN ab (by rw [if_neg (show ¬((O:Nat):Int)= -1 by omega)]; simpa using A) ab,al,a4,am,(show rf.ew=true from Y),(show ac.ew=true from Z),Bool.true_and,Ea]
 exact ⟨Eq.trans (b:=bU<|rs.ew) aa (congrArg bU i.symm),q⟩
 refine aI aa<|aI aa<|aI aa<|aI aa<|ek aa<|ek aa<|ek aa<|ek aa<|ek aa<|ek aa<|aI aa<|p (bu aa)<|ay<|G<|rt<|aX aa ?_
 have i:fC F xs en ((C:Nat):Int) ((O:Nat):Int) ((E:Nat):Int)=false :=by rw [pN ab (by rw [if_neg (show ¬((O:Nat):Int)= -1 by omega)]; simpa using A) ab,al,(show rf.ew=false from Y)]; rfl
 exact ⟨Eq.trans (b:=bU<|false) aa (congrArg bU i.symm),q⟩
 refine aI aa<|aI aa<|aI aa<|aI aa<|aI aa<|aI aa<|p (bu aa)<|p mv<|aI aa<|aI aa<|aI aa<|aI aa<|ek aa<|ek aa<|ek aa<|ek aa<|ek aa<|ek aa<|aI aa<|p (bu aa)<|ay<|G<|rt<|aX aa ?_
 have i:fC F xs en ((C:Nat):Int) ((O:Nat):Int) ((E:Nat):Int)=false :=by rw [pN ab (by rw [if_neg (show ¬((O:Nat):Int)= -1 by omega)]; simpa using A) ab,am,(show ac.ew=false from Z),wh]
 exact ⟨Eq.trans (b:=bU<|false) aa (congrArg bU i.symm),q⟩
end Go.Hb
end
namespace Go.Hb
theorem n9 {F:aU} {xs:List bH} (h:eN F xs) {k:Nat} {r:dp} (a:F.rules[k]? =some r):r.strip.length≤1048576∧r.add.length≤1048576∧r.cond.length≤1048576∧r.add.length≤32:=by
 have :=(h.iN a).2.2; unfold jS at this; omega
theorem TE {α β:Type} {g:α→Option β} (l:List α) (i:Nat):(l.take i).filterMap g <+:l.filterMap g:=by
 conv =>rhs; rw [← xc i l,zQ]
 exact uv _ _
theorem QX {F:aU} {xs:List bH} {e:Nat} {word:Tx} {f s:Int} {pre tl a:List bZ} {x:bZ} (h:a=pre++(eG F xs e word f s++tl)) (i:kB F xs e word f s= [x]):
 a=pre++x::((aW F (flagsOf xs e) 1).filterMap (jw F xs e word f s)++tl):=by
 rw [h]; unfold eG; rw [i,dH]; rfl
theorem QW {F:aU} {xs:List bH} {e:Nat} {word:Tx} {f s:Int} {pre tl a:List bZ} {i:Nat} {x:bZ} (h:a=pre++(eG F xs e word f s++tl)) (hi:i < (aW F (flagsOf xs e) 1).length) (q:jw F xs e word f s ((aW F (flagsOf xs e) 1).getD i 0)=some x):
 a=(pre++(kB F xs e word f s++((aW F (flagsOf xs e) 1).take i).filterMap (jw F xs e word f s)))++x::(((aW F (flagsOf xs e) 1).drop<|i+1).filterMap (jw F xs e word f s)++tl):=by
 have h2:(aW F (flagsOf xs e) 1).filterMap (jw F xs e word f s)=((aW F (flagsOf xs e) 1).take i).filterMap (jw F xs e word f s)++x::((aW F (flagsOf xs e) 1).drop<|i+1).filterMap (jw F xs e word f s):=by
  conv =>lhs; rw [← xc (i+1) (aW F (flagsOf xs e) 1),zQ,DN 0 hi,q]
  rw [dH]; rfl
 unfold eG at h
 rw [h,h2]
 simp only [dH,List.cons_append]
theorem uS {α β:Type} {g:α→List β} {l:List α} {i:Nat} (d:α) (h:i < l.length):(l.take<|i+1).flatMap g=(l.take i).flatMap g++g (l.getD i d):=by
 rw [fK l i d h,nC,o5]
theorem H5 {α β:Type} {g:α→List β} {l:List α} {i:Nat} (d:α) (h:i < l.length):l.flatMap g=(l.take i).flatMap g++(g (l.getD i d)++(l.drop<|i+1).flatMap g):=by
 conv =>lhs; rw [← xc (i+1) l,nC,uS d h]
 rw [dH]
theorem Dd {α:Type} {C q s D R:List α} (a:R=C++(s++D)) (i:q <+:s):C++q <+:R:=by rw [a]; exact Dc<|i.trans<|uv _ _
theorem A3 (B tb:Nat) (aZ:iy) (F:aU) (xs:List bH) (ae:eN F xs) (M S0 mb:Nat) (bF:List bZ) (an:Bool→List bZ→(Nat→Prop)→World→Prop) (I:Yc aw M S0 nP bF (fun W=>fW W B tb aZ F xs) an) (K:rp) (bL:Int) (O:Tx) (ps:List Nat) (pre:List bZ) (fp:Nat→Prop) (en:Nat) (word:Tx) (f s:Int) (w:World) (aL:jv w fp S0 mb tb M K F bL O ps) (bX:an true pre fp w) (c1:bL=(en:Int)) (c5:ps=aW F (flagsOf xs en) 1) (ce:Rn F f) (hs:Rn F s) (dq:word.length≤1000) (tl:List bZ) (ch:bF=pre++(eG F xs en word f s++tl)):
 bp aw 125 (bh [aT mb,str word,.int .i64 f,.int .i64 s]) w (fun v w'=> ∃ b q fp',v= .bool b∧an b (pre++q) fp' w'∧Gw S0 fp w fp' w'∧q <+:eG F xs en word f s∧(b=true→q=eG F xs en word f s)):=by
 have c2:=I.lt _ _ _ _ bX
 have dn:=rT F (flagsOf xs (en:Int)) 1
 have dp:=ae.len
 subst c1
 subst c5
 refine enter func125 aa ntmps125 aa<|ag fun co=>ay<|co<|ag fun cx=>p mv<|p mv<|p (nc aa)<|p (fa BW aa)<|p (ld bz aa<|(a7 aL.cells).trans aa)<|p mv<|p mv<|p (c8 (ps:= [(0,str word),(1,ak en),(2,.int .i64 f),(3,.int .i64 s),(4,.int .i64 (-1))]) (L:= [str word,ak en,.int .i64 f,.int .i64 s,.int .i64 (-1)]) LC aa<|aa)<|e<|fg zx fun a dt dm b8 cJ=> ?_
 have dr:=b8.size
 refine e<|gj xL aa aa aa aa cJ az fun aS cO cF=> ?_
 have a0:Wk w aS:=b8.md.trans' cO fun q ci h=>by omega
 have cZ:aS.heap[a]? =some (.cells (eC ⟨word,en,f,s,-1⟩).toArray 41 (0,0)):=cF
 have b0:=I.wk bX<|a0.trans (Md.refl _ _).drew
 have aM:=aL.wk<|a0.trans (Md.refl _ _).drew
 have cg:¬fp a:=fun h=>by have :=c2 a h; omega
 have aP:S0≤a:=by have :=aL.lo; have :=(dB.1 aL.cells).1; omega
 refine nl<|cx<|aB fun cy=> ?_
 refine ep (fun aD aC=> ∃ (aq:Bool) (Y:Nat→Prop),(an (!aq) (pre++kB F xs en word f s) Y aC)∧(jv aC Y S0 mb tb M K F (en:Int) O<|aW F (flagsOf xs en) 1)∧(aC.heap[a]? =some (.cells (eC ⟨word,en,f,s,-1⟩).toArray 41 (0,0)))∧(¬Y a)∧(Gw S0 fp w Y aC)∧(aD 0=aT mb)∧(aD 1=str word)∧(aD 9=aT a)∧(aD 40= .bool aq)) ?_ ?_
 have J:(fun w'=>w'.heap[mb]? =some (.cells (n7 tb M K F (en:Int) O<|aW F (flagsOf xs en) 1).toArray 183 (0,0))∧w'.heap[a]? =some (.cells (eC ⟨word,en,f,s,-1⟩).toArray 41 (0,0))) aS.drew:=⟨aM.cells,cZ⟩
 refine MA (fun w'=>w'.heap[mb]? =some (.cells (n7 tb M K F (en:Int) O<|aW F (flagsOf xs en) 1).toArray 183 (0,0))∧w'.heap[a]? =some (.cells (eC ⟨word,en,f,s,-1⟩).toArray 41 (0,0))) aa wide J ?_
 refine yp 0 aa aj (fun _ _=>mv) J ?_
 refine yp 1 aa aj (fun _ _=>nc aa) J ?_
 refine yp 2 aa aj (fun _ _=>fa tk aa) J ?_
 refine yp 3 aa aj (fun w' A=>ld m3 aa<|(a7 A.1).trans aa) J ?_
 refine yp 4 aa aj (fun _ _=>mv) J ?_
 refine yp 5 aa aj (fun _ _=>nc aa) J ?_
 refine yp 6 aa aj (fun _ _=>fa uY aa) J ?_
 refine yp 7 aa aj (fun w' A=>ld lZ aa<|(a7 A.1).trans aa) J ?_
 refine yp 8 aa aj (fun w' A=>di rv aa (aa) fun j bA=>(oD A.2).bG j) J ?_
 refine ye 9 aa aj<|cl Gr (IK B tb aZ F xs K.ar K.cr K.rn word en f s (-1) aS.drew (I.cap _ _ _ _ b0) ae (ba aM.ru).2 aM.rn ce hs<|.inl aa) aa fun v31 bD cQ=> ?_
 obtain ⟨rfl,aF⟩:=cQ
 have b2:=I.wk b0 aF
 have a5:=aM.wk aF
 have bS:Gw S0 fp w fp bD:=Gw.wk<|(a0.trans (Md.refl _ _).drew).trans aF
 have C:(fun w'=>w'.heap[mb]? =some (.cells (n7 tb M K F (en:Int) O<|aW F (flagsOf xs en) 1).toArray 183 (0,0))∧w'.heap[a]? =some (.cells (eC ⟨word,en,f,s,-1⟩).toArray 41 (0,0))) bD:=⟨a5.cells,Wk.aJ aF J.2⟩
 refine ⟨C,?_⟩
 refine yp 10 aa aj (fun _ _=>mv) C ?_
 refine My (t:=32) aa (fun bw=> ?_) fun bw=> ?_
 have aN:kB F xs en word f s= [⟨word,en,f,s,-1⟩]:=if_pos bw
 refine ny 11 aa aj aa aa aa (fun _ _=>mv) C ?_
 refine ny 12 aa aj aa aa aa (fun _ _=>nc aa) C ?_
 refine ny 13 aa aj aa aa aa (fun _ _=>fa Ih aa) C ?_
 refine ny 14 aa aj aa aa aa (fun w' A=>ld E3 aa<|(a7 A.1).trans aa) C ?_
 refine ny 15 aa aj aa aa aa (fun w' A=>di rv aa (aa) fun j bA=>(oD A.2).bG j) C ?_
 refine MB 16 aa aj aa aa aa aa aa (I.yl pre ⟨word,en,f,s,-1⟩ _ fp bD (QX ch aN) b2) fun cD dj cR=> ?_
 obtain ⟨cE,cM,a1⟩:=cR
 have b6:=a5.gw a1
 have bq:=a1.aJ C.2 aP cg
 have bd:(fun w'=>w'.heap[mb]? =some (.cells (n7 tb M K F (en:Int) O<|aW F (flagsOf xs en) 1).toArray 183 (0,0))∧w'.heap[a]? =some (.cells (eC ⟨word,en,f,s,-1⟩).toArray 41 (0,0))) dj:=⟨b6.cells,bq.1⟩
 refine ⟨bd,?_⟩
 refine ny 17 aa aj aa aa aa (fun _ _=>no aa) bd ?_
 refine yp 18 aa aj (fun _ _=>bC aa) bd ?_
 refine yn aj ?_
 exact tn<|⟨(!cD),cE,(by rw [Bool.not_not,aN]; exact cM),b6,bq.1,bq.2,(bS.trans a1),aa,aa,aa,aa⟩
 have aN:kB F xs en word f s= []:=if_neg<|by rw [bw]; exact eo
 refine mj 11 aa aj aa aa aa aa C ?_
 refine mj 12 aa aj aa aa aa aa C ?_
 refine mj 13 aa aj aa aa aa aa C ?_
 refine mj 14 aa aj aa aa aa aa C ?_
 refine mj 15 aa aj aa aa aa aa C ?_
 refine mj 16 aa aj aa aa aa aa C ?_
 refine mj 17 aa aj aa aa aa aa C ?_
 refine yp 18 aa aj (fun _ _=>bu aa) C ?_
 refine yn aj ?_
 exact tn<|⟨false,fp,(by rw [aN,ei]; exact b2),a5,C.2,cg,bS,aa,aa,aa,aa⟩
 rintro aD aC ⟨aq,Y,aK,b5,c0,c3,bR,c6,c7,db,c9⟩
 refine fx 0 c6<|fx 1 c7<|fx 9 db<|fx 40 c9<|cb aa (fun bk=> ?_) fun bk=> ?_
 refine ag fun aY=>ay<|aY<|rt<|tr<|aX aa ?_
 have bi:aq=true :=bk
 rw [bi] at aK
 exact ⟨false,_,Y,aa,aK,bR,(by unfold eG; exact uv _ _),fun h=>by cases h⟩
 refine aQ<|cy<|aB fun aY=>ag fun cz=>au (aT mb)<|p (nc aa)<|p (fa Ig aa)<|p (ld pC aa<|(a7 b5.cells).trans aa)<|p (bJ nu aa aa)<|p mv<|nl<|cz<|aJ<|lp (fun bO ac am=> ∃ (i:Nat) (U:Nat→Prop) (aA:Tx) (pp:Int),(i≤(aW F (flagsOf xs en) 1).length)∧(an true (pre++(kB F xs en word f s++((aW F (flagsOf xs en) 1).take i).filterMap (jw F xs en word f s))) U am)∧(jv am U S0 mb tb M K F (en:Int) O<|aW F (flagsOf xs en) 1)∧(am.heap[a]? =some (.cells (eC ⟨aA,en,f,s,pp⟩).toArray 41 (0,0)))∧(¬U a)∧(Gw S0 fp w U am)∧(ac 0=aT mb)∧(ac 1=str word)∧(ac 9=aT a)∧(ac 44= .slice K.ap (aW F (flagsOf xs en) 1).length K.cp)∧(ac 45=ak ((aW F (flagsOf xs en) 1).length))∧(ac 46=ak i)∧((aW F (flagsOf xs en) 1).length - i=bO)) _ ⟨0,Y,word,-1,ab,((by have bi:aq=false :=bk; rw [bi] at aK; simpa using aK)),b5,c0,c3,bR,aa,aa,aa,aa,aa,aa,aa⟩ ?_
 rintro bO ac am ⟨i,U,aA,pp,hi,a3,a8,bv,ax,bW,dc,dd,dh,de,df,dg,rfl⟩
 refine fx 0 dc<|fx 1 dd<|fx 9 dh<|fx 44 de<|fx 45 df<|fx 46 dg<|ag fun cA=>p (lt aa aa)<|nl<|cA<|aB fun cB=>cd aa (fun cY=> ?_) fun cY=> ?_
 refine aQ<|cB<|aB fun ao=>aJ<|ag fun cC=>p (bc kf aa aa ab<|aO.ok ((ba a8.pr).2)<|bT ab)<|p (ld bz aa<|aO.gN (i:=i) (ba a8.pr).2<|nk ab)<|ay<|cC<|ag fun cq=>p mv<|p (fa rJ aa)<|e<|cT gr aa aa (v:= .int .i64 (((aW F (flagsOf xs en) 1).getD i 0:Nat):Int)) aa bv (by show 4 < 5; omega) fun al a6 cH=> ?_
 have ca:al.heap[a]? =some (.cells (eC ⟨aA,en,f,s,((aW F (flagsOf xs en) 1).getD i 0:Nat)⟩).toArray 41 (0,0)):=cH
 have cX:TF am [43] (fun q=>q=a):=TF.eq (dA bv) az
 have b3:=I.vD a3 bv aP ax a6
 have av:=a8.vq a6 cX az
 have cK:=Gw.JJ bW a6 fun k hk=>by subst hk; omega
 have c4:=rQ.1<|dY (d:=0) (show i < (aW F (flagsOf xs en) 1).length by omega)
 obtain ⟨r,Z⟩:∃ r,F.rules[(aW F (flagsOf xs en) 1).getD i 0]? =some r:=⟨_,cI c4.1⟩
 have cj:F.rules.getD ((aW F (flagsOf xs en) 1).getD i 0) e6=r:=by rw [da,Z]; rfl
 have ai:=DN (g:=jw F xs en word f s) 0 (show i < (aW F (flagsOf xs en) 1).length by omega)
 refine nl<|cq<|aB fun cs=>aB fun ct=> ?_
 have G:(fun w'=>Wk al w') al.drew:=(Md.refl _ _).drew
 refine bN (fun w'=>Wk al w') aa wide G<|bI 0 aa (aT mb) G<|aH 1 aa (fun _ _=>nc aa) G<|aH 2 aa (fun _ _=>fa tk aa) G<|aH 3 aa (fun w' A=>ld m3 aa<|Wk.aR A<|(a7 av.cells).trans aa) G<|bI 4 aa (aT mb) G<|aH 5 aa (fun _ _=>nc aa) G<|aH 6 aa (fun _ _=>fa uY aa) G<|aH 7 aa (fun w' A=>ld lZ aa<|Wk.aR A<|(a7 av.cells).trans aa) G<|aH 8 aa (fun w' A=>di rv aa (aa) fun j bA=>(Md.B A (oD ca) fun h=>h).bG j) G<|he 9 aa aj<|cl Gr (IK B tb aZ F xs K.ar K.cr K.rn aA en f s ((aW F (flagsOf xs en) 1).getD i 0:Nat) al.drew (I.cap _ _ _ _<|I.wk b3 G) ae ((ba av.ru).2.wk G) av.rn ce hs<|.inr ab) aa fun ds cn cS=> ?_
 obtain ⟨rfl,bP⟩:=cS
 have aI:=G.trans bP
 have b4:=I.wk b3 aI
 have V:=av.wk aI
 have cc:=Wk.aJ aI ca
 have bV:=cK.trans<|Gw.wk aI
 have b9:(fun w'=>Wk al w') cn:=G.trans bP
 refine ⟨b9,?_⟩
 refine aH 10 aa (fun _ _=>no aa) b9<|hn aj<|ct<|cb aa (fun bl=> ?_) fun bl=> ?_
 have bx:fC F xs en f s ((aW F (flagsOf xs en) 1).getD i 0:Nat)=false :=by simpa using bl
 have bN:=GW (word:=word) bx
 rw [bN] at ai
 exact ext<|bf<|be<|ao<|rg aa<|p (ad aa aa<|bY ab)<|p mv<|nl<|tn<|⟨_,ab,i+1,U,aA,_,ab,(by rw [ai]; simpa using b4),V,cc,ax,bV,aa,aa,aa,aa,aa,aa,aa⟩
 have bx:fC F xs en f s ((aW F (flagsOf xs en) 1).getD i 0:Nat)=true :=by simpa using bl
 refine aQ<|cs<|ag fun cu=>au (aT mb)<|p (nc aa)<|p (fa uY aa)<|p (ld lZ aa<|(a7 V.cells).trans aa)<|p mv<|p (bc nd aa aa ab<|aO.ok ((ba V.ru).2)<|oa (V.iN Z).choose_spec)<|p (di m6 aa (aa)<|fA (f:=fD) (m:=7) (fun _=>rfl) (ba V.ru).2 (V.iN Z).choose_spec)<|au (str word)<|e<|cl AW (Al r (V.iN Z).choose word cn (n9 ae Z).1 (n9 ae Z).2.1 (n9 ae Z).2.2.1 ab) aa fun v72 dk cU=> ?_
 obtain ⟨rfl,aG⟩:=cU
 have cN:=I.wk b4 aG
 have cP:=V.wk aG
 have bt:=Wk.aJ aG cc
 have cL:=bV.trans<|Gw.wk aG
 refine p mv<|p (xt aa aa)<|p (xt aa aa)<|p aE<|ay<|cu<|aB fun cv=>rg aa<|p mv<|p (fa yh aa)<|e<|cT kS aa aa (v:=str<|(dJ r word).getD []) aa bt (by show 0 < 5; omega) fun bB a4 cG=> ?_
 have bo:bB.heap[a]? =some (.cells (eC ⟨((dJ r word).getD []),en,f,s,((aW F (flagsOf xs en) 1).getD i 0:Nat)⟩).toArray 41 (0,0)):=cG
 have cW:TF dk [43] (fun q=>q=a):=TF.eq (dA bt) az
 have b1:=I.wk (I.vD cN bt aP ax a4) (Md.refl _ _).drew
 have a9:=(cP.vq a4 cW az).wk (Md.refl _ _).drew
 have bQ:=(Gw.JJ cL a4 fun k hk=>by subst hk; omega).trans<|Gw.wk (Md.refl _ _).drew
 refine nl<|cv<|aB fun bE=> ?_
 have E:(fun w'=>w'.heap[mb]? =some (.cells (n7 tb M K F (en:Int) O<|aW F (flagsOf xs en) 1).toArray 183 (0,0))∧w'.heap[a]? =some (.cells (eC ⟨((dJ r word).getD []),en,f,s,((aW F (flagsOf xs en) 1).getD i 0:Nat)⟩).toArray 41 (0,0))) bB.drew:=⟨a9.cells,bo⟩
 refine MA (fun w'=>w'.heap[mb]? =some (.cells (n7 tb M K F (en:Int) O<|aW F (flagsOf xs en) 1).toArray 183 (0,0))∧w'.heap[a]? =some (.cells (eC ⟨((dJ r word).getD []),en,f,s,((aW F (flagsOf xs en) 1).getD i 0:Nat)⟩).toArray 41 (0,0))) aa wide E ?_
 refine yp 0 aa aj (fun _ _=>mv) E ?_
 refine yp 1 aa aj (fun _ _=>mv) E ?_
 refine My (t:=78) aa (fun bg=> ?_) fun bg=> ?_
 obtain ⟨v,ck⟩:∃ v,dJ r word=some v:=ph.1 bg
 have bN:=GX (word:=word) bx<|by rw [cj]; exact ck
 rw [bN] at ai
 have cm:(dJ r word).getD []=v:=by rw [ck]; rfl
 refine ny 2 aa aj aa aa aa (fun _ _=>aV (aT mb) aa) E ?_
 refine ny 3 aa aj aa aa aa (fun _ _=>nc aa) E ?_
 refine ny 4 aa aj aa aa aa (fun _ _=>fa Ih aa) E ?_
 refine ny 5 aa aj aa aa aa (fun w' A=>ld E3 aa<|(a7 A.1).trans aa) E ?_
 refine ny 6 aa aj aa aa aa (fun w' A=>di rv aa (aa) fun j bA=>(oD A.2).bG j) E ?_
 refine MB 7 aa aj aa aa aa aa aa (I.yl (pre++(kB F xs en word f s++((aW F (flagsOf xs en) 1).take i).filterMap (jw F xs en word f s))) ⟨(dJ r word).getD [],en,f,s,((aW F (flagsOf xs en) 1).getD i 0:Nat)⟩ _ U bB.drew (QW ch ab<|by rw [bN,cm]) b1) fun bK dl cV=> ?_
 obtain ⟨bM,ah,a2⟩:=cV
 have b7:=a9.gw a2
 have bs:=a2.aJ bo aP ax
 have bU:=bQ.trans a2
 rw [cm] at ah
 have ci:(kB F xs en word f s++((aW F (flagsOf xs en) 1).take i).filterMap (jw F xs en word f s))++ [⟨v,en,f,s,((aW F (flagsOf xs en) 1).getD i 0:Nat)⟩]=kB F xs en word f s++((aW F (flagsOf xs en) 1).take<|i+1).filterMap (jw F xs en word f s):=by rw [ai,dH]; rfl
 rw [dH pre,ci] at ah
 have bb:(fun w'=>w'.heap[mb]? =some (.cells (n7 tb M K F (en:Int) O<|aW F (flagsOf xs en) 1).toArray 183 (0,0))∧w'.heap[a]? =some (.cells (eC ⟨((dJ r word).getD []),en,f,s,((aW F (flagsOf xs en) 1).getD i 0:Nat)⟩).toArray 41 (0,0))) dl:=⟨b7.cells,bs.1⟩
 refine ⟨bb,?_⟩
 refine ny 8 aa aj aa aa aa (fun _ _=>no aa) bb ?_
 refine yp 9 aa aj (fun _ _=>bC aa) bb ?_
 refine yn aj ?_
 refine bE<|cb aa (fun bm=> ?_) fun bm=> ?_
 refine ag fun cw=>ay<|cw<|rt<|br<|tr<|tr<|br<|tr<|aX aa ?_
 have bj:bK=false :=by simpa using bm
 rw [bj] at ah
 exact ⟨false,_,bM,aa,ah,bU,(by unfold eG; exact Dc<|TE _ _),fun h=>by cases h⟩
 exact aQ<|bn<|ao<|rg aa<|p (ad aa aa<|bY ab)<|p mv<|nl<|tn<|⟨_,ab,i+1,bM,_,_,ab,((by have bj:bK=true :=(by simpa using bm); rw [bj] at ah; exact ah)),b7,bs.1,bs.2,bU,aa,aa,aa,aa,aa,aa,aa⟩
 have bN:=GV (xs:=xs) (e:=en) (f:=f) (s:=s) (word:=word) (p:=(aW F (flagsOf xs en) 1).getD i 0)<|by rw [cj]; simpa using bg
 rw [bN] at ai
 refine mj 2 aa aj aa aa aa aa E ?_
 refine mj 3 aa aj aa aa aa aa E ?_
 refine mj 4 aa aj aa aa aa aa E ?_
 refine mj 5 aa aj aa aa aa aa E ?_
 refine mj 6 aa aj aa aa aa aa E ?_
 refine mj 7 aa aj aa aa aa aa E ?_
 refine mj 8 aa aj aa aa aa aa E ?_
 refine yp 9 aa aj (fun _ _=>bu aa) E ?_
 refine yn aj ?_
 refine bE<|cf aa<|aQ<|bn<|ao<|rg aa<|p (ad aa aa<|bY ab)<|p mv ?_
 exact nl<|tn<|⟨_,ab,i+1,U,_,_,ab,(by rw [ai]; simpa using b1),a9,bo,ax,bQ,aa,aa,aa,aa,aa,aa,aa⟩
 refine ext<|bf<|bf<|be<|aY<|ag fun ao=>p aE<|nl<|ao<|rt<|aX aa ?_
 rw [eU ab] at a3
 exact ⟨true,_,U,aa,a3,bW,zW _,fun _=>rfl⟩
set_option maxHeartbeats 4000000 in
theorem XY (B tb:Nat) (an:iy) (F:aU) (xs:List bH) (a:eN F xs) (ai S0 mb:Nat) (ao:List bZ) (O:Bool→List bZ→(Nat→Prop)→World→Prop) (E:Yc aw ai S0 nP ao (fun W=>fW W B tb an F xs) O) (K:rp) (pre:List bZ) (fp:Nat→Prop) (en:Nat) (x:bH) (w:World) (az:jv w fp S0 mb tb ai K F (en:Int) x.1 (aW F (flagsOf xs en) 1)) (cV:O true pre fp w) (cy:xs[en]? =some x) (tl:List bZ) (cq:ao=pre++(jL F xs en++tl)):
 bp aw 79 (bh [aT mb]) w (fun v w'=> ∃ b q fp',v= .bool b∧O b (pre++q) fp' w'∧Gw S0 fp w fp' w'∧q <+:jL F xs en∧(b=true→q=jL F xs en)):=by
 obtain ⟨dG,dI,dK,a8⟩:=sR cy
 have a1:jL F xs en=eG F xs en x.1 (-1) (-1)++(aW F (flagsOf xs en) 2).flatMap (gd F xs en):=by unfold jL; rw [a8]
 have dR:=(a.uP x<|iR cy).1
 have dO:=a.len
 have dL:S0≤w.heap.size:=by have :=az.lo; have :=(dB.1 az.cells).1; omega
 have dM:=rT F (flagsOf xs (en:Int)) 2
 refine enter func79 aa ntmps79 aa<|ag fun cA=>ay<|cA<|aB fun cL=>ag fun cO=>au (aT mb)<|au (aT mb)<|p (nc aa)<|p (fa BX aa)<|p (ld bV aa<|(a7 az.cells).trans aa)<|e<|cl Ax (A3 B tb an F xs a ai S0 mb ao O E K (en:Int) x.1 _ pre fp en x.1 (-1) (-1) w az cV aa aa (.inl aa) (.inl aa) ab ((aW F (flagsOf xs en) 2).flatMap (gd F xs en)++tl)<|by rw [cq,a1,dH]) aa fun dW aD c1=> ?_
 obtain ⟨bR,dC,a9,rfl,aZ,aS,dj,dk⟩:=c1
 have bl:=az.gw aS
 refine p (no aa)<|nl<|cO<|cb aa (fun bs=> ?_) fun bs=> ?_
 obtain rfl :bR=false :=by simpa using bs
 exact ag fun a5=>ay<|a5<|rt<|tr<|aX aa<|⟨false,dC,a9,aa,aZ,aS,(by rw [a1]; exact dj.trans<|uv _ _),fun h=>by cases h⟩
 obtain rfl :bR=true :=by simpa using bs
 obtain rfl :=dk rfl
 refine aQ<|cL<|aB fun a5=>aB fun cP=> ?_
 have A:(fun w'=>Wk aD w') aD.drew:=(Md.refl _ _).drew
 refine bN (fun w'=>Wk aD w') aa wide A<|bI 0 aa (aT mb) A<|aH 1 aa (fun _ _=>nc aa) A<|aH 2 aa (fun _ _=>fa tk aa) A<|aH 3 aa (fun w' M=>ld m3 aa<|Wk.aR M<|(a7 bl.cells).trans aa) A<|bI 4 aa (aT mb) A<|aH 5 aa (fun _ _=>nc aa) A<|aH 6 aa (fun _ _=>fa BW aa) A<|aH 7 aa (fun w' M=>ld bz aa<|Wk.aR M<|(a7 bl.cells).trans aa) A<|aH 10 aa (fun _ _=>mv) A<|he 8 aa aj<|cl QA (YM B tb an F xs (en:Int) aD.drew (E.cap _ _ _ _<|E.wk aZ A) a) aa fun dX dD c2=> ?_
 obtain ⟨bD,b0⟩:=c2
 obtain ⟨ae,ah,rfl⟩:=cE bD
 have bd:=A.trans b0
 have cX:=E.wk aZ bd
 have c0:=bl.wk bd
 have cU:=aS.trans<|Gw.wk bd
 have dT:=A.size
 have dc:∀ q,(bS ae (aW F (flagsOf xs en) 2).length ah).ownBlock=some q→¬a9 q:=fun q bK h=>by have h1:=(dS bD bK).1; have h2:=E.lt _ _ _ _ aZ q h; omega
 have dg:=eE bD (show S0≤_ by have :=aS.size; omega)
 have ca:(fun w'=>Wk aD w') dD:=A.trans b0
 refine ⟨ca,?_⟩
 refine aH 9 aa (fun _ _=>bJ nu aa aa) ca<|hn aj<|cP<|aJ<|lp (fun ar aF G=> ∃ (i:Nat) (U:Nat→Prop),(i≤(aW F (flagsOf xs en) 2).length)∧(O true (pre++(eG F xs en x.1 (-1) (-1)++((aW F (flagsOf xs en) 2).take i).flatMap (gd F xs en))) U G)∧(jv G U S0 mb tb ai K F (en:Int) x.1<|aW F (flagsOf xs en) 1)∧(bw G S0 3 1 (.slice ae (aW F (flagsOf xs en) 2).length ah) (aW F (flagsOf xs en) 2).length<|(aW F (flagsOf xs en) 2).map bQ)∧(∀ q,(bS ae (aW F (flagsOf xs en) 2).length ah).ownBlock=some q→¬U q)∧(Gw S0 fp w U G)∧(aF 0=aT mb)∧(aF 26= .slice ae (aW F (flagsOf xs en) 2).length ah)∧(aF 27=ak ((aW F (flagsOf xs en) 2).length))∧(aF 28=ak i)∧((aW F (flagsOf xs en) 2).length - i=ar)) _ ⟨0,a9,ab,(by simpa using cX),c0,dg,dc,cU,aa,aa,aa,aa,aa⟩ ?_
 rintro ar aF G ⟨i,U,hi,bj,V,bF,cg,b5,dl,dm,dn,dp,rfl⟩
 refine fx 0 dl<|fx 26 dm<|fx 27 dn<|fx 28 dp<|ag fun cQ=>p (lt aa aa)<|nl<|cQ<|aB fun cR=>cd aa (fun c8=> ?_) fun c8=> ?_
 refine aQ<|cR<|aB fun aG=>aJ<|ag fun cS=>p (bc kf aa aa ab<|aO.ok ((ba bF).2)<|bT ab)<|p (ld bz aa<|aO.gN (i:=i) (ba bF).2<|nk ab)<|ay<|cS<|aB fun cB=> ?_
 have dz:=rQ.1<|dY (d:=0) (show i < (aW F (flagsOf xs en) 2).length by omega)
 obtain ⟨r,Z⟩:∃ r,F.rules[((aW F (flagsOf xs en) 2).getD i 0)]? =some r:=⟨_,cI dz.1⟩
 have cv:F.rules.getD ((aW F (flagsOf xs en) 2).getD i 0) e6=r:=by rw [da,Z]; rfl
 have bL:=uS (g:=gd F xs en) 0 (show i < (aW F (flagsOf xs en) 2).length by omega)
 have C:(fun w'=>Wk G w') G.drew:=(Md.refl _ _).drew
 refine bN (fun w'=>Wk G w') aa wide C<|bI 0 aa (aT mb) C<|aH 1 aa (fun _ _=>nc aa) C<|aH 2 aa (fun _ _=>fa uY aa) C<|aH 3 aa (fun w' M=>ld lZ aa<|Wk.aR M<|(a7 V.cells).trans aa) C<|aH 4 aa (fun _ _=>mv) C<|aH 5 aa (fun _ _=>bc nd aa aa ab<|aO.ok ((ba V.ru).2)<|oa (V.iN Z).choose_spec) C<|aH 6 aa (fun w' M=>di m6 aa (aa) fun j de=>fA (f:=fD) (m:=7) (fun _=>rfl) ((ba V.ru).2.wk M) (V.iN Z).choose_spec j de) C<|bI 7 aa (aT mb) C<|aH 8 aa (fun _ _=>nc aa) C<|aH 9 aa (fun _ _=>fa BX aa) C<|aH 10 aa (fun w' M=>ld bV aa<|Wk.aR M<|(a7 V.cells).trans aa) C<|he 11 aa aj<|cl AW (Al r (V.iN Z).choose x.1 G.drew (n9 a Z).1 (n9 a Z).2.1 (n9 a Z).2.2.1 ab) aa fun dZ cz c3=> ?_
 obtain ⟨rfl,b1⟩:=c3
 have aP:=C.trans b1
 have b8:=E.wk bj aP
 have bo:=V.wk aP
 have b4:=b5.trans<|Gw.wk aP
 have ck:=a6 bF aP
 have ap:(fun w'=>Wk G w') cz:=C.trans b1
 refine ⟨ap,?_⟩
 refine aH 12 aa (fun _ _=>mv) ap<|aH 13 aa (fun _ _=>xt aa aa) ap<|aH 14 aa (fun _ _=>xt aa aa) ap<|aH 15 aa (fun _ _=>aE) ap<|aH 16 aa (fun _ _=>aE) ap<|hn aj<|cB<|aB fun cC=>ag fun cD=>p mv<|p (no aa)<|nl<|cD<|cb aa (fun bt=> ?_) fun bt=> ?_
 have aA:dJ r x.1=none:=by simpa using bt
 have bN:gd F xs en ((aW F (flagsOf xs en) 2).getD i 0)= []:=by unfold gd; rw [cv,a8,aA]
 rw [bN,ei] at bL
 exact ext<|bf<|be<|aG<|rg aa<|p (ad aa aa<|bY ab)<|p mv<|nl<|tn<|⟨_,ab,i+1,U,ab,(by rw [bL]; exact b8),bo,ck,cg,b4,aa,aa,aa,aa,aa⟩
 obtain ⟨wd,aA⟩:∃ v,dJ r x.1=some v:=ph.1<|by simpa using bt
 have aq:((dJ r x.1).getD [])=wd:=by rw [aA]; rfl
 have bN:gd F xs en ((aW F (flagsOf xs en) 2).getD i 0)=eG F xs en wd (((aW F (flagsOf xs en) 2).getD i 0):Nat) (-1)++(aW F (db F (((aW F (flagsOf xs en) 2).getD i 0):Nat)) 2).flatMap (jj F xs en wd (((aW F (flagsOf xs en) 2).getD i 0):Nat)):=by unfold gd; rw [cv,a8,aA]
 have dQ:=(qj (n9 a Z).2.2.2 aA).2
 have bA:jL F xs en=(eG F xs en x.1 (-1) (-1)++((aW F (flagsOf xs en) 2).take i).flatMap (gd F xs en))++(gd F xs en ((aW F (flagsOf xs en) 2).getD i 0)++((aW F (flagsOf xs en) 2).drop<|i+1).flatMap (gd F xs en)):=by rw [a1,H5 0 (show i < (aW F (flagsOf xs en) 2).length by omega),dH]
 have cc:ao=(pre++(eG F xs en x.1 (-1) (-1)++((aW F (flagsOf xs en) 2).take i).flatMap (gd F xs en)))++(gd F xs en ((aW F (flagsOf xs en) 2).getD i 0)++(((aW F (flagsOf xs en) 2).drop<|i+1).flatMap (gd F xs en)++tl)):=by rw [cq,bA]; simp only [dH]
 refine aQ<|cC<|aB fun cF=>ag fun cG=>au (aT mb)<|p mv<|p mv<|e<|cl Ax (A3 B tb an F xs a ai S0 mb ao O E K (en:Int) x.1 _ (pre++(eG F xs en x.1 (-1) (-1)++((aW F (flagsOf xs en) 2).take i).flatMap (gd F xs en))) U en ((dJ r x.1).getD []) ((((aW F (flagsOf xs en) 2).getD i 0):Nat):Int) (-1) cz bo b8 aa aa (.inr ab) (.inl aa) (by rw [aq]; omega) ((aW F (db F (((aW F (flagsOf xs en) 2).getD i 0):Nat)) 2).flatMap (jj F xs en wd (((aW F (flagsOf xs en) 2).getD i 0):Nat))++(((aW F (flagsOf xs en) 2).drop<|i+1).flatMap (gd F xs en)++tl))<|by rw [aq,cc,bN]; simp only [dH]) aa fun d0 dE c4=> ?_
 obtain ⟨bU,dU,bb,rfl,ax,bi,cr,cs⟩:=c4
 rw [aq] at cr cs
 have b9:=bo.gw bi
 have bg:=b4.trans bi
 have cm:=bi.own ck cg
 refine p (no aa)<|nl<|cG<|cb aa (fun bv=> ?_) fun bv=> ?_
 obtain rfl :bU=false :=by simpa using bv
 refine ag fun a4=>ay<|a4<|rt<|tr<|br<|tr<|tr<|br<|tr<|aX aa ?_
 rw [dH] at ax
 exact ⟨false,_,bb,aa,ax,bg,Dd bA (by rw [bN]; exact cr.trans<|uv _ _),fun h=>by cases h⟩
 obtain rfl :bU=true :=by simpa using bv
 obtain rfl :=cs rfl
 refine aQ<|cF<|ag fun a4=>au (aT mb)<|p (nc aa)<|p (fa tk aa)<|p (ld m3 aa<|(a7 b9.cells).trans aa)<|p mv<|e<|cl QB (X2 B tb an F xs (((aW F (flagsOf xs en) 2).getD i 0):Nat) dE (E.cap _ _ _ _ ax) a) aa fun v59 d3 c5=> ?_
 obtain ⟨bE,aN⟩:=c5
 obtain ⟨aK,aL,rfl⟩:=cE bE
 have cW:=E.wk ax aN
 have cY:=b9.wk aN
 have cT:=bg.trans<|Gw.wk aN
 have df:=a6 cm.1 aN
 have dd:∀ q,(bS aK (aW F (db F (((aW F (flagsOf xs en) 2).getD i 0):Nat)) 2).length aL).ownBlock=some q→¬bb q:=fun q bK h=>by have h1:=(dS bE bK).1; have h2:=E.lt _ _ _ _ ax q h; omega
 have dh:=eE bE (show S0≤_ by have :=bg.size; omega)
 have dN:=rT F (db F (((aW F (flagsOf xs en) 2).getD i 0):Nat)) 2
 refine p (bJ nu aa aa)<|p mv<|nl<|a4<|aJ<|lp (fun ar I am=> ∃ (k:Nat) (J:Nat→Prop),(k≤(aW F (db F (((aW F (flagsOf xs en) 2).getD i 0):Nat)) 2).length)∧(O true ((pre++(eG F xs en x.1 (-1) (-1)++((aW F (flagsOf xs en) 2).take i).flatMap (gd F xs en)))++(eG F xs en wd (((aW F (flagsOf xs en) 2).getD i 0):Nat) (-1)++((aW F (db F (((aW F (flagsOf xs en) 2).getD i 0):Nat)) 2).take k).flatMap (jj F xs en wd (((aW F (flagsOf xs en) 2).getD i 0):Nat)))) J am)∧(jv am J S0 mb tb ai K F (en:Int) x.1<|aW F (flagsOf xs en) 1)∧(bw am S0 3 1 (.slice ae (aW F (flagsOf xs en) 2).length ah) (aW F (flagsOf xs en) 2).length<|(aW F (flagsOf xs en) 2).map bQ)∧(∀ q,(bS ae (aW F (flagsOf xs en) 2).length ah).ownBlock=some q→¬J q)∧(bw am S0 3 1 (.slice aK (aW F (db F (((aW F (flagsOf xs en) 2).getD i 0):Nat)) 2).length aL) (aW F (db F (((aW F (flagsOf xs en) 2).getD i 0):Nat)) 2).length<|(aW F (db F (((aW F (flagsOf xs en) 2).getD i 0):Nat)) 2).map bQ)∧(∀ q,(bS aK (aW F (db F (((aW F (flagsOf xs en) 2).getD i 0):Nat)) 2).length aL).ownBlock=some q→¬J q)∧(Gw S0 fp w J am)∧(I 0=aT mb)∧(I 4= .int .i64 (((aW F (flagsOf xs en) 2).getD i 0):Nat))∧(I 5=str ((dJ r x.1).getD []))∧(I 26= .slice ae (aW F (flagsOf xs en) 2).length ah)∧(I 27=ak ((aW F (flagsOf xs en) 2).length))∧(I 28=ak i)∧(I 59= .slice aK (aW F (db F (((aW F (flagsOf xs en) 2).getD i 0):Nat)) 2).length aL)∧(I 60= .int .i64 ((aW F (db F (((aW F (flagsOf xs en) 2).getD i 0):Nat)) 2).length:Nat))∧(I 61=ak k)∧((aW F (db F (((aW F (flagsOf xs en) 2).getD i 0):Nat)) 2).length - k=ar)) _ ⟨0,bb,ab,(by simpa using cW),cY,df,cm.2,dh,dd,cT,aa,aa,aa,aa,aa,aa,aa,aa,aa,aa⟩ ?_
 rintro ar I am ⟨k,J,hk,bk,Y,cn,bB,bG,ch,b6,dq,du,dv,dr,ds,dt,dw,dx,dy,rfl⟩
 refine fx 0 dq<|fx 4 du<|fx 5 dv<|fx 26 dr<|fx 27 ds<|fx 28 dt<|fx 59 dw<|fx 60 dx<|fx 61 dy<|ag fun cH=>p (lt aa aa)<|nl<|cH<|aB fun cJ=>cd aa (fun c9=> ?_) fun c9=> ?_
 refine aQ<|cJ<|aB fun bO=>aJ<|ag fun cK=>p (bc kf aa aa ab<|aO.ok ((ba bG).2)<|bT ab)<|p (ld bz aa<|aO.gN (i:=k) (ba bG).2<|nk ab)<|ay<|cK<|aB fun cM=> ?_
 have dA:=rQ.1<|dY (d:=0) (show k < (aW F (db F (((aW F (flagsOf xs en) 2).getD i 0):Nat)) 2).length by omega)
 obtain ⟨al,ac⟩:∃ r,F.rules[((aW F (db F (((aW F (flagsOf xs en) 2).getD i 0):Nat)) 2).getD k 0)]? =some r:=⟨_,cI dA.1⟩
 have cw:F.rules.getD ((aW F (db F (((aW F (flagsOf xs en) 2).getD i 0):Nat)) 2).getD k 0) e6=al:=by rw [da,ac]; rfl
 have a2:=uS (g:=jj F xs en wd (((aW F (flagsOf xs en) 2).getD i 0):Nat)) 0 (show k < (aW F (db F (((aW F (flagsOf xs en) 2).getD i 0):Nat)) 2).length by omega)
 refine rg aa<|au (aT mb)<|p (nc aa)<|p (fa uY aa)<|p (ld lZ aa<|(a7 Y.cells).trans aa)<|p mv<|p (bc nd aa aa ab<|aO.ok ((ba Y.ru).2)<|oa (Y.iN ac).choose_spec)<|p (di m6 aa (aa)<|fA (f:=fD) (m:=7) (fun _=>rfl) (ba Y.ru).2 (Y.iN ac).choose_spec)<|au (str<|(dJ r x.1).getD [])<|e<|cl AW (Al al (Y.iN ac).choose ((dJ r x.1).getD []) am (n9 a ac).1 (n9 a ac).2.1 (n9 a ac).2.2.1<|by rw [aq]; omega) aa fun d1 dF c6=> ?_
 obtain ⟨rfl,av⟩:=c6
 have b7:=E.wk bk av
 have bm:=Y.wk av
 have b2:=b6.trans<|Gw.wk av
 have ci:=a6 cn av
 have co:=a6 bG av
 refine p mv<|p (xt aa aa)<|p (xt aa aa)<|p aE<|ay<|cM<|aB fun bP=>rg aa<|p mv<|p mv<|gb (t:=78) aa (fun bq=> ?_) fun bq=> ?_
 obtain ⟨v2,cx⟩:∃ v,dJ al ((dJ r x.1).getD [])=some v:=ph.1 bq
 have bM:(dJ al<|(dJ r x.1).getD []).getD []=v2:=by rw [cx]; rfl
 have a3:dJ al wd=some v2:=by rw [← aq]; exact cx
 have aC:jj F xs en wd (((aW F (flagsOf xs en) 2).getD i 0):Nat) ((aW F (db F (((aW F (flagsOf xs en) 2).getD i 0):Nat)) 2).getD k 0)=eG F xs en v2 (((aW F (flagsOf xs en) 2).getD i 0):Nat) (((aW F (db F (((aW F (flagsOf xs en) 2).getD i 0):Nat)) 2).getD k 0):Nat):=by unfold jj; rw [cw,a3]
 have dP:=(qj (n9 a ac).2.2.2 a3).2
 have ce:gd F xs en ((aW F (flagsOf xs en) 2).getD i 0)=(eG F xs en wd (((aW F (flagsOf xs en) 2).getD i 0):Nat) (-1)++((aW F (db F (((aW F (flagsOf xs en) 2).getD i 0):Nat)) 2).take k).flatMap (jj F xs en wd (((aW F (flagsOf xs en) 2).getD i 0):Nat)))++(jj F xs en wd (((aW F (flagsOf xs en) 2).getD i 0):Nat) ((aW F (db F (((aW F (flagsOf xs en) 2).getD i 0):Nat)) 2).getD k 0)++((aW F (db F (((aW F (flagsOf xs en) 2).getD i 0):Nat)) 2).drop<|k+1).flatMap (jj F xs en wd (((aW F (flagsOf xs en) 2).getD i 0):Nat))):=by rw [bN,H5 (g:=jj F xs en wd (((aW F (flagsOf xs en) 2).getD i 0):Nat)) 0 (show k < (aW F (db F (((aW F (flagsOf xs en) 2).getD i 0):Nat)) 2).length by omega),dH]
 refine aM aa (aV (aT mb) aa)<|aM aa mv<|aM aa (aV (.int .i64 (((aW F (flagsOf xs en) 2).getD i 0):Nat)) aa)<|aM aa mv<|eg aa aa aa<|cl Ax (A3 B tb an F xs a ai S0 mb ao O E K (en:Int) x.1 _ ((pre++(eG F xs en x.1 (-1) (-1)++((aW F (flagsOf xs en) 2).take i).flatMap (gd F xs en)))++(eG F xs en wd (((aW F (flagsOf xs en) 2).getD i 0):Nat) (-1)++((aW F (db F (((aW F (flagsOf xs en) 2).getD i 0):Nat)) 2).take k).flatMap (jj F xs en wd (((aW F (flagsOf xs en) 2).getD i 0):Nat)))) J en ((dJ al<|(dJ r x.1).getD []).getD []) ((((aW F (flagsOf xs en) 2).getD i 0):Nat):Int) ((((aW F (db F (((aW F (flagsOf xs en) 2).getD i 0):Nat)) 2).getD k 0):Nat):Int) dF bm b7 aa aa (.inr ab) (.inr ab) (by rw [bM]; omega) (((aW F (db F (((aW F (flagsOf xs en) 2).getD i 0):Nat)) 2).drop<|k+1).flatMap (jj F xs en wd (((aW F (flagsOf xs en) 2).getD i 0):Nat))++(((aW F (flagsOf xs en) 2).drop<|i+1).flatMap (gd F xs en)++tl))<|by rw [bM,cc,ce,aC]; simp only [dH]) aa fun d2 d4 c7=> ?_
 obtain ⟨bW,dV,bX,rfl,a0,aY,ct,cu⟩:=c7
 rw [bM] at ct cu
 have cZ:=bm.gw aY
 have b3:=b2.trans aY
 have cj:=aY.own ci bB
 have cp:=aY.own co ch
 refine aM aa (no aa)<|p (bC aa)<|nl<|bP<|cb aa (fun bx=> ?_) fun bx=> ?_
 obtain rfl :bW=false :=by simpa using bx
 refine ag fun cN=>ay<|cN<|rt<|br<|tr<|tr<|br<|br<|tr<|tr<|br<|tr<|aX aa ?_
 rw [dH,dH] at a0
 exact ⟨false,_,bX,aa,a0,b3,Dd bA (Dd ce<|by rw [aC]; exact ct),fun h=>by cases h⟩
 obtain rfl :bW=true :=by simpa using bx
 obtain rfl :=cu rfl
 rw [aC] at a2
 exact aQ<|bn<|bO<|rg aa<|p (ad aa aa<|bY ab)<|p mv<|nl<|tn<|⟨_,ab,k+1,bX,ab,(by rw [a2,← dH (eG F xs en wd (((aW F (flagsOf xs en) 2).getD i 0):Nat)<|-1)]; rw [dH] at a0; exact a0),cZ,cj.1,cj.2,cp.1,cp.2,b3,aa,aa,aa,aa,aa,aa,aa,aa,aa,aa⟩
 have a3:dJ al wd=none:=by rw [← aq]; simpa using bq
 have aC:jj F xs en wd (((aW F (flagsOf xs en) 2).getD i 0):Nat) ((aW F (db F (((aW F (flagsOf xs en) 2).getD i 0):Nat)) 2).getD k 0)= []:=by unfold jj; rw [cw,a3]
 rw [aC,ei] at a2
 refine aI aa<|aI aa<|aI aa<|aI aa<|aI aa<|aI aa<|p (bu aa)<|nl<|bP<|cf aa<|aQ<|bn<|bO<|rg aa<|p (ad aa aa<|bY ab)<|p mv ?_
 exact nl<|tn<|⟨_,ab,k+1,J,ab,(by rw [a2]; exact b7),bm,ci,bB,co,ch,b2,aa,aa,aa,aa,aa,aa,aa,aa,aa,aa⟩
 exact ext<|bf<|bf<|be<|bn<|aG<|rg aa<|p (ad aa aa<|bY ab)<|p mv<|nl<|tn<|⟨_,ab,i+1,J,ab,(by rw [bL,bN]; rw [eU (show (aW F (db F (((aW F (flagsOf xs en) 2).getD i 0):Nat)) 2).length≤k by omega),dH] at bk; rw [← dH (eG F xs en x.1 (-1)<|-1)]; exact bk),Y,cn,bB,b6,aa,aa,aa,aa,aa⟩
 refine ext<|bf<|bf<|be<|a5<|ag fun aG=>p aE<|nl<|aG<|rt<|aX aa ?_
 rw [eU ab,← a1] at bj
 exact ⟨true,_,U,aa,bj,b5,zW _,fun _=>rfl⟩
end Go.Hb
namespace Go.Hb.sF
noncomputable def gz (F:aU) (xs:List bH) (n:Int):List bZ:=if 0≤n∧n < xs.length then jL F xs n.toNat else []
theorem rG {F:aU} {xs:List bH} {k:Nat} (h:k < xs.length):gz F xs k=jL F xs k:=by unfold gz; rw [if_pos ab,mU]
theorem Bi {F:aU} {xs:List bH} {n:Int} (h:¬(0≤n∧n < xs.length)):gz F xs n= []:=if_neg h
noncomputable def kP (F:aU) (xs:List bH) (k:Nat):List bZ:=(List.range k).flatMap<|jL F xs
theorem xu (F:aU) (xs:List bH) (k:Nat):kP F xs (k+1)=kP F xs k++jL F xs k:=by unfold kP; rw [List.range_succ,nC,o5]
theorem OA {F:aU} {xs:List bH} {k n:Nat} (h:k < n):∃ tl,kP F xs n=kP F xs k++(jL F xs k++tl):=by
 induction n with
 | zero=>omega
 | succ n i=>
   rw [xu]
   rcases EJ.1 h with h | rfl
   · obtain ⟨tl,a⟩:=i h; exact ⟨tl++jL F xs n,by rw [a]; simp only [dH]⟩
   · exact ⟨[],by rw [ei]⟩
def kr (W:World) (b:Nat) (a:Option Addr):Prop :=W.heap[b]? =some (.cells [.pointer a].toArray 22 (0,0))
def fN (W:World) (b:Nat) (n:Int):Prop :=W.heap[b]? =some (.cells [.int .i64 n].toArray 3 (0,0))
theorem Fs (B tb:Nat) (i:iy) (F:aU) (xs:List bH) (a S0:Nat) (w:World) (E:fW w B tb i F xs) (A:eN F xs) (U:S0≤w.heap.size):
 bp aw 41 (bh [aT tb,.func (.yield a) #[] #[]]) w (fun v w'=> ∃ mb K,v=aT mb∧jv w' (fun _=>False) S0 mb tb a K F 0 [] []∧Wk w w'):=by
 refine enter func41 aa ntmps41 aa<|ag fun G=>ay<|G<|ag fun I=>au (aT tb)<|au (aT tb)<|p (nc aa)<|p (fa B6 aa)<|p (ld gq aa<|(a7 E.cells).trans aa)<|e<|cl AJ (Ab B i.fb i.mc F i.V w E.fl (by have :=A.len; omega) A.nx) aa fun v10 ae O=> ?_
 obtain ⟨⟨⟨v9,v10,v11,v12,sa,rn⟩,rfl,hax⟩,hE10⟩:=O
 obtain ⟨ar,cr,q⟩:=cE hax.dK
 have q:v12=_:=q
 subst q
 have ac:=hE10.size
 have Y:rn.length=F.rules.length:=by have :=hax.nx.1; rwa [List.length_map] at this
 exact p (Tm Tn aa aa)<|au (.func (.yield a) #[] #[])<|p (c8 (ps:= [(0,aT tb),(1,.slice ar F.rules.length cr),(5,.func (.yield a) #[] #[])]) (L:= [aT tb,.slice ar F.rules.length cr,.int .i64 0,.string ⟨⟨[]⟩⟩,.slice none 0 0,.func (.yield a) #[] #[]]) Yz aa<|aa)<|e<|oE aa fun J ah Z C M=>ay<|I<|rt<|aX aa<|⟨J,⟨ar,cr,rn,none,0⟩,aa,⟨ab,M,id,a6 (eE hax.dK U) C.md,fun _ _=>id,Y,dC _ _ _ _,fun _ _=>id⟩,hE10.trans C.md⟩
theorem vz (B tb:Nat) (Z:iy) (F:aU) (xs:List bH) (au:eN F xs) (E S0 mb:Nat) (ap:List bZ) (Y:Bool→List bZ→(Nat→Prop)→World→Prop) (A:Yc aw E S0 nP ap (fun W=>fW W B tb Z F xs) Y) (K:rp) (aN:Int) (aM:Tx) (ps:List Nat) (pre:List bZ) (fp:Nat→Prop) (n:Int) (w:World) (U:jv w fp S0 mb tb E K F aN aM ps) (ax:Y true pre fp w) (tl:List bZ) (bI:ap=pre++(gz F xs n++tl)):
 bp aw 42 (bh [aT mb,.int .i64 n]) w (fun v w'=> ∃ b q fp' bc bg bO bL,v= .bool b∧Y b (pre++q) fp' w'∧jv w' fp' S0 mb tb E bc F bg bO bL∧q <+:gz F xs n∧(b=true→q=gz F xs n)):=by
 have bX:=A.lt _ _ _ _ ax
 have bB:=A.cap _ _ _ _ ax
 have bU:S0≤w.heap.size:=by have :=U.lo; have :=(dB.1 U.cells).1; omega
 refine enter func42 aa ntmps42 aa<|ag fun a6=>ay<|a6<|ag fun a8=>p mv<|p (nc aa)<|p (fa tk aa)<|p (ld m3 aa<|(a7 U.cells).trans aa)<|p mv<|e<|cl qp (xW B tb Z F xs n w bB au) aa fun b2 b4 bw=> ?_
 obtain ⟨⟨bQ,rfl,bD⟩,hE13⟩:=bw
 obtain ⟨I,J,rfl⟩:=cE bD
 have b0:=hE13.size
 refine p mv<|p (xt aa aa)<|p (xt aa aa)<|e<|al qX fun C b6 a0 aY bn=> ?_
 have b1:=aY.size
 refine e<|dj kD aa aa aa aa (bn) (by simp) fun G bv bj=> ?_
 have av:Wk w G:=(hE13.trans aY.md).trans' bv fun q am h=>by omega
 have a0:bP G.heap C [str (kE xs n),.slice I (flagsOf xs n).length J]:=bj
 have aO:=A.wk ax av
 have aP:=U.wk av
 have bY:=av.size
 refine ay<|a8<|aB fun a9=>ag fun ba=>p mv<|p (no aa)<|nl<|ba<|cb aa (fun V=> ?_) fun V=> ?_
 have bF:¬(0≤n∧n < xs.length):=fun h=>by rw [decide_eq_true h] at V; cases V
 exact ag fun ao=>ay<|ao<|rt<|tr<|aX aa<|⟨true,[],fp,K,aN,aM,ps,aa,by rw [ei]; exact aO,aP,List.nil_prefix,fun _=>(Bi bF).symm⟩
 have bW:0≤n∧n < xs.length:=Classical.byContradiction fun h=>by rw [decide_eq_false h] at V; cases V
 obtain ⟨k,rfl⟩:∃ k:Nat,n=(k:Int):=⟨n.toNat,ab⟩
 obtain ⟨x,a2⟩:∃ x,xs[k]? =some x:=⟨_,cI ab⟩
 obtain ⟨bf,bR,aq,bT⟩:=sR a2
 have aA:=A.wk aO (Md.refl (fun _=>False) G).drew
 have aS:=aP.wk (Md.refl (fun _=>False) G).drew
 have aG:C≠mb:=fun h=>by have :=(dB.1 U.cells).1; omega
 refine aQ<|a9<|aB fun ao=> ?_
 have i:(fun w'=>bP w'.heap C [str (kE xs (k:Int)),.slice I (flagsOf xs (k:Int)).length J]∧Hb.aR w'.heap mb 0=some (aT tb)) G.drew:=⟨a0,(a7 aS.cells).trans rfl⟩
 refine bN (fun w'=>bP w'.heap C [str (kE xs (k:Int)),.slice I (flagsOf xs (k:Int)).length J]∧Hb.aR w'.heap mb 0=some (aT tb)) aa wide i<|aH 0 aa (fun _ _=>mv) i<|aH 1 aa (fun _ _=>mv) i<|aH 2 aa (fun _ _=>mv) i<|aH 3 aa (fun _ _=>mv) i<|aH 4 aa (fun _ _=>fa B8 aa) i<|aH 5 aa (fun w' aF=>ld bV aa<|aF.1.bG 0) i<|aH 6 aa (fun _ _=>mv) i<|aH 7 aa (fun _ _=>nc aa) i<|aH 8 aa (fun _ _=>fa tk aa) i<|aH 9 aa (fun w' aF=>ld m3 aa<|aF.2) i<|aH 10 aa (fun _ _=>mv) i<|he 11 aa aj<|cl QC (W8 B tb Z F xs (k:Int) G.drew (A.cap _ _ _ _ aA) au) aa fun b3 a3 bx=> ?_
 obtain ⟨aL,ac⟩:=bx
 obtain ⟨M,O,rfl⟩:=cE aL
 have br:=A.wk aA ac
 have a:=aS.wk ac
 have bC:∀ q,(bS M (aW F (flagsOf xs (k:Int)) 1).length O).ownBlock=some q→¬fp q:=fun q am h=>by have h1:=(dS aL am).1; have h2:=A.lt _ _ _ _ aA q h; omega
 have bE:=eE aL (show S0≤_ by have :G.heap.size≤G.drew.heap.size:=cD _; omega)
 have ae:(fun w'=>bP w'.heap C [str (kE xs (k:Int)),.slice I (flagsOf xs (k:Int)).length J]∧Hb.aR w'.heap mb 0=some (aT tb)) a3:=⟨Wk.B ac i.1,Wk.aR ac i.2⟩
 refine ⟨ae,?_⟩
 refine aH 12 aa (fun _ _=>nc aa) ae<|aH 13 aa (fun _ _=>fa BW aa) ae<|he 14 aa aj<|cT gr aa aa (v:=ak k) aa a.cells (by show 2 < 6; omega) fun a4 aC bk=> ?_
 have aI:a4.heap[mb]? =some (.cells (n7 tb E K F (k:Int) aM ps).toArray 183 (0,0)):=bk
 have bs:=A.vD br a.cells a.lo a.nf aC
 have ah:(fun w'=>bP w'.heap C [str (kE xs (k:Int)),.slice I (flagsOf xs (k:Int)).length J]∧Hb.aR w'.heap mb 0=some (aT tb)) a4:=⟨Md.B aC ae.1 aG,(a7 aI).trans rfl⟩
 refine ⟨ah,?_⟩
 refine aH 15 aa (fun _ _=>nc aa) ah<|aH 16 aa (fun _ _=>fa BX aa) ah<|he 17 aa aj<|cT kS aa aa (v:=str<|kE xs (k:Int)) aa aI (by show 3 < 6; omega) fun a5 aD bl=> ?_
 have aJ:a5.heap[mb]? =some (.cells (n7 tb E K F (k:Int) (kE xs (k:Int)) ps).toArray 183 (0,0)):=bl
 have bt:=A.vD bs aI a.lo a.nf aD
 have ai:(fun w'=>bP w'.heap C [str (kE xs (k:Int)),.slice I (flagsOf xs (k:Int)).length J]∧Hb.aR w'.heap mb 0=some (aT tb)) a5:=⟨Md.B aD ah.1 aG,(a7 aJ).trans rfl⟩
 refine ⟨ai,?_⟩
 refine aH 18 aa (fun _ _=>nc aa) ai<|aH 19 aa (fun _ _=>fa Ig aa) ai<|he 20 aa aj<|cT Bg aa aa (v:= .slice M (aW F (flagsOf xs (k:Int)) 1).length O) aa aJ (by show 4 < 6; omega) fun an aE bm=> ?_
 have aK:an.heap[mb]? =some (.cells (n7 tb E ⟨K.ar,K.cr,K.rn,M,O⟩ F (k:Int) (kE xs (k:Int))<|aW F (flagsOf xs (k:Int)) 1).toArray 183 (0,0)):=bm
 rw [bf] at aK
 have bu:=A.vD bt aJ a.lo a.nf aE
 have a1:=(aC.trans' aD fun q am h=>h).trans' aE fun q am h=>h
 have aZ:TF a3 [185] (fun q=>q=mb):=TF.eq (dA a.cells) az
 have aV:jv an fp S0 mb tb E ⟨K.ar,K.cr,K.rn,M,O⟩ F (k:Int) x.1 (aW F (flagsOf xs (k:Int)) 1):=⟨a.lo,aK,a.nf,cx a.ru a1 aZ az,a.rf,a.rn,cx bE a1 aZ az,bC⟩
 have bA:(fun w'=>bP w'.heap C [str (kE xs (k:Int)),.slice I (flagsOf xs (k:Int)).length J]∧Hb.aR w'.heap mb 0=some (aT tb)) an:=⟨Md.B aE ai.1 aG,(a7 aK).trans rfl⟩
 refine ⟨bA,?_⟩
 refine hn aj<|ao<|ag fun bb=>p mv<|e<|cl QL (XY B tb Z F xs au E S0 mb ap Y A ⟨K.ar,K.cr,K.rn,M,O⟩ pre fp k x an aV bu a2 tl<|by rw [bI,rG aq]) aa fun v37 b5 bz=> ?_
 obtain ⟨bd,bM,bi,rfl,bq,bo,bJ,bK⟩:=bz
 exact ay<|bb<|rt<|aX aa<|⟨bd,bM,bi,_,_,_,_,aa,bq,aV.gw bo,by rw [rG aq]; exact bJ,fun h=>by rw [rG aq]; exact bK h⟩
theorem xS (A:Option Addr) (n:Int) (w:World):
 bp aw 16 (bh [.pointer A,.int .i64 n]) w (fun v w'=> ∃ a be,v= .func (.func 40) #[] #[aT a,aT be]∧w.heap.size≤a∧w.heap.size≤be∧kr w' a A∧fN w' be n∧Wk w w'):=by
 refine enter func16 aa ntmps16 aa<|ag fun C=>e<|rB aa aa fun G Y O i J=> ?_
 have V:=i.size
 exact e<|rB aa aa fun I Z U q M=>ay<|C<|ag fun E=>p CM<|p aE<|nl<|E<|rt<|aX aa<|⟨G,I,aa,ab,ab,Wk.aJ q.md J,M,i.md.trans q.md⟩
theorem Fe (i:Option Addr) (w:World):
 bp aw 18 (bh [.pointer i]) w (fun v w'=> ∃ a,v= .func (.func 43) #[] #[aT a]∧w.heap.size≤a∧kr w' a i∧Wk w w'):=by
 exact enter func18 aa ntmps18 aa<|ag fun q=>e<|rB aa aa fun C J I G E=>ay<|q<|ag fun A=>p CM<|ay<|A<|rt<|aX aa<|⟨C,aa,ab,E,G.md⟩
theorem Bs (B tb:Nat) (E:iy) (F:aU) (xs:List bH) (O:eN F xs) (a be q:Nat) (n:Int) (A:Bool→List bZ→(Nat→Prop)→World→Prop) (w:World) (M:A true [] (fun _=>False) w) (C:Yc aw q w.heap.size nP (gz F xs n) (fun W=>fW W B tb E F xs∧kr W a (some ⟨tb,0,none⟩)∧fN W be n) A):
 bp aw 40 (bh [.func (.yield q) #[] #[],aT a,aT be]) w (fun v w'=> ∃ b pre fp,A b pre fp w'∧pre <+:(gz F xs n)∧(b=true→pre=(gz F xs n))):=by
 obtain ⟨al,U,am⟩:=C.cap _ _ _ _ M
 refine enter func40 aa ntmps40 aa<|ag fun Y=>p (ld m3 aa<|(a7 U).trans aa)<|p (CP tN aa aa)<|nl<|Y<|ct (aa) ?_
 have i:(fun w'=>kr w' a (some ⟨tb,0,none⟩)∧fN w' be n) w.drew:=⟨U,am⟩
 refine bN (fun w'=>kr w' a (some ⟨tb,0,none⟩)∧fN w' be n) aa wide i<|aH 0 aa (fun w' J=>ld m3 aa<|(a7 J.1).trans aa) i<|bI 1 aa (.func (.yield q) #[] #[]) i<|aH 3 aa (fun w' J=>ld bz aa<|(a7 J.2).trans aa) i<|he 2 aa aj<|cl Gn (Fs B tb E F xs q w.heap.size w.drew (al.wk (Md.refl _ _).drew) O<|cD _) aa fun ay V ah=> ?_
 obtain ⟨mb,K,rfl,ac,G⟩:=ah
 have ai:(fun w'=>kr w' a (some ⟨tb,0,none⟩)∧fN w' be n) V:=⟨Wk.aJ G i.1,Wk.aJ G i.2⟩
 refine ⟨ai,?_⟩
 refine he 4 aa aj<|cl Gp (vz B tb E F xs O q w.heap.size mb (gz F xs n) A (C.Mo fun W h=>h.1) K 0 [] [] [] (fun _=>False) n V ac (C.wk M<|(Md.refl (fun _=>False) w).drew.trans G) []<|by rw [ei,qc]) aa fun v10 aq ae=> ?_
 obtain ⟨Z,ap,ab,ar,au,az,ax,rfl,I,av,an,ao⟩:=ae
 rw [qc] at I
 have ak:(fun w'=>kr w' a (some ⟨tb,0,none⟩)∧fN w' be n) aq:=(C.cap _ _ _ _ I).2
 refine ⟨ak,?_⟩
 exact hn aj<|f0 aa<|⟨Z,ap,ab,I,an,ao⟩
theorem Oy (B tb:Nat) (a:iy) (F:aU) (xs:List bH) (V:eN F xs) (O A:Nat) (C:Bool→List bZ→(Nat→Prop)→World→Prop) (w:World) (aj:C true [] (fun _=>False) w) (q:Yc aw A w.heap.size nP (kP F xs xs.length) (fun W=>fW W B tb a F xs∧kr W O (some ⟨tb,0,none⟩)) C):
 bp aw 43 (bh [.func (.yield A) #[] #[],aT O]) w (fun v w'=> ∃ b pre fp,C b pre fp w'∧pre <+:(kP F xs xs.length)∧(b=true→pre=(kP F xs xs.length))):=by
 obtain ⟨aX,ao⟩:=q.cap _ _ _ _ aj
 have a5:=V.xl
 refine enter func43 aa ntmps43 aa<|aB fun ax=>ag fun az=>p (ld m3 aa<|(a7 ao).trans aa)<|p (lN tN aa aa)<|nl<|az<|cf (aa)<|aQ<|ax<|ag fun aA=>p (ld m3 aa<|(a7 ao).trans aa)<|au (.func (.yield A) #[] #[])<|e<|cl Gn (Fs B tb a F xs A w.heap.size w aX V<|cD _) aa fun v9 ba aW=> ?_
 obtain ⟨mb,K,rfl,aO,aK⟩:=aW
 refine ay<|aA<|ag fun aC=>ay<|aC<|aJ<|lp (fun ai J I=> ∃ (i:Nat) (E:Nat→Prop) (M:rp) (U:Int) (Z:Tx) (ps:List Nat),(i≤xs.length)∧(C true (kP F xs i) E I)∧(jv I E w.heap.size mb tb A M F U Z ps)∧(J 1=aT O)∧(J 3=aT mb)∧(J 4=ak i)∧(xs.length - i=ai)) _ ⟨0,_,K,0,[],[],ab,(q.wk aj aK),aO,aa,aa,aa,aa⟩ ?_
 rintro ai J I ⟨i,E,M,U,Z,ps,hi,G,aP,aZ,a0,a1,rfl⟩
 refine fx 1 aZ<|fx 3 a0<|fx 4 a1<|aB fun aD=>ag fun ac=>au (ak i)<|p (ld m3 aa<|(a7 (q.cap _ _ _ _ G).2).trans aa)<|p (nc aa)<|p (fa Ip aa)<|p (ld E9 aa<|(a7 (q.cap _ _ _ _ G).1.cells).trans aa)<|e<|cl Qs (SH B a.wb a.mb a.va a.vs xs I (q.cap _ _ _ _ G).1.wd ab) aa fun a8 a3 aR=> ?_
 obtain ⟨rfl,al⟩:=aR
 have an:=q.wk G al
 have aN:=aP.wk al
 refine p (lt aa aa)<|p mv<|gs (t:=17) aa (fun aY=> ?_) fun aY=> ?_
 obtain ⟨tl,av⟩:=OA (F:=F) (xs:=xs) (show i < xs.length by omega)
 have ap:gz F xs (i:Int)=jL F xs i:=rG ab
 refine aM aa (aV (aT mb) aa)<|aM aa (aV (ak i) aa)<|eg aa aa aa<|cl Gp (vz B tb a F xs V A w.heap.size mb (kP F xs xs.length) C (q.Mo fun W h=>h.1) M U Z ps (kP F xs i) E (i:Int) a3 aN an tl<|by rw [ap]; exact av) aa fun v20 a9 aS=> ?_
 obtain ⟨ae,a6,ah,aG,aH,a4,a2,rfl,am,aL,aq,ar⟩:=aS
 rw [ap] at aq ar
 refine p (bC aa)<|nl<|ac<|cb aa (fun Y=> ?_) fun Y=> ?_
 obtain rfl :ae=true :=by simpa using Y
 obtain rfl :=ar rfl
 exact aQ<|aD<|aB fun aF=>aJ<|aQ<|bn<|aF<|rg aa<|au (ak i)<|p (bF ((i+1:Nat):Int) aa aa<|bl ab ab)<|p aE<|nl<|tn<|⟨_,ab,i+1,ah,aG,aH,a4,a2,ab,(by rw [xu]; exact am),aL,aa,aa,aa,aa⟩
 obtain rfl :ae=false :=by simpa using Y
 exact ext<|bf<|bf<|be<|f0 aa<|⟨false,_,ah,am,(by rw [av]; exact Dc<|aq.trans<|uv _ _),fun h=>by cases h⟩
 refine aI aa<|aI aa<|aI aa<|p (bu aa)<|nl<|ac<|cf aa<|ext<|bf<|bf<|be<|f0 aa ?_
 obtain rfl :i=xs.length:=ab
 exact ⟨true,_,E,an,zW _,fun _=>rfl⟩
theorem Ox (i E:Nat) (a:Bool→List bZ→(Nat→Prop)→World→Prop) (w:World) (A:a true [] (fun _=>False) w) (C:kr w i none):
 bp aw 43 (bh [.func (.yield E) #[] #[],aT i]) w (fun v w'=> ∃ b pre fp,a b pre fp w'∧pre <+:([]:List bZ)∧(b=true→pre=([]:List bZ))):=by
 exact enter func43 aa ntmps43 aa<|aB fun G=>ag fun q=>p (ld m3 aa<|(a7 C).trans aa)<|p (lN tN aa aa)<|nl<|q<|ct (aa)<|rt<|tr<|qw aa<|⟨true,[],_,A,zW _,fun _=>rfl⟩
theorem xR (B tb:Nat) (i:iy) (F:aU) (xs:List bH) (C:eN F xs) (a be:Nat) (n:Int):xg aw 40 #[.pointer (some ⟨a,0,none⟩),.pointer (some ⟨be,0,none⟩)] nP (gz F xs n) (fun W=>fW W B tb i F xs∧kr W a (some ⟨tb,0,none⟩)∧fN W be n):=
 fun l q W A E=>lE (Bs B tb i F xs C a be l n q W A E) fun e w' ⟨v,he,G⟩=>⟨⟨v,he⟩,G⟩
theorem OB (B tb:Nat) (i:iy) (F:aU) (xs:List bH) (C:eN F xs) (a:Nat):xg aw 43 #[.pointer (some ⟨a,0,none⟩)] nP (kP F xs xs.length) (fun W=>fW W B tb i F xs∧kr W a (some ⟨tb,0,none⟩)):=
 fun l q W A E=>lE (Oy B tb i F xs C a l q W A E) fun e w' ⟨v,he,G⟩=>⟨⟨v,he⟩,G⟩
theorem Oz (a:Nat):xg aw 43 #[.pointer (some ⟨a,0,none⟩)] nP [] (fun W=>kr W a none):=
 fun l q W i A=>lE (Ox a l q W i<|A.cap _ _ _ _ i) fun e w' ⟨v,he,C⟩=>⟨⟨v,he⟩,C⟩
end Go.Hb.sF
section
namespace Go.Hb
open Go.Hb.sF
def jY (L:List bZ) (most:Int):List bZ:=if most < 1 then [] else L.take most.toNat
theorem YQ {L:List bZ} {most:Int} (h:(L.length:Int) < most):jY L most=L:=by unfold jY; rw [if_neg ab,eU ab]
theorem YS {L q:List bZ} {most:Int} (h:q <+:L) (hm:(q.length:Int)=most) (h1:¬most < 1):jY L most=q:=by
 have e:=List.prefix_iff_eq_take.1 h
 unfold jY; rw [if_neg h1,show most.toNat=q.length by omega]; exact e.symm
theorem LO {L:List bZ} {most:Int} (h:most < 1):jY L most= []:=if_pos h
theorem VO (B tb:Nat) (ar:iy) (F:aU) (xs:List bH) (n most:Int) (w:World) (aM:fW w B tb ar F xs) (a1:eN F xs) (bO:most≤1048576):
 bp aw 13 (bh [.pointer (some ⟨tb,0,none⟩),.int .i64 n,.int .i64 most]) w (fun v w'=>bw w' w.heap.size 41 5 v (jY (gz F xs n) most).length (jm<|jY (gz F xs n) most)∧Wk w w'):=by
 refine uO [] func13 aa ntmps13 aa ?_
 refine cW<|cM<|rg aa<|e<|rB aa aa fun V bZ bA aL a3=> ?_
 have bU:=aL.size
 refine p aE<|nl<|cB<|cW<|cM<|rg aa<|e<|fg ZT fun ah bs bB ay a5=> ?_
 have bV:=ay.size
 have aK:=aL.md.trans ay.md
 have aH:=Wk.aJ ay.md a3
 refine nl<|cB<|cW<|cW<|cM<|rg aa<|p (ld bz aa<|(a7 aH).trans aa)<|p (lt aa aa)<|nl<|cB<|cM<|cd aa (fun bI=> ?_) fun bI=> ?_
 refine sq fun aZ ax=>rg aa<|p aE<|nl<|tn<|ax _ _<|rt<|prt<|Tj aa aa ?_
 exact ⟨by rw [LO bI]; exact dC _ _ _ _,aK⟩
 refine aQ<|cB<|cW<|cW<|cM<|rg aa<|p mv<|p mv<|e<|cl Pt (xS (some ⟨tb,0,none⟩) n bs) aa fun bX aC bf=> ?_
 obtain ⟨Y,be,rfl,bF,bD,aR,aN,aj⟩:=bf
 have ai:=aK.trans aj
 have bR:=aj.size
 have bk:=Wk.aJ aj a5
 have bi:fN aC V most:=Wk.aJ aj aH
 have aq:ah < aC.heap.size:=ab
 have aV:V < aC.heap.size:=ab
 have aW:=(dB.1 aR).1
 have hle:=(dB.1 aN).1
 have aY:=ai.size
 refine nl<|cB ?_
 apply Dn (nP) (gz F xs n) (fun W=>fW W B tb ar F xs∧kr W Y (some ⟨tb,0,none⟩)∧fN W be n) (fun pre fp i=> ∃ v,i.heap[ah]? =some (.cells [v].toArray 27 (0,0))∧bw i w.heap.size 41 5 v pre.length (jm pre)∧(∀ k,v.ownBlock=some k↔fp k)∧kr i Y (some ⟨tb,0,none⟩)∧fN i be n∧fN i V most∧Wk w i∧(pre.length:Int) < most) (fun r pre fp i=>r=false∧∃ v,i.heap[ah]? =some (.cells [v].toArray 27 (0,0))∧bw i w.heap.size 41 5 v pre.length (jm pre)∧(∀ k,v.ownBlock=some k↔fp k)∧kr i Y (some ⟨tb,0,none⟩)∧fN i be n∧fN i V most∧Wk w i∧(pre.length:Int)=most) rfl Qr (fun _=>rfl) (xR B tb ar F xs a1 Y be n) (⟨.slice none 0 0,bk,dC _ _ _ _,fun k=>by simp [iW],aR,aN,bi,ai,by simp only [fU]; omega⟩) (fun pre fp W ⟨v,h1,h2,h3,h4,h5,Z,I,ac⟩=>⟨⟨aM.wk I,h4,h5⟩,fun k hk=>(dS h2<|(h3 k).2 hk).2⟩) (fun r pre fp W ⟨aF,v,h1,h2,h3,h4,h5,Z,I,ac⟩=>⟨⟨aM.wk I,h4,h5⟩,fun k hk=>(dS h2<|(h3 k).2 hk).2⟩) (fun pre fp W a0 F ⟨v,h1,h2,h3,h4,h5,Z,I,ac⟩ hm C=>⟨v,nr h1 hm aq C,LK h2 hm (fun k hk=>(h3 k).1 hk) C,h3,nr h4 hm aW C,nr h5 hm hle C,nr Z hm aV C,LL I hm aY C,ac⟩) (fun r pre fp W a0 F ⟨aF,v,h1,h2,h3,h4,h5,Z,I,ac⟩ hm C=>⟨aF,v,nr h1 hm aq C,LK h2 hm (fun k hk=>(h3 k).1 hk) C,h3,nr h4 hm aW C,nr h5 hm hle C,nr Z hm aV C,LL I hm aY C,ac⟩) (fun x b i=>i.heap[b]? =some (.cells (eC x).toArray 41 (0,0))) (An (f:=eC))
 intro l x i K J
 exact rg aa<|e<|fg zx fun aD b1 bC bd a8=>e<|gj xL aa aa aa aa a8 az fun b0 bc a4=>nl<|tn<|J aD _ (bd.md.trans' bc fun q bP h=>by omega) a4
 intro l pre x rest fp aD i bQ av aG
 obtain ⟨v,M,A,U,ao,an,al,O,hlen⟩:=av
 have bW:=O.size
 have bE:=(dB.1 aG).1
 refine aJ<|sq fun aZ ax=>rg aa<|p (ld xo aa<|(a7 M).trans aa)<|p (di rv aa (aa) fun j bL=>(oD aG).bG j)<|e<|kQ Lr aa aa aa fun bv bY bx a a2=> ?_
 have bS:=a.size
 refine e<|ap Lr (a6 A a.md) aa ab aa (aO.ec a2) (aa) (aa) ab ab fun ae br aB E bT aT=> ?_
 have ba:=Wk.own (O.trans a.md) (a6 A a.md) E<|cD _
 have am:=E.aJ (a.md.aJ M) fun h=>dI (a6 A a.md) (a.md.aJ M) az h
 obtain ⟨bu,AD,bq⟩:=cE aB
 have bm:=E.aJ (a.md.aJ ao) fun h=>dI (a6 A a.md) (a.md.aJ ao) az h
 have bl:=E.aJ (a.md.aJ an) fun h=>dI (a6 A a.md) (a.md.aJ an) az h
 have bj:=E.aJ (a.md.aJ al) fun h=>dI (a6 A a.md) (a.md.aJ al) az h
 refine e<|cT Si aa aa (eS aB) am (by simp) fun ag G au=> ?_
 have aI:Wk w ag:=Md.trans' ba G fun k hk h=>by omega
 have ak:TF br [29] (fun q=>q=ah):=TF.eq (dA am) az
 have aX:bw ag w.heap.size 41 5 ae (pre++ [x]).length (jm<|pre++ [x]):=cx (by rw [show jm (pre++ [x])=jm pre++eC x from by unfold jm; rw [nC,o5],bM]; exact aB) G ak az
 have aS:kr ag Y (some ⟨tb,0,none⟩):=G.ic ak bm az
 have aP:fN ag be n:=G.ic ak bl az
 have aA:fN ag V most:=G.ic ak bj az
 have bN:(pre++ [x]).length=pre.length+1:=by simp
 refine nl<|tn<|ax _ _<|sq fun bt bb=>rg aa<|p (ld xo aa<|(a7 au).trans<|by rw [bq]; rfl)<|p (bJ L7 aa aa)<|p (ld bz aa<|(a7 aA).trans aa)<|p (bK aa aa)<|nl<|tn<|bb _ _<|cd aa (fun heq=> ?_) fun heq=> ?_
 exact ext<|my az<|⟨aa,(eV.wk a.md).trans ((eV.md E<|pT<|a6 A a.md).trans<|eV.md G fun k hk=>⟨_,_,_,hk ▸ am⟩),fun k=>ae.ownBlock=some k,(Gw.wk a.md).trans ((Gw.md E (fun k hk=> .inl<|(U k).1 hk) fun k hk=>(aT k hk).imp (fun h=>(U k).1 h) id).trans<|Gw.md G (fun k hk=> .inr<|by subst hk; exact aq) fun _ h=> .inl h),aa,⟨ae,au,aX,fun _=>Iff.rfl,aS,aP,aA,aI,ab⟩⟩
 exact aQ<|bn<|⟨(eV.wk a.md).trans ((eV.md E<|pT<|a6 A a.md).trans<|eV.md G fun k hk=>⟨_,_,_,hk ▸ am⟩),fun k=>ae.ownBlock=some k,(Gw.wk a.md).trans ((Gw.md E (fun k hk=> .inl<|(U k).1 hk) fun k hk=>(aT k hk).imp (fun h=>(U k).1 h) id).trans<|Gw.md G (fun k hk=> .inr<|by subst hk; exact aq) fun _ h=> .inl h),⟨ae,au,aX,fun _=>Iff.rfl,aS,aP,aA,aI,ab⟩⟩
 intro D i a9 av J
 obtain ⟨fp,v,M,A,U,ao,an,al,O,hlen⟩:=av
 refine cB<|cW<|cM<|rg aa<|p (ld xo aa<|(a7 M).trans aa)<|p aE<|nl<|cB<|rY<|HC aa aa J ?_
 exact ⟨dz (by rw [YQ hlen]; exact A) (mF _ _ _) (fun k hk h=>by obtain ⟨c,e,z,h1⟩:=pT A k hk; rw [h,J] at h1; cases h1),Md.trans' O (mF _ _ _) fun k hk h=>by have :=ai.size; omega⟩
 intro D i pre a9 bo bg J
 obtain ⟨fp,_,v,M,A,U,ao,an,al,O,hlen⟩:=bg
 refine cB<|cW<|cM<|rg aa<|p (ld xo aa<|(a7 M).trans aa)<|p aE<|nl<|cB<|rY<|HC aa aa J ?_
 exact ⟨dz (by rw [YS bo hlen bI]; exact A) (mF _ _ _) (fun k hk h=>by obtain ⟨c,e,z,h1⟩:=pT A k hk; rw [h,J] at h1; cases h1),Md.trans' O (mF _ _ _) fun k hk h=>by have :=ai.size; omega⟩
 exact fun _ _ _ _ _ h _=>by obtain ⟨_,h,_⟩:=h; cases h
end Go.Hb
end
section
namespace Go.Hb.sH
def vS (cH:Bool) (most limit:Int) (acc:List bZ) (v:Value):List Value:= [.bool cH,.bool false,str [],.int .i64 most,.int .i64 limit,.int .i64 (acc.length:Nat),.int .i64 (ja acc:Nat),v]
def Bd (acc:List bZ):Prop :=acc.length≤ja acc∧ja acc≤acc.length*1000∧acc.length≤2000000
theorem Bd.nil:Bd []:=⟨jG _,jG _,jG _⟩
def Sd (d:bZ):Prop :=1≤d.kL.length∧d.kL.length≤1000
theorem JO {most limit:Int} {acc:List bZ} {d:bZ} (h:kU most limit acc=true):rR most limit acc d=acc:=if_pos h
theorem JP {most limit:Int} {acc:List bZ} {d:bZ} (h:kU most limit acc=false):rR most limit acc d=acc++ [d]:=if_neg<|by rw [h]; exact eo
theorem TY {most limit:Int} {acc:List bZ} (h:kU most limit acc=false):(acc.length:Int) < most∧(ja acc:Int)≤limit:=by
 unfold kU at h; have :=of_decide_eq_false h; omega
theorem FB (acc:List bZ) (d:bZ):ja (acc++ [d])=ja acc+d.kL.length:=by rw [Fz,FA]
theorem Bd.met {most limit:Int} {acc:List bZ} {d:bZ} (h:Bd acc) (hm:most≤2000∨limit≤1048576) (hd:Sd d):Bd (rR most limit acc d):=by
 by_cases a:kU most limit acc=true
 · rw [JO a]; exact h
 · rw [JP (by simpa using a)]
   have :=TY<|by simpa using a
   unfold Bd Sd at*
   rw [FB,bM,e9]
   omega
structure iz (w:World) (fp:Nat→Prop) (S0 xb:Nat) (cH:Bool) (most limit:Int) (acc:List bZ):Prop where
 lo:S0≤xb
 ex:∃ v,w.heap[xb]? =some (.cells (vS cH most limit acc v).toArray 111 (0,0))∧(if cH=true then bw w S0 43 5 v acc.length (jm acc) else v= .slice none 0 0)∧∀ k,fp k↔(k=xb∨v.ownBlock=some k)
 bd:Bd acc
structure Tw (fp:Nat→Prop) (w:World) (fp':Nat→Prop) (w':World):Prop where
 md:Md fp w w'
 sub:∀ k,fp' k→fp k∨w.heap.size≤k
section
variable {w w' w'':World} {fp fp' fp'':Nat→Prop} {S0 xb:Nat} {cH:Bool} {most limit:Int} {acc:List bZ}
theorem Tw.refl (fp:Nat→Prop) (w:World):Tw fp w fp w:=⟨Md.refl _ _,fun _ h=> .inl h⟩
theorem Tw.trans (h:Tw fp w fp' w') (a:Tw fp' w' fp'' w''):Tw fp w fp'' w'':=
 ⟨h.md.trans' a.md fun k hk i=>(h.sub k i).elim id (fun h2=>by omega),fun k hk=>(a.sub k hk).elim (h.sub k) fun h2=> .inr<|Nat.le_trans h.md.size h2⟩
theorem Tw.wk (h:Wk w w'):Tw fp w fp w':=⟨h.mono fun _ _ h=>h.elim,fun _ h=> .inl h⟩
theorem iz.wk (h:iz w fp S0 xb cH most limit acc) (hm:Wk w w'):iz w' fp S0 xb cH most limit acc:=by
 obtain ⟨v,h1,h2,h3⟩:=h.ex
 refine ⟨h.lo,⟨v,Wk.aJ hm h1,?_,h3⟩,h.bd⟩
 cases cH with
 | true =>rw [if_pos rfl] at h2 ⊢; exact a6 h2 hm
 | false =>exact h2
theorem iz.tf (h:iz w fp S0 xb cH most limit acc):TF w [113,45] fp:=by
 obtain ⟨v,h1,h2,h3⟩:=h.ex
 intro k hk
 rcases (h3 k).1 hk with rfl | hk
 · rw [dA h1]; decide
 · cases cH with
   | true =>rw [if_pos rfl] at h2; rw [DM h2 hk]; decide
   | false =>rw [if_neg az] at h2; rw [h2] at hk; cases hk
theorem iz.lt (h:iz w fp S0 xb cH most limit acc):∀ k,fp k→k < w.heap.size:=by
 obtain ⟨v,h1,h2,h3⟩:=h.ex
 intro k hk
 rcases (h3 k).1 hk with rfl | hk
 · exact (dB.1 h1).1
 · cases cH with
   | true =>rw [if_pos rfl] at h2; exact (dS h2 hk).2
   | false =>rw [if_neg az] at h2; rw [h2] at hk; cases hk
theorem iz.JL (h:iz w fp S0 xb cH most limit acc) {b:Nat} (hm:Md (fun q=>q=b) w w') (a:¬fp b):iz w' fp S0 xb cH most limit acc:=by
 obtain ⟨v,h1,h2,h3⟩:=h.ex
 refine ⟨h.lo,⟨v,hm.aJ h1 (fun h4=>a<|(h3 b).2<|.inl h4.symm),?_,h3⟩,h.bd⟩
 cases cH with
 | true =>rw [if_pos rfl] at h2 ⊢; exact dz h2 hm fun k hk h4=>a<|by subst h4; exact (h3 _).2<|.inr hk
 | false =>exact h2
theorem iz.aR (h:iz w fp S0 xb cH most limit acc):Hb.aR w.heap xb 0=some (.bool cH)∧Hb.aR w.heap xb 1=some (.bool false)∧Hb.aR w.heap xb 3=some (.int .i64 most)∧Hb.aR w.heap xb 4=some (.int .i64 limit)∧Hb.aR w.heap xb 5=some (.int .i64 (acc.length:Nat))∧Hb.aR w.heap xb 6=some (.int .i64 (ja acc:Nat)):=by
 obtain ⟨v,h1,_⟩:=h.ex
 exact ⟨(a7 h1).trans aa,(a7 h1).trans aa,(a7 h1).trans aa,(a7 h1).trans aa,(a7 h1).trans aa,(a7 h1).trans aa⟩
theorem vj {B tb fb:Nat} {V:eu} {ve:Value} {F:aU} {xs:List bH} (a:gn w B tb fb V ve F xs) (h:iz w fp S0 xb cH most limit acc) (hm:Md fp w w'):gn w' B tb fb V ve F xs:=
 ⟨hm.ic h.tf a.cells az,a.fl.md hm h.tf az,a.en.md hm h.tf az⟩
theorem Uq {B tb fb:Nat} {V:eu} {ve:Value} {F:aU} {xs:List bH} (a:gn w B tb fb V ve F xs) {b:Nat} {cs:Array Value} {z:Nat×Nat} (i:w.heap[b]? =some (.cells cs 43 z)) (hm:Md (fun q=>q=b) w w'):gn w' B tb fb V ve F xs:=
 ⟨hm.ic (TF.eq (L:= [45]) (dA i) az) a.cells az,a.fl.md hm (TF.eq (L:= [45]) (dA i) az) az,a.en.md hm (TF.eq (L:= [45]) (dA i) az) az⟩
end
theorem Dg (B tb fb:Nat) (V:eu) (ve:Value) (F:aU) (xs:List bH) (n:Int) (w:World) (C:gn w B tb fb V ve F xs) (O:eN F xs) (hn:Rn F n):
 bp aw 184 (bh [aT tb,.int .i64 n]) w (fun v w'=>v= .bool (lL F n)∧Wk w w'):=by
 refine enter func184 aa ntmps184 aa<|ag fun G=>ay<|G<|ag fun q=>p mv<|p (bK aa aa)<|p mv<|gs (t:=7) aa (fun bI=> ?_) fun bI=> ?_
 exact aI aa<|aI aa<|aI aa<|aI aa<|aI aa<|aI aa<|aI aa<|aI aa<|aI aa<|aI aa<|aI aa<|p (bC aa)<|ay<|q<|rt<|aX aa<|⟨by rw [bI,GU]; rfl,Md.refl _ _⟩
 obtain ⟨k,rfl⟩:∃ k:Nat,n=(k:Int):=⟨n.toNat,by unfold Rn at hn; omega⟩
 obtain ⟨r,i⟩:∃ r,F.rules[k]? =some r:=⟨_,cI<|by unfold Rn at hn; omega⟩
 obtain ⟨J,M,a,c,I,A,E,U⟩:=C.iN i
 have Y:=(fS.1 i).1
 exact aM aa mv<|aM aa (nc aa)<|aM aa (fa ng aa)<|aM aa (ld ib aa<|(a7 C.cells).trans aa)<|aM aa (nc aa)<|aM aa (fa jN aa)<|aM aa (ld ka aa<|I)<|aM aa mv<|aM aa (bc nR aa aa ab<|aO.ok (A)<|nW E)<|aM aa (fa TL aa)<|aM aa (ld lY aa<|fA (f:=jx) (m:=8) (fun _=>rfl) A E 2 az)<|p (bu aa)<|ay<|q<|rt<|aX aa<|⟨by rw [sZ i]; rfl,Md.refl _ _⟩
theorem KS (B tb fb:Nat) (V:eu) (ve:Value) (F:aU) (xs:List bH) (word:Tx) (en:Nat) (f s pp:Int) (w:World) (J:gn w B tb fb V ve F xs) (I:eN F xs) (a0:Rn F f) (hs:Rn F s) (hp:Rn F pp):
 bp aw 121 (bh [aT tb,.agg (eC ⟨word,en,f,s,pp⟩).toArray]) w (fun v w'=>v= .bool (fC F xs en f s pp)∧Wk w w'):=by
 refine enter func121 aa ntmps121 aa<|ag fun aA=>e<|iZ aa fun aj aq q am aN=> ?_
 have a7:=am.size
 have aP:=J.wk am.md
 have q:bP aq.heap aj [str word,ak en,.int .i64 f,.int .i64 s,.int .i64 pp]:=aN
 have Y:Wk w aq:=am.md
 refine ay<|aA<|aB fun aF=>ag fun aG=>p (fa yj aa)<|p (ld bz aa<|q.bG 2)<|p (bK aa aa)<|nl<|aG<|cd aa (fun C=> ?_) fun C=> ?_
 refine ag fun ah=>p mv<|p (fa Io aa)<|p (ld bz aa<|q.bG 1)<|e<|cl QE (XC B tb fb V ve F xs (en:Nat) 0 aq aP I) aa fun a8 bc aR=> ?_
 obtain ⟨rfl,al⟩:=aR
 have q:=Wk.B al q
 refine ay<|ah<|ag fun E=>p (fa rK aa)<|p (ld bz aa<|q.bG 4)<|p (cO aa aa)<|p mv<|gs (t:=21) aa (fun aH=> ?_) fun aH=> ?_
 refine aI aa<|aI aa<|p (bC aa)<|ay<|E<|rt<|tr<|aX aa ?_
 have i:fC F xs en f s pp=true :=IJ C aH
 exact ⟨Eq.trans (b:=bU true) aa (congrArg bU i.symm),Y.trans al⟩
 refine aM aa mv<|aM aa (no aa)<|p (bu aa)<|ay<|E<|rt<|tr<|aX aa ?_
 have i:fC F xs en f s pp= !ma F xs en 0:=by rw [II C (jr.1 aH),JG]
 exact ⟨Eq.trans (b:=bU<|!ma F xs en 0) aa (congrArg bU i.symm),Y.trans al⟩
 refine aQ<|aF<|ag fun ah=>p (fa yj aa)<|p (ld bz aa<|q.bG 2)<|p aE<|nl<|ah ?_
 refine ep (fun ab Z=> ∃ (U:Int),(U=if s= -1 then f else s)∧(Wk w Z)∧(bP Z.heap aj [str word,ak en,.int .i64 f,.int .i64 s,.int .i64 pp])∧(ab 0=aT tb)∧(ab 3=aT aj)∧(ab 6= .int .i64 U)) ?_ ?_
 refine ag fun E=>p (fa ym aa)<|p (ld bz aa<|q.bG 3)<|p (cO aa aa)<|nl<|E<|cd aa (fun an=> ?_) fun an=> ?_
 exact rg aa<|p (fa ym aa)<|p (ld bz aa<|q.bG 3)<|p aE<|nl<|tn<|⟨s,(by rw [if_neg an]),Y,q,aa,aa,aa⟩
 exact aQ<|tn<|⟨f,(by rw [if_pos (jr.1 an)]),Y,q,aa,aa,aa⟩
 rintro ab Z ⟨U,M,az,aZ,a1,a2,a3⟩
 refine fx 0 a1<|fx 3 a2<|fx 6 a3<|ag fun E=>au (aT tb)<|au (.int .i64 U)<|e<|cl PC (Xx B tb fb V ve F xs U Z (J.wk az) I) aa fun a9 a4 aS=> ?_
 obtain ⟨rfl,ar⟩:=aS
 have A:=Wk.B ar aZ
 have a:=az.trans ar
 refine ay<|E<|aB fun aJ=>ag fun aK=>p mv<|p (no aa)<|nl<|aK<|cb aa (fun G=> ?_) fun G=> ?_
 refine ag fun ai=>ay<|ai<|rt<|tr<|aX aa ?_
 have i:fC F xs en f s pp=false :=Ck C<|by rw [← M]; simpa using G
 exact ⟨Eq.trans (b:=bU false) aa (congrArg bU i.symm),a⟩
 refine aQ<|aJ<|aB fun ai=>ag fun aL=>p (fa rK aa)<|p (ld bz aa<|A.bG 4)<|p (bK aa aa)<|nl<|aL<|cd aa (fun O=> ?_) fun O=> ?_
 refine ag fun ac=>ay<|ac<|rt<|tr<|aX aa ?_
 have i:fC F xs en f s pp=true :=Cj C (by rw [← M]; simpa using G) O
 exact ⟨Eq.trans (b:=bU true) aa (congrArg bU i.symm),a⟩
 refine aQ<|ai<|ag fun ac=>au (aT tb)<|p (fa yj aa)<|p (ld bz aa<|A.bG 2)<|e<|cl AE (Dg B tb fb V ve F xs f a4 (J.wk a) I a0) aa fun ba a5 aV=> ?_
 obtain ⟨rfl,av⟩:=aV
 have A:=Wk.B av A
 have a:=a.trans av
 refine ay<|ac<|ag fun aC=>au (aT tb)<|p (fa ym aa)<|p (ld bz aa<|A.bG 3)<|e<|cl AE (Dg B tb fb V ve F xs s a5 (J.wk a) I hs) aa fun bb a6 aW=> ?_
 obtain ⟨rfl,ax⟩:=aW
 have A:=Wk.B ax A
 have a:=a.trans ax
 refine ay<|aC<|ag fun aD=>au (aT tb)<|p (fa rK aa)<|p (ld bz aa<|A.bG 4)<|e<|cl AE (Dg B tb fb V ve F xs pp a6 (J.wk a) I hp) aa fun v51 bd aY=> ?_
 obtain ⟨rfl,aO⟩:=aY
 have a:=a.trans aO
 refine ay<|aD<|ag fun ae=>p mv<|p mv<|gb (t:=53) aa (fun ao=> ?_) fun ao=> ?_
 refine aM aa mv<|p (bC aa)<|p mv<|gb (t:=56) aa (fun ap=> ?_) fun ap=> ?_
 refine aM aa mv<|p (bC aa)<|ay<|ae<|rt<|aX aa ?_
 have i:fC F xs en f s pp=lL F pp:=by rw [pN C (by rw [← M]; simpa using G) O,ao,(show lL F s=true by simpa using ap)]; simp
 exact ⟨Eq.trans (b:=bU<|lL F pp) aa (congrArg bU i.symm),a⟩
 refine aI aa<|p (bu aa)<|ay<|ae<|rt<|aX aa ?_
 have i:fC F xs en f s pp=false :=by rw [pN C (by rw [← M]; simpa using G) O,(show lL F s=false by simpa using ap)]; simp
 exact ⟨Eq.trans (b:=bU false) aa (congrArg bU i.symm),a⟩
 refine aI aa<|p (bu aa)<|p mv<|aI aa<|p (bu aa)<|ay<|ae<|rt<|aX aa ?_
 have i:fC F xs en f s pp=false :=by rw [pN C (by rw [← M]; simpa using G) O,ao]; rfl
 exact ⟨Eq.trans (b:=bU false) aa (congrArg bU i.symm),a⟩
theorem TZ (S0 xb:Nat) (cH:Bool) (most limit:Int) (acc:List bZ) (fp:Nat→Prop) (w:World) (J:iz w fp S0 xb cH most limit acc):
 bp aw 185 (bh [aT xb]) w (fun v w'=>v= .bool (kU most limit acc)∧Wk w w'):=by
 obtain ⟨M,O,c3,E,G,I⟩:=J.aR
 refine enter func185 aa ntmps185 aa<|ag fun C=>ay<|C<|aB fun A=> ?_
 have a:(fun w'=>Wk w w') w.drew:=(Md.refl _ _).drew
 refine bN (fun w'=>Wk w w') aa wide a<|bI 0 aa (aT xb) a<|aH 1 aa (fun _ _=>nc aa) a<|aH 2 aa (fun _ _=>fa td aa) a<|aH 3 aa (fun w' i=>ld bz aa<|Wk.aR i<|G) a<|bI 4 aa (aT xb) a<|aH 5 aa (fun _ _=>nc aa) a<|aH 6 aa (fun _ _=>fa ya aa) a<|aH 7 aa (fun w' i=>ld bz aa<|Wk.aR i<|c3) a<|aH 8 aa (fun _ _=>ge aa aa) a<|aH 9 aa (fun _ _=>mv) a<|iK (t:=12) aa (fun hm=> ?_) fun hm=> ?_
 refine a8 10 aa a<|a8 11 aa a<|a8 12 aa a<|a8 13 aa a<|a8 14 aa a<|a8 15 aa a<|a8 16 aa a<|a8 17 aa a<|a8 18 aa a<|aH 19 aa (fun _ _=>bC aa) a<|aH 20 aa (fun _ _=>aE) a<|hn aj<|A<|rt<|aX aa ?_
 have q:kU most limit acc=true :=decide_eq_true<|Or.inl hm
 exact ⟨Eq.trans (b:=bU true) aa (congrArg bU q.symm),a⟩
 refine bm 10 aa (fun _ _=>aV (aT xb) aa) a<|bm 11 aa (fun _ _=>nc aa) a<|bm 12 aa (fun _ _=>fa tg aa) a<|bm 13 aa (fun w' i=>ld bz aa<|Wk.aR i<|I) a<|bm 14 aa (fun _ _=>aV (aT xb) aa) a<|bm 15 aa (fun _ _=>nc aa) a<|bm 16 aa (fun _ _=>fa yb aa) a<|bm 17 aa (fun w' i=>ld bz aa<|Wk.aR i<|E) a<|bm 18 aa (fun _ _=>gt aa aa) a<|aH 19 aa (fun _ _=>bu aa) a<|aH 20 aa (fun _ _=>aE) a<|hn aj<|A<|rt<|aX aa ?_
 have q:kU most limit acc=decide ((ja acc:Int) > limit):=by unfold kU; rw [decide_eq_decide]; omega
 exact ⟨Eq.trans (b:=bU<|decide ((ja acc:Int) > limit)) aa (congrArg bU q.symm),a⟩
theorem JQ (S0 xb:Nat) (cH:Bool) (most limit:Int) (acc:List bZ) (fp:Nat→Prop) (d:bZ) (w:World) (O:iz w fp S0 xb cH most limit acc) (hd:Sd d) (bv:most≤2000∨limit≤1048576):
 bp aw 122 (bh [aT xb,.agg (eC d).toArray]) w (fun v w'=>v= .tuple #[]∧∃ fp',iz w' fp' S0 xb cH most limit (rR most limit acc d)∧Tw fp w fp' w'):=by
 refine enter func122 aa ntmps122 aa<|ag fun a1=>e<|iZ aa fun C aY aL Z bb=> ?_
 have bK:=Z.size
 have aL:bP aY.heap C (eC d):=bb
 have aK:=O.wk Z.md
 have bt:=O.lt
 have aS:¬fp C:=fun h=>by have :=bt C h; omega
 refine nl<|a1<|ag fun a2=>p mv<|e<|cl PD (TZ S0 xb cH most limit acc fp aY aK) aa fun v6 J bj=> ?_
 obtain ⟨rfl,Y⟩:=bj
 have ae:=aK.wk Y
 obtain ⟨bx,ba,c3,bA,bD,bE⟩:=ae.aR
 have bq:=Wk.B Y aL
 refine ay<|a2<|aB fun a3=>aB fun aC=> ?_
 have a:(fun w'=>Wk J w') J.drew:=(Md.refl _ _).drew
 refine bN (fun w'=>Wk J w') aa wide a<|aH 0 aa (fun _ _=>mv) a<|aH 1 aa (fun _ _=>mv) a<|yB (t:=8) aa (fun ar=> ?_) fun ar=> ?_
 exact a8 2 aa a<|a8 3 aa a<|a8 4 aa a<|a8 5 aa a<|a8 6 aa a<|l8 7 aa aj aa aa aa a<|l8 8 aa aj aa aa aa a<|l8 9 aa aj aa aa aa a<|l8 10 aa aj aa aa aa a<|l8 11 aa aj aa aa aa a<|l8 12 aa aj aa aa aa a<|l8 13 aa aj aa aa aa a<|a8 14 aa a<|aH 15 aa (fun _ _=>bC aa) a<|hn aj<|aC<|ct aa<|rt<|tr<|qw aa<|⟨aa,fp,by rw [JO ar]; exact ae.wk a,Tw.wk<|(Z.md.trans Y).trans a⟩
 have ai:=JP (d:=d) ar
 have aN:=ae.bd
 have aq:=aN.met (d:=d) bv hd
 have au:Bd (acc++ [d]):=ai ▸ aq
 unfold Bd at aN au
 unfold Sd at hd
 obtain ⟨v,al,av,I⟩:=(ae.wk (Md.refl (fun _=>False) J).drew).ex
 have aU:C≠xb:=fun h=>aS<|(I C).2<|.inl h
 have ax:=FB acc d
 rw [ax] at au
 simp only [bM,e9] at au
 refine bm 2 aa (fun _ _=>mv) a<|bm 3 aa (fun _ _=>nc aa) a<|bm 4 aa (fun _ _=>fa TH aa) a<|bm 5 aa (fun w' E=>ld lY aa<|Wk.aR E<|ba) a<|bm 6 aa (fun _ _=>mv) a<|yB (t:=13) aa (fun h=>absurd (h.symm.trans<|aa) eo) fun bI=>a8 7 aa a<|a8 8 aa a<|a8 9 aa a<|a8 10 aa a<|a8 11 aa a<|a8 12 aa a<|a8 13 aa a<|bm 14 aa (fun _ _=>bu aa) a<|aH 15 aa (fun _ _=>bu aa) a<|hn aj<|aC<|cf aa<|aQ<|a3<|aB fun a4=>rg aa<|p mv<|p mv<|p (nc aa)<|p (fa td aa)<|p (ld bz aa<|(a7 al).trans aa)<|p (bF ((acc.length+1:Nat):Int) aa aa<|bl ab ab)<|p (nc aa)<|p (fa td aa)<|e<|cT gr aa aa (v:= .int .i64 ((acc.length+1:Nat):Int)) aa al (by show 5 < 8; omega) fun am aE bc=> ?_
 have aX:am.heap[xb]? =some (.cells [.bool cH,.bool false,str [],.int .i64 most,.int .i64 limit,.int .i64 ((acc.length+1:Nat):Int),ak (ja acc),v].toArray 111 (0,0)):=bc
 have aM:=Md.B aE bq fun h=>aU h
 refine nl<|a4<|aB fun a5=> ?_
 have A:(fun w'=>Wk am w') am.drew:=(Md.refl _ _).drew
 refine eR (fun w'=>Wk am w') 11 aa wide A<|bB 0 aa (fun _=>mv) (fun _=>A)<|bB 1 aa (fun _=>mv) (fun _=>A)<|bB 2 aa (fun _=>nc aa) (fun _=>A)<|bB 3 aa (fun _=>fa tg aa) (fun _=>A)<|dP 4 aa (fun w' E=>ld bz aa<|Wk.aR E<|(a7 aX).trans aa) A<|bB 5 aa (fun _=>fa yi aa) (fun _=>A)<|dP 6 aa (fun w' E=>ld bV aa<|Wk.aR E<|aM.bG 0) A<|bB 7 aa (fun _=>cz u9 aa aa) (fun _=>A)<|bB 8 aa (fun _=>bF ((ja acc+d.kL.length:Nat):Int) aa aa<|bl ab ab) (fun _=>A)<|bB 9 aa (fun _=>nc aa) (fun _=>A)<|bB 10 aa (fun _=>fa tg aa) (fun _=>A)<|dO 11 aa aj aj<|cT gr aa aa (v:= .int .i64 ((ja acc+d.kL.length:Nat):Int)) aa aX (by show 6 < 8; omega) fun V aF bf=> ?_
 have U:V.heap[xb]? =some (.cells [.bool cH,.bool false,str [],.int .i64 most,.int .i64 limit,.int .i64 ((acc.length+1:Nat):Int),.int .i64 ((ja acc+d.kL.length:Nat):Int),v].toArray 111 (0,0)):=bf
 have bo:=Md.B aF aM fun h=>aU h
 have ah:Md (fun q=>q=xb) J.drew V:=aE.trans' (im aF) fun q i h=>h
 have aD:Wk w J.drew:=(Z.md.trans Y).trans (Md.refl _ _).drew
 have bk:TF J.drew [113] (fun q=>q=xb):=TF.eq (dA al) az
 refine eQ aj<|a5<|ag fun a9=>p mv<|p (nc aa)<|p (fa TG aa)<|p (ld lY aa<|(a7 U).trans aa)<|nl ?_
 refine a9<|cb aa (fun hk=> ?_) fun hk=> ?_
 rw [if_pos hk] at av
 have aV:=cx av ah bk az
 subst hk
 have G:(fun w'=>Hb.aR w'.heap xb 7=some v∧bP w'.heap C (eC d)) V.drew:=⟨(a7 U).trans rfl,bo⟩
 refine eR (fun w'=>Hb.aR w'.heap xb 7=some v∧bP w'.heap C (eC d)) 10 aa wide G<|bB 0 aa (fun _=>mv) (fun _=>G)<|bB 1 aa (fun _=>mv) (fun _=>G)<|bB 2 aa (fun _=>nc aa) (fun _=>G)<|bB 3 aa (fun _=>fa BR aa) (fun _=>G)<|dP 4 aa (fun w' E=>ld oC aa<|E.1) G<|dP 5 aa (fun w' E=>di sN aa (aa) fun j bJ=>E.2.bG j) G<|gE 6 aa aj<|kQ DB aa aa aa fun bw aZ bH ac bg=> ?_
 have bL:=ac.size
 have M:Wk V aZ:=((Md.refl (fun _=>False) V).drew).trans ac.md
 have aI:(fun w'=>Hb.aR w'.heap xb 7=some v∧bP w'.heap C (eC d)) aZ:=⟨Wk.aR ac.md G.1,Wk.B ac.md G.2⟩
 refine ⟨aI,?_⟩
 refine gE 7 aa aj<|ap DB (a6 aV M) aa (by have :=O.lo; have :=(dB.1 al).1; have :=ah.size; have :=M.size; omega) aa (aO.ec bg) (aa) (aa) ab ab fun v53 a0 aW an bO br=> ?_
 have aA:=an.aJ (Wk.aJ M U) fun h=>dI (a6 aV M) (Wk.aJ M U) az h
 have ao:(fun w'=>Hb.aR w'.heap xb 7=some v∧bP w'.heap C (eC d)) a0:=⟨(a7 aA).trans rfl,Md.B an aI.2 fun h=>aS<|(I C).2<|.inr h⟩
 refine ⟨ao,?_⟩
 refine bB 8 aa (fun _=>nc aa) (fun _=>ao)<|bB 9 aa (fun _=>fa BR aa) (fun _=>ao)<|dO 10 aa aj aj<|cT G2 aa aa (v:=v53) (eS aW) aA (by show 7 < 8; omega) fun bQ aG bi=> ?_
 have bn:TF a0 [113] (fun q=>q=xb):=TF.eq (dA aA) az
 refine eQ aj<|f0 aa ?_
 refine ⟨aa,fun q=>q=xb∨v53.ownBlock=some q,⟨O.lo,⟨v53,?_,?_,fun _=>Iff.rfl⟩,aq⟩,?_⟩
 rw [ai]
 have h1:vS true most limit (acc++ [d]) v53= [.bool true,.bool false,str [],.int .i64 most,.int .i64 limit,.int .i64 ((acc.length+1:Nat):Int),.int .i64 ((ja acc+d.kL.length:Nat):Int),v53]:=by unfold vS; rw [ax,bM]; rfl
 rw [h1]; exact bi
 rw [if_pos rfl,ai,bM,show jm (acc++ [d])=jm acc++eC d from by unfold jm; rw [nC,o5]]
 exact cx aW aG bn az
 have aP:∀ q,q=xb→fp q:=fun q i=>(I q).2<|.inl i
 refine Tw.trans (Tw.wk aD)<|Tw.trans ⟨ah.mono (fun q _ i=>aP q i),fun q i=> .inl i⟩<|Tw.trans (Tw.wk M)<|Tw.trans (fp':=fun q=>q=xb∨v53.ownBlock=some q) ⟨an.mono (fun q _ i=>(I q).2<|.inr i),fun q i=>i.elim (fun h=> .inl<|aP q h) fun h=>(br q h).imp (fun h=>(I q).2<|.inr h) id⟩ ⟨aG.mono (fun q _ i=> .inl i),fun q i=> .inl i⟩
 refine aQ<|f0 aa ?_
 have bs:cH=false :=by simpa using hk
 subst bs
 refine ⟨aa,fp,⟨O.lo,⟨v,?_,?_,I⟩,aq⟩,?_⟩
 rw [ai]
 have h1:vS false most limit (acc++ [d]) v= [.bool false,.bool false,str [],.int .i64 most,.int .i64 limit,.int .i64 ((acc.length+1:Nat):Int),.int .i64 ((ja acc+d.kL.length:Nat):Int),v]:=by unfold vS; rw [ax,bM]; rfl
 rw [h1]; exact U
 exact av
 exact Tw.trans (Tw.wk aD) ⟨ah.mono (fun q _ i=>(I q).2<|.inl i),fun q i=> .inl i⟩
end Go.Hb.sH
end
section
namespace Go.Hb
open Go.Hb.sF Go.Hb.sH
section
variable {w w':World} {fp fp':Nat→Prop} {S0 xb:Nat} {cH:Bool} {most limit:Int} {acc:List bZ}
theorem rV {B n:Nat} {v:Value} {xs:List Value} (a:bw w B 3 1 v n xs) (h:iz w fp S0 xb cH most limit acc) (hm:Tw fp w fp' w'):bw w' B 3 1 v n xs:=cx a hm.md h.tf az
theorem Kc {b:Nat} (h:Tw fp w fp' w') (hn:¬fp b) (a:b < w.heap.size):¬fp' b:=fun h2=>(h.sub b h2).elim hn fun h3=>by omega
end
theorem Jl {most limit:Int} {acc A:List bZ} {α:Type} {g:α→Option bZ} {l:List α} {i:Nat} (h:kU most limit (gR most limit acc<|A++(l.take i).filterMap g)=true):gR most limit acc (A++l.filterMap g)=gR most limit acc (A++(l.take i).filterMap g):=by
 conv =>lhs; rw [← xc i l,zQ,← dH,vk,yD h]
theorem Cz {most limit:Int} {acc A:List bZ} {α:Type} {g:α→List bZ} {l:List α} {i:Nat} (h:kU most limit (gR most limit acc<|A++(l.take i).flatMap g)=true):gR most limit acc (A++l.flatMap g)=gR most limit acc (A++(l.take i).flatMap g):=by
 conv =>lhs; rw [← xc i l,nC,← dH,vk,yD h]
theorem Cc {most limit:Int} {a:List bZ} (h:¬(ja a:Int)≤limit):kU most limit a=true :=decide_eq_true<|Or.inr ab
theorem Cd {most limit:Int} {a:List bZ} (h:¬(a.length:Int) < most):kU most limit a=true :=decide_eq_true<|Or.inl ab
theorem Jk {most limit:Int} {acc A C:List bZ} {α:Type} {g:α→List bZ} {l:List α} {i:Nat} (h:kU most limit (gR most limit acc<|A++(C++(l.take i).flatMap g))=true):gR most limit acc (A++(C++l.flatMap g))=gR most limit acc (A++(C++(l.take i).flatMap g)):=by
 rw [← dH] at h ⊢
 rw [Cz h,dH]
theorem Sy {F:aU} {xs:List bH} (a:eN F xs) (n:Int):∀ d∈gz F xs n,1≤d.kL.length∧d.kL.length≤200:=by
 intro d hd
 unfold gz at hd
 split at hd
 · rename_i h
   obtain ⟨k,rfl⟩:∃ k:Nat,n=(k:Int):=⟨n.toNat,ab⟩
   have i:xs[k]? =some xs[k]:=cI ab
   have A:xs.getD k ([],[])=xs[k]:=by rw [da,i]; rfl
   rw [mU] at hd
   have h1:=a.ne _<|iR i
   have h2:=(a.uP _<|iR i).1
   have :=Sz (fun q C=>(a.fs.2 q C).2) (by rw [A]; exact h1) d hd
   rw [A] at this
   omega
 · cases hd
theorem Vv {F:aU} {xs:List bH} (a:eN F xs) {n most:Int} (i:most≤2000):gR most 1152921504606846976 [] (gz F xs n)=jY (gz F xs n) most:=by
 by_cases hm:most < 1
 · rw [LO hm,yD (decide_eq_true<|Or.inl<|by simp only [fU]; omega)]
 · unfold jY; rw [if_neg hm]
   have :=Vu (most:=most) (limit:=1152921504606846976) 200 ab ab (gz F xs n) [] (fun d hd=>(Sy a n d hd).2) (by simp only [fU]; omega)<|jG _
   rw [this]; rfl
set_option maxHeartbeats 4000000 in
theorem DV (B tb fb:Nat) (V:eu) (ve:Value) (F:aU) (xs:List bH) (S0 xb:Nat) (cH:Bool) (most limit:Int) (acc:List bZ) (fp:Nat→Prop) (word c5:Tx) (en:Nat) (f s c4:Int) (ap:Option Addr) (cp bV:Nat) (w:World) (bt:gn w B tb fb V ve F xs) (ai:eN F xs) (ao:iz w fp S0 xb cH most limit acc) (bM:most≤2000∨limit≤1048576) (cL:bw w bV 3 1 (.slice ap (aW F (flagsOf xs en) 1).length cp) (aW F (flagsOf xs en) 1).length ((aW F (flagsOf xs en) 1).map bQ)) (bL:Rn F f) (hs:Rn F s) (c2:1≤word.length∧word.length≤500):
 bp aw 75 (bh [aT tb,aT xb,str word,.agg (eC ⟨c5,en,f,s,c4⟩).toArray,.slice ap (aW F (flagsOf xs en) 1).length cp]) w (fun v w'=>v= .tuple #[]∧∃ fp',iz w' fp' S0 xb cH most limit (gR most limit acc<|eG F xs en word f s)∧Tw fp w fp' w'):=by
 have cE:=ao.lt
 have dg:=rT F (flagsOf xs (en:Int)) 1
 have dh:=ai.len
 refine enter func75 aa ntmps75 aa<|ag fun bW=>e<|oE aa fun G dr df bx cg=> ?_
 have dj:=bx.size
 refine nl<|bW<|ag fun b1=>p (fa rK aa)<|e<|cT gr aa aa (v:= .int .i64<|-1) aa cg (by show 4 < 5; omega) fun dp cj cc=>nl<|b1<|ag fun b2=>p mv<|p (fa yi aa)<|e<|cT kS aa aa (v:=str word) aa cc (by simp only [List.length_set]; show 0 < 5; omega) fun bb ck ce=> ?_
 have a0:bb.heap[G]? =some (.cells (eC ⟨word,en,f,s,-1⟩).toArray 43 (0,0)):=ce
 have bq:Wk w bb:=(bx.md.trans' cj fun q a4 h=>by omega).trans' ck fun q a4 h=>by omega
 have a3:¬fp G:=fun h=>by have :=cE G h; omega
 refine nl<|b2<|ag fun b3=>p mv<|p (di sN aa (aa) fun j ah=>(oD a0).bG j)<|e<|cl FI (KS B tb fb V ve F xs word en f s (-1) bb (bt.wk bq) ai bL hs<|.inl aa) aa fun dl c6 cm=> ?_
 obtain ⟨rfl,bo⟩:=cm
 have aF:=bq.trans bo
 have bA:=ao.wk aF
 have aq:=Wk.aJ bo a0
 refine ay<|b3 ?_
 refine ep (fun ac ax=> ∃ (ae:Nat→Prop),(iz ax ae S0 xb cH most limit<|gR most limit acc<|kB F xs en word f s)∧(Tw fp w ae ax)∧(ax.heap[G]? =some (.cells (eC ⟨word,en,f,s,-1⟩).toArray 43 (0,0)))∧(¬ae G)∧(ac 0=aT tb)∧(ac 1=aT xb)∧(ac 2=str word)∧(ac 4= .slice ap (aW F (flagsOf xs en) 1).length cp)∧(ac 8=aT G)) ?_ ?_
 refine ag fun az=>p mv<|nl<|az<|cb aa (fun a1=> ?_) fun a1=> ?_
 have aX:kB F xs en word f s= [⟨word,en,f,s,-1⟩]:=if_pos a1
 refine rg aa<|p mv<|p (di sN aa (aa) fun j ah=>(oD aq).bG j)<|e<|cl FJ (JQ S0 xb cH most limit acc fp ⟨word,en,f,s,-1⟩ c6 bA ⟨c2.1,by show word.length≤1000; omega⟩ bM) aa fun dm dq cn=> ?_
 obtain ⟨rfl,ca,cw,aN⟩:=cn
 have cC:=aN.md.aJ aq a3
 have cJ:=Kc aN a3 (dB.1 aq).1
 exact nl<|tn<|⟨ca,(by rw [aX]; exact cw),((Tw.wk aF).trans aN),cC,cJ,aa,aa,aa,aa,aa⟩
 have aX:kB F xs en word f s= []:=if_neg<|by rw [a1]; exact eo
 exact aQ<|tn<|⟨fp,(by rw [aX]; exact bA),(Tw.wk aF),aq,a3,aa,aa,aa,aa,aa⟩
 rintro ac ax ⟨ae,cx,ct,cD,cK,cN,cO,cP,cQ,cR⟩
 refine fx 0 cN<|fx 1 cO<|fx 2 cP<|fx 4 cQ<|fx 8 cR<|ag fun az=>ay<|az<|aJ<|lp (fun bg J I=> ∃ (i:Nat) (E:Nat→Prop) (av:Tx) (pp:Int),(i≤(aW F (flagsOf xs en) 1).length)∧(iz I E S0 xb cH most limit<|gR most limit acc<|kB F xs en word f s++((aW F (flagsOf xs en) 1).take i).filterMap (jw F xs en word f s))∧(Tw fp w E I)∧(I.heap[G]? =some (.cells (eC ⟨av,en,f,s,pp⟩).toArray 43 (0,0)))∧(¬E G)∧(J 0=aT tb)∧(J 1=aT xb)∧(J 2=str word)∧(J 4= .slice ap (aW F (flagsOf xs en) 1).length cp)∧(J 8=aT G)∧(J 11=ak i)∧((aW F (flagsOf xs en) 1).length - i=bg)) _ ⟨0,ae,word,-1,ab,(by simpa using cx),ct,cD,cK,aa,aa,aa,aa,aa,aa,aa⟩ ?_
 rintro bg J I ⟨i,E,av,pp,hi,O,an,cA,U,cS,cU,cW,cX,cY,cV,rfl⟩
 refine fx 0 cS<|fx 1 cU<|fx 2 cW<|fx 4 cX<|fx 8 cY<|fx 11 cV<|aB fun b4=>aB fun aA=> ?_
 obtain ⟨c9,db,c3,b6,b7,b8⟩:=O.aR
 have a:(fun w'=>Wk I w') I.drew:=(Md.refl _ _).drew
 refine bN (fun w'=>Wk I w') aa wide a<|bI 0 aa (ak i) a<|bI 1 aa (.slice ap (aW F (flagsOf xs en) 1).length cp) a<|aH 2 aa (fun _ _=>bJ nu aa aa) a<|aH 3 aa (fun _ _=>lt aa aa) a<|aH 4 aa (fun _ _=>mv) a<|iK (t:=28) aa (fun cF=> ?_) fun cF=> ?_
 refine bm 5 aa (fun _ _=>aV (aT xb) aa) a<|bm 6 aa (fun _ _=>nc aa) a<|bm 7 aa (fun _ _=>fa td aa) a<|bm 8 aa (fun w' C=>ld bz aa<|Wk.aR C<|b7) a<|bm 9 aa (fun _ _=>aV (aT xb) aa) a<|bm 10 aa (fun _ _=>nc aa) a<|bm 11 aa (fun _ _=>fa ya aa) a<|bm 12 aa (fun w' C=>ld bz aa<|Wk.aR C<|c3) a<|bm 13 aa (fun _ _=>lt aa aa) a<|aH 14 aa (fun _ _=>bC aa) a<|aH 15 aa (fun _ _=>mv) a<|iK (t:=39) aa (fun bS=> ?_) fun bS=> ?_
 refine bm 16 aa (fun _ _=>aV (aT xb) aa) a<|bm 17 aa (fun _ _=>nc aa) a<|bm 18 aa (fun _ _=>fa tg aa) a<|bm 19 aa (fun w' C=>ld bz aa<|Wk.aR C<|b8) a<|bm 20 aa (fun _ _=>aV (aT xb) aa) a<|bm 21 aa (fun _ _=>nc aa) a<|bm 22 aa (fun _ _=>fa yb aa) a<|bm 23 aa (fun w' C=>ld bz aa<|Wk.aR C<|b6) a<|bm 24 aa (fun _ _=>le aa aa) a<|aH 25 aa (fun _ _=>bC aa) a<|hn aj<|aA<|cd aa (fun bB=> ?_) fun bB=> ?_
 have cy:=O.wk a
 have bE:=Wk.aJ a cA
 have am:=an.trans<|Tw.wk a
 have ci:=vj bt ao am.md
 have bO:=rV cL ao am
 have cM:=rQ.1<|dY (d:=0) (show i < (aW F (flagsOf xs en) 1).length by omega)
 obtain ⟨r,a5⟩:∃ r,F.rules[((aW F (flagsOf xs en) 1).getD i 0)]? =some r:=⟨_,cI cM.1⟩
 have bR:F.rules.getD ((aW F (flagsOf xs en) 1).getD i 0) e6=r:=by rw [da,a5]; rfl
 have Y:=DN (g:=jw F xs en word f s) 0 (show i < (aW F (flagsOf xs en) 1).length by omega)
 have ar:=(ai.iN a5).2.2
 refine aQ<|b4<|aB fun aC=>aJ<|ag fun b5=>au (.slice ap (aW F (flagsOf xs en) 1).length cp)<|au (ak i)<|p (bc kf aa aa ab<|aO.ok ((ba bO).2)<|bT ab)<|p (ld bz aa<|aO.gN (i:=i) (ba bO).2<|nk ab)<|p (fa rK aa)<|e<|cT gr aa aa (v:= .int .i64 ((((aW F (flagsOf xs en) 1).getD i 0):Nat):Int)) aa bE (by show 4 < 5; omega) fun Z aK ch=> ?_
 have bK:Z.heap[G]? =some (.cells (eC ⟨av,en,f,s,(((aW F (flagsOf xs en) 1).getD i 0):Nat)⟩).toArray 43 (0,0)):=ch
 have cz:=cy.JL aK U
 have aG:=Uq ci bE aK
 obtain ⟨c8,dc,dk,rc,cZ,bj,bP,dd⟩:=aG.iN a5
 refine nl<|b5<|aB fun bX=> ?_
 have A:(fun w'=>Wk Z w') Z.drew:=(Md.refl _ _).drew
 refine bN (fun w'=>Wk Z w') aa wide A<|bI 0 aa (aT tb) A<|aH 1 aa (fun _ _=>nc aa) A<|aH 2 aa (fun _ _=>fa ng aa) A<|aH 3 aa (fun w' C=>ld ib aa<|Wk.aR C<|(a7 aG.cells).trans aa) A<|aH 4 aa (fun _ _=>nc aa) A<|aH 5 aa (fun _ _=>fa jN aa) A<|aH 6 aa (fun w' C=>ld ka aa<|Wk.aR C<|cZ) A<|aH 7 aa (fun _ _=>fa rK aa) A<|aH 8 aa (fun w' C=>ld bz aa<|Wk.aR C<|(a7 bK).trans (show _=some (Value.int .i64 ((((aW F (flagsOf xs en) 1).getD i 0):Nat):Int)) from aa)) A<|aH 9 aa (fun _ _=>bc nR aa aa ab<|aO.ok (bj.wk A)<|nW bP) A<|aH 10 aa (fun w' C=>di rq aa (aa) fun j ah=>fA (f:=jx) (m:=8) (fun _=>rfl) (bj.wk C) bP j ah) A<|bI 11 aa (str word) A<|he 12 aa aj<|cl AZ (Df r _ word Z.drew (by unfold jS at ar; omega) (by unfold jS at ar; omega) (by unfold jS at ar; omega) ab) aa fun v70 bU co=> ?_
 obtain ⟨rfl,br⟩:=co
 have aD:=A.trans br
 have bD:=Wk.aJ aD bK
 have M:(fun w'=>Wk Z w') bU:=A.trans br
 refine ⟨M,?_⟩
 refine aH 13 aa (fun _ _=>mv) M<|aH 14 aa (fun _ _=>xt aa aa) M<|aH 15 aa (fun _ _=>xt aa aa) M<|aH 16 aa (fun _ _=>aE) M<|aH 17 aa (fun _ _=>aE) M<|hn aj<|bX<|aB fun bY=>rg aa<|au (aT tb)<|p (di sN aa (aa) fun j ah=>(oD bD).bG j)<|e<|cl FI (KS B tb fb V ve F xs av en f s (((aW F (flagsOf xs en) 1).getD i 0):Nat) bU (aG.wk aD) ai bL hs<|.inr ab) aa fun v75 c7 cq=> ?_
 obtain ⟨rfl,bs⟩:=cq
 have bk:=aD.trans bs
 have aP:=cz.wk bk
 have aY:=Wk.aJ bs bD
 have de:=(dB.1 a0).1
 have al:Tw fp w E c7:=⟨(am.md.trans' aK fun q a4 h=>by omega).trans' bk (fun _ _ h=>h.elim),fun k hk=>am.sub k hk⟩
 refine ay<|bY<|ag fun bd=>p mv<|p mv<|gb (t:=77) aa (fun aS=> ?_) fun aS=> ?_
 obtain ⟨v,a6⟩:∃ v,dJ r word=some v:=ph.1 aS
 have c0:(dJ r word).getD []=v:=by rw [a6]; rfl
 have c1:=qj (by unfold jS at ar; omega) a6
 refine aM aa mv<|p (bC aa)<|nl<|bd<|cb aa (fun a2=> ?_) fun a2=> ?_
 have bN:=GX (word:=word) a2<|by rw [bR]; exact a6
 rw [bN] at Y
 refine ag fun b0=>p mv<|p (fa yi aa)<|e<|cT kS aa aa (v:=str<|(dJ r word).getD []) aa aY (by show 0 < 5; omega) fun a9 bv bi=> ?_
 rw [c0] at bi
 have aZ:a9.heap[G]? =some (.cells (eC ⟨v,en,f,s,(((aW F (flagsOf xs en) 1).getD i 0):Nat)⟩).toArray 43 (0,0)):=bi
 have cu:=aP.JL bv U
 have cs:Tw fp w E a9:=⟨al.md.trans' bv (fun q a4 h=>by omega),al.sub⟩
 refine nl<|b0<|rg aa<|au (aT xb)<|p (di sN aa (aa) fun j ah=>(oD aZ).bG j)<|e<|cl FJ (JQ S0 xb cH most limit (gR most limit acc<|kB F xs en word f s++((aW F (flagsOf xs en) 1).take i).filterMap (jw F xs en word f s)) E ⟨v,en,f,s,(((aW F (flagsOf xs en) 1).getD i 0):Nat)⟩ a9 cu ⟨c1.1,by show v.length≤1000; omega⟩ bM) aa fun dn ds cr=> ?_
 obtain ⟨rfl,b9,cv,aL⟩:=cr
 have cB:=aL.md.aJ aZ U
 have cG:=Kc aL U (dB.1 aZ).1
 exact nl<|bn<|aC<|rg aa<|au (ak i)<|p (bF ((i+1:Nat):Int) aa aa<|bl ab ab)<|p aE<|nl<|tn<|⟨_,ab,i+1,b9,_,_,ab,(by rw [Y,← dH,vk]; exact cv),(cs.trans aL),cB,cG,aa,aa,aa,aa,aa,aa,aa⟩
 have bN:=GW (word:=word) a2
 rw [bN] at Y
 exact aQ<|bn<|aC<|rg aa<|au (ak i)<|p (bF ((i+1:Nat):Int) aa aa<|bl ab ab)<|p aE<|nl<|tn<|⟨_,ab,i+1,E,_,_,ab,(by rw [Y]; simpa using aP),al,aY,U,aa,aa,aa,aa,aa,aa,aa⟩
 have bN:=GV (xs:=xs) (e:=en) (f:=f) (s:=s) (word:=word) (p:=(aW F (flagsOf xs en) 1).getD i 0)<|by rw [bR]; simpa using aS
 rw [bN] at Y
 exact aI aa<|p (bu aa)<|nl<|bd<|cf aa<|aQ<|bn<|aC<|rg aa<|au (ak i)<|p (bF ((i+1:Nat):Int) aa aa<|bl ab ab)<|p aE<|nl<|tn<|⟨_,ab,i+1,E,_,_,ab,(by rw [Y]; simpa using aP),al,aY,U,aa,aa,aa,aa,aa,aa,aa⟩
 exact ext<|bf<|bf<|be<|f0 aa<|⟨aa,E,(by unfold eG; rw [Jl (Cc bB)]; exact O.wk a),an.trans<|Tw.wk a⟩
 refine a8 16 aa a<|a8 17 aa a<|a8 18 aa a<|a8 19 aa a<|a8 20 aa a<|a8 21 aa a<|a8 22 aa a<|a8 23 aa a<|a8 24 aa a<|aH 25 aa (fun _ _=>bu aa) a<|hn aj<|aA<|cf aa<|ext<|bf<|bf<|be<|f0 aa ?_
 exact ⟨aa,E,(by unfold eG; rw [Jl (Cd bS)]; exact O.wk a),an.trans<|Tw.wk a⟩
 refine a8 5 aa a<|a8 6 aa a<|a8 7 aa a<|a8 8 aa a<|a8 9 aa a<|a8 10 aa a<|a8 11 aa a<|a8 12 aa a<|a8 13 aa a<|aH 14 aa (fun _ _=>bu aa) a<|aH 15 aa (fun _ _=>mv) a<|a8 16 aa a<|a8 17 aa a<|a8 18 aa a<|a8 19 aa a<|a8 20 aa a<|a8 21 aa a<|a8 22 aa a ?_
 refine a8 23 aa a<|a8 24 aa a<|aH 25 aa (fun _ _=>bu aa) a<|hn aj<|aA<|cf aa<|ext<|bf<|bf<|be<|f0 aa ?_
 rw [eU ab] at O
 exact ⟨aa,E,O.wk a,an.trans<|Tw.wk a⟩
set_option maxHeartbeats 4000000 in
theorem Zv (B tb fb:Nat) (V:eu) (ve:Value) (F:aU) (xs:List bH) (S0 xb:Nat) (cH:Bool) (most limit:Int) (acc:List bZ) (fp:Nat→Prop) (n:Int) (w:World) (al:gn w B tb fb V ve F xs) (O:eN F xs) (an:iz w fp S0 xb cH most limit acc) (bX:most≤2000∨limit≤1048576):
 bp aw 39 (bh [aT tb,.int .i64 n,aT xb]) w (fun v w'=>v= .tuple #[]∧∃ fp',iz w' fp' S0 xb cH most limit (gR most limit acc<|gz F xs n)∧Tw fp w fp' w'):=by
 obtain ⟨em,ce,ec⟩:=al.DT
 have eF:=O.xl
 have eB:=O.len
 refine enter func39 aa ntmps39 aa<|aB fun cK=>ag fun b9=>p mv<|p (lt aa aa)<|p mv<|gs (t:=18) aa (fun dy=> ?_) fun dy=> ?_
 exact aI aa<|aI aa<|aI aa<|aI aa<|aI aa<|aI aa<|aI aa<|p (bC aa)<|nl<|b9<|ct aa<|rt<|tr<|qw aa<|⟨aa,fp,by rw [Bi ab,Cy]; exact an,Tw.refl _ _⟩
 refine aM aa mv<|aM aa mv<|aM aa (nc aa)<|aM aa (fa vc aa)<|aM aa (ld uC aa<|ec)<|aM aa (bJ zk aa aa)<|aM aa (ge aa aa)<|p (bu aa)<|nl<|b9<|cd aa (fun dv=> ?_) fun dv=> ?_
 exact rt<|tr<|qw aa<|⟨aa,fp,by rw [Bi ab,Cy]; exact an,Tw.refl _ _⟩
 obtain ⟨k,rfl⟩:∃ k:Nat,n=(k:Int):=⟨n.toNat,ab⟩
 obtain ⟨x,bk⟩:∃ x,xs[k]? =some x:=⟨_,cI ab⟩
 obtain ⟨en,eq,ws,a,c,ed,ca,cx,ew⟩:=al.s8 bk
 obtain ⟨et,ev,c2,bv⟩:=sR bk
 have bW:jL F xs k=eG F xs k x.1 (-1) (-1)++(aW F (flagsOf xs (k:Int)) 2).flatMap (gd F xs k):=by unfold jL; rw [bv]
 have eH:=(O.uP x<|iR bk).1
 have eg:=O.ne x<|iR bk
 have ez:=rT F (flagsOf xs (k:Int)) 2
 have bK:gz F xs (k:Int)=jL F xs k:=rG c2
 refine aQ<|cK<|ag fun cU=>p mv<|p (nc aa)<|p (fa vc aa)<|p (ld uC aa<|ed)<|p mv<|p (bc HA aa aa ab<|aO.ok (ca)<|uN cx)<|p (fa TI aa)<|p (ld bV aa<|fA (f:=pI) (m:=2) (fun _=>rfl) ca cx 0 az)<|ay<|cU<|aB fun cV=>rg aa<|p mv<|p mv<|e<|cl QI (XJ B tb fb V ve F xs (k:Int) w al O) aa fun v37 ek dh=> ?_
 obtain ⟨bY,bx⟩:=dh
 obtain ⟨Y,ac,rfl⟩:=cE bY
 have cr:=an.wk bx
 refine ay<|cV<|ag fun cW=>p mv<|p mv<|p mv<|p mv<|p (c8 (ps:= [(1,ak k),(2,.int .i64 (-1)),(3,.int .i64 (-1))]) (L:= [.string ⟨⟨[]⟩⟩,ak k,.int .i64 (-1),.int .i64 (-1),.int .i64 0]) DH aa<|aa)<|p mv<|e<|cl AY (DV B tb fb V ve F xs S0 xb cH most limit acc fp x.1 [] k (-1) (-1) 0 Y ac w.heap.size ek (al.wk bx) O cr bX bY (.inl aa) (.inl aa) ⟨eg,ab⟩) aa fun eO el dj=> ?_
 obtain ⟨rfl,c6,ds,cm⟩:=dj
 have bO:=(Tw.wk bx).trans cm
 have dD:=rV bY cr cm
 refine nl<|cW<|ag fun cX=>p mv<|p mv<|e<|cl QJ (XN B tb fb V ve F xs (k:Int) el (vj al an bO.md) O) aa fun eP eV dk=> ?_
 obtain ⟨cv,bA⟩:=dk
 obtain ⟨Z,ae,rfl⟩:=cE cv
 have dt:=ds.wk bA
 have dp:=bO.trans<|Tw.wk bA
 have dE:=a6 dD bA
 have dM:=eE cv (show w.heap.size≤_ from bO.md.size)
 refine ay<|cX<|ag fun cY=>ay<|cY<|aJ<|lp (fun aD am M=> ∃ (i:Nat) (ah:Nat→Prop),(i≤(aW F (flagsOf xs (k:Int)) 2).length)∧(iz M ah S0 xb cH most limit<|gR most limit acc<|eG F xs k x.1 (-1) (-1)++((aW F (flagsOf xs (k:Int)) 2).take i).flatMap (gd F xs k))∧(Tw fp w ah M)∧(bw M w.heap.size 3 1 (.slice Y (aW F (flagsOf xs (k:Int)) 1).length ac) (aW F (flagsOf xs (k:Int)) 1).length<|(aW F (flagsOf xs (k:Int)) 1).map bQ)∧(bw M w.heap.size 3 1 (.slice Z (aW F (flagsOf xs (k:Int)) 2).length ae) (aW F (flagsOf xs (k:Int)) 2).length<|(aW F (flagsOf xs (k:Int)) 2).map bQ)∧(am 0=aT tb)∧(am 1=ak k)∧(am 2=aT xb)∧(am 6=str x.1)∧(am 7= .slice Y (aW F (flagsOf xs (k:Int)) 1).length ac)∧(am 8= .slice Z (aW F (flagsOf xs (k:Int)) 2).length ae)∧(am 9=ak i)∧((aW F (flagsOf xs (k:Int)) 2).length - i=aD)) _ ⟨0,c6,ab,(by simpa using dt),dp,dE,dM,aa,aa,aa,aa,aa,aa,aa,aa⟩ ?_
 rintro aD am M ⟨i,ah,hi,av,aZ,dG,dN,dU,dV,dW,dX,dZ,d0,d1,rfl⟩
 refine fx 0 dU<|fx 1 dV<|fx 2 dW<|fx 6 dX<|fx 7 dZ<|fx 8 d0<|fx 9 d1<|aB fun cZ=>aB fun bq=> ?_
 obtain ⟨c0,c1,c3,br,bs,bt⟩:=av.aR
 have A:(fun w'=>Wk M w') M.drew:=(Md.refl _ _).drew
 refine bN (fun w'=>Wk M w') aa wide A<|bI 0 aa (ak i) A<|bI 1 aa (.slice Z (aW F (flagsOf xs (k:Int)) 2).length ae) A<|aH 2 aa (fun _ _=>bJ nu aa aa) A<|aH 3 aa (fun _ _=>lt aa aa) A<|aH 4 aa (fun _ _=>mv) A<|iK (t:=52) aa (fun dw=> ?_) fun dw=> ?_
 refine bm 5 aa (fun _ _=>aV (aT xb) aa) A<|bm 6 aa (fun _ _=>nc aa) A<|bm 7 aa (fun _ _=>fa td aa) A<|bm 8 aa (fun w' C=>ld bz aa<|Wk.aR C<|bs) A<|bm 9 aa (fun _ _=>aV (aT xb) aa) A<|bm 10 aa (fun _ _=>nc aa) A<|bm 11 aa (fun _ _=>fa ya aa) A<|bm 12 aa (fun w' C=>ld bz aa<|Wk.aR C<|c3) A<|bm 13 aa (fun _ _=>lt aa aa) A<|aH 14 aa (fun _ _=>bC aa) A<|aH 15 aa (fun _ _=>mv) A<|iK (t:=63) aa (fun cF=> ?_) fun cF=> ?_
 refine bm 16 aa (fun _ _=>aV (aT xb) aa) A<|bm 17 aa (fun _ _=>nc aa) A<|bm 18 aa (fun _ _=>fa tg aa) A<|bm 19 aa (fun w' C=>ld bz aa<|Wk.aR C<|bt) A<|bm 20 aa (fun _ _=>aV (aT xb) aa) A<|bm 21 aa (fun _ _=>nc aa) A<|bm 22 aa (fun _ _=>fa yb aa) A<|bm 23 aa (fun w' C=>ld bz aa<|Wk.aR C<|br) A<|bm 24 aa (fun _ _=>le aa aa) A<|aH 25 aa (fun _ _=>bC aa) A<|hn aj<|bq<|cd aa (fun cs=> ?_) fun cs=> ?_
 have du:=av.wk A
 have cn:=aZ.trans<|Tw.wk A
 have bG:=vj al an cn.md
 have dF:=a6 dG A
 have b3:=a6 dN A
 have dT:=rQ.1<|dY (d:=0) (show i < (aW F (flagsOf xs (k:Int)) 2).length by omega)
 obtain ⟨r,b5⟩:∃ r,F.rules[((aW F (flagsOf xs (k:Int)) 2).getD i 0)]? =some r:=⟨_,cI dT.1⟩
 have cA:F.rules.getD ((aW F (flagsOf xs (k:Int)) 2).getD i 0) e6=r:=by rw [da,b5]; rfl
 have aL:=uS (g:=gd F xs k) 0 (show i < (aW F (flagsOf xs (k:Int)) 2).length by omega)
 have bd:=(O.iN b5).2.2
 obtain ⟨eo,er,eI,rc,ee,cc,cy,ex⟩:=bG.iN b5
 refine aQ<|cZ<|aB fun aS=>aJ<|aB fun cL=> ?_
 have I:(fun w'=>Wk M.drew w') M.drew.drew:=(Md.refl _ _).drew
 refine bN (fun w'=>Wk M.drew w') aa wide I<|bI 0 aa (aT tb) I<|aH 1 aa (fun _ _=>nc aa) I<|aH 2 aa (fun _ _=>fa ng aa) I<|aH 3 aa (fun w' C=>ld ib aa<|Wk.aR C<|(a7 bG.cells).trans aa) I<|aH 4 aa (fun _ _=>nc aa) I<|aH 5 aa (fun _ _=>fa jN aa) I<|aH 6 aa (fun w' C=>ld ka aa<|Wk.aR C<|ee) I<|bI 7 aa (.slice Z (aW F (flagsOf xs (k:Int)) 2).length ae) I<|bI 8 aa (ak i) I<|aH 9 aa (fun _ _=>bc kf aa aa ab<|aO.ok ((ba b3).2.wk I)<|bT ab) I<|aH 10 aa (fun w' C=>ld bz aa<|Wk.aR C<|aO.gN (i:=i) (ba b3).2<|nk ab) I<|aH 11 aa (fun _ _=>bc nR aa aa ab<|aO.ok (cc.wk I)<|nW cy) I<|aH 12 aa (fun w' C=>di rq aa (aa) fun j a2=>fA (f:=jx) (m:=8) (fun _=>rfl) (cc.wk C) cy j a2) I<|bI 13 aa (str x.1) I<|he 14 aa aj<|cl AZ (Df r _ x.1 M.drew.drew (by unfold jS at bd; omega) (by unfold jS at bd; omega) (by unfold jS at bd; omega) ab) aa fun v91 cJ dl=> ?_
 obtain ⟨rfl,ci⟩:=dl
 have aF:=I.trans ci
 have a1:=du.wk aF
 have co:=cn.trans<|Tw.wk aF
 have dc:=bG.wk aF
 have b1:=a6 dF aF
 have a5:=a6 b3 aF
 have ar:(fun w'=>Wk M.drew w') cJ:=I.trans ci
 refine ⟨ar,?_⟩
 refine aH 15 aa (fun _ _=>mv) ar<|aH 16 aa (fun _ _=>xt aa aa) ar<|aH 17 aa (fun _ _=>xt aa aa) ar<|aH 18 aa (fun _ _=>aE) ar<|aH 19 aa (fun _ _=>aE) ar<|hn aj<|cL<|aB fun cM=>ag fun cN=>p mv<|p (no aa)<|nl<|cN<|cb aa (fun bU=> ?_) fun bU=> ?_
 have aG:dJ r x.1=none:=by simpa using bU
 have aK:gd F xs k ((aW F (flagsOf xs (k:Int)) 2).getD i 0)= []:=by unfold gd; rw [cA,bv,aG]
 rw [aK,ei] at aL
 exact ext<|bf<|be<|aS<|rg aa<|au (ak i)<|p (bF ((i+1:Nat):Int) aa aa<|bl ab ab)<|p aE<|nl<|tn<|⟨_,ab,i+1,ah,ab,(by rw [aL]; exact a1),co,b1,a5,aa,aa,aa,aa,aa,aa,aa,aa⟩
 obtain ⟨wd,aG⟩:∃ v,dJ r x.1=some v:=ph.1<|by simpa using bU
 have aN:((dJ r x.1).getD [])=wd:=by rw [aG]; rfl
 have aK:gd F xs k ((aW F (flagsOf xs (k:Int)) 2).getD i 0)=eG F xs k wd (((aW F (flagsOf xs (k:Int)) 2).getD i 0):Nat) (-1)++(aW F (db F (((aW F (flagsOf xs (k:Int)) 2).getD i 0):Nat)) 2).flatMap (jj F xs k wd (((aW F (flagsOf xs (k:Int)) 2).getD i 0):Nat)):=by unfold gd; rw [cA,bv,aG]
 have eD:=qj (by unfold jS at bd; omega) aG
 refine aQ<|cM<|ag fun cO=>au (aT tb)<|au (aT xb)<|p mv<|au (ak k)<|au (.slice Z (aW F (flagsOf xs (k:Int)) 2).length ae)<|au (ak i)<|p (bc kf aa aa ab<|aO.ok ((ba a5).2)<|bT ab)<|p (ld bz aa<|aO.gN (i:=i) (ba a5).2<|nk ab)<|p (c8 (ps:= [(1,ak k),(2,.int .i64 (((aW F (flagsOf xs (k:Int)) 2).getD i 0):Nat)),(3,.int .i64 (-1))]) (L:= [.string ⟨⟨[]⟩⟩,ak k,.int .i64 (((aW F (flagsOf xs (k:Int)) 2).getD i 0):Nat),.int .i64 (-1),.int .i64 0]) DH aa<|aa)<|au (.slice Y (aW F (flagsOf xs (k:Int)) 1).length ac)<|e<|cl AY (DV B tb fb V ve F xs S0 xb cH most limit (gR most limit acc<|eG F xs k x.1 (-1) (-1)++((aW F (flagsOf xs (k:Int)) 2).take i).flatMap (gd F xs k)) ah ((dJ r x.1).getD []) [] k ((((aW F (flagsOf xs (k:Int)) 2).getD i 0):Nat):Int) (-1) 0 Y ac w.heap.size cJ dc O a1 bX b1 (.inr ab) (.inl aa)<|by rw [aN]; omega) aa fun eJ ej dd=> ?_
 obtain ⟨rfl,c4,cp,bM⟩:=dd
 rw [aN,← vk] at cp
 have bL:=co.trans bM
 have dz:=rV b1 a1 bM
 have b2:=rV a5 a1 bM
 have c7:=vj al an bL.md
 refine nl<|cO<|ag fun cP=>au (aT tb)<|au (.slice Z (aW F (flagsOf xs (k:Int)) 2).length ae)<|au (ak i)<|p (bc kf aa aa ab<|aO.ok ((ba b2).2)<|bT ab)<|p (ld bz aa<|aO.gN (i:=i) (ba b2).2<|nk ab)<|e<|cl QK (XM B tb fb V ve F xs (((aW F (flagsOf xs (k:Int)) 2).getD i 0):Nat) ej c7 O) aa fun eK eS de=> ?_
 obtain ⟨cw,aX⟩:=de
 obtain ⟨aA,aC,rfl⟩:=cE cw
 have dq:=cp.wk aX
 have dm:=bL.trans<|Tw.wk aX
 have dA:=a6 dz aX
 have dI:=a6 b2 aX
 have dQ:=eE cw (show w.heap.size≤_ from bL.md.size)
 have eA:=rT F (db F (((aW F (flagsOf xs (k:Int)) 2).getD i 0):Nat)) 2
 refine ay<|cP<|ag fun cQ=>ay<|cQ<|aJ<|lp (fun aD U J=> ∃ (j:Nat) (ai:Nat→Prop),(j≤(aW F (db F (((aW F (flagsOf xs (k:Int)) 2).getD i 0):Nat)) 2).length)∧(iz J ai S0 xb cH most limit<|gR most limit acc<|eG F xs k x.1 (-1) (-1)++((aW F (flagsOf xs (k:Int)) 2).take i).flatMap (gd F xs k)++(eG F xs k wd (((aW F (flagsOf xs (k:Int)) 2).getD i 0):Nat) (-1)++((aW F (db F (((aW F (flagsOf xs (k:Int)) 2).getD i 0):Nat)) 2).take j).flatMap (jj F xs k wd (((aW F (flagsOf xs (k:Int)) 2).getD i 0):Nat))))∧(Tw fp w ai J)∧(bw J w.heap.size 3 1 (.slice Y (aW F (flagsOf xs (k:Int)) 1).length ac) (aW F (flagsOf xs (k:Int)) 1).length<|(aW F (flagsOf xs (k:Int)) 1).map bQ)∧(bw J w.heap.size 3 1 (.slice Z (aW F (flagsOf xs (k:Int)) 2).length ae) (aW F (flagsOf xs (k:Int)) 2).length<|(aW F (flagsOf xs (k:Int)) 2).map bQ)∧(bw J w.heap.size 3 1 (.slice aA (aW F (db F (((aW F (flagsOf xs (k:Int)) 2).getD i 0):Nat)) 2).length aC) (aW F (db F (((aW F (flagsOf xs (k:Int)) 2).getD i 0):Nat)) 2).length<|(aW F (db F (((aW F (flagsOf xs (k:Int)) 2).getD i 0):Nat)) 2).map bQ)∧(U 0=aT tb)∧(U 1=ak k)∧(U 2=aT xb)∧(U 6=str x.1)∧(U 7= .slice Y (aW F (flagsOf xs (k:Int)) 1).length ac)∧(U 8= .slice Z (aW F (flagsOf xs (k:Int)) 2).length ae)∧(U 9=ak i)∧(U 10=str ((dJ r x.1).getD []))∧(U 12= .slice aA (aW F (db F (((aW F (flagsOf xs (k:Int)) 2).getD i 0):Nat)) 2).length aC)∧(U 13=ak j)∧((aW F (db F (((aW F (flagsOf xs (k:Int)) 2).getD i 0):Nat)) 2).length - j=aD)) _ ⟨0,c4,ab,(by simpa using dq),dm,dA,dI,dQ,aa,aa,aa,aa,aa,aa,aa,aa,aa,aa,aa⟩ ?_
 rintro aD U J ⟨j,ai,a2,ax,a0,a3,a9,dS,d2,d3,d7,d8,d9,ea,eb,d4,d5,d6,rfl⟩
 refine fx 0 d2<|fx 1 d3<|fx 2 d7<|fx 6 d8<|fx 7 d9<|fx 8 ea<|fx 9 eb<|fx 10 d4<|fx 12 d5<|fx 13 d6<|aB fun cR=>aB fun bo=> ?_
 obtain ⟨c0,c1,c3,br,bs,bt⟩:=ax.aR
 have q:(fun w'=>Wk J w') J.drew:=(Md.refl _ _).drew
 refine bN (fun w'=>Wk J w') aa wide q<|bI 0 aa (ak j) q<|aH 1 aa (fun _ _=>aV (.slice aA (aW F (db F (((aW F (flagsOf xs (k:Int)) 2).getD i 0):Nat)) 2).length aC) aa) q<|aH 2 aa (fun _ _=>bJ nu aa aa) q<|aH 3 aa (fun _ _=>lt aa aa) q<|aH 4 aa (fun _ _=>mv) q<|iK (t:=117) aa (fun dx=> ?_) fun dx=> ?_
 refine bm 5 aa (fun _ _=>aV (aT xb) aa) q<|bm 6 aa (fun _ _=>nc aa) q<|bm 7 aa (fun _ _=>fa td aa) q<|bm 8 aa (fun w' C=>ld bz aa<|Wk.aR C<|bs) q<|bm 9 aa (fun _ _=>aV (aT xb) aa) q<|bm 10 aa (fun _ _=>nc aa) q<|bm 11 aa (fun _ _=>fa ya aa) q<|bm 12 aa (fun w' C=>ld bz aa<|Wk.aR C<|c3) q<|bm 13 aa (fun _ _=>lt aa aa) q<|aH 14 aa (fun _ _=>bC aa) q<|aH 15 aa (fun _ _=>mv) q<|iK (t:=128) aa (fun cG=> ?_) fun cG=> ?_
 refine bm 16 aa (fun _ _=>aV (aT xb) aa) q<|bm 17 aa (fun _ _=>nc aa) q<|bm 18 aa (fun _ _=>fa tg aa) q<|bm 19 aa (fun w' C=>ld bz aa<|Wk.aR C<|bt) q<|bm 20 aa (fun _ _=>aV (aT xb) aa) q<|bm 21 aa (fun _ _=>nc aa) q<|bm 22 aa (fun _ _=>fa yb aa) q<|bm 23 aa (fun w' C=>ld bz aa<|Wk.aR C<|br) q<|bm 24 aa (fun _ _=>le aa aa) q<|aH 25 aa (fun _ _=>bC aa) q<|hn aj<|bo<|cd aa (fun cu=> ?_) fun cu=> ?_
 have dr:=ax.wk q
 have cj:=a0.trans<|Tw.wk q
 have bD:=vj al an cj.md
 have dB:=a6 a3 q
 have dK:=a6 a9 q
 have b4:=a6 dS q
 have eh:=rQ.1<|dY (d:=0) (show j < (aW F (db F (((aW F (flagsOf xs (k:Int)) 2).getD i 0):Nat)) 2).length by omega)
 obtain ⟨ao,b6⟩:∃ r,F.rules[((aW F (db F (((aW F (flagsOf xs (k:Int)) 2).getD i 0):Nat)) 2).getD j 0)]? =some r:=⟨_,cI eh.1⟩
 have cB:F.rules.getD ((aW F (db F (((aW F (flagsOf xs (k:Int)) 2).getD i 0):Nat)) 2).getD j 0) e6=ao:=by rw [da,b6]; rfl
 have bi:=uS (g:=jj F xs k wd (((aW F (flagsOf xs (k:Int)) 2).getD i 0):Nat)) 0 (show j < (aW F (db F (((aW F (flagsOf xs (k:Int)) 2).getD i 0):Nat)) 2).length by omega)
 have bg:=(O.iN b6).2.2
 obtain ⟨ep,es,eW,eX,ef,cg,cz,ey⟩:=bD.iN b6
 refine aQ<|cR<|aB fun b8=>aJ<|aB fun cS=> ?_
 have G:(fun w'=>Wk J.drew w') J.drew.drew:=(Md.refl _ _).drew
 refine bN (fun w'=>Wk J.drew w') aa wide G<|bI 0 aa (aT tb) G<|aH 1 aa (fun _ _=>nc aa) G<|aH 2 aa (fun _ _=>fa ng aa) G<|aH 3 aa (fun w' C=>ld ib aa<|Wk.aR C<|(a7 bD.cells).trans aa) G<|aH 4 aa (fun _ _=>nc aa) G<|aH 5 aa (fun _ _=>fa jN aa) G<|aH 6 aa (fun w' C=>ld ka aa<|Wk.aR C<|ef) G<|aH 7 aa (fun _ _=>aV (.slice aA (aW F (db F (((aW F (flagsOf xs (k:Int)) 2).getD i 0):Nat)) 2).length aC) aa) G<|bI 8 aa (ak j) G<|aH 9 aa (fun _ _=>bc kf aa aa ab<|aO.ok ((ba b4).2.wk G)<|bT ab) G<|aH 10 aa (fun w' C=>ld bz aa<|Wk.aR C<|aO.gN (i:=j) (ba b4).2<|nk ab) G<|aH 11 aa (fun _ _=>bc nR aa aa ab<|aO.ok (cg.wk G)<|nW cz) G<|aH 12 aa (fun w' C=>di rq aa (aa) fun j a2=>fA (f:=jx) (m:=8) (fun _=>rfl) (cg.wk C) cz j a2) G<|bI 13 aa (str<|(dJ r x.1).getD []) G<|he 14 aa aj<|cl AZ (Df ao _ ((dJ r x.1).getD []) J.drew.drew (by unfold jS at bg; omega) (by unfold jS at bg; omega) (by unfold jS at bg; omega)<|by rw [aN]; omega) aa fun eL aP df=> ?_
 obtain ⟨rfl,ch⟩:=df
 have ap:=G.trans ch
 have bP:=dr.wk ap
 have ck:=cj.trans<|Tw.wk ap
 have c9:=bD.wk ap
 have b0:=a6 dB ap
 have a4:=a6 dK ap
 have bb:=a6 b4 ap
 have aq:(fun w'=>Wk J.drew w') aP:=G.trans ch
 refine ⟨aq,?_⟩
 refine aH 15 aa (fun _ _=>mv) aq<|aH 16 aa (fun _ _=>xt aa aa) aq<|aH 17 aa (fun _ _=>xt aa aa) aq<|aH 18 aa (fun _ _=>aE) aq<|aH 19 aa (fun _ _=>aE) aq<|hn aj<|cS<|aB fun cT=>rg aa<|p mv<|nl<|cT<|cb aa (fun bS=> ?_) fun bS=> ?_
 obtain ⟨v2,cC⟩:∃ v,dJ ao ((dJ r x.1).getD [])=some v:=ph.1 bS
 have cD:(dJ ao<|(dJ r x.1).getD []).getD []=v2:=by rw [cC]; rfl
 have bj:dJ ao wd=some v2:=by rw [← aN]; exact cC
 have b7:jj F xs k wd (((aW F (flagsOf xs (k:Int)) 2).getD i 0):Nat) ((aW F (db F (((aW F (flagsOf xs (k:Int)) 2).getD i 0):Nat)) 2).getD j 0)=eG F xs k v2 (((aW F (flagsOf xs (k:Int)) 2).getD i 0):Nat) (((aW F (db F (((aW F (flagsOf xs (k:Int)) 2).getD i 0):Nat)) 2).getD j 0):Nat):=by unfold jj; rw [cB,bj]
 have eC:=qj (by unfold jS at bg; omega) bj
 rw [b7] at bi
 have E:(fun w'=>Wk aP w') aP.drew:=(Md.refl _ _).drew
 refine eR (fun w'=>Wk aP w') 14 aa wide E<|bE 0 aa (aT tb) E<|bE 1 aa (aT xb) E<|bB 2 aa (fun _=>mv) (fun _=>E)<|bE 3 aa (ak k) E<|bE 4 aa (.slice Z (aW F (flagsOf xs (k:Int)) 2).length ae) E<|bE 5 aa (ak i) E<|bB 6 aa (fun _=>bc kf aa aa ab<|aO.ok ((ba a4).2.wk E)<|bT ab) (fun _=>E)<|dP 7 aa (fun w' C=>ld bz aa<|Wk.aR C<|aO.gN (i:=i) (ba a4).2<|nk ab) E<|bB 8 aa (fun _=>aV (.slice aA (aW F (db F (((aW F (flagsOf xs (k:Int)) 2).getD i 0):Nat)) 2).length aC) aa) (fun _=>E)<|bE 9 aa (ak j) E<|bB 10 aa (fun _=>bc kf aa aa ab<|aO.ok ((ba bb).2.wk E)<|bT ab) (fun _=>E)<|dP 11 aa (fun w' C=>ld bz aa<|Wk.aR C<|aO.gN (i:=j) (ba bb).2<|nk ab) E<|bB 12 aa (fun _=>c8 (ps:= [(1,ak k),(2,.int .i64 (((aW F (flagsOf xs (k:Int)) 2).getD i 0):Nat)),(3,.int .i64 (((aW F (db F (((aW F (flagsOf xs (k:Int)) 2).getD i 0):Nat)) 2).getD j 0):Nat))]) (L:= [.string ⟨⟨[]⟩⟩,ak k,.int .i64 (((aW F (flagsOf xs (k:Int)) 2).getD i 0):Nat),.int .i64 (((aW F (db F (((aW F (flagsOf xs (k:Int)) 2).getD i 0):Nat)) 2).getD j 0):Nat),.int .i64 0]) DH aa<|aa) (fun _=>E)<|bE 13 aa (.slice Y (aW F (flagsOf xs (k:Int)) 1).length ac) E<|dO 14 aa aj aj<|cl AY (DV B tb fb V ve F xs S0 xb cH most limit (gR most limit acc<|eG F xs k x.1 (-1) (-1)++((aW F (flagsOf xs (k:Int)) 2).take i).flatMap (gd F xs k)++(eG F xs k wd (((aW F (flagsOf xs (k:Int)) 2).getD i 0):Nat) (-1)++((aW F (db F (((aW F (flagsOf xs (k:Int)) 2).getD i 0):Nat)) 2).take j).flatMap (jj F xs k wd (((aW F (flagsOf xs (k:Int)) 2).getD i 0):Nat)))) ai ((dJ ao<|(dJ r x.1).getD []).getD []) [] k ((((aW F (flagsOf xs (k:Int)) 2).getD i 0):Nat):Int) ((((aW F (db F (((aW F (flagsOf xs (k:Int)) 2).getD i 0):Nat)) 2).getD j 0):Nat):Int) 0 Y ac w.heap.size aP.drew (c9.wk E) O (bP.wk E) bX (a6 b0 E) (.inr ab) (.inr ab)<|by rw [cD]; omega) aa fun eM eT dg=> ?_
 obtain ⟨rfl,c5,cq,aY⟩:=dg
 rw [cD,← vk] at cq
 have bR:=bP.wk E
 have dn:=(ck.trans<|Tw.wk E).trans aY
 have dC:=rV (a6 b0 E) bR aY
 have dL:=rV (a6 a4 E) bR aY
 have dR:=rV (a6 bb E) bR aY
 exact eQ aj<|bn<|b8<|rg aa<|au (ak j)<|p (bF ((j+1:Nat):Int) aa aa<|bl ab ab)<|p aE<|nl<|tn<|⟨_,ab,j+1,c5,ab,(by rw [bi,← dH (eG F xs k wd (((aW F (flagsOf xs (k:Int)) 2).getD i 0):Nat)<|-1),← dH]; exact cq),dn,dC,dL,dR,aa,aa,aa,aa,aa,aa,aa,aa,aa,aa,aa⟩
 have bj:dJ ao wd=none:=by rw [← aN]; simpa using bS
 have b7:jj F xs k wd (((aW F (flagsOf xs (k:Int)) 2).getD i 0):Nat) ((aW F (db F (((aW F (flagsOf xs (k:Int)) 2).getD i 0):Nat)) 2).getD j 0)= []:=by unfold jj; rw [cB,bj]
 rw [b7,ei] at bi
 exact aQ<|bn<|b8<|rg aa<|au (ak j)<|p (bF ((j+1:Nat):Int) aa aa<|bl ab ab)<|p aE<|nl<|tn<|⟨_,ab,j+1,ai,ab,(by rw [bi]; exact bP),ck,b0,a4,bb,aa,aa,aa,aa,aa,aa,aa,aa,aa,aa,aa⟩
 exact ext<|bf<|bf<|be<|bn<|aS<|rg aa<|au (ak i)<|p (bF ((i+1:Nat):Int) aa aa<|bl ab ab)<|p aE<|nl<|tn<|⟨_,ab,i+1,ai,ab,(by rw [aL,aK,← dH (eG F xs k x.1 (-1)<|-1)]; rw [Jk (Cc cu)]; exact ax.wk q),(a0.trans<|Tw.wk q),(a6 a3 q),(a6 a9 q),aa,aa,aa,aa,aa,aa,aa,aa⟩
 exact a8 16 aa q<|a8 17 aa q<|a8 18 aa q<|a8 19 aa q<|a8 20 aa q<|a8 21 aa q<|a8 22 aa q<|a8 23 aa q<|a8 24 aa q<|aH 25 aa (fun _ _=>bu aa) q<|hn aj<|bo<|cf aa<|ext<|bf<|bf<|be<|bn<|aS<|rg aa<|au (ak i)<|p (bF ((i+1:Nat):Int) aa aa<|bl ab ab)<|p aE<|nl<|tn<|⟨_,ab,i+1,ai,ab,(by rw [aL,aK,← dH (eG F xs k x.1 (-1)<|-1)]; rw [Jk (Cd cG)]; exact ax.wk q),(a0.trans<|Tw.wk q),(a6 a3 q),(a6 a9 q),aa,aa,aa,aa,aa,aa,aa,aa⟩
 refine a8 5 aa q<|a8 6 aa q<|a8 7 aa q<|a8 8 aa q<|a8 9 aa q<|a8 10 aa q<|a8 11 aa q<|a8 12 aa q<|a8 13 aa q<|aH 14 aa (fun _ _=>bu aa) q<|aH 15 aa (fun _ _=>mv) q<|a8 16 aa q<|a8 17 aa q<|a8 18 aa q<|a8 19 aa q<|a8 20 aa q<|a8 21 aa q<|a8 22 aa q ?_
 exact a8 23 aa q<|a8 24 aa q<|aH 25 aa (fun _ _=>bu aa) q<|hn aj<|bo<|cf aa<|ext<|bf<|bf<|be<|bn<|aS<|rg aa<|au (ak i)<|p (bF ((i+1:Nat):Int) aa aa<|bl ab ab)<|p aE<|nl<|tn<|⟨_,ab,i+1,ai,ab,(by rw [aL,aK,← dH (eG F xs k x.1 (-1)<|-1)]; rw [eU (show (aW F (db F (((aW F (flagsOf xs (k:Int)) 2).getD i 0):Nat)) 2).length≤j by omega)] at ax; exact ax.wk q),(a0.trans<|Tw.wk q),(a6 a3 q),(a6 a9 q),aa,aa,aa,aa,aa,aa,aa,aa⟩
 exact ext<|bf<|bf<|be<|f0 aa<|⟨aa,ah,by rw [bK,bW,Cz (Cc cs)]; exact av.wk A,aZ.trans<|Tw.wk A⟩
 refine a8 16 aa A<|a8 17 aa A<|a8 18 aa A<|a8 19 aa A<|a8 20 aa A<|a8 21 aa A<|a8 22 aa A<|a8 23 aa A<|a8 24 aa A<|aH 25 aa (fun _ _=>bu aa) A<|hn aj<|bq<|cf aa<|ext<|bf<|bf<|be<|f0 aa ?_
 exact ⟨aa,ah,by rw [bK,bW,Cz (Cd cF)]; exact av.wk A,aZ.trans<|Tw.wk A⟩
 refine a8 5 aa A<|a8 6 aa A<|a8 7 aa A<|a8 8 aa A<|a8 9 aa A<|a8 10 aa A<|a8 11 aa A<|a8 12 aa A<|a8 13 aa A<|aH 14 aa (fun _ _=>bu aa) A<|aH 15 aa (fun _ _=>mv) A<|a8 16 aa A<|a8 17 aa A<|a8 18 aa A<|a8 19 aa A<|a8 20 aa A<|a8 21 aa A<|a8 22 aa A ?_
 refine a8 23 aa A<|a8 24 aa A<|aH 25 aa (fun _ _=>bu aa) A<|hn aj<|bq<|cf aa<|ext<|bf<|bf<|be<|f0 aa ?_
 rw [eU ab] at av
 exact ⟨aa,ah,by rw [bK,bW]; exact av.wk A,aZ.trans<|Tw.wk A⟩
theorem XB (B tb fb:Nat) (V:eu) (ve:Value) (F:aU) (xs:List bH) (n most:Int) (w:World) (Y:gn w B tb fb V ve F xs) (A:eN F xs) (E:most≤2000):
 bp aw 15 (bh [aT tb,.int .i64 n,.int .i64 most]) w (fun v w'=>bw w' w.heap.size 43 5 v (jY (gz F xs n) most).length (jm<|jY (gz F xs n) most)∧Wk w w'):=by
 refine enter func15 aa ntmps15 aa<|ag fun I=>ay<|I<|ag fun J=>au (.int .i64 most)<|p (c8 (ps:= [(0,.bool true),(3,.int .i64 most),(4,.int .i64 1152921504606846976)]) (L:= [.bool true,.bool false,.string ⟨⟨[]⟩⟩,.int .i64 most,.int .i64 1152921504606846976,.int .i64 0,.int .i64 0,.slice none 0 0]) Yv aa<|aa)<|e<|oE aa fun a G ak C U=> ?_
 have ae:iz G (fun q=>q=a) w.heap.size a true most 1152921504606846976 []:=⟨ab,⟨.slice none 0 0,U,by rw [if_pos rfl]; exact dC _ _ _ _,fun q=>by simp [iW]⟩,sH.Bd.nil⟩
 refine ay<|J<|ag fun M=>au (aT tb)<|au (.int .i64 n)<|p mv<|e<|cl Qq (Zv B tb fb V ve F xs w.heap.size a true most 1152921504606846976 [] (fun q=>q=a) n G (Y.wk C.md) A ae<|.inl E) aa fun an ao Z=> ?_
 obtain ⟨rfl,aj,ah,ac⟩:=Z
 obtain ⟨v,ai,i,al⟩:=ah.ex
 rw [if_pos rfl] at i
 refine nl<|M<|ag fun O=>p mv<|p (nc aa)<|p (fa BR aa)<|p (ld oC aa<|(a7 ai).trans aa)<|ay<|O<|rt<|aX aa ?_
 rw [Vv A E] at i
 exact ⟨i,C.md.trans' ac.md fun q am h=>by omega⟩
end Go.Hb
end
section
namespace Go.Hb
open Go.Hb.sF Go.Hb.sH
theorem S5 (a s1:Tx) (a0 q C d0 i A E d1:Int) (w:World):(binOp .eql 41 (.agg [str a,.int .i64 a0,.int .i64 q,.int .i64 C,.int .i64 d0].toArray)<|.agg [str s1,.int .i64 i,.int .i64 A,.int .i64 E,.int .i64 d1].toArray).run aw w= .ok (.bool<|decide (a=s1∧a0=i∧q=A∧C=E∧d0=d1)) w:=by
 have I:=underlying9
 have J:=underlying3
 have G:aw.underlying 41=some (.struct<|aw.fieldsOf 41):=aj
 have hp:aw.stoodInHeld 41=false :=aj
 rw [run_eql_struct,show (10000:Nat)=9999 +1 from rfl,run_equalIn_agg w 9999 41 _ _ G hp]
 simp only [Program.fieldsOf,underlying41]
 have hs:(str a=str s1)=(a=s1):=by unfold str; simp
 unfold str at*
 go_simp
 by_cases h1:a=s1 <;> by_cases h2:a0=i <;> by_cases h3:q=A <;> by_cases h4:C=E <;> by_cases h5:d0=d1 <;> simp [h1,h2,h3,h4,h5]
section
variable {N:Fm} {σ:Nat→Value} {w:World} {dst:Option Nat} {ty:TypeId} {pos :String} {af:Array Edge} {g:Option (Nat×Bool)} {x y:Operand}
theorem S4 {M:TypeId} {E s1:Tx} {a0 i A d0 a q C d1:Int} (I:ev N σ x= .agg [str E,.int .i64 a0,.int .i64 i,.int .i64 A,.int .i64 d0].toArray) (J:ev N σ y= .agg [str s1,.int .i64 a,.int .i64 q,.int .i64 C,.int .i64 d1].toArray):
 (execOp (ev N σ) ⟨dst,.binOp .eql 41 x y M,ty,pos,af,g⟩).run aw w= .ok (.value<|.bool<|decide (E=s1∧a0=a∧i=q∧A=C∧d0=d1)) w:=by
 have hm:aw.eqGuardType aw.depth 41=false :=aj
 have G:=run_eqGuard_agg w .eql 41 x y [str E,.int .i64 a0,.int .i64 i,.int .i64 A,.int .i64 d0].toArray [str s1,.int .i64 a,.int .i64 q,.int .i64 C,.int .i64 d1].toArray hm
 have he:=S5 E s1 a0 i A d0 a q C d1 w
 simp only [execOp,I,J,Sem.run_bind,G,he,Result.andThen_ok,Sem.run_pure]
end
theorem xQ {l:List bZ} (h:0 < l.length):jm l≠[]:=BL (f:=eC) (m:=5) (fun _=>rfl) az h
theorem Zu:lC tR zp=some (jZ,nw):=DL Zo Zq
theorem Zr:jY (gz jZ nw 0) 9=vY:=by
 have h:=rG (F:=jZ) (xs:=nw) (k:=0) az
 rw [show ((0:Nat):Int)=0 from rfl] at h
 rw [h,Zp]; rfl
theorem pS {w:World} {B e:Nat} {a:Option Addr} {L:List bZ} {c:Nat} (h:bw w B e 5 (.slice a L.length c) L.length (jm L)):aO w.heap a (jm L):=(ba h).2
theorem Mm (w:World):
 bp aw 12 (bh []) w (fun v w'=>v= .bool true∧Wk w w'):=by
 refine enter func12 aa ntmps12 aa<|ag fun I=>ay<|I<|ag fun J=>e<|cl FY (LU tR zp w az az) aa fun v5 ak ae=> ?_
 obtain ⟨⟨pp,aA,aB,aC,rfl,G⟩,hE5⟩:=ae
 rw [Zu] at G
 obtain ⟨B,tb,U,ap,rfl,ai,Y⟩:=G
 refine p mv<|p (xt aa aa)<|p (xt aa aa)<|e<|al p7 fun am aD aq A V=> ?_
 have ax:=A.size
 refine p aE<|e<|dj jV aa aa aa aa (V) (by simp) fun C E ao=> ?_
 have Z:Wk w C:=(hE5.trans A.md).trans' E fun q aj h=>by have :=hE5.size; omega
 have ab:Wk ak C:=A.md.trans' E fun q aj h=>by omega
 refine nl<|J<|ag fun M=>p mv<|e<|cl Pg (VO B tb U jZ nw 0 9 C (ai.wk ab) Y az) aa fun v9 aF ah=> ?_
 obtain ⟨a,ac⟩:=ah
 rw [Zr] at a
 obtain ⟨a9,an,rfl⟩:=cE a
 refine ay<|M<|ag fun O=>p mv<|p (bJ L7 aa aa)<|p (bK aa aa)<|p mv<|gs (t:=13) aa (fun ar=> ?_) fun h=>absurd aa h
 refine aM aa mv<|aM aa (bc Bv aa aa az<|aO.ok (pS a)<|xQ az)<|aM aa (fa yh aa)<|aM aa (ld bV aa<|fA (f:=eC) (m:=5) (i:=0) (fun _=>rfl) (pS a) (show vY[0]? =some ⟨[100,111],0,-1,-1,-1⟩ from aa) 0 az)<|aM aa (dZ aa aa)<|p (bC aa)<|p mv<|gs (t:=20) aa (fun au=> ?_) fun h=>absurd aa h
 refine aM aa mv<|aM aa (bc Bv aa aa az<|aO.ok (pS a)<|xQ az)<|aM aa (fa yh aa)<|aM aa (ld bV aa<|fA (f:=eC) (m:=5) (i:=1) (fun _=>rfl) (pS a) (show vY[1]? =some ⟨[100,111,115],0,0,-1,-1⟩ from aa) 0 az)<|aM aa (dZ aa aa)<|p (bC aa)<|p mv<|gs (t:=27) aa (fun av=> ?_) fun h=>absurd aa h
 exact aM aa mv<|aM aa (bc Bv aa aa az<|aO.ok (pS a)<|xQ az)<|aM aa (di rv aa (aa)<|fA (f:=eC) (m:=5) (i:=2) (fun _=>rfl) (pS a) (show vY[2]? =some ⟨[100,111,101,114],0,1,-1,-1⟩ from aa))<|aM aa (c8 (ps:= [(0,str [100,111,101,114]),(2,.int .i64 1),(3,.int .i64 (-1)),(4,.int .i64 (-1))]) (L:= [str [100,111,101,114],.int .i64 0,.int .i64 1,.int .i64 (-1),.int .i64 (-1)]) LC aa<|aa)<|aM aa (S4 aa aa)<|p (bC aa)<|p aE<|nl<|O<|rt<|aX aa<|⟨congrArg bU (decide_eq_true ⟨aa,aa,aa,aa,aa⟩),Z.trans ac⟩
theorem VM (d:bZ) (w:World):
 bp aw 17 (bh [.agg (eC d).toArray,.agg (eC d).toArray]) w (fun v w'=>v= .bool true∧Wk w w'):=by
 refine enter func17 aa ntmps17 aa<|ag fun C=>e<|iZ aa fun G U A O J=> ?_
 have A:bP U.heap G (eC d):=J
 refine e<|iZ aa fun I V a q M=> ?_
 have a:bP V.heap I (eC d):=M
 have i:=Wk.B q.md A
 refine ay<|C<|ag fun E=>p (fa yh aa)<|p (ld bV aa<|i.bG 0)<|p (fa yi aa)<|p (ld bV aa<|a.bG 0)<|p (dZ aa aa)<|p mv<|gs (t:=10) aa (fun Y=> ?_) fun h=>absurd aa h
 refine aM aa (fa Im aa)<|aM aa (ld bz aa<|i.bG 1)<|aM aa (fa Io aa)<|aM aa (ld bz aa<|a.bG 1)<|aM aa (bK aa aa)<|p (bC aa)<|p mv<|gs (t:=17) aa (fun Z=> ?_) fun h=>absurd aa h
 refine aM aa (fa rI aa)<|aM aa (ld bz aa<|i.bG 2)<|aM aa (fa yj aa)<|aM aa (ld bz aa<|a.bG 2)<|aM aa (bK aa aa)<|p (bC aa)<|p mv<|gs (t:=24) aa (fun ab=> ?_) fun h=>absurd aa h
 refine aM aa (fa qz aa)<|aM aa (ld bz aa<|i.bG 3)<|aM aa (fa ym aa)<|aM aa (ld bz aa<|a.bG 3)<|aM aa (bK aa aa)<|p (bC aa)<|p mv<|gs (t:=31) aa (fun ac=> ?_) fun h=>absurd aa h
 exact aM aa (fa rJ aa)<|aM aa (ld bz aa<|i.bG 4)<|aM aa (fa rK aa)<|aM aa (ld bz aa<|a.bG 4)<|aM aa (bK aa aa)<|p (bC aa)<|p aE<|nl<|E<|rt<|aX aa<|⟨congrArg bU (decide_eq_true aa),O.md.trans q.md⟩
theorem KL (a t:Tx) (w:World) (Y:a.length≤1048576) (Z:t.length≤1048576):
 bp aw 11 (bh [str a,str t]) w (fun v w'=>(match lC a t with | none=>v= .tuple #[.pointer none,.pointer none,.bool true] | some T=> ∃ B tb G E C fb V ve,v= .tuple #[aT tb,aT C,.bool true]∧fW w' B tb G T.1 T.2∧eN T.1 T.2∧gn w' E C fb V ve T.1 T.2)∧Wk w w'):=by
 refine enter func11 aa ntmps11 aa<|ag fun ac=>p aE<|p aE<|ay<|ac<|aB fun ae=>rg aa<|au (str a)<|au (str t)<|e<|cl FY (LU a t w Y Z) aa fun aY ax ap=> ?_
 obtain ⟨⟨aP,aR,aS,aU,rfl,i⟩,hE14⟩:=ap
 have aM:=hE14.size
 refine p mv<|p (xt aa aa)<|p (xt aa aa)<|e<|al p7 fun aD a0 aJ U am=> ?_
 have aO:=U.size
 refine p aE<|e<|dj jV aa aa aa aa (am) (by simp) fun ab M aF=> ?_
 have J:Wk ax ab:=U.md.trans' M fun q av h=>by omega
 have aK:=M.size
 refine nl<|ae<|ag fun ah=>au (str a)<|au (str t)<|e<|cl Qp (XO a t ab Y Z) aa fun v20 az aq=> ?_
 obtain ⟨⟨aQ,aV,aW,aX,rfl,A⟩,hE20⟩:=aq
 have aN:=hE20.size
 refine p mv<|p (xt aa aa)<|p (xt aa aa)<|e<|al MC fun aC aZ aI O ak=> ?_
 have aL:=O.size
 refine p aE<|e<|dj xI aa aa aa aa (ak) (by simp) fun aA ao aG=> ?_
 have I:Wk az aA:=O.md.trans' ao fun q av h=>by omega
 refine nl<|ah<|ag fun ai=>p mv<|p mv<|p mv<|p (lN tN aa aa)<|p mv<|p (lN DP aa aa)<|p (Hv u4 aa aa)<|p aE<|p aE<|ay<|ai<|rt<|f3 aa aa aa aa ?_
 refine ⟨?_,hE14.trans<|J.trans<|hE20.trans I⟩
 cases hx:lC a t with
 | none=>rw [hx] at i A; subst i A; rfl
 | some T=>
   rw [hx] at i A
   obtain ⟨B,tb,G,aH,rfl,ar,aj⟩:=i
   obtain ⟨E,C,fb,V,ve,rfl,an⟩:=A
   exact ⟨B,tb,G,E,C,fb,V,ve,aa,ar.wk (J.trans<|hE20.trans I),aj,an.wk I⟩
end Go.Hb
end
section
namespace Go.Hb
open Go.Hb.sF Go.Hb.sH
theorem YR {L:List bZ} {most:Int} (h:most≤400):(jY L most).length≤400:=by
 unfold jY
 split
 · simp
 · rw [dQ]; omega
end Go.Hb
end
