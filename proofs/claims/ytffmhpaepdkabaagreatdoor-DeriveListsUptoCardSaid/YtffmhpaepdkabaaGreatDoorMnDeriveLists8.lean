/-
  Walks and plain laws that the law rests on, laid together. No conditions but those that each theorem names.
-/
import Derived.Test.YtffmhpaepdkabaaGreatDoorMnDeriveLists7
set_option linter.unusedVariables false
open Array renaming getElem?_eq_some_iff→dm
open Bool renaming and_eq_true→gO,and_false→wi,and_true→D9,noConfusion→eb
open Classical renaming not_not→jn
open Go.Calls renaming mono→lO
open Go.Proofs.Tryz renaming prog→ay
open Go.Value renaming bool→bQ,ownBlock→iH,slice→bO
open Go.World renaming ownsRow→bo,ownsRow_nil→du
open Int renaming toNat_natCast→mS
open List renaming append_assoc→dC,append_nil→ed,filterMap_append→zV,flatMap_append→ny,flatMap_singleton→o0,getD_eq_getElem?_getD→cQ,getElem?_eq_getElem→cz,getElem?_eq_some_iff→fJ,getElem?_zip_eq_some→jx,length_append→bI,length_nil→fP,length_singleton→eW,mem_of_getElem?→iJ,nil_append→p9,prefix_append→xc,prefix_refl→EH,take_append_drop→xe,take_of_length_le→eI,toArray→ba
open Nat renaming le_refl→cj,lt_or_ge→e8,lt_succ_iff_lt_or_eq→NX,not_lt_zero→NY,zero_le→jD
open Option renaming isSome_iff_exists→o8
open Go.Proofs.Tryz
section
set_option maxRecDepth 20000
set_option maxHeartbeats 1000000
namespace Go.Hb.qg
open Go.Hb.dT
open Go.Proofs
open Go.Hb.fq Go.Hb.fQ Go.Hb.gn Go.Hb.jF Go.Hb.iK Go.Hb.kH Go.Hb.iM Go.Hb.j4 Go.Hb.kK Go.Hb.k0 Go.Hb.lA Go.Hb.lR Go.Hb.mj Go.Hb.ml Go.Hb.jP Go.Hb.lC Go.Hb.mV Go.Hb.nE Go.Hb.ox
theorem ni {l:List Nat} {i:Nat} (h:i < l.length):(l.map bM)[i]? =some (bM<|l.getD i 0):=by rw [List.getElem?_map,cQ,cz h]; rfl
theorem Dk (B tb fb:Nat) (V:eh) (ve:Value) (F:aR) (xs:List bD) (n:Int) (w:World) (C:fX w B tb fb V ve F xs) (O:eR F xs):
 bh ay 99 (ba [aQ tb,.int .i64 n]) w (fun v w'=>(∃ a c,v= .slice a (flagsOf xs n).length c∧Tg w' 0 3 (flagsOf xs n).length v ((flagsOf xs n).map bM))∧Wk w w'):=by
 obtain ⟨ag,ce,ac⟩:=C.DR
 have an:=O.xl
 refine enter func99 aa ntmps99 aa<|aj fun _ I=>aw<|I _ _<|sq fun _ J=>aj fun _ q=>p mv<|p (lt aa aa)<|p mv<|gs (t:=7) aa (fun Z=> ?_) fun Z=> ?_
 refine sk aa aa aa aa<|sk aa aa aa aa<|sk aa aa aa aa<|sk aa aa aa aa<|sk aa aa aa aa<|sk aa aa aa aa<|sk aa aa aa aa<|p (bw aa)<|aE<|q _ _<|ct aa<|aj fun _ i=>aw<|i _ _<|rt<|tr<|f1 aa aa ?_
 have j:=(sT (xs:=xs) (n:=n) ab).2
 rw [j]
 exact ⟨⟨none,0,aa,r6 _ _ _⟩,Md.refl _ _⟩
 refine pg aa aa aa mv<|pg aa aa aa mv<|pg aa aa aa (nc aa)<|pg aa aa aa (fa vj aa)<|pg aa aa aa (ld uD aa<|ac)<|pg aa aa aa (bF zq aa aa)<|pg aa aa aa (ge aa aa)<|p (bm aa)<|aE<|q _ _<|cd aa (fun Y=> ?_) fun Y=> ?_
 refine aj fun _ i=>aw<|i _ _<|rt<|tr<|f1 aa aa ?_
 have j:=(sT (xs:=xs) (n:=n) ab).2
 rw [j]
 exact ⟨⟨none,0,aa,r6 _ _ _⟩,Md.refl _ _⟩
 obtain ⟨k,rfl⟩:∃ k:Nat,n=(k:Int):=⟨n.toNat,ab⟩
 obtain ⟨x,G⟩:∃ x,xs[k]? =some x:=⟨_,cz ab⟩
 obtain ⟨ah,ai,ws,a,c,ae,A,E,U⟩:=C.s9 G
 obtain ⟨ak,M,al,am⟩:=sS G
 refine aM<|tn<|J _ _<|aj fun _ i=>p mv<|p (nc aa)<|p (fa vj aa)<|p (ld uD aa<|ae)<|p mv<|p (a7 HE aa aa ab<|aI.ok (A)<|uT E)<|p (fa Tv aa)<|p (ld pC aa<|e9 (f:=pI) (m:=2) (fun _=>rfl) A E 1 az)<|aw<|i _ _<|rt<|f1 aa aa ?_
 rw [M]
 exact ⟨⟨a,c,aa,U⟩,Md.refl _ _⟩
theorem Xy (B tb fb:Nat) (V:eh) (ve:Value) (F:aR) (xs:List bD) (n:Int) (w:World) (j:fX w B tb fb V ve F xs) (O:eR F xs):
 bh ay 124 (ba [aQ tb,.int .i64 n]) w (fun v w'=>(∃ a c,v= .slice a (cR F n).length c∧Tg w' 0 3 (cR F n).length v ((cR F n).map bM))∧Wk w w'):=by
 obtain ⟨ag,ce,ac⟩:=j.DS
 have an:=O.len
 refine enter func124 aa ntmps124 aa<|aj fun _ I=>aw<|I _ _<|sq fun _ J=>aj fun _ A=>p mv<|p (lt aa aa)<|p mv<|gs (t:=7) aa (fun Z=> ?_) fun Z=> ?_
 refine sk aa aa aa aa<|sk aa aa aa aa<|sk aa aa aa aa<|sk aa aa aa aa<|sk aa aa aa aa<|sk aa aa aa aa<|sk aa aa aa aa<|sk aa aa aa aa<|sk aa aa aa aa<|sk aa aa aa aa<|p (bw aa)<|aE<|A _ _<|ct aa<|aj fun _ i=>aw<|i _ _<|rt<|tr<|f1 aa aa ?_
 have q:=(vN (F:=F) (n:=n) ab).2
 rw [q]
 exact ⟨⟨none,0,aa,r6 _ _ _⟩,Md.refl _ _⟩
 refine pg aa aa aa mv<|pg aa aa aa mv<|pg aa aa aa (nc aa)<|pg aa aa aa (fa nb aa)<|pg aa aa aa (ld gW aa<|(a6 j.cells).trans aa)<|pg aa aa aa (nc aa)<|pg aa aa aa (fa jL aa)<|pg aa aa aa (ld j6 aa<|ac)<|pg aa aa aa (bF tM aa aa)<|pg aa aa aa (ge aa aa)<|p (bm aa)<|aE<|A _ _<|cd aa (fun Y=> ?_) fun Y=> ?_
 refine aj fun _ i=>aw<|i _ _<|rt<|tr<|f1 aa aa ?_
 have q:=(vN (F:=F) (n:=n) ab).2
 rw [q]
 exact ⟨⟨none,0,aa,r6 _ _ _⟩,Md.refl _ _⟩
 obtain ⟨k,rfl⟩:∃ k:Nat,n=(k:Int):=⟨n.toNat,ab⟩
 obtain ⟨r,G⟩:∃ r,F.rules[k]? =some r:=⟨_,cz ab⟩
 obtain ⟨ah,ai,a,c,ae,C,E,U⟩:=j.iD G
 obtain ⟨ak,M,al,am⟩:=vM G
 refine aM<|tn<|J _ _<|aj fun _ i=>p mv<|p (nc aa)<|p (fa nb aa)<|p (ld gW aa<|(a6 j.cells).trans aa)<|p (nc aa)<|p (fa jL aa)<|p (ld j6 aa<|ae)<|p mv<|p (a7 nN aa aa ab<|aI.ok (C)<|nR E)<|p (fa u6 aa)<|p (ld pC aa<|e9 (f:=jv) (m:=8) (fun _=>rfl) C E 6 az)<|p aB<|aE<|i _ _<|rt<|f1 aa aa ?_
 rw [M]
 exact ⟨⟨a,c,aa,U⟩,Md.refl _ _⟩
theorem Jb (a:Option Addr) (c:Nat) (l:List Nat) (x:Nat) (w:World) (J:aI w.heap a (l.map bM)) (an:l.length≤1048576):
 bh ay 100 (ba [.slice a l.length c,bM x]) w (fun v w'=>v= .bool (decide (x≠0∧x∈l))∧Wk w w'):=by
 refine enter func100 aa ntmps100 aa<|aj fun _ O=>aw<|O _ _<|sq fun _ U=>aj fun _ V=>aw<|V _ _<|aJ<|lp (fun I A M=> ∃ (i:Nat),(i≤l.length)∧(∀ j,j < i→¬(l.getD j 0=x∧x≠0))∧(M=w)∧(A 0= .slice a l.length c)∧(A 1=bM x)∧(A 5=au i)∧(l.length - i=I)) _ ⟨0,ab,(fun j C=>by omega),aa,aa,aa,aa,aa⟩ ?_
 rintro I A M ⟨i,hi,E,ae,ai,al,am,rfl⟩
 refine fx 0 ai<|fx 1 al<|fx 5 am ?_
 subst ae
 refine sq fun _ Y=>aj fun _ Z=>ak (au i)<|ak (.slice a l.length c)<|p (bF nq aa aa)<|p (lt aa aa)<|nl<|tn<|Z _ _<|cd aa (fun ag=> ?_) fun ag=> ?_
 refine aM<|tn<|Y _ _<|sq fun _ q=>aJ<|aj fun _ G=>ak (.slice a l.length c)<|ak (au i)<|p (a7 j9 aa aa ab<|aI.ok (J)<|bP ab)<|p (ld bA aa<|aI.gG (i:=i) J<|ni ab)<|ak (bM x)<|p (bH aa aa)<|p mv<|gs (t:=18) aa (fun heq=> ?_) fun heq=> ?_
 refine pg aa aa aa (aT (bM x) aa)<|pg aa aa aa (cX aa aa)<|p (bw aa)<|aE<|G _ _<|cd aa (fun ah=> ?_) fun ah=> ?_
 exact aj fun _ ac=>aw<|ac _ _<|rt<|br<|tr<|tr<|br<|tr<|f1 aa aa<|⟨by rw [decide_eq_true (show x≠0∧x∈l from ⟨ab,(show l.getD i 0=x by omega) ▸ dQ ab⟩)]; rfl,Md.refl _ _⟩
 exact aM<|bn<|tn<|q _ _<|rg aa<|ak (au i)<|p (bE ((i+1:Nat):Int) aa aa<|bj ab ab)<|p aB<|nl<|tn<|⟨_,ab,i+1,ab,(fun j C=>by rcases e8 j i with h | h <;> first | exact E j h | (rw [show j=i by omega]; omega)),aa,aa,aa,aa,aa⟩
 exact sk aa aa aa aa<|sk aa aa aa aa<|p (bm aa)<|aE<|G _ _<|cf aa<|aM<|bn<|tn<|q _ _<|rg aa<|ak (au i)<|p (bE ((i+1:Nat):Int) aa aa<|bj ab ab)<|aw<|⟨_,ab,i+1,ab,(fun j C=>by rcases e8 j i with h | h <;> first | exact E j h | (rw [show j=i by omega]; omega)),aa,aa,aa,aa,aa⟩
 exact ext<|te _<|te _<|be<|tn<|U _ _<|aj fun _ q=>p aB<|aE<|q _ _<|rt<|f1 aa aa<|⟨by rw [decide_eq_false (show ¬(x≠0∧x∈l) from fun h=>by obtain ⟨j,C,e⟩:=nU 0 h.2; exact E j ab ⟨e,h.1⟩)]; rfl,Md.refl _ _⟩
theorem Xq (B tb fb:Nat) (V:eh) (ve:Value) (F:aR) (xs:List bD) (n:Int) (w:World) (q:fX w B tb fb V ve F xs) (I:eR F xs):
 bh ay 183 (ba [aQ tb,.int .i64 n]) w (fun v w'=>v= .bool (nM F n)∧Wk w w'):=by
 obtain ⟨ao,ce,al⟩:=q.DS
 have aA:=I.len
 refine enter func183 aa ntmps183 aa<|aj fun _ O=>aw<|O _ _<|sq fun _ U=>aj fun _ G=>p mv<|p (lt aa aa)<|p mv<|gs (t:=8) aa (fun ak=> ?_) fun ak=> ?_
 exact sk aa aa aa aa<|sk aa aa aa aa<|sk aa aa aa aa<|sk aa aa aa aa<|sk aa aa aa aa<|sk aa aa aa aa<|sk aa aa aa aa<|sk aa aa aa aa<|sk aa aa aa aa<|sk aa aa aa aa<|p (bw aa)<|aE<|G _ _<|ct aa<|aj fun _ A=>aw<|A _ _<|rt<|tr<|f1 aa aa<|⟨by unfold nM; rw [decide_eq_false (show ¬(0≤n∧n < (F.rules.length:Int)) by omega)]; rfl,Md.refl _ _⟩
 refine pg aa aa aa mv<|pg aa aa aa mv<|pg aa aa aa (nc aa)<|pg aa aa aa (fa nb aa)<|pg aa aa aa (ld gW aa<|(a6 q.cells).trans aa)<|pg aa aa aa (nc aa)<|pg aa aa aa (fa jL aa)<|pg aa aa aa (ld j6 aa<|al)<|pg aa aa aa (bF tM aa aa)<|pg aa aa aa (ge aa aa)<|p (bm aa)<|aE<|G _ _<|cd aa (fun ai=> ?_) fun ai=> ?_
 exact aj fun _ A=>aw<|A _ _<|rt<|tr<|f1 aa aa<|⟨by unfold nM; rw [decide_eq_false (show ¬(0≤n∧n < (F.rules.length:Int)) by omega)]; rfl,Md.refl _ _⟩
 obtain ⟨k,rfl⟩:∃ k:Nat,n=(k:Int):=⟨n.toNat,ab⟩
 obtain ⟨r,E⟩:∃ r,F.rules[k]? =some r:=⟨_,cz ab⟩
 obtain ⟨ap,aq,a,c,am,J,M,ah⟩:=q.iD E
 obtain ⟨ar,Z,au,av⟩:=vM E
 have ax:=(I.iD E).1
 refine aM<|tn<|U _ _<|sq fun _ A=> ?_
 have i:(fun w'=>Wk w w') w.drew:=(Md.refl _ _).drew
 refine bJ (fun w'=>Wk w w') aa wide i<|aH 0 aa (fun _ _=>mv) i<|aH 1 aa (fun _ _=>nc aa) i<|aH 2 aa (fun _ _=>fa nb aa) i<|aH 3 aa (fun w' j=>ld gW aa<|Wk.aO j<|(a6 q.cells).trans aa) i<|aH 4 aa (fun _ _=>nc aa) i<|aH 5 aa (fun _ _=>fa jL aa) i<|aH 6 aa (fun w' j=>ld j6 aa<|Wk.aO j<|am) i<|aH 7 aa (fun _ _=>mv) i<|aH 8 aa (fun _ _=>a7 nN aa aa ab<|aI.ok (J.wk i)<|nR M) i<|aH 9 aa (fun _ _=>fa u6 aa) i<|aH 10 aa (fun w' j=>ld pC aa<|Wk.aO j<|e9 (f:=jv) (m:=8) (fun _=>rfl) J M 6 az) i<|aH 11 aa (fun _ _=>mv) i<|aH 12 aa (fun _ _=>nc aa) i<|aH 13 aa (fun _ _=>fa nb aa) i<|aH 14 aa (fun w' j=>ld gW aa<|Wk.aO j<|(a6 q.cells).trans aa) i<|aH 15 aa (fun _ _=>nc aa) i<|aH 16 aa (fun _ _=>fa tk aa) i<|aH 17 aa (fun _ _=>ka sR aa aa ab) i<|aH 18 aa (fun w' j=>ld bA aa<|Wk.aO j<|IS q (k:=0) ab) i<|he 19 aa ag<|cl FK (Jb a c r.next (F.sp.getD 0 0) w.drew (ah.wk i).cI.2 ab) aa fun aC an ae=> ?_
 obtain ⟨rfl,ac⟩:=ae
 have C:(fun w'=>Wk w w') an:=i.trans ac
 refine ⟨C,?_⟩
 exact aH 20 aa (fun _ _=>aB) C<|hn ag<|tn<|A _ _<|aj fun _ Y=>p mv<|p (no aa)<|p aB<|aE<|Y _ _<|rt<|f1 aa aa<|⟨by unfold nM; rw [decide_eq_true (show 0≤(k:Int)∧(k:Int) < (F.rules.length:Int) by omega),Z]; rfl,C⟩
theorem Xv (B tb fb:Nat) (V:eh) (ve:Value) (F:aR) (xs:List bD) (n k:Int) (w:World) (A:fX w B tb fb V ve F xs) (q:eR F xs):
 bh ay 64 (ba [aQ tb,.int .i64 n,.int .i64 k]) w (fun v w'=>v= .bool (l5 F xs n k)∧Wk w w'):=by
 refine enter func64 aa ntmps64 aa<|aj fun _ E=>aw<|E _ _<|sq fun _ G=>aj fun _ j=>p mv<|p (lt aa aa)<|p mv<|gs (t:=10) aa (fun Z=> ?_) fun Z=> ?_
 exact sk aa aa aa aa<|sk aa aa aa aa<|p (bw aa)<|aE<|j _ _<|ct aa<|aj fun _ i=>aw<|i _ _<|rt<|tr<|f1 aa aa<|⟨by unfold l5; rw [decide_eq_false (show ¬(0≤k∧k < 5) by omega)]; rfl,Md.refl _ _⟩
 refine pg aa aa aa mv<|pg aa aa aa (gt aa aa)<|p (bm aa)<|aE<|j _ _<|cd aa (fun Y=> ?_) fun Y=> ?_
 exact aj fun _ i=>aw<|i _ _<|rt<|tr<|f1 aa aa<|⟨by unfold l5; rw [decide_eq_false (show ¬(0≤k∧k < 5) by omega)]; rfl,Md.refl _ _⟩
 obtain ⟨k,rfl⟩:∃ m:Nat,k=(m:Int):=⟨k.toNat,ab⟩
 refine aM<|tn<|G _ _<|aj fun _ i=>p mv<|p mv<|e<|cl A7 (Dk B tb fb V ve F xs n w A q) aa fun ae ac M=> ?_
 obtain ⟨⟨a,c,rfl,U⟩,hE16⟩:=M
 have C:=A.wk hE16
 refine aw<|i _ _<|aj fun _ I=>p mv<|p mv<|p (nc aa)<|p (fa nb aa)<|p (ld gW aa<|(a6 C.cells).trans aa)<|p mv<|p (nc aa)<|p (fa tk aa)<|p (ka sR aa aa ab)<|p (ld bA aa<|IS C ab)<|e<|cl FK (Jb a c (flagsOf xs n) (F.sp.getD k 0) ac U.cI.2<|by have :=(n8 q n).1; omega) aa fun ag ah O=> ?_
 obtain ⟨rfl,J⟩:=O
 exact aw<|I _ _<|rt<|f1 aa aa<|⟨by unfold l5 rP; rw [decide_eq_true (show 0≤((k:Nat):Int)∧((k:Nat):Int) < 5 by omega),mS]; rfl,hE16.trans J⟩
theorem Dm (B tb fb:Nat) (V:eh) (ve:Value) (F:aR) (xs:List bD) (fs:List Nat) (a:Option Addr) (c kd:Nat) (w:World) (Z:fX w B tb fb V ve F xs) (a8:eR F xs) (aq:aI w.heap a (fs.map bM)) (b3:fs.length≤64) (bk:fs.Pairwise (· < ·)):
 bh ay 120 (ba [aQ tb,.slice a fs.length c,au kd]) w (fun v w'=>bo w' w.heap.size 3 1 v (aV F fs kd).length ((aV F fs kd).map bM)∧Wk w w'):=by
 have ca:=a8.len
 obtain ⟨ar,cr,bQ⟩:=Z.DS
 refine enter func120 aa ntmps120 aa<|aj fun _ aW=>aw<|aW _ _<|aj fun _ aZ=>p aB<|aE<|aZ _ _<|sq fun _ a0=>aj fun _ a1=>aw<|a1 _ _<|aJ<|lp (fun O M ae=> ∃ (i:Nat) (v:Value),(i≤F.rules.length)∧(bo ae w.heap.size 3 1 v (mD F fs kd i).length<|(mD F fs kd i).map bM)∧(Wk w ae)∧(M 0=aQ tb)∧(M 1= .slice a fs.length c)∧(M 2=au kd)∧(M 7=v)∧(M 8=au i)∧(F.rules.length - i=O)) _ ⟨0,.slice none 0 0,ab,(du _ _ _ _),(Md.refl _ _),aa,aa,aa,aa,aa,aa⟩ ?_
 rintro O M ae ⟨i,v,hi,aL,I,bq,br,bs,bt,bu,rfl⟩
 refine fx 0 bq<|fx 1 br<|fx 2 bs<|fx 7 bt<|fx 8 bu<|sq fun _ a2=>aj fun _ a3=>ak (au i)<|ak (aQ tb)<|p (nc aa)<|p (fa nb aa)<|p (ld gW aa<|(a6 (Z.wk I).cells).trans aa)<|p (nc aa)<|p (fa jL aa)<|p (ld j6 aa<|Wk.aO I bQ)<|p (bF tM aa aa)<|p (lt aa aa)<|aE<|a3 _ _<|cd aa (fun bi=> ?_) fun bi=> ?_
 obtain ⟨r,aP⟩:∃ r,F.rules[i]? =some r:=⟨_,cz ab⟩
 obtain ⟨bT,bV,ac,rc,bN,av,aN,bZ⟩:=(Z.wk I).iD aP
 obtain ⟨bW,bX,bY,ao⟩:=vM aP
 have b6:=V7 F fs kd i
 have b8:((r,bO ac r.next.length rc):c8×Value).1.flag=r.flag:=rfl
 have b9:((r,bO ac r.next.length rc):c8×Value).1.kind=r.kind:=rfl
 refine aM<|tn<|a2 _ _<|sq fun _ Y=>aJ<|aj fun _ a4=>ak (aQ tb)<|p (nc aa)<|p (fa nb aa)<|p (ld gW aa<|(a6 (Z.wk I).cells).trans aa)<|p (nc aa)<|p (fa jL aa)<|p (ld j6 aa<|bN)<|ak (au i)<|p (a7 nN aa aa ab<|aI.ok (av)<|nR aN)<|p (cT rv aa (aa)<|e9 (f:=jv) (m:=8) (fun _=>rfl) av aN)<|e<|ga D2 fun ah ci b1 aF bc=> ?_
 have cg:=aF.size
 refine e<|gi Bk aa aa aa aa bc (by show 8≤8; omega) fun aS aA a9=> ?_
 have ax:Wk ae aS:=aF.md.trans' aA fun q b7 h=>by omega
 have cb:=aA.size
 have bf:aS.heap[ah]? =some (.cells (jv (r,.slice ac r.next.length rc)).toArray 174 (0,0)):=a9
 have bl:=aU aL ax
 refine aE<|a4 _ _<|aj fun _ a5=>aw<|a5 _ _<|aJ<|lp (fun O C A=> ∃ (k:Nat) (v2:Value),(k≤fs.length)∧(bo A w.heap.size 3 1 v2 (mD F fs kd i++nj r fs kd i k).length<|(mD F fs kd i++nj r fs kd i k).map bM)∧((mD F fs kd i++nj r fs kd i k).length≤i+k)∧(A.heap[ah]? =some (.cells (jv (r,.slice ac r.next.length rc)).toArray 174 (0,0)))∧(Wk w A)∧(C 0=aQ tb)∧(C 1= .slice a fs.length c)∧(C 2=au kd)∧(C 7=v2)∧(C 8=au i)∧(C 9=aQ ah)∧(C 10=au k)∧(fs.length - k=O)) _ ⟨0,v,ab,(by rw [Kf,ed]; exact bl),(by rw [Kf,ed]; omega),bf,(I.trans ax),aa,aa,aa,aa,aa,aa,aa,aa⟩ ?_
 rintro O C A ⟨k,v2,b4,J,b5,U,G,bv,bx,bB,bG,bK,bL,bz,rfl⟩
 refine fx 0 bv<|fx 1 bx<|fx 2 bB<|fx 7 bG<|fx 8 bK<|fx 9 bL<|fx 10 bz<|sq fun _ aX=>aj fun _ am=>ak (au k)<|ak (.slice a fs.length c)<|p (bF nq aa aa)<|p (lt aa aa)<|p mv<|gs (t:=37) aa (fun hk=> ?_) fun hk=> ?_
 refine pg aa aa aa (fa u0 aa)<|pg aa aa aa (ld bA aa<|(a6 U).trans aa)<|pg aa aa aa (aT (au kd) aa)<|pg aa aa aa (bH aa aa)<|p (bw aa)<|aE<|am _ _<|cd aa (fun aG=> ?_) fun aG=> ?_
 refine aM<|tn<|aX _ _<|sq fun _ an=>aJ<|sq fun _ aY=> ?_
 have j:(fun w'=>Wk A w') A.drew:=(Md.refl _ _).drew
 refine bJ (fun w'=>Wk A w') aa wide j<|bC 0 aa (.slice a fs.length c) j<|bC 1 aa (au k) j<|aH 2 aa (fun _ _=>a7 j9 aa aa ab<|aI.ok (aq.wk<|G.trans j)<|bP ab) j<|aH 3 aa (fun w' ai=>ld bA aa<|Wk.aO ai<|aI.gG (i:=k) (aq.wk G)<|ni ab) j<|aH 4 aa (fun _ _=>fa Ty aa) j<|aH 5 aa (fun w' ai=>ld bA aa<|Wk.aO ai<|(a6 U).trans aa) j<|aH 6 aa (fun _ _=>bH aa aa) j<|hn ag<|tn<|aY _ _<|cd aa (fun al=> ?_) fun al=> ?_
 have aK:=Wg (kd:=kd) (i:=i) bk (show k < fs.length by omega) (show fs.getD k 0=r.flag by omega) (show r.kind=kd by omega)
 refine rg aa<|ak (v2)<|ak (au i)<|e<|fR np aa aa fun bU bS b0 aD bb=> ?_
 have cc:=aD.size
 have E:Wk A bS:=j.trans aD.md
 refine e<|ap np (aU J E) aa (by have :=G.size; have :=E.size; omega) aa (aI.dS bb) (aa) (aa) ab ab fun bR ch bp aC ce b2=> ?_
 have bd:=Wk.own (G.trans E) (aU J E) aC<|cj _
 have bg:=aC.aJ (E.aJ U) fun h=>dw (aU J E) (E.aJ U) az h
 exact p aB<|nl<|bn<|tn<|an _ _<|rg aa<|ak (au k)<|p (bE ((k+1:Nat):Int) aa aa<|bj ab ab)<|p aB<|aE<|⟨_,ab,k+1,bR,ab,(by rw [aK,← dC,List.map_append,bI]; exact bp),(by rewrite [aK,← dC,bI]; simp only [eW]; omega),bg,bd,aa,aa,aa,aa,aa,aa,aa,aa⟩
 exact aM<|bn<|tn<|an _ _<|rg aa<|ak (au k)<|p (bE ((k+1:Nat):Int) aa aa<|bj ab ab)<|p aB<|nl<|tn<|⟨_,ab,k+1,v2,ab,(by rw [Ke (show k < fs.length by omega) (fun h=>al ab)]; exact aU J j),(by rewrite [Ke (show k < fs.length by omega) (fun h=>al ab)]; omega),(j.aJ U),(G.trans j),aa,aa,aa,aa,aa,aa,aa,aa⟩
 exact ext<|te _<|te _<|be<|bn<|tn<|Y _ _<|rg aa<|ak (au i)<|p (bE ((i+1:Nat):Int) aa aa<|bj ab ab)<|aw<|⟨_,ab,i+1,v2,ab,(by rw [← Kd (r:=r) ao (.inr fun h=>aG ab)]; exact J),G,aa,aa,aa,aa,aa,aa⟩
 exact sk aa aa aa aa<|sk aa aa aa aa<|sk aa aa aa aa<|sk aa aa aa aa<|p (bm aa)<|aE<|am _ _<|cf aa<|ext<|te _<|te _<|be<|bn<|tn<|Y _ _<|rg aa<|ak (au i)<|p (bE ((i+1:Nat):Int) aa aa<|bj ab ab)<|aw<|⟨_,ab,i+1,v2,ab,(by rw [← Kd (r:=r) ao (.inl (show k=fs.length by omega))]; exact J),G,aa,aa,aa,aa,aa,aa⟩
 refine ext<|te _<|te _<|be<|tn<|a0 _ _<|aj fun _ Y=>ak (v)<|p (cH (v) aa)<|aE<|Y _ _<|rt<|f1 aa aa ?_
 have hn:mD F fs kd i=aV F fs kd:=by rw [show i=F.rules.length by omega]; rfl
 rw [← hn]
 exact ⟨aL,I⟩
theorem XH (B tb fb:Nat) (V:eh) (ve:Value) (F:aR) (xs:List bD) (n:Int) (w:World) (j:fX w B tb fb V ve F xs) (i:eR F xs):
 bh ay 76 (ba [aQ tb,.int .i64 n]) w (fun v w'=>bo w' w.heap.size 3 1 v (aV F (flagsOf xs n) 2).length ((aV F (flagsOf xs n) 2).map bM)∧Wk w w'):=by
 refine enter func76 aa ntmps76 aa<|aj fun _ q=>aw<|q _ _<|aj fun _ A=>ak (aQ tb)<|ak (.int .i64 n)<|e<|cl A7 (Dk B tb fb V ve F xs n w j i) aa fun Y O I=> ?_
 obtain ⟨⟨a,c,rfl,J⟩,hE8⟩:=I
 have U:=hE8.size
 refine aw<|A _ _<|aj fun _ C=>ak (aQ tb)<|p mv<|e<|cl AD (Dm B tb fb V ve F xs (flagsOf xs n) a c 2 O (j.wk hE8) i J.cI.2 (n8 i n).1 (n8 i n).2.1) aa fun v11 Z G=> ?_
 obtain ⟨M,E⟩:=G
 exact aw<|C _ _<|rt<|f1 aa aa<|⟨ep M ab,hE8.trans E⟩
theorem XC (B tb fb:Nat) (V:eh) (ve:Value) (F:aR) (xs:List bD) (n:Int) (w:World) (j:fX w B tb fb V ve F xs) (i:eR F xs):
 bh ay 74 (ba [aQ tb,.int .i64 n]) w (fun v w'=>bo w' w.heap.size 3 1 v (aV F (flagsOf xs n) 1).length ((aV F (flagsOf xs n) 1).map bM)∧Wk w w'):=by
 refine enter func74 aa ntmps74 aa<|aj fun _ q=>aw<|q _ _<|aj fun _ A=>ak (aQ tb)<|ak (.int .i64 n)<|e<|cl A7 (Dk B tb fb V ve F xs n w j i) aa fun Y O I=> ?_
 obtain ⟨⟨a,c,rfl,J⟩,hE8⟩:=I
 have U:=hE8.size
 refine aw<|A _ _<|aj fun _ C=>ak (aQ tb)<|p mv<|e<|cl AD (Dm B tb fb V ve F xs (flagsOf xs n) a c 1 O (j.wk hE8) i J.cI.2 (n8 i n).1 (n8 i n).2.1) aa fun v11 Z G=> ?_
 obtain ⟨M,E⟩:=G
 exact aw<|C _ _<|rt<|f1 aa aa<|⟨ep M ab,hE8.trans E⟩
theorem XG (B tb fb:Nat) (V:eh) (ve:Value) (F:aR) (xs:List bD) (n:Int) (w:World) (j:fX w B tb fb V ve F xs) (i:eR F xs):
 bh ay 78 (ba [aQ tb,.int .i64 n]) w (fun v w'=>bo w' w.heap.size 3 1 v (aV F (cR F n) 2).length ((aV F (cR F n) 2).map bM)∧Wk w w'):=by
 refine enter func78 aa ntmps78 aa<|aj fun _ q=>aw<|q _ _<|aj fun _ A=>ak (aQ tb)<|ak (.int .i64 n)<|e<|cl O8 (Xy B tb fb V ve F xs n w j i) aa fun Y O I=> ?_
 obtain ⟨⟨a,c,rfl,J⟩,hE8⟩:=I
 have U:=hE8.size
 refine aw<|A _ _<|aj fun _ C=>ak (aQ tb)<|p mv<|e<|cl AD (Dm B tb fb V ve F xs (cR F n) a c 2 O (j.wk hE8) i J.cI.2 (tK i n).1 (tK i n).2.1) aa fun v11 Z G=> ?_
 obtain ⟨M,E⟩:=G
 exact aw<|C _ _<|rt<|f1 aa aa<|⟨ep M ab,hE8.trans E⟩
end Go.Hb.qg
end
section
set_option maxRecDepth 20000
set_option maxHeartbeats 1000000
namespace Go.Hb.pw
open Go.Hb.dT
open Go.Proofs
open Go.Hb.ji Go.Hb.ot Go.Hb.po Go.Hb.uz Go.Hb.fq Go.Hb.fQ Go.Hb.jP
theorem LH {ps:List Tx} {w:Tx} {i:Nat} (hi:i < ps.length) (h:cB (ps.getD i []) (w.getD i 0)=false):n7 ps w=false :=by
 unfold n7
 rw [Bool.and_eq_false_iff]
 refine .inr ?_
 rw [List.all_eq_false]
 exact ⟨i,by simpa using hi,by rw [h]; exact eb⟩
theorem LJ {ps:List Tx} {w:Tx} (a:ps.length≤w.length) (h:∀ i,i < ps.length→cB (ps.getD i []) (w.getD i 0)=true):n7 ps w=true :=by
 unfold n7
 rw [gO,decide_eq_true a,List.all_eq_true]
 exact ⟨aa,fun i hi=>h i<|by simpa using hi⟩
theorem LI {ps:List Tx} {w:Tx} (h:w.length < ps.length):n7 ps w=false :=by
 unfold n7; rw [decide_eq_false ab]; rfl
theorem Ul (s pr:List UInt8) (w:World) (hs:s.length≤1099511627776) (hp:pr.length≤1099511627776):
 bh ay 147 (ba [str s,str pr]) w (fun v w'=>v= .bool (decide (s.take pr.length=pr))∧Wk w w'):=by
 refine enter func147 aa ntmps147 aa<|aj fun _ a=>aw<|a _ _<|aj fun _ i=>ak (str s)<|ak (str pr)<|e<|cl AS (Cu s pr _ hs hp) aa fun A C q=> ?_
 obtain ⟨rfl,j⟩:=q
 exact aw<|i _ _<|rt<|f1 aa aa<|⟨aa,j⟩
theorem Um (s pr:List UInt8) (w:World) (hs:s.length≤1099511627776) (hp:pr.length≤1099511627776):
 bh ay 145 (ba [str s,str pr]) w (fun v w'=>v= .bool (decide (pr.length≤s.length∧s.drop (s.length - pr.length)=pr))∧Wk w w'):=by
 refine enter func145 aa ntmps145 aa<|aj fun _ a=>aw<|a _ _<|aj fun _ i=>ak (str s)<|ak (str pr)<|e<|cl AR (Cv s pr _ hs hp) aa fun A C q=> ?_
 obtain ⟨rfl,j⟩:=q
 exact aw<|i _ _<|rt<|f1 aa aa<|⟨aa,j⟩
theorem WH (ps:List Tx) (a:Option Addr) (c:Nat) (i:Nat) (b:UInt8) (w:World) (A:aI w.heap a (k6 ps)) (hi:i < ps.length) (Z:ps.length≤4096):
 bh ay 212 (ba [.agg [.slice a ps.length c].toArray,au i,.int .u8 b.toNat]) w (fun v w'=>v= .bool (cB (ps.getD i []) b)∧Wk w w'):=by
 refine enter func212 aa ntmps212 aa<|aj fun _ E=>e<|iV aa fun I C U j J=> ?_
 have q:bL C.heap I [.slice a ps.length c]:=J
 refine aw<|E _ _<|aj fun _ G=>ak (au i)<|p (ge aa aa)<|p mv<|gs (t:=9) aa (fun Y=> ?_) fun h=>absurd ab h
 refine pg aa aa aa (aT (au i) aa)<|pg aa aa aa (fa my aa)<|pg aa aa aa (ld nG aa<|q.bB 0)<|pg aa aa aa (bF qV aa aa)<|pg aa aa aa (lt aa aa)<|p (bw aa)<|p mv<|gs (t:=16) aa (fun V=> ?_) fun h=>absurd ab h
 refine pg aa aa aa (fa my aa)<|pg aa aa aa (ld nG aa<|q.bB 0)<|pg aa aa aa (aT (au i) aa)<|pg aa aa aa (a7 HD aa aa ab<|aI.ok (A.wk j.md)<|GK ab)<|pg aa aa aa (cT kL aa (aa)<|GJ (A.wk j.md) hi)<|pg aa aa aa (aT (.int .u8 b.toNat) aa)<|eg aa aa aa<|cl AU (IZ (cB<|ps.getD i []) b C) aa fun ac ae O=> ?_
 obtain ⟨rfl,M⟩:=O
 exact p (bw aa)<|aw<|G _ _<|rt<|f1 aa aa<|⟨aa,j.md.trans M⟩
theorem KE (ps:List Tx) (a:Option Addr) (c:Nat) (s:Tx) (w:World) (ax:aI w.heap a (k6 ps)) (aF:ps.length≤4096):
 bh ay 148 (ba [.agg [.slice a ps.length c].toArray,str s]) w (fun v w'=>v= .bool (n7 ps s)∧Wk w w'):=by
 refine enter func148 aa ntmps148 aa<|aj fun _ ah=>e<|iV aa fun V ae aP G av=> ?_
 have M:bL ae.heap V [.slice a ps.length c]:=av
 refine aw<|ah _ _<|sq fun _ am=>aj fun _ an=>ak (str s)<|p (cg u9 aa aa)<|p (fa my aa)<|p (ld nG aa<|M.bB 0)<|p (bF qV aa aa)<|p (lt aa aa)<|aE<|an _ _<|cd aa (fun aC=> ?_) fun aC=> ?_
 exact aj fun _ I=>aw<|I _ _<|rt<|tr<|f1 aa aa<|⟨by rw [LI ab]; rfl,G.md⟩
 refine aM<|tn<|am _ _<|sq fun _ I=>aj fun _ ao=>p (fa my aa)<|p (ld nG aa<|M.bB 0)<|p (bF qV aa aa)<|p mv<|aE<|ao _ _<|aJ<|lp (fun Y E A=> ∃ (i:Nat),(i≤ps.length)∧(∀ k,k < i→cB (ps.getD k []) (s.getD k 0)=true)∧(Wk ae A)∧(E 1=str s)∧(E 2=aQ V)∧(E 14=au (ps.length))∧(E 15=au i)∧(ps.length - i=Y)) _ ⟨0,ab,(fun k hk=>absurd hk<|NY _),(Md.refl _ _),aa,aa,aa,aa,aa⟩ ?_
 rintro Y E A ⟨i,hi,ac,C,aG,aN,aK,aL,rfl⟩
 refine fx 1 aG<|fx 2 aN<|fx 14 aK<|fx 15 aL<|aj fun _ ap=>p (lt aa aa)<|aE<|ap _ _<|sq fun _ aq=>cd aa (fun aD=> ?_) fun aD=> ?_
 refine aM<|tn<|aq _ _<|sq fun _ J=>aJ<|aj fun _ ar=>ak (au i)<|p (cH (au i) aa)<|aE<|ar _ _<|sq fun _ ai=> ?_
 have q:(fun w'=>Wk A w') A.drew:=(Md.refl _ _).drew
 refine bJ (fun w'=>Wk A w') aa wide q<|aH 0 aa (fun w' aA=>cT mX aa (aa) fun j aR=>(Wk.B aA<|Wk.B C M).bB j) q<|bC 1 aa (au i) q<|bC 2 aa (str s) q<|bC 3 aa (au i) q<|aH 4 aa (fun _ _=>eK u9 aa aa ab) q<|he 5 aa ag<|cl PG (WH ps a c i (s.getD i 0) A.drew (ax.wk<|G.md.trans<|C.trans q) ab aF) aa fun aS aO az=> ?_
 obtain ⟨rfl,O⟩:=az
 have Z:(fun w'=>Wk A w') aO:=q.trans O
 refine ⟨Z,?_⟩
 refine aH 6 aa (fun _ _=>no aa) Z<|hn ag<|tn<|ai _ _<|cb aa (fun U=> ?_) fun U=> ?_
 exact aj fun _ al=>aw<|al _ _<|rt<|br<|tr<|tr<|br<|tr<|f1 aa aa<|⟨by rw [LH (i:=i) ab (by simpa using U)]; rfl,G.md.trans<|C.trans<|q.trans O⟩
 exact aM<|bn<|tn<|J _ _<|rg aa<|p (ad aa aa<|bT ab)<|p mv<|nl<|tn<|⟨_,ab,i+1,ab,(fun k hk=>by rcases NX.1 hk with h | rfl; exact ac k h; simpa using U),(C.trans<|q.trans O),aa,aa,aa,aa,aa⟩
 exact ext<|te _<|te _<|be<|tn<|I _ _<|aj fun _ J=>p aB<|aE<|J _ _<|rt<|f1 aa aa<|⟨by rw [LJ ab (fun k hk=>ac k ab)]; rfl,G.md.trans C⟩
section
variable {r:c8} {s:Tx}
theorem HW (h:(da r.cond).2≠0):iu r s=false :=by unfold iu; rw [decide_eq_false (fun h2=>h h2.1)]; rfl
theorem HX (h:s.length≤r.strip.length):iu r s=false :=by unfold iu; rw [decide_eq_false (fun h2=>by omega)]; rfl
variable (h:(da r.cond).2=0) (h1:r.strip.length < s.length)
include h h1
theorem x8 (hk:r.kind=2):iu r s=(decide (s.drop (s.length - r.strip.length)=r.strip) && qz (da r.cond).1 s):=by unfold iu; rw [decide_eq_true ⟨h,h1⟩,if_pos hk]; rfl
theorem x6 (hk:r.kind=1):iu r s=(decide (s.take r.strip.length=r.strip) && n7 (da r.cond).1 s):=by unfold iu; rw [decide_eq_true ⟨h,h1⟩,if_neg ab,if_pos hk]; rfl
omit h h1 in
theorem HV (hk:r.kind≠1) (a:r.kind≠2):iu r s=false :=by unfold iu; rw [if_neg a,if_neg hk,wi]
end
theorem WQ (ps:List Tx) (a:Option Addr) (c:Nat) (s:Tx) (w:World) (U:aI w.heap a (k6 ps)) (ac:ps.length≤4096) (ak:s.length≤1048576):
 bh ay 146 (ba [.agg [.slice a ps.length c].toArray,str s]) w (fun v w'=>v= .bool (qz ps s)∧Wk w w'):=by
 refine enter func146 aa ntmps146 aa<|aj fun _ J=>e<|iV aa fun M q ah G O=> ?_
 have E:bL q.heap M [.slice a ps.length c]:=O
 refine aw<|J _ _<|sq fun _ I=> ?_
 have i:(fun w'=>Wk q w') q.drew:=(Md.refl _ _).drew
 refine bJ (fun w'=>Wk q w') aa wide i<|bC 0 aa (str s) i<|aH 1 aa (fun _ _=>cg u9 aa aa) i<|aH 2 aa (fun _ _=>fa my aa) i<|aH 3 aa (fun w' A=>ld nG aa<|Wk.aO A<|E.bB 0) i<|aH 4 aa (fun _ _=>bF qV aa aa) i<|aH 5 aa (fun _ _=>ge aa aa) i<|aH 6 aa (fun _ _=>mv) i<|iO (t:=11) aa (fun Z=> ?_) fun Z=> ?_
 refine bf 7 aa ag aa aa aa (fun w' A=>cT mX aa (aa) fun j ai=>(Wk.B A E).bB j) i<|bf 8 aa ag aa aa aa (fun _ _=>aT (str s) aa) i<|bf 9 aa ag aa aa aa (fun _ _=>aT (str s) aa) i<|bf 10 aa ag aa aa aa (fun _ _=>cg u9 aa aa) i<|bf 11 aa ag aa aa aa (fun _ _=>fa my aa) i<|bf 12 aa ag aa aa aa (fun w' A=>ld nG aa<|Wk.aO A<|E.bB 0) i<|bf 13 aa ag aa aa aa (fun _ _=>bF qV aa aa) i<|bf 14 aa ag aa aa aa (fun _ _=>dJ ((s.length - ps.length:Nat):Int) aa aa<|bj ab ab) i<|bf 15 aa ag aa aa aa (fun _ _=>l8 u9 aa aa ab) i<|mA 16 aa ag aa aa aa<|cl FV (KE ps a c (s.drop<|s.length - ps.length) q.drew (U.wk<|G.md.trans i) ac) aa fun v21 ae Y=> ?_
 obtain ⟨rfl,V⟩:=Y
 have C:(fun w'=>Wk q w') ae:=i.trans V
 refine ⟨C,?_⟩
 exact aH 17 aa (fun _ _=>bw aa) C<|aH 18 aa (fun _ _=>aB) C<|hn ag<|tn<|I _ _<|rt<|f1 aa aa<|⟨by unfold qz; rw [decide_eq_true (show ps.length≤s.length by omega)]; rfl,G.md.trans C⟩
 exact aW 7 aa ag aa aa aa aa i<|aW 8 aa ag aa aa aa aa i<|aW 9 aa ag aa aa aa aa i<|aW 10 aa ag aa aa aa aa i<|aW 11 aa ag aa aa aa aa i<|aW 12 aa ag aa aa aa aa i<|aW 13 aa ag aa aa aa aa i<|aW 14 aa ag aa aa aa aa i<|aW 15 aa ag aa aa aa aa i<|aW 16 aa ag aa aa aa aa i<|aH 17 aa (fun _ _=>bm aa) i<|aH 18 aa (fun _ _=>aB) i<|hn ag<|tn<|I _ _<|rt<|f1 aa aa<|⟨by unfold qz; rw [decide_eq_false (show ¬ps.length≤s.length by omega)]; rfl,G.md.trans i⟩
theorem Tm (r:c8) (u:Value) (s:Tx) (w:World) (a6:r.strip.length≤1048576) (a2:r.add.length≤1048576) (aQ:r.cond.length≤1048576) (aS:s.length≤1048576):
 bh ay 94 (ba [.agg (fk (r,u)).toArray,str s]) w (fun v w'=>v= .bool (iu r s)∧Wk w w'):=by
 refine enter func94 aa ntmps94 aa<|aj fun _ ao=>e<|iV aa fun av an aY ah aA=> ?_
 have a5:((r,u):c8×Value).1.strip.length=r.strip.length:=rfl
 have a4:((r,u):c8×Value).1.kind=r.kind:=rfl
 have a3:((r,u):c8×Value).1.add.length=r.add.length:=rfl
 have Z:bL an.heap av (fk (r,u)):=aA
 refine aw<|ao _ _<|aj fun _ ap=>p (fa It aa)<|p (ld bR aa<|Z.bB 5)<|e<|cl FU (GX r.cond an aQ) aa fun v10 aU aF=> ?_
 obtain ⟨⟨ac,rfl,am⟩,hE10⟩:=aF
 obtain ⟨a,c,rfl⟩:=cw am
 have ag:=(aX am).2
 have a0:=GV r.cond
 have a8:=ah.size
 have a7:=hE10.size
 refine p mv<|p (xt aa aa)<|p (xt aa aa)<|e<|al zD fun ax bi aZ ai aB=> ?_
 have a9:=ai.size
 refine e<|cW qv aa aa aa aa (aB) (by simp) fun O aE az=> ?_
 have I:Wk aU O:=ai.md.trans' aE fun q a1 h=>by omega
 have ae:bL O.heap ax [.slice a (da r.cond).1.length c]:=az
 have G:=Wk.B (hE10.trans I) Z
 have i:=ah.md.trans<|hE10.trans I
 refine aw<|ap _ _<|sq fun _ aq=>aj fun _ Y=>p mv<|p (cX aa aa)<|p mv<|gs (t:=15) aa (fun aL=> ?_) fun aL=> ?_
 exact sk aa aa aa aa<|sk aa aa aa aa<|sk aa aa aa aa<|sk aa aa aa aa<|sk aa aa aa aa<|sk aa aa aa aa<|p (bw aa)<|nl<|tn<|Y _ _<|ct aa<|aj fun _ A=>aw<|A _ _<|rt<|tr<|f1 aa aa<|⟨by rw [HW ab]; rfl,i⟩
 refine pg aa aa aa (aT (str s) aa)<|pg aa aa aa (cg u9 aa aa)<|pg aa aa aa (fa tw aa)<|pg aa aa aa (ld bR aa<|G.bB 3)<|pg aa aa aa (cg u9 aa aa)<|pg aa aa aa (le aa aa)<|p (bm aa)<|nl<|tn<|Y _ _<|cd aa (fun aR=> ?_) fun aR=> ?_
 exact aj fun _ A=>aw<|A _ _<|rt<|tr<|f1 aa aa<|⟨by rw [HX ab]; rfl,i⟩
 refine aM<|tn<|aq _ _<|sq fun _ A=>aj fun _ ar=>p (fa Is aa)<|p (ld bA aa<|G.bB 0)<|nl<|tn<|ar _ _<|aJ<|aj fun _ au=>p (bH aa aa)<|aw<|au _ _<|cd aa (fun aP=> ?_) fun aP=> ?_
 refine aj fun _ C=>ak (str s)<|p (fa tw aa)<|p (ld bR aa<|G.bB 3)<|e<|cl Pj (Um s r.strip O ab ab) aa fun v30 aV aG=> ?_
 obtain ⟨rfl,J⟩:=aG
 refine p mv<|gb (t:=31) aa (fun V=> ?_) fun V=> ?_
 refine pg aa aa aa (cT mX aa (aa) fun j aN=>(Wk.B J ae).bB j)<|pg aa aa aa (aT (str s) aa)<|eg aa aa aa<|cl Pk (WQ (da r.cond).1 a c s aV (ag.wk<|I.trans J) ab aS) aa fun bb bf aH=> ?_
 obtain ⟨rfl,aC⟩:=aH
 exact p (bw aa)<|aw<|C _ _<|rt<|br<|tr<|f1 aa aa<|⟨by rw [x8 ab ab ab,decide_eq_true (of_decide_eq_true V).2]; rfl,i.trans<|J.trans aC⟩
 exact sk aa aa aa aa<|sk aa aa aa aa<|sk aa aa aa aa<|p (bm aa)<|aw<|C _ _<|rt<|br<|tr<|f1 aa aa<|⟨by rw [x8 ab ab ab,decide_eq_false (fun h=>of_decide_eq_false V ⟨ab,h⟩)]; rfl,i.trans J⟩
 refine aj fun _ C=>p (bH aa aa)<|aw<|C _ _<|cd aa (fun aO=> ?_) fun aO=> ?_
 refine aj fun _ E=>ak (str s)<|p (fa tw aa)<|p (ld bR aa<|G.bB 3)<|e<|cl Pl (Ul s r.strip O ab ab) aa fun bc aW aI=> ?_
 obtain ⟨rfl,M⟩:=aI
 refine p mv<|gb (t:=42) aa (fun U=> ?_) fun U=> ?_
 refine pg aa aa aa (cT mX aa (aa) fun j aN=>(Wk.B M ae).bB j)<|pg aa aa aa (aT (str s) aa)<|eg aa aa aa<|cl FV (KE (da r.cond).1 a c s aW (ag.wk<|I.trans M) ab) aa fun bd bg aK=> ?_
 obtain ⟨rfl,aD⟩:=aK
 exact p (bw aa)<|aw<|E _ _<|rt<|br<|tr<|f1 aa aa<|⟨by rw [x6 ab ab ab,U]; rfl,i.trans<|M.trans aD⟩
 exact sk aa aa aa aa<|sk aa aa aa aa<|sk aa aa aa aa<|p (bm aa)<|aw<|E _ _<|rt<|br<|tr<|f1 aa aa<|⟨by rw [x6 ab ab ab,U]; rfl,i.trans M⟩
 exact aM<|bn<|tn<|A _ _<|aj fun _ E=>aw<|E _ _<|rt<|f1 aa aa<|⟨by rw [HV ab ab]; rfl,i⟩
def qT (s p:Tx):Tx:=if p.length≤s.length∧s.drop (s.length - p.length)=p then s.take (s.length - p.length) else s
theorem Fs {r:c8} {s:Tx} (h:iu r s=false):dA r s=none:=if_neg<|by rw [h]; exact eb
theorem x7 {r:c8} {s:Tx} (h:iu r s=true):r.strip.length < s.length∧(r.kind=2→s.drop (s.length - r.strip.length)=r.strip)∧(r.kind≠2→s.take r.strip.length=r.strip):=by
 unfold iu at h
 rw [gO,decide_eq_true_eq] at h
 refine ⟨h.1.2,fun hk=> ?_,fun hk=> ?_⟩
 · have h2:=h.2; rw [if_pos hk,gO] at h2; exact of_decide_eq_true h2.1
 · have h2:=h.2; rw [if_neg hk] at h2
   split at h2
   · rw [gO] at h2; exact of_decide_eq_true h2.1
   · cases h2
theorem OG {r:c8} {s:Tx} (h:iu r s=true) (hk:r.kind=2):dA r s=some (qT s r.strip++r.add):=by
 have h1:=x7 h
 unfold dA qT; rw [if_pos h,if_pos hk,if_pos ⟨ab,h1.2.1 hk⟩]
theorem OE {r:c8} {s:Tx} (h:iu r s=true) (hk:r.kind≠2):dA r s=some (r.add++gv s r.strip):=by
 have h1:=x7 h
 unfold dA gv; rw [if_pos h,if_neg hk,if_pos (h1.2.2 hk)]
theorem OH {r:c8} {s:Tx} (h:iu r s=true) (hk:r.kind=2):dA r s=some (s.take (s.length - r.strip.length)++r.add):=by
 unfold dA; rw [if_pos h,if_pos hk]
theorem OF {r:c8} {s:Tx} (h:iu r s=true) (hk:r.kind≠2):dA r s=some (r.add++s.drop r.strip.length):=by
 unfold dA; rw [if_pos h,if_neg hk]
def Ko (x:Option Tx):Value:= .tuple #[str (x.getD []),.bool x.isSome]
theorem YY (s pr:List UInt8) (w:World) (hs:s.length≤1099511627776) (hp:pr.length≤1099511627776):
 bh ay 149 (ba [str s,str pr]) w (fun v w'=>v=str (qT s pr)∧Wk w w'):=by
 refine enter func149 aa ntmps149 aa<|aj fun _ A=>aw<|A _ _<|sq fun _ C=>aj fun _ E=>ak (str s)<|ak (str pr)<|e<|cl AR (Cv s pr _ hs hp) aa fun I J G=> ?_
 obtain ⟨rfl,q⟩:=G
 refine aE<|E _ _<|cb aa (fun i=> ?_) fun i=> ?_
 have j:=of_decide_eq_true i
 exact aj fun _ a=>ak (str s)<|ak (str s)<|p (cg u9 aa aa)<|ak (str pr)<|p (cg u9 aa aa)<|p (dJ ((s.length - pr.length:Nat):Int) aa aa<|bj ab ab)<|p (r5 u9 aa aa ab)<|aw<|a _ _<|rt<|tr<|f1 aa aa<|⟨by show str (s.take (((s.length - pr.length:Nat):Int)).toNat)=_; unfold qT; rw [if_pos j]; rfl,q⟩
 have j:=of_decide_eq_false i
 exact aM<|tn<|C _ _<|aj fun _ a=>ak (str s)<|p (cH (str s) aa)<|aE<|a _ _<|rt<|f1 aa aa<|⟨by show str s=_; unfold qT; rw [if_neg j],q⟩
theorem YZ (s pr:List UInt8) (w:World) (hs:s.length≤1099511627776) (hp:pr.length≤1099511627776):
 bh ay 95 (ba [str s,str pr]) w (fun v w'=>v=str (qT s pr)∧Wk w w'):=by
 refine enter func95 aa ntmps95 aa<|aj fun _ a=>aw<|a _ _<|aj fun _ i=>ak (str s)<|ak (str pr)<|e<|cl FW (YY s pr _ hs hp) aa fun A C q=> ?_
 obtain ⟨rfl,j⟩:=q
 exact aw<|i _ _<|rt<|f1 aa aa<|⟨aa,j⟩
theorem As (r:c8) (u:Value) (s:Tx) (w:World) (az:r.strip.length≤1048576) (av:r.add.length≤1048576) (ax:r.cond.length≤1048576) (aA:s.length≤1048576):
 bh ay 59 (ba [.agg (fk (r,u)).toArray,str s]) w (fun v w'=>v=Ko (dA r s)∧Wk w w'):=by
 refine enter func59 aa ntmps59 aa<|aj fun _ ac=>e<|iV aa fun al Z aF ap am=> ?_
 have aL:((r,u):c8×Value).1.strip.length=r.strip.length:=rfl
 have aK:((r,u):c8×Value).1.kind=r.kind:=rfl
 have aJ:((r,u):c8×Value).1.add.length=r.add.length:=rfl
 have V:bL Z.heap al (fk (r,u)):=am
 refine p aB<|aw<|ac _ _<|sq fun _ ae=>aj fun _ ah=>p (cT m3 aa (aa) fun j aI=>V.bB j)<|ak (str s)<|e<|cl QN (Tm r u s Z az av ax aA) aa fun aQ a au=> ?_
 obtain ⟨rfl,Y⟩:=au
 have G:=Wk.B Y V
 have O:=ap.md.trans Y
 refine p (no aa)<|aE<|ah _ _<|cb aa (fun U=> ?_) fun U=> ?_
 have I:iu r s=false :=by simpa using U
 exact aj fun _ J=>p aB<|aw<|J _ _<|rt<|tr<|f2 aa aa aa<|⟨by rw [Fs I]; rfl,O⟩
 have I:iu r s=true :=by simpa using U
 have aG:=(x7 I).1
 refine aM<|tn<|ae _ _<|sq fun _ J=>aj fun _ ai=>p (fa Is aa)<|p (ld bA aa<|G.bB 0)<|p (bH aa aa)<|aE<|ai _ _<|cd aa (fun hk=> ?_) fun hk=> ?_
 refine sq fun _ M=> ?_
 have q:(fun w'=>Wk a w') a.drew:=(Md.refl _ _).drew
 refine bJ (fun w'=>Wk a w') aa wide q<|bC 0 aa (str s) q<|aH 1 aa (fun _ _=>fa tw aa) q<|aH 2 aa (fun w' i=>ld bR aa<|Wk.aO i<|G.bB 3) q<|aH 4 aa (fun _ _=>fa Cd aa) q<|aH 5 aa (fun w' i=>ld bR aa<|Wk.aO i<|G.bB 4) q<|he 3 aa ag<|cl GA (YZ s r.strip a.drew ab ab) aa fun aN aC aq=> ?_
 obtain ⟨rfl,an⟩:=aq
 have C:(fun w'=>Wk a w') aC:=q.trans an
 refine ⟨C,?_⟩
 exact aH 6 aa (fun _ _=>cc aa aa (by have :(qT s r.strip).length≤s.length:=(by unfold qT; split <;> simp <;> omega); omega)) C<|aH 7 aa (fun _ _=>aB) C<|aH 8 aa (fun _ _=>aB) C<|hn ag<|tn<|M _ _<|rt<|tr<|f2 aa aa aa<|⟨by rw [OG I ab]; rfl,O.trans C⟩
 refine aM<|tn<|J _ _<|sq fun _ M=> ?_
 have A:(fun w'=>Wk a w') a.drew:=(Md.refl _ _).drew
 refine bJ (fun w'=>Wk a w') aa wide A<|aH 0 aa (fun _ _=>fa Cd aa) A<|aH 1 aa (fun w' i=>ld bR aa<|Wk.aO i<|G.bB 4) A<|bC 2 aa (str s) A<|aH 3 aa (fun _ _=>fa tw aa) A<|aH 4 aa (fun w' i=>ld bR aa<|Wk.aO i<|G.bB 3) A<|he 5 aa ag<|cl GB (LV s r.strip a.drew ab ab) aa fun aP aD ar=> ?_
 obtain ⟨rfl,ao⟩:=ar
 have E:(fun w'=>Wk a w') aD:=A.trans ao
 refine ⟨E,?_⟩
 exact aH 6 aa (fun _ _=>cc aa aa (by have :(gv s r.strip).length≤s.length:=(by unfold gv; split <;> simp); omega)) E<|aH 7 aa (fun _ _=>aB) E<|aH 8 aa (fun _ _=>aB) E<|hn ag<|tn<|M _ _<|rt<|f2 aa aa aa<|⟨by rw [OE I ab]; rfl,O.trans E⟩
theorem KZ (ps:List Tx) (a:Option Addr) (c:Nat) (s:Tx) (w:World) (U:aI w.heap a (ps.map str)) (aG:ps.length≤4096) (Y:∀ t∈ps,(t.length=1∨3≤t.length)∧t.length≤1048576):
 bh ay 188 (ba [.slice a ps.length c,str s]) w (fun v w'=>v= .bool (n7 ps s)∧Wk w w'):=by
 refine enter func188 aa ntmps188 aa<|aj fun _ Z=>aw<|Z _ _<|sq fun _ ah=>aj fun _ ai=>ak (str s)<|p (cg u9 aa aa)<|ak (.slice a ps.length c)<|p (bF r8 aa aa)<|p (lt aa aa)<|aE<|ai _ _<|cd aa (fun av=> ?_) fun av=> ?_
 exact aj fun _ I=>aw<|I _ _<|rt<|tr<|f1 aa aa<|⟨by rw [LI ab]; rfl,Md.refl _ _⟩
 refine aM<|tn<|ah _ _<|sq fun _ I=>aj fun _ al=>aw<|al _ _<|aJ<|lp (fun O G A=> ∃ (i:Nat),(i≤ps.length)∧(∀ k,k < i→cB (ps.getD k []) (s.getD k 0)=true)∧(Wk w A)∧(G 0= .slice a ps.length c)∧(G 1=str s)∧(G 5=au i)∧(ps.length - i=O)) _ ⟨0,ab,(fun k hk=>absurd hk<|NY _),(Md.refl _ _),aa,aa,aa,aa⟩ ?_
 rintro O G A ⟨i,hi,V,C,az,aA,aC,rfl⟩
 refine fx 0 az<|fx 1 aA<|fx 5 aC<|sq fun _ am=>aj fun _ an=>ak (au i)<|ak (.slice a ps.length c)<|p (bF r8 aa aa)<|p (lt aa aa)<|aE<|an _ _<|cd aa (fun ax=> ?_) fun ax=> ?_
 refine aM<|tn<|am _ _<|sq fun _ J=>aJ<|sq fun _ ao=> ?_
 have q:(fun w'=>Wk A w') A.drew:=(Md.refl _ _).drew
 refine bJ (fun w'=>Wk A w') aa wide q<|bC 0 aa (.slice a ps.length c) q<|bC 1 aa (au i) q<|aH 2 aa (fun _ _=>a7 HF aa aa ab<|aI.ok (U.wk C)<|bP ab) q<|aH 3 aa (fun w' ar=>cT sO aa (aa) (show ∀ j,j < 1→Hb.aO w'.heap (bk a) (fo a+i*1 +j)= [str (ps.getD i [])][j]? from fun j aF=>by cases j with | zero=>exact Wk.aO ar (JH (U.wk C) ab) | succ j=>omega)) q<|bC 4 aa (str s) q<|bC 5 aa (au i) q<|aH 6 aa (fun _ _=>eK u9 aa aa ab) q<|he 7 aa ag<|cl AT (E2 (ps.getD i []) (s.getD i 0) A.drew (Y _<|dQ ab).1 (Y _<|dQ ab).2) aa fun aK aD aq=> ?_
 obtain ⟨rfl,ap⟩:=aq
 have E:(fun w'=>Wk A w') aD:=q.trans ap
 refine ⟨E,?_⟩
 refine aH 8 aa (fun _ _=>aB) E<|hn ag<|tn<|ao _ _<|aj fun _ ac=>p mv<|p (no aa)<|nl<|tn<|ac _ _<|cb aa (fun M=> ?_) fun M=> ?_
 exact aj fun _ ae=>aw<|ae _ _<|rt<|br<|tr<|tr<|br<|tr<|f1 aa aa<|⟨by rw [LH (i:=i) ab (by simpa using M)]; rfl,C.trans E⟩
 exact aM<|bn<|tn<|J _ _<|rg aa<|ak (au i)<|p (bE ((i+1:Nat):Int) aa aa<|bj ab ab)<|p aB<|nl<|tn<|⟨_,ab,i+1,ab,(fun k hk=>by rcases NX.1 hk with h | rfl; exact V k h; simpa using M),(C.trans E),aa,aa,aa,aa⟩
 exact ext<|te _<|te _<|be<|tn<|I _ _<|aj fun _ J=>p aB<|aE<|J _ _<|rt<|f1 aa aa<|⟨by rw [LJ ab (fun k hk=>V k ab)]; rfl,C⟩
theorem Xf (ps:List Tx) (a:Option Addr) (c:Nat) (s:Tx) (w:World) (C:aI w.heap a (ps.map str)) (J:ps.length≤4096) (O:s.length≤1048576) (M:∀ t∈ps,(t.length=1∨3≤t.length)∧t.length≤1048576):
 bh ay 187 (ba [.slice a ps.length c,str s]) w (fun v w'=>v= .bool (qz ps s)∧Wk w w'):=by
 refine enter func187 aa ntmps187 aa<|aj fun _ j=>aw<|j _ _<|sq fun _ q=>aj fun _ A=>ak (str s)<|p (cg u9 aa aa)<|ak (.slice a ps.length c)<|p (bF r8 aa aa)<|p (lt aa aa)<|aE<|A _ _<|cd aa (fun I=> ?_) fun I=> ?_
 exact aj fun _ i=>aw<|i _ _<|rt<|tr<|f1 aa aa<|⟨by unfold qz; rw [decide_eq_false (show ¬ps.length≤s.length by omega)]; rfl,Md.refl _ _⟩
 refine aM<|tn<|q _ _<|aj fun _ i=>ak (.slice a ps.length c)<|ak (str s)<|ak (str s)<|p (cg u9 aa aa)<|ak (.slice a ps.length c)<|p (bF r8 aa aa)<|p (dJ ((s.length - ps.length:Nat):Int) aa aa<|bj ab ab)<|p (l8 u9 aa aa ab)<|e<|cl F4 (KZ ps a c (s.drop<|s.length - ps.length) w C J M) aa fun U V G=> ?_
 obtain ⟨rfl,E⟩:=G
 exact aw<|i _ _<|rt<|f1 aa aa<|⟨by unfold qz; rw [decide_eq_true (show ps.length≤s.length by omega)]; rfl,E⟩
theorem Xp (r:c8) (u:Value) (s:Tx) (w:World) (a0:r.strip.length≤1048576) (aS:r.add.length≤1048576) (aU:r.cond.length≤1048576) (a1:s.length≤1048576):
 bh ay 123 (ba [.agg (jv (r,u)).toArray,str s]) w (fun v w'=>v= .bool (iu r s)∧Wk w w'):=by
 refine enter func123 aa ntmps123 aa<|aj fun _ au=>e<|iV aa fun aC ar aQ aF aD=> ?_
 have aZ:((r,u):c8×Value).1.strip.length=r.strip.length:=rfl
 have aY:((r,u):c8×Value).1.kind=r.kind:=rfl
 have aV:((r,u):c8×Value).1.add.length=r.add.length:=rfl
 have al:bL ar.heap aC (jv (r,u)):=aD
 refine aw<|au _ _<|aj fun _ av=>p (fa BZ aa)<|p (ld bR aa<|al.bB 5)<|e<|cl F3 (KG r.cond ar ab) aa fun a2 aq aG=> ?_
 obtain ⟨⟨ac,rfl,an⟩,hE13⟩:=aG
 obtain ⟨a,c,rfl⟩:=cw an
 have am:=(aX an).2
 have U:= @GU r.cond
 have ao:∀ t∈(da r.cond).1,(t.length=1∨3≤t.length)∧t.length≤1048576:=fun t ap=>⟨(U.1 t ap).1,by have :=(U.1 t ap).2; omega⟩
 have C:=Wk.B hE13 al
 have q:=aF.md.trans hE13
 have aR:=U.2
 refine p mv<|p (xt aa aa)<|p (xt aa aa)<|p aB<|aw<|av _ _<|sq fun _ ax=>rg aa<|p (fa ti aa)<|p (ld bR aa<|C.bB 3)<|p (cg u9 aa aa)<|aw<|ax _ _<|sq fun _ az=>aj fun _ ai=>p mv<|p (cX aa aa)<|p mv<|gs (t:=21) aa (fun aK=> ?_) fun aK=> ?_
 exact sk aa aa aa aa<|sk aa aa aa aa<|sk aa aa aa aa<|sk aa aa aa aa<|p (bw aa)<|aE<|ai _ _<|ct aa<|aj fun _ A=>aw<|A _ _<|rt<|tr<|f1 aa aa<|⟨by rw [HW ab]; rfl,q⟩
 refine pg aa aa aa (aT (str s) aa)<|pg aa aa aa (cg u9 aa aa)<|pg aa aa aa mv<|pg aa aa aa (le aa aa)<|p (bm aa)<|aE<|ai _ _<|cd aa (fun aP=> ?_) fun aP=> ?_
 exact aj fun _ A=>aw<|A _ _<|rt<|tr<|f1 aa aa<|⟨by rw [HX ab]; rfl,q⟩
 refine aM<|tn<|az _ _<|sq fun _ A=>aj fun _ aA=>p (fa u0 aa)<|p (ld bA aa<|C.bB 0)<|p (bH aa aa)<|aE<|aA _ _<|cd aa (fun aN=> ?_) fun aN=> ?_
 refine aj fun _ I=>p mv<|ak (str s)<|e<|cl Pz (Xf (da r.cond).1 a c s aq am ab ab ao) aa fun a3 Z aI=> ?_
 obtain ⟨rfl,J⟩:=aI
 refine aw<|I _ _<|sq fun _ E=> ?_
 have i:(fun w'=>Wk Z w') Z.drew:=(Md.refl _ _).drew
 refine bJ (fun w'=>Wk Z w') aa wide i<|aH 0 aa (fun _ _=>mv) i<|aH 1 aa (fun _ _=>mv) i<|yE (t:=34) aa (fun Y=> ?_) fun Y=> ?_
 exact bf 2 aa ag aa aa aa (fun _ _=>aT (str s) aa) i<|bf 3 aa ag aa aa aa (fun _ _=>aT (str s) aa) i<|bf 4 aa ag aa aa aa (fun _ _=>cg u9 aa aa) i<|bf 5 aa ag aa aa aa (fun _ _=>mv) i<|bf 6 aa ag aa aa aa (fun _ _=>dJ ((s.length - r.strip.length:Nat):Int) aa aa<|bj ab ab) i<|bf 7 aa ag aa aa aa (fun _ _=>l8 u9 aa aa ab) i<|bf 8 aa ag aa aa aa (fun _ _=>fa ti aa) i<|bf 9 aa ag aa aa aa (fun w' O=>ld bR aa<|Wk.aO O<|(Wk.B J C).bB 3) i<|bf 10 aa ag aa aa aa (fun _ _=>dR aa aa) i<|aH 11 aa (fun _ _=>bw aa) i<|aH 12 aa (fun _ _=>aB) i<|hn ag<|tn<|E _ _<|rt<|tr<|f1 aa aa<|⟨by rw [x8 ab ab ab,Y,D9]; rfl,q.trans<|J.trans i⟩
 exact aW 2 aa ag aa aa aa aa i<|aW 3 aa ag aa aa aa aa i<|aW 4 aa ag aa aa aa aa i<|aW 5 aa ag aa aa aa aa i<|aW 6 aa ag aa aa aa aa i<|aW 7 aa ag aa aa aa aa i<|aW 8 aa ag aa aa aa aa i<|aW 9 aa ag aa aa aa aa i<|aW 10 aa ag aa aa aa aa i<|aH 11 aa (fun _ _=>bm aa) i<|aH 12 aa (fun _ _=>aB) i<|hn ag<|tn<|E _ _<|rt<|tr<|f1 aa aa<|⟨by rw [x8 ab ab ab,Y,wi]; rfl,q.trans<|J.trans i⟩
 refine aM<|tn<|A _ _<|sq fun _ I=>aj fun _ E=>p (fa u0 aa)<|p (ld bA aa<|C.bB 0)<|p (bH aa aa)<|aE<|E _ _<|cd aa (fun aL=> ?_) fun aL=> ?_
 refine aj fun _ G=>p mv<|ak (str s)<|e<|cl F4 (KZ (da r.cond).1 a c s aq am ab ao) aa fun a4 ae aJ=> ?_
 obtain ⟨rfl,M⟩:=aJ
 refine aw<|G _ _<|sq fun _ ah=> ?_
 have j:(fun w'=>Wk ae w') ae.drew:=(Md.refl _ _).drew
 refine bJ (fun w'=>Wk ae w') aa wide j<|aH 0 aa (fun _ _=>mv) j<|aH 1 aa (fun _ _=>mv) j<|yE (t:=52) aa (fun V=> ?_) fun V=> ?_
 exact bf 2 aa ag aa aa aa (fun _ _=>aT (str s) aa) j<|bf 3 aa ag aa aa aa (fun _ _=>mv) j<|bf 4 aa ag aa aa aa (fun _ _=>r5 u9 aa aa ab) j<|bf 5 aa ag aa aa aa (fun _ _=>fa ti aa) j<|bf 6 aa ag aa aa aa (fun w' O=>ld bR aa<|Wk.aO O<|(Wk.B M C).bB 3) j<|bf 7 aa ag aa aa aa (fun _ _=>dR aa aa) j<|aH 8 aa (fun _ _=>bw aa) j<|aH 9 aa (fun _ _=>aB) j<|hn ag<|tn<|ah _ _<|rt<|tr<|f1 aa aa<|⟨by rw [x6 ab ab ab,V,D9]; rfl,q.trans<|M.trans j⟩
 exact aW 2 aa ag aa aa aa aa j<|aW 3 aa ag aa aa aa aa j<|aW 4 aa ag aa aa aa aa j<|aW 5 aa ag aa aa aa aa j<|aW 6 aa ag aa aa aa aa j<|aW 7 aa ag aa aa aa aa j<|aH 8 aa (fun _ _=>bm aa) j<|aH 9 aa (fun _ _=>aB) j<|hn ag<|tn<|ah _ _<|rt<|tr<|f1 aa aa<|⟨by rw [x6 ab ab ab,V,wi]; rfl,q.trans<|M.trans j⟩
 exact aM<|tn<|I _ _<|aj fun _ G=>aw<|G _ _<|rt<|f1 aa aa<|⟨by rw [HV ab ab]; rfl,q⟩
theorem Df (r:c8) (u:Value) (s:Tx) (w:World) (aq:r.strip.length≤1048576) (ao:r.add.length≤1048576) (ap:r.cond.length≤1048576) (ar:s.length≤1048576):
 bh ay 77 (ba [.agg (jv (r,u)).toArray,str s]) w (fun v w'=>v=Ko (dA r s)∧Wk w w'):=by
 refine enter func77 aa ntmps77 aa<|aj fun _ Y=>e<|iV aa fun ai V au am al=> ?_
 have aC:((r,u):c8×Value).1.strip.length=r.strip.length:=rfl
 have aA:((r,u):c8×Value).1.kind=r.kind:=rfl
 have az:((r,u):c8×Value).1.add.length=r.add.length:=rfl
 have O:bL V.heap ai (jv (r,u)):=al
 refine p aB<|aw<|Y _ _<|aj fun _ Z=>p (cT rv aa (aa) fun j ax=>O.bB j)<|ak (str s)<|e<|cl O7 (Xp r u s V aq ao ap ar) aa fun v9 A an=> ?_
 obtain ⟨rfl,U⟩:=an
 have C:=Wk.B U O
 have J:=am.md.trans U
 refine aw<|Z _ _<|sq fun _ ac=>aj fun _ ae=>p mv<|p (no aa)<|aE<|ae _ _<|cb aa (fun M=> ?_) fun M=> ?_
 have E:iu r s=false :=by simpa using M
 exact aj fun _ G=>p aB<|aw<|G _ _<|rt<|tr<|f2 aa aa aa<|⟨by rw [Fs E]; rfl,J⟩
 have E:iu r s=true :=by simpa using M
 have av:=(x7 E).1
 refine aM<|tn<|ac _ _<|sq fun _ G=>aj fun _ ah=>p (fa u0 aa)<|p (ld bA aa<|C.bB 0)<|p (bH aa aa)<|aE<|ah _ _<|cd aa (fun hk=> ?_) fun hk=> ?_
 refine sq fun _ I=> ?_
 have a:(fun w'=>Wk A w') A.drew:=(Md.refl _ _).drew
 exact bJ (fun w'=>Wk A w') aa wide a<|bC 0 aa (str s) a<|bC 1 aa (str s) a<|aH 2 aa (fun _ _=>cg u9 aa aa) a<|aH 3 aa (fun _ _=>fa ti aa) a<|aH 4 aa (fun w' q=>ld bR aa<|Wk.aO q<|C.bB 3) a<|aH 5 aa (fun _ _=>cg u9 aa aa) a<|aH 6 aa (fun _ _=>dJ ((s.length - r.strip.length:Nat):Int) aa aa<|bj ab ab) a<|aH 7 aa (fun _ _=>r5 u9 aa aa ab) a<|aH 8 aa (fun _ _=>fa BY aa) a<|aH 9 aa (fun w' q=>ld bR aa<|Wk.aO q<|C.bB 4) a<|aH 10 aa (fun _ _=>cc aa aa<|by simp only [List.length_take]; omega) a<|aH 11 aa (fun _ _=>aB) a<|aH 12 aa (fun _ _=>aB) a<|hn ag<|tn<|I _ _<|rt<|tr<|f2 aa aa aa<|⟨by rw [OH E ab]; rfl,J.trans a⟩
 refine aM<|tn<|G _ _<|sq fun _ I=> ?_
 have i:(fun w'=>Wk A w') A.drew:=(Md.refl _ _).drew
 exact bJ (fun w'=>Wk A w') aa wide i<|aH 0 aa (fun _ _=>fa BY aa) i<|aH 1 aa (fun w' q=>ld bR aa<|Wk.aO q<|C.bB 4) i<|bC 2 aa (str s) i<|aH 3 aa (fun _ _=>fa ti aa) i<|aH 4 aa (fun w' q=>ld bR aa<|Wk.aO q<|C.bB 3) i<|aH 5 aa (fun _ _=>cg u9 aa aa) i<|aH 6 aa (fun _ _=>l8 u9 aa aa ab) i<|aH 7 aa (fun _ _=>cc aa aa<|by simp only [List.length_drop]; omega) i<|aH 8 aa (fun _ _=>aB) i<|aH 9 aa (fun _ _=>aB) i<|hn ag<|tn<|I _ _<|rt<|f2 aa aa aa<|⟨by rw [OF E ab]; rfl,J.trans i⟩
end Go.Hb.pw
end
section
set_option maxRecDepth 20000
set_option maxHeartbeats 1000000
namespace Go.Hb.qe
open Go.Hb.dT
open Go.Proofs
open Go.Hb.fq Go.Hb.fQ Go.Hb.gn Go.Hb.jF Go.Hb.iK Go.Hb.kH Go.Hb.iM Go.Hb.j4 Go.Hb.kK Go.Hb.k0 Go.Hb.lA Go.Hb.lR Go.Hb.mj Go.Hb.ml Go.Hb.jP Go.Hb.lC Go.Hb.mV Go.Hb.nE Go.Hb.ox Go.Hb.pw
def eC (d:cx):List Value:= [str d.kG,.int .i64 (d.s9:Nat),.int .i64 d.fst,.int .i64 d.snd,.int .i64 d.pre]
def iX (l:List cx):List Value:=l.flatMap eC
def qy (d:cx):Array Value:= #[.agg (eC d).toArray]
theorem oB {h:Array Obj} {b e:Nat} {L:List Value} (a:h[b]? =some (.cells L.toArray e (0,0))):bL h b L:=⟨e,a⟩
def Rn (F:aR) (n:Int):Prop :=n= -1∨(0≤n∧n < F.rules.length)
section
variable {F:aR} {xs:List bD} {e:Nat} {f s p:Int}
theorem IK (a:f= -1) (hp:p= -1):fi F xs e f s p= !rP F xs e 0:=by unfold fi; rw [if_pos a,decide_eq_false (fun h=>h hp)]; rfl
theorem IL (a:f= -1) (hp:p≠ -1):fi F xs e f s p=true :=by unfold fi; rw [if_pos a,decide_eq_true hp]; rfl
theorem Co (a:f≠ -1) (h:nM F (if s= -1 then f else s)=false):fi F xs e f s p=false :=by unfold fi; rw [if_neg a,if_pos h]
theorem Cn (a:f≠ -1) (h:nM F (if s= -1 then f else s)=true) (hp:p= -1):fi F xs e f s p=true :=by unfold fi; rw [if_neg a,if_neg (by rw [h]; exact eb),decide_eq_true hp]; rfl
theorem pN (a:f≠ -1) (h:nM F (if s= -1 then f else s)=true) (hp:p≠ -1):fi F xs e f s p=(lG F f && lG F s && lG F p):=by unfold fi; rw [if_neg a,if_neg (by rw [h]; exact eb),decide_eq_false hp]; rfl
theorem GY:lG F (-1)=true :=by unfold lG; rw [decide_eq_true rfl]; rfl
theorem s5 {k:Nat} {r:c8} (a:F.rules[k]? =some r):lG F k=r.ei:=by
 unfold lG
 rw [decide_eq_false ab,mS,cQ,a]; rfl
end
theorem JI (F:aR) (xs:List bD) (e:Int):l5 F xs e 0=rP F xs e 0:=rfl
theorem DM {α β:Type} {g:α→Option β} {l:List α} {i:Nat} (d:α) (h:i < l.length):(l.take<|i+1).filterMap g=(l.take i).filterMap g++(g<|l.getD i d).toList:=by
 rw [fD l i d h,zV]
 congr 1
structure sH where
 ar:Option Addr
 cr:Nat
 rn:List Value
 ap:Option Addr
 cp:Nat
def nV (tb l:Nat) (K:sH) (F:aR) (e:Int) (word:Tx) (ps:List Nat):List Value:= [.pointer (some ⟨tb,0,none⟩),.slice K.ar F.rules.length K.cr,.int .i64 e,str word,.slice K.ap ps.length K.cp,.func (.yield l) #[] #[]]
structure jG (w:World) (fp:Nat→Prop) (S0 mb tb l:Nat) (K:sH) (F:aR) (e:Int) (word:Tx) (ps:List Nat):Prop where
 lo:S0≤mb
 cells:w.heap[mb]? =some (.cells (nV tb l K F e word ps).toArray 183 (0,0))
 nf:¬fp mb
 ru:bo w S0 77 7 (.slice K.ar F.rules.length K.cr) F.rules.length (iQ<|F.rules.zip K.rn)
 rf:∀ k,(bO K.ar F.rules.length K.cr).ownBlock=some k→¬fp k
 rn:K.rn.length=F.rules.length
 pr:bo w S0 3 1 (.slice K.ap ps.length K.cp) ps.length (ps.map bM)
 pf:∀ k,(bO K.ap ps.length K.cp).ownBlock=some k→¬fp k
section
variable {w w':World} {fp fp':Nat→Prop} {S0 mb tb l:Nat} {K:sH} {F:aR} {e:Int} {word:Tx} {ps:List Nat}
theorem jG.gw (h:jG w fp S0 mb tb l K F e word ps) (a:Gw S0 fp w fp' w'):jG w' fp' S0 mb tb l K F e word ps:=
 ⟨h.lo,(a.aJ h.cells h.lo h.nf).1,(a.aJ h.cells h.lo h.nf).2,(a.own h.ru h.rf).1,(a.own h.ru h.rf).2,h.rn,(a.own h.pr h.pf).1,(a.own h.pr h.pf).2⟩
theorem jG.wk (h:jG w fp S0 mb tb l K F e word ps) (hm:Wk w w'):jG w' fp S0 mb tb l K F e word ps:=h.gw<|Gw.wk hm
theorem jG.vw (h:jG w fp S0 mb tb l K F e word ps) {G:Nat→Prop} (hm:Md G w w') {L:List Nat} (i:TF w L G) (a:(L.contains 185 || L.contains 79 || L.contains 5)=false):jG w' fp S0 mb tb l K F e word ps:=by
 simp only [Bool.or_eq_false_iff] at a
 exact ⟨h.lo,hm.gy i h.cells a.1.1,h.nf,bZ h.ru hm i a.1.2,h.rf,h.rn,bZ h.pr hm i a.2,h.pf⟩
theorem jG.iD (h:jG w fp S0 mb tb l K F e word ps) {k:Nat} {r:c8} (a:F.rules[k]? =some r):∃ u,(F.rules.zip K.rn)[k]? =some (r,u):=by
 have hk:=(fJ.1 a).1
 have i:k < K.rn.length:=by rw [h.rn]; exact hk
 exact ⟨K.rn[k],jx.2 ⟨a,cz i⟩⟩
end
theorem KD {α:Type} {a b c:List α} (h:b <+:c):a++b <+:a++c:=by obtain ⟨t,rfl⟩:=h; exact ⟨t,by rw [dC]⟩
theorem G0 {F:aR} {xs:List bD} {e:Nat} {word:Tx} {f s:Int} {p:Nat} (h:fi F xs e f s p=false):jt F xs e word f s p=none:=if_neg<|by rw [h]; exact eb
theorem GZ {F:aR} {xs:List bD} {e:Nat} {word:Tx} {f s:Int} {p:Nat} (h:dA (F.rules.getD p eT) word=none):jt F xs e word f s p=none:=by unfold jt; rw [h]; split <;> rfl
theorem G1 {F:aR} {xs:List bD} {e:Nat} {word v:Tx} {f s:Int} {p:Nat} (h:fi F xs e f s p=true) (h1:dA (F.rules.getD p eT) word=some v):jt F xs e word f s p=some ⟨v,e,f,s,p⟩:=by unfold jt; rw [if_pos h,h1]; rfl
theorem IM (B tb:Nat) (ap:iU) (F:aR) (xs:List bD) (ar:Option Addr) (cr:Nat) (rn:List Value) (word:Tx) (en:Nat) (f s pp:Int) (w:World) (aY:gp w B tb ap F xs) (aC:eR F xs) (aT:aI w.heap ar (iQ<|F.rules.zip rn)) (al:rn.length=F.rules.length) (ae:Rn F f) (hs:Rn F s) (hp:Rn F pp):
 bh ay 57 (ba [aQ tb,.slice ar F.rules.length cr,.agg (eC ⟨word,en,f,s,pp⟩).toArray]) w (fun v w'=>v= .bool (fi F xs en f s pp)∧Wk w w'):=by
 refine enter func57 aa ntmps57 aa<|aj fun _ aO=>e<|iV aa fun aP ao a ax aS=> ?_
 have a8:=ax.size
 have U:=aY.wk ax.md
 have a:bL ao.heap aP [str word,au en,.int .i64 f,.int .i64 s,.int .i64 pp]:=aS
 have j:Wk w ao:=ax.md
 have G:=aT.wk ax.md
 refine aw<|aO _ _<|sq fun _ aG=>aJ<|aj fun _ aK=>p (fa rI aa)<|p (ld bA aa<|a.bB 2)<|p (lt aa aa)<|p mv<|gs (t:=11) aa (fun aD=> ?_) fun aD=> ?_
 refine pg aa aa aa (fa rJ aa)<|pg aa aa aa (ld bA aa<|a.bB 4)<|pg aa aa aa (lt aa aa)<|p (bw aa)<|aw<|aK _ _<|cd aa (fun a5=> ?_) fun a5=> ?_
 refine aj fun _ ag=>p mv<|p (fa Iq aa)<|p (ld bA aa<|a.bB 1)<|e<|cl Qy (CN B tb ap F xs (en:Nat) 0 ao U aC) aa fun a9 bd aV=> ?_
 obtain ⟨rfl,aU⟩:=aV
 refine p (no aa)<|aw<|ag _ _<|rt<|br<|tr<|f1 aa aa ?_
 have i:fi F xs en f s pp= !l5 F xs en 0:=by rw [IK (by unfold Rn at ae; omega) (by unfold Rn at hp; omega),JI]
 exact ⟨Eq.trans (b:=bQ<|!l5 F xs en 0) aa (congrArg bQ i.symm),j.trans aU⟩
 refine aj fun _ ag=>p (fa rI aa)<|p (ld bA aa<|a.bB 2)<|p (lt aa aa)<|aw<|ag _ _<|cd aa (fun aZ=> ?_) fun h=>absurd aD h
 refine aj fun _ ah=>aw<|ah _ _<|rt<|br<|tr<|f1 aa aa ?_
 have i:fi F xs en f s pp=true :=by exact IL (by unfold Rn at ae; omega) ab
 exact ⟨Eq.trans (b:=bQ<|true) aa (congrArg bQ i.symm),j⟩
 refine sk aa aa aa aa<|sk aa aa aa aa<|sk aa aa aa aa<|p (bm aa)<|aw<|aK _ _<|cf aa<|aj fun _ ag=>p (fa rI aa)<|p (ld bA aa<|a.bB 2)<|p (lt aa aa)<|aw<|ag _ _<|cd aa (fun h=>absurd h aD) fun aZ=> ?_
 refine sq fun _ ah=>aj fun _ aL=>p (fa qB aa)<|p (ld bA aa<|a.bB 3)<|p (lt aa aa)<|p mv<|gs (t:=29) aa (fun aF=> ?_) fun aF=> ?_
 refine pg aa aa aa mv<|pg aa aa aa (fa rI aa)<|pg aa aa aa (ld bA aa<|a.bB 2)<|eg aa aa aa<|cl xE (Ht B tb ap F xs f ao U aC) aa fun bb bf aW=> ?_
 obtain ⟨rfl,aq⟩:=aW
 have U:=U.wk aq
 have a:=Wk.B aq a
 have j:=j.trans aq
 have G:=G.wk aq
 refine pg aa aa aa (no aa)<|p (bw aa)<|aw<|aL _ _<|cb aa (fun q=> ?_) fun q=> ?_
 refine aM<|tn<|ah _ _<|ct (congrArg bQ q)<|aj fun _ O=>aw<|O _ _<|rt<|br<|tr<|f1 aa aa ?_
 have i:fi F xs en f s pp=false :=by exact Co ab<|by rw [if_pos (show s= -1 by unfold Rn at hs; omega)]; simpa using q
 exact ⟨Eq.trans (b:=bQ<|false) aa (congrArg bQ i.symm),j⟩
 refine rg aa<|p (fa qB aa)<|p (ld bA aa<|a.bB 3)<|p (ge aa aa)<|p mv<|gs (t:=39) aa (fun h=>absurd h ab) fun a1=>sk aa aa aa aa<|sk aa aa aa aa<|sk aa aa aa aa<|sk aa aa aa aa<|sk aa aa aa aa<|p (bm aa)<|p aB<|nl<|tn<|ah _ _<|cf aa<|aj fun _ O=>p (fa rJ aa)<|p (ld bA aa<|a.bB 4)<|p (lt aa aa)<|p aB<|aE<|O _ _<|cd aa (fun aH=> ?_) fun aH=> ?_
 refine aj fun _ E=>aw<|E _ _<|rt<|br<|tr<|f1 aa aa ?_
 have i:fi F xs en f s pp=true :=by exact Cn ab (by rw [if_pos (show s= -1 by unfold Rn at hs; omega)]; simpa using q)<|by unfold Rn at hp; omega
 exact ⟨Eq.trans (b:=bQ<|true) aa (congrArg bQ i.symm),j⟩
 obtain ⟨C,rfl⟩:∃ m:Nat,pp=(m:Int):=⟨(pp).toNat,by unfold Rn at hp; omega⟩
 obtain ⟨Z,J⟩:∃ r,F.rules[C]? =some r:=⟨_,cz<|by unfold Rn at hp; omega⟩
 have an:(F.rules.zip rn)[C]? =some (Z,rn[C]'(by rw [al]; exact (fJ.1 J).1)):=jx.2 ⟨J,cz _⟩
 have ak:=s5 J
 have a4:=(fJ.1 J).1
 obtain ⟨A,rfl⟩:∃ m:Nat,f=(m:Int):=⟨(f).toNat,by unfold Rn at ae; omega⟩
 obtain ⟨rf,I⟩:∃ r,F.rules[A]? =some r:=⟨_,cz<|by unfold Rn at ae; omega⟩
 have am:(F.rules.zip rn)[A]? =some (rf,rn[A]'(by rw [al]; exact (fJ.1 I).1)):=jx.2 ⟨I,cz _⟩
 have ai:=s5 I
 have a3:=(fJ.1 I).1
 have ac:=G
 refine aM<|bn<|tn<|aG _ _<|aj fun _ E=>p mv<|p (fa rJ aa)<|p (ld bA aa<|a.bB 4)<|p (a7 na aa aa ab<|aI.ok (G)<|nY an)<|p (fa vl aa)<|p (ld mY aa<|e9 (f:=fk) (m:=7) (fun _=>rfl) ac an 2 az)<|p mv<|gb (t:=56) aa (fun Y=> ?_) fun Y=> ?_
 refine pg aa aa aa mv<|pg aa aa aa (fa rI aa)<|pg aa aa aa (ld bA aa<|a.bB 2)<|pg aa aa aa (a7 na aa aa ab<|aI.ok (G)<|nY am)<|pg aa aa aa (fa vl aa)<|pg aa aa aa (ld mY aa<|e9 (f:=fk) (m:=7) (fun _=>rfl) ac am 2 az)<|p (bw aa)<|p mv<|gb (t:=64) aa (fun V=> ?_) fun V=> ?_
 refine pg aa aa aa (fa qB aa)<|pg aa aa aa (ld bA aa<|a.bB 3)<|pg aa aa aa (lt aa aa)<|pg aa aa aa mv<|gs (t:=68) aa (fun a2=> ?_) fun h=>absurd aF h
 refine sk aa aa aa aa<|sk aa aa aa aa<|sk aa aa aa aa<|sk aa aa aa aa<|sk aa aa aa aa<|sk aa aa aa aa<|pg aa aa aa (bw aa)<|p (bw aa)<|aw<|E _ _<|rt<|f1 aa aa ?_
 have i:fi F xs en ((A:Nat):Int) s ((C:Nat):Int)=true :=by rw [pN ab (by rw [if_pos (show s= -1 by unfold Rn at hs; omega)]; simpa using q) ab,ai,ak,show s= -1 by (unfold Rn at hs; omega),GY,(show rf.ei=true from V),(show Z.ei=true from Y)]; rfl
 exact ⟨Eq.trans (b:=bQ<|true) aa (congrArg bQ i.symm),j⟩
 refine sk aa aa aa aa<|sk aa aa aa aa<|sk aa aa aa aa<|sk aa aa aa aa<|dV aa aa aa<|dV aa aa aa<|dV aa aa aa<|dV aa aa aa<|dV aa aa aa<|dV aa aa aa<|sk aa aa aa aa<|p (bm aa)<|aw<|E _ _<|rt<|f1 aa aa ?_
 have i:fi F xs en ((A:Nat):Int) s ((C:Nat):Int)=false :=by rw [pN ab (by rw [if_pos (show s= -1 by unfold Rn at hs; omega)]; simpa using q) ab,ai,(show rf.ei=false from V)]; rfl
 exact ⟨Eq.trans (b:=bQ<|false) aa (congrArg bQ i.symm),j⟩
 refine sk aa aa aa aa<|sk aa aa aa aa<|sk aa aa aa aa<|sk aa aa aa aa<|sk aa aa aa aa<|sk aa aa aa aa<|p (bm aa)<|p mv<|sk aa aa aa aa<|sk aa aa aa aa<|sk aa aa aa aa<|sk aa aa aa aa<|dV aa aa aa<|dV aa aa aa<|dV aa aa aa<|dV aa aa aa<|dV aa aa aa<|dV aa aa aa<|sk aa aa aa aa<|p (bm aa)<|aw<|E _ _<|rt<|f1 aa aa ?_
 have i:fi F xs en ((A:Nat):Int) s ((C:Nat):Int)=false :=by rw [pN ab (by rw [if_pos (show s= -1 by unfold Rn at hs; omega)]; simpa using q) ab,ak,(show Z.ei=false from Y),wi]
 exact ⟨Eq.trans (b:=bQ<|false) aa (congrArg bQ i.symm),j⟩
 refine sk aa aa aa aa<|sk aa aa aa aa<|sk aa aa aa aa<|sk aa aa aa aa<|sk aa aa aa aa<|p (bm aa)<|p aB<|nl<|tn<|aL _ _<|cf aa<|rg aa<|p (fa qB aa)<|p (ld bA aa<|a.bB 3)<|p (ge aa aa)<|p mv<|gs (t:=39) aa (fun a1=> ?_) fun h=>absurd ab h
 refine pg aa aa aa mv<|pg aa aa aa (fa qB aa)<|pg aa aa aa (ld bA aa<|a.bB 3)<|eg aa aa aa<|cl xE (Ht B tb ap F xs s ao U aC) aa fun bc bg aX=> ?_
 obtain ⟨rfl,av⟩:=aX
 have U:=U.wk av
 have a:=Wk.B av a
 have j:=j.trans av
 have G:=G.wk av
 refine pg aa aa aa (no aa)<|p (bw aa)<|aw<|ah _ _<|cb aa (fun q=> ?_) fun q=> ?_
 refine aj fun _ O=>aw<|O _ _<|rt<|br<|tr<|f1 aa aa ?_
 have i:fi F xs en f s pp=false :=by exact Co ab<|by rw [if_neg (show ¬s= -1 by omega)]; simpa using q
 exact ⟨Eq.trans (b:=bQ<|false) aa (congrArg bQ i.symm),j⟩
 refine aj fun _ O=>p (fa rJ aa)<|p (ld bA aa<|a.bB 4)<|p (lt aa aa)<|aw<|O _ _<|cd aa (fun aH=> ?_) fun aH=> ?_
 refine aj fun _ E=>aw<|E _ _<|rt<|br<|tr<|f1 aa aa ?_
 have i:fi F xs en f s pp=true :=by exact Cn ab (by rw [if_neg (show ¬s= -1 by omega)]; simpa using q)<|by unfold Rn at hp; omega
 exact ⟨Eq.trans (b:=bQ<|true) aa (congrArg bQ i.symm),j⟩
 obtain ⟨C,rfl⟩:∃ m:Nat,pp=(m:Int):=⟨(pp).toNat,by unfold Rn at hp; omega⟩
 obtain ⟨Z,J⟩:∃ r,F.rules[C]? =some r:=⟨_,cz<|by unfold Rn at hp; omega⟩
 have an:(F.rules.zip rn)[C]? =some (Z,rn[C]'(by rw [al]; exact (fJ.1 J).1)):=jx.2 ⟨J,cz _⟩
 have ak:=s5 J
 have a4:=(fJ.1 J).1
 obtain ⟨A,rfl⟩:∃ m:Nat,f=(m:Int):=⟨(f).toNat,by unfold Rn at ae; omega⟩
 obtain ⟨rf,I⟩:∃ r,F.rules[A]? =some r:=⟨_,cz<|by unfold Rn at ae; omega⟩
 have am:(F.rules.zip rn)[A]? =some (rf,rn[A]'(by rw [al]; exact (fJ.1 I).1)):=jx.2 ⟨I,cz _⟩
 have ai:=s5 I
 have a3:=(fJ.1 I).1
 obtain ⟨M,rfl⟩:∃ m:Nat,s=(m:Int):=⟨(s).toNat,by unfold Rn at hs; omega⟩
 obtain ⟨rs,aA⟩:∃ r,F.rules[M]? =some r:=⟨_,cz<|by unfold Rn at hs; omega⟩
 have aN:(F.rules.zip rn)[M]? =some (rs,rn[M]'(by rw [al]; exact (fJ.1 aA).1)):=jx.2 ⟨aA,cz _⟩
 have a0:=s5 aA
 have a6:=(fJ.1 aA).1
 have ac:=G
 refine aM<|bn<|tn<|aG _ _<|aj fun _ E=>p mv<|p (fa rJ aa)<|p (ld bA aa<|a.bB 4)<|p (a7 na aa aa ab<|aI.ok (G)<|nY an)<|p (fa vl aa)<|p (ld mY aa<|e9 (f:=fk) (m:=7) (fun _=>rfl) ac an 2 az)<|p mv<|gb (t:=56) aa (fun Y=> ?_) fun Y=> ?_
 refine pg aa aa aa mv<|pg aa aa aa (fa rI aa)<|pg aa aa aa (ld bA aa<|a.bB 2)<|pg aa aa aa (a7 na aa aa ab<|aI.ok (G)<|nY am)<|pg aa aa aa (fa vl aa)<|pg aa aa aa (ld mY aa<|e9 (f:=fk) (m:=7) (fun _=>rfl) ac am 2 az)<|p (bw aa)<|p mv<|gb (t:=64) aa (fun V=> ?_) fun V=> ?_
 refine pg aa aa aa (fa qB aa)<|pg aa aa aa (ld bA aa<|a.bB 3)<|pg aa aa aa (lt aa aa)<|pg aa aa aa mv<|gs (t:=68) aa (fun h=>absurd h aF) fun a2=>pg aa aa aa mv<|pg aa aa aa (fa qB aa)<|pg aa aa aa (ld bA aa<|a.bB 3)<|pg aa aa aa (a7 na aa aa ab<|aI.ok (G)<|nY aN)<|pg aa aa aa (fa vl aa)<|pg aa aa aa (ld mY aa<|e9 (f:=fk) (m:=7) (fun _=>rfl) ac aN 2 az)<|pg aa aa aa (bm aa)<|p (bw aa)<|aw<|E _ _<|rt<|f1 aa aa ?_
 have i:fi F xs en ((A:Nat):Int) ((M:Nat):Int) ((C:Nat):Int)=rs.ei:=by rw [pN ab (by rw [if_neg (show ¬((M:Nat):Int)= -1 by omega)]; simpa using q) ab,ai,a0,ak,(show rf.ei=true from V),(show Z.ei=true from Y),Bool.true_and,D9]
 exact ⟨Eq.trans (b:=bQ<|rs.ei) aa (congrArg bQ i.symm),j⟩
 refine sk aa aa aa aa<|sk aa aa aa aa<|sk aa aa aa aa<|sk aa aa aa aa<|dV aa aa aa<|dV aa aa aa<|dV aa aa aa<|dV aa aa aa<|dV aa aa aa<|dV aa aa aa<|sk aa aa aa aa<|p (bm aa)<|aw<|E _ _<|rt<|f1 aa aa ?_
 have i:fi F xs en ((A:Nat):Int) ((M:Nat):Int) ((C:Nat):Int)=false :=by rw [pN ab (by rw [if_neg (show ¬((M:Nat):Int)= -1 by omega)]; simpa using q) ab,ai,(show rf.ei=false from V)]; rfl
 exact ⟨Eq.trans (b:=bQ<|false) aa (congrArg bQ i.symm),j⟩
 refine sk aa aa aa aa<|sk aa aa aa aa<|sk aa aa aa aa<|sk aa aa aa aa<|sk aa aa aa aa<|sk aa aa aa aa<|p (bm aa)<|p mv<|sk aa aa aa aa<|sk aa aa aa aa<|sk aa aa aa aa<|sk aa aa aa aa<|dV aa aa aa<|dV aa aa aa<|dV aa aa aa<|dV aa aa aa<|dV aa aa aa<|dV aa aa aa<|sk aa aa aa aa<|p (bm aa)<|aw<|E _ _<|rt<|f1 aa aa ?_
 have i:fi F xs en ((A:Nat):Int) ((M:Nat):Int) ((C:Nat):Int)=false :=by rw [pN ab (by rw [if_neg (show ¬((M:Nat):Int)= -1 by omega)]; simpa using q) ab,ak,(show Z.ei=false from Y),wi]
 exact ⟨Eq.trans (b:=bQ<|false) aa (congrArg bQ i.symm),j⟩
end Go.Hb.qe
end
section
set_option maxRecDepth 20000
set_option maxHeartbeats 1000000
namespace Go.Hb.rm
open Go.Hb.dT
open Go.Proofs
open Go.Hb.fq Go.Hb.fQ Go.Hb.gn Go.Hb.jF Go.Hb.iK Go.Hb.kH Go.Hb.iM Go.Hb.j4 Go.Hb.kK Go.Hb.k0 Go.Hb.lA Go.Hb.lR Go.Hb.mj Go.Hb.ml Go.Hb.jP Go.Hb.lC Go.Hb.mV Go.Hb.nE Go.Hb.ox Go.Hb.qg Go.Hb.pw Go.Hb.qe
theorem nX {F:aR} {xs:List bD} (h:eR F xs) {k:Nat} {r:c8} (a:F.rules[k]? =some r):r.strip.length≤1048576∧r.add.length≤1048576∧r.cond.length≤1048576∧r.add.length≤32:=by
 have :=(h.iD a).2.2; unfold jQ at this; omega
theorem Tr {α β:Type} {g:α→Option β} (l:List α) (i:Nat):(l.take i).filterMap g <+:l.filterMap g:=by
 conv =>rhs; rw [← xe i l,zV]
 exact xc _ _
theorem QR {F:aR} {xs:List bD} {e:Nat} {word:Tx} {f s:Int} {pre tl a:List cx} {x:cx} (h:a=pre++(ew F xs e word f s++tl)) (i:kt F xs e word f s= [x]):
 a=pre++x::((aV F (flagsOf xs e) 1).filterMap (jt F xs e word f s)++tl):=by
 rw [h]; unfold ew; rw [i,dC]; rfl
theorem QQ {F:aR} {xs:List bD} {e:Nat} {word:Tx} {f s:Int} {pre tl a:List cx} {i:Nat} {x:cx} (h:a=pre++(ew F xs e word f s++tl)) (hi:i < (aV F (flagsOf xs e) 1).length) (j:jt F xs e word f s ((aV F (flagsOf xs e) 1).getD i 0)=some x):
 a=(pre++(kt F xs e word f s++((aV F (flagsOf xs e) 1).take i).filterMap (jt F xs e word f s)))++x::(((aV F (flagsOf xs e) 1).drop<|i+1).filterMap (jt F xs e word f s)++tl):=by
 have h2:(aV F (flagsOf xs e) 1).filterMap (jt F xs e word f s)=((aV F (flagsOf xs e) 1).take i).filterMap (jt F xs e word f s)++x::((aV F (flagsOf xs e) 1).drop<|i+1).filterMap (jt F xs e word f s):=by
  conv =>lhs; rw [← xe (i+1) (aV F (flagsOf xs e) 1),zV,DM 0 hi,j]
  rw [dC]; rfl
 unfold ew at h
 rw [h,h2]
 simp only [dC,List.cons_append]
theorem uX {α β:Type} {g:α→List β} {l:List α} {i:Nat} (d:α) (h:i < l.length):(l.take<|i+1).flatMap g=(l.take i).flatMap g++g (l.getD i d):=by
 rw [fD l i d h,ny,o0]
theorem H8 {α β:Type} {g:α→List β} {l:List α} {i:Nat} (d:α) (h:i < l.length):l.flatMap g=(l.take i).flatMap g++(g (l.getD i d)++(l.drop<|i+1).flatMap g):=by
 conv =>lhs; rw [← xe (i+1) l,ny,uX d h]
 rw [dC]
theorem Dd {α:Type} {C q s D R:List α} (a:R=C++(s++D)) (i:q <+:s):C++q <+:R:=by rw [a]; exact KD<|i.trans<|xc _ _
theorem A9 (B tb:Nat) (aZ:iU) (F:aR) (xs:List bD) (ae:eR F xs) (M S0 mb:Nat) (bH:List cx) (an:Bool→List cx→(Nat→Prop)→World→Prop) (I:Yc ay M S0 qy bH (fun W=>gp W B tb aZ F xs) an) (K:sH) (bK:Int) (O:Tx) (ps:List Nat) (pre:List cx) (fp:Nat→Prop) (en:Nat) (word:Tx) (f s:Int) (w:World) (aN:jG w fp S0 mb tb M K F bK O ps) (bW:an true pre fp w) (c2:bK=(en:Int)) (c6:ps=aV F (flagsOf xs en) 1) (b9:Rn F f) (hs:Rn F s) (dp:word.length≤1000) (tl:List cx) (cc:bH=pre++(ew F xs en word f s++tl)):
 bh ay 125 (ba [aQ mb,str word,.int .i64 f,.int .i64 s]) w (fun v w'=> ∃ b q fp',v= .bool b∧an b (pre++q) fp' w'∧Gw S0 fp w fp' w'∧q <+:ew F xs en word f s∧(b=true→q=ew F xs en word f s)):=by
 have c3:=I.lt _ _ _ _ bW
 have dl:=rT F (flagsOf xs (en:Int)) 1
 have dn:=ae.len
 subst c2
 subst c6
 refine enter func125 aa ntmps125 aa<|aj fun _ ck=>aw<|ck _ _<|aj fun _ cu=>p mv<|p mv<|p (nc aa)<|p (fa B3 aa)<|p (ld bA aa<|(a6 aN.cells).trans aa)<|p mv<|p mv<|p (cO (ps:= [(0,str word),(1,au en),(2,.int .i64 f),(3,.int .i64 s),(4,.int .i64 (-1))]) (L:= [str word,au en,.int .i64 f,.int .i64 s,.int .i64 (-1)]) LD aa<|aa)<|e<|ga D3 fun a ds dk b5 cH=> ?_
 have dq:=b5.size
 refine e<|gi Bl aa aa aa aa cH az fun aW cM cE=> ?_
 have a0:Wk w aW:=b5.md.trans' cM fun q ce h=>by omega
 have c0:aW.heap[a]? =some (.cells (eC ⟨word,en,f,s,-1⟩).toArray 41 (0,0)):=cE
 have bX:=I.wk bW<|a0.trans (Md.refl _ _).drew
 have aP:=aN.wk<|a0.trans (Md.refl _ _).drew
 have ca:¬fp a:=fun h=>by have :=c3 a h; omega
 have aU:S0≤a:=by have :=aN.lo; have :=(dm.1 aN.cells).1; omega
 refine aE<|cu _ _<|sq fun _ cv=> ?_
 refine ec (fun aD aC=> ∃ (aq:Bool) (Y:Nat→Prop),(an (!aq) (pre++kt F xs en word f s) Y aC)∧(jG aC Y S0 mb tb M K F (en:Int) O<|aV F (flagsOf xs en) 1)∧(aC.heap[a]? =some (.cells (eC ⟨word,en,f,s,-1⟩).toArray 41 (0,0)))∧(¬Y a)∧(Gw S0 fp w Y aC)∧(aD 0=aQ mb)∧(aD 1=str word)∧(aD 9=aQ a)∧(aD 40= .bool aq)) ?_ ?_
 have J:(fun w'=>w'.heap[mb]? =some (.cells (nV tb M K F (en:Int) O<|aV F (flagsOf xs en) 1).toArray 183 (0,0))∧w'.heap[a]? =some (.cells (eC ⟨word,en,f,s,-1⟩).toArray 41 (0,0))) aW.drew:=⟨aP.cells,c0⟩
 refine My (fun w'=>w'.heap[mb]? =some (.cells (nV tb M K F (en:Int) O<|aV F (flagsOf xs en) 1).toArray 183 (0,0))∧w'.heap[a]? =some (.cells (eC ⟨word,en,f,s,-1⟩).toArray 41 (0,0))) aa wide J ?_
 refine yp 0 aa ag (fun _ _=>mv) J ?_
 refine yp 1 aa ag (fun _ _=>nc aa) J ?_
 refine yp 2 aa ag (fun _ _=>fa tp aa) J ?_
 refine yp 3 aa ag (fun w' A=>ld pA aa<|(a6 A.1).trans aa) J ?_
 refine yp 4 aa ag (fun _ _=>mv) J ?_
 refine yp 5 aa ag (fun _ _=>nc aa) J ?_
 refine yp 6 aa ag (fun _ _=>fa vb aa) J ?_
 refine yp 7 aa ag (fun w' A=>ld lU aa<|(a6 A.1).trans aa) J ?_
 refine yp 8 aa ag (fun w' A=>cT qk aa (aa) fun j bx=>(oB A.2).bB j) J ?_
 refine ye 9 aa ag<|cl Gv (IM B tb aZ F xs K.ar K.cr K.rn word en f s (-1) aW.drew (I.cap _ _ _ _ bX) ae (aX aP.ru).2 aP.rn b9 hs<|.inl aa) aa fun v31 bE cP=> ?_
 obtain ⟨rfl,aF⟩:=cP
 have bZ:=I.wk bX aF
 have a5:=aP.wk aF
 have bR:Gw S0 fp w fp bE:=Gw.wk<|(a0.trans (Md.refl _ _).drew).trans aF
 have C:(fun w'=>w'.heap[mb]? =some (.cells (nV tb M K F (en:Int) O<|aV F (flagsOf xs en) 1).toArray 183 (0,0))∧w'.heap[a]? =some (.cells (eC ⟨word,en,f,s,-1⟩).toArray 41 (0,0))) bE:=⟨a5.cells,Wk.aJ aF J.2⟩
 refine ⟨C,?_⟩
 refine yp 10 aa ag (fun _ _=>mv) C ?_
 refine Mv (t:=32) aa (fun bu=> ?_) fun bu=> ?_
 have aS:kt F xs en word f s= [⟨word,en,f,s,-1⟩]:=if_pos bu
 refine nu 11 aa ag aa aa aa (fun _ _=>mv) C ?_
 refine nu 12 aa ag aa aa aa (fun _ _=>nc aa) C ?_
 refine nu 13 aa ag aa aa aa (fun _ _=>fa Ik aa) C ?_
 refine nu 14 aa ag aa aa aa (fun w' A=>ld E9 aa<|(a6 A.1).trans aa) C ?_
 refine nu 15 aa ag aa aa aa (fun w' A=>cT qk aa (aa) fun j bx=>(oB A.2).bB j) C ?_
 refine Mz 16 aa ag aa aa aa aa aa (I.yl pre ⟨word,en,f,s,-1⟩ _ fp bE (QR cc aS) bZ) fun cC dh cR=> ?_
 obtain ⟨cD,cK,a1⟩:=cR
 have b3:=a5.gw a1
 have bp:=a1.aJ C.2 aU ca
 have bd:(fun w'=>w'.heap[mb]? =some (.cells (nV tb M K F (en:Int) O<|aV F (flagsOf xs en) 1).toArray 183 (0,0))∧w'.heap[a]? =some (.cells (eC ⟨word,en,f,s,-1⟩).toArray 41 (0,0))) dh:=⟨b3.cells,bp.1⟩
 refine ⟨bd,?_⟩
 refine nu 17 aa ag aa aa aa (fun _ _=>no aa) bd ?_
 refine yp 18 aa ag (fun _ _=>bw aa) bd ?_
 refine yn ag ?_
 exact tn<|⟨(!cC),cD,(by rw [Bool.not_not,aS]; exact cK),b3,bp.1,bp.2,(bR.trans a1),aa,aa,aa,aa⟩
 have aS:kt F xs en word f s= []:=if_neg<|by rw [bu]; exact eb
 refine ma 11 aa ag aa aa aa aa C ?_
 refine ma 12 aa ag aa aa aa aa C ?_
 refine ma 13 aa ag aa aa aa aa C ?_
 refine ma 14 aa ag aa aa aa aa C ?_
 refine ma 15 aa ag aa aa aa aa C ?_
 refine ma 16 aa ag aa aa aa aa C ?_
 refine ma 17 aa ag aa aa aa aa C ?_
 refine yp 18 aa ag (fun _ _=>bm aa) C ?_
 refine yn ag ?_
 exact tn<|⟨false,fp,(by rw [aS,ed]; exact bZ),a5,C.2,ca,bR,aa,aa,aa,aa⟩
 rintro aD aC ⟨aq,Y,aL,b2,c1,c4,bQ,c7,c8,da,c9⟩
 refine fx 0 c7<|fx 1 c8<|fx 9 da<|fx 40 c9<|cb aa (fun bj=> ?_) fun bj=> ?_
 refine aj fun _ aY=>aw<|aY _ _<|rt<|tr<|f1 aa aa ?_
 have bg:aq=true :=bj
 rw [bg] at aL
 exact ⟨false,_,Y,aa,aL,bQ,(by unfold ew; exact xc _ _),fun h=>by cases h⟩
 refine aM<|tn<|cv _ _<|sq fun _ aY=>aj fun _ cw=>ak (aQ mb)<|p (nc aa)<|p (fa Ij aa)<|p (ld pC aa<|(a6 b2.cells).trans aa)<|p (bF nq aa aa)<|p mv<|aE<|cw _ _<|aJ<|lp (fun bM ac am=> ∃ (i:Nat) (U:Nat→Prop) (aA:Tx) (pp:Int),(i≤(aV F (flagsOf xs en) 1).length)∧(an true (pre++(kt F xs en word f s++((aV F (flagsOf xs en) 1).take i).filterMap (jt F xs en word f s))) U am)∧(jG am U S0 mb tb M K F (en:Int) O<|aV F (flagsOf xs en) 1)∧(am.heap[a]? =some (.cells (eC ⟨aA,en,f,s,pp⟩).toArray 41 (0,0)))∧(¬U a)∧(Gw S0 fp w U am)∧(ac 0=aQ mb)∧(ac 1=str word)∧(ac 9=aQ a)∧(ac 44= .slice K.ap (aV F (flagsOf xs en) 1).length K.cp)∧(ac 45=au ((aV F (flagsOf xs en) 1).length))∧(ac 46=au i)∧((aV F (flagsOf xs en) 1).length - i=bM)) _ ⟨0,Y,word,-1,ab,((by have bg:aq=false :=bj; rw [bg] at aL; simpa using aL)),b2,c1,c4,bQ,aa,aa,aa,aa,aa,aa,aa⟩ ?_
 rintro bM ac am ⟨i,U,aA,pp,hi,a3,a9,bt,ax,bV,db,dc,dg,dd,de,df,rfl⟩
 refine fx 0 db<|fx 1 dc<|fx 9 dg<|fx 44 dd<|fx 45 de<|fx 46 df<|aj fun _ cy=>p (lt aa aa)<|aE<|cy _ _<|sq fun _ cA=>cd aa (fun cZ=> ?_) fun cZ=> ?_
 refine aM<|tn<|cA _ _<|sq fun _ ao=>aJ<|aj fun _ cB=>p (a7 j9 aa aa ab<|aI.ok ((aX a9.pr).2)<|bP ab)<|p (ld bA aa<|aI.gG (i:=i) (aX a9.pr).2<|ni ab)<|aw<|cB _ _<|aj fun _ cm=>p mv<|p (fa rJ aa)<|e<|cV gX aa aa (v:= .int .i64 (((aV F (flagsOf xs en) 1).getD i 0:Nat):Int)) aa bt (by show 4 < 5; omega) fun al a8 cG=> ?_
 have b7:al.heap[a]? =some (.cells (eC ⟨aA,en,f,s,((aV F (flagsOf xs en) 1).getD i 0:Nat)⟩).toArray 41 (0,0)):=cG
 have cY:TF am [43] (fun q=>q=a):=TF.eq (dt bt) az
 have b0:=I.vG a3 bt aU ax a8
 have av:=a9.vw a8 cY az
 have cI:=Gw.JK bV a8 fun k hk=>by subst hk; omega
 have c5:=rQ.1<|dQ (d:=0) (show i < (aV F (flagsOf xs en) 1).length by omega)
 obtain ⟨r,Z⟩:∃ r,F.rules[(aV F (flagsOf xs en) 1).getD i 0]? =some r:=⟨_,cz c5.1⟩
 have cg:F.rules.getD ((aV F (flagsOf xs en) 1).getD i 0) eT=r:=by rw [cQ,Z]; rfl
 have ai:=DM (g:=jt F xs en word f s) 0 (show i < (aV F (flagsOf xs en) 1).length by omega)
 refine aE<|cm _ _<|sq fun _ cn=>sq fun _ co=> ?_
 have G:(fun w'=>Wk al w') al.drew:=(Md.refl _ _).drew
 refine bJ (fun w'=>Wk al w') aa wide G<|bC 0 aa (aQ mb) G<|aH 1 aa (fun _ _=>nc aa) G<|aH 2 aa (fun _ _=>fa tp aa) G<|aH 3 aa (fun w' A=>ld pA aa<|Wk.aO A<|(a6 av.cells).trans aa) G<|bC 4 aa (aQ mb) G<|aH 5 aa (fun _ _=>nc aa) G<|aH 6 aa (fun _ _=>fa vb aa) G<|aH 7 aa (fun w' A=>ld lU aa<|Wk.aO A<|(a6 av.cells).trans aa) G<|aH 8 aa (fun w' A=>cT qk aa (aa) fun j bx=>(Md.B A (oB b7) fun h=>h).bB j) G<|he 9 aa ag<|cl Gv (IM B tb aZ F xs K.ar K.cr K.rn aA en f s ((aV F (flagsOf xs en) 1).getD i 0:Nat) al.drew (I.cap _ _ _ _<|I.wk b0 G) ae ((aX av.ru).2.wk G) av.rn b9 hs<|.inr ab) aa fun dr cj cS=> ?_
 obtain ⟨rfl,bN⟩:=cS
 have aK:=G.trans bN
 have b1:=I.wk b0 aK
 have V:=av.wk aK
 have b8:=Wk.aJ aK b7
 have bU:=cI.trans<|Gw.wk aK
 have b6:(fun w'=>Wk al w') cj:=G.trans bN
 refine ⟨b6,?_⟩
 refine aH 10 aa (fun _ _=>no aa) b6<|hn ag<|tn<|co _ _<|cb aa (fun bk=> ?_) fun bk=> ?_
 have bv:fi F xs en f s ((aV F (flagsOf xs en) 1).getD i 0:Nat)=false :=by simpa using bk
 have bJ:=G0 (word:=word) bv
 rw [bJ] at ai
 exact ext<|te _<|be<|tn<|ao _ _<|rg aa<|p (ad aa aa<|bT ab)<|p mv<|nl<|tn<|⟨_,ab,i+1,U,aA,_,ab,(by rw [ai]; simpa using b1),V,b8,ax,bU,aa,aa,aa,aa,aa,aa,aa⟩
 have bv:fi F xs en f s ((aV F (flagsOf xs en) 1).getD i 0:Nat)=true :=by simpa using bk
 refine aM<|tn<|cn _ _<|aj fun _ cq=>ak (aQ mb)<|p (nc aa)<|p (fa vb aa)<|p (ld lU aa<|(a6 V.cells).trans aa)<|p mv<|p (a7 na aa aa ab<|aI.ok ((aX V.ru).2)<|nY (V.iD Z).choose_spec)<|p (cT m3 aa (aa)<|e9 (f:=fk) (m:=7) (fun _=>rfl) (aX V.ru).2 (V.iD Z).choose_spec)<|ak (str word)<|e<|cl A2 (As r (V.iD Z).choose word cj (nX ae Z).1 (nX ae Z).2.1 (nX ae Z).2.2.1 ab) aa fun v72 di cU=> ?_
 obtain ⟨rfl,aG⟩:=cU
 have cL:=I.wk b1 aG
 have cN:=V.wk aG
 have bs:=Wk.aJ aG b8
 have cJ:=bU.trans<|Gw.wk aG
 refine p mv<|p (xt aa aa)<|p (xt aa aa)<|p aB<|aw<|cq _ _<|sq fun _ cs=>rg aa<|p mv<|p (fa ym aa)<|e<|cV kN aa aa (v:=str<|(dA r word).getD []) aa bs (by show 0 < 5; omega) fun bz a4 cF=> ?_
 have bo:bz.heap[a]? =some (.cells (eC ⟨((dA r word).getD []),en,f,s,((aV F (flagsOf xs en) 1).getD i 0:Nat)⟩).toArray 41 (0,0)):=cF
 have cX:TF di [43] (fun q=>q=a):=TF.eq (dt bs) az
 have bY:=I.wk (I.vG cL bs aU ax a4) (Md.refl _ _).drew
 have bb:=(cN.vw a4 cX az).wk (Md.refl _ _).drew
 have bO:=(Gw.JK cJ a4 fun k hk=>by subst hk; omega).trans<|Gw.wk (Md.refl _ _).drew
 refine aE<|cs _ _<|sq fun _ bG=> ?_
 have E:(fun w'=>w'.heap[mb]? =some (.cells (nV tb M K F (en:Int) O<|aV F (flagsOf xs en) 1).toArray 183 (0,0))∧w'.heap[a]? =some (.cells (eC ⟨((dA r word).getD []),en,f,s,((aV F (flagsOf xs en) 1).getD i 0:Nat)⟩).toArray 41 (0,0))) bz.drew:=⟨bb.cells,bo⟩
 refine My (fun w'=>w'.heap[mb]? =some (.cells (nV tb M K F (en:Int) O<|aV F (flagsOf xs en) 1).toArray 183 (0,0))∧w'.heap[a]? =some (.cells (eC ⟨((dA r word).getD []),en,f,s,((aV F (flagsOf xs en) 1).getD i 0:Nat)⟩).toArray 41 (0,0))) aa wide E ?_
 refine yp 0 aa ag (fun _ _=>mv) E ?_
 refine yp 1 aa ag (fun _ _=>mv) E ?_
 refine Mv (t:=78) aa (fun bf=> ?_) fun bf=> ?_
 obtain ⟨v,ch⟩:∃ v,dA r word=some v:=o8.1 bf
 have bJ:=G1 (word:=word) bv<|by rw [cg]; exact ch
 rw [bJ] at ai
 have ci:(dA r word).getD []=v:=by rw [ch]; rfl
 refine nu 2 aa ag aa aa aa (fun _ _=>aT (aQ mb) aa) E ?_
 refine nu 3 aa ag aa aa aa (fun _ _=>nc aa) E ?_
 refine nu 4 aa ag aa aa aa (fun _ _=>fa Ik aa) E ?_
 refine nu 5 aa ag aa aa aa (fun w' A=>ld E9 aa<|(a6 A.1).trans aa) E ?_
 refine nu 6 aa ag aa aa aa (fun w' A=>cT qk aa (aa) fun j bx=>(oB A.2).bB j) E ?_
 refine Mz 7 aa ag aa aa aa aa aa (I.yl (pre++(kt F xs en word f s++((aV F (flagsOf xs en) 1).take i).filterMap (jt F xs en word f s))) ⟨(dA r word).getD [],en,f,s,((aV F (flagsOf xs en) 1).getD i 0:Nat)⟩ _ U bz.drew (QQ cc ab<|by rw [bJ,ci]) bY) fun bI dj cW=> ?_
 obtain ⟨bL,ah,a2⟩:=cW
 have b4:=bb.gw a2
 have bq:=a2.aJ bo aU ax
 have bS:=bO.trans a2
 rw [ci] at ah
 have ce:(kt F xs en word f s++((aV F (flagsOf xs en) 1).take i).filterMap (jt F xs en word f s))++ [⟨v,en,f,s,((aV F (flagsOf xs en) 1).getD i 0:Nat)⟩]=kt F xs en word f s++((aV F (flagsOf xs en) 1).take<|i+1).filterMap (jt F xs en word f s):=by rw [ai,dC]; rfl
 rw [dC pre,ce] at ah
 have bc:(fun w'=>w'.heap[mb]? =some (.cells (nV tb M K F (en:Int) O<|aV F (flagsOf xs en) 1).toArray 183 (0,0))∧w'.heap[a]? =some (.cells (eC ⟨((dA r word).getD []),en,f,s,((aV F (flagsOf xs en) 1).getD i 0:Nat)⟩).toArray 41 (0,0))) dj:=⟨b4.cells,bq.1⟩
 refine ⟨bc,?_⟩
 refine nu 8 aa ag aa aa aa (fun _ _=>no aa) bc ?_
 refine yp 9 aa ag (fun _ _=>bw aa) bc ?_
 refine yn ag ?_
 refine tn<|bG _ _<|cb aa (fun bl=> ?_) fun bl=> ?_
 refine aj fun _ ct=>aw<|ct _ _<|rt<|br<|tr<|tr<|br<|tr<|f1 aa aa ?_
 have bi:bI=false :=by simpa using bl
 rw [bi] at ah
 exact ⟨false,_,bL,aa,ah,bS,(by unfold ew; exact KD<|Tr _ _),fun h=>by cases h⟩
 exact aM<|bn<|tn<|ao _ _<|rg aa<|p (ad aa aa<|bT ab)<|p mv<|nl<|tn<|⟨_,ab,i+1,bL,_,_,ab,((by have bi:bI=true :=(by simpa using bl); rw [bi] at ah; exact ah)),b4,bq.1,bq.2,bS,aa,aa,aa,aa,aa,aa,aa⟩
 have bJ:=GZ (xs:=xs) (e:=en) (f:=f) (s:=s) (word:=word) (p:=(aV F (flagsOf xs en) 1).getD i 0)<|by rw [cg]; simpa using bf
 rw [bJ] at ai
 refine ma 2 aa ag aa aa aa aa E ?_
 refine ma 3 aa ag aa aa aa aa E ?_
 refine ma 4 aa ag aa aa aa aa E ?_
 refine ma 5 aa ag aa aa aa aa E ?_
 refine ma 6 aa ag aa aa aa aa E ?_
 refine ma 7 aa ag aa aa aa aa E ?_
 refine ma 8 aa ag aa aa aa aa E ?_
 refine yp 9 aa ag (fun _ _=>bm aa) E ?_
 refine yn ag ?_
 exact tn<|bG _ _<|cf aa<|aM<|bn<|tn<|ao _ _<|rg aa<|p (ad aa aa<|bT ab)<|p mv<|aE<|⟨_,ab,i+1,U,_,_,ab,(by rw [ai]; simpa using bY),bb,bo,ax,bO,aa,aa,aa,aa,aa,aa,aa⟩
 refine ext<|te _<|te _<|be<|tn<|aY _ _<|aj fun _ ao=>p aB<|aE<|ao _ _<|rt<|f1 aa aa ?_
 rw [eI ab] at a3
 exact ⟨true,_,U,aa,a3,bV,EH _,fun _=>rfl⟩
set_option maxHeartbeats 4000000 in
theorem XR (B tb:Nat) (an:iU) (F:aR) (xs:List bD) (a:eR F xs) (ai S0 mb:Nat) (ao:List cx) (O:Bool→List cx→(Nat→Prop)→World→Prop) (E:Yc ay ai S0 qy ao (fun W=>gp W B tb an F xs) O) (K:sH) (pre:List cx) (fp:Nat→Prop) (en:Nat) (x:bD) (w:World) (az:jG w fp S0 mb tb ai K F (en:Int) x.1 (aV F (flagsOf xs en) 1)) (cU:O true pre fp w) (ct:xs[en]? =some x) (tl:List cx) (ck:ao=pre++(lI F xs en++tl)):
 bh ay 79 (ba [aQ mb]) w (fun v w'=> ∃ b q fp',v= .bool b∧O b (pre++q) fp' w'∧Gw S0 fp w fp' w'∧q <+:lI F xs en∧(b=true→q=lI F xs en)):=by
 obtain ⟨dE,dF,dG,a5⟩:=sS ct
 have a0:lI F xs en=ew F xs en x.1 (-1) (-1)++(aV F (flagsOf xs en) 2).flatMap (fT F xs en):=by unfold lI; rw [a5]
 have dO:=(a.uU x<|iJ ct).1
 have dL:=a.len
 have dH:S0≤w.heap.size:=by have :=az.lo; have :=(dm.1 az.cells).1; omega
 have dJ:=rT F (flagsOf xs (en:Int)) 2
 refine enter func79 aa ntmps79 aa<|aj fun _ cv=>aw<|cv _ _<|sq fun _ cH=>aj fun _ cK=>ak (aQ mb)<|ak (aQ mb)<|p (nc aa)<|p (fa B4 aa)<|p (ld bR aa<|(a6 az.cells).trans aa)<|e<|cl AE (A9 B tb an F xs a ai S0 mb ao O E K (en:Int) x.1 _ pre fp en x.1 (-1) (-1) w az cU aa aa (.inl aa) (.inl aa) ab ((aV F (flagsOf xs en) 2).flatMap (fT F xs en)++tl)<|by rw [ck,a0,dC]) aa fun dT aD c0=> ?_
 obtain ⟨bN,dy,a8,rfl,aY,aS,df,dg⟩:=c0
 have bi:=az.gw aS
 refine p (no aa)<|aE<|cK _ _<|cb aa (fun bp=> ?_) fun bp=> ?_
 obtain rfl :bN=false :=by simpa using bp
 exact aj fun _ a4=>aw<|a4 _ _<|rt<|tr<|f1 aa aa<|⟨false,dy,a8,aa,aY,aS,(by rw [a0]; exact df.trans<|xc _ _),fun h=>by cases h⟩
 obtain rfl :bN=true :=by simpa using bp
 obtain rfl :=dg rfl
 refine aM<|tn<|cH _ _<|sq fun _ a4=>sq fun _ cL=> ?_
 have A:(fun w'=>Wk aD w') aD.drew:=(Md.refl _ _).drew
 refine bJ (fun w'=>Wk aD w') aa wide A<|bC 0 aa (aQ mb) A<|aH 1 aa (fun _ _=>nc aa) A<|aH 2 aa (fun _ _=>fa tp aa) A<|aH 3 aa (fun w' M=>ld pA aa<|Wk.aO M<|(a6 bi.cells).trans aa) A<|bC 4 aa (aQ mb) A<|aH 5 aa (fun _ _=>nc aa) A<|aH 6 aa (fun _ _=>fa B3 aa) A<|aH 7 aa (fun w' M=>ld bA aa<|Wk.aO M<|(a6 bi.cells).trans aa) A<|aH 10 aa (fun _ _=>mv) A<|he 8 aa ag<|cl Qv (YG B tb an F xs (en:Int) aD.drew (E.cap _ _ _ _<|E.wk aY A) a) aa fun dU dz c1=> ?_
 obtain ⟨bx,bV⟩:=c1
 obtain ⟨ae,ah,rfl⟩:=cw bx
 have bb:=A.trans bV
 have cW:=E.wk aY bb
 have cZ:=bi.wk bb
 have cS:=aS.trans<|Gw.wk bb
 have dP:=A.size
 have c9:∀ q,(bO ae (aV F (flagsOf xs en) 2).length ah).ownBlock=some q→¬a8 q:=fun q bG h=>by have h1:=(dI bx bG).1; have h2:=E.lt _ _ _ _ aY q h; omega
 have dd:=ep bx (show S0≤_ by have :=aS.size; omega)
 have b5:(fun w'=>Wk aD w') dz:=A.trans bV
 refine ⟨b5,?_⟩
 refine aH 9 aa (fun _ _=>bF nq aa aa) b5<|hn ag<|tn<|cL _ _<|aJ<|lp (fun ar aF G=> ∃ (i:Nat) (U:Nat→Prop),(i≤(aV F (flagsOf xs en) 2).length)∧(O true (pre++(ew F xs en x.1 (-1) (-1)++((aV F (flagsOf xs en) 2).take i).flatMap (fT F xs en))) U G)∧(jG G U S0 mb tb ai K F (en:Int) x.1<|aV F (flagsOf xs en) 1)∧(bo G S0 3 1 (.slice ae (aV F (flagsOf xs en) 2).length ah) (aV F (flagsOf xs en) 2).length<|(aV F (flagsOf xs en) 2).map bM)∧(∀ q,(bO ae (aV F (flagsOf xs en) 2).length ah).ownBlock=some q→¬U q)∧(Gw S0 fp w U G)∧(aF 0=aQ mb)∧(aF 26= .slice ae (aV F (flagsOf xs en) 2).length ah)∧(aF 27=au ((aV F (flagsOf xs en) 2).length))∧(aF 28=au i)∧((aV F (flagsOf xs en) 2).length - i=ar)) _ ⟨0,a8,ab,(by simpa using cW),cZ,dd,c9,cS,aa,aa,aa,aa,aa⟩ ?_
 rintro ar aF G ⟨i,U,hi,bf,V,bB,b8,b0,dh,di,dj,dk,rfl⟩
 refine fx 0 dh<|fx 26 di<|fx 27 dj<|fx 28 dk<|aj fun _ cM=>p (lt aa aa)<|aE<|cM _ _<|sq fun _ cN=>cd aa (fun c7=> ?_) fun c7=> ?_
 refine aM<|tn<|cN _ _<|sq fun _ aG=>aJ<|aj fun _ cO=>p (a7 j9 aa aa ab<|aI.ok ((aX bB).2)<|bP ab)<|p (ld bA aa<|aI.gG (i:=i) (aX bB).2<|ni ab)<|aw<|cO _ _<|sq fun _ cy=> ?_
 have dw:=rQ.1<|dQ (d:=0) (show i < (aV F (flagsOf xs en) 2).length by omega)
 obtain ⟨r,Z⟩:∃ r,F.rules[((aV F (flagsOf xs en) 2).getD i 0)]? =some r:=⟨_,cz dw.1⟩
 have cq:F.rules.getD ((aV F (flagsOf xs en) 2).getD i 0) eT=r:=by rw [cQ,Z]; rfl
 have bH:=uX (g:=fT F xs en) 0 (show i < (aV F (flagsOf xs en) 2).length by omega)
 have C:(fun w'=>Wk G w') G.drew:=(Md.refl _ _).drew
 refine bJ (fun w'=>Wk G w') aa wide C<|bC 0 aa (aQ mb) C<|aH 1 aa (fun _ _=>nc aa) C<|aH 2 aa (fun _ _=>fa vb aa) C<|aH 3 aa (fun w' M=>ld lU aa<|Wk.aO M<|(a6 V.cells).trans aa) C<|aH 4 aa (fun _ _=>mv) C<|aH 5 aa (fun _ _=>a7 na aa aa ab<|aI.ok ((aX V.ru).2)<|nY (V.iD Z).choose_spec) C<|aH 6 aa (fun w' M=>cT m3 aa (aa) fun j db=>e9 (f:=fk) (m:=7) (fun _=>rfl) ((aX V.ru).2.wk M) (V.iD Z).choose_spec j db) C<|bC 7 aa (aQ mb) C<|aH 8 aa (fun _ _=>nc aa) C<|aH 9 aa (fun _ _=>fa B4 aa) C<|aH 10 aa (fun w' M=>ld bR aa<|Wk.aO M<|(a6 V.cells).trans aa) C<|he 11 aa ag<|cl A2 (As r (V.iD Z).choose x.1 G.drew (nX a Z).1 (nX a Z).2.1 (nX a Z).2.2.1 ab) aa fun dV cu c2=> ?_
 obtain ⟨rfl,bW⟩:=c2
 have aP:=C.trans bW
 have b3:=E.wk bf aP
 have bk:=V.wk aP
 have bZ:=b0.trans<|Gw.wk aP
 have ce:=aU bB aP
 have ap:(fun w'=>Wk G w') cu:=C.trans bW
 refine ⟨ap,?_⟩
 refine aH 12 aa (fun _ _=>mv) ap<|aH 13 aa (fun _ _=>xt aa aa) ap<|aH 14 aa (fun _ _=>xt aa aa) ap<|aH 15 aa (fun _ _=>aB) ap<|aH 16 aa (fun _ _=>aB) ap<|hn ag<|tn<|cy _ _<|sq fun _ cA=>aj fun _ cB=>p mv<|p (no aa)<|aE<|cB _ _<|cb aa (fun bq=> ?_) fun bq=> ?_
 have aA:dA r x.1=none:=by simpa using bq
 have bJ:fT F xs en ((aV F (flagsOf xs en) 2).getD i 0)= []:=by unfold fT; rw [cq,a5,aA]
 rw [bJ,ed] at bH
 exact ext<|te _<|be<|tn<|aG _ _<|rg aa<|p (ad aa aa<|bT ab)<|p mv<|nl<|tn<|⟨_,ab,i+1,U,ab,(by rw [bH]; exact b3),bk,ce,b8,bZ,aa,aa,aa,aa,aa⟩
 obtain ⟨wd,aA⟩:∃ v,dA r x.1=some v:=o8.1<|by simpa using bq
 have aq:((dA r x.1).getD [])=wd:=by rw [aA]; rfl
 have bJ:fT F xs en ((aV F (flagsOf xs en) 2).getD i 0)=ew F xs en wd (((aV F (flagsOf xs en) 2).getD i 0):Nat) (-1)++(aV F (cR F (((aV F (flagsOf xs en) 2).getD i 0):Nat)) 2).flatMap (je F xs en wd (((aV F (flagsOf xs en) 2).getD i 0):Nat)):=by unfold fT; rw [cq,a5,aA]
 have dN:=(qm (nX a Z).2.2.2 aA).2
 have bu:lI F xs en=(ew F xs en x.1 (-1) (-1)++((aV F (flagsOf xs en) 2).take i).flatMap (fT F xs en))++(fT F xs en ((aV F (flagsOf xs en) 2).getD i 0)++((aV F (flagsOf xs en) 2).drop<|i+1).flatMap (fT F xs en)):=by rw [a0,H8 0 (show i < (aV F (flagsOf xs en) 2).length by omega),dC]
 have b6:ao=(pre++(ew F xs en x.1 (-1) (-1)++((aV F (flagsOf xs en) 2).take i).flatMap (fT F xs en)))++(fT F xs en ((aV F (flagsOf xs en) 2).getD i 0)++(((aV F (flagsOf xs en) 2).drop<|i+1).flatMap (fT F xs en)++tl)):=by rw [ck,bu]; simp only [dC]
 refine aM<|tn<|cA _ _<|sq fun _ cC=>aj fun _ cD=>ak (aQ mb)<|p mv<|p mv<|e<|cl AE (A9 B tb an F xs a ai S0 mb ao O E K (en:Int) x.1 _ (pre++(ew F xs en x.1 (-1) (-1)++((aV F (flagsOf xs en) 2).take i).flatMap (fT F xs en))) U en ((dA r x.1).getD []) ((((aV F (flagsOf xs en) 2).getD i 0):Nat):Int) (-1) cu bk b3 aa aa (.inr ab) (.inl aa) (by rw [aq]; omega) ((aV F (cR F (((aV F (flagsOf xs en) 2).getD i 0):Nat)) 2).flatMap (je F xs en wd (((aV F (flagsOf xs en) 2).getD i 0):Nat))++(((aV F (flagsOf xs en) 2).drop<|i+1).flatMap (fT F xs en)++tl))<|by rw [aq,b6,bJ]; simp only [dC]) aa fun dW dB c3=> ?_
 obtain ⟨bQ,dR,a9,rfl,ax,bd,cm,cn⟩:=c3
 rw [aq] at cm cn
 have b4:=bk.gw bd
 have bc:=bZ.trans bd
 have cg:=bd.own ce b8
 refine p (no aa)<|aE<|cD _ _<|cb aa (fun bs=> ?_) fun bs=> ?_
 obtain rfl :bQ=false :=by simpa using bs
 refine aj fun _ a3=>aw<|a3 _ _<|rt<|tr<|br<|tr<|tr<|br<|tr<|f1 aa aa ?_
 rw [dC] at ax
 exact ⟨false,_,a9,aa,ax,bc,Dd bu (by rw [bJ]; exact cm.trans<|xc _ _),fun h=>by cases h⟩
 obtain rfl :bQ=true :=by simpa using bs
 obtain rfl :=cn rfl
 refine aM<|tn<|cC _ _<|aj fun _ a3=>ak (aQ mb)<|p (nc aa)<|p (fa tp aa)<|p (ld pA aa<|(a6 b4.cells).trans aa)<|p mv<|e<|cl Qw (XU B tb an F xs (((aV F (flagsOf xs en) 2).getD i 0):Nat) dB (E.cap _ _ _ _ ax) a) aa fun v59 dZ c4=> ?_
 obtain ⟨bz,aN⟩:=c4
 obtain ⟨aK,aL,rfl⟩:=cw bz
 have cV:=E.wk ax aN
 have cX:=b4.wk aN
 have cP:=bc.trans<|Gw.wk aN
 have dc:=aU cg.1 aN
 have da:∀ q,(bO aK (aV F (cR F (((aV F (flagsOf xs en) 2).getD i 0):Nat)) 2).length aL).ownBlock=some q→¬a9 q:=fun q bG h=>by have h1:=(dI bz bG).1; have h2:=E.lt _ _ _ _ ax q h; omega
 have de:=ep bz (show S0≤_ by have :=bc.size; omega)
 have dK:=rT F (cR F (((aV F (flagsOf xs en) 2).getD i 0):Nat)) 2
 refine p (bF nq aa aa)<|p mv<|aE<|a3 _ _<|aJ<|lp (fun ar I am=> ∃ (k:Nat) (J:Nat→Prop),(k≤(aV F (cR F (((aV F (flagsOf xs en) 2).getD i 0):Nat)) 2).length)∧(O true ((pre++(ew F xs en x.1 (-1) (-1)++((aV F (flagsOf xs en) 2).take i).flatMap (fT F xs en)))++(ew F xs en wd (((aV F (flagsOf xs en) 2).getD i 0):Nat) (-1)++((aV F (cR F (((aV F (flagsOf xs en) 2).getD i 0):Nat)) 2).take k).flatMap (je F xs en wd (((aV F (flagsOf xs en) 2).getD i 0):Nat)))) J am)∧(jG am J S0 mb tb ai K F (en:Int) x.1<|aV F (flagsOf xs en) 1)∧(bo am S0 3 1 (.slice ae (aV F (flagsOf xs en) 2).length ah) (aV F (flagsOf xs en) 2).length<|(aV F (flagsOf xs en) 2).map bM)∧(∀ q,(bO ae (aV F (flagsOf xs en) 2).length ah).ownBlock=some q→¬J q)∧(bo am S0 3 1 (.slice aK (aV F (cR F (((aV F (flagsOf xs en) 2).getD i 0):Nat)) 2).length aL) (aV F (cR F (((aV F (flagsOf xs en) 2).getD i 0):Nat)) 2).length<|(aV F (cR F (((aV F (flagsOf xs en) 2).getD i 0):Nat)) 2).map bM)∧(∀ q,(bO aK (aV F (cR F (((aV F (flagsOf xs en) 2).getD i 0):Nat)) 2).length aL).ownBlock=some q→¬J q)∧(Gw S0 fp w J am)∧(I 0=aQ mb)∧(I 4= .int .i64 (((aV F (flagsOf xs en) 2).getD i 0):Nat))∧(I 5=str ((dA r x.1).getD []))∧(I 26= .slice ae (aV F (flagsOf xs en) 2).length ah)∧(I 27=au ((aV F (flagsOf xs en) 2).length))∧(I 28=au i)∧(I 59= .slice aK (aV F (cR F (((aV F (flagsOf xs en) 2).getD i 0):Nat)) 2).length aL)∧(I 60= .int .i64 ((aV F (cR F (((aV F (flagsOf xs en) 2).getD i 0):Nat)) 2).length:Nat))∧(I 61=au k)∧((aV F (cR F (((aV F (flagsOf xs en) 2).getD i 0):Nat)) 2).length - k=ar)) _ ⟨0,a9,ab,(by simpa using cV),cX,dc,cg.2,de,da,cP,aa,aa,aa,aa,aa,aa,aa,aa,aa,aa⟩ ?_
 rintro ar I am ⟨k,J,hk,bg,Y,ch,bv,bE,b9,b1,dl,dr,ds,dn,dp,dq,dt,du,dv,rfl⟩
 refine fx 0 dl<|fx 4 dr<|fx 5 ds<|fx 26 dn<|fx 27 dp<|fx 28 dq<|fx 59 dt<|fx 60 du<|fx 61 dv<|aj fun _ cE=>p (lt aa aa)<|aE<|cE _ _<|sq fun _ cF=>cd aa (fun c8=> ?_) fun c8=> ?_
 refine aM<|tn<|cF _ _<|sq fun _ bK=>aJ<|aj fun _ cG=>p (a7 j9 aa aa ab<|aI.ok ((aX bE).2)<|bP ab)<|p (ld bA aa<|aI.gG (i:=k) (aX bE).2<|ni ab)<|aw<|cG _ _<|sq fun _ cI=> ?_
 have dx:=rQ.1<|dQ (d:=0) (show k < (aV F (cR F (((aV F (flagsOf xs en) 2).getD i 0):Nat)) 2).length by omega)
 obtain ⟨al,ac⟩:∃ r,F.rules[((aV F (cR F (((aV F (flagsOf xs en) 2).getD i 0):Nat)) 2).getD k 0)]? =some r:=⟨_,cz dx.1⟩
 have cr:F.rules.getD ((aV F (cR F (((aV F (flagsOf xs en) 2).getD i 0):Nat)) 2).getD k 0) eT=al:=by rw [cQ,ac]; rfl
 have a1:=uX (g:=je F xs en wd (((aV F (flagsOf xs en) 2).getD i 0):Nat)) 0 (show k < (aV F (cR F (((aV F (flagsOf xs en) 2).getD i 0):Nat)) 2).length by omega)
 refine rg aa<|ak (aQ mb)<|p (nc aa)<|p (fa vb aa)<|p (ld lU aa<|(a6 Y.cells).trans aa)<|p mv<|p (a7 na aa aa ab<|aI.ok ((aX Y.ru).2)<|nY (Y.iD ac).choose_spec)<|p (cT m3 aa (aa)<|e9 (f:=fk) (m:=7) (fun _=>rfl) (aX Y.ru).2 (Y.iD ac).choose_spec)<|ak (str<|(dA r x.1).getD [])<|e<|cl A2 (As al (Y.iD ac).choose ((dA r x.1).getD []) am (nX a ac).1 (nX a ac).2.1 (nX a ac).2.2.1<|by rw [aq]; omega) aa fun dX dD c5=> ?_
 obtain ⟨rfl,av⟩:=c5
 have b2:=E.wk bg av
 have bj:=Y.wk av
 have bX:=b1.trans<|Gw.wk av
 have ca:=aU ch av
 have ci:=aU bE av
 refine p mv<|p (xt aa aa)<|p (xt aa aa)<|p aB<|aw<|cI _ _<|sq fun _ bL=>rg aa<|p mv<|p mv<|gb (t:=78) aa (fun bl=> ?_) fun bl=> ?_
 obtain ⟨v2,cs⟩:∃ v,dA al ((dA r x.1).getD [])=some v:=o8.1 bl
 have bI:(dA al<|(dA r x.1).getD []).getD []=v2:=by rw [cs]; rfl
 have a2:dA al wd=some v2:=by rw [← aq]; exact cs
 have aC:je F xs en wd (((aV F (flagsOf xs en) 2).getD i 0):Nat) ((aV F (cR F (((aV F (flagsOf xs en) 2).getD i 0):Nat)) 2).getD k 0)=ew F xs en v2 (((aV F (flagsOf xs en) 2).getD i 0):Nat) (((aV F (cR F (((aV F (flagsOf xs en) 2).getD i 0):Nat)) 2).getD k 0):Nat):=by unfold je; rw [cr,a2]
 have dM:=(qm (nX a ac).2.2.2 a2).2
 have b7:fT F xs en ((aV F (flagsOf xs en) 2).getD i 0)=(ew F xs en wd (((aV F (flagsOf xs en) 2).getD i 0):Nat) (-1)++((aV F (cR F (((aV F (flagsOf xs en) 2).getD i 0):Nat)) 2).take k).flatMap (je F xs en wd (((aV F (flagsOf xs en) 2).getD i 0):Nat)))++(je F xs en wd (((aV F (flagsOf xs en) 2).getD i 0):Nat) ((aV F (cR F (((aV F (flagsOf xs en) 2).getD i 0):Nat)) 2).getD k 0)++((aV F (cR F (((aV F (flagsOf xs en) 2).getD i 0):Nat)) 2).drop<|k+1).flatMap (je F xs en wd (((aV F (flagsOf xs en) 2).getD i 0):Nat))):=by rw [bJ,H8 (g:=je F xs en wd (((aV F (flagsOf xs en) 2).getD i 0):Nat)) 0 (show k < (aV F (cR F (((aV F (flagsOf xs en) 2).getD i 0):Nat)) 2).length by omega),dC]
 refine pg aa aa aa (aT (aQ mb) aa)<|pg aa aa aa mv<|pg aa aa aa (aT (.int .i64 (((aV F (flagsOf xs en) 2).getD i 0):Nat)) aa)<|pg aa aa aa mv<|eg aa aa aa<|cl AE (A9 B tb an F xs a ai S0 mb ao O E K (en:Int) x.1 _ ((pre++(ew F xs en x.1 (-1) (-1)++((aV F (flagsOf xs en) 2).take i).flatMap (fT F xs en)))++(ew F xs en wd (((aV F (flagsOf xs en) 2).getD i 0):Nat) (-1)++((aV F (cR F (((aV F (flagsOf xs en) 2).getD i 0):Nat)) 2).take k).flatMap (je F xs en wd (((aV F (flagsOf xs en) 2).getD i 0):Nat)))) J en ((dA al<|(dA r x.1).getD []).getD []) ((((aV F (flagsOf xs en) 2).getD i 0):Nat):Int) ((((aV F (cR F (((aV F (flagsOf xs en) 2).getD i 0):Nat)) 2).getD k 0):Nat):Int) dD bj b2 aa aa (.inr ab) (.inr ab) (by rw [bI]; omega) (((aV F (cR F (((aV F (flagsOf xs en) 2).getD i 0):Nat)) 2).drop<|k+1).flatMap (je F xs en wd (((aV F (flagsOf xs en) 2).getD i 0):Nat))++(((aV F (flagsOf xs en) 2).drop<|i+1).flatMap (fT F xs en)++tl))<|by rw [bI,b6,b7,aC]; simp only [dC]) aa fun dY d0 c6=> ?_
 obtain ⟨bS,dS,bU,rfl,aZ,aW,co,cp⟩:=c6
 rw [bI] at co cp
 have cY:=bj.gw aW
 have bY:=bX.trans aW
 have cc:=aW.own ca bv
 have cj:=aW.own ci b9
 refine pg aa aa aa (no aa)<|p (bw aa)<|aE<|bL _ _<|cb aa (fun bt=> ?_) fun bt=> ?_
 obtain rfl :bS=false :=by simpa using bt
 refine aj fun _ cJ=>aw<|cJ _ _<|rt<|br<|tr<|tr<|br<|br<|tr<|tr<|br<|tr<|f1 aa aa ?_
 rw [dC,dC] at aZ
 exact ⟨false,_,bU,aa,aZ,bY,Dd bu (Dd b7<|by rw [aC]; exact co),fun h=>by cases h⟩
 obtain rfl :bS=true :=by simpa using bt
 obtain rfl :=cp rfl
 rw [aC] at a1
 exact aM<|bn<|tn<|bK _ _<|rg aa<|p (ad aa aa<|bT ab)<|p mv<|nl<|tn<|⟨_,ab,k+1,bU,ab,(by rw [a1,← dC (ew F xs en wd (((aV F (flagsOf xs en) 2).getD i 0):Nat)<|-1)]; rw [dC] at aZ; exact aZ),cY,cc.1,cc.2,cj.1,cj.2,bY,aa,aa,aa,aa,aa,aa,aa,aa,aa,aa⟩
 have a2:dA al wd=none:=by rw [← aq]; simpa using bl
 have aC:je F xs en wd (((aV F (flagsOf xs en) 2).getD i 0):Nat) ((aV F (cR F (((aV F (flagsOf xs en) 2).getD i 0):Nat)) 2).getD k 0)= []:=by unfold je; rw [cr,a2]
 rw [aC,ed] at a1
 exact sk aa aa aa aa<|sk aa aa aa aa<|sk aa aa aa aa<|sk aa aa aa aa<|sk aa aa aa aa<|sk aa aa aa aa<|p (bm aa)<|nl<|tn<|bL _ _<|cf aa<|aM<|bn<|tn<|bK _ _<|rg aa<|p (ad aa aa<|bT ab)<|p mv<|aE<|⟨_,ab,k+1,J,ab,(by rw [a1]; exact b2),bj,ca,bv,ci,b9,bX,aa,aa,aa,aa,aa,aa,aa,aa,aa,aa⟩
 exact ext<|te _<|te _<|be<|bn<|tn<|aG _ _<|rg aa<|p (ad aa aa<|bT ab)<|p mv<|aE<|⟨_,ab,i+1,J,ab,(by rw [bH,bJ]; rw [eI (show (aV F (cR F (((aV F (flagsOf xs en) 2).getD i 0):Nat)) 2).length≤k by omega),dC] at bg; rw [← dC (ew F xs en x.1 (-1)<|-1)]; exact bg),Y,ch,bv,b1,aa,aa,aa,aa,aa⟩
 refine ext<|te _<|te _<|be<|tn<|a4 _ _<|aj fun _ aG=>p aB<|aE<|aG _ _<|rt<|f1 aa aa ?_
 rw [eI ab,← a0] at bf
 exact ⟨true,_,U,aa,bf,b0,EH _,fun _=>rfl⟩
end Go.Hb.rm
end
section
set_option maxRecDepth 20000
set_option maxHeartbeats 1000000
namespace Go.Hb.uw
open Go.Hb.dT
open Go.Proofs
open Go.Hb.fq Go.Hb.fQ Go.Hb.gn Go.Hb.jF Go.Hb.iK Go.Hb.kH Go.Hb.iM Go.Hb.j4 Go.Hb.kK Go.Hb.k0 Go.Hb.lA Go.Hb.lR Go.Hb.mj Go.Hb.ml Go.Hb.jP Go.Hb.lC Go.Hb.mV Go.Hb.nE Go.Hb.ox Go.Hb.qg Go.Hb.pw Go.Hb.qe Go.Hb.rm
noncomputable def ir (F:aR) (xs:List bD) (n:Int):List cx:=if 0≤n∧n < xs.length then lI F xs n.toNat else []
theorem uP {F:aR} {xs:List bD} {k:Nat} (h:k < xs.length):ir F xs k=lI F xs k:=by unfold ir; rw [if_pos ab,mS]
theorem Bq {F:aR} {xs:List bD} {n:Int} (h:¬(0≤n∧n < xs.length)):ir F xs n= []:=if_neg h
def kJ (W:World) (b:Nat) (a:Option Addr):Prop :=W.heap[b]? =some (.cells [.pointer a].toArray 22 (0,0))
def jq (W:World) (b:Nat) (n:Int):Prop :=W.heap[b]? =some (.cells [.int .i64 n].toArray 3 (0,0))
theorem ON (B tb:Nat) (i:iU) (F:aR) (xs:List bD) (a S0:Nat) (w:World) (C:gp w B tb i F xs) (q:eR F xs) (O:S0≤w.heap.size):
 bh ay 41 (ba [aQ tb,.func (.yield a) #[] #[]]) w (fun v w'=> ∃ mb K,v=aQ mb∧jG w' (fun _=>False) S0 mb tb a K F 0 [] []∧Wk w w'):=by
 refine enter func41 aa ntmps41 aa<|aj fun _ E=>aw<|E _ _<|aj fun _ G=>ak (aQ tb)<|ak (aQ tb)<|p (nc aa)<|p (fa Ca aa)<|p (ld fZ aa<|(a6 C.cells).trans aa)<|e<|cl AP (Ai B i.fb i.mc F i.V w C.fl (by have :=q.len; omega) q.nx) aa fun v10 ac M=> ?_
 obtain ⟨⟨⟨v9,v10,v11,v12,sa,rn⟩,rfl,hax⟩,hE10⟩:=M
 obtain ⟨ar,cr,j⟩:=cw hax.dB
 have j:v12=_:=j
 subst j
 have Z:=hE10.size
 have U:rn.length=F.rules.length:=by have :=hax.nx.1; rwa [List.length_map] at this
 exact p (Ta Tb aa aa)<|ak (.func (.yield a) #[] #[])<|p (cO (ps:= [(0,aQ tb),(1,.slice ar F.rules.length cr),(5,.func (.yield a) #[] #[])]) (L:= [aQ tb,.slice ar F.rules.length cr,.int .i64 0,.string ⟨⟨[]⟩⟩,.slice none 0 0,.func (.yield a) #[] #[]]) Yt aa<|aa)<|e<|oC aa fun I ae Y A J=>aw<|G _ _<|rt<|f1 aa aa<|⟨I,⟨ar,cr,rn,none,0⟩,aa,⟨ab,J,id,aU (ep hax.dB O) A.md,fun _ _=>id,U,du _ _ _ _,fun _ _=>id⟩,hE10.trans A.md⟩
theorem yS (B tb:Nat) (Y:iU) (F:aR) (xs:List bD) (ap:eR F xs) (C S0 mb:Nat) (an:List cx) (V:Bool→List cx→(Nat→Prop)→World→Prop) (j:Yc ay C S0 qy an (fun W=>gp W B tb Y F xs) V) (K:sH) (aN:Int) (aL:Tx) (ps:List Nat) (pre:List cx) (fp:Nat→Prop) (n:Int) (w:World) (O:jG w fp S0 mb tb C K F aN aL ps) (av:V true pre fp w) (tl:List cx) (bG:an=pre++(ir F xs n++tl)):
 bh ay 42 (ba [aQ mb,.int .i64 n]) w (fun v w'=> ∃ b q fp' bb bf bN bK,v= .bool b∧V b (pre++q) fp' w'∧jG w' fp' S0 mb tb C bb F bf bN bK∧q <+:ir F xs n∧(b=true→q=ir F xs n)):=by
 have bV:=j.lt _ _ _ _ av
 have bz:=j.cap _ _ _ _ av
 have bT:S0≤w.heap.size:=by have :=O.lo; have :=(dm.1 O.cells).1; omega
 refine enter func42 aa ntmps42 aa<|aj fun _ a4=>aw<|a4 _ _<|aj fun _ a5=>p mv<|p (nc aa)<|p (fa tp aa)<|p (ld pA aa<|(a6 O.cells).trans aa)<|p mv<|e<|cl qt (xW B tb Y F xs n w bz ap) aa fun b0 b2 bu=> ?_
 obtain ⟨⟨bP,rfl,bC⟩,hE13⟩:=bu
 obtain ⟨G,I,rfl⟩:=cw bC
 have bX:=hE13.size
 refine p mv<|p (xt aa aa)<|p (xt aa aa)<|e<|al qX fun A b4 aY aW bm=> ?_
 have bY:=aW.size
 refine e<|cW ku aa aa aa aa (bm) (by simp) fun E bt bi=> ?_
 have aq:Wk w E:=(hE13.trans aW.md).trans' bt fun q ai h=>by omega
 have aY:bL E.heap A [str (ky xs n),.slice G (flagsOf xs n).length I]:=bi
 have aP:=j.wk av aq
 have aS:=O.wk aq
 have bW:=aq.size
 refine aw<|a5 _ _<|sq fun _ a7=>aj fun _ a8=>p mv<|p (no aa)<|aE<|a8 _ _<|cb aa (fun U=> ?_) fun U=> ?_
 have bF:¬(0≤n∧n < xs.length):=fun h=>by rw [decide_eq_true h] at U; cases U
 exact aj fun _ am=>aw<|am _ _<|rt<|tr<|f1 aa aa<|⟨true,[],fp,K,aN,aL,ps,aa,by rw [ed]; exact aP,aS,List.nil_prefix,fun _=>(Bq bF).symm⟩
 have bU:0≤n∧n < xs.length:=Classical.byContradiction fun h=>by rw [decide_eq_false h] at U; cases U
 obtain ⟨k,rfl⟩:∃ k:Nat,n=(k:Int):=⟨n.toNat,ab⟩
 obtain ⟨x,a0⟩:∃ x,xs[k]? =some x:=⟨_,cz ab⟩
 obtain ⟨bd,bQ,ao,bS⟩:=sS a0
 have ax:=j.wk aP (Md.refl (fun _=>False) E).drew
 have aT:=aS.wk (Md.refl (fun _=>False) E).drew
 have aF:A≠mb:=fun h=>by have :=(dm.1 O.cells).1; omega
 refine aM<|tn<|a7 _ _<|sq fun _ am=> ?_
 have i:(fun w'=>bL w'.heap A [str (ky xs (k:Int)),.slice G (flagsOf xs (k:Int)).length I]∧Hb.aO w'.heap mb 0=some (aQ tb)) E.drew:=⟨aY,(a6 aT.cells).trans rfl⟩
 refine bJ (fun w'=>bL w'.heap A [str (ky xs (k:Int)),.slice G (flagsOf xs (k:Int)).length I]∧Hb.aO w'.heap mb 0=some (aQ tb)) aa wide i<|aH 0 aa (fun _ _=>mv) i<|aH 1 aa (fun _ _=>mv) i<|aH 2 aa (fun _ _=>mv) i<|aH 3 aa (fun _ _=>mv) i<|aH 4 aa (fun _ _=>fa Cc aa) i<|aH 5 aa (fun w' aD=>ld bR aa<|aD.1.bB 0) i<|aH 6 aa (fun _ _=>mv) i<|aH 7 aa (fun _ _=>nc aa) i<|aH 8 aa (fun _ _=>fa tp aa) i<|aH 9 aa (fun w' aD=>ld pA aa<|aD.2) i<|aH 10 aa (fun _ _=>mv) i<|he 11 aa ag<|cl Qx (WY B tb Y F xs (k:Int) E.drew (j.cap _ _ _ _ ax) ap) aa fun b1 a1 bv=> ?_
 obtain ⟨aK,Z⟩:=bv
 obtain ⟨J,M,rfl⟩:=cw aK
 have bp:=j.wk ax Z
 have a:=aT.wk Z
 have bA:∀ q,(bO J (aV F (flagsOf xs (k:Int)) 1).length M).ownBlock=some q→¬fp q:=fun q ai h=>by have h1:=(dI aK ai).1; have h2:=j.lt _ _ _ _ ax q h; omega
 have bE:=ep aK (show S0≤_ by have :E.heap.size≤E.drew.heap.size:=cj _; omega)
 have ac:(fun w'=>bL w'.heap A [str (ky xs (k:Int)),.slice G (flagsOf xs (k:Int)).length I]∧Hb.aO w'.heap mb 0=some (aQ tb)) a1:=⟨Wk.B Z i.1,Wk.aO Z i.2⟩
 refine ⟨ac,?_⟩
 refine aH 12 aa (fun _ _=>nc aa) ac<|aH 13 aa (fun _ _=>fa B3 aa) ac<|he 14 aa ag<|cV gX aa aa (v:=au k) aa a.cells (by show 2 < 6; omega) fun a2 aA bj=> ?_
 have aG:a2.heap[mb]? =some (.cells (nV tb C K F (k:Int) aL ps).toArray 183 (0,0)):=bj
 have bq:=j.vG bp a.cells a.lo a.nf aA
 have ae:(fun w'=>bL w'.heap A [str (ky xs (k:Int)),.slice G (flagsOf xs (k:Int)).length I]∧Hb.aO w'.heap mb 0=some (aQ tb)) a2:=⟨Md.B aA ac.1 aF,(a6 aG).trans rfl⟩
 refine ⟨ae,?_⟩
 refine aH 15 aa (fun _ _=>nc aa) ae<|aH 16 aa (fun _ _=>fa B4 aa) ae<|he 17 aa ag<|cV kN aa aa (v:=str<|ky xs (k:Int)) aa aG (by show 3 < 6; omega) fun a3 aB bk=> ?_
 have aI:a3.heap[mb]? =some (.cells (nV tb C K F (k:Int) (ky xs (k:Int)) ps).toArray 183 (0,0)):=bk
 have br:=j.vG bq aG a.lo a.nf aB
 have ah:(fun w'=>bL w'.heap A [str (ky xs (k:Int)),.slice G (flagsOf xs (k:Int)).length I]∧Hb.aO w'.heap mb 0=some (aQ tb)) a3:=⟨Md.B aB ae.1 aF,(a6 aI).trans rfl⟩
 refine ⟨ah,?_⟩
 refine aH 18 aa (fun _ _=>nc aa) ah<|aH 19 aa (fun _ _=>fa Ij aa) ah<|he 20 aa ag<|cV Bp aa aa (v:= .slice J (aV F (flagsOf xs (k:Int)) 1).length M) aa aI (by show 4 < 6; omega) fun ak aC bl=> ?_
 have aJ:ak.heap[mb]? =some (.cells (nV tb C ⟨K.ar,K.cr,K.rn,J,M⟩ F (k:Int) (ky xs (k:Int))<|aV F (flagsOf xs (k:Int)) 1).toArray 183 (0,0)):=bl
 rw [bd] at aJ
 have bs:=j.vG br aI a.lo a.nf aC
 have aZ:=(aA.trans' aB fun q ai h=>h).trans' aC fun q ai h=>h
 have aX:TF a1 [185] (fun q=>q=mb):=TF.eq (dt a.cells) az
 have aU:jG ak fp S0 mb tb C ⟨K.ar,K.cr,K.rn,J,M⟩ F (k:Int) x.1 (aV F (flagsOf xs (k:Int)) 1):=⟨a.lo,aJ,a.nf,bZ a.ru aZ aX az,a.rf,a.rn,bZ bE aZ aX az,bA⟩
 have bx:(fun w'=>bL w'.heap A [str (ky xs (k:Int)),.slice G (flagsOf xs (k:Int)).length I]∧Hb.aO w'.heap mb 0=some (aQ tb)) ak:=⟨Md.B aC ah.1 aF,(a6 aJ).trans rfl⟩
 refine ⟨bx,?_⟩
 refine hn ag<|tn<|am _ _<|aj fun _ a9=>p mv<|e<|cl QG (XR B tb Y F xs ap C S0 mb an V j ⟨K.ar,K.cr,K.rn,J,M⟩ pre fp k x ak aU bs a0 tl<|by rw [bG,uP ao]) aa fun v37 b3 bw=> ?_
 obtain ⟨bc,bM,bg,rfl,bo,bn,bH,bI⟩:=bw
 exact aw<|a9 _ _<|rt<|f1 aa aa<|⟨bc,bM,bg,_,_,_,_,aa,bo,aU.gw bn,by rw [uP ao]; exact bH,fun h=>by rw [uP ao]; exact bI h⟩
theorem uR (q:Option Addr) (n:Int) (w:World):
 bh ay 16 (ba [.pointer q,.int .i64 n]) w (fun v w'=> ∃ a be,v= .func (.func 40) #[] #[aQ a,aQ be]∧w.heap.size≤a∧w.heap.size≤be∧kJ w' a q∧jq w' be n∧Wk w w'):=by
 refine enter func16 aa ntmps16 aa<|aj fun _ A=>e<|uI aa aa fun E V M i I=> ?_
 have U:=i.size
 exact e<|uI aa aa fun G Y O j J=>aw<|A _ _<|aj fun _ C=>p JS<|p aB<|aE<|C _ _<|rt<|f1 aa aa<|⟨E,G,aa,ab,ab,Wk.aJ j.md I,J,i.md.trans j.md⟩
theorem Bx (B tb:Nat) (C:iU) (F:aR) (xs:List bD) (M:eR F xs) (a be j:Nat) (n:Int) (q:Bool→List cx→(Nat→Prop)→World→Prop) (w:World) (J:q true [] (fun _=>False) w) (A:Yc ay j w.heap.size qy (ir F xs n) (fun W=>gp W B tb C F xs∧kJ W a (some ⟨tb,0,none⟩)∧jq W be n) q):
 bh ay 40 (ba [.func (.yield j) #[] #[],aQ a,aQ be]) w (fun v w'=> ∃ b pre fp,q b pre fp w'∧pre <+:(ir F xs n)∧(b=true→pre=(ir F xs n))):=by
 obtain ⟨ak,O,al⟩:=A.cap _ _ _ _ J
 refine enter func40 aa ntmps40 aa<|aj fun _ V=>p (ld pA aa<|(a6 O).trans aa)<|p (J0 vW aa aa)<|aE<|V _ _<|ct (aa) ?_
 have i:(fun w'=>kJ w' a (some ⟨tb,0,none⟩)∧jq w' be n) w.drew:=⟨O,al⟩
 refine bJ (fun w'=>kJ w' a (some ⟨tb,0,none⟩)∧jq w' be n) aa wide i<|aH 0 aa (fun w' I=>ld pA aa<|(a6 I.1).trans aa) i<|bC 1 aa (.func (.yield j) #[] #[]) i<|aH 3 aa (fun w' I=>ld bA aa<|(a6 I.2).trans aa) i<|he 2 aa ag<|cl Qm (ON B tb C F xs j w.heap.size w.drew (ak.wk (Md.refl _ _).drew) M<|cj _) aa fun aw U ae=> ?_
 obtain ⟨mb,K,rfl,ab,E⟩:=ae
 have ah:(fun w'=>kJ w' a (some ⟨tb,0,none⟩)∧jq w' be n) U:=⟨Wk.aJ E i.1,Wk.aJ E i.2⟩
 refine ⟨ah,?_⟩
 refine he 4 aa ag<|cl Qn (yS B tb C F xs M j w.heap.size mb (ir F xs n) q (A.Zr fun W h=>h.1) K 0 [] [] [] (fun _=>False) n U ab (A.wk J<|(Md.refl (fun _=>False) w).drew.trans E) []<|by rw [ed,p9]) aa fun v10 ap ac=> ?_
 obtain ⟨Y,ao,Z,aq,ar,ax,av,rfl,G,au,am,an⟩:=ac
 rw [p9] at G
 have ai:(fun w'=>kJ w' a (some ⟨tb,0,none⟩)∧jq w' be n) ap:=(A.cap _ _ _ _ G).2
 refine ⟨ai,?_⟩
 exact hn ag<|f0 aa<|⟨Y,ao,Z,G,am,an⟩
theorem SF (i be C:Nat) (n:Int) (a:Bool→List cx→(Nat→Prop)→World→Prop) (w:World) (q:a true [] (fun _=>False) w) (A:kJ w i none):
 bh ay 40 (ba [.func (.yield C) #[] #[],aQ i,aQ be]) w (fun v w'=> ∃ b pre fp,a b pre fp w'∧pre <+:([]:List cx)∧(b=true→pre=([]:List cx))):=by
 refine enter func40 aa ntmps40 aa<|aj fun _ j=>p (ld pA aa<|(a6 A).trans aa)<|p (J0 vW aa aa)<|aE<|j _ _<|cf (aa)<|aM<|f0 aa ?_
 exact ⟨true,[],_,q,EH _,fun _=>rfl⟩
theorem xR (B tb:Nat) (i:iU) (F:aR) (xs:List bD) (A:eR F xs) (a be:Nat) (n:Int):Ab ay 40 #[.pointer (some ⟨a,0,none⟩),.pointer (some ⟨be,0,none⟩)] qy (ir F xs n) (fun W=>gp W B tb i F xs∧kJ W a (some ⟨tb,0,none⟩)∧jq W be n):=
 fun l j W q C=>lO (Bx B tb i F xs A a be l n j W q C) fun e w' ⟨v,he,E⟩=>⟨⟨v,he⟩,E⟩
theorem SG (a be:Nat) (n:Int):Ab ay 40 #[.pointer (some ⟨a,0,none⟩),.pointer (some ⟨be,0,none⟩)] qy [] (fun W=>kJ W a none):=
 fun l j W i q=>lO (SF a be l n j W i<|q.cap _ _ _ _ i) fun e w' ⟨v,he,A⟩=>⟨⟨v,he⟩,A⟩
end Go.Hb.uw
end
section
set_option maxRecDepth 20000
set_option maxHeartbeats 1000000
namespace Go.Hb.xg
open Go.Hb.dT
open Go.Proofs
open Go.Hb.fq Go.Hb.fQ Go.Hb.gn Go.Hb.jF Go.Hb.iK Go.Hb.kH Go.Hb.iM Go.Hb.j4 Go.Hb.kK Go.Hb.k0 Go.Hb.lA Go.Hb.lR Go.Hb.mj Go.Hb.ml Go.Hb.jP Go.Hb.lC Go.Hb.mV Go.Hb.nE Go.Hb.ox Go.Hb.qg Go.Hb.pw Go.Hb.qe Go.Hb.rm Go.Hb.uw
def ki (L:List cx) (most:Int):List cx:=if most < 1 then [] else L.take most.toNat
theorem LN {L:List cx} {most:Int} (h:(L.length:Int) < most):ki L most=L:=by unfold ki; rw [if_neg ab,eI ab]
theorem LO {L q:List cx} {most:Int} (h:q <+:L) (hm:(q.length:Int)=most) (h1:¬most < 1):ki L most=q:=by
 have e:=List.prefix_iff_eq_take.1 h
 unfold ki; rw [if_neg h1,show most.toNat=q.length by omega]; exact e.symm
theorem DL {L:List cx} {most:Int} (h:most < 1):ki L most= []:=if_pos h
theorem JA (B tb:Nat) (ar:iU) (F:aR) (xs:List bD) (n most:Int) (w:World) (aO:gp w B tb ar F xs) (a2:eR F xs) (bP:most≤1048576):
 bh ay 13 (ba [.pointer (some ⟨tb,0,none⟩),.int .i64 n,.int .i64 most]) w (fun v w'=>bo w' w.heap.size 41 5 v (ki (ir F xs n) most).length (iX<|ki (ir F xs n) most)∧Wk w w'):=by
 refine xV [] func13 aa ntmps13 aa ?_
 refine eU<|fj<|rg aa<|e<|uI aa aa fun V b1 bE aN a4=> ?_
 have bV:=aN.size
 refine p aB<|nl<|eN<|eU<|fj<|rg aa<|e<|ga ME fun ah bt bG ax a7=> ?_
 have bW:=ax.size
 have aL:=aN.md.trans ax.md
 have aH:=Wk.aJ ax.md a4
 refine nl<|eN<|eU<|eU<|fj<|rg aa<|p (ld bA aa<|(a6 aH).trans aa)<|p (lt aa aa)<|nl<|eN<|fj<|cd aa (fun bC=> ?_) fun bC=> ?_
 refine sq fun a0 aw=>rg aa<|p aB<|nl<|tn<|aw _ _<|rt<|prt<|HG aa aa ?_
 exact ⟨by rw [DL bC]; exact du _ _ _ _,aL⟩
 refine aM<|eN<|eU<|eU<|fj<|rg aa<|p mv<|p mv<|e<|cl FX (uR (some ⟨tb,0,none⟩) n bt) aa fun bY aD bg=> ?_
 obtain ⟨Y,be,rfl,bM,bK,aS,aP,aj⟩:=bg
 have ai:=aL.trans aj
 have bS:=aj.size
 have bl:=Wk.aJ aj a7
 have bj:jq aD V most:=Wk.aJ aj aH
 have aq:ah < aD.heap.size:=ab
 have aW:V < aD.heap.size:=ab
 have aX:=(dm.1 aS).1
 have hle:=(dm.1 aP).1
 have aZ:=ai.size
 refine nl<|eN ?_
 apply KW (qy) (ir F xs n) (fun W=>gp W B tb ar F xs∧kJ W Y (some ⟨tb,0,none⟩)∧jq W be n) (fun pre fp i=> ∃ v,i.heap[ah]? =some (.cells [v].toArray 27 (0,0))∧bo i w.heap.size 41 5 v pre.length (iX pre)∧(∀ k,v.ownBlock=some k↔fp k)∧kJ i Y (some ⟨tb,0,none⟩)∧jq i be n∧jq i V most∧Wk w i∧(pre.length:Int) < most) (fun r pre fp i=>r=false∧∃ v,i.heap[ah]? =some (.cells [v].toArray 27 (0,0))∧bo i w.heap.size 41 5 v pre.length (iX pre)∧(∀ k,v.ownBlock=some k↔fp k)∧kJ i Y (some ⟨tb,0,none⟩)∧jq i be n∧jq i V most∧Wk w i∧(pre.length:Int)=most) rfl Gu (fun _=>rfl) (xR B tb ar F xs a2 Y be n) (⟨.slice none 0 0,bl,du _ _ _ _,fun k=>by simp [iH],aS,aP,bj,ai,by simp only [fP]; omega⟩) (fun pre fp W ⟨v,h1,h2,h3,h4,h5,Z,I,ac⟩=>⟨⟨aO.wk I,h4,h5⟩,fun k hk=>(dI h2<|(h3 k).2 hk).2⟩) (fun r pre fp W ⟨aF,v,h1,h2,h3,h4,h5,Z,I,ac⟩=>⟨⟨aO.wk I,h4,h5⟩,fun k hk=>(dI h2<|(h3 k).2 hk).2⟩) (fun pre fp W a1 F ⟨v,h1,h2,h3,h4,h5,Z,I,ac⟩ hm C=>⟨v,ll h1 hm aq C,zi h2 hm (fun k hk=>(h3 k).1 hk) C,h3,ll h4 hm aX C,ll h5 hm hle C,ll Z hm aW C,zj I hm aZ C,ac⟩) (fun r pre fp W a1 F ⟨aF,v,h1,h2,h3,h4,h5,Z,I,ac⟩ hm C=>⟨aF,v,ll h1 hm aq C,zi h2 hm (fun k hk=>(h3 k).1 hk) C,h3,ll h4 hm aX C,ll h5 hm hle C,ll Z hm aW C,zj I hm aZ C,ac⟩) (fun x b i=>i.heap[b]? =some (.cells (eC x).toArray 41 (0,0))) (Fv (f:=eC))
 intro l x i K J
 exact rg aa<|e<|ga D3 fun aE b3 bJ bf a8=>e<|gi Bl aa aa aa aa a8 az fun b2 bd a5=>nl<|tn<|J aE _ (bf.md.trans' bd fun q bQ h=>by omega) a5
 intro l pre x rest fp aE i bR av aG
 obtain ⟨v,M,A,U,ao,an,al,O,hlen⟩:=av
 have bX:=O.size
 have bL:=(dm.1 aG).1
 refine aJ<|sq fun a0 aw=>rg aa<|p (ld qj aa<|(a6 M).trans aa)<|p (cT qk aa (aa) fun j bN=>(oB aG).bB j)<|e<|kq y8 aa aa aa fun bw b0 bz a a3=> ?_
 have bT:=a.size
 refine e<|ap y8 (aU A a.md) aa ab aa (aI.dS a3) (aa) (aa) ab ab fun ae bs aC E bU aV=> ?_
 have bb:=Wk.own (O.trans a.md) (aU A a.md) E<|cj _
 have am:=E.aJ (a.md.aJ M) fun h=>dw (aU A a.md) (a.md.aJ M) az h
 obtain ⟨bv,bx,br⟩:=cw aC
 have bp:=E.aJ (a.md.aJ ao) fun h=>dw (aU A a.md) (a.md.aJ ao) az h
 have bm:=E.aJ (a.md.aJ an) fun h=>dw (aU A a.md) (a.md.aJ an) az h
 have bk:=E.aJ (a.md.aJ al) fun h=>dw (aU A a.md) (a.md.aJ al) az h
 refine e<|cV G6 aa aa (eH aC) am (by simp) fun ag G au=> ?_
 have aK:Wk w ag:=Md.trans' bb G fun k hk h=>by omega
 have ak:TF bs [29] (fun q=>q=ah):=TF.eq (dt am) az
 have aY:bo ag w.heap.size 41 5 ae (pre++ [x]).length (iX<|pre++ [x]):=bZ (by rw [show iX (pre++ [x])=iX pre++eC x from by unfold iX; rw [ny,o0],bI]; exact aC) G ak az
 have aT:kJ ag Y (some ⟨tb,0,none⟩):=G.gy ak bp az
 have aQ:jq ag be n:=G.gy ak bm az
 have aA:jq ag V most:=G.gy ak bk az
 have bO:(pre++ [x]).length=pre.length+1:=by simp
 refine nl<|tn<|aw _ _<|sq fun bu bc=>rg aa<|p (ld qj aa<|(a6 au).trans<|by rw [br]; rfl)<|p (bF tN aa aa)<|p (ld bA aa<|(a6 aA).trans aa)<|p (bH aa aa)<|nl<|tn<|bc _ _<|cd aa (fun heq=> ?_) fun heq=> ?_
 exact ext<|m4 az<|⟨aa,(fM.wk a.md).trans ((fM.md E<|mF<|aU A a.md).trans<|fM.md G fun k hk=>⟨_,_,_,hk ▸ am⟩),fun k=>ae.ownBlock=some k,(Gw.wk a.md).trans ((Gw.md E (fun k hk=> .inl<|(U k).1 hk) fun k hk=>(aV k hk).imp (fun h=>(U k).1 h) id).trans<|Gw.md G (fun k hk=> .inr<|by subst hk; exact aq) fun _ h=> .inl h),aa,⟨ae,au,aY,fun _=>Iff.rfl,aT,aQ,aA,aK,ab⟩⟩
 exact aM<|bn<|⟨(fM.wk a.md).trans ((fM.md E<|mF<|aU A a.md).trans<|fM.md G fun k hk=>⟨_,_,_,hk ▸ am⟩),fun k=>ae.ownBlock=some k,(Gw.wk a.md).trans ((Gw.md E (fun k hk=> .inl<|(U k).1 hk) fun k hk=>(aV k hk).imp (fun h=>(U k).1 h) id).trans<|Gw.md G (fun k hk=> .inr<|by subst hk; exact aq) fun _ h=> .inl h),⟨ae,au,aY,fun _=>Iff.rfl,aT,aQ,aA,aK,ab⟩⟩
 intro D i a9 av J
 obtain ⟨fp,v,M,A,U,ao,an,al,O,hlen⟩:=av
 refine eN<|eU<|fj<|rg aa<|p (ld qj aa<|(a6 M).trans aa)<|p aB<|nl<|eN<|rY<|x3 aa aa J ?_
 exact ⟨db (by rw [LN hlen]; exact A) (lg _ _ _) (fun k hk h=>by obtain ⟨c,e,z,h1⟩:=mF A k hk; rw [h,J] at h1; cases h1),Md.trans' O (lg _ _ _) fun k hk h=>by have :=ai.size; omega⟩
 intro D i pre a9 bq bi J
 obtain ⟨fp,_,v,M,A,U,ao,an,al,O,hlen⟩:=bi
 refine eN<|eU<|fj<|rg aa<|p (ld qj aa<|(a6 M).trans aa)<|p aB<|nl<|eN<|rY<|x3 aa aa J ?_
 exact ⟨db (by rw [LO bq hlen bC]; exact A) (lg _ _ _) (fun k hk h=>by obtain ⟨c,e,z,h1⟩:=mF A k hk; rw [h,J] at h1; cases h1),Md.trans' O (lg _ _ _) fun k hk h=>by have :=ai.size; omega⟩
 exact fun _ _ _ _ _ h _=>by obtain ⟨_,h,_⟩:=h; cases h
theorem VD (n most:Int) (w:World) (bK:most≤1048576):
 bh ay 13 (ba [.pointer none,.int .i64 n,.int .i64 most]) w (fun v w'=>bo w' w.heap.size 41 5 v (ki ([]:List cx) most).length (iX<|ki ([]:List cx) most)∧Wk w w'):=by
 refine xV [] func13 aa ntmps13 aa ?_
 refine eU<|fj<|rg aa<|e<|uI aa aa fun U bV bv aL a0=> ?_
 have bQ:=aL.size
 refine p aB<|nl<|eN<|eU<|fj<|rg aa<|e<|ga ME fun ah bp bw aw a2=> ?_
 have bR:=aw.size
 have aK:=aL.md.trans aw.md
 have aG:=Wk.aJ aw.md a0
 refine nl<|eN<|eU<|eU<|fj<|rg aa<|p (ld bA aa<|(a6 aG).trans aa)<|p (lt aa aa)<|nl<|eN<|fj<|cd aa (fun bC=> ?_) fun bC=> ?_
 refine sq fun aX av=>rg aa<|p aB<|nl<|tn<|av _ _<|rt<|prt<|HG aa aa ?_
 exact ⟨by rw [DL bC]; exact du _ _ _ _,aK⟩
 refine aM<|eN<|eU<|eU<|fj<|rg aa<|p mv<|p mv<|e<|cl FX (uR none n bp) aa fun bT aC bb=> ?_
 obtain ⟨V,be,rfl,bE,bz,aP,aN,aj⟩:=bb
 have ai:=aK.trans aj
 have bN:=aj.size
 have bg:=Wk.aJ aj a2
 have bd:jq aC U most:=Wk.aJ aj aG
 have aq:ah < aC.heap.size:=ab
 have aS:U < aC.heap.size:=ab
 have aT:=(dm.1 aP).1
 have hle:=(dm.1 aN).1
 have aW:=ai.size
 refine nl<|eN ?_
 apply KW (qy) (([]:List cx)) (fun W=>kJ W V none) (fun pre fp i=> ∃ v,i.heap[ah]? =some (.cells [v].toArray 27 (0,0))∧bo i w.heap.size 41 5 v pre.length (iX pre)∧(∀ k,v.ownBlock=some k↔fp k)∧kJ i V none∧jq i be n∧jq i U most∧Wk w i∧(pre.length:Int) < most) (fun r pre fp i=>r=false∧∃ v,i.heap[ah]? =some (.cells [v].toArray 27 (0,0))∧bo i w.heap.size 41 5 v pre.length (iX pre)∧(∀ k,v.ownBlock=some k↔fp k)∧kJ i V none∧jq i be n∧jq i U most∧Wk w i∧(pre.length:Int)=most) rfl Gu (fun _=>rfl) (SG V be n) (⟨.slice none 0 0,bg,du _ _ _ _,fun k=>by simp [iH],aP,aN,bd,ai,by simp only [fP]; omega⟩) (fun pre fp W ⟨v,h1,h2,h3,h4,h5,Y,Z,ac⟩=>⟨h4,fun k hk=>(dI h2<|(h3 k).2 hk).2⟩) (fun r pre fp W ⟨aE,v,h1,h2,h3,h4,h5,Y,Z,ac⟩=>⟨h4,fun k hk=>(dI h2<|(h3 k).2 hk).2⟩) (fun pre fp W aY F ⟨v,h1,h2,h3,h4,h5,Y,Z,ac⟩ hm C=>⟨v,ll h1 hm aq C,zi h2 hm (fun k hk=>(h3 k).1 hk) C,h3,ll h4 hm aT C,ll h5 hm hle C,ll Y hm aS C,zj Z hm aW C,ac⟩) (fun r pre fp W aY F ⟨aE,v,h1,h2,h3,h4,h5,Y,Z,ac⟩ hm C=>⟨aE,v,ll h1 hm aq C,zi h2 hm (fun k hk=>(h3 k).1 hk) C,h3,ll h4 hm aT C,ll h5 hm hle C,ll Y hm aS C,zj Z hm aW C,ac⟩) (fun x b i=>i.heap[b]? =some (.cells (eC x).toArray 41 (0,0))) (Fv (f:=eC))
 intro l x i K I
 exact rg aa<|e<|ga D3 fun aD bX bx a9 a3=>e<|gi Bl aa aa aa aa a3 az fun bW a8 a1=>nl<|tn<|I aD _ (a9.md.trans' a8 fun q bL h=>by omega) a1
 intro l pre x rest fp aD i bM au aF
 obtain ⟨v,J,A,O,ao,an,al,M,hlen⟩:=au
 have bS:=M.size
 have bD:=(dm.1 aF).1
 refine aJ<|sq fun aX av=>rg aa<|p (ld qj aa<|(a6 J).trans aa)<|p (cT qk aa (aa) fun j bG=>(oB aF).bB j)<|e<|kq y8 aa aa aa fun bs bU bu a aZ=> ?_
 have bO:=a.size
 refine e<|ap y8 (aU A a.md) aa ab aa (aI.dS aZ) (aa) (aa) ab ab fun ae bm aA E bP aR=> ?_
 have a5:=Wk.own (M.trans a.md) (aU A a.md) E<|cj _
 have am:=E.aJ (a.md.aJ J) fun h=>dw (aU A a.md) (a.md.aJ J) az h
 obtain ⟨br,bt,bl⟩:=cw aA
 have bj:=E.aJ (a.md.aJ ao) fun h=>dw (aU A a.md) (a.md.aJ ao) az h
 have bi:=E.aJ (a.md.aJ an) fun h=>dw (aU A a.md) (a.md.aJ an) az h
 have bf:=E.aJ (a.md.aJ al) fun h=>dw (aU A a.md) (a.md.aJ al) az h
 refine e<|cV G6 aa aa (eH aA) am (by simp) fun ag G ar=> ?_
 have aH:Wk w ag:=Md.trans' a5 G fun k hk h=>by omega
 have ak:TF bm [29] (fun q=>q=ah):=TF.eq (dt am) az
 have aV:bo ag w.heap.size 41 5 ae (pre++ [x]).length (iX<|pre++ [x]):=bZ (by rw [show iX (pre++ [x])=iX pre++eC x from by unfold iX; rw [ny,o0],bI]; exact aA) G ak az
 have aQ:kJ ag V none:=G.gy ak bj az
 have aO:jq ag be n:=G.gy ak bi az
 have ax:jq ag U most:=G.gy ak bf az
 have bJ:(pre++ [x]).length=pre.length+1:=by simp
 refine nl<|tn<|av _ _<|sq fun bq a7=>rg aa<|p (ld qj aa<|(a6 ar).trans<|by rw [bl]; rfl)<|p (bF tN aa aa)<|p (ld bA aa<|(a6 ax).trans aa)<|p (bH aa aa)<|nl<|tn<|a7 _ _<|cd aa (fun heq=> ?_) fun heq=> ?_
 exact ext<|m4 az<|⟨aa,(fM.wk a.md).trans ((fM.md E<|mF<|aU A a.md).trans<|fM.md G fun k hk=>⟨_,_,_,hk ▸ am⟩),fun k=>ae.ownBlock=some k,(Gw.wk a.md).trans ((Gw.md E (fun k hk=> .inl<|(O k).1 hk) fun k hk=>(aR k hk).imp (fun h=>(O k).1 h) id).trans<|Gw.md G (fun k hk=> .inr<|by subst hk; exact aq) fun _ h=> .inl h),aa,⟨ae,ar,aV,fun _=>Iff.rfl,aQ,aO,ax,aH,ab⟩⟩
 exact aM<|bn<|⟨(fM.wk a.md).trans ((fM.md E<|mF<|aU A a.md).trans<|fM.md G fun k hk=>⟨_,_,_,hk ▸ am⟩),fun k=>ae.ownBlock=some k,(Gw.wk a.md).trans ((Gw.md E (fun k hk=> .inl<|(O k).1 hk) fun k hk=>(aR k hk).imp (fun h=>(O k).1 h) id).trans<|Gw.md G (fun k hk=> .inr<|by subst hk; exact aq) fun _ h=> .inl h),⟨ae,ar,aV,fun _=>Iff.rfl,aQ,aO,ax,aH,ab⟩⟩
 intro D i a4 au I
 obtain ⟨fp,v,J,A,O,ao,an,al,M,hlen⟩:=au
 refine eN<|eU<|fj<|rg aa<|p (ld qj aa<|(a6 J).trans aa)<|p aB<|nl<|eN<|rY<|x3 aa aa I ?_
 exact ⟨db (by rw [LN hlen]; exact A) (lg _ _ _) (fun k hk h=>by obtain ⟨c,e,z,h1⟩:=mF A k hk; rw [h,I] at h1; cases h1),Md.trans' M (lg _ _ _) fun k hk h=>by have :=ai.size; omega⟩
 intro D i pre a4 bk bc I
 obtain ⟨fp,_,v,J,A,O,ao,an,al,M,hlen⟩:=bc
 refine eN<|eU<|fj<|rg aa<|p (ld qj aa<|(a6 J).trans aa)<|p aB<|nl<|eN<|rY<|x3 aa aa I ?_
 exact ⟨db (by rw [LO bk hlen bC]; exact A) (lg _ _ _) (fun k hk h=>by obtain ⟨c,e,z,h1⟩:=mF A k hk; rw [h,I] at h1; cases h1),Md.trans' M (lg _ _ _) fun k hk h=>by have :=ai.size; omega⟩
 exact fun _ _ _ _ _ h _=>by obtain ⟨_,h,_⟩:=h; cases h
end Go.Hb.xg
end
section
set_option maxRecDepth 20000
set_option maxHeartbeats 1000000
namespace Go.Hb.ux
open Go.Hb.dT
open Go.Proofs
open Go.Hb.fq Go.Hb.fQ Go.Hb.gn Go.Hb.jF Go.Hb.iK Go.Hb.kH Go.Hb.iM Go.Hb.j4 Go.Hb.kK Go.Hb.k0 Go.Hb.lA Go.Hb.lR Go.Hb.mj Go.Hb.ml Go.Hb.jP Go.Hb.lC Go.Hb.mV Go.Hb.nE Go.Hb.ox Go.Hb.qg Go.Hb.pw Go.Hb.qe Go.Hb.rm
def vU (cy:Bool) (most limit:Int) (acc:List cx) (v:Value):List Value:= [.bool cy,.bool false,str [],.int .i64 most,.int .i64 limit,.int .i64 (acc.length:Nat),.int .i64 (iW acc:Nat),v]
def Bd (acc:List cx):Prop :=acc.length≤iW acc∧iW acc≤acc.length*1000∧acc.length≤2000000
theorem Bd.nil:Bd []:=⟨jD _,jD _,jD _⟩
def Sd (d:cx):Prop :=1≤d.kG.length∧d.kG.length≤1000
theorem JP {most limit:Int} {acc:List cx} {d:cx} (h:kP most limit acc=true):rR most limit acc d=acc:=if_pos h
theorem JQ {most limit:Int} {acc:List cx} {d:cx} (h:kP most limit acc=false):rR most limit acc d=acc++ [d]:=if_neg<|by rw [h]; exact eb
theorem TO {most limit:Int} {acc:List cx} (h:kP most limit acc=false):(acc.length:Int) < most∧(iW acc:Int)≤limit:=by
 unfold kP at h; have :=of_decide_eq_false h; omega
theorem FG (acc:List cx) (d:cx):iW (acc++ [d])=iW acc+d.kG.length:=by rw [FE,FF]
theorem Bd.met {most limit:Int} {acc:List cx} {d:cx} (h:Bd acc) (hm:most≤2000∨limit≤1048576) (hd:Sd d):Bd (rR most limit acc d):=by
 by_cases a:kP most limit acc=true
 · rw [JP a]; exact h
 · rw [JQ (by simpa using a)]
   have :=TO<|by simpa using a
   unfold Bd Sd at*
   rw [FG,bI,eW]
   omega
structure ik (w:World) (fp:Nat→Prop) (S0 xb:Nat) (cy:Bool) (most limit:Int) (acc:List cx):Prop where
 lo:S0≤xb
 ex:∃ v,w.heap[xb]? =some (.cells (vU cy most limit acc v).toArray 111 (0,0))∧(if cy=true then bo w S0 43 5 v acc.length (iX acc) else v= .slice none 0 0)∧∀ k,fp k↔(k=xb∨v.ownBlock=some k)
 bd:Bd acc
structure Tw (fp:Nat→Prop) (w:World) (fp':Nat→Prop) (w':World):Prop where
 md:Md fp w w'
 sub:∀ k,fp' k→fp k∨w.heap.size≤k
section
variable {w w' w'':World} {fp fp' fp'':Nat→Prop} {S0 xb:Nat} {cy:Bool} {most limit:Int} {acc:List cx}
theorem Tw.refl (fp:Nat→Prop) (w:World):Tw fp w fp w:=⟨Md.refl _ _,fun _ h=> .inl h⟩
theorem Tw.trans (h:Tw fp w fp' w') (a:Tw fp' w' fp'' w''):Tw fp w fp'' w'':=
 ⟨h.md.trans' a.md fun k hk i=>(h.sub k i).elim id (fun h2=>by omega),fun k hk=>(a.sub k hk).elim (h.sub k) fun h2=> .inr<|Nat.le_trans h.md.size h2⟩
theorem Tw.wk (h:Wk w w'):Tw fp w fp w':=⟨h.mono fun _ _ h=>h.elim,fun _ h=> .inl h⟩
theorem ik.wk (h:ik w fp S0 xb cy most limit acc) (hm:Wk w w'):ik w' fp S0 xb cy most limit acc:=by
 obtain ⟨v,h1,h2,h3⟩:=h.ex
 refine ⟨h.lo,⟨v,Wk.aJ hm h1,?_,h3⟩,h.bd⟩
 cases cy with
 | true =>rw [if_pos rfl] at h2 ⊢; exact aU h2 hm
 | false =>exact h2
theorem ik.tf (h:ik w fp S0 xb cy most limit acc):TF w [113,45] fp:=by
 obtain ⟨v,h1,h2,h3⟩:=h.ex
 intro k hk
 rcases (h3 k).1 hk with rfl | hk
 · rw [dt h1]; decide
 · cases cy with
   | true =>rw [if_pos rfl] at h2; rw [DK h2 hk]; decide
   | false =>rw [if_neg az] at h2; rw [h2] at hk; cases hk
theorem ik.lt (h:ik w fp S0 xb cy most limit acc):∀ k,fp k→k < w.heap.size:=by
 obtain ⟨v,h1,h2,h3⟩:=h.ex
 intro k hk
 rcases (h3 k).1 hk with rfl | hk
 · exact (dm.1 h1).1
 · cases cy with
   | true =>rw [if_pos rfl] at h2; exact (dI h2 hk).2
   | false =>rw [if_neg az] at h2; rw [h2] at hk; cases hk
theorem ik.JM (h:ik w fp S0 xb cy most limit acc) {b:Nat} (hm:Md (fun q=>q=b) w w') (a:¬fp b):ik w' fp S0 xb cy most limit acc:=by
 obtain ⟨v,h1,h2,h3⟩:=h.ex
 refine ⟨h.lo,⟨v,hm.aJ h1 (fun h4=>a<|(h3 b).2<|.inl h4.symm),?_,h3⟩,h.bd⟩
 cases cy with
 | true =>rw [if_pos rfl] at h2 ⊢; exact db h2 hm fun k hk h4=>a<|by subst h4; exact (h3 _).2<|.inr hk
 | false =>exact h2
theorem ik.aO (h:ik w fp S0 xb cy most limit acc):Hb.aO w.heap xb 0=some (.bool cy)∧Hb.aO w.heap xb 1=some (.bool false)∧Hb.aO w.heap xb 3=some (.int .i64 most)∧Hb.aO w.heap xb 4=some (.int .i64 limit)∧Hb.aO w.heap xb 5=some (.int .i64 (acc.length:Nat))∧Hb.aO w.heap xb 6=some (.int .i64 (iW acc:Nat)):=by
 obtain ⟨v,h1,_⟩:=h.ex
 exact ⟨(a6 h1).trans aa,(a6 h1).trans aa,(a6 h1).trans aa,(a6 h1).trans aa,(a6 h1).trans aa,(a6 h1).trans aa⟩
theorem vo {B tb fb:Nat} {V:eh} {ve:Value} {F:aR} {xs:List bD} (a:fX w B tb fb V ve F xs) (h:ik w fp S0 xb cy most limit acc) (hm:Md fp w w'):fX w' B tb fb V ve F xs:=
 ⟨hm.gy h.tf a.cells az,a.fl.md hm h.tf az,a.en.md hm h.tf az⟩
theorem Ug {B tb fb:Nat} {V:eh} {ve:Value} {F:aR} {xs:List bD} (a:fX w B tb fb V ve F xs) {b:Nat} {cs:Array Value} {z:Nat×Nat} (i:w.heap[b]? =some (.cells cs 43 z)) (hm:Md (fun q=>q=b) w w'):fX w' B tb fb V ve F xs:=
 ⟨hm.gy (TF.eq (L:= [45]) (dt i) az) a.cells az,a.fl.md hm (TF.eq (L:= [45]) (dt i) az) az,a.en.md hm (TF.eq (L:= [45]) (dt i) az) az⟩
end
theorem Dg (B tb fb:Nat) (V:eh) (ve:Value) (F:aR) (xs:List bD) (n:Int) (w:World) (A:fX w B tb fb V ve F xs) (M:eR F xs) (hn:Rn F n):
 bh ay 184 (ba [aQ tb,.int .i64 n]) w (fun v w'=>v= .bool (lG F n)∧Wk w w'):=by
 refine enter func184 aa ntmps184 aa<|aj fun _ E=>aw<|E _ _<|aj fun _ j=>p mv<|p (bH aa aa)<|p mv<|gs (t:=7) aa (fun bC=> ?_) fun bC=> ?_
 exact sk aa aa aa aa<|sk aa aa aa aa<|sk aa aa aa aa<|sk aa aa aa aa<|sk aa aa aa aa<|sk aa aa aa aa<|sk aa aa aa aa<|sk aa aa aa aa<|sk aa aa aa aa<|sk aa aa aa aa<|sk aa aa aa aa<|p (bw aa)<|aw<|j _ _<|rt<|f1 aa aa<|⟨by rw [bC,GY]; rfl,Md.refl _ _⟩
 obtain ⟨k,rfl⟩:∃ k:Nat,n=(k:Int):=⟨n.toNat,by unfold Rn at hn; omega⟩
 obtain ⟨r,i⟩:∃ r,F.rules[k]? =some r:=⟨_,cz<|by unfold Rn at hn; omega⟩
 obtain ⟨I,J,a,c,G,q,C,O⟩:=A.iD i
 have U:=(fJ.1 i).1
 exact pg aa aa aa mv<|pg aa aa aa (nc aa)<|pg aa aa aa (fa nb aa)<|pg aa aa aa (ld gW aa<|(a6 A.cells).trans aa)<|pg aa aa aa (nc aa)<|pg aa aa aa (fa jL aa)<|pg aa aa aa (ld j6 aa<|G)<|pg aa aa aa mv<|pg aa aa aa (a7 nN aa aa ab<|aI.ok (q)<|nR C)<|pg aa aa aa (fa Tz aa)<|pg aa aa aa (ld mY aa<|e9 (f:=jv) (m:=8) (fun _=>rfl) q C 2 az)<|p (bm aa)<|aw<|j _ _<|rt<|f1 aa aa<|⟨by rw [s5 i]; rfl,Md.refl _ _⟩
theorem KU (B tb fb:Nat) (V:eh) (ve:Value) (F:aR) (xs:List bD) (word:Tx) (en:Nat) (f s pp:Int) (w:World) (I:fX w B tb fb V ve F xs) (G:eR F xs) (aW:Rn F f) (hs:Rn F s) (hp:Rn F pp):
 bh ay 121 (ba [aQ tb,.agg (eC ⟨word,en,f,s,pp⟩).toArray]) w (fun v w'=>v= .bool (fi F xs en f s pp)∧Wk w w'):=by
 refine enter func121 aa ntmps121 aa<|aj fun _ az=>e<|iV aa fun ah ap j al aK=> ?_
 have a3:=al.size
 have aN:=I.wk al.md
 have j:bL ap.heap ah [str word,au en,.int .i64 f,.int .i64 s,.int .i64 pp]:=aK
 have U:Wk w ap:=al.md
 refine aw<|az _ _<|sq fun _ aD=>aj fun _ aF=>p (fa yq aa)<|p (ld bA aa<|j.bB 2)<|p (bH aa aa)<|aE<|aF _ _<|cd aa (fun A=> ?_) fun A=> ?_
 refine aj fun _ ae=>p mv<|p (fa Ir aa)<|p (ld bA aa<|j.bB 1)<|e<|cl Qz (Xv B tb fb V ve F xs (en:Nat) 0 ap aN G) aa fun a4 a8 aO=> ?_
 obtain ⟨rfl,ai⟩:=aO
 have j:=Wk.B ai j
 refine aw<|ae _ _<|aj fun _ C=>p (fa rK aa)<|p (ld bA aa<|j.bB 4)<|p (cX aa aa)<|p mv<|gs (t:=21) aa (fun aH=> ?_) fun aH=> ?_
 refine sk aa aa aa aa<|sk aa aa aa aa<|p (bw aa)<|aw<|C _ _<|rt<|tr<|f1 aa aa ?_
 have i:fi F xs en f s pp=true :=IL A aH
 exact ⟨Eq.trans (b:=bQ true) aa (congrArg bQ i.symm),U.trans ai⟩
 refine pg aa aa aa mv<|pg aa aa aa (no aa)<|p (bm aa)<|aw<|C _ _<|rt<|tr<|f1 aa aa ?_
 have i:fi F xs en f s pp= !l5 F xs en 0:=by rw [IK A (jn.1 aH),JI]
 exact ⟨Eq.trans (b:=bQ<|!l5 F xs en 0) aa (congrArg bQ i.symm),U.trans ai⟩
 refine aM<|tn<|aD _ _<|aj fun _ ae=>p (fa yq aa)<|p (ld bA aa<|j.bB 2)<|p aB<|nl<|tn<|ae _ _ ?_
 refine ec (fun Z Y=> ∃ (O:Int),(O=if s= -1 then f else s)∧(Wk w Y)∧(bL Y.heap ah [str word,au en,.int .i64 f,.int .i64 s,.int .i64 pp])∧(Z 0=aQ tb)∧(Z 3=aQ ah)∧(Z 6= .int .i64 O)) ?_ ?_
 refine aj fun _ C=>p (fa yr aa)<|p (ld bA aa<|j.bB 3)<|p (cX aa aa)<|aE<|C _ _<|cd aa (fun am=> ?_) fun am=> ?_
 exact rg aa<|p (fa yr aa)<|p (ld bA aa<|j.bB 3)<|aw<|⟨s,(by rw [if_neg am]),U,j,aa,aa,aa⟩
 exact aM<|tn<|⟨f,(by rw [if_pos (jn.1 am)]),U,j,aa,aa,aa⟩
 rintro Z Y ⟨O,J,ax,aV,aX,aY,aZ⟩
 refine fx 0 aX<|fx 3 aY<|fx 6 aZ<|aj fun _ C=>ak (aQ tb)<|ak (.int .i64 O)<|e<|cl Px (Xq B tb fb V ve F xs O Y (I.wk ax) G) aa fun a5 a0 aP=> ?_
 obtain ⟨rfl,aq⟩:=aP
 have q:=Wk.B aq aV
 have a:=ax.trans aq
 refine aw<|C _ _<|sq fun _ aG=>aj fun _ aI=>p mv<|p (no aa)<|aE<|aI _ _<|cb aa (fun E=> ?_) fun E=> ?_
 refine aj fun _ ag=>aw<|ag _ _<|rt<|tr<|f1 aa aa ?_
 have i:fi F xs en f s pp=false :=Co A<|by rw [← J]; simpa using E
 exact ⟨Eq.trans (b:=bQ false) aa (congrArg bQ i.symm),a⟩
 refine aM<|tn<|aG _ _<|sq fun _ ag=>aj fun _ aJ=>p (fa rK aa)<|p (ld bA aa<|q.bB 4)<|p (bH aa aa)<|aE<|aJ _ _<|cd aa (fun M=> ?_) fun M=> ?_
 refine aj fun _ ab=>aw<|ab _ _<|rt<|tr<|f1 aa aa ?_
 have i:fi F xs en f s pp=true :=Cn A (by rw [← J]; simpa using E) M
 exact ⟨Eq.trans (b:=bQ true) aa (congrArg bQ i.symm),a⟩
 refine aM<|tn<|ag _ _<|aj fun _ ab=>ak (aQ tb)<|p (fa yq aa)<|p (ld bA aa<|q.bB 2)<|e<|cl AK (Dg B tb fb V ve F xs f a0 (I.wk a) G aW) aa fun a6 a1 aS=> ?_
 obtain ⟨rfl,ar⟩:=aS
 have q:=Wk.B ar q
 have a:=a.trans ar
 refine aw<|ab _ _<|aj fun _ aA=>ak (aQ tb)<|p (fa yr aa)<|p (ld bA aa<|q.bB 3)<|e<|cl AK (Dg B tb fb V ve F xs s a1 (I.wk a) G hs) aa fun a7 a2 aT=> ?_
 obtain ⟨rfl,av⟩:=aT
 have q:=Wk.B av q
 have a:=a.trans av
 refine aw<|aA _ _<|aj fun _ aC=>ak (aQ tb)<|p (fa rK aa)<|p (ld bA aa<|q.bB 4)<|e<|cl AK (Dg B tb fb V ve F xs pp a2 (I.wk a) G hp) aa fun v51 a9 aU=> ?_
 obtain ⟨rfl,aL⟩:=aU
 have a:=a.trans aL
 refine aw<|aC _ _<|aj fun _ ac=>p mv<|p mv<|gb (t:=53) aa (fun an=> ?_) fun an=> ?_
 refine pg aa aa aa mv<|p (bw aa)<|p mv<|gb (t:=56) aa (fun ao=> ?_) fun ao=> ?_
 refine pg aa aa aa mv<|p (bw aa)<|aw<|ac _ _<|rt<|f1 aa aa ?_
 have i:fi F xs en f s pp=lG F pp:=by rw [pN A (by rw [← J]; simpa using E) M,an,(show lG F s=true by simpa using ao)]; simp
 exact ⟨Eq.trans (b:=bQ<|lG F pp) aa (congrArg bQ i.symm),a⟩
 refine sk aa aa aa aa<|p (bm aa)<|aw<|ac _ _<|rt<|f1 aa aa ?_
 have i:fi F xs en f s pp=false :=by rw [pN A (by rw [← J]; simpa using E) M,(show lG F s=false by simpa using ao)]; simp
 exact ⟨Eq.trans (b:=bQ false) aa (congrArg bQ i.symm),a⟩
 refine sk aa aa aa aa<|p (bm aa)<|p mv<|sk aa aa aa aa<|p (bm aa)<|aw<|ac _ _<|rt<|f1 aa aa ?_
 have i:fi F xs en f s pp=false :=by rw [pN A (by rw [← J]; simpa using E) M,an]; rfl
 exact ⟨Eq.trans (b:=bQ false) aa (congrArg bQ i.symm),a⟩
theorem TP (S0 xb:Nat) (cy:Bool) (most limit:Int) (acc:List cx) (fp:Nat→Prop) (w:World) (I:ik w fp S0 xb cy most limit acc):
 bh ay 185 (ba [aQ xb]) w (fun v w'=>v= .bool (kP most limit acc)∧Wk w w'):=by
 obtain ⟨J,M,c3,C,E,G⟩:=I.aO
 refine enter func185 aa ntmps185 aa<|aj fun _ A=>aw<|A _ _<|sq fun _ q=> ?_
 have a:(fun w'=>Wk w w') w.drew:=(Md.refl _ _).drew
 refine bJ (fun w'=>Wk w w') aa wide a<|bC 0 aa (aQ xb) a<|aH 1 aa (fun _ _=>nc aa) a<|aH 2 aa (fun _ _=>fa tg aa) a<|aH 3 aa (fun w' i=>ld bA aa<|Wk.aO i<|E) a<|bC 4 aa (aQ xb) a<|aH 5 aa (fun _ _=>nc aa) a<|aH 6 aa (fun _ _=>fa yc aa) a<|aH 7 aa (fun w' i=>ld bA aa<|Wk.aO i<|c3) a<|aH 8 aa (fun _ _=>ge aa aa) a<|aH 9 aa (fun _ _=>mv) a<|iO (t:=12) aa (fun hm=> ?_) fun hm=> ?_
 refine aW 10 aa ag aa aa aa aa a<|aW 11 aa ag aa aa aa aa a<|aW 12 aa ag aa aa aa aa a<|aW 13 aa ag aa aa aa aa a<|aW 14 aa ag aa aa aa aa a<|aW 15 aa ag aa aa aa aa a<|aW 16 aa ag aa aa aa aa a<|aW 17 aa ag aa aa aa aa a<|aW 18 aa ag aa aa aa aa a<|aH 19 aa (fun _ _=>bw aa) a<|aH 20 aa (fun _ _=>aB) a<|hn ag<|tn<|q _ _<|rt<|f1 aa aa ?_
 have j:kP most limit acc=true :=decide_eq_true<|Or.inl hm
 exact ⟨Eq.trans (b:=bQ true) aa (congrArg bQ j.symm),a⟩
 refine bf 10 aa ag aa aa aa (fun _ _=>aT (aQ xb) aa) a<|bf 11 aa ag aa aa aa (fun _ _=>nc aa) a<|bf 12 aa ag aa aa aa (fun _ _=>fa th aa) a<|bf 13 aa ag aa aa aa (fun w' i=>ld bA aa<|Wk.aO i<|G) a<|bf 14 aa ag aa aa aa (fun _ _=>aT (aQ xb) aa) a<|bf 15 aa ag aa aa aa (fun _ _=>nc aa) a<|bf 16 aa ag aa aa aa (fun _ _=>fa yd aa) a<|bf 17 aa ag aa aa aa (fun w' i=>ld bA aa<|Wk.aO i<|C) a<|bf 18 aa ag aa aa aa (fun _ _=>gt aa aa) a<|aH 19 aa (fun _ _=>bm aa) a<|aH 20 aa (fun _ _=>aB) a<|hn ag<|tn<|q _ _<|rt<|f1 aa aa ?_
 have j:kP most limit acc=decide ((iW acc:Int) > limit):=by unfold kP; rw [decide_eq_decide]; omega
 exact ⟨Eq.trans (b:=bQ<|decide ((iW acc:Int) > limit)) aa (congrArg bQ j.symm),a⟩
theorem JR (S0 xb:Nat) (cy:Bool) (most limit:Int) (acc:List cx) (fp:Nat→Prop) (d:cx) (w:World) (O:ik w fp S0 xb cy most limit acc) (hd:Sd d) (bx:most≤2000∨limit≤1048576):
 bh ay 122 (ba [aQ xb,.agg (eC d).toArray]) w (fun v w'=>v= .tuple #[]∧∃ fp',ik w' fp' S0 xb cy most limit (rR most limit acc d)∧Tw fp w fp' w'):=by
 refine enter func122 aa ntmps122 aa<|aj fun _ a3=>e<|iV aa fun C a0 aN Z bc=> ?_
 have bN:=Z.size
 have aN:bL a0.heap C (eC d):=bc
 have aL:=O.wk Z.md
 have bv:=O.lt
 have aT:¬fp C:=fun h=>by have :=bv C h; omega
 refine aE<|a3 _ _<|aj fun _ a4=>p mv<|e<|cl Py (TP S0 xb cy most limit acc fp a0 aL) aa fun v6 J bn=> ?_
 obtain ⟨rfl,Y⟩:=bn
 have ae:=aL.wk Y
 obtain ⟨bC,bb,c3,bD,bF,bG⟩:=ae.aO
 have bs:=Wk.B Y aN
 refine aw<|a4 _ _<|sq fun _ a5=>sq fun _ aB=> ?_
 have a:(fun w'=>Wk J w') J.drew:=(Md.refl _ _).drew
 refine bJ (fun w'=>Wk J w') aa wide a<|aH 0 aa (fun _ _=>mv) a<|aH 1 aa (fun _ _=>mv) a<|yE (t:=8) aa (fun aq=> ?_) fun aq=> ?_
 exact aW 2 aa ag aa aa aa aa a<|aW 3 aa ag aa aa aa aa a<|aW 4 aa ag aa aa aa aa a<|aW 5 aa ag aa aa aa aa a<|aW 6 aa ag aa aa aa aa a<|l0 7 aa ag aa aa aa a<|l0 8 aa ag aa aa aa a<|l0 9 aa ag aa aa aa a<|l0 10 aa ag aa aa aa a<|l0 11 aa ag aa aa aa a<|l0 12 aa ag aa aa aa a<|l0 13 aa ag aa aa aa a<|aW 14 aa ag aa aa aa aa a<|aH 15 aa (fun _ _=>bw aa) a<|hn ag<|tn<|aB _ _<|ct aa<|rt<|tr<|rH aa<|⟨aa,fp,by rw [JP aq]; exact ae.wk a,Tw.wk<|(Z.md.trans Y).trans a⟩
 have ai:=JQ (d:=d) aq
 have aR:=ae.bd
 have ao:=aR.met (d:=d) bx hd
 have ar:Bd (acc++ [d]):=ai ▸ ao
 unfold Bd at aR ar
 unfold Sd at hd
 obtain ⟨v,ak,av,I⟩:=(ae.wk (Md.refl (fun _=>False) J).drew).ex
 have aV:C≠xb:=fun h=>aT<|(I C).2<|.inl h
 have ax:=FG acc d
 rw [ax] at ar
 simp only [bI,eW] at ar
 refine bf 2 aa ag aa aa aa (fun _ _=>mv) a<|bf 3 aa ag aa aa aa (fun _ _=>nc aa) a<|bf 4 aa ag aa aa aa (fun _ _=>fa Tt aa) a<|bf 5 aa ag aa aa aa (fun w' E=>ld mY aa<|Wk.aO E<|bb) a<|bf 6 aa ag aa aa aa (fun _ _=>mv) a<|yE (t:=13) aa (fun h=>absurd (h.symm.trans<|aa) eb) fun bK=>aW 7 aa ag aa aa aa aa a<|aW 8 aa ag aa aa aa aa a<|aW 9 aa ag aa aa aa aa a<|aW 10 aa ag aa aa aa aa a<|aW 11 aa ag aa aa aa aa a<|aW 12 aa ag aa aa aa aa a<|aW 13 aa ag aa aa aa aa a<|bf 14 aa ag aa aa aa (fun _ _=>bm aa) a<|aH 15 aa (fun _ _=>bm aa) a<|hn ag<|tn<|aB _ _<|cf aa<|aM<|tn<|a5 _ _<|sq fun _ a7=> ?_
 refine rg aa<|p mv<|p mv<|p (nc aa)<|p (fa tg aa)<|p (ld bA aa<|(a6 ak).trans aa)<|p (bE ((acc.length+1:Nat):Int) aa aa<|bj ab ab)<|p (nc aa)<|p (fa tg aa)<|e<|cV gX aa aa (v:= .int .i64 ((acc.length+1:Nat):Int)) aa ak (by show 5 < 8; omega) fun al aD bg=> ?_
 have aZ:al.heap[xb]? =some (.cells [.bool cy,.bool false,str [],.int .i64 most,.int .i64 limit,.int .i64 ((acc.length+1:Nat):Int),au (iW acc),v].toArray 111 (0,0)):=bg
 have aP:=Md.B aD bs fun h=>aV h
 refine aE<|a7 _ _<|sq fun _ a8=> ?_
 have A:(fun w'=>Wk al w') al.drew:=(Md.refl _ _).drew
 refine eM (fun w'=>Wk al w') 11 aa wide A<|bq 0 aa (fun _=>mv) (fun _=>A)<|bq 1 aa (fun _=>mv) (fun _=>A)<|bq 2 aa (fun _=>nc aa) (fun _=>A)<|bq 3 aa (fun _=>fa th aa) (fun _=>A)<|dH 4 aa (fun w' E=>ld bA aa<|Wk.aO E<|(a6 aZ).trans aa) A<|bq 5 aa (fun _=>fa yo aa) (fun _=>A)<|dH 6 aa (fun w' E=>ld bR aa<|Wk.aO E<|aP.bB 0) A<|bq 7 aa (fun _=>cg u9 aa aa) (fun _=>A)<|bq 8 aa (fun _=>bE ((iW acc+d.kG.length:Nat):Int) aa aa<|bj ab ab) (fun _=>A)<|bq 9 aa (fun _=>nc aa) (fun _=>A)<|bq 10 aa (fun _=>fa th aa) (fun _=>A)<|dG 11 aa ag ag<|cV gX aa aa (v:= .int .i64 ((iW acc+d.kG.length:Nat):Int)) aa aZ (by show 6 < 8; omega) fun V aF bi=> ?_
 have U:V.heap[xb]? =some (.cells [.bool cy,.bool false,str [],.int .i64 most,.int .i64 limit,.int .i64 ((acc.length+1:Nat):Int),.int .i64 ((iW acc+d.kG.length:Nat):Int),v].toArray 111 (0,0)):=bi
 have br:=Md.B aF aP fun h=>aV h
 have ah:Md (fun q=>q=xb) J.drew V:=aD.trans' (ib aF) fun q i h=>h
 have aC:Wk w J.drew:=(Z.md.trans Y).trans (Md.refl _ _).drew
 have bo:TF J.drew [113] (fun q=>q=xb):=TF.eq (dt ak) az
 refine eL ag<|tn<|a8 _ _<|aj fun _ a9=>p mv<|p (nc aa)<|p (fa Ts aa)<|p (ld mY aa<|(a6 U).trans aa)<|nl<|tn<|a9 _ _<|cb aa (fun hk=> ?_) fun hk=> ?_
 rw [if_pos hk] at av
 have aX:=bZ av ah bo az
 subst hk
 have G:(fun w'=>Hb.aO w'.heap xb 7=some v∧bL w'.heap C (eC d)) V.drew:=⟨(a6 U).trans rfl,br⟩
 refine eM (fun w'=>Hb.aO w'.heap xb 7=some v∧bL w'.heap C (eC d)) 10 aa wide G<|bq 0 aa (fun _=>mv) (fun _=>G)<|bq 1 aa (fun _=>mv) (fun _=>G)<|bq 2 aa (fun _=>nc aa) (fun _=>G)<|bq 3 aa (fun _=>fa BV aa) (fun _=>G)<|dH 4 aa (fun w' E=>ld Fe aa<|E.1) G<|dH 5 aa (fun w' E=>cT sP aa (aa) fun j bM=>E.2.bB j) G<|gL 6 aa ag<|kq Lu aa aa aa fun bz a1 bH ac bk=> ?_
 have bO:=ac.size
 have M:Wk V a1:=((Md.refl (fun _=>False) V).drew).trans ac.md
 have aK:(fun w'=>Hb.aO w'.heap xb 7=some v∧bL w'.heap C (eC d)) a1:=⟨Wk.aO ac.md G.1,Wk.B ac.md G.2⟩
 refine ⟨aK,?_⟩
 refine gL 7 aa ag<|ap Lu (aU aX M) aa (by have :=O.lo; have :=(dm.1 ak).1; have :=ah.size; have :=M.size; omega) aa (aI.dS bk) (aa) (aa) ab ab fun v53 a2 aY am bP bt=> ?_
 have aA:=am.aJ (Wk.aJ M U) fun h=>dw (aU aX M) (Wk.aJ M U) az h
 have an:(fun w'=>Hb.aO w'.heap xb 7=some v∧bL w'.heap C (eC d)) a2:=⟨(a6 aA).trans rfl,Md.B am aK.2 fun h=>aT<|(I C).2<|.inr h⟩
 refine ⟨an,?_⟩
 refine bq 8 aa (fun _=>nc aa) (fun _=>an)<|bq 9 aa (fun _=>fa BV aa) (fun _=>an)<|dG 10 aa ag ag<|cV Sb aa aa (v:=v53) (eH aY) aA (by show 7 < 8; omega) fun bQ aG bl=> ?_
 have bp:TF a2 [113] (fun q=>q=xb):=TF.eq (dt aA) az
 refine eL ag<|f0 aa ?_
 refine ⟨aa,fun q=>q=xb∨v53.ownBlock=some q,⟨O.lo,⟨v53,?_,?_,fun _=>Iff.rfl⟩,ao⟩,?_⟩
 rw [ai]
 have h1:vU true most limit (acc++ [d]) v53= [.bool true,.bool false,str [],.int .i64 most,.int .i64 limit,.int .i64 ((acc.length+1:Nat):Int),.int .i64 ((iW acc+d.kG.length:Nat):Int),v53]:=by unfold vU; rw [ax,bI]; rfl
 rw [h1]; exact bl
 rw [if_pos rfl,ai,bI,show iX (acc++ [d])=iX acc++eC d from by unfold iX; rw [ny,o0]]
 exact bZ aY aG bp az
 have aS:∀ q,q=xb→fp q:=fun q i=>(I q).2<|.inl i
 refine Tw.trans (Tw.wk aC)<|Tw.trans ⟨ah.mono (fun q _ i=>aS q i),fun q i=> .inl i⟩<|Tw.trans (Tw.wk M)<|Tw.trans (fp':=fun q=>q=xb∨v53.ownBlock=some q) ⟨am.mono (fun q _ i=>(I q).2<|.inr i),fun q i=>i.elim (fun h=> .inl<|aS q h) fun h=>(bt q h).imp (fun h=>(I q).2<|.inr h) id⟩ ⟨aG.mono (fun q _ i=> .inl i),fun q i=> .inl i⟩
 refine aM<|f0 aa ?_
 have bu:cy=false :=by simpa using hk
 subst bu
 refine ⟨aa,fp,⟨O.lo,⟨v,?_,?_,I⟩,ao⟩,?_⟩
 rw [ai]
 have h1:vU false most limit (acc++ [d]) v= [.bool false,.bool false,str [],.int .i64 most,.int .i64 limit,.int .i64 ((acc.length+1:Nat):Int),.int .i64 ((iW acc+d.kG.length:Nat):Int),v]:=by unfold vU; rw [ax,bI]; rfl
 rw [h1]; exact U
 exact av
 exact Tw.trans (Tw.wk aC) ⟨ah.mono (fun q _ i=>(I q).2<|.inl i),fun q i=> .inl i⟩
end Go.Hb.ux
end
section
set_option maxRecDepth 20000
set_option maxHeartbeats 1000000
namespace Go.Hb.Aa
open Go.Hb.dT
open Go.Proofs
open Go.Hb.fq Go.Hb.fQ Go.Hb.gn Go.Hb.jF Go.Hb.iK Go.Hb.kH Go.Hb.iM Go.Hb.j4 Go.Hb.kK Go.Hb.k0 Go.Hb.lA Go.Hb.lR Go.Hb.mj Go.Hb.ml Go.Hb.jP Go.Hb.lC Go.Hb.mV Go.Hb.nE Go.Hb.ox Go.Hb.qg Go.Hb.pw Go.Hb.qe Go.Hb.rm Go.Hb.uw Go.Hb.xg Go.Hb.ux
section
variable {w w':World} {fp fp':Nat→Prop} {S0 xb:Nat} {cy:Bool} {most limit:Int} {acc:List cx}
theorem rV {B n:Nat} {v:Value} {xs:List Value} (a:bo w B 3 1 v n xs) (h:ik w fp S0 xb cy most limit acc) (hm:Tw fp w fp' w'):bo w' B 3 1 v n xs:=bZ a hm.md h.tf az
theorem Kc {b:Nat} (h:Tw fp w fp' w') (hn:¬fp b) (a:b < w.heap.size):¬fp' b:=fun h2=>(h.sub b h2).elim hn fun h3=>by omega
end
theorem Jn {most limit:Int} {acc A:List cx} {α:Type} {g:α→Option cx} {l:List α} {i:Nat} (h:kP most limit (gK most limit acc<|A++(l.take i).filterMap g)=true):gK most limit acc (A++l.filterMap g)=gK most limit acc (A++(l.take i).filterMap g):=by
 conv =>lhs; rw [← xe i l,zV,← dC,vp,yG h]
theorem CD {most limit:Int} {acc A:List cx} {α:Type} {g:α→List cx} {l:List α} {i:Nat} (h:kP most limit (gK most limit acc<|A++(l.take i).flatMap g)=true):gK most limit acc (A++l.flatMap g)=gK most limit acc (A++(l.take i).flatMap g):=by
 conv =>lhs; rw [← xe i l,ny,← dC,vp,yG h]
theorem Cg {most limit:Int} {a:List cx} (h:¬(iW a:Int)≤limit):kP most limit a=true :=decide_eq_true<|Or.inr ab
theorem Ch {most limit:Int} {a:List cx} (h:¬(a.length:Int) < most):kP most limit a=true :=decide_eq_true<|Or.inl ab
theorem Jm {most limit:Int} {acc A C:List cx} {α:Type} {g:α→List cx} {l:List α} {i:Nat} (h:kP most limit (gK most limit acc<|A++(C++(l.take i).flatMap g))=true):gK most limit acc (A++(C++l.flatMap g))=gK most limit acc (A++(C++(l.take i).flatMap g)):=by
 rw [← dC] at h ⊢
 rw [CD h,dC]
theorem Sr {F:aR} {xs:List bD} (a:eR F xs) (n:Int):∀ d∈ir F xs n,1≤d.kG.length∧d.kG.length≤200:=by
 intro d hd
 unfold ir at hd
 split at hd
 · rename_i h
   obtain ⟨k,rfl⟩:∃ k:Nat,n=(k:Int):=⟨n.toNat,ab⟩
   have i:xs[k]? =some xs[k]:=cz ab
   have j:xs.getD k ([],[])=xs[k]:=by rw [cQ,i]; rfl
   rw [mS] at hd
   have h1:=a.ne _<|iJ i
   have h2:=(a.uU _<|iJ i).1
   have :=Ss (fun q A=>(a.fs.2 q A).2) (by rw [j]; exact h1) d hd
   rw [j] at this
   omega
 · cases hd
theorem Vl {F:aR} {xs:List bD} (a:eR F xs) {n most:Int} (i:most≤2000):gK most 1152921504606846976 [] (ir F xs n)=ki (ir F xs n) most:=by
 by_cases hm:most < 1
 · rw [DL hm,yG (decide_eq_true<|Or.inl<|by simp only [fP]; omega)]
 · unfold ki; rw [if_neg hm]
   have :=Vk (most:=most) (limit:=1152921504606846976) 200 ab ab (ir F xs n) [] (fun d hd=>(Sr a n d hd).2) (by simp only [fP]; omega)<|jD _
   rw [this]; rfl
set_option maxHeartbeats 4000000 in
theorem DT (B tb fb:Nat) (V:eh) (ve:Value) (F:aR) (xs:List bD) (S0 xb:Nat) (cy:Bool) (most limit:Int) (acc:List cx) (fp:Nat→Prop) (word c4:Tx) (en:Nat) (f s c2:Int) (ap:Option Addr) (cp bS:Nat) (w:World) (bs:fX w B tb fb V ve F xs) (ai:eR F xs) (ao:ik w fp S0 xb cy most limit acc) (bK:most≤2000∨limit≤1048576) (cI:bo w bS 3 1 (.slice ap (aV F (flagsOf xs en) 1).length cp) (aV F (flagsOf xs en) 1).length ((aV F (flagsOf xs en) 1).map bM)) (bI:Rn F f) (hs:Rn F s) (c1:1≤word.length∧word.length≤500):
 bh ay 75 (ba [aQ tb,aQ xb,str word,.agg (eC ⟨c4,en,f,s,c2⟩).toArray,.slice ap (aV F (flagsOf xs en) 1).length cp]) w (fun v w'=>v= .tuple #[]∧∃ fp',ik w' fp' S0 xb cy most limit (gK most limit acc<|ew F xs en word f s)∧Tw fp w fp' w'):=by
 have cD:=ao.lt
 have de:=rT F (flagsOf xs (en:Int)) 1
 have df:=ai.len
 refine enter func75 aa ntmps75 aa<|aj fun _ bT=>e<|oC aa fun G dp dd bu b9=> ?_
 have dg:=bu.size
 refine aE<|bT _ _<|aj fun _ bX=>p (fa rK aa)<|e<|cV gX aa aa (v:= .int .i64<|-1) aa b9 (by show 4 < 5; omega) fun dl ce b7=>aE<|bX _ _<|aj fun _ bY=>p mv<|p (fa yo aa)<|e<|cV kN aa aa (v:=str word) aa b7 (by simp only [List.length_set]; show 0 < 5; omega) fun bb cg b8=> ?_
 have a0:bb.heap[G]? =some (.cells (eC ⟨word,en,f,s,-1⟩).toArray 43 (0,0)):=b8
 have bp:Wk w bb:=(bu.md.trans' ce fun q a4 h=>by omega).trans' cg fun q a4 h=>by omega
 have a3:¬fp G:=fun h=>by have :=cD G h; omega
 refine aE<|bY _ _<|aj fun _ bZ=>p mv<|p (cT sP aa (aa) fun j ah=>(oB a0).bB j)<|e<|cl FN (KU B tb fb V ve F xs word en f s (-1) bb (bs.wk bp) ai bI hs<|.inl aa) aa fun di c5 ch=> ?_
 obtain ⟨rfl,bl⟩:=ch
 have aF:=bp.trans bl
 have bv:=ao.wk aF
 have aq:=Wk.aJ bl a0
 refine aw<|bZ _ _ ?_
 refine ec (fun ac ax=> ∃ (ae:Nat→Prop),(ik ax ae S0 xb cy most limit<|gK most limit acc<|kt F xs en word f s)∧(Tw fp w ae ax)∧(ax.heap[G]? =some (.cells (eC ⟨word,en,f,s,-1⟩).toArray 43 (0,0)))∧(¬ae G)∧(ac 0=aQ tb)∧(ac 1=aQ xb)∧(ac 2=str word)∧(ac 4= .slice ap (aV F (flagsOf xs en) 1).length cp)∧(ac 8=aQ G)) ?_ ?_
 refine aj fun _ az=>p mv<|aE<|az _ _<|cb aa (fun a1=> ?_) fun a1=> ?_
 have aU:kt F xs en word f s= [⟨word,en,f,s,-1⟩]:=if_pos a1
 refine rg aa<|p mv<|p (cT sP aa (aa) fun j ah=>(oB aq).bB j)<|e<|cl FO (JR S0 xb cy most limit acc fp ⟨word,en,f,s,-1⟩ c5 bv ⟨c1.1,by show word.length≤1000; omega⟩ bK) aa fun dj dn ci=> ?_
 obtain ⟨rfl,b6,cs,aN⟩:=ci
 have cB:=aN.md.aJ aq a3
 have cG:=Kc aN a3 (dm.1 aq).1
 exact aE<|⟨b6,(by rw [aU]; exact cs),((Tw.wk aF).trans aN),cB,cG,aa,aa,aa,aa,aa⟩
 have aU:kt F xs en word f s= []:=if_neg<|by rw [a1]; exact eb
 exact aM<|tn<|⟨fp,(by rw [aU]; exact bv),(Tw.wk aF),aq,a3,aa,aa,aa,aa,aa⟩
 rintro ac ax ⟨ae,ct,co,cC,cH,cK,cL,cM,cN,cO⟩
 refine fx 0 cK<|fx 1 cL<|fx 2 cM<|fx 4 cN<|fx 8 cO<|aj fun _ az=>aw<|az _ _<|aJ<|lp (fun bd J I=> ∃ (i:Nat) (E:Nat→Prop) (av:Tx) (pp:Int),(i≤(aV F (flagsOf xs en) 1).length)∧(ik I E S0 xb cy most limit<|gK most limit acc<|kt F xs en word f s++((aV F (flagsOf xs en) 1).take i).filterMap (jt F xs en word f s))∧(Tw fp w E I)∧(I.heap[G]? =some (.cells (eC ⟨av,en,f,s,pp⟩).toArray 43 (0,0)))∧(¬E G)∧(J 0=aQ tb)∧(J 1=aQ xb)∧(J 2=str word)∧(J 4= .slice ap (aV F (flagsOf xs en) 1).length cp)∧(J 8=aQ G)∧(J 11=au i)∧((aV F (flagsOf xs en) 1).length - i=bd)) _ ⟨0,ae,word,-1,ab,(by simpa using ct),co,cC,cH,aa,aa,aa,aa,aa,aa,aa⟩ ?_
 rintro bd J I ⟨i,E,av,pp,hi,O,an,cw,U,cP,cR,cU,cW,cX,cS,rfl⟩
 refine fx 0 cP<|fx 1 cR<|fx 2 cU<|fx 4 cW<|fx 8 cX<|fx 11 cS<|sq fun _ b0=>sq fun _ aA=> ?_
 obtain ⟨c8,c9,c3,b2,b3,b4⟩:=O.aO
 have a:(fun w'=>Wk I w') I.drew:=(Md.refl _ _).drew
 refine bJ (fun w'=>Wk I w') aa wide a<|bC 0 aa (au i) a<|bC 1 aa (.slice ap (aV F (flagsOf xs en) 1).length cp) a<|aH 2 aa (fun _ _=>bF nq aa aa) a<|aH 3 aa (fun _ _=>lt aa aa) a<|aH 4 aa (fun _ _=>mv) a<|iO (t:=28) aa (fun cE=> ?_) fun cE=> ?_
 refine bf 5 aa ag aa aa aa (fun _ _=>aT (aQ xb) aa) a<|bf 6 aa ag aa aa aa (fun _ _=>nc aa) a<|bf 7 aa ag aa aa aa (fun _ _=>fa tg aa) a<|bf 8 aa ag aa aa aa (fun w' C=>ld bA aa<|Wk.aO C<|b3) a<|bf 9 aa ag aa aa aa (fun _ _=>aT (aQ xb) aa) a<|bf 10 aa ag aa aa aa (fun _ _=>nc aa) a<|bf 11 aa ag aa aa aa (fun _ _=>fa yc aa) a<|bf 12 aa ag aa aa aa (fun w' C=>ld bA aa<|Wk.aO C<|c3) a<|bf 13 aa ag aa aa aa (fun _ _=>lt aa aa) a<|aH 14 aa (fun _ _=>bw aa) a<|aH 15 aa (fun _ _=>mv) a<|iO (t:=39) aa (fun bQ=> ?_) fun bQ=> ?_
 refine bf 16 aa ag aa aa aa (fun _ _=>aT (aQ xb) aa) a<|bf 17 aa ag aa aa aa (fun _ _=>nc aa) a<|bf 18 aa ag aa aa aa (fun _ _=>fa th aa) a<|bf 19 aa ag aa aa aa (fun w' C=>ld bA aa<|Wk.aO C<|b4) a<|bf 20 aa ag aa aa aa (fun _ _=>aT (aQ xb) aa) a<|bf 21 aa ag aa aa aa (fun _ _=>nc aa) a<|bf 22 aa ag aa aa aa (fun _ _=>fa yd aa) a<|bf 23 aa ag aa aa aa (fun w' C=>ld bA aa<|Wk.aO C<|b2) a<|bf 24 aa ag aa aa aa (fun _ _=>le aa aa) a<|aH 25 aa (fun _ _=>bw aa) a<|hn ag<|tn<|aA _ _<|cd aa (fun bx=> ?_) fun bx=> ?_
 have cu:=O.wk a
 have bG:=Wk.aJ a cw
 have am:=an.trans<|Tw.wk a
 have cc:=vo bs ao am.md
 have bL:=rV cI ao am
 have cJ:=rQ.1<|dQ (d:=0) (show i < (aV F (flagsOf xs en) 1).length by omega)
 obtain ⟨r,a5⟩:∃ r,F.rules[((aV F (flagsOf xs en) 1).getD i 0)]? =some r:=⟨_,cz cJ.1⟩
 have bO:F.rules.getD ((aV F (flagsOf xs en) 1).getD i 0) eT=r:=by rw [cQ,a5]; rfl
 have Y:=DM (g:=jt F xs en word f s) 0 (show i < (aV F (flagsOf xs en) 1).length by omega)
 have ar:=(ai.iD a5).2.2
 refine aM<|tn<|b0 _ _<|sq fun _ aC=>aJ<|aj fun _ b1=>ak (.slice ap (aV F (flagsOf xs en) 1).length cp)<|ak (au i)<|p (a7 j9 aa aa ab<|aI.ok ((aX bL).2)<|bP ab)<|p (ld bA aa<|aI.gG (i:=i) (aX bL).2<|ni ab)<|p (fa rK aa)<|e<|cV gX aa aa (v:= .int .i64 ((((aV F (flagsOf xs en) 1).getD i 0):Nat):Int)) aa bG (by show 4 < 5; omega) fun Z aK ca=> ?_
 have bH:Z.heap[G]? =some (.cells (eC ⟨av,en,f,s,(((aV F (flagsOf xs en) 1).getD i 0):Nat)⟩).toArray 43 (0,0)):=ca
 have cv:=cu.JM aK U
 have aG:=Ug cc bG aK
 obtain ⟨c7,da,dh,rc,cY,bi,bN,db⟩:=aG.iD a5
 refine aE<|b1 _ _<|sq fun _ bU=> ?_
 have A:(fun w'=>Wk Z w') Z.drew:=(Md.refl _ _).drew
 refine bJ (fun w'=>Wk Z w') aa wide A<|bC 0 aa (aQ tb) A<|aH 1 aa (fun _ _=>nc aa) A<|aH 2 aa (fun _ _=>fa nb aa) A<|aH 3 aa (fun w' C=>ld gW aa<|Wk.aO C<|(a6 aG.cells).trans aa) A<|aH 4 aa (fun _ _=>nc aa) A<|aH 5 aa (fun _ _=>fa jL aa) A<|aH 6 aa (fun w' C=>ld j6 aa<|Wk.aO C<|cY) A<|aH 7 aa (fun _ _=>fa rK aa) A<|aH 8 aa (fun w' C=>ld bA aa<|Wk.aO C<|(a6 bH).trans (show _=some (Value.int .i64 ((((aV F (flagsOf xs en) 1).getD i 0):Nat):Int)) from aa)) A<|aH 9 aa (fun _ _=>a7 nN aa aa ab<|aI.ok (bi.wk A)<|nR bN) A<|aH 10 aa (fun w' C=>cT rv aa (aa) fun j ah=>e9 (f:=jv) (m:=8) (fun _=>rfl) (bi.wk C) bN j ah) A<|bC 11 aa (str word) A<|he 12 aa ag<|cl A5 (Df r _ word Z.drew (by unfold jQ at ar; omega) (by unfold jQ at ar; omega) (by unfold jQ at ar; omega) ab) aa fun v70 bR cj=> ?_
 obtain ⟨rfl,bq⟩:=cj
 have aD:=A.trans bq
 have bz:=Wk.aJ aD bH
 have M:(fun w'=>Wk Z w') bR:=A.trans bq
 refine ⟨M,?_⟩
 refine aH 13 aa (fun _ _=>mv) M<|aH 14 aa (fun _ _=>xt aa aa) M<|aH 15 aa (fun _ _=>xt aa aa) M<|aH 16 aa (fun _ _=>aB) M<|aH 17 aa (fun _ _=>aB) M<|hn ag<|tn<|bU _ _<|sq fun _ bV=>rg aa<|ak (aQ tb)<|p (cT sP aa (aa) fun j ah=>(oB bz).bB j)<|e<|cl FN (KU B tb fb V ve F xs av en f s (((aV F (flagsOf xs en) 1).getD i 0):Nat) bR (aG.wk aD) ai bI hs<|.inr ab) aa fun v75 c6 ck=> ?_
 obtain ⟨rfl,br⟩:=ck
 have bk:=aD.trans br
 have aP:=cv.wk bk
 have aY:=Wk.aJ br bz
 have dc:=(dm.1 a0).1
 have al:Tw fp w E c6:=⟨(am.md.trans' aK fun q a4 h=>by omega).trans' bk (fun _ _ h=>h.elim),fun k hk=>am.sub k hk⟩
 refine aw<|bV _ _<|aj fun _ bc=>p mv<|p mv<|gb (t:=77) aa (fun aS=> ?_) fun aS=> ?_
 obtain ⟨v,a8⟩:∃ v,dA r word=some v:=o8.1 aS
 have cZ:(dA r word).getD []=v:=by rw [a8]; rfl
 have c0:=qm (by unfold jQ at ar; omega) a8
 refine pg aa aa aa mv<|p (bw aa)<|aE<|bc _ _<|cb aa (fun a2=> ?_) fun a2=> ?_
 have bJ:=G1 (word:=word) a2<|by rw [bO]; exact a8
 rw [bJ] at Y
 refine aj fun _ bW=>p mv<|p (fa yo aa)<|e<|cV kN aa aa (v:=str<|(dA r word).getD []) aa aY (by show 0 < 5; omega) fun a9 bt bg=> ?_
 rw [cZ] at bg
 have aZ:a9.heap[G]? =some (.cells (eC ⟨v,en,f,s,(((aV F (flagsOf xs en) 1).getD i 0):Nat)⟩).toArray 43 (0,0)):=bg
 have cq:=aP.JM bt U
 have cn:Tw fp w E a9:=⟨al.md.trans' bt (fun q a4 h=>by omega),al.sub⟩
 refine aE<|bW _ _<|rg aa<|ak (aQ xb)<|p (cT sP aa (aa) fun j ah=>(oB aZ).bB j)<|e<|cl FO (JR S0 xb cy most limit (gK most limit acc<|kt F xs en word f s++((aV F (flagsOf xs en) 1).take i).filterMap (jt F xs en word f s)) E ⟨v,en,f,s,(((aV F (flagsOf xs en) 1).getD i 0):Nat)⟩ a9 cq ⟨c0.1,by show v.length≤1000; omega⟩ bK) aa fun dk dq cm=> ?_
 obtain ⟨rfl,b5,cr,aL⟩:=cm
 have cA:=aL.md.aJ aZ U
 have cF:=Kc aL U (dm.1 aZ).1
 exact nl<|bn<|tn<|aC _ _<|rg aa<|ak (au i)<|p (bE ((i+1:Nat):Int) aa aa<|bj ab ab)<|p aB<|nl<|tn<|⟨_,ab,i+1,b5,_,_,ab,(by rw [Y,← dC,vp]; exact cr),(cn.trans aL),cA,cF,aa,aa,aa,aa,aa,aa,aa⟩
 have bJ:=G0 (word:=word) a2
 rw [bJ] at Y
 exact aM<|bn<|tn<|aC _ _<|rg aa<|ak (au i)<|p (bE ((i+1:Nat):Int) aa aa<|bj ab ab)<|p aB<|nl<|tn<|⟨_,ab,i+1,E,_,_,ab,(by rw [Y]; simpa using aP),al,aY,U,aa,aa,aa,aa,aa,aa,aa⟩
 have bJ:=GZ (xs:=xs) (e:=en) (f:=f) (s:=s) (word:=word) (p:=(aV F (flagsOf xs en) 1).getD i 0)<|by rw [bO]; simpa using aS
 rw [bJ] at Y
 exact sk aa aa aa aa<|p (bm aa)<|aE<|bc _ _<|cf aa<|aM<|bn<|tn<|aC _ _<|rg aa<|ak (au i)<|p (bE ((i+1:Nat):Int) aa aa<|bj ab ab)<|aw<|⟨_,ab,i+1,E,_,_,ab,(by rw [Y]; simpa using aP),al,aY,U,aa,aa,aa,aa,aa,aa,aa⟩
 exact ext<|te _<|te _<|be<|f0 aa<|⟨aa,E,(by unfold ew; rw [Jn (Cg bx)]; exact O.wk a),an.trans<|Tw.wk a⟩
 refine aW 16 aa ag aa aa aa aa a<|aW 17 aa ag aa aa aa aa a<|aW 18 aa ag aa aa aa aa a<|aW 19 aa ag aa aa aa aa a<|aW 20 aa ag aa aa aa aa a<|aW 21 aa ag aa aa aa aa a<|aW 22 aa ag aa aa aa aa a<|aW 23 aa ag aa aa aa aa a<|aW 24 aa ag aa aa aa aa a<|aH 25 aa (fun _ _=>bm aa) a<|hn ag<|tn<|aA _ _<|cf aa<|ext<|te _<|te _<|be<|f0 aa ?_
 exact ⟨aa,E,(by unfold ew; rw [Jn (Ch bQ)]; exact O.wk a),an.trans<|Tw.wk a⟩
 refine aW 5 aa ag aa aa aa aa a<|aW 6 aa ag aa aa aa aa a<|aW 7 aa ag aa aa aa aa a<|aW 8 aa ag aa aa aa aa a<|aW 9 aa ag aa aa aa aa a<|aW 10 aa ag aa aa aa aa a<|aW 11 aa ag aa aa aa aa a<|aW 12 aa ag aa aa aa aa a<|aW 13 aa ag aa aa aa aa a<|aH 14 aa (fun _ _=>bm aa) a<|aH 15 aa (fun _ _=>mv) a<|aW 16 aa ag aa aa aa aa a<|aW 17 aa ag aa aa aa aa a<|aW 18 aa ag aa aa aa aa a<|aW 19 aa ag aa aa aa aa a<|aW 20 aa ag aa aa aa aa a<|aW 21 aa ag aa aa aa aa a<|aW 22 aa ag aa aa aa aa a ?_
 refine aW 23 aa ag aa aa aa aa a<|aW 24 aa ag aa aa aa aa a<|aH 25 aa (fun _ _=>bm aa) a<|hn ag<|tn<|aA _ _<|cf aa<|ext<|te _<|te _<|be<|f0 aa ?_
 rw [eI ab] at O
 exact ⟨aa,E,O.wk a,an.trans<|Tw.wk a⟩
set_option maxHeartbeats 4000000 in
theorem Zp (B tb fb:Nat) (V:eh) (ve:Value) (F:aR) (xs:List bD) (S0 xb:Nat) (cy:Bool) (most limit:Int) (acc:List cx) (fp:Nat→Prop) (n:Int) (w:World) (al:fX w B tb fb V ve F xs) (O:eR F xs) (an:ik w fp S0 xb cy most limit acc) (bU:most≤2000∨limit≤1048576):
 bh ay 39 (ba [aQ tb,.int .i64 n,aQ xb]) w (fun v w'=>v= .tuple #[]∧∃ fp',ik w' fp' S0 xb cy most limit (gK most limit acc<|ir F xs n)∧Tw fp w fp' w'):=by
 obtain ⟨ek,ce,d9⟩:=al.DR
 have eD:=O.xl
 have eA:=O.len
 refine enter func39 aa ntmps39 aa<|sq fun _ cH=>aj fun _ b5=>p mv<|p (lt aa aa)<|p mv<|gs (t:=18) aa (fun dv=> ?_) fun dv=> ?_
 exact sk aa aa aa aa<|sk aa aa aa aa<|sk aa aa aa aa<|sk aa aa aa aa<|sk aa aa aa aa<|sk aa aa aa aa<|sk aa aa aa aa<|p (bw aa)<|aE<|b5 _ _<|ct aa<|rt<|tr<|rH aa<|⟨aa,fp,by rw [Bq ab,CC]; exact an,Tw.refl _ _⟩
 refine pg aa aa aa mv<|pg aa aa aa mv<|pg aa aa aa (nc aa)<|pg aa aa aa (fa vj aa)<|pg aa aa aa (ld uD aa<|d9)<|pg aa aa aa (bF zq aa aa)<|pg aa aa aa (ge aa aa)<|p (bm aa)<|aE<|b5 _ _<|cd aa (fun ds=> ?_) fun ds=> ?_
 exact rt<|tr<|rH aa<|⟨aa,fp,by rw [Bq ab,CC]; exact an,Tw.refl _ _⟩
 obtain ⟨k,rfl⟩:∃ k:Nat,n=(k:Int):=⟨n.toNat,ab⟩
 obtain ⟨x,bk⟩:∃ x,xs[k]? =some x:=⟨_,cz ab⟩
 obtain ⟨el,eo,ws,a,c,ea,b6,cs,eu⟩:=al.s9 bk
 obtain ⟨es,et,c4,bu⟩:=sS bk
 have bT:lI F xs k=ew F xs k x.1 (-1) (-1)++(aV F (flagsOf xs (k:Int)) 2).flatMap (fT F xs k):=by unfold lI; rw [bu]
 have eE:=(O.uU x<|iJ bk).1
 have ee:=O.ne x<|iJ bk
 have ey:=rT F (flagsOf xs (k:Int)) 2
 have bH:ir F xs (k:Int)=lI F xs k:=uP c4
 refine aM<|tn<|cH _ _<|aj fun _ cV=>p mv<|p (nc aa)<|p (fa vj aa)<|p (ld uD aa<|ea)<|p mv<|p (a7 HE aa aa ab<|aI.ok (b6)<|uT cs)<|p (fa Tu aa)<|p (ld bR aa<|e9 (f:=pI) (m:=2) (fun _=>rfl) b6 cs 0 az)<|aw<|cV _ _<|sq fun _ cW=>rg aa<|p mv<|p mv<|e<|cl QD (XC B tb fb V ve F xs (k:Int) w al O) aa fun v37 ei df=> ?_
 obtain ⟨bV,bv⟩:=df
 obtain ⟨Y,ac,rfl⟩:=cw bV
 have cn:=an.wk bv
 refine aw<|cW _ _<|aj fun _ cX=>p mv<|p mv<|p mv<|p mv<|p (cO (ps:= [(1,au k),(2,.int .i64 (-1)),(3,.int .i64 (-1))]) (L:= [.string ⟨⟨[]⟩⟩,au k,.int .i64 (-1),.int .i64 (-1),.int .i64 0]) DF aa<|aa)<|p mv<|e<|cl A4 (DT B tb fb V ve F xs S0 xb cy most limit acc fp x.1 [] k (-1) (-1) 0 Y ac w.heap.size ei (al.wk bv) O cn bU bV (.inl aa) (.inl aa) ⟨ee,ab⟩) aa fun eN ej dg=> ?_
 obtain ⟨rfl,c7,dp,ch⟩:=dg
 have bL:=(Tw.wk bv).trans ch
 have dB:=rV bV cn ch
 refine aE<|cX _ _<|aj fun _ cY=>p mv<|p mv<|e<|cl QE (XH B tb fb V ve F xs (k:Int) ej (vo al an bL.md) O) aa fun eO eS dh=> ?_
 obtain ⟨cq,bx⟩:=dh
 obtain ⟨Z,ae,rfl⟩:=cw cq
 have dq:=dp.wk bx
 have dl:=bL.trans<|Tw.wk bx
 have dD:=aU dB bx
 have dL:=ep cq (show w.heap.size≤_ from bL.md.size)
 refine aw<|cY _ _<|aj fun _ cZ=>aw<|cZ _ _<|aJ<|lp (fun aD am M=> ∃ (i:Nat) (ah:Nat→Prop),(i≤(aV F (flagsOf xs (k:Int)) 2).length)∧(ik M ah S0 xb cy most limit<|gK most limit acc<|ew F xs k x.1 (-1) (-1)++((aV F (flagsOf xs (k:Int)) 2).take i).flatMap (fT F xs k))∧(Tw fp w ah M)∧(bo M w.heap.size 3 1 (.slice Y (aV F (flagsOf xs (k:Int)) 1).length ac) (aV F (flagsOf xs (k:Int)) 1).length<|(aV F (flagsOf xs (k:Int)) 1).map bM)∧(bo M w.heap.size 3 1 (.slice Z (aV F (flagsOf xs (k:Int)) 2).length ae) (aV F (flagsOf xs (k:Int)) 2).length<|(aV F (flagsOf xs (k:Int)) 2).map bM)∧(am 0=aQ tb)∧(am 1=au k)∧(am 2=aQ xb)∧(am 6=str x.1)∧(am 7= .slice Y (aV F (flagsOf xs (k:Int)) 1).length ac)∧(am 8= .slice Z (aV F (flagsOf xs (k:Int)) 2).length ae)∧(am 9=au i)∧((aV F (flagsOf xs (k:Int)) 2).length - i=aD)) _ ⟨0,c7,ab,(by simpa using dq),dl,dD,dL,aa,aa,aa,aa,aa,aa,aa,aa⟩ ?_
 rintro aD am M ⟨i,ah,hi,av,a0,dF,dM,dS,dT,dU,dV,dW,dX,dY,rfl⟩
 refine fx 0 dS<|fx 1 dT<|fx 2 dU<|fx 6 dV<|fx 7 dW<|fx 8 dX<|fx 9 dY<|sq fun _ c0=>sq fun _ bp=> ?_
 obtain ⟨c1,c2,c3,br,bs,bt⟩:=av.aO
 have A:(fun w'=>Wk M w') M.drew:=(Md.refl _ _).drew
 refine bJ (fun w'=>Wk M w') aa wide A<|bC 0 aa (au i) A<|bC 1 aa (.slice Z (aV F (flagsOf xs (k:Int)) 2).length ae) A<|aH 2 aa (fun _ _=>bF nq aa aa) A<|aH 3 aa (fun _ _=>lt aa aa) A<|aH 4 aa (fun _ _=>mv) A<|iO (t:=52) aa (fun dt=> ?_) fun dt=> ?_
 refine bf 5 aa ag aa aa aa (fun _ _=>aT (aQ xb) aa) A<|bf 6 aa ag aa aa aa (fun _ _=>nc aa) A<|bf 7 aa ag aa aa aa (fun _ _=>fa tg aa) A<|bf 8 aa ag aa aa aa (fun w' C=>ld bA aa<|Wk.aO C<|bs) A<|bf 9 aa ag aa aa aa (fun _ _=>aT (aQ xb) aa) A<|bf 10 aa ag aa aa aa (fun _ _=>nc aa) A<|bf 11 aa ag aa aa aa (fun _ _=>fa yc aa) A<|bf 12 aa ag aa aa aa (fun w' C=>ld bA aa<|Wk.aO C<|c3) A<|bf 13 aa ag aa aa aa (fun _ _=>lt aa aa) A<|aH 14 aa (fun _ _=>bw aa) A<|aH 15 aa (fun _ _=>mv) A<|iO (t:=63) aa (fun cE=> ?_) fun cE=> ?_
 refine bf 16 aa ag aa aa aa (fun _ _=>aT (aQ xb) aa) A<|bf 17 aa ag aa aa aa (fun _ _=>nc aa) A<|bf 18 aa ag aa aa aa (fun _ _=>fa th aa) A<|bf 19 aa ag aa aa aa (fun w' C=>ld bA aa<|Wk.aO C<|bt) A<|bf 20 aa ag aa aa aa (fun _ _=>aT (aQ xb) aa) A<|bf 21 aa ag aa aa aa (fun _ _=>nc aa) A<|bf 22 aa ag aa aa aa (fun _ _=>fa yd aa) A<|bf 23 aa ag aa aa aa (fun w' C=>ld bA aa<|Wk.aO C<|br) A<|bf 24 aa ag aa aa aa (fun _ _=>le aa aa) A<|aH 25 aa (fun _ _=>bw aa) A<|hn ag<|tn<|bp _ _<|cd aa (fun co=> ?_) fun co=> ?_
 have dr:=av.wk A
 have ci:=a0.trans<|Tw.wk A
 have bG:=vo al an ci.md
 have dE:=aU dF A
 have bZ:=aU dM A
 have dR:=rQ.1<|dQ (d:=0) (show i < (aV F (flagsOf xs (k:Int)) 2).length by omega)
 obtain ⟨r,b1⟩:∃ r,F.rules[((aV F (flagsOf xs (k:Int)) 2).getD i 0)]? =some r:=⟨_,cz dR.1⟩
 have cA:F.rules.getD ((aV F (flagsOf xs (k:Int)) 2).getD i 0) eT=r:=by rw [cQ,b1]; rfl
 have aL:=uX (g:=fT F xs k) 0 (show i < (aV F (flagsOf xs (k:Int)) 2).length by omega)
 have bc:=(O.iD b1).2.2
 obtain ⟨em,eq,eF,rc,eb,b7,cu,ev⟩:=bG.iD b1
 refine aM<|tn<|c0 _ _<|sq fun _ aS=>aJ<|sq fun _ cI=> ?_
 have I:(fun w'=>Wk M.drew w') M.drew.drew:=(Md.refl _ _).drew
 refine bJ (fun w'=>Wk M.drew w') aa wide I<|bC 0 aa (aQ tb) I<|aH 1 aa (fun _ _=>nc aa) I<|aH 2 aa (fun _ _=>fa nb aa) I<|aH 3 aa (fun w' C=>ld gW aa<|Wk.aO C<|(a6 bG.cells).trans aa) I<|aH 4 aa (fun _ _=>nc aa) I<|aH 5 aa (fun _ _=>fa jL aa) I<|aH 6 aa (fun w' C=>ld j6 aa<|Wk.aO C<|eb) I<|bC 7 aa (.slice Z (aV F (flagsOf xs (k:Int)) 2).length ae) I<|bC 8 aa (au i) I<|aH 9 aa (fun _ _=>a7 j9 aa aa ab<|aI.ok ((aX bZ).2.wk I)<|bP ab) I<|aH 10 aa (fun w' C=>ld bA aa<|Wk.aO C<|aI.gG (i:=i) (aX bZ).2<|ni ab) I<|aH 11 aa (fun _ _=>a7 nN aa aa ab<|aI.ok (b7.wk I)<|nR cu) I<|aH 12 aa (fun w' C=>cT rv aa (aa) fun j a3=>e9 (f:=jv) (m:=8) (fun _=>rfl) (b7.wk C) cu j a3) I<|bC 13 aa (str x.1) I<|he 14 aa ag<|cl A5 (Df r _ x.1 M.drew.drew (by unfold jQ at bc; omega) (by unfold jQ at bc; omega) (by unfold jQ at bc; omega) ab) aa fun v91 cG di=> ?_
 obtain ⟨rfl,ca⟩:=di
 have aF:=I.trans ca
 have a2:=dr.wk aF
 have cj:=ci.trans<|Tw.wk aF
 have da:=bG.wk aF
 have bX:=aU dE aF
 have a8:=aU bZ aF
 have ar:(fun w'=>Wk M.drew w') cG:=I.trans ca
 refine ⟨ar,?_⟩
 refine aH 15 aa (fun _ _=>mv) ar<|aH 16 aa (fun _ _=>xt aa aa) ar<|aH 17 aa (fun _ _=>xt aa aa) ar<|aH 18 aa (fun _ _=>aB) ar<|aH 19 aa (fun _ _=>aB) ar<|hn ag<|tn<|cI _ _<|sq fun _ cJ=>aj fun _ cK=>p mv<|p (no aa)<|aE<|cK _ _<|cb aa (fun bS=> ?_) fun bS=> ?_
 have aG:dA r x.1=none:=by simpa using bS
 have aK:fT F xs k ((aV F (flagsOf xs (k:Int)) 2).getD i 0)= []:=by unfold fT; rw [cA,bu,aG]
 rw [aK,ed] at aL
 exact ext<|te _<|be<|tn<|aS _ _<|rg aa<|ak (au i)<|p (bE ((i+1:Nat):Int) aa aa<|bj ab ab)<|p aB<|aE<|⟨_,ab,i+1,ah,ab,(by rw [aL]; exact a2),cj,bX,a8,aa,aa,aa,aa,aa,aa,aa,aa⟩
 obtain ⟨wd,aG⟩:∃ v,dA r x.1=some v:=o8.1<|by simpa using bS
 have aN:((dA r x.1).getD [])=wd:=by rw [aG]; rfl
 have aK:fT F xs k ((aV F (flagsOf xs (k:Int)) 2).getD i 0)=ew F xs k wd (((aV F (flagsOf xs (k:Int)) 2).getD i 0):Nat) (-1)++(aV F (cR F (((aV F (flagsOf xs (k:Int)) 2).getD i 0):Nat)) 2).flatMap (je F xs k wd (((aV F (flagsOf xs (k:Int)) 2).getD i 0):Nat)):=by unfold fT; rw [cA,bu,aG]
 have eC:=qm (by unfold jQ at bc; omega) aG
 refine aM<|tn<|cJ _ _<|aj fun _ cL=>ak (aQ tb)<|ak (aQ xb)<|p mv<|ak (au k)<|ak (.slice Z (aV F (flagsOf xs (k:Int)) 2).length ae)<|ak (au i)<|p (a7 j9 aa aa ab<|aI.ok ((aX a8).2)<|bP ab)<|p (ld bA aa<|aI.gG (i:=i) (aX a8).2<|ni ab)<|p (cO (ps:= [(1,au k),(2,.int .i64 (((aV F (flagsOf xs (k:Int)) 2).getD i 0):Nat)),(3,.int .i64 (-1))]) (L:= [.string ⟨⟨[]⟩⟩,au k,.int .i64 (((aV F (flagsOf xs (k:Int)) 2).getD i 0):Nat),.int .i64 (-1),.int .i64 0]) DF aa<|aa)<|ak (.slice Y (aV F (flagsOf xs (k:Int)) 1).length ac)<|e<|cl A4 (DT B tb fb V ve F xs S0 xb cy most limit (gK most limit acc<|ew F xs k x.1 (-1) (-1)++((aV F (flagsOf xs (k:Int)) 2).take i).flatMap (fT F xs k)) ah ((dA r x.1).getD []) [] k ((((aV F (flagsOf xs (k:Int)) 2).getD i 0):Nat):Int) (-1) 0 Y ac w.heap.size cG da O a2 bU bX (.inr ab) (.inl aa)<|by rw [aN]; omega) aa fun eG eg db=> ?_
 obtain ⟨rfl,c5,ck,bK⟩:=db
 rw [aN,← vp] at ck
 have bI:=cj.trans bK
 have dw:=rV bX a2 bK
 have bY:=rV a8 a2 bK
 have c8:=vo al an bI.md
 refine aE<|cL _ _<|aj fun _ cM=>ak (aQ tb)<|ak (.slice Z (aV F (flagsOf xs (k:Int)) 2).length ae)<|ak (au i)<|p (a7 j9 aa aa ab<|aI.ok ((aX bY).2)<|bP ab)<|p (ld bA aa<|aI.gG (i:=i) (aX bY).2<|ni ab)<|e<|cl QF (XG B tb fb V ve F xs (((aV F (flagsOf xs (k:Int)) 2).getD i 0):Nat) eg c8 O) aa fun eH eP dc=> ?_
 obtain ⟨cr,aY⟩:=dc
 obtain ⟨aA,aC,rfl⟩:=cw cr
 have dm:=ck.wk aY
 have dj:=bI.trans<|Tw.wk aY
 have dx:=aU dw aY
 have dI:=aU bY aY
 have dN:=ep cr (show w.heap.size≤_ from bI.md.size)
 have ez:=rT F (cR F (((aV F (flagsOf xs (k:Int)) 2).getD i 0):Nat)) 2
 refine aw<|cM _ _<|aj fun _ cN=>aw<|cN _ _<|aJ<|lp (fun aD U J=> ∃ (j:Nat) (ai:Nat→Prop),(j≤(aV F (cR F (((aV F (flagsOf xs (k:Int)) 2).getD i 0):Nat)) 2).length)∧(ik J ai S0 xb cy most limit<|gK most limit acc<|ew F xs k x.1 (-1) (-1)++((aV F (flagsOf xs (k:Int)) 2).take i).flatMap (fT F xs k)++(ew F xs k wd (((aV F (flagsOf xs (k:Int)) 2).getD i 0):Nat) (-1)++((aV F (cR F (((aV F (flagsOf xs (k:Int)) 2).getD i 0):Nat)) 2).take j).flatMap (je F xs k wd (((aV F (flagsOf xs (k:Int)) 2).getD i 0):Nat))))∧(Tw fp w ai J)∧(bo J w.heap.size 3 1 (.slice Y (aV F (flagsOf xs (k:Int)) 1).length ac) (aV F (flagsOf xs (k:Int)) 1).length<|(aV F (flagsOf xs (k:Int)) 1).map bM)∧(bo J w.heap.size 3 1 (.slice Z (aV F (flagsOf xs (k:Int)) 2).length ae) (aV F (flagsOf xs (k:Int)) 2).length<|(aV F (flagsOf xs (k:Int)) 2).map bM)∧(bo J w.heap.size 3 1 (.slice aA (aV F (cR F (((aV F (flagsOf xs (k:Int)) 2).getD i 0):Nat)) 2).length aC) (aV F (cR F (((aV F (flagsOf xs (k:Int)) 2).getD i 0):Nat)) 2).length<|(aV F (cR F (((aV F (flagsOf xs (k:Int)) 2).getD i 0):Nat)) 2).map bM)∧(U 0=aQ tb)∧(U 1=au k)∧(U 2=aQ xb)∧(U 6=str x.1)∧(U 7= .slice Y (aV F (flagsOf xs (k:Int)) 1).length ac)∧(U 8= .slice Z (aV F (flagsOf xs (k:Int)) 2).length ae)∧(U 9=au i)∧(U 10=str ((dA r x.1).getD []))∧(U 12= .slice aA (aV F (cR F (((aV F (flagsOf xs (k:Int)) 2).getD i 0):Nat)) 2).length aC)∧(U 13=au j)∧((aV F (cR F (((aV F (flagsOf xs (k:Int)) 2).getD i 0):Nat)) 2).length - j=aD)) _ ⟨0,c5,ab,(by simpa using dm),dj,dx,dI,dN,aa,aa,aa,aa,aa,aa,aa,aa,aa,aa,aa⟩ ?_
 rintro aD U J ⟨j,ai,a3,ax,a1,a4,a9,dP,dZ,d0,d4,d5,d6,d7,d8,d1,d2,d3,rfl⟩
 refine fx 0 dZ<|fx 1 d0<|fx 2 d4<|fx 6 d5<|fx 7 d6<|fx 8 d7<|fx 9 d8<|fx 10 d1<|fx 12 d2<|fx 13 d3<|sq fun _ cP=>sq fun _ bl=> ?_
 obtain ⟨c1,c2,c3,br,bs,bt⟩:=ax.aO
 have q:(fun w'=>Wk J w') J.drew:=(Md.refl _ _).drew
 refine bJ (fun w'=>Wk J w') aa wide q<|bC 0 aa (au j) q<|aH 1 aa (fun _ _=>aT (.slice aA (aV F (cR F (((aV F (flagsOf xs (k:Int)) 2).getD i 0):Nat)) 2).length aC) aa) q<|aH 2 aa (fun _ _=>bF nq aa aa) q<|aH 3 aa (fun _ _=>lt aa aa) q<|aH 4 aa (fun _ _=>mv) q<|iO (t:=117) aa (fun du=> ?_) fun du=> ?_
 refine bf 5 aa ag aa aa aa (fun _ _=>aT (aQ xb) aa) q<|bf 6 aa ag aa aa aa (fun _ _=>nc aa) q<|bf 7 aa ag aa aa aa (fun _ _=>fa tg aa) q<|bf 8 aa ag aa aa aa (fun w' C=>ld bA aa<|Wk.aO C<|bs) q<|bf 9 aa ag aa aa aa (fun _ _=>aT (aQ xb) aa) q<|bf 10 aa ag aa aa aa (fun _ _=>nc aa) q<|bf 11 aa ag aa aa aa (fun _ _=>fa yc aa) q<|bf 12 aa ag aa aa aa (fun w' C=>ld bA aa<|Wk.aO C<|c3) q<|bf 13 aa ag aa aa aa (fun _ _=>lt aa aa) q<|aH 14 aa (fun _ _=>bw aa) q<|aH 15 aa (fun _ _=>mv) q<|iO (t:=128) aa (fun cF=> ?_) fun cF=> ?_
 refine bf 16 aa ag aa aa aa (fun _ _=>aT (aQ xb) aa) q<|bf 17 aa ag aa aa aa (fun _ _=>nc aa) q<|bf 18 aa ag aa aa aa (fun _ _=>fa th aa) q<|bf 19 aa ag aa aa aa (fun w' C=>ld bA aa<|Wk.aO C<|bt) q<|bf 20 aa ag aa aa aa (fun _ _=>aT (aQ xb) aa) q<|bf 21 aa ag aa aa aa (fun _ _=>nc aa) q<|bf 22 aa ag aa aa aa (fun _ _=>fa yd aa) q<|bf 23 aa ag aa aa aa (fun w' C=>ld bA aa<|Wk.aO C<|br) q<|bf 24 aa ag aa aa aa (fun _ _=>le aa aa) q<|aH 25 aa (fun _ _=>bw aa) q<|hn ag<|tn<|bl _ _<|cd aa (fun cp=> ?_) fun cp=> ?_
 have dn:=ax.wk q
 have cc:=a1.trans<|Tw.wk q
 have bB:=vo al an cc.md
 have dy:=aU a4 q
 have dJ:=aU a9 q
 have b0:=aU dP q
 have ef:=rQ.1<|dQ (d:=0) (show j < (aV F (cR F (((aV F (flagsOf xs (k:Int)) 2).getD i 0):Nat)) 2).length by omega)
 obtain ⟨ao,b2⟩:∃ r,F.rules[((aV F (cR F (((aV F (flagsOf xs (k:Int)) 2).getD i 0):Nat)) 2).getD j 0)]? =some r:=⟨_,cz ef.1⟩
 have cB:F.rules.getD ((aV F (cR F (((aV F (flagsOf xs (k:Int)) 2).getD i 0):Nat)) 2).getD j 0) eT=ao:=by rw [cQ,b2]; rfl
 have bg:=uX (g:=je F xs k wd (((aV F (flagsOf xs (k:Int)) 2).getD i 0):Nat)) 0 (show j < (aV F (cR F (((aV F (flagsOf xs (k:Int)) 2).getD i 0):Nat)) 2).length by omega)
 have bd:=(O.iD b2).2.2
 obtain ⟨en,er,eU,eV,ec,b8,cv,ex⟩:=bB.iD b2
 refine aM<|tn<|cP _ _<|sq fun _ b4=>aJ<|sq fun _ cS=> ?_
 have G:(fun w'=>Wk J.drew w') J.drew.drew:=(Md.refl _ _).drew
 refine bJ (fun w'=>Wk J.drew w') aa wide G<|bC 0 aa (aQ tb) G<|aH 1 aa (fun _ _=>nc aa) G<|aH 2 aa (fun _ _=>fa nb aa) G<|aH 3 aa (fun w' C=>ld gW aa<|Wk.aO C<|(a6 bB.cells).trans aa) G<|aH 4 aa (fun _ _=>nc aa) G<|aH 5 aa (fun _ _=>fa jL aa) G<|aH 6 aa (fun w' C=>ld j6 aa<|Wk.aO C<|ec) G<|aH 7 aa (fun _ _=>aT (.slice aA (aV F (cR F (((aV F (flagsOf xs (k:Int)) 2).getD i 0):Nat)) 2).length aC) aa) G<|bC 8 aa (au j) G<|aH 9 aa (fun _ _=>a7 j9 aa aa ab<|aI.ok ((aX b0).2.wk G)<|bP ab) G<|aH 10 aa (fun w' C=>ld bA aa<|Wk.aO C<|aI.gG (i:=j) (aX b0).2<|ni ab) G<|aH 11 aa (fun _ _=>a7 nN aa aa ab<|aI.ok (b8.wk G)<|nR cv) G<|aH 12 aa (fun w' C=>cT rv aa (aa) fun j a3=>e9 (f:=jv) (m:=8) (fun _=>rfl) (b8.wk C) cv j a3) G<|bC 13 aa (str<|(dA r x.1).getD []) G<|he 14 aa ag<|cl A5 (Df ao _ ((dA r x.1).getD []) J.drew.drew (by unfold jQ at bd; omega) (by unfold jQ at bd; omega) (by unfold jQ at bd; omega)<|by rw [aN]; omega) aa fun eJ aP dd=> ?_
 obtain ⟨rfl,b9⟩:=dd
 have ap:=G.trans b9
 have bN:=dn.wk ap
 have cg:=cc.trans<|Tw.wk ap
 have c9:=bB.wk ap
 have bW:=aU dy ap
 have a5:=aU dJ ap
 have bb:=aU b0 ap
 have aq:(fun w'=>Wk J.drew w') aP:=G.trans b9
 refine ⟨aq,?_⟩
 refine aH 15 aa (fun _ _=>mv) aq<|aH 16 aa (fun _ _=>xt aa aa) aq<|aH 17 aa (fun _ _=>xt aa aa) aq<|aH 18 aa (fun _ _=>aB) aq<|aH 19 aa (fun _ _=>aB) aq<|hn ag<|tn<|cS _ _<|sq fun _ cU=>rg aa<|p mv<|aE<|cU _ _<|cb aa (fun bQ=> ?_) fun bQ=> ?_
 obtain ⟨v2,cC⟩:∃ v,dA ao ((dA r x.1).getD [])=some v:=o8.1 bQ
 have cD:(dA ao<|(dA r x.1).getD []).getD []=v2:=by rw [cC]; rfl
 have bi:dA ao wd=some v2:=by rw [← aN]; exact cC
 have b3:je F xs k wd (((aV F (flagsOf xs (k:Int)) 2).getD i 0):Nat) ((aV F (cR F (((aV F (flagsOf xs (k:Int)) 2).getD i 0):Nat)) 2).getD j 0)=ew F xs k v2 (((aV F (flagsOf xs (k:Int)) 2).getD i 0):Nat) (((aV F (cR F (((aV F (flagsOf xs (k:Int)) 2).getD i 0):Nat)) 2).getD j 0):Nat):=by unfold je; rw [cB,bi]
 have eB:=qm (by unfold jQ at bd; omega) bi
 rw [b3] at bg
 have E:(fun w'=>Wk aP w') aP.drew:=(Md.refl _ _).drew
 refine eM (fun w'=>Wk aP w') 14 aa wide E<|bz 0 aa (aQ tb) E<|bz 1 aa (aQ xb) E<|bq 2 aa (fun _=>mv) (fun _=>E)<|bz 3 aa (au k) E<|bz 4 aa (.slice Z (aV F (flagsOf xs (k:Int)) 2).length ae) E<|bz 5 aa (au i) E<|bq 6 aa (fun _=>a7 j9 aa aa ab<|aI.ok ((aX a5).2.wk E)<|bP ab) (fun _=>E)<|dH 7 aa (fun w' C=>ld bA aa<|Wk.aO C<|aI.gG (i:=i) (aX a5).2<|ni ab) E<|bq 8 aa (fun _=>aT (.slice aA (aV F (cR F (((aV F (flagsOf xs (k:Int)) 2).getD i 0):Nat)) 2).length aC) aa) (fun _=>E)<|bz 9 aa (au j) E<|bq 10 aa (fun _=>a7 j9 aa aa ab<|aI.ok ((aX bb).2.wk E)<|bP ab) (fun _=>E)<|dH 11 aa (fun w' C=>ld bA aa<|Wk.aO C<|aI.gG (i:=j) (aX bb).2<|ni ab) E<|bq 12 aa (fun _=>cO (ps:= [(1,au k),(2,.int .i64 (((aV F (flagsOf xs (k:Int)) 2).getD i 0):Nat)),(3,.int .i64 (((aV F (cR F (((aV F (flagsOf xs (k:Int)) 2).getD i 0):Nat)) 2).getD j 0):Nat))]) (L:= [.string ⟨⟨[]⟩⟩,au k,.int .i64 (((aV F (flagsOf xs (k:Int)) 2).getD i 0):Nat),.int .i64 (((aV F (cR F (((aV F (flagsOf xs (k:Int)) 2).getD i 0):Nat)) 2).getD j 0):Nat),.int .i64 0]) DF aa<|aa) (fun _=>E)<|bz 13 aa (.slice Y (aV F (flagsOf xs (k:Int)) 1).length ac) E<|dG 14 aa ag ag<|cl A4 (DT B tb fb V ve F xs S0 xb cy most limit (gK most limit acc<|ew F xs k x.1 (-1) (-1)++((aV F (flagsOf xs (k:Int)) 2).take i).flatMap (fT F xs k)++(ew F xs k wd (((aV F (flagsOf xs (k:Int)) 2).getD i 0):Nat) (-1)++((aV F (cR F (((aV F (flagsOf xs (k:Int)) 2).getD i 0):Nat)) 2).take j).flatMap (je F xs k wd (((aV F (flagsOf xs (k:Int)) 2).getD i 0):Nat)))) ai ((dA ao<|(dA r x.1).getD []).getD []) [] k ((((aV F (flagsOf xs (k:Int)) 2).getD i 0):Nat):Int) ((((aV F (cR F (((aV F (flagsOf xs (k:Int)) 2).getD i 0):Nat)) 2).getD j 0):Nat):Int) 0 Y ac w.heap.size aP.drew (c9.wk E) O (bN.wk E) bU (aU bW E) (.inr ab) (.inr ab)<|by rw [cD]; omega) aa fun eK eQ de=> ?_
 obtain ⟨rfl,c6,cm,aZ⟩:=de
 rw [cD,← vp] at cm
 have bO:=bN.wk E
 have dk:=(cg.trans<|Tw.wk E).trans aZ
 have dz:=rV (aU bW E) bO aZ
 have dK:=rV (aU a5 E) bO aZ
 have dO:=rV (aU bb E) bO aZ
 exact eL ag<|bn<|tn<|b4 _ _<|rg aa<|ak (au j)<|p (bE ((j+1:Nat):Int) aa aa<|bj ab ab)<|p aB<|nl<|tn<|⟨_,ab,j+1,c6,ab,(by rw [bg,← dC (ew F xs k wd (((aV F (flagsOf xs (k:Int)) 2).getD i 0):Nat)<|-1),← dC]; exact cm),dk,dz,dK,dO,aa,aa,aa,aa,aa,aa,aa,aa,aa,aa,aa⟩
 have bi:dA ao wd=none:=by rw [← aN]; simpa using bQ
 have b3:je F xs k wd (((aV F (flagsOf xs (k:Int)) 2).getD i 0):Nat) ((aV F (cR F (((aV F (flagsOf xs (k:Int)) 2).getD i 0):Nat)) 2).getD j 0)= []:=by unfold je; rw [cB,bi]
 rw [b3,ed] at bg
 exact aM<|bn<|tn<|b4 _ _<|rg aa<|ak (au j)<|p (bE ((j+1:Nat):Int) aa aa<|bj ab ab)<|p aB<|nl<|tn<|⟨_,ab,j+1,ai,ab,(by rw [bg]; exact bN),cg,bW,a5,bb,aa,aa,aa,aa,aa,aa,aa,aa,aa,aa,aa⟩
 exact ext<|te _<|te _<|be<|bn<|tn<|aS _ _<|rg aa<|ak (au i)<|p (bE ((i+1:Nat):Int) aa aa<|bj ab ab)<|aw<|⟨_,ab,i+1,ai,ab,(by rw [aL,aK,← dC (ew F xs k x.1 (-1)<|-1)]; rw [Jm (Cg cp)]; exact ax.wk q),(a1.trans<|Tw.wk q),(aU a4 q),(aU a9 q),aa,aa,aa,aa,aa,aa,aa,aa⟩
 exact aW 16 aa ag aa aa aa aa q<|aW 17 aa ag aa aa aa aa q<|aW 18 aa ag aa aa aa aa q<|aW 19 aa ag aa aa aa aa q<|aW 20 aa ag aa aa aa aa q<|aW 21 aa ag aa aa aa aa q<|aW 22 aa ag aa aa aa aa q<|aW 23 aa ag aa aa aa aa q<|aW 24 aa ag aa aa aa aa q<|aH 25 aa (fun _ _=>bm aa) q<|hn ag<|tn<|bl _ _<|cf aa<|ext<|te _<|te _<|be<|bn<|tn<|aS _ _<|rg aa<|ak (au i)<|p (bE ((i+1:Nat):Int) aa aa<|bj ab ab)<|p aB<|nl<|tn<|⟨_,ab,i+1,ai,ab,(by rw [aL,aK,← dC (ew F xs k x.1 (-1)<|-1)]; rw [Jm (Ch cF)]; exact ax.wk q),(a1.trans<|Tw.wk q),(aU a4 q),(aU a9 q),aa,aa,aa,aa,aa,aa,aa,aa⟩
 refine aW 5 aa ag aa aa aa aa q<|aW 6 aa ag aa aa aa aa q<|aW 7 aa ag aa aa aa aa q<|aW 8 aa ag aa aa aa aa q<|aW 9 aa ag aa aa aa aa q<|aW 10 aa ag aa aa aa aa q<|aW 11 aa ag aa aa aa aa q<|aW 12 aa ag aa aa aa aa q<|aW 13 aa ag aa aa aa aa q<|aH 14 aa (fun _ _=>bm aa) q<|aH 15 aa (fun _ _=>mv) q<|aW 16 aa ag aa aa aa aa q<|aW 17 aa ag aa aa aa aa q<|aW 18 aa ag aa aa aa aa q<|aW 19 aa ag aa aa aa aa q<|aW 20 aa ag aa aa aa aa q<|aW 21 aa ag aa aa aa aa q<|aW 22 aa ag aa aa aa aa q ?_
 exact aW 23 aa ag aa aa aa aa q<|aW 24 aa ag aa aa aa aa q<|aH 25 aa (fun _ _=>bm aa) q<|hn ag<|tn<|bl _ _<|cf aa<|ext<|te _<|te _<|be<|bn<|tn<|aS _ _<|rg aa<|ak (au i)<|p (bE ((i+1:Nat):Int) aa aa<|bj ab ab)<|p aB<|nl<|tn<|⟨_,ab,i+1,ai,ab,(by rw [aL,aK,← dC (ew F xs k x.1 (-1)<|-1)]; rw [eI (show (aV F (cR F (((aV F (flagsOf xs (k:Int)) 2).getD i 0):Nat)) 2).length≤j by omega)] at ax; exact ax.wk q),(a1.trans<|Tw.wk q),(aU a4 q),(aU a9 q),aa,aa,aa,aa,aa,aa,aa,aa⟩
 exact ext<|te _<|te _<|be<|f0 aa<|⟨aa,ah,by rw [bH,bT,CD (Cg co)]; exact av.wk A,a0.trans<|Tw.wk A⟩
 refine aW 16 aa ag aa aa aa aa A<|aW 17 aa ag aa aa aa aa A<|aW 18 aa ag aa aa aa aa A<|aW 19 aa ag aa aa aa aa A<|aW 20 aa ag aa aa aa aa A<|aW 21 aa ag aa aa aa aa A<|aW 22 aa ag aa aa aa aa A<|aW 23 aa ag aa aa aa aa A<|aW 24 aa ag aa aa aa aa A<|aH 25 aa (fun _ _=>bm aa) A<|hn ag<|tn<|bp _ _<|cf aa<|ext<|te _<|te _<|be<|f0 aa ?_
 exact ⟨aa,ah,by rw [bH,bT,CD (Ch cE)]; exact av.wk A,a0.trans<|Tw.wk A⟩
 refine aW 5 aa ag aa aa aa aa A<|aW 6 aa ag aa aa aa aa A<|aW 7 aa ag aa aa aa aa A<|aW 8 aa ag aa aa aa aa A<|aW 9 aa ag aa aa aa aa A<|aW 10 aa ag aa aa aa aa A<|aW 11 aa ag aa aa aa aa A<|aW 12 aa ag aa aa aa aa A<|aW 13 aa ag aa aa aa aa A<|aH 14 aa (fun _ _=>bm aa) A<|aH 15 aa (fun _ _=>mv) A<|aW 16 aa ag aa aa aa aa A<|aW 17 aa ag aa aa aa aa A<|aW 18 aa ag aa aa aa aa A<|aW 19 aa ag aa aa aa aa A<|aW 20 aa ag aa aa aa aa A<|aW 21 aa ag aa aa aa aa A<|aW 22 aa ag aa aa aa aa A ?_
 refine aW 23 aa ag aa aa aa aa A<|aW 24 aa ag aa aa aa aa A<|aH 25 aa (fun _ _=>bm aa) A<|hn ag<|tn<|bp _ _<|cf aa<|ext<|te _<|te _<|be<|f0 aa ?_
 rw [eI ab] at av
 exact ⟨aa,ah,by rw [bH,bT]; exact av.wk A,a0.trans<|Tw.wk A⟩
theorem Xu (B tb fb:Nat) (V:eh) (ve:Value) (F:aR) (xs:List bD) (n most:Int) (w:World) (U:fX w B tb fb V ve F xs) (j:eR F xs) (C:most≤2000):
 bh ay 15 (ba [aQ tb,.int .i64 n,.int .i64 most]) w (fun v w'=>bo w' w.heap.size 43 5 v (ki (ir F xs n) most).length (iX<|ki (ir F xs n) most)∧Wk w w'):=by
 refine enter func15 aa ntmps15 aa<|aj fun _ G=>aw<|G _ _<|aj fun _ I=>ak (.int .i64 most)<|p (cO (ps:= [(0,.bool true),(3,.int .i64 most),(4,.int .i64 1152921504606846976)]) (L:= [.bool true,.bool false,.string ⟨⟨[]⟩⟩,.int .i64 most,.int .i64 1152921504606846976,.int .i64 0,.int .i64 0,.slice none 0 0]) Yp aa<|aa)<|e<|oC aa fun a E ai A O=> ?_
 have ac:ik E (fun q=>q=a) w.heap.size a true most 1152921504606846976 []:=⟨ab,⟨.slice none 0 0,O,by rw [if_pos rfl]; exact du _ _ _ _,fun q=>by simp [iH]⟩,ux.Bd.nil⟩
 refine aw<|I _ _<|aj fun _ J=>ak (aQ tb)<|ak (.int .i64 n)<|p mv<|e<|cl Ql (Zp B tb fb V ve F xs w.heap.size a true most 1152921504606846976 [] (fun q=>q=a) n E (U.wk A.md) j ac<|.inl C) aa fun an ao Y=> ?_
 obtain ⟨rfl,ah,ae,Z⟩:=Y
 obtain ⟨v,ag,i,al⟩:=ae.ex
 rw [if_pos rfl] at i
 refine aE<|J _ _<|aj fun _ M=>p mv<|p (nc aa)<|p (fa BV aa)<|p (ld Fe aa<|(a6 ag).trans aa)<|aw<|M _ _<|rt<|f1 aa aa ?_
 rw [Vl j C] at i
 exact ⟨i,A.md.trans' Z.md fun q am h=>by omega⟩
end Go.Hb.Aa
end
