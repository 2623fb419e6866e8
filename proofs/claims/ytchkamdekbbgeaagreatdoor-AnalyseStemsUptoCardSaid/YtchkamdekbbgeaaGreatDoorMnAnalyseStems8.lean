/-
  Walks and plain laws that the law rests on, laid together. No conditions but those that each theorem names.
-/
import Derived.Test.YtchkamdekbbgeaaGreatDoorMnAnalyseStems7
set_option linter.unusedVariables false
set_option maxRecDepth 20000
set_option maxHeartbeats 1000000
open Array renaming getElem?_eq_some_iff→dT
open Bool renaming and_eq_true→iq,and_false→yz,and_true→GX,noConfusion→eA
open Classical renaming byContradiction→yC,not_not→jT
open Go.Instr renaming checkKey→p6,findAsking→ue,findKey→ug,findNow→uh
open Go.Op renaming equalIn→rP
open Go.Proofs.Tryz renaming prog→aE,underlying49→G8
open Go.Result renaming andThen_ok→oZ
open Go.Sem renaming run_bind→o0,run_pure→rQ
open Go.Value renaming bool→cy,slice→cg
open Go.World renaming ownsRow→bB
open Int renaming toNat_natCast→kH
open List renaming append_assoc→e6,append_nil→eJ,drop_left→QC,filterMap_append→QE,filter_cons→o3,flatMap_append→o4,flatMap_singleton→rS,getD_eq_getElem?_getD→da,getElem?_eq_getElem→cz,getElem?_eq_some_iff→fS,getElem?_map→gi,getElem?_zip_eq_some→j9,length_append→bP,length_drop→fM,length_singleton→fE,length_take→dM,mem_cons→eL,mem_filter→oo,mem_filterMap→QQ,mem_flatMap→rT,mem_map→iT,mem_of_getElem?→gL,mem_range→nr,pairwise_flatMap→QU,take_append_drop→Cf,take_left→Q0,take_of_length_le→eK,toArray→bl
open Nat renaming le_trans→fu,lt_or_ge→fT,lt_succ_iff_lt_or_eq→qc,not_lt_zero→Q8,zero_le→iK
open Option renaming bind_assoc→Rb,bind_eq_some_iff→tg,bind_some→rW,isSome_iff_exists→ot,map_eq_some_iff→ou
open Go.Proofs.Tryz
open Go.Hb.dX Go.Proofs Go.Hb.eX Go.Hb.fI Go.Hb.iY Go.Hb.gr Go.Hb.ir Go.Hb.jm Go.Hb.jK Go.Hb.jW Go.Hb.jX Go.Hb.k5 Go.Hb.ku

namespace Go.Hb
theorem oL {l:List Nat} {i:Nat} (h:i < l.length):(l.map bV)[i]? =some (bV<|l.getD i 0):=by rw [gi,da,cz h]; rfl
theorem FL (B tb fb:Nat) (V:eM) (ve:Value) (F:aX) (xs:List bE) (n:Int) (w:World) (I:gN w B tb fb V ve F xs) (ab:eH F xs):
 bw aE 67 (bl [a6 tb,.int .i64 n]) w (fun v w'=>(∃ a c,v= .slice a (flagsOf xs n).length c∧Tg w' 0 3 (flagsOf xs n).length v ((flagsOf xs n).map bV))∧Wk w w'):=by
 obtain ⟨am,ce,ai⟩:=I.GG;have av:=ab.xl;refine enter func67 ag ntmps67 ag<|ak fun Y=>az<|Y<|aH fun Z=>ak fun E=>p mv<|p (lt ag ag)<|p mv<|gs (t:=7) ag (fun ah=> ?_) fun ah=> ?_;refine aQ ag<|aQ ag<|aQ ag<|aQ ag<|aQ ag<|aQ ag<|aQ ag<|p (bI ag)<|nl<|E<|ct ag<|ak fun A=>az<|A<|rt<|tr<|ba ag ?_;have C:=(uN (xs:=xs) (n:=n) aj).2;rw [C];exact ⟨⟨none,0,ag,tW _ _ _⟩,Md.refl _ _⟩;refine aV ag mv<|aV ag mv<|aV ag (nc ag)<|aV ag (fa vq ag)<|aV ag (ld uK ag<|ai)<|aV ag (bN Bx ag ag)<|aV ag (ge ag ag)<|p (bD ag)<|nl<|E<|cd ag (fun ae=> ?_) fun ae=> ?_;refine ak fun A=>az<|A<|rt<|tr<|ba ag ?_;have C:=(uN (xs:=xs) (n:=n) aj).2;rw [C];exact ⟨⟨none,0,ag,tW _ _ _⟩,Md.refl _ _⟩;obtain ⟨k,rfl⟩:∃ k:Nat,n=(k:Int):=⟨n.toNat,aj⟩
 obtain ⟨x,O⟩:∃ x,xs[k]? =some x:=⟨_,cz aj⟩
 obtain ⟨an,ao,ws,a,c,al,G,J,ac⟩:=I.dQ O;obtain ⟨ap,aa,aq,au⟩:=tw O;refine aT<|Z<|ak fun A=>p mv<|p (nc ag)<|p (fa vq ag)<|p (ld uK ag<|al)<|p mv<|p (bh DH ag ag aj<|aR.ok (G)<|uZ J)<|p (fa XW ag)<|p (ld qY ag<|fO (f:=qk) (m:=2) (fun _=>rfl) G J 1 aM)<|az<|A<|rt<|ba ag ?_;rw [aa];exact ⟨⟨a,c,ag,ac⟩,Md.refl _ _⟩
theorem ab3 (B tb fb:Nat) (V:eM) (ve:Value) (F:aX) (xs:List bE) (n:Int) (w:World) (C:gN w B tb fb V ve F xs) (ab:eH F xs):
 bw aE 182 (bl [a6 tb,.int .i64 n]) w (fun v w'=>(∃ a c,v= .slice a (cH F n).length c∧Tg w' 0 3 (cH F n).length v ((cH F n).map bV))∧Wk w w'):=by
 obtain ⟨am,ce,ai⟩:=C.GH;have av:=ab.len;refine enter func182 ag ntmps182 ag<|ak fun Y=>az<|Y<|aH fun Z=>ak fun G=>p mv<|p (lt ag ag)<|p mv<|gs (t:=7) ag (fun ah=> ?_) fun ah=> ?_;refine aQ ag<|aQ ag<|aQ ag<|aQ ag<|aQ ag<|aQ ag<|aQ ag<|aQ ag<|aQ ag<|aQ ag<|p (bI ag)<|nl<|G<|ct ag<|ak fun A=>az<|A<|rt<|tr<|ba ag ?_;have E:=(yg (F:=F) (n:=n) aj).2;rw [E];exact ⟨⟨none,0,ag,tW _ _ _⟩,Md.refl _ _⟩;refine aV ag mv<|aV ag mv<|aV ag (nc ag)<|aV ag (fa oI ag)<|aV ag (ld jc ag<|(bo C.cells).trans ag)<|aV ag (nc ag)<|aV ag (fa kq ag)<|aV ag (ld kM ag<|ai)<|aV ag (bN vP ag ag)<|aV ag (ge ag ag)<|p (bD ag)<|nl<|G<|cd ag (fun ae=> ?_) fun ae=> ?_;refine ak fun A=>az<|A<|rt<|tr<|ba ag ?_;have E:=(yg (F:=F) (n:=n) aj).2;rw [E];exact ⟨⟨none,0,ag,tW _ _ _⟩,Md.refl _ _⟩;obtain ⟨k,rfl⟩:∃ k:Nat,n=(k:Int):=⟨n.toNat,aj⟩
 obtain ⟨r,O⟩:∃ r,F.rules[k]? =some r:=⟨_,cz aj⟩
 obtain ⟨an,ao,a,c,al,I,J,ac⟩:=C.jG O;obtain ⟨ap,aa,aq,au⟩:=yf O;refine aT<|Z<|ak fun A=>p mv<|p (nc ag)<|p (fa oI ag)<|p (ld jc ag<|(bo C.cells).trans ag)<|p (nc ag)<|p (fa kq ag)<|p (ld kM ag<|al)<|p mv<|p (bh pK ag ag aj<|aR.ok (I)<|pQ J)<|p (fa xM ag)<|p (ld qY ag<|fO (f:=kh) (m:=8) (fun _=>rfl) I J 6 aM)<|p aJ<|nl<|A<|rt<|ba ag ?_;rw [aa];exact ⟨⟨a,c,ag,ac⟩,Md.refl _ _⟩
theorem Mm (a:Option Addr) (c:Nat) (l:List Nat) (x:Nat) (w:World) (J:aR w.heap a (l.map bV)) (an:l.length≤1048576):
 bw aE 68 (bl [.slice a l.length c,bV x]) w (fun v w'=>v= .bool (decide (x≠0∧x∈l))∧Wk w w'):=by
 refine enter func68 ag ntmps68 ag<|ak fun Y=>az<|Y<|aH fun Z=>ak fun aa=>az<|aa<|aW<|lp (fun I V O=> ∃ (i:Nat),(i≤l.length)∧(∀ j,j < i→¬(l.getD j 0=x∧x≠0))∧(O=w)∧(Sl V [(0,.slice a l.length c),(1,bV x),(5,ay i)])∧(l.length - i=I)) _ ⟨0,aj,(fun j C=>by omega),ag,ag,ag⟩ ?_;rintro I V O ⟨i,hi,E,ah,am,rfl⟩;refine bH am ?_;subst ah;refine aH fun ab=>ak fun ac=>aw (ay i)<|aw (.slice a l.length c)<|p (bN mI ag ag)<|p (lt ag ag)<|nl<|ac<|cd ag (fun ai=> ?_) fun ai=> ?_;refine aT<|ab<|aH fun A=>aW<|ak fun G=>aw (.slice a l.length c)<|aw (ay i)<|p (bh kp ag ag aj<|aR.ok (J)<|bY aj)<|p (ld bL ag<|aR.gQ (i:=i) J<|oL aj)<|aw (bV x)<|p (bT ag ag)<|p mv<|gs (t:=18) ag (fun heq=> ?_) fun heq=> ?_;refine aV ag (a8 (bV x) ag)<|aV ag (dw ag ag)<|p (bI ag)<|nl<|G<|cd ag (fun al=> ?_) fun al=> ?_;exact ak fun ae=>az<|ae<|rt<|br<|tr<|tr<|br<|tr<|ba ag<|⟨by rw [decide_eq_true (show x≠0∧x∈l from ⟨aj,(show l.getD i 0=x by omega) ▸ ek aj⟩)]; rfl,Md.refl _ _⟩
 exact aT<|bn<|A<|rg ag<|aw (ay i)<|p (bJ ((i+1:Nat):Int) ag ag<|bp aj aj)<|p aJ<|nl<|tn<|⟨_,aj,i+1,aj,(fun j C=>by rcases fT j i with h | h <;> first | exact E j h | (rw [show j=i by omega]; omega)),ag,ag,ag⟩
 exact aQ ag<|aQ ag<|p (bD ag)<|nl<|G<|cf ag<|aT<|bn<|A<|rg ag<|aw (ay i)<|p (bJ ((i+1:Nat):Int) ag ag<|bp aj aj)<|p aJ<|nl<|tn<|⟨_,aj,i+1,aj,(fun j C=>by rcases fT j i with h | h <;> first | exact E j h | (rw [show j=i by omega]; omega)),ag,ag,ag⟩
 exact ext<|bj<|bj<|be<|Z<|ak fun A=>p aJ<|nl<|A<|rt<|ba ag<|⟨by rw [decide_eq_false (show ¬(x≠0∧x∈l) from fun h=>by obtain ⟨j,C,e⟩:=mY 0 h.2; exact E j aj ⟨e,h.1⟩)]; rfl,Md.refl _ _⟩
theorem abZ (B tb fb:Nat) (V:eM) (ve:Value) (F:aX) (xs:List bE) (n:Int) (w:World) (E:gN w B tb fb V ve F xs) (Y:eH F xs):
 bw aE 225 (bl [a6 tb,.int .i64 n]) w (fun v w'=>v= .bool (pJ F n)∧Wk w w'):=by
 obtain ⟨av,ce,ao⟩:=E.GH;have aD:=Y.len;refine enter func225 ag ntmps225 ag<|ak fun ab=>az<|ab<|aH fun ac=>ak fun O=>p mv<|p (lt ag ag)<|p mv<|gs (t:=8) ag (fun an=> ?_) fun an=> ?_;exact aQ ag<|aQ ag<|aQ ag<|aQ ag<|aQ ag<|aQ ag<|aQ ag<|aQ ag<|aQ ag<|aQ ag<|p (bI ag)<|nl<|O<|ct ag<|ak fun G=>az<|G<|rt<|tr<|ba ag<|⟨by unfold pJ; rw [decide_eq_false (show ¬(0≤n∧n < (F.rules.length:Int)) by omega)]; rfl,Md.refl _ _⟩
 refine aV ag mv<|aV ag mv<|aV ag (nc ag)<|aV ag (fa oI ag)<|aV ag (ld jc ag<|(bo E.cells).trans ag)<|aV ag (nc ag)<|aV ag (fa kq ag)<|aV ag (ld kM ag<|ao)<|aV ag (bN vP ag ag)<|aV ag (ge ag ag)<|p (bD ag)<|nl<|O<|cd ag (fun am=> ?_) fun am=> ?_;exact ak fun G=>az<|G<|rt<|tr<|ba ag<|⟨by unfold pJ; rw [decide_eq_false (show ¬(0≤n∧n < (F.rules.length:Int)) by omega)]; rfl,Md.refl _ _⟩
 obtain ⟨k,rfl⟩:∃ k:Nat,n=(k:Int):=⟨n.toNat,aj⟩
 obtain ⟨r,J⟩:∃ r,F.rules[k]? =some r:=⟨_,cz aj⟩
 obtain ⟨aw,ax,a,c,ap,Z,aa,al⟩:=E.jG J;obtain ⟨ay,ah,aA,aB⟩:=yf J;have aC:=(Y.jG J).1;refine aT<|ac<|aH fun G=> ?_;have A:(fun w'=>Wk w w') w.drew:=(Md.refl _ _).drew;refine cj (fun w'=>Wk w w') ag wide A<|aU 0 ag (mv) A<|aU 1 ag (nc ag) A<|aU 2 ag (fa oI ag) A<|bS 3 ag (fun w' C=>ld jc ag<|Wk.a7 C<|(bo E.cells).trans ag) A<|aU 4 ag (nc ag) A<|aU 5 ag (fa kq ag) A<|bS 6 ag (fun w' C=>ld kM ag<|Wk.a7 C<|ap) A<|aU 7 ag (mv) A<|aU 8 ag (bh pK ag ag aj<|aR.ok (Z.wk A)<|pQ aa) A<|aU 9 ag (fa xM ag) A<|bS 10 ag (fun w' C=>ld qY ag<|Wk.a7 C<|fO (f:=kh) (m:=8) (fun _=>rfl) Z aa 6 aM) A<|aU 11 ag (mv) A<|aU 12 ag (nc ag) A<|aU 13 ag (fa oI ag) A<|bS 14 ag (fun w' C=>ld jc ag<|Wk.a7 C<|(bo E.cells).trans ag) A<|aU 15 ag (nc ag) A<|aU 16 ag (fa vj ag) A<|aU 17 ag (kT uM ag ag aj) A<|bS 18 ag (fun w' C=>ld bL ag<|Wk.a7 C<|LZ E (k:=0) aj) A<|he 19 ag au<|cl Jd (Mm a c r.next (F.sp.getD 0 0) w.drew (al.wk A).du.2 aj) ag ?_;rintro v39 aq ⟨rfl,ai⟩;have I:(fun w'=>Wk w w') aq:=A.trans ai;refine ⟨I,?_⟩;exact aU 20 ag (aJ) I<|hn au<|G<|ak fun ae=>p mv<|p (no ag)<|p aJ<|nl<|ae<|rt<|ba ag<|⟨by unfold pJ; rw [decide_eq_true (show 0≤(k:Int)∧(k:Int) < (F.rules.length:Int) by omega),ah]; rfl,I⟩
theorem N8 (B tb fb:Nat) (V:eM) (ve:Value) (F:aX) (xs:List bE) (n k:Int) (w:World) (G:gN w B tb fb V ve F xs) (E:eH F xs):
 bw aE 37 (bl [a6 tb,.int .i64 n,.int .i64 k]) w (fun v w'=>v= .bool (gV F xs n k)∧Wk w w'):=by
 refine enter func37 ag ntmps37 ag<|ak fun J=>az<|J<|aH fun O=>ak fun C=>p mv<|p (lt ag ag)<|p mv<|gs (t:=10) ag (fun ac=> ?_) fun ac=> ?_;exact aQ ag<|aQ ag<|p (bI ag)<|nl<|C<|ct ag<|ak fun A=>az<|A<|rt<|tr<|ba ag<|⟨by unfold gV; rw [decide_eq_false (show ¬(0≤k∧k < 5) by omega)]; rfl,Md.refl _ _⟩
 refine aV ag mv<|aV ag (gt ag ag)<|p (bD ag)<|nl<|C<|cd ag (fun ab=> ?_) fun ab=> ?_;exact ak fun A=>az<|A<|rt<|tr<|ba ag<|⟨by unfold gV; rw [decide_eq_false (show ¬(0≤k∧k < 5) by omega)]; rfl,Md.refl _ _⟩
 obtain ⟨k,rfl⟩:∃ m:Nat,k=(m:Int):=⟨k.toNat,aj⟩
 refine aT<|O<|ak fun A=>p mv<|p mv<|e<|cl Db (FL B tb fb V ve F xs n w G E) ag ?_;rintro ah ae ⟨⟨a,c,rfl,aa⟩,hE16⟩;have I:=G.wk hE16;refine az<|A<|ak fun Y=>p mv<|p mv<|p (nc ag)<|p (fa oI ag)<|p (ld jc ag<|(bo I.cells).trans ag)<|p mv<|p (nc ag)<|p (fa vj ag)<|p (kT uM ag ag aj)<|p (ld bL ag<|LZ I aj)<|e<|cl Jd (Mm a c (flagsOf xs n) (F.sp.getD k 0) ae aa.du.2<|by have :=(pZ E n).1; omega) ag ?_;rintro ai al ⟨rfl,Z⟩;exact az<|Y<|rt<|ba ag<|⟨by unfold gV tJ; rw [decide_eq_true (show 0≤((k:Nat):Int)∧((k:Nat):Int) < 5 by omega),kH]; rfl,hE16.trans Z⟩
theorem FN (B tb fb:Nat) (V:eM) (ve:Value) (F:aX) (xs:List bE) (fs:List Nat) (a:Option Addr) (c kd:Nat) (w:World) (aa:gN w B tb fb V ve F xs) (a9:eH F xs) (ao:aR w.heap a (fs.map bV)) (bZ:fs.length≤64) (br:fs.Pairwise (· < ·)):
 bw aE 178 (bl [a6 tb,.slice a fs.length c,ay kd]) w (fun v w'=>bB w' w.heap.size 3 1 v (bq F fs kd).length ((bq F fs kd).map bV)∧Wk w w'):=by
 have b6:=a9.len;obtain ⟨ar,cr,bz⟩:=aa.GH;refine enter func178 ag ntmps178 ag<|ak fun aP=>az<|aP<|ak fun aZ=>p aJ<|nl<|aZ<|aH fun a0=>ak fun a1=>az<|a1<|aW<|lp (fun O aN ac=> ∃ (i:Nat) (v:Value),(i≤F.rules.length)∧(bB ac w.heap.size 3 1 v (nQ F fs kd i).length<|(nQ F fs kd i).map bV)∧(Wk w ac)∧(Sl aN [(0,a6 tb),(1,.slice a fs.length c),(2,ay kd),(7,v),(8,ay i)])∧(F.rules.length - i=O)) _ ⟨0,.slice none 0 0,aj,(World.ownsRow_nil _ _ _ _),(Md.refl _ _),ag,ag⟩ ?_;rintro O aN ac ⟨i,v,hi,aG,I,bu,rfl⟩;refine bH bu<|aH fun a2=>ak fun a3=>aw (ay i)<|aw (a6 tb)<|p (nc ag)<|p (fa oI ag)<|p (ld jc ag<|(bo (aa.wk I).cells).trans ag)<|p (nc ag)<|p (fa kq ag)<|p (ld kM ag<|Wk.a7 I bz)<|p (bN vP ag ag)<|p (lt ag ag)<|nl<|a3<|cd ag (fun bm=> ?_) fun bm=> ?_;obtain ⟨r,aK⟩:∃ r,F.rules[i]? =some r:=⟨_,cz aj⟩
 obtain ⟨bC,bG,ab,rc,bx,aq,aI,bR⟩:=(aa.wk I).jG aK;obtain ⟨bK,bM,bO,an⟩:=yf aK;have b2:=aaF F fs kd i;have b4:((r,cg ab r.next.length rc):dd×Value).1.flag=r.flag:=rfl;have b5:((r,cg ab r.next.length rc):dd×Value).1.kind=r.kind:=rfl;refine aT<|a2<|aH fun Z=>aW<|ak fun a4=>aw (a6 tb)<|p (nc ag)<|p (fa oI ag)<|p (ld jc ag<|(bo (aa.wk I).cells).trans ag)<|p (nc ag)<|p (fa kq ag)<|p (ld kM ag<|bx)<|aw (ay i)<|p (bh pK ag ag aj<|aR.ok (aq)<|pQ aI)<|p (dp tp ag (ag)<|fO (f:=kh) (m:=8) (fun _=>rfl) aq aI)<|e<|hU GP fun ae cc bW aC bf=> ?_;have ca:=aC.size;refine e<|gS Ds ag ag ag ag bf (by show 8≤8; omega) fun aL ax bb=> ?_;have av:Wk ac aL:=aC.md.trans' ax fun q b3 h=>by omega
 have b7:=ax.size;have bi:aL.heap[ae]? =some (.cells (kh (r,.slice ab r.next.length rc)).toArray 214 (0,0)):=bb;have bs:=bc aG av;refine nl<|a4<|ak fun a5=>az<|a5<|aW<|lp (fun O aO C=> ∃ (k:Nat) (v2:Value),(k≤fs.length)∧(bB C w.heap.size 3 1 v2 (nQ F fs kd i++oP r fs kd i k).length<|(nQ F fs kd i++oP r fs kd i k).map bV)∧((nQ F fs kd i++oP r fs kd i k).length≤i+k)∧(C.heap[ae]? =some (.cells (kh (r,.slice ab r.next.length rc)).toArray 214 (0,0)))∧(Wk w C)∧(Sl aO [(0,a6 tb),(1,.slice a fs.length c),(2,ay kd),(7,v2),(8,ay i),(9,a6 ae),(10,ay k)])∧(fs.length - k=O)) _ ⟨0,v,aj,(by rw [Nq,eJ]; exact bs),(by rw [Nq,eJ]; omega),bi,(I.trans av),ag,ag⟩ ?_;rintro O aO C ⟨k,v2,b0,J,b1,Y,G,bv,rfl⟩;refine bH bv<|aH fun aS=>ak fun al=>aw (ay k)<|aw (.slice a fs.length c)<|p (bN mI ag ag)<|p (lt ag ag)<|p mv<|gs (t:=37) ag (fun hk=> ?_) fun hk=> ?_;refine aV ag (fa xL ag)<|aV ag (ld bL ag<|(bo Y).trans ag)<|aV ag (a8 (ay kd) ag)<|aV ag (bT ag ag)<|p (bI ag)<|nl<|al<|cd ag (fun aD=> ?_) fun aD=> ?_;refine aT<|aS<|aH fun am=>aW<|aH fun aY=> ?_;have A:(fun w'=>Wk C w') C.drew:=(Md.refl _ _).drew;refine cj (fun w'=>Wk C w') ag wide A<|bQ 0 ag (.slice a fs.length c) A<|bQ 1 ag (ay k) A<|aU 2 ag (bh kp ag ag aj<|aR.ok (ao.wk<|G.trans A)<|bY aj) A<|bS 3 ag (fun w' ah=>ld bL ag<|Wk.a7 ah<|aR.gQ (i:=k) (ao.wk G)<|oL aj) A<|aU 4 ag (fa XR ag) A<|bS 5 ag (fun w' ah=>ld bL ag<|Wk.a7 ah<|(bo Y).trans ag) A<|aU 6 ag (bT ag ag) A<|hn au<|aY<|cd ag (fun ai=> ?_) fun ai=> ?_;have aF:=aaN (kd:=kd) (i:=i) br (show k < fs.length by omega) (show fs.getD k 0=r.flag by omega) (show r.kind=kd by omega);refine rg ag<|aw (v2)<|aw (ay i)<|e<|fU lR ag ag fun bF bA bU aB bd=> ?_;have b8:=aB.size;have E:Wk C bA:=A.trans aB.md;refine e<|ap lR (bc J E) ag (by have :=G.size; have :=E.size; omega) ag (aR.dZ bd) (ag) (ag) aj aj fun v55 cb bt aA b9 bX=> ?_;have bg:=Wk.own (G.trans E) (bc J E) aA<|Nat.le_refl _;have bk:=aA.aW (E.aW Y) fun h=>eh (bc J E) (E.aW Y) aM h;exact p aJ<|nl<|bn<|am<|rg ag<|aw (ay k)<|p (bJ ((k+1:Nat):Int) ag ag<|bp aj aj)<|p aJ<|nl<|tn<|⟨_,aj,k+1,v55,aj,(by rw [aF,← e6,List.map_append,bP]; exact bt),(by rewrite [aF,← e6,bP]; simp only [fE]; omega),bk,bg,ag,ag⟩
 exact aT<|bn<|am<|rg ag<|aw (ay k)<|p (bJ ((k+1:Nat):Int) ag ag<|bp aj aj)<|p aJ<|nl<|tn<|⟨_,aj,k+1,v2,aj,(by rw [Np (show k < fs.length by omega) (fun h=>ai aj)]; exact bc J A),(by rewrite [Np (show k < fs.length by omega) (fun h=>ai aj)]; omega),(A.aW Y),(G.trans A),ag,ag⟩
 exact ext<|bj<|bj<|be<|bn<|Z<|rg ag<|aw (ay i)<|p (bJ ((i+1:Nat):Int) ag ag<|bp aj aj)<|p aJ<|nl<|tn<|⟨_,aj,i+1,v2,aj,(by rw [← No (r:=r) an (.inr fun h=>aD aj)]; exact J),G,ag,ag⟩
 exact aQ ag<|aQ ag<|aQ ag<|aQ ag<|p (bD ag)<|nl<|al<|cf ag<|ext<|bj<|bj<|be<|bn<|Z<|rg ag<|aw (ay i)<|p (bJ ((i+1:Nat):Int) ag ag<|bp aj aj)<|p aJ<|nl<|tn<|⟨_,aj,i+1,v2,aj,(by rw [← No (r:=r) an (.inl (show k=fs.length by omega))]; exact J),G,ag,ag⟩
 refine ext<|bj<|bj<|be<|a0<|ak fun Z=>aw (v)<|p (cV (v) ag)<|nl<|Z<|rt<|ba ag ?_;have hn:nQ F fs kd i=bq F fs kd:=by rw [show i=F.rules.length by omega]; rfl
 rw [← hn];exact ⟨aG,I⟩
theorem acd (B tb fb:Nat) (V:eM) (ve:Value) (F:aX) (xs:List bE) (n:Int) (w:World) (C:gN w B tb fb V ve F xs) (A:eH F xs):
 bw aE 110 (bl [a6 tb,.int .i64 n]) w (fun v w'=>bB w' w.heap.size 3 1 v (bq F (flagsOf xs n) 2).length ((bq F (flagsOf xs n) 2).map bV)∧Wk w w'):=by
 refine enter func110 ag ntmps110 ag<|ak fun E=>az<|E<|ak fun G=>aw (a6 tb)<|aw (.int .i64 n)<|e<|cl Db (FL B tb fb V ve F xs n w C A) ag ?_;rintro ab Z ⟨⟨a,c,rfl,O⟩,hE8⟩;have aa:=hE8.size;refine az<|G<|ak fun I=>aw (a6 tb)<|p mv<|e<|cl CP (FN B tb fb V ve F xs (flagsOf xs n) a c 2 Z (C.wk hE8) A O.du.2 (pZ A n).1 (pZ A n).2.1) ag ?_;rintro v11 ac ⟨Y,J⟩;exact az<|I<|rt<|ba ag<|⟨eT Y aj,hE8.trans J⟩
theorem ab6 (B tb fb:Nat) (V:eM) (ve:Value) (F:aX) (xs:List bE) (n:Int) (w:World) (C:gN w B tb fb V ve F xs) (A:eH F xs):
 bw aE 108 (bl [a6 tb,.int .i64 n]) w (fun v w'=>bB w' w.heap.size 3 1 v (bq F (flagsOf xs n) 1).length ((bq F (flagsOf xs n) 1).map bV)∧Wk w w'):=by
 refine enter func108 ag ntmps108 ag<|ak fun E=>az<|E<|ak fun G=>aw (a6 tb)<|aw (.int .i64 n)<|e<|cl Db (FL B tb fb V ve F xs n w C A) ag ?_;rintro ab Z ⟨⟨a,c,rfl,O⟩,hE8⟩;have aa:=hE8.size;refine az<|G<|ak fun I=>aw (a6 tb)<|p mv<|e<|cl CP (FN B tb fb V ve F xs (flagsOf xs n) a c 1 Z (C.wk hE8) A O.du.2 (pZ A n).1 (pZ A n).2.1) ag ?_;rintro v11 ac ⟨Y,J⟩;exact az<|I<|rt<|ba ag<|⟨eT Y aj,hE8.trans J⟩
theorem aca (B tb fb:Nat) (V:eM) (ve:Value) (F:aX) (xs:List bE) (n:Int) (w:World) (C:gN w B tb fb V ve F xs) (A:eH F xs):
 bw aE 112 (bl [a6 tb,.int .i64 n]) w (fun v w'=>bB w' w.heap.size 3 1 v (bq F (cH F n) 2).length ((bq F (cH F n) 2).map bV)∧Wk w w'):=by
 refine enter func112 ag ntmps112 ag<|ak fun E=>az<|E<|ak fun G=>aw (a6 tb)<|aw (.int .i64 n)<|e<|cl S3 (ab3 B tb fb V ve F xs n w C A) ag ?_;rintro ab Z ⟨⟨a,c,rfl,O⟩,hE8⟩;have aa:=hE8.size;refine az<|G<|ak fun I=>aw (a6 tb)<|p mv<|e<|cl CP (FN B tb fb V ve F xs (cH F n) a c 2 Z (C.wk hE8) A O.du.2 (vM A n).1 (vM A n).2.1) ag ?_;rintro v11 ac ⟨Y,J⟩;exact az<|I<|rt<|ba ag<|⟨eT Y aj,hE8.trans J⟩
end Go.Hb
section
namespace Go.Hb
open Go.Hb.pf
theorem OY {ps:List Tx} {w:Tx} {i:Nat} (hi:i < ps.length) (h:di (ps.getD i []) (w.getD i 0)=false):pY ps w=false :=by
 unfold pY;rw [Bool.and_eq_false_iff];refine .inr ?_;rw [List.all_eq_false];exact ⟨i,by simpa using hi,by rw [h]; exact eA⟩
theorem O0 {ps:List Tx} {w:Tx} (A:ps.length≤w.length) (h:∀ i,i < ps.length→di (ps.getD i []) (w.getD i 0)=true):pY ps w=true :=by
 unfold pY;rw [iq,decide_eq_true A,List.all_eq_true];exact ⟨ag,fun i hi=>h i<|by simpa using hi⟩
theorem OZ {ps:List Tx} {w:Tx} (h:w.length < ps.length):pY ps w=false :=by
 unfold pY; rw [decide_eq_false aj]; rfl
theorem YG (s pr:List UInt8) (w:World) (hs:s.length≤1099511627776) (hp:pr.length≤1099511627776):
 bw aE 167 (bl [str s,str pr]) w (fun v w'=>v= .bool (decide (s.take pr.length=pr))∧Wk w w'):=by
 refine enter func167 ag ntmps167 ag<|ak fun A=>az<|A<|ak fun C=>aw (str s)<|aw (str pr)<|e<|cl CV (Ey s pr _ hs hp) ag ?_;rintro G I ⟨rfl,E⟩;exact az<|C<|rt<|ba ag<|⟨ag,E⟩
theorem YH (s pr:List UInt8) (w:World) (hs:s.length≤1099511627776) (hp:pr.length≤1099511627776):
 bw aE 165 (bl [str s,str pr]) w (fun v w'=>v= .bool (decide (pr.length≤s.length∧s.drop (s.length - pr.length)=pr))∧Wk w w'):=by
 refine enter func165 ag ntmps165 ag<|ak fun A=>az<|A<|ak fun C=>aw (str s)<|aw (str pr)<|e<|cl zn (Aq s pr _ hs hp) ag ?_;rintro G I ⟨rfl,E⟩;exact az<|C<|rt<|ba ag<|⟨ag,E⟩
theorem abf (ps:List Tx) (a:Option Addr) (c:Nat) (i:Nat) (b:UInt8) (w:World) (E:aR w.heap a (l9 ps)) (hi:i < ps.length) (ac:ps.length≤4096):
 bw aE 221 (bl [.agg [.slice a ps.length c].toArray,ay i,.int .u8 b.toNat]) w (fun v w'=>v= .bool (di (ps.getD i []) b)∧Wk w w'):=by
 refine enter func221 ag ntmps221 ag<|ak fun I=>e<|je ag fun O G Z A V=> ?_;have C:bX G.heap O [.slice a ps.length c]:=V;refine az<|I<|ak fun J=>aw (ay i)<|p (ge ag ag)<|p mv<|gs (t:=9) ag (fun ab=> ?_) fun h=>absurd aj h;refine aV ag (a8 (ay i) ag)<|aV ag (fa nI ag)<|aV ag (ld pk ag<|C.bF 0)<|aV ag (bN sT ag ag)<|aV ag (lt ag ag)<|p (bI ag)<|p mv<|gs (t:=16) ag (fun aa=> ?_) fun h=>absurd aj h;refine aV ag (fa nI ag)<|aV ag (ld pk ag<|C.bF 0)<|aV ag (a8 (ay i) ag)<|aV ag (bh Kz ag ag aj<|aR.ok (E.wk A.md)<|Jv aj)<|aV ag (dp lE ag (ag)<|Ju (E.wk A.md) hi)<|aV ag (a8 (.int .u8 b.toNat) ag)<|eg ag ag ag<|cl C0 (L9 (di<|ps.getD i []) b G) ag ?_;rintro v23 ae ⟨rfl,Y⟩;exact p (bI ag)<|az<|J<|rt<|ba ag<|⟨ag,A.md.trans Y⟩
theorem NS (ps:List Tx) (a:Option Addr) (c:Nat) (s:Tx) (w:World) (aB:aR w.heap a (l9 ps)) (aG:ps.length≤4096):
 bw aE 168 (bl [.agg [.slice a ps.length c].toArray,str s]) w (fun v w'=>v= .bool (pY ps s)∧Wk w w'):=by
 refine enter func168 ag ntmps168 ag<|ak fun ai=>e<|je ag fun Z ae aL G aA=> ?_;have O:bX ae.heap Z [.slice a ps.length c]:=aA;refine az<|ai<|aH fun an=>ak fun ao=>aw (str s)<|p (c8 u9 ag ag)<|p (fa nI ag)<|p (ld pk ag<|O.bF 0)<|p (bN sT ag ag)<|p (lt ag ag)<|nl<|ao<|cd ag (fun aD=> ?_) fun aD=> ?_;exact ak fun I=>az<|I<|rt<|tr<|ba ag<|⟨by rw [OZ aj]; rfl,G.md⟩
 refine aT<|an<|aH fun I=>ak fun ap=>p (fa nI ag)<|p (ld pk ag<|O.bF 0)<|p (bN sT ag ag)<|p mv<|nl<|ap<|aW<|lp (fun aa ah C=> ∃ (i:Nat),(i≤ps.length)∧(∀ k,k < i→di (ps.getD k []) (s.getD k 0)=true)∧(Wk ae C)∧(Sl ah [(1,str s),(2,a6 Z),(14,ay (ps.length)),(15,ay i)])∧(ps.length - i=aa)) _ ⟨0,aj,(fun k hk=>absurd hk<|Q8 _),(Md.refl _ _),ag,ag⟩ ?_;rintro aa ah C ⟨i,hi,ac,E,aI,rfl⟩;refine bH aI<|ak fun aq=>p (lt ag ag)<|nl<|aq<|aH fun av=>cd ag (fun aF=> ?_) fun aF=> ?_;refine aT<|av<|aH fun J=>aW<|ak fun ax=>aw (ay i)<|p (cV (ay i) ag)<|nl<|ax<|aH fun al=> ?_;have A:(fun w'=>Wk C w') C.drew:=(Md.refl _ _).drew;refine cj (fun w'=>Wk C w') ag wide A<|bS 0 ag (fun w' aC=>dp oy ag (ag) fun j aM=>(Wk.B aC<|Wk.B E O).bF j) A<|bQ 1 ag (ay i) A<|bQ 2 ag (str s) A<|bQ 3 ag (ay i) A<|aU 4 ag (fC u9 ag ag aj) A<|he 5 ag au<|cl Tj (abf ps a c i (s.getD i 0) C.drew (aB.wk<|G.md.trans<|E.trans A) aj aG) ag ?_;rintro v23 aK ⟨rfl,V⟩;have ab:(fun w'=>Wk C w') aK:=A.trans V;refine ⟨ab,?_⟩;refine aU 6 ag (no ag) ab<|hn au<|al<|cb ag (fun Y=> ?_) fun Y=> ?_;exact ak fun am=>az<|am<|rt<|br<|tr<|tr<|br<|tr<|ba ag<|⟨by rw [OY (i:=i) aj (by simpa using Y)]; rfl,G.md.trans<|E.trans<|A.trans V⟩
 exact aT<|bn<|J<|rg ag<|p (ad ag ag<|cR aj)<|p mv<|nl<|tn<|⟨_,aj,i+1,aj,(fun k hk=>by rcases qc.1 hk with h | rfl; exact ac k h; simpa using Y),(E.trans<|A.trans V),ag,ag⟩
 exact ext<|bj<|bj<|be<|I<|ak fun J=>p aJ<|nl<|J<|rt<|ba ag<|⟨by rw [O0 aj (fun k hk=>ac k aj)]; rfl,G.md.trans E⟩
section
variable {r:dd} {s:Tx}
theorem KY (h:(dE r.cond).2≠0):iz r s=false :=by unfold iz; rw [decide_eq_false (fun h2=>h h2.1)]; rfl
theorem KZ (h:s.length≤r.strip.length):iz r s=false :=by unfold iz; rw [decide_eq_false (fun h2=>by omega)]; rfl
variable (h:(dE r.cond).2=0) (h1:r.strip.length < s.length)
include h h1
theorem zW (hk:r.kind=2):iz r s=(decide (s.drop (s.length - r.strip.length)=r.strip) && sg (dE r.cond).1 s):=by unfold iz; rw [decide_eq_true ⟨h,h1⟩,if_pos hk]; rfl
theorem zV (hk:r.kind=1):iz r s=(decide (s.take r.strip.length=r.strip) && pY (dE r.cond).1 s):=by unfold iz; rw [decide_eq_true ⟨h,h1⟩,if_neg aj,if_pos hk]; rfl
omit h h1 in
theorem KX (hk:r.kind≠1) (A:r.kind≠2):iz r s=false :=by unfold iz; rw [if_neg A,if_neg hk,yz]
end
theorem abo (ps:List Tx) (a:Option Addr) (c:Nat) (s:Tx) (w:World) (aa:aR w.heap a (l9 ps)) (ae:ps.length≤4096) (am:s.length≤1073741824):
 bw aE 166 (bl [.agg [.slice a ps.length c].toArray,str s]) w (fun v w'=>v= .bool (sg ps s)∧Wk w w'):=by
 refine enter func166 ag ntmps166 ag<|ak fun V=>e<|je ag fun Y C ai J Z=> ?_;have I:bX C.heap Y [.slice a ps.length c]:=Z;refine az<|V<|aH fun O=> ?_;have A:(fun w'=>Wk C w') C.drew:=(Md.refl _ _).drew;refine cj (fun w'=>Wk C w') ag wide A<|bQ 0 ag (str s) A<|aU 1 ag (c8 u9 ag ag) A<|aU 2 ag (fa nI ag) A<|bS 3 ag (fun w' E=>ld pk ag<|Wk.a7 E<|I.bF 0) A<|aU 4 ag (bN sT ag ag) A<|aU 5 ag (ge ag ag) A<|aU 6 ag (mv) A<|iP (t:=11) ag (fun ac=> ?_) fun ac=> ?_;refine bm 7 ag (fun w' E=>dp oy ag (ag) fun j al=>(Wk.B E I).bF j) A<|bm 8 ag (fun _ _=>a8 (str s) ag) A<|bm 9 ag (fun _ _=>a8 (str s) ag) A<|bm 10 ag (fun _ _=>c8 u9 ag ag) A<|bm 11 ag (fun _ _=>fa nI ag) A<|bm 12 ag (fun w' E=>ld pk ag<|Wk.a7 E<|I.bF 0) A<|bm 13 ag (fun _ _=>bN sT ag ag) A<|bm 14 ag (fun _ _=>ed ((s.length - ps.length:Nat):Int) ag ag<|bp aj aj) A<|bm 15 ag (fun _ _=>ni u9 ag ag aj) A<|nM 16 ag au ag ag ag<|cl IA (NS ps a c (s.drop<|s.length - ps.length) C.drew (aa.wk<|J.md.trans A) ae) ag ?_;rintro v21 ah ⟨rfl,ab⟩;have G:(fun w'=>Wk C w') ah:=A.trans ab;refine ⟨G,?_⟩;exact aU 17 ag (bI ag) G<|aU 18 ag (aJ) G<|hn au<|O<|rt<|ba ag<|⟨by unfold sg; rw [decide_eq_true (show ps.length≤s.length by omega)]; rfl,J.md.trans G⟩
 exact bf 7 ag A<|bf 8 ag A<|bf 9 ag A<|bf 10 ag A<|bf 11 ag A<|bf 12 ag A<|bf 13 ag A<|bf 14 ag A<|bf 15 ag A<|bf 16 ag A<|aU 17 ag (bD ag) A<|aU 18 ag (aJ) A<|hn au<|O<|rt<|ba ag<|⟨by unfold sg; rw [decide_eq_false (show ¬ps.length≤s.length by omega)]; rfl,J.md.trans A⟩
theorem K0 (r:dd) (u:Value) (s:Tx) (w:World) (a6:r.strip.length≤1048576) (a2:r.add.length≤1048576) (aO:r.cond.length≤1048576) (aR:s.length≤1073741824):
 bw aE 104 (bl [.agg (fk (r,u)).toArray,str s]) w (fun v w'=>v= .bool (iz r s)∧Wk w w'):=by
 refine enter func104 ag ntmps104 ag<|ak fun aq=>e<|je ag fun aA ap aY am aD=> ?_;have a5:((r,u):dd×Value).1.strip.length=r.strip.length:=rfl;have a4:((r,u):dd×Value).1.kind=r.kind:=rfl;have a3:((r,u):dd×Value).1.add.length=r.add.length:=rfl;have ae:bX ap.heap aA (fk (r,u)):=aD;refine az<|aq<|ak fun au=>p (fa Lt ag)<|p (ld bW ag<|ae.bF 5)<|e<|cl Iz (JI r.cond ap aO) ag ?_;rintro v10 aS ⟨⟨ac,rfl,ao⟩,hE10⟩;obtain ⟨a,c,rfl⟩:=cM ao;have ai:=(bg ao).2;have a0:=JG r.cond;have a9:=am.size;have a7:=hE10.size;refine p mv<|p (xt ag ag)<|p (xt ag ag)<|e<|al BJ fun aB bh aZ an aF=> ?_;have bb:=an.size;refine e<|dy sd ag ag ag ag (aF) (by simp) fun Y aJ aC=> ?_;have J:Wk aS Y:=an.md.trans' aJ fun q a1 h=>by omega
 have ah:bX Y.heap aB [.slice a (dE r.cond).1.length c]:=aC;have I:=Wk.B (hE10.trans J) ae;have A:=am.md.trans<|hE10.trans J;refine az<|au<|aH fun av=>ak fun ab=>p mv<|p (dw ag ag)<|p mv<|gs (t:=15) ag (fun aK=> ?_) fun aK=> ?_;refine aQ ag<|aQ ag<|aQ ag<|aQ ag<|aQ ag<|aQ ag<|p (bI ag)<|nl<|ab<|ct ag<|ak fun C=>az<|C<|rt ?_;exact tr<|ba ag<|⟨by rw [KY aj]; rfl,A⟩
 refine aV ag (a8 (str s) ag)<|aV ag (c8 u9 ag ag)<|aV ag (fa sr ag)<|aV ag (ld bW ag<|I.bF 3)<|aV ag (c8 u9 ag ag)<|aV ag (le ag ag)<|p (bD ag)<|nl<|ab<|cd ag (fun aP=> ?_) fun aP=> ?_;exact ak fun C=>az<|C<|rt<|tr<|ba ag<|⟨by rw [KZ aj]; rfl,A⟩
 refine aT<|av<|aH fun C=>ak fun ax=>p (fa xC ag)<|p (ld bL ag<|I.bF 0)<|nl<|ax<|aW<|ak fun ay=>p (bT ag ag)<|az<|ay ?_;refine cd ag (fun aN=> ?_) fun aN=> ?_;refine ak fun E=>aw (str s)<|p (fa sr ag)<|p (ld bW ag<|I.bF 3)<|e<|cl SY (YH s r.strip Y aj aj) ag ?_;rintro v30 aU ⟨rfl,O⟩;refine p mv<|gb (t:=31) ag (fun aa=> ?_) fun aa=> ?_;refine aV ag (dp oy ag (ag) fun j aL=>(Wk.B O ah).bF j)<|aV ag (a8 (str s) ag)<|eg ag ag ag<|cl SZ (abo (dE r.cond).1 a c s aU (ai.wk<|J.trans O) aj aR) ag ?_;rintro bc bd ⟨rfl,aG⟩;exact p (bI ag)<|az<|E<|rt<|br<|tr<|ba ag<|⟨by rw [zW aj aj aj,decide_eq_true (of_decide_eq_true aa).2]; rfl,A.trans<|O.trans aG⟩
 exact aQ ag<|aQ ag<|aQ ag<|p (bD ag)<|az<|E<|rt<|br<|tr<|ba ag<|⟨by rw [zW aj aj aj,decide_eq_false (fun h=>of_decide_eq_false aa ⟨aj,h⟩)]; rfl,A.trans O⟩
 refine ak fun E=>p (bT ag ag)<|az<|E<|cd ag (fun aM=> ?_) fun aM=> ?_;refine ak fun G=>aw (str s)<|p (fa sr ag)<|p (ld bW ag<|I.bF 3)<|e<|cl S1 (YG s r.strip Y aj aj) ag ?_;rintro v41 aX ⟨rfl,V⟩;refine p mv<|gb (t:=42) ag (fun Z=> ?_) fun Z=> ?_;refine aV ag (dp oy ag (ag) fun j aL=>(Wk.B V ah).bF j)<|aV ag (a8 (str s) ag)<|eg ag ag ag<|cl IA (NS (dE r.cond).1 a c s aX (ai.wk<|J.trans V) aj) ag ?_;rintro v45 bf ⟨rfl,aI⟩;exact p (bI ag)<|az<|G<|rt<|br<|tr<|ba ag<|⟨by rw [zV aj aj aj,Z]; rfl,A.trans<|V.trans aI⟩
 exact aQ ag<|aQ ag<|aQ ag<|p (bD ag)<|az<|G<|rt<|br<|tr<|ba ag<|⟨by rw [zV aj aj aj,Z]; rfl,A.trans V⟩
 exact aT<|bn<|C<|ak fun G=>az<|G<|rt<|ba ag<|⟨by rw [KX aj aj]; rfl,A⟩
def lS (s p:Tx):Tx:=if p.length≤s.length∧s.drop (s.length - p.length)=p then s.take (s.length - p.length) else s
theorem CA {r:dd} {s:Tx} (h:iz r s=false):eO r s=none:=if_neg<|by rw [h]; exact eA
theorem xz {r:dd} {s:Tx} (h:iz r s=true):r.strip.length < s.length∧(r.kind=2→s.drop (s.length - r.strip.length)=r.strip)∧(r.kind≠2→s.take r.strip.length=r.strip):=by
 unfold iz at h;rw [iq,decide_eq_true_eq] at h;refine ⟨h.1.2,fun hk=> ?_,fun hk=> ?_⟩
 · have h2:=h.2; rw [if_pos hk,iq] at h2; exact of_decide_eq_true h2.1
 · have h2:=h.2; rw [if_neg hk] at h2;split at h2
   · rw [iq] at h2; exact of_decide_eq_true h2.1
   · cases h2
theorem RW {r:dd} {s:Tx} (h:iz r s=true) (hk:r.kind=2):eO r s=some (lS s r.strip++r.add):=by
 have h1:=xz h;unfold eO lS; rw [if_pos h,if_pos hk,if_pos ⟨aj,h1.2.1 hk⟩]
theorem RV {r:dd} {s:Tx} (h:iz r s=true) (hk:r.kind≠2):eO r s=some (r.add++gB s r.strip):=by
 have h1:=xz h;unfold eO gB; rw [if_pos h,if_neg hk,if_pos (h1.2.2 hk)]
theorem H5 {r:dd} {s:Tx} (h:iz r s=true) (hk:r.kind=2):eO r s=some (s.take (s.length - r.strip.length)++r.add):=by
 unfold eO; rw [if_pos h,if_pos hk]
theorem H4 {r:dd} {s:Tx} (h:iz r s=true) (hk:r.kind≠2):eO r s=some (r.add++s.drop r.strip.length):=by
 unfold eO; rw [if_pos h,if_neg hk]
def x6 (x:Option Tx):Value:= .tuple #[str (x.getD []),.bool x.isSome]
theorem adP (s pr:List UInt8) (w:World) (hs:s.length≤1099511627776) (hp:pr.length≤1099511627776):
 bw aE 209 (bl [str s,str pr]) w (fun v w'=>v=str (lS s pr)∧Wk w w'):=by
 refine enter func209 ag ntmps209 ag<|ak fun I=>az<|I<|aH fun J=>ak fun O=>aw (str s)<|aw (str pr)<|e<|cl zn (Aq s pr _ hs hp) ag ?_;rintro V Y ⟨rfl,G⟩;refine nl<|O<|cb ag (fun C=> ?_) fun C=> ?_;have E:=of_decide_eq_true C;exact ak fun A=>aw (str s)<|aw (str s)<|p (c8 u9 ag ag)<|aw (str pr)<|p (c8 u9 ag ag)<|p (ed ((s.length - pr.length:Nat):Int) ag ag<|bp aj aj)<|p (sQ u9 ag ag aj)<|az<|A<|rt<|tr<|ba ag<|⟨by show str (s.take (((s.length - pr.length:Nat):Int)).toNat)=_; unfold lS; rw [if_pos E]; rfl,G⟩
 have E:=of_decide_eq_false C;exact aT<|J<|ak fun A=>aw (str s)<|p (cV (str s) ag)<|nl<|A<|rt<|ba ag<|⟨by show str s=_; unfold lS; rw [if_neg E],G⟩
theorem adQ (s pr:List UInt8) (w:World) (hs:s.length≤1099511627776) (hp:pr.length≤1099511627776):
 bw aE 145 (bl [str s,str pr]) w (fun v w'=>v=str (lS s pr)∧Wk w w'):=by
 refine enter func145 ag ntmps145 ag<|ak fun A=>az<|A<|ak fun C=>aw (str s)<|aw (str pr)<|e<|cl IM (adP s pr _ hs hp) ag ?_;rintro G I ⟨rfl,E⟩;exact az<|C<|rt<|ba ag<|⟨ag,E⟩
theorem RX (r:dd) (u:Value) (s:Tx) (w:World) (aB:r.strip.length≤1048576) (ay:r.add.length≤1048576) (aA:r.cond.length≤1048576) (aC:s.length≤1073741824):
 bw aE 89 (bl [.agg (fk (r,u)).toArray,str s]) w (fun v w'=>v=x6 (eO r s)∧Wk w w'):=by
 refine enter func89 ag ntmps89 ag<|ak fun ai=>e<|je ag fun ao ah aG ax ap=> ?_;have aN:((r,u):dd×Value).1.strip.length=r.strip.length:=rfl;have aM:((r,u):dd×Value).1.kind=r.kind:=rfl;have aL:((r,u):dd×Value).1.add.length=r.add.length:=rfl;have ac:bX ah.heap ao (fk (r,u)):=ap;refine p aJ<|az<|ai<|aH fun al=>ak fun am=>p (dp l6 ag (ag) fun j aK=>ac.bF j)<|aw (str s)<|e<|cl Io (K0 r u s ah aB ay aA aC) ag ?_;rintro aP A ⟨rfl,ae⟩;have O:=Wk.B ae ac;have aa:=ax.md.trans ae;refine p (no ag)<|nl<|am<|cb ag (fun ab=> ?_) fun ab=> ?_;have V:iz r s=false :=by simpa using ab
 exact ak fun Y=>p aJ<|az<|Y<|rt<|tr<|f2 ag ag ag<|⟨by rw [CA V]; rfl,aa⟩
 have V:iz r s=true :=by simpa using ab
 have aI:=(xz V).1;refine aT<|al<|aH fun Y=>ak fun an=>p (fa xC ag)<|p (ld bL ag<|O.bF 0)<|p (bT ag ag)<|nl<|an<|cd ag (fun hk=> ?_) fun hk=> ?_;refine aH fun Z=> ?_;have E:(fun w'=>Wk A w') A.drew:=(Md.refl _ _).drew;refine cj (fun w'=>Wk A w') ag wide E<|bQ 0 ag (str s) E<|aU 1 ag (fa sr ag) E<|bS 2 ag (fun w' C=>ld bW ag<|Wk.a7 C<|O.bF 3) E<|aU 4 ag (fa xE ag) E<|bS 5 ag (fun w' C=>ld bW ag<|Wk.a7 C<|O.bF 4) E<|he 3 ag au<|cl It (adQ s r.strip A.drew aj aj) ag ?_;rintro aO aD ⟨rfl,aq⟩;have I:(fun w'=>Wk A w') aD:=E.trans aq;refine ⟨I,?_⟩;exact aU 6 ag (cc ag ag (by have :(lS s r.strip).length≤s.length:=(by unfold lS; split <;> simp <;> omega); omega)) I<|aU 7 ag (aJ) I<|aU 8 ag (aJ) I<|hn au<|Z<|rt<|tr<|f2 ag ag ag<|⟨by rw [RW V aj]; rfl,aa.trans I⟩
 refine aT<|Y<|aH fun Z=> ?_;have G:(fun w'=>Wk A w') A.drew:=(Md.refl _ _).drew;refine cj (fun w'=>Wk A w') ag wide G<|aU 0 ag (fa xE ag) G<|bS 1 ag (fun w' C=>ld bW ag<|Wk.a7 C<|O.bF 4) G<|bQ 2 ag (str s) G<|aU 3 ag (fa sr ag) G<|bS 4 ag (fun w' C=>ld bW ag<|Wk.a7 C<|O.bF 3) G<|he 5 ag au<|cl Iu (Pa s r.strip A.drew aj aj) ag ?_;rintro v25 aF ⟨rfl,av⟩;have J:(fun w'=>Wk A w') aF:=G.trans av;refine ⟨J,?_⟩;exact aU 6 ag (cc ag ag (by have :(gB s r.strip).length≤s.length:=(by unfold gB; split <;> simp); omega)) J<|aU 7 ag (aJ) J<|aU 8 ag (aJ) J<|hn au<|Z<|rt<|f2 ag ag ag<|⟨by rw [RV V aj]; rfl,aa.trans J⟩
theorem Oc (ps:List Tx) (a:Option Addr) (c:Nat) (s:Tx) (w:World) (Y:aR w.heap a (ps.map str)) (aF:ps.length≤4096) (aa:∀ t∈ps,(t.length=1∨3≤t.length)∧t.length≤1048576):
 bw aE 230 (bl [.slice a ps.length c,str s]) w (fun v w'=>v= .bool (pY ps s)∧Wk w w'):=by
 refine enter func230 ag ntmps230 ag<|ak fun ac=>az<|ac<|aH fun ai=>ak fun al=>aw (str s)<|p (c8 u9 ag ag)<|aw (.slice a ps.length c)<|p (bN tY ag ag)<|p (lt ag ag)<|nl<|al<|cd ag (fun ax=> ?_) fun ax=> ?_;exact ak fun I=>az<|I<|rt<|tr<|ba ag<|⟨by rw [OZ aj]; rfl,Md.refl _ _⟩
 refine aT<|ai<|aH fun I=>ak fun am=>az<|am<|aW<|lp (fun V ab C=> ∃ (i:Nat),(i≤ps.length)∧(∀ k,k < i→di (ps.getD k []) (s.getD k 0)=true)∧(Wk w C)∧(Sl ab [(0,.slice a ps.length c),(1,str s),(5,ay i)])∧(ps.length - i=V)) _ ⟨0,aj,(fun k hk=>absurd hk<|Q8 _),(Md.refl _ _),ag,ag⟩ ?_;rintro V ab C ⟨i,hi,Z,E,aB,rfl⟩;refine bH aB<|aH fun an=>ak fun ao=>aw (ay i)<|aw (.slice a ps.length c)<|p (bN tY ag ag)<|p (lt ag ag)<|nl<|ao<|cd ag (fun aA=> ?_) fun aA=> ?_;refine aT<|an<|aH fun J=>aW<|aH fun ap=> ?_;have A:(fun w'=>Wk C w') C.drew:=(Md.refl _ _).drew;refine cj (fun w'=>Wk C w') ag wide A<|bQ 0 ag (.slice a ps.length c) A<|bQ 1 ag (ay i) A<|aU 2 ag (bh KA ag ag aj<|aR.ok (Y.wk E)<|bY aj) A<|bS 3 ag (fun w' av=>dp uJ ag (ag) (show ∀ j,j < 1→Hb.a7 w'.heap (bk a) (fo a+i*1 +j)= [str (ps.getD i [])][j]? from fun j aD=>by cases j with | zero=>exact Wk.a7 av (MZ (Y.wk E) aj) | succ j=>omega)) A<|bQ 4 ag (str s) A<|bQ 5 ag (ay i) A<|aU 6 ag (fC u9 ag ag aj) A<|he 7 ag au<|cl C1 (HI (ps.getD i []) (s.getD i 0) C.drew (aa _<|ek aj).1 (aa _<|ek aj).2) ag ?_;rintro v25 aC ⟨rfl,aq⟩;have G:(fun w'=>Wk C w') aC:=A.trans aq;refine ⟨G,?_⟩;refine aU 8 ag (aJ) G<|hn au<|ap<|ak fun ae=>p mv<|p (no ag)<|nl<|ae<|cb ag (fun O=> ?_) fun O=> ?_;exact ak fun ah=>az<|ah<|rt<|br<|tr<|tr<|br<|tr<|ba ag<|⟨by rw [OY (i:=i) aj (by simpa using O)]; rfl,E.trans G⟩
 exact aT<|bn<|J<|rg ag<|aw (ay i)<|p (bJ ((i+1:Nat):Int) ag ag<|bp aj aj)<|p aJ<|nl<|tn<|⟨_,aj,i+1,aj,(fun k hk=>by rcases qc.1 hk with h | rfl; exact Z k h; simpa using O),(E.trans G),ag,ag⟩
 exact ext<|bj<|bj<|be<|I<|ak fun J=>p aJ<|nl<|J<|rt<|ba ag<|⟨by rw [O0 aj (fun k hk=>Z k aj)]; rfl,E⟩
theorem abO (ps:List Tx) (a:Option Addr) (c:Nat) (s:Tx) (w:World) (I:aR w.heap a (ps.map str)) (V:ps.length≤4096) (Z:s.length≤1073741824) (Y:∀ t∈ps,(t.length=1∨3≤t.length)∧t.length≤1048576):
 bw aE 229 (bl [.slice a ps.length c,str s]) w (fun v w'=>v= .bool (sg ps s)∧Wk w w'):=by
 refine enter func229 ag ntmps229 ag<|ak fun C=>az<|C<|aH fun E=>ak fun G=>aw (str s)<|p (c8 u9 ag ag)<|aw (.slice a ps.length c)<|p (bN tY ag ag)<|p (lt ag ag)<|nl<|G<|cd ag (fun O=> ?_) fun O=> ?_;exact ak fun A=>az<|A<|rt<|tr<|ba ag<|⟨by unfold sg; rw [decide_eq_false (show ¬ps.length≤s.length by omega)]; rfl,Md.refl _ _⟩
 refine aT<|E<|ak fun A=>aw (.slice a ps.length c)<|aw (str s)<|aw (str s)<|p (c8 u9 ag ag)<|aw (.slice a ps.length c)<|p (bN tY ag ag)<|p (ed ((s.length - ps.length:Nat):Int) ag ag<|bp aj aj)<|p (ni u9 ag ag aj)<|e<|cl IS (Oc ps a c (s.drop<|s.length - ps.length) w I V Y) ag ?_;rintro aa ab ⟨rfl,J⟩;exact az<|A<|rt<|ba ag<|⟨by unfold sg; rw [decide_eq_true (show ps.length≤s.length by omega)]; rfl,J⟩
theorem abY (r:dd) (u:Value) (s:Tx) (w:World) (a1:r.strip.length≤1048576) (aW:r.add.length≤1048576) (aX:r.cond.length≤1048576) (a2:s.length≤1073741824):
 bw aE 181 (bl [.agg (kh (r,u)).toArray,str s]) w (fun v w'=>v= .bool (iz r s)∧Wk w w'):=by
 refine enter func181 ag ntmps181 ag<|ak fun aB=>e<|je ag fun aI aA aR aL aK=> ?_;have a0:((r,u):dd×Value).1.strip.length=r.strip.length:=rfl;have aZ:((r,u):dd×Value).1.kind=r.kind:=rfl;have aY:((r,u):dd×Value).1.add.length=r.add.length:=rfl;have ao:bX aA.heap aI (kh (r,u)):=aK;refine az<|aB<|ak fun aC=>p (fa Ea ag)<|p (ld bW ag<|ao.bF 5)<|e<|cl IQ (NU r.cond aA aj) ag ?_;rintro a3 ay ⟨⟨ac,rfl,aq⟩,hE13⟩;obtain ⟨a,c,rfl⟩:=cM aq;have ap:=(bg aq).2;have ab:= @JF r.cond;have av:∀ t∈(dE r.cond).1,(t.length=1∨3≤t.length)∧t.length≤1048576:=fun t ax=>⟨(ab.1 t ax).1,by have :=(ab.1 t ax).2; omega⟩
 have I:=Wk.B hE13 ao;have E:=aL.md.trans hE13;have aS:=ab.2;refine p mv<|p (xt ag ag)<|p (xt ag ag)<|p aJ<|az<|aC<|aH fun aD=>rg ag<|p (fa vo ag)<|p (ld bW ag<|I.bF 3)<|p (c8 u9 ag ag)<|az<|aD<|aH fun aF=>ak fun an=>p mv<|p (dw ag ag)<|p mv<|gs (t:=21) ag (fun aM=> ?_) fun aM=> ?_;exact aQ ag<|aQ ag<|aQ ag<|aQ ag<|p (bI ag)<|nl<|an<|ct ag<|ak fun G=>az<|G<|rt<|tr<|ba ag<|⟨by rw [KY aj]; rfl,E⟩
 refine aV ag (a8 (str s) ag)<|aV ag (c8 u9 ag ag)<|aV ag mv<|aV ag (le ag ag)<|p (bD ag)<|nl<|an<|cd ag (fun aP=> ?_) fun aP=> ?_;exact ak fun G=>az<|G<|rt<|tr<|ba ag<|⟨by rw [KZ aj]; rfl,E⟩
 refine aT<|aF<|aH fun G=>ak fun aG=>p (fa xL ag)<|p (ld bL ag<|I.bF 0)<|p (bT ag ag)<|nl<|aG<|cd ag (fun aO=> ?_) fun aO=> ?_;refine ak fun V=>p mv<|aw (str s)<|e<|cl Tn (abO (dE r.cond).1 a c s ay ap aj aj av) ag ?_;rintro v32 ai ⟨rfl,Y⟩;refine az<|V<|aH fun J=> ?_;have A:(fun w'=>Wk ai w') ai.drew:=(Md.refl _ _).drew;refine cj (fun w'=>Wk ai w') ag wide A<|aU 0 ag (mv) A<|aU 1 ag (mv) A<|Au (t:=34) ag (fun ah=> ?_) fun ah=> ?_;exact bm 2 ag (fun _ _=>a8 (str s) ag) A<|bm 3 ag (fun _ _=>a8 (str s) ag) A<|bm 4 ag (fun _ _=>c8 u9 ag ag) A<|bm 5 ag (fun _ _=>mv) A<|bm 6 ag (fun _ _=>ed ((s.length - r.strip.length:Nat):Int) ag ag<|bp aj aj) A<|bm 7 ag (fun _ _=>ni u9 ag ag aj) A<|bm 8 ag (fun _ _=>fa vo ag) A<|bm 9 ag (fun w' aa=>ld bW ag<|Wk.a7 aa<|(Wk.B Y I).bF 3) A<|bm 10 ag (fun _ _=>ew ag ag) A<|aU 11 ag (bI ag) A<|aU 12 ag (aJ) A<|hn au<|J<|rt<|tr<|ba ag<|⟨by rw [zW aj aj aj,ah,GX]; rfl,E.trans<|Y.trans A⟩
 exact bf 2 ag A<|bf 3 ag A<|bf 4 ag A<|bf 5 ag A<|bf 6 ag A<|bf 7 ag A<|bf 8 ag A<|bf 9 ag A<|bf 10 ag A<|aU 11 ag (bD ag) A<|aU 12 ag (aJ) A<|hn au<|J<|rt<|tr<|ba ag<|⟨by rw [zW aj aj aj,ah,yz]; rfl,E.trans<|Y.trans A⟩
 refine aT<|G<|aH fun V=>ak fun J=>p (fa xL ag)<|p (ld bL ag<|I.bF 0)<|p (bT ag ag)<|nl<|J<|cd ag (fun aN=> ?_) fun aN=> ?_;refine ak fun O=>p mv<|aw (str s)<|e<|cl IS (Oc (dE r.cond).1 a c s ay ap aj av) ag ?_;rintro v50 al ⟨rfl,Z⟩;refine az<|O<|aH fun am=> ?_;have C:(fun w'=>Wk al w') al.drew:=(Md.refl _ _).drew;refine cj (fun w'=>Wk al w') ag wide C<|aU 0 ag (mv) C<|aU 1 ag (mv) C<|Au (t:=52) ag (fun ae=> ?_) fun ae=> ?_;exact bm 2 ag (fun _ _=>a8 (str s) ag) C<|bm 3 ag (fun _ _=>mv) C<|bm 4 ag (fun _ _=>sQ u9 ag ag aj) C<|bm 5 ag (fun _ _=>fa vo ag) C<|bm 6 ag (fun w' aa=>ld bW ag<|Wk.a7 aa<|(Wk.B Z I).bF 3) C<|bm 7 ag (fun _ _=>ew ag ag) C<|aU 8 ag (bI ag) C<|aU 9 ag (aJ) C<|hn au<|am<|rt<|tr<|ba ag<|⟨by rw [zV aj aj aj,ae,GX]; rfl,E.trans<|Z.trans C⟩
 exact bf 2 ag C<|bf 3 ag C<|bf 4 ag C<|bf 5 ag C<|bf 6 ag C<|bf 7 ag C<|aU 8 ag (bD ag) C<|aU 9 ag (aJ) C<|hn au<|am<|rt<|tr<|ba ag<|⟨by rw [zV aj aj aj,ae,yz]; rfl,E.trans<|Z.trans C⟩
 exact aT<|V<|ak fun O=>az<|O<|rt<|ba ag<|⟨by rw [KX aj aj]; rfl,E⟩
theorem FG (r:dd) (u:Value) (s:Tx) (w:World) (ax:r.strip.length≤1048576) (aq:r.add.length≤1048576) (av:r.cond.length≤1048576) (ay:s.length≤1073741824):
 bw aE 111 (bl [.agg (kh (r,u)).toArray,str s]) w (fun v w'=>v=x6 (eO r s)∧Wk w w'):=by
 refine enter func111 ag ntmps111 ag<|ak fun ae=>e<|je ag fun an ac aA ap ao=> ?_;have aG:((r,u):dd×Value).1.strip.length=r.strip.length:=rfl;have aF:((r,u):dd×Value).1.kind=r.kind:=rfl;have aD:((r,u):dd×Value).1.add.length=r.add.length:=rfl;have aa:bX ac.heap an (kh (r,u)):=ao;refine p aJ<|az<|ae<|ak fun ah=>p (dp tp ag (ag) fun j aC=>aa.bF j)<|aw (str s)<|e<|cl S2 (abY r u s ac ax aq av ay) ag ?_;rintro v9 G ⟨rfl,ab⟩;have I:=Wk.B ab aa;have Y:=ap.md.trans ab;refine az<|ah<|aH fun ai=>ak fun al=>p mv<|p (no ag)<|nl<|al<|cb ag (fun Z=> ?_) fun Z=> ?_;have J:iz r s=false :=by simpa using Z
 exact ak fun O=>p aJ<|az<|O<|rt<|tr<|f2 ag ag ag<|⟨by rw [CA J]; rfl,Y⟩
 have J:iz r s=true :=by simpa using Z
 have aB:=(xz J).1;refine aT<|ai<|aH fun O=>ak fun am=>p (fa xL ag)<|p (ld bL ag<|I.bF 0)<|p (bT ag ag)<|nl<|am<|cd ag (fun hk=> ?_) fun hk=> ?_;refine aH fun V=> ?_;have A:(fun w'=>Wk G w') G.drew:=(Md.refl _ _).drew;exact cj (fun w'=>Wk G w') ag wide A<|bQ 0 ag (str s) A<|bQ 1 ag (str s) A<|aU 2 ag (c8 u9 ag ag) A<|aU 3 ag (fa vo ag) A<|bS 4 ag (fun w' E=>ld bW ag<|Wk.a7 E<|I.bF 3) A<|aU 5 ag (c8 u9 ag ag) A<|aU 6 ag (ed ((s.length - r.strip.length:Nat):Int) ag ag<|bp aj aj) A<|aU 7 ag (sQ u9 ag ag aj) A<|aU 8 ag (fa D9 ag) A<|bS 9 ag (fun w' E=>ld bW ag<|Wk.a7 E<|I.bF 4) A<|aU 10 ag (cc ag ag<|by simp only [dM]; omega) A<|aU 11 ag (aJ) A<|aU 12 ag (aJ) A<|hn au<|V<|rt<|tr<|f2 ag ag ag<|⟨by rw [H5 J aj]; rfl,Y.trans A⟩
 refine aT<|O<|aH fun V=> ?_;have C:(fun w'=>Wk G w') G.drew:=(Md.refl _ _).drew;exact cj (fun w'=>Wk G w') ag wide C<|aU 0 ag (fa D9 ag) C<|bS 1 ag (fun w' E=>ld bW ag<|Wk.a7 E<|I.bF 4) C<|bQ 2 ag (str s) C<|aU 3 ag (fa vo ag) C<|bS 4 ag (fun w' E=>ld bW ag<|Wk.a7 E<|I.bF 3) C<|aU 5 ag (c8 u9 ag ag) C<|aU 6 ag (ni u9 ag ag aj) C<|aU 7 ag (cc ag ag<|by simp only [fM]; omega) C<|aU 8 ag (aJ) C<|aU 9 ag (aJ) C<|hn au<|V<|rt<|f2 ag ag ag<|⟨by rw [H4 J aj]; rfl,Y.trans C⟩
end Go.Hb
end
section
namespace Go.Hb
def ei (d:bO):List Value:= [str d.eZ,.int .i64 (d.dQ:Nat),.int .i64 d.fst,.int .i64 d.snd,.int .i64 d.pre]
def gl (l:List bO):List Value:=l.flatMap ei
theorem pw {h:Array Obj} {b e:Nat} {L:List Value} (A:h[b]? =some (.cells L.toArray e (0,0))):bX h b L:=⟨e,A⟩
def Rn (F:aX) (n:Int):Prop :=n= -1∨(0≤n∧n < F.rules.length)
section
variable {F:aX} {xs:List bE} {e:Nat} {f s p:Int}
theorem LU (A:f= -1) (hp:p= -1):fK F xs e f s p= !tJ F xs e 0:=by unfold fK; rw [if_pos A,decide_eq_false (fun h=>h hp)]; rfl
theorem LV (A:f= -1) (hp:p≠ -1):fK F xs e f s p=true :=by unfold fK; rw [if_pos A,decide_eq_true hp]; rfl
theorem Er (A:f≠ -1) (h:pJ F (if s= -1 then f else s)=false):fK F xs e f s p=false :=by unfold fK; rw [if_neg A,if_pos h]
theorem Ep (A:f≠ -1) (h:pJ F (if s= -1 then f else s)=true) (hp:p= -1):fK F xs e f s p=true :=by unfold fK; rw [if_neg A,if_neg (by rw [h]; exact eA),decide_eq_true hp]; rfl
theorem rl (A:f≠ -1) (h:pJ F (if s= -1 then f else s)=true) (hp:p≠ -1):fK F xs e f s p=(mB F f && mB F s && mB F p):=by unfold fK; rw [if_neg A,if_neg (by rw [h]; exact eA),decide_eq_false hp]; rfl
theorem JJ:mB F (-1)=true :=by unfold mB; rw [decide_eq_true rfl]; rfl
theorem uV {k:Nat} {r:dd} (A:F.rules[k]? =some r):mB F k=r.eQ:=by
 unfold mB;rw [decide_eq_false aj,kH,da,A]; rfl
end
theorem M0 (F:aX) (xs:List bE) (e:Int):gV F xs e 0=tJ F xs e 0:=rfl
theorem adF {α β:Type} {g:α→Option β} {l:List α} {i:Nat} (d:α) (h:i < l.length):(l.take<|i+1).filterMap g=(l.take i).filterMap g++(g<|l.getD i d).toList:=by
 rw [fX l i d h,QE];congr 1
structure Rr where
 ar:Option Addr
 cr:Nat
 rn:List Value
 ap:Option Addr
 cp:Nat
section
variable {w w':World} {fp fp':Nat→Prop} {S0 mb tb l:Nat} {K:Rr} {F:aX} {e:Int} {word:Tx} {ps:List Nat}
end
theorem VK {F:aX} {xs:List bE} {e:Nat} {word:Tx} {f s:Int} {p:Nat} (h:fK F xs e f s p=false):nE F xs e word f s p=none:=if_neg<|by rw [h]; exact eA
theorem VJ {F:aX} {xs:List bE} {e:Nat} {word:Tx} {f s:Int} {p:Nat} (h:eO (F.rules.getD p dU) word=none):nE F xs e word f s p=none:=by unfold nE; rw [h]; split <;> rfl
theorem VL {F:aX} {xs:List bE} {e:Nat} {word v:Tx} {f s:Int} {p:Nat} (h:fK F xs e f s p=true) (h1:eO (F.rules.getD p dU) word=some v):nE F xs e word f s p=some ⟨v,e,f,s,p⟩:=by unfold nE; rw [if_pos h,h1]; rfl
theorem Yy (B tb:Nat) (U:gO) (F:aX) (xs:List bE) (ar:Option Addr) (cr:Nat) (rn:List Value) (word:Tx) (en:Nat) (f s pp:Int) (w:World) (a1:gj w B tb U F xs) (aF:eH F xs) (aZ:aR w.heap ar (iQ<|F.rules.zip rn)) (au:rn.length=F.rules.length) (am:Rn F f) (hs:Rn F s) (hp:Rn F pp):
 bw aE 49 (bl [a6 tb,.slice ar F.rules.length cr,.agg (ei ⟨word,en,f,s,pp⟩).toArray]) w (fun v w'=>v= .bool (fK F xs en f s pp)∧Wk w w'):=by
 refine enter func49 ag ntmps49 ag<|ak fun aP=>e<|je ag fun aS ax A aC aY=> ?_;have bb:=aC.size;have ac:=a1.wk aC.md;have A:bX ax.heap aS [str word,ay en,.int .i64 f,.int .i64 s,.int .i64 pp]:=aY;have E:Wk w ax:=aC.md;have V:=aZ.wk aC.md;refine az<|aP<|aH fun aK=>aW<|ak fun aL=>p (fa nJ ag)<|p (ld bL ag<|A.bF 2)<|p (lt ag ag)<|p mv<|gs (t:=11) ag (fun aG=> ?_) fun aG=> ?_;refine aV ag (fa rk ag)<|aV ag (ld bL ag<|A.bF 4)<|aV ag (lt ag ag)<|p (bI ag)<|az<|aL<|cd ag (fun aU=> ?_) fun aU=> ?_;refine ak fun an=>p mv<|p (fa pN ag)<|p (ld bL ag<|A.bF 1)<|e<|cl CY (xV B tb U F xs (en:Nat) 0 ax ac aF) ag ?_;rintro bc bf ⟨rfl,a0⟩;refine p (no ag)<|az<|an<|rt<|br<|tr<|ba ag ?_;have C:fK F xs en f s pp= !gV F xs en 0:=by rw [LU (by unfold Rn at am; omega) (by unfold Rn at hp; omega),M0]
 exact ⟨Eq.trans (b:=cy<|!gV F xs en 0) ag (congrArg cy C.symm),E.trans a0⟩;refine ak fun an=>p (fa nJ ag)<|p (ld bL ag<|A.bF 2)<|p (lt ag ag)<|az<|an<|cd ag (fun a2=> ?_) fun h=>absurd aG h;refine ak fun ao=>az<|ao<|rt<|br<|tr<|ba ag ?_;have C:fK F xs en f s pp=true :=by exact LV (by unfold Rn at am; omega) aj
 exact ⟨Eq.trans (b:=cy<|true) ag (congrArg cy C.symm),E⟩;refine aQ ag<|aQ ag<|aQ ag<|p (bD ag)<|az<|aL<|cf ag<|ak fun an=>p (fa nJ ag)<|p (ld bL ag<|A.bF 2)<|p (lt ag ag)<|az<|an<|cd ag (fun h=>absurd h aG) fun a2=> ?_;refine aH fun ao=>ak fun aN=>p (fa nK ag)<|p (ld bL ag<|A.bF 3)<|p (lt ag ag)<|p mv<|gs (t:=29) ag (fun aI=> ?_) fun aI=> ?_;refine aV ag mv<|aV ag (fa nJ ag)<|aV ag (ld bL ag<|A.bF 2)<|eg ag ag ag<|cl Ji (Kp B tb U F xs f ax ac aF) ag ?_;rintro v33 bg ⟨rfl,aA⟩;have ac:=ac.wk aA;have A:=Wk.B aA A;have E:=E.trans aA;have V:=V.wk aA;refine aV ag (no ag)<|p (bI ag)<|az<|aN<|cb ag (fun G=> ?_) fun G=> ?_;refine aT<|ao<|ct (congrArg cy G)<|ak fun ab=>az<|ab<|rt<|br<|tr<|ba ag ?_;have C:fK F xs en f s pp=false :=by exact Er aj<|by rw [if_pos (show s= -1 by unfold Rn at hs; omega)]; simpa using G
 exact ⟨Eq.trans (b:=cy<|false) ag (congrArg cy C.symm),E⟩;refine rg ag<|p (fa nK ag)<|p (ld bL ag<|A.bF 3)<|p (ge ag ag)<|p mv<|gs (t:=39) ag (fun h=>absurd h aj) fun a4=>aQ ag<|aQ ag<|aQ ag<|aQ ag<|aQ ag<|p (bD ag)<|p aJ<|nl<|ao<|cf ag<|ak fun ab=>p (fa rk ag)<|p (ld bL ag<|A.bF 4)<|p (lt ag ag)<|p aJ ?_;refine nl<|ab<|cd ag (fun bS=> ?_) fun bS=> ?_;refine ak fun O=>az<|O<|rt<|br<|tr<|ba ag ?_;have C:fK F xs en f s pp=true :=by exact Ep aj (by rw [if_pos (show s= -1 by unfold Rn at hs; omega)]; simpa using G)<|by unfold Rn at hp; omega
 exact ⟨Eq.trans (b:=cy<|true) ag (congrArg cy C.symm),E⟩;obtain ⟨J,rfl⟩:∃ m:Nat,pp=(m:Int):=⟨(pp).toNat,by unfold Rn at hp; omega⟩
 obtain ⟨ai,Z⟩:∃ r,F.rules[J]? =some r:=⟨_,cz<|by unfold Rn at hp; omega⟩
 have aw:(F.rules.zip rn)[J]? =some (ai,rn[J]'(by rw [au]; exact (fS.1 Z).1)):=j9.2 ⟨Z,cz _⟩;have aq:=uV Z;have a8:=(fS.1 Z).1;obtain ⟨I,rfl⟩:∃ m:Nat,f=(m:Int):=⟨(f).toNat,by unfold Rn at am; omega⟩
 obtain ⟨rf,Y⟩:∃ r,F.rules[I]? =some r:=⟨_,cz<|by unfold Rn at am; omega⟩
 have av:(F.rules.zip rn)[I]? =some (rf,rn[I]'(by rw [au]; exact (fS.1 Y).1)):=j9.2 ⟨Y,cz _⟩;have ap:=uV Y;have a7:=(fS.1 Y).1;have al:=V;refine aT<|bn<|aK<|ak fun O=>p mv<|p (fa rk ag)<|p (ld bL ag<|A.bF 4)<|p (bh nH ag ag aj<|aR.ok (V)<|oV aw)<|p (fa xD ag)<|p (ld nC ag<|fO (f:=fk) (m:=7) (fun _=>rfl) al aw 2 aM)<|p mv<|gb (t:=56) ag (fun ah=> ?_) fun ah=> ?_;refine aV ag mv<|aV ag (fa nJ ag)<|aV ag (ld bL ag<|A.bF 2)<|aV ag (bh nH ag ag aj<|aR.ok (V)<|oV av)<|aV ag (fa xD ag)<|aV ag (ld nC ag<|fO (f:=fk) (m:=7) (fun _=>rfl) al av 2 aM)<|p (bI ag)<|p mv<|gb (t:=64) ag (fun ae=> ?_) fun ae=> ?_;refine aV ag (fa nK ag)<|aV ag (ld bL ag<|A.bF 3)<|aV ag (lt ag ag)<|aV ag mv<|gs (t:=68) ag (fun a5=> ?_) fun h=>absurd aI h;refine aQ ag<|aQ ag<|aQ ag<|aQ ag<|aQ ag<|aQ ag<|aV ag (bI ag)<|p (bI ag)<|az<|O<|rt<|ba ag ?_;have C:fK F xs en ((I:Nat):Int) s ((J:Nat):Int)=true :=by rw [rl aj (by rw [if_pos (show s= -1 by unfold Rn at hs; omega)]; simpa using G) aj,ap,aq,show s= -1 by (unfold Rn at hs; omega),JJ,(show rf.eQ=true from ae),(show ai.eQ=true from ah)]; rfl
 exact ⟨Eq.trans (b:=cy<|true) ag (congrArg cy C.symm),E⟩;refine aQ ag<|aQ ag<|aQ ag<|aQ ag<|eC ag<|eC ag<|eC ag<|eC ag<|eC ag<|eC ag<|aQ ag<|p (bD ag)<|az<|O<|rt<|ba ag ?_;have C:fK F xs en ((I:Nat):Int) s ((J:Nat):Int)=false :=by rw [rl aj (by rw [if_pos (show s= -1 by unfold Rn at hs; omega)]; simpa using G) aj,ap,(show rf.eQ=false from ae)]; rfl
 exact ⟨Eq.trans (b:=cy<|false) ag (congrArg cy C.symm),E⟩;refine aQ ag<|aQ ag<|aQ ag<|aQ ag<|aQ ag<|aQ ag<|p (bD ag)<|p mv<|aQ ag<|aQ ag<|aQ ag<|aQ ag<|eC ag<|eC ag<|eC ag<|eC ag<|eC ag<|eC ag<|aQ ag<|p (bD ag)<|az<|O<|rt<|ba ag ?_;have C:fK F xs en ((I:Nat):Int) s ((J:Nat):Int)=false :=by rw [rl aj (by rw [if_pos (show s= -1 by unfold Rn at hs; omega)]; simpa using G) aj,aq,(show ai.eQ=false from ah),yz]
 exact ⟨Eq.trans (b:=cy<|false) ag (congrArg cy C.symm),E⟩;refine aQ ag<|aQ ag<|aQ ag<|aQ ag<|aQ ag<|p (bD ag)<|p aJ<|nl<|aN<|cf ag<|rg ag<|p (fa nK ag)<|p (ld bL ag<|A.bF 3)<|p (ge ag ag)<|p mv<|gs (t:=39) ag (fun a4=> ?_) fun h=>absurd aj h;refine aV ag mv<|aV ag (fa nK ag)<|aV ag (ld bL ag<|A.bF 3)<|eg ag ag ag<|cl Ji (Kp B tb U F xs s ax ac aF) ag ?_;rintro bd bi ⟨rfl,aB⟩;have ac:=ac.wk aB;have A:=Wk.B aB A;have E:=E.trans aB;have V:=V.wk aB;refine aV ag (no ag)<|p (bI ag)<|az<|ao<|cb ag (fun G=> ?_) fun G=> ?_;refine ak fun ab=>az<|ab<|rt<|br<|tr<|ba ag ?_;have C:fK F xs en f s pp=false :=by exact Er aj<|by rw [if_neg (show ¬s= -1 by omega)]; simpa using G
 exact ⟨Eq.trans (b:=cy<|false) ag (congrArg cy C.symm),E⟩;refine ak fun ab=>p (fa rk ag)<|p (ld bL ag<|A.bF 4)<|p (lt ag ag)<|az<|ab<|cd ag (fun bS=> ?_) fun bS=> ?_;refine ak fun O=>az<|O<|rt<|br<|tr<|ba ag ?_;have C:fK F xs en f s pp=true :=by exact Ep aj (by rw [if_neg (show ¬s= -1 by omega)]; simpa using G)<|by unfold Rn at hp; omega
 exact ⟨Eq.trans (b:=cy<|true) ag (congrArg cy C.symm),E⟩;obtain ⟨J,rfl⟩:∃ m:Nat,pp=(m:Int):=⟨(pp).toNat,by unfold Rn at hp; omega⟩
 obtain ⟨ai,Z⟩:∃ r,F.rules[J]? =some r:=⟨_,cz<|by unfold Rn at hp; omega⟩
 have aw:(F.rules.zip rn)[J]? =some (ai,rn[J]'(by rw [au]; exact (fS.1 Z).1)):=j9.2 ⟨Z,cz _⟩;have aq:=uV Z;have a8:=(fS.1 Z).1;obtain ⟨I,rfl⟩:∃ m:Nat,f=(m:Int):=⟨(f).toNat,by unfold Rn at am; omega⟩
 obtain ⟨rf,Y⟩:∃ r,F.rules[I]? =some r:=⟨_,cz<|by unfold Rn at am; omega⟩
 have av:(F.rules.zip rn)[I]? =some (rf,rn[I]'(by rw [au]; exact (fS.1 Y).1)):=j9.2 ⟨Y,cz _⟩;have ap:=uV Y;have a7:=(fS.1 Y).1;obtain ⟨aa,rfl⟩:∃ m:Nat,s=(m:Int):=⟨(s).toNat,by unfold Rn at hs; omega⟩
 obtain ⟨rs,aD⟩:∃ r,F.rules[aa]? =some r:=⟨_,cz<|by unfold Rn at hs; omega⟩
 have aO:(F.rules.zip rn)[aa]? =some (rs,rn[aa]'(by rw [au]; exact (fS.1 aD).1)):=j9.2 ⟨aD,cz _⟩;have a3:=uV aD;have a9:=(fS.1 aD).1;have al:=V;refine aT<|bn<|aK<|ak fun O=>p mv<|p (fa rk ag)<|p (ld bL ag<|A.bF 4)<|p (bh nH ag ag aj<|aR.ok (V)<|oV aw)<|p (fa xD ag)<|p (ld nC ag<|fO (f:=fk) (m:=7) (fun _=>rfl) al aw 2 aM)<|p mv<|gb (t:=56) ag (fun ah=> ?_) fun ah=> ?_;refine aV ag mv<|aV ag (fa nJ ag)<|aV ag (ld bL ag<|A.bF 2)<|aV ag (bh nH ag ag aj<|aR.ok (V)<|oV av)<|aV ag (fa xD ag)<|aV ag (ld nC ag<|fO (f:=fk) (m:=7) (fun _=>rfl) al av 2 aM)<|p (bI ag)<|p mv<|gb (t:=64) ag (fun ae=> ?_) fun ae=> ?_;refine aV ag (fa nK ag)<|aV ag (ld bL ag<|A.bF 3)<|aV ag (lt ag ag)<|aV ag mv<|gs (t:=68) ag (fun h=>absurd h aI) fun a5=>aV ag mv<|aV ag (fa nK ag)<|aV ag (ld bL ag<|A.bF 3)<|aV ag (bh nH ag ag aj<|aR.ok (V)<|oV aO)<|aV ag (fa xD ag)<|aV ag (ld nC ag<|fO (f:=fk) (m:=7) (fun _=>rfl) al aO 2 aM)<|aV ag (bD ag)<|p (bI ag)<|az<|O<|rt<|ba ag ?_;have C:fK F xs en ((I:Nat):Int) ((aa:Nat):Int) ((J:Nat):Int)=rs.eQ:=by rw [rl aj (by rw [if_neg (show ¬((aa:Nat):Int)= -1 by omega)]; simpa using G) aj,ap,a3,aq,(show rf.eQ=true from ae),(show ai.eQ=true from ah),Bool.true_and,GX]
 exact ⟨Eq.trans (b:=cy<|rs.eQ) ag (congrArg cy C.symm),E⟩;refine aQ ag<|aQ ag<|aQ ag<|aQ ag<|eC ag<|eC ag<|eC ag<|eC ag<|eC ag<|eC ag<|aQ ag<|p (bD ag)<|az<|O<|rt<|ba ag ?_;have C:fK F xs en ((I:Nat):Int) ((aa:Nat):Int) ((J:Nat):Int)=false :=by rw [rl aj (by rw [if_neg (show ¬((aa:Nat):Int)= -1 by omega)]; simpa using G) aj,ap,(show rf.eQ=false from ae)]; rfl
 exact ⟨Eq.trans (b:=cy<|false) ag (congrArg cy C.symm),E⟩;refine aQ ag<|aQ ag<|aQ ag<|aQ ag<|aQ ag<|aQ ag<|p (bD ag)<|p mv<|aQ ag<|aQ ag<|aQ ag<|aQ ag<|eC ag<|eC ag<|eC ag<|eC ag<|eC ag<|eC ag<|aQ ag<|p (bD ag)<|az<|O<|rt<|ba ag ?_;have C:fK F xs en ((I:Nat):Int) ((aa:Nat):Int) ((J:Nat):Int)=false :=by rw [rl aj (by rw [if_neg (show ¬((aa:Nat):Int)= -1 by omega)]; simpa using G) aj,aq,(show ai.eQ=false from ah),yz]
 exact ⟨Eq.trans (b:=cy<|false) ag (congrArg cy C.symm),E⟩
end Go.Hb
end
namespace Go.Hb
theorem oS {F:aX} {xs:List bE} (h:eH F xs) {k:Nat} {r:dd} (A:F.rules[k]? =some r):r.strip.length≤1048576∧r.add.length≤1048576∧r.cond.length≤1048576∧r.add.length≤32:=by
 have :=(h.jG A).2.2; unfold kt at this; omega
theorem Lm {α β:Type} {g:α→List β} {l:List α} {i:Nat} (d:α) (h:i < l.length):(l.take<|i+1).flatMap g=(l.take i).flatMap g++g (l.getD i d):=by
 rw [fX l i d h,o4,rS]
noncomputable def q7 (F:aX) (xs:List bE) (n:Int):List bO:=if 0≤n∧n < xs.length then kg F xs n.toNat else []
theorem zJ {F:aX} {xs:List bE} {k:Nat} (h:k < xs.length):q7 F xs k=kg F xs k:=by unfold q7; rw [if_pos aj,kH]
theorem Kc {F:aX} {xs:List bE} {n:Int} (h:¬(0≤n∧n < xs.length)):q7 F xs n= []:=if_neg h
noncomputable def kN (F:aX) (xs:List bE) (k:Nat):List bO:=(List.range k).flatMap<|kg F xs
theorem RK (F:aX) (xs:List bE) (k:Nat):kN F xs (k+1)=kN F xs k++kg F xs k:=by unfold kN; rw [List.range_succ,o4,rS]
def Ck (W:World) (b:Nat) (A:Option Addr):Prop :=W.heap[b]? =some (.cells [.pointer A].toArray 24 (0,0))
def rB (L:List bO) (most:Int):List bO:=if most < 1 then [] else L.take most.toNat
theorem adC {L:List bO} {most:Int} (h:most < 1):rB L most= []:=if_pos h
end Go.Hb
section
namespace Go.Hb.uC
def yo (dJ:Bool) (q:Option Tx) (most limit:Int) (acc:List bO) (v:Value):List Value:= [.bool dJ,.bool q.isSome,str (q.getD []),.int .i64 most,.int .i64 limit,.int .i64 (acc.length:Nat),.int .i64 (jN acc:Nat),v]
def Bd (acc:List bO):Prop :=acc.length≤jN acc∧jN acc≤acc.length*1000∧acc.length≤2000000
theorem Bd.nil:Bd []:=⟨iK _,iK _,iK _⟩
def Sd (d:bO):Prop :=1≤d.eZ.length∧d.eZ.length≤1000
def sJ (q:Option Tx) (d:bO):Bool:=match q with
 | none=>true
 | some s=>decide (d.eZ=s)
def ju (q:Option Tx) (most limit:Int) (a L:List bO):List bO:=oM most limit a<|L.filter<|sJ q
def sH (q:Option Tx) (most limit:Int) (a:List bO) (d:bO):List bO:=oM most limit a<|[d].filter<|sJ q
section
variable {q:Option Tx} {most limit:Int} {a L M:List bO} {d:bO}
theorem xR:ju q most limit a (L++M)=ju q most limit (ju q most limit a L) M:=by unfold ju; rw [List.filter_append,ZJ]
theorem MA (h:kA most limit a=true) (L:List bO):ju q most limit a L=a:=Ax h _
theorem M6 (h:sJ q d=true):sH q most limit a d=tL most limit a d:=by unfold sH; rw [o3,if_pos h]; rfl
theorem aay (h:sJ q d=false):sH q most limit a d=a:=by unfold sH; rw [o3,if_neg (by rw [h]; exact eA)]; rfl
theorem aax (h:kA most limit a=true):sH q most limit a d=a:=Ax h _
end
theorem aaz {most limit:Int} {acc:List bO} {d:bO} (h:kA most limit acc=true):tL most limit acc d=acc:=if_pos h
theorem M7 {most limit:Int} {acc:List bO} {d:bO} (h:kA most limit acc=false):tL most limit acc d=acc++ [d]:=if_neg<|by rw [h]; exact eA
theorem X7 {most limit:Int} {acc:List bO} (h:kA most limit acc=false):(acc.length:Int) < most∧(jN acc:Int)≤limit:=by
 unfold kA at h; have :=of_decide_eq_false h; omega
theorem Ii (acc:List bO) (d:bO):jN (acc++ [d])=jN acc+d.eZ.length:=by rw [Ig,Ih]
theorem Bd.met {most limit:Int} {acc:List bO} {d:bO} (h:Bd acc) (hm:most≤2000∨limit≤1048576) (hd:Sd d):Bd (tL most limit acc d):=by
 by_cases A:kA most limit acc=true
 · rw [aaz A]; exact h
 · rw [M7 (by simpa using A)];have :=X7<|by simpa using A
   unfold Bd Sd at*;rw [Ii,bP,fE];omega
structure jn (w:World) (fp:Nat→Prop) (S0 xb:Nat) (dJ:Bool) (q:Option Tx) (most limit:Int) (acc:List bO):Prop where
 lo:S0≤xb
 ex:∃ v,w.heap[xb]? =some (.cells (yo dJ q most limit acc v).toArray 140 (0,0))∧(if dJ=true then bB w S0 74 5 v acc.length (gl acc) else v= .slice none 0 0)∧∀ k,fp k↔(k=xb∨v.ownBlock=some k)
 bd:Bd acc
structure Tw (fp:Nat→Prop) (w:World) (fp':Nat→Prop) (w':World):Prop where
 md:Md fp w w'
 sub:∀ k,fp' k→fp k∨w.heap.size≤k
section
variable {w w' w'':World} {fp fp' fp'':Nat→Prop} {S0 xb:Nat} {dJ:Bool} {q:Option Tx} {most limit:Int} {acc:List bO}
theorem Tw.refl (fp:Nat→Prop) (w:World):Tw fp w fp w:=⟨Md.refl _ _,fun _ h=> .inl h⟩
theorem Tw.trans (h:Tw fp w fp' w') (A:Tw fp' w' fp'' w''):Tw fp w fp'' w'':=
 ⟨h.md.trans' A.md fun k hk C=>(h.sub k C).elim id (fun h2=>by omega),fun k hk=>(A.sub k hk).elim (h.sub k) fun h2=> .inr<|fu h.md.size h2⟩
theorem Tw.wk (h:Wk w w'):Tw fp w fp w':=⟨h.mono fun _ _ h=>h.elim,fun _ h=> .inl h⟩
theorem jn.wk (h:jn w fp S0 xb dJ q most limit acc) (hm:Wk w w'):jn w' fp S0 xb dJ q most limit acc:=by
 obtain ⟨v,h1,h2,h3⟩:=h.ex;refine ⟨h.lo,⟨v,Wk.aW hm h1,?_,h3⟩,h.bd⟩;cases dJ with
 | true =>rw [if_pos rfl] at h2 ⊢; exact bc h2 hm
 | false =>exact h2
theorem jn.tf (h:jn w fp S0 xb dJ q most limit acc):TF w [142,76] fp:=by
 obtain ⟨v,h1,h2,h3⟩:=h.ex;intro k hk;rcases (h3 k).1 hk with rfl | hk
 · rw [dS h1]; decide
 · cases dJ with
   | true =>rw [if_pos rfl] at h2; rw [Gq h2 hk]; decide
   | false =>rw [if_neg aM] at h2; rw [h2] at hk; cases hk
theorem jn.lt (h:jn w fp S0 xb dJ q most limit acc):∀ k,fp k→k < w.heap.size:=by
 obtain ⟨v,h1,h2,h3⟩:=h.ex;intro k hk;rcases (h3 k).1 hk with rfl | hk
 · exact (dT.1 h1).1
 · cases dJ with
   | true =>rw [if_pos rfl] at h2; exact (dK h2 hk).2
   | false =>rw [if_neg aM] at h2; rw [h2] at hk; cases hk
theorem jn.M4 (h:jn w fp S0 xb dJ q most limit acc) {b:Nat} (hm:Md (fun q=>q=b) w w') (A:¬fp b):jn w' fp S0 xb dJ q most limit acc:=by
 obtain ⟨v,h1,h2,h3⟩:=h.ex;refine ⟨h.lo,⟨v,hm.aW h1 (fun h4=>A<|(h3 b).2<|.inl h4.symm),?_,h3⟩,h.bd⟩;cases dJ with
 | true =>rw [if_pos rfl] at h2 ⊢; exact dz h2 hm fun k hk h4=>A<|by subst h4; exact (h3 _).2<|.inr hk
 | false =>exact h2
theorem jn.a7 (h:jn w fp S0 xb dJ q most limit acc):Hb.a7 w.heap xb 0=some (.bool dJ)∧Hb.a7 w.heap xb 1=some (.bool q.isSome)∧Hb.a7 w.heap xb 2=some (str<|q.getD [])∧Hb.a7 w.heap xb 3=some (.int .i64 most)∧Hb.a7 w.heap xb 4=some (.int .i64 limit)∧Hb.a7 w.heap xb 5=some (.int .i64 (acc.length:Nat))∧Hb.a7 w.heap xb 6=some (.int .i64 (jN acc:Nat)):=by
 obtain ⟨v,h1,_⟩:=h.ex;exact ⟨(bo h1).trans ag,(bo h1).trans ag,(bo h1).trans ag,(bo h1).trans ag,(bo h1).trans ag,(bo h1).trans ag,(bo h1).trans ag⟩
theorem xQ {B tb fb:Nat} {V:eM} {ve:Value} {F:aX} {xs:List bE} (A:gN w B tb fb V ve F xs) (h:jn w fp S0 xb dJ q most limit acc) (hm:Md fp w w'):gN w' B tb fb V ve F xs:=
 ⟨hm.jd h.tf A.cells aM,A.fl.md hm h.tf aM,A.en.md hm h.tf aM⟩
theorem YB {B tb fb:Nat} {V:eM} {ve:Value} {F:aX} {xs:List bE} (A:gN w B tb fb V ve F xs) {b:Nat} {cs:Array Value} {z:Nat×Nat} (C:w.heap[b]? =some (.cells cs 74 z)) (hm:Md (fun q=>q=b) w w'):gN w' B tb fb V ve F xs:=
 ⟨hm.jd (TF.eq (L:= [76]) (dS C) aM) A.cells aM,A.fl.md hm (TF.eq (L:= [76]) (dS C) aM) aM,A.en.md hm (TF.eq (L:= [76]) (dS C) aM) aM⟩
end
theorem FH (B tb fb:Nat) (V:eM) (ve:Value) (F:aX) (xs:List bE) (n:Int) (w:World) (G:gN w B tb fb V ve F xs) (aa:eH F xs) (hn:Rn F n):
 bw aE 226 (bl [a6 tb,.int .i64 n]) w (fun v w'=>v= .bool (mB F n)∧Wk w w'):=by
 refine enter func226 ag ntmps226 ag<|ak fun J=>az<|J<|ak fun C=>p mv<|p (bT ag ag)<|p mv<|gs (t:=7) ag (fun bQ=> ?_) fun bQ=> ?_;exact aQ ag<|aQ ag<|aQ ag<|aQ ag<|aQ ag<|aQ ag<|aQ ag<|aQ ag<|aQ ag<|aQ ag<|aQ ag<|p (bI ag)<|az<|C<|rt<|ba ag<|⟨by rw [bQ,JJ]; rfl,Md.refl _ _⟩
 obtain ⟨k,rfl⟩:∃ k:Nat,n=(k:Int):=⟨n.toNat,by unfold Rn at hn; omega⟩
 obtain ⟨r,A⟩:∃ r,F.rules[k]? =some r:=⟨_,cz<|by unfold Rn at hn; omega⟩
 obtain ⟨Y,Z,a,c,O,E,I,ab⟩:=G.jG A;have ac:=(fS.1 A).1;exact aV ag mv<|aV ag (nc ag)<|aV ag (fa oI ag)<|aV ag (ld jc ag<|(bo G.cells).trans ag)<|aV ag (nc ag)<|aV ag (fa kq ag)<|aV ag (ld kM ag<|O)<|aV ag mv<|aV ag (bh pK ag ag aj<|aR.ok (E)<|pQ I)<|aV ag (fa XS ag)<|aV ag (ld nC ag<|fO (f:=kh) (m:=8) (fun _=>rfl) E I 2 aM)<|p (bD ag)<|az<|C<|rt<|ba ag<|⟨by rw [uV A]; rfl,Md.refl _ _⟩
theorem N7 (B tb fb:Nat) (V:eM) (ve:Value) (F:aX) (xs:List bE) (word:Tx) (en:Nat) (f s pp:Int) (w:World) (Z:gN w B tb fb V ve F xs) (Y:eH F xs) (aY:Rn F f) (hs:Rn F s) (hp:Rn F pp):
 bw aE 179 (bl [a6 tb,.agg (ei ⟨word,en,f,s,pp⟩).toArray]) w (fun v w'=>v= .bool (fK F xs en f s pp)∧Wk w w'):=by
 refine enter func179 ag ntmps179 ag<|ak fun aG=>e<|je ag fun ao ax E aq aR=> ?_;have a2:=aq.size;have aU:=Z.wk aq.md;have E:bX ax.heap ao [str word,ay en,.int .i64 f,.int .i64 s,.int .i64 pp]:=aR;have ah:Wk w ax:=aq.md;refine az<|aG<|aH fun aL=>ak fun aM=>p (fa Ed ag)<|p (ld bL ag<|E.bF 2)<|p (bT ag ag)<|nl<|aM<|cd ag (fun I=> ?_) fun I=> ?_;refine ak fun am=>p mv<|p (fa XV ag)<|p (ld bL ag<|E.bF 1)<|e<|cl I8 (N8 B tb fb V ve F xs (en:Nat) 0 ax aU Y) ag ?_;rintro v17 a7 ⟨rfl,ap⟩;have E:=Wk.B ap E;refine az<|am<|ak fun J=>p (fa vp ag)<|p (ld bL ag<|E.bF 4)<|p (dw ag ag)<|p mv<|gs (t:=21) ag (fun bS=> ?_) fun bS=> ?_;refine aQ ag<|aQ ag<|p (bI ag)<|az<|J<|rt<|tr<|ba ag ?_;have C:fK F xs en f s pp=true :=LV I bS;exact ⟨Eq.trans (b:=cy true) ag (congrArg cy C.symm),ah.trans ap⟩;refine aV ag mv<|aV ag (no ag)<|p (bD ag)<|az<|J<|rt<|tr<|ba ag ?_;have C:fK F xs en f s pp= !gV F xs en 0:=by rw [LU I (jT.1 bS),M0]
 exact ⟨Eq.trans (b:=cy<|!gV F xs en 0) ag (congrArg cy C.symm),ah.trans ap⟩;refine aT<|aL<|ak fun am=>p (fa Ed ag)<|p (ld bL ag<|E.bF 2)<|p aJ<|nl<|am ?_;refine ez (fun aF ai=> ∃ (ae:Int),(ae=if s= -1 then f else s)∧(Wk w ai)∧(bX ai.heap ao [str word,ay en,.int .i64 f,.int .i64 s,.int .i64 pp])∧(Sl aF [(0,a6 tb),(3,a6 ao),(6,.int .i64 ae)])) ?_ ?_;refine ak fun J=>p (fa Ee ag)<|p (ld bL ag<|E.bF 3)<|p (dw ag ag)<|nl<|J<|cd ag (fun ac=> ?_) fun ac=> ?_;exact rg ag<|p (fa Ee ag)<|p (ld bL ag<|E.bF 3)<|p aJ<|nl<|tn<|⟨s,(by rw [if_neg ac]),ah,E,ag⟩
 exact aT<|tn<|⟨f,(by rw [if_pos (jT.1 ac)]),ah,E,ag⟩
 rintro aF ai ⟨ae,aa,aD,aW,ac⟩;refine bH ac<|ak fun J=>aw (a6 tb)<|aw (.int .i64 ae)<|e<|cl Tk (abZ B tb fb V ve F xs ae ai (Z.wk aD) Y) ag ?_;rintro a3 aZ ⟨rfl,aA⟩;have G:=Wk.B aA aW;have A:=aD.trans aA;refine az<|J<|aH fun aN=>ak fun aO=>p mv<|p (no ag)<|nl<|aO<|cb ag (fun O=> ?_) fun O=> ?_;refine ak fun an=>az<|an<|rt<|tr<|ba ag ?_;have C:fK F xs en f s pp=false :=Er I<|by rw [← aa]; simpa using O
 exact ⟨Eq.trans (b:=cy false) ag (congrArg cy C.symm),A⟩;refine aT<|aN<|aH fun an=>ak fun aP=>p (fa vp ag)<|p (ld bL ag<|G.bF 4)<|p (bT ag ag)<|nl<|aP<|cd ag (fun ab=> ?_) fun ab=> ?_;refine ak fun aj=>az<|aj<|rt<|tr<|ba ag ?_;have C:fK F xs en f s pp=true :=Ep I (by rw [← aa]; simpa using O) ab;exact ⟨Eq.trans (b:=cy true) ag (congrArg cy C.symm),A⟩;refine aT<|an<|ak fun aj=>aw (a6 tb)<|p (fa Ed ag)<|p (ld bL ag<|G.bF 2)<|e<|cl CX (FH B tb fb V ve F xs f aZ (Z.wk A) Y aY) ag ?_;rintro a4 a0 ⟨rfl,aB⟩;have G:=Wk.B aB G;have A:=A.trans aB;refine az<|aj<|ak fun aI=>aw (a6 tb)<|p (fa Ee ag)<|p (ld bL ag<|G.bF 3)<|e<|cl CX (FH B tb fb V ve F xs s a0 (Z.wk A) Y hs) ag ?_;rintro a5 a1 ⟨rfl,aC⟩;have G:=Wk.B aC G;have A:=A.trans aC;refine az<|aI<|ak fun aK=>aw (a6 tb)<|p (fa vp ag)<|p (ld bL ag<|G.bF 4)<|e<|cl CX (FH B tb fb V ve F xs pp a1 (Z.wk A) Y hp) ag ?_;rintro v51 a8 ⟨rfl,aS⟩;have A:=A.trans aS;refine az<|aK<|ak fun al=>p mv<|p mv<|gb (t:=53) ag (fun au=> ?_) fun au=> ?_;refine aV ag mv<|p (bI ag)<|p mv<|gb (t:=56) ag (fun av=> ?_) fun av=> ?_;refine aV ag mv<|p (bI ag)<|az<|al<|rt<|ba ag ?_;have C:fK F xs en f s pp=mB F pp:=by rw [rl I (by rw [← aa]; simpa using O) ab,au,(show mB F s=true by simpa using av)]; simp
 exact ⟨Eq.trans (b:=cy<|mB F pp) ag (congrArg cy C.symm),A⟩;refine aQ ag<|p (bD ag)<|az<|al<|rt<|ba ag ?_;have C:fK F xs en f s pp=false :=by rw [rl I (by rw [← aa]; simpa using O) ab,(show mB F s=false by simpa using av)]; simp
 exact ⟨Eq.trans (b:=cy false) ag (congrArg cy C.symm),A⟩;refine aQ ag<|p (bD ag)<|p mv<|aQ ag<|p (bD ag)<|az<|al<|rt<|ba ag ?_;have C:fK F xs en f s pp=false :=by rw [rl I (by rw [← aa]; simpa using O) ab,au]; rfl
 exact ⟨Eq.trans (b:=cy false) ag (congrArg cy C.symm),A⟩
theorem X8 (S0 xb:Nat) (dJ:Bool) (q:Option Tx) (most limit:Int) (acc:List bO) (fp:Nat→Prop) (w:World) (Y:jn w fp S0 xb dJ q most limit acc):
 bw aE 227 (bl [a6 xb]) w (fun v w'=>v= .bool (kA most limit acc)∧Wk w w'):=by
 obtain ⟨Z,c1,c2,c3,J,O,V⟩:=Y.a7;refine enter func227 ag ntmps227 ag<|ak fun I=>az<|I<|aH fun G=> ?_;have A:(fun w'=>Wk w w') w.drew:=(Md.refl _ _).drew;refine cj (fun w'=>Wk w w') ag wide A<|bQ 0 ag (a6 xb) A<|aU 1 ag (nc ag) A<|aU 2 ag (fa vd ag) A<|bS 3 ag (fun w' C=>ld bL ag<|Wk.a7 C<|O) A<|bQ 4 ag (a6 xb) A<|aU 5 ag (nc ag) A<|aU 6 ag (fa Ac ag) A<|bS 7 ag (fun w' C=>ld bL ag<|Wk.a7 C<|c3) A<|aU 8 ag (ge ag ag) A<|aU 9 ag (mv) A<|iP (t:=12) ag (fun hm=> ?_) fun hm=> ?_;refine bf 10 ag A<|bf 11 ag A<|bf 12 ag A<|bf 13 ag A<|bf 14 ag A<|bf 15 ag A<|bf 16 ag A<|bf 17 ag A<|bf 18 ag A<|aU 19 ag (bI ag) A<|aU 20 ag (aJ) A<|hn au<|G<|rt<|ba ag ?_;have E:kA most limit acc=true :=decide_eq_true<|Or.inl hm;exact ⟨Eq.trans (b:=cy true) ag (congrArg cy E.symm),A⟩;refine bm 10 ag (fun _ _=>a8 (a6 xb) ag) A<|bm 11 ag (fun _ _=>nc ag) A<|bm 12 ag (fun _ _=>fa vf ag) A<|bm 13 ag (fun w' C=>ld bL ag<|Wk.a7 C<|V) A<|bm 14 ag (fun _ _=>a8 (a6 xb) ag) A<|bm 15 ag (fun _ _=>nc ag) A<|bm 16 ag (fun _ _=>fa Ad ag) A<|bm 17 ag (fun w' C=>ld bL ag<|Wk.a7 C<|J) A<|bm 18 ag (fun _ _=>gt ag ag) A<|aU 19 ag (bD ag) A<|aU 20 ag (aJ) A<|hn au<|G<|rt<|ba ag ?_;have E:kA most limit acc=decide ((jN acc:Int) > limit):=by unfold kA; rw [decide_eq_decide]; omega
 exact ⟨Eq.trans (b:=cy<|decide ((jN acc:Int) > limit)) ag (congrArg cy E.symm),A⟩
theorem M8 (S0 xb:Nat) (dJ:Bool) (q:Option Tx) (most limit:Int) (acc:List bO) (fp:Nat→Prop) (d:bO) (w:World) (ac:jn w fp S0 xb dJ q most limit acc) (hd:Sd d) (bE:most≤2000∨limit≤1048576):
 bw aE 180 (bl [a6 xb,.agg (ei d).toArray]) w (fun v w'=>v= .tuple #[]∧∃ fp',jn w' fp' S0 xb dJ q most limit (sH q most limit acc d)∧Tw fp w fp' w'):=by
 refine enter func180 ag ntmps180 ag<|ak fun bh=>e<|je ag fun I a9 aV ab bn=> ?_;have bY:=ab.size;have aV:bX a9.heap I (ei d):=bn;have aS:=ac.wk ab.md;have bC:=ac.lt;have a1:¬fp I:=fun h=>by have :=bC I h; omega
 refine nl<|bh<|ak fun bi=>p mv<|e<|cl Tm (X8 S0 xb dJ q most limit acc fp a9 aS) ag ?_;rintro v6 ax ⟨rfl,aa⟩;have ae:=aS.wk aa;obtain ⟨bN,c1,c2,c3,bQ,bS,bT⟩:=ae.a7;have aY:=Wk.B aa aV;refine az<|bi ?_;refine ez (fun bg al=>(kA most limit acc=false)∧(sJ q d=true)∧(Wk ax al)∧(Sl bg [(0,a6 xb),(3,a6 I)])) ?_ ?_;refine aH fun Z=> ?_;have A:(fun w'=>Wk ax w') ax.drew:=(Md.refl _ _).drew;refine cj (fun w'=>Wk ax w') ag wide A<|aU 0 ag (mv) A<|aU 1 ag (mv) A<|Au (t:=8) ag (fun Y=> ?_) fun Y=> ?_;exact bf 2 ag A<|bf 3 ag A<|bf 4 ag A<|bf 5 ag A<|bf 6 ag A<|j4 7 ag au ag ag ag A<|j4 8 ag au ag ag ag A<|j4 9 ag au ag ag ag A<|j4 10 ag au ag ag ag A<|j4 11 ag au ag ag ag A<|j4 12 ag au ag ag ag A<|j4 13 ag au ag ag ag A<|bf 14 ag A<|aU 15 ag (bI ag) A<|hn au<|Z<|ct ag<|rt<|tr<|si ag<|⟨ag,fp,by rw [aax Y]; exact ae.wk A,Tw.wk<|(ab.md.trans aa).trans A⟩
 refine bm 2 ag (fun _ _=>mv) A<|bm 3 ag (fun _ _=>nc ag) A<|bm 4 ag (fun _ _=>fa XK ag) A<|bm 5 ag (fun w' E=>ld nC ag<|Wk.a7 E<|c1) A<|bm 6 ag (fun _ _=>mv) A<|Au (t:=13) ag (fun has=> ?_) fun has=> ?_;obtain ⟨sq,rfl⟩:∃ s,q=some s:=by
  cases q with
  | none=>cases has
  | some s=>exact ⟨s,rfl⟩
 refine bm 7 ag (fun _ _=>fa Ak ag) A<|bm 8 ag (fun w' E=>ld bW ag<|Wk.a7 E<|aY.bF 0) A<|bm 9 ag (fun _ _=>mv) A<|bm 10 ag (fun _ _=>nc ag) A<|bm 11 ag (fun _ _=>fa XL ag) A<|bm 12 ag (fun w' E=>ld bW ag<|Wk.a7 E<|c2) A<|bm 13 ag (fun _ _=>nR ag ag) A<|bm 14 ag (fun _ _=>bI ag) A<|aU 15 ag (bD ag) A<|hn au<|Z<|cd ag (fun aF=> ?_) fun aF=> ?_;exact rt<|tr<|si ag<|⟨ag,fp,by rw [aay (show sJ (some sq) d=false from decide_eq_false aF)]; exact ae.wk A,Tw.wk<|(ab.md.trans aa).trans A⟩
 exact aT<|tn<|⟨Y,(decide_eq_true<|jT.1 aF),A,ag⟩
 obtain rfl :q=none:=by
  cases q with
  | none=>rfl
  | some s=>cases has
 exact bf 7 ag A<|bf 8 ag A<|bf 9 ag A<|bf 10 ag A<|bf 11 ag A<|bf 12 ag A<|bf 13 ag A<|bm 14 ag (fun _ _=>bD ag) A<|aU 15 ag (bD ag) A<|hn au<|Z<|cf ag<|aT<|tn<|⟨Y,ag,A,ag⟩
 rintro bg al ⟨Y,a5,aA,bG⟩;refine bH bG<|aH fun Z=> ?_;have ao:sH q most limit acc d=acc++ [d]:=(M6 a5).trans<|M7 Y;have aZ:=ae.bd;have aD:Bd (sH q most limit acc d):=by rw [M6 a5]; exact aZ.met bE hd
 have aG:Bd (acc++ [d]):=ao ▸ aD;unfold Bd at aZ aG;unfold Sd at hd;obtain ⟨v,aq,aI,O⟩:=(ae.wk aA).ex;have a2:I≠xb:=fun h=>a1<|(O I).2<|.inl h;have aJ:=Ii acc d;rw [aJ] at aG;simp only [bP,fE] at aG;have bz:=Wk.B aA aY;refine rg ag<|aw (a6 xb)<|aw (a6 xb)<|p (nc ag)<|p (fa vd ag)<|p (ld bL ag<|(bo aq).trans ag)<|p (bJ ((acc.length+1:Nat):Int) ag ag<|bp aj aj)<|p (nc ag)<|p (fa vd ag)<|e<|dB hZ ag ag (v:= .int .i64 ((acc.length+1:Nat):Int)) ag aq (by show 5 < 8; omega) fun av aN bq=> ?_;have a8:av.heap[xb]? =some (.cells [.bool dJ,.bool q.isSome,str (q.getD []),.int .i64 most,.int .i64 limit,.int .i64 ((acc.length+1:Nat):Int),ay (jN acc),v].toArray 140 (0,0)):=bq;have aX:=Md.B aN bz fun h=>a2 h;refine nl<|Z<|aH fun bj=> ?_;have G:(fun w'=>Wk av w') av.drew:=(Md.refl _ _).drew;refine fj (fun w'=>Wk av w') 11 ag wide G<|bM 0 ag (a6 xb) G<|bM 1 ag (a6 xb) G<|bR 2 ag (nc ag) G<|bR 3 ag (fa vf ag) G<|ej 4 ag (fun w' E=>ld bL ag<|Wk.a7 E<|(bo a8).trans ag) G<|bR 5 ag (fa Ak ag) G<|ej 6 ag (fun w' E=>ld bW ag<|Wk.a7 E<|aX.bF 0) G<|bR 7 ag (c8 u9 ag ag) G<|bR 8 ag (bJ ((jN acc+d.eZ.length:Nat):Int) ag ag<|bp aj aj) G<|bR 9 ag (nc ag) G<|bR 10 ag (fa vf ag) G<|eb 11 ag au au<|dB hZ ag ag (v:= .int .i64 ((jN acc+d.eZ.length:Nat):Int)) ag a8 (by show 6 < 8; omega) fun ai aO br=> ?_;have ah:ai.heap[xb]? =some (.cells [.bool dJ,.bool q.isSome,str (q.getD []),.int .i64 most,.int .i64 limit,.int .i64 ((acc.length+1:Nat):Int),.int .i64 ((jN acc+d.eZ.length:Nat):Int),v].toArray 140 (0,0)):=br;have bx:=Md.B aO aX fun h=>a2 h;have an:Md (fun q=>q=xb) al ai:=aN.trans' (jk aO) fun q C h=>h;have aL:Wk w al:=(ab.md.trans aa).trans aA;have bu:TF al [142] (fun q=>q=xb):=TF.eq (dS aq) aM;refine fi au<|bj<|ak fun bk=>aw (a6 xb)<|p (nc ag)<|p (fa XJ ag)<|p (ld nC ag<|(bo ah).trans ag)<|nl ?_;refine bk<|cb ag (fun hk=> ?_) fun hk=> ?_;rw [if_pos hk] at aI;have a3:=c7 aI an bu aM;subst hk;have J:(fun w'=>Hb.a7 w'.heap xb 7=some v∧bX w'.heap I (ei d)) ai.drew:=⟨(bo ah).trans rfl,bx⟩
 refine fj (fun w'=>Hb.a7 w'.heap xb 7=some v∧bX w'.heap I (ei d)) 10 ag wide J<|bM 0 ag (a6 xb) J<|bM 1 ag (a6 xb) J<|bR 2 ag (nc ag) J<|bR 3 ag (fa D3 ag) J<|ej 4 ag (fun w' E=>ld HR ag<|E.1) J<|ej 5 ag (fun w' E=>dp xd ag (ag) fun j bV=>E.2.bF j) J<|ic 6 ag au<|lF OI ag ag ag fun bK ba bU am bs=> ?_;have bZ:=am.size;have V:Wk ai ba:=((Md.refl (fun _=>False) ai).drew).trans am.md;have aQ:(fun w'=>Hb.a7 w'.heap xb 7=some v∧bX w'.heap I (ei d)) ba:=⟨Wk.a7 am.md J.1,Wk.B am.md J.2⟩
 refine ⟨aQ,?_⟩;refine ic 7 ag au<|ap OI (bc a3 V) ag (by have :=ac.lo; have :=(dT.1 aq).1; have :=an.size; have :=V.size; omega) ag (aR.dZ bs) (ag) (ag) aj aj fun v53 bb a4 aB b0 bA=> ?_;have aK:=aB.aW (Wk.aW V ah) fun h=>eh (bc a3 V) (Wk.aW V ah) aM h;have aC:(fun w'=>Hb.a7 w'.heap xb 7=some v∧bX w'.heap I (ei d)) bb:=⟨(bo aK).trans rfl,Md.B aB aQ.2 fun h=>a1<|(O I).2<|.inr h⟩
 refine ⟨aC,?_⟩;refine bR 8 ag (nc ag) aC<|bR 9 ag (fa D3 ag) aC<|eb 10 ag au au<|dB V7 ag ag (v:=v53) (fG a4) aK (by show 7 < 8; omega) fun b1 aP bt=> ?_;have bv:TF bb [142] (fun q=>q=xb):=TF.eq (dS aK) aM;refine fi au<|f0 ag ?_;refine ⟨ag,fun q=>q=xb∨v53.ownBlock=some q,⟨ac.lo,⟨v53,?_,?_,fun _=>Iff.rfl⟩,aD⟩,?_⟩;rw [ao];have h1:yo true q most limit (acc++ [d]) v53= [.bool true,.bool q.isSome,str (q.getD []),.int .i64 most,.int .i64 limit,.int .i64 ((acc.length+1:Nat):Int),.int .i64 ((jN acc+d.eZ.length:Nat):Int),v53]:=by unfold yo; rw [aJ,bP]; rfl
 rw [h1]; exact bt;rw [if_pos rfl,ao,bP,show gl (acc++ [d])=gl acc++ei d from by unfold gl; rw [o4,rS]];exact c7 a4 aP bv aM;have a0:∀ q,q=xb→fp q:=fun q C=>(O q).2<|.inl C;refine Tw.trans (Tw.wk aL)<|Tw.trans ⟨an.mono (fun q _ C=>a0 q C),fun q C=> .inl C⟩<|Tw.trans (Tw.wk V)<|Tw.trans (fp':=fun q=>q=xb∨v53.ownBlock=some q) ⟨aB.mono (fun q _ C=>(O q).2<|.inr C),fun q C=>C.elim (fun h=> .inl<|a0 q h) fun h=>(bA q h).imp (fun h=>(O q).2<|.inr h) id⟩ ⟨aP.mono (fun q _ C=> .inl C),fun q C=> .inl C⟩;refine aT<|f0 ag ?_;have bB:dJ=false :=by simpa using hk
 subst bB;refine ⟨ag,fp,⟨ac.lo,⟨v,?_,?_,O⟩,aD⟩,?_⟩;rw [ao];have h1:yo false q most limit (acc++ [d]) v= [.bool false,.bool q.isSome,str (q.getD []),.int .i64 most,.int .i64 limit,.int .i64 ((acc.length+1:Nat):Int),.int .i64 ((jN acc+d.eZ.length:Nat):Int),v]:=by unfold yo; rw [aJ,bP]; rfl
 rw [h1]; exact ah;exact aI;exact Tw.trans (Tw.wk aL) ⟨an.mono (fun q _ C=>(O q).2<|.inl C),fun q C=> .inl C⟩
end Go.Hb.uC
end
section
namespace Go.Hb
open Go.Hb.uC
section
variable {w w':World} {fp fp':Nat→Prop} {S0 xb:Nat} {dJ:Bool} {q:Option Tx} {most limit:Int} {acc:List bO}
theorem tO {B n:Nat} {v:Value} {xs:List Value} (A:bB w B 3 1 v n xs) (h:jn w fp S0 xb dJ q most limit acc) (hm:Tw fp w fp' w'):bB w' B 3 1 v n xs:=c7 A hm.md h.tf aM
theorem Nn {b:Nat} (h:Tw fp w fp' w') (hn:¬fp b) (A:b < w.heap.size):¬fp' b:=fun h2=>(h.sub b h2).elim hn fun h3=>by omega
end
theorem MC {q:Option Tx} {most limit:Int} {acc A:List bO} {α:Type} {g:α→Option bO} {l:List α} {i:Nat} (h:kA most limit (ju q most limit acc<|A++(l.take i).filterMap g)=true):ju q most limit acc (A++l.filterMap g)=ju q most limit acc (A++(l.take i).filterMap g):=by
 conv =>lhs; rw [← Cf i l,QE,← e6,xR,MA h]
theorem EG {q:Option Tx} {most limit:Int} {acc A:List bO} {α:Type} {g:α→List bO} {l:List α} {i:Nat} (h:kA most limit (ju q most limit acc<|A++(l.take i).flatMap g)=true):ju q most limit acc (A++l.flatMap g)=ju q most limit acc (A++(l.take i).flatMap g):=by
 conv =>lhs; rw [← Cf i l,o4,← e6,xR,MA h]
theorem Ei {most limit:Int} {a:List bO} (h:¬(jN a:Int)≤limit):kA most limit a=true :=decide_eq_true<|Or.inr aj
theorem Ej {most limit:Int} {a:List bO} (h:¬(a.length:Int) < most):kA most limit a=true :=decide_eq_true<|Or.inl aj
theorem MB {q:Option Tx} {most limit:Int} {acc A C:List bO} {α:Type} {g:α→List bO} {l:List α} {i:Nat} (h:kA most limit (ju q most limit acc<|A++(C++(l.take i).flatMap g))=true):ju q most limit acc (A++(C++l.flatMap g))=ju q most limit acc (A++(C++(l.take i).flatMap g)):=by
 rw [← e6] at h ⊢;rw [EG h,e6]
theorem Wp {F:aX} {xs:List bE} (A:eH F xs) (n:Int):∀ d∈q7 F xs n,1≤d.eZ.length∧d.eZ.length≤200:=by
 intro d hd;unfold q7 at hd;split at hd
 · rename_i h;obtain ⟨k,rfl⟩:∃ k:Nat,n=(k:Int):=⟨n.toNat,aj⟩
   have C:xs[k]? =some xs[k]:=cz aj;have E:xs.getD k ([],[])=xs[k]:=by rw [da,C]; rfl
   rw [kH] at hd;have h1:=A.ne _<|gL C;have h2:=(A.xr _<|gL C).1;have :=Ws (fun q G=>(A.fs.2 q G).2) (by rw [E]; exact h1) d hd;rw [E] at this;omega
 · cases hd
set_option maxHeartbeats 4000000 in
theorem GI (B tb fb:Nat) (V:eM) (ve:Value) (F:aX) (xs:List bE) (S0 xb:Nat) (dJ:Bool) (q:Option Tx) (most limit:Int) (acc:List bO) (fp:Nat→Prop) (word cV:Tx) (en:Nat) (f s cU:Int) (ap:Option Addr) (cp b1:Nat) (w:World) (bu:gN w B tb fb V ve F xs) (ah:eH F xs) (an:jn w fp S0 xb dJ q most limit acc) (bP:most≤2000∨limit≤1048576) (cM:bB w b1 3 1 (.slice ap (bq F (flagsOf xs en) 1).length cp) (bq F (flagsOf xs en) 1).length ((bq F (flagsOf xs en) 1).map bV)) (bM:Rn F f) (hs:Rn F s) (cT:1≤word.length∧word.length≤500):
 bw aE 109 (bl [a6 tb,a6 xb,str word,.agg (ei ⟨cV,en,f,s,cU⟩).toArray,.slice ap (bq F (flagsOf xs en) 1).length cp]) w (fun v w'=>v= .tuple #[]∧∃ fp',jn w' fp' S0 xb dJ q most limit (ju q most limit acc<|iL F xs en word f s)∧Tw fp w fp' w'):=by
 have cH:=an.lt;have c7:=vC F (flagsOf xs (en:Int)) 1;have c8:=ah.len;refine enter func109 ag ntmps109 ag<|ak fun b2=>e<|oB ag fun I dg c6 bx cn=> ?_;have c9:=bx.size;refine nl<|b2<|ak fun b6=>p (fa vp ag)<|e<|dB hZ ag ag (v:= .int .i64<|-1) ag cn (by show 4 < 5; omega) fun de cs ck=>nl<|b6<|ak fun b7=>p mv<|p (fa Ak ag)<|e<|dB lI ag ag (v:=str word) ag ck (by simp only [List.length_set]; show 0 < 5; omega) fun a9 ct cm=> ?_;have aY:a9.heap[I]? =some (.cells (ei ⟨word,en,f,s,-1⟩).toArray 74 (0,0)):=cm;have br:Wk w a9:=(bx.md.trans' cs fun q a2 h=>by omega).trans' ct fun q a2 h=>by omega
 have a1:¬fp I:=fun h=>by have :=cH I h; omega
 refine nl<|b7<|ak fun b8=>p mv<|p (dp xd ag (ag) fun j ae=>(pw aY).bF j)<|e<|cl IC (N7 B tb fb V ve F xs word en f s (-1) a9 (bu.wk br) ah bM hs<|.inl ag) ag ?_;rintro dc cW ⟨rfl,bk⟩;have aF:=br.trans bk;have bz:=an.wk aF;have ao:=Wk.aW bk aY;refine az<|b8 ?_;refine ez (fun bZ ax=> ∃ (ac:Nat→Prop),(jn ax ac S0 xb dJ q most limit<|ju q most limit acc<|oE F xs en word f s)∧(Tw fp w ac ax)∧(ax.heap[I]? =some (.cells (ei ⟨word,en,f,s,-1⟩).toArray 74 (0,0)))∧(¬ac I)∧(Sl bZ [(0,a6 tb),(1,a6 xb),(2,str word),(4,.slice ap (bq F (flagsOf xs en) 1).length cp),(8,a6 I)])) ?_ ?_;refine ak fun aA=>p mv<|nl<|aA<|cb ag (fun aZ=> ?_) fun aZ=> ?_;have aO:oE F xs en word f s= [⟨word,en,f,s,-1⟩]:=if_pos aZ;refine rg ag<|p mv<|p (dp xd ag (ag) fun j ae=>(pw ao).bF j)<|e<|cl ID (M8 S0 xb dJ q most limit acc fp ⟨word,en,f,s,-1⟩ cW bz ⟨cT.1,by show word.length≤1000; omega⟩ bP) ag ?_;rintro v23 df ⟨rfl,ci,cy,aL⟩;have cF:=aL.md.aW ao a1;have cK:=Nn aL a1 (dT.1 ao).1;exact nl<|tn<|⟨ci,(by rw [aO]; exact cy),((Tw.wk aF).trans aL),cF,cK,ag⟩
 have aO:oE F xs en word f s= []:=if_neg<|by rw [aZ]; exact eA
 exact aT<|tn<|⟨fp,(by rw [aO]; exact bz),(Tw.wk aF),ao,a1,ag⟩
 rintro bZ ax ⟨ac,cA,cv,cG,cL,cO⟩;refine bH cO<|ak fun aA=>az<|aA<|aW<|lp (fun bb b0 J=> ∃ (i:Nat) (G:Nat→Prop) (av:Tx) (pp:Int),(i≤(bq F (flagsOf xs en) 1).length)∧(jn J G S0 xb dJ q most limit<|ju q most limit acc<|oE F xs en word f s++((bq F (flagsOf xs en) 1).take i).filterMap (nE F xs en word f s))∧(Tw fp w G J)∧(J.heap[I]? =some (.cells (ei ⟨av,en,f,s,pp⟩).toArray 74 (0,0)))∧(¬G I)∧(Sl b0 [(0,a6 tb),(1,a6 xb),(2,str word),(4,.slice ap (bq F (flagsOf xs en) 1).length cp),(8,a6 I),(11,ay i)])∧((bq F (flagsOf xs en) 1).length - i=bb)) _ ⟨0,ac,word,-1,aj,(by simpa using cA),cv,cG,cL,ag,ag⟩ ?_;rintro bb b0 J ⟨i,G,av,pp,hi,Y,am,cD,Z,cP,rfl⟩;refine bH cP<|aH fun b9=>aH fun aB=> ?_;obtain ⟨cZ,c1,c2,c3,cc,ce,cg⟩:=Y.a7;have A:(fun w'=>Wk J w') J.drew:=(Md.refl _ _).drew;refine cj (fun w'=>Wk J w') ag wide A<|bQ 0 ag (ay i) A<|bQ 1 ag (.slice ap (bq F (flagsOf xs en) 1).length cp) A<|aU 2 ag (bN mI ag ag) A<|aU 3 ag (lt ag ag) A<|aU 4 ag (mv) A<|iP (t:=28) ag (fun cI=> ?_) fun cI=> ?_;refine bm 5 ag (fun _ _=>a8 (a6 xb) ag) A<|bm 6 ag (fun _ _=>nc ag) A<|bm 7 ag (fun _ _=>fa vd ag) A<|bm 8 ag (fun w' E=>ld bL ag<|Wk.a7 E<|ce) A<|bm 9 ag (fun _ _=>a8 (a6 xb) ag) A<|bm 10 ag (fun _ _=>nc ag) A<|bm 11 ag (fun _ _=>fa Ac ag) A<|bm 12 ag (fun w' E=>ld bL ag<|Wk.a7 E<|c3) A<|bm 13 ag (fun _ _=>lt ag ag) A<|aU 14 ag (bI ag) A<|aU 15 ag (mv) A<|iP (t:=39) ag (fun bW=> ?_) fun bW=> ?_;refine bm 16 ag (fun _ _=>a8 (a6 xb) ag) A<|bm 17 ag (fun _ _=>nc ag) A<|bm 18 ag (fun _ _=>fa vf ag) A<|bm 19 ag (fun w' E=>ld bL ag<|Wk.a7 E<|cg) A<|bm 20 ag (fun _ _=>a8 (a6 xb) ag) A<|bm 21 ag (fun _ _=>nc ag) A<|bm 22 ag (fun _ _=>fa Ad ag) A<|bm 23 ag (fun w' E=>ld bL ag<|Wk.a7 E<|cc) A<|bm 24 ag (fun _ _=>le ag ag) A<|aU 25 ag (bI ag) A<|hn au<|aB<|cd ag (fun bA=> ?_) fun bA=> ?_;have cB:=Y.wk A;have bG:=Wk.aW A cD;have al:=am.trans<|Tw.wk A;have cq:=xQ bu an al.md;have bR:=tO cM an al;have cN:=oO.1<|ek (d:=0) (show i < (bq F (flagsOf xs en) 1).length by omega);obtain ⟨r,a3⟩:∃ r,F.rules[((bq F (flagsOf xs en) 1).getD i 0)]? =some r:=⟨_,cz cN.1⟩
 have bU:F.rules.getD ((bq F (flagsOf xs en) 1).getD i 0) dU=r:=by rw [da,a3]; rfl
 have aa:=adF (g:=nE F xs en word f s) 0 (show i < (bq F (flagsOf xs en) 1).length by omega);have aq:=(ah.jG a3).2.2;refine aT<|b9<|aH fun aC=>aW<|ak fun ca=>aw (.slice ap (bq F (flagsOf xs en) 1).length cp)<|aw (ay i)<|p (bh kp ag ag aj<|aR.ok ((bg bR).2)<|bY aj)<|p (ld bL ag<|aR.gQ (i:=i) (bg bR).2<|oL aj)<|p (fa vp ag)<|e<|dB hZ ag ag (v:= .int .i64 ((((bq F (flagsOf xs en) 1).getD i 0):Nat):Int)) ag bG (by show 4 < 5; omega) fun ab aI co=> ?_;have bK:ab.heap[I]? =some (.cells (ei ⟨av,en,f,s,(((bq F (flagsOf xs en) 1).getD i 0):Nat)⟩).toArray 74 (0,0)):=co;have cC:=cB.M4 aI Z;have aG:=YB cq bG aI;obtain ⟨cY,c0,db,rc,cQ,bd,bT,c4⟩:=aG.jG a3;refine nl<|ca<|aH fun b3=> ?_;have C:(fun w'=>Wk ab w') ab.drew:=(Md.refl _ _).drew;refine cj (fun w'=>Wk ab w') ag wide C<|bQ 0 ag (a6 tb) C<|aU 1 ag (nc ag) C<|aU 2 ag (fa oI ag) C<|bS 3 ag (fun w' E=>ld jc ag<|Wk.a7 E<|(bo aG.cells).trans ag) C<|aU 4 ag (nc ag) C<|aU 5 ag (fa kq ag) C<|bS 6 ag (fun w' E=>ld kM ag<|Wk.a7 E<|cQ) C<|aU 7 ag (fa vp ag) C<|bS 8 ag (fun w' E=>ld bL ag<|Wk.a7 E<|(bo bK).trans (show _=some (Value.int .i64 ((((bq F (flagsOf xs en) 1).getD i 0):Nat):Int)) from ag)) C<|aU 9 ag (bh pK ag ag aj<|aR.ok (bd.wk C)<|pQ bT) C<|bS 10 ag (fun w' E=>dp tp ag (ag) fun j ae=>fO (f:=kh) (m:=8) (fun _=>rfl) (bd.wk E) bT j ae) C<|bQ 11 ag (str word) C<|he 12 ag au<|cl CK (FG r _ word ab.drew (by unfold kt at aq; omega) (by unfold kt at aq; omega) (by unfold kt at aq; omega) aj) ag ?_;rintro v70 bX ⟨rfl,bs⟩;have aD:=C.trans bs;have bC:=Wk.aW aD bK;have O:(fun w'=>Wk ab w') bX:=C.trans bs;refine ⟨O,?_⟩;refine aU 13 ag (mv) O<|aU 14 ag (xt ag ag) O<|aU 15 ag (xt ag ag) O<|aU 16 ag (aJ) O<|aU 17 ag (aJ) O<|hn au<|b3<|aH fun b4=>rg ag<|aw (a6 tb)<|p (dp xd ag (ag) fun j ae=>(pw bC).bF j)<|e<|cl IC (N7 B tb fb V ve F xs av en f s (((bq F (flagsOf xs en) 1).getD i 0):Nat) bX (aG.wk aD) ah bM hs<|.inr aj) ag ?_;rintro v75 cX ⟨rfl,bt⟩;have bi:=aD.trans bt;have aM:=cC.wk bi;have aP:=Wk.aW bt bC;have c5:=(dT.1 aY).1;have ai:Tw fp w G cX:=⟨(al.md.trans' aI fun q a2 h=>by omega).trans' bi (fun _ _ h=>h.elim),fun k hk=>al.sub k hk⟩
 refine az<|b4<|ak fun ba=>p mv<|p mv<|gb (t:=77) ag (fun aN=> ?_) fun aN=> ?_;obtain ⟨v,a4⟩:∃ v,eO r word=some v:=ot.1 aN;have cR:(eO r word).getD []=v:=by rw [a4]; rfl
 have cS:=tu (by unfold kt at aq; omega) a4;refine aV ag mv<|p (bI ag)<|nl<|ba<|cb ag (fun a0=> ?_) fun a0=> ?_;have cj:=VL (word:=word) a0<|by rw [bU]; exact a4
 rw [cj] at aa;refine ak fun b5=>p mv<|p (fa Ak ag)<|e<|dB lI ag ag (v:=str<|(eO r word).getD []) ag aP (by show 0 < 5; omega) fun a5 bv bc=> ?_;rw [cR] at bc;have aS:a5.heap[I]? =some (.cells (ei ⟨v,en,f,s,(((bq F (flagsOf xs en) 1).getD i 0):Nat)⟩).toArray 74 (0,0)):=bc;have cw:=aM.M4 bv Z;have cu:Tw fp w G a5:=⟨ai.md.trans' bv (fun q a2 h=>by omega),ai.sub⟩
 refine nl<|b5<|rg ag<|aw (a6 xb)<|p (dp xd ag (ag) fun j ae=>(pw aS).bF j)<|e<|cl ID (M8 S0 xb dJ q most limit (ju q most limit acc<|oE F xs en word f s++((bq F (flagsOf xs en) 1).take i).filterMap (nE F xs en word f s)) G ⟨v,en,f,s,(((bq F (flagsOf xs en) 1).getD i 0):Nat)⟩ a5 cw ⟨cS.1,by show v.length≤1000; omega⟩ bP) ag ?_;rintro dd dh ⟨rfl,ch,cx,aK⟩;have cE:=aK.md.aW aS Z;have cJ:=Nn aK Z (dT.1 aS).1;exact nl<|bn<|aC<|rg ag<|aw (ay i)<|p (bJ ((i+1:Nat):Int) ag ag<|bp aj aj)<|p aJ<|nl<|tn<|⟨_,aj,i+1,ch,_,_,aj,(by rw [aa,← e6,xR]; exact cx),(cu.trans aK),cE,cJ,ag,ag⟩
 have cj:=VK (word:=word) a0;rw [cj] at aa;exact aT<|bn<|aC<|rg ag<|aw (ay i)<|p (bJ ((i+1:Nat):Int) ag ag<|bp aj aj)<|p aJ<|nl<|tn<|⟨_,aj,i+1,G,_,_,aj,(by rw [aa]; simpa using aM),ai,aP,Z,ag,ag⟩
 have cj:=VJ (xs:=xs) (e:=en) (f:=f) (s:=s) (word:=word) (p:=(bq F (flagsOf xs en) 1).getD i 0)<|by rw [bU]; simpa using aN
 rw [cj] at aa;exact aQ ag<|p (bD ag)<|nl<|ba<|cf ag<|aT<|bn<|aC<|rg ag<|aw (ay i)<|p (bJ ((i+1:Nat):Int) ag ag<|bp aj aj)<|p aJ<|nl<|tn<|⟨_,aj,i+1,G,_,_,aj,(by rw [aa]; simpa using aM),ai,aP,Z,ag,ag⟩
 exact ext<|bj<|bj<|be<|f0 ag<|⟨ag,G,(by unfold iL; rw [MC (Ei bA)]; exact Y.wk A),am.trans<|Tw.wk A⟩
 refine bf 16 ag A<|bf 17 ag A<|bf 18 ag A<|bf 19 ag A<|bf 20 ag A<|bf 21 ag A<|bf 22 ag A<|bf 23 ag A<|bf 24 ag A<|aU 25 ag (bD ag) A<|hn au<|aB<|cf ag<|ext<|bj<|bj<|be<|f0 ag ?_;exact ⟨ag,G,(by unfold iL; rw [MC (Ej bW)]; exact Y.wk A),am.trans<|Tw.wk A⟩;refine bf 5 ag A<|bf 6 ag A<|bf 7 ag A<|bf 8 ag A<|bf 9 ag A<|bf 10 ag A<|bf 11 ag A<|bf 12 ag A<|bf 13 ag A<|aU 14 ag (bD ag) A<|aU 15 ag (mv) A<|bf 16 ag A<|bf 17 ag A<|bf 18 ag A<|bf 19 ag A<|bf 20 ag A<|bf 21 ag A<|bf 22 ag A ?_;refine bf 23 ag A<|bf 24 ag A<|aU 25 ag (bD ag) A<|hn au<|aB<|cf ag<|ext<|bj<|bj<|be<|f0 ag ?_;rw [eK aj] at Y;exact ⟨ag,G,Y.wk A,am.trans<|Tw.wk A⟩
set_option maxHeartbeats 4000000 in
theorem aen (B tb fb:Nat) (V:eM) (ve:Value) (F:aX) (xs:List bE) (S0 xb:Nat) (dJ:Bool) (q:Option Tx) (most limit:Int) (acc:List bO) (fp:Nat→Prop) (n:Int) (w:World) (al:gN w B tb fb V ve F xs) (Z:eH F xs) (am:jn w fp S0 xb dJ q most limit acc) (b1:most≤2000∨limit≤1048576):
 bw aE 62 (bl [a6 tb,.int .i64 n,a6 xb]) w (fun v w'=>v= .tuple #[]∧∃ fp',jn w' fp' S0 xb dJ q most limit (ju q most limit acc<|q7 F xs n)∧Tw fp w fp' w'):=by
 obtain ⟨d4,ce,dV⟩:=al.GG;have eo:=Z.xl;have el:=Z.len;refine enter func62 ag ntmps62 ag<|aH fun cR=>ak fun cg=>p mv<|p (lt ag ag)<|p mv<|gs (t:=18) ag (fun dy=> ?_) fun dy=> ?_;exact aQ ag<|aQ ag<|aQ ag<|aQ ag<|aQ ag<|aQ ag<|aQ ag<|p (bI ag)<|nl<|cg<|ct ag<|rt<|tr<|si ag<|⟨ag,fp,by rw [Kc aj,(show ju q most limit acc []=acc from ag)]; exact am,Tw.refl _ _⟩
 refine aV ag mv<|aV ag mv<|aV ag (nc ag)<|aV ag (fa vq ag)<|aV ag (ld uK ag<|dV)<|aV ag (bN Bx ag ag)<|aV ag (ge ag ag)<|p (bD ag)<|nl<|cg<|cd ag (fun dv=> ?_) fun dv=> ?_;exact rt<|tr<|si ag<|⟨ag,fp,by rw [Kc aj,(show ju q most limit acc []=acc from ag)]; exact am,Tw.refl _ _⟩
 obtain ⟨k,rfl⟩:∃ k:Nat,n=(k:Int):=⟨n.toNat,aj⟩
 obtain ⟨x,bi⟩:∃ x,xs[k]? =some x:=⟨_,cz aj⟩
 obtain ⟨d5,d8,ws,a,c,dW,ch,cD,ee⟩:=al.dQ bi;obtain ⟨ec,ed,dc,bv⟩:=tw bi;have b0:kg F xs k=iL F xs k x.1 (-1) (-1)++(bq F (flagsOf xs (k:Int)) 2).flatMap (mh F xs k):=by unfold kg; rw [bv]
 have ep:=(Z.xr x<|gL bi).1;have dZ:=Z.ne x<|gL bi;have eh:=vC F (flagsOf xs (k:Int)) 2;have bF:q7 F xs (k:Int)=kg F xs k:=zJ dc;refine aT<|cR<|ak fun c4=>p mv<|p (nc ag)<|p (fa vq ag)<|p (ld uK ag<|dW)<|p mv<|p (bh DH ag ag aj<|aR.ok (ch)<|uZ cD)<|p (fa LC ag)<|p (ld bW ag<|fO (f:=qk) (m:=2) (fun _=>rfl) ch cD 0 aM)<|az<|c4<|aH fun c5=>rg ag<|p mv<|p mv<|e<|cl Sw (ab6 B tb fb V ve F xs (k:Int) w al Z) ag ?_;rintro v37 d2 ⟨b2,bx⟩;obtain ⟨aa,ac,rfl⟩:=cM b2;have cx:=am.wk bx;refine az<|c5<|ak fun c6=>p mv<|p mv<|p mv<|p mv<|p (dt (ps:= [(1,ay k),(2,.int .i64 (-1)),(3,.int .i64 (-1))]) (L:= [.string ⟨⟨[]⟩⟩,ay k,.int .i64 (-1),.int .i64 (-1),.int .i64 0]) Gi ag<|ag)<|p mv<|e<|cl CJ (GI B tb fb V ve F xs S0 xb dJ q most limit acc fp x.1 [] k (-1) (-1) 0 aa ac w.heap.size d2 (al.wk bx) Z cx b1 b2 (.inl ag) (.inl ag) ⟨dZ,aj⟩) ag ?_;rintro v44 d3 ⟨rfl,df,dr,cq⟩;have bP:=(Tw.wk bx).trans cq;have dD:=tO b2 cx cq;refine nl<|c6<|ak fun c7=>p mv<|p mv<|e<|cl Sx (acd B tb fb V ve F xs (k:Int) d3 (xQ al am bP.md) Z) ag ?_;rintro ev ey ⟨cB,bz⟩;obtain ⟨ab,ae,rfl⟩:=cM cB;have ds:=dr.wk bz;have dl:=bP.trans<|Tw.wk bz;have dE:=bc dD bz;have dL:=eT cB (show w.heap.size≤_ from bP.md.size);refine az<|c7<|ak fun c8=>az<|c8<|aW<|lp (fun aC cP Y=> ∃ (i:Nat) (ah:Nat→Prop),(i≤(bq F (flagsOf xs (k:Int)) 2).length)∧(jn Y ah S0 xb dJ q most limit<|ju q most limit acc<|iL F xs k x.1 (-1) (-1)++((bq F (flagsOf xs (k:Int)) 2).take i).flatMap (mh F xs k))∧(Tw fp w ah Y)∧(bB Y w.heap.size 3 1 (.slice aa (bq F (flagsOf xs (k:Int)) 1).length ac) (bq F (flagsOf xs (k:Int)) 1).length<|(bq F (flagsOf xs (k:Int)) 1).map bV)∧(bB Y w.heap.size 3 1 (.slice ab (bq F (flagsOf xs (k:Int)) 2).length ae) (bq F (flagsOf xs (k:Int)) 2).length<|(bq F (flagsOf xs (k:Int)) 2).map bV)∧(Sl cP [(0,a6 tb),(1,ay k),(2,a6 xb),(6,str x.1),(7,.slice aa (bq F (flagsOf xs (k:Int)) 1).length ac),(8,.slice ab (bq F (flagsOf xs (k:Int)) 2).length ae),(9,ay i)])∧((bq F (flagsOf xs (k:Int)) 2).length - i=aC)) _ ⟨0,df,aj,(by simpa using ds),dl,dE,dL,ag,ag⟩ ?_;rintro aC cP Y ⟨i,ah,hi,av,aS,dG,dM,dS,rfl⟩;refine bH dS<|aH fun c9=>aH fun br=> ?_;obtain ⟨db,c1,c2,c3,bs,bt,bu⟩:=av.a7;have C:(fun w'=>Wk Y w') Y.drew:=(Md.refl _ _).drew;refine cj (fun w'=>Wk Y w') ag wide C<|bQ 0 ag (ay i) C<|bQ 1 ag (.slice ab (bq F (flagsOf xs (k:Int)) 2).length ae) C<|aU 2 ag (bN mI ag ag) C<|aU 3 ag (lt ag ag) C<|aU 4 ag (mv) C<|iP (t:=52) ag (fun dw=> ?_) fun dw=> ?_;refine bm 5 ag (fun _ _=>a8 (a6 xb) ag) C<|bm 6 ag (fun _ _=>nc ag) C<|bm 7 ag (fun _ _=>fa vd ag) C<|bm 8 ag (fun w' E=>ld bL ag<|Wk.a7 E<|bt) C<|bm 9 ag (fun _ _=>a8 (a6 xb) ag) C<|bm 10 ag (fun _ _=>nc ag) C<|bm 11 ag (fun _ _=>fa Ac ag) C<|bm 12 ag (fun w' E=>ld bL ag<|Wk.a7 E<|c3) C<|bm 13 ag (fun _ _=>lt ag ag) C<|aU 14 ag (bI ag) C<|aU 15 ag (mv) C<|iP (t:=63) ag (fun cL=> ?_) fun cL=> ?_
 refine bm 16 ag (fun _ _=>a8 (a6 xb) ag) C<|bm 17 ag (fun _ _=>nc ag) C<|bm 18 ag (fun _ _=>fa vf ag) C<|bm 19 ag (fun w' E=>ld bL ag<|Wk.a7 E<|bu) C<|bm 20 ag (fun _ _=>a8 (a6 xb) ag) C<|bm 21 ag (fun _ _=>nc ag) C<|bm 22 ag (fun _ _=>fa Ad ag) C<|bm 23 ag (fun w' E=>ld bL ag<|Wk.a7 E<|bs) C<|bm 24 ag (fun _ _=>le ag ag) C<|aU 25 ag (bI ag) C<|hn au<|br<|cd ag (fun cy=> ?_) fun cy=> ?_;have du:=av.wk C;have cs:=aS.trans<|Tw.wk C;have bC:=xQ al am cs.md;have dF:=bc dG C;have b6:=bc dM C;have dR:=oO.1<|ek (d:=0) (show i < (bq F (flagsOf xs (k:Int)) 2).length by omega);obtain ⟨r,b8⟩:∃ r,F.rules[((bq F (flagsOf xs (k:Int)) 2).getD i 0)]? =some r:=⟨_,cz dR.1⟩
 have cG:F.rules.getD ((bq F (flagsOf xs (k:Int)) 2).getD i 0) dU=r:=by rw [da,b8]; rfl
 have aI:=Lm (g:=mh F xs k) 0 (show i < (bq F (flagsOf xs (k:Int)) 2).length by omega);have a9:=(Z.jG b8).2.2;obtain ⟨d6,d9,eq,rc,dX,ci,cE,ef⟩:=bC.jG b8;refine aT<|c9<|aH fun aN=>aW<|aH fun cS=> ?_;have J:(fun w'=>Wk Y.drew w') Y.drew.drew:=(Md.refl _ _).drew;refine cj (fun w'=>Wk Y.drew w') ag wide J<|bQ 0 ag (a6 tb) J<|aU 1 ag (nc ag) J<|aU 2 ag (fa oI ag) J<|bS 3 ag (fun w' E=>ld jc ag<|Wk.a7 E<|(bo bC.cells).trans ag) J<|aU 4 ag (nc ag) J<|aU 5 ag (fa kq ag) J<|bS 6 ag (fun w' E=>ld kM ag<|Wk.a7 E<|dX) J<|bQ 7 ag (.slice ab (bq F (flagsOf xs (k:Int)) 2).length ae) J<|bQ 8 ag (ay i) J<|aU 9 ag (bh kp ag ag aj<|aR.ok ((bg b6).2.wk J)<|bY aj) J<|bS 10 ag (fun w' E=>ld bL ag<|Wk.a7 E<|aR.gQ (i:=i) (bg b6).2<|oL aj) J<|aU 11 ag (bh pK ag ag aj<|aR.ok (ci.wk J)<|pQ cE) J<|bS 12 ag (fun w' E=>dp tp ag (ag) fun j a0=>fO (f:=kh) (m:=8) (fun _=>rfl) (ci.wk E) cE j a0) J<|bQ 13 ag (str x.1) J<|he 14 ag au<|cl CK (FG r _ x.1 Y.drew.drew (by unfold kt at a9; omega) (by unfold kt at a9; omega) (by unfold kt at a9; omega) aj) ag ?_;rintro v91 cO ⟨rfl,cn⟩;have aD:=J.trans cn;have aZ:=du.wk aD;have cu:=cs.trans<|Tw.wk aD;have di:=bC.wk aD;have b4:=bc dF aD;have a3:=bc b6 aD;have aq:(fun w'=>Wk Y.drew w') cO:=J.trans cn;refine ⟨aq,?_⟩;refine aU 15 ag (mv) aq<|aU 16 ag (xt ag ag) aq<|aU 17 ag (xt ag ag) aq<|aU 18 ag (aJ) aq<|aU 19 ag (aJ) aq<|hn au<|cS<|aH fun cT=>ak fun cU=>p mv<|p (no ag)<|nl<|cU<|cb ag (fun bZ=> ?_) fun bZ=> ?_;have aF:eO r x.1=none:=by simpa using bZ
 have aG:mh F xs k ((bq F (flagsOf xs (k:Int)) 2).getD i 0)= []:=by unfold mh; rw [cG,bv,aF]
 rw [aG,eJ] at aI;exact ext<|bj<|be<|aN<|rg ag<|aw (ay i)<|p (bJ ((i+1:Nat):Int) ag ag<|bp aj aj)<|p aJ<|nl<|tn<|⟨_,aj,i+1,ah,aj,(by rw [aI]; exact aZ),cu,b4,a3,ag,ag⟩
 obtain ⟨wd,aF⟩:∃ v,eO r x.1=some v:=ot.1<|by simpa using bZ
 have aK:((eO r x.1).getD [])=wd:=by rw [aF]; rfl
 have aG:mh F xs k ((bq F (flagsOf xs (k:Int)) 2).getD i 0)=iL F xs k wd (((bq F (flagsOf xs (k:Int)) 2).getD i 0):Nat) (-1)++(bq F (cH F (((bq F (flagsOf xs (k:Int)) 2).getD i 0):Nat)) 2).flatMap (nZ F xs k wd (((bq F (flagsOf xs (k:Int)) 2).getD i 0):Nat)):=by unfold mh; rw [cG,bv,aF]
 have en:=tu (by unfold kt at a9; omega) aF;refine aT<|cT<|ak fun cV=>aw (a6 tb)<|aw (a6 xb)<|p mv<|aw (ay k)<|aw (.slice ab (bq F (flagsOf xs (k:Int)) 2).length ae)<|aw (ay i)<|p (bh kp ag ag aj<|aR.ok ((bg a3).2)<|bY aj)<|p (ld bL ag<|aR.gQ (i:=i) (bg a3).2<|oL aj)<|p (dt (ps:= [(1,ay k),(2,.int .i64 (((bq F (flagsOf xs (k:Int)) 2).getD i 0):Nat)),(3,.int .i64 (-1))]) (L:= [.string ⟨⟨[]⟩⟩,ay k,.int .i64 (((bq F (flagsOf xs (k:Int)) 2).getD i 0):Nat),.int .i64 (-1),.int .i64 0]) Gi ag<|ag)<|aw (.slice aa (bq F (flagsOf xs (k:Int)) 1).length ac)<|e<|cl CJ (GI B tb fb V ve F xs S0 xb dJ q most limit (ju q most limit acc<|iL F xs k x.1 (-1) (-1)++((bq F (flagsOf xs (k:Int)) 2).take i).flatMap (mh F xs k)) ah ((eO r x.1).getD []) [] k ((((bq F (flagsOf xs (k:Int)) 2).getD i 0):Nat):Int) (-1) 0 aa ac w.heap.size cO di Z aZ b1 b4 (.inr aj) (.inl ag)<|by rw [aK]; omega) ag ?_;rintro er d1 ⟨rfl,dd,cv,bK⟩;rw [aK,← xR] at cv;have bG:=cu.trans bK;have dz:=tO b4 aZ bK;have b5:=tO a3 aZ bK;have dg:=xQ al am bG.md;refine nl<|cV<|ak fun cW=>aw (a6 tb)<|aw (.slice ab (bq F (flagsOf xs (k:Int)) 2).length ae)<|aw (ay i)<|p (bh kp ag ag aj<|aR.ok ((bg b5).2)<|bY aj)<|p (ld bL ag<|aR.gQ (i:=i) (bg b5).2<|oL aj)<|e<|cl Sy (aca B tb fb V ve F xs (((bq F (flagsOf xs (k:Int)) 2).getD i 0):Nat) d1 dg Z) ag ?_;rintro es ew ⟨cC,aO⟩;obtain ⟨aA,aB,rfl⟩:=cM cC;have dn:=cv.wk aO;have dj:=bG.trans<|Tw.wk aO;have dA:=bc dz aO;have dH:=bc b5 aO;have dN:=eT cC (show w.heap.size≤_ from bG.md.size);have ei:=vC F (cH F (((bq F (flagsOf xs (k:Int)) 2).getD i 0):Nat)) 2
 refine az<|cW<|ak fun cX=>az<|cX<|aW<|lp (fun aC cQ O=> ∃ (j:Nat) (ai:Nat→Prop),(j≤(bq F (cH F (((bq F (flagsOf xs (k:Int)) 2).getD i 0):Nat)) 2).length)∧(jn O ai S0 xb dJ q most limit<|ju q most limit acc<|iL F xs k x.1 (-1) (-1)++((bq F (flagsOf xs (k:Int)) 2).take i).flatMap (mh F xs k)++(iL F xs k wd (((bq F (flagsOf xs (k:Int)) 2).getD i 0):Nat) (-1)++((bq F (cH F (((bq F (flagsOf xs (k:Int)) 2).getD i 0):Nat)) 2).take j).flatMap (nZ F xs k wd (((bq F (flagsOf xs (k:Int)) 2).getD i 0):Nat))))∧(Tw fp w ai O)∧(bB O w.heap.size 3 1 (.slice aa (bq F (flagsOf xs (k:Int)) 1).length ac) (bq F (flagsOf xs (k:Int)) 1).length<|(bq F (flagsOf xs (k:Int)) 1).map bV)∧(bB O w.heap.size 3 1 (.slice ab (bq F (flagsOf xs (k:Int)) 2).length ae) (bq F (flagsOf xs (k:Int)) 2).length<|(bq F (flagsOf xs (k:Int)) 2).map bV)∧(bB O w.heap.size 3 1 (.slice aA (bq F (cH F (((bq F (flagsOf xs (k:Int)) 2).getD i 0):Nat)) 2).length aB) (bq F (cH F (((bq F (flagsOf xs (k:Int)) 2).getD i 0):Nat)) 2).length<|(bq F (cH F (((bq F (flagsOf xs (k:Int)) 2).getD i 0):Nat)) 2).map bV)∧(Sl cQ [(0,a6 tb),(1,ay k),(2,a6 xb),(6,str x.1),(7,.slice aa (bq F (flagsOf xs (k:Int)) 1).length ac),(8,.slice ab (bq F (flagsOf xs (k:Int)) 2).length ae),(9,ay i),(10,str ((eO r x.1).getD [])),(12,.slice aA (bq F (cH F (((bq F (flagsOf xs (k:Int)) 2).getD i 0):Nat)) 2).length aB),(13,ay j)])∧((bq F (cH F (((bq F (flagsOf xs (k:Int)) 2).getD i 0):Nat)) 2).length - j=aC)) _ ⟨0,dd,aj,(by simpa using dn),dj,dA,dH,dN,ag,ag⟩ ?_;rintro aC cQ O ⟨j,ai,a0,ax,aY,a1,a4,dP,dT,rfl⟩;refine bH dT<|aH fun cY=>aH fun bk=> ?_;obtain ⟨db,c1,c2,c3,bs,bt,bu⟩:=ax.a7;have A:(fun w'=>Wk O w') O.drew:=(Md.refl _ _).drew;refine cj (fun w'=>Wk O w') ag wide A<|bQ 0 ag (ay j) A<|bS 1 ag (fun _ _=>a8 (.slice aA (bq F (cH F (((bq F (flagsOf xs (k:Int)) 2).getD i 0):Nat)) 2).length aB) ag) A<|aU 2 ag (bN mI ag ag) A<|aU 3 ag (lt ag ag) A<|aU 4 ag (mv) A<|iP (t:=117) ag (fun dx=> ?_) fun dx=> ?_;refine bm 5 ag (fun _ _=>a8 (a6 xb) ag) A<|bm 6 ag (fun _ _=>nc ag) A<|bm 7 ag (fun _ _=>fa vd ag) A<|bm 8 ag (fun w' E=>ld bL ag<|Wk.a7 E<|bt) A<|bm 9 ag (fun _ _=>a8 (a6 xb) ag) A<|bm 10 ag (fun _ _=>nc ag) A<|bm 11 ag (fun _ _=>fa Ac ag) A<|bm 12 ag (fun w' E=>ld bL ag<|Wk.a7 E<|c3) A<|bm 13 ag (fun _ _=>lt ag ag) A<|aU 14 ag (bI ag) A<|aU 15 ag (mv) A<|iP (t:=128) ag (fun cN=> ?_) fun cN=> ?_;refine bm 16 ag (fun _ _=>a8 (a6 xb) ag) A<|bm 17 ag (fun _ _=>nc ag) A<|bm 18 ag (fun _ _=>fa vf ag) A<|bm 19 ag (fun w' E=>ld bL ag<|Wk.a7 E<|bu) A<|bm 20 ag (fun _ _=>a8 (a6 xb) ag) A<|bm 21 ag (fun _ _=>nc ag) A<|bm 22 ag (fun _ _=>fa Ad ag) A<|bm 23 ag (fun w' E=>ld bL ag<|Wk.a7 E<|bs) A<|bm 24 ag (fun _ _=>le ag ag) A<|aU 25 ag (bI ag) A<|hn au<|bk<|cd ag (fun cA=> ?_) fun cA=> ?_;have dq:=ax.wk A;have co:=aY.trans<|Tw.wk A;have bA:=xQ al am co.md;have dB:=bc a1 A;have dI:=bc a4 A;have b7:=bc dP A;have d0:=oO.1<|ek (d:=0) (show j < (bq F (cH F (((bq F (flagsOf xs (k:Int)) 2).getD i 0):Nat)) 2).length by omega)
 obtain ⟨an,b9⟩:∃ r,F.rules[((bq F (cH F (((bq F (flagsOf xs (k:Int)) 2).getD i 0):Nat)) 2).getD j 0)]? =some r:=⟨_,cz d0.1⟩
 have cI:F.rules.getD ((bq F (cH F (((bq F (flagsOf xs (k:Int)) 2).getD i 0):Nat)) 2).getD j 0) dU=an:=by rw [da,b9]; rfl
 have bb:=Lm (g:=nZ F xs k wd (((bq F (flagsOf xs (k:Int)) 2).getD i 0):Nat)) 0 (show j < (bq F (cH F (((bq F (flagsOf xs (k:Int)) 2).getD i 0):Nat)) 2).length by omega);have ba:=(Z.jG b9).2.2;obtain ⟨d7,ea,ez,eA,dY,ck,cF,eg⟩:=bA.jG b9;refine aT<|cY<|aH fun cc=>aW<|aH fun cZ=> ?_;have I:(fun w'=>Wk O.drew w') O.drew.drew:=(Md.refl _ _).drew;refine cj (fun w'=>Wk O.drew w') ag wide I<|bQ 0 ag (a6 tb) I<|aU 1 ag (nc ag) I<|aU 2 ag (fa oI ag) I<|bS 3 ag (fun w' E=>ld jc ag<|Wk.a7 E<|(bo bA.cells).trans ag) I<|aU 4 ag (nc ag) I<|aU 5 ag (fa kq ag) I<|bS 6 ag (fun w' E=>ld kM ag<|Wk.a7 E<|dY) I<|bS 7 ag (fun _ _=>a8 (.slice aA (bq F (cH F (((bq F (flagsOf xs (k:Int)) 2).getD i 0):Nat)) 2).length aB) ag) I<|bQ 8 ag (ay j) I<|aU 9 ag (bh kp ag ag aj<|aR.ok ((bg b7).2.wk I)<|bY aj) I<|bS 10 ag (fun w' E=>ld bL ag<|Wk.a7 E<|aR.gQ (i:=j) (bg b7).2<|oL aj) I<|aU 11 ag (bh pK ag ag aj<|aR.ok (ck.wk I)<|pQ cF) I<|bS 12 ag (fun w' E=>dp tp ag (ag) fun j a0=>fO (f:=kh) (m:=8) (fun _=>rfl) (ck.wk E) cF j a0) I<|bQ 13 ag (str<|(eO r x.1).getD []) I<|he 14 ag au<|cl CK (FG an _ ((eO r x.1).getD []) O.drew.drew (by unfold kt at ba; omega) (by unfold kt at ba; omega) (by unfold kt at ba; omega)<|by rw [aK]; omega) ag ?_;rintro et aL ⟨rfl,cm⟩;have ao:=I.trans cm;have bT:=dq.wk ao;have cp:=co.trans<|Tw.wk ao;have dh:=bA.wk ao;have b3:=bc dB ao;have a2:=bc dI ao;have a5:=bc b7 ao;have ap:(fun w'=>Wk O.drew w') aL:=I.trans cm;refine ⟨ap,?_⟩;refine aU 15 ag (mv) ap<|aU 16 ag (xt ag ag) ap<|aU 17 ag (xt ag ag) ap<|aU 18 ag (aJ) ap<|aU 19 ag (aJ) ap<|hn au<|cZ<|aH fun c0=>rg ag<|p mv<|nl<|c0<|cb ag (fun bX=> ?_) fun bX=> ?_;obtain ⟨v2,cJ⟩:∃ v,eO an ((eO r x.1).getD [])=some v:=ot.1 bX;have cK:(eO an<|(eO r x.1).getD []).getD []=v2:=by rw [cJ]; rfl
 have bd:eO an wd=some v2:=by rw [← aK]; exact cJ
 have ca:nZ F xs k wd (((bq F (flagsOf xs (k:Int)) 2).getD i 0):Nat) ((bq F (cH F (((bq F (flagsOf xs (k:Int)) 2).getD i 0):Nat)) 2).getD j 0)=iL F xs k v2 (((bq F (flagsOf xs (k:Int)) 2).getD i 0):Nat) (((bq F (cH F (((bq F (flagsOf xs (k:Int)) 2).getD i 0):Nat)) 2).getD j 0):Nat):=by unfold nZ; rw [cI,bd]
 have em:=tu (by unfold kt at ba; omega) bd;rw [ca] at bb;have G:(fun w'=>Wk aL w') aL.drew:=(Md.refl _ _).drew;refine fj (fun w'=>Wk aL w') 14 ag wide G<|bM 0 ag (a6 tb) G<|bM 1 ag (a6 xb) G<|bR 2 ag (mv) G<|bM 3 ag (ay k) G<|bM 4 ag (.slice ab (bq F (flagsOf xs (k:Int)) 2).length ae) G<|bM 5 ag (ay i) G<|bR 6 ag (bh kp ag ag aj<|aR.ok ((bg a2).2.wk G)<|bY aj) G<|ej 7 ag (fun w' E=>ld bL ag<|Wk.a7 E<|aR.gQ (i:=i) (bg a2).2<|oL aj) G<|kB 8 ag (fun _=>a8 (.slice aA (bq F (cH F (((bq F (flagsOf xs (k:Int)) 2).getD i 0):Nat)) 2).length aB) ag) (fun _=>G)<|bM 9 ag (ay j) G<|bR 10 ag (bh kp ag ag aj<|aR.ok ((bg a5).2.wk G)<|bY aj) G<|ej 11 ag (fun w' E=>ld bL ag<|Wk.a7 E<|aR.gQ (i:=j) (bg a5).2<|oL aj) G<|kB 12 ag (fun _=>dt (ps:= [(1,ay k),(2,.int .i64 (((bq F (flagsOf xs (k:Int)) 2).getD i 0):Nat)),(3,.int .i64 (((bq F (cH F (((bq F (flagsOf xs (k:Int)) 2).getD i 0):Nat)) 2).getD j 0):Nat))]) (L:= [.string ⟨⟨[]⟩⟩,ay k,.int .i64 (((bq F (flagsOf xs (k:Int)) 2).getD i 0):Nat),.int .i64 (((bq F (cH F (((bq F (flagsOf xs (k:Int)) 2).getD i 0):Nat)) 2).getD j 0):Nat),.int .i64 0]) Gi ag<|ag) (fun _=>G)<|bM 13 ag (.slice aa (bq F (flagsOf xs (k:Int)) 1).length ac) G<|eb 14 ag au au<|cl CJ (GI B tb fb V ve F xs S0 xb dJ q most limit (ju q most limit acc<|iL F xs k x.1 (-1) (-1)++((bq F (flagsOf xs (k:Int)) 2).take i).flatMap (mh F xs k)++(iL F xs k wd (((bq F (flagsOf xs (k:Int)) 2).getD i 0):Nat) (-1)++((bq F (cH F (((bq F (flagsOf xs (k:Int)) 2).getD i 0):Nat)) 2).take j).flatMap (nZ F xs k wd (((bq F (flagsOf xs (k:Int)) 2).getD i 0):Nat)))) ai ((eO an<|(eO r x.1).getD []).getD []) [] k ((((bq F (flagsOf xs (k:Int)) 2).getD i 0):Nat):Int) ((((bq F (cH F (((bq F (flagsOf xs (k:Int)) 2).getD i 0):Nat)) 2).getD j 0):Nat):Int) 0 aa ac w.heap.size aL.drew (dh.wk G) Z (bT.wk G) b1 (bc b3 G) (.inr aj) (.inr aj)<|by rw [cK]; omega) ag ?_;rintro eu ex ⟨rfl,de,cw,aP⟩;rw [cK,← xR] at cw;have bU:=bT.wk G;have dk:=(cp.trans<|Tw.wk G).trans aP;have dC:=tO (bc b3 G) bU aP;have dK:=tO (bc a2 G) bU aP;have dO:=tO (bc a5 G) bU aP;exact fi au<|bn<|cc<|rg ag<|aw (ay j)<|p (bJ ((j+1:Nat):Int) ag ag<|bp aj aj)<|p aJ<|nl<|tn<|⟨_,aj,j+1,de,aj,(by rw [bb,← e6 (iL F xs k wd (((bq F (flagsOf xs (k:Int)) 2).getD i 0):Nat)<|-1),← e6]; exact cw),dk,dC,dK,dO,ag,ag⟩
 have bd:eO an wd=none:=by rw [← aK]; simpa using bX
 have ca:nZ F xs k wd (((bq F (flagsOf xs (k:Int)) 2).getD i 0):Nat) ((bq F (cH F (((bq F (flagsOf xs (k:Int)) 2).getD i 0):Nat)) 2).getD j 0)= []:=by unfold nZ; rw [cI,bd]
 rw [ca,eJ] at bb;exact aT<|bn<|cc<|rg ag<|aw (ay j)<|p (bJ ((j+1:Nat):Int) ag ag<|bp aj aj)<|p aJ<|nl<|tn<|⟨_,aj,j+1,ai,aj,(by rw [bb]; exact bT),cp,b3,a2,a5,ag,ag⟩
 exact ext<|bj<|bj<|be<|bn<|aN<|rg ag<|aw (ay i)<|p (bJ ((i+1:Nat):Int) ag ag<|bp aj aj)<|p aJ<|nl<|tn<|⟨_,aj,i+1,ai,aj,(by rw [aI,aG,← e6 (iL F xs k x.1 (-1)<|-1)]; rw [MB (Ei cA)]; exact ax.wk A),(aY.trans<|Tw.wk A),(bc a1 A),(bc a4 A),ag,ag⟩
 exact bf 16 ag A<|bf 17 ag A<|bf 18 ag A<|bf 19 ag A<|bf 20 ag A<|bf 21 ag A<|bf 22 ag A<|bf 23 ag A<|bf 24 ag A<|aU 25 ag (bD ag) A<|hn au<|bk<|cf ag<|ext<|bj<|bj<|be<|bn<|aN<|rg ag<|aw (ay i)<|p (bJ ((i+1:Nat):Int) ag ag<|bp aj aj)<|p aJ<|nl<|tn<|⟨_,aj,i+1,ai,aj,(by rw [aI,aG,← e6 (iL F xs k x.1 (-1)<|-1)]; rw [MB (Ej cN)]; exact ax.wk A),(aY.trans<|Tw.wk A),(bc a1 A),(bc a4 A),ag,ag⟩
 refine bf 5 ag A<|bf 6 ag A<|bf 7 ag A<|bf 8 ag A<|bf 9 ag A<|bf 10 ag A<|bf 11 ag A<|bf 12 ag A<|bf 13 ag A<|aU 14 ag (bD ag) A<|aU 15 ag (mv) A<|bf 16 ag A<|bf 17 ag A<|bf 18 ag A<|bf 19 ag A<|bf 20 ag A<|bf 21 ag A<|bf 22 ag A ?_;exact bf 23 ag A<|bf 24 ag A<|aU 25 ag (bD ag) A<|hn au<|bk<|cf ag<|ext<|bj<|bj<|be<|bn<|aN<|rg ag<|aw (ay i)<|p (bJ ((i+1:Nat):Int) ag ag<|bp aj aj)<|p aJ<|nl<|tn<|⟨_,aj,i+1,ai,aj,(by rw [aI,aG,← e6 (iL F xs k x.1 (-1)<|-1)]; rw [eK (show (bq F (cH F (((bq F (flagsOf xs (k:Int)) 2).getD i 0):Nat)) 2).length≤j by omega)] at ax; exact ax.wk A),(aY.trans<|Tw.wk A),(bc a1 A),(bc a4 A),ag,ag⟩
 exact ext<|bj<|bj<|be<|f0 ag<|⟨ag,ah,by rw [bF,b0,EG (Ei cy)]; exact av.wk C,aS.trans<|Tw.wk C⟩
 refine bf 16 ag C<|bf 17 ag C<|bf 18 ag C<|bf 19 ag C<|bf 20 ag C<|bf 21 ag C<|bf 22 ag C<|bf 23 ag C<|bf 24 ag C<|aU 25 ag (bD ag) C<|hn au<|br<|cf ag<|ext<|bj<|bj<|be<|f0 ag ?_;exact ⟨ag,ah,by rw [bF,b0,EG (Ej cL)]; exact av.wk C,aS.trans<|Tw.wk C⟩;refine bf 5 ag C<|bf 6 ag C<|bf 7 ag C<|bf 8 ag C<|bf 9 ag C<|bf 10 ag C<|bf 11 ag C<|bf 12 ag C<|bf 13 ag C<|aU 14 ag (bD ag) C<|aU 15 ag (mv) C<|bf 16 ag C<|bf 17 ag C<|bf 18 ag C<|bf 19 ag C<|bf 20 ag C<|bf 21 ag C<|bf 22 ag C ?_;refine bf 23 ag C<|bf 24 ag C<|aU 25 ag (bD ag) C<|hn au<|br<|cf ag<|ext<|bj<|bj<|be<|f0 ag ?_;rw [eK aj] at av;exact ⟨ag,ah,by rw [bF,b0]; exact av.wk C,aS.trans<|Tw.wk C⟩
end Go.Hb
end
section
namespace Go.Hb
open Go.Hb.uC
theorem Kx (A s1:Tx) (a0 E I d0 C G c1 d1:Int) (w:World):(binOp .eql 49 (.agg [str A,.int .i64 a0,.int .i64 E,.int .i64 I,.int .i64 d0].toArray)<|.agg [str s1,.int .i64 C,.int .i64 G,.int .i64 c1,.int .i64 d1].toArray).run aE w= .ok (.bool<|decide (A=s1∧a0=C∧E=G∧I=c1∧d0=d1)) w:=by
 have O:=underlying9;have V:=underlying3;have J:aE.underlying 49=some (.struct<|aE.fieldsOf 49):=au;have hp:aE.stoodInHeld 49=false :=au;rw [run_eql_struct,show (10000:Nat)=9999 +1 from rfl,run_equalIn_agg w 9999 49 _ _ J hp];simp only [Program.fieldsOf,G8];have hs:(str A=str s1)=(A=s1):=by unfold str; simp
 unfold str at*;go_simp;by_cases h1:A=s1 <;> by_cases h2:a0=C <;> by_cases h3:E=G <;> by_cases h4:I=c1 <;> by_cases h5:d0=d1 <;> simp [h1,h2,h3,h4,h5]
section
variable {N:Fm} {σ:Nat→Value} {w:World} {dst:Option Nat} {ty:TypeId} {pos :String} {af:Array Edge} {g:Option (Nat×Bool)} {x y:Operand}
theorem W6 {Y:TypeId} {I s1:Tx} {a0 C G d0 A E c1 d1:Int} (O:ev N σ x= .agg [str I,.int .i64 a0,.int .i64 C,.int .i64 G,.int .i64 d0].toArray) (V:ev N σ y= .agg [str s1,.int .i64 A,.int .i64 E,.int .i64 c1,.int .i64 d1].toArray):
 (execOp (ev N σ) ⟨dst,.binOp .eql 49 x y Y,ty,pos,af,g⟩).run aE w= .ok (.value<|.bool<|decide (I=s1∧a0=A∧C=E∧G=c1∧d0=d1)) w:=by
 have hm:aE.eqGuardType aE.depth 49=false :=au;have J:=run_eqGuard_agg w .eql 49 x y [str I,.int .i64 a0,.int .i64 C,.int .i64 G,.int .i64 d0].toArray [str s1,.int .i64 A,.int .i64 E,.int .i64 c1,.int .i64 d1].toArray hm;have he:=Kx I s1 a0 C G d0 A E c1 d1 w;simp only [execOp,O,V,o0,J,he,oZ,rQ]
end
theorem zN {l:List bO} (h:0 < l.length):gl l≠[]:=DU (f:=ei) (m:=5) (fun _=>rfl) aM h
theorem AT {w:World} {B e:Nat} {a:Option Addr} {L:List bO} {c:Nat} (h:bB w B e 5 (.slice a L.length c) L.length (gl L)):aR w.heap a (gl L):=(bg h).2
end Go.Hb
end
section
namespace Go.Hb
noncomputable def AG (F:aX) (xs:List bE) (n f s p:Int):Option Tx:=if 0≤n∧n < xs.length then ik F xs n.toNat f s p else none
theorem aaA {F:aX} {xs:List bE} {n f s p:Int} (h:¬(0≤n∧n < xs.length)):AG F xs n f s p=none:=if_neg h
theorem xW {F:aX} {xs:List bE} {k:Nat} {f s p:Int} (h:k < xs.length):AG F xs k f s p=ik F xs k f s p:=by unfold AG; rw [if_pos aj,kH]
def nP (F:aX) (xs:List bE) (k:Nat) (f:Int):Nat→List Nat
 | 0=>bq F (flagsOf xs k) 2
 | 1=>bq F (cH F f) 2
 | _=>bq F (flagsOf xs k) 1
def rq (f s p:Int):Nat→Int
 | 0=>f
 | 1=>s
 | _=>p
noncomputable def lk (F:aX) (xs:List bE) (k:Nat) (f s p:Int):Nat→Option Tx
 | 0=>some (xs.getD k ([],[])).1
 | i+1=>(lk F xs k f s p i).bind<|ig F (nP F xs k f i)<|rq f s p i
section
variable {F:aX} {xs:List bE} {k:Nat} {f s p:Int}
theorem E6 (h:f= -1∧s≠ -1):ik F xs k f s p=none:=if_pos h
theorem xY (h:¬(f= -1∧s≠ -1)):ik F xs k f s p=(lk F xs k f s p 3).bind fun u=>if fK F xs k f s p=true then some u else none:=by
 unfold ik;rw [if_neg h];show _=(((some (xs.getD k ([],[])).1).bind<|ig F (bq F (flagsOf xs k) 2) f).bind (ig F (bq F (cH F f) 2) s) |>.bind (ig F (bq F (flagsOf xs k) 1) p)).bind _;rw [rW,Rb,Rb]
theorem Nf {i:Nat} (h:lk F xs k f s p i=none):∀ j,lk F xs k f s p (i+j)=none
 | 0=>h
 | j+1=>by
   show (lk F xs k f s p<|i+j).bind _=none;rw [Nf h j]; rfl
theorem Gm {L:List Nat} {n:Int} {u v:Tx} (A:∀ i∈L,i < F.rules.length) (C: -1≤n) (h:ig F L n u=some v):Rn F n:=by
 unfold ig at h;unfold Rn;by_cases h1:n= -1
 · exact .inl h1
 · rw [if_neg h1] at h;by_cases h2:n.toNat∈L
   · have :=A _ h2; omega
   · rw [if_neg h2] at h; cases h
theorem ado {L:List Nat} {n:Nat} {u:Tx} (h:n∈L):ig F L n u=eO (F.rules.getD n dU) u:=by unfold ig; rw [if_neg aj,kH,if_pos h]
theorem adq {L:List Nat} {n:Nat} {u:Tx} (h:n∉L):ig F L n u=none:=by unfold ig; rw [if_neg aj,kH,if_neg h]
theorem xX (i:Nat):∀ j∈nP F xs k f i,j < F.rules.length:=by
 intro j A;unfold nP at A;split at A <;> exact (oO.1 A).1
theorem aaB (i:Nat):(nP F xs k f i).length≤F.rules.length:=by
 unfold nP;split <;> exact vC _ _ _
theorem Ng {u:Tx} (A: -1≤f) (hs: -1≤s) (hp: -1≤p) (h:lk F xs k f s p 3=some u):Rn F f∧Rn F s∧Rn F p:=by
 obtain ⟨E,h2,h3⟩:=tg.1 (show (lk F xs k f s p 2).bind _=some u from h);obtain ⟨C,h1,h2⟩:=tg.1 (show (lk F xs k f s p 1).bind _=some E from h2);obtain ⟨G,_,h1⟩:=tg.1 (show (lk F xs k f s p 0).bind _=some C from h1);exact ⟨Gm (xX 0) A h1,Gm (xX 1) hs h2,Gm (xX 2) hp h3⟩
end
theorem adp {F:aX} {xs:List bE} (C:eH F xs) {L:List Nat} {n:Int} {u v:Tx} (E:∀ i∈L,i < F.rules.length) (h:ig F L n u=some v):v.length≤u.length+32:=by
 unfold ig at h;by_cases h1:n= -1
 · rw [if_pos h1] at h; cases h; omega
 · rw [if_neg h1] at h;by_cases h2:n.toNat∈L
   · rw [if_pos h2] at h;obtain ⟨r,A⟩:∃ r,F.rules[n.toNat]? =some r:=⟨_,cz<|E _ h2⟩
     rw [da,A] at h;exact (tu (oS C A).2.2.2 h).2
   · rw [if_neg h2] at h; cases h
def NR (p:Value×Value):List Value:= [p.1,p.2]
theorem Zk (a:Option Addr) (c:Nat) (l:List Nat) (x:Nat) (w:World) (E:aR w.heap a (l.map bV)) (ao:l.length≤1048576):
 bw aE 144 (bl [.slice a l.length c,ay x]) w (fun v w'=>(∃ k:Int,v= .int .i64 k∧(0≤k↔x∈l)∧ -1≤k∧k≤1048576)∧Wk w w'):=by
 refine enter func144 ag ntmps144 ag<|ak fun Y=>az<|Y<|aH fun Z=>ak fun aa=>aw (.slice a l.length c)<|p (bN mI ag ag)<|p mv<|nl<|aa<|aW<|lp (fun C V O=> ∃ (i:Nat),(i≤l.length)∧(∀ j,j < i→l.getD j 0≠x)∧(O=w)∧(Sl V [(0,.slice a l.length c),(1,ay x),(7,ay (l.length)),(8,ay i)])∧(l.length - i=C)) _ ⟨0,aj,(fun j I=>by omega),ag,ag,ag⟩ ?_;rintro C V O ⟨i,hi,J,al,an,rfl⟩;refine bH an ?_;subst al;refine ak fun ab=>p (lt ag ag)<|nl<|ab<|aH fun ac=>cd ag (fun am=> ?_) fun am=> ?_;refine aT<|ac<|aH fun A=>aW<|ak fun ae=>aw (ay i)<|p (cV (ay i) ag)<|nl<|ae<|ak fun ah=>aw (ay x)<|aw (.slice a l.length c)<|aw (ay i)<|p (bh kp ag ag aj<|aR.ok (E)<|bY aj)<|p (ld bL ag<|aR.gQ E (show (l.map bV)[i]? =some (ay<|l.getD i 0) by rw [gi,da,cz (by omega :i < l.length)]; rfl)) ?_;refine p (bT ag ag)<|nl<|ah<|cd ag (fun G=> ?_) fun G=> ?_;exact ak fun ai=>aw (ay i)<|p (cV (ay i) ag)<|nl<|ai<|rt<|br<|tr<|tr<|br<|tr<|ba ag<|⟨⟨(i:Nat),ag,⟨fun _=>by obtain rfl :x=l.getD i 0:=aj; exact ek aj,fun _=>by omega⟩,aj,aj⟩,Md.refl _ _⟩
 exact aT<|bn<|A<|rg ag<|p (ad ag ag<|cR aj)<|p mv<|nl<|tn<|⟨_,aj,i+1,aj,(fun j I=>by rcases fT j i with h | h <;> first | exact J j h | (rw [show j=i by omega]; exact fun h2=>G<|by rw [h2])),ag,ag,ag⟩
 exact ext<|bj<|bj<|be<|Z<|ak fun A=>p aJ<|nl<|A<|rt<|ba ag<|⟨⟨-1,ag,⟨fun h=>absurd h aj,fun h=>by obtain ⟨j,I,e⟩:=mY 0 h; exact absurd e<|J j aj⟩,aj,aj⟩,Md.refl _ _⟩
theorem Vy (a:Option Addr) (c:Nat) (l:List Nat) (x:Nat) (w:World) (E:aR w.heap a (l.map bV)) (I:l.length≤1048576):
 bw aE 88 (bl [.slice a l.length c,ay x]) w (fun v w'=>v= .bool (decide (x∈l))∧Wk w w'):=by
 refine enter func88 ag ntmps88 ag<|ak fun A=>az<|A<|ak fun C=>aw (.slice a l.length c)<|aw (ay x)<|e<|cl SM (Zk a c l x w E I) ag ?_;rintro V Y ⟨⟨J,rfl,G,O⟩,hE7⟩;exact p (ge ag ag)<|az<|C<|rt<|ba ag<|⟨by show cy (decide (J≥0))=_; exact congrArg cy (decide_eq_decide.2 G),hE7⟩
theorem adr (F:aX) (xs:List bE) (I:eH F xs) (ar:Option Addr) (cr:Nat) (rn:List Value) (a:Option Addr) (c:Nat) (L:List Nat) (n:Int) (u:Tx) (w:World) (O:aR w.heap ar (iQ<|F.rules.zip rn)) (ap:rn.length=F.rules.length) (ah:aR w.heap a (L.map bV)) (al:∀ i∈L,i < F.rules.length) (ai:L.length≤1048576) (au: -1≤n) (av:u.length≤1048576):
 bw aE 48 (bl [.slice ar F.rules.length cr,.slice a L.length c,.int .i64 n,str u]) w (fun v w'=>v=x6 (ig F L n u)∧Wk w w'):=by
 refine enter func48 ag ntmps48 ag<|ak fun Z=>p aJ<|az<|Z<|aH fun aa=>aH fun ab=>rg ag<|p mv<|p (bT ag ag)<|nl<|ab<|cd ag (fun h1=> ?_) fun h1=> ?_;obtain rfl :n= -1:=h1;exact ak fun E=>p mv<|p aJ<|az<|E<|rt<|tr<|f2 ag ag ag<|⟨by rw [yn]; rfl,Md.refl _ _⟩
 obtain ⟨m,rfl⟩:∃ m:Nat,n=(m:Int):=⟨n.toNat,aj⟩
 refine aT<|aa<|aH fun E=>ak fun ac=>p mv<|p mv<|e<|cl Up (Vy a c L m w ah ai) ag ?_;rintro aw aq ⟨rfl,C⟩;refine p (no ag)<|nl<|ac<|cb ag (fun J=> ?_) fun J=> ?_;have am:m∉L:=by simpa using J
 exact ak fun G=>p aJ<|az<|G<|rt<|tr<|f2 ag ag ag<|⟨by rw [adq am]; rfl,C⟩
 have V:m∈L:=by simpa using J
 obtain ⟨r,A⟩:∃ r,F.rules[m]? =some r:=⟨_,cz<|al m V⟩
 have ao:=(fS.1 A).1;have Y:(F.rules.zip rn)[m]? =some (r,rn[m]'(by rw [ap]; exact ao)):=j9.2 ⟨A,cz _⟩;have an:F.rules.getD m dU=r:=by rw [da,A]; rfl
 refine aT<|E<|ak fun G=>p mv<|p mv<|p (bh nH ag ag aj<|aR.ok (O.wk C)<|oV Y)<|p (dp l6 ag (ag)<|fO (f:=fk) (m:=7) (fun _=>rfl) (O.wk C) Y)<|p mv<|e<|cl Uq (RX r _ u aq (oS I A).1 (oS I A).2.1 (oS I A).2.2.1 aj) ag ?_;rintro v22 ax ⟨rfl,ae⟩;exact p (xt ag ag)<|p (xt ag ag)<|p aJ<|az<|G<|rt<|f2 ag ag ag<|⟨by rw [ado V,an]; rfl,C.trans ae⟩
theorem aaj (B tb:Nat) (U:gO) (F:aX) (xs:List bE) (bd:Tx) (n f s E:Int) (w:World) (bR:gj w B tb U F xs) (I:eH F xs) (cK: -1≤f) (cY: -1≤s) (cT: -1≤E):
 bw aE 25 (bl [a6 tb,.agg [str bd,.int .i64 n,.int .i64 f,.int .i64 s,.int .i64 E].toArray]) w (fun v w'=>v=x6 (AG F xs n f s E)∧Wk w w'):=by
 refine enter func25 ag ntmps25 ag<|ak fun b9=>e<|je ag fun aL b5 a1 aP cs=> ?_;have df:=aP.size;have cE:=bR.wk aP.md;have a1:bX b5.heap aL [str bd,.int .i64 n,.int .i64 f,.int .i64 s,.int .i64 E]:=cs;refine p aJ<|az<|b9<|ak fun ce=>p mv<|p (fa pN ag)<|p (ld bL ag<|a1.bF 1)<|e<|cl qZ (xq B tb U F xs n b5 cE I) ag ?_;rintro di c3 ⟨⟨c5,rfl,cR⟩,hE16⟩;obtain ⟨cm,co,rfl⟩:=cM cR;have de:=hE16.size;refine p mv<|p (xt ag ag)<|p (xt ag ag)<|e<|al rJ fun bm dq bZ bO cu=> ?_;have dh:=bO.size;refine e<|dy kO ag ag ag ag (cu) (by simp) fun bh bK cq=> ?_;have cB:Wk c3 bh:=bO.md.trans' bK fun q cU h=>by omega
 have dc:=bK.size;have bZ:bX bh.heap bm [str (kQ xs n),.slice cm (flagsOf xs n).length co]:=cq;have bA:=hE16.trans cB;have ae:=aP.md.trans bA;have aF:=bR.wk ae;have a2:=Wk.B bA a1;refine az<|ce ?_;refine ez (fun b8 bf=>(bf=bh)∧(0≤n∧n < xs.length)∧(¬(f= -1∧s≠ -1))∧(Sl b8 [(0,a6 tb),(3,a6 aL),(6,a6 bm)])) ?_ ?_;refine ak fun ao=>p mv<|p (no ag)<|p mv<|gb (t:=21) ag (fun aq=> ?_) fun aq=> ?_;have cS:¬(0≤n∧n < xs.length):=fun h=>by rw [decide_eq_true h] at aq; cases aq
 exact aQ ag<|aQ ag<|aQ ag<|aQ ag<|eC ag<|eC ag<|eC ag<|aQ ag<|p (bI ag)<|nl<|ao<|ct ag<|ak fun ap=>p aJ<|p aJ<|nl<|ap<|rt<|tr<|f2 ag ag ag<|⟨by rw [aaA cS]; rfl,ae⟩
 have a9:0≤n∧n < xs.length:=yC fun h=>by rw [decide_eq_false h] at aq; cases aq
 refine aV ag (fa nJ ag)<|aV ag (ld bL ag<|a2.bF 2)<|aV ag (bT ag ag)<|aV ag mv<|gs (t:=25) ag (fun a4=> ?_) fun a4=> ?_;refine aV ag (fa nK ag)<|aV ag (ld bL ag<|a2.bF 3)<|aV ag (dw ag ag)<|aV ag (bI ag)<|p (bD ag)<|nl<|ao<|cd ag (fun ax=> ?_) fun ax=> ?_;refine ak fun ap=>p aJ<|az<|ap<|rt<|tr<|f2 ag ag ag ?_;obtain ⟨k,rfl⟩:∃ m:Nat,n=(m:Int):=⟨n.toNat,aj⟩
 exact ⟨by rw [xW aj,E6 ⟨a4,ax⟩]; rfl,ae⟩;exact aT<|tn<|⟨ag,a9,(fun h=>ax h.2),ag⟩
 exact aQ ag<|aQ ag<|aQ ag<|aV ag (bD ag)<|p (bD ag)<|nl<|ao<|cf ag<|aT<|tn<|⟨ag,a9,(fun h=>a4 h.1),ag⟩
 rintro b8 bf ⟨c1,a9,a5,ax⟩;refine bH ax ?_;subst c1;refine ak fun ao=>aw (a6 tb)<|p (nc ag)<|p (fa Aa ag)<|p (ld gP ag<|(bo aF.cells).trans ag)<|e<|cl zq (y1 B U.fb U.mc F U.V bf aF.fl (by have :=I.len; omega) I.nx) ag ?_;rintro v35 O ⟨⟨⟨v9,v10,v11,v12,sa,rn⟩,rfl,hax⟩,hE35⟩;obtain ⟨ar,cr,bc⟩:=cM hax.dR;have bc:v12=_:=bc;subst bc;have dg:=hE35.size;have b3:rn.length=F.rules.length:=by have :=hax.nx.1; rwa [List.length_map] at this
 have bz:aR O.heap ar (iQ<|F.rules.zip rn):=(bg hax.dR).2;have aa:=Wk.B hE35 a2;have cI:=Wk.B hE35 bZ;have bU:=(aF.wk hE35).wk (Md.refl _ _).drew;refine p (KE KF ag ag)<|az<|ao<|ak fun ap=>p (fa Aj ag)<|p (ld bW ag<|cI.bF 0)<|az<|ap<|aH fun cg=>aH fun ch=> ?_;have G:(fun w'=>Wk O w') O.drew:=(Md.refl _ _).drew;refine cj (fun w'=>Wk O w') ag wide G<|bQ 0 ag (a6 tb) G<|aU 1 ag (fa pN ag) G<|bS 2 ag (fun w' J=>ld bL ag<|Wk.a7 J<|aa.bF 1) G<|aU 4 ag (fa nJ ag) G<|bS 5 ag (fun w' J=>ld bL ag<|Wk.a7 J<|aa.bF 2) G<|bQ 7 ag (a6 tb) G<|aU 8 ag (fa nJ ag) G<|bS 9 ag (fun w' J=>ld bL ag<|Wk.a7 J<|aa.bF 2) G<|aU 11 ag (fa nK ag) G<|bS 12 ag (fun w' J=>ld bL ag<|Wk.a7 J<|aa.bF 3) G<|bQ 14 ag (a6 tb) G<|aU 15 ag (fa pN ag) G<|bS 16 ag (fun w' J=>ld bL ag<|Wk.a7 J<|aa.bF 1) G<|aU 18 ag (fa rk ag) G<|bS 19 ag (fun w' J=>ld bL ag<|Wk.a7 J<|aa.bF 4) G<|aU 23 ag (mv) G<|he 3 ag au<|cl T2 (adz B tb U F xs n O.drew bU I) ag ?_;rintro dj b6 ⟨b0,aM⟩;obtain ⟨ab,ah,rfl⟩:=cM b0;have bY:=bU.wk aM;have aZ:(fun w'=>Wk O w') b6:=G.trans aM;refine ⟨aZ,?_⟩;refine aU 6 ag (dt (ps:= [(0,.slice ab (bq F (flagsOf xs n) 2).length ah),(1,.int .i64 f)]) (L:= [.slice ab (bq F (flagsOf xs n) 2).length ah,.int .i64 f]) Gd ag<|ag) aZ<|he 10 ag au<|cl Ja (Om B tb U F xs f b6 bY I) ag ?_;rintro v49 b7 ⟨b1,aN⟩;obtain ⟨a49,ai,rfl⟩:=cM b1;have cF:=bY.wk aN;have aS:(fun w'=>Wk O w') b7:=aZ.trans aN;refine ⟨aS,?_⟩;refine aU 13 ag (dt (ps:= [(0,.slice a49 (bq F (cH F f) 2).length ai),(1,.int .i64 s)]) (L:= [.slice a49 (bq F (cH F f) 2).length ai,.int .i64 s]) Gd ag<|ag) aS<|he 17 ag au<|cl T3 (abw B tb U F xs n b7 cF I) ag ?_;rintro dk c4 ⟨b2,aO⟩;obtain ⟨ac,am,rfl⟩:=cM b2;have aY:(fun w'=>Wk O w') c4:=aS.trans aO;refine ⟨aY,?_⟩;refine aU 20 ag (dt (ps:= [(0,.slice ac (bq F (flagsOf xs n) 1).length am),(1,.int .i64 E)]) (L:= [.slice ac (bq F (flagsOf xs n) 1).length am,.int .i64 E]) Gd ag<|ag) aY<|he 21 ag au<|Sj [[.slice ab (bq F (flagsOf xs n) 2).length ah,.int .i64 f],[.slice a49 (bq F (cH F f) 2).length ai,.int .i64 s],[.slice ac (bq F (flagsOf xs n) 1).length am,.int .i64 E]] acL ag ag ag ag fun bs aB c6 aD cv=> ?_;obtain ⟨k,rfl⟩:∃ m:Nat,n=(m:Int):=⟨n.toNat,aj⟩
 obtain ⟨A,bu,bv,bx⟩:∃ A:Nat→Option Addr,A 0=ab∧A 1=a49∧A 2=ac:=⟨fun i=>match i with | 0=>ab | 1=>a49 | _=>ac,rfl,rfl,rfl⟩
 obtain ⟨C,cx,cy,cA⟩:∃ C:Nat→Nat,C 0=ah∧C 1=ai∧C 2=am:=⟨fun i=>match i with | 0=>ah | 1=>ai | _=>am,rfl,rfl,rfl⟩
 have bG:=aN.trans<|aO.trans aD.md;have Y:Wk O aB:=((Md.refl (fun _=>False) O).drew.trans aM).trans bG;have cO:∀ i,i < 3→([(.slice ab (bq F (flagsOf xs k) 2).length ah,.int .i64 f),(.slice a49 (bq F (cH F f) 2).length ai,.int .i64 s),(.slice ac (bq F (flagsOf xs k) 1).length am,.int .i64 E)]:List (Value×Value))[i]? =some (.slice (A i) (nP F xs k f i).length (C i),.int .i64 (rq f s E i)):=by
  intro i hi;rcases (show i=0∨i=1∨i=2 by omega) with rfl | rfl | rfl;rw [bu,cx]; rfl;rw [bv,cy]; rfl;rw [bx,cA]; rfl
 have cJ:∀ i,i < 3→aR aB.heap (A i) ((nP F xs k f i).map bV):=by
  intro i hi;rcases (show i=0∨i=1∨i=2 by omega) with rfl | rfl | rfl;rw [bu]; exact (bg b0).2.wk bG;rw [bv]; exact (bg b1).2.wk<|aO.trans aD.md;rw [bx]; exact (bg b2).2.wk aD.md
 have cW:∀ i,i < 3→∀ {W:World},Wk aB W→∀ j,j < 2→Hb.a7 W.heap bs (0 +i*2 +j)=(NR (.slice (A i) (nP F xs k f i).length (C i),.int .i64 (rq f s E i)))[j]? :=fun i hi W cG=>fO (f:=NR) (m:=2) (fun _=>rfl) ((aR.dZ ⟨_,cv⟩).wk cG)<|cO i hi;have c2:kQ xs (k:Int)=(xs.getD k ([],[])).1:=by
  obtain ⟨x,aA⟩:∃ x,xs[k]? =some x:=⟨_,cz aj⟩
  rw [(tw aA).1,da,aA]; rfl
 have db:(kQ xs (k:Int)).length≤1000:=by
  obtain ⟨x,aA⟩:∃ x,xs[k]? =some x:=⟨_,cz aj⟩
  rw [(tw aA).1]; have :=(I.xr x<|gL aA).1; omega
 have bP:(fun w'=>Wk O w') aB:=aY.trans aD.md;refine ⟨bP,?_⟩;refine aU 22 ag (bN adU ag ag) bP<|hn au<|ch<|aW<|lp (fun bt bk aG=> ∃ (i:Nat) (u:Tx),(i≤3)∧(lk F xs k f s E i=some u)∧(u.length≤1000 +i*32)∧(Wk aB aG)∧(bk 9=str u)∧(Sl bk [(0,a6 tb),(3,a6 aL),(8,.slice ar F.rules.length cr),(60,.slice (some ⟨bs,0,none⟩) 3 3),(61,.int .i64 3),(62,ay i)])∧(3 - i=bt)) _ ⟨0,kQ xs (k:Int),aj,(by rw [c2]; rfl),aj,(Md.refl _ _),(by first | rfl | exact congrArg str b4),ag,ag⟩ ?_;rintro bt bk aG ⟨i,u,hi,av,c8,Z,c0,cZ,rfl⟩;refine bH cZ<|fx 9 c0<|ak fun ci=>p (lt ag ag)<|nl<|ci<|aH fun ck=>cd ag (fun cL=> ?_) fun cL=> ?_;refine aT<|ck<|aH fun aK=>aW<|aH fun aI=> ?_;have cN:i < 3:=aj;refine rg ag<|p (ia Xf ag ag aj)<|p (dp RD ag (ag)<|cW i aj Z)<|e<|al aeD fun cn dn a0 bM cp=> ?_;have dd:=bM.size;refine e<|dy VW ag ag ag ag (cp) (by simp) fun bi cD cw=> ?_;have cC:Wk aG bi:=bM.md.trans' cD fun q cU h=>by omega
 have a0:bX bi.heap cn [.slice (A i) (nP F xs k f i).length (C i),.int .i64 (rq f s E i)]:=cw;have aC:=Z.trans cC;refine nl<|aI<|ak fun an=>aw (.slice ar F.rules.length cr)<|p (fa XH ag)<|p (ld qY ag<|a0.bF 0)<|p (fa XI ag)<|p (ld bL ag<|a0.bF 1)<|aw (str u)<|e<|cl T4 (adr F xs I ar cr rn (A i) (C i) (nP F xs k f i) (rq f s E i) u bi (bz.wk<|Y.trans aC) b3 ((cJ i cN).wk aC) (xX i) (by have :=aaB (F:=F) (xs:=xs) (k:=k) (f:=f) i; have :=I.len; omega) (by unfold rq; split <;> assumption) aj) ag ?_;rintro dl dr ⟨rfl,bB⟩;refine p mv<|p (xt ag ag)<|p (xt ag ag)<|p aJ<|az<|an<|aH fun ca=>rg ag<|p mv<|p (no ag)<|nl<|ca<|cb ag (fun a3=> ?_) fun a3=> ?_;have cQ:ig F (nP F xs k f i) (rq f s E i) u=none:=by simpa using a3
 refine ak fun cc=>p aJ<|az<|cc<|rt<|br<|tr<|tr<|br<|tr<|f2 ag ag ag ?_;have cP:lk F xs k f s E 3=none:=by rw [show 3=(i+1)+(2 - i) by omega]; exact Nf (by show (lk F xs k f s E i).bind _=none; rw [av]; exact cQ) _
 exact ⟨by rw [xW aj,xY a5,cP]; rfl,ae.trans<|hE35.trans<|Y.trans<|aC.trans bB⟩;obtain ⟨v,bb⟩:∃ v,ig F (nP F xs k f i) (rq f s E i) u=some v:=ot.1<|by simpa using a3
 have c9:=adp I (xX i) bb;have cX:lk F xs k f s E (i+1)=some v:=by show (lk F xs k f s E i).bind _=_; rw [av]; exact bb
 have b4:(ig F (nP F xs k f i) (rq f s E i) u).getD []=v:=by rw [bb]; rfl
 exact aT<|bn<|aK<|rg ag<|p (bJ ((i+1:Nat):Int) ag ag<|bp aj aj)<|p mv<|nl<|tn<|⟨_,aj,i+1,v,aj,cX,aj,(aC.trans bB),(by first | rfl | exact congrArg str b4),ag,ag⟩
 refine ext<|bj<|bj<|be<|cg<|aH fun aK=>aH fun aI=> ?_;obtain rfl :i=3:=aj;have ba:=Ng cK cY cT av;refine rg ag<|aw (a6 tb)<|aw (.slice ar F.rules.length cr)<|p (dp oz ag (ag) fun j c7=>(Wk.B (Y.trans Z) aa).bF j)<|e<|cl T5 (Yy B tb U F xs ar cr rn bd k f s E aG (aF.wk<|hE35.trans<|Y.trans Z) I (bz.wk<|Y.trans Z) b3 ba.1 ba.2.1 ba.2.2) ag ?_;rintro v82 ds ⟨rfl,bC⟩;refine p (no ag)<|nl<|aI<|cb ag (fun a8=> ?_) fun a8=> ?_;exact ak fun an=>p aJ<|az<|an<|rt<|tr<|f2 ag ag ag<|⟨by rw [xW aj,xY a5,av,rW,if_neg (by simpa using a8)]; rfl,ae.trans<|hE35.trans<|Y.trans<|Z.trans bC⟩
 exact aT<|aK<|ak fun an=>aw (str u)<|p (cV (str u) ag)<|p aJ<|nl<|an<|rt<|f2 ag ag ag<|⟨by rw [xW aj,xY a5,av,rW,if_pos (by simpa using a8)]; rfl,ae.trans<|hE35.trans<|Y.trans<|Z.trans bC⟩
end Go.Hb
end
namespace Go.Hb
theorem Og {r:dd} {v:Value} (h:v.oneCell'=true):(fk (r,v)).all Value.oneCell'=true :=by
 unfold fk;simp only [List.all_cons,List.all_nil,h];rfl
def uO (a b:bO):Bool:=if a.fst≠b.fst then decide (a.fst < b.fst) else if a.snd≠b.snd then decide (a.snd < b.snd) else decide (a.pre < b.pre)
theorem FP (R:Nat):(nW R).Pairwise (· < ·):=by
 unfold nW;rw [List.pairwise_cons];exact ⟨fun x A=>by obtain ⟨i,_,rfl⟩:=iT.1 A; omega,List.pairwise_map.2<|List.pairwise_lt_range.imp fun h=>by omega⟩
theorem FO {R:Nat} {x:Int} (h:x∈nW R): -1≤x:=by
 rcases eL.1 h with h | h
 · omega
 · obtain ⟨i,_,rfl⟩:=iT.1 h; omega
theorem vz {F:aX} {xs:List bE} {e:Nat} {f s:Int} {d:bO} (h:d∈tC F xs e f s):d.dQ=e∧d.fst=f∧d.snd=s∧d.pre∈nW F.rules.length∧ik F xs e d.fst d.snd d.pre=some d.eZ:=by
 obtain ⟨p,hp,h⟩:=QQ.1 h;obtain ⟨u,hu,rfl⟩:=ou.1 h;exact ⟨ag,ag,ag,hp,hu⟩
theorem E1 {F:aX} {xs:List bE} {e:Nat} {f:Int} {d:bO} (h:d∈xv F xs e f):d∈tC F xs e f d.snd∧d.snd∈nW F.rules.length:=by
 obtain ⟨s,hs,h⟩:=rT.1 h;have :=(vz h).2.2.1;subst this;exact ⟨h,hs⟩
theorem tK {F:aX} {xs:List bE} {e:Nat} {d:bO} (h:d∈kg F xs e):d.dQ=e∧ -1≤d.fst∧ -1≤d.snd∧ -1≤d.pre∧ik F xs e d.fst d.snd d.pre=some d.eZ:=by
 rw [Dv] at h;obtain ⟨f,A,h⟩:=rT.1 h;obtain ⟨h1,h2⟩:=E1 h;obtain ⟨a,b,c,d,e⟩:=vz h1;exact ⟨a,by rw [b]; exact FO A,FO h2,FO d,e⟩
theorem Wu (F:aX) (xs:List bE) (e:Nat):(kg F xs e).Pairwise fun a b=>uO a b=true :=by
 rw [Dv,QU];refine ⟨fun f _=> ?_,(FP _).imp fun {a b} A x C y E=> ?_⟩
 · unfold xv;rw [QU];refine ⟨fun s _=> ?_,(FP _).imp fun {a b} A x C y E=> ?_⟩
   · unfold tC;rw [List.pairwise_filterMap];refine (FP _).imp fun {a b} A x C y E=> ?_;obtain ⟨u,_,rfl⟩:=ou.1 C;obtain ⟨v,_,rfl⟩:=ou.1 E;unfold uO;rw [if_neg (fun h=>h rfl),if_neg (fun h=>h rfl)];exact decide_eq_true A
   · obtain ⟨_,a2,a3,_⟩:=vz C;obtain ⟨_,G,I,_⟩:=vz E;unfold uO;rw [if_neg (fun h=>h<|by rw [a2,G]),if_pos (by rw [a3,I]; omega),a3,I];exact decide_eq_true A
 · have a2:=(vz (E1 C).1).2.1;have G:=(vz (E1 E).1).2.1;unfold uO;rw [if_pos (by rw [a2,G]; omega),a2,G];exact decide_eq_true A
end Go.Hb
section
namespace Go.Hb.qd
open Go.Hb.pf
noncomputable def pD (r:dd) (u:Tx):Option Tx:=if iz r u=true then some u else none
noncomputable def gH (r:dd) (w:Tx):Option Tx:=
 if r.kind=2 then (if r.add.length≤w.length∧w.drop (w.length - r.add.length)=r.add then pD r (w.take (w.length - r.add.length)++r.strip) else none)
 else if r.kind=1 then (if w.take r.add.length=r.add then pD r (r.strip++w.drop r.add.length) else none)
 else none
section
variable {r:dd} {s u w:Tx}
theorem ad2 (hk:r.kind=2):gH r s=if decide (r.add.length≤s.length∧s.drop (s.length - r.add.length)=r.add)=true then pD r (lS s r.add++r.strip) else none:=by
 unfold gH lS;rw [if_pos hk];by_cases h:r.add.length≤s.length∧s.drop (s.length - r.add.length)=r.add
 · rw [if_pos h,if_pos h,decide_eq_true h,if_pos rfl]
 · rw [if_neg h,decide_eq_false h]; rfl
theorem ad1 (hk:r.kind=1):gH r s=if decide (s.take r.add.length=r.add)=true then pD r (r.strip++gB s r.add) else none:=by
 unfold gH gB;rw [if_neg aj,if_pos hk];by_cases h:s.take r.add.length=r.add
 · rw [if_pos h,if_pos h,decide_eq_true h,if_pos rfl]
 · rw [if_neg h,decide_eq_false h]; rfl
theorem ad0 (h1:r.kind≠1) (h2:r.kind≠2):gH r s=none:=by unfold gH; rw [if_neg h2,if_neg h1]
theorem Jp {v:Tx} (h:pD r u=some v):v=u:=by unfold pD at h; split at h <;> cases h; rfl
theorem Pq {v:Tx} (h:gH r s=some v):v.length≤s.length+r.strip.length:=by
 unfold gH at h;split at h
 · split at h
   · rw [Jp h,bP,dM]; omega
   · cases h
 · split at h
   · split at h
     · rw [Jp h,bP,fM]; omega
     · cases h
   · cases h
theorem GB (hk:r.kind=1∨r.kind=2) (h:eO r u=some w):gH r w=some u:=by
 have A:iz r u=true :=by
  cases A:iz r u with
  | true =>rfl
  | false =>rw [CA A] at h; cases h
 obtain ⟨G,h2,h1⟩:=xz A;by_cases C:r.kind=2
 · rw [H5 A C] at h;cases h;have h3:=h2 C;unfold gH;have el:(u.take (u.length - r.strip.length)++r.add).length - r.add.length=(u.take<|u.length - r.strip.length).length:=by rw [bP]; omega
   rw [if_pos C,el,QC,Q0,if_pos ⟨by rw [bP]; omega,rfl⟩];have E:u.take (u.length - r.strip.length)++r.strip=u:=by
    conv =>lhs; rhs; rw [← h3]
    exact Cf _ _
   rw [E]; unfold pD; rw [if_pos A]
 · rw [H4 A C] at h;cases h;have h3:=h1 C;unfold gH;rw [if_neg C,if_pos (hk.resolve_right C),Q0,if_pos rfl,QC];have E:r.strip++u.drop r.strip.length=u:=by
    conv =>lhs; lhs; rw [← h3]
    exact Cf _ _
   rw [E]; unfold pD; rw [if_pos A]
end
section
variable (F:aX) (xs:List bE) (w:Tx)
def oN (stem:Tx) (f s p:Int) (d:bO):Prop := ∃ n x,xs[n]? =some x∧x.1=stem∧d=⟨w,n,f,s,p⟩∧ik F xs n f s p=some w
def fW (n z:Nat):List Nat:=(List.range n).filter fun i=>decide (z∈bq F (cH F (i:Int)) 2)
def pC (word:Tx) (p:Int) (k:Nat) (d:bO):Prop :=oN F xs w word (-1) (-1) p d∨
 ∃ i r,i < k∧F.rules[i]? =some r∧r.kind=2∧∃ st,gH r word=some st∧(oN F xs w st i (-1) p d∨∃ f∈fW F F.rules.length i,∃ rt,gH (F.rules.getD f dU) st=some rt∧oN F xs w rt f i p d)
def pW (k:Nat) (d:bO):Prop :=pC F xs w w (-1) F.rules.length d∨∃ i r,i < k∧F.rules[i]? =some r∧r.kind=1∧∃ rest,gH r w=some rest∧pC F xs w rest i F.rules.length d
variable {F xs w}
theorem Wt {e:Nat} {f s p:Int} {u:Tx} (A:Rn F f) (hs:Rn F s) (hp:Rn F p) (h:ik F xs e f s p=some u):(⟨u,e,f,s,p⟩:bO)∈kg F xs e:=by
 have rm:∀ {n:Int},Rn F n→n∈nW F.rules.length:=fun {n} hn=>by
  rcases hn with h | h
  · exact eL.2<|.inl h
  · exact eL.2<|.inr<|iT.2 ⟨n.toNat,nr.2 aj,aj⟩
 rw [Dv];refine rT.2 ⟨f,rm A,rT.2 ⟨s,rm hs,QQ.2 ⟨p,rm hp,?_⟩⟩⟩;rw [h]; rfl
theorem aaC {e:Nat} {f s p:Int} {u:Tx} (C: -1≤f) (hs: -1≤s) (hp: -1≤p) (h:ik F xs e f s p=some u):Rn F f∧Rn F s∧Rn F p:=by
 have A:¬(f= -1∧s≠ -1):=fun A=>by rw [E6 A] at h; cases h
 rw [xY A] at h;obtain ⟨v,E,_⟩:=tg.1 h;exact Ng C hs hp E
theorem vy {n:Nat} {d:bO} :d∈kN F xs n↔∃ e,e < n∧d∈kg F xs e:=by
 unfold kN;rw [rT];exact ⟨fun ⟨e,h,h1⟩=>⟨e,nr.1 h,h1⟩,fun ⟨e,h,h1⟩=>⟨e,nr.2 h,h1⟩⟩
theorem EX {stem:Tx} {f s p:Int} {d:bO} (A: -1≤f) (hs: -1≤s) (hp: -1≤p) (h:oN F xs w stem f s p d):d∈kN F xs xs.length∧d.eZ=w:=by
 obtain ⟨n,x,C,_,rfl,hm⟩:=h;obtain ⟨h1,h2,h3⟩:=aaC A hs hp hm;exact ⟨vy.2 ⟨n,(fS.1 C).1,Wt h1 h2 h3 hm⟩,ag⟩
theorem Jl {word:Tx} {p:Int} {k:Nat} {d:bO} (hp: -1≤p) (h:pC F xs w word p k d):d∈kN F xs xs.length∧d.eZ=w:=by
 rcases h with h | ⟨i,r,_,_,_,st,_,h | ⟨f,_,rt,_,h⟩⟩
 · exact EX aj aj hp h
 · exact EX aj aj hp h
 · exact EX aj aj hp h
theorem Bl {L:List Nat} {n:Int} {u v:Tx} (hn: -1≤n) (h:ig F L n u=some v):(n= -1∧v=u)∨∃ m:Nat,n=(m:Int)∧m∈L∧eO (F.rules.getD m dU) u=some v:=by
 unfold ig at h;by_cases h1:n= -1
 · rw [if_pos h1] at h; cases h; exact .inl ⟨h1,rfl⟩
 · rw [if_neg h1] at h;by_cases h2:n.toNat∈L
   · rw [if_pos h2] at h; exact .inr ⟨n.toNat,aj,h2,h⟩
   · rw [if_neg h2] at h; cases h
theorem FZ {m:Nat} (h:m < F.rules.length):F.rules[m]? =some (F.rules.getD m dU):=by
 rw [da,cz h]; rfl
theorem UA {n:Nat} {x:bE} {f s p:Int} {E:Tx} (C:xs[n]? =some x) (Y: -1≤f) (hs: -1≤s) (J:¬(f= -1∧s≠ -1)) (h2:lk F xs n f s p 2=some E) (hm:ik F xs n f s p=some w):
 pC F xs w E p F.rules.length ⟨w,n,f,s,p⟩:=by
 obtain ⟨G,h1,h2⟩:=tg.1 (show (lk F xs n f s p 1).bind _=some E from h2);obtain ⟨ab,I,h1⟩:=tg.1 (show (lk F xs n f s p 0).bind _=some G from h1);cases I;have aa:(xs.getD n ([],[])).1=x.1:=by rw [da,C]; rfl
 rw [aa] at h1;have kd:∀ {fs:List Nat} {m:Nat},m∈bq F fs 2→m < F.rules.length∧(F.rules.getD m dU).kind=2:=fun h=>⟨(oO.1 h).1,(oO.1 h).2.1⟩
 rcases Bl Y h1 with ⟨rfl,rfl⟩ | ⟨i,rfl,hi,O⟩
 · obtain rfl :s= -1:=yC fun h=>J ⟨rfl,h⟩;rcases Bl hs h2 with ⟨_,rfl⟩ | ⟨m,h,_⟩
   · exact .inl ⟨n,x,C,ag,ag,hm⟩
   · omega
 · have hi:i∈bq F (flagsOf xs n) 2:=hi;have hu:=GB (.inr (kd hi).2) O;rcases Bl hs h2 with ⟨rfl,rfl⟩ | ⟨z,rfl,A,V⟩
   · exact .inr ⟨i,_,(kd hi).1,FZ (kd hi).1,(kd hi).2,x.1,hu,.inl ⟨n,x,C,ag,ag,hm⟩⟩
   · have A:z∈bq F (cH F (i:Int)) 2:=A;have Z:=GB (.inr (kd A).2) V;exact .inr ⟨z,_,(kd A).1,FZ (kd A).1,(kd A).2,G,Z,.inr ⟨i,oo.2 ⟨nr.2 (kd hi).1,decide_eq_true A⟩,x.1,hu,n,x,C,ag,ag,hm⟩⟩
theorem Ol (d:bO):pW F xs w F.rules.length d↔d∈kN F xs xs.length∧d.eZ=w:=by
 constructor
 · rintro (h | ⟨i,r,_,_,_,rest,_,h⟩)
   · exact Jl aj h
   · exact Jl aj h
 · rintro ⟨hd,hw⟩;obtain ⟨e,he,hd⟩:=vy.1 hd;obtain ⟨G,I,hs,hp,hm⟩:=tK hd;obtain ⟨Z,en,f,s,p⟩:=d;simp only at G I hs hp hm hw;subst G;subst hw;obtain ⟨x,Y⟩:∃ x,xs[en]? =some x:=⟨_,cz he⟩
   have A:¬(f= -1∧s≠ -1):=fun A=>by rw [E6 A] at hm; cases hm
   have J:=hm;rw [xY A] at J;obtain ⟨v,V,C⟩:=tg.1 J;split at C
   case isFalse=>cases C
   cases C;obtain ⟨aa,h2,h3⟩:=tg.1 (show (lk F xs en f s p 2).bind _=some Z from V);have E:=UA Y I hs A h2 hm;rcases Bl hp h3 with ⟨rfl,rfl⟩ | ⟨i,rfl,hi,O⟩
   · exact .inl E
   · have hi:i∈bq F (flagsOf xs en) 1:=hi;exact .inr ⟨i,_,(oO.1 hi).1,FZ (oO.1 hi).1,(oO.1 hi).2.1,aa,GB (.inl (oO.1 hi).2.1) O,E⟩
end
theorem VR (s pr:List UInt8) (w:World) (hs:s.length≤1099511627776) (hp:pr.length≤1099511627776):
 bw aE 162 (bl [str s,str pr]) w (fun v w'=>v= .tuple #[str (lS s pr),.bool (decide (pr.length≤s.length∧s.drop (s.length - pr.length)=pr))]∧Wk w w'):=by
 refine enter func162 ag ntmps162 ag<|ak fun I=>p aJ<|az<|I<|aH fun J=>aH fun O=>rg ag<|aw (str s)<|aw (str pr)<|e<|cl zn (Aq s pr _ hs hp) ag ?_;rintro V Y ⟨rfl,G⟩;refine p (no ag)<|nl<|O<|cb ag (fun A=> ?_) fun A=> ?_;have C:¬(pr.length≤s.length∧s.drop (s.length - pr.length)=pr):=fun h=>by rw [decide_eq_true h] at A; cases A
 exact ak fun E=>aw (str s)<|p (cV (str s) ag)<|az<|E<|rt<|tr<|f2 ag ag ag<|⟨by unfold lS; rw [if_neg C,decide_eq_false C]; rfl,G⟩
 have C:pr.length≤s.length∧s.drop (s.length - pr.length)=pr:=yC fun h=>by rw [decide_eq_false h] at A; cases A
 exact aT<|J<|ak fun E=>aw (str s)<|aw (str s)<|p (c8 u9 ag ag)<|aw (str pr)<|p (c8 u9 ag ag)<|p (ed ((s.length - pr.length:Nat):Int) ag ag<|bp aj aj)<|p (sQ u9 ag ag aj)<|p aJ<|az<|E<|rt<|f2 ag ag ag<|⟨by unfold lS; rw [if_pos C,decide_eq_true C]; rfl,G⟩
theorem VT (s pr:List UInt8) (w:World) (hs:s.length≤1099511627776) (hp:pr.length≤1099511627776):
 bw aE 102 (bl [str s,str pr]) w (fun v w'=>v= .tuple #[str (lS s pr),.bool (decide (pr.length≤s.length∧s.drop (s.length - pr.length)=pr))]∧Wk w w'):=by
 refine enter func102 ag ntmps102 ag<|ak fun A=>p aJ<|az<|A<|ak fun C=>aw (str s)<|aw (str pr)<|e<|cl SV (VR s pr _ hs hp) ag ?_;rintro G I ⟨rfl,E⟩;exact p (xt ag ag)<|p (xt ag ag)<|p aJ<|az<|C<|rt<|f2 ag ag ag<|⟨ag,E⟩
theorem GC (r:dd) (u:Value) (s:Tx) (w:World) (aM:r.strip.length≤32) (aB:r.add.length≤1048576) (aC:r.cond.length≤1048576) (aN:s.length≤16777216):
 bw aE 59 (bl [.agg (fk (r,u)).toArray,str s]) w (fun v w'=>v=x6 (gH r s)∧Wk w w'):=by
 refine enter func59 ag ntmps59 ag<|ak fun ao=>e<|je ag fun Y ac aF aa av=> ?_;have aL:((r,u):dd×Value).1.strip.length=r.strip.length:=rfl;have aK:((r,u):dd×Value).1.kind=r.kind:=rfl;have aI:((r,u):dd×Value).1.add.length=r.add.length:=rfl;have E:bX ac.heap Y (fk (r,u)):=av;have aR:(lS s r.add).length≤s.length:=by unfold lS; split <;> simp <;> omega
 have aP:(gB s r.add).length≤s.length:=by unfold gB; split <;> simp
 refine p aJ<|az<|ao<|ak fun ap=>p aJ<|nl<|ap<|ak fun aq=>az<|aq ?_;refine ez (fun an O=> ∃ (sm:Tx) (ok:Bool),(gH r s=if ok=true then pD r sm else none)∧(sm.length≤s.length+r.strip.length)∧(Wk w O)∧(bX O.heap Y<|fk (r,u))∧(Sl an [(2,a6 Y),(6,str sm),(7,.bool ok)])) ?_ ?_;refine ak fun V=>p (fa xC ag)<|p (ld bL ag<|E.bF 0)<|nl<|V<|aW<|aH fun I=>rg ag<|p (bT ag ag)<|az<|I<|cd ag (fun aA=> ?_) fun aA=> ?_;refine ak fun A=>p mv<|p (fa xE ag)<|p (ld bW ag<|E.bF 4)<|e<|cl Su (VT s r.add ac aj aj) ag ?_;rintro aS aX ⟨rfl,ae⟩;have al:=Wk.B ae E;exact p mv<|p (xt ag ag)<|p (xt ag ag)<|p aJ<|az<|A<|rg ag<|p mv<|p (fa sr ag)<|p (ld bW ag<|al.bF 3)<|p (cc ag ag aj)<|p aJ<|nl<|bn<|tn<|⟨lS s r.add++r.strip,_,(ad2 aj),(by rw [bP]; omega),(aa.md.trans ae),al,ag⟩
 refine ak fun A=>p (bT ag ag)<|az<|A<|cd ag (fun ay=> ?_) fun ay=> ?_;refine ak fun au=>p mv<|p (fa xE ag)<|p (ld bW ag<|E.bF 4)<|e<|cl Im (JK s r.add ac aj aj) ag ?_;rintro aU aY ⟨rfl,ah⟩;have am:=Wk.B ah E;exact p mv<|p (xt ag ag)<|p (xt ag ag)<|p aJ<|az<|au<|rg ag<|p (fa sr ag)<|p (ld bW ag<|am.bF 3)<|p mv<|p (cc ag ag aj)<|p aJ<|nl<|bn<|tn<|⟨r.strip++gB s r.add,_,(ad1 aj),(by rw [bP]; omega),(aa.md.trans ah),am,ag⟩
 exact aT<|bn<|tn<|⟨[],false,(ad0 aj aj),(iK _),aa.md,E,ag⟩
 rintro an O ⟨sm,ok,C,aO,Z,ax,aD⟩;refine bH aD<|aH fun V=>ak fun I=>aw (.bool ok)<|p (no ag)<|p mv<|gb (t:=38) ag (fun J=> ?_) fun J=> ?_;refine aQ ag<|aQ ag<|aQ ag<|aQ ag<|p (bI ag)<|nl<|I<|ct ag<|ak fun A=>p aJ<|az<|A<|rt<|tr<|f2 ag ag ag ?_;have G:ok=false :=by simpa using J
 rw [G] at C;exact ⟨by rw [C]; rfl,Z⟩;refine aV ag (dp l6 ag (ag) fun j aG=>ax.bF j)<|aV ag (a8 (str sm) ag)<|eg ag ag ag<|cl Io (K0 r u sm O aj aB aC aj) ag ?_;rintro v41 aZ ⟨rfl,ai⟩;refine aV ag (no ag)<|p (bD ag)<|nl<|I<|cb ag (fun ab=> ?_) fun ab=> ?_;refine ak fun A=>p aJ<|az<|A<|rt<|tr<|f2 ag ag ag ?_;have G:ok=true :=by simpa using J
 rw [G,if_pos rfl] at C;unfold pD at C;exact ⟨by rw [C,if_neg (by simpa using ab)]; rfl,Z.trans ai⟩;refine aT<|V<|ak fun A=>aw (str sm)<|p (cV (str sm) ag)<|p aJ<|nl<|A<|rt<|f2 ag ag ag ?_;have G:ok=true :=by simpa using J
 rw [G,if_pos rfl] at C;unfold pD at C;exact ⟨by rw [C,if_pos (by simpa using ab)]; rfl,Z.trans ai⟩
end Go.Hb.qd
end
section
namespace Go.Hb
open Go.Hb.qd
theorem DB {a b:bO} (h:a.eZ=b.eZ∧a.dQ=b.dQ∧a.fst=b.fst∧a.snd=b.snd∧a.pre=b.pre):a=b:=by
 obtain ⟨s,e,f,g,p⟩:=a;obtain ⟨I,A,C,E,G⟩:=b;obtain ⟨h1,h2,h3,h4,h5⟩:=h;simp only at h1 h2 h3 h4 h5;subst h1 h2 h3 h4 h5;rfl
instance aeV:DecidableEq bO:=fun a b=>decidable_of_iff (a.eZ=b.eZ∧a.dQ=b.dQ∧a.fst=b.fst∧a.snd=b.snd∧a.pre=b.pre) ⟨DB,fun h=>by subst h; exact ⟨rfl,rfl,rfl,rfl,rfl⟩⟩
def fg (d:bO):Value:= .agg (ei d).toArray
def rp (v:Value):Prop := ∃ d,v=fg d
theorem ads {a b:Tx} (h:str a=str b):a=b:=by unfold str at h; simpa using h
theorem EH {a b:bO} (h:fg a=fg b):a=b:=by
 unfold fg ei at h;injection h with h
 have h:([str a.eZ,.int .i64 (a.dQ:Nat),.int .i64 a.fst,.int .i64 a.snd,.int .i64 a.pre]:List Value)= [str b.eZ,.int .i64 (b.dQ:Nat),.int .i64 b.fst,.int .i64 b.snd,.int .i64 b.pre]:=congrArg Array.toList h;simp only [List.cons.injEq,Value.int.injEq,true_and,and_true] at h;obtain ⟨h1,h2,h3,h4,h5⟩:=h;exact DB ⟨ads h1,aj,h3,h4,h5⟩
theorem W5 (a b:bO) (w:World):(Op.equal 49 (fg a)<|fg b).run aE w= .ok (decide (a=b)) w:=by
 have h:=Kx a.eZ b.eZ a.dQ a.fst a.snd a.pre b.dQ b.fst b.snd b.pre w;rw [run_eql_struct] at h;have e:(Op.equal 49 (fg a)<|fg b)=rP 10000 49 (fg a) (fg b):=rfl;rw [e];show (rP 10000 49 (.agg (ei a).toArray)<|.agg (ei b).toArray).run aE w=_;unfold ei;generalize (rP 10000 49 _ _).run aE w=X at h;have hd:decide (a.eZ=b.eZ∧(a.dQ:Int)=b.dQ∧a.fst=b.fst∧a.snd=b.snd∧a.pre=b.pre)=decide (a=b):=by
  exact decide_eq_decide.2 ⟨fun ⟨h1,h2,h3,h4,h5⟩=>DB ⟨h1,aj,h3,h4,h5⟩,fun h=>by subst h; exact ⟨ag,ag,ag,ag,ag⟩⟩
 rw [hd] at h;cases X with
 | ok c w'=>
   have h:Result.ok (cy c) w'= .ok (.bool<|decide (a=b)) w:=h;injection h with h1 h2
   injection h1 with h1
   subst h1 h2;rfl
 | halt a b=>cases h
theorem AU {P:Program} {t:TypeId} {cs:Array Value} {o:Nat} {v:Value} {q:IntKind} (A:P.underlying t=some (.int q)) (C:cs[o]? =some v) (w:World):(part t cs o).run P w= .ok v w:=by
 simp [part,isAgg,ep A,C]
theorem UL (em:Bool) (d:bO) (w:World):(p6 em 10000 49<|fg d).run aE w= .ok () w:=by
 have E:=G8;have C:=underlying9;have A:=underlying3;have G:∀ w,(part 9 #[str d.eZ,.int .i64 (d.dQ:Nat),.int .i64 d.fst,.int .i64 d.snd,.int .i64 d.pre] 0).run aE w= .ok (str d.eZ) w:=fun w=>abh C rfl rfl w;have I:∀ w,(part 3 #[str d.eZ,.int .i64 (d.dQ:Nat),.int .i64 d.fst,.int .i64 d.snd,.int .i64 d.pre] 1).run aE w= .ok (.int .i64 (d.dQ:Nat)) w:=fun w=>AU A rfl w;have J:∀ w,(part 3 #[str d.eZ,.int .i64 (d.dQ:Nat),.int .i64 d.fst,.int .i64 d.snd,.int .i64 d.pre] 2).run aE w= .ok (.int .i64 d.fst) w:=fun w=>AU A rfl w;have O:∀ w,(part 3 #[str d.eZ,.int .i64 (d.dQ:Nat),.int .i64 d.fst,.int .i64 d.snd,.int .i64 d.pre] 3).run aE w= .ok (.int .i64 d.snd) w:=fun w=>AU A rfl w;have V:∀ w,(part 3 #[str d.eZ,.int .i64 (d.dQ:Nat),.int .i64 d.fst,.int .i64 d.snd,.int .i64 d.pre] 4).run aE w= .ok (.int .i64 d.pre) w:=fun w=>AU A rfl w;show (p6 em (9998 +1 +1) 49<|.agg #[str d.eZ,.int .i64 (d.dQ:Nat),.int .i64 d.fst,.int .i64 d.snd,.int .i64 d.pre]).run aE w=_;rw [p6];simp only [o0,ep E,oZ];rw [← Array.forIn_toList];simp only [List.forIn_cons,List.forIn_nil,o0,G,I,J,O,V,ne_eq,String.reduceEq,not_false_eq_true,if_true,oZ,Jn C,UC A,rQ]
theorem findD:∀ (es:List MapEntry) (w:World) (d:bO) (i:Nat),(∀ e∈es,rp e.key)→
 ((ue 49 (fg d) es i).run aE w= .ok none w∧∀ e∈es,e.key≠fg d)∨∃ j e,(ue 49 (fg d) es i).run aE w= .ok (some (i+j,e.val)) w∧es[j]? =some e∧e.key=fg d
 | [],w,d,i,_=> .inl ⟨by simp [ue],fun _ h=>by simp at h⟩
 | e::es,w,d,i,hk=>by
   obtain ⟨g,E⟩:=hk e<|by simp
   have he:=W5 d g w;rw [← E] at he;by_cases A:d=g
   · subst A;refine .inr ⟨0,e,?_,ag,E⟩;simp [ue,he]
   · have I:e.key≠fg d:=by rw [E]; exact fun h=>A (EH h).symm
     rcases findD es w d (i+1) (fun e he=>hk e<|by simp [he]) with ⟨h1,h2⟩ | ⟨j,C,h1,h2,h3⟩
     · refine .inl ⟨by simp [ue,he,A,h1],fun C G=> ?_⟩;rcases eL.1 G with rfl | G
       · exact I
       · exact h2 C G
     · refine .inr ⟨j+1,C,?_,h2,h3⟩;simp only [ue,o0,he,A,oZ,decide_false,Sem.run_ite,Bool.false_eq_true,if_false,h1]; rw [show i+1 +j=i+(j+1) from by omega]
theorem ZQ:wV aE 49 rp where
 check em w v hv:=by obtain ⟨d,rfl⟩:=hv; exact UL em d w
 find w x es hx hes:=by
  obtain ⟨d,rfl⟩:=hx;have C:=G8;have E:es≠[]→(ug 49 (fg d) es).run aE w=(ue 49 (fg d) es).run aE w:=by
   intro A;cases es with
   | nil=>exact absurd rfl A
   | cons e es=>simp [ug,ep C,uh,Instr.sameNow,fg]
  by_cases A:es= []
  · subst A; exact .inl ⟨by simp [ug,ep C,uh],fun _ h=>by simp at h⟩
  · rw [E A];rcases findD es w d 0 hes with h1 | ⟨j,e,h1,h2,h3⟩
    · exact .inl h1
    · exact .inr ⟨j,e,by rw [h1,Nat.zero_add],h2,h3⟩
theorem MD:mP aE 49 rp where
 key:=ZQ
 stays w v hv:=by obtain ⟨d,rfl⟩:=hv; simp [Instr.keyThatStays,Instr.sameBits,fg,ei,str,CE]
def kK (h:Array Obj) (b:Nat) (S:bO→Prop):Prop := ∃ f,l3 h b rp f∧(∀ d,(f<|fg d).isSome=true↔S d)∧∀ k v,f k=some v→∃ n:Int,v= .int .i64 n
theorem kK.md {G:Nat→Prop} {w w':World} {b:Nat} {S:bO→Prop} (h:kK w.heap b S) (hm:Md G w w') (A:¬G b):kK w'.heap b S:=let ⟨f,h1,h2⟩:=h; ⟨f,h1.md hm A,h2⟩
theorem kK.congr {h:Array Obj} {b:Nat} {S A:bO→Prop} (hm:kK h b S) (he:∀ d,A d↔S d):kK h b A:=let ⟨f,h1,h2,h3⟩:=hm; ⟨f,h1,fun d=>(h2 d).trans (he d).symm,h3⟩
theorem kK.put {h:Array Obj} {b:Nat} {S:bO→Prop} {f:Value→Option Value} {d:bO} {v:Value} {n:Int} (h2:∀ d,(f<|fg d).isSome=true↔S d) (h3:∀ k v,f k=some v→∃ n:Int,v= .int .i64 n) (hm:l3 h b rp (bZ (bZ f (fg d) v) (fg d)<|.int .i64 n)):kK h b (fun x=>S x∨x=d):=by
 refine ⟨_,hm,fun x=> ?_,fun k u hu=> ?_⟩
 · by_cases A:x=d
   · subst A; rw [oR]; exact ⟨fun _=> .inr rfl,fun _=>rfl⟩
   · have hk:fg x≠fg d:=fun h=>A<|EH h;rw [mF hk,mF hk,h2];exact ⟨.inl,fun h=>h.resolve_right A⟩
 · by_cases hk:k=fg d
   · subst hk; rw [oR] at hu; cases hu; exact ⟨n,rfl⟩
   · rw [mF hk,mF hk] at hu; exact h3 k u hu
def yW (h:Array Obj) (b:Nat) (kx zv v:Value):Prop := ∃ g,dq h b rp g∧(g kx).getD zv=v
section
variable {P:Program} {N:Fm} {σ:Nat→Value} {w:World} {dst:Option Nat} {ty:TypeId} {pos :String} {af:Array Edge} {g:Option (Nat×Bool)} {x y:Operand}
theorem lko {t e:TypeId} {b:Nat} {kx v zv:Value} (A:aE.underlying t=some (.map 49 e)) (G:zeroV aE e=some zv) (hm:yW w.heap b kx zv v) (C:ev N σ x= .map (some b)) (E:ev N σ y=kx) (hi:rp kx):
 (execOp (ev N σ) ⟨dst,.lookup t x y false,ty,pos,af,g⟩).run aE w= .ok (.value v) w:=by
 obtain ⟨f,h1,h2⟩:=hm;exact mX A G MD h1 C E hi h2
end
def Hz (w:World) (fm:Nat) (F:aX):Prop := ∃ f,dq w.heap fm (lf .i64) f∧∀ z:Nat,z < F.rules.length→∃ a c B,(f<|.int .i64 (z:Nat)).getD (.slice none 0 0)= .slice a (fW F F.rules.length z).length c∧bB w B 3 1 (.slice a (fW F F.rules.length z).length c) (fW F F.rules.length z).length ((fW F F.rules.length z).map bV)
def OB (tb:Nat) (F:aX) (ar:Option Addr) (cr fm dm:Nat):List Value:= [.pointer (some ⟨tb,0,none⟩),.slice ar F.rules.length cr,.map (some fm),.map (some dm)]
structure lC (w0 wB:World) (B kb tb:Nat) (U:gO) (F:aX) (xs:List bE) (ar:Option Addr) (cr:Nat) (rn:List Value) (fm dm:Nat):Prop where
 tbh:gj w0 B tb U F xs
 wk:Wk w0 wB
 lo:w0.heap.size≤dm
 cells:wB.heap[kb]? =some (.cells (OB tb F ar cr fm dm).toArray 132 (0,0))
 ru:∃ B',bB wB B' 134 7 (.slice ar F.rules.length cr) F.rules.length (iQ<|F.rules.zip rn)
 rnl:rn.length=F.rules.length
 ro:∀ u∈rn,u.oneCell'=true
 fs:Hz wB fm F
 ne:fm≠dm
 Ki:∃ es c,wB.heap[dm]? =some (.map es c)
section
variable {w0 wB w:World} {B kb tb:Nat} {U:gO} {F:aX} {xs:List bE} {ar:Option Addr} {cr:Nat} {rn:List Value} {fm dm:Nat}
theorem lC.tf (h:lC w0 wB B kb tb U F xs ar cr rn fm dm):TF wB [1] (fun k=>k=dm):=TF.eq (by obtain ⟨es,c,h1⟩:=h.Ki; unfold tag; rw [h1]) aM
theorem lC.at (h:lC w0 wB B kb tb U F xs ar cr rn fm dm) (hm:Md (fun k=>k=dm) wB w):w.heap[kb]? =some (.cells (OB tb F ar cr fm dm).toArray 132 (0,0)):=hm.jd h.tf h.cells aM
theorem lC.rules (h:lC w0 wB B kb tb U F xs ar cr rn fm dm) (hm:Md (fun k=>k=dm) wB w):aR w.heap ar (iQ<|F.rules.zip rn):=by
 obtain ⟨B',h1⟩:=h.ru;exact (bg<|c7 h1 hm h.tf aM).2
theorem lC.Gr (h:lC w0 wB B kb tb U F xs ar cr rn fm dm) (hm:Md (fun k=>k=dm) wB w):gj w B tb U F xs:=h.tbh.wk<|h.wk.trans' hm fun k hk h2=>by have :=h.lo; omega
theorem lC.fW (h:lC w0 wB B kb tb U F xs ar cr rn fm dm) (hm:Md (fun k=>k=dm) wB w):Hz w fm F:=by
 obtain ⟨f,h1,h2⟩:=h.fs;refine ⟨f,h1.md hm h.ne,fun z A=> ?_⟩;obtain ⟨a,c,B,h3,h4⟩:=h2 z A;exact ⟨a,c,B,h3,c7 h4 hm h.tf aM⟩
theorem lC.lt (h:lC w0 wB B kb tb U F xs ar cr rn fm dm):dm < wB.heap.size:=by obtain ⟨es,c,h1⟩:=h.Ki; exact (dT.1 h1).1
theorem lC.jG (h:lC w0 wB B kb tb U F xs ar cr rn fm dm) {k:Nat} {r:dd} (A:F.rules[k]? =some r):∃ u,(F.rules.zip rn)[k]? =some (r,u):=by
 have hk:=(fS.1 A).1;have C:k < rn.length:=by rw [h.rnl]; exact hk
 exact ⟨rn[k],j9.2 ⟨A,cz C⟩⟩
end
theorem E2 {s:Tx} {xs:List bE} {n:Nat} :n∈idxs s xs↔∃ x,xs[n]? =some x∧x.1=s:=by
 unfold idxs;rw [oo,nr,decide_eq_true_iff];constructor
 · rintro ⟨h1,h2⟩;refine ⟨xs[n],cz h1,?_⟩;rw [da,cz h1] at h2; exact h2
 · rintro ⟨x,A,rfl⟩;exact ⟨(fS.1 A).1,by rw [da,A]; rfl⟩
def qq (F:aX) (xs:List bE) (wd stem:Tx) (f s p:Int) (S:bO→Prop) (i:Nat) (d:bO):Prop :=S d∨∃ j,j < i∧d=⟨wd,(idxs stem xs).getD j 0,f,s,p⟩∧ik F xs ((idxs stem xs).getD j 0) f s p=some wd
section
variable {F:aX} {xs:List bE} {wd stem:Tx} {f s p:Int} {S:bO→Prop} {i:Nat}
theorem aaa (h:ik F xs ((idxs stem xs).getD i 0) f s p=some wd) (d:bO):qq F xs wd stem f s p S (i+1) d↔(qq F xs wd stem f s p S i d∨d=⟨wd,(idxs stem xs).getD i 0,f,s,p⟩):=by
 unfold qq;constructor
 · rintro (h1 | ⟨j,A,h1,h2⟩)
   · exact .inl<|.inl h1
   · rcases qc.1 A with A | rfl
     · exact .inl<|.inr ⟨j,A,h1,h2⟩
     · exact .inr h1
 · rintro ((h1 | ⟨j,A,h1⟩) | h1)
   · exact .inl h1
   · exact .inr ⟨j,aj,h1⟩
   · exact .inr ⟨i,aj,h1,h⟩
theorem MS (h:ik F xs ((idxs stem xs).getD i 0) f s p≠some wd) (d:bO):qq F xs wd stem f s p S (i+1) d↔qq F xs wd stem f s p S i d:=by
 unfold qq;constructor
 · rintro (h1 | ⟨j,A,h1,h2⟩)
   · exact .inl h1
   · rcases qc.1 A with A | rfl
     · exact .inr ⟨j,A,h1,h2⟩
     · exact absurd h2 h
 · rintro (h1 | ⟨j,A,h1⟩)
   · exact .inl h1
   · exact .inr ⟨j,aj,h1⟩
theorem Z9 (d:bO):qq F xs wd stem f s p S (idxs stem xs).length d↔(S d∨oN F xs wd stem f s p d):=by
 unfold qq oN;constructor
 · rintro (h | ⟨j,A,h1,h2⟩)
   · exact .inl h
   · obtain ⟨x,C,hs⟩:=E2.1<|ek (d:=0) A;exact .inr ⟨_,x,C,hs,h1,h2⟩
 · rintro (h | ⟨n,x,C,hs,h1,h2⟩)
   · exact .inl h
   · obtain ⟨j,A,e⟩:=mY 0<|E2.2 ⟨x,C,hs⟩;exact .inr ⟨j,A,by rw [e]; exact h1,by rw [e]; exact h2⟩
end
theorem EY (w0 wB:World) (B kb tb:Nat) (U:gO) (F:aX) (xs:List bE) (ar:Option Addr) (cr:Nat) (rn:List Value) (fm dm:Nat) (O:lC w0 wB B kb tb U F xs ar cr rn fm dm) (aN:eH F xs) (wd stem:Tx) (aK:Nat) (f s pp:Int) (S:bO→Prop) (w:World) (hm:Md (fun k=>k=dm) wB w) (bx:kK w.heap dm S) (bR: -1≤f) (hs: -1≤s) (b5: -1≤pp):
 bw aE 101 (bl [a6 kb,str stem,.agg [str wd,ay aK,.int .i64 f,.int .i64 s,.int .i64 pp].toArray]) w (fun v w'=>v= .tuple #[]∧kK w'.heap dm (fun d=>S d∨oN F xs wd stem f s pp d)∧Md (fun k=>k=dm) w w'):=by
 have ch:=aN.xl;have ce:=O.lt;have cg:=hm.size;have cb:(idxs stem xs).length≤xs.length:=by unfold idxs; exact fu (List.length_filter_le _ _)<|by simp
 refine enter func101 ag ntmps101 ag<|ak fun bd=>e<|oB ag fun Y ap ca ah bs=> ?_;have ck:=ah.size;have ai:Md (fun k=>k=dm) wB ap:=hm.trans' ah.md fun _ _ h=>h.elim;have bK:ap.heap[Y]? =some (.cells [str wd,.int .i64 ((aK:Nat):Int),.int .i64 f,.int .i64 s,.int .i64 pp].toArray 49 (0,0)):=bs;have bA:=bx.md ah.md id;refine nl<|bd<|ak fun bf=>p mv<|p (nc ag)<|p (fa Lq ag)<|p (ld y6 ag<|(bo<|O.at ai).trans ag)<|p (nc ag)<|p (fa Lp ag)<|p (ld HS ag<|(bo (O.Gr ai).cells).trans ag)<|p mv<|e<|cl SU (Wv B U.wb U.mb U.va U.vs xs ap (O.Gr ai).wd aj stem) ag ?_;rintro cm cn ⟨ba,aa⟩;obtain ⟨aG,aI,rfl⟩:=cM ba;have bv:=ah.md.trans aa;have ci:=aa.size;refine p (bN mI ag ag)<|p mv<|nl<|bf<|aW<|lp (fun aL bb V=> ∃ (i:Nat) (en:Int),(i≤(idxs stem xs).length)∧(Md (fun k=>k=dm) wB V)∧(Md (fun k=>k=dm) w V)∧(kK V.heap dm<|qq F xs wd stem f s pp S<|i)∧(V.heap[Y]? =some (.cells [str wd,.int .i64 en,.int .i64 f,.int .i64 s,.int .i64 pp].toArray 49 (0,0)))∧(bB V ap.heap.size 3 1 (.slice aG (idxs stem xs).length aI) (idxs stem xs).length<|(idxs stem xs).map bV)∧(Sl bb [(0,a6 kb),(5,a6 Y),(18,.slice aG (idxs stem xs).length aI),(19,ay ((idxs stem xs).length)),(20,ay i)])∧((idxs stem xs).length - i=aL)) _ ⟨0,_,aj,(ai.trans' aa fun _ _ h=>h.elim),(bv.mono fun _ _ h=>h.elim),((bA.md aa id).congr fun d=>⟨fun h=>h.resolve_right (fun ⟨j,a4,_⟩=>by omega),.inl⟩),(Wk.aW aa bK),ba,ag,ag⟩ ?_;rintro aL bb V ⟨i,en,hi,bZ,a5,aO,bP,an,b6,rfl⟩;refine bH b6<|ak fun bi=>p (lt ag ag)<|nl<|bi<|aH fun bk=>cd ag (fun bU=> ?_) fun bU=> ?_;refine aT<|bk<|aH fun aq=>aW<|ak fun bm=>p (bh kp ag ag aj<|aR.ok ((bg an).2)<|bY aj)<|p (ld bL ag<|aR.gQ (i:=i) (bg an).2<|oL aj)<|az<|bm<|ak fun bp=>p mv<|p (fa pN ag)<|e<|dB hZ ag ag (v:= .int .i64 ((((idxs stem xs).getD i 0):Nat):Int)) ag bP (by show 1 < 5; omega) fun I ae br=> ?_;have a2:I.heap[Y]? =some (.cells [str wd,.int .i64 ((((idxs stem xs).getD i 0):Nat):Int),.int .i64 f,.int .i64 s,.int .i64 pp].toArray 49 (0,0)):=br;have ax:Md (fun k=>k=dm) wB I:=bZ.trans' ae fun q ac h=>by omega
 have b0:Md (fun k=>k=dm) w I:=a5.trans' ae fun q ac h=>by omega
 have a9:¬(dm=Y):=aj;have bz:=aO.md ae a9;have b3:=dz an ae fun q ac h=>by have :=(dK an ac).1; omega
 have b2:=(fS.1 (E2.1<|ek (d:=0) (show i < (idxs stem xs).length by omega)).choose_spec.1).1;refine nl<|bp<|aH fun bq=> ?_;have J:(fun w'=>Wk I w') I.drew:=(Md.refl _ _).drew;refine cj (fun w'=>Wk I w') ag wide J<|bQ 0 ag (a6 kb) J<|aU 1 ag (nc ag) J<|aU 2 ag (fa Lq ag) J<|bS 3 ag (fun w' C=>ld y6 ag<|Wk.a7 C<|(bo<|O.at ax).trans ag) J<|bS 4 ag (fun w' C=>dp oz ag (ag) fun j a4=>(Wk.B C<|pw a2).bF j) J<|he 5 ag au<|cl Ty (aaj B tb U F xs wd (((idxs stem xs).getD i 0):Nat) f s pp I.drew (O.Gr ax.drew) aN bR hs b5) ag fun v32 G aS=> ?_;rw [xW b2] at aS;obtain ⟨rfl,bu⟩:=aS;have A:(fun w'=>Wk I w') G:=J.trans bu;refine ⟨A,?_⟩;refine aU 6 ag (mv) A<|aU 7 ag (xt ag ag) A<|aU 8 ag (xt ag ag) A<|aU 9 ag (aJ) A<|aU 10 ag (aJ) A<|hn au<|bq<|aH fun aF=> ?_;have al:Md (fun k=>k=dm) wB G:=ax.trans' A fun _ _ h=>h.elim;have aA:Md (fun k=>k=dm) w G:=b0.trans' A fun _ _ h=>h.elim;have av:=bz.md A id;have ab:=Wk.aW A a2;have aC:=bc b3 A;refine rg ag<|p mv<|p mv<|gb (t:=36) ag (fun ao=> ?_) fun ao=> ?_;obtain ⟨v,b7⟩:∃ v,ik F xs ((idxs stem xs).getD i 0) f s pp=some v:=ot.1<|by simpa using ao
 refine aV ag mv<|aV ag (fa XU ag)<|aV ag (ld bW ag<|(bo ab).trans ag)<|aV ag (ew ag ag)<|p (bI ag)<|nl<|aF<|cd ag (fun heq=> ?_) fun heq=> ?_;have b8:ik F xs ((idxs stem xs).getD i 0) f s pp=some wd:=by rw [b7] at heq ⊢; exact congrArg some heq
 have cc:(fg ⟨wd,((idxs stem xs).getD i 0),f,s,pp⟩)= .agg [str wd,.int .i64 ((((idxs stem xs).getD i 0):Nat):Int),.int .i64 f,.int .i64 s,.int .i64 pp].toArray:=rfl;obtain ⟨fd,aw,bT,a3⟩:=av;obtain ⟨Z,a1⟩:∃ Z:Int,(fd<|fg ⟨wd,((idxs stem xs).getD i 0),f,s,pp⟩).getD (.int .i64 0)= .int .i64 Z:=by
  cases ac:fd (fg ⟨wd,((idxs stem xs).getD i 0),f,s,pp⟩) with
  | none=>exact ⟨0,rfl⟩
  | some u=>obtain ⟨n,rfl⟩:=a3 _ _ ac; exact ⟨n,rfl⟩
 have E:(fun w'=>Md (fun k=>k=dm) G w'∧yW w'.heap dm (fg ⟨wd,((idxs stem xs).getD i 0),f,s,pp⟩) (.int .i64 0) (.int .i64 Z)) G.drew:=⟨(Md.refl _ _).drew,fd,aw.AI,a1⟩
 refine fj (fun w'=>Md (fun k=>k=dm) G w'∧yW w'.heap dm (fg ⟨wd,((idxs stem xs).getD i 0),f,s,pp⟩) (.int .i64 0) (.int .i64 Z)) 9 ag wide E<|eR 0 ag (a8 (a6 kb) ag) E<|eR 1 ag (nc ag) E<|eR 2 ag (fa Lr ag) E<|lq 3 ag au (fun w' C=>ld HO ag<|(bo<|O.at<|al.trans C.1).trans ag) E<|lq 4 ag au (fun w' C=>dp oz ag (ag) fun j a4=>(Md.B C.1 (pw ab) fun h=>a9 h.symm).bF j) E<|lq 5 ag au (fun w' C=>lko Gv oX C.2 ag ag ⟨_,ag⟩) E<|eR 6 ag (bJ _ rfl ag ag) E<|ic 7 ag au<|men Gv oX (kx:=fg ⟨wd,((idxs stem xs).getD i 0),f,s,pp⟩) MD aw ag ag ⟨_,ag⟩ fun Gg b9 aP aY=> ?_;have aZ:(fun w'=>Md (fun k=>k=dm) G w'∧yW w'.heap dm (fg ⟨wd,((idxs stem xs).getD i 0),f,s,pp⟩) (.int .i64 0) (.int .i64 Z)) b9:=⟨E.1.trans aP,_,aY.mpb.AI,by rw [oR]; exact a1⟩
 refine ⟨aZ,?_⟩;refine eR 8 ag (xt ag ag) aZ<|eb 9 ag au au<|mes aY ag ag ag fun aD bG bt=> ?_;have am:=(Md.refl (fun k=>k=dm) G).drew.trans<|aP.trans bG;have bX:Md (fun k=>k=dm) wB aD:=al.trans am;have b1:Md (fun k=>k=dm) w aD:=aA.trans am;have bC:kK aD.heap dm (qq F xs wd stem f s pp S<|i+1):=(kK.put bT a3 bt).congr<|aaa b8;have a0:TF G [1] (fun k=>k=dm):=TF.eq (Bn aw.AI.choose_spec.1) aM;have bM:=am.jd a0 ab aM;have b4:=c7 aC am a0 aM;exact fi au<|bn<|aq<|rg ag<|p (ad ag ag<|cR aj)<|p mv<|nl<|tn<|⟨_,aj,i+1,_,aj,bX,b1,bC,bM,b4,ag,ag⟩
 have aB:ik F xs ((idxs stem xs).getD i 0) f s pp≠some wd:=fun h=>heq<|by rw [h]; rfl
 exact aT<|bn<|aq<|rg ag<|p (ad ag ag<|cR aj)<|p mv<|nl<|tn<|⟨_,aj,i+1,_,aj,al,aA,(av.congr<|MS aB),ab,aC,ag,ag⟩
 have aB:ik F xs ((idxs stem xs).getD i 0) f s pp≠some wd:=fun h=>by rw [h] at ao; cases ao
 exact aQ ag<|aQ ag<|aQ ag<|aQ ag<|p (bD ag)<|nl<|aF<|cf ag<|aT<|bn<|aq<|rg ag<|p (ad ag ag<|cR aj)<|p mv<|nl<|tn<|⟨_,aj,i+1,_,aj,al,aA,(av.congr<|MS aB),ab,aC,ag,ag⟩
 refine ext<|bj<|bj<|be<|f0 ag ?_;obtain rfl :i=(idxs stem xs).length:=aj;exact ⟨ag,aO.congr (fun d=>(Z9 d).symm),a5⟩
end Go.Hb
end
