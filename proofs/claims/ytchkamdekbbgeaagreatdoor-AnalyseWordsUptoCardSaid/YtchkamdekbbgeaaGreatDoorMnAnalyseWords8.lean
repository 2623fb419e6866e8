/-
  Walks and plain laws that the law rests on, laid together. No conditions but those that each theorem names.
-/
import Derived.Test.YtchkamdekbbgeaaGreatDoorMnAnalyseWords7
set_option linter.unusedVariables false
set_option maxRecDepth 20000
set_option maxHeartbeats 1000000
open Array renaming getElem?_eq_some_iff→dO
open Bool renaming and_eq_true→jl,and_false→yg,and_true→Gg,noConfusion→ep
open Classical renaming byContradiction→yi,not_not→jM
open Go.Instr renaming checkKey→pQ,findAsking→tP,findKey→tQ,findNow→tR
open Go.Op renaming equalIn→rB
open Go.Proofs.Tryz renaming prog→aw,underlying49→Gu
open Go.Result renaming andThen_ok→oQ
open Go.Sem renaming run_bind→oR,run_pure→rC
open Go.Value renaming bool→ca,slice→bW
open Go.World renaming ownsRow→bz
open Int renaming toNat_natCast→kQ
open List renaming append_assoc→eS,append_nil→eB,drop_left→PV,filterMap_append→PX,filter_cons→qy,flatMap_append→nU,flatMap_singleton→pU,getD_eq_getElem?_getD→cX,getElem?_eq_getElem→cx,getElem?_eq_some_iff→fL,getElem?_map→gx,getElem?_zip_eq_some→jW,length_append→bL,length_drop→fS,length_singleton→fu,length_take→dP,mem_cons→fG,mem_filter→ua,mem_filterMap→Qa,mem_flatMap→rD,mem_map→jn,mem_of_getElem?→gC,mem_range→pW,pairwise_flatMap→Qe,take_append_drop→BL,take_left→Qj,take_of_length_le→e9,toArray→bh
open Nat renaming le_trans→fz,lt_or_ge→fM,lt_succ_iff_lt_or_eq→pX,not_lt_zero→Qs,zero_le→hZ
open Option renaming bind_assoc→Qv,bind_eq_some_iff→sV,bind_some→rH,isSome_iff_exists→nX,map_eq_some_iff→nY
open Go.Proofs.Tryz
open Go.Hb.dZ Go.Proofs Go.Hb.eT Go.Hb.fI Go.Hb.iZ Go.Hb.gy Go.Hb.iw Go.Hb.jq Go.Hb.jO Go.Hb.jX Go.Hb.jP Go.Hb.kV Go.Hb.kB

namespace Go.Hb
theorem oB {l:List Nat} {i:Nat} (h:i < l.length):(l.map bT)[i]? =some (bT<|l.getD i 0):=by rw [gx,cX,cx h]; rfl
theorem E9 (B tb fb:Nat) (V:eF) (ve:Value) (F:aU) (xs:List bC) (n:Int) (w:World) (I:gE w B tb fb V ve F xs) (ae:eC F xs):
 bm aw 67 (bh [aV tb,.int .i64 n]) w (fun v w'=>(∃ a c,v= .slice a (flagsOf xs n).length c∧Tg w' 0 3 (flagsOf xs n).length v ((flagsOf xs n).map bT))∧Wk w w'):=by
 obtain ⟨am,ce,ak⟩:=I.FZ;have av:=ae.xl;refine enter func67 aa ntmps67 aa<|ag fun Y=>ay<|Y<|az fun Z=>ag fun E=>p mv<|p (lt aa aa)<|p mv<|gs (t:=7) aa (fun aj=> ?_) fun aj=> ?_;refine aH aa<|aH aa<|aH aa<|aH aa<|aH aa<|aH aa<|aH aa<|p (bH aa)<|nl<|E<|ct aa<|ag fun A=>ay<|A<|rt<|tr<|a6 aa ?_;have C:=(uA (xs:=xs) (n:=n) ab).2;rw [C];exact ⟨⟨none,0,aa,tH _ _ _⟩,Md.refl _ _⟩;refine aJ aa mv<|aJ aa mv<|aJ aa (nc aa)<|aJ aa (fa xp aa)<|aJ aa (ld wi aa<|ak)<|aJ aa (bM A4 aa aa)<|aJ aa (ge aa aa)<|p (bA aa)<|nl<|E<|cd aa (fun ai=> ?_) fun ai=> ?_;refine ag fun A=>ay<|A<|rt<|tr<|a6 aa ?_;have C:=(uA (xs:=xs) (n:=n) ab).2;rw [C];exact ⟨⟨none,0,aa,tH _ _ _⟩,Md.refl _ _⟩;obtain ⟨k,rfl⟩:∃ k:Nat,n=(k:Int):=⟨n.toNat,ab⟩
 obtain ⟨x,O⟩:∃ x,xs[k]? =some x:=⟨_,cx ab⟩
 obtain ⟨an,ao,ws,a,c,al,G,J,ah⟩:=I.eM O;obtain ⟨ap,ac,aq,au⟩:=uz O;refine aQ<|Z<|ag fun A=>p mv<|p (nc aa)<|p (fa xp aa)<|p (ld wi aa<|al)<|p mv<|p (bc JP aa aa ab<|aM.ok (G)<|wP J)<|p (fa Xb aa)<|p (ld qO aa<|fC (f:=qU) (m:=2) (fun _=>rfl) G J 1 aB)<|ay<|A<|rt<|a6 aa ?_;rw [ac];exact ⟨⟨a,c,aa,ah⟩,Md.refl _ _⟩
theorem abu (B tb fb:Nat) (V:eF) (ve:Value) (F:aU) (xs:List bC) (n:Int) (w:World) (C:gE w B tb fb V ve F xs) (ae:eC F xs):
 bm aw 182 (bh [aV tb,.int .i64 n]) w (fun v w'=>(∃ a c,v= .slice a (cw F n).length c∧Tg w' 0 3 (cw F n).length v ((cw F n).map bT))∧Wk w w'):=by
 obtain ⟨am,ce,ak⟩:=C.F1;have av:=ae.len;refine enter func182 aa ntmps182 aa<|ag fun Y=>ay<|Y<|az fun Z=>ag fun G=>p mv<|p (lt aa aa)<|p mv<|gs (t:=7) aa (fun aj=> ?_) fun aj=> ?_;refine aH aa<|aH aa<|aH aa<|aH aa<|aH aa<|aH aa<|aH aa<|aH aa<|aH aa<|aH aa<|p (bH aa)<|nl<|G<|ct aa<|ag fun A=>ay<|A<|rt<|tr<|a6 aa ?_;have E:=(xV (F:=F) (n:=n) ab).2;rw [E];exact ⟨⟨none,0,aa,tH _ _ _⟩,Md.refl _ _⟩;refine aJ aa mv<|aJ aa mv<|aJ aa (nc aa)<|aJ aa (fa oy aa)<|aJ aa (ld iS aa<|(bg C.cells).trans aa)<|aJ aa (nc aa)<|aJ aa (fa kf aa)<|aJ aa (ld kD aa<|ak)<|aJ aa (bM vw aa aa)<|aJ aa (ge aa aa)<|p (bA aa)<|nl<|G<|cd aa (fun ai=> ?_) fun ai=> ?_;refine ag fun A=>ay<|A<|rt<|tr<|a6 aa ?_;have E:=(xV (F:=F) (n:=n) ab).2;rw [E];exact ⟨⟨none,0,aa,tH _ _ _⟩,Md.refl _ _⟩;obtain ⟨k,rfl⟩:∃ k:Nat,n=(k:Int):=⟨n.toNat,ab⟩
 obtain ⟨r,O⟩:∃ r,F.rules[k]? =some r:=⟨_,cx ab⟩
 obtain ⟨an,ao,a,c,al,I,J,ah⟩:=C.jw O;obtain ⟨ap,ac,aq,au⟩:=xU O;refine aQ<|Z<|ag fun A=>p mv<|p (nc aa)<|p (fa oy aa)<|p (ld iS aa<|(bg C.cells).trans aa)<|p (nc aa)<|p (fa kf aa)<|p (ld kD aa<|al)<|p mv<|p (bc pA aa aa ab<|aM.ok (I)<|pF J)<|p (fa xn aa)<|p (ld qO aa<|fC (f:=j4) (m:=8) (fun _=>rfl) I J 6 aB)<|p aE<|nl<|A<|rt<|a6 aa ?_;rw [ac];exact ⟨⟨a,c,aa,ah⟩,Md.refl _ _⟩
theorem LI (a:Option Addr) (c:Nat) (l:List Nat) (x:Nat) (w:World) (J:aM w.heap a (l.map bT)) (ao:l.length≤1048576):
 bm aw 68 (bh [.slice a l.length c,bT x]) w (fun v w'=>v= .bool (decide (x≠0∧x∈l))∧Wk w w'):=by
 refine enter func68 aa ntmps68 aa<|ag fun Y=>ay<|Y<|az fun Z=>ag fun ac=>ay<|ac<|aT<|lp (fun I V O=> ∃ (i:Nat),(i≤l.length)∧(∀ j,j < i→¬(l.getD j 0=x∧x≠0))∧(O=w)∧(Sl V [(0,.slice a l.length c),(1,bT x),(5,ak i)])∧(l.length - i=I)) _ ⟨0,ab,(fun j C=>by omega),aa,aa,aa⟩ ?_;rintro I V O ⟨i,hi,E,aj,an,rfl⟩;refine bG an ?_;subst aj;refine az fun ae=>ag fun ah=>au (ak i)<|au (.slice a l.length c)<|p (bM mr aa aa)<|p (lt aa aa)<|nl<|ah<|cd aa (fun al=> ?_) fun al=> ?_;refine aQ<|ae<|az fun A=>aT<|ag fun G=>au (.slice a l.length c)<|au (ak i)<|p (bc ke aa aa ab<|aM.ok (J)<|cg ab)<|p (ld bD aa<|aM.gY (i:=i) J<|oB ab)<|au (bT x)<|p (bQ aa aa)<|p mv<|gs (t:=18) aa (fun heq=> ?_) fun heq=> ?_;refine aJ aa (aX (bT x) aa)<|aJ aa (dd aa aa)<|p (bH aa)<|nl<|G<|cd aa (fun am=> ?_) fun am=> ?_;exact ag fun ai=>ay<|ai<|rt<|br<|tr<|tr<|br<|tr<|a6 aa<|⟨by rw [decide_eq_true (show x≠0∧x∈l from ⟨ab,(show l.getD i 0=x by omega) ▸ eb ab⟩)]; rfl,Md.refl _ _⟩
 exact aQ<|bn<|A<|rg aa<|au (ak i)<|p (bJ ((i+1:Nat):Int) aa aa<|bp ab ab)<|p aE<|nl<|tn<|⟨_,ab,i+1,ab,(fun j C=>by rcases fM j i with h | h <;> first | exact E j h | (rw [show j=i by omega]; omega)),aa,aa,aa⟩
 exact aH aa<|aH aa<|p (bA aa)<|nl<|G<|cf aa<|aQ<|bn<|A<|rg aa<|au (ak i)<|p (bJ ((i+1:Nat):Int) aa aa<|bp ab ab)<|p aE<|nl<|tn<|⟨_,ab,i+1,ab,(fun j C=>by rcases fM j i with h | h <;> first | exact E j h | (rw [show j=i by omega]; omega)),aa,aa,aa⟩
 exact ext<|bf<|bf<|be<|Z<|ag fun A=>p aE<|nl<|A<|rt<|a6 aa<|⟨by rw [decide_eq_false (show ¬(x≠0∧x∈l) from fun h=>by obtain ⟨j,C,e⟩:=mR 0 h.2; exact E j ab ⟨e,h.1⟩)]; rfl,Md.refl _ _⟩
theorem abo (B tb fb:Nat) (V:eF) (ve:Value) (F:aU) (xs:List bC) (n:Int) (w:World) (E:gE w B tb fb V ve F xs) (Y:eC F xs):
 bm aw 225 (bh [aV tb,.int .i64 n]) w (fun v w'=>v= .bool (pw F n)∧Wk w w'):=by
 obtain ⟨ax,ce,aq⟩:=E.F1;have aK:=Y.len;refine enter func225 aa ntmps225 aa<|ag fun ae=>ay<|ae<|az fun ah=>ag fun O=>p mv<|p (lt aa aa)<|p mv<|gs (t:=8) aa (fun ap=> ?_) fun ap=> ?_;exact aH aa<|aH aa<|aH aa<|aH aa<|aH aa<|aH aa<|aH aa<|aH aa<|aH aa<|aH aa<|p (bH aa)<|nl<|O<|ct aa<|ag fun G=>ay<|G<|rt<|tr<|a6 aa<|⟨by unfold pw; rw [decide_eq_false (show ¬(0≤n∧n < (F.rules.length:Int)) by omega)]; rfl,Md.refl _ _⟩
 refine aJ aa mv<|aJ aa mv<|aJ aa (nc aa)<|aJ aa (fa oy aa)<|aJ aa (ld iS aa<|(bg E.cells).trans aa)<|aJ aa (nc aa)<|aJ aa (fa kf aa)<|aJ aa (ld kD aa<|aq)<|aJ aa (bM vw aa aa)<|aJ aa (ge aa aa)<|p (bA aa)<|nl<|O<|cd aa (fun ao=> ?_) fun ao=> ?_;exact ag fun G=>ay<|G<|rt<|tr<|a6 aa<|⟨by unfold pw; rw [decide_eq_false (show ¬(0≤n∧n < (F.rules.length:Int)) by omega)]; rfl,Md.refl _ _⟩
 obtain ⟨k,rfl⟩:∃ k:Nat,n=(k:Int):=⟨n.toNat,ab⟩
 obtain ⟨r,J⟩:∃ r,F.rules[k]? =some r:=⟨_,cx ab⟩
 obtain ⟨aA,aC,a,c,au,Z,ac,an⟩:=E.jw J;obtain ⟨aD,ak,aF,aG⟩:=xU J;have aI:=(Y.jw J).1;refine aQ<|ah<|az fun G=> ?_;have A:(fun w'=>Wk w w') w.drew:=(Md.refl _ _).drew;refine bY (fun w'=>Wk w w') aa wide A<|aR 0 aa (mv) A<|aR 1 aa (nc aa) A<|aR 2 aa (fa oy aa) A<|bR 3 aa (fun w' C=>ld iS aa<|Wk.aW C<|(bg E.cells).trans aa) A<|aR 4 aa (nc aa) A<|aR 5 aa (fa kf aa) A<|bR 6 aa (fun w' C=>ld kD aa<|Wk.aW C<|au) A<|aR 7 aa (mv) A<|aR 8 aa (bc pA aa aa ab<|aM.ok (Z.wk A)<|pF ac) A<|aR 9 aa (fa xn aa) A<|bR 10 aa (fun w' C=>ld qO aa<|Wk.aW C<|fC (f:=j4) (m:=8) (fun _=>rfl) Z ac 6 aB) A<|aR 11 aa (mv) A<|aR 12 aa (nc aa) A<|aR 13 aa (fa oy aa) A<|bR 14 aa (fun w' C=>ld iS aa<|Wk.aW C<|(bg E.cells).trans aa) A<|aR 15 aa (nc aa) A<|aR 16 aa (fa uV aa) A<|aR 17 aa (kJ uy aa aa ab) A<|bR 18 aa (fun w' C=>ld bD aa<|Wk.aW C<|Ln E (k:=0) ab) A<|he 19 aa aj<|cl Ix (LI a c r.next (F.sp.getD 0 0) w.drew (an.wk A).dp.2 ab) aa fun v39 av am=> ?_;obtain ⟨rfl,al⟩:=am;have I:(fun w'=>Wk w w') av:=A.trans al;refine ⟨I,?_⟩;exact aR 20 aa (aE) I<|hn aj<|G<|ag fun ai=>p mv<|p (no aa)<|p aE<|nl<|ai<|rt<|a6 aa<|⟨by unfold pw; rw [decide_eq_true (show 0≤(k:Int)∧(k:Int) < (F.rules.length:Int) by omega),ak]; rfl,I⟩
theorem abr (B tb fb:Nat) (V:eF) (ve:Value) (F:aU) (xs:List bC) (n k:Int) (w:World) (G:gE w B tb fb V ve F xs) (E:eC F xs):
 bm aw 37 (bh [aV tb,.int .i64 n,.int .i64 k]) w (fun v w'=>v= .bool (kN F xs n k)∧Wk w w'):=by
 refine enter func37 aa ntmps37 aa<|ag fun J=>ay<|J<|az fun O=>ag fun C=>p mv<|p (lt aa aa)<|p mv<|gs (t:=10) aa (fun aj=> ?_) fun aj=> ?_;exact aH aa<|aH aa<|p (bH aa)<|nl<|C<|ct aa<|ag fun A=>ay<|A<|rt<|tr<|a6 aa<|⟨by unfold kN; rw [decide_eq_false (show ¬(0≤k∧k < 5) by omega)]; rfl,Md.refl _ _⟩
 refine aJ aa mv<|aJ aa (gt aa aa)<|p (bA aa)<|nl<|C<|cd aa (fun ai=> ?_) fun ai=> ?_;exact ag fun A=>ay<|A<|rt<|tr<|a6 aa<|⟨by unfold kN; rw [decide_eq_false (show ¬(0≤k∧k < 5) by omega)]; rfl,Md.refl _ _⟩
 obtain ⟨k,rfl⟩:∃ m:Nat,k=(m:Int):=⟨k.toNat,ab⟩
 refine aQ<|O<|ag fun A=>p mv<|p mv<|e<|cl CL (E9 B tb fb V ve F xs n w G E) aa fun al ak ac=> ?_;obtain ⟨⟨a,c,rfl,ah⟩,hE16⟩:=ac;have I:=G.wk hE16;refine ay<|A<|ag fun Y=>p mv<|p mv<|p (nc aa)<|p (fa oy aa)<|p (ld iS aa<|(bg I.cells).trans aa)<|p mv<|p (nc aa)<|p (fa uV aa)<|p (kJ uy aa aa ab)<|p (ld bD aa<|Ln I ab)<|e<|cl Ix (LI a c (flagsOf xs n) (F.sp.getD k 0) ak ah.dp.2<|by have :=(pO E n).1; omega) aa fun am an ae=> ?_;obtain ⟨rfl,Z⟩:=ae;exact ay<|Y<|rt<|a6 aa<|⟨by unfold kN tw; rw [decide_eq_true (show 0≤((k:Nat):Int)∧((k:Nat):Int) < 5 by omega),kQ]; rfl,hE16.trans Z⟩
theorem Fb (B tb fb:Nat) (V:eF) (ve:Value) (F:aU) (xs:List bC) (fs:List Nat) (a:Option Addr) (c kd:Nat) (w:World) (ac:gE w B tb fb V ve F xs) (bb:eC F xs) (av:aM w.heap a (fs.map bT)) (b0:fs.length≤64) (bs:fs.Pairwise (· < ·)):
 bm aw 178 (bh [aV tb,.slice a fs.length c,ak kd]) w (fun v w'=>bz w' w.heap.size 3 1 v (bj F fs kd).length ((bj F fs kd).map bT)∧Wk w w'):=by
 have b7:=bb.len;obtain ⟨ar,cr,bB⟩:=ac.F1;refine enter func178 aa ntmps178 aa<|ag fun aZ=>ay<|aZ<|ag fun a2=>p aE<|nl<|a2<|az fun a3=>ag fun a4=>ay<|a4<|aT<|lp (fun O aS ah=> ∃ (i:Nat) (v:Value),(i≤F.rules.length)∧(bz ah w.heap.size 3 1 v (nG F fs kd i).length<|(nG F fs kd i).map bT)∧(Wk w ah)∧(Sl aS [(0,aV tb),(1,.slice a fs.length c),(2,ak kd),(7,v),(8,ak i)])∧(F.rules.length - i=O)) _ ⟨0,.slice none 0 0,ab,(World.ownsRow_nil _ _ _ _),(Md.refl _ _),aa,aa⟩ ?_;rintro O aS ah ⟨i,v,hi,aL,I,bv,rfl⟩;refine bG bv<|az fun a5=>ag fun a8=>au (ak i)<|au (aV tb)<|p (nc aa)<|p (fa oy aa)<|p (ld iS aa<|(bg (ac.wk I).cells).trans aa)<|p (nc aa)<|p (fa kf aa)<|p (ld kD aa<|Wk.aW I bB)<|p (bM vw aa aa)<|p (lt aa aa)<|nl<|a8<|cd aa (fun br=> ?_) fun br=> ?_;obtain ⟨r,aO⟩:∃ r,F.rules[i]? =some r:=⟨_,cx ab⟩
 obtain ⟨bF,bK,ae,rc,bx,ax,aN,bU⟩:=(ac.wk I).jw aO;obtain ⟨bN,bP,bS,aq⟩:=xU aO;have b3:=Z2 F fs kd i;have b5:((r,bW ae r.next.length rc):c7×Value).1.flag=r.flag:=rfl;have b6:((r,bW ae r.next.length rc):c7×Value).1.kind=r.kind:=rfl;refine aQ<|a5<|az fun Z=>aT<|ag fun a9=>au (aV tb)<|p (nc aa)<|p (fa oy aa)<|p (ld iS aa<|(bg (ac.wk I).cells).trans aa)<|p (nc aa)<|p (fa kf aa)<|p (ld kD aa<|bx)<|au (ak i)<|p (bc pA aa aa ab<|aM.ok (ax)<|pF aN)<|p (cW s5 aa (aa)<|fC (f:=j4) (m:=8) (fun _=>rfl) ax aN)<|e<|gk Ga fun ai ce bX aG bk=> ?_;have cb:=aG.size;refine e<|fU C2 aa aa aa aa bk (by show 8≤8; omega) fun aP aC bd=> ?_;have aA:Wk ah aP:=aG.md.trans' aC fun q b4 h=>by omega
 have b8:=aC.size;have bo:aP.heap[ai]? =some (.cells (j4 (r,.slice ae r.next.length rc)).toArray 214 (0,0)):=bd;have bt:=a7 aL aA;refine nl<|a9<|ag fun ba=>ay<|ba<|aT<|lp (fun O aY C=> ∃ (k:Nat) (v2:Value),(k≤fs.length)∧(bz C w.heap.size 3 1 v2 (nG F fs kd i++oG r fs kd i k).length<|(nG F fs kd i++oG r fs kd i k).map bT)∧((nG F fs kd i++oG r fs kd i k).length≤i+k)∧(C.heap[ai]? =some (.cells (j4 (r,.slice ae r.next.length rc)).toArray 214 (0,0)))∧(Wk w C)∧(Sl aY [(0,aV tb),(1,.slice a fs.length c),(2,ak kd),(7,v2),(8,ak i),(9,aV ai),(10,ak k)])∧(fs.length - k=O)) _ ⟨0,v,ab,(by rw [MO,eB]; exact bt),(by rw [MO,eB]; omega),bo,(I.trans aA),aa,aa⟩ ?_;rintro O aY C ⟨k,v2,b1,J,b2,Y,G,bw,rfl⟩;refine bG bw<|az fun a0=>ag fun an=>au (ak k)<|au (.slice a fs.length c)<|p (bM mr aa aa)<|p (lt aa aa)<|p mv<|gs (t:=37) aa (fun hk=> ?_) fun hk=> ?_;refine aJ aa (fa xm aa)<|aJ aa (ld bD aa<|(bg Y).trans aa)<|aJ aa (aX (ak kd) aa)<|aJ aa (bQ aa aa)<|p (bH aa)<|nl<|an<|cd aa (fun aI=> ?_) fun aI=> ?_;refine aQ<|a0<|az fun ao=>aT<|az fun a1=> ?_;have A:(fun w'=>Wk C w') C.drew:=(Md.refl _ _).drew;refine bY (fun w'=>Wk C w') aa wide A<|bO 0 aa (.slice a fs.length c) A<|bO 1 aa (ak k) A<|aR 2 aa (bc ke aa aa ab<|aM.ok (av.wk<|G.trans A)<|cg ab) A<|bR 3 aa (fun w' al=>ld bD aa<|Wk.aW al<|aM.gY (i:=k) (av.wk G)<|oB ab) A<|aR 4 aa (fa W7 aa) A<|bR 5 aa (fun w' al=>ld bD aa<|Wk.aW al<|(bg Y).trans aa) A<|aR 6 aa (bQ aa aa) A<|hn aj<|a1<|cd aa (fun am=> ?_) fun am=> ?_;have aK:=aaa (kd:=kd) (i:=i) bs (show k < fs.length by omega) (show fs.getD k 0=r.flag by omega) (show r.kind=kd by omega);refine rg aa<|au (v2)<|au (ak i)<|e<|gz lG aa aa fun bI bE bV aF bi=> ?_;have b9:=aF.size;have E:Wk C bE:=A.trans aF.md;refine e<|ap lG (a7 J E) aa (by have :=G.size; have :=E.size; omega) aa (aM.ec bi) (aa) (aa) ab ab fun v55 cc bu aD ca bZ=> ?_;have bl:=Wk.own (G.trans E) (a7 J E) aD<|Nat.le_refl _;have bq:=aD.aT (E.aT Y) fun h=>dX (a7 J E) (E.aT Y) aB h;exact p aE<|nl<|bn<|ao<|rg aa<|au (ak k)<|p (bJ ((k+1:Nat):Int) aa aa<|bp ab ab)<|p aE<|nl<|tn<|⟨_,ab,k+1,v55,ab,(by rw [aK,← eS,List.map_append,bL]; exact bu),(by rewrite [aK,← eS,bL]; simp only [fu]; omega),bq,bl,aa,aa⟩
 exact aQ<|bn<|ao<|rg aa<|au (ak k)<|p (bJ ((k+1:Nat):Int) aa aa<|bp ab ab)<|p aE<|nl<|tn<|⟨_,ab,k+1,v2,ab,(by rw [MN (show k < fs.length by omega) (fun h=>am ab)]; exact a7 J A),(by rewrite [MN (show k < fs.length by omega) (fun h=>am ab)]; omega),(A.aT Y),(G.trans A),aa,aa⟩
 exact ext<|bf<|bf<|be<|bn<|Z<|rg aa<|au (ak i)<|p (bJ ((i+1:Nat):Int) aa aa<|bp ab ab)<|p aE<|nl<|tn<|⟨_,ab,i+1,v2,ab,(by rw [← MM (r:=r) aq (.inr fun h=>aI ab)]; exact J),G,aa,aa⟩
 exact aH aa<|aH aa<|aH aa<|aH aa<|p (bA aa)<|nl<|an<|cf aa<|ext<|bf<|bf<|be<|bn<|Z<|rg aa<|au (ak i)<|p (bJ ((i+1:Nat):Int) aa aa<|bp ab ab)<|p aE<|nl<|tn<|⟨_,ab,i+1,v2,ab,(by rw [← MM (r:=r) aq (.inl (show k=fs.length by omega))]; exact J),G,aa,aa⟩
 refine ext<|bf<|bf<|be<|a3<|ag fun Z=>au (v)<|p (cE (v) aa)<|nl<|Z<|rt<|a6 aa ?_;have hn:nG F fs kd i=bj F fs kd:=by rw [show i=F.rules.length by omega]; rfl
 rw [← hn];exact ⟨aL,I⟩
theorem abC (B tb fb:Nat) (V:eF) (ve:Value) (F:aU) (xs:List bC) (n:Int) (w:World) (C:gE w B tb fb V ve F xs) (A:eC F xs):
 bm aw 110 (bh [aV tb,.int .i64 n]) w (fun v w'=>bz w' w.heap.size 3 1 v (bj F (flagsOf xs n) 2).length ((bj F (flagsOf xs n) 2).map bT)∧Wk w w'):=by
 refine enter func110 aa ntmps110 aa<|ag fun E=>ay<|E<|ag fun G=>au (aV tb)<|au (.int .i64 n)<|e<|cl CL (E9 B tb fb V ve F xs n w C A) aa fun ai ae Y=> ?_;obtain ⟨⟨a,c,rfl,Z⟩,hE8⟩:=Y;have ah:=hE8.size;refine ay<|G<|ag fun I=>au (aV tb)<|p mv<|e<|cl Cq (Fb B tb fb V ve F xs (flagsOf xs n) a c 2 ae (C.wk hE8) A Z.dp.2 (pO A n).1 (pO A n).2.1) aa fun v11 aj O=> ?_;obtain ⟨ac,J⟩:=O;exact ay<|I<|rt<|a6 aa<|⟨eQ ac ab,hE8.trans J⟩
theorem abx (B tb fb:Nat) (V:eF) (ve:Value) (F:aU) (xs:List bC) (n:Int) (w:World) (C:gE w B tb fb V ve F xs) (A:eC F xs):
 bm aw 108 (bh [aV tb,.int .i64 n]) w (fun v w'=>bz w' w.heap.size 3 1 v (bj F (flagsOf xs n) 1).length ((bj F (flagsOf xs n) 1).map bT)∧Wk w w'):=by
 refine enter func108 aa ntmps108 aa<|ag fun E=>ay<|E<|ag fun G=>au (aV tb)<|au (.int .i64 n)<|e<|cl CL (E9 B tb fb V ve F xs n w C A) aa fun ai ae Y=> ?_;obtain ⟨⟨a,c,rfl,Z⟩,hE8⟩:=Y;have ah:=hE8.size;refine ay<|G<|ag fun I=>au (aV tb)<|p mv<|e<|cl Cq (Fb B tb fb V ve F xs (flagsOf xs n) a c 1 ae (C.wk hE8) A Z.dp.2 (pO A n).1 (pO A n).2.1) aa fun v11 aj O=> ?_;obtain ⟨ac,J⟩:=O;exact ay<|I<|rt<|a6 aa<|⟨eQ ac ab,hE8.trans J⟩
theorem abB (B tb fb:Nat) (V:eF) (ve:Value) (F:aU) (xs:List bC) (n:Int) (w:World) (C:gE w B tb fb V ve F xs) (A:eC F xs):
 bm aw 112 (bh [aV tb,.int .i64 n]) w (fun v w'=>bz w' w.heap.size 3 1 v (bj F (cw F n) 2).length ((bj F (cw F n) 2).map bT)∧Wk w w'):=by
 refine enter func112 aa ntmps112 aa<|ag fun E=>ay<|E<|ag fun G=>au (aV tb)<|au (.int .i64 n)<|e<|cl Si (abu B tb fb V ve F xs n w C A) aa fun ai ae Y=> ?_;obtain ⟨⟨a,c,rfl,Z⟩,hE8⟩:=Y;have ah:=hE8.size;refine ay<|G<|ag fun I=>au (aV tb)<|p mv<|e<|cl Cq (Fb B tb fb V ve F xs (cw F n) a c 2 ae (C.wk hE8) A Z.dp.2 (vu A n).1 (vu A n).2.1) aa fun v11 aj O=> ?_;obtain ⟨ac,J⟩:=O;exact ay<|I<|rt<|a6 aa<|⟨eQ ac ab,hE8.trans J⟩
end Go.Hb
section
namespace Go.Hb
open Go.Hb.oX
theorem Of {ps:List Tx} {w:Tx} {i:Nat} (hi:i < ps.length) (h:c8 (ps.getD i []) (w.getD i 0)=false):pN ps w=false :=by
 unfold pN;rw [Bool.and_eq_false_iff];refine .inr ?_;rw [List.all_eq_false];exact ⟨i,by simpa using hi,by rw [h]; exact ep⟩
theorem Oh {ps:List Tx} {w:Tx} (A:ps.length≤w.length) (h:∀ i,i < ps.length→c8 (ps.getD i []) (w.getD i 0)=true):pN ps w=true :=by
 unfold pN;rw [jl,decide_eq_true A,List.all_eq_true];exact ⟨aa,fun i hi=>h i<|by simpa using hi⟩
theorem Og {ps:List Tx} {w:Tx} (h:w.length < ps.length):pN ps w=false :=by
 unfold pN; rw [decide_eq_false ab]; rfl
theorem XT (s pr:List UInt8) (w:World) (hs:s.length≤1099511627776) (hp:pr.length≤1099511627776):
 bm aw 167 (bh [str s,str pr]) w (fun v w'=>v= .bool (decide (s.take pr.length=pr))∧Wk w w'):=by
 refine enter func167 aa ntmps167 aa<|ag fun A=>ay<|A<|ag fun C=>au (str s)<|au (str pr)<|e<|cl Cw (D7 s pr _ hs hp) aa fun I J G=> ?_;obtain ⟨rfl,E⟩:=G;exact ay<|C<|rt<|a6 aa<|⟨aa,E⟩
theorem XU (s pr:List UInt8) (w:World) (hs:s.length≤1099511627776) (hp:pr.length≤1099511627776):
 bm aw 165 (bh [str s,str pr]) w (fun v w'=>v= .bool (decide (pr.length≤s.length∧s.drop (s.length - pr.length)=pr))∧Wk w w'):=by
 refine enter func165 aa ntmps165 aa<|ag fun A=>ay<|A<|ag fun C=>au (str s)<|au (str pr)<|e<|cl y6 (z6 s pr _ hs hp) aa fun I J G=> ?_;obtain ⟨rfl,E⟩:=G;exact ay<|C<|rt<|a6 aa<|⟨aa,E⟩
theorem aaG (ps:List Tx) (a:Option Addr) (c:Nat) (i:Nat) (b:UInt8) (w:World) (E:aM w.heap a (lV ps)) (hi:i < ps.length) (ai:ps.length≤4096):
 bm aw 221 (bh [.agg [.slice a ps.length c].toArray,ak i,.int .u8 b.toNat]) w (fun v w'=>v= .bool (c8 (ps.getD i []) b)∧Wk w w'):=by
 refine enter func221 aa ntmps221 aa<|ag fun I=>e<|ib aa fun O G ac A V=> ?_;have C:bS G.heap O [.slice a ps.length c]:=V;refine ay<|I<|ag fun J=>au (ak i)<|p (ge aa aa)<|p mv<|gs (t:=9) aa (fun ah=> ?_) fun h=>absurd ab h;refine aJ aa (aX (ak i) aa)<|aJ aa (fa nz aa)<|aJ aa (ld o4 aa<|C.bB 0)<|aJ aa (bM sB aa aa)<|aJ aa (lt aa aa)<|p (bH aa)<|p mv<|gs (t:=16) aa (fun ae=> ?_) fun h=>absurd ab h;refine aJ aa (fa nz aa)<|aJ aa (ld o4 aa<|C.bB 0)<|aJ aa (aX (ak i) aa)<|aJ aa (bc JM aa aa ab<|aM.ok (E.wk A.md)<|IQ ab)<|aJ aa (cW lr aa (aa)<|IP (E.wk A.md) hi)<|aJ aa (aX (.int .u8 b.toNat) aa)<|eg aa aa aa<|cl CA (Lv (c8<|ps.getD i []) b G) aa fun v23 aj Z=> ?_;obtain ⟨rfl,Y⟩:=Z;exact p (bH aa)<|ay<|J<|rt<|a6 aa<|⟨aa,A.md.trans Y⟩
theorem Nf (ps:List Tx) (a:Option Addr) (c:Nat) (s:Tx) (w:World) (aD:aM w.heap a (lV ps)) (aJ:ps.length≤4096):
 bm aw 168 (bh [.agg [.slice a ps.length c].toArray,str s]) w (fun v w'=>v= .bool (pN ps s)∧Wk w w'):=by
 refine enter func168 aa ntmps168 aa<|ag fun am=>e<|ib aa fun Z ai aN G aC=> ?_;have O:bS ai.heap Z [.slice a ps.length c]:=aC;refine ay<|am<|az fun ap=>ag fun aq=>au (str s)<|p (cR u9 aa aa)<|p (fa nz aa)<|p (ld o4 aa<|O.bB 0)<|p (bM sB aa aa)<|p (lt aa aa)<|nl<|aq<|cd aa (fun aH=> ?_) fun aH=> ?_;exact ag fun I=>ay<|I<|rt<|tr<|a6 aa<|⟨by rw [Og ab]; rfl,G.md⟩
 refine aQ<|ap<|az fun I=>ag fun av=>p (fa nz aa)<|p (ld o4 aa<|O.bB 0)<|p (bM sB aa aa)<|p mv<|nl<|av<|aT<|lp (fun ac al C=> ∃ (i:Nat),(i≤ps.length)∧(∀ k,k < i→c8 (ps.getD k []) (s.getD k 0)=true)∧(Wk ai C)∧(Sl al [(1,str s),(2,aV Z),(14,ak (ps.length)),(15,ak i)])∧(ps.length - i=ac)) _ ⟨0,ab,(fun k hk=>absurd hk<|Qs _),(Md.refl _ _),aa,aa⟩ ?_;rintro ac al C ⟨i,hi,ah,E,aK,rfl⟩;refine bG aK<|ag fun ax=>p (lt aa aa)<|nl<|ax<|az fun aA=>cd aa (fun aI=> ?_) fun aI=> ?_;refine aQ<|aA<|az fun J=>aT<|ag fun aB=>au (ak i)<|p (cE (ak i) aa)<|nl<|aB<|az fun an=> ?_;have A:(fun w'=>Wk C w') C.drew:=(Md.refl _ _).drew;refine bY (fun w'=>Wk C w') aa wide A<|bR 0 aa (fun w' aG=>cW oa aa (aa) fun j aO=>(Wk.B aG<|Wk.B E O).bB j) A<|bO 1 aa (ak i) A<|bO 2 aa (str s) A<|bO 3 aa (ak i) A<|aR 4 aa (fj u9 aa aa ab) A<|he 5 aa aj<|cl Sz (aaG ps a c i (s.getD i 0) C.drew (aD.wk<|G.md.trans<|E.trans A) ab aJ) aa fun v23 aL aF=> ?_;obtain ⟨rfl,V⟩:=aF;have ae:(fun w'=>Wk C w') aL:=A.trans V;refine ⟨ae,?_⟩;refine aR 6 aa (no aa) ae<|hn aj<|an<|cb aa (fun Y=> ?_) fun Y=> ?_;exact ag fun ao=>ay<|ao<|rt<|br<|tr<|tr<|br<|tr<|a6 aa<|⟨by rw [Of (i:=i) ab (by simpa using Y)]; rfl,G.md.trans<|E.trans<|A.trans V⟩
 exact aQ<|bn<|J<|rg aa<|p (ad aa aa<|cB ab)<|p mv<|nl<|tn<|⟨_,ab,i+1,ab,(fun k hk=>by rcases pX.1 hk with h | rfl; exact ah k h; simpa using Y),(E.trans<|A.trans V),aa,aa⟩
 exact ext<|bf<|bf<|be<|I<|ag fun J=>p aE<|nl<|J<|rt<|a6 aa<|⟨by rw [Oh ab (fun k hk=>ah k ab)]; rfl,G.md.trans E⟩
section
variable {r:c7} {s:Tx}
theorem Kl (h:(dz r.cond).2≠0):ik r s=false :=by unfold ik; rw [decide_eq_false (fun h2=>h h2.1)]; rfl
theorem Km (h:s.length≤r.strip.length):ik r s=false :=by unfold ik; rw [decide_eq_false (fun h2=>by omega)]; rfl
variable (h:(dz r.cond).2=0) (h1:r.strip.length < s.length)
include h h1
theorem zB (hk:r.kind=2):ik r s=(decide (s.drop (s.length - r.strip.length)=r.strip) && rV (dz r.cond).1 s):=by unfold ik; rw [decide_eq_true ⟨h,h1⟩,if_pos hk]; rfl
theorem zA (hk:r.kind=1):ik r s=(decide (s.take r.strip.length=r.strip) && pN (dz r.cond).1 s):=by unfold ik; rw [decide_eq_true ⟨h,h1⟩,if_neg ab,if_pos hk]; rfl
omit h h1 in
theorem Kk (hk:r.kind≠1) (A:r.kind≠2):ik r s=false :=by unfold ik; rw [if_neg A,if_neg hk,yg]
end
theorem aaP (ps:List Tx) (a:Option Addr) (c:Nat) (s:Tx) (w:World) (ac:aM w.heap a (lV ps)) (ak:ps.length≤4096) (ao:s.length≤1073741824):
 bm aw 166 (bh [.agg [.slice a ps.length c].toArray,str s]) w (fun v w'=>v= .bool (rV ps s)∧Wk w w'):=by
 refine enter func166 aa ntmps166 aa<|ag fun V=>e<|ib aa fun Y C am J Z=> ?_;have I:bS C.heap Y [.slice a ps.length c]:=Z;refine ay<|V<|az fun O=> ?_;have A:(fun w'=>Wk C w') C.drew:=(Md.refl _ _).drew;refine bY (fun w'=>Wk C w') aa wide A<|bO 0 aa (str s) A<|aR 1 aa (cR u9 aa aa) A<|aR 2 aa (fa nz aa) A<|bR 3 aa (fun w' E=>ld o4 aa<|Wk.aW E<|I.bB 0) A<|aR 4 aa (bM sB aa aa) A<|aR 5 aa (ge aa aa) A<|aR 6 aa (mv) A<|js (t:=11) aa (fun ai=> ?_) fun ai=> ?_;refine bq 7 aa (fun w' E=>cW oa aa (aa) fun j an=>(Wk.B E I).bB j) A<|bq 8 aa (fun _ _=>aX (str s) aa) A<|bq 9 aa (fun _ _=>aX (str s) aa) A<|bq 10 aa (fun _ _=>cR u9 aa aa) A<|bq 11 aa (fun _ _=>fa nz aa) A<|bq 12 aa (fun w' E=>ld o4 aa<|Wk.aW E<|I.bB 0) A<|bq 13 aa (fun _ _=>bM sB aa aa) A<|bq 14 aa (fun _ _=>dY ((s.length - ps.length:Nat):Int) aa aa<|bp ab ab) A<|bq 15 aa (fun _ _=>mX u9 aa aa ab) A<|nB 16 aa aj aa aa aa<|cl HU (Nf ps a c (s.drop<|s.length - ps.length) C.drew (ac.wk<|J.md.trans A) ak) aa fun v21 al ah=> ?_;obtain ⟨rfl,ae⟩:=ah;have G:(fun w'=>Wk C w') al:=A.trans ae;refine ⟨G,?_⟩;exact aR 17 aa (bH aa) G<|aR 18 aa (aE) G<|hn aj<|O<|rt<|a6 aa<|⟨by unfold rV; rw [decide_eq_true (show ps.length≤s.length by omega)]; rfl,J.md.trans G⟩
 exact a8 7 aa A<|a8 8 aa A<|a8 9 aa A<|a8 10 aa A<|a8 11 aa A<|a8 12 aa A<|a8 13 aa A<|a8 14 aa A<|a8 15 aa A<|a8 16 aa A<|aR 17 aa (bA aa) A<|aR 18 aa (aE) A<|hn aj<|O<|rt<|a6 aa<|⟨by unfold rV; rw [decide_eq_false (show ¬ps.length≤s.length by omega)]; rfl,J.md.trans A⟩
theorem Kn (r:c7) (u:Value) (s:Tx) (w:World) (bf:r.strip.length≤1048576) (a9:r.add.length≤1048576) (aY:r.cond.length≤1048576) (a0:s.length≤1073741824):
 bm aw 104 (bh [.agg (e6 (r,u)).toArray,str s]) w (fun v w'=>v= .bool (ik r s)∧Wk w w'):=by
 refine enter func104 aa ntmps104 aa<|ag fun aq=>e<|ib aa fun aC ap a4 am aF=> ?_;have bd:((r,u):c7×Value).1.strip.length=r.strip.length:=rfl;have bc:((r,u):c7×Value).1.kind=r.kind:=rfl;have bb:((r,u):c7×Value).1.add.length=r.add.length:=rfl;have ai:bS ap.heap aC (e6 (r,u)):=aF;refine ay<|aq<|ag fun av=>p (fa KG aa)<|p (ld bX aa<|ai.bB 5)<|e<|cl HT (I3 r.cond ap aY) aa fun v10 a1 aM=> ?_;obtain ⟨⟨ac,rfl,ao⟩,hE10⟩:=aM;obtain ⟨a,c,rfl⟩:=cJ ao;have ak:=(ba ao).2;have a7:=I1 r.cond;have bi:=am.size;have bg:=hE10.size;refine p mv<|p (xt aa aa)<|p (xt aa aa)<|e<|al Bg fun aD bp a5 an aG=> ?_;have bj:=an.size;refine e<|dt rT aa aa aa aa (aG) (by simp) fun Y aL aE=> ?_;have J:Wk a1 Y:=an.md.trans' aL fun q a8 h=>by omega
 have aj:bS Y.heap aD [.slice a (dz r.cond).1.length c]:=aE;have I:=Wk.B (hE10.trans J) ai;have A:=am.md.trans<|hE10.trans J;refine ay<|av<|az fun ax=>ag fun ah=>p mv<|p (dd aa aa)<|p mv<|gs (t:=15) aa (fun aS=> ?_) fun aS=> ?_;refine aH aa<|aH aa<|aH aa<|aH aa<|aH aa<|aH aa<|p (bH aa)<|nl<|ah<|ct aa<|ag fun C=>ay<|C<|rt ?_;exact tr<|a6 aa<|⟨by rw [Kl ab]; rfl,A⟩
 refine aJ aa (aX (str s) aa)<|aJ aa (cR u9 aa aa)<|aJ aa (fa rZ aa)<|aJ aa (ld bX aa<|I.bB 3)<|aJ aa (cR u9 aa aa)<|aJ aa (le aa aa)<|p (bA aa)<|nl<|ah<|cd aa (fun aZ=> ?_) fun aZ=> ?_;exact ag fun C=>ay<|C<|rt<|tr<|a6 aa<|⟨by rw [Km ab]; rfl,A⟩
 refine aQ<|ax<|az fun C=>ag fun aA=>p (fa xc aa)<|p (ld bD aa<|I.bB 0)<|nl<|aA<|aT<|ag fun aB=>p (bQ aa aa)<|ay<|aB ?_;refine cd aa (fun aW=> ?_) fun aW=> ?_;refine ag fun E=>au (str s)<|p (fa rZ aa)<|p (ld bX aa<|I.bB 3)<|e<|cl Se (XU s r.strip Y ab ab) aa fun v30 a2 aN=> ?_;obtain ⟨rfl,O⟩:=aN;refine p mv<|gb (t:=31) aa (fun ae=> ?_) fun ae=> ?_;refine aJ aa (cW oa aa (aa) fun j aU=>(Wk.B O aj).bB j)<|aJ aa (aX (str s) aa)<|eg aa aa aa<|cl Sf (aaP (dz r.cond).1 a c s a2 (ak.wk<|J.trans O) ab a0) aa fun bk bl aO=> ?_;obtain ⟨rfl,aI⟩:=aO;exact p (bH aa)<|ay<|E<|rt<|br<|tr<|a6 aa<|⟨by rw [zB ab ab ab,decide_eq_true (of_decide_eq_true ae).2]; rfl,A.trans<|O.trans aI⟩
 exact aH aa<|aH aa<|aH aa<|p (bA aa)<|ay<|E<|rt<|br<|tr<|a6 aa<|⟨by rw [zB ab ab ab,decide_eq_false (fun h=>of_decide_eq_false ae ⟨ab,h⟩)]; rfl,A.trans O⟩
 refine ag fun E=>p (bQ aa aa)<|ay<|E<|cd aa (fun aV=> ?_) fun aV=> ?_;refine ag fun G=>au (str s)<|p (fa rZ aa)<|p (ld bX aa<|I.bB 3)<|e<|cl Sg (XT s r.strip Y ab ab) aa fun v41 a3 aP=> ?_;obtain ⟨rfl,V⟩:=aP;refine p mv<|gb (t:=42) aa (fun Z=> ?_) fun Z=> ?_;refine aJ aa (cW oa aa (aa) fun j aU=>(Wk.B V aj).bB j)<|aJ aa (aX (str s) aa)<|eg aa aa aa<|cl HU (Nf (dz r.cond).1 a c s a3 (ak.wk<|J.trans V) ab) aa fun v45 bo aR=> ?_;obtain ⟨rfl,aK⟩:=aR;exact p (bH aa)<|ay<|G<|rt<|br<|tr<|a6 aa<|⟨by rw [zA ab ab ab,Z]; rfl,A.trans<|V.trans aK⟩
 exact aH aa<|aH aa<|aH aa<|p (bA aa)<|ay<|G<|rt<|br<|tr<|a6 aa<|⟨by rw [zA ab ab ab,Z]; rfl,A.trans V⟩
 exact aQ<|bn<|C<|ag fun G=>ay<|G<|rt<|a6 aa<|⟨by rw [Kk ab ab]; rfl,A⟩
def lH (s p:Tx):Tx:=if p.length≤s.length∧s.drop (s.length - p.length)=p then s.take (s.length - p.length) else s
theorem Cb {r:c7} {s:Tx} (h:ik r s=false):eH r s=none:=if_neg<|by rw [h]; exact ep
theorem wX {r:c7} {s:Tx} (h:ik r s=true):r.strip.length < s.length∧(r.kind=2→s.drop (s.length - r.strip.length)=r.strip)∧(r.kind≠2→s.take r.strip.length=r.strip):=by
 unfold ik at h;rw [jl,decide_eq_true_eq] at h;refine ⟨h.1.2,fun hk=> ?_,fun hk=> ?_⟩
 · have h2:=h.2; rw [if_pos hk,jl] at h2; exact of_decide_eq_true h2.1
 · have h2:=h.2; rw [if_neg hk] at h2;split at h2
   · rw [jl] at h2; exact of_decide_eq_true h2.1
   · cases h2
theorem Re {r:c7} {s:Tx} (h:ik r s=true) (hk:r.kind=2):eH r s=some (lH s r.strip++r.add):=by
 have h1:=wX h;unfold eH lH; rw [if_pos h,if_pos hk,if_pos ⟨ab,h1.2.1 hk⟩]
theorem Rc {r:c7} {s:Tx} (h:ik r s=true) (hk:r.kind≠2):eH r s=some (r.add++gi s r.strip):=by
 have h1:=wX h;unfold eH gi; rw [if_pos h,if_neg hk,if_pos (h1.2.2 hk)]
theorem Hs {r:c7} {s:Tx} (h:ik r s=true) (hk:r.kind=2):eH r s=some (s.take (s.length - r.strip.length)++r.add):=by
 unfold eH; rw [if_pos h,if_pos hk]
theorem Hr {r:c7} {s:Tx} (h:ik r s=true) (hk:r.kind≠2):eH r s=some (r.add++s.drop r.strip.length):=by
 unfold eH; rw [if_pos h,if_neg hk]
def xL (x:Option Tx):Value:= .tuple #[str (x.getD []),.bool x.isSome]
theorem acX (s pr:List UInt8) (w:World) (hs:s.length≤1099511627776) (hp:pr.length≤1099511627776):
 bm aw 209 (bh [str s,str pr]) w (fun v w'=>v=str (lH s pr)∧Wk w w'):=by
 refine enter func209 aa ntmps209 aa<|ag fun I=>ay<|I<|az fun J=>ag fun O=>au (str s)<|au (str pr)<|e<|cl y6 (z6 s pr _ hs hp) aa fun Y Z V=> ?_;obtain ⟨rfl,G⟩:=V;refine nl<|O<|cb aa (fun C=> ?_) fun C=> ?_;have E:=of_decide_eq_true C;exact ag fun A=>au (str s)<|au (str s)<|p (cR u9 aa aa)<|au (str pr)<|p (cR u9 aa aa)<|p (dY ((s.length - pr.length:Nat):Int) aa aa<|bp ab ab)<|p (sx u9 aa aa ab)<|ay<|A<|rt<|tr<|a6 aa<|⟨by show str (s.take (((s.length - pr.length:Nat):Int)).toNat)=_; unfold lH; rw [if_pos E]; rfl,G⟩
 have E:=of_decide_eq_false C;exact aQ<|J<|ag fun A=>au (str s)<|p (cE (str s) aa)<|nl<|A<|rt<|a6 aa<|⟨by show str s=_; unfold lH; rw [if_neg E],G⟩
theorem acY (s pr:List UInt8) (w:World) (hs:s.length≤1099511627776) (hp:pr.length≤1099511627776):
 bm aw 145 (bh [str s,str pr]) w (fun v w'=>v=str (lH s pr)∧Wk w w'):=by
 refine enter func145 aa ntmps145 aa<|ag fun A=>ay<|A<|ag fun C=>au (str s)<|au (str pr)<|e<|cl H7 (acX s pr _ hs hp) aa fun I J G=> ?_;obtain ⟨rfl,E⟩:=G;exact ay<|C<|rt<|a6 aa<|⟨aa,E⟩
theorem Rf (r:c7) (u:Value) (s:Tx) (w:World) (aH:r.strip.length≤1048576) (aF:r.add.length≤1048576) (aG:r.cond.length≤1048576) (aI:s.length≤1073741824):
 bm aw 89 (bh [.agg (e6 (r,u)).toArray,str s]) w (fun v w'=>v=xL (eH r s)∧Wk w w'):=by
 refine enter func89 aa ntmps89 aa<|ag fun al=>e<|ib aa fun ap ak aL aA aq=> ?_;have aS:((r,u):c7×Value).1.strip.length=r.strip.length:=rfl;have aP:((r,u):c7×Value).1.kind=r.kind:=rfl;have aO:((r,u):c7×Value).1.add.length=r.add.length:=rfl;have ah:bS ak.heap ap (e6 (r,u)):=aq;refine p aE<|ay<|al<|az fun am=>ag fun an=>p (cW lS aa (aa) fun j aN=>ah.bB j)<|au (str s)<|e<|cl HI (Kn r u s ak aH aF aG aI) aa fun aU A aD=> ?_;obtain ⟨rfl,ai⟩:=aD;have O:=Wk.B ai ah;have ac:=aA.md.trans ai;refine p (no aa)<|nl<|an<|cb aa (fun ae=> ?_) fun ae=> ?_;have V:ik r s=false :=by simpa using ae
 exact ag fun Y=>p aE<|ay<|Y<|rt<|tr<|f2 aa aa aa<|⟨by rw [Cb V]; rfl,ac⟩
 have V:ik r s=true :=by simpa using ae
 have aM:=(wX V).1;refine aQ<|am<|az fun Y=>ag fun ao=>p (fa xc aa)<|p (ld bD aa<|O.bB 0)<|p (bQ aa aa)<|nl<|ao<|cd aa (fun hk=> ?_) fun hk=> ?_;refine az fun Z=> ?_;have E:(fun w'=>Wk A w') A.drew:=(Md.refl _ _).drew;refine bY (fun w'=>Wk A w') aa wide E<|bO 0 aa (str s) E<|aR 1 aa (fa rZ aa) E<|bR 2 aa (fun w' C=>ld bX aa<|Wk.aW C<|O.bB 3) E<|aR 4 aa (fa xe aa) E<|bR 5 aa (fun w' C=>ld bX aa<|Wk.aW C<|O.bB 4) E<|he 3 aa aj<|cl HN (acY s r.strip A.drew ab ab) aa fun aT aJ aB=> ?_;obtain ⟨rfl,av⟩:=aB;have I:(fun w'=>Wk A w') aJ:=E.trans av;refine ⟨I,?_⟩;exact aR 6 aa (cc aa aa (by have :(lH s r.strip).length≤s.length:=(by unfold lH; split <;> simp <;> omega); omega)) I<|aR 7 aa (aE) I<|aR 8 aa (aE) I<|hn aj<|Z<|rt<|tr<|f2 aa aa aa<|⟨by rw [Re V ab]; rfl,ac.trans I⟩
 refine aQ<|Y<|az fun Z=> ?_;have G:(fun w'=>Wk A w') A.drew:=(Md.refl _ _).drew;refine bY (fun w'=>Wk A w') aa wide G<|aR 0 aa (fa xe aa) G<|bR 1 aa (fun w' C=>ld bX aa<|Wk.aW C<|O.bB 4) G<|bO 2 aa (str s) G<|aR 3 aa (fa rZ aa) G<|bR 4 aa (fun w' C=>ld bX aa<|Wk.aW C<|O.bB 3) G<|he 5 aa aj<|cl HO (Ov s r.strip A.drew ab ab) aa fun v25 aK aC=> ?_;obtain ⟨rfl,ax⟩:=aC;have J:(fun w'=>Wk A w') aK:=G.trans ax;refine ⟨J,?_⟩;exact aR 6 aa (cc aa aa (by have :(gi s r.strip).length≤s.length:=(by unfold gi; split <;> simp); omega)) J<|aR 7 aa (aE) J<|aR 8 aa (aE) J<|hn aj<|Z<|rt<|f2 aa aa aa<|⟨by rw [Rc V ab]; rfl,ac.trans J⟩
theorem NC (ps:List Tx) (a:Option Addr) (c:Nat) (s:Tx) (w:World) (Y:aM w.heap a (ps.map str)) (aI:ps.length≤4096) (ac:∀ t∈ps,(t.length=1∨3≤t.length)∧t.length≤1048576):
 bm aw 230 (bh [.slice a ps.length c,str s]) w (fun v w'=>v= .bool (pN ps s)∧Wk w w'):=by
 refine enter func230 aa ntmps230 aa<|ag fun ah=>ay<|ah<|az fun am=>ag fun an=>au (str s)<|p (cR u9 aa aa)<|au (.slice a ps.length c)<|p (bM tJ aa aa)<|p (lt aa aa)<|nl<|an<|cd aa (fun aC=> ?_) fun aC=> ?_;exact ag fun I=>ay<|I<|rt<|tr<|a6 aa<|⟨by rw [Og ab]; rfl,Md.refl _ _⟩
 refine aQ<|am<|az fun I=>ag fun ao=>ay<|ao<|aT<|lp (fun V ae C=> ∃ (i:Nat),(i≤ps.length)∧(∀ k,k < i→c8 (ps.getD k []) (s.getD k 0)=true)∧(Wk w C)∧(Sl ae [(0,.slice a ps.length c),(1,str s),(5,ak i)])∧(ps.length - i=V)) _ ⟨0,ab,(fun k hk=>absurd hk<|Qs _),(Md.refl _ _),aa,aa⟩ ?_;rintro V ae C ⟨i,hi,Z,E,aF,rfl⟩;refine bG aF<|az fun ap=>ag fun aq=>au (ak i)<|au (.slice a ps.length c)<|p (bM tJ aa aa)<|p (lt aa aa)<|nl<|aq<|cd aa (fun aD=> ?_) fun aD=> ?_;refine aQ<|ap<|az fun J=>aT<|az fun av=> ?_;have A:(fun w'=>Wk C w') C.drew:=(Md.refl _ _).drew;refine bY (fun w'=>Wk C w') aa wide A<|bO 0 aa (.slice a ps.length c) A<|bO 1 aa (ak i) A<|aR 2 aa (bc JO aa aa ab<|aM.ok (Y.wk E)<|cg ab) A<|bR 3 aa (fun w' aB=>cW uw aa (aa) (show ∀ j,j < 1→Hb.aW w'.heap (bk a) (fo a+i*1 +j)= [str (ps.getD i [])][j]? from fun j aH=>by cases j with | zero=>exact Wk.aW aB (Mn (Y.wk E) ab) | succ j=>omega)) A<|bO 4 aa (str s) A<|bO 5 aa (ak i) A<|aR 6 aa (fj u9 aa aa ab) A<|he 7 aa aj<|cl CB (G4 (ps.getD i []) (s.getD i 0) C.drew (ac _<|eb ab).1 (ac _<|eb ab).2) aa fun v25 aG aA=> ?_;obtain ⟨rfl,ax⟩:=aA;have G:(fun w'=>Wk C w') aG:=A.trans ax;refine ⟨G,?_⟩;refine aR 8 aa (aE) G<|hn aj<|av<|ag fun ai=>p mv<|p (no aa)<|nl<|ai<|cb aa (fun O=> ?_) fun O=> ?_;exact ag fun al=>ay<|al<|rt<|br<|tr<|tr<|br<|tr<|a6 aa<|⟨by rw [Of (i:=i) ab (by simpa using O)]; rfl,E.trans G⟩
 exact aQ<|bn<|J<|rg aa<|au (ak i)<|p (bJ ((i+1:Nat):Int) aa aa<|bp ab ab)<|p aE<|nl<|tn<|⟨_,ab,i+1,ab,(fun k hk=>by rcases pX.1 hk with h | rfl; exact Z k h; simpa using O),(E.trans G),aa,aa⟩
 exact ext<|bf<|bf<|be<|I<|ag fun J=>p aE<|nl<|J<|rt<|a6 aa<|⟨by rw [Oh ab (fun k hk=>Z k ab)]; rfl,E⟩
theorem abd (ps:List Tx) (a:Option Addr) (c:Nat) (s:Tx) (w:World) (I:aM w.heap a (ps.map str)) (Y:ps.length≤4096) (ac:s.length≤1073741824) (Z:∀ t∈ps,(t.length=1∨3≤t.length)∧t.length≤1048576):
 bm aw 229 (bh [.slice a ps.length c,str s]) w (fun v w'=>v= .bool (rV ps s)∧Wk w w'):=by
 refine enter func229 aa ntmps229 aa<|ag fun C=>ay<|C<|az fun E=>ag fun G=>au (str s)<|p (cR u9 aa aa)<|au (.slice a ps.length c)<|p (bM tJ aa aa)<|p (lt aa aa)<|nl<|G<|cd aa (fun V=> ?_) fun V=> ?_;exact ag fun A=>ay<|A<|rt<|tr<|a6 aa<|⟨by unfold rV; rw [decide_eq_false (show ¬ps.length≤s.length by omega)]; rfl,Md.refl _ _⟩
 refine aQ<|E<|ag fun A=>au (.slice a ps.length c)<|au (str s)<|au (str s)<|p (cR u9 aa aa)<|au (.slice a ps.length c)<|p (bM tJ aa aa)<|p (dY ((s.length - ps.length:Nat):Int) aa aa<|bp ab ab)<|p (mX u9 aa aa ab)<|e<|cl Ic (NC ps a c (s.drop<|s.length - ps.length) w I Y Z) aa fun ae ah O=> ?_;obtain ⟨rfl,J⟩:=O;exact ay<|A<|rt<|a6 aa<|⟨by unfold rV; rw [decide_eq_true (show ps.length≤s.length by omega)]; rfl,J⟩
theorem abn (r:c7) (u:Value) (s:Tx) (w:World) (a7:r.strip.length≤1048576) (a1:r.add.length≤1048576) (a2:r.cond.length≤1048576) (a9:s.length≤1073741824):
 bm aw 181 (bh [.agg (j4 (r,u)).toArray,str s]) w (fun v w'=>v= .bool (ik r s)∧Wk w w'):=by
 refine enter func181 aa ntmps181 aa<|ag fun aD=>e<|ib aa fun aL aC aZ aN aM=> ?_;have a5:((r,u):c7×Value).1.strip.length=r.strip.length:=rfl;have a4:((r,u):c7×Value).1.kind=r.kind:=rfl;have a3:((r,u):c7×Value).1.add.length=r.add.length:=rfl;have ap:bS aC.heap aL (j4 (r,u)):=aM;refine ay<|aD<|ag fun aF=>p (fa DJ aa)<|p (ld bX aa<|ap.bB 5)<|e<|cl Ia (Nh r.cond aC ab) aa fun bb aB aO=> ?_;obtain ⟨⟨ac,rfl,av⟩,hE13⟩:=aO;obtain ⟨a,c,rfl⟩:=cJ av;have aq:=(ba av).2;have ah:= @I0 r.cond;have ax:∀ t∈(dz r.cond).1,(t.length=1∨3≤t.length)∧t.length≤1048576:=fun t aA=>⟨(ah.1 t aA).1,by have :=(ah.1 t aA).2; omega⟩
 have I:=Wk.B hE13 ap;have E:=aN.md.trans hE13;have a0:=ah.2;refine p mv<|p (xt aa aa)<|p (xt aa aa)<|p aE<|ay<|aF<|az fun aG=>rg aa<|p (fa uY aa)<|p (ld bX aa<|I.bB 3)<|p (cR u9 aa aa)<|ay<|aG<|az fun aI=>ag fun ao=>p mv<|p (dd aa aa)<|p mv<|gs (t:=21) aa (fun aT=> ?_) fun aT=> ?_;exact aH aa<|aH aa<|aH aa<|aH aa<|p (bH aa)<|nl<|ao<|ct aa<|ag fun G=>ay<|G<|rt<|tr<|a6 aa<|⟨by rw [Kl ab]; rfl,E⟩
 refine aJ aa (aX (str s) aa)<|aJ aa (cR u9 aa aa)<|aJ aa mv<|aJ aa (le aa aa)<|p (bA aa)<|nl<|ao<|cd aa (fun aY=> ?_) fun aY=> ?_;exact ag fun G=>ay<|G<|rt<|tr<|a6 aa<|⟨by rw [Km ab]; rfl,E⟩
 refine aQ<|aI<|az fun G=>ag fun aK=>p (fa xm aa)<|p (ld bD aa<|I.bB 0)<|p (bQ aa aa)<|nl<|aK<|cd aa (fun aV=> ?_) fun aV=> ?_;refine ag fun V=>p mv<|au (str s)<|e<|cl SC (abd (dz r.cond).1 a c s aB aq ab ab ax) aa fun v32 al aP=> ?_;obtain ⟨rfl,Y⟩:=aP;refine ay<|V<|az fun J=> ?_;have A:(fun w'=>Wk al w') al.drew:=(Md.refl _ _).drew;refine bY (fun w'=>Wk al w') aa wide A<|aR 0 aa (mv) A<|aR 1 aa (mv) A<|Aa (t:=34) aa (fun ak=> ?_) fun ak=> ?_;exact bq 2 aa (fun _ _=>aX (str s) aa) A<|bq 3 aa (fun _ _=>aX (str s) aa) A<|bq 4 aa (fun _ _=>cR u9 aa aa) A<|bq 5 aa (fun _ _=>mv) A<|bq 6 aa (fun _ _=>dY ((s.length - r.strip.length:Nat):Int) aa aa<|bp ab ab) A<|bq 7 aa (fun _ _=>mX u9 aa aa ab) A<|bq 8 aa (fun _ _=>fa uY aa) A<|bq 9 aa (fun w' ae=>ld bX aa<|Wk.aW ae<|(Wk.B Y I).bB 3) A<|bq 10 aa (fun _ _=>et aa aa) A<|aR 11 aa (bH aa) A<|aR 12 aa (aE) A<|hn aj<|J<|rt<|tr<|a6 aa<|⟨by rw [zB ab ab ab,ak,Gg]; rfl,E.trans<|Y.trans A⟩
 exact a8 2 aa A<|a8 3 aa A<|a8 4 aa A<|a8 5 aa A<|a8 6 aa A<|a8 7 aa A<|a8 8 aa A<|a8 9 aa A<|a8 10 aa A<|aR 11 aa (bA aa) A<|aR 12 aa (aE) A<|hn aj<|J<|rt<|tr<|a6 aa<|⟨by rw [zB ab ab ab,ak,yg]; rfl,E.trans<|Y.trans A⟩
 refine aQ<|G<|az fun V=>ag fun J=>p (fa xm aa)<|p (ld bD aa<|I.bB 0)<|p (bQ aa aa)<|nl<|J<|cd aa (fun aU=> ?_) fun aU=> ?_;refine ag fun O=>p mv<|au (str s)<|e<|cl Ic (NC (dz r.cond).1 a c s aB aq ab ax) aa fun v50 am aS=> ?_;obtain ⟨rfl,Z⟩:=aS;refine ay<|O<|az fun an=> ?_;have C:(fun w'=>Wk am w') am.drew:=(Md.refl _ _).drew;refine bY (fun w'=>Wk am w') aa wide C<|aR 0 aa (mv) C<|aR 1 aa (mv) C<|Aa (t:=52) aa (fun ai=> ?_) fun ai=> ?_;exact bq 2 aa (fun _ _=>aX (str s) aa) C<|bq 3 aa (fun _ _=>mv) C<|bq 4 aa (fun _ _=>sx u9 aa aa ab) C<|bq 5 aa (fun _ _=>fa uY aa) C<|bq 6 aa (fun w' ae=>ld bX aa<|Wk.aW ae<|(Wk.B Z I).bB 3) C<|bq 7 aa (fun _ _=>et aa aa) C<|aR 8 aa (bH aa) C<|aR 9 aa (aE) C<|hn aj<|an<|rt<|tr<|a6 aa<|⟨by rw [zA ab ab ab,ai,Gg]; rfl,E.trans<|Z.trans C⟩
 exact a8 2 aa C<|a8 3 aa C<|a8 4 aa C<|a8 5 aa C<|a8 6 aa C<|a8 7 aa C<|aR 8 aa (bA aa) C<|aR 9 aa (aE) C<|hn aj<|an<|rt<|tr<|a6 aa<|⟨by rw [zA ab ab ab,ai,yg]; rfl,E.trans<|Z.trans C⟩
 exact aQ<|V<|ag fun O=>ay<|O<|rt<|a6 aa<|⟨by rw [Kk ab ab]; rfl,E⟩
theorem E4 (r:c7) (u:Value) (s:Tx) (w:World) (aB:r.strip.length≤1048576) (ax:r.add.length≤1048576) (aA:r.cond.length≤1048576) (aC:s.length≤1073741824):
 bm aw 111 (bh [.agg (j4 (r,u)).toArray,str s]) w (fun v w'=>v=xL (eH r s)∧Wk w w'):=by
 refine enter func111 aa ntmps111 aa<|ag fun ai=>e<|ib aa fun ao ah aD aq ap=> ?_;have aJ:((r,u):c7×Value).1.strip.length=r.strip.length:=rfl;have aI:((r,u):c7×Value).1.kind=r.kind:=rfl;have aH:((r,u):c7×Value).1.add.length=r.add.length:=rfl;have ac:bS ah.heap ao (j4 (r,u)):=ap;refine p aE<|ay<|ai<|ag fun ak=>p (cW s5 aa (aa) fun j aG=>ac.bB j)<|au (str s)<|e<|cl Sh (abn r u s ah aB ax aA aC) aa fun v9 G av=> ?_;obtain ⟨rfl,ae⟩:=av;have I:=Wk.B ae ac;have Y:=aq.md.trans ae;refine ay<|ak<|az fun al=>ag fun am=>p mv<|p (no aa)<|nl<|am<|cb aa (fun Z=> ?_) fun Z=> ?_;have J:ik r s=false :=by simpa using Z
 exact ag fun O=>p aE<|ay<|O<|rt<|tr<|f2 aa aa aa<|⟨by rw [Cb J]; rfl,Y⟩
 have J:ik r s=true :=by simpa using Z
 have aF:=(wX J).1;refine aQ<|al<|az fun O=>ag fun an=>p (fa xm aa)<|p (ld bD aa<|I.bB 0)<|p (bQ aa aa)<|nl<|an<|cd aa (fun hk=> ?_) fun hk=> ?_;refine az fun V=> ?_;have A:(fun w'=>Wk G w') G.drew:=(Md.refl _ _).drew;exact bY (fun w'=>Wk G w') aa wide A<|bO 0 aa (str s) A<|bO 1 aa (str s) A<|aR 2 aa (cR u9 aa aa) A<|aR 3 aa (fa uY aa) A<|bR 4 aa (fun w' E=>ld bX aa<|Wk.aW E<|I.bB 3) A<|aR 5 aa (cR u9 aa aa) A<|aR 6 aa (dY ((s.length - r.strip.length:Nat):Int) aa aa<|bp ab ab) A<|aR 7 aa (sx u9 aa aa ab) A<|aR 8 aa (fa DI aa) A<|bR 9 aa (fun w' E=>ld bX aa<|Wk.aW E<|I.bB 4) A<|aR 10 aa (cc aa aa<|by simp only [dP]; omega) A<|aR 11 aa (aE) A<|aR 12 aa (aE) A<|hn aj<|V<|rt<|tr<|f2 aa aa aa<|⟨by rw [Hs J ab]; rfl,Y.trans A⟩
 refine aQ<|O<|az fun V=> ?_;have C:(fun w'=>Wk G w') G.drew:=(Md.refl _ _).drew;exact bY (fun w'=>Wk G w') aa wide C<|aR 0 aa (fa DI aa) C<|bR 1 aa (fun w' E=>ld bX aa<|Wk.aW E<|I.bB 4) C<|bO 2 aa (str s) C<|aR 3 aa (fa uY aa) C<|bR 4 aa (fun w' E=>ld bX aa<|Wk.aW E<|I.bB 3) C<|aR 5 aa (cR u9 aa aa) C<|aR 6 aa (mX u9 aa aa ab) C<|aR 7 aa (cc aa aa<|by simp only [fS]; omega) C<|aR 8 aa (aE) C<|aR 9 aa (aE) C<|hn aj<|V<|rt<|f2 aa aa aa<|⟨by rw [Hr J ab]; rfl,Y.trans C⟩
end Go.Hb
end
section
namespace Go.Hb
def dJ (d:bK):List Value:= [str d.e7,.int .i64 (d.eM:Nat),.int .i64 d.fst,.int .i64 d.snd,.int .i64 d.pre]
def eG (l:List bK):List Value:=l.flatMap dJ
theorem o6 {h:Array Obj} {b e:Nat} {L:List Value} (A:h[b]? =some (.cells L.toArray e (0,0))):bS h b L:=⟨e,A⟩
def Rn (F:aU) (n:Int):Prop :=n= -1∨(0≤n∧n < F.rules.length)
section
variable {F:aU} {xs:List bC} {e:Nat} {f s p:Int}
theorem Li (A:f= -1) (hp:p= -1):fD F xs e f s p= !tw F xs e 0:=by unfold fD; rw [if_pos A,decide_eq_false (fun h=>h hp)]; rfl
theorem Lj (A:f= -1) (hp:p≠ -1):fD F xs e f s p=true :=by unfold fD; rw [if_pos A,decide_eq_true hp]; rfl
theorem D0 (A:f≠ -1) (h:pw F (if s= -1 then f else s)=false):fD F xs e f s p=false :=by unfold fD; rw [if_neg A,if_pos h]
theorem DZ (A:f≠ -1) (h:pw F (if s= -1 then f else s)=true) (hp:p= -1):fD F xs e f s p=true :=by unfold fD; rw [if_neg A,if_neg (by rw [h]; exact ep),decide_eq_true hp]; rfl
theorem qZ (A:f≠ -1) (h:pw F (if s= -1 then f else s)=true) (hp:p≠ -1):fD F xs e f s p=(mg F f && mg F s && mg F p):=by unfold fD; rw [if_neg A,if_neg (by rw [h]; exact ep),decide_eq_false hp]; rfl
theorem I4:mg F (-1)=true :=by unfold mg; rw [decide_eq_true rfl]; rfl
theorem uI {k:Nat} {r:c7} (A:F.rules[k]? =some r):mg F k=r.eI:=by
 unfold mg;rw [decide_eq_false ab,kQ,cX,A]; rfl
end
theorem Mo (F:aU) (xs:List bC) (e:Int):kN F xs e 0=tw F xs e 0:=rfl
theorem acN {α β:Type} {g:α→Option β} {l:List α} {i:Nat} (d:α) (h:i < l.length):(l.take<|i+1).filterMap g=(l.take i).filterMap g++(g<|l.getD i d).toList:=by
 rw [fV l i d h,PX];congr 1
structure QJ where
 ar:Option Addr
 cr:Nat
 rn:List Value
 ap:Option Addr
 cp:Nat
section
variable {w w':World} {fp fp':Nat→Prop} {S0 mb tb l:Nat} {K:QJ} {F:aU} {e:Int} {word:Tx} {ps:List Nat}
end
theorem U3 {F:aU} {xs:List bC} {e:Nat} {word:Tx} {f s:Int} {p:Nat} (h:fD F xs e f s p=false):nu F xs e word f s p=none:=if_neg<|by rw [h]; exact ep
theorem U2 {F:aU} {xs:List bC} {e:Nat} {word:Tx} {f s:Int} {p:Nat} (h:eH (F.rules.getD p dR) word=none):nu F xs e word f s p=none:=by unfold nu; rw [h]; split <;> rfl
theorem U4 {F:aU} {xs:List bC} {e:Nat} {word v:Tx} {f s:Int} {p:Nat} (h:fD F xs e f s p=true) (h1:eH (F.rules.getD p dR) word=some v):nu F xs e word f s p=some ⟨v,e,f,s,p⟩:=by unfold nu; rw [if_pos h,h1]; rfl
theorem XL (B tb:Nat) (U:gJ) (F:aU) (xs:List bC) (ar:Option Addr) (cr:Nat) (rn:List Value) (word:Tx) (en:Nat) (f s pp:Int) (w:World) (a5:fY w B tb U F xs) (aK:eC F xs) (a0:aM w.heap ar (iG<|F.rules.zip rn)) (av:rn.length=F.rules.length) (an:Rn F f) (hs:Rn F s) (hp:Rn F pp):
 bm aw 49 (bh [aV tb,.slice ar F.rules.length cr,.agg (dJ ⟨word,en,f,s,pp⟩).toArray]) w (fun v w'=>v= .bool (fD F xs en f s pp)∧Wk w w'):=by
 refine enter func49 aa ntmps49 aa<|ag fun aX=>e<|ib aa fun aY aC A aG aZ=> ?_;have bg:=aG.size;have ah:=a5.wk aG.md;have A:bS aC.heap aY [str word,ak en,.int .i64 f,.int .i64 s,.int .i64 pp]:=aZ;have E:Wk w aC:=aG.md;have V:=a0.wk aG.md;refine ay<|aX<|az fun aO=>aT<|ag fun aP=>p (fa mM aa)<|p (ld bD aa<|A.bB 2)<|p (lt aa aa)<|p mv<|gs (t:=11) aa (fun aL=> ?_) fun aL=> ?_;refine aJ aa (fa qe aa)<|aJ aa (ld bD aa<|A.bB 4)<|aJ aa (lt aa aa)<|p (bH aa)<|ay<|aP<|cd aa (fun aR=> ?_) fun aR=> ?_;refine ag fun ao=>p mv<|p (fa qd aa)<|p (ld bD aa<|A.bB 1)<|e<|cl Ib (Aj B tb U F xs (en:Nat) 0 aC ah aK) aa fun bi bk a2=> ?_;obtain ⟨rfl,a1⟩:=a2;refine p (no aa)<|ay<|ao<|rt<|br<|tr<|a6 aa ?_;have C:fD F xs en f s pp= !kN F xs en 0:=by rw [Li (by unfold Rn at an; omega) (by unfold Rn at hp; omega),Mo]
 exact ⟨Eq.trans (b:=ca<|!kN F xs en 0) aa (congrArg ca C.symm),E.trans a1⟩;refine ag fun ao=>p (fa mM aa)<|p (ld bD aa<|A.bB 2)<|p (lt aa aa)<|ay<|ao<|cd aa (fun a7=> ?_) fun h=>absurd aL h;refine ag fun ap=>ay<|ap<|rt<|br<|tr<|a6 aa ?_;have C:fD F xs en f s pp=true :=by exact Lj (by unfold Rn at an; omega) ab
 exact ⟨Eq.trans (b:=ca<|true) aa (congrArg ca C.symm),E⟩;refine aH aa<|aH aa<|aH aa<|p (bA aa)<|ay<|aP<|cf aa<|ag fun ao=>p (fa mM aa)<|p (ld bD aa<|A.bB 2)<|p (lt aa aa)<|ay<|ao<|cd aa (fun h=>absurd h aL) fun a7=> ?_;refine az fun ap=>ag fun aS=>p (fa mN aa)<|p (ld bD aa<|A.bB 3)<|p (lt aa aa)<|p mv<|gs (t:=29) aa (fun aN=> ?_) fun aN=> ?_;refine aJ aa mv<|aJ aa (fa mM aa)<|aJ aa (ld bD aa<|A.bB 2)<|eg aa aa aa<|cl IC (JC B tb U F xs f aC ah aK) aa fun v33 bl a3=> ?_;obtain ⟨rfl,aD⟩:=a3;have ah:=ah.wk aD;have A:=Wk.B aD A;have E:=E.trans aD;have V:=V.wk aD;refine aJ aa (no aa)<|p (bH aa)<|ay<|aS<|cb aa (fun G=> ?_) fun G=> ?_;refine aQ<|ap<|ct (congrArg ca G)<|ag fun ae=>ay<|ae<|rt<|br<|tr<|a6 aa ?_;have C:fD F xs en f s pp=false :=by exact D0 ab<|by rw [if_pos (show s= -1 by unfold Rn at hs; omega)]; simpa using G
 exact ⟨Eq.trans (b:=ca<|false) aa (congrArg ca C.symm),E⟩;refine rg aa<|p (fa mN aa)<|p (ld bD aa<|A.bB 3)<|p (ge aa aa)<|p mv<|gs (t:=39) aa (fun h=>absurd h ab) fun a9=>aH aa<|aH aa<|aH aa<|aH aa<|aH aa<|p (bA aa)<|p aE<|nl<|ap<|cf aa<|ag fun ae=>p (fa qe aa)<|p (ld bD aa<|A.bB 4)<|p (lt aa aa)<|p aE ?_;refine nl<|ae<|cd aa (fun bR=> ?_) fun bR=> ?_;refine ag fun O=>ay<|O<|rt<|br<|tr<|a6 aa ?_;have C:fD F xs en f s pp=true :=by exact DZ ab (by rw [if_pos (show s= -1 by unfold Rn at hs; omega)]; simpa using G)<|by unfold Rn at hp; omega
 exact ⟨Eq.trans (b:=ca<|true) aa (congrArg ca C.symm),E⟩;obtain ⟨J,rfl⟩:∃ m:Nat,pp=(m:Int):=⟨(pp).toNat,by unfold Rn at hp; omega⟩
 obtain ⟨al,Z⟩:∃ r,F.rules[J]? =some r:=⟨_,cx<|by unfold Rn at hp; omega⟩
 have aA:(F.rules.zip rn)[J]? =some (al,rn[J]'(by rw [av]; exact (fL.1 Z).1)):=jW.2 ⟨Z,cx _⟩;have au:=uI Z;have bd:=(fL.1 Z).1;obtain ⟨I,rfl⟩:∃ m:Nat,f=(m:Int):=⟨(f).toNat,by unfold Rn at an; omega⟩
 obtain ⟨rf,Y⟩:∃ r,F.rules[I]? =some r:=⟨_,cx<|by unfold Rn at an; omega⟩
 have ax:(F.rules.zip rn)[I]? =some (rf,rn[I]'(by rw [av]; exact (fL.1 Y).1)):=jW.2 ⟨Y,cx _⟩;have aq:=uI Y;have bb:=(fL.1 Y).1;have am:=V;refine aQ<|bn<|aO<|ag fun O=>p mv<|p (fa qe aa)<|p (ld bD aa<|A.bB 4)<|p (bc ny aa aa ab<|aM.ok (V)<|oM aA)<|p (fa xd aa)<|p (ld nq aa<|fC (f:=e6) (m:=7) (fun _=>rfl) am aA 2 aB)<|p mv<|gb (t:=56) aa (fun aj=> ?_) fun aj=> ?_;refine aJ aa mv<|aJ aa (fa mM aa)<|aJ aa (ld bD aa<|A.bB 2)<|aJ aa (bc ny aa aa ab<|aM.ok (V)<|oM ax)<|aJ aa (fa xd aa)<|aJ aa (ld nq aa<|fC (f:=e6) (m:=7) (fun _=>rfl) am ax 2 aB)<|p (bH aa)<|p mv<|gb (t:=64) aa (fun ai=> ?_) fun ai=> ?_;refine aJ aa (fa mN aa)<|aJ aa (ld bD aa<|A.bB 3)<|aJ aa (lt aa aa)<|aJ aa mv<|gs (t:=68) aa (fun ba=> ?_) fun h=>absurd aN h;refine aH aa<|aH aa<|aH aa<|aH aa<|aH aa<|aH aa<|aJ aa (bH aa)<|p (bH aa)<|ay<|O<|rt<|a6 aa ?_;have C:fD F xs en ((I:Nat):Int) s ((J:Nat):Int)=true :=by rw [qZ ab (by rw [if_pos (show s= -1 by unfold Rn at hs; omega)]; simpa using G) ab,aq,au,show s= -1 by (unfold Rn at hs; omega),I4,(show rf.eI=true from ai),(show al.eI=true from aj)]; rfl
 exact ⟨Eq.trans (b:=ca<|true) aa (congrArg ca C.symm),E⟩;refine aH aa<|aH aa<|aH aa<|aH aa<|ek aa<|ek aa<|ek aa<|ek aa<|ek aa<|ek aa<|aH aa<|p (bA aa)<|ay<|O<|rt<|a6 aa ?_;have C:fD F xs en ((I:Nat):Int) s ((J:Nat):Int)=false :=by rw [qZ ab (by rw [if_pos (show s= -1 by unfold Rn at hs; omega)]; simpa using G) ab,aq,(show rf.eI=false from ai)]; rfl
 exact ⟨Eq.trans (b:=ca<|false) aa (congrArg ca C.symm),E⟩;refine aH aa<|aH aa<|aH aa<|aH aa<|aH aa<|aH aa<|p (bA aa)<|p mv<|aH aa<|aH aa<|aH aa<|aH aa<|ek aa<|ek aa<|ek aa<|ek aa<|ek aa<|ek aa<|aH aa<|p (bA aa)<|ay<|O<|rt<|a6 aa ?_;have C:fD F xs en ((I:Nat):Int) s ((J:Nat):Int)=false :=by rw [qZ ab (by rw [if_pos (show s= -1 by unfold Rn at hs; omega)]; simpa using G) ab,au,(show al.eI=false from aj),yg]
 exact ⟨Eq.trans (b:=ca<|false) aa (congrArg ca C.symm),E⟩;refine aH aa<|aH aa<|aH aa<|aH aa<|aH aa<|p (bA aa)<|p aE<|nl<|aS<|cf aa<|rg aa<|p (fa mN aa)<|p (ld bD aa<|A.bB 3)<|p (ge aa aa)<|p mv<|gs (t:=39) aa (fun a9=> ?_) fun h=>absurd ab h;refine aJ aa mv<|aJ aa (fa mN aa)<|aJ aa (ld bD aa<|A.bB 3)<|eg aa aa aa<|cl IC (JC B tb U F xs s aC ah aK) aa fun bj bo a4=> ?_;obtain ⟨rfl,aF⟩:=a4;have ah:=ah.wk aF;have A:=Wk.B aF A;have E:=E.trans aF;have V:=V.wk aF;refine aJ aa (no aa)<|p (bH aa)<|ay<|ap<|cb aa (fun G=> ?_) fun G=> ?_;refine ag fun ae=>ay<|ae<|rt<|br<|tr<|a6 aa ?_;have C:fD F xs en f s pp=false :=by exact D0 ab<|by rw [if_neg (show ¬s= -1 by omega)]; simpa using G
 exact ⟨Eq.trans (b:=ca<|false) aa (congrArg ca C.symm),E⟩;refine ag fun ae=>p (fa qe aa)<|p (ld bD aa<|A.bB 4)<|p (lt aa aa)<|ay<|ae<|cd aa (fun bR=> ?_) fun bR=> ?_;refine ag fun O=>ay<|O<|rt<|br<|tr<|a6 aa ?_;have C:fD F xs en f s pp=true :=by exact DZ ab (by rw [if_neg (show ¬s= -1 by omega)]; simpa using G)<|by unfold Rn at hp; omega
 exact ⟨Eq.trans (b:=ca<|true) aa (congrArg ca C.symm),E⟩;obtain ⟨J,rfl⟩:∃ m:Nat,pp=(m:Int):=⟨(pp).toNat,by unfold Rn at hp; omega⟩
 obtain ⟨al,Z⟩:∃ r,F.rules[J]? =some r:=⟨_,cx<|by unfold Rn at hp; omega⟩
 have aA:(F.rules.zip rn)[J]? =some (al,rn[J]'(by rw [av]; exact (fL.1 Z).1)):=jW.2 ⟨Z,cx _⟩;have au:=uI Z;have bd:=(fL.1 Z).1;obtain ⟨I,rfl⟩:∃ m:Nat,f=(m:Int):=⟨(f).toNat,by unfold Rn at an; omega⟩
 obtain ⟨rf,Y⟩:∃ r,F.rules[I]? =some r:=⟨_,cx<|by unfold Rn at an; omega⟩
 have ax:(F.rules.zip rn)[I]? =some (rf,rn[I]'(by rw [av]; exact (fL.1 Y).1)):=jW.2 ⟨Y,cx _⟩;have aq:=uI Y;have bb:=(fL.1 Y).1;obtain ⟨ac,rfl⟩:∃ m:Nat,s=(m:Int):=⟨(s).toNat,by unfold Rn at hs; omega⟩
 obtain ⟨rs,aI⟩:∃ r,F.rules[ac]? =some r:=⟨_,cx<|by unfold Rn at hs; omega⟩
 have aW:(F.rules.zip rn)[ac]? =some (rs,rn[ac]'(by rw [av]; exact (fL.1 aI).1)):=jW.2 ⟨aI,cx _⟩;have a8:=uI aI;have bf:=(fL.1 aI).1;have am:=V;refine aQ<|bn<|aO<|ag fun O=>p mv<|p (fa qe aa)<|p (ld bD aa<|A.bB 4)<|p (bc ny aa aa ab<|aM.ok (V)<|oM aA)<|p (fa xd aa)<|p (ld nq aa<|fC (f:=e6) (m:=7) (fun _=>rfl) am aA 2 aB)<|p mv<|gb (t:=56) aa (fun aj=> ?_) fun aj=> ?_;refine aJ aa mv<|aJ aa (fa mM aa)<|aJ aa (ld bD aa<|A.bB 2)<|aJ aa (bc ny aa aa ab<|aM.ok (V)<|oM ax)<|aJ aa (fa xd aa)<|aJ aa (ld nq aa<|fC (f:=e6) (m:=7) (fun _=>rfl) am ax 2 aB)<|p (bH aa)<|p mv<|gb (t:=64) aa (fun ai=> ?_) fun ai=> ?_;refine aJ aa (fa mN aa)<|aJ aa (ld bD aa<|A.bB 3)<|aJ aa (lt aa aa)<|aJ aa mv<|gs (t:=68) aa (fun h=>absurd h aN) fun ba=>aJ aa mv<|aJ aa (fa mN aa)<|aJ aa (ld bD aa<|A.bB 3)<|aJ aa (bc ny aa aa ab<|aM.ok (V)<|oM aW)<|aJ aa (fa xd aa)<|aJ aa (ld nq aa<|fC (f:=e6) (m:=7) (fun _=>rfl) am aW 2 aB)<|aJ aa (bA aa)<|p (bH aa)<|ay<|O<|rt<|a6 aa ?_;have C:fD F xs en ((I:Nat):Int) ((ac:Nat):Int) ((J:Nat):Int)=rs.eI:=by rw [qZ ab (by rw [if_neg (show ¬((ac:Nat):Int)= -1 by omega)]; simpa using G) ab,aq,a8,au,(show rf.eI=true from ai),(show al.eI=true from aj),Bool.true_and,Gg]
 exact ⟨Eq.trans (b:=ca<|rs.eI) aa (congrArg ca C.symm),E⟩;refine aH aa<|aH aa<|aH aa<|aH aa<|ek aa<|ek aa<|ek aa<|ek aa<|ek aa<|ek aa<|aH aa<|p (bA aa)<|ay<|O<|rt<|a6 aa ?_;have C:fD F xs en ((I:Nat):Int) ((ac:Nat):Int) ((J:Nat):Int)=false :=by rw [qZ ab (by rw [if_neg (show ¬((ac:Nat):Int)= -1 by omega)]; simpa using G) ab,aq,(show rf.eI=false from ai)]; rfl
 exact ⟨Eq.trans (b:=ca<|false) aa (congrArg ca C.symm),E⟩;refine aH aa<|aH aa<|aH aa<|aH aa<|aH aa<|aH aa<|p (bA aa)<|p mv<|aH aa<|aH aa<|aH aa<|aH aa<|ek aa<|ek aa<|ek aa<|ek aa<|ek aa<|ek aa<|aH aa<|p (bA aa)<|ay<|O<|rt<|a6 aa ?_;have C:fD F xs en ((I:Nat):Int) ((ac:Nat):Int) ((J:Nat):Int)=false :=by rw [qZ ab (by rw [if_neg (show ¬((ac:Nat):Int)= -1 by omega)]; simpa using G) ab,au,(show al.eI=false from aj),yg]
 exact ⟨Eq.trans (b:=ca<|false) aa (congrArg ca C.symm),E⟩
end Go.Hb
end
namespace Go.Hb
theorem oJ {F:aU} {xs:List bC} (h:eC F xs) {k:Nat} {r:c7} (A:F.rules[k]? =some r):r.strip.length≤1048576∧r.add.length≤1048576∧r.cond.length≤1048576∧r.add.length≤32:=by
 have :=(h.jw A).2.2; unfold ki at this; omega
theorem KA {α β:Type} {g:α→List β} {l:List α} {i:Nat} (d:α) (h:i < l.length):(l.take<|i+1).flatMap g=(l.take i).flatMap g++g (l.getD i d):=by
 rw [fV l i d h,nU,pU]
noncomputable def qS (F:aU) (xs:List bC) (n:Int):List bK:=if 0≤n∧n < xs.length then j0 F xs n.toNat else []
theorem Jo {F:aU} {xs:List bC} {k:Nat} (h:k < xs.length):qS F xs k=j0 F xs k:=by unfold qS; rw [if_pos ab,kQ]
theorem Jp {F:aU} {xs:List bC} {n:Int} (h:¬(0≤n∧n < xs.length)):qS F xs n= []:=if_neg h
noncomputable def kE (F:aU) (xs:List bC) (k:Nat):List bK:=(List.range k).flatMap<|j0 F xs
theorem Q1 (F:aU) (xs:List bC) (k:Nat):kE F xs (k+1)=kE F xs k++j0 F xs k:=by unfold kE; rw [List.range_succ,nU,pU]
def BR (W:World) (b:Nat) (A:Option Addr):Prop :=W.heap[b]? =some (.cells [.pointer A].toArray 24 (0,0))
def gu (L:List bK) (most:Int):List bK:=if most < 1 then [] else L.take most.toNat
theorem acL {L:List bK} {most:Int} (h:most < 1):gu L most= []:=if_pos h
end Go.Hb
section
namespace Go.Hb.uj
def x6 (dE:Bool) (q:Option Tx) (most limit:Int) (acc:List bK) (v:Value):List Value:= [.bool dE,.bool q.isSome,str (q.getD []),.int .i64 most,.int .i64 limit,.int .i64 (acc.length:Nat),.int .i64 (jF acc:Nat),v]
def Bd (acc:List bK):Prop :=acc.length≤jF acc∧jF acc≤acc.length*1000∧acc.length≤2000000
theorem Bd.nil:Bd []:=⟨hZ _,hZ _,hZ _⟩
def Sd (d:bK):Prop :=1≤d.e7.length∧d.e7.length≤1000
def sj (q:Option Tx) (d:bK):Bool:=match q with
 | none=>true
 | some s=>decide (d.e7=s)
def ji (q:Option Tx) (most limit:Int) (a L:List bK):List bK:=oC most limit a<|L.filter<|sj q
def sh (q:Option Tx) (most limit:Int) (a:List bK) (d:bK):List bK:=oC most limit a<|[d].filter<|sj q
section
variable {q:Option Tx} {most limit:Int} {a L M:List bK} {d:bK}
theorem xx:ji q most limit a (L++M)=ji q most limit (ji q most limit a L) M:=by unfold ji; rw [List.filter_append,Y0]
theorem LV (h:kn most limit a=true) (L:List bK):ji q most limit a L=a:=Ad h _
theorem Mu (h:sj q d=true):sh q most limit a d=tx most limit a d:=by unfold sh; rw [qy,if_pos h]; rfl
theorem ZR (h:sj q d=false):sh q most limit a d=a:=by unfold sh; rw [qy,if_neg (by rw [h]; exact ep)]; rfl
theorem ZQ (h:kn most limit a=true):sh q most limit a d=a:=Ad h _
end
theorem ZS {most limit:Int} {acc:List bK} {d:bK} (h:kn most limit acc=true):tx most limit acc d=acc:=if_pos h
theorem Mv {most limit:Int} {acc:List bK} {d:bK} (h:kn most limit acc=false):tx most limit acc d=acc++ [d]:=if_neg<|by rw [h]; exact ep
theorem Xk {most limit:Int} {acc:List bK} (h:kn most limit acc=false):(acc.length:Int) < most∧(jF acc:Int)≤limit:=by
 unfold kn at h; have :=of_decide_eq_false h; omega
theorem HD (acc:List bK) (d:bK):jF (acc++ [d])=jF acc+d.e7.length:=by rw [HB,HC]
theorem Bd.met {most limit:Int} {acc:List bK} {d:bK} (h:Bd acc) (hm:most≤2000∨limit≤1048576) (hd:Sd d):Bd (tx most limit acc d):=by
 by_cases A:kn most limit acc=true
 · rw [ZS A]; exact h
 · rw [Mv (by simpa using A)];have :=Xk<|by simpa using A
   unfold Bd Sd at*;rw [HD,bL,fu];omega
structure jb (w:World) (fp:Nat→Prop) (S0 xb:Nat) (dE:Bool) (q:Option Tx) (most limit:Int) (acc:List bK):Prop where
 lo:S0≤xb
 ex:∃ v,w.heap[xb]? =some (.cells (x6 dE q most limit acc v).toArray 140 (0,0))∧(if dE=true then bz w S0 74 5 v acc.length (eG acc) else v= .slice none 0 0)∧∀ k,fp k↔(k=xb∨v.ownBlock=some k)
 bd:Bd acc
structure Tw (fp:Nat→Prop) (w:World) (fp':Nat→Prop) (w':World):Prop where
 md:Md fp w w'
 sub:∀ k,fp' k→fp k∨w.heap.size≤k
section
variable {w w' w'':World} {fp fp' fp'':Nat→Prop} {S0 xb:Nat} {dE:Bool} {q:Option Tx} {most limit:Int} {acc:List bK}
theorem Tw.refl (fp:Nat→Prop) (w:World):Tw fp w fp w:=⟨Md.refl _ _,fun _ h=> .inl h⟩
theorem Tw.trans (h:Tw fp w fp' w') (A:Tw fp' w' fp'' w''):Tw fp w fp'' w'':=
 ⟨h.md.trans' A.md fun k hk C=>(h.sub k C).elim id (fun h2=>by omega),fun k hk=>(A.sub k hk).elim (h.sub k) fun h2=> .inr<|fz h.md.size h2⟩
theorem Tw.wk (h:Wk w w'):Tw fp w fp w':=⟨h.mono fun _ _ h=>h.elim,fun _ h=> .inl h⟩
theorem jb.wk (h:jb w fp S0 xb dE q most limit acc) (hm:Wk w w'):jb w' fp S0 xb dE q most limit acc:=by
 obtain ⟨v,h1,h2,h3⟩:=h.ex;refine ⟨h.lo,⟨v,Wk.aT hm h1,?_,h3⟩,h.bd⟩;cases dE with
 | true =>rw [if_pos rfl] at h2 ⊢; exact a7 h2 hm
 | false =>exact h2
theorem jb.tf (h:jb w fp S0 xb dE q most limit acc):TF w [142,76] fp:=by
 obtain ⟨v,h1,h2,h3⟩:=h.ex;intro k hk;rcases (h3 k).1 hk with rfl | hk
 · rw [dN h1]; decide
 · cases dE with
   | true =>rw [if_pos rfl] at h2; rw [FM h2 hk]; decide
   | false =>rw [if_neg aB] at h2; rw [h2] at hk; cases hk
theorem jb.lt (h:jb w fp S0 xb dE q most limit acc):∀ k,fp k→k < w.heap.size:=by
 obtain ⟨v,h1,h2,h3⟩:=h.ex;intro k hk;rcases (h3 k).1 hk with rfl | hk
 · exact (dO.1 h1).1
 · cases dE with
   | true =>rw [if_pos rfl] at h2; exact (dQ h2 hk).2
   | false =>rw [if_neg aB] at h2; rw [h2] at hk; cases hk
theorem jb.Ms (h:jb w fp S0 xb dE q most limit acc) {b:Nat} (hm:Md (fun q=>q=b) w w') (A:¬fp b):jb w' fp S0 xb dE q most limit acc:=by
 obtain ⟨v,h1,h2,h3⟩:=h.ex;refine ⟨h.lo,⟨v,hm.aT h1 (fun h4=>A<|(h3 b).2<|.inl h4.symm),?_,h3⟩,h.bd⟩;cases dE with
 | true =>rw [if_pos rfl] at h2 ⊢; exact dw h2 hm fun k hk h4=>A<|by subst h4; exact (h3 _).2<|.inr hk
 | false =>exact h2
theorem jb.aW (h:jb w fp S0 xb dE q most limit acc):Hb.aW w.heap xb 0=some (.bool dE)∧Hb.aW w.heap xb 1=some (.bool q.isSome)∧Hb.aW w.heap xb 2=some (str<|q.getD [])∧Hb.aW w.heap xb 3=some (.int .i64 most)∧Hb.aW w.heap xb 4=some (.int .i64 limit)∧Hb.aW w.heap xb 5=some (.int .i64 (acc.length:Nat))∧Hb.aW w.heap xb 6=some (.int .i64 (jF acc:Nat)):=by
 obtain ⟨v,h1,_⟩:=h.ex;exact ⟨(bg h1).trans aa,(bg h1).trans aa,(bg h1).trans aa,(bg h1).trans aa,(bg h1).trans aa,(bg h1).trans aa,(bg h1).trans aa⟩
theorem xv {B tb fb:Nat} {V:eF} {ve:Value} {F:aU} {xs:List bC} (A:gE w B tb fb V ve F xs) (h:jb w fp S0 xb dE q most limit acc) (hm:Md fp w w'):gE w' B tb fb V ve F xs:=
 ⟨hm.iT h.tf A.cells aB,A.fl.md hm h.tf aB,A.en.md hm h.tf aB⟩
theorem XO {B tb fb:Nat} {V:eF} {ve:Value} {F:aU} {xs:List bC} (A:gE w B tb fb V ve F xs) {b:Nat} {cs:Array Value} {z:Nat×Nat} (C:w.heap[b]? =some (.cells cs 74 z)) (hm:Md (fun q=>q=b) w w'):gE w' B tb fb V ve F xs:=
 ⟨hm.iT (TF.eq (L:= [76]) (dN C) aB) A.cells aB,A.fl.md hm (TF.eq (L:= [76]) (dN C) aB) aB,A.en.md hm (TF.eq (L:= [76]) (dN C) aB) aB⟩
end
theorem E5 (B tb fb:Nat) (V:eF) (ve:Value) (F:aU) (xs:List bC) (n:Int) (w:World) (G:gE w B tb fb V ve F xs) (ac:eC F xs) (hn:Rn F n):
 bm aw 226 (bh [aV tb,.int .i64 n]) w (fun v w'=>v= .bool (mg F n)∧Wk w w'):=by
 refine enter func226 aa ntmps226 aa<|ag fun J=>ay<|J<|ag fun C=>p mv<|p (bQ aa aa)<|p mv<|gs (t:=7) aa (fun bO=> ?_) fun bO=> ?_;exact aH aa<|aH aa<|aH aa<|aH aa<|aH aa<|aH aa<|aH aa<|aH aa<|aH aa<|aH aa<|aH aa<|p (bH aa)<|ay<|C<|rt<|a6 aa<|⟨by rw [bO,I4]; rfl,Md.refl _ _⟩
 obtain ⟨k,rfl⟩:∃ k:Nat,n=(k:Int):=⟨n.toNat,by unfold Rn at hn; omega⟩
 obtain ⟨r,A⟩:∃ r,F.rules[k]? =some r:=⟨_,cx<|by unfold Rn at hn; omega⟩
 obtain ⟨Y,Z,a,c,O,E,I,ae⟩:=G.jw A;have ah:=(fL.1 A).1;exact aJ aa mv<|aJ aa (nc aa)<|aJ aa (fa oy aa)<|aJ aa (ld iS aa<|(bg G.cells).trans aa)<|aJ aa (nc aa)<|aJ aa (fa kf aa)<|aJ aa (ld kD aa<|O)<|aJ aa mv<|aJ aa (bc pA aa aa ab<|aM.ok (E)<|pF I)<|aJ aa (fa W8 aa)<|aJ aa (ld nq aa<|fC (f:=j4) (m:=8) (fun _=>rfl) E I 2 aB)<|p (bA aa)<|ay<|C<|rt<|a6 aa<|⟨by rw [uI A]; rfl,Md.refl _ _⟩
theorem Nv (B tb fb:Nat) (V:eF) (ve:Value) (F:aU) (xs:List bC) (word:Tx) (en:Nat) (f s pp:Int) (w:World) (Z:gE w B tb fb V ve F xs) (Y:eC F xs) (a4:Rn F f) (hs:Rn F s) (hp:Rn F pp):
 bm aw 179 (bh [aV tb,.agg (dJ ⟨word,en,f,s,pp⟩).toArray]) w (fun v w'=>v= .bool (fD F xs en f s pp)∧Wk w w'):=by
 refine enter func179 aa ntmps179 aa<|ag fun aK=>e<|ib aa fun ap aB E av aT=> ?_;have a9:=av.size;have aX:=Z.wk av.md;have E:bS aB.heap ap [str word,ak en,.int .i64 f,.int .i64 s,.int .i64 pp]:=aT;have ai:Wk w aB:=av.md;refine ay<|aK<|az fun aN=>ag fun aO=>p (fa zU aa)<|p (ld bD aa<|E.bB 2)<|p (bQ aa aa)<|nl<|aO<|cd aa (fun I=> ?_) fun I=> ?_;refine ag fun an=>p mv<|p (fa KS aa)<|p (ld bD aa<|E.bB 1)<|e<|cl Td (abr B tb fb V ve F xs (en:Nat) 0 aB aX Y) aa fun v17 bd aY=> ?_;obtain ⟨rfl,aq⟩:=aY;have E:=Wk.B aq E;refine ay<|an<|ag fun J=>p (fa tp aa)<|p (ld bD aa<|E.bB 4)<|p (dd aa aa)<|p mv<|gs (t:=21) aa (fun bR=> ?_) fun bR=> ?_;refine aH aa<|aH aa<|p (bH aa)<|ay<|J<|rt<|tr<|a6 aa ?_;have C:fD F xs en f s pp=true :=Lj I bR;exact ⟨Eq.trans (b:=ca true) aa (congrArg ca C.symm),ai.trans aq⟩;refine aJ aa mv<|aJ aa (no aa)<|p (bA aa)<|ay<|J<|rt<|tr<|a6 aa ?_;have C:fD F xs en f s pp= !kN F xs en 0:=by rw [Li I (jM.1 bR),Mo]
 exact ⟨Eq.trans (b:=ca<|!kN F xs en 0) aa (congrArg ca C.symm),ai.trans aq⟩;refine aQ<|aN<|ag fun an=>p (fa zU aa)<|p (ld bD aa<|E.bB 2)<|p aE<|nl<|an ?_;refine eo (fun aI aj=> ∃ (ah:Int),(ah=if s= -1 then f else s)∧(Wk w aj)∧(bS aj.heap ap [str word,ak en,.int .i64 f,.int .i64 s,.int .i64 pp])∧(Sl aI [(0,aV tb),(3,aV ap),(6,.int .i64 ah)])) ?_ ?_;refine ag fun J=>p (fa zV aa)<|p (ld bD aa<|E.bB 3)<|p (dd aa aa)<|nl<|J<|cd aa (fun ae=> ?_) fun ae=> ?_;exact rg aa<|p (fa zV aa)<|p (ld bD aa<|E.bB 3)<|p aE<|nl<|tn<|⟨s,(by rw [if_neg ae]),ai,E,aa⟩
 exact aQ<|tn<|⟨f,(by rw [if_pos (jM.1 ae)]),ai,E,aa⟩
 rintro aI aj ⟨ah,ab,aG,a3,ae⟩;refine bG ae<|ag fun J=>au (aV tb)<|au (.int .i64 ah)<|e<|cl SA (abo B tb fb V ve F xs ah aj (Z.wk aG) Y) aa fun ba a5 aZ=> ?_;obtain ⟨rfl,aC⟩:=aZ;have G:=Wk.B aC a3;have A:=aG.trans aC;refine ay<|J<|az fun aP=>ag fun aR=>p mv<|p (no aa)<|nl<|aR<|cb aa (fun O=> ?_) fun O=> ?_;refine ag fun ao=>ay<|ao<|rt<|tr<|a6 aa ?_;have C:fD F xs en f s pp=false :=D0 I<|by rw [← ab]; simpa using O
 exact ⟨Eq.trans (b:=ca false) aa (congrArg ca C.symm),A⟩;refine aQ<|aP<|az fun ao=>ag fun aS=>p (fa tp aa)<|p (ld bD aa<|G.bB 4)<|p (bQ aa aa)<|nl<|aS<|cd aa (fun ac=> ?_) fun ac=> ?_;refine ag fun al=>ay<|al<|rt<|tr<|a6 aa ?_;have C:fD F xs en f s pp=true :=DZ I (by rw [← ab]; simpa using O) ac;exact ⟨Eq.trans (b:=ca true) aa (congrArg ca C.symm),A⟩;refine aQ<|ao<|ag fun al=>au (aV tb)<|p (fa zU aa)<|p (ld bD aa<|G.bB 2)<|e<|cl Cy (E5 B tb fb V ve F xs f a5 (Z.wk A) Y a4) aa fun bb a7 a0=> ?_;obtain ⟨rfl,aD⟩:=a0;have G:=Wk.B aD G;have A:=A.trans aD;refine ay<|al<|ag fun aL=>au (aV tb)<|p (fa zV aa)<|p (ld bD aa<|G.bB 3)<|e<|cl Cy (E5 B tb fb V ve F xs s a7 (Z.wk A) Y hs) aa fun bc a8 a1=> ?_;obtain ⟨rfl,aF⟩:=a1;have G:=Wk.B aF G;have A:=A.trans aF;refine ay<|aL<|ag fun aM=>au (aV tb)<|p (fa tp aa)<|p (ld bD aa<|G.bB 4)<|e<|cl Cy (E5 B tb fb V ve F xs pp a8 (Z.wk A) Y hp) aa fun v51 bf a2=> ?_;obtain ⟨rfl,aW⟩:=a2;have A:=A.trans aW;refine ay<|aM<|ag fun am=>p mv<|p mv<|gb (t:=53) aa (fun ax=> ?_) fun ax=> ?_;refine aJ aa mv<|p (bH aa)<|p mv<|gb (t:=56) aa (fun aA=> ?_) fun aA=> ?_;refine aJ aa mv<|p (bH aa)<|ay<|am<|rt<|a6 aa ?_;have C:fD F xs en f s pp=mg F pp:=by rw [qZ I (by rw [← ab]; simpa using O) ac,ax,(show mg F s=true by simpa using aA)]; simp
 exact ⟨Eq.trans (b:=ca<|mg F pp) aa (congrArg ca C.symm),A⟩;refine aH aa<|p (bA aa)<|ay<|am<|rt<|a6 aa ?_;have C:fD F xs en f s pp=false :=by rw [qZ I (by rw [← ab]; simpa using O) ac,(show mg F s=false by simpa using aA)]; simp
 exact ⟨Eq.trans (b:=ca false) aa (congrArg ca C.symm),A⟩;refine aH aa<|p (bA aa)<|p mv<|aH aa<|p (bA aa)<|ay<|am<|rt<|a6 aa ?_;have C:fD F xs en f s pp=false :=by rw [qZ I (by rw [← ab]; simpa using O) ac,ax]; rfl
 exact ⟨Eq.trans (b:=ca false) aa (congrArg ca C.symm),A⟩
theorem Xl (S0 xb:Nat) (dE:Bool) (q:Option Tx) (most limit:Int) (acc:List bK) (fp:Nat→Prop) (w:World) (Y:jb w fp S0 xb dE q most limit acc):
 bm aw 227 (bh [aV xb]) w (fun v w'=>v= .bool (kn most limit acc)∧Wk w w'):=by
 obtain ⟨Z,c1,c2,c3,J,O,V⟩:=Y.aW;refine enter func227 aa ntmps227 aa<|ag fun I=>ay<|I<|az fun G=> ?_;have A:(fun w'=>Wk w w') w.drew:=(Md.refl _ _).drew;refine bY (fun w'=>Wk w w') aa wide A<|bO 0 aa (aV xb) A<|aR 1 aa (nc aa) A<|aR 2 aa (fa uS aa) A<|bR 3 aa (fun w' C=>ld bD aa<|Wk.aW C<|O) A<|bO 4 aa (aV xb) A<|aR 5 aa (nc aa) A<|aR 6 aa (fa zN aa) A<|bR 7 aa (fun w' C=>ld bD aa<|Wk.aW C<|c3) A<|aR 8 aa (ge aa aa) A<|aR 9 aa (mv) A<|js (t:=12) aa (fun hm=> ?_) fun hm=> ?_;refine a8 10 aa A<|a8 11 aa A<|a8 12 aa A<|a8 13 aa A<|a8 14 aa A<|a8 15 aa A<|a8 16 aa A<|a8 17 aa A<|a8 18 aa A<|aR 19 aa (bH aa) A<|aR 20 aa (aE) A<|hn aj<|G<|rt<|a6 aa ?_;have E:kn most limit acc=true :=decide_eq_true<|Or.inl hm;exact ⟨Eq.trans (b:=ca true) aa (congrArg ca E.symm),A⟩;refine bq 10 aa (fun _ _=>aX (aV xb) aa) A<|bq 11 aa (fun _ _=>nc aa) A<|bq 12 aa (fun _ _=>fa uT aa) A<|bq 13 aa (fun w' C=>ld bD aa<|Wk.aW C<|V) A<|bq 14 aa (fun _ _=>aX (aV xb) aa) A<|bq 15 aa (fun _ _=>nc aa) A<|bq 16 aa (fun _ _=>fa zO aa) A<|bq 17 aa (fun w' C=>ld bD aa<|Wk.aW C<|J) A<|bq 18 aa (fun _ _=>gt aa aa) A<|aR 19 aa (bA aa) A<|aR 20 aa (aE) A<|hn aj<|G<|rt<|a6 aa ?_;have E:kn most limit acc=decide ((jF acc:Int) > limit):=by unfold kn; rw [decide_eq_decide]; omega
 exact ⟨Eq.trans (b:=ca<|decide ((jF acc:Int) > limit)) aa (congrArg ca E.symm),A⟩
theorem Mx (S0 xb:Nat) (dE:Bool) (q:Option Tx) (most limit:Int) (acc:List bK) (fp:Nat→Prop) (d:bK) (w:World) (ah:jb w fp S0 xb dE q most limit acc) (hd:Sd d) (bO:most≤2000∨limit≤1048576):
 bm aw 180 (bh [aV xb,.agg (dJ d).toArray]) w (fun v w'=>v= .tuple #[]∧∃ fp',jb w' fp' S0 xb dE q most limit (sh q most limit acc d)∧Tw fp w fp' w'):=by
 refine enter func180 aa ntmps180 aa<|ag fun bj=>e<|ib aa fun I bb aY ae bo=> ?_;have b0:=ae.size;have aY:bS bb.heap I (dJ d):=bo;have aX:=ah.wk ae.md;have bM:=ah.lt;have a3:¬fp I:=fun h=>by have :=bM I h; omega
 refine nl<|bj<|ag fun bk=>p mv<|e<|cl SB (Xl S0 xb dE q most limit acc fp bb aX) aa fun v6 aC bv=> ?_;obtain ⟨rfl,ac⟩:=bv;have ai:=aX.wk ac;obtain ⟨bR,c1,c2,c3,bT,bU,bV⟩:=ai.aW;have a0:=Wk.B ac aY;refine ay<|bk ?_;refine eo (fun bi an=>(kn most limit acc=false)∧(sj q d=true)∧(Wk aC an)∧(Sl bi [(0,aV xb),(3,aV I)])) ?_ ?_;refine az fun Z=> ?_;have A:(fun w'=>Wk aC w') aC.drew:=(Md.refl _ _).drew;refine bY (fun w'=>Wk aC w') aa wide A<|aR 0 aa (mv) A<|aR 1 aa (mv) A<|Aa (t:=8) aa (fun Y=> ?_) fun Y=> ?_;exact a8 2 aa A<|a8 3 aa A<|a8 4 aa A<|a8 5 aa A<|a8 6 aa A<|mO 7 aa aj aa aa aa A<|mO 8 aa aj aa aa aa A<|mO 9 aa aj aa aa aa A<|mO 10 aa aj aa aa aa A<|mO 11 aa aj aa aa aa A<|mO 12 aa aj aa aa aa A<|mO 13 aa aj aa aa aa A<|a8 14 aa A<|aR 15 aa (bH aa) A<|hn aj<|Z<|ct aa<|rt<|tr<|rX aa<|⟨aa,fp,by rw [ZQ Y]; exact ai.wk A,Tw.wk<|(ae.md.trans ac).trans A⟩
 refine bq 2 aa (fun _ _=>mv) A<|bq 3 aa (fun _ _=>nc aa) A<|bq 4 aa (fun _ _=>fa WX aa) A<|bq 5 aa (fun w' E=>ld nq aa<|Wk.aW E<|c1) A<|bq 6 aa (fun _ _=>mv) A<|Aa (t:=13) aa (fun has=> ?_) fun has=> ?_;obtain ⟨sq,rfl⟩:∃ s,q=some s:=by
  cases q with
  | none=>cases has
  | some s=>exact ⟨s,rfl⟩
 refine bq 7 aa (fun _ _=>fa xo aa) A<|bq 8 aa (fun w' E=>ld bX aa<|Wk.aW E<|a0.bB 0) A<|bq 9 aa (fun _ _=>mv) A<|bq 10 aa (fun _ _=>nc aa) A<|bq 11 aa (fun _ _=>fa WY aa) A<|bq 12 aa (fun w' E=>ld bX aa<|Wk.aW E<|c2) A<|bq 13 aa (fun _ _=>oF aa aa) A<|bq 14 aa (fun _ _=>bH aa) A<|aR 15 aa (bA aa) A<|hn aj<|Z<|cd aa (fun aH=> ?_) fun aH=> ?_;exact rt<|tr<|rX aa<|⟨aa,fp,by rw [ZR (show sj (some sq) d=false from decide_eq_false aH)]; exact ai.wk A,Tw.wk<|(ae.md.trans ac).trans A⟩
 exact aQ<|tn<|⟨Y,(decide_eq_true<|jM.1 aH),A,aa⟩
 obtain rfl :q=none:=by
  cases q with
  | none=>rfl
  | some s=>cases has
 exact a8 7 aa A<|a8 8 aa A<|a8 9 aa A<|a8 10 aa A<|a8 11 aa A<|a8 12 aa A<|a8 13 aa A<|bq 14 aa (fun _ _=>bA aa) A<|aR 15 aa (bA aa) A<|hn aj<|Z<|cf aa<|aQ<|tn<|⟨Y,aa,A,aa⟩
 rintro bi an ⟨Y,a9,aD,bP⟩;refine bG bP<|az fun Z=> ?_;have av:sh q most limit acc d=acc++ [d]:=(Mu a9).trans<|Mv Y;have a1:=ai.bd;have aG:Bd (sh q most limit acc d):=by rw [Mu a9]; exact a1.met bO hd
 have aI:Bd (acc++ [d]):=av ▸ aG;unfold Bd at a1 aI;unfold Sd at hd;obtain ⟨v,ax,aJ,O⟩:=(ai.wk aD).ex;have a4:I≠xb:=fun h=>a3<|(O I).2<|.inl h;have aK:=HD acc d;rw [aK] at aI;simp only [bL,fu] at aI;have bC:=Wk.B aD a0;refine rg aa<|au (aV xb)<|au (aV xb)<|p (nc aa)<|p (fa uS aa)<|p (ld bD aa<|(bg ax).trans aa)<|p (bJ ((acc.length+1:Nat):Int) aa aa<|bp ab ab)<|p (nc aa)<|p (fa uS aa)<|e<|dx gR aa aa (v:= .int .i64 ((acc.length+1:Nat):Int)) aa ax (by show 5 < 8; omega) fun aA aO br=> ?_;have ba:aA.heap[xb]? =some (.cells [.bool dE,.bool q.isSome,str (q.getD []),.int .i64 most,.int .i64 limit,.int .i64 ((acc.length+1:Nat):Int),ak (jF acc),v].toArray 140 (0,0)):=br;have aZ:=Md.B aO bC fun h=>a4 h;refine nl<|Z<|az fun bl=> ?_;have G:(fun w'=>Wk aA w') aA.drew:=(Md.refl _ _).drew;refine e5 (fun w'=>Wk aA w') 11 aa wide G<|bI 0 aa (aV xb) G<|bI 1 aa (aV xb) G<|bN 2 aa (nc aa) G<|bN 3 aa (fa uT aa) G<|ea 4 aa (fun w' E=>ld bD aa<|Wk.aW E<|(bg ba).trans aa) G<|bN 5 aa (fa xo aa) G<|ea 6 aa (fun w' E=>ld bX aa<|Wk.aW E<|aZ.bB 0) G<|bN 7 aa (cR u9 aa aa) G<|bN 8 aa (bJ ((jF acc+d.e7.length:Nat):Int) aa aa<|bp ab ab) G<|bN 9 aa (nc aa) G<|bN 10 aa (fa uT aa) G<|dU 11 aa aj aj<|dx gR aa aa (v:= .int .i64 ((jF acc+d.e7.length:Nat):Int)) aa ba (by show 6 < 8; omega) fun am aP bs=> ?_;have al:am.heap[xb]? =some (.cells [.bool dE,.bool q.isSome,str (q.getD []),.int .i64 most,.int .i64 limit,.int .i64 ((acc.length+1:Nat):Int),.int .i64 ((jF acc+d.e7.length:Nat):Int),v].toArray 140 (0,0)):=bs;have bz:=Md.B aP aZ fun h=>a4 h;have aq:Md (fun q=>q=xb) an am:=aO.trans' (iY aP) fun q C h=>h;have aN:Wk w an:=(ae.md.trans ac).trans aD;have bw:TF an [142] (fun q=>q=xb):=TF.eq (dN ax) aB;refine eZ aj<|bl<|ag fun bn=>au (aV xb)<|p (nc aa)<|p (fa WW aa)<|p (ld nq aa<|(bg al).trans aa)<|nl ?_;refine bn<|cb aa (fun hk=> ?_) fun hk=> ?_;rw [if_pos hk] at aJ;have a5:=cQ aJ aq bw aB;subst hk;have J:(fun w'=>Hb.aW w'.heap xb 7=some v∧bS w'.heap I (dJ d)) am.drew:=⟨(bg al).trans rfl,bz⟩
 refine e5 (fun w'=>Hb.aW w'.heap xb 7=some v∧bS w'.heap I (dJ d)) 10 aa wide J<|bI 0 aa (aV xb) J<|bI 1 aa (aV xb) J<|bN 2 aa (nc aa) J<|bN 3 aa (fa DC aa) J<|ea 4 aa (fun w' E=>ld He aa<|E.1) J<|ea 5 aa (fun w' E=>cW s7 aa (aa) fun j bZ=>E.2.bB j) J<|gS 6 aa aj<|kY AP aa aa aa fun bQ bc bW ao bt=> ?_;have b1:=ao.size;have V:Wk am bc:=((Md.refl (fun _=>False) am).drew).trans ao.md;have aU:(fun w'=>Hb.aW w'.heap xb 7=some v∧bS w'.heap I (dJ d)) bc:=⟨Wk.aW ao.md J.1,Wk.B ao.md J.2⟩
 refine ⟨aU,?_⟩;refine gS 7 aa aj<|ap AP (a7 a5 V) aa (by have :=ah.lo; have :=(dO.1 ax).1; have :=aq.size; have :=V.size; omega) aa (aM.ec bt) (aa) (aa) ab ab fun v53 bf a6 aE b2 bE=> ?_;have aL:=aE.aT (Wk.aT V al) fun h=>dX (a7 a5 V) (Wk.aT V al) aB h;have aF:(fun w'=>Hb.aW w'.heap xb 7=some v∧bS w'.heap I (dJ d)) bf:=⟨(bg aL).trans rfl,Md.B aE aU.2 fun h=>a3<|(O I).2<|.inr h⟩
 refine ⟨aF,?_⟩;refine bN 8 aa (nc aa) aF<|bN 9 aa (fa DC aa) aF<|dU 10 aa aj aj<|dx Vn aa aa (v:=v53) (fy a6) aL (by show 7 < 8; omega) fun b3 aS bu=> ?_;have bx:TF bf [142] (fun q=>q=xb):=TF.eq (dN aL) aB;refine eZ aj<|f0 aa ?_;refine ⟨aa,fun q=>q=xb∨v53.ownBlock=some q,⟨ah.lo,⟨v53,?_,?_,fun _=>Iff.rfl⟩,aG⟩,?_⟩;rw [av];have h1:x6 true q most limit (acc++ [d]) v53= [.bool true,.bool q.isSome,str (q.getD []),.int .i64 most,.int .i64 limit,.int .i64 ((acc.length+1:Nat):Int),.int .i64 ((jF acc+d.e7.length:Nat):Int),v53]:=by unfold x6; rw [aK,bL]; rfl
 rw [h1]; exact bu;rw [if_pos rfl,av,bL,show eG (acc++ [d])=eG acc++dJ d from by unfold eG; rw [nU,pU]];exact cQ a6 aS bx aB;have a2:∀ q,q=xb→fp q:=fun q C=>(O q).2<|.inl C;refine Tw.trans (Tw.wk aN)<|Tw.trans ⟨aq.mono (fun q _ C=>a2 q C),fun q C=> .inl C⟩<|Tw.trans (Tw.wk V)<|Tw.trans (fp':=fun q=>q=xb∨v53.ownBlock=some q) ⟨aE.mono (fun q _ C=>(O q).2<|.inr C),fun q C=>C.elim (fun h=> .inl<|a2 q h) fun h=>(bE q h).imp (fun h=>(O q).2<|.inr h) id⟩ ⟨aS.mono (fun q _ C=> .inl C),fun q C=> .inl C⟩;refine aQ<|f0 aa ?_;have bF:dE=false :=by simpa using hk
 subst bF;refine ⟨aa,fp,⟨ah.lo,⟨v,?_,?_,O⟩,aG⟩,?_⟩;rw [av];have h1:x6 false q most limit (acc++ [d]) v= [.bool false,.bool q.isSome,str (q.getD []),.int .i64 most,.int .i64 limit,.int .i64 ((acc.length+1:Nat):Int),.int .i64 ((jF acc+d.e7.length:Nat):Int),v]:=by unfold x6; rw [aK,bL]; rfl
 rw [h1]; exact al;exact aJ;exact Tw.trans (Tw.wk aN) ⟨aq.mono (fun q _ C=>(O q).2<|.inl C),fun q C=> .inl C⟩
end Go.Hb.uj
end
section
namespace Go.Hb
open Go.Hb.uj
section
variable {w w':World} {fp fp':Nat→Prop} {S0 xb:Nat} {dE:Bool} {q:Option Tx} {most limit:Int} {acc:List bK}
theorem tB {B n:Nat} {v:Value} {xs:List Value} (A:bz w B 3 1 v n xs) (h:jb w fp S0 xb dE q most limit acc) (hm:Tw fp w fp' w'):bz w' B 3 1 v n xs:=cQ A hm.md h.tf aB
theorem ML {b:Nat} (h:Tw fp w fp' w') (hn:¬fp b) (A:b < w.heap.size):¬fp' b:=fun h2=>(h.sub b h2).elim hn fun h3=>by omega
end
theorem LX {q:Option Tx} {most limit:Int} {acc A:List bK} {α:Type} {g:α→Option bK} {l:List α} {i:Nat} (h:kn most limit (ji q most limit acc<|A++(l.take i).filterMap g)=true):ji q most limit acc (A++l.filterMap g)=ji q most limit acc (A++(l.take i).filterMap g):=by
 conv =>lhs; rw [← BL i l,PX,← eS,xx,LV h]
theorem Ee {q:Option Tx} {most limit:Int} {acc A:List bK} {α:Type} {g:α→List bK} {l:List α} {i:Nat} (h:kn most limit (ji q most limit acc<|A++(l.take i).flatMap g)=true):ji q most limit acc (A++l.flatMap g)=ji q most limit acc (A++(l.take i).flatMap g):=by
 conv =>lhs; rw [← BL i l,nU,← eS,xx,LV h]
theorem DS {most limit:Int} {a:List bK} (h:¬(jF a:Int)≤limit):kn most limit a=true :=decide_eq_true<|Or.inr ab
theorem DT {most limit:Int} {a:List bK} (h:¬(a.length:Int) < most):kn most limit a=true :=decide_eq_true<|Or.inl ab
theorem LW {q:Option Tx} {most limit:Int} {acc A C:List bK} {α:Type} {g:α→List bK} {l:List α} {i:Nat} (h:kn most limit (ji q most limit acc<|A++(C++(l.take i).flatMap g))=true):ji q most limit acc (A++(C++l.flatMap g))=ji q most limit acc (A++(C++(l.take i).flatMap g)):=by
 rw [← eS] at h ⊢;rw [Ee h,eS]
theorem VB {F:aU} {xs:List bC} (A:eC F xs) (n:Int):∀ d∈qS F xs n,1≤d.e7.length∧d.e7.length≤200:=by
 intro d hd;unfold qS at hd;split at hd
 · rename_i h;obtain ⟨k,rfl⟩:∃ k:Nat,n=(k:Int):=⟨n.toNat,ab⟩
   have C:xs[k]? =some xs[k]:=cx ab;have E:xs.getD k ([],[])=xs[k]:=by rw [cX,C]; rfl
   rw [kQ] at hd;have h1:=A.ne _<|gC C;have h2:=(A.wS _<|gC C).1;have :=VD (fun q G=>(A.fs.2 q G).2) (by rw [E]; exact h1) d hd;rw [E] at this;omega
 · cases hd
set_option maxHeartbeats 4000000 in
theorem F3 (B tb fb:Nat) (V:eF) (ve:Value) (F:aU) (xs:List bC) (S0 xb:Nat) (dE:Bool) (q:Option Tx) (most limit:Int) (acc:List bK) (fp:Nat→Prop) (word c5:Tx) (en:Nat) (f s c4:Int) (ap:Option Addr) (cp b1:Nat) (w:World) (bv:gE w B tb fb V ve F xs) (al:eC F xs) (aq:jb w fp S0 xb dE q most limit acc) (bQ:most≤2000∨limit≤1048576) (cR:bz w b1 3 1 (.slice ap (bj F (flagsOf xs en) 1).length cp) (bj F (flagsOf xs en) 1).length ((bj F (flagsOf xs en) 1).map bT)) (bP:Rn F f) (hs:Rn F s) (c0:1≤word.length∧word.length≤500):
 bm aw 109 (bh [aV tb,aV xb,str word,.agg (dJ ⟨c5,en,f,s,c4⟩).toArray,.slice ap (bj F (flagsOf xs en) 1).length cp]) w (fun v w'=>v= .tuple #[]∧∃ fp',jb w' fp' S0 xb dE q most limit (ji q most limit acc<|iy F xs en word f s)∧Tw fp w fp' w'):=by
 have cM:=aq.lt;have de:=vf F (flagsOf xs (en:Int)) 1;have df:=al.len;refine enter func109 aa ntmps109 aa<|ag fun b2=>e<|og aa fun I dn dd bx cn=> ?_;have dg:=bx.size;refine nl<|b2<|ag fun b6=>p (fa tp aa)<|e<|dx gR aa aa (v:= .int .i64<|-1) aa cn (by show 4 < 5; omega) fun dk cs ck=>nl<|b6<|ag fun b7=>p mv<|p (fa xo aa)<|e<|dx mi aa aa (v:=str word) aa ck (by simp only [List.length_set]; show 0 < 5; omega) fun bb ct cm=> ?_;have a1:bb.heap[I]? =some (.cells (dJ ⟨word,en,f,s,-1⟩).toArray 74 (0,0)):=cm;have bs:Wk w bb:=(bx.md.trans' cs fun q a5 h=>by omega).trans' ct fun q a5 h=>by omega
 have a4:¬fp I:=fun h=>by have :=cM I h; omega
 refine nl<|b7<|ag fun b8=>p mv<|p (cW s7 aa (aa) fun j ai=>(o6 a1).bB j)<|e<|cl HW (Nv B tb fb V ve F xs word en f s (-1) bb (bv.wk bs) al bP hs<|.inl aa) aa fun di c6 cu=> ?_;obtain ⟨rfl,br⟩:=cu;have aI:=bs.trans br;have bE:=aq.wk aI;have av:=Wk.aT br a1;refine ay<|b8 ?_;refine eo (fun bZ aB=> ∃ (ah:Nat→Prop),(jb aB ah S0 xb dE q most limit<|ji q most limit acc<|oo F xs en word f s)∧(Tw fp w ah aB)∧(aB.heap[I]? =some (.cells (dJ ⟨word,en,f,s,-1⟩).toArray 74 (0,0)))∧(¬ah I)∧(Sl bZ [(0,aV tb),(1,aV xb),(2,str word),(4,.slice ap (bj F (flagsOf xs en) 1).length cp),(8,aV I)])) ?_ ?_;refine ag fun aC=>p mv<|nl<|aC<|cb aa (fun a2=> ?_) fun a2=> ?_;have aY:oo F xs en word f s= [⟨word,en,f,s,-1⟩]:=if_pos a2;refine rg aa<|p mv<|p (cW s7 aa (aa) fun j ai=>(o6 av).bB j)<|e<|cl HX (Mx S0 xb dE q most limit acc fp ⟨word,en,f,s,-1⟩ c6 bE ⟨c0.1,by show word.length≤1000; omega⟩ bQ) aa fun v23 dl cv=> ?_;obtain ⟨rfl,cj,cE,aO⟩:=cv;have cK:=aO.md.aT av a4;have cP:=ML aO a4 (dO.1 av).1;exact nl<|tn<|⟨cj,(by rw [aY]; exact cE),((Tw.wk aI).trans aO),cK,cP,aa⟩
 have aY:oo F xs en word f s= []:=if_neg<|by rw [a2]; exact ep
 exact aQ<|tn<|⟨fp,(by rw [aY]; exact bE),(Tw.wk aI),av,a4,aa⟩
 rintro bZ aB ⟨ah,cF,cB,cL,cQ,cT⟩;refine bG cT<|ag fun aC=>ay<|aC<|aT<|lp (fun bi b0 J=> ∃ (i:Nat) (G:Nat→Prop) (aA:Tx) (pp:Int),(i≤(bj F (flagsOf xs en) 1).length)∧(jb J G S0 xb dE q most limit<|ji q most limit acc<|oo F xs en word f s++((bj F (flagsOf xs en) 1).take i).filterMap (nu F xs en word f s))∧(Tw fp w G J)∧(J.heap[I]? =some (.cells (dJ ⟨aA,en,f,s,pp⟩).toArray 74 (0,0)))∧(¬G I)∧(Sl b0 [(0,aV tb),(1,aV xb),(2,str word),(4,.slice ap (bj F (flagsOf xs en) 1).length cp),(8,aV I),(11,ak i)])∧((bj F (flagsOf xs en) 1).length - i=bi)) _ ⟨0,ah,word,-1,ab,(by simpa using cF),cB,cL,cQ,aa,aa⟩ ?_;rintro bi b0 J ⟨i,G,aA,pp,hi,Y,ao,cI,Z,cU,rfl⟩;refine bG cU<|az fun b9=>az fun aD=> ?_;obtain ⟨c9,c1,c2,c3,cc,ce,ch⟩:=Y.aW;have A:(fun w'=>Wk J w') J.drew:=(Md.refl _ _).drew;refine bY (fun w'=>Wk J w') aa wide A<|bO 0 aa (ak i) A<|bO 1 aa (.slice ap (bj F (flagsOf xs en) 1).length cp) A<|aR 2 aa (bM mr aa aa) A<|aR 3 aa (lt aa aa) A<|aR 4 aa (mv) A<|js (t:=28) aa (fun cN=> ?_) fun cN=> ?_;refine bq 5 aa (fun _ _=>aX (aV xb) aa) A<|bq 6 aa (fun _ _=>nc aa) A<|bq 7 aa (fun _ _=>fa uS aa) A<|bq 8 aa (fun w' E=>ld bD aa<|Wk.aW E<|ce) A<|bq 9 aa (fun _ _=>aX (aV xb) aa) A<|bq 10 aa (fun _ _=>nc aa) A<|bq 11 aa (fun _ _=>fa zN aa) A<|bq 12 aa (fun w' E=>ld bD aa<|Wk.aW E<|c3) A<|bq 13 aa (fun _ _=>lt aa aa) A<|aR 14 aa (bH aa) A<|aR 15 aa (mv) A<|js (t:=39) aa (fun bW=> ?_) fun bW=> ?_;refine bq 16 aa (fun _ _=>aX (aV xb) aa) A<|bq 17 aa (fun _ _=>nc aa) A<|bq 18 aa (fun _ _=>fa uT aa) A<|bq 19 aa (fun w' E=>ld bD aa<|Wk.aW E<|ch) A<|bq 20 aa (fun _ _=>aX (aV xb) aa) A<|bq 21 aa (fun _ _=>nc aa) A<|bq 22 aa (fun _ _=>fa zO aa) A<|bq 23 aa (fun w' E=>ld bD aa<|Wk.aW E<|cc) A<|bq 24 aa (fun _ _=>le aa aa) A<|aR 25 aa (bH aa) A<|hn aj<|aD<|cd aa (fun bF=> ?_) fun bF=> ?_;have cG:=Y.wk A;have bL:=Wk.aT A cI;have an:=ao.trans<|Tw.wk A;have cq:=xv bv aq an.md;have bS:=tB cR aq an;have cS:=oE.1<|eb (d:=0) (show i < (bj F (flagsOf xs en) 1).length by omega);obtain ⟨r,a6⟩:∃ r,F.rules[((bj F (flagsOf xs en) 1).getD i 0)]? =some r:=⟨_,cx cS.1⟩
 have bV:F.rules.getD ((bj F (flagsOf xs en) 1).getD i 0) dR=r:=by rw [cX,a6]; rfl
 have ac:=acN (g:=nu F xs en word f s) 0 (show i < (bj F (flagsOf xs en) 1).length by omega);have ax:=(al.jw a6).2.2;refine aQ<|b9<|az fun aF=>aT<|ag fun ca=>au (.slice ap (bj F (flagsOf xs en) 1).length cp)<|au (ak i)<|p (bc ke aa aa ab<|aM.ok ((ba bS).2)<|cg ab)<|p (ld bD aa<|aM.gY (i:=i) (ba bS).2<|oB ab)<|p (fa tp aa)<|e<|dx gR aa aa (v:= .int .i64 ((((bj F (flagsOf xs en) 1).getD i 0):Nat):Int)) aa bL (by show 4 < 5; omega) fun ae aL co=> ?_;have bN:ae.heap[I]? =some (.cells (dJ ⟨aA,en,f,s,(((bj F (flagsOf xs en) 1).getD i 0):Nat)⟩).toArray 74 (0,0)):=co;have cH:=cG.Ms aL Z;have aK:=XO cq bL aL;obtain ⟨c8,da,dh,rc,cV,bl,bU,db⟩:=aK.jw a6;refine nl<|ca<|az fun b3=> ?_;have C:(fun w'=>Wk ae w') ae.drew:=(Md.refl _ _).drew;refine bY (fun w'=>Wk ae w') aa wide C<|bO 0 aa (aV tb) C<|aR 1 aa (nc aa) C<|aR 2 aa (fa oy aa) C<|bR 3 aa (fun w' E=>ld iS aa<|Wk.aW E<|(bg aK.cells).trans aa) C<|aR 4 aa (nc aa) C<|aR 5 aa (fa kf aa) C<|bR 6 aa (fun w' E=>ld kD aa<|Wk.aW E<|cV) C<|aR 7 aa (fa tp aa) C<|bR 8 aa (fun w' E=>ld bD aa<|Wk.aW E<|(bg bN).trans (show _=some (Value.int .i64 ((((bj F (flagsOf xs en) 1).getD i 0):Nat):Int)) from aa)) C<|aR 9 aa (bc pA aa aa ab<|aM.ok (bl.wk C)<|pF bU) C<|bR 10 aa (fun w' E=>cW s5 aa (aa) fun j ai=>fC (f:=j4) (m:=8) (fun _=>rfl) (bl.wk E) bU j ai) C<|bO 11 aa (str word) C<|he 12 aa aj<|cl Cl (E4 r _ word ae.drew (by unfold ki at ax; omega) (by unfold ki at ax; omega) (by unfold ki at ax; omega) ab) aa fun v70 bX cw=> ?_;obtain ⟨rfl,bt⟩:=cw;have aG:=C.trans bt;have bI:=Wk.aT aG bN;have O:(fun w'=>Wk ae w') bX:=C.trans bt;refine ⟨O,?_⟩;refine aR 13 aa (mv) O<|aR 14 aa (xt aa aa) O<|aR 15 aa (xt aa aa) O<|aR 16 aa (aE) O<|aR 17 aa (aE) O<|hn aj<|b3<|az fun b4=>rg aa<|au (aV tb)<|p (cW s7 aa (aa) fun j ai=>(o6 bI).bB j)<|e<|cl HW (Nv B tb fb V ve F xs aA en f s (((bj F (flagsOf xs en) 1).getD i 0):Nat) bX (aK.wk aG) al bP hs<|.inr ab) aa fun v75 c7 cy=> ?_;obtain ⟨rfl,bu⟩:=cy;have bo:=aG.trans bu;have aP:=cH.wk bo;have aZ:=Wk.aT bu bI;have dc:=(dO.1 a1).1;have am:Tw fp w G c7:=⟨(an.md.trans' aL fun q a5 h=>by omega).trans' bo (fun _ _ h=>h.elim),fun k hk=>an.sub k hk⟩
 refine ay<|b4<|ag fun bd=>p mv<|p mv<|gb (t:=77) aa (fun aS=> ?_) fun aS=> ?_;obtain ⟨v,a7⟩:∃ v,eH r word=some v:=nX.1 aS;have cY:(eH r word).getD []=v:=by rw [a7]; rfl
 have cZ:=s9 (by unfold ki at ax; omega) a7;refine aJ aa mv<|p (bH aa)<|nl<|bd<|cb aa (fun a3=> ?_) fun a3=> ?_;have bY:=U4 (word:=word) a3<|by rw [bV]; exact a7
 rw [bY] at ac;refine ag fun b5=>p mv<|p (fa xo aa)<|e<|dx mi aa aa (v:=str<|(eH r word).getD []) aa aZ (by show 0 < 5; omega) fun a9 bw bk=> ?_;rw [cY] at bk;have a0:a9.heap[I]? =some (.cells (dJ ⟨v,en,f,s,(((bj F (flagsOf xs en) 1).getD i 0):Nat)⟩).toArray 74 (0,0)):=bk;have cC:=aP.Ms bw Z;have cA:Tw fp w G a9:=⟨am.md.trans' bw (fun q a5 h=>by omega),am.sub⟩
 refine nl<|b5<|rg aa<|au (aV xb)<|p (cW s7 aa (aa) fun j ai=>(o6 a0).bB j)<|e<|cl HX (Mx S0 xb dE q most limit (ji q most limit acc<|oo F xs en word f s++((bj F (flagsOf xs en) 1).take i).filterMap (nu F xs en word f s)) G ⟨v,en,f,s,(((bj F (flagsOf xs en) 1).getD i 0):Nat)⟩ a9 cC ⟨cZ.1,by show v.length≤1000; omega⟩ bQ) aa fun dj dp cz=> ?_;obtain ⟨rfl,ci,cD,aN⟩:=cz;have cJ:=aN.md.aT a0 Z;have cO:=ML aN Z (dO.1 a0).1;exact nl<|bn<|aF<|rg aa<|au (ak i)<|p (bJ ((i+1:Nat):Int) aa aa<|bp ab ab)<|p aE<|nl<|tn<|⟨_,ab,i+1,ci,_,_,ab,(by rw [ac,← eS,xx]; exact cD),(cA.trans aN),cJ,cO,aa,aa⟩
 have bY:=U3 (word:=word) a3;rw [bY] at ac;exact aQ<|bn<|aF<|rg aa<|au (ak i)<|p (bJ ((i+1:Nat):Int) aa aa<|bp ab ab)<|p aE<|nl<|tn<|⟨_,ab,i+1,G,_,_,ab,(by rw [ac]; simpa using aP),am,aZ,Z,aa,aa⟩
 have bY:=U2 (xs:=xs) (e:=en) (f:=f) (s:=s) (word:=word) (p:=(bj F (flagsOf xs en) 1).getD i 0)<|by rw [bV]; simpa using aS
 rw [bY] at ac;exact aH aa<|p (bA aa)<|nl<|bd<|cf aa<|aQ<|bn<|aF<|rg aa<|au (ak i)<|p (bJ ((i+1:Nat):Int) aa aa<|bp ab ab)<|p aE<|nl<|tn<|⟨_,ab,i+1,G,_,_,ab,(by rw [ac]; simpa using aP),am,aZ,Z,aa,aa⟩
 exact ext<|bf<|bf<|be<|f0 aa<|⟨aa,G,(by unfold iy; rw [LX (DS bF)]; exact Y.wk A),ao.trans<|Tw.wk A⟩
 refine a8 16 aa A<|a8 17 aa A<|a8 18 aa A<|a8 19 aa A<|a8 20 aa A<|a8 21 aa A<|a8 22 aa A<|a8 23 aa A<|a8 24 aa A<|aR 25 aa (bA aa) A<|hn aj<|aD<|cf aa<|ext<|bf<|bf<|be<|f0 aa ?_;exact ⟨aa,G,(by unfold iy; rw [LX (DT bW)]; exact Y.wk A),ao.trans<|Tw.wk A⟩;refine a8 5 aa A<|a8 6 aa A<|a8 7 aa A<|a8 8 aa A<|a8 9 aa A<|a8 10 aa A<|a8 11 aa A<|a8 12 aa A<|a8 13 aa A<|aR 14 aa (bA aa) A<|aR 15 aa (mv) A<|a8 16 aa A<|a8 17 aa A<|a8 18 aa A<|a8 19 aa A<|a8 20 aa A<|a8 21 aa A<|a8 22 aa A ?_;refine a8 23 aa A<|a8 24 aa A<|aR 25 aa (bA aa) A<|hn aj<|aD<|cf aa<|ext<|bf<|bf<|be<|f0 aa ?_;rw [e9 ab] at Y;exact ⟨aa,G,Y.wk A,ao.trans<|Tw.wk A⟩
set_option maxHeartbeats 4000000 in
theorem adz (B tb fb:Nat) (V:eF) (ve:Value) (F:aU) (xs:List bC) (S0 xb:Nat) (dE:Bool) (q:Option Tx) (most limit:Int) (acc:List bK) (fp:Nat→Prop) (n:Int) (w:World) (an:gE w B tb fb V ve F xs) (Z:eC F xs) (ao:jb w fp S0 xb dE q most limit acc) (b1:most≤2000∨limit≤1048576):
 bm aw 62 (bh [aV tb,.int .i64 n,aV xb]) w (fun v w'=>v= .tuple #[]∧∃ fp',jb w' fp' S0 xb dE q most limit (ji q most limit acc<|qS F xs n)∧Tw fp w fp' w'):=by
 obtain ⟨ee,ce,d3⟩:=an.FZ;have ev:=Z.xl;have es:=Z.len;refine enter func62 aa ntmps62 aa<|az fun cR=>ag fun ch=>p mv<|p (lt aa aa)<|p mv<|gs (t:=18) aa (fun dH=> ?_) fun dH=> ?_;exact aH aa<|aH aa<|aH aa<|aH aa<|aH aa<|aH aa<|aH aa<|p (bH aa)<|nl<|ch<|ct aa<|rt<|tr<|rX aa<|⟨aa,fp,by rw [Jp ab,(show ji q most limit acc []=acc from aa)]; exact ao,Tw.refl _ _⟩
 refine aJ aa mv<|aJ aa mv<|aJ aa (nc aa)<|aJ aa (fa xp aa)<|aJ aa (ld wi aa<|d3)<|aJ aa (bM A4 aa aa)<|aJ aa (ge aa aa)<|p (bA aa)<|nl<|ch<|cd aa (fun dD=> ?_) fun dD=> ?_;exact rt<|tr<|rX aa<|⟨aa,fp,by rw [Jp ab,(show ji q most limit acc []=acc from aa)]; exact ao,Tw.refl _ _⟩
 obtain ⟨k,rfl⟩:∃ k:Nat,n=(k:Int):=⟨n.toNat,ab⟩
 obtain ⟨x,bo⟩:∃ x,xs[k]? =some x:=⟨_,cx ab⟩
 obtain ⟨ef,ei,ws,a,c,d4,ci,cE,en⟩:=an.eM bo;obtain ⟨el,em,dd,bw⟩:=uz bo;have b0:j0 F xs k=iy F xs k x.1 (-1) (-1)++(bj F (flagsOf xs (k:Int)) 2).flatMap (lX F xs k):=by unfold j0; rw [bw]
 have ew:=(Z.wS x<|gC bo).1;have d7:=Z.ne x<|gC bo;have eq:=vf F (flagsOf xs (k:Int)) 2;have bL:qS F xs (k:Int)=j0 F xs k:=Jo dd;refine aQ<|cR<|ag fun c6=>p mv<|p (nc aa)<|p (fa xp aa)<|p (ld wi aa<|d4)<|p mv<|p (bc JP aa aa ab<|aM.ok (ci)<|wP cE)<|p (fa Xa aa)<|p (ld bX aa<|fC (f:=qU) (m:=2) (fun _=>rfl) ci cE 0 aB)<|ay<|c6<|az fun c7=>rg aa<|p mv<|p mv<|e<|cl RH (abx B tb fb V ve F xs (k:Int) w an Z) aa fun v37 ec dr=> ?_;obtain ⟨b2,bx⟩:=dr;obtain ⟨ac,ah,rfl⟩:=cJ b2;have cz:=ao.wk bx;refine ay<|c7<|ag fun c8=>p mv<|p mv<|p mv<|p mv<|p (dj (ps:= [(1,ak k),(2,.int .i64 (-1)),(3,.int .i64 (-1))]) (L:= [.string ⟨⟨[]⟩⟩,ak k,.int .i64 (-1),.int .i64 (-1),.int .i64 0]) FH aa<|aa)<|p mv<|e<|cl Ck (F3 B tb fb V ve F xs S0 xb dE q most limit acc fp x.1 [] k (-1) (-1) 0 ac ah w.heap.size ec (an.wk bx) Z cz b1 b2 (.inl aa) (.inl aa) ⟨d7,ab⟩) aa fun v44 ed ds=> ?_;obtain ⟨rfl,dg,dA,cq⟩:=ds;have bS:=(Tw.wk bx).trans cq;have dM:=tB b2 cz cq;refine nl<|c8<|ag fun c9=>p mv<|p mv<|e<|cl RI (abC B tb fb V ve F xs (k:Int) ed (xv an ao bS.md) Z) aa fun eE eJ dt=> ?_;obtain ⟨cC,bB⟩:=dt;obtain ⟨ae,ai,rfl⟩:=cJ cC;have dB:=dA.wk bB;have dx:=bS.trans<|Tw.wk bB;have dN:=a7 dM bB;have dV:=eQ cC (show w.heap.size≤_ from bS.md.size);refine ay<|c9<|ag fun da=>ay<|da<|aT<|lp (fun aG cP Y=> ∃ (i:Nat) (al:Nat→Prop),(i≤(bj F (flagsOf xs (k:Int)) 2).length)∧(jb Y al S0 xb dE q most limit<|ji q most limit acc<|iy F xs k x.1 (-1) (-1)++((bj F (flagsOf xs (k:Int)) 2).take i).flatMap (lX F xs k))∧(Tw fp w al Y)∧(bz Y w.heap.size 3 1 (.slice ac (bj F (flagsOf xs (k:Int)) 1).length ah) (bj F (flagsOf xs (k:Int)) 1).length<|(bj F (flagsOf xs (k:Int)) 1).map bT)∧(bz Y w.heap.size 3 1 (.slice ae (bj F (flagsOf xs (k:Int)) 2).length ai) (bj F (flagsOf xs (k:Int)) 2).length<|(bj F (flagsOf xs (k:Int)) 2).map bT)∧(Sl cP [(0,aV tb),(1,ak k),(2,aV xb),(6,str x.1),(7,.slice ac (bj F (flagsOf xs (k:Int)) 1).length ah),(8,.slice ae (bj F (flagsOf xs (k:Int)) 2).length ai),(9,ak i)])∧((bj F (flagsOf xs (k:Int)) 2).length - i=aG)) _ ⟨0,dg,ab,(by simpa using dB),dx,dN,dV,aa,aa⟩ ?_;rintro aG cP Y ⟨i,al,hi,aA,a0,dP,dW,d1,rfl⟩;refine bG d1<|az fun db=>az fun bs=> ?_;obtain ⟨dc,c1,c2,c3,bt,bu,bv⟩:=aA.aW;have C:(fun w'=>Wk Y w') Y.drew:=(Md.refl _ _).drew;refine bY (fun w'=>Wk Y w') aa wide C<|bO 0 aa (ak i) C<|bO 1 aa (.slice ae (bj F (flagsOf xs (k:Int)) 2).length ai) C<|aR 2 aa (bM mr aa aa) C<|aR 3 aa (lt aa aa) C<|aR 4 aa (mv) C<|js (t:=52) aa (fun dF=> ?_) fun dF=> ?_;refine bq 5 aa (fun _ _=>aX (aV xb) aa) C<|bq 6 aa (fun _ _=>nc aa) C<|bq 7 aa (fun _ _=>fa uS aa) C<|bq 8 aa (fun w' E=>ld bD aa<|Wk.aW E<|bu) C<|bq 9 aa (fun _ _=>aX (aV xb) aa) C<|bq 10 aa (fun _ _=>nc aa) C<|bq 11 aa (fun _ _=>fa zN aa) C<|bq 12 aa (fun w' E=>ld bD aa<|Wk.aW E<|c3) C<|bq 13 aa (fun _ _=>lt aa aa) C<|aR 14 aa (bH aa) C<|aR 15 aa (mv) C<|js (t:=63) aa (fun cM=> ?_) fun cM=> ?_
 refine bq 16 aa (fun _ _=>aX (aV xb) aa) C<|bq 17 aa (fun _ _=>nc aa) C<|bq 18 aa (fun _ _=>fa uT aa) C<|bq 19 aa (fun w' E=>ld bD aa<|Wk.aW E<|bv) C<|bq 20 aa (fun _ _=>aX (aV xb) aa) C<|bq 21 aa (fun _ _=>nc aa) C<|bq 22 aa (fun _ _=>fa zO aa) C<|bq 23 aa (fun w' E=>ld bD aa<|Wk.aW E<|bt) C<|bq 24 aa (fun _ _=>le aa aa) C<|aR 25 aa (bH aa) C<|hn aj<|bs<|cd aa (fun cA=> ?_) fun cA=> ?_;have dC:=aA.wk C;have cs:=a0.trans<|Tw.wk C;have bF:=xv an ao cs.md;have dO:=a7 dP C;have b6:=a7 dW C;have d0:=oE.1<|eb (d:=0) (show i < (bj F (flagsOf xs (k:Int)) 2).length by omega);obtain ⟨r,b8⟩:∃ r,F.rules[((bj F (flagsOf xs (k:Int)) 2).getD i 0)]? =some r:=⟨_,cx d0.1⟩
 have cH:F.rules.getD ((bj F (flagsOf xs (k:Int)) 2).getD i 0) dR=r:=by rw [cX,b8]; rfl
 have aN:=KA (g:=lX F xs k) 0 (show i < (bj F (flagsOf xs (k:Int)) 2).length by omega);have bd:=(Z.jw b8).2.2;obtain ⟨eg,ej,ex,rc,d5,cj,cF,eo⟩:=bF.jw b8;refine aQ<|db<|az fun aS=>aT<|az fun cS=> ?_;have J:(fun w'=>Wk Y.drew w') Y.drew.drew:=(Md.refl _ _).drew;refine bY (fun w'=>Wk Y.drew w') aa wide J<|bO 0 aa (aV tb) J<|aR 1 aa (nc aa) J<|aR 2 aa (fa oy aa) J<|bR 3 aa (fun w' E=>ld iS aa<|Wk.aW E<|(bg bF.cells).trans aa) J<|aR 4 aa (nc aa) J<|aR 5 aa (fa kf aa) J<|bR 6 aa (fun w' E=>ld kD aa<|Wk.aW E<|d5) J<|bO 7 aa (.slice ae (bj F (flagsOf xs (k:Int)) 2).length ai) J<|bO 8 aa (ak i) J<|aR 9 aa (bc ke aa aa ab<|aM.ok ((ba b6).2.wk J)<|cg ab) J<|bR 10 aa (fun w' E=>ld bD aa<|Wk.aW E<|aM.gY (i:=i) (ba b6).2<|oB ab) J<|aR 11 aa (bc pA aa aa ab<|aM.ok (cj.wk J)<|pF cF) J<|bR 12 aa (fun w' E=>cW s5 aa (aa) fun j a3=>fC (f:=j4) (m:=8) (fun _=>rfl) (cj.wk E) cF j a3) J<|bO 13 aa (str x.1) J<|he 14 aa aj<|cl Cl (E4 r _ x.1 Y.drew.drew (by unfold ki at bd; omega) (by unfold ki at bd; omega) (by unfold ki at bd; omega) ab) aa fun v91 cO du=> ?_;obtain ⟨rfl,cn⟩:=du;have aI:=J.trans cn;have a2:=dC.wk aI;have cu:=cs.trans<|Tw.wk aI;have dk:=bF.wk aI;have b4:=a7 dO aI;have a6:=a7 b6 aI;have ax:(fun w'=>Wk Y.drew w') cO:=J.trans cn;refine ⟨ax,?_⟩;refine aR 15 aa (mv) ax<|aR 16 aa (xt aa aa) ax<|aR 17 aa (xt aa aa) ax<|aR 18 aa (aE) ax<|aR 19 aa (aE) ax<|hn aj<|cS<|az fun cT=>ag fun cU=>p mv<|p (no aa)<|nl<|cU<|cb aa (fun bZ=> ?_) fun bZ=> ?_;have aK:eH r x.1=none:=by simpa using bZ
 have aL:lX F xs k ((bj F (flagsOf xs (k:Int)) 2).getD i 0)= []:=by unfold lX; rw [cH,bw,aK]
 rw [aL,eB] at aN;exact ext<|bf<|be<|aS<|rg aa<|au (ak i)<|p (bJ ((i+1:Nat):Int) aa aa<|bp ab ab)<|p aE<|nl<|tn<|⟨_,ab,i+1,al,ab,(by rw [aN]; exact a2),cu,b4,a6,aa,aa⟩
 obtain ⟨wd,aK⟩:∃ v,eH r x.1=some v:=nX.1<|by simpa using bZ
 have aO:((eH r x.1).getD [])=wd:=by rw [aK]; rfl
 have aL:lX F xs k ((bj F (flagsOf xs (k:Int)) 2).getD i 0)=iy F xs k wd (((bj F (flagsOf xs (k:Int)) 2).getD i 0):Nat) (-1)++(bj F (cw F (((bj F (flagsOf xs (k:Int)) 2).getD i 0):Nat)) 2).flatMap (nO F xs k wd (((bj F (flagsOf xs (k:Int)) 2).getD i 0):Nat)):=by unfold lX; rw [cH,bw,aK]
 have eu:=s9 (by unfold ki at bd; omega) aK;refine aQ<|cT<|ag fun cV=>au (aV tb)<|au (aV xb)<|p mv<|au (ak k)<|au (.slice ae (bj F (flagsOf xs (k:Int)) 2).length ai)<|au (ak i)<|p (bc ke aa aa ab<|aM.ok ((ba a6).2)<|cg ab)<|p (ld bD aa<|aM.gY (i:=i) (ba a6).2<|oB ab)<|p (dj (ps:= [(1,ak k),(2,.int .i64 (((bj F (flagsOf xs (k:Int)) 2).getD i 0):Nat)),(3,.int .i64 (-1))]) (L:= [.string ⟨⟨[]⟩⟩,ak k,.int .i64 (((bj F (flagsOf xs (k:Int)) 2).getD i 0):Nat),.int .i64 (-1),.int .i64 0]) FH aa<|aa)<|au (.slice ac (bj F (flagsOf xs (k:Int)) 1).length ah)<|e<|cl Ck (F3 B tb fb V ve F xs S0 xb dE q most limit (ji q most limit acc<|iy F xs k x.1 (-1) (-1)++((bj F (flagsOf xs (k:Int)) 2).take i).flatMap (lX F xs k)) al ((eH r x.1).getD []) [] k ((((bj F (flagsOf xs (k:Int)) 2).getD i 0):Nat):Int) (-1) 0 ac ah w.heap.size cO dk Z a2 b1 b4 (.inr ab) (.inl aa)<|by rw [aO]; omega) aa fun ey d9 dl=> ?_;obtain ⟨rfl,de,cv,bQ⟩:=dl;rw [aO,← xx] at cv;have bP:=cu.trans bQ;have dI:=tB b4 a2 bQ;have b5:=tB a6 a2 bQ;have dh:=xv an ao bP.md;refine nl<|cV<|ag fun cY=>au (aV tb)<|au (.slice ae (bj F (flagsOf xs (k:Int)) 2).length ai)<|au (ak i)<|p (bc ke aa aa ab<|aM.ok ((ba b5).2)<|cg ab)<|p (ld bD aa<|aM.gY (i:=i) (ba b5).2<|oB ab)<|e<|cl RJ (abB B tb fb V ve F xs (((bj F (flagsOf xs (k:Int)) 2).getD i 0):Nat) d9 dh Z) aa fun ez eG dn=> ?_;obtain ⟨cD,aY⟩:=dn;obtain ⟨aD,aF,rfl⟩:=cJ cD;have dy:=cv.wk aY;have dv:=bP.trans<|Tw.wk aY;have dJ:=a7 dI aY;have dQ:=a7 b5 aY;have dX:=eQ cD (show w.heap.size≤_ from bP.md.size);have er:=vf F (cw F (((bj F (flagsOf xs (k:Int)) 2).getD i 0):Nat)) 2
 refine ay<|cY<|ag fun cZ=>ay<|cZ<|aT<|lp (fun aG cQ O=> ∃ (j:Nat) (am:Nat→Prop),(j≤(bj F (cw F (((bj F (flagsOf xs (k:Int)) 2).getD i 0):Nat)) 2).length)∧(jb O am S0 xb dE q most limit<|ji q most limit acc<|iy F xs k x.1 (-1) (-1)++((bj F (flagsOf xs (k:Int)) 2).take i).flatMap (lX F xs k)++(iy F xs k wd (((bj F (flagsOf xs (k:Int)) 2).getD i 0):Nat) (-1)++((bj F (cw F (((bj F (flagsOf xs (k:Int)) 2).getD i 0):Nat)) 2).take j).flatMap (nO F xs k wd (((bj F (flagsOf xs (k:Int)) 2).getD i 0):Nat))))∧(Tw fp w am O)∧(bz O w.heap.size 3 1 (.slice ac (bj F (flagsOf xs (k:Int)) 1).length ah) (bj F (flagsOf xs (k:Int)) 1).length<|(bj F (flagsOf xs (k:Int)) 1).map bT)∧(bz O w.heap.size 3 1 (.slice ae (bj F (flagsOf xs (k:Int)) 2).length ai) (bj F (flagsOf xs (k:Int)) 2).length<|(bj F (flagsOf xs (k:Int)) 2).map bT)∧(bz O w.heap.size 3 1 (.slice aD (bj F (cw F (((bj F (flagsOf xs (k:Int)) 2).getD i 0):Nat)) 2).length aF) (bj F (cw F (((bj F (flagsOf xs (k:Int)) 2).getD i 0):Nat)) 2).length<|(bj F (cw F (((bj F (flagsOf xs (k:Int)) 2).getD i 0):Nat)) 2).map bT)∧(Sl cQ [(0,aV tb),(1,ak k),(2,aV xb),(6,str x.1),(7,.slice ac (bj F (flagsOf xs (k:Int)) 1).length ah),(8,.slice ae (bj F (flagsOf xs (k:Int)) 2).length ai),(9,ak i),(10,str ((eH r x.1).getD [])),(12,.slice aD (bj F (cw F (((bj F (flagsOf xs (k:Int)) 2).getD i 0):Nat)) 2).length aF),(13,ak j)])∧((bj F (cw F (((bj F (flagsOf xs (k:Int)) 2).getD i 0):Nat)) 2).length - j=aG)) _ ⟨0,de,ab,(by simpa using dy),dv,dJ,dQ,dX,aa,aa⟩ ?_;rintro aG cQ O ⟨j,am,a3,aC,a1,a4,a9,dZ,d2,rfl⟩;refine bG d2<|az fun c0=>az fun br=> ?_;obtain ⟨dc,c1,c2,c3,bt,bu,bv⟩:=aC.aW;have A:(fun w'=>Wk O w') O.drew:=(Md.refl _ _).drew;refine bY (fun w'=>Wk O w') aa wide A<|bO 0 aa (ak j) A<|bR 1 aa (fun _ _=>aX (.slice aD (bj F (cw F (((bj F (flagsOf xs (k:Int)) 2).getD i 0):Nat)) 2).length aF) aa) A<|aR 2 aa (bM mr aa aa) A<|aR 3 aa (lt aa aa) A<|aR 4 aa (mv) A<|js (t:=117) aa (fun dG=> ?_) fun dG=> ?_;refine bq 5 aa (fun _ _=>aX (aV xb) aa) A<|bq 6 aa (fun _ _=>nc aa) A<|bq 7 aa (fun _ _=>fa uS aa) A<|bq 8 aa (fun w' E=>ld bD aa<|Wk.aW E<|bu) A<|bq 9 aa (fun _ _=>aX (aV xb) aa) A<|bq 10 aa (fun _ _=>nc aa) A<|bq 11 aa (fun _ _=>fa zN aa) A<|bq 12 aa (fun w' E=>ld bD aa<|Wk.aW E<|c3) A<|bq 13 aa (fun _ _=>lt aa aa) A<|aR 14 aa (bH aa) A<|aR 15 aa (mv) A<|js (t:=128) aa (fun cN=> ?_) fun cN=> ?_;refine bq 16 aa (fun _ _=>aX (aV xb) aa) A<|bq 17 aa (fun _ _=>nc aa) A<|bq 18 aa (fun _ _=>fa uT aa) A<|bq 19 aa (fun w' E=>ld bD aa<|Wk.aW E<|bv) A<|bq 20 aa (fun _ _=>aX (aV xb) aa) A<|bq 21 aa (fun _ _=>nc aa) A<|bq 22 aa (fun _ _=>fa zO aa) A<|bq 23 aa (fun w' E=>ld bD aa<|Wk.aW E<|bt) A<|bq 24 aa (fun _ _=>le aa aa) A<|aR 25 aa (bH aa) A<|hn aj<|br<|cd aa (fun cB=> ?_) fun cB=> ?_;have dz:=aC.wk A;have co:=a1.trans<|Tw.wk A;have bE:=xv an ao co.md;have dK:=a7 a4 A;have dS:=a7 a9 A;have b7:=a7 dZ A;have d8:=oE.1<|eb (d:=0) (show j < (bj F (cw F (((bj F (flagsOf xs (k:Int)) 2).getD i 0):Nat)) 2).length by omega)
 obtain ⟨ap,b9⟩:∃ r,F.rules[((bj F (cw F (((bj F (flagsOf xs (k:Int)) 2).getD i 0):Nat)) 2).getD j 0)]? =some r:=⟨_,cx d8.1⟩
 have cI:F.rules.getD ((bj F (cw F (((bj F (flagsOf xs (k:Int)) 2).getD i 0):Nat)) 2).getD j 0) dR=ap:=by rw [cX,b9]; rfl
 have bk:=KA (g:=nO F xs k wd (((bj F (flagsOf xs (k:Int)) 2).getD i 0):Nat)) 0 (show j < (bj F (cw F (((bj F (flagsOf xs (k:Int)) 2).getD i 0):Nat)) 2).length by omega);have bi:=(Z.jw b9).2.2;obtain ⟨eh,ek,eK,eL,d6,ck,cG,ep⟩:=bE.jw b9;refine aQ<|c0<|az fun cc=>aT<|az fun c4=> ?_;have I:(fun w'=>Wk O.drew w') O.drew.drew:=(Md.refl _ _).drew;refine bY (fun w'=>Wk O.drew w') aa wide I<|bO 0 aa (aV tb) I<|aR 1 aa (nc aa) I<|aR 2 aa (fa oy aa) I<|bR 3 aa (fun w' E=>ld iS aa<|Wk.aW E<|(bg bE.cells).trans aa) I<|aR 4 aa (nc aa) I<|aR 5 aa (fa kf aa) I<|bR 6 aa (fun w' E=>ld kD aa<|Wk.aW E<|d6) I<|bR 7 aa (fun _ _=>aX (.slice aD (bj F (cw F (((bj F (flagsOf xs (k:Int)) 2).getD i 0):Nat)) 2).length aF) aa) I<|bO 8 aa (ak j) I<|aR 9 aa (bc ke aa aa ab<|aM.ok ((ba b7).2.wk I)<|cg ab) I<|bR 10 aa (fun w' E=>ld bD aa<|Wk.aW E<|aM.gY (i:=j) (ba b7).2<|oB ab) I<|aR 11 aa (bc pA aa aa ab<|aM.ok (ck.wk I)<|pF cG) I<|bR 12 aa (fun w' E=>cW s5 aa (aa) fun j a3=>fC (f:=j4) (m:=8) (fun _=>rfl) (ck.wk E) cG j a3) I<|bO 13 aa (str<|(eH r x.1).getD []) I<|he 14 aa aj<|cl Cl (E4 ap _ ((eH r x.1).getD []) O.drew.drew (by unfold ki at bi; omega) (by unfold ki at bi; omega) (by unfold ki at bi; omega)<|by rw [aO]; omega) aa fun eA aP dp=> ?_;obtain ⟨rfl,cm⟩:=dp;have aq:=I.trans cm;have bU:=dz.wk aq;have cp:=co.trans<|Tw.wk aq;have di:=bE.wk aq;have b3:=a7 dK aq;have a5:=a7 dS aq;have bb:=a7 b7 aq;have av:(fun w'=>Wk O.drew w') aP:=I.trans cm;refine ⟨av,?_⟩;refine aR 15 aa (mv) av<|aR 16 aa (xt aa aa) av<|aR 17 aa (xt aa aa) av<|aR 18 aa (aE) av<|aR 19 aa (aE) av<|hn aj<|c4<|az fun c5=>rg aa<|p mv<|nl<|c5<|cb aa (fun bW=> ?_) fun bW=> ?_;obtain ⟨v2,cK⟩:∃ v,eH ap ((eH r x.1).getD [])=some v:=nX.1 bW;have cL:(eH ap<|(eH r x.1).getD []).getD []=v2:=by rw [cK]; rfl
 have bl:eH ap wd=some v2:=by rw [← aO]; exact cK
 have ca:nO F xs k wd (((bj F (flagsOf xs (k:Int)) 2).getD i 0):Nat) ((bj F (cw F (((bj F (flagsOf xs (k:Int)) 2).getD i 0):Nat)) 2).getD j 0)=iy F xs k v2 (((bj F (flagsOf xs (k:Int)) 2).getD i 0):Nat) (((bj F (cw F (((bj F (flagsOf xs (k:Int)) 2).getD i 0):Nat)) 2).getD j 0):Nat):=by unfold nO; rw [cI,bl]
 have et:=s9 (by unfold ki at bi; omega) bl;rw [ca] at bk;have G:(fun w'=>Wk aP w') aP.drew:=(Md.refl _ _).drew;refine e5 (fun w'=>Wk aP w') 14 aa wide G<|bI 0 aa (aV tb) G<|bI 1 aa (aV xb) G<|bN 2 aa (mv) G<|bI 3 aa (ak k) G<|bI 4 aa (.slice ae (bj F (flagsOf xs (k:Int)) 2).length ai) G<|bI 5 aa (ak i) G<|bN 6 aa (bc ke aa aa ab<|aM.ok ((ba a5).2.wk G)<|cg ab) G<|ea 7 aa (fun w' E=>ld bD aa<|Wk.aW E<|aM.gY (i:=i) (ba a5).2<|oB ab) G<|ko 8 aa (fun _=>aX (.slice aD (bj F (cw F (((bj F (flagsOf xs (k:Int)) 2).getD i 0):Nat)) 2).length aF) aa) (fun _=>G)<|bI 9 aa (ak j) G<|bN 10 aa (bc ke aa aa ab<|aM.ok ((ba bb).2.wk G)<|cg ab) G<|ea 11 aa (fun w' E=>ld bD aa<|Wk.aW E<|aM.gY (i:=j) (ba bb).2<|oB ab) G<|ko 12 aa (fun _=>dj (ps:= [(1,ak k),(2,.int .i64 (((bj F (flagsOf xs (k:Int)) 2).getD i 0):Nat)),(3,.int .i64 (((bj F (cw F (((bj F (flagsOf xs (k:Int)) 2).getD i 0):Nat)) 2).getD j 0):Nat))]) (L:= [.string ⟨⟨[]⟩⟩,ak k,.int .i64 (((bj F (flagsOf xs (k:Int)) 2).getD i 0):Nat),.int .i64 (((bj F (cw F (((bj F (flagsOf xs (k:Int)) 2).getD i 0):Nat)) 2).getD j 0):Nat),.int .i64 0]) FH aa<|aa) (fun _=>G)<|bI 13 aa (.slice ac (bj F (flagsOf xs (k:Int)) 1).length ah) G<|dU 14 aa aj aj<|cl Ck (F3 B tb fb V ve F xs S0 xb dE q most limit (ji q most limit acc<|iy F xs k x.1 (-1) (-1)++((bj F (flagsOf xs (k:Int)) 2).take i).flatMap (lX F xs k)++(iy F xs k wd (((bj F (flagsOf xs (k:Int)) 2).getD i 0):Nat) (-1)++((bj F (cw F (((bj F (flagsOf xs (k:Int)) 2).getD i 0):Nat)) 2).take j).flatMap (nO F xs k wd (((bj F (flagsOf xs (k:Int)) 2).getD i 0):Nat)))) am ((eH ap<|(eH r x.1).getD []).getD []) [] k ((((bj F (flagsOf xs (k:Int)) 2).getD i 0):Nat):Int) ((((bj F (cw F (((bj F (flagsOf xs (k:Int)) 2).getD i 0):Nat)) 2).getD j 0):Nat):Int) 0 ac ah w.heap.size aP.drew (di.wk G) Z (bU.wk G) b1 (a7 b3 G) (.inr ab) (.inr ab)<|by rw [cL]; omega) aa fun eD eI dq=> ?_;obtain ⟨rfl,df,cy,aZ⟩:=dq;rw [cL,← xx] at cy;have bV:=bU.wk G;have dw:=(cp.trans<|Tw.wk G).trans aZ;have dL:=tB (a7 b3 G) bV aZ;have dT:=tB (a7 a5 G) bV aZ;have dY:=tB (a7 bb G) bV aZ;exact eZ aj<|bn<|cc<|rg aa<|au (ak j)<|p (bJ ((j+1:Nat):Int) aa aa<|bp ab ab)<|p aE<|nl<|tn<|⟨_,ab,j+1,df,ab,(by rw [bk,← eS (iy F xs k wd (((bj F (flagsOf xs (k:Int)) 2).getD i 0):Nat)<|-1),← eS]; exact cy),dw,dL,dT,dY,aa,aa⟩
 have bl:eH ap wd=none:=by rw [← aO]; simpa using bW
 have ca:nO F xs k wd (((bj F (flagsOf xs (k:Int)) 2).getD i 0):Nat) ((bj F (cw F (((bj F (flagsOf xs (k:Int)) 2).getD i 0):Nat)) 2).getD j 0)= []:=by unfold nO; rw [cI,bl]
 rw [ca,eB] at bk;exact aQ<|bn<|cc<|rg aa<|au (ak j)<|p (bJ ((j+1:Nat):Int) aa aa<|bp ab ab)<|p aE<|nl<|tn<|⟨_,ab,j+1,am,ab,(by rw [bk]; exact bU),cp,b3,a5,bb,aa,aa⟩
 exact ext<|bf<|bf<|be<|bn<|aS<|rg aa<|au (ak i)<|p (bJ ((i+1:Nat):Int) aa aa<|bp ab ab)<|p aE<|nl<|tn<|⟨_,ab,i+1,am,ab,(by rw [aN,aL,← eS (iy F xs k x.1 (-1)<|-1)]; rw [LW (DS cB)]; exact aC.wk A),(a1.trans<|Tw.wk A),(a7 a4 A),(a7 a9 A),aa,aa⟩
 exact a8 16 aa A<|a8 17 aa A<|a8 18 aa A<|a8 19 aa A<|a8 20 aa A<|a8 21 aa A<|a8 22 aa A<|a8 23 aa A<|a8 24 aa A<|aR 25 aa (bA aa) A<|hn aj<|br<|cf aa<|ext<|bf<|bf<|be<|bn<|aS<|rg aa<|au (ak i)<|p (bJ ((i+1:Nat):Int) aa aa<|bp ab ab)<|p aE<|nl<|tn<|⟨_,ab,i+1,am,ab,(by rw [aN,aL,← eS (iy F xs k x.1 (-1)<|-1)]; rw [LW (DT cN)]; exact aC.wk A),(a1.trans<|Tw.wk A),(a7 a4 A),(a7 a9 A),aa,aa⟩
 refine a8 5 aa A<|a8 6 aa A<|a8 7 aa A<|a8 8 aa A<|a8 9 aa A<|a8 10 aa A<|a8 11 aa A<|a8 12 aa A<|a8 13 aa A<|aR 14 aa (bA aa) A<|aR 15 aa (mv) A<|a8 16 aa A<|a8 17 aa A<|a8 18 aa A<|a8 19 aa A<|a8 20 aa A<|a8 21 aa A<|a8 22 aa A ?_;exact a8 23 aa A<|a8 24 aa A<|aR 25 aa (bA aa) A<|hn aj<|br<|cf aa<|ext<|bf<|bf<|be<|bn<|aS<|rg aa<|au (ak i)<|p (bJ ((i+1:Nat):Int) aa aa<|bp ab ab)<|p aE<|nl<|tn<|⟨_,ab,i+1,am,ab,(by rw [aN,aL,← eS (iy F xs k x.1 (-1)<|-1)]; rw [e9 (show (bj F (cw F (((bj F (flagsOf xs (k:Int)) 2).getD i 0):Nat)) 2).length≤j by omega)] at aC; exact aC.wk A),(a1.trans<|Tw.wk A),(a7 a4 A),(a7 a9 A),aa,aa⟩
 exact ext<|bf<|bf<|be<|f0 aa<|⟨aa,al,by rw [bL,b0,Ee (DS cA)]; exact aA.wk C,a0.trans<|Tw.wk C⟩
 refine a8 16 aa C<|a8 17 aa C<|a8 18 aa C<|a8 19 aa C<|a8 20 aa C<|a8 21 aa C<|a8 22 aa C<|a8 23 aa C<|a8 24 aa C<|aR 25 aa (bA aa) C<|hn aj<|bs<|cf aa<|ext<|bf<|bf<|be<|f0 aa ?_;exact ⟨aa,al,by rw [bL,b0,Ee (DT cM)]; exact aA.wk C,a0.trans<|Tw.wk C⟩;refine a8 5 aa C<|a8 6 aa C<|a8 7 aa C<|a8 8 aa C<|a8 9 aa C<|a8 10 aa C<|a8 11 aa C<|a8 12 aa C<|a8 13 aa C<|aR 14 aa (bA aa) C<|aR 15 aa (mv) C<|a8 16 aa C<|a8 17 aa C<|a8 18 aa C<|a8 19 aa C<|a8 20 aa C<|a8 21 aa C<|a8 22 aa C ?_;refine a8 23 aa C<|a8 24 aa C<|aR 25 aa (bA aa) C<|hn aj<|bs<|cf aa<|ext<|bf<|bf<|be<|f0 aa ?_;rw [e9 ab] at aA;exact ⟨aa,al,by rw [bL,b0]; exact aA.wk C,a0.trans<|Tw.wk C⟩
end Go.Hb
end
section
namespace Go.Hb
open Go.Hb.uj
theorem JK (A s1:Tx) (a0 E I d0 C G c1 d1:Int) (w:World):(binOp .eql 49 (.agg [str A,.int .i64 a0,.int .i64 E,.int .i64 I,.int .i64 d0].toArray)<|.agg [str s1,.int .i64 C,.int .i64 G,.int .i64 c1,.int .i64 d1].toArray).run aw w= .ok (.bool<|decide (A=s1∧a0=C∧E=G∧I=c1∧d0=d1)) w:=by
 have O:=underlying9;have V:=underlying3;have J:aw.underlying 49=some (.struct<|aw.fieldsOf 49):=aj;have hp:aw.stoodInHeld 49=false :=aj;rw [run_eql_struct,show (10000:Nat)=9999 +1 from rfl,run_equalIn_agg w 9999 49 _ _ J hp];simp only [Program.fieldsOf,Gu];have hs:(str A=str s1)=(A=s1):=by unfold str; simp
 unfold str at*;go_simp;by_cases h1:A=s1 <;> by_cases h2:a0=C <;> by_cases h3:E=G <;> by_cases h4:I=c1 <;> by_cases h5:d0=d1 <;> simp [h1,h2,h3,h4,h5]
section
variable {N:Fm} {σ:Nat→Value} {w:World} {dst:Option Nat} {ty:TypeId} {pos :String} {af:Array Edge} {g:Option (Nat×Bool)} {x y:Operand}
theorem Wg {Y:TypeId} {I s1:Tx} {a0 C G d0 A E c1 d1:Int} (O:ev N σ x= .agg [str I,.int .i64 a0,.int .i64 C,.int .i64 G,.int .i64 d0].toArray) (V:ev N σ y= .agg [str s1,.int .i64 A,.int .i64 E,.int .i64 c1,.int .i64 d1].toArray):
 (execOp (ev N σ) ⟨dst,.binOp .eql 49 x y Y,ty,pos,af,g⟩).run aw w= .ok (.value<|.bool<|decide (I=s1∧a0=A∧C=E∧G=c1∧d0=d1)) w:=by
 have hm:aw.eqGuardType aw.depth 49=false :=aj;have J:=run_eqGuard_agg w .eql 49 x y [str I,.int .i64 a0,.int .i64 C,.int .i64 G,.int .i64 d0].toArray [str s1,.int .i64 A,.int .i64 E,.int .i64 c1,.int .i64 d1].toArray hm;have he:=JK I s1 a0 C G d0 A E c1 d1 w;simp only [execOp,O,V,oR,J,he,oQ,rC]
end
theorem uM {l:List bK} (h:0 < l.length):eG l≠[]:=Dt (f:=dJ) (m:=5) (fun _=>rfl) aB h
theorem vl {w:World} {B e:Nat} {a:Option Addr} {L:List bK} {c:Nat} (h:bz w B e 5 (.slice a L.length c) L.length (eG L)):aM w.heap a (eG L):=(ba h).2
end Go.Hb
end
section
namespace Go.Hb
noncomputable def Al (F:aU) (xs:List bC) (n f s p:Int):Option Tx:=if 0≤n∧n < xs.length then gZ F xs n.toNat f s p else none
theorem ZT {F:aU} {xs:List bC} {n f s p:Int} (h:¬(0≤n∧n < xs.length)):Al F xs n f s p=none:=if_neg h
theorem xE {F:aU} {xs:List bC} {k:Nat} {f s p:Int} (h:k < xs.length):Al F xs k f s p=gZ F xs k f s p:=by unfold Al; rw [if_pos ab,kQ]
def nE (F:aU) (xs:List bC) (k:Nat) (f:Int):Nat→List Nat
 | 0=>bj F (flagsOf xs k) 2
 | 1=>bj F (cw F f) 2
 | _=>bj F (flagsOf xs k) 1
def q5 (f s p:Int):Nat→Int
 | 0=>f
 | 1=>s
 | _=>p
noncomputable def la (F:aU) (xs:List bC) (k:Nat) (f s p:Int):Nat→Option Tx
 | 0=>some (xs.getD k ([],[])).1
 | i+1=>(la F xs k f s p i).bind<|gU F (nE F xs k f i)<|q5 f s p i
section
variable {F:aU} {xs:List bC} {k:Nat} {f s p:Int}
theorem Ez (h:f= -1∧s≠ -1):gZ F xs k f s p=none:=if_pos h
theorem xG (h:¬(f= -1∧s≠ -1)):gZ F xs k f s p=(la F xs k f s p 3).bind fun u=>if fD F xs k f s p=true then some u else none:=by
 unfold gZ;rw [if_neg h];show _=(((some (xs.getD k ([],[])).1).bind<|gU F (bj F (flagsOf xs k) 2) f).bind (gU F (bj F (cw F f) 2) s) |>.bind (gU F (bj F (flagsOf xs k) 1) p)).bind _;rw [rH,Qv,Qv]
theorem MD {i:Nat} (h:la F xs k f s p i=none):∀ j,la F xs k f s p (i+j)=none
 | 0=>h
 | j+1=>by
   show (la F xs k f s p<|i+j).bind _=none;rw [MD h j]; rfl
theorem FJ {L:List Nat} {n:Int} {u v:Tx} (A:∀ i∈L,i < F.rules.length) (C: -1≤n) (h:gU F L n u=some v):Rn F n:=by
 unfold gU at h;unfold Rn;by_cases h1:n= -1
 · exact .inl h1
 · rw [if_neg h1] at h;by_cases h2:n.toNat∈L
   · have :=A _ h2; omega
   · rw [if_neg h2] at h; cases h
theorem acz {L:List Nat} {n:Nat} {u:Tx} (h:n∈L):gU F L n u=eH (F.rules.getD n dR) u:=by unfold gU; rw [if_neg ab,kQ,if_pos h]
theorem acB {L:List Nat} {n:Nat} {u:Tx} (h:n∉L):gU F L n u=none:=by unfold gU; rw [if_neg ab,kQ,if_neg h]
theorem xF (i:Nat):∀ j∈nE F xs k f i,j < F.rules.length:=by
 intro j A;unfold nE at A;split at A <;> exact (oE.1 A).1
theorem ZU (i:Nat):(nE F xs k f i).length≤F.rules.length:=by
 unfold nE;split <;> exact vf _ _ _
theorem ME {u:Tx} (A: -1≤f) (hs: -1≤s) (hp: -1≤p) (h:la F xs k f s p 3=some u):Rn F f∧Rn F s∧Rn F p:=by
 obtain ⟨E,h2,h3⟩:=sV.1 (show (la F xs k f s p 2).bind _=some u from h);obtain ⟨C,h1,h2⟩:=sV.1 (show (la F xs k f s p 1).bind _=some E from h2);obtain ⟨G,_,h1⟩:=sV.1 (show (la F xs k f s p 0).bind _=some C from h1);exact ⟨FJ (xF 0) A h1,FJ (xF 1) hs h2,FJ (xF 2) hp h3⟩
end
theorem acA {F:aU} {xs:List bC} (C:eC F xs) {L:List Nat} {n:Int} {u v:Tx} (E:∀ i∈L,i < F.rules.length) (h:gU F L n u=some v):v.length≤u.length+32:=by
 unfold gU at h;by_cases h1:n= -1
 · rw [if_pos h1] at h; cases h; omega
 · rw [if_neg h1] at h;by_cases h2:n.toNat∈L
   · rw [if_pos h2] at h;obtain ⟨r,A⟩:∃ r,F.rules[n.toNat]? =some r:=⟨_,cx<|E _ h2⟩
     rw [cX,A] at h;exact (s9 (oJ C A).2.2.2 h).2
   · rw [if_neg h2] at h; cases h
def Nd (p:Value×Value):List Value:= [p.1,p.2]
theorem YB (a:Option Addr) (c:Nat) (l:List Nat) (x:Nat) (w:World) (E:aM w.heap a (l.map bT)) (ap:l.length≤1048576):
 bm aw 144 (bh [.slice a l.length c,ak x]) w (fun v w'=>(∃ k:Int,v= .int .i64 k∧(0≤k↔x∈l)∧ -1≤k∧k≤1048576)∧Wk w w'):=by
 refine enter func144 aa ntmps144 aa<|ag fun Y=>ay<|Y<|az fun Z=>ag fun ac=>au (.slice a l.length c)<|p (bM mr aa aa)<|p mv<|nl<|ac<|aT<|lp (fun C V O=> ∃ (i:Nat),(i≤l.length)∧(∀ j,j < i→l.getD j 0≠x)∧(O=w)∧(Sl V [(0,.slice a l.length c),(1,ak x),(7,ak (l.length)),(8,ak i)])∧(l.length - i=C)) _ ⟨0,ab,(fun j I=>by omega),aa,aa,aa⟩ ?_;rintro C V O ⟨i,hi,J,am,ao,rfl⟩;refine bG ao ?_;subst am;refine ag fun ae=>p (lt aa aa)<|nl<|ae<|az fun ah=>cd aa (fun an=> ?_) fun an=> ?_;refine aQ<|ah<|az fun A=>aT<|ag fun ai=>au (ak i)<|p (cE (ak i) aa)<|nl<|ai<|ag fun aj=>au (ak x)<|au (.slice a l.length c)<|au (ak i)<|p (bc ke aa aa ab<|aM.ok (E)<|cg ab)<|p (ld bD aa<|aM.gY E (show (l.map bT)[i]? =some (ak<|l.getD i 0) by rw [gx,cX,cx (by omega :i < l.length)]; rfl)) ?_;refine p (bQ aa aa)<|nl<|aj<|cd aa (fun G=> ?_) fun G=> ?_;exact ag fun al=>au (ak i)<|p (cE (ak i) aa)<|nl<|al<|rt<|br<|tr<|tr<|br<|tr<|a6 aa<|⟨⟨(i:Nat),aa,⟨fun _=>by obtain rfl :x=l.getD i 0:=ab; exact eb ab,fun _=>by omega⟩,ab,ab⟩,Md.refl _ _⟩
 exact aQ<|bn<|A<|rg aa<|p (ad aa aa<|cB ab)<|p mv<|nl<|tn<|⟨_,ab,i+1,ab,(fun j I=>by rcases fM j i with h | h <;> first | exact J j h | (rw [show j=i by omega]; exact fun h2=>G<|by rw [h2])),aa,aa,aa⟩
 exact ext<|bf<|bf<|be<|Z<|ag fun A=>p aE<|nl<|A<|rt<|a6 aa<|⟨⟨-1,aa,⟨fun h=>absurd h ab,fun h=>by obtain ⟨j,I,e⟩:=mR 0 h; exact absurd e<|J j ab⟩,ab,ab⟩,Md.refl _ _⟩
theorem UQ (a:Option Addr) (c:Nat) (l:List Nat) (x:Nat) (w:World) (E:aM w.heap a (l.map bT)) (J:l.length≤1048576):
 bm aw 88 (bh [.slice a l.length c,ak x]) w (fun v w'=>v= .bool (decide (x∈l))∧Wk w w'):=by
 refine enter func88 aa ntmps88 aa<|ag fun A=>ay<|A<|ag fun C=>au (.slice a l.length c)<|au (ak x)<|e<|cl RY (YB a c l x w E J) aa fun Y Z G=> ?_;obtain ⟨⟨O,rfl,I,V⟩,hE7⟩:=G;exact p (ge aa aa)<|ay<|C<|rt<|a6 aa<|⟨by show ca (decide (O≥0))=_; exact congrArg ca (decide_eq_decide.2 I),hE7⟩
theorem acC (F:aU) (xs:List bC) (I:eC F xs) (ar:Option Addr) (cr:Nat) (rn:List Value) (a:Option Addr) (c:Nat) (L:List Nat) (n:Int) (u:Tx) (w:World) (O:aM w.heap ar (iG<|F.rules.zip rn)) (au:rn.length=F.rules.length) (aj:aM w.heap a (L.map bT)) (an:∀ i∈L,i < F.rules.length) (am:L.length≤1048576) (ax: -1≤n) (aA:u.length≤1048576):
 bm aw 48 (bh [.slice ar F.rules.length cr,.slice a L.length c,.int .i64 n,str u]) w (fun v w'=>v=xL (gU F L n u)∧Wk w w'):=by
 refine enter func48 aa ntmps48 aa<|ag fun Z=>p aE<|ay<|Z<|az fun ac=>az fun ae=>rg aa<|p mv<|p (bQ aa aa)<|nl<|ae<|cd aa (fun h1=> ?_) fun h1=> ?_;obtain rfl :n= -1:=h1;exact ag fun E=>p mv<|p aE<|ay<|E<|rt<|tr<|f2 aa aa aa<|⟨by rw [x5]; rfl,Md.refl _ _⟩
 obtain ⟨m,rfl⟩:∃ m:Nat,n=(m:Int):=⟨n.toNat,ab⟩
 refine aQ<|ac<|az fun E=>ag fun ah=>p mv<|p mv<|e<|cl TJ (UQ a c L m w aj am) aa fun aB av ak=> ?_;obtain ⟨rfl,C⟩:=ak;refine p (no aa)<|nl<|ah<|cb aa (fun J=> ?_) fun J=> ?_;have ao:m∉L:=by simpa using J
 exact ag fun G=>p aE<|ay<|G<|rt<|tr<|f2 aa aa aa<|⟨by rw [acB ao]; rfl,C⟩
 have V:m∈L:=by simpa using J
 obtain ⟨r,A⟩:∃ r,F.rules[m]? =some r:=⟨_,cx<|an m V⟩
 have aq:=(fL.1 A).1;have Y:(F.rules.zip rn)[m]? =some (r,rn[m]'(by rw [au]; exact aq)):=jW.2 ⟨A,cx _⟩;have ap:F.rules.getD m dR=r:=by rw [cX,A]; rfl
 refine aQ<|E<|ag fun G=>p mv<|p mv<|p (bc ny aa aa ab<|aM.ok (O.wk C)<|oM Y)<|p (cW lS aa (aa)<|fC (f:=e6) (m:=7) (fun _=>rfl) (O.wk C) Y)<|p mv<|e<|cl TK (Rf r _ u av (oJ I A).1 (oJ I A).2.1 (oJ I A).2.2.1 ab) aa fun v22 aC al=> ?_;obtain ⟨rfl,ai⟩:=al;exact p (xt aa aa)<|p (xt aa aa)<|p aE<|ay<|G<|rt<|f2 aa aa aa<|⟨by rw [acz V,ap]; rfl,C.trans ai⟩
theorem ZC (B tb:Nat) (U:gJ) (F:aU) (xs:List bC) (bi:Tx) (n f s E:Int) (w:World) (bV:fY w B tb U F xs) (I:eC F xs) (cT: -1≤f) (c7: -1≤s) (c3: -1≤E):
 bm aw 25 (bh [aV tb,.agg [str bi,.int .i64 n,.int .i64 f,.int .i64 s,.int .i64 E].toArray]) w (fun v w'=>v=xL (Al F xs n f s E)∧Wk w w'):=by
 refine enter func25 aa ntmps25 aa<|ag fun ca=>e<|ib aa fun aO b6 a3 aY cs=> ?_;have dr:=aY.size;have cO:=bV.wk aY.md;have a3:bS b6.heap aO [str bi,.int .i64 n,.int .i64 f,.int .i64 s,.int .i64 E]:=cs;refine p aE<|ay<|ca<|ag fun cg=>p mv<|p (fa qd aa)<|p (ld bD aa<|a3.bB 1)<|e<|cl rR (zu B tb U F xs n b6 cO I) aa fun dv dc cG=> ?_;obtain ⟨⟨df,rfl,c1⟩,hE16⟩:=cG;obtain ⟨cm,co,rfl⟩:=cJ c1;have dq:=hE16.size;refine p mv<|p (xt aa aa)<|p (xt aa aa)<|e<|al sG fun bs dA b0 bP cu=> ?_;have du:=bP.size;refine e<|dt kZ aa aa aa aa (cu) (by simp) fun bl bL cq=> ?_;have cC:Wk dc bl:=bP.md.trans' bL fun q c4 h=>by omega
 have dn:=bL.size;have b0:bS bl.heap bs [str (ow xs n),.slice cm (flagsOf xs n).length co]:=cq;have bE:=hE16.trans cC;have ai:=aY.md.trans bE;have aI:=bV.wk ai;have a4:=Wk.B bE a3;refine ay<|cg ?_;refine eo (fun b9 bk=>(bk=bl)∧(0≤n∧n < xs.length)∧(¬(f= -1∧s≠ -1))∧(Sl b9 [(0,aV tb),(3,aV aO),(6,aV bs)])) ?_ ?_;refine ag fun aq=>p mv<|p (no aa)<|p mv<|gb (t:=21) aa (fun ax=> ?_) fun ax=> ?_;have c2:¬(0≤n∧n < xs.length):=fun h=>by rw [decide_eq_true h] at ax; cases ax
 exact aH aa<|aH aa<|aH aa<|aH aa<|ek aa<|ek aa<|ek aa<|aH aa<|p (bH aa)<|nl<|aq<|ct aa<|ag fun av=>p aE<|p aE<|nl<|av<|rt<|tr<|f2 aa aa aa<|⟨by rw [ZT c2]; rfl,ai⟩
 have a9:0≤n∧n < xs.length:=yi fun h=>by rw [decide_eq_false h] at ax; cases ax
 refine aJ aa (fa mM aa)<|aJ aa (ld bD aa<|a4.bB 2)<|aJ aa (bQ aa aa)<|aJ aa mv<|gs (t:=25) aa (fun a6=> ?_) fun a6=> ?_;refine aJ aa (fa mN aa)<|aJ aa (ld bD aa<|a4.bB 3)<|aJ aa (dd aa aa)<|aJ aa (bH aa)<|p (bA aa)<|nl<|aq<|cd aa (fun aB=> ?_) fun aB=> ?_;refine ag fun av=>p aE<|ay<|av<|rt<|tr<|f2 aa aa aa ?_;obtain ⟨k,rfl⟩:∃ m:Nat,n=(m:Int):=⟨n.toNat,ab⟩
 exact ⟨by rw [xE ab,Ez ⟨a6,aB⟩]; rfl,ai⟩;exact aQ<|tn<|⟨aa,a9,(fun h=>aB h.2),aa⟩
 exact aH aa<|aH aa<|aH aa<|aJ aa (bA aa)<|p (bA aa)<|nl<|aq<|cf aa<|aQ<|tn<|⟨aa,a9,(fun h=>a6 h.1),aa⟩
 rintro b9 bk ⟨da,a9,a7,aB⟩;refine bG aB ?_;subst da;refine ag fun aq=>au (aV tb)<|p (nc aa)<|p (fa zL aa)<|p (ld gF aa<|(bg aI.cells).trans aa)<|e<|cl y8 (yN B U.fb U.mc F U.V bk aI.fl (by have :=I.len; omega) I.nx) aa fun v35 O cH=> ?_;obtain ⟨⟨⟨v9,v10,v11,v12,sa,rn⟩,rfl,hax⟩,hE35⟩:=cH;obtain ⟨ar,cr,bd⟩:=cJ hax.dM;have bd:v12=_:=bd;subst bd;have ds:=hE35.size;have b4:rn.length=F.rules.length:=by have :=hax.nx.1; rwa [List.length_map] at this
 have bz:aM O.heap ar (iG<|F.rules.zip rn):=(ba hax.dM).2;have ac:=Wk.B hE35 a4;have cR:=Wk.B hE35 b0;have bW:=(aI.wk hE35).wk (Md.refl _ _).drew;refine p (JT JU aa aa)<|ay<|aq<|ag fun av=>p (fa DO aa)<|p (ld bX aa<|cR.bB 0)<|ay<|av<|az fun ch=>az fun ci=> ?_;have G:(fun w'=>Wk O w') O.drew:=(Md.refl _ _).drew;refine bY (fun w'=>Wk O w') aa wide G<|bO 0 aa (aV tb) G<|aR 1 aa (fa qd aa) G<|bR 2 aa (fun w' J=>ld bD aa<|Wk.aW J<|ac.bB 1) G<|aR 4 aa (fa mM aa) G<|bR 5 aa (fun w' J=>ld bD aa<|Wk.aW J<|ac.bB 2) G<|bO 7 aa (aV tb) G<|aR 8 aa (fa mM aa) G<|bR 9 aa (fun w' J=>ld bD aa<|Wk.aW J<|ac.bB 2) G<|aR 11 aa (fa mN aa) G<|bR 12 aa (fun w' J=>ld bD aa<|Wk.aW J<|ac.bB 3) G<|bO 14 aa (aV tb) G<|aR 15 aa (fa qd aa) G<|bR 16 aa (fun w' J=>ld bD aa<|Wk.aW J<|ac.bB 1) G<|aR 18 aa (fa qe aa) G<|bR 19 aa (fun w' J=>ld bD aa<|Wk.aW J<|ac.bB 4) G<|aR 23 aa (mv) G<|he 3 aa aj<|cl Ti (acI B tb U F xs n O.drew bW I) aa fun dw b7 cI=> ?_;obtain ⟨b1,aP⟩:=cI;obtain ⟨ae,am,rfl⟩:=cJ b1;have bZ:=bW.wk aP;have a1:(fun w'=>Wk O w') b7:=G.trans aP;refine ⟨a1,?_⟩;refine aR 6 aa (dj (ps:= [(0,.slice ae (bj F (flagsOf xs n) 2).length am),(1,.int .i64 f)]) (L:= [.slice ae (bj F (flagsOf xs n) 2).length am,.int .i64 f]) FC aa<|aa) a1<|he 10 aa aj<|cl Iu (NM B tb U F xs f b7 bZ I) aa fun v49 b8 cK=> ?_;obtain ⟨b2,aS⟩:=cK;obtain ⟨a49,an,rfl⟩:=cJ b2;have cP:=bZ.wk aS;have aZ:(fun w'=>Wk O w') b8:=a1.trans aS;refine ⟨aZ,?_⟩;refine aR 13 aa (dj (ps:= [(0,.slice a49 (bj F (cw F f) 2).length an),(1,.int .i64 s)]) (L:= [.slice a49 (bj F (cw F f) 2).length an,.int .i64 s]) FC aa<|aa) aZ<|he 17 aa aj<|cl Tj (aaW B tb U F xs n b8 cP I) aa fun dx de cL=> ?_;obtain ⟨b3,aX⟩:=cL;obtain ⟨ah,ao,rfl⟩:=cJ b3;have a0:(fun w'=>Wk O w') de:=aZ.trans aX;refine ⟨a0,?_⟩;refine aR 20 aa (dj (ps:= [(0,.slice ah (bj F (flagsOf xs n) 1).length ao),(1,.int .i64 E)]) (L:= [.slice ah (bj F (flagsOf xs n) 1).length ao,.int .i64 E]) FC aa<|aa) a0<|he 21 aa aj<|Rx [[.slice ae (bj F (flagsOf xs n) 2).length am,.int .i64 f],[.slice a49 (bj F (cw F f) 2).length an,.int .i64 s],[.slice ah (bj F (flagsOf xs n) 1).length ao,.int .i64 E]] ab7 aa aa aa aa fun bt aD dg aG cv=> ?_;obtain ⟨k,rfl⟩:∃ m:Nat,n=(m:Int):=⟨n.toNat,ab⟩
 obtain ⟨A,bv,bw,bx⟩:∃ A:Nat→Option Addr,A 0=ae∧A 1=a49∧A 2=ah:=⟨fun i=>match i with | 0=>ae | 1=>a49 | _=>ah,rfl,rfl,rfl⟩
 obtain ⟨C,cz,cA,cB⟩:∃ C:Nat→Nat,C 0=am∧C 1=an∧C 2=ao:=⟨fun i=>match i with | 0=>am | 1=>an | _=>ao,rfl,rfl,rfl⟩
 have bK:=aS.trans<|aX.trans aG.md;have Y:Wk O aD:=((Md.refl (fun _=>False) O).drew.trans aP).trans bK;have cY:∀ i,i < 3→([(.slice ae (bj F (flagsOf xs k) 2).length am,.int .i64 f),(.slice a49 (bj F (cw F f) 2).length an,.int .i64 s),(.slice ah (bj F (flagsOf xs k) 1).length ao,.int .i64 E)]:List (Value×Value))[i]? =some (.slice (A i) (nE F xs k f i).length (C i),.int .i64 (q5 f s E i)):=by
  intro i hi;rcases (show i=0∨i=1∨i=2 by omega) with rfl | rfl | rfl;rw [bv,cz]; rfl;rw [bw,cA]; rfl;rw [bx,cB]; rfl
 have cS:∀ i,i < 3→aM aD.heap (A i) ((nE F xs k f i).map bT):=by
  intro i hi;rcases (show i=0∨i=1∨i=2 by omega) with rfl | rfl | rfl;rw [bv]; exact (ba b1).2.wk bK;rw [bw]; exact (ba b2).2.wk<|aX.trans aG.md;rw [bx]; exact (ba b3).2.wk aG.md
 have c5:∀ i,i < 3→∀ {W:World},Wk aD W→∀ j,j < 2→Hb.aW W.heap bt (0 +i*2 +j)=(Nd (.slice (A i) (nE F xs k f i).length (C i),.int .i64 (q5 f s E i)))[j]? :=fun i hi W cQ=>fC (f:=Nd) (m:=2) (fun _=>rfl) ((aM.ec ⟨_,cv⟩).wk cQ)<|cY i hi;have db:ow xs (k:Int)=(xs.getD k ([],[])).1:=by
  obtain ⟨x,aC⟩:∃ x,xs[k]? =some x:=⟨_,cx ab⟩
  rw [(uz aC).1,cX,aC]; rfl
 have dl:(ow xs (k:Int)).length≤1000:=by
  obtain ⟨x,aC⟩:∃ x,xs[k]? =some x:=⟨_,cx ab⟩
  rw [(uz aC).1]; have :=(I.wS x<|gC aC).1; omega
 have bU:(fun w'=>Wk O w') aD:=a0.trans aG.md;refine ⟨bU,?_⟩;refine aR 22 aa (bM ac3 aa aa) bU<|hn aj<|ci<|aT<|lp (fun bu bq aK=> ∃ (i:Nat) (u:Tx),(i≤3)∧(la F xs k f s E i=some u)∧(u.length≤1000 +i*32)∧(Wk aD aK)∧(bq 9=str u)∧(Sl bq [(0,aV tb),(3,aV aO),(8,.slice ar F.rules.length cr),(60,.slice (some ⟨bt,0,none⟩) 3 3),(61,.int .i64 3),(62,ak i)])∧(3 - i=bu)) _ ⟨0,ow xs (k:Int),ab,(by rw [db]; rfl),ab,(Md.refl _ _),(by first | rfl | exact congrArg str b5),aa,aa⟩ ?_;rintro bu bq aK ⟨i,u,hi,aA,di,Z,c9,c8,rfl⟩;refine bG c8<|fx 9 c9<|ag fun cj=>p (lt aa aa)<|nl<|cj<|az fun ck=>cd aa (fun cU=> ?_) fun cU=> ?_;refine aQ<|ck<|az fun aN=>aT<|az fun aL=> ?_;have cV:i < 3:=ab;refine rg aa<|p (ia Wq aa aa ab)<|p (cW QT aa (aa)<|c5 i ab Z)<|e<|al adS fun cn dz a2 bN cp=> ?_;have dp:=bN.size;refine e<|dt Vf aa aa aa aa (cp) (by simp) fun bo cF cy=> ?_;have cD:Wk aK bo:=bN.md.trans' cF fun q c4 h=>by omega
 have a2:bS bo.heap cn [.slice (A i) (nE F xs k f i).length (C i),.int .i64 (q5 f s E i)]:=cy;have aF:=Z.trans cD;refine nl<|aL<|ag fun ap=>au (.slice ar F.rules.length cr)<|p (fa WU aa)<|p (ld qO aa<|a2.bB 0)<|p (fa WV aa)<|p (ld bD aa<|a2.bB 1)<|au (str u)<|e<|cl Tk (acC F xs I ar cr rn (A i) (C i) (nE F xs k f i) (q5 f s E i) u bo (bz.wk<|Y.trans aF) b4 ((cS i cV).wk aF) (xF i) (by have :=ZU (F:=F) (xs:=xs) (k:=k) (f:=f) i; have :=I.len; omega) (by unfold q5; split <;> assumption) ab) aa fun dy dB cM=> ?_;obtain ⟨rfl,bF⟩:=cM;refine p mv<|p (xt aa aa)<|p (xt aa aa)<|p aE<|ay<|ap<|az fun cc=>rg aa<|p mv<|p (no aa)<|nl<|cc<|cb aa (fun a5=> ?_) fun a5=> ?_;have c0:gU F (nE F xs k f i) (q5 f s E i) u=none:=by simpa using a5
 refine ag fun ce=>p aE<|ay<|ce<|rt<|br<|tr<|tr<|br<|tr<|f2 aa aa aa ?_;have cZ:la F xs k f s E 3=none:=by rw [show 3=(i+1)+(2 - i) by omega]; exact MD (by show (la F xs k f s E i).bind _=none; rw [aA]; exact c0) _
 exact ⟨by rw [xE ab,xG a7,cZ]; rfl,ai.trans<|hE35.trans<|Y.trans<|aF.trans bF⟩;obtain ⟨v,bc⟩:∃ v,gU F (nE F xs k f i) (q5 f s E i) u=some v:=nX.1<|by simpa using a5
 have dk:=acA I (xF i) bc;have c6:la F xs k f s E (i+1)=some v:=by show (la F xs k f s E i).bind _=_; rw [aA]; exact bc
 have b5:(gU F (nE F xs k f i) (q5 f s E i) u).getD []=v:=by rw [bc]; rfl
 exact aQ<|bn<|aN<|rg aa<|p (bJ ((i+1:Nat):Int) aa aa<|bp ab ab)<|p mv<|nl<|tn<|⟨_,ab,i+1,v,ab,c6,ab,(aF.trans bF),(by first | rfl | exact congrArg str b5),aa,aa⟩
 refine ext<|bf<|bf<|be<|ch<|az fun aN=>az fun aL=> ?_;obtain rfl :i=3:=ab;have bb:=ME cT c7 c3 aA;refine rg aa<|au (aV tb)<|au (.slice ar F.rules.length cr)<|p (cW oc aa (aa) fun j dh=>(Wk.B (Y.trans Z) ac).bB j)<|e<|cl Tm (XL B tb U F xs ar cr rn bi k f s E aK (aI.wk<|hE35.trans<|Y.trans Z) I (bz.wk<|Y.trans Z) b4 bb.1 bb.2.1 bb.2.2) aa fun v82 dC cN=> ?_;obtain ⟨rfl,bI⟩:=cN;refine p (no aa)<|nl<|aL<|cb aa (fun a8=> ?_) fun a8=> ?_;exact ag fun ap=>p aE<|ay<|ap<|rt<|tr<|f2 aa aa aa<|⟨by rw [xE ab,xG a7,aA,rH,if_neg (by simpa using a8)]; rfl,ai.trans<|hE35.trans<|Y.trans<|Z.trans bI⟩
 exact aQ<|aN<|ag fun ap=>au (str u)<|p (cE (str u) aa)<|p aE<|nl<|ap<|rt<|f2 aa aa aa<|⟨by rw [xE ab,xG a7,aA,rH,if_pos (by simpa using a8)]; rfl,ai.trans<|hE35.trans<|Y.trans<|Z.trans bI⟩
end Go.Hb
end
namespace Go.Hb
theorem NH {r:c7} {v:Value} (h:v.oneCell'=true):(e6 (r,v)).all Value.oneCell'=true :=by
 unfold e6;simp only [List.all_cons,List.all_nil,h];rfl
def uB (a b:bK):Bool:=if a.fst≠b.fst then decide (a.fst < b.fst) else if a.snd≠b.snd then decide (a.snd < b.snd) else decide (a.pre < b.pre)
theorem Fe (R:Nat):(nL R).Pairwise (· < ·):=by
 unfold nL;rw [List.pairwise_cons];exact ⟨fun x A=>by obtain ⟨i,_,rfl⟩:=jn.1 A; omega,List.pairwise_map.2<|List.pairwise_lt_range.imp fun h=>by omega⟩
theorem Fc {R:Nat} {x:Int} (h:x∈nL R): -1≤x:=by
 rcases fG.1 h with h | h
 · omega
 · obtain ⟨i,_,rfl⟩:=jn.1 h; omega
theorem vc {F:aU} {xs:List bC} {e:Nat} {f s:Int} {d:bK} (h:d∈ti F xs e f s):d.eM=e∧d.fst=f∧d.snd=s∧d.pre∈nL F.rules.length∧gZ F xs e d.fst d.snd d.pre=some d.e7:=by
 obtain ⟨p,hp,h⟩:=Qa.1 h;obtain ⟨u,hu,rfl⟩:=nY.1 h;exact ⟨aa,aa,aa,hp,hu⟩
theorem Ev {F:aU} {xs:List bC} {e:Nat} {f:Int} {d:bK} (h:d∈wU F xs e f):d∈ti F xs e f d.snd∧d.snd∈nL F.rules.length:=by
 obtain ⟨s,hs,h⟩:=rD.1 h;have :=(vc h).2.2.1;subst this;exact ⟨h,hs⟩
theorem xD {F:aU} {xs:List bC} {e:Nat} {d:bK} (h:d∈j0 F xs e):d.eM=e∧ -1≤d.fst∧ -1≤d.snd∧ -1≤d.pre∧gZ F xs e d.fst d.snd d.pre=some d.e7:=by
 rw [C4] at h;obtain ⟨f,A,h⟩:=rD.1 h;obtain ⟨h1,h2⟩:=Ev h;obtain ⟨a,b,c,d,e⟩:=vc h1;exact ⟨a,by rw [b]; exact Fc A,Fc h2,Fc d,e⟩
theorem VF (F:aU) (xs:List bC) (e:Nat):(j0 F xs e).Pairwise fun a b=>uB a b=true :=by
 rw [C4,Qe];refine ⟨fun f _=> ?_,(Fe _).imp fun {a b} A x C y E=> ?_⟩
 · unfold wU;rw [Qe];refine ⟨fun s _=> ?_,(Fe _).imp fun {a b} A x C y E=> ?_⟩
   · unfold ti;rw [List.pairwise_filterMap];refine (Fe _).imp fun {a b} A x C y E=> ?_;obtain ⟨u,_,rfl⟩:=nY.1 C;obtain ⟨v,_,rfl⟩:=nY.1 E;unfold uB;rw [if_neg (fun h=>h rfl),if_neg (fun h=>h rfl)];exact decide_eq_true A
   · obtain ⟨_,a2,a3,_⟩:=vc C;obtain ⟨_,G,I,_⟩:=vc E;unfold uB;rw [if_neg (fun h=>h<|by rw [a2,G]),if_pos (by rw [a3,I]; omega),a3,I];exact decide_eq_true A
 · have a2:=(vc (Ev C).1).2.1;have G:=(vc (Ev E).1).2.1;unfold uB;rw [if_pos (by rw [a2,G]; omega),a2,G];exact decide_eq_true A
end Go.Hb
section
namespace Go.Hb.qF
open Go.Hb.oX
noncomputable def pd (r:c7) (u:Tx):Option Tx:=if ik r u=true then some u else none
noncomputable def gv (r:c7) (w:Tx):Option Tx:=
 if r.kind=2 then (if r.add.length≤w.length∧w.drop (w.length - r.add.length)=r.add then pd r (w.take (w.length - r.add.length)++r.strip) else none)
 else if r.kind=1 then (if w.take r.add.length=r.add then pd r (r.strip++w.drop r.add.length) else none)
 else none
section
variable {r:c7} {s u w:Tx}
theorem adb (hk:r.kind=2):gv r s=if decide (r.add.length≤s.length∧s.drop (s.length - r.add.length)=r.add)=true then pd r (lH s r.add++r.strip) else none:=by
 unfold gv lH;rw [if_pos hk];by_cases h:r.add.length≤s.length∧s.drop (s.length - r.add.length)=r.add
 · rw [if_pos h,if_pos h,decide_eq_true h,if_pos rfl]
 · rw [if_neg h,decide_eq_false h]; rfl
theorem ada (hk:r.kind=1):gv r s=if decide (s.take r.add.length=r.add)=true then pd r (r.strip++gi s r.add) else none:=by
 unfold gv gi;rw [if_neg ab,if_pos hk];by_cases h:s.take r.add.length=r.add
 · rw [if_pos h,if_pos h,decide_eq_true h,if_pos rfl]
 · rw [if_neg h,decide_eq_false h]; rfl
theorem ac9 (h1:r.kind≠1) (h2:r.kind≠2):gv r s=none:=by unfold gv; rw [if_neg h2,if_neg h1]
theorem IJ {v:Tx} (h:pd r u=some v):v=u:=by unfold pd at h; split at h <;> cases h; rfl
theorem OJ {v:Tx} (h:gv r s=some v):v.length≤s.length+r.strip.length:=by
 unfold gv at h;split at h
 · split at h
   · rw [IJ h,bL,dP]; omega
   · cases h
 · split at h
   · split at h
     · rw [IJ h,bL,fS]; omega
     · cases h
   · cases h
theorem FW (hk:r.kind=1∨r.kind=2) (h:eH r u=some w):gv r w=some u:=by
 have A:ik r u=true :=by
  cases A:ik r u with
  | true =>rfl
  | false =>rw [Cb A] at h; cases h
 obtain ⟨G,h2,h1⟩:=wX A;by_cases C:r.kind=2
 · rw [Hs A C] at h;cases h;have h3:=h2 C;unfold gv;have el:(u.take (u.length - r.strip.length)++r.add).length - r.add.length=(u.take<|u.length - r.strip.length).length:=by rw [bL]; omega
   rw [if_pos C,el,PV,Qj,if_pos ⟨by rw [bL]; omega,rfl⟩];have E:u.take (u.length - r.strip.length)++r.strip=u:=by
    conv =>lhs; rhs; rw [← h3]
    exact BL _ _
   rw [E]; unfold pd; rw [if_pos A]
 · rw [Hr A C] at h;cases h;have h3:=h1 C;unfold gv;rw [if_neg C,if_pos (hk.resolve_right C),Qj,if_pos rfl,PV];have E:r.strip++u.drop r.strip.length=u:=by
    conv =>lhs; lhs; rw [← h3]
    exact BL _ _
   rw [E]; unfold pd; rw [if_pos A]
end
section
variable (F:aU) (xs:List bC) (w:Tx)
def oD (stem:Tx) (f s p:Int) (d:bK):Prop := ∃ n x,xs[n]? =some x∧x.1=stem∧d=⟨w,n,f,s,p⟩∧gZ F xs n f s p=some w
def fO (n z:Nat):List Nat:=(List.range n).filter fun i=>decide (z∈bj F (cw F (i:Int)) 2)
def pc (word:Tx) (p:Int) (k:Nat) (d:bK):Prop :=oD F xs w word (-1) (-1) p d∨
 ∃ i r,i < k∧F.rules[i]? =some r∧r.kind=2∧∃ st,gv r word=some st∧(oD F xs w st i (-1) p d∨∃ f∈fO F F.rules.length i,∃ rt,gv (F.rules.getD f dR) st=some rt∧oD F xs w rt f i p d)
def pL (k:Nat) (d:bK):Prop :=pc F xs w w (-1) F.rules.length d∨∃ i r,i < k∧F.rules[i]? =some r∧r.kind=1∧∃ rest,gv r w=some rest∧pc F xs w rest i F.rules.length d
variable {F xs w}
theorem VE {e:Nat} {f s p:Int} {u:Tx} (A:Rn F f) (hs:Rn F s) (hp:Rn F p) (h:gZ F xs e f s p=some u):(⟨u,e,f,s,p⟩:bK)∈j0 F xs e:=by
 have rm:∀ {n:Int},Rn F n→n∈nL F.rules.length:=fun {n} hn=>by
  rcases hn with h | h
  · exact fG.2<|.inl h
  · exact fG.2<|.inr<|jn.2 ⟨n.toNat,pW.2 ab,ab⟩
 rw [C4];refine rD.2 ⟨f,rm A,rD.2 ⟨s,rm hs,Qa.2 ⟨p,rm hp,?_⟩⟩⟩;rw [h]; rfl
theorem ZV {e:Nat} {f s p:Int} {u:Tx} (C: -1≤f) (hs: -1≤s) (hp: -1≤p) (h:gZ F xs e f s p=some u):Rn F f∧Rn F s∧Rn F p:=by
 have A:¬(f= -1∧s≠ -1):=fun A=>by rw [Ez A] at h; cases h
 rw [xG A] at h;obtain ⟨v,E,_⟩:=sV.1 h;exact ME C hs hp E
theorem xC {n:Nat} {d:bK} :d∈kE F xs n↔∃ e,e < n∧d∈j0 F xs e:=by
 unfold kE;rw [rD];exact ⟨fun ⟨e,h,h1⟩=>⟨e,pW.1 h,h1⟩,fun ⟨e,h,h1⟩=>⟨e,pW.2 h,h1⟩⟩
theorem Er {stem:Tx} {f s p:Int} {d:bK} (A: -1≤f) (hs: -1≤s) (hp: -1≤p) (h:oD F xs w stem f s p d):d∈kE F xs xs.length∧d.e7=w:=by
 obtain ⟨n,x,C,_,rfl,hm⟩:=h;obtain ⟨h1,h2,h3⟩:=ZV A hs hp hm;exact ⟨xC.2 ⟨n,(fL.1 C).1,VE h1 h2 h3 hm⟩,aa⟩
theorem IF {word:Tx} {p:Int} {k:Nat} {d:bK} (hp: -1≤p) (h:pc F xs w word p k d):d∈kE F xs xs.length∧d.e7=w:=by
 rcases h with h | ⟨i,r,_,_,_,st,_,h | ⟨f,_,rt,_,h⟩⟩
 · exact Er ab ab hp h
 · exact Er ab ab hp h
 · exact Er ab ab hp h
theorem AV {L:List Nat} {n:Int} {u v:Tx} (hn: -1≤n) (h:gU F L n u=some v):(n= -1∧v=u)∨∃ m:Nat,n=(m:Int)∧m∈L∧eH (F.rules.getD m dR) u=some v:=by
 unfold gU at h;by_cases h1:n= -1
 · rw [if_pos h1] at h; cases h; exact .inl ⟨h1,rfl⟩
 · rw [if_neg h1] at h;by_cases h2:n.toNat∈L
   · rw [if_pos h2] at h; exact .inr ⟨n.toNat,ab,h2,h⟩
   · rw [if_neg h2] at h; cases h
theorem Fp {m:Nat} (h:m < F.rules.length):F.rules[m]? =some (F.rules.getD m dR):=by
 rw [cX,cx h]; rfl
theorem TU {n:Nat} {x:bC} {f s p:Int} {E:Tx} (C:xs[n]? =some x) (Y: -1≤f) (hs: -1≤s) (J:¬(f= -1∧s≠ -1)) (h2:la F xs n f s p 2=some E) (hm:gZ F xs n f s p=some w):
 pc F xs w E p F.rules.length ⟨w,n,f,s,p⟩:=by
 obtain ⟨G,h1,h2⟩:=sV.1 (show (la F xs n f s p 1).bind _=some E from h2);obtain ⟨ac,I,h1⟩:=sV.1 (show (la F xs n f s p 0).bind _=some G from h1);cases I;have ab:(xs.getD n ([],[])).1=x.1:=by rw [cX,C]; rfl
 rw [ab] at h1;have kd:∀ {fs:List Nat} {m:Nat},m∈bj F fs 2→m < F.rules.length∧(F.rules.getD m dR).kind=2:=fun h=>⟨(oE.1 h).1,(oE.1 h).2.1⟩
 rcases AV Y h1 with ⟨rfl,rfl⟩ | ⟨i,rfl,hi,O⟩
 · obtain rfl :s= -1:=yi fun h=>J ⟨rfl,h⟩;rcases AV hs h2 with ⟨_,rfl⟩ | ⟨m,h,_⟩
   · exact .inl ⟨n,x,C,aa,aa,hm⟩
   · omega
 · have hi:i∈bj F (flagsOf xs n) 2:=hi;have hu:=FW (.inr (kd hi).2) O;rcases AV hs h2 with ⟨rfl,rfl⟩ | ⟨z,rfl,A,V⟩
   · exact .inr ⟨i,_,(kd hi).1,Fp (kd hi).1,(kd hi).2,x.1,hu,.inl ⟨n,x,C,aa,aa,hm⟩⟩
   · have A:z∈bj F (cw F (i:Int)) 2:=A;have Z:=FW (.inr (kd A).2) V;exact .inr ⟨z,_,(kd A).1,Fp (kd A).1,(kd A).2,G,Z,.inr ⟨i,ua.2 ⟨pW.2 (kd hi).1,decide_eq_true A⟩,x.1,hu,n,x,C,aa,aa,hm⟩⟩
theorem NL (d:bK):pL F xs w F.rules.length d↔d∈kE F xs xs.length∧d.e7=w:=by
 constructor
 · rintro (h | ⟨i,r,_,_,_,rest,_,h⟩)
   · exact IF ab h
   · exact IF ab h
 · rintro ⟨hd,hw⟩;obtain ⟨e,he,hd⟩:=xC.1 hd;obtain ⟨G,I,hs,hp,hm⟩:=xD hd;obtain ⟨Z,en,f,s,p⟩:=d;simp only at G I hs hp hm hw;subst G;subst hw;obtain ⟨x,Y⟩:∃ x,xs[en]? =some x:=⟨_,cx he⟩
   have A:¬(f= -1∧s≠ -1):=fun A=>by rw [Ez A] at hm; cases hm
   have J:=hm;rw [xG A] at J;obtain ⟨v,V,C⟩:=sV.1 J;split at C
   case isFalse=>cases C
   cases C;obtain ⟨aa,h2,h3⟩:=sV.1 (show (la F xs en f s p 2).bind _=some Z from V);have E:=TU Y I hs A h2 hm;rcases AV hp h3 with ⟨rfl,rfl⟩ | ⟨i,rfl,hi,O⟩
   · exact .inl E
   · have hi:i∈bj F (flagsOf xs en) 1:=hi;exact .inr ⟨i,_,(oE.1 hi).1,Fp (oE.1 hi).1,(oE.1 hi).2.1,aa,FW (.inl (oE.1 hi).2.1) O,E⟩
end
theorem Vb (s pr:List UInt8) (w:World) (hs:s.length≤1099511627776) (hp:pr.length≤1099511627776):
 bm aw 162 (bh [str s,str pr]) w (fun v w'=>v= .tuple #[str (lH s pr),.bool (decide (pr.length≤s.length∧s.drop (s.length - pr.length)=pr))]∧Wk w w'):=by
 refine enter func162 aa ntmps162 aa<|ag fun I=>p aE<|ay<|I<|az fun J=>az fun O=>rg aa<|au (str s)<|au (str pr)<|e<|cl y6 (z6 s pr _ hs hp) aa fun Y Z V=> ?_;obtain ⟨rfl,G⟩:=V;refine p (no aa)<|nl<|O<|cb aa (fun A=> ?_) fun A=> ?_;have C:¬(pr.length≤s.length∧s.drop (s.length - pr.length)=pr):=fun h=>by rw [decide_eq_true h] at A; cases A
 exact ag fun E=>au (str s)<|p (cE (str s) aa)<|ay<|E<|rt<|tr<|f2 aa aa aa<|⟨by unfold lH; rw [if_neg C,decide_eq_false C]; rfl,G⟩
 have C:pr.length≤s.length∧s.drop (s.length - pr.length)=pr:=yi fun h=>by rw [decide_eq_false h] at A; cases A
 exact aQ<|J<|ag fun E=>au (str s)<|au (str s)<|p (cR u9 aa aa)<|au (str pr)<|p (cR u9 aa aa)<|p (dY ((s.length - pr.length:Nat):Int) aa aa<|bp ab ab)<|p (sx u9 aa aa ab)<|p aE<|ay<|E<|rt<|f2 aa aa aa<|⟨by unfold lH; rw [if_pos C,decide_eq_true C]; rfl,G⟩
theorem Vc (s pr:List UInt8) (w:World) (hs:s.length≤1099511627776) (hp:pr.length≤1099511627776):
 bm aw 102 (bh [str s,str pr]) w (fun v w'=>v= .tuple #[str (lH s pr),.bool (decide (pr.length≤s.length∧s.drop (s.length - pr.length)=pr))]∧Wk w w'):=by
 refine enter func102 aa ntmps102 aa<|ag fun A=>p aE<|ay<|A<|ag fun C=>au (str s)<|au (str pr)<|e<|cl Sb (Vb s pr _ hs hp) aa fun I J G=> ?_;obtain ⟨rfl,E⟩:=G;exact p (xt aa aa)<|p (xt aa aa)<|p aE<|ay<|C<|rt<|f2 aa aa aa<|⟨aa,E⟩
theorem FX (r:c7) (u:Value) (s:Tx) (w:World) (aS:r.strip.length≤32) (aI:r.add.length≤1048576) (aK:r.cond.length≤1048576) (aU:s.length≤16777216):
 bm aw 59 (bh [.agg (e6 (r,u)).toArray,str s]) w (fun v w'=>v=xL (gv r s)∧Wk w w'):=by
 refine enter func59 aa ntmps59 aa<|ag fun ao=>e<|ib aa fun Y ah aM ac ax=> ?_;have aR:((r,u):c7×Value).1.strip.length=r.strip.length:=rfl;have aP:((r,u):c7×Value).1.kind=r.kind:=rfl;have aO:((r,u):c7×Value).1.add.length=r.add.length:=rfl;have E:bS ah.heap Y (e6 (r,u)):=ax;have aZ:(lH s r.add).length≤s.length:=by unfold lH; split <;> simp <;> omega
 have aY:(gi s r.add).length≤s.length:=by unfold gi; split <;> simp
 refine p aE<|ay<|ao<|ag fun ap=>p aE<|nl<|ap<|ag fun aq=>ay<|aq ?_;refine eo (fun an O=> ∃ (sm:Tx) (ok:Bool),(gv r s=if ok=true then pd r sm else none)∧(sm.length≤s.length+r.strip.length)∧(Wk w O)∧(bS O.heap Y<|e6 (r,u))∧(Sl an [(2,aV Y),(6,str sm),(7,.bool ok)])) ?_ ?_;refine ag fun V=>p (fa xc aa)<|p (ld bD aa<|E.bB 0)<|nl<|V<|aT<|az fun I=>rg aa<|p (bQ aa aa)<|ay<|I<|cd aa (fun aG=> ?_) fun aG=> ?_;refine ag fun A=>p mv<|p (fa xe aa)<|p (ld bX aa<|E.bB 4)<|e<|cl RF (Vc s r.add ah ab ab) aa fun a0 a2 aA=> ?_;obtain ⟨rfl,ai⟩:=aA;have al:=Wk.B ai E;exact p mv<|p (xt aa aa)<|p (xt aa aa)<|p aE<|ay<|A<|rg aa<|p mv<|p (fa rZ aa)<|p (ld bX aa<|al.bB 3)<|p (cc aa aa ab)<|p aE<|nl<|bn<|tn<|⟨lH s r.add++r.strip,_,(adb ab),(by rw [bL]; omega),(ac.md.trans ai),al,aa⟩
 refine ag fun A=>p (bQ aa aa)<|ay<|A<|cd aa (fun aF=> ?_) fun aF=> ?_;refine ag fun av=>p mv<|p (fa xe aa)<|p (ld bX aa<|E.bB 4)<|e<|cl HH (I5 s r.add ah ab ab) aa fun a1 a3 aB=> ?_;obtain ⟨rfl,aj⟩:=aB;have am:=Wk.B aj E;exact p mv<|p (xt aa aa)<|p (xt aa aa)<|p aE<|ay<|av<|rg aa<|p (fa rZ aa)<|p (ld bX aa<|am.bB 3)<|p mv<|p (cc aa aa ab)<|p aE<|nl<|bn<|tn<|⟨r.strip++gi s r.add,_,(ada ab),(by rw [bL]; omega),(ac.md.trans aj),am,aa⟩
 exact aQ<|bn<|tn<|⟨[],false,(ac9 ab ab),(hZ _),ac.md,E,aa⟩
 rintro an O ⟨sm,ok,C,aW,Z,aD,aL⟩;refine bG aL<|az fun V=>ag fun I=>au (.bool ok)<|p (no aa)<|p mv<|gb (t:=38) aa (fun J=> ?_) fun J=> ?_;refine aH aa<|aH aa<|aH aa<|aH aa<|p (bH aa)<|nl<|I<|ct aa<|ag fun A=>p aE<|ay<|A<|rt<|tr<|f2 aa aa aa ?_;have G:ok=false :=by simpa using J
 rw [G] at C;exact ⟨by rw [C]; rfl,Z⟩;refine aJ aa (cW lS aa (aa) fun j aN=>aD.bB j)<|aJ aa (aX (str sm) aa)<|eg aa aa aa<|cl HI (Kn r u sm O ab aI aK ab) aa fun v41 a4 aC=> ?_;obtain ⟨rfl,ak⟩:=aC;refine aJ aa (no aa)<|p (bA aa)<|nl<|I<|cb aa (fun ae=> ?_) fun ae=> ?_;refine ag fun A=>p aE<|ay<|A<|rt<|tr<|f2 aa aa aa ?_;have G:ok=true :=by simpa using J
 rw [G,if_pos rfl] at C;unfold pd at C;exact ⟨by rw [C,if_neg (by simpa using ae)]; rfl,Z.trans ak⟩;refine aQ<|V<|ag fun A=>au (str sm)<|p (cE (str sm) aa)<|p aE<|nl<|A<|rt<|f2 aa aa aa ?_;have G:ok=true :=by simpa using J
 rw [G,if_pos rfl] at C;unfold pd at C;exact ⟨by rw [C,if_pos (by simpa using ae)]; rfl,Z.trans ak⟩
end Go.Hb.qF
end
section
namespace Go.Hb
open Go.Hb.qF
theorem Da {a b:bK} (h:a.e7=b.e7∧a.eM=b.eM∧a.fst=b.fst∧a.snd=b.snd∧a.pre=b.pre):a=b:=by
 obtain ⟨s,e,f,g,p⟩:=a;obtain ⟨I,A,C,E,G⟩:=b;obtain ⟨h1,h2,h3,h4,h5⟩:=h;simp only at h1 h2 h3 h4 h5;subst h1 h2 h3 h4 h5;rfl
instance aea:DecidableEq bK:=fun a b=>decidable_of_iff (a.e7=b.e7∧a.eM=b.eM∧a.fst=b.fst∧a.snd=b.snd∧a.pre=b.pre) ⟨Da,fun h=>by subst h; exact ⟨rfl,rfl,rfl,rfl,rfl⟩⟩
def eY (d:bK):Value:= .agg (dJ d).toArray
def q4 (v:Value):Prop := ∃ d,v=eY d
theorem acD {a b:Tx} (h:str a=str b):a=b:=by unfold str at h; simpa using h
theorem Ef {a b:bK} (h:eY a=eY b):a=b:=by
 unfold eY dJ at h;injection h with h
 have h:([str a.e7,.int .i64 (a.eM:Nat),.int .i64 a.fst,.int .i64 a.snd,.int .i64 a.pre]:List Value)= [str b.e7,.int .i64 (b.eM:Nat),.int .i64 b.fst,.int .i64 b.snd,.int .i64 b.pre]:=congrArg Array.toList h;simp only [List.cons.injEq,Value.int.injEq,true_and,and_true] at h;obtain ⟨h1,h2,h3,h4,h5⟩:=h;exact Da ⟨acD h1,ab,h3,h4,h5⟩
theorem Wf (a b:bK) (w:World):(Op.equal 49 (eY a)<|eY b).run aw w= .ok (decide (a=b)) w:=by
 have h:=JK a.e7 b.e7 a.eM a.fst a.snd a.pre b.eM b.fst b.snd b.pre w;rw [run_eql_struct] at h;have e:(Op.equal 49 (eY a)<|eY b)=rB 10000 49 (eY a) (eY b):=rfl;rw [e];show (rB 10000 49 (.agg (dJ a).toArray)<|.agg (dJ b).toArray).run aw w=_;unfold dJ;generalize (rB 10000 49 _ _).run aw w=X at h;have hd:decide (a.e7=b.e7∧(a.eM:Int)=b.eM∧a.fst=b.fst∧a.snd=b.snd∧a.pre=b.pre)=decide (a=b):=by
  exact decide_eq_decide.2 ⟨fun ⟨h1,h2,h3,h4,h5⟩=>Da ⟨h1,ab,h3,h4,h5⟩,fun h=>by subst h; exact ⟨aa,aa,aa,aa,aa⟩⟩
 rw [hd] at h;cases X with
 | ok c w'=>
   have h:Result.ok (ca c) w'= .ok (.bool<|decide (a=b)) w:=h;injection h with h1 h2
   injection h1 with h1
   subst h1 h2;rfl
 | halt a b=>cases h
theorem Ay {P:Program} {t:TypeId} {cs:Array Value} {o:Nat} {v:Value} {q:IntKind} (A:P.underlying t=some (.int q)) (C:cs[o]? =some v) (w:World):(part t cs o).run P w= .ok v w:=by
 simp [part,isAgg,ee A,C]
theorem T5 (em:Bool) (d:bK) (w:World):(pQ em 10000 49<|eY d).run aw w= .ok () w:=by
 have E:=Gu;have C:=underlying9;have A:=underlying3;have G:∀ w,(part 9 #[str d.e7,.int .i64 (d.eM:Nat),.int .i64 d.fst,.int .i64 d.snd,.int .i64 d.pre] 0).run aw w= .ok (str d.e7) w:=fun w=>aaI C rfl rfl w;have I:∀ w,(part 3 #[str d.e7,.int .i64 (d.eM:Nat),.int .i64 d.fst,.int .i64 d.snd,.int .i64 d.pre] 1).run aw w= .ok (.int .i64 (d.eM:Nat)) w:=fun w=>Ay A rfl w;have J:∀ w,(part 3 #[str d.e7,.int .i64 (d.eM:Nat),.int .i64 d.fst,.int .i64 d.snd,.int .i64 d.pre] 2).run aw w= .ok (.int .i64 d.fst) w:=fun w=>Ay A rfl w;have O:∀ w,(part 3 #[str d.e7,.int .i64 (d.eM:Nat),.int .i64 d.fst,.int .i64 d.snd,.int .i64 d.pre] 3).run aw w= .ok (.int .i64 d.snd) w:=fun w=>Ay A rfl w;have V:∀ w,(part 3 #[str d.e7,.int .i64 (d.eM:Nat),.int .i64 d.fst,.int .i64 d.snd,.int .i64 d.pre] 4).run aw w= .ok (.int .i64 d.pre) w:=fun w=>Ay A rfl w;show (pQ em (9998 +1 +1) 49<|.agg #[str d.e7,.int .i64 (d.eM:Nat),.int .i64 d.fst,.int .i64 d.snd,.int .i64 d.pre]).run aw w=_;rw [pQ];simp only [oR,ee E,oQ];rw [← Array.forIn_toList];simp only [List.forIn_cons,List.forIn_nil,oR,G,I,J,O,V,ne_eq,String.reduceEq,not_false_eq_true,if_true,oQ,IH C,TW A,rC]
theorem findD:∀ (es:List MapEntry) (w:World) (d:bK) (i:Nat),(∀ e∈es,q4 e.key)→
 ((tP 49 (eY d) es i).run aw w= .ok none w∧∀ e∈es,e.key≠eY d)∨∃ j e,(tP 49 (eY d) es i).run aw w= .ok (some (i+j,e.val)) w∧es[j]? =some e∧e.key=eY d
 | [],w,d,i,_=> .inl ⟨by simp [tP],fun _ h=>by simp at h⟩
 | e::es,w,d,i,hk=>by
   obtain ⟨g,E⟩:=hk e<|by simp
   have he:=Wf d g w;rw [← E] at he;by_cases A:d=g
   · subst A;refine .inr ⟨0,e,?_,aa,E⟩;simp [tP,he]
   · have I:e.key≠eY d:=by rw [E]; exact fun h=>A (Ef h).symm
     rcases findD es w d (i+1) (fun e he=>hk e<|by simp [he]) with ⟨h1,h2⟩ | ⟨j,C,h1,h2,h3⟩
     · refine .inl ⟨by simp [tP,he,A,h1],fun C G=> ?_⟩;rcases fG.1 G with rfl | G
       · exact I
       · exact h2 C G
     · refine .inr ⟨j+1,C,?_,h2,h3⟩;simp only [tP,oR,he,A,oQ,decide_false,Sem.run_ite,Bool.false_eq_true,if_false,h1]; rw [show i+1 +j=i+(j+1) from by omega]
theorem Y7:vY aw 49 q4 where
 check em w v hv:=by obtain ⟨d,rfl⟩:=hv; exact T5 em d w
 find w x es hx hes:=by
  obtain ⟨d,rfl⟩:=hx;have C:=Gu;have E:es≠[]→(tQ 49 (eY d) es).run aw w=(tP 49 (eY d) es).run aw w:=by
   intro A;cases es with
   | nil=>exact absurd rfl A
   | cons e es=>simp [tQ,ee C,tR,Instr.sameNow,eY]
  by_cases A:es= []
  · subst A; exact .inl ⟨by simp [tQ,ee C,tR],fun _ h=>by simp at h⟩
  · rw [E A];rcases findD es w d 0 hes with h1 | ⟨j,e,h1,h2,h3⟩
    · exact .inl h1
    · exact .inr ⟨j,e,by rw [h1,Nat.zero_add],h2,h3⟩
theorem LY:mF aw 49 q4 where
 key:=Y7
 stays w v hv:=by obtain ⟨d,rfl⟩:=hv; simp [Instr.keyThatStays,Instr.sameBits,eY,dJ,str,Cf]
def kz (h:Array Obj) (b:Nat) (S:bK→Prop):Prop := ∃ f,lQ h b q4 f∧(∀ d,(f<|eY d).isSome=true↔S d)∧∀ k v,f k=some v→∃ n:Int,v= .int .i64 n
theorem kz.md {G:Nat→Prop} {w w':World} {b:Nat} {S:bK→Prop} (h:kz w.heap b S) (hm:Md G w w') (A:¬G b):kz w'.heap b S:=let ⟨f,h1,h2⟩:=h; ⟨f,h1.md hm A,h2⟩
theorem kz.congr {h:Array Obj} {b:Nat} {S A:bK→Prop} (hm:kz h b S) (he:∀ d,A d↔S d):kz h b A:=let ⟨f,h1,h2,h3⟩:=hm; ⟨f,h1,fun d=>(h2 d).trans (he d).symm,h3⟩
theorem kz.put {h:Array Obj} {b:Nat} {S:bK→Prop} {f:Value→Option Value} {d:bK} {v:Value} {n:Int} (h2:∀ d,(f<|eY d).isSome=true↔S d) (h3:∀ k v,f k=some v→∃ n:Int,v= .int .i64 n) (hm:lQ h b q4 (bU (bU f (eY d) v) (eY d)<|.int .i64 n)):kz h b (fun x=>S x∨x=d):=by
 refine ⟨_,hm,fun x=> ?_,fun k u hu=> ?_⟩
 · by_cases A:x=d
   · subst A; rw [oI]; exact ⟨fun _=> .inr rfl,fun _=>rfl⟩
   · have hk:eY x≠eY d:=fun h=>A<|Ef h;rw [mm hk,mm hk,h2];exact ⟨.inl,fun h=>h.resolve_right A⟩
 · by_cases hk:k=eY d
   · subst hk; rw [oI] at hu; cases hu; exact ⟨n,rfl⟩
   · rw [mm hk,mm hk] at hu; exact h3 k u hu
def yI (h:Array Obj) (b:Nat) (kx zv v:Value):Prop := ∃ g,di h b q4 g∧(g kx).getD zv=v
section
variable {P:Program} {N:Fm} {σ:Nat→Value} {w:World} {dst:Option Nat} {ty:TypeId} {pos :String} {af:Array Edge} {g:Option (Nat×Bool)} {x y:Operand}
theorem Zt {t e:TypeId} {b:Nat} {kx v zv:Value} (A:aw.underlying t=some (.map 49 e)) (G:zeroV aw e=some zv) (hm:yI w.heap b kx zv v) (C:ev N σ x= .map (some b)) (E:ev N σ y=kx) (hi:q4 kx):
 (execOp (ev N σ) ⟨dst,.lookup t x y false,ty,pos,af,g⟩).run aw w= .ok (.value v) w:=by
 obtain ⟨f,h1,h2⟩:=hm;exact mQ A G LY h1 C E hi h2
end
def GW (w:World) (fm:Nat) (F:aU):Prop := ∃ f,di w.heap fm (k5 .i64) f∧∀ z:Nat,z < F.rules.length→∃ a c B,(f<|.int .i64 (z:Nat)).getD (.slice none 0 0)= .slice a (fO F F.rules.length z).length c∧bz w B 3 1 (.slice a (fO F F.rules.length z).length c) (fO F F.rules.length z).length ((fO F F.rules.length z).map bT)
def NX (tb:Nat) (F:aU) (ar:Option Addr) (cr fm dm:Nat):List Value:= [.pointer (some ⟨tb,0,none⟩),.slice ar F.rules.length cr,.map (some fm),.map (some dm)]
structure lk (w0 wB:World) (B kb tb:Nat) (U:gJ) (F:aU) (xs:List bC) (ar:Option Addr) (cr:Nat) (rn:List Value) (fm dm:Nat):Prop where
 tbh:fY w0 B tb U F xs
 wk:Wk w0 wB
 lo:w0.heap.size≤dm
 cells:wB.heap[kb]? =some (.cells (NX tb F ar cr fm dm).toArray 132 (0,0))
 ru:∃ B',bz wB B' 134 7 (.slice ar F.rules.length cr) F.rules.length (iG<|F.rules.zip rn)
 rnl:rn.length=F.rules.length
 ro:∀ u∈rn,u.oneCell'=true
 fs:GW wB fm F
 ne:fm≠dm
 Jv:∃ es c,wB.heap[dm]? =some (.map es c)
section
variable {w0 wB w:World} {B kb tb:Nat} {U:gJ} {F:aU} {xs:List bC} {ar:Option Addr} {cr:Nat} {rn:List Value} {fm dm:Nat}
theorem lk.tf (h:lk w0 wB B kb tb U F xs ar cr rn fm dm):TF wB [1] (fun k=>k=dm):=TF.eq (by obtain ⟨es,c,h1⟩:=h.Jv; unfold tag; rw [h1]) aB
theorem lk.at (h:lk w0 wB B kb tb U F xs ar cr rn fm dm) (hm:Md (fun k=>k=dm) wB w):w.heap[kb]? =some (.cells (NX tb F ar cr fm dm).toArray 132 (0,0)):=hm.iT h.tf h.cells aB
theorem lk.rules (h:lk w0 wB B kb tb U F xs ar cr rn fm dm) (hm:Md (fun k=>k=dm) wB w):aM w.heap ar (iG<|F.rules.zip rn):=by
 obtain ⟨B',h1⟩:=h.ru;exact (ba<|cQ h1 hm h.tf aB).2
theorem lk.FN (h:lk w0 wB B kb tb U F xs ar cr rn fm dm) (hm:Md (fun k=>k=dm) wB w):fY w B tb U F xs:=h.tbh.wk<|h.wk.trans' hm fun k hk h2=>by have :=h.lo; omega
theorem lk.fO (h:lk w0 wB B kb tb U F xs ar cr rn fm dm) (hm:Md (fun k=>k=dm) wB w):GW w fm F:=by
 obtain ⟨f,h1,h2⟩:=h.fs;refine ⟨f,h1.md hm h.ne,fun z A=> ?_⟩;obtain ⟨a,c,B,h3,h4⟩:=h2 z A;exact ⟨a,c,B,h3,cQ h4 hm h.tf aB⟩
theorem lk.lt (h:lk w0 wB B kb tb U F xs ar cr rn fm dm):dm < wB.heap.size:=by obtain ⟨es,c,h1⟩:=h.Jv; exact (dO.1 h1).1
theorem lk.jw (h:lk w0 wB B kb tb U F xs ar cr rn fm dm) {k:Nat} {r:c7} (A:F.rules[k]? =some r):∃ u,(F.rules.zip rn)[k]? =some (r,u):=by
 have hk:=(fL.1 A).1;have C:k < rn.length:=by rw [h.rnl]; exact hk
 exact ⟨rn[k],jW.2 ⟨A,cx C⟩⟩
end
theorem Ex {s:Tx} {xs:List bC} {n:Nat} :n∈idxs s xs↔∃ x,xs[n]? =some x∧x.1=s:=by
 unfold idxs;rw [ua,pW,decide_eq_true_iff];constructor
 · rintro ⟨h1,h2⟩;refine ⟨xs[n],cx h1,?_⟩;rw [cX,cx h1] at h2; exact h2
 · rintro ⟨x,A,rfl⟩;exact ⟨(fL.1 A).1,by rw [cX,A]; rfl⟩
def qh (F:aU) (xs:List bC) (wd stem:Tx) (f s p:Int) (S:bK→Prop) (i:Nat) (d:bK):Prop :=S d∨∃ j,j < i∧d=⟨wd,(idxs stem xs).getD j 0,f,s,p⟩∧gZ F xs ((idxs stem xs).getD j 0) f s p=some wd
section
variable {F:aU} {xs:List bC} {wd stem:Tx} {f s p:Int} {S:bK→Prop} {i:Nat}
theorem Zq (h:gZ F xs ((idxs stem xs).getD i 0) f s p=some wd) (d:bK):qh F xs wd stem f s p S (i+1) d↔(qh F xs wd stem f s p S i d∨d=⟨wd,(idxs stem xs).getD i 0,f,s,p⟩):=by
 unfold qh;constructor
 · rintro (h1 | ⟨j,A,h1,h2⟩)
   · exact .inl<|.inl h1
   · rcases pX.1 A with A | rfl
     · exact .inl<|.inr ⟨j,A,h1,h2⟩
     · exact .inr h1
 · rintro ((h1 | ⟨j,A,h1⟩) | h1)
   · exact .inl h1
   · exact .inr ⟨j,ab,h1⟩
   · exact .inr ⟨i,ab,h1,h⟩
theorem Mg (h:gZ F xs ((idxs stem xs).getD i 0) f s p≠some wd) (d:bK):qh F xs wd stem f s p S (i+1) d↔qh F xs wd stem f s p S i d:=by
 unfold qh;constructor
 · rintro (h1 | ⟨j,A,h1,h2⟩)
   · exact .inl h1
   · rcases pX.1 A with A | rfl
     · exact .inr ⟨j,A,h1,h2⟩
     · exact absurd h2 h
 · rintro (h1 | ⟨j,A,h1⟩)
   · exact .inl h1
   · exact .inr ⟨j,ab,h1⟩
theorem Zp (d:bK):qh F xs wd stem f s p S (idxs stem xs).length d↔(S d∨oD F xs wd stem f s p d):=by
 unfold qh oD;constructor
 · rintro (h | ⟨j,A,h1,h2⟩)
   · exact .inl h
   · obtain ⟨x,C,hs⟩:=Ex.1<|eb (d:=0) A;exact .inr ⟨_,x,C,hs,h1,h2⟩
 · rintro (h | ⟨n,x,C,hs,h1,h2⟩)
   · exact .inl h
   · obtain ⟨j,A,e⟩:=mR 0<|Ex.2 ⟨x,C,hs⟩;exact .inr ⟨j,A,by rw [e]; exact h1,by rw [e]; exact h2⟩
end
theorem Es (w0 wB:World) (B kb tb:Nat) (U:gJ) (F:aU) (xs:List bC) (ar:Option Addr) (cr:Nat) (rn:List Value) (fm dm:Nat) (O:lk w0 wB B kb tb U F xs ar cr rn fm dm) (aS:eC F xs) (wd stem:Tx) (aO:Nat) (f s pp:Int) (S:bK→Prop) (w:World) (hm:Md (fun k=>k=dm) wB w) (bx:kz w.heap dm S) (bU: -1≤f) (hs: -1≤s) (b6: -1≤pp):
 bm aw 101 (bh [aV kb,str stem,.agg [str wd,ak aO,.int .i64 f,.int .i64 s,.int .i64 pp].toArray]) w (fun v w'=>v= .tuple #[]∧kz w'.heap dm (fun d=>S d∨oD F xs wd stem f s pp d)∧Md (fun k=>k=dm) w w'):=by
 have cj:=aS.xl;have ch:=O.lt;have ci:=hm.size;have cc:(idxs stem xs).length≤xs.length:=by unfold idxs; exact fz (List.length_filter_le _ _)<|by simp
 refine enter func101 aa ntmps101 aa<|ag fun bj=>e<|og aa fun Y au cb al bt=> ?_;have cm:=al.size;have am:Md (fun k=>k=dm) wB au:=hm.trans' al.md fun _ _ h=>h.elim;have bP:au.heap[Y]? =some (.cells [str wd,.int .i64 ((aO:Nat):Int),.int .i64 f,.int .i64 s,.int .i64 pp].toArray 49 (0,0)):=bt;have bF:=bx.md al.md id;refine nl<|bj<|ag fun bk=>p mv<|p (nc aa)<|p (fa KE aa)<|p (ld yQ aa<|(bg<|O.at am).trans aa)<|p (nc aa)<|p (fa KD aa)<|p (ld Hf aa<|(bg (O.FN am).cells).trans aa)<|p mv<|e<|cl Sa (VG B U.wb U.mb U.va U.vs xs au (O.FN am).wd ab stem) aa fun cn co bN=> ?_;obtain ⟨bd,ac⟩:=bN;obtain ⟨aL,aN,rfl⟩:=cJ bd;have bw:=al.md.trans ac;have ck:=ac.size;refine p (bM mr aa aa)<|p mv<|nl<|bk<|aT<|lp (fun aP bi V=> ∃ (i:Nat) (en:Int),(i≤(idxs stem xs).length)∧(Md (fun k=>k=dm) wB V)∧(Md (fun k=>k=dm) w V)∧(kz V.heap dm<|qh F xs wd stem f s pp S<|i)∧(V.heap[Y]? =some (.cells [str wd,.int .i64 en,.int .i64 f,.int .i64 s,.int .i64 pp].toArray 49 (0,0)))∧(bz V au.heap.size 3 1 (.slice aL (idxs stem xs).length aN) (idxs stem xs).length<|(idxs stem xs).map bT)∧(Sl bi [(0,aV kb),(5,aV Y),(18,.slice aL (idxs stem xs).length aN),(19,ak ((idxs stem xs).length)),(20,ak i)])∧((idxs stem xs).length - i=aP)) _ ⟨0,_,ab,(am.trans' ac fun _ _ h=>h.elim),(bw.mono fun _ _ h=>h.elim),((bF.md ac id).congr fun d=>⟨fun h=>h.resolve_right (fun ⟨j,a8,_⟩=>by omega),.inl⟩),(Wk.aT ac bP),bd,aa,aa⟩ ?_;rintro aP bi V ⟨i,en,hi,b0,a9,aY,bS,ap,b7,rfl⟩;refine bG b7<|ag fun bl=>p (lt aa aa)<|nl<|bl<|az fun bo=>cd aa (fun bW=> ?_) fun bW=> ?_;refine aQ<|bo<|az fun av=>aT<|ag fun bp=>p (bc ke aa aa ab<|aM.ok ((ba ap).2)<|cg ab)<|p (ld bD aa<|aM.gY (i:=i) (ba ap).2<|oB ab)<|ay<|bp<|ag fun bq=>p mv<|p (fa qd aa)<|e<|dx gR aa aa (v:= .int .i64 ((((idxs stem xs).getD i 0):Nat):Int)) aa bS (by show 1 < 5; omega) fun I ai bs=> ?_;have a5:I.heap[Y]? =some (.cells [str wd,.int .i64 ((((idxs stem xs).getD i 0):Nat):Int),.int .i64 f,.int .i64 s,.int .i64 pp].toArray 49 (0,0)):=bs;have aC:Md (fun k=>k=dm) wB I:=b0.trans' ai fun q ah h=>by omega
 have b1:Md (fun k=>k=dm) w I:=a9.trans' ai fun q ah h=>by omega
 have bb:¬(dm=Y):=ab;have bE:=aY.md ai bb;have b4:=dw ap ai fun q ah h=>by have :=(dQ ap ah).1; omega
 have b3:=(fL.1 (Ex.1<|eb (d:=0) (show i < (idxs stem xs).length by omega)).choose_spec.1).1;refine nl<|bq<|az fun br=> ?_;have J:(fun w'=>Wk I w') I.drew:=(Md.refl _ _).drew;refine bY (fun w'=>Wk I w') aa wide J<|bO 0 aa (aV kb) J<|aR 1 aa (nc aa) J<|aR 2 aa (fa KE aa) J<|bR 3 aa (fun w' C=>ld yQ aa<|Wk.aW C<|(bg<|O.at aC).trans aa) J<|bR 4 aa (fun w' C=>cW oc aa (aa) fun j a8=>(Wk.B C<|o6 a5).bB j) J<|he 5 aa aj<|cl SL (ZC B tb U F xs wd (((idxs stem xs).getD i 0):Nat) f s pp I.drew (O.FN aC.drew) aS bU hs b6) aa fun v32 G a0=> ?_;rw [xE b3] at a0;obtain ⟨rfl,bv⟩:=a0;have A:(fun w'=>Wk I w') G:=J.trans bv;refine ⟨A,?_⟩;refine aR 6 aa (mv) A<|aR 7 aa (xt aa aa) A<|aR 8 aa (xt aa aa) A<|aR 9 aa (aE) A<|aR 10 aa (aE) A<|hn aj<|br<|az fun aK=> ?_;have an:Md (fun k=>k=dm) wB G:=aC.trans' A fun _ _ h=>h.elim;have aD:Md (fun k=>k=dm) w G:=b1.trans' A fun _ _ h=>h.elim;have ax:=bE.md A id;have ae:=Wk.aT A a5;have aG:=a7 b4 A;refine rg aa<|p mv<|p mv<|gb (t:=36) aa (fun aq=> ?_) fun aq=> ?_;obtain ⟨v,b8⟩:∃ v,gZ F xs ((idxs stem xs).getD i 0) f s pp=some v:=nX.1<|by simpa using aq
 refine aJ aa mv<|aJ aa (fa KR aa)<|aJ aa (ld bX aa<|(bg ae).trans aa)<|aJ aa (et aa aa)<|p (bH aa)<|nl<|aK<|cd aa (fun heq=> ?_) fun heq=> ?_;have b9:gZ F xs ((idxs stem xs).getD i 0) f s pp=some wd:=by rw [b8] at heq ⊢; exact congrArg some heq
 have ce:(eY ⟨wd,((idxs stem xs).getD i 0),f,s,pp⟩)= .agg [str wd,.int .i64 ((((idxs stem xs).getD i 0):Nat):Int),.int .i64 f,.int .i64 s,.int .i64 pp].toArray:=rfl;obtain ⟨fd,aA,bV,a6⟩:=ax;obtain ⟨Z,a4⟩:∃ Z:Int,(fd<|eY ⟨wd,((idxs stem xs).getD i 0),f,s,pp⟩).getD (.int .i64 0)= .int .i64 Z:=by
  cases ah:fd (eY ⟨wd,((idxs stem xs).getD i 0),f,s,pp⟩) with
  | none=>exact ⟨0,rfl⟩
  | some u=>obtain ⟨n,rfl⟩:=a6 _ _ ah; exact ⟨n,rfl⟩
 have E:(fun w'=>Md (fun k=>k=dm) G w'∧yI w'.heap dm (eY ⟨wd,((idxs stem xs).getD i 0),f,s,pp⟩) (.int .i64 0) (.int .i64 Z)) G.drew:=⟨(Md.refl _ _).drew,fd,aA.An,a4⟩
 refine e5 (fun w'=>Md (fun k=>k=dm) G w'∧yI w'.heap dm (eY ⟨wd,((idxs stem xs).getD i 0),f,s,pp⟩) (.int .i64 0) (.int .i64 Z)) 9 aa wide E<|eJ 0 aa (aX (aV kb) aa) E<|eJ 1 aa (nc aa) E<|eJ 2 aa (fa KF aa) E<|lq 3 aa aj (fun w' C=>ld Ha aa<|(bg<|O.at<|an.trans C.1).trans aa) E<|lq 4 aa aj (fun w' C=>cW oc aa (aa) fun j a8=>(Md.B C.1 (o6 ae) fun h=>bb h.symm).bB j) E<|lq 5 aa aj (fun w' C=>Zt FP oO C.2 aa aa ⟨_,aa⟩) E<|eJ 6 aa (bJ _ rfl aa aa) E<|gS 7 aa aj<|ZM FP oO (kx:=eY ⟨wd,((idxs stem xs).getD i 0),f,s,pp⟩) LY aA aa aa ⟨_,aa⟩ fun FF ca aZ a1=> ?_;have a2:(fun w'=>Md (fun k=>k=dm) G w'∧yI w'.heap dm (eY ⟨wd,((idxs stem xs).getD i 0),f,s,pp⟩) (.int .i64 0) (.int .i64 Z)) ca:=⟨E.1.trans aZ,_,a1.ZZ.An,by rw [oI]; exact a4⟩
 refine ⟨a2,?_⟩;refine eJ 8 aa (xt aa aa) a2<|dU 9 aa aj aj<|ZO a1 aa aa aa fun aI bL bu=> ?_;have ao:=(Md.refl (fun k=>k=dm) G).drew.trans<|aZ.trans bL;have bZ:Md (fun k=>k=dm) wB aI:=an.trans ao;have b2:Md (fun k=>k=dm) w aI:=aD.trans ao;have bI:kz aI.heap dm (qh F xs wd stem f s pp S<|i+1):=(kz.put bV a6 bu).congr<|Zq b9;have a3:TF G [1] (fun k=>k=dm):=TF.eq (AW aA.An.choose_spec.1) aB;have bQ:=ao.iT a3 ae aB;have b5:=cQ aG ao a3 aB;exact eZ aj<|bn<|av<|rg aa<|p (ad aa aa<|cB ab)<|p mv<|nl<|tn<|⟨_,ab,i+1,_,ab,bZ,b2,bI,bQ,b5,aa,aa⟩
 have aF:gZ F xs ((idxs stem xs).getD i 0) f s pp≠some wd:=fun h=>heq<|by rw [h]; rfl
 exact aQ<|bn<|av<|rg aa<|p (ad aa aa<|cB ab)<|p mv<|nl<|tn<|⟨_,ab,i+1,_,ab,an,aD,(ax.congr<|Mg aF),ae,aG,aa,aa⟩
 have aF:gZ F xs ((idxs stem xs).getD i 0) f s pp≠some wd:=fun h=>by rw [h] at aq; cases aq
 exact aH aa<|aH aa<|aH aa<|aH aa<|p (bA aa)<|nl<|aK<|cf aa<|aQ<|bn<|av<|rg aa<|p (ad aa aa<|cB ab)<|p mv<|nl<|tn<|⟨_,ab,i+1,_,ab,an,aD,(ax.congr<|Mg aF),ae,aG,aa,aa⟩
 refine ext<|bf<|bf<|be<|f0 aa ?_;obtain rfl :i=(idxs stem xs).length:=ab;exact ⟨aa,aY.congr (fun d=>(Zp d).symm),a9⟩
end Go.Hb
end
