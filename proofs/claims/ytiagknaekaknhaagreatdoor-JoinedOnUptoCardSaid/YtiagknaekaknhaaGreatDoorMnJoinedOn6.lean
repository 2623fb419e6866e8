/-
  Walks and plain laws that the law rests on, laid together. No conditions but those that each theorem names.
-/
import Derived.Test.YtiagknaekaknhaaGreatDoorMnJoinedOn5
set_option linter.unusedVariables false
set_option maxRecDepth 20000
set_option maxHeartbeats 1000000
open Bool renaming and_false→um,noConfusion→cJ
open Classical renaming not_not→rD
open Go renaming Value→ag,World→ah
open Go.Value renaming bool→bp,int→aZ,oneCell'→fu,slice→cG
open Go.World renaming ownsRow→bj,ownsRow_nil→fv
open List renaming append_assoc→gJ,append_nil→jD,flatMap_append→uC,getElem?_append_left→fF,getElem?_append_right→fW,getElem?_eq_getElem→bC,getElem?_map→gu,length→lP,length_append→bG,length_cons→dC,length_eq_zero_iff→Fv,length_nil→ib,length_pos_iff→pY,length_singleton→og,length_take→cO,map_append→gK,mem_filter→mI,mem_of_getElem?→kK,nil_append→p7,take_length→uO,take_of_length_le→jI,toArray→bl
open Nat renaming le_add_right→lR,le_refl→aQ,le_trans→cn,lt_or_ge→dD,zero_le→fw
open UInt8 renaming toNat_inj→oo
open Go.Proofs.Tryz
open Go.Hb.dO Go.Proofs Go.Hb.fI Go.Hb.gO Go.Hb.cH Go.Hb.jJ

namespace Go.Hb
def gv (w:ah) (B:Nat) (A:List (Bool×ag)) (l:List aJ):Prop :=A.length=l.length∧∀ (i:Nat) q e,A[i]? =some q→l[i]? =some e→q.1=e.1∧Tg w B 167 e.2.length q.2 (fh e.2)
theorem gv.nil (w:ah) (B:Nat):gv w B [] []:=⟨rfl,fun i q r A=>by simp at A⟩
theorem gv.md {F:Nat→Prop} {w w':ah} {B:Nat} {C:List (Bool×ag)} {l:List aJ} (h:gv w B C l) (hm:Md F w w') (E:∀ k,F k→B≤k→∀ cur z,w.heap[k]?≠some (.cells cur 167 z)):gv w' B C l:=
 ⟨h.1,fun i q r h1 A=>⟨(h.2 i q r h1 A).1,Tg.lk (h.2 i q r h1 A).2 hm E⟩⟩
theorem gv.wk {w w':ah} {B:Nat} {A:List (Bool×ag)} {l:List aJ} (h:gv w B A l) (hm:Wk w w'):gv w' B A l:=h.md hm fun _ C=>C.elim
theorem gv.snoc {w:ah} {B:Nat} {C:List (Bool×ag)} {l:List aJ} {v:ag} {e:aJ} (ha:gv w B C l) (I:Tg w B 167 e.2.length v (fh e.2)):gv w B (C++ [(e.1,v)]) (l++ [e]):=by
 refine ⟨by rw [bG,bG,ha.1]; rfl,fun i q' r' h1 A=> ?_⟩;have E:=ha.1;by_cases hi:i < C.length
 · rw [fF hi] at h1;rw [fF ab] at A;exact ha.2 i q' r' h1 A
 · rw [fW ab] at h1;rw [fW ab,← E] at A;cases hj:i - C.length with
   | zero=>rw [hj] at h1 A; cases h1; cases A; exact ⟨rfl,I⟩
   | succ j=>rw [hj] at h1; simp at h1
def ff (w:ah) (B:Nat) (v:ag) (l:List aJ):Prop := ∃ A,Tg w B 143 l.length v (fD A)∧gv w B A l
theorem ff.md {F:Nat→Prop} {w w':ah} {B:Nat} {v:ag} {l:List aJ} (h:ff w B v l) (hm:Md F w w') (C:∀ k,F k→B≤k→∀ cur z,w.heap[k]?≠some (.cells cur 143 z)∧w.heap[k]?≠some (.cells cur 167 z)):ff w' B v l:=by
 obtain ⟨I,h1,E⟩:=h;exact ⟨I,Tg.lk h1 hm fun k A hb cur z=>(C k A hb cur z).1,E.md hm fun k A hb cur z=>(C k A hb cur z).2⟩
theorem ff.wk {w w':ah} {B:Nat} {v:ag} {l:List aJ} (h:ff w B v l) (hm:Wk w w'):ff w' B v l:=h.md hm fun _ A=>A.elim
theorem ff.mono {w:ah} {B B':Nat} {v:ag} {l:List aJ} (h:ff w B v l) (C:B'≤B):ff w B' v l:=by
 obtain ⟨J,h1,I,A⟩:=h;exact ⟨J,h1.mono C,I,fun i q e E he=>⟨(A i q e E he).1,(A i q e E he).2.mono C⟩⟩
theorem ff.eK {w:ah} {B:Nat} {v:ag} {l:List aJ} (h:ff w B v l):∃ aa cc,v= .slice aa l.length cc∧l.length≤cc∧ej w.heap aa l:=by
 obtain ⟨O,h1,aj,ad⟩:=h;obtain ⟨aa,cc,rfl⟩:=h1.slice;obtain ⟨ae,I⟩:=h1.qq;refine ⟨aa,cc,U,ae,fun h0=>a9.ok I (oM (f:=fun q:Bool×ag=> [bp q.1,q.2]) (m:=2) (fun _=>rfl) aF ab),fun i hi=> ?_⟩;have L:O[i]? =some (O[i]'ab):=bC ab;have ai:l[i]? =some (aA l i):=by
  unfold aA;rw [List.getD_eq_getElem?_getD,bC hi]; rfl
 obtain ⟨ac,C⟩:=ad i _ _ L ai;obtain ⟨V,Z,M⟩:=C.slice;have E:=C;rw [M] at E;obtain ⟨_,A⟩:=E.qq;have J:=l8 (f:=fun q:Bool×ag=> [bp q.1,q.2]) (m:=2) (fun _=>rfl) I L;refine ⟨V,Z,by rw [J 0 ab,ac]; rfl,by rw [J 1 ab,M]; rfl,fun h0=>a9.ok A (oM (f:=fun e:UInt8×Int=> [aZ .u8 e.1.toNat,.int .i64 e.2]) (m:=2) (fun _=>rfl) aF h0),fun k e he=> ?_,fun k e he=> ?_⟩
 · exact l8 (f:=fun e:UInt8×Int=> [aZ .u8 e.1.toNat,.int .i64 e.2]) (m:=2) (fun _=>rfl) A he 0 ab
 · exact l8 (f:=fun e:UInt8×Int=> [aZ .u8 e.1.toNat,.int .i64 e.2]) (m:=2) (fun _=>rfl) A he 1 ab
set_option maxHeartbeats 2000000 in
theorem Gq (rb:Nat) (s:List UInt8) (a:Nat) (w:ah) (bF:az w.heap rb [str s,aB a,aB 0]) (bz:s.length≤1048576) (ha:a≤s.length):
 bg prog 36 (bl [aT rb]) w (fun v w'=> ∃ A q:Nat,az w'.heap rb [str s,aB A,aB q]∧A≤s.length∧((q=0∧∃ l,cK s a= .ok (l,A)∧ff w' w.heap.size v l)∨(q≠0∧(∃ I,cK s a= .error I)∧∃ aa m c,v= .slice aa m c))∧Md (fun k=>k=rb) w w'):=by
 have dT:=bF.lt;refine enter func36 U ntmps36 U<|aU 7 U<|p mv<|e<|aX (oV rb s a 0 w bF bz<|ha) U ?_;rintro ea ej ⟨n,aC,b9,rfl,aV,b4,dS,b8,a7⟩;refine aK 3 U ?_;refine eJ (fun ca bB=> ∃ (a1:Nat),(az bB.heap rb [str s,aB aC,aB a1])∧((a1=0∧bc s a= .ok (n,aC)∧¬(n=0∨1048576 < n))∨(a1≠0∧∃ I,cK s a= .error I))∧(Md (fun k=>k=rb) w bB)∧(Sl ca [(0,aT rb),(3,.int .u64 (n:Nat))])) ?_ ?_;refine aU 2 U<|p mv<|aj 2 U<|p (aw U<|aV.aN 2)<|aj 2 U<|gs (t:=15) U (fun b1=> ?_) fun b1=> ?_;have M:=(b8.resolve_right fun h=>h.1 ab).2.2;refine aj 3 U<|gs (t:=18) U (fun c4=> ?_) fun c4=> ?_;refine aj 3 U<|p (nq U)<|aj 4 U<|p mv<|aj 2 U<|e<|st cX U U (U) (aV) (by simp) fun dC bu bm=> ?_
 skip
 exact ay 1 U<|tn<|⟨190,bm,(.inr ⟨aF,_,tL M<|.inl ab⟩),(a7.trans bu),U⟩
 refine aK 6 U<|cd U (fun c1=> ?_) fun c1=> ?_;refine aI 1 U<|p mv<|aj 2 U<|e<|st cX U U (U) (aV) (by simp) fun dC bu bm=> ?_
 skip
 exact ay 1 U<|tn<|⟨190,bm,(.inr ⟨aF,_,tL M<|.inr ab⟩),(a7.trans bu),U⟩
 exact aG 1 U<|tn<|⟨b9,aV,(.inl ⟨ab,M,ab⟩),a7,U⟩
 have bY:=b8.resolve_left fun h=>b1<|by rw [h.2.1]; rfl
 exact ay 11 U<|tn<|⟨b9,aV,(.inr ⟨bY.1,bY.2.2.elim (fun h=>absurd U h) fun ⟨ar,h⟩=>⟨ar,C5 h⟩⟩),a7,U⟩
 rintro ca bB ⟨a1,cF,cp,cV,dj⟩;refine bJ dj<|bS 5 U ?_;refine eJ (fun cb aD=> ∃ (l:List aJ) (C:List (Bool×ag)) (al:ag) (A q:Nat),((q=0∧cq (fE s n) n aC= .ok (l,A)∧bc s a= .ok (n,aC)∧¬(n=0∨1048576 < n))∨(q≠0∧∃ I,cK s a= .error I))∧(A≤s.length)∧(bj aD w.heap.size 143 2 al C.length<|fD C)∧(gv aD w.heap.size C l)∧(az aD.heap rb [str s,aB A,aB q])∧(Md (fun k=>k=rb) w aD)∧(Sl cb [(0,aT rb),(4,al)])) ?_ ?_;refine bX 1 U<|lp (fun aS cf ao=> ∃ (k:Nat) (l:List aJ) (C:List (Bool×ag)) (al:ag) (A q:Nat),(C.length=k)∧(k≤1048577)∧((q=0∧k≤n∧bc s a= .ok (n,aC)∧¬(n=0∨1048576 < n)∧cq (fE s n) k aC= .ok (l,A))∨(q≠0∧∃ I,cK s a= .error I))∧(A≤s.length)∧(bj ao w.heap.size 143 2 al C.length<|fD C)∧(gv ao w.heap.size C l)∧(az ao.heap rb [str s,aB A,aB q])∧(Md (fun k=>k=rb) w ao)∧(Sl cf [(0,aT rb),(3,.int .u64 (n:Nat)),(4,al)])∧(n - k=aS)) _ ⟨0,[],[],.slice none 0 0,aC,a1,U,ab,(cp.imp (fun h=>⟨h.1,ab,h.2.1,h.2.2,U⟩) id),b4,(fv _ _ _ _),(gv.nil _ _),cF,cV,U,U⟩ ?_;rintro aS cf ao ⟨k,l,C,al,A,q,c8,dO,bq,aA,ai,bo,ac,au,dm,rfl⟩;refine bJ dm ?_;obtain ⟨aE,co,rfl⟩:=di ai;refine aU 5 U<|p (fL pG ub U<|gG ab)<|aj 3 U<|gs (t:=31) U (fun c5=> ?_) fun c5=> ?_;refine aj 3 U<|bO U (aw U<|ac.aN 2)<|aK 4 U<|cd U (fun bZ=> ?_) fun bZ=> ?_;obtain ⟨de,dP,M,av,Z⟩:=bq.resolve_right fun h=>h.1 ab;obtain rfl :q=0:=de;refine aI 6 U<|e<|aX (oV rb s A 0 ao ac bz<|aA) U ?_;rintro d6 ec ⟨v0,p1,dx,rfl,bH,dc,dR,b7,bQ⟩;refine aK 3 U ?_;refine eJ (fun cg bf=> ∃ (a2:Nat),(az bf.heap rb [str s,aB p1,aB a2])∧((a2=0∧bc s A= .ok (v0,p1)∧¬256 < v0 / 2)∨(a2≠0∧∃ I,cK s a= .error I))∧(Md (fun k=>k=rb) ao bf)∧(Sl cg [(0,aT rb),(3,.int .u64 (n:Nat)),(4,.slice aE C.length co),(5,.int .u64 (v0:Nat))])) ?_ ?_;refine aU 3 U<|p (qu U U ab<|gG ab)<|aK 3 U<|cd U (fun c2=> ?_) fun c2=> ?_;have a8:=(b7.resolve_right fun h=>by have :=h.2.1; omega).2.2;refine aI 4 U<|e<|st cX U U (U) (bH) (by simp) fun em cU cD=> ?_
 skip
 exact ay 1 U<|tn<|⟨190,cD,(.inr ⟨aF,_,po M av<|iy Z (DB a8 ab) ab⟩),(bQ.trans cU),U⟩
 exact aG 1 U<|tn<|⟨dx,bH,(b7.elim (fun h=> .inl ⟨h.2.1,h.2.2,ab⟩) fun h=> .inr ⟨h.1,h.2.2.elim (fun h=>absurd U h) fun ⟨ar,aH⟩=>⟨ar,po M av<|iy Z (DA aH) ab⟩⟩),bQ,U⟩
 rintro cg bf ⟨a2,cI,cr,bv,dn⟩;refine bJ dn<|bS 1 U<|aI 2 U<|p (rm U U ab)<|aj 1 U<|p (eG (ps:= [(0,bp (decide ((v0:Int) % 2=1)))]) (L:= [bp (decide ((v0:Int) % 2=1)),.slice none 0 0]) LX U<|U)<|e<|du Eo fun V ed dF bV ct=> ?_;have dU:=bV.size;refine e<|eb z8 U U U U ct (by simp) fun am bU cM=> ?_;have cO:az am.heap V [bp (decide ((v0:Int) % 2=1)),.slice none 0 0]:=⟨_,cM⟩
 have a4:Wk bf am:=bV.md.trans' bU fun k E h=>by omega
 have cH:=Wk.B a4 cI;have d1:=au.size;have dZ:=bv.size;have d4:=a4.size;have d5:=bU.size;have cR:Md (fun k=>k=rb) w am:=(au.trans bv).trans<|a4.mono fun _ _ h=>h.elim;refine aK 2 U ?_;refine eJ (fun ch aq=> ∃ (es:List (UInt8×Int)) (O:Option Addr) (ce:Nat) (p2 J:Nat),((J=0∧cq (eo s n) (v0 / 2) p1= .ok (es,p2)∧bc s A= .ok (v0,p1)∧¬256 < v0 / 2)∨(J≠0∧∃ I,cK s a= .error I))∧(p2≤s.length)∧(bj aq am.heap.size 167 2 (.slice O es.length ce) es.length<|fh es)∧(az aq.heap rb [str s,aB p2,aB J])∧(az aq.heap V [.bool (decide ((v0:Int) % 2=1)),.slice O es.length ce])∧(Md (fun k=>k=rb∨k=V) am aq)∧(Sl ch [(0,aT rb),(3,.int .u64 (n:Nat)),(4,.slice aE C.length co),(6,aT V)])) ?_ ?_;refine bX 1 U<|lp (fun aS ci aQ=> ∃ (j:Nat) (es:List (UInt8×Int)) (bA:ag) (p2 J:Nat),(es.length=j)∧(j≤257)∧((J=0∧j≤v0 / 2∧cq (eo s n) j p1= .ok (es,p2)∧bc s A= .ok (v0,p1)∧¬256 < v0 / 2)∨(J≠0∧∃ I,cK s a= .error I))∧(p2≤s.length)∧(bj aQ am.heap.size 167 2 bA es.length<|fh es)∧(az aQ.heap rb [str s,aB p2,aB J])∧(az aQ.heap V [.bool (decide ((v0:Int) % 2=1)),bA])∧(Md (fun k=>k=rb∨k=V) am aQ)∧(Sl ci [(0,aT rb),(3,.int .u64 (n:Nat)),(4,.slice aE C.length co),(5,.int .u64 (v0:Nat)),(6,aT V)])∧(v0 / 2 - j=aS)) _ ⟨0,[],.slice none 0 0,p1,a2,U,ab,(cr.imp (fun h=>⟨h.1,ab,U,h.2.1,h.2.2⟩) id),dc,(fv _ _ _ _),cH,cO,(Md.refl _ _),U,U⟩ ?_;rintro aS ci aQ ⟨j,es,bA,p2,J,c7,dN,br,a0,ak,aL,aM,ad,dq,rfl⟩;refine bJ dq ?_;obtain ⟨O,ce,rfl⟩:=di ak;have d3:=ad.size;refine aU 4 U<|p (aw U<|aM.aN 1)<|aj 1 U<|p (fL pG ub U<|gG ab)<|aj 1 U<|p (qu U U ab<|gG ab)<|aj 2 U<|gs (t:=57) U (fun c6=> ?_) fun c6=> ?_;refine aj 3 U<|bO U (aw U<|aL.aN 2)<|aK 4 U<|cd U (fun b0=> ?_) fun b0=> ?_;obtain ⟨dh,dM,b2,a8,b5⟩:=br.resolve_right fun h=>h.1 ab;obtain rfl :J=0:=dh;refine aI 7 U<|e<|aX (H0 rb s p2 n aQ aL bz a0 ab) U ?_;rintro d7 dA ⟨c,t,p3,dy,rfl,cu,dd,dt,a5⟩;have dV:=a5.size;have bI:=a5.B aM fun h=>by omega
 refine e<|du Ep fun bE ee dG bW cv=> ?_;have dW:=bW.size;refine e<|eb sr U U U U cv (by simp) fun bC cW cJ=> ?_;have cC:az bC.heap bE [aZ .u8 c.toNat,.int .i64 t]:=⟨_,cJ⟩
 have aP:Wk dA bC:=bW.md.trans' cW fun k E h=>by omega
 have d0:=aP.size;refine aj 4 U<|p (aw U<|(Wk.B aP bI).aN 1)<|p (eU r8 U (U) (show ∀ j,j < 2→ax bC.heap bE (0 +j)=([aZ .u8 c.toNat,.int .i64 t]:List ag)[j]? from fun j _=>cC.aN j))<|e<|oC Dv U U U fun dD ef dH aY cw=> ?_;have dX:=aY.size;have db:=bh (bh (bR ak a5 fun k E h=>by have :=cE ak E; omega) aP) aY.md;refine e<|ap Dv (db) U ab U (a9.fQ cw) (U) (U) ab ab fun d8 eg b3 a6 dv c3=> ?_;have dv:=a6.size;have bb:∀ k,(cG O es.length ce).ownBlock=some k→am.heap.size≤k:=fun k h=>(cE ak h).1;have cP:=a6.B (Wk.B aY.md<|Wk.B aP bI) fun h=>by have :=bb V h; omega
 have cx:=a6.B (Wk.B aY.md<|Wk.B aP cu) fun h=>by have :=bb rb h; omega
 obtain ⟨cj,ck,rfl⟩:=di b3;refine aj 1 U<|e<|st Hy U U (U) (cP) (by simp) fun ek bt cs=> ?_;have cL:=bt.B cx fun h=>by omega
 exact ay 2 U<|tn<|⟨_,ab,j+1,es++ [(c,t)],.slice cj (es.length+1) ck,p3,dy,(by rw [bG,c7]; rfl),ab,(dt.imp (fun h=>⟨h.1,ab,ma b2 h.2,a8,b5⟩) fun h=>⟨h.1,h.2.elim fun ar aH=>⟨ar,po M av<|iy Z (DC a8 b5<|iy b2 aH ab) ab⟩⟩),dd,(by rw [bG,AI]; exact bR b3 bt fun k E h=>by rcases c3 k E with aH | aH; exact absurd (bb k aH) ab; omega),cL,cs,(((((ad.trans<|a5.mono fun _ _ h=> .inl h).trans<|aP.mono fun _ _ h=>h.elim).trans<|aY.md.mono fun _ _ h=>h.elim).trans' a6 fun k E h=>by have :=bb k h; omega).trans<|bt.mono fun _ _ h=> .inr h),U,U⟩
 exact aG 2 U<|cy<|ba 1 U<|tn<|⟨es,O,ce,p2,J,(br.elim (fun h=>absurd h.1 fun ar=>b0 ab) .inr),a0,ak,aL,aM,ad,U⟩
 exact ay 11 U<|cy<|ba 1 U<|tn<|⟨es,O,ce,p2,J,(br.elim (fun h=> .inl ⟨h.1,(by have cm:=h.2.1; have bi:j=v0 / 2:=ab; subst bi; exact h.2.2.1),h.2.2.2.1,h.2.2.2.2⟩) .inr),a0,ak,aL,aM,ad,U⟩
 rintro ch aq ⟨es,O,ce,p2,J,cT,a0,ak,aL,aM,ad,dp⟩;refine bJ dp ?_;have d2:=ad.size;have bK:Md (fun k=>k=rb∨k=V) ao aq:=((bv.mono fun k _ h=> .inl h).trans<|a4.mono fun _ _ h=>h.elim).trans ad;have cS:Md (fun k=>k=rb) w aq:=cR.trans' ad fun k E h=>by rcases h with h | h; exact h; omega
 have bx:=bR ai bK fun k E h=>by have :=cE ai E; omega
 have ds:=bo.md bK (fun k E hb=>by
  rcases E with E | E;omega;exact fun cur z=>Cm ab cur _ z)
 refine aI 2 U<|p (eU zx U (U) (show ∀ j,j < 2→ax aq.heap V (0 +j)=([.bool (decide ((v0:Int) % 2=1)),.slice O es.length ce]:List ag)[j]? from fun j _=>aM.aN j))<|e<|oC Dx U U U fun dE eh dJ ae cz=> ?_;have dY:=ae.size;refine e<|ap Dx (bh bx ae.md) U ab U (a9.fQ cz) (U) (U) ab ab fun dz dB da aW dw dL=> ?_;have dw:=aW.size;have b6:∀ k,(cG aE C.length co).ownBlock=some k→w.heap.size≤k:=fun k h=>(cE ai h).1;have cB:=aW.B (Wk.B ae.md aL) fun h=>by have :=b6 rb h; omega
 have cZ:Tg dB w.heap.size 167 es.length (.slice O es.length ce) (fh es):=Tg.lk (((Tg.oX ak).mono ab).wk ae.md) aW fun k E _=>gV (bh bx ae.md) aF k E;have dr:=(ds.wk ae.md).md aW fun k E _=>gV (bh bx ae.md) aF k E;have cQ:=(cS.trans<|ae.md.mono fun _ _ h=>h.elim).trans' aW fun k E h=>by have :=b6 k h; omega
 exact p aR<|ay 2 U<|tn<|⟨_,ab,k+1,l++ [(decide (v0 % 2=1),es)],C++ [(decide ((v0:Int) % 2=1),.slice O es.length ce)],dz,p2,J,(by rw [bG,c8]; rfl),ab,(cT.imp (fun h=>⟨h.1,ab,M,av,ma Z<|DD h.2.2.1 h.2.2.2 h.2.1⟩) id),a0,(by rw [bG,Dk]; exact da),(by rw [show decide ((v0:Int) % 2=1)=decide (v0 % 2=1) from decide_eq_decide.2 ab] at*; exact gv.snoc (e:=(decide (v0 % 2=1),es)) dr cZ),cB,cQ,U,U⟩
 exact aG 2 U<|cy<|ba 1 U<|tn<|⟨l,C,.slice aE C.length co,A,q,(bq.elim (fun h=>absurd h.1 fun ar=>bZ ab) .inr),aA,ai,bo,ac,au,U⟩
 exact ay 11 U<|cy<|ba 1 U<|tn<|⟨l,C,.slice aE C.length co,A,q,(bq.elim (fun h=> .inl ⟨h.1,(by have cm:=h.2.1; have bi:k=n:=ab; subst bi; exact h.2.2.2.2),h.2.2.1,h.2.2.2.1⟩) .inr),aA,ai,bo,ac,au,U⟩
 rintro cb aD ⟨l,C,al,A,q,bL,aA,ai,bo,ac,au,dl⟩;refine bJ dl<|aI 6 U<|p (aw U<|ac.aN 2)<|aK 3 U<|cd U (fun bw=> ?_) fun bw=> ?_;obtain ⟨dg,c0⟩:=bL.resolve_left fun h=>bw<|by rw [h.1]; rfl
 exact aG 7 U<|aO U<|⟨A,q,ac,aA,.inr ⟨dg,c0,none,0,0,U⟩,au⟩
 obtain ⟨_,Z,M,av⟩:=bL.resolve_right fun h=>bw ab;refine bS 3 U ?_;have bM:ff aD w.heap.size al l:=⟨C,by have h:=Tg.oX ai; rw [bo.1] at h; exact h,bo⟩
 obtain ⟨aa,cc,rfl,dK,cY⟩:=bM.eK;have dQ:=iQ Z;have c9:∀ x∈l,x.2.length≤256:=fun x bd=>(nf (R:=fun A=>A≤s.length) (S:=fun x:aJ=>x.2.length≤256) (fun A x q' hr bd=>⟨(rl bd).2.1,(rl bd).2.2.1⟩) b4 Z).2 x bd;refine aI 3 U<|e<|aX (LF l aa cc aD cY ab fun i hi=>cn (c9 _<|j1 (d:=dI) hi) aF) U ?_;rintro d9 ei ⟨rfl,bn⟩;refine aj 2 U<|e<|st cX U U (U) (Wk.B bn ac) (by simp) fun el bP a3=> ?_
 skip
 refine ay 9 U<|aO U ?_;have bN:=(au.trans<|bn.mono fun _ _ h=>h.elim).trans bP;cases hsh:shaped l with
 | true =>
   rw [ri hsh] at a3;exact ⟨A,0,a3,aA,.inl ⟨U,l,C7 M av Z hsh,(bM.wk bn).md bP fun k E hb=>absurd hb ab⟩,bN⟩
 | false =>
   rw [kd hsh] at a3;exact ⟨A,190,a3,aA,.inr ⟨aF,⟨_,C6 M av Z hsh⟩,_,_,_,U⟩,bN⟩
theorem Lw {r:List UInt8×List UInt8} (h1:(!gh r.1)=false) (E:(!gh r.2)=false) (I:¬(r.1.length:Int)=0) (J:¬(r.1.length:Int) > 32) (L:¬(r.2.length:Int) > 32):gX r=true :=by
 have A:gh r.1=true :=by simpa using h1
 have C:gh r.2=true :=by simpa using E
 exact Dh (fun h=>I<|by rw [h]; rfl) (by rw [A,decide_eq_true ab]; rfl)<|by rw [C,decide_eq_true ab]; rfl
theorem Lf (ls:Nat) (t:List UInt8) (rs:List (List UInt8×List UInt8)) (V:Option Addr) (rc:Nat) (ap v4 aq v6:ag) (w:ah) (aC:a9 w.heap V (rs.flatMap eu)) (bm:ls≤64) (bq:t.length≤1048576) (bn:rs.length≤1048576) (a6:∀ r∈rs,r.1.length≤1048576∧r.2.length≤1048576):
 bg prog 35 (bl [.agg #[aB ls,str t,.slice V rs.length rc,ap,v4,aq,v6]]) w (fun v w'=>v= .bool (ew ls t rs)∧Wk w w'):=by
 refine enter func35 U ntmps35 U<|aU 2 U<|e<|mS U fun I bd bh O C=>aj 7 U<|p (aw U<|C.aN 0)<|aj 2 U<|gs (t:=12) U (fun a4=> ?_) fun a4=> ?_;exact aj 4 U<|p mv<|ay 15 U<|aO U<|⟨(congrArg bp<|pv (t:=t) (rs:=rs)<|.inl (show ls < 1 by omega)).symm,O.md⟩
 refine aj 1 U<|bO U (aw U<|C.aN 0)<|aj 3 U<|gs (t:=17) U (fun a5=> ?_) fun a5=> ?_;exact ay 15 U<|aO U<|⟨(congrArg bp<|pv (t:=t) (rs:=rs)<|.inr<|.inl (show 64 < ls by omega)).symm,O.md⟩
 refine aj 1 U<|bO U (aw U<|C.aN 2)<|aK 5 U<|cd U (fun a2=> ?_) fun a2=> ?_;exact aG 7 U<|aO U<|⟨(congrArg bp<|pv<|.inr<|.inr (show 256 < rs.length by omega)).symm,O.md⟩
 refine aI 5 U<|p (aw U<|C.aN 1)<|e<|aX (K0 t bd ab) U ?_;rintro br bv ⟨rfl,aD⟩;have M:=O.md.trans aD;have J:=Wk.B aD C;refine p mv<|aK 6 U ?_;refine eJ (fun aQ au=> ∃ (bc:Unit),(t= []∨letE t=(t,0))∧(Wk w au)∧(az au.heap I [aB ls,str t,.slice V rs.length rc,ap,v4,aq,v6])∧(Sl aQ [(1,aT I)])) ?_ ?_;refine aU 3 U<|p (aw U<|J.aN 1)<|aj 3 U<|gs (t:=33) U (fun E=> ?_) fun E=> ?_;refine aj 3 U<|gs (t:=36) U (fun al=> ?_) fun al=> ?_;exact aj 5 U<|p (nq U)<|ay 9 U<|tr<|aO U<|⟨(congrArg bp<|tN (fun h=>by rw [h] at E; exact absurd E aF) fun h=>by rw [h] at al; exact al U).symm,M⟩
 refine aj 2 U<|bO U (aw U<|J.aN 1)<|aK 5 U<|cd U (fun ak=> ?_) fun ak=> ?_;exact aG 6 U<|tr<|aO U<|⟨(congrArg bp<|tN (fun h=>by rw [h] at E; exact absurd E aF) fun h=>ak<|by rw [h]).symm,M⟩
 exact aG 1 U<|tn<|⟨(),(.inr<|Prod.ext (rD.1 ak)<|by show (letE t).2=0; omega),M,J,U⟩
 exact ay 13 U<|tn<|⟨(),(.inl<|Fv.1 ab),M,J,U⟩
 rintro aQ au ⟨bc,bb,aZ,aY,a7⟩;refine bJ a7<|bS 7 U<|lp (fun av aR Z=> ∃ (i:Nat),(i≤rs.length)∧(∀ j,j < i→gX (rs.getD j il)=true)∧(Wk w Z)∧(az Z.heap I [aB ls,str t,.slice V rs.length rc,ap,v4,aq,v6])∧(Sl aR [(1,aT I),(5,aB i)])∧(rs.length - i=av)) _ ⟨0,ab,(fun j aM=>by omega),aZ,aY,U,U⟩ ?_;rintro av aR Z ⟨i,hi,aP,L,ad,a8,rfl⟩;refine bJ a8<|aU 5 U<|p (aw U<|ad.aN 2)<|aK 4 U<|cd U (fun a3=> ?_) fun a3=> ?_;refine aI 7 U<|p (aw U<|ad.aN 2)<|aj 1 U<|p (bE Ii U U ab<|a9.ok (aC.wk L)<|CY ab)<|p (eU F9 U (U)<|CX (aC.wk L) ab)<|e<|du NL fun aS bw bi a1 aV=>e<|eb Hx U U U U aV (by simp) fun ar a0 aW=> ?_;have aA:az ar.heap aS [str (rs.getD i il).1,str (rs.getD i il).2]:=⟨_,aW⟩
 have aE:Wk Z ar:=Md.trans' a1.md a0 fun k bj h=>by omega
 have bo:=a6 _<|j1 (d:=il) (show i < rs.length by omega);refine aj 5 U<|p (aw U<|aA.aN 0)<|e<|aX (xL _ ar ab) U ?_;rintro bt bf ⟨rfl,ae⟩;have ax:=Wk.B ae aA;refine aj 6 U<|p (aw U<|ax.aN 1)<|e<|aX (xL _ bf ab) U ?_;rintro bu bx ⟨rfl,ai⟩;have ac:=Wk.B ai ax;have A:=((L.trans aE).trans ae).trans ai;refine aj 8 U<|gb (t:=63) U (fun am=> ?_) fun am=> ?_;exact aj 3 U<|p mv<|aj 5 U<|p mv<|aj 5 U<|p mv<|ay 16 U<|tr<|ba 2 U<|aO U<|⟨(congrArg bp<|mu (show i < rs.length by omega)<|x9<|by rw [nT am]; rfl).symm,A⟩
 refine aj 4 U<|gb (t:=67) U (fun ao=> ?_) fun ao=> ?_;exact aj 5 U<|p mv<|aj 5 U<|p mv<|ay 16 U<|tr<|ba 2 U<|aO U<|⟨(congrArg bp<|mu (show i < rs.length by omega)<|ya<|by rw [nT ao]; rfl).symm,A⟩
 refine aj 1 U<|bO U (aw U<|ac.aN 0)<|aj 4 U<|gs (t:=73) U (fun aJ=> ?_) fun aJ=> ?_;exact aj 5 U<|p mv<|ay 16 U<|tr<|ba 2 U<|aO U<|⟨(congrArg bp<|mu (show i < rs.length by omega)<|Dg<|Fv.1 ab).symm,A⟩
 refine aj 1 U<|bO U (aw U<|ac.aN 0)<|aj 4 U<|gs (t:=79) U (fun aL=> ?_) fun aL=> ?_;exact ay 16 U<|tr<|ba 2 U<|aO U<|⟨(congrArg bp<|mu (show i < rs.length by omega)<|x9<|by rw [decide_eq_false ab,um]).symm,A⟩
 refine aj 1 U<|bO U (aw U<|ac.aN 1)<|aK 5 U<|cd U (fun aH=> ?_) fun aH=> ?_;exact aG 8 U<|tr<|ba 2 U<|aO U<|⟨(congrArg bp<|mu (show i < rs.length by omega)<|ya<|by rw [decide_eq_false ab,um]).symm,A⟩
 exact aI 5 U<|p (cg<|i+1)<|ay 2 U<|tn<|⟨_,ab,i+1,ab,(fun j aM=>by rcases dD j i with h | h <;> first | exact aP j h | (rw [show j=i by omega]; exact Lw am ao aJ aL aH)),A,(Wk.B ((aE.trans ae).trans ai) ad),U,U⟩
 exact aG 2 U<|cy<|ba 8 U<|aO U<|⟨(congrArg bp<|De ab bb fun j aM=>aP j ab).symm,L⟩
end Go.Hb
namespace Go.Hb.zu
def ot (w:ah) (B:Nat) (cs:List ag) (b:dm):Prop := ∃ A rc vs,cs= [.int .i64 (b.least:Nat),str b.tr,.slice A b.db.length rc]++vs∧vs.length=4∧a9 w.heap A (b.db.flatMap eu)∧∀ i,i < 4→ff w B (vs.getD i .nilFunc) (b.au.getD i [])
theorem ot.one {w:ah} {B:Nat} {cs:List ag} {b:dm} (h:ot w B cs b):cs.length=7∧cs.all fu=true :=by
 obtain ⟨ad,rc,vs,rfl,Z,_,ac⟩:=h;obtain ⟨C,E,I,J,rfl⟩:∃ C E I J,vs= [C,E,I,J]:=by
  match vs,Z with
  | [C,E,I,J],_=>exact ⟨_,_,_,_,rfl⟩
 have A:∀ i,i < 4→([C,E,I,J].getD i .nilFunc).oneCell'=true :=fun i hi=>by
  obtain ⟨_,_,e,_⟩:=(ac i hi).eK;rw [e]; rfl
 have L:=A 0 ab;have M:=A 1 ab;have O:=A 2 ab;have V:=A 3 ab;simp only [List.getD_cons_zero,List.getD_cons_succ] at L M O V;exact ⟨U,by simp only [List.cons_append,p7,List.all_cons,List.all_nil,L,M,O,V]; rfl⟩
def r5 (s:List UInt8) (w:ah) (v:ag) (w':ah):Prop :=((∃ b cs,bI s= .ok b∧v= .tuple #[.agg cs.toArray,.int .i64 0]∧ot w' w.heap.size cs b)∨((∃ A,bI s= .error A)∧∃ q:Nat,q≠0∧v= .tuple #[.agg [aZ .i64 0,str [],.slice none 0 0,.slice none 0 0,.slice none 0 0,.slice none 0 0,.slice none 0 0].toArray,.int .i64 (q:Nat)]))∧Wk w w'
theorem HI {s:List UInt8} {n p1 L p2 M m p3 O:Nat} {t:List UInt8} (hm:s.take 4=eW) (h1:((0:Nat)=0∧L=0∧bc s 4= .ok (n,p1))∨(L≠0∧n=0∧((0:Nat)≠0∨∃ e,bc s 4= .error e)))
 (A:(L=0∧M=0∧cR s p1= .ok (t,p2))∨(M≠0∧(L≠0∨∃ e,cR s p1= .error e))) (C:(M=0∧O=0∧bc s p2= .ok (m,p3))∨(O≠0∧m=0∧(M≠0∨∃ e,bc s p2= .error e))):(O=0∧bc s 4= .ok (n,p1)∧cR s p1= .ok (t,p2)∧bc s p2= .ok (m,p3))∨(O≠0∧∃ I,bI s= .error I):=by
 rcases h1 with ⟨_,U,h1⟩ | ⟨U,_,h1⟩
 · rcases A with ⟨_,J,A⟩ | ⟨J,A⟩
   · rcases C with ⟨_,E,C⟩ | ⟨E,_,C⟩
     · exact .inl ⟨E,h1,A,C⟩
     · exact .inr ⟨E,C.elim (fun h=>absurd J h) fun ⟨e,h⟩=>⟨e,Ap hm h1 A h⟩⟩
   · have hb:∃ I,bI s= .error I:=A.elim (fun h=>absurd U h) fun ⟨e,h⟩=>⟨e,Ao hm h1 h⟩
     rcases C with ⟨h,_⟩ | ⟨E,_⟩
     · exact absurd h J
     · exact .inr ⟨E,hb⟩
 · have hb:∃ I,bI s= .error I:=h1.elim (fun h=>absurd rfl h) fun ⟨e,h⟩=>⟨e,An hm h⟩
   rcases A with ⟨h,_⟩ | ⟨J,_⟩
   · exact absurd h U
   · rcases C with ⟨h,_⟩ | ⟨E,_⟩
     · exact absurd h J
     · exact .inr ⟨E,hb⟩
def rf (s:List UInt8) (k a:Nat):List (List aJ):=match cq (cK s) k a with
 | .ok x=>x.1
 | .error _=> []
theorem Lr {s:List UInt8} {w ai w':ah} {B A C V ae f9 J rb L O:Nat} {t:List UInt8} {rs:List (List UInt8×List UInt8)} {ls:List (List aJ)} {vs:List ag} {aa:Option Addr} {cc:Nat} (M:cq (cK s) A C= .ok (ls,V)) (Z:bI s=gi s J t rs C) (bo:ew J t rs=true)
 (av:(f9=0∧∃ l,cK s V= .ok (l,ae)∧ff ai w.heap.size (.slice aa O cc) l)∨(f9≠0∧(∃ E,cK s V= .error E)∧∃ aj aw c2,cG aa O cc= .slice aj aw c2)) (am:∀ i,i < A→ff w B (vs.getD i .nilFunc) (ls.getD i [])) (I:A < 4) (ax:vs.length=4)
 (ao:Md (fun k=>k=rb∨k=L) w w') (ad:∀ k,k=rb∨k=L→k < B) (al:B≤w.heap.size) (ap:Md (fun k=>k=L) ai w'):(f9=0∧(bI s=gi s J t rs C∧ew J t rs=true)∧cq (cK s) (A+1) C= .ok (rf s (A+1) C,ae)∧∀ i,i < A+1→ff w' B ((vs.set A<|.slice aa O cc).getD i .nilFunc) ((rf s (A+1) C).getD i []))∨(f9≠0∧∃ E,bI s= .error E):=by
 rcases av with ⟨h0,l,aq,ak⟩ | ⟨h0,⟨E,he⟩,_⟩
 · have ac:=ma M aq;have ar:=iQ M;have au:rf s (A+1) C=ls++ [l]:=by unfold rf; rw [ac]
   rw [ac,au];refine .inl ⟨h0,⟨Z,bo⟩,U,fun i hi=> ?_⟩;rcases dD i A with h | h
   · rw [qI ab,Bu ab];exact (am i h).md ao fun k I hb=>absurd hb<|by have :=ad k I; omega
   · obtain rfl :i=A:=ab;rw [oQ ab,Bt ar.symm];exact (ak.mono al).md ap fun k I hb=>absurd hb<|by have :=ad k (.inr I); omega
 · exact .inr ⟨h0,E,by rw [Z,Ak bo (iy M he I)]⟩
set_option maxHeartbeats 4000000 in
theorem KQ (s:List UInt8) (w:ah) (a7:s.length≤1048576):
 bg prog 20 (bl [str s]) w (r5 s w):=by
 refine enter func20 U ntmps20 U<|aU 2 U<|e<|al pJ fun Z fA J bN b0=>aj 6 U<|p mv<|aj 3 U<|gs (t:=15) U (fun ed=> ?_) fun ed=> ?_;have aA:¬s.take 4=eW:=fun h=>by have :=congrArg lP h; rw [cO] at this; simp only [eW,dC,ib] at this; omega
 refine aj 9 U<|p (eG (ps:= []) (L:= [.int .i64 0,.string ⟨⟨[]⟩⟩,.slice none 0 0,.slice none 0 0,.slice none 0 0,.slice none 0 0,.slice none 0 0]) tX U<|U)<|e<|rn kT U U U U (b0) (by simp) fun eS b3 b1=> ?_
 skip
 exact ay 5 U<|sJ U (iz (cs:= [aZ .i64 0,str [],.slice none 0 0,.slice none 0 0,.slice none 0 0,.slice none 0 0,.slice none 0 0]) U lW U fun j cj=>b1.aN j) lz<|⟨.inr ⟨⟨_,vz aA⟩,200,aF,U⟩,bN.md.trans' b3 fun k A h=>by omega⟩
 refine bO U mv<|bO U (ym u9 U U ab)<|aK 4 U<|cd U (fun cf=> ?_) fun cf=> ?_;have aA:¬s.take 4=eW:=cf;refine aI 2 U<|p (eG (ps:= []) (L:= [.int .i64 0,.string ⟨⟨[]⟩⟩,.slice none 0 0,.slice none 0 0,.slice none 0 0,.slice none 0 0,.slice none 0 0]) tX U<|U)<|e<|rn kT U U U U (b0) (by simp) fun eS b3 b1=> ?_
 skip
 exact ay 5 U<|sJ U (iz (cs:= [aZ .i64 0,str [],.slice none 0 0,.slice none 0 0,.slice none 0 0,.slice none 0 0,.slice none 0 0]) U lW U fun j cj=>b1.aN j) lz<|⟨.inr ⟨⟨_,vz aA⟩,200,aF,U⟩,bN.md.trans' b3 fun k A h=>by omega⟩
 have aA:s.take 4=eW:=rD.1 cf;refine aI 4 U<|p mv<|p (eG (ps:= [(0,str s),(1,.int .i64 ((4:Nat):Int))]) (L:= [str s,.int .i64 ((4:Nat):Int),.int .i64 0]) L9 U<|U)<|e<|mS U fun c7 fB eX b4 dl=> ?_;obtain ⟨rb,rfl⟩:∃ rb,rb=c7:=⟨_,rfl⟩
 have e8:=bN.size;have fa:=b4.size;refine aj 5 U<|p (eG (ps:= []) (L:= [.int .i64 0,.string ⟨⟨[]⟩⟩,.slice none 0 0,.slice none 0 0,.slice none 0 0,.slice none 0 0,.slice none 0 0]) tX U<|U)<|e<|al pJ fun V fF I bP dt=> ?_;have fh:=bP.size;refine e<|rn kT U U U U (dt) (by simp) fun bA bK ds=> ?_;have fg:=bK.size;have I:az bA.heap V [aZ .i64 0,str [],.slice none 0 0,.slice none 0 0,.slice none 0 0,.slice none 0 0,.slice none 0 0]:=ds;have J:az bA.heap Z [aZ .i64 0,str [],.slice none 0 0,.slice none 0 0,.slice none 0 0,.slice none 0 0,.slice none 0 0]:=bK.B (Wk.B bP.md<|Wk.B b4.md b0) fun h=>by omega
 have C:az bA.heap rb [str s,aB 4,aB 0]:=bK.B (Wk.B bP.md dl) fun h=>by omega
 have dB:Wk w bA:=((bN.md.trans b4.md).trans bP.md).trans' bK fun k A h=>by omega
 refine aj 5 U<|e<|aX (oV rb s 4 0 bA C a7 ab) U ?_;rintro fo ac ⟨n,p1,ct,rfl,cx,em,e0,eC,bE⟩;have fc:=bE.size;have cD:=bE.B J fun h=>by omega
 have cF:=bE.B I fun h=>by omega
 have cC:=(dB).trans' bE fun k A h=>by omega
 refine aK 3 U ?_;refine eJ (fun cY aY=> ∃ (eM:Unit),(az aY.heap Z [aZ .i64 0,str [],.slice none 0 0,.slice none 0 0,.slice none 0 0,.slice none 0 0,.slice none 0 0])∧(az aY.heap V<|[aZ .i64 ((if n≤64 then n else 0:Nat):Int),str [],.slice none 0 0,.slice none 0 0,.slice none 0 0,.slice none 0 0,.slice none 0 0])∧(az aY.heap rb [str s,aB p1,aB ct])∧(Wk w aY)∧(ac.heap.size≤aY.heap.size)∧(Sl cY [(0,str s),(2,aT Z),(4,aT rb),(5,aT V)])) ?_ ?_;refine bX 6 U<|cd U (fun d8=> ?_) fun d8=> ?_;refine aI 2 U<|p (fL u3 mC U<|hJ ab)<|aj 1 U<|e<|st cX U U (U) (cF) (by simp) fun fO bL dx=> ?_
 skip
 exact ay 1 U<|tn<|⟨(),(bL.B cD fun h=>by omega),(by rw [if_pos ab]; exact dx),(bL.B cx fun h=>by omega),(cC.trans' bL fun k A h=>by omega),bL.size,U⟩
 exact aG 1 U<|tn<|⟨(),cD,(by rw [if_neg ab]; exact cF),cx,cC,(aQ _),U⟩
 rintro cY aY ⟨eM,J,I,C,M,ae,er⟩;refine bJ er<|aI 3 U<|e<|aX (wi rb s p1 ct aY C a7<|em) U ?_;rintro fq fD ⟨t,p2,c9,rfl,dr,en,e1,eD,bF⟩;have fd:=bF.size;have dO:=bF.B J fun h=>by omega
 have dW:=bF.B I fun h=>by omega
 have dG:=(M).trans' bF fun k A h=>by omega
 refine aj 1 U<|e<|st Ah U U (U) (dW) (by simp) fun cW bM dy=> ?_;have fm:=bM.size;have dZ:az cW.heap V [aZ .i64 ((if n≤64 then n else 0:Nat):Int),str t,.slice none 0 0,.slice none 0 0,.slice none 0 0,.slice none 0 0,.slice none 0 0]:=dy;have dS:=bM.B dO fun h=>by omega
 have d6:=bM.B dr fun h=>by omega
 have dK:=dG.trans' bM fun k A h=>by omega
 refine aj 5 U<|e<|aX (oV rb s p2 c9 cW d6 a7<|en) U ?_;rintro fs fE ⟨m,p3,cu,rfl,bB,eo,e2,eE,bH⟩;have fe:=bH.size;have b7:=bH.B dS fun h=>by omega
 have b9:=bH.B dZ fun h=>by omega
 have b6:=(dK).trans' bH fun k A h=>by omega
 have cv:=HI aA eC eD eE;refine aK 3 U ?_;refine eJ (fun c0 a8=> ∃ (bb:Nat),(az a8.heap Z [aZ .i64 0,str [],.slice none 0 0,.slice none 0 0,.slice none 0 0,.slice none 0 0,.slice none 0 0])∧(az a8.heap V<|[aZ .i64 ((if n≤64 then n else 0:Nat):Int),str t,.slice none 0 0,.slice none 0 0,.slice none 0 0,.slice none 0 0,.slice none 0 0])∧(az a8.heap rb [str s,aB p3,aB bb])∧(Wk w a8)∧(ac.heap.size≤a8.heap.size)∧((bb=0∧(bc s 4= .ok (n,p1)∧cR s p1= .ok (t,p2)∧bc s p2= .ok (m,p3))∧¬256 < m)∨(bb≠0∧∃ am,bI s= .error am))∧(Sl c0 [(0,str s),(2,aT Z),(4,aT rb),(5,aT V),(7,.int .u64 (m:Nat))])) ?_ ?_;refine aU 5 U<|p (aw U<|bB.aN 2)<|aj 2 U<|gs (t:=42) U (fun cP=> ?_) fun cP=> ?_;have ad:=(cv.resolve_right fun h=>h.1 ab).2;refine aK 5 U<|cd U (fun d9=> ?_) fun d9=> ?_;refine aI 4 U<|e<|st cX U U (U) (bB) (by simp) fun fK bC de=> ?_;have e5:=bC.size;exact ay 1 U<|tn<|⟨201,(bC.B b7 fun h=>by omega),(bC.B b9 fun h=>by omega),de,(b6.trans' bC fun k A h=>by omega),ab,(.inr ⟨aF,_,Aq aA ad.1 ad.2.1 ad.2.2 ab⟩),U⟩
 exact aG 1 U<|tn<|⟨cu,b7,b9,bB,b6,ab,(.inl ⟨ab,ad,ab⟩),U⟩
 exact ay 7 U<|tn<|⟨cu,b7,b9,bB,b6,ab,(cv.elim (fun h=>absurd h.1 fun au=>cP ab) .inr),U⟩
 rintro c0 a8 ⟨bb,J,I,C,M,ae,da,et⟩;refine bJ et ?_;refine eJ (fun c1 aD=> ∃ (rs:List (List UInt8×List UInt8)) (O:Option Addr) (rc ar f6:Nat),(az aD.heap Z [aZ .i64 0,str [],.slice none 0 0,.slice none 0 0,.slice none 0 0,.slice none 0 0,.slice none 0 0])∧(az aD.heap V<|[aZ .i64 ((if n≤64 then n else 0:Nat):Int),str t,.slice O rs.length rc,.slice none 0 0,.slice none 0 0,.slice none 0 0,.slice none 0 0])∧(az aD.heap rb [str s,aB ar,aB f6])∧(Wk w aD)∧(ac.heap.size≤aD.heap.size)∧(ar≤s.length)∧((f6=0∧(bc s 4= .ok (n,p1)∧cR s p1= .ok (t,p2)∧bc s p2= .ok (m,p3))∧¬256 < m∧cq (gD s) m p3= .ok (rs,ar))∨(f6≠0∧∃ am,bI s= .error am))∧(rs.length≤257)∧(∀ r∈rs,r.1.length≤255∧r.2.length≤255)∧(bj aD ac.heap.size 100 2 (.slice O rs.length rc) rs.length<|rs.flatMap eu)∧(Sl c1 [(0,str s),(2,aT Z),(4,aT rb),(5,aT V)])) ?_ ?_;refine bX 1 U<|lp (fun bd c2 aS=> ∃ (rs:List (List UInt8×List UInt8)) (cn:ag) (aW f:Nat),(az aS.heap Z [aZ .i64 0,str [],.slice none 0 0,.slice none 0 0,.slice none 0 0,.slice none 0 0,.slice none 0 0])∧(az aS.heap V<|[aZ .i64 ((if n≤64 then n else 0:Nat):Int),str t,cn,.slice none 0 0,.slice none 0 0,.slice none 0 0,.slice none 0 0])∧(az aS.heap rb [str s,aB aW,aB f])∧(Wk w aS)∧(ac.heap.size≤aS.heap.size)∧(aW≤s.length)∧((f=0∧rs.length≤m∧(bc s 4= .ok (n,p1)∧cR s p1= .ok (t,p2)∧bc s p2= .ok (m,p3))∧¬256 < m∧cq (gD s) rs.length p3= .ok (rs,aW))∨(f≠0∧∃ am,bI s= .error am))∧(rs.length≤257)∧(∀ r∈rs,r.1.length≤255∧r.2.length≤255)∧(bj aS ac.heap.size 100 2 cn rs.length<|rs.flatMap eu)∧(Sl c2 [(0,str s),(2,aT Z),(4,aT rb),(5,aT V),(7,.int .u64 (m:Nat))])∧(m - rs.length=bd)) _ ⟨[],.slice none 0 0,p3,bb,J,I,C,M,ae,eo,(da.imp (fun h=>⟨h.1,fw _,h.2.1,h.2.2,U⟩) id),aF,(fun r hr=>by cases hr),(fv _ _ _ _),U,U⟩ ?_;rintro bd c2 aS ⟨rs,cn,aW,f,J,I,C,M,ae,bw,a2,cm,bx,E,ex,rfl⟩;refine bJ ex ?_;obtain ⟨O,rc,rfl⟩:=di E;refine aU 4 U<|p (aw U<|I.aN 2)<|aj 1 U<|p (fL pG ub U<|gG ab)<|aj 3 U<|gs (t:=55) U (fun ee=> ?_) fun ee=> ?_;refine aj 3 U<|bO U (aw U<|C.aN 2)<|aK 4 U<|cd U (fun cI=> ?_) fun cI=> ?_;obtain ⟨ci,e3,ad,bv,bu⟩:=a2.resolve_right fun h=>h.1 ab;obtain rfl :f=0:=ci;refine aI 6 U<|e<|aX (wi rb s aW 0 aS C a7<|bw) U ?_;rintro ft eP ⟨co,p5,f5,rfl,du,ep,eg,cU,bp⟩;have fi:=bp.size;have dP:=bp.B J fun h=>by omega
 have dX:=bp.B I fun h=>by omega
 have dH:=(M).trans' bp fun k A h=>by omega
 refine aj 6 U<|e<|aX (wi rb s p5 f5 eP du a7<|ep) U ?_;rintro fu fG ⟨x2,eI,f6,rfl,dv,eq,eh,eF,bq⟩;have fj:=bq.size;have dQ:=bq.B dP fun h=>by omega
 have cH:=bq.B dX fun h=>by omega
 have dI:=(dH).trans' bq fun k A h=>by omega
 have ek:=bR (bR E bp fun k A h=>by have :=(cE E A).1; omega) bq fun k A h=>by have :=(cE E A).1; omega
 refine aj 5 U<|p (aw U<|cH.aN 2)<|aj 2 U<|p (eG (ps:= [(0,str co),(1,str x2)]) (L:= [str co,str x2]) LW U<|U)<|e<|oC Dw U U U fun eT fH eY a6 dw=> ?_;have fk:=a6.size;refine e<|ap Dw (bh ek a6.md) U ab U (a9.fQ dw) (U) (U) ab ab fun fx fI cS br eH eb=> ?_;have eH:=br.size;have bz:∀ k,(cG O rs.length rc).ownBlock=some k→ac.heap.size≤k:=fun k h=>(cE E h).1;have dR:=br.B (Wk.B a6.md dQ) fun h=>by have :=bz _ h; omega
 have dY:=br.B (Wk.B a6.md cH) fun h=>by have :=bz _ h; omega
 have d5:=br.B (Wk.B a6.md dv) fun h=>by have :=bz _ h; omega
 have dJ:=(dI.trans a6.md).trans' br fun k A h=>by have :=bz _ h; omega
 obtain ⟨cp,cr,rfl⟩:=di cS;refine aj 1 U<|e<|st HA U U (U) (dY) (by simp) fun eQ bi dg=> ?_;have e6:=bi.size;have dU:az eQ.heap V [aZ .i64 ((if n≤64 then n else 0:Nat):Int),str t,.slice cp (rs.length+1) cr,.slice none 0 0,.slice none 0 0,.slice none 0 0,.slice none 0 0]:=dg;have dM:=bi.B dR fun h=>by omega
 have d3:=bi.B d5 fun h=>by omega
 have dE:=dJ.trans' bi fun k A h=>by omega
 have ei:=bR cS bi fun k A h=>by rcases eb k A with a1 | a1; exact absurd (bz k a1) ab; omega
 exact ay 2 U<|tn<|⟨_,by rw [bG,og]; omega,rs++ [(co,x2)],.slice cp (rs.length+1) cr,eI,f6,dM,dU,d3,dE,ab,eq,(by rcases eF with ⟨h1,a1,bY⟩ | ⟨a1,bY⟩; exact .inl ⟨a1,by rw [bG,og]; omega,ad,bv,by rw [bG,og]; exact ma bu<|CW (cU.resolve_right fun h=>h.1 h1).2.2 bY⟩; refine .inr ⟨a1,?_⟩; rcases cU with ⟨_,h1,bZ⟩ | ⟨h1,bZ⟩; exact bY.elim (fun h=>absurd h1 h) (fun ⟨au,h⟩=>⟨au,ss aA ad.1 ad.2.1 ad.2.2 bv<|iy bu (CV bZ h) ab⟩); exact bZ.elim (fun h=>absurd U h) fun ⟨au,h⟩=>⟨au,ss aA ad.1 ad.2.1 ad.2.2 bv<|iy bu (CU h) ab⟩),(by rw [bG,og]; omega),(fun r hr=>by rcases List.mem_append.1 hr with h | h; exact bx r h; rw [List.mem_singleton.1 h]; exact ⟨eg,eh⟩),(by rw [bG,uC]; exact ei),U,U⟩
 exact aG 2 U<|cy<|ba 1 U<|tn<|⟨rs,O,rc,aW,f,J,I,C,M,ae,bw,(a2.elim (fun h=>absurd h.1 fun au=>cI ab) .inr),cm,bx,E,U⟩
 exact ay 11 U<|cy<|ba 1 U<|tn<|⟨rs,O,rc,aW,f,J,I,C,M,ae,bw,(a2.elim (fun h=> .inl ⟨h.1,h.2.2.1,h.2.2.2.1,(by have eV:=h.2.1; have au:rs.length=m:=ab; rw [← au]; exact h.2.2.2.2)⟩) .inr),cm,bx,E,U⟩
 rintro c1 aD ⟨rs,O,rc,ar,f6,J,I,C,M,ae,bw,a2,cm,bx,E,ev⟩;refine bJ ev<|aI 2 U<|p (eU lW U (U) (show ∀ j,j < 7→ax aD.heap V (0 +j)=([aZ .i64 ((if n≤64 then n else 0:Nat):Int),str t,.slice O rs.length rc,.slice none 0 0,.slice none 0 0,.slice none 0 0,.slice none 0 0]:List ag)[j]? from fun j _=>I.aN j))<|e<|aX (Lf (if n≤64 then n else 0) t rs O rc (.slice none 0 0) (.slice none 0 0) (.slice none 0 0) (.slice none 0 0) aD (cw E).2 (by split <;> omega) ab ab fun r hr=>by have :=bx r hr; omega) U ?_;rintro fy fJ ⟨rfl,aP⟩;have fl:=aP.size;have b8:=Wk.B aP J;have ca:=Wk.B aP I;have bQ:=Wk.B aP C;have ck:=bh E aP;refine aK 3 U ?_;refine eJ (fun c3 a0=> ∃ (f7:Nat),(az a0.heap Z [aZ .i64 0,str [],.slice none 0 0,.slice none 0 0,.slice none 0 0,.slice none 0 0,.slice none 0 0])∧(az a0.heap V<|[aZ .i64 ((if n≤64 then n else 0:Nat):Int),str t,.slice O rs.length rc,.slice none 0 0,.slice none 0 0,.slice none 0 0,.slice none 0 0])∧(az a0.heap rb [str s,aB ar,aB f7])∧(Wk w a0)∧(ac.heap.size≤a0.heap.size)∧((f7=0∧bI s=gi s (if n≤64 then n else 0) t rs ar∧ew (if n≤64 then n else 0) t rs=true)∨(f7≠0∧∃ am,bI s= .error am))∧(bj a0 ac.heap.size 100 2 (.slice O rs.length rc) rs.length<|rs.flatMap eu)∧(Sl c3 [(0,str s),(2,aT Z),(4,aT rb),(5,aT V)])) ?_ ?_;refine aU 5 U<|p (aw U<|bQ.aN 2)<|aj 2 U<|gs (t:=81) U (fun cQ=> ?_) fun cQ=> ?_;obtain ⟨_,ad,bv,bu⟩:=a2.resolve_right fun h=>h.1 ab;have cL:=Ar aA ad.1 ad.2.1 ad.2.2 bv bu;refine aK 5 U<|cb U (fun ch=> ?_) fun ch=> ?_;have bo:ew (if n≤64 then n else 0) t rs=false :=by simpa using ch
 refine aI 4 U<|e<|st cX U U (U) (bQ) (by simp) fun fM bm dh=> ?_;have e7:=bm.size;exact ay 1 U<|tn<|⟨201,(bm.B b8 fun h=>by omega),(bm.B ca fun h=>by omega),dh,((M.trans aP).trans' bm fun k A h=>by omega),ab,(.inr ⟨aF,_,by rw [cL,Aj bo]⟩),(bR ck bm fun k A h=>by have :=(cE E A).1; omega),U⟩
 have bo:ew (if n≤64 then n else 0) t rs=true :=by simpa using ch
 exact aG 1 U<|tn<|⟨f6,b8,ca,bQ,(M.trans aP),ab,(.inl ⟨ab,cL,bo⟩),ck,U⟩
 exact ay 7 U<|tn<|⟨f6,b8,ca,bQ,(M.trans aP),ab,(a2.elim (fun h=>absurd h.1 fun au=>cQ ab) .inr),ck,U⟩
 rintro c3 a0 ⟨f7,J,I,C,M,ae,db,E,ey⟩;refine bJ ey ?_;refine eJ (fun c4 aR=> ∃ (ls:List (List aJ)) (vs:List ag) (ao f8:Nat),(az aR.heap Z [aZ .i64 0,str [],.slice none 0 0,.slice none 0 0,.slice none 0 0,.slice none 0 0,.slice none 0 0])∧(az aR.heap V<|[aZ .i64 ((if n≤64 then n else 0:Nat):Int),str t,.slice O rs.length rc]++vs)∧(az aR.heap rb [str s,aB ao,aB f8])∧(Wk w aR)∧(ac.heap.size≤aR.heap.size)∧(ao≤s.length)∧(vs.length=4)∧((f8=0∧(bI s=gi s (if n≤64 then n else 0) t rs ar∧ew (if n≤64 then n else 0) t rs=true)∧cq (cK s) 4 ar= .ok (ls,ao)∧∀ i,i < 4→ff aR ac.heap.size (vs.getD i .nilFunc) (ls.getD i []))∨(f8≠0∧∃ am,bI s= .error am))∧(bj aR ac.heap.size 100 2 (.slice O rs.length rc) rs.length<|rs.flatMap eu)∧(Sl c4 [(0,str s),(2,aT Z),(4,aT rb),(5,aT V)])) ?_ ?_;refine bX 6 U<|lp (fun bd c5 av=> ∃ (aq:Nat) (ls:List (List aJ)) (vs:List ag) (ao f8:Nat),(az av.heap Z [aZ .i64 0,str [],.slice none 0 0,.slice none 0 0,.slice none 0 0,.slice none 0 0,.slice none 0 0])∧(az av.heap V<|[aZ .i64 ((if n≤64 then n else 0:Nat):Int),str t,.slice O rs.length rc]++vs)∧(az av.heap rb [str s,aB ao,aB f8])∧(Wk w av)∧(ac.heap.size≤av.heap.size)∧(aq≤4)∧(ao≤s.length)∧(vs.length=4)∧((f8=0∧(bI s=gi s (if n≤64 then n else 0) t rs ar∧ew (if n≤64 then n else 0) t rs=true)∧cq (cK s) aq ar= .ok (ls,ao)∧∀ i,i < aq→ff av ac.heap.size (vs.getD i .nilFunc) (ls.getD i []))∨(f8≠0∧∃ am,bI s= .error am))∧(bj av ac.heap.size 100 2 (.slice O rs.length rc) rs.length<|rs.flatMap eu)∧(Sl c5 [(0,str s),(2,aT Z),(4,aT rb),(5,aT V),(11,aB aq)])∧(4 - aq=bd)) _ ⟨0,[],[.slice none 0 0,.slice none 0 0,.slice none 0 0,.slice none 0 0],ar,f7,J,I,C,M,ae,ab,bw,U,(db.imp (fun h=>⟨h.1,h.2,U,fun i hi=>by omega⟩) id),E,U,U⟩ ?_;rintro bd c5 av ⟨aq,ls,vs,ao,f8,J,I,C,M,ae,eZ,bV,aC,a3,E,eA,rfl⟩;refine bJ eA<|aU 6 U<|gs (t:=90) U (fun ef=> ?_) fun ef=> ?_;refine aj 3 U<|bO U (aw U<|C.aN 2)<|aK 4 U<|cd U (fun cJ=> ?_) fun cJ=> ?_;obtain ⟨ci,aV,bU,a4⟩:=a3.resolve_right fun h=>h.1 ab;obtain rfl :f8=0:=ci;refine aI 7 U<|e<|aX (Gq rb s ao av C a7 bV) U ?_;rintro eN fz ⟨eL,f9,dd,el,cT,bf⟩;have e4:=bf.size;obtain ⟨aa,bW,cc,rfl⟩:∃ aa bW cc,eN= .slice aa bW cc:=by
  rcases cT with ⟨_,l,_,dc⟩ | ⟨_,_,h⟩;obtain ⟨aa,cc,h,_⟩:=dc.eK; exact ⟨aa,_,cc,h⟩;exact h
 have dL:=bf.B J fun h=>by omega
 have dT:=bf.B I fun h=>by omega
 have dD:=(M).trans' bf fun k A h=>by omega
 refine aj 1 U<|p (jr Gn U U ab)<|e<|st HB U U (U) (dT) (by simp only [bG,dC,ib,aC]; omega) fun cV a5 dj=> ?_;have e9:=a5.size;have dV:az cV.heap V ([aZ .i64 ((if n≤64 then n else 0:Nat):Int),str t,.slice O rs.length rc]++vs.set aq (.slice aa bW cc)):=by rw [← x7]; exact dj
 have dN:=a5.B dL fun h=>by omega
 have d4:=a5.B dd fun h=>by omega
 have dF:=dD.trans' a5 fun k A h=>by omega
 have cB:Md (fun k=>k=rb∨k=V) av cV:=(bf.mono fun _ _ h=> .inl h).trans<|a5.mono fun _ _ h=> .inr h;have ej:=bR E cB fun k A h=>by have :=(cE E A).1; omega
 exact aj 5 U<|p (cg<|aq+1)<|ay 2 U<|tn<|⟨_,ab,aq+1,rf s (aq+1) ar,vs.set aq (.slice aa bW cc),eL,f9,dN,dV,d4,dF,ab,ab,el,(by rw [List.length_set]; exact aC),(Lr bU aV.1 aV.2 cT a4 ab aC cB (fun k A=>by omega) ae a5),ej,U,U⟩
 exact aG 2 U<|cy<|ba 1 U<|tn<|⟨ls,vs,ao,f8,J,I,C,M,ae,bV,aC,(a3.elim (fun h=>absurd h.1 fun au=>cJ ab) .inr),E,U⟩
 exact ay 11 U<|cy<|ba 1 U<|tn<|⟨ls,vs,ao,f8,J,I,C,M,ae,bV,aC,((by have c8:aq=4:=ab; subst c8; exact a3)),E,U⟩
 rintro c4 aR ⟨ls,vs,ao,f8,J,I,C,M,ae,bV,aC,a3,E,ez⟩;refine bJ ez ?_;refine eJ (fun c6 ak=> ∃ (f9:Nat),(az ak.heap Z [aZ .i64 0,str [],.slice none 0 0,.slice none 0 0,.slice none 0 0,.slice none 0 0,.slice none 0 0])∧(az ak.heap V<|[aZ .i64 ((if n≤64 then n else 0:Nat):Int),str t,.slice O rs.length rc]++vs)∧(az ak.heap rb [str s,aB ao,aB f9])∧(Wk w ak)∧(ac.heap.size≤ak.heap.size)∧((f9=0∧bI s= .ok ⟨if n≤64 then n else 0,t,rs,ls⟩∧∀ i,i < 4→ff ak ac.heap.size (vs.getD i .nilFunc) (ls.getD i []))∨(f9≠0∧∃ am,bI s= .error am))∧(bj ak ac.heap.size 100 2 (.slice O rs.length rc) rs.length<|rs.flatMap eu)∧(Sl c6 [(0,str s),(2,aT Z),(4,aT rb),(5,aT V)])) ?_ ?_;refine aU 5 U<|p (aw U<|C.aN 2)<|aj 2 U<|gs (t:=109) U (fun cM=> ?_) fun cM=> ?_;obtain ⟨_,aV,bU,a4⟩:=a3.resolve_right fun h=>h.1 ab;refine aj 3 U<|bO U (aw U<|C.aN 1)<|aK 6 U<|cd U (fun d7=> ?_) fun d7=> ?_;refine aI 4 U<|e<|st cX U U (U) (C) (by simp) fun fN bn dm=> ?_;have fb:=bn.size;exact ay 1 U<|tn<|⟨202,(bn.B J fun h=>by omega),(bn.B I fun h=>by omega),dm,(M.trans' bn fun k A h=>by omega),ab,(.inr ⟨aF,_,by rw [aV.1,Al aV.2 bU ab]⟩),(bR E bn fun k A h=>by have :=(cE E A).1; omega),U⟩
 exact aG 1 U<|tn<|⟨f8,J,I,C,M,ae,(.inl ⟨ab,by rw [aV.1,Am aV.2 bU ab],a4⟩),E,U⟩
 exact ay 12 U<|tn<|⟨f8,J,I,C,M,ae,(a3.elim (fun h=>absurd h.1 fun au=>cM ab) .inr),E,U⟩
 rintro c6 ak ⟨f9,J,I,C,M,ae,cz,E,eB⟩;refine bJ eB<|aI 6 U<|p (aw U<|C.aN 2)<|aK 3 U<|cd U (fun ce=> ?_) fun ce=> ?_;obtain ⟨ec,d0⟩:=cz.resolve_left fun h=>ce<|by rw [h.1]; rfl
 refine bS 1 U ?_;have bt:(fun w'=>Md (fun k=>k=Z) ak w') ak.drew:=(Md.refl _ _).drew;refine bo (fun w'=>Md (fun k=>k=Z) ak w') U wide bt<|cZ 0 U (eG (ps:= []) (L:= [.int .i64 0,.string ⟨⟨[]⟩⟩,.slice none 0 0,.slice none 0 0,.slice none 0 0,.slice none 0 0,.slice none 0 0]) tX U<|U) bt<|aH [1,2,3] U bt<|qK 4 U (fun w' dA=>aw U<|(Md.B dA C fun h=>by omega).aN 2) bt<|he 5 U ai<|rn kT U U U U (J) (by simp) fun eR dz dn=> ?_
 skip
 have b5:(fun w'=>Md (fun k=>k=Z) ak w') eR:=Md.trans bt dz;refine ⟨b5,?_⟩;exact aH [6] U b5<|hn ai<|ba 3 U<|sJ U (iz (cs:= [aZ .i64 0,str [],.slice none 0 0,.slice none 0 0,.slice none 0 0,.slice none 0 0,.slice none 0 0]) U lW U fun j cj=>dn.aN j) lz<|⟨.inr ⟨d0,f9,ec,U⟩,M.trans' b5 fun k A h=>by omega⟩
 obtain ⟨_,ea,a4⟩:=cz.resolve_right fun h=>ce ab;refine bS 3 U ?_;obtain ⟨aE,aL,aM,aO,rfl⟩:∃ aE aL aM aO,vs= [aE,aL,aM,aO]:=by
  match vs,aC with
  | [aE,aL,aM,aO],_=>exact ⟨_,_,_,_,rfl⟩
 have d1:ot ak w.heap.size [aZ .i64 ((if n≤64 then n else 0:Nat):Int),str t,.slice O rs.length rc,aE,aL,aM,aO] ⟨if n≤64 then n else 0,t,rs,ls⟩:=⟨O,rc,[aE,aL,aM,aO],rfl,aC,(cw E).2,fun i hi=>(a4 i hi).mono ab⟩
 have d2:=d1.one;refine aI 1 U<|p (eU lW U (U) (show ∀ j,j < 7→ax ak.heap V (0 +j)=([aZ .i64 ((if n≤64 then n else 0:Nat):Int),str t,.slice O rs.length rc,aE,aL,aM,aO]:List ag)[j]? from fun j _=>I.aN j))<|e<|rn kT U U U d2.2 J aF fun eO b2 dp=> ?_;have dq:az eO.heap Z [aZ .i64 ((if n≤64 then n else 0:Nat):Int),str t,.slice O rs.length rc,aE,aL,aM,aO]:=dp;exact ay 4 U<|sJ U (iz (cs:= [aZ .i64 ((if n≤64 then n else 0:Nat):Int),str t,.slice O rs.length rc,aE,aL,aM,aO]) U lW U fun j cj=>dq.aN j) lz<|⟨.inl ⟨_,_,ea,U,⟨O,rc,[aE,aL,aM,aO],U,aC,(cw<|bR E b2 fun k A h=>by have :=(cE E A).1; omega).2,fun i hi=>((a4 i hi).md b2 fun k A hb=>absurd hb ab).mono ab⟩⟩,M.trans' b2 fun k A h=>by omega⟩
end Go.Hb.zu
section
namespace Go.Hb.rY
open Go.Hb.zu
theorem r5.form {s:List UInt8} {w w':ah} {v:ag} (h:r5 s w v w'):∃ E I x2 J L M O q,v= .tuple #[.agg [E,I,x2,J,L,M,O].toArray,.int .i64 ((q:Nat):Int)]∧[E,I,x2,J,L,M,O].all fu=true∧Wk w w'∧
 ((q≠0∧∃ ak,bI s= .error ak)∨(q=0∧∃ b,bI s= .ok b∧ot w' w.heap.size [E,I,x2,J,L,M,O] b)):=by
 obtain ⟨h,aj⟩:=h;rcases h with ⟨b,cs,A,C,hb⟩ | ⟨A,q,am,C⟩
 · obtain ⟨al,h1⟩:=hb.one;obtain ⟨V,Z,ab,ac,ad,ae,ai,rfl⟩:∃ V Z ab ac ad ae ai,cs= [V,Z,ab,ac,ad,ae,ai]:=by
    match cs,al with
    | [V,Z,ab,ac,ad,ae,ai],_=>exact ⟨_,_,_,_,_,_,_,rfl⟩
   exact ⟨_,_,_,_,_,_,_,0,C,h1,aj,.inr ⟨U,b,A,hb⟩⟩
 · exact ⟨_,_,_,_,_,_,_,q,C,U,aj,.inl ⟨am,A⟩⟩
theorem CQ {w w':ah} {I e:Nat} {E:Option Addr} {s:List UInt8} {b:dm} (O:b.Is s) (A:a9 w.heap E (b.db.flatMap eu)) (M:w.heap[I]? =some (.cells [aZ .i64 0,str [],.slice none 0 0,.slice none 0 0,.slice none 0 0,.slice none 0 0,.slice none 0 0].toArray e (0,0))) (hm:Md (fun k=>k=I) w w'):a9 w'.heap E (b.db.flatMap eu):=by
 refine A.md hm fun J U=> ?_;have hr:=O.db;cases hrp:b.db with
 | nil=>rw [hrp] at J; exact J rfl
 | cons r rs=>
   rw [hrp] at A hr;have h1:=A.ax 0 (str r.1) rfl;rw [U,bt M] at h1;have L:=(hr r List.mem_cons_self).1;have :∀ j,j < 7→([aZ .i64 0,str [],.slice none 0 0,.slice none 0 0,.slice none 0 0,.slice none 0 0,.slice none 0 0]:List ag).toArray[j]?≠some (str r.1):=fun j C h=>by
    match j,C with
    | 0,_=>cases h
    | 1,_=>exact L<|by simp [str] at h; exact h
    | 2,_=>cases h
    | 3,_=>cases h
    | 4,_=>cases h
    | 5,_=>cases h
    | 6,_=>cases h
   by_cases C:fo E+0 < 7
   · exact this _ C h1
   · rw [Array.getElem?_eq_none (by simp; omega)] at h1; cases h1
def FZ (s:List UInt8) (w:ah) (v:ag) (w':ah):Prop := ∃ C E I x2 J L M O A,v= .tuple #[.pointer C,.agg [E,I,x2,J,L,M,O].toArray,.bool A,.bool true]∧[E,I,x2,J,L,M,O].all fu=true∧Wk w w'∧
 ((∃ U b,C=some ⟨U,0,none⟩∧A=true∧bI s= .ok b∧cH w' w.heap.size U b s∧ot w' w.heap.size [E,I,x2,J,L,M,O] b)∨(C=none∧A=false∧∃ V,bI s= .error V))
theorem CN (s:List UInt8) (w:ah) (aY:s.length≤1048576):
 bg prog 8 (bl [str s]) w (FZ s w):=by
 refine enter func8 U ntmps8 U<|aU 3 U<|e<|du pJ fun ay a0 bt aS aD=> ?_;have bz:=aS.size;refine aj 6 U<|p mv<|e<|aX (BZ s a0 aY) U ?_;rintro bq aJ ⟨ao,al⟩;have bw:=al.size;obtain ⟨E,u,rfl,aW,bn⟩:∃ E u,bq= .tuple #[.pointer E,u]∧(∀ C,E=some C→∃ J b,C=⟨J,0,none⟩∧bI s= .ok b∧cH aJ a0.heap.size J b s)∧(E=none→∃ ae,bI s= .error ae):=by
  cases hX:bI s with
  | ok b=>rw [hX] at ao; obtain ⟨J,h,bm⟩:=ao; exact ⟨_,_,h,fun C A=>⟨J,b,(Option.some.inj A).symm,rfl,bm⟩,fun A=>by cases A⟩
  | error q=>rw [hX] at ao; exact ⟨_,_,ao,fun C A=>(by cases A),fun _=>⟨q,rfl⟩⟩
 clear ao;refine p mv<|aj 2 U<|p aR<|p aR<|aj 4 U<|p mv<|e<|aX (KQ s aJ aY) U fun bE aZ bi=> ?_;obtain ⟨L,M,x2,O,V,Z,ac,q,rfl,aw,am,aH⟩:=r5.form bi;have bx:=am.size;have bp:(q=0∧E≠none)∨(q≠0∧E=none):=by
  rcases aH with ⟨h1,ae,A⟩ | ⟨h1,b,A,_⟩;refine .inr ⟨h1,?_⟩;cases hoc:E with
  | none=>rfl
  | some C=>obtain ⟨_,_,_,aq,_⟩:=aW C hoc; rw [A] at aq; cases aq
  refine .inl ⟨h1,fun aq=> ?_⟩;obtain ⟨ae,aM⟩:=bn aq;rw [A] at aM; cases aM
 refine p mv<|aj 2 U<|e<|du pJ fun aL bF bu aT a7=> ?_;have bA:=aT.size;refine e<|eb kT U U U aw a7 aF fun ap aQ a8=> ?_;have bB:=aQ.size;have a9:az ap.heap aL [L,M,x2,O,V,Z,ac]:=⟨_,a8⟩
 have ar:Wk aZ ap:=aT.md.trans' aQ fun k aG h=>by omega
 have a6:=Wk.ak ar<|Wk.ak am<|Wk.ak al aD;refine aK 4 U<|ta 10 fun I=>qS 0 U (mv) I<|JO 1 U (fun w' bj=>eU lW U (U)<|(show ∀ j,j < 7→ax w'.heap aL (0 +j)=([L,M,x2,O,V,Z,ac]:List ag)[j]? from fun j _=>(Wk.B bj a9).aN j)) I<|qJ [2,3] U I<|qS 4 U (mv) I<|qS 5 U (ix mA U U) I<|qJ [6,7] U I<|qS 8 U (If u4 U U) I<|qS 9 U (aR) I<|js 10 U ai ai<|eb kT U U U aw a6 aF fun ad au bb=> ?_;have bC:=au.size;have bc:az ad.heap ay [L,M,x2,O,V,Z,ac]:=⟨_,bb⟩
 refine B4 11 U (fun _=>aR) (fun h=>cJ<|(show true =_ from by kernel_rfl).trans h)<|B4 12 U (fun _=>aR) (fun h=>cJ<|(show true =_ from by kernel_rfl).trans h)<|jt ai<|ba 2 U<|It U lz (iz (cs:= [L,M,x2,O,V,Z,ac]) U lW U fun j bv=>bc.aN j) lz lz ?_;have br:Wk ap ad→Wk ap ad:=id;have bh:Wk w ap:=((aS.md.trans al).trans am).trans ar;have aO:Wk w ad:=bh.trans' (Md.dg au) fun k aG h=>by omega
 rcases bp with ⟨h1,A⟩ | ⟨h1,A⟩;obtain ⟨_,b,av,bd⟩:=aH.resolve_left fun h=>h.1 h1;obtain ⟨C,rfl⟩:∃ C,E=some C:=by
  cases E with
  | none=>exact absurd rfl A
  | some C=>exact ⟨C,rfl⟩
 obtain ⟨J,a1,rfl,aV,bf⟩:=aW C rfl;obtain rfl :b=a1:=by rw [av] at aV; cases aV; rfl
 subst h1;refine ⟨some ⟨J,0,none⟩,L,M,x2,O,V,Z,ac,true,U,aw,aO,.inl ⟨J,b,U,U,av,?_,?_⟩⟩;obtain ⟨cs,a4,⟨aI,rc,vs,rfl,aA,aB,aC⟩,g6⟩:=bf;have aE:Md (fun k=>k=ay) aJ ad:=(am.trans ar).mono (fun _ _ h=>h.elim) |>.trans (Md.dg au);exact ⟨_,aE.B a4 (fun h=>by omega),⟨aI,rc,vs,U,aA,CQ (su av) aB (Wk.ak al aD) aE,fun i hi=>((aC i hi).md aE fun k aG hb cur z=>by omega).mono ab⟩,ab⟩;obtain ⟨aI,rc,vs,a5,aA,aB,aC⟩:=bd;have aP:Md (fun k=>k=ay) aZ ad:=ar.mono (fun _ _ h=>h.elim) |>.trans (Md.dg au);exact ⟨aI,rc,vs,a5,aA,CQ (su av) aB (Wk.ak am<|Wk.ak al aD) aP,fun i hi=>((aC i hi).md aP fun k aG hb cur z=>by omega).mono ab⟩;subst A;obtain ⟨_,ae,bo⟩:=aH.resolve_right fun h=>h1 h.1;refine ⟨none,L,M,x2,O,V,Z,ac,false,?_,aw,aO,.inr ⟨U,U,ae,bo⟩⟩;have a2:decide (((q:Nat):Int)=0)=false :=decide_eq_false ab;show Value.tuple #[.pointer none,.agg [L,M,x2,O,V,Z,ac].toArray,.bool (decide (((q:Nat):Int)=0)),.bool (decide ((none:Option Addr).isNone=decide (((q:Nat):Int)≠0)))]=_;have a3:decide (((q:Nat):Int)≠0)=true :=decide_eq_true ab;rw [a2,a3];rfl
end Go.Hb.rY
end
section
namespace Go.Hb
open Go.Hb.rY
theorem tK (b:dm):cx b 1=b.au.getD 1 []:=by unfold cx; rw [if_pos ab]; rfl
end Go.Hb
end
section
namespace Go.Hb
open Go.Hb.rY
theorem Gz (w:ah):
 bg prog 16 (bl [.pointer none]) w (fun v w'=>v= .agg [.int .i64 0,str [],.slice none 0 0,.slice none 0 0,.slice none 0 0,.slice none 0 0,.slice none 0 0].toArray∧Wk w w'):=by
 refine enter func16 U ntmps16 U<|aU 2 U<|e<|du pL fun C ad V A E=> ?_;have ac:=A.size;refine aj 5 U<|p mv<|p (ix mA U U)<|aK 2 U<|ct (U)<|aI 2 U<|p (eG (ps:= []) (L:= [.int .i64 0,.string ⟨⟨[]⟩⟩,.slice none 0 0,.slice none 0 0,.slice none 0 0,.slice none 0 0,.slice none 0 0]) yp U<|U)<|e<|eb lZ U U U U E aF fun O M I=> ?_;have J:az O.heap C [.int .i64 0,str [],.slice none 0 0,.slice none 0 0,.slice none 0 0,.slice none 0 0,.slice none 0 0]:=⟨_,I⟩
 exact ay 4 U<|qF U (iz (cs:= [.int .i64 0,str [],.slice none 0 0,.slice none 0 0,.slice none 0 0,.slice none 0 0,.slice none 0 0]) U kO U fun j Z=>J.aN j)<|⟨U,A.md.trans' M fun k ab h=>by omega⟩
end Go.Hb
end
section
namespace Go.Hb.zr
open Go.Hb.uV
structure LD (w:ah) (B pf:Nat) (aa:Option Addr) (n cA m:Nat) (wv ov:ag) (t:List UInt8) (out:List (List UInt8)):Prop where
 ak:w.heap[pf]? =some (.cells [.slice aa n cA,wv,ov,.int .i64 (m:Nat)].toArray 152 (0,0))
 hp:B≤pf
 wr:bj w B 5 1 wv t.length (U8 t)
 ou:bj w B 9 1 ov out.length (out.map str)
def FF (pf:Nat) (wv ov:ag) (q:Nat):Prop :=q=pf∨wv.ownBlock=some q∨ov.ownBlock=some q
section
variable {w w':ah} {B pf:Nat} {aa:Option Addr} {n cA m:Nat} {wv ov:ag} {t:List UInt8} {out:List (List UInt8)}
theorem LD.wk (h:LD w B pf aa n cA m wv ov t out) (hm:Wk w w'):LD w' B pf aa n cA m wv ov t out:=⟨hm.ak h.ak,h.hp,bh h.wr hm,bh h.ou hm⟩
theorem LD.lt (h:LD w B pf aa n cA m wv ov t out) {q:Nat} (A:FF pf wv ov q):B≤q∧q < w.heap.size:=by
 rcases A with rfl | A | A
 · exact ⟨h.hp,(Array.getElem?_eq_some_iff.1 h.ak).1⟩
 · exact cE h.wr A
 · exact cE h.ou A
theorem KG {a:Option Addr} {n m c:Nat} :(cG a n c).ownBlock=(cG a m c).ownBlock:=by
 cases a <;> rfl
theorem Bn {A C E:Nat→Prop} {s1 s2:Nat} (h:∀ q,E q→C q∨s2≤q) (h':∀ q,C q→A q∨s1≤q) (J:s1≤s2):∀ q,E q→A q∨s1≤q:=fun q I=>by
 rcases h q I with h | h
 · exact h' q h
 · exact .inr ab
theorem Md.Cf {A C:Nat→Prop} {w E I:ah} (h1:Md A w E) (L:∀ q,C q→A q∨w.heap.size≤q) (J:Md C E I):Md A w I:=Md.trans' h1 J fun q M h=>(L q h).resolve_right ab
theorem F5 (t:List UInt8) (c:UInt8):(U8<|t++ [c]).take (t.length*1)=U8 t:=by
 rw [r6,Nat.mul_one,List.take_append_of_le_length (by rw [oB]; exact aQ _),jI (by rw [oB]; exact aQ _)]
end
section
variable {a:List aJ} {t f:List UInt8} {i m q:Nat}
theorem Bp (h:¬((aA a i).1=true∧f= [])):eS a t i f= []:=if_neg h
theorem IH (h:(aA a i).1=true) (A:f= []):eS a t i f= [t]:=if_pos ⟨h,A⟩
theorem II (es:List (UInt8×Int)) (q:Nat):dS a t f es=dS a t f (es.take q)++dS a t f (es.drop q):=by
 conv =>lhs; rw [← List.take_append_drop q es]
 unfold dS; rw [uC]
theorem Br {l:List Nat} {out:List (List UInt8)} (A:fK a l) (hi:i < a.length) (h:((out++eS a t i f++dS a t f ((aA a i).2.take q)).take m).length=m):(out++iP a t i f).take m=(out++eS a t i f++dS a t f ((aA a i).2.take q)).take m:=by
 rw [Bq A hi,II (aA a i).2 q,← gJ,← gJ,Ms h]
theorem pb {c:UInt8} (h:f= []∨f.getD 0 0≠c):kz f c= []:=by
 cases f with
 | nil=>rfl
 | cons d f=>
   show (if c=d then f else [])= []
   rcases h with h | h
   · cases h
   · rw [if_neg (fun e=>h e.symm)]
theorem xQ {c:UInt8} (h0:f≠[]) (h:f.getD 0 0=c):kz f c=f.drop 1:=by
 cases f with
 | nil=>exact absurd rfl h0
 | cons d f=>exact if_pos h.symm
theorem KV {c:UInt8} :(kz f c).length≤f.length:=by
 cases f with
 | nil=>exact aQ _
 | cons d f=>
   show (if c=d then f else []).length≤_;split <;> simp
theorem tR {c:UInt8} (h:f= []∨¬c.toNat < (f.getD 0 0).toNat):mw f c=false :=by
 cases f with
 | nil=>rfl
 | cons d f=>
   rcases h with h | h
   · cases h
   · exact decide_eq_false h
theorem LJ {c:UInt8} (h0:f≠[]) (h:c.toNat < (f.getD 0 0).toNat):mw f c=true :=by
 cases f with
 | nil=>exact absurd rfl h0
 | cons d f=>exact decide_eq_true h
end
set_option maxHeartbeats 2000000 in
theorem IK (r:Nat) (a:List aJ) (l:List Nat) (aa:Option Addr) (cA m:Nat) (w0:ah) (pf:Nat) (wv ov:ag) (t:List UInt8) (out:List (List UInt8)) (i:Nat) (f:List UInt8) (w:ah) (A:fK a l) (bw:ej w0.heap aa a) (ar:Wk w0 w) (E:LD w w0.heap.size pf aa a.length cA m wv ov t out) (hi:i < a.length) (hr:l.idxOf i < r) (d8:t.length+l.idxOf i≤a.length) (dZ:out.length < m) (hm:m≤4096) (dX:f.length≤4294967296):
 bg prog 51 (bl [aT pf,aB i,str f]) w (fun v w'=>v= .bool (decide (((out++iP a t i f).take m).length < m))∧∃ cP cF cH,(((out++iP a t i f).take m).length < m→cH=t)∧LD w' w0.heap.size pf aa a.length cA m cP cF cH ((out++iP a t i f).take m)∧Md (FF pf wv ov) w w'∧∀ q,FF pf cP cF q→FF pf wv ov q∨w.heap.size≤q):=by
 induction r generalizing wv ov t out i f w with
 | zero=>omega
 | succ r ih=>
   have hle:=A.le;obtain ⟨a3,a4,b5,cc⟩:=bw.two hi;have cV:ax w0.heap (bk aa) (fo aa+i*2 +0)=some (.bool (aA a i).1):=b5 0 ab;have cW:ax w0.heap (bk aa) (fo aa+i*2 +1)=some (.slice a3 (aA a i).2.length a4):=b5 1 ab;have d0:=(A.tC hi).len;refine enter func51 U ntmps51 U<|bX 5 U ?_;refine eJ (fun cQ br=> ∃ (bu bm:ag),(LD br w0.heap.size pf aa a.length cA m bu bm t<|(out++eS a t i f).take m)∧(Md (FF pf wv ov) w br)∧(∀ q,FF pf bu bm q→FF pf wv ov q∨w.heap.size≤q)∧(Sl cQ [(0,aT pf),(1,aB i),(2,str f)])) ?_ ?_;refine aU 2 U<|p mv<|aj 2 U<|p (aw U<|az.ax ⟨_,E.ak⟩ 0)<|p mv<|p (bE jX U U ab<|bw.ok ab)<|aj 1 U<|p (aw U<|ar.ax cV)<|aj 1 U<|gb (t:=18) U (fun bf=> ?_) fun bf=> ?_;refine bO U mv<|aK 4 U<|cd U (fun am=> ?_) fun am=> ?_;have dr:f= []:=by first | exact am | simpa using am
   obtain ⟨b0,b1,aE⟩:=di E.wr;obtain ⟨bQ,bR,aW⟩:=di E.ou;have L:(fun w'=>w'.heap[pf]? =some (.cells [.slice aa a.length cA,wv,ov,aB m].toArray 152 (0,0))∧bj w' w0.heap.size 5 1 wv t.length (U8 t)) w.drew:=⟨E.ak,E.wr⟩
   refine lj (fun w'=>w'.heap[pf]? =some (.cells [.slice aa a.length cA,wv,ov,aB m].toArray 152 (0,0))∧bj w' w0.heap.size 5 1 wv t.length (U8 t)) 14 U wide L<|iR 0 U (mv) L<|iR 1 U (mv) L<|dK [2,3] U L<|lq 4 U ai (fun w' A=>aw U (show _=some (cG bQ out.length bR) from aW ▸ az.ax ⟨_,A.1⟩ 2)) L<|iR 5 U (mv) L<|dK [6,7] U L<|lq 8 U ai (fun w' A=>aw U (show _=some (cG b0 t.length b1) from aE ▸ az.ax ⟨_,A.1⟩ 1)) L<|lq 9 U ai (fun w' A=>qt zS U ((cw<|aE ▸ A.2).2)<|U) L<|et 10 U ai<|jO iX U U fun cT bq dT bI cZ=> ?_;have c0:az bq.heap cT [str t]:=cZ;have bz:Wk w bq:=Md.trans (Md.refl _ _).drew bI.md;have a5:=E.wk bz;have d4:=bz.size;have dh:(fun w'=>w'.heap[pf]? =some (.cells [.slice aa a.length cA,wv,ov,aB m].toArray 152 (0,0))∧bj w' w0.heap.size 5 1 wv t.length (U8 t)) bq:=⟨bI.md.ak L.1,bh L.2 bI.md⟩
   refine ⟨dh,?_⟩;refine et 11 U ai<|ap iX (aW ▸ a5.ou) U (by have :=ar.size; omega) U (a9.fQ c0) (U) (U) ab ab fun bU cK cz bb d9 cr=> ?_;have ck:TF bq [11] (fun q=>ov.ownBlock=some q):=TF.own a5.ou rfl;rw [← aW] at bb cr;have bN:=bb.zM ck a5.ak rfl;have cE:=mq a5.wr bb ck rfl;have bM:(fun w'=>w'.heap[pf]? =some (.cells [.slice aa a.length cA,wv,ov,aB m].toArray 152 (0,0))∧bj w' w0.heap.size 5 1 wv t.length (U8 t)) cK:=⟨bN,cE⟩
   refine ⟨bM,?_⟩;refine et 12 U ai<|hO (nc U) ⟨bM,?_⟩;refine dK [13] U bM<|js 14 U ai ai<|cU qv U U (xH cz) bN (by simp) fun cI bB cY=> ?_;have cj:TF cK [154] (fun q=>q=pf):=TF.eq (rp bN) rfl;have c8:LD cI w0.heap.size pf aa a.length cA m wv bU t ((out++eS a t i f).take m):=by
    rw [IH bf dr,jI (by rw [bG]; simp only [dC,ib]; omega)];refine ⟨cY,E.hp,mq cE bB cj U,?_⟩;rw [gK,bG]; exact mq cz bB cj rfl
   have dc:Md (FF pf wv ov) w cI:=Md.trans (Md.trans (bz.mono fun _ _ h=>h.elim)<|bb.mono fun _ _ h=> .inr<|.inr h)<|bB.mono fun _ _ h=> .inl h;have dw:∀ q,FF pf wv bU q→FF pf wv ov q∨w.heap.size≤q:=fun q aD=>by
    rcases aD with h | h | h;exact .inl<|.inl h;exact .inl<|.inr<|.inl h;rcases cr q h with h | h;exact .inl<|.inr<|.inr h;exact .inr ab
   exact jt ai<|tn<|⟨wv,bU,c8,dc,dw,U⟩
   exact aG 1 U<|tn<|⟨wv,ov,(by rw [Bp (fun h=>by first | (rw [bf] at h; exact cJ h.1) | exact am h.2 | exact absurd h.2<|by simpa using am),jD,jI ab]; exact E),(Md.refl _ _),(fun q h=> .inl h),U⟩
   exact ay 7 U<|tn<|⟨wv,ov,(by rw [Bp (fun h=>by first | (rw [bf] at h; exact cJ h.1) | exact am h.2 | exact absurd h.2<|by simpa using am),jD,jI ab]; exact E),(Md.refl _ _),(fun q h=> .inl h),U⟩
   rintro cQ br ⟨bu,bm,b8,ce,ds,dD⟩;refine bJ dD ?_;have ca:Wk w0 br:=Md.trans' ar ce fun q h1 aL=>by have :=(E.lt aL).1; omega
   refine aI 6 U<|p (aw U<|az.ax ⟨_,b8.ak⟩ 0)<|aj 1 U<|p (bE jX U U ab<|bw.ok ab)<|aj 1 U<|p (aw U<|ca.ax cW)<|aK 5 U<|lp (fun b4 cR ao=> ∃ (q:Nat) (I C:ag),(q≤(aA a i).2.length)∧(Wk w0 ao)∧(Md (FF pf wv ov) w ao)∧(∀ q,FF pf I C q→FF pf wv ov q∨w.heap.size≤q)∧(LD ao w0.heap.size pf aa a.length cA m I C t<|(out++eS a t i f++dS a t f ((aA a i).2.take q)).take m)∧(Sl cR [(0,aT pf),(1,aB i),(2,str f),(43,.slice a3 (aA a i).2.length a4),(44,aB ((aA a i).2.length)),(45,aB q)])∧((aA a i).2.length - q=b4)) _ ⟨0,bu,bm,ab,ca,ce,ds,(by rw [List.take_zero]; unfold dS; rw [List.flatMap_nil,jD]; exact b8),U,U⟩ ?_;rintro b4 cR ao ⟨q,I,C,aD,bA,aP,aV,Z,dE,rfl⟩;refine bJ dE<|bX 6 U<|cd U (fun dm=> ?_) fun dm=> ?_;refine bS 5 U ?_;obtain ⟨⟨c,z⟩,hek⟩:∃ e,(aA a i).2[q]? =some e:=⟨_,bC ab⟩
   have dJ:=A.oI hi<|kK hek;simp only at dJ;have bo:=IJ (a:=a) (t:=t) (f:=f) hek;simp only at bo;refine aI 1 U<|p (bE l7 U U ab<|cc.ok ab)<|p (eU qk U (U)<|mz bA<|cc.two hek)<|e<|du Et fun O ee dU ci c2=>e<|eb Ag U U U U c2 (by simp) fun bn cf cX=> ?_;have bx:az bn.heap O [aZ .u8 c.toNat,.int .i64 z]:=⟨_,cX⟩
   have au:Wk ao bn:=Md.trans' ci.md cf fun k dY h=>by omega
   have V:=Z.wk au;have d2:=ci.size;have d1:=cf.size;have d3:=au.size;obtain ⟨b0,b1,aE⟩:=di V.wr;obtain ⟨bQ,bR,aW⟩:=di V.ou;refine aK 4 U<|eT fun aR=>aH [0,1,2] U aR<|cM 3 U aR (show _=some (cG bQ ((out++eS a t i f++dS a t f ((aA a i).2.take q)).take m).length bR) from aW ▸ az.ax ⟨_,V.ak⟩ 2)<|aH [4,5,6,7] U aR<|cM 8 U aR (az.ax ⟨_,V.ak⟩ 3)<|aH [9] U aR<|hn ai<|dn 1 U<|cd U (fun dp=> ?_) fun dp=> ?_;refine aG 9 U<|tr<|ba 2 U<|aO U ?_;have av:=Br (t:=t) (f:=f) (out:=out) (m:=m) (q:=q) A hi ab;refine ⟨?_,I,C,t,fun _=>rfl,?_,Md.drew (aP.trans<|au.mono fun _ _ h=>h.elim),aV⟩;rw [av]; exact congrArg bp (decide_eq_false ab).symm;rw [av]; exact V.wk<|Md.drew<|Md.refl _ _;refine bS 2 U ?_;refine eJ (fun cS cO=> ∃ (dO:Unit),(Wk bn cO)∧(mw f c=false)∧(Sl cS [(0,aT pf),(1,aB i),(2,str f),(8,aT O),(43,.slice a3 (aA a i).2.length a4),(44,aB ((aA a i).2.length)),(45,aB q)])) ?_ ?_;refine bX 1 U<|eT fun al=>aH [0,1,2] U al<|j3 (t:=61) U (fun aC=> ?_) fun aC=> ?_;refine aH [3] U al<|fM 4 U (fun w' A=>aw U<|Wk.ax A<|bx.aN 0) al<|aH [5] U al<|fM 6 U (fun _ _=>sS 0 u9 U U<|by first | exact pY.2 aC | exact pY.2<|by simpa using aC) al<|aH [7,8] U al<|hn ai<|dn 1 U<|cd U (fun dq=> ?_) fun dq=> ?_;exact aG 1 U<|cy<|ba 6 U<|tn<|⟨_,ab,q+1,I,C,ab,(Md.drew<|Md.drew<|bA.trans au),(Md.drew<|Md.drew<|aP.trans<|au.mono fun _ _ h=>h.elim),aV,(by rw [bo,LJ (by simpa using aC) ab,if_pos U,jD]; exact V.wk<|Md.drew<|Md.drew<|Md.refl _ _),U,U⟩
   exact aG 1 U<|tn<|⟨(),(by first | exact Md.refl _ _ | exact Md.drew (Md.refl _ _) | exact Md.drew<|Md.drew<|Md.refl _ _),(by first | exact tR (.inl<|by simpa using aC) | exact tR<|.inr ab),U⟩
   exact aH [3,4,5,6,7,8] U al<|hn ai<|ba 3 U<|tn<|⟨(),(by first | exact Md.refl _ _ | exact Md.drew (Md.refl _ _) | exact Md.drew<|Md.drew<|Md.refl _ _),(by first | exact tR (.inl<|by simpa using aC) | exact tR<|.inr ab),U⟩
   rintro cS cO ⟨dO,ac,sO,dF⟩;refine bJ dF ?_;have c5:=Wk.B ac bx;obtain ⟨cp,dR⟩:=Mt (xs:=out++eS a t i f++dS a t f ((aA a i).2.take q)) (m:=m) ab;have dQ:=congrArg lP cp;refine bS 5 U ?_;refine eJ (fun b3 bt=> ∃ (dN:Unit),(Wk bn bt)∧(b3 9=str (kz f c))∧(Sl b3 [(0,aT pf),(1,aB i),(2,str f),(8,aT O),(43,.slice a3 (aA a i).2.length a4),(44,aB ((aA a i).2.length)),(45,aB q)])) ?_ ?_;refine bX 1 U<|eT fun ad=>aH [0,1,2] U ad<|j3 (t:=70) U (fun M=> ?_) fun M=> ?_;refine aH [3] U ad<|fM 4 U (fun w' A=>aw U<|Wk.ax A<|c5.aN 0) ad<|aH [5] U ad<|fM 6 U (fun _ _=>sS 0 u9 U U<|by first | exact pY.2 M | exact pY.2<|by simpa using M) ad<|aH [7,8] U ad<|hn ai<|dn 1 U<|cd U (fun bd=> ?_) fun bd=> ?_;exact aI 2 U<|p (Du u9 U U (by have h:0 < f.length:=(by first | exact pY.2 M | exact pY.2<|by simpa using M); omega))<|ay 2 U<|tn<|⟨(),(by first | exact ac | exact Md.drew ac),(by first | (rw [xQ (by simpa using M) (oo.1 ab)]; rfl) | (rw [pb (.inl<|by simpa using M)]; rfl) | (rw [pb (.inr fun e=>bd<|by rw [e])]; rfl)),U⟩
   exact aG 1 U<|tn<|⟨(),(by first | exact ac | exact Md.drew ac),(by first | (rw [xQ (by simpa using M) (oo.1 ab)]; rfl) | (rw [pb (.inl<|by simpa using M)]; rfl) | (rw [pb (.inr fun e=>bd<|by rw [e])]; rfl)),U⟩
   exact aH [3,4,5,6,7,8] U ad<|hn ai<|ba 3 U<|tn<|⟨(),(by first | exact ac | exact Md.drew ac),(by first | (rw [xQ (by simpa using M) (oo.1 ab)]; rfl) | (rw [pb (.inl<|by simpa using M)]; rfl) | (rw [pb (.inr fun e=>bd<|by rw [e])]; rfl)),U⟩
   rintro b3 bt ⟨dN,a8,dH,dG⟩;refine bJ dG<|fx 9 dH ?_;have b9:=V.wk a8;have b7:=Wk.B a8 bx;have ec:=a8.size;rw [sO,if_neg Bool.false_ne_true] at bo;have dj:out++eS a t i f++dS a t f ((aA a i).2.take<|q+1)=out++eS a t i f++dS a t f ((aA a i).2.take q)++iP a (t++ [c]) z.toNat (kz f c):=by rw [bo,gJ,gJ,gJ]
   refine bS 1 U ?_;have ae:(fun w'=>w'.heap[pf]? =some (.cells [.slice aa a.length cA,I,C,aB m].toArray 152 (0,0))∧az w'.heap O [aZ .u8 c.toNat,.int .i64 z]) bt.drew:=⟨b9.ak,b7⟩
   refine lj (fun w'=>w'.heap[pf]? =some (.cells [.slice aa a.length cA,I,C,aB m].toArray 152 (0,0))∧az w'.heap O [aZ .u8 c.toNat,.int .i64 z]) 11 U wide ae<|dK [0,1,2,3] U ae<|lq 4 U ai (fun w' A=>aw U (show _=some (cG b0 t.length b1) from aE ▸ az.ax ⟨_,A.1⟩ 1)) ae<|dK [5] U ae<|lq 6 U ai (fun w' A=>aw U<|A.2.ax 0) ae<|et 7 U ai<|jO kA U U fun dP bW dV bK c3=> ?_;have a7:Wk bt bW:=Md.trans (Md.refl _ _).drew bK.md;have a6:=b9.wk a7;have d6:=a7.size;have d7:=bA.size;have de:(fun w'=>w'.heap[pf]? =some (.cells [.slice aa a.length cA,I,C,aB m].toArray 152 (0,0))∧az w'.heap O [aZ .u8 c.toNat,.int .i64 z]) bW:=⟨bK.md.ak ae.1,bK.md.B ae.2⟩
   refine ⟨de,?_⟩;refine et 8 U ai<|ap kA (aE ▸ a6.wr) U (by have :=ar.size; omega) U (a9.fQ c3) (U) (U) ab ab fun bV cL cB aM ea ct=> ?_;have cn:TF bW [7] (fun q=>I.ownBlock=some q):=TF.own a6.wr rfl;rw [← aE] at aM ct;have bP:=aM.zM cn a6.ak rfl;have dz:=mq a6.ou aM cn rfl;have cq:=aM.B (a7.B b7) fun h=>by have :=(Z.lt<|.inr<|.inl h).2; omega
   have bL:(fun w'=>w'.heap[pf]? =some (.cells [.slice aa a.length cA,I,C,aB m].toArray 152 (0,0))∧az w'.heap O [aZ .u8 c.toNat,.int .i64 z]) cL:=⟨bP,cq⟩
   refine ⟨bL,?_⟩;refine et 9 U ai<|hO (nc U) ⟨bL,?_⟩;refine dK [10] U bL<|js 11 U ai ai<|cU vx U U (xH cB) bP (by simp) fun a0 bc c1=> ?_;have cm:TF cL [154] (fun q=>q=pf):=TF.eq (rp bP) rfl;have c6:LD a0 w0.heap.size pf aa a.length cA m bV C (t++ [c]) ((out++eS a t i f++dS a t f ((aA a i).2.take q)).take m):=by
    refine ⟨c1,E.hp,?_,mq dz bc cm U⟩;rw [r6,bG]; exact mq cB bc cm rfl
   have dl:=bc.B cq fun h=>by have :=(Z.lt<|.inl h).2; omega
   have dd:Md (FF pf I C) ao a0:=Md.trans (Md.trans ((Md.trans (au.trans a8) a7).mono fun _ _ h=>h.elim)<|aM.mono fun _ _ h=> .inr<|.inl h)<|bc.mono fun _ _ h=> .inl h;have dx:∀ q,FF pf bV C q→FF pf I C q∨ao.heap.size≤q:=fun q aD=>by
    rcases aD with h | h | h;exact .inl<|.inl h;rcases ct q h with h | h;exact .inl<|.inr<|.inl h;exact .inr ab;exact .inl<|.inr<|.inr h
   have bH:Md (FF pf wv ov) w a0:=Md.Cf aP aV dd;have dI:=aP.size;have cs:=Bn dx aV dI;have c9:Wk w0 a0:=Md.trans' ar bH fun q h1 aL=>by have :=(E.lt aL).1; omega
   refine jt ai<|gy 6 U<|p (aw U (show _=some (aZ .i64 ((z.toNat:Nat):Int)) from (dl.ax 1).trans<|congrArg (fun z=>some<|aZ .i64 z) ab))<|aj 1 U<|e<|aX (ih bV C (t++ [c]) ((out++eS a t i f++dS a t f ((aA a i).2.take q)).take m) z.toNat (kz f c) a0 c9 c6 ab ab (by rw [bG,og]; omega) ab<|by have :=KV (f:=f) (c:=c); omega) U ?_;rintro ed bZ ⟨cD,b2,aF,t3,cC,aq,db,dv⟩;have ch:Md (FF pf wv ov) w bZ:=Md.Cf bH cs db;have d5:=bH.size;have cu:=Bn dv cs ab;rw [cp,← dj] at cD aq cC;subst cD;refine aK 3 U<|cb U (fun aS=> ?_) fun aS=> ?_;have cx:¬((out++eS a t i f++dS a t f ((aA a i).2.take<|q+1)).take m).length < m:=fun h=>by rw [decide_eq_true h] at aS; cases aS
   refine aG 9 U<|tr<|ba 2 U<|aO U ?_;have av:=Br (t:=t) (f:=f) (out:=out) (m:=m) (q:=q+1) A hi<|by have :=List.length_take_le m (out++eS a t i f++dS a t f ((aA a i).2.take<|q+1)); omega
   refine ⟨?_,b2,aF,t3,?_,?_,ch,cu⟩;rw [av]; exact congrArg bp (decide_eq_false cx).symm;rw [av]; exact fun h=>absurd h cx;rw [av]; exact aq;have dy:((out++eS a t i f++dS a t f ((aA a i).2.take<|q+1)).take m).length < m:=Classical.byContradiction fun h=>by rw [decide_eq_false h] at aS; cases aS
   obtain rfl :=cC dy;have bi:=aq.wr;rw [show (t++ [c]).length=t.length+1 by rw [bG]; rfl] at bi;obtain ⟨a1,a2,aY⟩:=di bi;have dW:=(cw<|aY ▸ bi).1;refine bS 2 U ?_;have J:(fun w'=>w'.heap[pf]? =some (.cells [.slice aa a.length cA,b2,aF,aB m].toArray 152 (0,0))) bZ.drew:=aq.ak;refine lj (fun w'=>w'.heap[pf]? =some (.cells [.slice aa a.length cA,b2,aF,aB m].toArray 152 (0,0))) 14 U wide J<|dK [0,1,2,3] U J<|lq 4 U ai (fun w' A=>aw U (show _=some (cG a1 (t.length+1) a2) from aY ▸ az.ax ⟨_,A⟩ 1)) J<|dK [5,6,7] U J<|lq 8 U ai (fun w' A=>aw U (show _=some (cG a1 (t.length+1) a2) from aY ▸ az.ax ⟨_,A⟩ 1)) J<|dK [9] U J<|iR 10 U (pn<|t.length) J<|iR 11 U (yi qE U U ab) J<|et 12 U ai<|hO (nc U) ⟨J,?_⟩;refine dK [13] U J<|js 14 U ai ai<|cU vx U U U J (by simp) fun bY bF c4=> ?_;have co:TF bZ [154] (fun q=>q=pf):=TF.eq (rp aq.ak) rfl;have c7:LD bY w0.heap.size pf aa a.length cA m (.slice a1 t.length a2) aF t ((out++eS a t i f++dS a t f ((aA a i).2.take<|q+1)).take m):=by
    refine ⟨c4,E.hp,?_,mq aq.ou (Md.dg bF) co U⟩;have b6:=KF (aY ▸ bi) (k:=t.length) ab ab;rw [F5] at b6;exact mq b6 (Md.dg bF) co U
   have cg:Md (FF pf wv ov) w bY:=Md.trans ch<|(Md.dg bF).mono fun _ _ h=> .inl h;have da:Wk w0 bY:=Md.trans' ar cg fun q h1 aL=>by have :=(E.lt aL).1; omega
   have dt:∀ q,FF pf (cG a1 t.length a2) aF q→FF pf wv ov q∨w.heap.size≤q:=fun q aD=>cu q (by
    rcases aD with h | h | h;exact .inl h;exact .inr<|.inl<|by rw [aY,KG]; exact h
    exact .inr (.inr h))
   exact jt ai<|ba 6 U<|tn<|⟨_,ab,q+1,.slice a1 t.length a2,aF,ab,da,cg,dt,c7,U,U⟩
   refine aG 2 U<|cy<|dn 3 U ?_;obtain ⟨dL,dM,dA⟩:=di Z.ou;refine eT fun aQ=>aH [0,1,2] U aQ<|cM 3 U aQ (show _=some (cG dL ((out++eS a t i f++dS a t f ((aA a i).2.take q)).take m).length dM) from dA ▸ az.ax ⟨_,Z.ak⟩ 2)<|aH [4,5,6,7] U aQ<|cM 8 U aQ (az.ax ⟨_,Z.ak⟩ 3)<|aH [9,10] U aQ<|hn ai<|ba 2 U<|aO U ?_;have dB:q=(aA a i).2.length:=ab;have cv:((out++iP a t i f).take m)=((out++eS a t i f++dS a t f ((aA a i).2.take q)).take m):=by rw [dB,uO,Bq A hi,gJ]
   refine ⟨?_,I,C,t,fun _=>rfl,?_,Md.drew aP,aV⟩;rw [cv]; exact bv ab;rw [cv]; exact Z.wk<|Md.drew<|Md.refl _ _
def eV (a:List aJ) (f:List UInt8) (A:Int):List (List UInt8):=if shaped a=true∧1≤A then ((eZ a 0).filter<|jq f).take (min A 4096).toNat else []
theorem xi {a:List aJ} {f:List UInt8} {A:Int} (h:shaped a=false∨A < 1):eV a f A= []:=by
 unfold eV;rw [if_neg (fun e=>by rcases h with h | h; rw [h] at e; exact cJ e.1; omega)]
theorem JQ (f:List UInt8) (A:Int):eV [] f A= []:=xi<|.inl rfl
theorem JP {a:List aJ} {E:Int} {f u:List UInt8} (h:u∈eV a f E):∃ l,fK a l∧u∈eZ a 0:=by
 unfold eV at h;split at h
 · rename_i C;obtain ⟨l,A⟩:=tP C.1;exact ⟨l,A,(mI.1<|List.mem_of_mem_take h).1⟩
 · cases h
theorem Ef (a:List aJ) (aa:Option Addr) (cA:Nat) (f:List UInt8) (A:Int) (w:ah) (ac:ej w.heap aa a) (aB:a.length≤1048576) (ar:∀ i,i < a.length→(aA a i).2.length≤1073741824) (au:f.length≤4294967296):
 bg prog 30 (bl [.slice aa a.length cA,str f,.int .i64 A]) w (fun v w'=>(∃ x e,v= .tuple #[x,.int .i64 e]∧bj w' w.heap.size 9 1 x (eV a f A).length ((eV a f A).map str))∧Wk w w'):=by
 refine enter func30 U ntmps30 U<|aU 9 U<|p mv<|e<|aX (Dm a aa cA w ac ab ar) U ?_;rintro v11 ai ⟨rfl,C⟩;refine aK 9 U<|cd U (fun ag=> ?_) fun ag=> ?_;have I:shaped a=false :=by cases h:shaped a with | false =>rfl | true =>exact absurd (ri h) ag
 refine aG 9 U<|f2 U U U ?_;rw [xi (.inl I)];exact ⟨⟨_,_,U,fv _ _ _ _⟩,C⟩;have I:shaped a=true :=by cases h:shaped a with | true =>rfl | false =>have Z:=kd h; omega
 refine aI 5 U<|p mv<|aK 3 U<|cd U (fun aq=> ?_) fun aq=> ?_;refine aG 8 U<|f2 U U U ?_;rw [xi (.inr ab)];exact ⟨⟨_,_,U,fv _ _ _ _⟩,C⟩;refine aI 4 U<|p mv<|p mv<|p (mn U U)<|p (eG (ps:= [(0,.slice aa a.length cA),(3,.int .i64 (min A 4096))]) (L:= [.slice aa a.length cA,.slice none 0 0,.slice none 0 0,.int .i64 (min A 4096)]) LY U<|U)<|e<|sg (L:= [.slice aa a.length cA,.slice none 0 0,.slice none 0 0,.int .i64 (min A 4096)]) U fun V O aC M ad=> ?_;have aF:=M.size;obtain ⟨od,E⟩:=tP I;obtain ⟨m,hm⟩:∃ m:Nat,min A 4096=(m:Int):=⟨(min A 4096).toNat,ab⟩
 rw [hm] at ad;have ae:LD O ai.heap.size V aa a.length cA m (.slice none 0 0) (.slice none 0 0) [] []:=⟨ad,ab,fv _ _ _ _,fv _ _ _ _⟩
 have aE:=E.rk E.pos;have al:Wk w O:=C.trans M.md;refine aj 6 U<|p mv<|e<|aX (IK (od.idxOf 0 +1) a od aa cA m ai V (.slice none 0 0) (.slice none 0 0) [] [] 0 f O E (ac.wk C) M.md ae E.pos ab (by simp only [ib]; omega) (by simp only [ib]; omega) ab au) U ?_;rintro aN av ⟨rfl,aO,aM,t4,_,J,ap,_⟩;have am:Wk w av:=al.trans' ap fun q h1 Z=>by have :=(ae.lt Z).1; have :=C.size; omega
 have ao:(eV a f A)=(([]:List (List UInt8))++iP a [] 0 f).take m:=by
  unfold eV;rw [if_pos ⟨I,ab⟩,hm,Int.toNat_natCast,p7];unfold iP; simp
 obtain ⟨aH,aL,aD⟩:=di J.ou;refine aj 7 U<|p (aw U<|az.ax ⟨_,J.ak⟩ 2)<|p aR<|ay 4 U<|f2 U U U ?_;rw [ao];exact ⟨⟨_,_,U,mr J.ou C.size⟩,am⟩
theorem xf (B C:Nat) (b:dm) (I:List UInt8) (n:Int) (f:List UInt8) (A:Int) (w:ah) (J:cH w B C b I) (E:ij (cx b n)) (M:f.length≤4294967296):
 bg prog 18 (bl [aT C,.int .i64 n,str f,.int .i64 A]) w (fun v w'=>bj w' w.heap.size 9 1 v (eV (cx b n) f A).length ((eV (cx b n) f A).map str)∧Wk w w'):=by
 refine enter func18 U ntmps18 U<|aU 7 U<|p mv<|p mv<|e<|aX (C9 B C b I n w J) U ?_;rintro Z V ⟨⟨aa,cc,rfl,L⟩,hE14⟩;refine p mv<|p mv<|e<|aX (Ef (cx b n) aa cc f A V L E.1 (fun i hi=>cn (E.st hi).1 aF) M) U ?_;rintro ab ac ⟨⟨x,e,rfl,O⟩,hE17⟩;exact p mv<|aj 2 U<|p aR<|aj 5 U<|p mv<|p aR<|ay 3 U<|aO U<|⟨mr O hE14.size,hE14.trans hE17⟩
theorem JI (n:Int) (f:List UInt8) (E:Int) (w:ah) (I:f.length≤4294967296):
 bg prog 18 (bl [.pointer none,.int .i64 n,str f,.int .i64 E]) w (fun v w'=>bj w' w.heap.size 9 1 v 0 []∧Wk w w'):=by
 refine enter func18 U ntmps18 U<|aU 7 U<|p mv<|p mv<|e<|aX (Lq n w) U ?_;rintro L J ⟨rfl,A⟩;refine p mv<|p mv<|e<|aX (Ef [] none 0 f E J (ej.none _) (by simp) (fun i hi=>by simp at hi) I) U ?_;rintro M O ⟨⟨x,e,rfl,C⟩,hE17⟩;rw [JQ] at C;exact p mv<|aj 2 U<|p aR<|aj 5 U<|p mv<|p aR<|ay 3 U<|aO U<|⟨mr C A.size,A.trans hE17⟩
end Go.Hb.zr
end
section
namespace Go.Hb
def zv (z:Int):ag:= .int .i64 z
section
variable {α:Type} {n i k:Nat} {g h:Nat→α}
end
section
variable {pc:Nat→Nat→Bool} {n i j k:Nat}
end
end Go.Hb
end
section
namespace Go.Hb
open Go.Hb.uV Go.Hb.rY Go.Hb.zr
section
variable {P:Program} {N:Fm} {σ:Nat→ag} {w:ah} {dst:Option Nat} {ty:TypeId} {pos :String} {af:Array Edge} {g:Option (Nat×Bool)} {x y:Operand}
theorem K2 {t I:TypeId} {k:IntKind} {a b:Int} (v:Int) (C:ev N σ x= .int k a) (E:ev N σ y= .int k b) (h0:0≤a∧0 < b) (A:a % b=v):(execOp (ev N σ) ⟨dst,.binOp .rem t x y I,ty,pos,af,g⟩).run P w= .ok (.value<|.int k v) w:=by
 subst A; exact rm C E h0
end
theorem KI {k:Int} {n:Nat} (h:n≠0):∃ j:Nat,max 0 k % (n:Int)=(j:Int)∧j < n:=by
 have h1:=Int.emod_nonneg (max 0 k) (show (n:Int)≠0 by omega);have A:=Int.emod_lt_of_pos (max 0 k) (show (0:Int) < n by omega);exact ⟨(max 0 k % (n:Int)).toNat,ab,ab⟩
theorem JR {a:List aJ} {C:Int} {f u:List UInt8} (h:u∈eV a f C):fy a u=true∧u.length≤1048576:=by
 obtain ⟨l,A,hu⟩:=JP h;exact ⟨(El A u).1 hu,NB A hu⟩
theorem xj (a:List aJ) (f:List UInt8) (A:Int):(eV a f A).length≤4096:=by
 unfold eV;split
 · rw [cO]; omega
 · exact fw _
theorem Kj {a:List aJ} {least:Nat} (E:shaped a=true) (h:gA least (eV a [] 60)= []) (w:List UInt8):dJ a least w=(0,true)∨60 < (eV a [] 61).length:=by
 obtain ⟨l,C⟩:=tP E;have e:∀ A:Int,1≤A→A≤4096→eV a [] A=(eZ a 0).take A.toNat:=fun A h1 J=>by
  unfold eV;have I:(eZ a 0).filter (jq [])=eZ a 0:=List.filter_eq_self.2 fun _ _=>rfl;rw [if_pos ⟨E,h1⟩,show min A 4096=A by omega,I]
 rw [e 61 ab ab];by_cases L:(eZ a 0).length≤60
 · left;have h0:=C.pos;refine Hi (fun e=>by rw [e] at h0; simp at h0) (fun p hp hle=> ?_) w;rw [e 60 ab ab,jI ab] at h;have hm:p∈gA least (eZ a 0):=by
    unfold gA;rw [mI];exact ⟨(El C p).2 hp,decide_eq_true hle⟩
   rw [h] at hm; cases hm
 · right;rw [cO]; omega
theorem Ks (s J:List UInt8) (k:Int) (b:dm) (w:ah) (bN:cP 524 bF w) (b7:s.length≤1048576) (cK:J.length≤1048576) (aN:bI s= .ok b):
 bg prog 7 (bl [str s,str J,.int .i64 k]) w (fun v w'=>v= .bool true∧Wk w w'):=by
 have V:=su aN;have ax:ij (cx b 1):=Lp V 1;have cH:b.least≤64:=V.least.2;have b3:1≤b.least:=V.least.1;have aQ:shaped (b.au.getD 1 [])=true :=(V.au _<|j1 (l:=b.au) (i:=1) (d:= [])<|by rw [V.qV]; decide).1;have b1:(b.au.getD 1 [])≠[]:=fun e=>by rw [e] at aQ; exact absurd aQ aF
 refine enter func7 U ntmps7 U<|aU 7 U<|p mv<|e<|aX (CN s w b7) U ?_;rintro cY cb ⟨cV,c8,c9,x2,da,db,dc,dd,cU,rfl,b6,a1,b9⟩;have cL:=a1.size;obtain ⟨ac,bo,rfl,rfl,a7,bx,cu⟩:=b9.resolve_right fun ⟨_,_,cr,h⟩=>by rw [aN] at h; cases h
 obtain rfl :b=bo:=by rw [aN] at a7; cases a7; rfl
 refine p mv<|aj 4 U<|e<|du pJ fun cq c7 cC a6 bv=> ?_;have cR:=a6.size;refine p aR<|e<|eb kT U U U b6 bv aF fun aV a5 ct=> ?_;have cS:=a5.size;have a4:Wk cb aV:=a6.md.trans' a5 fun k b0 h=>by omega
 have a0:=a1.trans a4;have bM:cP 524 bF aV:=bN.mono a0 fun _ _ h=>h;refine aj 10 U<|gb (t:=31) U (fun h=>absurd (h.symm.trans<|U) cJ) fun cG=>eg U U U<|aX (Ec aV bM) U ?_;rintro cZ ce ⟨rfl,a2⟩;have bA:=a0.trans a2;have aZ:=(bx.wk a4).wk a2;refine aK 4 U<|cf (U)<|aI 4 U<|p mv<|e<|aX (zO _ ac b s ce aZ V) U ?_;rintro c0 ch ⟨cs,rfl,⟨cW,rc,vs,rfl,_⟩,hE36⟩;have aY:=aZ.wk hE36;refine p U<|aj 11 U<|p mv<|e<|aX (xf _ ac b s 1 [] 60 ch aY ax aF) U ?_;rintro c1 aE ⟨aD,aH⟩;rw [tK] at aD;obtain ⟨L,az⟩:∃ L,eV (b.au.getD 1 []) [] 60=L:=⟨_,rfl⟩
 rw [az] at aD;have aM:∀ u∈L,fy (b.au.getD 1 []) u=true∧u.length≤1048576:=fun u hu=>JR<|by rw [az]; exact hu
 have cv:L.length≤4096:=by rw [← az]; exact xj _ _ _
 obtain ⟨bm,bq,rfl⟩:=di aD;have bw:=aY.wk aH;have bz:=(bA.trans hE36).trans aH;have a8:=(cw aD).2;have cT:=aH.size;refine aK 5 U<|lp (fun aW bi av=> ∃ (q:Nat) (ar:ag),(q≤L.length)∧(bj av aE.heap.size 9 1 ar (gA b.least<|L.take q).length<|(gA b.least<|L.take q).map str)∧(Wk aE av)∧(Sl bi [(1,str J),(2,.int .i64 k),(7,aT ac),(11,aB (b.least)),(12,ar),(39,.slice bm L.length bq),(40,aB (L.length)),(41,aB q)])∧(L.length - q=aW)) _ ⟨0,.slice none 0 0,ab,(fv _ _ _ _),(Md.refl _ _),U,U⟩ ?_;rintro aW bi av ⟨q,ar,cI,ae,ad,b8,rfl⟩;refine bJ b8<|bX 6 U<|cd U (fun bP=> ?_) fun bP=> ?_;refine bS 5 U ?_;obtain ⟨C,aA⟩:∃ C,L[q]? =some C:=⟨_,bC ab⟩
 have aP:=aM C<|kK aA;have bW:=BW b.least<|L.take q;rw [cO] at bW;refine aI 1 U<|p (bE sF U U ab<|a9.ok (a8.wk ad)<|th ab)<|p (aw U<|a9.qn (a8.wk ad) (show (_:List ag)[q]? =some (str C) by rw [gu,aA]; rfl)) ?_;refine aK 11 U<|cd U (fun bQ=> ?_) fun bQ=> ?_;refine aI 1 U<|tz (ar)<|aj 1 U<|e<|jO iX U U fun cp c6 cB aC bu=> ?_;have cM:=aC.size;refine e<|ap iX (bh ae aC.md) U (by have :=ad.size; omega) U (a9.fQ bu) (U) (U) ab ab fun bc bd b4 bK cQ cF=> ?_;have bH:Wk aE bd:=(ad.trans aC.md).trans' bK fun k b0 h=>by have :=(cE (bh ae aC.md) h).1; omega
 have b5:bj bd aE.heap.size 9 1 bc (gA b.least<|L.take<|q+1).length ((gA b.least<|L.take<|q+1).map str):=by
  rw [BX aA,if_pos ab,gK,bG]; exact b4
 exact p aR<|aj 4 U<|p (cg<|q+1)<|ay 2 U<|tn<|⟨_,ab,q+1,bc,ab,b5,bH,U,U⟩
 exact aI 4 U<|p (cg<|q+1)<|ay 2 U<|tn<|⟨_,ab,q+1,ar,ab,(by rw [BX aA,if_neg ab,jD]; exact ae),ad,U,U⟩
 refine aG 2 U<|cy<|dn 4 U ?_;obtain rfl :q=L.length:=ab;rw [uO] at ae;obtain ⟨cm,co,rfl⟩:=di ae;have bL:∀ C∈gA b.least L,0 < C.length∧b.least≤C.length∧fy (b.au.getD 1 []) C=true∧C.length≤1048576:=fun C hp=>by
  obtain ⟨h1,M⟩:=JM hp;exact ⟨ab,M,(aM C h1).1,(aM C h1).2⟩
 have cz:=BW b.least L;have ak:=bz.trans ad;have ai:=bw.wk ad;refine bS 6 U<|cd U (fun bR=> ?_) fun bR=> ?_;refine bS 1 U ?_;have ba:=Kj (a:=b.au.getD 1 []) (least:=b.least) aQ (by rw [az]; exact List.eq_nil_of_length_eq_zero ab) J;refine aI 3 U<|e<|aX (sn _ ac b s J av ai V ab) U ?_;rintro c2 bf ⟨rfl,al⟩;refine p mv<|aj 10 U<|gb (t:=64) U (fun am=> ?_) fun am=> ?_;refine aj 4 U<|gs (t:=68) U (fun ao=> ?_) fun ao=> ?_;exact aj 5 U<|p aR<|ay 4 U<|aO U<|⟨U,ak.trans al⟩
 refine aj 1 U<|eg U U U<|aX (xf _ ac b s 1 [] 61 bf (ai.wk al) ax aF) U ?_;rintro ca ci ⟨aq,aJ⟩;rw [tK] at aq;obtain ⟨bn,br,rfl⟩:=di aq;have b2:=xj (b.au.getD 1 []) [] 61;refine ay 8 U<|aO U ?_;have bt:60 < (eV (b.au.getD 1 []) [] 61).length:=by
  rcases ba with h | h
  first | (rw [h] at am; exact absurd am aF) | (rw [h] at ao; exact absurd rfl ao)
  exact h
 exact ⟨congrArg bp (decide_eq_true ab),(ak.trans al).trans aJ⟩;refine aj 3 U<|p mv<|aj 1 U<|eg U U U<|aX (xf _ ac b s 1 [] 61 bf (ai.wk al) ax aF) U ?_;rintro ca ci ⟨aq,aJ⟩;rw [tK] at aq;obtain ⟨bn,br,rfl⟩:=di aq;have b2:=xj (b.au.getD 1 []) [] 61;refine ay 8 U<|aO U ?_;have bt:60 < (eV (b.au.getD 1 []) [] 61).length:=by
  rcases ba with h | h
  first | (rw [h] at am; exact absurd am aF) | (rw [h] at ao; exact absurd rfl ao)
  exact h
 exact ⟨congrArg bp (decide_eq_true ab),(ak.trans al).trans aJ⟩;refine bS 3 U ?_;obtain ⟨aS,bZ,bY⟩:=KI (k:=k) (n:=(gA b.least L).length) ab;obtain ⟨C,bb⟩:∃ C,(gA b.least L)[aS]? =some C:=⟨_,bC bY⟩
 have aP:=bL C<|kK bb;refine aI 3 U<|p (mx U U)<|aj 2 U<|p (K2 (((aS:Nat):Int)) U U ab<|bZ)<|p (bE sF U U ab<|a9.ok ((cw ae).2)<|th ab)<|p (aw U<|a9.qn (cw ae).2 (show (_:List ag)[aS]? =some (str C) by rw [gu,bb]; rfl)) ?_;refine aK 14 U<|cd U (fun bU=> ?_) fun bU=> ?_;exact aG 7 U<|aO U<|⟨U,ak⟩
 refine bS 3 U ?_;have bV:∀ u,(dJ (b.au.getD 1 []) b.least u).1≤1099511627776:=fun u=>by
  unfold dJ; split;exact fw _;split;exact fw _;rename_i h; unfold dX at h; show (jC _ _ 0).2≤_; omega
 have cD:=bV J;have Z:=Ku (l:=b.au.getD 1 []) (least:=b.least) b1 b3 aP.2.1 aP.2.2.1 (w:=J) ab;refine aI 3 U<|e<|aX (sn _ ac b s J av ai V ab) U ?_;rintro c3 cj ⟨rfl,aL⟩;refine p mv<|aj 11 U<|p (cc U U ab)<|e<|aX (sn _ ac b s (J++C) cj (ai.wk aL) V<|by rw [bG]; omega) U ?_;rintro c4 ck ⟨rfl,a3⟩;refine p mv<|aj 11 U<|e<|aX (I6 _ ac b s 1 J ck ((ai.wk aL).wk a3) ax ab) U ?_;rintro cX c5 ⟨rfl,bB⟩;rw [tK];have A:=((ak.trans aL).trans a3).trans bB;refine aj 1 U<|gb (t:=105) U (fun O=> ?_) fun O=> ?_;refine aK 7 U<|cd U (fun bO=> ?_) fun bO=> ?_;refine aI 2 U<|p (cg<|(dJ (b.au.getD 1 []) b.least J).1 +1)<|aj 8 U<|gb (t:=115) U (fun E=> ?_) fun E=> ?_;refine aj 3 U<|p mv<|aj 4 U<|p aR<|ay 3 U<|aO U ?_
 first
 | exact ⟨rfl,A⟩
 | (have h1:=Z (by simpa using E) (by simpa using I)
    exact ⟨congrArg bp (decide_eq_true<|by first | (rw [if_pos ⟨by simpa using O,ab⟩] at h1; omega) | (have M:=cn (lR _ _) h1; omega)),A⟩)
 refine aj 4 U<|gb (t:=119) U (fun I=> ?_) fun I=> ?_;refine aj 4 U<|p aR<|ay 3 U<|aO U ?_
 first
 | exact ⟨rfl,A⟩
 | (have h1:=Z (by simpa using E) (by simpa using I)
    exact ⟨congrArg bp (decide_eq_true<|by first | (rw [if_pos ⟨by simpa using O,ab⟩] at h1; omega) | (have M:=cn (lR _ _) h1; omega)),A⟩)
 refine ay 8 U<|aO U ?_
 first
 | exact ⟨rfl,A⟩
 | (have h1:=Z (by simpa using E) (by simpa using I)
    exact ⟨congrArg bp (decide_eq_true<|by first | (rw [if_pos ⟨by simpa using O,ab⟩] at h1; omega) | (have M:=cn (lR _ _) h1; omega)),A⟩)
 refine aI 7 U<|gb (t:=115) U (fun E=> ?_) fun E=> ?_;refine aj 3 U<|p mv<|aj 4 U<|p aR<|ay 3 U<|aO U ?_
 first
 | exact ⟨rfl,A⟩
 | (have h1:=Z (by simpa using E) (by simpa using I)
    exact ⟨congrArg bp (decide_eq_true<|by first | (rw [if_pos ⟨by simpa using O,ab⟩] at h1; omega) | (have M:=cn (lR _ _) h1; omega)),A⟩)
 refine aj 4 U<|gb (t:=119) U (fun I=> ?_) fun I=> ?_;refine aj 4 U<|p aR<|ay 3 U<|aO U ?_
 first
 | exact ⟨rfl,A⟩
 | (have h1:=Z (by simpa using E) (by simpa using I)
    exact ⟨congrArg bp (decide_eq_true<|by first | (rw [if_pos ⟨by simpa using O,ab⟩] at h1; omega) | (have M:=cn (lR _ _) h1; omega)),A⟩)
 refine ay 8 U<|aO U ?_
 first
 | exact ⟨rfl,A⟩
 | (have h1:=Z (by simpa using E) (by simpa using I)
    exact ⟨congrArg bp (decide_eq_true<|by first | (rw [if_pos ⟨by simpa using O,ab⟩] at h1; omega) | (have M:=cn (lR _ _) h1; omega)),A⟩)
 refine aj 15 U<|gb (t:=115) U (fun E=> ?_) fun E=> ?_;refine aj 3 U<|p mv<|aj 4 U<|p aR<|ay 3 U<|aO U ?_
 first
 | exact ⟨rfl,A⟩
 | (have h1:=Z (by simpa using E) (by simpa using I)
    exact ⟨congrArg bp (decide_eq_true<|by first | (rw [if_pos ⟨by simpa using O,ab⟩] at h1; omega) | (have M:=cn (lR _ _) h1; omega)),A⟩)
 refine aj 4 U<|gb (t:=119) U (fun I=> ?_) fun I=> ?_;refine aj 4 U<|p aR<|ay 3 U<|aO U ?_
 first
 | exact ⟨rfl,A⟩
 | (have h1:=Z (by simpa using E) (by simpa using I)
    exact ⟨congrArg bp (decide_eq_true<|by first | (rw [if_pos ⟨by simpa using O,ab⟩] at h1; omega) | (have M:=cn (lR _ _) h1; omega)),A⟩)
 refine ay 8 U<|aO U ?_
 first
 | exact ⟨rfl,A⟩
 | (have h1:=Z (by simpa using E) (by simpa using I)
    exact ⟨congrArg bp (decide_eq_true<|by first | (rw [if_pos ⟨by simpa using O,ab⟩] at h1; omega) | (have M:=cn (lR _ _) h1; omega)),A⟩)
theorem Kt (s A:List UInt8) (k:Int) (ad:Nat) (w:ah) (au:cP 524 bF w) (az:s.length≤1048576) (aY:A.length≤1048576) (av:bI s= .error ad):
 bg prog 7 (bl [str s,str A,.int .i64 k]) w (fun v w'=>v= .bool true∧Wk w w'):=by
 refine enter func7 U ntmps7 U<|aU 7 U<|p mv<|e<|aX (CN s w az) U ?_;rintro a4 aD ⟨a3,bb,bc,x2,bd,bf,bh,bi,a2,rfl,ax,L,aB⟩;have aZ:=L.size;obtain ⟨rfl,rfl,_⟩:=aB.resolve_left fun ⟨_,_,_,_,h,_⟩=>by rw [av] at h; cases h
 refine p mv<|aj 4 U<|e<|du pJ fun aL a9 aN O ae=> ?_;have a0:=O.size;refine p aR<|e<|eb kT U U U ax ae aF fun C M aM=> ?_;have a1:=M.size;have ap:Wk aD C:=O.md.trans' M fun k aW h=>by omega
 have J:=L.trans ap;have ar:cP 524 bF C:=au.mono J fun _ _ h=>h;refine aj 10 U<|gb (t:=31) U (fun h=>absurd (h.symm.trans<|U) cJ) fun aS=>eg U U U<|aX (Ec C ar) U ?_;rintro a5 aE ⟨rfl,ak⟩;have ai:=J.trans ak;refine aK 4 U<|cf (U)<|aI 4 U<|p mv<|e<|aX (Gz aE) U ?_;rintro a6 aH ⟨rfl,al⟩;refine p U<|aj 11 U<|p mv<|e<|aX (JI 1 [] 60 aH aF) U ?_;rintro a7 aJ ⟨aw,am⟩;obtain ⟨Z,ac,rfl⟩:=di aw;have ag:=(ai.trans al).trans am;refine aK 5 U<|lp (fun I V E=> ∃ (aC:Unit),(Wk aJ E)∧(Sl V [(1,str A),(2,.int .i64 k),(7,.pointer none),(11,.int .i64 ((0:Nat):Int)),(12,.slice none 0 0),(39,.slice Z 0 ac),(40,.int .i64 ((0:Nat):Int)),(41,.int .i64 ((0:Nat):Int))])∧(0=I)) _ ⟨(),(Md.refl _ _),U,U⟩ ?_;rintro I V E ⟨aC,aq,aA,rfl⟩;refine bJ aA<|bX 6 U<|cd U (fun h=>absurd h ab) fun aP=>aG 2 U<|cy<|dn 10 U<|cd U (fun aQ=> ?_) fun h=>absurd U h;refine aI 4 U<|e<|aX (Hg A E ab) U ?_;rintro a8 ba ⟨rfl,ao⟩;refine p mv<|aj 10 U<|gb (t:=64) U (fun aT=> ?_) fun h=>absurd ((U).symm.trans h) cJ;refine aj 4 U<|gs (t:=68) U (fun aV=> ?_) fun h=>absurd U h;exact aj 5 U<|p aR<|ay 4 U<|aO U<|⟨U,(ag.trans aq).trans ao⟩
theorem Kv (s A:List UInt8) (k:Int) (w:ah) (C:cP 524 bF w) (E:s.length≤1048576) (I:A.length≤1048576):bg prog 7 (bl [str s,str A,.int .i64 k]) w (fun v w'=>v= .bool true∧Wk w w'):=by
 cases hX:bI s with
 | ok b=>exact Ks s A k b w C E I hX
 | error J=>exact Kt s A k J w C E I hX
end Go.Hb
end
