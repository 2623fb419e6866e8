/-
  Walks and plain laws that the law rests on, laid together. No conditions but those that each theorem names.
-/
import Derived.Test.YtiagknaekaknhaaGreatDoorMnJoinedSound5
set_option linter.unusedVariables false
set_option maxRecDepth 20000
set_option maxHeartbeats 1000000
open Bool renaming and_false→tf,eq_false_iff→Dn,noConfusion→cD
open Classical renaming not_not→qF
open Go renaming Value→ag,World→ah
open Go.Value renaming bool→bC,int→a9,oneCell'→fg,slice→dw
open Go.World renaming ownsRow→bA,ownsRow_nil→gw
open List renaming flatten_append→D5,flatten_cons→tA,getElem?_append_left→fm,getElem?_append_right→fH,getElem?_eq_getElem→bD,length_append→cw,length_cons→dJ,length_drop→gx,length_eq_zero_iff→Eb,length_nil→jH,length_singleton→pb,length_take→dh,mem_of_getElem?→kZ,toArray→bh
open Nat renaming lt_or_ge→dB,zero_le→fq
open Go.Proofs.Tryz
open Go.Hb.dQ Go.Proofs Go.Hb.fZ Go.Hb.im

namespace Go.Hb
def fX (w:ah) (B:Nat) (A:List (Bool×ag)) (l:List aP):Prop :=A.length=l.length∧∀ (i:Nat) q e,A[i]? =some q→l[i]? =some e→q.1=e.1∧Tg w B 167 e.2.length q.2 (eW e.2)
theorem fX.nil (w:ah) (B:Nat):fX w B [] []:=⟨rfl,fun i q r A=>by simp at A⟩
theorem fX.md {F:Nat→Prop} {w w':ah} {B:Nat} {C:List (Bool×ag)} {l:List aP} (h:fX w B C l) (hm:Md F w w') (E:∀ k,F k→B≤k→∀ cur z,w.heap[k]?≠some (.cells cur 167 z)):fX w' B C l:=
 ⟨h.1,fun i q r h1 A=>⟨(h.2 i q r h1 A).1,Tg.kD (h.2 i q r h1 A).2 hm E⟩⟩
theorem fX.wk {w w':ah} {B:Nat} {A:List (Bool×ag)} {l:List aP} (h:fX w B A l) (hm:Wk w w'):fX w' B A l:=h.md hm fun _ C=>C.elim
theorem fX.snoc {w:ah} {B:Nat} {C:List (Bool×ag)} {l:List aP} {v:ag} {e:aP} (ha:fX w B C l) (I:Tg w B 167 e.2.length v (eW e.2)):fX w B (C++ [(e.1,v)]) (l++ [e]):=by
 refine ⟨by rw [cw,cw,ha.1]; rfl,fun i q' r' h1 A=> ?_⟩;have E:=ha.1;by_cases hi:i < C.length
 · rw [fm hi] at h1;rw [fm ab] at A;exact ha.2 i q' r' h1 A
 · rw [fH ab] at h1;rw [fH ab,← E] at A;cases hj:i - C.length with
   | zero=>rw [hj] at h1 A; cases h1; cases A; exact ⟨rfl,I⟩
   | succ j=>rw [hj] at h1; simp at h1
def eS (w:ah) (B:Nat) (v:ag) (l:List aP):Prop := ∃ A,Tg w B 143 l.length v (fk A)∧fX w B A l
theorem eS.md {F:Nat→Prop} {w w':ah} {B:Nat} {v:ag} {l:List aP} (h:eS w B v l) (hm:Md F w w') (C:∀ k,F k→B≤k→∀ cur z,w.heap[k]?≠some (.cells cur 143 z)∧w.heap[k]?≠some (.cells cur 167 z)):eS w' B v l:=by
 obtain ⟨I,h1,E⟩:=h;exact ⟨I,Tg.kD h1 hm fun k A hb cur z=>(C k A hb cur z).1,E.md hm fun k A hb cur z=>(C k A hb cur z).2⟩
theorem eS.wk {w w':ah} {B:Nat} {v:ag} {l:List aP} (h:eS w B v l) (hm:Wk w w'):eS w' B v l:=h.md hm fun _ A=>A.elim
theorem eS.mono {w:ah} {B B':Nat} {v:ag} {l:List aP} (h:eS w B v l) (C:B'≤B):eS w B' v l:=by
 obtain ⟨J,h1,I,A⟩:=h;exact ⟨J,h1.mono C,I,fun i q e E he=>⟨(A i q e E he).1,(A i q e E he).2.mono C⟩⟩
theorem eS.ew {w:ah} {B:Nat} {v:ag} {l:List aP} (h:eS w B v l):∃ A cc,v= .slice A l.length cc∧l.length≤cc∧eT w.heap A l:=by
 obtain ⟨V,h1,aj,ad⟩:=h;obtain ⟨A,cc,rfl⟩:=h1.slice;obtain ⟨ae,J⟩:=h1.pC;refine ⟨A,cc,U,ae,fun h0=>bd.ok J (nZ (f:=fun q:Bool×ag=> [bC q.1,q.2]) (m:=2) (fun _=>rfl) aD ab),fun i hi=> ?_⟩;have M:V[i]? =some (V[i]'ab):=bD ab;have ai:l[i]? =some (aK l i):=by
  unfold aK;rw [List.getD_eq_getElem?_getD,bD hi]; rfl
 obtain ⟨ac,E⟩:=ad i _ _ M ai;obtain ⟨Z,aa,O⟩:=E.slice;have I:=E;rw [O] at I;obtain ⟨_,C⟩:=I.pC;have L:=lB (f:=fun q:Bool×ag=> [bC q.1,q.2]) (m:=2) (fun _=>rfl) J M;refine ⟨Z,aa,by rw [L 0 ab,ac]; rfl,by rw [L 1 ab,O]; rfl,fun h0=>bd.ok C (nZ (f:=fun e:UInt8×Int=> [a9 .u8 e.1.toNat,.int .i64 e.2]) (m:=2) (fun _=>rfl) aD h0),fun k e he=> ?_,fun k e he=> ?_⟩
 · exact lB (f:=fun e:UInt8×Int=> [a9 .u8 e.1.toNat,.int .i64 e.2]) (m:=2) (fun _=>rfl) C he 0 ab
 · exact lB (f:=fun e:UInt8×Int=> [a9 .u8 e.1.toNat,.int .i64 e.2]) (m:=2) (fun _=>rfl) C he 1 ab
set_option maxHeartbeats 2000000 in
theorem E5 (rb:Nat) (s:List UInt8) (a:Nat) (w:ah) (bH:az w.heap rb [str s,aB a,aB 0]) (bx:s.length≤1048576) (ha:a≤s.length):
 bc prog 36 (bh [aU rb]) w (fun v w'=> ∃ A q:Nat,az w'.heap rb [str s,aB A,aB q]∧A≤s.length∧((q=0∧∃ l,cH s a= .ok (l,A)∧eS w' w.heap.size v l)∨(q≠0∧(∃ I,cH s a= .error I)∧∃ bg m c,v= .slice bg m c))∧Md (fun k=>k=rb) w w'):=by
 have dQ:=bH.lt;refine enter func36 U ntmps36 U<|aQ 7 U<|p mv<|e<|aX (oh rb s a 0 w bH bx<|ha) U ?_;rintro d8 eh ⟨n,aA,b8,rfl,aS,b3,dP,b7,a6⟩;refine aF 3 U ?_;refine eL (fun b9 bD=> ∃ (aZ:Nat),(az bD.heap rb [str s,aB aA,aB aZ])∧((aZ=0∧a0 s a= .ok (n,aA)∧¬(n=0∨1048576 < n))∨(aZ≠0∧∃ I,cH s a= .error I))∧(Md (fun k=>k=rb) w bD)∧(Sl b9 [(0,aU rb),(3,.int .u64 (n:Nat))])) ?_ ?_;refine aQ 2 U<|p mv<|aj 2 U<|p (aw U<|aS.aJ 2)<|aj 2 U<|gs (t:=15) U (fun b0=> ?_) fun b0=> ?_;have M:=(b7.resolve_right fun h=>h.1 ab).2.2;refine aj 3 U<|gs (t:=18) U (fun c1=> ?_) fun c1=> ?_;refine aj 3 U<|p (mN U)<|aj 4 U<|p mv<|aj 2 U<|e<|st cU U U (U) (aS) (by simp) fun dz br bj=> ?_
 skip
 exact ax 1 U<|tn<|⟨190,bj,(.inr ⟨aD,_,sD M<|.inl ab⟩),(a6.trans br),U⟩
 refine aF 6 U<|cd U (fun cY=> ?_) fun cY=> ?_;refine aG 1 U<|p mv<|aj 2 U<|e<|st cU U U (U) (aS) (by simp) fun dz br bj=> ?_
 skip
 exact ax 1 U<|tn<|⟨190,bj,(.inr ⟨aD,_,sD M<|.inr ab⟩),(a6.trans br),U⟩
 exact aE 1 U<|tn<|⟨b8,aS,(.inl ⟨ab,M,ab⟩),a6,U⟩
 have bV:=b7.resolve_left fun h=>b0<|by rw [h.2.1]; rfl
 exact ax 11 U<|tn<|⟨b8,aS,(.inr ⟨bV.1,bV.2.2.elim (fun h=>absurd U h) fun ⟨aq,h⟩=>⟨aq,BV h⟩⟩),a6,U⟩
 rintro b9 bD ⟨aZ,cC,cm,cS,de⟩;refine bF de<|bZ 5 U ?_;refine eL (fun ca aC=> ∃ (l:List aP) (C:List (Bool×ag)) (ak:ag) (A q:Nat),((q=0∧cn (fl s n) n aA= .ok (l,A)∧a0 s a= .ok (n,aA)∧¬(n=0∨1048576 < n))∨(q≠0∧∃ I,cH s a= .error I))∧(A≤s.length)∧(bA aC w.heap.size 143 2 ak C.length<|fk C)∧(fX aC w.heap.size C l)∧(az aC.heap rb [str s,aB A,aB q])∧(Md (fun k=>k=rb) w aC)∧(Sl ca [(0,aU rb),(4,ak)])) ?_ ?_;refine bY 1 U<|lp (fun aR cb am=> ∃ (k:Nat) (l:List aP) (C:List (Bool×ag)) (ak:ag) (A q:Nat),(C.length=k)∧(k≤1048577)∧((q=0∧k≤n∧a0 s a= .ok (n,aA)∧¬(n=0∨1048576 < n)∧cn (fl s n) k aA= .ok (l,A))∨(q≠0∧∃ I,cH s a= .error I))∧(A≤s.length)∧(bA am w.heap.size 143 2 ak C.length<|fk C)∧(fX am w.heap.size C l)∧(az am.heap rb [str s,aB A,aB q])∧(Md (fun k=>k=rb) w am)∧(Sl cb [(0,aU rb),(3,.int .u64 (n:Nat)),(4,ak)])∧(n - k=aR)) _ ⟨0,[],[],.slice none 0 0,aA,aZ,U,ab,(cm.imp (fun h=>⟨h.1,ab,h.2.1,h.2.2,U⟩) id),b3,(gw _ _ _ _),(fX.nil _ _),cC,cS,U,U⟩ ?_;rintro aR cb am ⟨k,l,C,ak,A,q,c5,dL,bn,av,ae,bp,aa,ar,dh,rfl⟩;refine bF dh ?_;obtain ⟨aH,co,rfl⟩:=eb ae;refine aQ 5 U<|p (fy oR sT U<|gr ab)<|aj 3 U<|gs (t:=31) U (fun c2=> ?_) fun c2=> ?_;refine aj 3 U<|bB U (aw U<|aa.aJ 2)<|aF 4 U<|cd U (fun bW=> ?_) fun bW=> ?_;obtain ⟨db,dM,M,au,Z⟩:=bn.resolve_right fun h=>h.1 ab;obtain rfl :q=0:=db;refine aG 6 U<|e<|aX (oh rb s A 0 am aa bx<|av) U ?_;rintro d4 d9 ⟨v0,p1,dt,rfl,bI,c9,dO,b6,bP⟩;refine aF 3 U ?_;refine eL (fun cf bb=> ∃ (a1:Nat),(az bb.heap rb [str s,aB p1,aB a1])∧((a1=0∧a0 s A= .ok (v0,p1)∧¬256 < v0 / 2)∨(a1≠0∧∃ I,cH s a= .error I))∧(Md (fun k=>k=rb) am bb)∧(Sl cf [(0,aU rb),(3,.int .u64 (n:Nat)),(4,.slice aH C.length co),(5,.int .u64 (v0:Nat))])) ?_ ?_;refine aQ 3 U<|p (qu U U ab<|gr ab)<|aF 3 U<|cd U (fun cZ=> ?_) fun cZ=> ?_;have a7:=(b6.resolve_right fun h=>by have :=h.2.1; omega).2.2;refine aG 4 U<|e<|st cU U U (U) (bI) (by simp) fun el cR cB=> ?_
 skip
 exact ax 1 U<|tn<|⟨190,cB,(.inr ⟨aD,_,oF M au<|hJ Z (Cw a7 ab) ab⟩),(bP.trans cR),U⟩
 exact aE 1 U<|tn<|⟨dt,bI,(b6.elim (fun h=> .inl ⟨h.2.1,h.2.2,ab⟩) fun h=> .inr ⟨h.1,h.2.2.elim (fun h=>absurd U h) fun ⟨aq,aI⟩=>⟨aq,oF M au<|hJ Z (Cv aI) ab⟩⟩),bP,U⟩
 rintro cf bb ⟨a1,cE,cp,bt,dj⟩;refine bF dj<|bZ 1 U<|aG 2 U<|p (rm U U ab)<|aj 1 U<|p (eF (ps:= [(0,bC (decide ((v0:Int) % 2=1)))]) (L:= [bC (decide ((v0:Int) % 2=1)),.slice none 0 0]) Kk U<|U)<|e<|dq C7 fun V ea dC bT cs=> ?_;have dR:=bT.size;refine e<|ei y8 U U U U cs (by simp) fun al bQ cI=> ?_;have cJ:az al.heap V [bC (decide ((v0:Int) % 2=1)),.slice none 0 0]:=⟨_,cI⟩
 have a3:Wk bb al:=bT.md.trans' bQ fun k E h=>by omega
 have cD:=Wk.B a3 cE;have dY:=ar.size;have dW:=bt.size;have d2:=a3.size;have d3:=bQ.size;have cO:Md (fun k=>k=rb) w al:=(ar.trans bt).trans<|a3.mono fun _ _ h=>h.elim;refine aF 2 U ?_;refine eL (fun cg ao=> ∃ (es:List (UInt8×Int)) (O:Option Addr) (ce:Nat) (p2 J:Nat),((J=0∧cn (dZ s n) (v0 / 2) p1= .ok (es,p2)∧a0 s A= .ok (v0,p1)∧¬256 < v0 / 2)∨(J≠0∧∃ I,cH s a= .error I))∧(p2≤s.length)∧(bA ao al.heap.size 167 2 (.slice O es.length ce) es.length<|eW es)∧(az ao.heap rb [str s,aB p2,aB J])∧(az ao.heap V [.bool (decide ((v0:Int) % 2=1)),.slice O es.length ce])∧(Md (fun k=>k=rb∨k=V) al ao)∧(Sl cg [(0,aU rb),(3,.int .u64 (n:Nat)),(4,.slice aH C.length co),(6,aU V)])) ?_ ?_;refine bY 1 U<|lp (fun aR ch aO=> ∃ (j:Nat) (es:List (UInt8×Int)) (bz:ag) (p2 J:Nat),(es.length=j)∧(j≤257)∧((J=0∧j≤v0 / 2∧cn (dZ s n) j p1= .ok (es,p2)∧a0 s A= .ok (v0,p1)∧¬256 < v0 / 2)∨(J≠0∧∃ I,cH s a= .error I))∧(p2≤s.length)∧(bA aO al.heap.size 167 2 bz es.length<|eW es)∧(az aO.heap rb [str s,aB p2,aB J])∧(az aO.heap V [.bool (decide ((v0:Int) % 2=1)),bz])∧(Md (fun k=>k=rb∨k=V) al aO)∧(Sl ch [(0,aU rb),(3,.int .u64 (n:Nat)),(4,.slice aH C.length co),(5,.int .u64 (v0:Nat)),(6,aU V)])∧(v0 / 2 - j=aR)) _ ⟨0,[],.slice none 0 0,p1,a1,U,ab,(cp.imp (fun h=>⟨h.1,ab,U,h.2.1,h.2.2⟩) id),c9,(gw _ _ _ _),cD,cJ,(Md.refl _ _),U,U⟩ ?_;rintro aR ch aO ⟨j,es,bz,p2,J,c4,dK,bo,aY,ai,aK,aL,ac,dl,rfl⟩;refine bF dl ?_;obtain ⟨O,ce,rfl⟩:=eb ai;have d1:=ac.size;refine aQ 4 U<|p (aw U<|aL.aJ 1)<|aj 1 U<|p (fy oR sT U<|gr ab)<|aj 1 U<|p (qu U U ab<|gr ab)<|aj 2 U<|gs (t:=57) U (fun c3=> ?_) fun c3=> ?_;refine aj 3 U<|bB U (aw U<|aK.aJ 2)<|aF 4 U<|cd U (fun bX=> ?_) fun bX=> ?_;obtain ⟨dd,dJ,b1,a7,b4⟩:=bo.resolve_right fun h=>h.1 ab;obtain rfl :J=0:=dd;refine aG 7 U<|e<|aX (GJ rb s p2 n aO aK bx aY ab) U ?_;rintro d5 dx ⟨c,t,p3,du,rfl,ct,da,dp,a4⟩;have dS:=a4.size;have bJ:=a4.B aL fun h=>by omega
 refine e<|dq C8 fun bG ec dD bU cu=> ?_;have dT:=bU.size;refine e<|ei rz U U U U cu (by simp) fun bE cT cF=> ?_;have cA:az bE.heap bG [a9 .u8 c.toNat,.int .i64 t]:=⟨_,cF⟩
 have aM:Wk dx bE:=bU.md.trans' cT fun k E h=>by omega
 have dX:=aM.size;refine aj 4 U<|p (aw U<|(Wk.B aM bJ).aJ 1)<|p (eZ q9 U (U) (show ∀ j,j < 2→ay bE.heap bG (0 +j)=([a9 .u8 c.toNat,.int .i64 t]:List ag)[j]? from fun j _=>cA.aJ j))<|e<|nO Ci U U U fun dA ed dE aW cv=> ?_;have dU:=aW.size;have c8:=bl (bl (bR ai a4 fun k E h=>by have :=cM ai E; omega) aM) aW.md;refine e<|ap Ci (c8) U ab U (bd.gF cv) (U) (U) ab ab fun d6 ee b2 a5 dr c0=> ?_;have dr:=a5.size;have a8:∀ k,(dw O es.length ce).ownBlock=some k→al.heap.size≤k:=fun k h=>(cM ai h).1;have cL:=a5.B (Wk.B aW.md<|Wk.B aM bJ) fun h=>by have :=a8 V h; omega
 have cx:=a5.B (Wk.B aW.md<|Wk.B aM ct) fun h=>by have :=a8 rb h; omega
 obtain ⟨ci,cj,rfl⟩:=eb b2;refine aj 1 U<|e<|st Gf U U (U) (cL) (by simp) fun ej bq cr=> ?_;have cG:=bq.B cx fun h=>by omega
 exact ax 2 U<|tn<|⟨_,ab,j+1,es++ [(c,t)],.slice ci (es.length+1) cj,p3,du,(by rw [cw,c4]; rfl),ab,(dp.imp (fun h=>⟨h.1,ab,lD b1 h.2,a7,b4⟩) fun h=>⟨h.1,h.2.elim fun aq aI=>⟨aq,oF M au<|hJ Z (Cx a7 b4<|hJ b1 aI ab) ab⟩⟩),da,(by rw [cw,zF]; exact bR b2 bq fun k E h=>by rcases c0 k E with aI | aI; exact absurd (a8 k aI) ab; omega),cG,cr,(((((ac.trans<|a4.mono fun _ _ h=> .inl h).trans<|aM.mono fun _ _ h=>h.elim).trans<|aW.md.mono fun _ _ h=>h.elim).trans' a5 fun k E h=>by have :=a8 k h; omega).trans<|bq.mono fun _ _ h=> .inr h),U,U⟩
 exact aE 2 U<|cq<|bf 1 U<|tn<|⟨es,O,ce,p2,J,(bo.elim (fun h=>absurd h.1 fun aq=>bX ab) .inr),aY,ai,aK,aL,ac,U⟩
 exact ax 11 U<|cq<|bf 1 U<|tn<|⟨es,O,ce,p2,J,(bo.elim (fun h=> .inl ⟨h.1,(by have ck:=h.2.1; have bi:j=v0 / 2:=ab; subst bi; exact h.2.2.1),h.2.2.2.1,h.2.2.2.2⟩) .inr),aY,ai,aK,aL,ac,U⟩
 rintro cg ao ⟨es,O,ce,p2,J,cQ,aY,ai,aK,aL,ac,dk⟩;refine bF dk ?_;have d0:=ac.size;have bK:Md (fun k=>k=rb∨k=V) am ao:=((bt.mono fun k _ h=> .inl h).trans<|a3.mono fun _ _ h=>h.elim).trans ac;have cP:Md (fun k=>k=rb) w ao:=cO.trans' ac fun k E h=>by rcases h with h | h; exact h; omega
 have bv:=bR ae bK fun k E h=>by have :=cM ae E; omega
 have dn:=bp.md bK (fun k E hb=>by
  rcases E with E | E;omega;exact fun cur z=>Bf ab cur _ z)
 refine aG 2 U<|p (eZ yt U (U) (show ∀ j,j < 2→ay ao.heap V (0 +j)=([.bool (decide ((v0:Int) % 2=1)),.slice O es.length ce]:List ag)[j]? from fun j _=>aL.aJ j))<|e<|nO Cm U U U fun dB ef dF ad cy=> ?_;have dV:=ad.size;refine e<|ap Cm (bl bv ad.md) U ab U (bd.gF cy) (U) (U) ab ab fun dv dy c7 aV ds dH=> ?_;have ds:=aV.size;have b5:∀ k,(dw aH C.length co).ownBlock=some k→w.heap.size≤k:=fun k h=>(cM ae h).1;have cz:=aV.B (Wk.B ad.md aK) fun h=>by have :=b5 rb h; omega
 have cW:Tg dy w.heap.size 167 es.length (.slice O es.length ce) (eW es):=Tg.kD (((Tg.oo ai).mono ab).wk ad.md) aV fun k E _=>gH (bl bv ad.md) aD k E;have dm:=(dn.wk ad.md).md aV fun k E _=>gH (bl bv ad.md) aD k E;have cN:=(cP.trans<|ad.md.mono fun _ _ h=>h.elim).trans' aV fun k E h=>by have :=b5 k h; omega
 exact p aT<|ax 2 U<|tn<|⟨_,ab,k+1,l++ [(decide (v0 % 2=1),es)],C++ [(decide ((v0:Int) % 2=1),.slice O es.length ce)],dv,p2,J,(by rw [cw,c5]; rfl),ab,(cQ.imp (fun h=>⟨h.1,ab,M,au,lD Z<|Cy h.2.2.1 h.2.2.2 h.2.1⟩) id),aY,(by rw [cw,Cb]; exact c7),(by rw [show decide ((v0:Int) % 2=1)=decide (v0 % 2=1) from decide_eq_decide.2 ab] at*; exact fX.snoc (e:=(decide (v0 % 2=1),es)) dm cW),cz,cN,U,U⟩
 exact aE 2 U<|cq<|bf 1 U<|tn<|⟨l,C,.slice aH C.length co,A,q,(bn.elim (fun h=>absurd h.1 fun aq=>bW ab) .inr),av,ae,bp,aa,ar,U⟩
 exact ax 11 U<|cq<|bf 1 U<|tn<|⟨l,C,.slice aH C.length co,A,q,(bn.elim (fun h=> .inl ⟨h.1,(by have ck:=h.2.1; have bi:k=n:=ab; subst bi; exact h.2.2.2.2),h.2.2.1,h.2.2.2.1⟩) .inr),av,ae,bp,aa,ar,U⟩
 rintro ca aC ⟨l,C,ak,A,q,bL,av,ae,bp,aa,ar,dg⟩;refine bF dg<|aG 6 U<|p (aw U<|aa.aJ 2)<|aF 3 U<|cd U (fun bu=> ?_) fun bu=> ?_;obtain ⟨dc,cX⟩:=bL.resolve_left fun h=>bu<|by rw [h.1]; rfl
 exact aE 7 U<|aN U<|⟨A,q,aa,av,.inr ⟨dc,cX,none,0,0,U⟩,ar⟩
 obtain ⟨_,Z,M,au⟩:=bL.resolve_right fun h=>bu ab;refine bZ 3 U ?_;have bM:eS aC w.heap.size ak l:=⟨C,by have h:=Tg.oo ae; rw [bp.1] at h; exact h,bp⟩
 obtain ⟨bg,cc,rfl,dG,cV⟩:=bM.ew;have dN:=iz Z;have c6:∀ x∈l,x.2.length≤256:=fun x ba=>(mE (R:=fun A=>A≤s.length) (S:=fun x:aP=>x.2.length≤256) (fun A x q' hr ba=>⟨(qx ba).2.1,(qx ba).2.2.1⟩) b3 Z).2 x ba;refine aG 3 U<|e<|aX (J0 l bg cc aC cV ab fun i hi=>Nat.le_trans (c6 _<|jt (d:=dI) hi) aD) U ?_;rintro d7 eg ⟨rfl,bm⟩;refine aj 2 U<|e<|st cU U U (U) (Wk.B bm aa) (by simp) fun ek bO a2=> ?_
 skip
 refine ax 9 U<|aN U ?_;have bN:=(ar.trans<|bm.mono fun _ _ h=>h.elim).trans bO;cases hsh:shaped l with
 | true =>
   rw [sG hsh] at a2;exact ⟨A,0,a2,av,.inl ⟨U,l,BX M au Z hsh,(bM.wk bm).md bO fun k E hb=>absurd hb ab⟩,bN⟩
 | false =>
   rw [j0 hsh] at a2;exact ⟨A,190,a2,av,.inr ⟨aD,⟨_,BW M au Z hsh⟩,_,_,_,U⟩,bN⟩
theorem JR {r:List UInt8×List UInt8} (h1:(!fM r.1)=false) (E:(!fM r.2)=false) (I:¬(r.1.length:Int)=0) (J:¬(r.1.length:Int) > 32) (L:¬(r.2.length:Int) > 32):gJ r=true :=by
 have A:fM r.1=true :=by simpa using h1
 have C:fM r.2=true :=by simpa using E
 exact B8 (fun h=>I<|by rw [h]; rfl) (by rw [A,decide_eq_true ab]; rfl)<|by rw [C,decide_eq_true ab]; rfl
theorem JA (ls:Nat) (t:List UInt8) (rs:List (List UInt8×List UInt8)) (V:Option Addr) (rc:Nat) (ao v4 ap v6:ag) (w:ah) (aA:bd w.heap V (rs.flatMap ee)) (bl:ls≤64) (bo:t.length≤1048576) (bm:rs.length≤1048576) (a5:∀ r∈rs,r.1.length≤1048576∧r.2.length≤1048576):
 bc prog 35 (bh [.agg #[aB ls,str t,.slice V rs.length rc,ao,v4,ap,v6]]) w (fun v w'=>v= .bool (ef ls t rs)∧Wk w w'):=by
 refine enter func35 U ntmps35 U<|aQ 2 U<|e<|mg U fun I ba bg O C=>aj 7 U<|p (aw U<|C.aJ 0)<|aj 2 U<|gs (t:=12) U (fun a3=> ?_) fun a3=> ?_;exact aj 4 U<|p mv<|ax 15 U<|aN U<|⟨(congrArg bC<|oH (t:=t) (rs:=rs)<|.inl (show ls < 1 by omega)).symm,O.md⟩
 refine aj 1 U<|bB U (aw U<|C.aJ 0)<|aj 3 U<|gs (t:=17) U (fun a4=> ?_) fun a4=> ?_;exact ax 15 U<|aN U<|⟨(congrArg bC<|oH (t:=t) (rs:=rs)<|.inr<|.inl (show 64 < ls by omega)).symm,O.md⟩
 refine aj 1 U<|bB U (aw U<|C.aJ 2)<|aF 5 U<|cd U (fun a1=> ?_) fun a1=> ?_;exact aE 7 U<|aN U<|⟨(congrArg bC<|oH<|.inr<|.inr (show 256 < rs.length by omega)).symm,O.md⟩
 refine aG 5 U<|p (aw U<|C.aJ 1)<|e<|aX (Jn t ba ab) U ?_;rintro bp bt ⟨rfl,aC⟩;have M:=O.md.trans aC;have J:=Wk.B aC C;refine p mv<|aF 6 U ?_;refine eL (fun aP ar=> ∃ (a9:Unit),(t= []∨letE t=(t,0))∧(Wk w ar)∧(az ar.heap I [aB ls,str t,.slice V rs.length rc,ao,v4,ap,v6])∧(Sl aP [(1,aU I)])) ?_ ?_;refine aQ 3 U<|p (aw U<|J.aJ 1)<|aj 3 U<|gs (t:=33) U (fun E=> ?_) fun E=> ?_;refine aj 3 U<|gs (t:=36) U (fun ak=> ?_) fun ak=> ?_;exact aj 5 U<|p (mN U)<|ax 9 U<|tr<|aN U<|⟨(congrArg bC<|sF (fun h=>by rw [h] at E; exact absurd E aD) fun h=>by rw [h] at ak; exact ak U).symm,M⟩
 refine aj 2 U<|bB U (aw U<|J.aJ 1)<|aF 5 U<|cd U (fun ai=> ?_) fun ai=> ?_;exact aE 6 U<|tr<|aN U<|⟨(congrArg bC<|sF (fun h=>by rw [h] at E; exact absurd E aD) fun h=>ai<|by rw [h]).symm,M⟩
 exact aE 1 U<|tn<|⟨(),(.inr<|Prod.ext (qF.1 ai)<|by show (letE t).2=0; omega),M,J,U⟩
 exact ax 13 U<|tn<|⟨(),(.inl<|Eb.1 ab),M,J,U⟩
 rintro aP ar ⟨a9,a8,aY,aW,a6⟩;refine bF a6<|bZ 7 U<|lp (fun au aR Z=> ∃ (i:Nat),(i≤rs.length)∧(∀ j,j < i→gJ (rs.getD j gU)=true)∧(Wk w Z)∧(az Z.heap I [aB ls,str t,.slice V rs.length rc,ao,v4,ap,v6])∧(Sl aR [(1,aU I),(5,aB i)])∧(rs.length - i=au)) _ ⟨0,ab,(fun j aM=>by omega),aY,aW,U,U⟩ ?_;rintro au aR Z ⟨i,hi,aO,L,ac,a7,rfl⟩;refine bF a7<|aQ 5 U<|p (aw U<|ac.aJ 2)<|aF 4 U<|cd U (fun a2=> ?_) fun a2=> ?_;refine aG 7 U<|p (aw U<|ac.aJ 2)<|aj 1 U<|p (bJ GX U U ab<|bd.ok (aA.wk L)<|BO ab)<|p (eZ EN U (U)<|BN (aA.wk L) ab)<|e<|dq L4 fun aS bu bi a0 aT=>e<|ei Ge U U U U aT (by simp) fun aq aZ aV=> ?_;have ay:az aq.heap aS [str (rs.getD i gU).1,str (rs.getD i gU).2]:=⟨_,aV⟩
 have aH:Wk Z aq:=Md.trans' a0.md aZ fun k bj h=>by omega
 have bn:=a5 _<|jt (d:=gU) (show i < rs.length by omega);refine aj 5 U<|p (aw U<|ay.aJ 0)<|e<|aX (wi _ aq ab) U ?_;rintro bq bb ⟨rfl,ad⟩;have av:=Wk.B ad ay;refine aj 6 U<|p (aw U<|av.aJ 1)<|e<|aX (wi _ bb ab) U ?_;rintro br bv ⟨rfl,ae⟩;have aa:=Wk.B ae av;have A:=((L.trans aH).trans ad).trans ae;refine aj 8 U<|gb (t:=63) U (fun al=> ?_) fun al=> ?_;exact aj 3 U<|p mv<|aj 5 U<|p mv<|aj 5 U<|p mv<|ax 16 U<|tr<|bf 2 U<|aN U<|⟨(congrArg bC<|lN (show i < rs.length by omega)<|wU<|by rw [nT al]; rfl).symm,A⟩
 refine aj 4 U<|gb (t:=67) U (fun am=> ?_) fun am=> ?_;exact aj 5 U<|p mv<|aj 5 U<|p mv<|ax 16 U<|tr<|bf 2 U<|aN U<|⟨(congrArg bC<|lN (show i < rs.length by omega)<|wV<|by rw [nT am]; rfl).symm,A⟩
 refine aj 1 U<|bB U (aw U<|aa.aJ 0)<|aj 4 U<|gs (t:=73) U (fun aK=> ?_) fun aK=> ?_;exact aj 5 U<|p mv<|ax 16 U<|tr<|bf 2 U<|aN U<|⟨(congrArg bC<|lN (show i < rs.length by omega)<|B7<|Eb.1 ab).symm,A⟩
 refine aj 1 U<|bB U (aw U<|aa.aJ 0)<|aj 4 U<|gs (t:=79) U (fun aL=> ?_) fun aL=> ?_;exact ax 16 U<|tr<|bf 2 U<|aN U<|⟨(congrArg bC<|lN (show i < rs.length by omega)<|wU<|by rw [decide_eq_false ab,tf]).symm,A⟩
 refine aj 1 U<|bB U (aw U<|aa.aJ 1)<|aF 5 U<|cd U (fun aI=> ?_) fun aI=> ?_;exact aE 8 U<|tr<|bf 2 U<|aN U<|⟨(congrArg bC<|lN (show i < rs.length by omega)<|wV<|by rw [decide_eq_false ab,tf]).symm,A⟩
 exact aG 5 U<|p (bM<|i+1)<|ax 2 U<|tn<|⟨_,ab,i+1,ab,(fun j aM=>by rcases dB j i with h | h <;> first | exact aO j h | (rw [show j=i by omega]; exact JR al am aK aL aI)),A,(Wk.B ((aH.trans ad).trans ae) ac),U,U⟩
 exact aE 2 U<|cq<|bf 8 U<|aN U<|⟨(congrArg bC<|B5 ab a8 fun j aM=>aO j ab).symm,L⟩
end Go.Hb
namespace Go.Hb.yq
def nI (w:ah) (B:Nat) (cs:List ag) (b:dm):Prop := ∃ A rc vs,cs= [.int .i64 (b.least:Nat),str b.tr,.slice A b.cZ.length rc]++vs∧vs.length=4∧bd w.heap A (b.cZ.flatMap ee)∧∀ i,i < 4→eS w B (vs.getD i .nilFunc) (b.ar.getD i [])
theorem nI.one {w:ah} {B:Nat} {cs:List ag} {b:dm} (h:nI w B cs b):cs.length=7∧cs.all fg=true :=by
 obtain ⟨ac,rc,vs,rfl,Z,_,aa⟩:=h;obtain ⟨C,E,I,J,rfl⟩:∃ C E I J,vs= [C,E,I,J]:=by
  match vs,Z with
  | [C,E,I,J],_=>exact ⟨_,_,_,_,rfl⟩
 have A:∀ i,i < 4→([C,E,I,J].getD i .nilFunc).oneCell'=true :=fun i hi=>by
  obtain ⟨_,_,e,_⟩:=(aa i hi).ew;rw [e]; rfl
 have L:=A 0 ab;have M:=A 1 ab;have O:=A 2 ab;have V:=A 3 ab;simp only [List.getD_cons_zero,List.getD_cons_succ] at L M O V;exact ⟨U,by simp only [List.cons_append,List.nil_append,List.all_cons,List.all_nil,L,M,O,V]; rfl⟩
def q6 (s:List UInt8) (w:ah) (v:ag) (w':ah):Prop :=((∃ b cs,bH s= .ok b∧v= .tuple #[.agg cs.toArray,.int .i64 0]∧nI w' w.heap.size cs b)∨((∃ A,bH s= .error A)∧∃ q:Nat,q≠0∧v= .tuple #[.agg [a9 .i64 0,str [],.slice none 0 0,.slice none 0 0,.slice none 0 0,.slice none 0 0,.slice none 0 0].toArray,.int .i64 (q:Nat)]))∧Wk w w'
theorem Gr {s:List UInt8} {n p1 L p2 M m p3 O:Nat} {t:List UInt8} (hm:s.take 4=eI) (h1:((0:Nat)=0∧L=0∧a0 s 4= .ok (n,p1))∨(L≠0∧n=0∧((0:Nat)≠0∨∃ e,a0 s 4= .error e)))
 (A:(L=0∧M=0∧cR s p1= .ok (t,p2))∨(M≠0∧(L≠0∨∃ e,cR s p1= .error e))) (C:(M=0∧O=0∧a0 s p2= .ok (m,p3))∨(O≠0∧m=0∧(M≠0∨∃ e,a0 s p2= .error e))):(O=0∧a0 s 4= .ok (n,p1)∧cR s p1= .ok (t,p2)∧a0 s p2= .ok (m,p3))∨(O≠0∧∃ I,bH s= .error I):=by
 rcases h1 with ⟨_,U,h1⟩ | ⟨U,_,h1⟩
 · rcases A with ⟨_,J,A⟩ | ⟨J,A⟩
   · rcases C with ⟨_,E,C⟩ | ⟨E,_,C⟩
     · exact .inl ⟨E,h1,A,C⟩
     · exact .inr ⟨E,C.elim (fun h=>absurd J h) fun ⟨e,h⟩=>⟨e,zn hm h1 A h⟩⟩
   · have hb:∃ I,bH s= .error I:=A.elim (fun h=>absurd U h) fun ⟨e,h⟩=>⟨e,zm hm h1 h⟩
     rcases C with ⟨h,_⟩ | ⟨E,_⟩
     · exact absurd h J
     · exact .inr ⟨E,hb⟩
 · have hb:∃ I,bH s= .error I:=h1.elim (fun h=>absurd rfl h) fun ⟨e,h⟩=>⟨e,zl hm h⟩
   rcases A with ⟨h,_⟩ | ⟨J,_⟩
   · exact absurd h U
   · rcases C with ⟨h,_⟩ | ⟨E,_⟩
     · exact absurd h J
     · exact .inr ⟨E,hb⟩
def qs (s:List UInt8) (k a:Nat):List (List aP):=match cn (cH s) k a with
 | .ok x=>x.1
 | .error _=> []
theorem JM {s:List UInt8} {w ai w':ah} {B A C Z ae f9 J rb M V:Nat} {t:List UInt8} {rs:List (List UInt8×List UInt8)} {ls:List (List aP)} {vs:List ag} {L:Option Addr} {cc:Nat} (O:cn (cH s) A C= .ok (ls,Z)) (aa:bH s=fO s J t rs C) (bp:ef J t rs=true)
 (av:(f9=0∧∃ l,cH s Z= .ok (l,ae)∧eS ai w.heap.size (.slice L V cc) l)∨(f9≠0∧(∃ E,cH s Z= .error E)∧∃ aj aw c2,dw L V cc= .slice aj aw c2)) (am:∀ i,i < A→eS w B (vs.getD i .nilFunc) (ls.getD i [])) (I:A < 4) (ax:vs.length=4)
 (ao:Md (fun k=>k=rb∨k=M) w w') (ad:∀ k,k=rb∨k=M→k < B) (al:B≤w.heap.size) (ap:Md (fun k=>k=M) ai w'):(f9=0∧(bH s=fO s J t rs C∧ef J t rs=true)∧cn (cH s) (A+1) C= .ok (qs s (A+1) C,ae)∧∀ i,i < A+1→eS w' B ((vs.set A<|.slice L V cc).getD i .nilFunc) ((qs s (A+1) C).getD i []))∨(f9≠0∧∃ E,bH s= .error E):=by
 rcases av with ⟨h0,l,aq,ak⟩ | ⟨h0,⟨E,he⟩,_⟩
 · have ac:=lD O aq;have ar:=iz O;have au:qs s (A+1) C=ls++ [l]:=by unfold qs; rw [ac]
   rw [ac,au];refine .inl ⟨h0,⟨aa,bp⟩,U,fun i hi=> ?_⟩;rcases dB i A with h | h
   · rw [pM ab,Am ab];exact (am i h).md ao fun k I hb=>absurd hb<|by have :=ad k I; omega
   · obtain rfl :i=A:=ab;rw [n5 ab,Al ar.symm];exact (ak.mono al).md ap fun k I hb=>absurd hb<|by have :=ad k (.inr I); omega
 · exact .inr ⟨h0,E,by rw [aa,zi bp (hJ O he I)]⟩
set_option maxHeartbeats 4000000 in
theorem Jf (s:List UInt8) (w:ah) (a6:s.length≤1048576):
 bc prog 20 (bh [str s]) w (q6 s w):=by
 refine enter func20 U ntmps20 U<|aQ 2 U<|e<|al oU fun Z fz J bN bX=>aj 6 U<|p mv<|aj 3 U<|gs (t:=15) U (fun ea=> ?_) fun ea=> ?_;have av:¬s.take 4=eI:=fun h=>by have :=congrArg List.length h; rw [dh] at this; simp only [eI,dJ,jH] at this; omega
 refine aj 9 U<|p (eF (ps:= []) (L:= [.int .i64 0,.string ⟨⟨[]⟩⟩,.slice none 0 0,.slice none 0 0,.slice none 0 0,.slice none 0 0,.slice none 0 0]) sP U<|U)<|e<|qy km U U U U (bX) (by simp) fun eR b2 b0=> ?_
 skip
 exact ax 5 U<|rO U (hO (cs:= [a9 .i64 0,str [],.slice none 0 0,.slice none 0 0,.slice none 0 0,.slice none 0 0,.slice none 0 0]) U lk U fun j ch=>b0.aJ j) kJ<|⟨.inr ⟨⟨_,uE av⟩,200,aD,U⟩,bN.md.trans' b2 fun k A h=>by omega⟩
 refine bB U mv<|bB U (oM u9 U U ab)<|aF 4 U<|cd U (fun ce=> ?_) fun ce=> ?_;have av:¬s.take 4=eI:=ce;refine aG 2 U<|p (eF (ps:= []) (L:= [.int .i64 0,.string ⟨⟨[]⟩⟩,.slice none 0 0,.slice none 0 0,.slice none 0 0,.slice none 0 0,.slice none 0 0]) sP U<|U)<|e<|qy km U U U U (bX) (by simp) fun eR b2 b0=> ?_
 skip
 exact ax 5 U<|rO U (hO (cs:= [a9 .i64 0,str [],.slice none 0 0,.slice none 0 0,.slice none 0 0,.slice none 0 0,.slice none 0 0]) U lk U fun j ch=>b0.aJ j) kJ<|⟨.inr ⟨⟨_,uE av⟩,200,aD,U⟩,bN.md.trans' b2 fun k A h=>by omega⟩
 have av:s.take 4=eI:=qF.1 ce;refine aG 4 U<|p mv<|p (eF (ps:= [(0,str s),(1,.int .i64 ((4:Nat):Int))]) (L:= [str s,.int .i64 ((4:Nat):Int),.int .i64 0]) Kv U<|U)<|e<|mg U fun c3 fA eV b3 de=> ?_;obtain ⟨rb,rfl⟩:∃ rb,rb=c3:=⟨_,rfl⟩
 have e7:=bN.size;have e9:=b3.size;refine aj 5 U<|p (eF (ps:= []) (L:= [.int .i64 0,.string ⟨⟨[]⟩⟩,.slice none 0 0,.slice none 0 0,.slice none 0 0,.slice none 0 0,.slice none 0 0]) sP U<|U)<|e<|al oU fun V fD I bO dp=> ?_;have ff:=bO.size;refine e<|qy km U U U U (dp) (by simp) fun bz bJ dn=> ?_;have fe:=bJ.size;have I:az bz.heap V [a9 .i64 0,str [],.slice none 0 0,.slice none 0 0,.slice none 0 0,.slice none 0 0,.slice none 0 0]:=dn;have J:az bz.heap Z [a9 .i64 0,str [],.slice none 0 0,.slice none 0 0,.slice none 0 0,.slice none 0 0,.slice none 0 0]:=bJ.B (Wk.B bO.md<|Wk.B b3.md bX) fun h=>by omega
 have C:az bz.heap rb [str s,aB 4,aB 0]:=bJ.B (Wk.B bO.md de) fun h=>by omega
 have dy:Wk w bz:=((bN.md.trans b3.md).trans bO.md).trans' bJ fun k A h=>by omega
 refine aj 5 U<|e<|aX (oh rb s 4 0 bz C a6 ab) U ?_;rintro fm aa ⟨n,p1,cr,rfl,cv,em,eY,eB,bE⟩;have fb:=bE.size;have cA:=bE.B J fun h=>by omega
 have cB:=bE.B I fun h=>by omega
 have cz:=(dy).trans' bE fun k A h=>by omega
 refine aF 3 U ?_;refine eL (fun cT aV=> ∃ (eK:Unit),(az aV.heap Z [a9 .i64 0,str [],.slice none 0 0,.slice none 0 0,.slice none 0 0,.slice none 0 0,.slice none 0 0])∧(az aV.heap V<|[a9 .i64 ((if n≤64 then n else 0:Nat):Int),str [],.slice none 0 0,.slice none 0 0,.slice none 0 0,.slice none 0 0,.slice none 0 0])∧(az aV.heap rb [str s,aB p1,aB cr])∧(Wk w aV)∧(aa.heap.size≤aV.heap.size)∧(Sl cT [(0,str s),(2,aU Z),(4,aU rb),(5,aU V)])) ?_ ?_;refine bY 6 U<|cd U (fun d5=> ?_) fun d5=> ?_;refine aG 2 U<|p (fy u3 lS U<|gM ab)<|aj 1 U<|e<|st cU U U (U) (cB) (by simp) fun fL bK dt=> ?_
 skip
 exact ax 1 U<|tn<|⟨(),(bK.B cA fun h=>by omega),(by rw [if_pos ab]; exact dt),(bK.B cv fun h=>by omega),(cz.trans' bK fun k A h=>by omega),bK.size,U⟩
 exact aE 1 U<|tn<|⟨(),cA,(by rw [if_neg ab]; exact cB),cv,cz,(Nat.le_refl _),U⟩
 rintro cT aV ⟨eK,J,I,C,M,ad,er⟩;refine bF er<|aG 3 U<|e<|aX (vd rb s p1 cr aV C a6<|em) U ?_;rintro fo fB ⟨t,p2,c5,rfl,dm,en,e0,eC,bG⟩;have fc:=bG.size;have dL:=bG.B J fun h=>by omega
 have dT:=bG.B I fun h=>by omega
 have dC:=(M).trans' bG fun k A h=>by omega
 refine aj 1 U<|e<|st zf U U (U) (dT) (by simp) fun cS bL du=> ?_;have fl:=bL.size;have dW:az cS.heap V [a9 .i64 ((if n≤64 then n else 0:Nat):Int),str t,.slice none 0 0,.slice none 0 0,.slice none 0 0,.slice none 0 0,.slice none 0 0]:=du;have dP:=bL.B dL fun h=>by omega
 have d3:=bL.B dm fun h=>by omega
 have dG:=dC.trans' bL fun k A h=>by omega
 refine aj 5 U<|e<|aX (oh rb s p2 c5 cS d3 a6<|en) U ?_;rintro fs fC ⟨m,p3,ct,rfl,bC,eo,e1,eD,bI⟩;have fd:=bI.size;have b6:=bI.B dP fun h=>by omega
 have b8:=bI.B dW fun h=>by omega
 have b5:=(dG).trans' bI fun k A h=>by omega
 have cu:=Gr av eB eC eD;refine aF 3 U ?_;refine eL (fun cV a7=> ∃ (a8:Nat),(az a7.heap Z [a9 .i64 0,str [],.slice none 0 0,.slice none 0 0,.slice none 0 0,.slice none 0 0,.slice none 0 0])∧(az a7.heap V<|[a9 .i64 ((if n≤64 then n else 0:Nat):Int),str t,.slice none 0 0,.slice none 0 0,.slice none 0 0,.slice none 0 0,.slice none 0 0])∧(az a7.heap rb [str s,aB p3,aB a8])∧(Wk w a7)∧(aa.heap.size≤a7.heap.size)∧((a8=0∧(a0 s 4= .ok (n,p1)∧cR s p1= .ok (t,p2)∧a0 s p2= .ok (m,p3))∧¬256 < m)∨(a8≠0∧∃ ak,bH s= .error ak))∧(Sl cV [(0,str s),(2,aU Z),(4,aU rb),(5,aU V),(7,.int .u64 (m:Nat))])) ?_ ?_;refine aQ 5 U<|p (aw U<|bC.aJ 2)<|aj 2 U<|gs (t:=42) U (fun cJ=> ?_) fun cJ=> ?_;have ac:=(cu.resolve_right fun h=>h.1 ab).2;refine aF 5 U<|cd U (fun d6=> ?_) fun d6=> ?_;refine aG 4 U<|e<|st cU U U (U) (bC) (by simp) fun fI bD da=> ?_;have e4:=bD.size;exact ax 1 U<|tn<|⟨201,(bD.B b6 fun h=>by omega),(bD.B b8 fun h=>by omega),da,(b5.trans' bD fun k A h=>by omega),ab,(.inr ⟨aD,_,zo av ac.1 ac.2.1 ac.2.2 ab⟩),U⟩
 exact aE 1 U<|tn<|⟨ct,b6,b8,bC,b5,ab,(.inl ⟨ab,ac,ab⟩),U⟩
 exact ax 7 U<|tn<|⟨ct,b6,b8,bC,b5,ab,(cu.elim (fun h=>absurd h.1 fun ar=>cJ ab) .inr),U⟩
 rintro cV a7 ⟨a8,J,I,C,M,ad,c6,et⟩;refine bF et ?_;refine eL (fun cX aC=> ∃ (rs:List (List UInt8×List UInt8)) (O:Option Addr) (rc aq f6:Nat),(az aC.heap Z [a9 .i64 0,str [],.slice none 0 0,.slice none 0 0,.slice none 0 0,.slice none 0 0,.slice none 0 0])∧(az aC.heap V<|[a9 .i64 ((if n≤64 then n else 0:Nat):Int),str t,.slice O rs.length rc,.slice none 0 0,.slice none 0 0,.slice none 0 0,.slice none 0 0])∧(az aC.heap rb [str s,aB aq,aB f6])∧(Wk w aC)∧(aa.heap.size≤aC.heap.size)∧(aq≤s.length)∧((f6=0∧(a0 s 4= .ok (n,p1)∧cR s p1= .ok (t,p2)∧a0 s p2= .ok (m,p3))∧¬256 < m∧cn (gn s) m p3= .ok (rs,aq))∨(f6≠0∧∃ ak,bH s= .error ak))∧(rs.length≤257)∧(∀ r∈rs,r.1.length≤255∧r.2.length≤255)∧(bA aC aa.heap.size 100 2 (.slice O rs.length rc) rs.length<|rs.flatMap ee)∧(Sl cX [(0,str s),(2,aU Z),(4,aU rb),(5,aU V)])) ?_ ?_;refine bY 1 U<|lp (fun ba cY aR=> ∃ (rs:List (List UInt8×List UInt8)) (ck:ag) (aT f:Nat),(az aR.heap Z [a9 .i64 0,str [],.slice none 0 0,.slice none 0 0,.slice none 0 0,.slice none 0 0,.slice none 0 0])∧(az aR.heap V<|[a9 .i64 ((if n≤64 then n else 0:Nat):Int),str t,ck,.slice none 0 0,.slice none 0 0,.slice none 0 0,.slice none 0 0])∧(az aR.heap rb [str s,aB aT,aB f])∧(Wk w aR)∧(aa.heap.size≤aR.heap.size)∧(aT≤s.length)∧((f=0∧rs.length≤m∧(a0 s 4= .ok (n,p1)∧cR s p1= .ok (t,p2)∧a0 s p2= .ok (m,p3))∧¬256 < m∧cn (gn s) rs.length p3= .ok (rs,aT))∨(f≠0∧∃ ak,bH s= .error ak))∧(rs.length≤257)∧(∀ r∈rs,r.1.length≤255∧r.2.length≤255)∧(bA aR aa.heap.size 100 2 ck rs.length<|rs.flatMap ee)∧(Sl cY [(0,str s),(2,aU Z),(4,aU rb),(5,aU V),(7,.int .u64 (m:Nat))])∧(m - rs.length=ba)) _ ⟨[],.slice none 0 0,p3,a8,J,I,C,M,ad,eo,(c6.imp (fun h=>⟨h.1,fq _,h.2.1,h.2.2,U⟩) id),aD,(fun r hr=>by cases hr),(gw _ _ _ _),U,U⟩ ?_;rintro ba cY aR ⟨rs,ck,aT,f,J,I,C,M,ad,bu,a1,cj,bv,E,ev,rfl⟩;refine bF ev ?_;obtain ⟨O,rc,rfl⟩:=eb E;refine aQ 4 U<|p (aw U<|I.aJ 2)<|aj 1 U<|p (fy oR sT U<|gr ab)<|aj 3 U<|gs (t:=55) U (fun ec=> ?_) fun ec=> ?_;refine aj 3 U<|bB U (aw U<|C.aJ 2)<|aF 4 U<|cd U (fun cD=> ?_) fun cD=> ?_;obtain ⟨cg,e2,ac,bt,br⟩:=a1.resolve_right fun h=>h.1 ab;obtain rfl :f=0:=cg;refine aG 6 U<|e<|aX (vd rb s aT 0 aR C a6<|bu) U ?_;rintro ft eO ⟨cm,p5,f5,rfl,dq,ep,eg,cP,bm⟩;have fg:=bm.size;have dM:=bm.B J fun h=>by omega
 have dU:=bm.B I fun h=>by omega
 have dD:=(M).trans' bm fun k A h=>by omega
 refine aj 6 U<|e<|aX (vd rb s p5 f5 eO dq a6<|ep) U ?_;rintro fu fE ⟨x2,eH,f6,rfl,dr,eq,eh,eE,bn⟩;have fh:=bn.size;have dN:=bn.B dM fun h=>by omega
 have cC:=bn.B dU fun h=>by omega
 have dE:=(dD).trans' bn fun k A h=>by omega
 have ek:=bR (bR E bm fun k A h=>by have :=(cM E A).1; omega) bn fun k A h=>by have :=(cM E A).1; omega
 refine aj 5 U<|p (aw U<|cC.aJ 2)<|aj 2 U<|p (eF (ps:= [(0,str cm),(1,str x2)]) (L:= [str cm,str x2]) Kj U<|U)<|e<|nO Cj U U U fun eT fF eW a5 ds=> ?_;have fi:=a5.size;refine e<|ap Cj (bl ek a5.md) U ab U (bd.gF ds) (U) (U) ab ab fun fv fG cN bo eG d8=> ?_;have eG:=bo.size;have bx:∀ k,(dw O rs.length rc).ownBlock=some k→aa.heap.size≤k:=fun k h=>(cM E h).1;have dO:=bo.B (Wk.B a5.md dN) fun h=>by have :=bx _ h; omega
 have dV:=bo.B (Wk.B a5.md cC) fun h=>by have :=bx _ h; omega
 have d2:=bo.B (Wk.B a5.md dr) fun h=>by have :=bx _ h; omega
 have dF:=(dE.trans a5.md).trans' bo fun k A h=>by have :=bx _ h; omega
 obtain ⟨co,cp,rfl⟩:=eb cN;refine aj 1 U<|e<|st Gi U U (U) (dV) (by simp) fun eP bg db=> ?_;have e5:=bg.size;have dR:az eP.heap V [a9 .i64 ((if n≤64 then n else 0:Nat):Int),str t,.slice co (rs.length+1) cp,.slice none 0 0,.slice none 0 0,.slice none 0 0,.slice none 0 0]:=db;have dI:=bg.B dO fun h=>by omega
 have d0:=bg.B d2 fun h=>by omega
 have dA:=dF.trans' bg fun k A h=>by omega
 have ei:=bR cN bg fun k A h=>by rcases d8 k A with aZ | aZ; exact absurd (bx k aZ) ab; omega
 exact ax 2 U<|tn<|⟨_,by rw [cw,pb]; omega,rs++ [(cm,x2)],.slice co (rs.length+1) cp,eH,f6,dI,dR,d0,dA,ab,eq,(by rcases eE with ⟨h1,aZ,bV⟩ | ⟨aZ,bV⟩; exact .inl ⟨aZ,by rw [cw,pb]; omega,ac,bt,by rw [cw,pb]; exact lD br<|BM (cP.resolve_right fun h=>h.1 h1).2.2 bV⟩; refine .inr ⟨aZ,?_⟩; rcases cP with ⟨_,h1,bW⟩ | ⟨h1,bW⟩; exact bV.elim (fun h=>absurd h1 h) (fun ⟨ar,h⟩=>⟨ar,rB av ac.1 ac.2.1 ac.2.2 bt<|hJ br (BL bW h) ab⟩); exact bW.elim (fun h=>absurd U h) fun ⟨ar,h⟩=>⟨ar,rB av ac.1 ac.2.1 ac.2.2 bt<|hJ br (BK h) ab⟩),(by rw [cw,pb]; omega),(fun r hr=>by rcases List.mem_append.1 hr with h | h; exact bv r h; rw [List.mem_singleton.1 h]; exact ⟨eg,eh⟩),(by rw [cw,List.flatMap_append]; exact ei),U,U⟩
 exact aE 2 U<|cq<|bf 1 U<|tn<|⟨rs,O,rc,aT,f,J,I,C,M,ad,bu,(a1.elim (fun h=>absurd h.1 fun ar=>cD ab) .inr),cj,bv,E,U⟩
 exact ax 11 U<|cq<|bf 1 U<|tn<|⟨rs,O,rc,aT,f,J,I,C,M,ad,bu,(a1.elim (fun h=> .inl ⟨h.1,h.2.2.1,h.2.2.2.1,(by have eU:=h.2.1; have ar:rs.length=m:=ab; rw [← ar]; exact h.2.2.2.2)⟩) .inr),cj,bv,E,U⟩
 rintro cX aC ⟨rs,O,rc,aq,f6,J,I,C,M,ad,bu,a1,cj,bv,E,eu⟩;refine bF eu<|aG 2 U<|p (eZ lk U (U) (show ∀ j,j < 7→ay aC.heap V (0 +j)=([a9 .i64 ((if n≤64 then n else 0:Nat):Int),str t,.slice O rs.length rc,.slice none 0 0,.slice none 0 0,.slice none 0 0,.slice none 0 0]:List ag)[j]? from fun j _=>I.aJ j))<|e<|aX (JA (if n≤64 then n else 0) t rs O rc (.slice none 0 0) (.slice none 0 0) (.slice none 0 0) (.slice none 0 0) aC (cF E).2 (by split <;> omega) ab ab fun r hr=>by have :=bv r hr; omega) U ?_;rintro fw fH ⟨rfl,aN⟩;have fk:=aN.size;have b7:=Wk.B aN J;have b9:=Wk.B aN I;have bP:=Wk.B aN C;have ci:=bl E aN;refine aF 3 U ?_;refine eL (fun cZ aW=> ∃ (f7:Nat),(az aW.heap Z [a9 .i64 0,str [],.slice none 0 0,.slice none 0 0,.slice none 0 0,.slice none 0 0,.slice none 0 0])∧(az aW.heap V<|[a9 .i64 ((if n≤64 then n else 0:Nat):Int),str t,.slice O rs.length rc,.slice none 0 0,.slice none 0 0,.slice none 0 0,.slice none 0 0])∧(az aW.heap rb [str s,aB aq,aB f7])∧(Wk w aW)∧(aa.heap.size≤aW.heap.size)∧((f7=0∧bH s=fO s (if n≤64 then n else 0) t rs aq∧ef (if n≤64 then n else 0) t rs=true)∨(f7≠0∧∃ ak,bH s= .error ak))∧(bA aW aa.heap.size 100 2 (.slice O rs.length rc) rs.length<|rs.flatMap ee)∧(Sl cZ [(0,str s),(2,aU Z),(4,aU rb),(5,aU V)])) ?_ ?_;refine aQ 5 U<|p (aw U<|bP.aJ 2)<|aj 2 U<|gs (t:=81) U (fun cL=> ?_) fun cL=> ?_;obtain ⟨_,ac,bt,br⟩:=a1.resolve_right fun h=>h.1 ab;have cG:=zq av ac.1 ac.2.1 ac.2.2 bt br;refine aF 5 U<|cb U (fun cf=> ?_) fun cf=> ?_;have bp:ef (if n≤64 then n else 0) t rs=false :=by simpa using cf
 refine aG 4 U<|e<|st cU U U (U) (bP) (by simp) fun fJ bi dc=> ?_;have e6:=bi.size;exact ax 1 U<|tn<|⟨201,(bi.B b7 fun h=>by omega),(bi.B b9 fun h=>by omega),dc,((M.trans aN).trans' bi fun k A h=>by omega),ab,(.inr ⟨aD,_,by rw [cG,zh bp]⟩),(bR ci bi fun k A h=>by have :=(cM E A).1; omega),U⟩
 have bp:ef (if n≤64 then n else 0) t rs=true :=by simpa using cf
 exact aE 1 U<|tn<|⟨f6,b7,b9,bP,(M.trans aN),ab,(.inl ⟨ab,cG,bp⟩),ci,U⟩
 exact ax 7 U<|tn<|⟨f6,b7,b9,bP,(M.trans aN),ab,(a1.elim (fun h=>absurd h.1 fun ar=>cL ab) .inr),ci,U⟩
 rintro cZ aW ⟨f7,J,I,C,M,ad,c7,E,ex⟩;refine bF ex ?_;refine eL (fun c0 aO=> ∃ (ls:List (List aP)) (vs:List ag) (am f8:Nat),(az aO.heap Z [a9 .i64 0,str [],.slice none 0 0,.slice none 0 0,.slice none 0 0,.slice none 0 0,.slice none 0 0])∧(az aO.heap V<|[a9 .i64 ((if n≤64 then n else 0:Nat):Int),str t,.slice O rs.length rc]++vs)∧(az aO.heap rb [str s,aB am,aB f8])∧(Wk w aO)∧(aa.heap.size≤aO.heap.size)∧(am≤s.length)∧(vs.length=4)∧((f8=0∧(bH s=fO s (if n≤64 then n else 0) t rs aq∧ef (if n≤64 then n else 0) t rs=true)∧cn (cH s) 4 aq= .ok (ls,am)∧∀ i,i < 4→eS aO aa.heap.size (vs.getD i .nilFunc) (ls.getD i []))∨(f8≠0∧∃ ak,bH s= .error ak))∧(bA aO aa.heap.size 100 2 (.slice O rs.length rc) rs.length<|rs.flatMap ee)∧(Sl c0 [(0,str s),(2,aU Z),(4,aU rb),(5,aU V)])) ?_ ?_;refine bY 6 U<|lp (fun ba c1 au=> ∃ (ao:Nat) (ls:List (List aP)) (vs:List ag) (am f8:Nat),(az au.heap Z [a9 .i64 0,str [],.slice none 0 0,.slice none 0 0,.slice none 0 0,.slice none 0 0,.slice none 0 0])∧(az au.heap V<|[a9 .i64 ((if n≤64 then n else 0:Nat):Int),str t,.slice O rs.length rc]++vs)∧(az au.heap rb [str s,aB am,aB f8])∧(Wk w au)∧(aa.heap.size≤au.heap.size)∧(ao≤4)∧(am≤s.length)∧(vs.length=4)∧((f8=0∧(bH s=fO s (if n≤64 then n else 0) t rs aq∧ef (if n≤64 then n else 0) t rs=true)∧cn (cH s) ao aq= .ok (ls,am)∧∀ i,i < ao→eS au aa.heap.size (vs.getD i .nilFunc) (ls.getD i []))∨(f8≠0∧∃ ak,bH s= .error ak))∧(bA au aa.heap.size 100 2 (.slice O rs.length rc) rs.length<|rs.flatMap ee)∧(Sl c1 [(0,str s),(2,aU Z),(4,aU rb),(5,aU V),(11,aB ao)])∧(4 - ao=ba)) _ ⟨0,[],[.slice none 0 0,.slice none 0 0,.slice none 0 0,.slice none 0 0],aq,f7,J,I,C,M,ad,ab,bu,U,(c7.imp (fun h=>⟨h.1,h.2,U,fun i hi=>by omega⟩) id),E,U,U⟩ ?_;rintro ba c1 au ⟨ao,ls,vs,am,f8,J,I,C,M,ad,eX,bT,aA,a2,E,ez,rfl⟩;refine bF ez<|aQ 6 U<|gs (t:=90) U (fun ed=> ?_) fun ed=> ?_;refine aj 3 U<|bB U (aw U<|C.aJ 2)<|aF 4 U<|cd U (fun cE=> ?_) fun cE=> ?_;obtain ⟨cg,aS,bQ,a3⟩:=a2.resolve_right fun h=>h.1 ab;obtain rfl :f8=0:=cg;refine aG 7 U<|e<|aX (E5 rb s am au C a6 bT) U ?_;rintro eM fx ⟨eJ,f9,c9,el,cO,bb⟩;have e3:=bb.size;obtain ⟨aY,bU,cc,rfl⟩:∃ aY bU cc,eM= .slice aY bU cc:=by
  rcases cO with ⟨_,l,_,c8⟩ | ⟨_,_,h⟩;obtain ⟨aY,cc,h,_⟩:=c8.ew; exact ⟨aY,_,cc,h⟩;exact h
 have dH:=bb.B J fun h=>by omega
 have dQ:=bb.B I fun h=>by omega
 have dz:=(M).trans' bb fun k A h=>by omega
 refine aj 1 U<|p (iW E3 U U ab)<|e<|st Gj U U (U) (dQ) (by simp only [cw,dJ,jH,aA]; omega) fun cQ a4 dd=> ?_;have e8:=a4.size;have dS:az cQ.heap V ([a9 .i64 ((if n≤64 then n else 0:Nat):Int),str t,.slice O rs.length rc]++vs.set ao (.slice aY bU cc)):=by rw [← wS]; exact dd
 have dK:=a4.B dH fun h=>by omega
 have d1:=a4.B c9 fun h=>by omega
 have dB:=dz.trans' a4 fun k A h=>by omega
 have cy:Md (fun k=>k=rb∨k=V) au cQ:=(bb.mono fun _ _ h=> .inl h).trans<|a4.mono fun _ _ h=> .inr h;have ej:=bR E cy fun k A h=>by have :=(cM E A).1; omega
 exact aj 5 U<|p (bM<|ao+1)<|ax 2 U<|tn<|⟨_,ab,ao+1,qs s (ao+1) aq,vs.set ao (.slice aY bU cc),eJ,f9,dK,dS,d1,dB,ab,ab,el,(by rw [List.length_set]; exact aA),(JM bQ aS.1 aS.2 cO a3 ab aA cy (fun k A=>by omega) ad a4),ej,U,U⟩
 exact aE 2 U<|cq<|bf 1 U<|tn<|⟨ls,vs,am,f8,J,I,C,M,ad,bT,aA,(a2.elim (fun h=>absurd h.1 fun ar=>cE ab) .inr),E,U⟩
 exact ax 11 U<|cq<|bf 1 U<|tn<|⟨ls,vs,am,f8,J,I,C,M,ad,bT,aA,((by have c4:ao=4:=ab; subst c4; exact a2)),E,U⟩
 rintro c0 aO ⟨ls,vs,am,f8,J,I,C,M,ad,bT,aA,a2,E,ey⟩;refine bF ey ?_;refine eL (fun c2 ae=> ∃ (f9:Nat),(az ae.heap Z [a9 .i64 0,str [],.slice none 0 0,.slice none 0 0,.slice none 0 0,.slice none 0 0,.slice none 0 0])∧(az ae.heap V<|[a9 .i64 ((if n≤64 then n else 0:Nat):Int),str t,.slice O rs.length rc]++vs)∧(az ae.heap rb [str s,aB am,aB f9])∧(Wk w ae)∧(aa.heap.size≤ae.heap.size)∧((f9=0∧bH s= .ok ⟨if n≤64 then n else 0,t,rs,ls⟩∧∀ i,i < 4→eS ae aa.heap.size (vs.getD i .nilFunc) (ls.getD i []))∨(f9≠0∧∃ ak,bH s= .error ak))∧(bA ae aa.heap.size 100 2 (.slice O rs.length rc) rs.length<|rs.flatMap ee)∧(Sl c2 [(0,str s),(2,aU Z),(4,aU rb),(5,aU V)])) ?_ ?_;refine aQ 5 U<|p (aw U<|C.aJ 2)<|aj 2 U<|gs (t:=109) U (fun cI=> ?_) fun cI=> ?_;obtain ⟨_,aS,bQ,a3⟩:=a2.resolve_right fun h=>h.1 ab;refine aj 3 U<|bB U (aw U<|C.aJ 1)<|aF 6 U<|cd U (fun d4=> ?_) fun d4=> ?_;refine aG 4 U<|e<|st cU U U (U) (C) (by simp) fun fK bj dg=> ?_;have fa:=bj.size;exact ax 1 U<|tn<|⟨202,(bj.B J fun h=>by omega),(bj.B I fun h=>by omega),dg,(M.trans' bj fun k A h=>by omega),ab,(.inr ⟨aD,_,by rw [aS.1,zj aS.2 bQ ab]⟩),(bR E bj fun k A h=>by have :=(cM E A).1; omega),U⟩
 exact aE 1 U<|tn<|⟨f8,J,I,C,M,ad,(.inl ⟨ab,by rw [aS.1,zk aS.2 bQ ab],a3⟩),E,U⟩
 exact ax 12 U<|tn<|⟨f8,J,I,C,M,ad,(a2.elim (fun h=>absurd h.1 fun ar=>cI ab) .inr),E,U⟩
 rintro c2 ae ⟨f9,J,I,C,M,ad,cx,E,eA⟩;refine bF eA<|aG 6 U<|p (aw U<|C.aJ 2)<|aF 3 U<|cd U (fun ca=> ?_) fun ca=> ?_;obtain ⟨d9,dX⟩:=cx.resolve_left fun h=>ca<|by rw [h.1]; rfl
 refine bZ 1 U ?_;have bq:(fun w'=>Md (fun k=>k=Z) ae w') ae.drew:=(Md.refl _ _).drew;refine bp (fun w'=>Md (fun k=>k=Z) ae w') U wide bq<|cW 0 U (eF (ps:= []) (L:= [.int .i64 0,.string ⟨⟨[]⟩⟩,.slice none 0 0,.slice none 0 0,.slice none 0 0,.slice none 0 0,.slice none 0 0]) sP U<|U) bq<|aM [1,2,3] U bq<|pO 4 U (fun w' dx=>aw U<|(Md.B dx C fun h=>by omega).aJ 2) bq<|he 5 U ai<|qy km U U U U (J) (by simp) fun eQ dv dj=> ?_
 skip
 have b4:(fun w'=>Md (fun k=>k=Z) ae w') eQ:=Md.trans bq dv;refine ⟨b4,?_⟩;exact aM [6] U b4<|hn ai<|bf 3 U<|rO U (hO (cs:= [a9 .i64 0,str [],.slice none 0 0,.slice none 0 0,.slice none 0 0,.slice none 0 0,.slice none 0 0]) U lk U fun j ch=>dj.aJ j) kJ<|⟨.inr ⟨dX,f9,d9,U⟩,M.trans' b4 fun k A h=>by omega⟩
 obtain ⟨_,d7,a3⟩:=cx.resolve_right fun h=>ca ab;refine bZ 3 U ?_;obtain ⟨aH,aI,aK,aL,rfl⟩:∃ aH aI aK aL,vs= [aH,aI,aK,aL]:=by
  match vs,aA with
  | [aH,aI,aK,aL],_=>exact ⟨_,_,_,_,rfl⟩
 have dY:nI ae w.heap.size [a9 .i64 ((if n≤64 then n else 0:Nat):Int),str t,.slice O rs.length rc,aH,aI,aK,aL] ⟨if n≤64 then n else 0,t,rs,ls⟩:=⟨O,rc,[aH,aI,aK,aL],rfl,aA,(cF E).2,fun i hi=>(a3 i hi).mono ab⟩
 have dZ:=dY.one;refine aG 1 U<|p (eZ lk U (U) (show ∀ j,j < 7→ay ae.heap V (0 +j)=([a9 .i64 ((if n≤64 then n else 0:Nat):Int),str t,.slice O rs.length rc,aH,aI,aK,aL]:List ag)[j]? from fun j _=>I.aJ j))<|e<|qy km U U U dZ.2 J aD fun eN b1 dk=> ?_;have dl:az eN.heap Z [a9 .i64 ((if n≤64 then n else 0:Nat):Int),str t,.slice O rs.length rc,aH,aI,aK,aL]:=dk;exact ax 4 U<|rO U (hO (cs:= [a9 .i64 ((if n≤64 then n else 0:Nat):Int),str t,.slice O rs.length rc,aH,aI,aK,aL]) U lk U fun j ch=>dl.aJ j) kJ<|⟨.inl ⟨_,_,d7,U,⟨O,rc,[aH,aI,aK,aL],U,aA,(cF<|bR E b1 fun k A h=>by have :=(cM E A).1; omega).2,fun i hi=>((a3 i hi).md b1 fun k A hb=>absurd hb ab).mono ab⟩⟩,M.trans' b1 fun k A h=>by omega⟩
end Go.Hb.yq
section
namespace Go.Hb.tU
open Go.Hb.cO Go.Hb.jK Go.Hb.yq
theorem q6.form {s:List UInt8} {w w':ah} {v:ag} (h:q6 s w v w'):∃ E I x2 J L M O q,v= .tuple #[.agg [E,I,x2,J,L,M,O].toArray,.int .i64 ((q:Nat):Int)]∧[E,I,x2,J,L,M,O].all fg=true∧Wk w w'∧
 ((q≠0∧∃ aj,bH s= .error aj)∨(q=0∧∃ b,bH s= .ok b∧nI w' w.heap.size [E,I,x2,J,L,M,O] b)):=by
 obtain ⟨h,ai⟩:=h;rcases h with ⟨b,cs,A,C,hb⟩ | ⟨A,q,al,C⟩
 · obtain ⟨ak,h1⟩:=hb.one;obtain ⟨V,Z,aa,ab,ac,ad,ae,rfl⟩:∃ V Z aa ab ac ad ae,cs= [V,Z,aa,ab,ac,ad,ae]:=by
    match cs,ak with
    | [V,Z,aa,ab,ac,ad,ae],_=>exact ⟨_,_,_,_,_,_,_,rfl⟩
   exact ⟨_,_,_,_,_,_,_,0,C,h1,ai,.inr ⟨U,b,A,hb⟩⟩
 · exact ⟨_,_,_,_,_,_,_,q,C,U,ai,.inl ⟨al,A⟩⟩
theorem BG {w w':ah} {I e:Nat} {E:Option Addr} {s:List UInt8} {b:dm} (O:b.Is s) (A:bd w.heap E (b.cZ.flatMap ee)) (M:w.heap[I]? =some (.cells [a9 .i64 0,str [],.slice none 0 0,.slice none 0 0,.slice none 0 0,.slice none 0 0,.slice none 0 0].toArray e (0,0))) (hm:Md (fun k=>k=I) w w'):bd w'.heap E (b.cZ.flatMap ee):=by
 refine A.md hm fun J U=> ?_;have hr:=O.cZ;cases hrp:b.cZ with
 | nil=>rw [hrp] at J; exact J rfl
 | cons r rs=>
   rw [hrp] at A hr;have h1:=A.ay 0 (str r.1) rfl;rw [U,bg M] at h1;have L:=(hr r List.mem_cons_self).1;have :∀ j,j < 7→([a9 .i64 0,str [],.slice none 0 0,.slice none 0 0,.slice none 0 0,.slice none 0 0,.slice none 0 0]:List ag).toArray[j]?≠some (str r.1):=fun j C h=>by
    match j,C with
    | 0,_=>cases h
    | 1,_=>exact L<|by simp [str] at h; exact h
    | 2,_=>cases h
    | 3,_=>cases h
    | 4,_=>cases h
    | 5,_=>cases h
    | 6,_=>cases h
   by_cases C:fo E+0 < 7
   · exact this _ C h1
   · rw [Array.getElem?_eq_none (by simp; omega)] at h1; cases h1
def EF (s:List UInt8) (w:ah) (v:ag) (w':ah):Prop := ∃ C E I x2 J L M O A,v= .tuple #[.pointer C,.agg [E,I,x2,J,L,M,O].toArray,.bool A,.bool true]∧[E,I,x2,J,L,M,O].all fg=true∧Wk w w'∧
 ((∃ U b,C=some ⟨U,0,none⟩∧A=true∧bH s= .ok b∧cO w' w.heap.size U b s∧nI w' w.heap.size [E,I,x2,J,L,M,O] b)∨(C=none∧A=false∧∃ V,bH s= .error V))
theorem BC (s:List UInt8) (w:ah) (aW:s.length≤1048576):
 bc prog 8 (bh [str s]) w (EF s w):=by
 refine enter func8 U ntmps8 U<|aQ 3 U<|e<|dq oU fun aw aZ br aR aC=> ?_;have bz:=aR.size;refine aj 6 U<|p mv<|e<|aX (AX s aZ aW) U ?_;rintro bp aK ⟨am,ae⟩;have bv:=ae.size;obtain ⟨E,u,rfl,aV,bm⟩:∃ E u,bp= .tuple #[.pointer E,u]∧(∀ C,E=some C→∃ J b,C=⟨J,0,none⟩∧bH s= .ok b∧cO aK aZ.heap.size J b s)∧(E=none→∃ ad,bH s= .error ad):=by
  cases hX:bH s with
  | ok b=>rw [hX] at am; obtain ⟨J,h,bl⟩:=am; exact ⟨_,_,h,fun C A=>⟨J,b,(Option.some.inj A).symm,rfl,bl⟩,fun A=>by cases A⟩
  | error q=>rw [hX] at am; exact ⟨_,_,am,fun C A=>(by cases A),fun _=>⟨q,rfl⟩⟩
 clear am;refine p mv<|aj 2 U<|p aT<|p aT<|aj 4 U<|p mv<|e<|aX (Jf s aK aW) U fun bD aY bi=> ?_;obtain ⟨L,M,x2,O,V,Z,aa,q,rfl,av,al,aH⟩:=q6.form bi;have bx:=al.size;have bo:(q=0∧E≠none)∨(q≠0∧E=none):=by
  rcases aH with ⟨h1,ad,A⟩ | ⟨h1,b,A,_⟩;refine .inr ⟨h1,?_⟩;cases hoc:E with
  | none=>rfl
  | some C=>obtain ⟨_,_,_,ap,_⟩:=aV C hoc; rw [A] at ap; cases ap
  refine .inl ⟨h1,fun ap=> ?_⟩;obtain ⟨ad,aM⟩:=bm ap;rw [A] at aM; cases aM
 refine p mv<|aj 2 U<|e<|dq oU fun aL bE bt aS a6=> ?_;have bA:=aS.size;refine e<|ei km U U U av a6 aD fun ao aP a7=> ?_;have bB:=aP.size;have a8:az ao.heap aL [L,M,x2,O,V,Z,aa]:=⟨_,a7⟩
 have aq:Wk aY ao:=aS.md.trans' aP fun k aG h=>by omega
 have a5:=Wk.ak aq<|Wk.ak al<|Wk.ak ae aC;refine aF 4 U<|r6 10 fun I=>pX 0 U (mv) I<|Io 1 U (fun w' bj=>eZ lk U (U)<|(show ∀ j,j < 7→ay w'.heap aL (0 +j)=([L,M,x2,O,V,Z,aa]:List ag)[j]? from fun j _=>(Wk.B bj a8).aJ j)) I<|pN [2,3] U I<|pX 4 U (mv) I<|pX 5 U (gB lQ U U) I<|pN [6,7] U I<|pX 8 U (GU u4 U U) I<|pX 9 U (aT) I<|kB 10 U ai ai<|ei km U U U av a5 aD fun ac ar a9=> ?_;have bC:=ar.size;have ba:az ac.heap aw [L,M,x2,O,V,Z,aa]:=⟨_,a9⟩
 refine A0 11 U (fun _=>aT) (fun h=>cD<|(show true =_ from by kernel_rfl).trans h)<|A0 12 U (fun _=>aT) (fun h=>cD<|(show true =_ from by kernel_rfl).trans h)<|kC ai<|bf 2 U<|G6 U kJ (hO (cs:= [L,M,x2,O,V,Z,aa]) U lk U fun j bu=>ba.aJ j) kJ kJ ?_;have bq:Wk ao ac→Wk ao ac:=id;have bg:Wk w ao:=((aR.md.trans ae).trans al).trans aq;have aN:Wk w ac:=bg.trans' (Md.dr ar) fun k aG h=>by omega
 rcases bo with ⟨h1,A⟩ | ⟨h1,A⟩;obtain ⟨_,b,au,bb⟩:=aH.resolve_left fun h=>h.1 h1;obtain ⟨C,rfl⟩:∃ C,E=some C:=by
  cases E with
  | none=>exact absurd rfl A
  | some C=>exact ⟨C,rfl⟩
 obtain ⟨J,a0,rfl,aU,bd⟩:=aV C rfl;obtain rfl :b=a0:=by rw [au] at aU; cases aU; rfl
 subst h1;refine ⟨some ⟨J,0,none⟩,L,M,x2,O,V,Z,aa,true,U,av,aN,.inl ⟨J,b,U,U,au,?_,?_⟩⟩;obtain ⟨cs,a3,⟨aI,rc,vs,rfl,ax,aA,aB⟩,g6⟩:=bd;have aE:Md (fun k=>k=aw) aK ac:=(al.trans aq).mono (fun _ _ h=>h.elim) |>.trans (Md.dr ar);exact ⟨_,aE.B a3 (fun h=>by omega),⟨aI,rc,vs,U,ax,BG (rC au) aA (Wk.ak ae aC) aE,fun i hi=>((aB i hi).md aE fun k aG hb cur z=>by omega).mono ab⟩,ab⟩;obtain ⟨aI,rc,vs,a4,ax,aA,aB⟩:=bb;have aO:Md (fun k=>k=aw) aY ac:=aq.mono (fun _ _ h=>h.elim) |>.trans (Md.dr ar);exact ⟨aI,rc,vs,a4,ax,BG (rC au) aA (Wk.ak al<|Wk.ak ae aC) aO,fun i hi=>((aB i hi).md aO fun k aG hb cur z=>by omega).mono ab⟩;subst A;obtain ⟨_,ad,bn⟩:=aH.resolve_right fun h=>h1 h.1;refine ⟨none,L,M,x2,O,V,Z,aa,false,?_,av,aN,.inr ⟨U,U,ad,bn⟩⟩;have a1:decide (((q:Nat):Int)=0)=false :=decide_eq_false ab;show Value.tuple #[.pointer none,.agg [L,M,x2,O,V,Z,aa].toArray,.bool (decide (((q:Nat):Int)=0)),.bool (decide ((none:Option Addr).isNone=decide (((q:Nat):Int)≠0)))]=_;have a2:decide (((q:Nat):Int)≠0)=true :=decide_eq_true ab;rw [a1,a2];rfl
end Go.Hb.tU
end
section
namespace Go.Hb
open Go.Hb.cO Go.Hb.jK Go.Hb.tU
theorem IC {α:Type} {l:List (List α)} {p:List α} (h:p∈l):p.length≤l.flatten.length:=by
 obtain ⟨a,c,rfl⟩:=List.append_of_mem h;simp only [D5,tA,cw]; omega
theorem Ad {α:Type} :∀ (l:List (List α)) (i:Nat),(l.take i).flatten.length≤l.flatten.length
 | [],i=>by simp
 | a::l,0=>by simp
 | a::l,i+1=>by
   have :=Ad l i;simp only [List.take_succ_cons,tA,cw]; omega
theorem Kg {l:List aP} {least:Nat} {w p:List UInt8} (h:p∈bV l least w):p.length≤w.length:=by
 have h1:=IC h;rw [xg (fun e=>by rw [e] at h; cases h)] at h1;exact h1
theorem qp (b:dm):cG b 1=b.ar.getD 1 []:=by unfold cG; rw [if_pos ab]; rfl
theorem J9 (s A:List UInt8) (b:dm) (w:ah) (bn:cP 524 bE w) (bv:s.length≤1048576) (ck:A.length≤1048576) (ay:bH s= .ok b):
 bc prog 5 (bh [str s,str A]) w (fun v w'=>v= .bool true∧Wk w w'):=by
 have Z:=rC ay;have ak:iq (cG b 1):=JK Z 1;have cg:b.least≤64:=Z.least.2;have aI:(b.ar.getD 1 [])≠[]:=fun e=>by
  have h:=(Z.ar _<|jt (l:=b.ar) (i:=1) (d:= [])<|by rw [Z.p7]; decide).1;rw [e] at h; exact absurd h aD
 have ci:(bV (b.ar.getD 1 []) b.least A).length≤A.length:=by
  by_cases hw:A.length≤1024;by_cases h:(bV (b.ar.getD 1 []) b.least A)= []
  rw [h]; exact fq _;rw [Co h];exact (pU (l:=b.ar.getD 1 []) (least:=b.least) (x:=A) 0<|Nat.le_refl _).1;rw [xh ab]; exact fq _
 have b7:(fN (b.ar.getD 1 []) b.least A).1≤1099511627776:=by
  unfold fN; split;exact fq _;split;exact fq _;rename_i h; unfold eJ at h; show (jC _ _ 0).2≤_; omega
 refine enter func5 U ntmps5 U<|aQ 7 U<|p mv<|e<|aX (BC s w bv) U ?_;rintro cu bR ⟨cr,cH,cI,x2,cJ,cL,cM,cN,cp,rfl,bt,aY,bN⟩;have cm:=aY.size;obtain ⟨I,bb,rfl,rfl,a4,bj,_⟩:=bN.resolve_right fun ⟨_,_,b1,h⟩=>by rw [ay] at h; cases h
 obtain rfl :b=bb:=by rw [ay] at a4; cases a4; rfl
 refine p mv<|aj 4 U<|e<|dq oU fun b0 cC b4 a1 bi=> ?_;have cn:=a1.size;refine p aT<|e<|ei km U U U bt bi aD fun aL a0 b3=> ?_;have co:=a0.size;have aZ:Wk bR aL:=a1.md.trans' a0 fun k ce h=>by omega
 have aq:=aY.trans aZ;have bm:cP 524 bE aL:=bn.mono aq fun _ _ h=>h;refine aj 10 U<|gb (t:=26) U (fun h=>absurd (h.symm.trans<|U) cD) fun b8=>eg U U U<|aX (CZ aL bm) U ?_;rintro cv bT ⟨rfl,au⟩;have aP:=(bj.wk aZ).wk au;refine aF 4 U<|cf (U)<|aG 4 U<|p mv<|p mv<|e<|aX (xi _ I b s A bT aP Z ab) U ?_;rintro cw bU ⟨a7,av⟩;obtain ⟨O,aa,rfl⟩:=eb a7;have aR:=aP.wk av;refine p aT<|aj 4 U<|p mv<|e<|aX (yJ _ I b s bU aR Z) U ?_;rintro cx bW ⟨cs,rfl,⟨ct,rc,vs,rfl,_⟩,hE34⟩;have aS:=aR.wk hE34;refine p U<|aj 5 U<|p mv<|p mv<|e<|aX (yW _ I b s A bW aS Z ab) U ?_;rintro cy bX ⟨rfl,am⟩;have aV:=aS.wk am;refine p mv<|aF 6 U ?_;refine eL (fun a8 ac=> ∃ (I B1:Nat) (O:Option Addr) (aa:Nat),(cO ac B1 I b s)∧(bd ac.heap O<|(bV (b.ar.getD 1 []) b.least A).map str)∧(Wk w ac)∧(Sl a8 [(1,str A),(5,aU I),(9,.slice O (bV (b.ar.getD 1 []) b.least A).length aa),(10,aB (b.least))])) ?_ ?_;refine aQ 2 U<|p mv<|p mv<|e<|aX (yT _ I b s A bX aV Z ab) U ?_;rintro cz cB ⟨rfl,ao⟩;have aW:=aV.wk ao;have a2:=(((cF a7).2.wk hE34).wk am).wk ao;refine p mv<|aj 2 U<|p (sc u4 U U)<|aj 1 U<|gs (t:=49) U (fun h=>absurd h fun h=>h<|decide_eq_decide.2 ab) fun b9=>aj 2 U<|gb (t:=51) U (fun a6=> ?_) fun a6=> ?_;exact aj 2 U<|bB U mv<|aj 2 U<|bB U (sc u4 U U)<|aF 4 U<|cd U (fun h=>absurd h<|by first | rfl | exact fun h=>h<|decide_eq_decide.2 (by have bg:0 < (bV (b.ar.getD 1 []) b.least A).length↔bV (b.ar.getD 1 []) b.least A≠[]:=List.length_pos_iff; have b2:=(FX (l:=b.ar.getD 1 []) (least:=b.least) (w:=A) a6).trans bg.symm; omega)) fun b5=>aE 1 U<|tn<|⟨I,_,O,aa,aW,a2,(((((aq.trans au).trans av).trans hE34).trans am).trans ao),U⟩
 exact aj 7 U<|p (mM U)<|ax 4 U<|tn<|⟨I,_,O,aa,aW,a2,(((((aq.trans au).trans av).trans hE34).trans am).trans ao),U⟩
 rintro a8 ac ⟨I,B1,O,aa,ai,a3,J,bx⟩;refine bF bx<|bZ 14 U<|lp (fun V aO aM=> ∃ (i:Nat),(i≤(bV (b.ar.getD 1 []) b.least A).length)∧(Wk ac aM)∧(aO 13=str ((bV (b.ar.getD 1 []) b.least A).take i).flatten)∧(Sl aO [(1,str A),(5,aU I),(9,.slice O (bV (b.ar.getD 1 []) b.least A).length aa),(10,aB (b.least)),(60,.slice O (bV (b.ar.getD 1 []) b.least A).length aa),(61,aB ((bV (b.ar.getD 1 []) b.least A).length)),(62,aB i)])∧((bV (b.ar.getD 1 []) b.least A).length - i=V)) _ ⟨0,ab,(Md.refl _ _),(by first | rfl | (rw [a5]; rfl)),U,U⟩ ?_;rintro V aO aM ⟨i,hi,L,bA,bz,rfl⟩;refine bF bz<|fx 13 bA<|bY 6 U<|cd U (fun bo=> ?_) fun bo=> ?_;refine bZ 5 U ?_;obtain ⟨aJ,ae⟩:∃ p,(bV (b.ar.getD 1 []) b.least A)[i]? =some p:=⟨_,bD ab⟩
 have bu:=Kf aI<|kZ ae;have ch:=Kg<|kZ ae;have bL:=Ad (bV (b.ar.getD 1 []) b.least A) i;rw [xg (l:=b.ar.getD 1 []) (least:=b.least) (w:=A) (fun e=>by rw [e] at ae; simp at ae)] at bL;have a5:((bV (b.ar.getD 1 []) b.least A).take<|i+1).flatten=((bV (b.ar.getD 1 []) b.least A).take i).flatten++aJ:=by rw [List.take_add_one,ae,D5]; simp
 refine aG 1 U<|p (bJ uS U U ab<|bd.ok (a3.wk L)<|vQ ab)<|p (aw U<|bd.rj (a3.wk L) (show (_:List ag)[i]? =some (str aJ) by rw [List.getElem?_map,ae]; rfl)) ?_;refine aj 8 U<|e<|aX (pQ _ I b s 1 aJ aM (ai.wk L) ak ab) U ?_;rintro cA cE ⟨rfl,bl⟩;rw [qp,bu.1];exact aj 2 U<|gb (t:=70) U (fun h=>absurd (h.symm.trans<|U) cD) fun ca=>aF 7 U<|cd U (fun h=>absurd h ab) fun b6=>aG 5 U<|p (cc U U ab)<|aj 5 U<|p (bM<|i+1)<|ax 2 U<|tn<|⟨_,ab,i+1,ab,(L.trans bl),(by first | rfl | (rw [a5]; rfl)),U,U⟩
 refine aE 2 U<|cq<|dM 4 U ?_;obtain rfl :i=(bV (b.ar.getD 1 []) b.least A).length:=ab;have cj:=Cr (l:=b.ar.getD 1 []) (least:=b.least) (w:=A);have bK:0 < (bV (b.ar.getD 1 []) b.least A).length→((bV (b.ar.getD 1 []) b.least A).take (bV (b.ar.getD 1 []) b.least A).length).flatten=A:=fun h0=>by rw [List.take_length]; exact xg fun e=>by rw [e] at h0; simp at h0
 refine aG 5 U<|gs (t:=83) U (fun bq=> ?_) fun bq=> ?_;refine aj 5 U<|gs (t:=88) U (fun h=>absurd h<|by first | rfl | exact fun h=>h<|bK ab) fun cb=>aF 6 U<|cd U (fun h=>absurd h<|by first | rfl | omega) fun bp=>aG 9 U<|gs (t:=96) U (fun aH=> ?_) fun aH=> ?_;refine ax 14 U<|aN U ?_
 first | exact ⟨rfl,J.trans C⟩ | exact ⟨rfl,J.trans L⟩
 refine aF 6 U<|cd U (fun ap=> ?_) fun ap=> ?_;refine aE 7 U<|aN U ?_
 first | exact ⟨rfl,J.trans C⟩ | exact ⟨rfl,J.trans L⟩
 refine bZ 9 U<|lp (fun V a9 ad=> ∃ (i:Nat),(1≤i)∧(i≤A.length+1)∧(Wk ac ad)∧(Sl a9 [(1,str A),(5,aU I),(10,aB (b.least)),(16,aB i)])∧(A.length+1 - i=V)) _ ⟨1,ab,ab,L,U,U⟩ ?_;rintro V a9 ad ⟨i,br,hi,C,bG,rfl⟩;refine bF bG<|bY 9 U<|cd U (fun az=> ?_) fun az=> ?_;refine aG 10 U<|gs (t:=110) U (fun aA=> ?_) fun aA=> ?_;refine aj 8 U<|gs (t:=118) U (fun aC=> ?_) fun aC=> ?_;refine aj 3 U<|bB U (oM u9 U U ab)<|eg U U U<|aX (pQ _ I b s 1 (A.take i) ad (ai.wk C) ak<|by rw [dh]; omega) U ?_;rintro bO aK ⟨rfl,E⟩;rw [qp];refine aj 2 U<|gb (t:=125) U (fun al=> ?_) fun al=> ?_;refine aj 3 U<|bB U (xf u9 U U ab)<|eg U U U<|aX (pQ _ I b s 1 (A.drop i) aK ((ai.wk C).wk E) ak<|by rw [gx]; omega) U ?_;rintro bP bQ ⟨rfl,M⟩;rw [qp];exact aF 3 U<|cf (by first | rfl | exact congrArg bC<|Dn.2 fun h=>Ct (least:=b.least) (i:=i) aI ab ab ab ab ab ab al h)<|aG 5 U<|p (bM<|i+1)<|ax 2 U<|tn<|⟨_,ab,i+1,ab,ab,(by first | exact (C.trans E).trans M | exact C.trans E | exact C),U,U⟩
 exact aj 14 U<|p (bM<|i+1)<|ax 2 U<|tn<|⟨_,ab,i+1,ab,ab,(by first | exact (C.trans E).trans M | exact C.trans E | exact C),U,U⟩
 exact aj 6 U<|p mv<|aj 14 U<|p (bM<|i+1)<|ax 2 U<|tn<|⟨_,ab,i+1,ab,ab,(by first | exact (C.trans E).trans M | exact C.trans E | exact C),U,U⟩
 exact aj 7 U<|p mv<|aj 6 U<|p mv<|aj 14 U<|p (bM<|i+1)<|ax 2 U<|tn<|⟨_,ab,i+1,ab,ab,(by first | exact (C.trans E).trans M | exact C.trans E | exact C),U,U⟩
 refine aE 2 U<|cq<|bf 8 U<|aN U ?_
 first | exact ⟨rfl,J.trans C⟩ | exact ⟨rfl,J.trans L⟩
 refine aj 4 U<|p mv<|aF 6 U<|cd U (fun h=>absurd h<|by first | rfl | omega) fun bp=>aG 9 U<|gs (t:=96) U (fun aH=> ?_) fun aH=> ?_;refine ax 14 U<|aN U ?_
 first | exact ⟨rfl,J.trans C⟩ | exact ⟨rfl,J.trans L⟩
 refine aF 6 U<|cd U (fun ap=> ?_) fun ap=> ?_;refine aE 7 U<|aN U ?_
 first | exact ⟨rfl,J.trans C⟩ | exact ⟨rfl,J.trans L⟩
 refine bZ 9 U<|lp (fun V ba ad=> ∃ (i:Nat),(1≤i)∧(i≤A.length+1)∧(Wk ac ad)∧(Sl ba [(1,str A),(5,aU I),(10,aB (b.least)),(16,aB i)])∧(A.length+1 - i=V)) _ ⟨1,ab,ab,L,U,U⟩ ?_;rintro V ba ad ⟨i,br,hi,C,bI,rfl⟩;refine bF bI<|bY 9 U<|cd U (fun az=> ?_) fun az=> ?_;refine aG 10 U<|gs (t:=110) U (fun aA=> ?_) fun aA=> ?_;refine aj 8 U<|gs (t:=118) U (fun aC=> ?_) fun aC=> ?_;refine aj 3 U<|bB U (oM u9 U U ab)<|eg U U U<|aX (pQ _ I b s 1 (A.take i) ad (ai.wk C) ak<|by rw [dh]; omega) U ?_;rintro bO aK ⟨rfl,E⟩;rw [qp];refine aj 2 U<|gb (t:=125) U (fun al=> ?_) fun al=> ?_;refine aj 3 U<|bB U (xf u9 U U ab)<|eg U U U<|aX (pQ _ I b s 1 (A.drop i) aK ((ai.wk C).wk E) ak<|by rw [gx]; omega) U ?_;rintro bP bQ ⟨rfl,M⟩;rw [qp];exact aF 3 U<|cf (by first | rfl | exact congrArg bC<|Dn.2 fun h=>Ct (least:=b.least) (i:=i) aI ab ab ab ab ab ab al h)<|aG 5 U<|p (bM<|i+1)<|ax 2 U<|tn<|⟨_,ab,i+1,ab,ab,(by first | exact (C.trans E).trans M | exact C.trans E | exact C),U,U⟩
 exact aj 14 U<|p (bM<|i+1)<|ax 2 U<|tn<|⟨_,ab,i+1,ab,ab,(by first | exact (C.trans E).trans M | exact C.trans E | exact C),U,U⟩
 exact aj 6 U<|p mv<|aj 14 U<|p (bM<|i+1)<|ax 2 U<|tn<|⟨_,ab,i+1,ab,ab,(by first | exact (C.trans E).trans M | exact C.trans E | exact C),U,U⟩
 exact aj 7 U<|p mv<|aj 6 U<|p mv<|aj 14 U<|p (bM<|i+1)<|ax 2 U<|tn<|⟨_,ab,i+1,ab,ab,(by first | exact (C.trans E).trans M | exact C.trans E | exact C),U,U⟩
 refine aE 2 U<|cq<|bf 8 U<|aN U ?_
 first | exact ⟨rfl,J.trans C⟩ | exact ⟨rfl,J.trans L⟩
end Go.Hb
end
section
namespace Go.Hb
open Go.Hb.cO Go.Hb.jK Go.Hb.tU
theorem EY (n:Int) (x:List UInt8) (w:ah):
 bc prog 29 (bh [.pointer none,.int .i64 n,str x]) w (fun v w'=>v= .tuple #[.pointer none,.int .i64 0]∧Wk w w'):=by
 refine enter func29 U ntmps29 U<|aQ 2 U<|e<|nP U U fun I E L A J=> ?_;have O:=A.size;refine aj 6 U<|p mv<|p mv<|e<|aX (JL n E) U ?_;rintro V Z ⟨rfl,C⟩;refine p aT<|aj 5 U<|p mv<|aF 4 U<|cd U (fun M=> ?_) fun h=>absurd U h;exact aE 8 U<|f2 U U U<|⟨U,A.md.trans C⟩
theorem HE (n:Int) (x:List UInt8) (w:ah):
 bc prog 17 (bh [.pointer none,.int .i64 n,str x]) w (fun v w'=>v= .bool false∧Wk w w'):=by
 refine enter func17 U ntmps17 U<|aQ 7 U<|p mv<|p mv<|p mv<|e<|aX (EY n x w) U ?_;rintro E I ⟨rfl,A⟩;exact p mv<|aj 2 U<|p aT<|aj 5 U<|p mv<|p (vR xw U U)<|aj 1 U<|gb (t:=18) U (fun h=>absurd (h.symm.trans<|U) cD) fun C=>aj 5 U<|p aT<|ax 3 U<|aN U<|⟨U,A⟩
theorem Fe (w:ah):
 bc prog 16 (bh [.pointer none]) w (fun v w'=>v= .agg [.int .i64 0,str [],.slice none 0 0,.slice none 0 0,.slice none 0 0,.slice none 0 0,.slice none 0 0].toArray∧Wk w w'):=by
 refine enter func16 U ntmps16 U<|aQ 2 U<|e<|dq oW fun C ac V A E=> ?_;have ab:=A.size;refine aj 5 U<|p mv<|p (gB lQ U U)<|aF 2 U<|ct (U)<|aG 2 U<|p (eF (ps:= []) (L:= [.int .i64 0,.string ⟨⟨[]⟩⟩,.slice none 0 0,.slice none 0 0,.slice none 0 0,.slice none 0 0,.slice none 0 0]) xm U<|U)<|e<|ei lu U U U U E aD fun O M I=> ?_;have J:az O.heap C [.int .i64 0,str [],.slice none 0 0,.slice none 0 0,.slice none 0 0,.slice none 0 0,.slice none 0 0]:=⟨_,I⟩
 exact ax 4 U<|pJ U (hO (cs:= [.int .i64 0,str [],.slice none 0 0,.slice none 0 0,.slice none 0 0,.slice none 0 0,.slice none 0 0]) U kf U fun j Z=>J.aJ j)<|⟨U,A.md.trans' M fun k aa h=>by omega⟩
theorem J8 (s A:List UInt8) (ao:Nat) (w:ah) (aA:cP 524 bE w) (aO:s.length≤1048576) (bl:A.length≤1048576) (aC:bH s= .error ao):
 bc prog 5 (bh [str s,str A]) w (fun v w'=>v= .bool true∧Wk w w'):=by
 refine enter func5 U ntmps5 U<|aQ 7 U<|p mv<|e<|aX (BC s w aO) U ?_;rintro bt aW ⟨bq,bI,bJ,x2,bK,bL,bN,bO,bp,rfl,aM,ad,aU⟩;have bm:=ad.size;obtain ⟨rfl,rfl,_⟩:=aU.resolve_left fun ⟨_,_,_,_,h,_⟩=>by rw [aC] at h; cases h
 refine p mv<|aj 4 U<|e<|dq oU fun a2 bG a4 ag ap=> ?_;have bn:=ag.size;refine p aT<|e<|ei km U U U aM ap aD fun Z ae a3=> ?_;have bo:=ae.size;have ay:Wk aW Z:=ag.md.trans' ae fun k bj h=>by omega
 have ac:=ad.trans ay;have az:cP 524 bE Z:=aA.mono ac fun _ _ h=>h;refine aj 10 U<|gb (t:=26) U (fun h=>absurd (h.symm.trans<|U) cD) fun a9=>eg U U U<|aX (CZ Z az) U ?_;rintro bu aY ⟨rfl,aq⟩;refine aF 4 U<|cf (U)<|aG 4 U<|p mv<|p mv<|e<|aX (Cn A aY ab) U ?_;rintro bv aZ ⟨aL,ar⟩;obtain ⟨E,I,rfl⟩:=eb aL;refine p aT<|aj 4 U<|p mv<|e<|aX (Fe aZ) U ?_;rintro bx a0 ⟨rfl,au⟩;refine p U<|aj 5 U<|p mv<|p mv<|e<|aX (FV A a0 ab) U ?_;rintro bz a1 ⟨rfl,av⟩;refine p mv<|aF 6 U ?_;refine eL (fun ak M=> ∃ (E:Option Addr) (I:Nat),(Wk w M)∧(Sl ak [(1,str A),(5,.pointer none),(9,.slice E 0 I),(10,.int .i64 ((0:Nat):Int))])) ?_ ?_;refine aQ 2 U<|p mv<|p mv<|e<|aX (FJ A a1 ab) U ?_;rintro bA bD ⟨rfl,aw⟩;refine p mv<|aj 2 U<|p (sc u4 U U)<|aj 1 U<|gs (t:=49) U (fun h=>absurd h<|by first | rfl | (intro h; exact h U)) fun ba=>aj 2 U<|gb (t:=51) U (fun bb=> ?_) fun h=>absurd ((U).symm.trans h) cD;exact aj 2 U<|bB U mv<|aj 2 U<|bB U (sc u4 U U)<|aF 4 U<|cd U (fun h=>absurd h<|by first | rfl | (intro h; exact h U)) fun a5=>aE 1 U<|tn<|⟨E,I,(((((ac.trans aq).trans ar).trans au).trans av).trans aw),U⟩
 rintro ak M ⟨E,I,L,aP⟩;refine bF aP<|bZ 14 U<|lp (fun J al ai=> ∃ (aV:Unit),(Wk M ai)∧(Sl al [(1,str A),(5,.pointer none),(9,.slice E 0 I),(10,.int .i64 ((0:Nat):Int)),(60,.slice E 0 I),(61,.int .i64 ((0:Nat):Int)),(62,.int .i64 ((0:Nat):Int)),(13,str [])])∧(0=J)) _ ⟨(),(Md.refl _ _),U,U⟩ ?_;rintro J al ai ⟨aV,V,aR,rfl⟩;refine bF aR<|bY 6 U<|cd U (fun h=>absurd h ab) fun a6=>aE 2 U<|cq<|gh 9 U<|gs (t:=83) U (fun h=>absurd h ab) fun bd=>aj 4 U<|p mv<|aF 6 U<|cd U (fun h=>absurd h<|by first | rfl | omega) fun a7=>aG 9 U<|gs (t:=96) U (fun h=>absurd h ab) fun bg=>aF 6 U<|cd U (fun aH=> ?_) fun aH=> ?_;refine aE 7 U<|aN U ?_
 first | exact ⟨rfl,L.trans C⟩ | exact ⟨rfl,L.trans V⟩
 refine bZ 9 U<|lp (fun J am aa=> ∃ (i:Nat),(1≤i)∧(i≤A.length+1)∧(Wk M aa)∧(Sl am [(1,str A),(5,.pointer none),(10,.int .i64 ((0:Nat):Int)),(16,aB i)])∧(A.length+1 - i=J)) _ ⟨1,ab,ab,V,U,U⟩ ?_;rintro J am aa ⟨i,bi,hi,C,aS,rfl⟩;refine bF aS<|bY 9 U<|cd U (fun aI=> ?_) fun aI=> ?_;refine aG 10 U<|gs (t:=110) U (fun aJ=> ?_) fun aJ=> ?_;refine aj 8 U<|gs (t:=118) U (fun aK=> ?_) fun aK=> ?_;refine aj 3 U<|bB U (oM u9 U U ab)<|eg U U U<|aX (HE 1 (A.take i) aa) U ?_;rintro br bC ⟨rfl,O⟩;exact aj 2 U<|gb (t:=125) U (fun h=>absurd (h.symm.trans<|U) cD) fun a8=>aj 14 U<|p (bM<|i+1)<|ax 2 U<|tn<|⟨_,ab,i+1,ab,ab,(by first | exact C.trans O | exact C),U,U⟩
 exact aj 6 U<|p mv<|aj 14 U<|p (bM<|i+1)<|ax 2 U<|tn<|⟨_,ab,i+1,ab,ab,(by first | exact C.trans O | exact C),U,U⟩
 exact aj 7 U<|p mv<|aj 6 U<|p mv<|aj 14 U<|p (bM<|i+1)<|ax 2 U<|tn<|⟨_,ab,i+1,ab,ab,(by first | exact C.trans O | exact C),U,U⟩
 refine aE 2 U<|cq<|bf 8 U<|aN U ?_
 first | exact ⟨rfl,L.trans C⟩ | exact ⟨rfl,L.trans V⟩
theorem Kc (s A:List UInt8) (w:ah) (C:cP 524 bE w) (E:s.length≤1048576) (I:A.length≤1048576):bc prog 5 (bh [str s,str A]) w (fun v w'=>v= .bool true∧Wk w w'):=by
 cases hX:bH s with
 | ok b=>exact J9 s A b w C E I hX
 | error J=>exact J8 s A J w C E I hX
end Go.Hb
end
