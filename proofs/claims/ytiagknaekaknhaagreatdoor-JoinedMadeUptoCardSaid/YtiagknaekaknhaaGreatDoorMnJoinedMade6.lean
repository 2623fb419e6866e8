/-
  Walks and plain laws that the law rests on, laid together. No conditions but those that each theorem names.
-/
import Derived.Test.YtiagknaekaknhaaGreatDoorMnJoinedMade5
set_option linter.unusedVariables false
set_option maxRecDepth 20000
set_option maxHeartbeats 1000000
open Bool renaming and_false→uc,noConfusion→c9
open Classical renaming not_not→rn
open Go renaming Addr→bl,Value→ag,World→ah
open Go.Value renaming bool→bD,int→a0,oneCell'→eS,slice→cz
open Go.World renaming ownsRow→bj,ownsRow_nil→eT
open Int renaming toNat_natCast→pO
open List renaming append_assoc→gC,append_nil→js,flatMap_append→uq,getElem?_append_left→eU,getElem?_append_right→fm,getElem?_eq_getElem→bt,getElem?_map→eV,length→kE,length_append→bK,length_cons→dm,length_eq_zero_iff→E4,length_nil→gY,length_pos_iff→pT,length_singleton→mz,length_take→cV,map_append→gD,map_cons→fq,mem_append→dx,mem_of_getElem?→j5,mem_singleton→dN,nil_append→n3,take_length→uG,take_of_length_le→j6,toArray→bB
open Nat renaming le_refl→aQ,le_trans→cG,lt_or_ge→dD
open UInt8 renaming toNat_inj→rN
open Go.Proofs.Tryz
open Go.Hb.dO Go.Proofs Go.Hb.fE Go.Hb.gF Go.Hb.cQ Go.Hb.jy

namespace Go.Hb
def gi (w:ah) (B:Nat) (A:List (Bool×ag)) (l:List aM):Prop :=A.length=l.length∧∀ (i:Nat) q e,A[i]? =some q→l[i]? =some e→q.1=e.1∧Tg w B 167 e.2.length q.2 (e9 e.2)
theorem gi.nil (w:ah) (B:Nat):gi w B [] []:=⟨rfl,fun i q r A=>by simp at A⟩
theorem gi.md {F:Nat→Prop} {w w':ah} {B:Nat} {C:List (Bool×ag)} {l:List aM} (h:gi w B C l) (hm:Md F w w') (E:∀ k,F k→B≤k→∀ cur z,w.heap[k]?≠some (.cells cur 167 z)):gi w' B C l:=
 ⟨h.1,fun i q r h1 A=>⟨(h.2 i q r h1 A).1,Tg.kW (h.2 i q r h1 A).2 hm E⟩⟩
theorem gi.wk {w w':ah} {B:Nat} {A:List (Bool×ag)} {l:List aM} (h:gi w B A l) (hm:Wk w w'):gi w' B A l:=h.md hm fun _ C=>C.elim
theorem gi.snoc {w:ah} {B:Nat} {C:List (Bool×ag)} {l:List aM} {v:ag} {e:aM} (ha:gi w B C l) (I:Tg w B 167 e.2.length v (e9 e.2)):gi w B (C++ [(e.1,v)]) (l++ [e]):=by
 refine ⟨by rw [bK,bK,ha.1]; rfl,fun i q' r' h1 A=> ?_⟩;have E:=ha.1;by_cases hi:i < C.length
 · rw [eU hi] at h1;rw [eU ab] at A;exact ha.2 i q' r' h1 A
 · rw [fm ab] at h1;rw [fm ab,← E] at A;cases hj:i - C.length with
   | zero=>rw [hj] at h1 A; cases h1; cases A; exact ⟨rfl,I⟩
   | succ j=>rw [hj] at h1; simp at h1
def eZ (w:ah) (B:Nat) (v:ag) (l:List aM):Prop := ∃ A,Tg w B 143 l.length v (fA A)∧gi w B A l
theorem eZ.md {F:Nat→Prop} {w w':ah} {B:Nat} {v:ag} {l:List aM} (h:eZ w B v l) (hm:Md F w w') (C:∀ k,F k→B≤k→∀ cur z,w.heap[k]?≠some (.cells cur 143 z)∧w.heap[k]?≠some (.cells cur 167 z)):eZ w' B v l:=by
 obtain ⟨I,h1,E⟩:=h;exact ⟨I,Tg.kW h1 hm fun k A hb cur z=>(C k A hb cur z).1,E.md hm fun k A hb cur z=>(C k A hb cur z).2⟩
theorem eZ.wk {w w':ah} {B:Nat} {v:ag} {l:List aM} (h:eZ w B v l) (hm:Wk w w'):eZ w' B v l:=h.md hm fun _ A=>A.elim
theorem eZ.mono {w:ah} {B B':Nat} {v:ag} {l:List aM} (h:eZ w B v l) (C:B'≤B):eZ w B' v l:=by
 obtain ⟨J,h1,I,A⟩:=h;exact ⟨J,h1.mono C,I,fun i q e E he=>⟨(A i q e E he).1,(A i q e E he).2.mono C⟩⟩
theorem eZ.eG {w:ah} {B:Nat} {v:ag} {l:List aM} (h:eZ w B v l):∃ aa cc,v= .slice aa l.length cc∧l.length≤cc∧eA w.heap aa l:=by
 obtain ⟨O,h1,aj,ad⟩:=h;obtain ⟨aa,cc,rfl⟩:=h1.slice;obtain ⟨ae,I⟩:=h1.qg;refine ⟨aa,cc,U,ae,fun h0=>aV.ok I (oE (f:=fun q:Bool×ag=> [bD q.1,q.2]) (m:=2) (fun _=>rfl) aF ab),fun i hi=> ?_⟩;have L:O[i]? =some (O[i]'ab):=bt ab;have ai:l[i]? =some (aD l i):=by
  unfold aD;rw [List.getD_eq_getElem?_getD,bt hi]; rfl
 obtain ⟨ac,C⟩:=ad i _ _ L ai;obtain ⟨V,Z,M⟩:=C.slice;have E:=C;rw [M] at E;obtain ⟨_,A⟩:=E.qg;have J:=lX (f:=fun q:Bool×ag=> [bD q.1,q.2]) (m:=2) (fun _=>rfl) I L;refine ⟨V,Z,by rw [J 0 ab,ac]; rfl,by rw [J 1 ab,M]; rfl,fun h0=>aV.ok A (oE (f:=fun e:UInt8×Int=> [a0 .u8 e.1.toNat,.int .i64 e.2]) (m:=2) (fun _=>rfl) aF h0),fun k e he=> ?_,fun k e he=> ?_⟩
 · exact lX (f:=fun e:UInt8×Int=> [a0 .u8 e.1.toNat,.int .i64 e.2]) (m:=2) (fun _=>rfl) A he 0 ab
 · exact lX (f:=fun e:UInt8×Int=> [a0 .u8 e.1.toNat,.int .i64 e.2]) (m:=2) (fun _=>rfl) A he 1 ab
set_option maxHeartbeats 2000000 in
theorem FU (rb:Nat) (s:List UInt8) (a:Nat) (w:ah) (bH:aA w.heap rb [str s,aB a,aB 0]) (bx:s.length≤1048576) (ha:a≤s.length):
 bo prog 36 (bB [aU rb]) w (fun v w'=> ∃ A q:Nat,aA w'.heap rb [str s,aB A,aB q]∧A≤s.length∧((q=0∧∃ l,cI s a= .ok (l,A)∧eZ w' w.heap.size v l)∨(q≠0∧(∃ I,cI s a= .error I)∧∃ aa m c,v= .slice aa m c))∧Md (fun k=>k=rb) w w'):=by
 have dU:=bH.lt;refine enter func36 U ntmps36 U<|aW 7 U<|p mv<|e<|ba (oQ rb s a 0 w bH bx<|ha) U ?_;rintro ed em ⟨n,aC,cb,rfl,aS,b5,dT,ca,a7⟩;refine aN 3 U ?_;refine dY (fun cf bA=> ∃ (a1:Nat),(aA bA.heap rb [str s,aB aC,aB a1])∧((a1=0∧bc s a= .ok (n,aC)∧¬(n=0∨1048576 < n))∨(a1≠0∧∃ I,cI s a= .error I))∧(Md (fun k=>k=rb) w bA)∧(Sl cf [(0,aU rb),(3,.int .u64 (n:Nat))])) ?_ ?_;refine aW 2 U<|p mv<|aj 2 U<|p (ax U<|aS.aO 2)<|aj 2 U<|gs (t:=15) U (fun b2=> ?_) fun b2=> ?_;have M:=(ca.resolve_right fun h=>h.1 ab).2.2;refine aj 3 U<|gs (t:=18) U (fun c5=> ?_) fun c5=> ?_;refine aj 3 U<|p (mg U)<|aj 4 U<|p mv<|aj 2 U<|e<|st dc U U (U) (aS) (by simp) fun dD bt bi=> ?_
 skip
 exact az 1 U<|tn<|⟨190,bi,(.inr ⟨aF,_,tB M<|.inl ab⟩),(a7.trans bt),U⟩
 refine aN 6 U<|cd U (fun c2=> ?_) fun c2=> ?_;refine aJ 1 U<|p mv<|aj 2 U<|e<|st dc U U (U) (aS) (by simp) fun dD bt bi=> ?_
 skip
 exact az 1 U<|tn<|⟨190,bi,(.inr ⟨aF,_,tB M<|.inr ab⟩),(a7.trans bt),U⟩
 exact aG 1 U<|tn<|⟨cb,aS,(.inl ⟨ab,M,ab⟩),a7,U⟩
 have bZ:=ca.resolve_left fun h=>b2<|by rw [h.2.1]; rfl
 exact az 11 U<|tn<|⟨cb,aS,(.inr ⟨bZ.1,bZ.2.2.elim (fun h=>absurd U h) fun ⟨ar,h⟩=>⟨ar,CM h⟩⟩),a7,U⟩
 rintro cf bA ⟨a1,cH,cq,cX,dl⟩;refine bF dl<|bS 5 U ?_;refine dY (fun cg aD=> ∃ (l:List aM) (C:List (Bool×ag)) (al:ag) (A q:Nat),((q=0∧cr (fB s n) n aC= .ok (l,A)∧bc s a= .ok (n,aC)∧¬(n=0∨1048576 < n))∨(q≠0∧∃ I,cI s a= .error I))∧(A≤s.length)∧(bj aD w.heap.size 143 2 al C.length<|fA C)∧(gi aD w.heap.size C l)∧(aA aD.heap rb [str s,aB A,aB q])∧(Md (fun k=>k=rb) w aD)∧(Sl cg [(0,aU rb),(4,al)])) ?_ ?_;refine bT 1 U<|lp (fun aQ ch an=> ∃ (k:Nat) (l:List aM) (C:List (Bool×ag)) (al:ag) (A q:Nat),(C.length=k)∧(k≤1048577)∧((q=0∧k≤n∧bc s a= .ok (n,aC)∧¬(n=0∨1048576 < n)∧cr (fB s n) k aC= .ok (l,A))∨(q≠0∧∃ I,cI s a= .error I))∧(A≤s.length)∧(bj an w.heap.size 143 2 al C.length<|fA C)∧(gi an w.heap.size C l)∧(aA an.heap rb [str s,aB A,aB q])∧(Md (fun k=>k=rb) w an)∧(Sl ch [(0,aU rb),(3,.int .u64 (n:Nat)),(4,al)])∧(n - k=aQ)) _ ⟨0,[],[],.slice none 0 0,aC,a1,U,ab,(cq.imp (fun h=>⟨h.1,ab,h.2.1,h.2.2,U⟩) id),b5,(eT _ _ _ _),(gi.nil _ _),cH,cX,U,U⟩ ?_;rintro aQ ch an ⟨k,l,C,al,A,q,c9,dP,bn,aw,ai,bq,ac,au,dn,rfl⟩;refine bF dn ?_;obtain ⟨aE,co,rfl⟩:=cT ai;refine aW 5 U<|p (fH pB tR U<|gz ab)<|aj 3 U<|gs (t:=31) U (fun c6=> ?_) fun c6=> ?_;refine aj 3 U<|bO U (ax U<|ac.aO 2)<|aN 4 U<|cd U (fun b0=> ?_) fun b0=> ?_;obtain ⟨dh,dQ,M,av,Z⟩:=bn.resolve_right fun h=>h.1 ab;obtain rfl :q=0:=dh;refine aJ 6 U<|e<|ba (oQ rb s A 0 an ac bx<|aw) U ?_;rintro d9 ee ⟨v0,p1,dx,rfl,bI,de,dS,b8,bU⟩;refine aN 3 U ?_;refine dY (fun ci bd=> ∃ (a2:Nat),(aA bd.heap rb [str s,aB p1,aB a2])∧((a2=0∧bc s A= .ok (v0,p1)∧¬256 < v0 / 2)∨(a2≠0∧∃ I,cI s a= .error I))∧(Md (fun k=>k=rb) an bd)∧(Sl ci [(0,aU rb),(3,.int .u64 (n:Nat)),(4,.slice aE C.length co),(5,.int .u64 (v0:Nat))])) ?_ ?_;refine aW 3 U<|p (qu U U ab<|gz ab)<|aN 3 U<|cd U (fun c3=> ?_) fun c3=> ?_;have a8:=(b8.resolve_right fun h=>by have :=h.2.1; omega).2.2;refine aJ 4 U<|e<|st dc U U (U) (bI) (by simp) fun ep cW cF=> ?_
 skip
 exact az 1 U<|tn<|⟨190,cF,(.inr ⟨aF,_,pd M av<|im Z (Dh a8 ab) ab⟩),(bU.trans cW),U⟩
 exact aG 1 U<|tn<|⟨dx,bI,(b8.elim (fun h=> .inl ⟨h.2.1,h.2.2,ab⟩) fun h=> .inr ⟨h.1,h.2.2.elim (fun h=>absurd U h) fun ⟨ar,aH⟩=>⟨ar,pd M av<|im Z (Dg aH) ab⟩⟩),bU,U⟩
 rintro ci bd ⟨a2,cL,cs,bu,dp⟩;refine bF dp<|bS 1 U<|aJ 2 U<|p (rm U U ab)<|aj 1 U<|p (eC (ps:= [(0,bD (decide ((v0:Int) % 2=1)))]) (L:= [bD (decide ((v0:Int) % 2=1)),.slice none 0 0]) Lo U<|U)<|e<|dz DW fun V ef dG bX cu=> ?_;have dV:=bX.size;refine e<|dZ zR U U U U cu (by simp) fun am bW cO=> ?_;have cP:aA am.heap V [bD (decide ((v0:Int) % 2=1)),.slice none 0 0]:=⟨_,cO⟩
 have a4:Wk bd am:=bX.md.trans' bW fun k E h=>by omega
 have cJ:=Wk.B a4 cL;have d4:=au.size;have d2:=bu.size;have d7:=a4.size;have d8:=bW.size;have cS:Md (fun k=>k=rb) w am:=(au.trans bu).trans<|a4.mono fun _ _ h=>h.elim;refine aN 2 U ?_;refine dY (fun cj ao=> ∃ (es:List (UInt8×Int)) (O:Option bl) (ce:Nat) (p2 J:Nat),((J=0∧cr (eh s n) (v0 / 2) p1= .ok (es,p2)∧bc s A= .ok (v0,p1)∧¬256 < v0 / 2)∨(J≠0∧∃ I,cI s a= .error I))∧(p2≤s.length)∧(bj ao am.heap.size 167 2 (.slice O es.length ce) es.length<|e9 es)∧(aA ao.heap rb [str s,aB p2,aB J])∧(aA ao.heap V [.bool (decide ((v0:Int) % 2=1)),.slice O es.length ce])∧(Md (fun k=>k=rb∨k=V) am ao)∧(Sl cj [(0,aU rb),(3,.int .u64 (n:Nat)),(4,.slice aE C.length co),(6,aU V)])) ?_ ?_;refine bT 1 U<|lp (fun aQ ck aP=> ∃ (j:Nat) (es:List (UInt8×Int)) (bz:ag) (p2 J:Nat),(es.length=j)∧(j≤257)∧((J=0∧j≤v0 / 2∧cr (eh s n) j p1= .ok (es,p2)∧bc s A= .ok (v0,p1)∧¬256 < v0 / 2)∨(J≠0∧∃ I,cI s a= .error I))∧(p2≤s.length)∧(bj aP am.heap.size 167 2 bz es.length<|e9 es)∧(aA aP.heap rb [str s,aB p2,aB J])∧(aA aP.heap V [.bool (decide ((v0:Int) % 2=1)),bz])∧(Md (fun k=>k=rb∨k=V) am aP)∧(Sl ck [(0,aU rb),(3,.int .u64 (n:Nat)),(4,.slice aE C.length co),(5,.int .u64 (v0:Nat)),(6,aU V)])∧(v0 / 2 - j=aQ)) _ ⟨0,[],.slice none 0 0,p1,a2,U,ab,(cs.imp (fun h=>⟨h.1,ab,U,h.2.1,h.2.2⟩) id),de,(eT _ _ _ _),cJ,cP,(Md.refl _ _),U,U⟩ ?_;rintro aQ ck aP ⟨j,es,bz,p2,J,c8,dO,bp,aZ,ak,aI,aK,ad,dr,rfl⟩;refine bF dr ?_;obtain ⟨O,ce,rfl⟩:=cT ak;have d6:=ad.size;refine aW 4 U<|p (ax U<|aK.aO 1)<|aj 1 U<|p (fH pB tR U<|gz ab)<|aj 1 U<|p (qu U U ab<|gz ab)<|aj 2 U<|gs (t:=57) U (fun c7=> ?_) fun c7=> ?_;refine aj 3 U<|bO U (ax U<|aI.aO 2)<|aN 4 U<|cd U (fun b1=> ?_) fun b1=> ?_;obtain ⟨dj,dN,b3,a8,b6⟩:=bp.resolve_right fun h=>h.1 ab;obtain rfl :J=0:=dj;refine aJ 7 U<|e<|ba (Hq rb s p2 n aP aI bx aZ ab) U ?_;rintro ea dB ⟨c,t,p3,dy,rfl,cv,dg,du,a5⟩;have dW:=a5.size;have bJ:=a5.B aK fun h=>by omega
 refine e<|dz DX fun bG eg dH bY cw=> ?_;have dX:=bY.size;refine e<|dZ se U U U U cw (by simp) fun bE cY cM=> ?_;have cE:aA bE.heap bG [a0 .u8 c.toNat,.int .i64 t]:=⟨_,cM⟩
 have aL:Wk dB bE:=bY.md.trans' cY fun k E h=>by omega
 have d3:=aL.size;refine aj 4 U<|p (ax U<|(Wk.B aL bJ).aO 1)<|p (fg rV U (U) (show ∀ j,j < 2→ay bE.heap bG (0 +j)=([a0 .u8 c.toNat,.int .i64 t]:List ag)[j]? from fun j _=>cE.aO j))<|e<|om C9 U U U fun dE ei dJ aY cx=> ?_;have d0:=aY.size;have dd:=bg (bg (bN ak a5 fun k E h=>by have :=cy ak E; omega) aL) aY.md;refine e<|ap C9 (dd) U ab U (aV.fL cx) (U) (U) ab ab fun eb ej b4 a6 dv c4=> ?_;have dv:=a6.size;have a9:∀ k,(cz O es.length ce).ownBlock=some k→am.heap.size≤k:=fun k h=>(cy ak h).1;have cQ:=a6.B (Wk.B aY.md<|Wk.B aL bJ) fun h=>by have :=a9 V h; omega
 have cB:=a6.B (Wk.B aY.md<|Wk.B aL cv) fun h=>by have :=a9 rb h; omega
 obtain ⟨cm,cn,rfl⟩:=cT b4;refine aj 1 U<|e<|st GX U U (U) (cQ) (by simp) fun en br ct=> ?_;have cN:=br.B cB fun h=>by omega
 exact az 2 U<|tn<|⟨_,ab,j+1,es++ [(c,t)],.slice cm (es.length+1) cn,p3,dy,(by rw [bK,c8]; rfl),ab,(du.imp (fun h=>⟨h.1,ab,lZ b3 h.2,a8,b6⟩) fun h=>⟨h.1,h.2.elim fun ar aH=>⟨ar,pd M av<|im Z (Di a8 b6<|im b3 aH ab) ab⟩⟩),dg,(by rw [bK,Ap]; exact bN b4 br fun k E h=>by rcases c4 k E with aH | aH; exact absurd (a9 k aH) ab; omega),cN,ct,(((((ad.trans<|a5.mono fun _ _ h=> .inl h).trans<|aL.mono fun _ _ h=>h.elim).trans<|aY.md.mono fun _ _ h=>h.elim).trans' a6 fun k E h=>by have :=a9 k h; omega).trans<|br.mono fun _ _ h=> .inr h),U,U⟩
 exact aG 2 U<|b9<|bf 1 U<|tn<|⟨es,O,ce,p2,J,(bp.elim (fun h=>absurd h.1 fun ar=>b1 ab) .inr),aZ,ak,aI,aK,ad,U⟩
 exact az 11 U<|b9<|bf 1 U<|tn<|⟨es,O,ce,p2,J,(bp.elim (fun h=> .inl ⟨h.1,(by have cp:=h.2.1; have bh:j=v0 / 2:=ab; subst bh; exact h.2.2.1),h.2.2.2.1,h.2.2.2.2⟩) .inr),aZ,ak,aI,aK,ad,U⟩
 rintro cj ao ⟨es,O,ce,p2,J,cV,aZ,ak,aI,aK,ad,dq⟩;refine bF dq ?_;have d5:=ad.size;have bL:Md (fun k=>k=rb∨k=V) an ao:=((bu.mono fun k _ h=> .inl h).trans<|a4.mono fun _ _ h=>h.elim).trans ad;have cU:Md (fun k=>k=rb) w ao:=cS.trans' ad fun k E h=>by rcases h with h | h; exact h; omega
 have bw:=bN ai bL fun k E h=>by have :=cy ai E; omega
 have dt:=bq.md bL (fun k E hb=>by
  rcases E with E | E;omega;exact fun cur z=>B5 ab cur _ z)
 refine aJ 2 U<|p (fg zb U (U) (show ∀ j,j < 2→ay ao.heap V (0 +j)=([.bool (decide ((v0:Int) % 2=1)),.slice O es.length ce]:List ag)[j]? from fun j _=>aK.aO j))<|e<|om Db U U U fun dF ek dK ae cC=> ?_;have d1:=ae.size;refine e<|ap Db (bg bw ae.md) U ab U (aV.fL cC) (U) (U) ab ab fun dA dC db aX dw dM=> ?_;have dw:=aX.size;have b7:∀ k,(cz aE C.length co).ownBlock=some k→w.heap.size≤k:=fun k h=>(cy ai h).1;have cD:=aX.B (Wk.B ae.md aI) fun h=>by have :=b7 rb h; omega
 have c0:Tg dC w.heap.size 167 es.length (.slice O es.length ce) (e9 es):=Tg.kW (((Tg.oS ak).mono ab).wk ae.md) aX fun k E _=>gP (bg bw ae.md) aF k E;have ds:=(dt.wk ae.md).md aX fun k E _=>gP (bg bw ae.md) aF k E;have cR:=(cU.trans<|ae.md.mono fun _ _ h=>h.elim).trans' aX fun k E h=>by have :=b7 k h; omega
 exact p aT<|az 2 U<|tn<|⟨_,ab,k+1,l++ [(decide (v0 % 2=1),es)],C++ [(decide ((v0:Int) % 2=1),.slice O es.length ce)],dA,p2,J,(by rw [bK,c9]; rfl),ab,(cV.imp (fun h=>⟨h.1,ab,M,av,lZ Z<|Dj h.2.2.1 h.2.2.2 h.2.1⟩) id),aZ,(by rw [bK,C1]; exact db),(by rw [show decide ((v0:Int) % 2=1)=decide (v0 % 2=1) from decide_eq_decide.2 ab] at*; exact gi.snoc (e:=(decide (v0 % 2=1),es)) ds c0),cD,cR,U,U⟩
 exact aG 2 U<|b9<|bf 1 U<|tn<|⟨l,C,.slice aE C.length co,A,q,(bn.elim (fun h=>absurd h.1 fun ar=>b0 ab) .inr),aw,ai,bq,ac,au,U⟩
 exact az 11 U<|b9<|bf 1 U<|tn<|⟨l,C,.slice aE C.length co,A,q,(bn.elim (fun h=> .inl ⟨h.1,(by have cp:=h.2.1; have bh:k=n:=ab; subst bh; exact h.2.2.2.2),h.2.2.1,h.2.2.2.1⟩) .inr),aw,ai,bq,ac,au,U⟩
 rintro cg aD ⟨l,C,al,A,q,bM,aw,ai,bq,ac,au,dm⟩;refine bF dm<|aJ 6 U<|p (ax U<|ac.aO 2)<|aN 3 U<|cd U (fun bv=> ?_) fun bv=> ?_;obtain ⟨di,c1⟩:=bM.resolve_left fun h=>bv<|by rw [h.1]; rfl
 exact aG 7 U<|aR U<|⟨A,q,ac,aw,.inr ⟨di,c1,none,0,0,U⟩,au⟩
 obtain ⟨_,Z,M,av⟩:=bM.resolve_right fun h=>bv ab;refine bS 3 U ?_;have bP:eZ aD w.heap.size al l:=⟨C,by have h:=Tg.oS ai; rw [bq.1] at h; exact h,bq⟩
 obtain ⟨aa,cc,rfl,dL,cZ⟩:=bP.eG;have dR:=iN Z;have da:∀ x∈l,x.2.length≤256:=fun x bb=>(mZ (R:=fun A=>A≤s.length) (S:=fun x:aM=>x.2.length≤256) (fun A x q' hr bb=>⟨(q6 bb).2.1,(q6 bb).2.2.1⟩) b5 Z).2 x bb;refine aJ 3 U<|e<|ba (K7 l aa cc aD cZ ab fun i hi=>cG (da _<|jP (d:=dI) hi) aF) U ?_;rintro ec el ⟨rfl,bm⟩;refine aj 2 U<|e<|st dc U U (U) (Wk.B bm ac) (by simp) fun eo bR a3=> ?_
 skip
 refine az 9 U<|aR U ?_;have bQ:=(au.trans<|bm.mono fun _ _ h=>h.elim).trans bR;cases hsh:shaped l with
 | true =>
   rw [qX hsh] at a3;exact ⟨A,0,a3,aw,.inl ⟨U,l,CO M av Z hsh,(bP.wk bm).md bR fun k E hb=>absurd hb ab⟩,bQ⟩
 | false =>
   rw [j1 hsh] at a3;exact ⟨A,190,a3,aw,.inr ⟨aF,⟨_,CN M av Z hsh⟩,_,_,_,U⟩,bQ⟩
theorem KZ {r:List UInt8×List UInt8} (h1:(!fT r.1)=false) (E:(!fT r.2)=false) (I:¬(r.1.length:Int)=0) (J:¬(r.1.length:Int) > 32) (L:¬(r.2.length:Int) > 32):gR r=true :=by
 have A:fT r.1=true :=by simpa using h1
 have C:fT r.2=true :=by simpa using E
 exact CY (fun h=>I<|by rw [h]; rfl) (by rw [A,decide_eq_true ab]; rfl)<|by rw [C,decide_eq_true ab]; rfl
theorem KG (ls:Nat) (t:List UInt8) (rs:List (List UInt8×List UInt8)) (V:Option bl) (rc:Nat) (ao v4 ap v6:ag) (w:ah) (aC:aV w.heap V (rs.flatMap ej)) (bj:ls≤64) (bp:t.length≤1048576) (bm:rs.length≤1048576) (a6:∀ r∈rs,r.1.length≤1048576∧r.2.length≤1048576):
 bo prog 35 (bB [.agg #[aB ls,str t,.slice V rs.length rc,ao,v4,ap,v6]]) w (fun v w'=>v= .bool (ek ls t rs)∧Wk w w'):=by
 refine enter func35 U ntmps35 U<|aW 2 U<|e<|oo U fun I bc bg O C=>aj 7 U<|p (ax U<|C.aO 0)<|aj 2 U<|gs (t:=12) U (fun a4=> ?_) fun a4=> ?_;exact aj 4 U<|p mv<|az 15 U<|aR U<|⟨(congrArg bD<|pj (t:=t) (rs:=rs)<|.inl (show ls < 1 by omega)).symm,O.md⟩
 refine aj 1 U<|bO U (ax U<|C.aO 0)<|aj 3 U<|gs (t:=17) U (fun a5=> ?_) fun a5=> ?_;exact az 15 U<|aR U<|⟨(congrArg bD<|pj (t:=t) (rs:=rs)<|.inr<|.inl (show 64 < ls by omega)).symm,O.md⟩
 refine aj 1 U<|bO U (ax U<|C.aO 2)<|aN 5 U<|cd U (fun a2=> ?_) fun a2=> ?_;exact aG 7 U<|aR U<|⟨(congrArg bD<|pj<|.inr<|.inr (show 256 < rs.length by omega)).symm,O.md⟩
 refine aJ 5 U<|p (ax U<|C.aO 1)<|e<|ba (Ks t bc ab) U ?_;rintro bq bu ⟨rfl,aD⟩;have M:=O.md.trans aD;have J:=Wk.B aD C;refine p mv<|aN 6 U ?_;refine dY (fun aP au=> ∃ (bb:Unit),(t= []∨letE t=(t,0))∧(Wk w au)∧(aA au.heap I [aB ls,str t,.slice V rs.length rc,ao,v4,ap,v6])∧(Sl aP [(1,aU I)])) ?_ ?_;refine aW 3 U<|p (ax U<|J.aO 1)<|aj 3 U<|gs (t:=33) U (fun E=> ?_) fun E=> ?_;refine aj 3 U<|gs (t:=36) U (fun al=> ?_) fun al=> ?_;exact aj 5 U<|p (mg U)<|az 9 U<|tr<|aR U<|⟨(congrArg bD<|tD (fun h=>by rw [h] at E; exact absurd E aF) fun h=>by rw [h] at al; exact al U).symm,M⟩
 refine aj 2 U<|bO U (ax U<|J.aO 1)<|aN 5 U<|cd U (fun ak=> ?_) fun ak=> ?_;exact aG 6 U<|tr<|aR U<|⟨(congrArg bD<|tD (fun h=>by rw [h] at E; exact absurd E aF) fun h=>ak<|by rw [h]).symm,M⟩
 exact aG 1 U<|tn<|⟨(),(.inr<|Prod.ext (rn.1 ak)<|by show (letE t).2=0; omega),M,J,U⟩
 exact az 13 U<|tn<|⟨(),(.inl<|E4.1 ab),M,J,U⟩
 rintro aP au ⟨bb,a9,aZ,aY,a7⟩;refine bF a7<|bS 7 U<|lp (fun av aQ Z=> ∃ (i:Nat),(i≤rs.length)∧(∀ j,j < i→gR (rs.getD j ic)=true)∧(Wk w Z)∧(aA Z.heap I [aB ls,str t,.slice V rs.length rc,ao,v4,ap,v6])∧(Sl aQ [(1,aU I),(5,aB i)])∧(rs.length - i=av)) _ ⟨0,ab,(fun j aL=>by omega),aZ,aY,U,U⟩ ?_;rintro av aQ Z ⟨i,hi,aM,L,ad,a8,rfl⟩;refine bF a8<|aW 5 U<|p (ax U<|ad.aO 2)<|aN 4 U<|cd U (fun a3=> ?_) fun a3=> ?_;refine aJ 7 U<|p (ax U<|ad.aO 2)<|aj 1 U<|p (bG HF U U ab<|aV.ok (aC.wk L)<|CF ab)<|p (fg FI U (U)<|CE (aC.wk L) ab)<|e<|dz Ng fun aS bv bh a1 aT=>e<|dZ GW U U U U aT (by simp) fun ar a0 aX=> ?_;have ay:aA ar.heap aS [str (rs.getD i ic).1,str (rs.getD i ic).2]:=⟨_,aX⟩
 have aE:Wk Z ar:=Md.trans' a1.md a0 fun k bi h=>by omega
 have bn:=a6 _<|jP (d:=ic) (show i < rs.length by omega);refine aj 5 U<|p (ax U<|ay.aO 0)<|e<|ba (xq _ ar ab) U ?_;rintro br bd ⟨rfl,ae⟩;have aw:=Wk.B ae ay;refine aj 6 U<|p (ax U<|aw.aO 1)<|e<|ba (xq _ bd ab) U ?_;rintro bt bw ⟨rfl,ai⟩;have ac:=Wk.B ai aw;have A:=((L.trans aE).trans ae).trans ai;refine aj 8 U<|gb (t:=63) U (fun am=> ?_) fun am=> ?_;exact aj 3 U<|p mv<|aj 5 U<|p mv<|aj 5 U<|p mv<|az 16 U<|tr<|bf 2 U<|aR U<|⟨(congrArg bD<|mh (show i < rs.length by omega)<|xK<|by rw [nT am]; rfl).symm,A⟩
 refine aj 4 U<|gb (t:=67) U (fun an=> ?_) fun an=> ?_;exact aj 5 U<|p mv<|aj 5 U<|p mv<|az 16 U<|tr<|bf 2 U<|aR U<|⟨(congrArg bD<|mh (show i < rs.length by omega)<|xL<|by rw [nT an]; rfl).symm,A⟩
 refine aj 1 U<|bO U (ax U<|ac.aO 0)<|aj 4 U<|gs (t:=73) U (fun aI=> ?_) fun aI=> ?_;exact aj 5 U<|p mv<|az 16 U<|tr<|bf 2 U<|aR U<|⟨(congrArg bD<|mh (show i < rs.length by omega)<|CX<|E4.1 ab).symm,A⟩
 refine aj 1 U<|bO U (ax U<|ac.aO 0)<|aj 4 U<|gs (t:=79) U (fun aK=> ?_) fun aK=> ?_;exact az 16 U<|tr<|bf 2 U<|aR U<|⟨(congrArg bD<|mh (show i < rs.length by omega)<|xK<|by rw [decide_eq_false ab,uc]).symm,A⟩
 refine aj 1 U<|bO U (ax U<|ac.aO 1)<|aN 5 U<|cd U (fun aH=> ?_) fun aH=> ?_;exact aG 8 U<|tr<|bf 2 U<|aR U<|⟨(congrArg bD<|mh (show i < rs.length by omega)<|xL<|by rw [decide_eq_false ab,uc]).symm,A⟩
 exact aJ 5 U<|p (cg<|i+1)<|az 2 U<|tn<|⟨_,ab,i+1,ab,(fun j aL=>by rcases dD j i with h | h <;> first | exact aM j h | (rw [show j=i by omega]; exact KZ am an aI aK aH)),A,(Wk.B ((aE.trans ae).trans ai) ad),U,U⟩
 exact aG 2 U<|b9<|bf 8 U<|aR U<|⟨(congrArg bD<|CV ab a9 fun j aL=>aM j ab).symm,L⟩
end Go.Hb
namespace Go.Hb.y8
def n6 (w:ah) (B:Nat) (cs:List ag) (b:dH):Prop := ∃ A rc vs,cs= [.int .i64 (b.least:Nat),str b.tr,.slice A b.cZ.length rc]++vs∧vs.length=4∧aV w.heap A (b.cZ.flatMap ej)∧∀ i,i < 4→eZ w B (vs.getD i .nilFunc) (b.au.getD i [])
theorem n6.one {w:ah} {B:Nat} {cs:List ag} {b:dH} (h:n6 w B cs b):cs.length=7∧cs.all eS=true :=by
 obtain ⟨ad,rc,vs,rfl,Z,_,ac⟩:=h;obtain ⟨C,E,I,J,rfl⟩:∃ C E I J,vs= [C,E,I,J]:=by
  match vs,Z with
  | [C,E,I,J],_=>exact ⟨_,_,_,_,rfl⟩
 have A:∀ i,i < 4→([C,E,I,J].getD i .nilFunc).oneCell'=true :=fun i hi=>by
  obtain ⟨_,_,e,_⟩:=(ac i hi).eG;rw [e]; rfl
 have L:=A 0 ab;have M:=A 1 ab;have O:=A 2 ab;have V:=A 3 ab;simp only [List.getD_cons_zero,List.getD_cons_succ] at L M O V;exact ⟨U,by simp only [List.cons_append,n3,List.all_cons,List.all_nil,L,M,O,V]; rfl⟩
def rS (s:List UInt8) (w:ah) (v:ag) (w':ah):Prop :=((∃ b cs,bI s= .ok b∧v= .tuple #[.agg cs.toArray,.int .i64 0]∧n6 w' w.heap.size cs b)∨((∃ A,bI s= .error A)∧∃ q:Nat,q≠0∧v= .tuple #[.agg [a0 .i64 0,str [],.slice none 0 0,.slice none 0 0,.slice none 0 0,.slice none 0 0,.slice none 0 0].toArray,.int .i64 (q:Nat)]))∧Wk w w'
theorem G9 {s:List UInt8} {n p1 L p2 M m p3 O:Nat} {t:List UInt8} (hm:s.take 4=eN) (h1:((0:Nat)=0∧L=0∧bc s 4= .ok (n,p1))∨(L≠0∧n=0∧((0:Nat)≠0∨∃ e,bc s 4= .error e)))
 (A:(L=0∧M=0∧cN s p1= .ok (t,p2))∨(M≠0∧(L≠0∨∃ e,cN s p1= .error e))) (C:(M=0∧O=0∧bc s p2= .ok (m,p3))∨(O≠0∧m=0∧(M≠0∨∃ e,bc s p2= .error e))):(O=0∧bc s 4= .ok (n,p1)∧cN s p1= .ok (t,p2)∧bc s p2= .ok (m,p3))∨(O≠0∧∃ I,bI s= .error I):=by
 rcases h1 with ⟨_,U,h1⟩ | ⟨U,_,h1⟩
 · rcases A with ⟨_,J,A⟩ | ⟨J,A⟩
   · rcases C with ⟨_,E,C⟩ | ⟨E,_,C⟩
     · exact .inl ⟨E,h1,A,C⟩
     · exact .inr ⟨E,C.elim (fun h=>absurd J h) fun ⟨e,h⟩=>⟨e,Aa hm h1 A h⟩⟩
   · have hb:∃ I,bI s= .error I:=A.elim (fun h=>absurd U h) fun ⟨e,h⟩=>⟨e,z9 hm h1 h⟩
     rcases C with ⟨h,_⟩ | ⟨E,_⟩
     · exact absurd h J
     · exact .inr ⟨E,hb⟩
 · have hb:∃ I,bI s= .error I:=h1.elim (fun h=>absurd rfl h) fun ⟨e,h⟩=>⟨e,z8 hm h⟩
   rcases A with ⟨h,_⟩ | ⟨J,_⟩
   · exact absurd h U
   · rcases C with ⟨h,_⟩ | ⟨E,_⟩
     · exact absurd h J
     · exact .inr ⟨E,hb⟩
def qV (s:List UInt8) (k a:Nat):List (List aM):=match cr (cI s) k a with
 | .ok x=>x.1
 | .error _=> []
theorem KU {s:List UInt8} {w ai w':ah} {B A C V ae f9 J rb L O:Nat} {t:List UInt8} {rs:List (List UInt8×List UInt8)} {ls:List (List aM)} {vs:List ag} {aa:Option bl} {cc:Nat} (M:cr (cI s) A C= .ok (ls,V)) (Z:bI s=fU s J t rs C) (bq:ek J t rs=true)
 (av:(f9=0∧∃ l,cI s V= .ok (l,ae)∧eZ ai w.heap.size (.slice aa O cc) l)∨(f9≠0∧(∃ E,cI s V= .error E)∧∃ aj aw c2,cz aa O cc= .slice aj aw c2)) (am:∀ i,i < A→eZ w B (vs.getD i .nilFunc) (ls.getD i [])) (I:A < 4) (ax:vs.length=4)
 (an:Md (fun k=>k=rb∨k=L) w w') (ad:∀ k,k=rb∨k=L→k < B) (al:B≤w.heap.size) (ao:Md (fun k=>k=L) ai w'):(f9=0∧(bI s=fU s J t rs C∧ek J t rs=true)∧cr (cI s) (A+1) C= .ok (qV s (A+1) C,ae)∧∀ i,i < A+1→eZ w' B ((vs.set A<|.slice aa O cc).getD i .nilFunc) ((qV s (A+1) C).getD i []))∨(f9≠0∧∃ E,bI s= .error E):=by
 rcases av with ⟨h0,l,ap,ak⟩ | ⟨h0,⟨E,he⟩,_⟩
 · have ac:=lZ M ap;have ar:=iN M;have au:qV s (A+1) C=ls++ [l]:=by unfold qV; rw [ac]
   rw [ac,au];refine .inl ⟨h0,⟨Z,bq⟩,U,fun i hi=> ?_⟩;rcases dD i A with h | h
   · rw [qz ab,Bc ab];exact (am i h).md an fun k I hb=>absurd hb<|by have :=ad k I; omega
   · obtain rfl :i=A:=ab;rw [oI ab,Bb ar.symm];exact (ak.mono al).md ao fun k I hb=>absurd hb<|by have :=ad k (.inr I); omega
 · exact .inr ⟨h0,E,by rw [Z,z5 bq (im M he I)]⟩
set_option maxHeartbeats 4000000 in
theorem Ki (s:List UInt8) (w:ah) (a7:s.length≤1048576):
 bo prog 20 (bB [str s]) w (rS s w):=by
 refine enter func20 U ntmps20 U<|aW 2 U<|e<|al pE fun Z fD J bQ b2=>aj 6 U<|p mv<|aj 3 U<|gs (t:=15) U (fun eh=> ?_) fun eh=> ?_;have aw:¬s.take 4=eN:=fun h=>by have :=congrArg kE h; rw [cV] at this; simp only [eN,dm,gY] at this; omega
 refine aj 9 U<|p (eC (ps:= []) (L:= [.int .i64 0,.string ⟨⟨[]⟩⟩,.slice none 0 0,.slice none 0 0,.slice none 0 0,.slice none 0 0,.slice none 0 0]) tM U<|U)<|e<|q7 kL U U U U (b2) (by simp) fun eX b5 b3=> ?_
 skip
 exact az 5 U<|sA U (iq (cs:= [a0 .i64 0,str [],.slice none 0 0,.slice none 0 0,.slice none 0 0,.slice none 0 0,.slice none 0 0]) U lO U fun j cn=>b3.aO j) lh<|⟨.inr ⟨⟨_,vn aw⟩,200,aF,U⟩,bQ.md.trans' b5 fun k A h=>by omega⟩
 refine bO U mv<|bO U (xW u9 U U ab)<|aN 4 U<|cd U (fun cj=> ?_) fun cj=> ?_;have aw:¬s.take 4=eN:=cj;refine aJ 2 U<|p (eC (ps:= []) (L:= [.int .i64 0,.string ⟨⟨[]⟩⟩,.slice none 0 0,.slice none 0 0,.slice none 0 0,.slice none 0 0,.slice none 0 0]) tM U<|U)<|e<|q7 kL U U U U (b2) (by simp) fun eX b5 b3=> ?_
 skip
 exact az 5 U<|sA U (iq (cs:= [a0 .i64 0,str [],.slice none 0 0,.slice none 0 0,.slice none 0 0,.slice none 0 0,.slice none 0 0]) U lO U fun j cn=>b3.aO j) lh<|⟨.inr ⟨⟨_,vn aw⟩,200,aF,U⟩,bQ.md.trans' b5 fun k A h=>by omega⟩
 have aw:s.take 4=eN:=rn.1 cj;refine aJ 4 U<|p mv<|p (eC (ps:= [(0,str s),(1,.int .i64 ((4:Nat):Int))]) (L:= [str s,.int .i64 ((4:Nat):Int),.int .i64 0]) LA U<|U)<|e<|oo U fun c7 fE e1 b6 dn=> ?_;obtain ⟨rb,rfl⟩:∃ rb,rb=c7:=⟨_,rfl⟩
 have fc:=bQ.size;have fe:=b6.size;refine aj 5 U<|p (eC (ps:= []) (L:= [.int .i64 0,.string ⟨⟨[]⟩⟩,.slice none 0 0,.slice none 0 0,.slice none 0 0,.slice none 0 0,.slice none 0 0]) tM U<|U)<|e<|al pE fun V fI I bR dv=> ?_;have fl:=bR.size;refine e<|q7 kL U U U U (dv) (by simp) fun bA bL du=> ?_;have fk:=bL.size;have I:aA bA.heap V [a0 .i64 0,str [],.slice none 0 0,.slice none 0 0,.slice none 0 0,.slice none 0 0,.slice none 0 0]:=du;have J:aA bA.heap Z [a0 .i64 0,str [],.slice none 0 0,.slice none 0 0,.slice none 0 0,.slice none 0 0,.slice none 0 0]:=bL.B (Wk.B bR.md<|Wk.B b6.md b2) fun h=>by omega
 have C:aA bA.heap rb [str s,aB 4,aB 0]:=bL.B (Wk.B bR.md dn) fun h=>by omega
 have dE:Wk w bA:=((bQ.md.trans b6.md).trans bR.md).trans' bL fun k A h=>by omega
 refine aj 5 U<|e<|ba (oQ rb s 4 0 bA C a7 ab) U ?_;rintro fu ac ⟨n,p1,cw,rfl,cC,et,e4,eI,bG⟩;have fh:=bG.size;have cG:=bG.B J fun h=>by omega
 have cH:=bG.B I fun h=>by omega
 have cF:=(dE).trans' bG fun k A h=>by omega
 refine aN 3 U ?_;refine dY (fun cZ aY=> ∃ (eQ:Unit),(aA aY.heap Z [a0 .i64 0,str [],.slice none 0 0,.slice none 0 0,.slice none 0 0,.slice none 0 0,.slice none 0 0])∧(aA aY.heap V<|[a0 .i64 ((if n≤64 then n else 0:Nat):Int),str [],.slice none 0 0,.slice none 0 0,.slice none 0 0,.slice none 0 0,.slice none 0 0])∧(aA aY.heap rb [str s,aB p1,aB cw])∧(Wk w aY)∧(ac.heap.size≤aY.heap.size)∧(Sl cZ [(0,str s),(2,aU Z),(4,aU rb),(5,aU V)])) ?_ ?_;refine bT 6 U<|cd U (fun ec=> ?_) fun ec=> ?_;refine aJ 2 U<|p (fH u3 mq U<|gU ab)<|aj 1 U<|e<|st dc U U (U) (cH) (by simp) fun fR bM dA=> ?_
 skip
 exact az 1 U<|tn<|⟨(),(bM.B cG fun h=>by omega),(by rw [if_pos ab]; exact dA),(bM.B cC fun h=>by omega),(cF.trans' bM fun k A h=>by omega),bM.size,U⟩
 exact aG 1 U<|tn<|⟨(),cG,(by rw [if_neg ab]; exact cH),cC,cF,(aQ _),U⟩
 rintro cZ aY ⟨eQ,J,I,C,M,ae,ey⟩;refine bF ey<|aJ 3 U<|e<|ba (vR rb s p1 cw aY C a7<|et) U ?_;rintro fv fF ⟨t,p2,c9,rfl,dt,eu,e5,eJ,bH⟩;have fi:=bH.size;have dR:=bH.B J fun h=>by omega
 have d0:=bH.B I fun h=>by omega
 have dI:=(M).trans' bH fun k A h=>by omega
 refine aj 1 U<|e<|st vm U U (U) (d0) (by simp) fun cY bP dB=> ?_;have ft:=bP.size;have d3:aA cY.heap V [a0 .i64 ((if n≤64 then n else 0:Nat):Int),str t,.slice none 0 0,.slice none 0 0,.slice none 0 0,.slice none 0 0,.slice none 0 0]:=dB;have dV:=bP.B dR fun h=>by omega
 have ea:=bP.B dt fun h=>by omega
 have dM:=dI.trans' bP fun k A h=>by omega
 refine aj 5 U<|e<|ba (oQ rb s p2 c9 cY ea a7<|eu) U ?_;rintro fw fG ⟨m,p3,cx,rfl,bD,ev,e6,eK,bJ⟩;have fj:=bJ.size;have ca:=bJ.B dV fun h=>by omega
 have cf:=bJ.B d3 fun h=>by omega
 have b8:=(dM).trans' bJ fun k A h=>by omega
 have cB:=G9 aw eI eJ eK;refine aN 3 U ?_;refine dY (fun c0 a8=> ∃ (a9:Nat),(aA a8.heap Z [a0 .i64 0,str [],.slice none 0 0,.slice none 0 0,.slice none 0 0,.slice none 0 0,.slice none 0 0])∧(aA a8.heap V<|[a0 .i64 ((if n≤64 then n else 0:Nat):Int),str t,.slice none 0 0,.slice none 0 0,.slice none 0 0,.slice none 0 0,.slice none 0 0])∧(aA a8.heap rb [str s,aB p3,aB a9])∧(Wk w a8)∧(ac.heap.size≤a8.heap.size)∧((a9=0∧(bc s 4= .ok (n,p1)∧cN s p1= .ok (t,p2)∧bc s p2= .ok (m,p3))∧¬256 < m)∨(a9≠0∧∃ am,bI s= .error am))∧(Sl c0 [(0,str s),(2,aU Z),(4,aU rb),(5,aU V),(7,.int .u64 (m:Nat))])) ?_ ?_;refine aW 5 U<|p (ax U<|bD.aO 2)<|aj 2 U<|gs (t:=42) U (fun cQ=> ?_) fun cQ=> ?_;have ad:=(cB.resolve_right fun h=>h.1 ab).2;refine aN 5 U<|cd U (fun ed=> ?_) fun ed=> ?_;refine aJ 4 U<|e<|st dc U U (U) (bD) (by simp) fun fO bE dg=> ?_;have e9:=bE.size;exact az 1 U<|tn<|⟨201,(bE.B ca fun h=>by omega),(bE.B cf fun h=>by omega),dg,(b8.trans' bE fun k A h=>by omega),ab,(.inr ⟨aF,_,Ab aw ad.1 ad.2.1 ad.2.2 ab⟩),U⟩
 exact aG 1 U<|tn<|⟨cx,ca,cf,bD,b8,ab,(.inl ⟨ab,ad,ab⟩),U⟩
 exact az 7 U<|tn<|⟨cx,ca,cf,bD,b8,ab,(cB.elim (fun h=>absurd h.1 fun au=>cQ ab) .inr),U⟩
 rintro c0 a8 ⟨a9,J,I,C,M,ae,da,ez⟩;refine bF ez ?_;refine dY (fun c1 aD=> ∃ (rs:List (List UInt8×List UInt8)) (O:Option bl) (rc ar f6:Nat),(aA aD.heap Z [a0 .i64 0,str [],.slice none 0 0,.slice none 0 0,.slice none 0 0,.slice none 0 0,.slice none 0 0])∧(aA aD.heap V<|[a0 .i64 ((if n≤64 then n else 0:Nat):Int),str t,.slice O rs.length rc,.slice none 0 0,.slice none 0 0,.slice none 0 0,.slice none 0 0])∧(aA aD.heap rb [str s,aB ar,aB f6])∧(Wk w aD)∧(ac.heap.size≤aD.heap.size)∧(ar≤s.length)∧((f6=0∧(bc s 4= .ok (n,p1)∧cN s p1= .ok (t,p2)∧bc s p2= .ok (m,p3))∧¬256 < m∧cr (gv s) m p3= .ok (rs,ar))∨(f6≠0∧∃ am,bI s= .error am))∧(rs.length≤257)∧(∀ r∈rs,r.1.length≤255∧r.2.length≤255)∧(bj aD ac.heap.size 100 2 (.slice O rs.length rc) rs.length<|rs.flatMap ej)∧(Sl c1 [(0,str s),(2,aU Z),(4,aU rb),(5,aU V)])) ?_ ?_;refine bT 1 U<|lp (fun bb c2 aS=> ∃ (rs:List (List UInt8×List UInt8)) (cq:ag) (aX f:Nat),(aA aS.heap Z [a0 .i64 0,str [],.slice none 0 0,.slice none 0 0,.slice none 0 0,.slice none 0 0,.slice none 0 0])∧(aA aS.heap V<|[a0 .i64 ((if n≤64 then n else 0:Nat):Int),str t,cq,.slice none 0 0,.slice none 0 0,.slice none 0 0,.slice none 0 0])∧(aA aS.heap rb [str s,aB aX,aB f])∧(Wk w aS)∧(ac.heap.size≤aS.heap.size)∧(aX≤s.length)∧((f=0∧rs.length≤m∧(bc s 4= .ok (n,p1)∧cN s p1= .ok (t,p2)∧bc s p2= .ok (m,p3))∧¬256 < m∧cr (gv s) rs.length p3= .ok (rs,aX))∨(f≠0∧∃ am,bI s= .error am))∧(rs.length≤257)∧(∀ r∈rs,r.1.length≤255∧r.2.length≤255)∧(bj aS ac.heap.size 100 2 cq rs.length<|rs.flatMap ej)∧(Sl c2 [(0,str s),(2,aU Z),(4,aU rb),(5,aU V),(7,.int .u64 (m:Nat))])∧(m - rs.length=bb)) _ ⟨[],.slice none 0 0,p3,a9,J,I,C,M,ae,ev,(da.imp (fun h=>⟨h.1,Nat.zero_le _,h.2.1,h.2.2,U⟩) id),aF,(fun r hr=>by cases hr),(eT _ _ _ _),U,U⟩ ?_;rintro bb c2 aS ⟨rs,cq,aX,f,J,I,C,M,ae,bw,a2,cp,bx,E,eB,rfl⟩;refine bF eB ?_;obtain ⟨O,rc,rfl⟩:=cT E;refine aW 4 U<|p (ax U<|I.aO 2)<|aj 1 U<|p (fH pB tR U<|gz ab)<|aj 3 U<|gs (t:=55) U (fun ei=> ?_) fun ei=> ?_;refine aj 3 U<|bO U (ax U<|C.aO 2)<|aN 4 U<|cd U (fun cL=> ?_) fun cL=> ?_;obtain ⟨cm,e7,ad,bv,bu⟩:=a2.resolve_right fun h=>h.1 ab;obtain rfl :f=0:=cm;refine aJ 6 U<|e<|ba (vR rb s aX 0 aS C a7<|bw) U ?_;rintro fx eU ⟨ct,p5,f5,rfl,dw,ew,em,cW,bn⟩;have fm:=bn.size;have dS:=bn.B J fun h=>by omega
 have d1:=bn.B I fun h=>by omega
 have dJ:=(M).trans' bn fun k A h=>by omega
 refine aj 6 U<|e<|ba (vR rb s p5 f5 eU dw a7<|ew) U ?_;rintro fz fJ ⟨x2,eO,f6,rfl,dy,ex,en,eL,bp⟩;have fo:=bp.size;have dT:=bp.B dS fun h=>by omega
 have cJ:=bp.B d1 fun h=>by omega
 have dK:=(dJ).trans' bp fun k A h=>by omega
 have eq:=bN (bN E bn fun k A h=>by have :=(cy E A).1; omega) bp fun k A h=>by have :=(cy E A).1; omega
 refine aj 5 U<|p (ax U<|cJ.aO 2)<|aj 2 U<|p (eC (ps:= [(0,str ct),(1,str x2)]) (L:= [str ct,str x2]) Ln U<|U)<|e<|om Da U U U fun eY fK e2 a6 dz=> ?_;have fq:=a6.size;refine e<|ap Da (bg eq a6.md) U ab U (aV.fL dz) (U) (U) ab ab fun fA fM cS br eM ef=> ?_;have eM:=br.size;have bz:∀ k,(cz O rs.length rc).ownBlock=some k→ac.heap.size≤k:=fun k h=>(cy E h).1;have dU:=br.B (Wk.B a6.md dT) fun h=>by have :=bz _ h; omega
 have d2:=br.B (Wk.B a6.md cJ) fun h=>by have :=bz _ h; omega
 have d9:=br.B (Wk.B a6.md dy) fun h=>by have :=bz _ h; omega
 have dL:=(dK.trans a6.md).trans' br fun k A h=>by have :=bz _ h; omega
 obtain ⟨cu,cv,rfl⟩:=cT cS;refine aj 1 U<|e<|st GZ U U (U) (d2) (by simp) fun eV bh dh=> ?_;have fa:=bh.size;have dX:aA eV.heap V [a0 .i64 ((if n≤64 then n else 0:Nat):Int),str t,.slice cu (rs.length+1) cv,.slice none 0 0,.slice none 0 0,.slice none 0 0,.slice none 0 0]:=dh;have dP:=bh.B dU fun h=>by omega
 have d7:=bh.B d9 fun h=>by omega
 have dG:=dL.trans' bh fun k A h=>by omega
 have eo:=bN cS bh fun k A h=>by rcases ef k A with a1 | a1; exact absurd (bz k a1) ab; omega
 exact az 2 U<|tn<|⟨_,by rw [bK,mz]; omega,rs++ [(ct,x2)],.slice cu (rs.length+1) cv,eO,f6,dP,dX,d7,dG,ab,ex,(by rcases eL with ⟨h1,a1,b0⟩ | ⟨a1,b0⟩; exact .inl ⟨a1,by rw [bK,mz]; omega,ad,bv,by rw [bK,mz]; exact lZ bu<|CD (cW.resolve_right fun h=>h.1 h1).2.2 b0⟩; refine .inr ⟨a1,?_⟩; rcases cW with ⟨_,h1,b1⟩ | ⟨h1,b1⟩; exact b0.elim (fun h=>absurd h1 h) (fun ⟨au,h⟩=>⟨au,sf aw ad.1 ad.2.1 ad.2.2 bv<|im bu (CC b1 h) ab⟩); exact b1.elim (fun h=>absurd U h) fun ⟨au,h⟩=>⟨au,sf aw ad.1 ad.2.1 ad.2.2 bv<|im bu (CB h) ab⟩),(by rw [bK,mz]; omega),(fun r hr=>by rcases dx.1 hr with h | h; exact bx r h; rw [dN.1 h]; exact ⟨em,en⟩),(by rw [bK,uq]; exact eo),U,U⟩
 exact aG 2 U<|b9<|bf 1 U<|tn<|⟨rs,O,rc,aX,f,J,I,C,M,ae,bw,(a2.elim (fun h=>absurd h.1 fun au=>cL ab) .inr),cp,bx,E,U⟩
 exact az 11 U<|b9<|bf 1 U<|tn<|⟨rs,O,rc,aX,f,J,I,C,M,ae,bw,(a2.elim (fun h=> .inl ⟨h.1,h.2.2.1,h.2.2.2.1,(by have e0:=h.2.1; have au:rs.length=m:=ab; rw [← au]; exact h.2.2.2.2)⟩) .inr),cp,bx,E,U⟩
 rintro c1 aD ⟨rs,O,rc,ar,f6,J,I,C,M,ae,bw,a2,cp,bx,E,eA⟩;refine bF eA<|aJ 2 U<|p (fg lO U (U) (show ∀ j,j < 7→ay aD.heap V (0 +j)=([a0 .i64 ((if n≤64 then n else 0:Nat):Int),str t,.slice O rs.length rc,.slice none 0 0,.slice none 0 0,.slice none 0 0,.slice none 0 0]:List ag)[j]? from fun j _=>I.aO j))<|e<|ba (KG (if n≤64 then n else 0) t rs O rc (.slice none 0 0) (.slice none 0 0) (.slice none 0 0) (.slice none 0 0) aD (bU E).2 (by split <;> omega) ab ab fun r hr=>by have :=bx r hr; omega) U ?_;rintro fB fN ⟨rfl,aP⟩;have fs:=aP.size;have ce:=Wk.B aP J;have ch:=Wk.B aP I;have bW:=Wk.B aP C;have co:=bg E aP;refine aN 3 U ?_;refine dY (fun c3 aZ=> ∃ (f7:Nat),(aA aZ.heap Z [a0 .i64 0,str [],.slice none 0 0,.slice none 0 0,.slice none 0 0,.slice none 0 0,.slice none 0 0])∧(aA aZ.heap V<|[a0 .i64 ((if n≤64 then n else 0:Nat):Int),str t,.slice O rs.length rc,.slice none 0 0,.slice none 0 0,.slice none 0 0,.slice none 0 0])∧(aA aZ.heap rb [str s,aB ar,aB f7])∧(Wk w aZ)∧(ac.heap.size≤aZ.heap.size)∧((f7=0∧bI s=fU s (if n≤64 then n else 0) t rs ar∧ek (if n≤64 then n else 0) t rs=true)∨(f7≠0∧∃ am,bI s= .error am))∧(bj aZ ac.heap.size 100 2 (.slice O rs.length rc) rs.length<|rs.flatMap ej)∧(Sl c3 [(0,str s),(2,aU Z),(4,aU rb),(5,aU V)])) ?_ ?_;refine aW 5 U<|p (ax U<|bW.aO 2)<|aj 2 U<|gs (t:=81) U (fun cR=> ?_) fun cR=> ?_;obtain ⟨_,ad,bv,bu⟩:=a2.resolve_right fun h=>h.1 ab;have cO:=Ac aw ad.1 ad.2.1 ad.2.2 bv bu;refine aN 5 U<|cb U (fun ck=> ?_) fun ck=> ?_;have bq:ek (if n≤64 then n else 0) t rs=false :=by simpa using ck
 refine aJ 4 U<|e<|st dc U U (U) (bW) (by simp) fun fP bi di=> ?_;have fb:=bi.size;exact az 1 U<|tn<|⟨201,(bi.B ce fun h=>by omega),(bi.B ch fun h=>by omega),di,((M.trans aP).trans' bi fun k A h=>by omega),ab,(.inr ⟨aF,_,by rw [cO,z4 bq]⟩),(bN co bi fun k A h=>by have :=(cy E A).1; omega),U⟩
 have bq:ek (if n≤64 then n else 0) t rs=true :=by simpa using ck
 exact aG 1 U<|tn<|⟨f6,ce,ch,bW,(M.trans aP),ab,(.inl ⟨ab,cO,bq⟩),co,U⟩
 exact az 7 U<|tn<|⟨f6,ce,ch,bW,(M.trans aP),ab,(a2.elim (fun h=>absurd h.1 fun au=>cR ab) .inr),co,U⟩
 rintro c3 aZ ⟨f7,J,I,C,M,ae,db,E,eD⟩;refine bF eD ?_;refine dY (fun c4 aR=> ∃ (ls:List (List aM)) (vs:List ag) (an f8:Nat),(aA aR.heap Z [a0 .i64 0,str [],.slice none 0 0,.slice none 0 0,.slice none 0 0,.slice none 0 0,.slice none 0 0])∧(aA aR.heap V<|[a0 .i64 ((if n≤64 then n else 0:Nat):Int),str t,.slice O rs.length rc]++vs)∧(aA aR.heap rb [str s,aB an,aB f8])∧(Wk w aR)∧(ac.heap.size≤aR.heap.size)∧(an≤s.length)∧(vs.length=4)∧((f8=0∧(bI s=fU s (if n≤64 then n else 0) t rs ar∧ek (if n≤64 then n else 0) t rs=true)∧cr (cI s) 4 ar= .ok (ls,an)∧∀ i,i < 4→eZ aR ac.heap.size (vs.getD i .nilFunc) (ls.getD i []))∨(f8≠0∧∃ am,bI s= .error am))∧(bj aR ac.heap.size 100 2 (.slice O rs.length rc) rs.length<|rs.flatMap ej)∧(Sl c4 [(0,str s),(2,aU Z),(4,aU rb),(5,aU V)])) ?_ ?_;refine bT 6 U<|lp (fun bb c5 av=> ∃ (ao:Nat) (ls:List (List aM)) (vs:List ag) (an f8:Nat),(aA av.heap Z [a0 .i64 0,str [],.slice none 0 0,.slice none 0 0,.slice none 0 0,.slice none 0 0,.slice none 0 0])∧(aA av.heap V<|[a0 .i64 ((if n≤64 then n else 0:Nat):Int),str t,.slice O rs.length rc]++vs)∧(aA av.heap rb [str s,aB an,aB f8])∧(Wk w av)∧(ac.heap.size≤av.heap.size)∧(ao≤4)∧(an≤s.length)∧(vs.length=4)∧((f8=0∧(bI s=fU s (if n≤64 then n else 0) t rs ar∧ek (if n≤64 then n else 0) t rs=true)∧cr (cI s) ao ar= .ok (ls,an)∧∀ i,i < ao→eZ av ac.heap.size (vs.getD i .nilFunc) (ls.getD i []))∨(f8≠0∧∃ am,bI s= .error am))∧(bj av ac.heap.size 100 2 (.slice O rs.length rc) rs.length<|rs.flatMap ej)∧(Sl c5 [(0,str s),(2,aU Z),(4,aU rb),(5,aU V),(11,aB ao)])∧(4 - ao=bb)) _ ⟨0,[],[.slice none 0 0,.slice none 0 0,.slice none 0 0,.slice none 0 0],ar,f7,J,I,C,M,ae,ab,bw,U,(db.imp (fun h=>⟨h.1,h.2,U,fun i hi=>by omega⟩) id),E,U,U⟩ ?_;rintro bb c5 av ⟨ao,ls,vs,an,f8,J,I,C,M,ae,e3,bY,aC,a3,E,eF,rfl⟩;refine bF eF<|aW 6 U<|gs (t:=90) U (fun el=> ?_) fun el=> ?_;refine aj 3 U<|bO U (ax U<|C.aO 2)<|aN 4 U<|cd U (fun cM=> ?_) fun cM=> ?_;obtain ⟨cm,aT,bX,a4⟩:=a3.resolve_right fun h=>h.1 ab;obtain rfl :f8=0:=cm;refine aJ 7 U<|e<|ba (FU rb s an av C a7 bY) U ?_;rintro eR fC ⟨eP,f9,de,er,cU,bd⟩;have e8:=bd.size;obtain ⟨aa,bZ,cc,rfl⟩:∃ aa bZ cc,eR= .slice aa bZ cc:=by
  rcases cU with ⟨_,l,_,dd⟩ | ⟨_,_,h⟩;obtain ⟨aa,cc,h,_⟩:=dd.eG; exact ⟨aa,_,cc,h⟩;exact h
 have dO:=bd.B J fun h=>by omega
 have dW:=bd.B I fun h=>by omega
 have dF:=(M).trans' bd fun k A h=>by omega
 refine aj 1 U<|p (jj FR U U ab)<|e<|st G0 U U (U) (dW) (by simp only [bK,dm,gY,aC]; omega) fun cX a5 dl=> ?_;have fd:=a5.size;have dZ:aA cX.heap V ([a0 .i64 ((if n≤64 then n else 0:Nat):Int),str t,.slice O rs.length rc]++vs.set ao (.slice aa bZ cc)):=by rw [← xI]; exact dl
 have dQ:=a5.B dO fun h=>by omega
 have d8:=a5.B de fun h=>by omega
 have dH:=dF.trans' a5 fun k A h=>by omega
 have cE:Md (fun k=>k=rb∨k=V) av cX:=(bd.mono fun _ _ h=> .inl h).trans<|a5.mono fun _ _ h=> .inr h;have ep:=bN E cE fun k A h=>by have :=(cy E A).1; omega
 exact aj 5 U<|p (cg<|ao+1)<|az 2 U<|tn<|⟨_,ab,ao+1,qV s (ao+1) ar,vs.set ao (.slice aa bZ cc),eP,f9,dQ,dZ,d8,dH,ab,ab,er,(by rw [List.length_set]; exact aC),(KU bX aT.1 aT.2 cU a4 ab aC cE (fun k A=>by omega) ae a5),ep,U,U⟩
 exact aG 2 U<|b9<|bf 1 U<|tn<|⟨ls,vs,an,f8,J,I,C,M,ae,bY,aC,(a3.elim (fun h=>absurd h.1 fun au=>cM ab) .inr),E,U⟩
 exact az 11 U<|b9<|bf 1 U<|tn<|⟨ls,vs,an,f8,J,I,C,M,ae,bY,aC,((by have c8:ao=4:=ab; subst c8; exact a3)),E,U⟩
 rintro c4 aR ⟨ls,vs,an,f8,J,I,C,M,ae,bY,aC,a3,E,eE⟩;refine bF eE ?_;refine dY (fun c6 ak=> ∃ (f9:Nat),(aA ak.heap Z [a0 .i64 0,str [],.slice none 0 0,.slice none 0 0,.slice none 0 0,.slice none 0 0,.slice none 0 0])∧(aA ak.heap V<|[a0 .i64 ((if n≤64 then n else 0:Nat):Int),str t,.slice O rs.length rc]++vs)∧(aA ak.heap rb [str s,aB an,aB f9])∧(Wk w ak)∧(ac.heap.size≤ak.heap.size)∧((f9=0∧bI s= .ok ⟨if n≤64 then n else 0,t,rs,ls⟩∧∀ i,i < 4→eZ ak ac.heap.size (vs.getD i .nilFunc) (ls.getD i []))∨(f9≠0∧∃ am,bI s= .error am))∧(bj ak ac.heap.size 100 2 (.slice O rs.length rc) rs.length<|rs.flatMap ej)∧(Sl c6 [(0,str s),(2,aU Z),(4,aU rb),(5,aU V)])) ?_ ?_;refine aW 5 U<|p (ax U<|C.aO 2)<|aj 2 U<|gs (t:=109) U (fun cP=> ?_) fun cP=> ?_;obtain ⟨_,aT,bX,a4⟩:=a3.resolve_right fun h=>h.1 ab;refine aj 3 U<|bO U (ax U<|C.aO 1)<|aN 6 U<|cd U (fun eb=> ?_) fun eb=> ?_;refine aJ 4 U<|e<|st dc U U (U) (C) (by simp) fun fQ bm dp=> ?_;have ff:=bm.size;exact az 1 U<|tn<|⟨202,(bm.B J fun h=>by omega),(bm.B I fun h=>by omega),dp,(M.trans' bm fun k A h=>by omega),ab,(.inr ⟨aF,_,by rw [aT.1,z6 aT.2 bX ab]⟩),(bN E bm fun k A h=>by have :=(cy E A).1; omega),U⟩
 exact aG 1 U<|tn<|⟨f8,J,I,C,M,ae,(.inl ⟨ab,by rw [aT.1,z7 aT.2 bX ab],a4⟩),E,U⟩
 exact az 12 U<|tn<|⟨f8,J,I,C,M,ae,(a3.elim (fun h=>absurd h.1 fun au=>cP ab) .inr),E,U⟩
 rintro c6 ak ⟨f9,J,I,C,M,ae,cD,E,eH⟩;refine bF eH<|aJ 6 U<|p (ax U<|C.aO 2)<|aN 3 U<|cd U (fun ci=> ?_) fun ci=> ?_;obtain ⟨eg,d4⟩:=cD.resolve_left fun h=>ci<|by rw [h.1]; rfl
 refine bS 1 U ?_;have bt:(fun w'=>Md (fun k=>k=Z) ak w') ak.drew:=(Md.refl _ _).drew;refine bq (fun w'=>Md (fun k=>k=Z) ak w') U wide bt<|dj 0 U (eC (ps:= []) (L:= [.int .i64 0,.string ⟨⟨[]⟩⟩,.slice none 0 0,.slice none 0 0,.slice none 0 0,.slice none 0 0,.slice none 0 0]) tM U<|U) bt<|aH [1,2,3] U bt<|qB 4 U (fun w' dD=>ax U<|(Md.B dD C fun h=>by omega).aO 2) bt<|he 5 U ai<|q7 kL U U U U (J) (by simp) fun eW dC dq=> ?_
 skip
 have b7:(fun w'=>Md (fun k=>k=Z) ak w') eW:=Md.trans bt dC;refine ⟨b7,?_⟩;exact aH [6] U b7<|hn ai<|bf 3 U<|sA U (iq (cs:= [a0 .i64 0,str [],.slice none 0 0,.slice none 0 0,.slice none 0 0,.slice none 0 0,.slice none 0 0]) U lO U fun j cn=>dq.aO j) lh<|⟨.inr ⟨d4,f9,eg,U⟩,M.trans' b7 fun k A h=>by omega⟩
 obtain ⟨_,ee,a4⟩:=cD.resolve_right fun h=>ci ab;refine bS 3 U ?_;obtain ⟨aE,aI,aK,aL,rfl⟩:∃ aE aI aK aL,vs= [aE,aI,aK,aL]:=by
  match vs,aC with
  | [aE,aI,aK,aL],_=>exact ⟨_,_,_,_,rfl⟩
 have d5:n6 ak w.heap.size [a0 .i64 ((if n≤64 then n else 0:Nat):Int),str t,.slice O rs.length rc,aE,aI,aK,aL] ⟨if n≤64 then n else 0,t,rs,ls⟩:=⟨O,rc,[aE,aI,aK,aL],rfl,aC,(bU E).2,fun i hi=>(a4 i hi).mono ab⟩
 have d6:=d5.one;refine aJ 1 U<|p (fg lO U (U) (show ∀ j,j < 7→ay ak.heap V (0 +j)=([a0 .i64 ((if n≤64 then n else 0:Nat):Int),str t,.slice O rs.length rc,aE,aI,aK,aL]:List ag)[j]? from fun j _=>I.aO j))<|e<|q7 kL U U U d6.2 J aF fun eS b4 dr=> ?_;have ds:aA eS.heap Z [a0 .i64 ((if n≤64 then n else 0:Nat):Int),str t,.slice O rs.length rc,aE,aI,aK,aL]:=dr;exact az 4 U<|sA U (iq (cs:= [a0 .i64 ((if n≤64 then n else 0:Nat):Int),str t,.slice O rs.length rc,aE,aI,aK,aL]) U lO U fun j cn=>ds.aO j) lh<|⟨.inl ⟨_,_,ee,U,⟨O,rc,[aE,aI,aK,aL],U,aC,(bU<|bN E b4 fun k A h=>by have :=(cy E A).1; omega).2,fun i hi=>((a4 i hi).md b4 fun k A hb=>absurd hb ab).mono ab⟩⟩,M.trans' b4 fun k A h=>by omega⟩
end Go.Hb.y8
section
namespace Go.Hb.rP
open Go.Hb.y8
theorem rS.form {s:List UInt8} {w w':ah} {v:ag} (h:rS s w v w'):∃ E I x2 J L M O q,v= .tuple #[.agg [E,I,x2,J,L,M,O].toArray,.int .i64 ((q:Nat):Int)]∧[E,I,x2,J,L,M,O].all eS=true∧Wk w w'∧
 ((q≠0∧∃ ak,bI s= .error ak)∨(q=0∧∃ b,bI s= .ok b∧n6 w' w.heap.size [E,I,x2,J,L,M,O] b)):=by
 obtain ⟨h,aj⟩:=h;rcases h with ⟨b,cs,A,C,hb⟩ | ⟨A,q,am,C⟩
 · obtain ⟨al,h1⟩:=hb.one;obtain ⟨V,Z,ab,ac,ad,ae,ai,rfl⟩:∃ V Z ab ac ad ae ai,cs= [V,Z,ab,ac,ad,ae,ai]:=by
    match cs,al with
    | [V,Z,ab,ac,ad,ae,ai],_=>exact ⟨_,_,_,_,_,_,_,rfl⟩
   exact ⟨_,_,_,_,_,_,_,0,C,h1,aj,.inr ⟨U,b,A,hb⟩⟩
 · exact ⟨_,_,_,_,_,_,_,q,C,U,aj,.inl ⟨am,A⟩⟩
theorem Cy {w w':ah} {I e:Nat} {E:Option bl} {s:List UInt8} {b:dH} (O:b.Is s) (A:aV w.heap E (b.cZ.flatMap ej)) (M:w.heap[I]? =some (.cells [a0 .i64 0,str [],.slice none 0 0,.slice none 0 0,.slice none 0 0,.slice none 0 0,.slice none 0 0].toArray e (0,0))) (hm:Md (fun k=>k=I) w w'):aV w'.heap E (b.cZ.flatMap ej):=by
 refine A.md hm fun J U=> ?_;have hr:=O.cZ;cases hrp:b.cZ with
 | nil=>rw [hrp] at J; exact J rfl
 | cons r rs=>
   rw [hrp] at A hr;have h1:=A.ay 0 (str r.1) rfl;rw [U,bp M] at h1;have L:=(hr r List.mem_cons_self).1;have :∀ j,j < 7→([a0 .i64 0,str [],.slice none 0 0,.slice none 0 0,.slice none 0 0,.slice none 0 0,.slice none 0 0]:List ag).toArray[j]?≠some (str r.1):=fun j C h=>by
    match j,C with
    | 0,_=>cases h
    | 1,_=>exact L<|by simp [str] at h; exact h
    | 2,_=>cases h
    | 3,_=>cases h
    | 4,_=>cases h
    | 5,_=>cases h
    | 6,_=>cases h
   by_cases C:fo E+0 < 7
   · exact this _ C h1
   · rw [Array.getElem?_eq_none (by simp; omega)] at h1; cases h1
def Fy (s:List UInt8) (w:ah) (v:ag) (w':ah):Prop := ∃ C E I x2 J L M O A,v= .tuple #[.pointer C,.agg [E,I,x2,J,L,M,O].toArray,.bool A,.bool true]∧[E,I,x2,J,L,M,O].all eS=true∧Wk w w'∧
 ((∃ U b,C=some ⟨U,0,none⟩∧A=true∧bI s= .ok b∧cQ w' w.heap.size U b s∧n6 w' w.heap.size [E,I,x2,J,L,M,O] b)∨(C=none∧A=false∧∃ V,bI s= .error V))
theorem Cv (s:List UInt8) (w:ah) (aX:s.length≤1048576):
 bo prog 8 (bB [str s]) w (Fy s w):=by
 refine enter func8 U ntmps8 U<|aW 3 U<|e<|dz pE fun ax aZ bt aR aD=> ?_;have bz:=aR.size;refine aj 6 U<|p mv<|e<|ba (BJ s aZ aX) U ?_;rintro bq aJ ⟨am,ak⟩;have bw:=ak.size;obtain ⟨E,u,rfl,aV,bm⟩:∃ E u,bq= .tuple #[.pointer E,u]∧(∀ C,E=some C→∃ J b,C=⟨J,0,none⟩∧bI s= .ok b∧cQ aJ aZ.heap.size J b s)∧(E=none→∃ ae,bI s= .error ae):=by
  cases hX:bI s with
  | ok b=>rw [hX] at am; obtain ⟨J,h,bj⟩:=am; exact ⟨_,_,h,fun C A=>⟨J,b,(Option.some.inj A).symm,rfl,bj⟩,fun A=>by cases A⟩
  | error q=>rw [hX] at am; exact ⟨_,_,am,fun C A=>(by cases A),fun _=>⟨q,rfl⟩⟩
 clear am;refine p mv<|aj 2 U<|p aT<|p aT<|aj 4 U<|p mv<|e<|ba (Ki s aJ aX) U fun bF aY bh=> ?_;obtain ⟨L,M,x2,O,V,Z,ac,q,rfl,aw,al,aH⟩:=rS.form bh;have bx:=al.size;have bp:(q=0∧E≠none)∨(q≠0∧E=none):=by
  rcases aH with ⟨h1,ae,A⟩ | ⟨h1,b,A,_⟩;refine .inr ⟨h1,?_⟩;cases hoc:E with
  | none=>rfl
  | some C=>obtain ⟨_,_,_,ap,_⟩:=aV C hoc; rw [A] at ap; cases ap
  refine .inl ⟨h1,fun ap=> ?_⟩;obtain ⟨ae,aL⟩:=bm ap;rw [A] at aL; cases aL
 refine p mv<|aj 2 U<|e<|dz pE fun aK bG bu aS a6=> ?_;have bA:=aS.size;refine e<|dZ kL U U U aw a6 aF fun ao aQ a7=> ?_;have bD:=aQ.size;have a8:aA ao.heap aK [L,M,x2,O,V,Z,ac]:=⟨_,a7⟩
 have ar:Wk aY ao:=aS.md.trans' aQ fun k aG h=>by omega
 have a5:=Wk.an ar<|Wk.an al<|Wk.an ak aD;refine aN 4 U<|sR 10 fun I=>qI 0 U (mv) I<|Jh 1 U (fun w' bi=>fg lO U (U)<|(show ∀ j,j < 7→ay w'.heap aK (0 +j)=([L,M,x2,O,V,Z,ac]:List ag)[j]? from fun j _=>(Wk.B bi a8).aO j)) I<|qA [2,3] U I<|qI 4 U (mv) I<|qI 5 U (ji nk U U) I<|qA [6,7] U I<|qI 8 U (HA u4 U U) I<|qI 9 U (aT) I<|jk 10 U ai ai<|dZ kL U U U aw a5 aF fun ad au a9=> ?_;have bE:=au.size;have bb:aA ad.heap ax [L,M,x2,O,V,Z,ac]:=⟨_,a9⟩
 refine BM 11 U (fun _=>aT) (fun h=>c9<|(show true =_ from by kernel_rfl).trans h)<|BM 12 U (fun _=>aT) (fun h=>c9<|(show true =_ from by kernel_rfl).trans h)<|jl ai<|bf 2 U<|HO U lh (iq (cs:= [L,M,x2,O,V,Z,ac]) U lO U fun j bv=>bb.aO j) lh lh ?_;have br:Wk ao ad→Wk ao ad:=id;have bg:Wk w ao:=((aR.md.trans ak).trans al).trans ar;have aM:Wk w ad:=bg.trans' (Md.de au) fun k aG h=>by omega
 rcases bp with ⟨h1,A⟩ | ⟨h1,A⟩;obtain ⟨_,b,av,bc⟩:=aH.resolve_left fun h=>h.1 h1;obtain ⟨C,rfl⟩:∃ C,E=some C:=by
  cases E with
  | none=>exact absurd rfl A
  | some C=>exact ⟨C,rfl⟩
 obtain ⟨J,a0,rfl,aU,bd⟩:=aV C rfl;obtain rfl :b=a0:=by rw [av] at aU; cases aU; rfl
 subst h1;refine ⟨some ⟨J,0,none⟩,L,M,x2,O,V,Z,ac,true,U,aw,aM,.inl ⟨J,b,U,U,av,?_,?_⟩⟩;obtain ⟨cs,a3,⟨aI,rc,vs,rfl,az,aB,aC⟩,g6⟩:=bd;have aE:Md (fun k=>k=ax) aJ ad:=(al.trans ar).mono (fun _ _ h=>h.elim) |>.trans (Md.de au);exact ⟨_,aE.B a3 (fun h=>by omega),⟨aI,rc,vs,U,az,Cy (sg av) aB (Wk.an ak aD) aE,fun i hi=>((aC i hi).md aE fun k aG hb cur z=>by omega).mono ab⟩,ab⟩;obtain ⟨aI,rc,vs,a4,az,aB,aC⟩:=bc;have aP:Md (fun k=>k=ax) aY ad:=ar.mono (fun _ _ h=>h.elim) |>.trans (Md.de au);exact ⟨aI,rc,vs,a4,az,Cy (sg av) aB (Wk.an al<|Wk.an ak aD) aP,fun i hi=>((aC i hi).md aP fun k aG hb cur z=>by omega).mono ab⟩;subst A;obtain ⟨_,ae,bn⟩:=aH.resolve_right fun h=>h1 h.1;refine ⟨none,L,M,x2,O,V,Z,ac,false,?_,aw,aM,.inr ⟨U,U,ae,bn⟩⟩;have a1:decide (((q:Nat):Int)=0)=false :=decide_eq_false ab;show Value.tuple #[.pointer none,.agg [L,M,x2,O,V,Z,ac].toArray,.bool (decide (((q:Nat):Int)=0)),.bool (decide ((none:Option bl).isNone=decide (((q:Nat):Int)≠0)))]=_;have a2:decide (((q:Nat):Int)≠0)=true :=decide_eq_true ab;rw [a1,a2];rfl
end Go.Hb.rP
end
section
namespace Go.Hb
open Go.Hb.rP
theorem KP (b:dH):iu b 1=b.au.getD 1 []:=by unfold iu; rw [if_pos ab]; rfl
end Go.Hb
end
section
namespace Go.Hb
open Go.Hb.rP
theorem F3 (w:ah):
 bo prog 16 (bB [.pointer none]) w (fun v w'=>v= .agg [.int .i64 0,str [],.slice none 0 0,.slice none 0 0,.slice none 0 0,.slice none 0 0,.slice none 0 0].toArray∧Wk w w'):=by
 refine enter func16 U ntmps16 U<|aW 2 U<|e<|dz pF fun C ad V A E=> ?_;have ac:=A.size;refine aj 5 U<|p mv<|p (ji nk U U)<|aN 2 U<|ct (U)<|aJ 2 U<|p (eC (ps:= []) (L:= [.int .i64 0,.string ⟨⟨[]⟩⟩,.slice none 0 0,.slice none 0 0,.slice none 0 0,.slice none 0 0,.slice none 0 0]) x7 U<|U)<|e<|dZ lS U U U U E aF fun O M I=> ?_;have J:aA O.heap C [.int .i64 0,str [],.slice none 0 0,.slice none 0 0,.slice none 0 0,.slice none 0 0,.slice none 0 0]:=⟨_,I⟩
 exact az 4 U<|qx U (iq (cs:= [.int .i64 0,str [],.slice none 0 0,.slice none 0 0,.slice none 0 0,.slice none 0 0,.slice none 0 0]) U kH U fun j Z=>J.aO j)<|⟨U,A.md.trans' M fun k ab h=>by omega⟩
end Go.Hb
end
section
namespace Go.Hb.y7
structure LD (w:ah) (B pf:Nat) (aa:Option bl) (n cA m:Nat) (wv ov:ag) (t:List UInt8) (out:List (List UInt8)):Prop where
 an:w.heap[pf]? =some (.cells [.slice aa n cA,wv,ov,.int .i64 (m:Nat)].toArray 152 (0,0))
 hp:B≤pf
 wr:bj w B 5 1 wv t.length (U8 t)
 ou:bj w B 9 1 ov out.length (out.map str)
def FF (pf:Nat) (wv ov:ag) (q:Nat):Prop :=q=pf∨wv.ownBlock=some q∨ov.ownBlock=some q
section
variable {w w':ah} {B pf:Nat} {aa:Option bl} {n cA m:Nat} {wv ov:ag} {t:List UInt8} {out:List (List UInt8)}
theorem LD.wk (h:LD w B pf aa n cA m wv ov t out) (hm:Wk w w'):LD w' B pf aa n cA m wv ov t out:=⟨hm.an h.an,h.hp,bg h.wr hm,bg h.ou hm⟩
theorem LD.lt (h:LD w B pf aa n cA m wv ov t out) {q:Nat} (A:FF pf wv ov q):B≤q∧q < w.heap.size:=by
 rcases A with rfl | A | A
 · exact ⟨h.hp,(Array.getElem?_eq_some_iff.1 h.an).1⟩
 · exact cy h.wr A
 · exact cy h.ou A
theorem J9 {a:Option bl} {n m c:Nat} :(cz a n c).ownBlock=(cz a m c).ownBlock:=by
 cases a <;> rfl
theorem A5 {A C E:Nat→Prop} {s1 s2:Nat} (h:∀ q,E q→C q∨s2≤q) (h':∀ q,C q→A q∨s1≤q) (J:s1≤s2):∀ q,E q→A q∨s1≤q:=fun q I=>by
 rcases h q I with h | h
 · exact h' q h
 · exact .inr ab
theorem Md.BX {A C:Nat→Prop} {w E I:ah} (h1:Md A w E) (L:∀ q,C q→A q∨w.heap.size≤q) (J:Md C E I):Md A w I:=Md.trans' h1 J fun q M h=>(L q h).resolve_right ab
theorem FD (t:List UInt8) (c:UInt8):(U8<|t++ [c]).take (t.length*1)=U8 t:=by
 rw [rT,Nat.mul_one,List.take_append_of_le_length (by rw [oh]; exact aQ _),j6 (by rw [oh]; exact aQ _)]
end
section
variable {a:List aM} {t f:List UInt8} {i m q:Nat}
theorem A7 (h:¬((aD a i).1=true∧f= [])):eM a t i f= []:=if_neg h
theorem Ia (h:(aD a i).1=true) (A:f= []):eM a t i f= [t]:=if_pos ⟨h,A⟩
theorem Ib (es:List (UInt8×Int)) (q:Nat):dR a t f es=dR a t f (es.take q)++dR a t f (es.drop q):=by
 conv =>lhs; rw [← List.take_append_drop q es]
 unfold dR; rw [uq]
theorem A9 {l:List Nat} {out:List (List UInt8)} (A:fG a l) (hi:i < a.length) (h:((out++eM a t i f++dR a t f ((aD a i).2.take q)).take m).length=m):(out++iM a t i f).take m=(out++eM a t i f++dR a t f ((aD a i).2.take q)).take m:=by
 rw [A8 A hi,Ib (aD a i).2 q,← gC,← gC,LW h]
theorem o5 {c:UInt8} (h:f= []∨f.getD 0 0≠c):kp f c= []:=by
 cases f with
 | nil=>rfl
 | cons d f=>
   show (if c=d then f else [])= []
   rcases h with h | h
   · cases h
   · rw [if_neg (fun e=>h e.symm)]
theorem xy {c:UInt8} (h0:f≠[]) (h:f.getD 0 0=c):kp f c=f.drop 1:=by
 cases f with
 | nil=>exact absurd rfl h0
 | cons d f=>exact if_pos h.symm
theorem Km {c:UInt8} :(kp f c).length≤f.length:=by
 cases f with
 | nil=>exact aQ _
 | cons d f=>
   show (if c=d then f else []).length≤_;split <;> simp
theorem tG {c:UInt8} (h:f= []∨¬c.toNat < (f.getD 0 0).toNat):mi f c=false :=by
 cases f with
 | nil=>rfl
 | cons d f=>
   rcases h with h | h
   · cases h
   · exact decide_eq_false h
theorem Lb {c:UInt8} (h0:f≠[]) (h:c.toNat < (f.getD 0 0).toNat):mi f c=true :=by
 cases f with
 | nil=>exact absurd rfl h0
 | cons d f=>exact decide_eq_true h
end
set_option maxHeartbeats 2000000 in
theorem Ie (r:Nat) (a:List aM) (l:List Nat) (aa:Option bl) (cA m:Nat) (w0:ah) (pf:Nat) (wv ov:ag) (t:List UInt8) (out:List (List UInt8)) (i:Nat) (f:List UInt8) (w:ah) (A:fG a l) (bw:eA w0.heap aa a) (ar:Wk w0 w) (E:LD w w0.heap.size pf aa a.length cA m wv ov t out) (hi:i < a.length) (hr:l.idxOf i < r) (eb:t.length+l.idxOf i≤a.length) (d2:out.length < m) (hm:m≤4096) (d0:f.length≤4294967296):
 bo prog 51 (bB [aU pf,aB i,str f]) w (fun v w'=>v= .bool (decide (((out++iM a t i f).take m).length < m))∧∃ cO cH cI,(((out++iM a t i f).take m).length < m→cI=t)∧LD w' w0.heap.size pf aa a.length cA m cO cH cI ((out++iM a t i f).take m)∧Md (FF pf wv ov) w w'∧∀ q,FF pf cO cH q→FF pf wv ov q∨w.heap.size≤q):=by
 induction r generalizing wv ov t out i f w with
 | zero=>omega
 | succ r ih=>
   have hle:=A.le;obtain ⟨a3,a4,b7,cg⟩:=bw.two hi;have cV:ay w0.heap (bk aa) (fo aa+i*2 +0)=some (.bool (aD a i).1):=b7 0 ab;have cW:ay w0.heap (bk aa) (fo aa+i*2 +1)=some (.slice a3 (aD a i).2.length a4):=b7 1 ab;have d3:=(A.tk hi).len;refine enter func51 U ntmps51 U<|bT 5 U ?_;refine dY (fun cP bp=> ∃ (bu bi:ag),(LD bp w0.heap.size pf aa a.length cA m bu bi t<|(out++eM a t i f).take m)∧(Md (FF pf wv ov) w bp)∧(∀ q,FF pf bu bi q→FF pf wv ov q∨w.heap.size≤q)∧(Sl cP [(0,aU pf),(1,aB i),(2,str f)])) ?_ ?_;refine aW 2 U<|p mv<|aj 2 U<|p (ax U<|aA.ay ⟨_,E.an⟩ 0)<|p mv<|p (bG lW U U ab<|bw.ok ab)<|aj 1 U<|p (ax U<|ar.ay cV)<|aj 1 U<|gb (t:=18) U (fun bd=> ?_) fun bd=> ?_;refine bO U mv<|aN 4 U<|cd U (fun al=> ?_) fun al=> ?_;have dt:f= []:=by first | exact al | simpa using al
   obtain ⟨b2,b3,aE⟩:=cT E.wr;obtain ⟨bR,bW,aX⟩:=cT E.ou;have L:(fun w'=>w'.heap[pf]? =some (.cells [.slice aa a.length cA,wv,ov,aB m].toArray 152 (0,0))∧bj w' w0.heap.size 5 1 wv t.length (U8 t)) w.drew:=⟨E.an,E.wr⟩
   refine kV (fun w'=>w'.heap[pf]? =some (.cells [.slice aa a.length cA,wv,ov,aB m].toArray 152 (0,0))∧bj w' w0.heap.size 5 1 wv t.length (U8 t)) 14 U wide L<|iO 0 U (mv) L<|iO 1 U (mv) L<|dJ [2,3] U L<|lq 4 U ai (fun w' A=>ax U (show _=some (cz bR out.length bW) from aX ▸ aA.ay ⟨_,A.1⟩ 2)) L<|iO 5 U (mv) L<|dJ [6,7] U L<|lq 8 U ai (fun w' A=>ax U (show _=some (cz b2 t.length b3) from aE ▸ aA.ay ⟨_,A.1⟩ 1)) L<|lq 9 U ai (fun w' A=>qi zA U ((bU<|aE ▸ A.2).2)<|U) L<|ei 10 U ai<|jD iw U U fun cS bn dU bJ cZ=> ?_;have c0:aA bn.heap cS [str t]:=cZ;have bz:Wk w bn:=Md.trans (Md.refl _ _).drew bJ.md;have a5:=E.wk bz;have d7:=bz.size;have dj:(fun w'=>w'.heap[pf]? =some (.cells [.slice aa a.length cA,wv,ov,aB m].toArray 152 (0,0))∧bj w' w0.heap.size 5 1 wv t.length (U8 t)) bn:=⟨bJ.md.an L.1,bg L.2 bJ.md⟩
   refine ⟨dj,?_⟩;refine ei 11 U ai<|ap iw (aX ▸ a5.ou) U (by have :=ar.size; omega) U (aV.fL c0) (U) (U) ab ab fun bX cL cC a9 ec cu=> ?_;have co:TF bn [11] (fun q=>ov.ownBlock=some q):=TF.own a5.ou rfl;rw [← aX] at a9 cu;have bP:=a9.zr co a5.an rfl;have cG:=mc a5.wr a9 co rfl;have bN:(fun w'=>w'.heap[pf]? =some (.cells [.slice aa a.length cA,wv,ov,aB m].toArray 152 (0,0))∧bj w' w0.heap.size 5 1 wv t.length (U8 t)) cL:=⟨bP,cG⟩
   refine ⟨bN,?_⟩;refine ei 12 U ai<|gV (nc U) ⟨bN,?_⟩;refine dJ [13] U bN<|jk 14 U ai ai<|cU qk U U (xm cC) bP (by simp) fun cJ bE cY=> ?_;have cn:TF cL [154] (fun q=>q=pf):=TF.eq (q8 bP) rfl;have c8:LD cJ w0.heap.size pf aa a.length cA m wv bX t ((out++eM a t i f).take m):=by
    rw [Ia bd dt,j6 (by rw [bK]; simp only [dm,gY]; omega)];refine ⟨cY,E.hp,mc cG bE cn U,?_⟩;rw [gD,bK]; exact mc cC bE cn rfl
   have dd:Md (FF pf wv ov) w cJ:=Md.trans (Md.trans (bz.mono fun _ _ h=>h.elim)<|a9.mono fun _ _ h=> .inr<|.inr h)<|bE.mono fun _ _ h=> .inl h;have dx:∀ q,FF pf wv bX q→FF pf wv ov q∨w.heap.size≤q:=fun q aC=>by
    rcases aC with h | h | h;exact .inl<|.inl h;exact .inl<|.inr<|.inl h;rcases cu q h with h | h;exact .inl<|.inr<|.inr h;exact .inr ab
   exact jl ai<|tn<|⟨wv,bX,c8,dd,dx,U⟩
   exact aG 1 U<|tn<|⟨wv,ov,(by rw [A7 (fun h=>by first | (rw [bd] at h; exact c9 h.1) | exact al h.2 | exact absurd h.2<|by simpa using al),js,j6 ab]; exact E),(Md.refl _ _),(fun q h=> .inl h),U⟩
   exact az 7 U<|tn<|⟨wv,ov,(by rw [A7 (fun h=>by first | (rw [bd] at h; exact c9 h.1) | exact al h.2 | exact absurd h.2<|by simpa using al),js,j6 ab]; exact E),(Md.refl _ _),(fun q h=> .inl h),U⟩
   rintro cP bp ⟨bu,bi,cc,ch,du,dE⟩;refine bF dE ?_;have cf:Wk w0 bp:=Md.trans' ar ch fun q h1 aI=>by have :=(E.lt aI).1; omega
   refine aJ 6 U<|p (ax U<|aA.ay ⟨_,cc.an⟩ 0)<|aj 1 U<|p (bG lW U U ab<|bw.ok ab)<|aj 1 U<|p (ax U<|cf.ay cW)<|aN 5 U<|lp (fun b6 cQ am=> ∃ (q:Nat) (I C:ag),(q≤(aD a i).2.length)∧(Wk w0 am)∧(Md (FF pf wv ov) w am)∧(∀ q,FF pf I C q→FF pf wv ov q∨w.heap.size≤q)∧(LD am w0.heap.size pf aa a.length cA m I C t<|(out++eM a t i f++dR a t f ((aD a i).2.take q)).take m)∧(Sl cQ [(0,aU pf),(1,aB i),(2,str f),(43,.slice a3 (aD a i).2.length a4),(44,aB ((aD a i).2.length)),(45,aB q)])∧((aD a i).2.length - q=b6)) _ ⟨0,bu,bi,ab,cf,ch,du,(by rw [List.take_zero]; unfold dR; rw [List.flatMap_nil,js]; exact cc),U,U⟩ ?_;rintro b6 cQ am ⟨q,I,C,aC,bA,aL,aT,Z,dF,rfl⟩;refine bF dF<|bT 6 U<|cd U (fun dq=> ?_) fun dq=> ?_;refine bS 5 U ?_;obtain ⟨⟨c,z⟩,hek⟩:∃ e,(aD a i).2[q]? =some e:=⟨_,bt ab⟩
   have dL:=A.oz hi<|j5 hek;simp only at dL;have bq:=Ic (a:=a) (t:=t) (f:=f) hek;simp only at bq;refine aJ 1 U<|p (bG oD U U ab<|cg.ok ab)<|p (fg rW U (U)<|px bA<|cg.two hek)<|e<|dz D3 fun O eg dV cm c2=>e<|dZ zZ U U U U c2 (by simp) fun bm ci cX=> ?_;have bx:aA bm.heap O [a0 .u8 c.toNat,.int .i64 z]:=⟨_,cX⟩
   have au:Wk am bm:=Md.trans' cm.md ci fun k d1 h=>by omega
   have V:=Z.wk au;have d5:=cm.size;have d4:=ci.size;have d6:=au.size;obtain ⟨b2,b3,aE⟩:=cT V.wr;obtain ⟨bR,bW,aX⟩:=cT V.ou;refine aN 4 U<|fJ fun aQ=>aH [0,1,2] U aQ<|di 3 U aQ (show _=some (cz bR ((out++eM a t i f++dR a t f ((aD a i).2.take q)).take m).length bW) from aX ▸ aA.ay ⟨_,V.an⟩ 2)<|aH [4,5,6,7] U aQ<|di 8 U aQ (aA.ay ⟨_,V.an⟩ 3)<|aH [9] U aQ<|hn ai<|dn 1 U<|cd U (fun dr=> ?_) fun dr=> ?_;refine aG 9 U<|tr<|bf 2 U<|aR U ?_;have av:=A9 (t:=t) (f:=f) (out:=out) (m:=m) (q:=q) A hi ab;refine ⟨?_,I,C,t,fun _=>rfl,?_,Md.drew (aL.trans<|au.mono fun _ _ h=>h.elim),aT⟩;rw [av]; exact congrArg bD (decide_eq_false ab).symm;rw [av]; exact V.wk<|Md.drew<|Md.refl _ _;refine bS 2 U ?_;refine dY (fun cR cN=> ∃ (dP:Unit),(Wk bm cN)∧(mi f c=false)∧(Sl cR [(0,aU pf),(1,aB i),(2,str f),(8,aU O),(43,.slice a3 (aD a i).2.length a4),(44,aB ((aD a i).2.length)),(45,aB q)])) ?_ ?_;refine bT 1 U<|fJ fun ak=>aH [0,1,2] U ak<|jR (t:=61) U (fun aw=> ?_) fun aw=> ?_;refine aH [3] U ak<|fI 4 U (fun w' A=>ax U<|Wk.ay A<|bx.aO 0) ak<|aH [5] U ak<|fI 6 U (fun _ _=>sK 0 u9 U U<|by first | exact pT.2 aw | exact pT.2<|by simpa using aw) ak<|aH [7,8] U ak<|hn ai<|dn 1 U<|cd U (fun ds=> ?_) fun ds=> ?_;exact aG 1 U<|b9<|bf 6 U<|tn<|⟨_,ab,q+1,I,C,ab,(Md.drew<|Md.drew<|bA.trans au),(Md.drew<|Md.drew<|aL.trans<|au.mono fun _ _ h=>h.elim),aT,(by rw [bq,Lb (by simpa using aw) ab,if_pos U,js]; exact V.wk<|Md.drew<|Md.drew<|Md.refl _ _),U,U⟩
   exact aG 1 U<|tn<|⟨(),(by first | exact Md.refl _ _ | exact Md.drew (Md.refl _ _) | exact Md.drew<|Md.drew<|Md.refl _ _),(by first | exact tG (.inl<|by simpa using aw) | exact tG<|.inr ab),U⟩
   exact aH [3,4,5,6,7,8] U ak<|hn ai<|bf 3 U<|tn<|⟨(),(by first | exact Md.refl _ _ | exact Md.drew (Md.refl _ _) | exact Md.drew<|Md.drew<|Md.refl _ _),(by first | exact tG (.inl<|by simpa using aw) | exact tG<|.inr ab),U⟩
   rintro cR cN ⟨dP,ac,sF,dG⟩;refine bF dG ?_;have c5:=Wk.B ac bx;obtain ⟨cs,dT⟩:=LX (xs:=out++eM a t i f++dR a t f ((aD a i).2.take q)) (m:=m) ab;have dS:=congrArg kE cs;refine bS 5 U ?_;refine dY (fun b5 br=> ∃ (dO:Unit),(Wk bm br)∧(b5 9=str (kp f c))∧(Sl b5 [(0,aU pf),(1,aB i),(2,str f),(8,aU O),(43,.slice a3 (aD a i).2.length a4),(44,aB ((aD a i).2.length)),(45,aB q)])) ?_ ?_;refine bT 1 U<|fJ fun ad=>aH [0,1,2] U ad<|jR (t:=70) U (fun M=> ?_) fun M=> ?_;refine aH [3] U ad<|fI 4 U (fun w' A=>ax U<|Wk.ay A<|c5.aO 0) ad<|aH [5] U ad<|fI 6 U (fun _ _=>sK 0 u9 U U<|by first | exact pT.2 M | exact pT.2<|by simpa using M) ad<|aH [7,8] U ad<|hn ai<|dn 1 U<|cd U (fun bc=> ?_) fun bc=> ?_;exact aJ 2 U<|p (C8 u9 U U (by have h:0 < f.length:=(by first | exact pT.2 M | exact pT.2<|by simpa using M); omega))<|az 2 U<|tn<|⟨(),(by first | exact ac | exact Md.drew ac),(by first | (rw [xy (by simpa using M) (rN.1 ab)]; rfl) | (rw [o5 (.inl<|by simpa using M)]; rfl) | (rw [o5 (.inr fun e=>bc<|by rw [e])]; rfl)),U⟩
   exact aG 1 U<|tn<|⟨(),(by first | exact ac | exact Md.drew ac),(by first | (rw [xy (by simpa using M) (rN.1 ab)]; rfl) | (rw [o5 (.inl<|by simpa using M)]; rfl) | (rw [o5 (.inr fun e=>bc<|by rw [e])]; rfl)),U⟩
   exact aH [3,4,5,6,7,8] U ad<|hn ai<|bf 3 U<|tn<|⟨(),(by first | exact ac | exact Md.drew ac),(by first | (rw [xy (by simpa using M) (rN.1 ab)]; rfl) | (rw [o5 (.inl<|by simpa using M)]; rfl) | (rw [o5 (.inr fun e=>bc<|by rw [e])]; rfl)),U⟩
   rintro b5 br ⟨dO,a8,dI,dH⟩;refine bF dH<|fx 9 dI ?_;have ce:=V.wk a8;have ca:=Wk.B a8 bx;have ee:=a8.size;rw [sF,if_neg Bool.false_ne_true] at bq;have dl:out++eM a t i f++dR a t f ((aD a i).2.take<|q+1)=out++eM a t i f++dR a t f ((aD a i).2.take q)++iM a (t++ [c]) z.toNat (kp f c):=by rw [bq,gC,gC,gC]
   refine bS 1 U ?_;have ae:(fun w'=>w'.heap[pf]? =some (.cells [.slice aa a.length cA,I,C,aB m].toArray 152 (0,0))∧aA w'.heap O [a0 .u8 c.toNat,.int .i64 z]) br.drew:=⟨ce.an,ca⟩
   refine kV (fun w'=>w'.heap[pf]? =some (.cells [.slice aa a.length cA,I,C,aB m].toArray 152 (0,0))∧aA w'.heap O [a0 .u8 c.toNat,.int .i64 z]) 11 U wide ae<|dJ [0,1,2,3] U ae<|lq 4 U ai (fun w' A=>ax U (show _=some (cz b2 t.length b3) from aE ▸ aA.ay ⟨_,A.1⟩ 1)) ae<|dJ [5] U ae<|lq 6 U ai (fun w' A=>ax U<|A.2.ay 0) ae<|ei 7 U ai<|jD kq U U fun dQ bZ dW bL c3=> ?_;have a7:Wk br bZ:=Md.trans (Md.refl _ _).drew bL.md;have a6:=ce.wk a7;have d9:=a7.size;have ea:=bA.size;have dh:(fun w'=>w'.heap[pf]? =some (.cells [.slice aa a.length cA,I,C,aB m].toArray 152 (0,0))∧aA w'.heap O [a0 .u8 c.toNat,.int .i64 z]) bZ:=⟨bL.md.an ae.1,bL.md.B ae.2⟩
   refine ⟨dh,?_⟩;refine ei 8 U ai<|ap kq (aE ▸ a6.wr) U (by have :=ar.size; omega) U (aV.fL c3) (U) (U) ab ab fun bY cM cD aK ed cw=> ?_;have cq:TF bZ [7] (fun q=>I.ownBlock=some q):=TF.own a6.wr rfl;rw [← aE] at aK cw;have bQ:=aK.zr cq a6.an rfl;have dB:=mc a6.ou aK cq rfl;have ct:=aK.B (a7.B ca) fun h=>by have :=(Z.lt<|.inr<|.inl h).2; omega
   have bM:(fun w'=>w'.heap[pf]? =some (.cells [.slice aa a.length cA,I,C,aB m].toArray 152 (0,0))∧aA w'.heap O [a0 .u8 c.toNat,.int .i64 z]) cM:=⟨bQ,ct⟩
   refine ⟨bM,?_⟩;refine ei 9 U ai<|gV (nc U) ⟨bM,?_⟩;refine dJ [10] U bM<|jk 11 U ai ai<|cU vj U U (xm cD) bQ (by simp) fun aZ bb c1=> ?_;have cp:TF cM [154] (fun q=>q=pf):=TF.eq (q8 bQ) rfl;have c6:LD aZ w0.heap.size pf aa a.length cA m bY C (t++ [c]) ((out++eM a t i f++dR a t f ((aD a i).2.take q)).take m):=by
    refine ⟨c1,E.hp,?_,mc dB bb cp U⟩;rw [rT,bK]; exact mc cD bb cp rfl
   have dp:=bb.B ct fun h=>by have :=(Z.lt<|.inl h).2; omega
   have dg:Md (FF pf I C) am aZ:=Md.trans (Md.trans ((Md.trans (au.trans a8) a7).mono fun _ _ h=>h.elim)<|aK.mono fun _ _ h=> .inr<|.inl h)<|bb.mono fun _ _ h=> .inl h;have dy:∀ q,FF pf bY C q→FF pf I C q∨am.heap.size≤q:=fun q aC=>by
    rcases aC with h | h | h;exact .inl<|.inl h;rcases cw q h with h | h;exact .inl<|.inr<|.inl h;exact .inr ab;exact .inl<|.inr<|.inr h
   have bI:Md (FF pf wv ov) w aZ:=Md.BX aL aT dg;have dK:=aL.size;have cv:=A5 dy aT dK;have da:Wk w0 aZ:=Md.trans' ar bI fun q h1 aI=>by have :=(E.lt aI).1; omega
   refine jl ai<|gn 6 U<|p (ax U (show _=some (a0 .i64 ((z.toNat:Nat):Int)) from (dp.ay 1).trans<|congrArg (fun z=>some<|a0 .i64 z) ab))<|aj 1 U<|e<|ba (ih bY C (t++ [c]) ((out++eM a t i f++dR a t f ((aD a i).2.take q)).take m) z.toNat (kp f c) aZ da c6 ab ab (by rw [bK,mz]; omega) ab<|by have :=Km (f:=f) (c:=c); omega) U ?_;rintro ef b1 ⟨cF,b4,aF,t3,cE,ao,dc,dw⟩;have ck:Md (FF pf wv ov) w b1:=Md.BX bI cv dc;have d8:=bI.size;have cx:=A5 dw cv ab;rw [cs,← dl] at cF ao cE;subst cF;refine aN 3 U<|cb U (fun aS=> ?_) fun aS=> ?_;have cB:¬((out++eM a t i f++dR a t f ((aD a i).2.take<|q+1)).take m).length < m:=fun h=>by rw [decide_eq_true h] at aS; cases aS
   refine aG 9 U<|tr<|bf 2 U<|aR U ?_;have av:=A9 (t:=t) (f:=f) (out:=out) (m:=m) (q:=q+1) A hi<|by have :=List.length_take_le m (out++eM a t i f++dR a t f ((aD a i).2.take<|q+1)); omega
   refine ⟨?_,b4,aF,t3,?_,?_,ck,cx⟩;rw [av]; exact congrArg bD (decide_eq_false cB).symm;rw [av]; exact fun h=>absurd h cB;rw [av]; exact ao;have dA:((out++eM a t i f++dR a t f ((aD a i).2.take<|q+1)).take m).length < m:=Classical.byContradiction fun h=>by rw [decide_eq_false h] at aS; cases aS
   obtain rfl :=cE dA;have bh:=ao.wr;rw [show (t++ [c]).length=t.length+1 by rw [bK]; rfl] at bh;obtain ⟨a1,a2,aY⟩:=cT bh;have dX:=(bU<|aY ▸ bh).1;refine bS 2 U ?_;have J:(fun w'=>w'.heap[pf]? =some (.cells [.slice aa a.length cA,b4,aF,aB m].toArray 152 (0,0))) b1.drew:=ao.an;refine kV (fun w'=>w'.heap[pf]? =some (.cells [.slice aa a.length cA,b4,aF,aB m].toArray 152 (0,0))) 14 U wide J<|dJ [0,1,2,3] U J<|lq 4 U ai (fun w' A=>ax U (show _=some (cz a1 (t.length+1) a2) from aY ▸ aA.ay ⟨_,A⟩ 1)) J<|dJ [5,6,7] U J<|lq 8 U ai (fun w' A=>ax U (show _=some (cz a1 (t.length+1) a2) from aY ▸ aA.ay ⟨_,A⟩ 1)) J<|dJ [9] U J<|iO 10 U (pb<|t.length) J<|iO 11 U (xU qv U U ab) J<|ei 12 U ai<|gV (nc U) ⟨J,?_⟩;refine dJ [13] U J<|jk 14 U ai ai<|cU vj U U U J (by simp) fun b0 bH c4=> ?_;have cr:TF b1 [154] (fun q=>q=pf):=TF.eq (q8 ao.an) rfl;have c7:LD b0 w0.heap.size pf aa a.length cA m (.slice a1 t.length a2) aF t ((out++eM a t i f++dR a t f ((aD a i).2.take<|q+1)).take m):=by
    refine ⟨c4,E.hp,?_,mc ao.ou (Md.de bH) cr U⟩;have b8:=J8 (aY ▸ bh) (k:=t.length) ab ab;rw [FD] at b8;exact mc b8 (Md.de bH) cr U
   have cj:Md (FF pf wv ov) w b0:=Md.trans ck<|(Md.de bH).mono fun _ _ h=> .inl h;have db:Wk w0 b0:=Md.trans' ar cj fun q h1 aI=>by have :=(E.lt aI).1; omega
   have dv:∀ q,FF pf (cz a1 t.length a2) aF q→FF pf wv ov q∨w.heap.size≤q:=fun q aC=>cx q (by
    rcases aC with h | h | h;exact .inl h;exact .inr<|.inl<|by rw [aY,J9]; exact h
    exact .inr (.inr h))
   exact jl ai<|bf 6 U<|tn<|⟨_,ab,q+1,.slice a1 t.length a2,aF,ab,db,cj,dv,c7,U,U⟩
   refine aG 2 U<|b9<|dn 3 U ?_;obtain ⟨dM,dN,dC⟩:=cT Z.ou;refine fJ fun aP=>aH [0,1,2] U aP<|di 3 U aP (show _=some (cz dM ((out++eM a t i f++dR a t f ((aD a i).2.take q)).take m).length dN) from dC ▸ aA.ay ⟨_,Z.an⟩ 2)<|aH [4,5,6,7] U aP<|di 8 U aP (aA.ay ⟨_,Z.an⟩ 3)<|aH [9,10] U aP<|hn ai<|bf 2 U<|aR U ?_;have dD:q=(aD a i).2.length:=ab;have cy:((out++iM a t i f).take m)=((out++eM a t i f++dR a t f ((aD a i).2.take q)).take m):=by rw [dD,uG,A8 A hi,gC]
   refine ⟨?_,I,C,t,fun _=>rfl,?_,Md.drew aL,aT⟩;rw [cy]; exact bv ab;rw [cy]; exact Z.wk<|Md.drew<|Md.refl _ _
def gL (a:List aM) (f:List UInt8) (A:Int):List (List UInt8):=if shaped a=true∧1≤A then ((gW a 0).filter<|jO f).take (min A 4096).toNat else []
theorem wQ {a:List aM} {f:List UInt8} {A:Int} (h:shaped a=false∨A < 1):gL a f A= []:=by
 unfold gL;rw [if_neg (fun e=>by rcases h with h | h; rw [h] at e; exact c9 e.1; omega)]
theorem Jj (f:List UInt8) (A:Int):gL [] f A= []:=wQ<|.inl rfl
theorem Ji {a:List aM} {E:Int} {f u:List UInt8} (h:u∈gL a f E):∃ l,fG a l∧u∈gW a 0:=by
 unfold gL at h;split at h
 · rename_i C;obtain ⟨l,A⟩:=xN C.1;exact ⟨l,A,(List.mem_filter.1<|List.mem_of_mem_take h).1⟩
 · cases h
theorem DO (a:List aM) (aa:Option bl) (cA:Nat) (f:List UInt8) (A:Int) (w:ah) (ac:eA w.heap aa a) (aw:a.length≤1048576) (ar:∀ i,i < a.length→(aD a i).2.length≤1073741824) (au:f.length≤4294967296):
 bo prog 30 (bB [.slice aa a.length cA,str f,.int .i64 A]) w (fun v w'=>(∃ x e,v= .tuple #[x,.int .i64 e]∧bj w' w.heap.size 9 1 x (gL a f A).length ((gL a f A).map str))∧Wk w w'):=by
 refine enter func30 U ntmps30 U<|aW 9 U<|p mv<|e<|ba (C2 a aa cA w ac ab ar) U ?_;rintro v11 ai ⟨rfl,C⟩;refine aN 9 U<|cd U (fun ag=> ?_) fun ag=> ?_;have I:shaped a=false :=by cases h:shaped a with | false =>rfl | true =>exact absurd (qX h) ag
 refine aG 9 U<|f2 U U U ?_;rw [wQ (.inl I)];exact ⟨⟨_,_,U,eT _ _ _ _⟩,C⟩;have I:shaped a=true :=by cases h:shaped a with | true =>rfl | false =>have Z:=j1 h; omega
 refine aJ 5 U<|p mv<|aN 3 U<|cd U (fun ap=> ?_) fun ap=> ?_;refine aG 8 U<|f2 U U U ?_;rw [wQ (.inr ab)];exact ⟨⟨_,_,U,eT _ _ _ _⟩,C⟩;refine aJ 4 U<|p mv<|p mv<|p (mn U U)<|p (eC (ps:= [(0,.slice aa a.length cA),(3,.int .i64 (min A 4096))]) (L:= [.slice aa a.length cA,.slice none 0 0,.slice none 0 0,.int .i64 (min A 4096)]) Lp U<|U)<|e<|r7 (L:= [.slice aa a.length cA,.slice none 0 0,.slice none 0 0,.int .i64 (min A 4096)]) U fun V O aB M ad=> ?_;have aF:=M.size;obtain ⟨od,E⟩:=xN I;obtain ⟨m,hm⟩:∃ m:Nat,min A 4096=(m:Int):=⟨(min A 4096).toNat,ab⟩
 rw [hm] at ad;have ae:LD O ai.heap.size V aa a.length cA m (.slice none 0 0) (.slice none 0 0) [] []:=⟨ad,ab,eT _ _ _ _,eT _ _ _ _⟩
 have aE:=E.rk E.pos;have ak:Wk w O:=C.trans M.md;refine aj 6 U<|p mv<|e<|ba (Ie (od.idxOf 0 +1) a od aa cA m ai V (.slice none 0 0) (.slice none 0 0) [] [] 0 f O E (ac.wk C) M.md ae E.pos ab (by simp only [gY]; omega) (by simp only [gY]; omega) ab au) U ?_;rintro aL av ⟨rfl,aO,aK,t4,_,J,ao,_⟩;have al:Wk w av:=ak.trans' ao fun q h1 Z=>by have :=(ae.lt Z).1; have :=C.size; omega
 have am:(gL a f A)=(([]:List (List UInt8))++iM a [] 0 f).take m:=by
  unfold gL;rw [if_pos ⟨I,ab⟩,hm,pO,n3];unfold iM; simp
 obtain ⟨aH,aI,aC⟩:=cT J.ou;refine aj 7 U<|p (ax U<|aA.ay ⟨_,J.an⟩ 2)<|p aT<|az 4 U<|f2 U U U ?_;rw [am];exact ⟨⟨_,_,U,me J.ou C.size⟩,al⟩
theorem Ja (B C:Nat) (b:dH) (I:List UInt8) (n:Int) (f:List UInt8) (A:Int) (w:ah) (J:cQ w B C b I) (E:j7 (iu b n)) (M:f.length≤4294967296):
 bo prog 18 (bB [aU C,.int .i64 n,str f,.int .i64 A]) w (fun v w'=>bj w' w.heap.size 9 1 v (gL (iu b n) f A).length ((gL (iu b n) f A).map str)∧Wk w w'):=by
 refine enter func18 U ntmps18 U<|aW 7 U<|p mv<|p mv<|e<|ba (KV B C b I n w J) U ?_;rintro Z V ⟨⟨aa,cc,rfl,L⟩,hE14⟩;refine p mv<|p mv<|e<|ba (DO (iu b n) aa cc f A V L E.1 (fun i hi=>cG (E.st hi).1 aF) M) U ?_;rintro ab ac ⟨⟨x,e,rfl,O⟩,hE17⟩;exact p mv<|aj 2 U<|p aT<|aj 5 U<|p mv<|p aT<|az 3 U<|aR U<|⟨me O hE14.size,hE14.trans hE17⟩
theorem Jb (n:Int) (f:List UInt8) (E:Int) (w:ah) (I:f.length≤4294967296):
 bo prog 18 (bB [.pointer none,.int .i64 n,str f,.int .i64 E]) w (fun v w'=>bj w' w.heap.size 9 1 v 0 []∧Wk w w'):=by
 refine enter func18 U ntmps18 U<|aW 7 U<|p mv<|p mv<|e<|ba (KS n w) U ?_;rintro L J ⟨rfl,A⟩;refine p mv<|p mv<|e<|ba (DO [] none 0 f E J (eA.none _) (by simp) (fun i hi=>by simp at hi) I) U ?_;rintro M O ⟨⟨x,e,rfl,C⟩,hE17⟩;rw [Jj] at C;exact p mv<|aj 2 U<|p aT<|aj 5 U<|p mv<|p aT<|az 3 U<|aR U<|⟨me C A.size,A.trans hE17⟩
end Go.Hb.y7
end
section
namespace Go.Hb
def zv (z:Int):ag:= .int .i64 z
section
variable {α:Type} {n i k:Nat} {g h:Nat→α}
end
theorem D4 {h:Array Obj} {a:Option bl} {r:List Int} {i:Nat} {x:Int} (A:aV h a (r.map zv)) (hi:r[i]? =some x):ay h (bk a) (fo a+i*1)=some (.int .i64 x):=by
 rw [Nat.mul_one]; exact A.ay _ _<|by rw [eV,hi]; rfl
section
variable {pc:Nat→Nat→Bool} {n i j k:Nat}
end
end Go.Hb
end
section
namespace Go.Hb
open Go.Hb.rP Go.Hb.y7
section
variable {P:Program} {N:Fm} {σ:Nat→ag} {w:ah} {dst:Option Nat} {ty:TypeId} {pos :String} {af:Array Edge} {g:Option (Nat×Bool)} {x y:Operand}
theorem Kt {t I:TypeId} {k:IntKind} {a b:Int} (v:Int) (C:ev N σ x= .int k a) (E:ev N σ y= .int k b) (h0:0≤a∧0 < b) (A:a % b=v):(execOp (ev N σ) ⟨dst,.binOp .rem t x y I,ty,pos,af,g⟩).run P w= .ok (.value<|.int k v) w:=by
 subst A; exact rm C E h0
end
theorem LP (l:List (List UInt8)):(l.map str).all eS=true :=by
 rw [List.all_eq_true];intro v A;obtain ⟨u,_,rfl⟩:=List.mem_map.1 A;rfl
theorem Kc {k:Int} {n:Nat} (h:n≠0):∃ j:Nat,max 0 k % (n:Int)=(j:Int)∧j < n:=by
 have h1:=Int.emod_nonneg (max 0 k) (show (n:Int)≠0 by omega);have A:=Int.emod_lt_of_pos (max 0 k) (show (0:Int) < n by omega);exact ⟨(max 0 k % (n:Int)).toNat,ab,ab⟩
theorem vM {α:Type} (ps:List (List α)) (p:List α):(ps++ [p]).flatten=ps.flatten++p:=by simp
theorem Jk {a:List aM} {C:Int} {f u:List UInt8} (h:u∈gL a f C):kG a u=true∧u.length≤1048576:=by
 obtain ⟨l,A,hu⟩:=Ji h;exact ⟨(M5 A u).1 hu,M6 A hu⟩
theorem Jl (a:List aM) (f:List UInt8) (A:Int):(gL a f A).length≤4096:=by
 unfold gL;split
 · rw [cV]; omega
 · exact Nat.zero_le _
theorem Jz (s:List UInt8) (C:List Int) (ak:Option bl) (ay:Nat) (b:dH) (w:ah) (cG:cJ 524 bE w) (c6:s.length≤1048576) (bP:aV w.heap ak (C.map zv)) (dK:C.length≤1048576) (bb:bI s= .ok b):
 bo prog 6 (bB [str s,.slice ak C.length ay]) w (fun v w'=>v= .bool true∧Wk w w'):=by
 have E:=sg bb;have cB:j7 (iu b 1):=KR E 1;have dL:b.least≤64:=E.least.2;have dM:1≤b.least:=E.least.1;have bX:shaped (b.au.getD 1 [])=true :=(E.au _<|jP (l:=b.au) (i:=1) (d:= [])<|by rw [E.qL]; decide).1;have cX:(b.au.getD 1 [])≠[]:=fun e=>by rw [e] at bX; exact absurd bX aF
 refine enter func6 U ntmps6 U<|aW 7 U<|p mv<|e<|ba (Cv s w c6) U ?_;rintro ea dm ⟨d2,el,em,x2,en,eo,ep,eq,d1,rfl,c3,bw,dg⟩;have dQ:=bw.size;obtain ⟨I,ce,rfl,rfl,bL,cp,dw⟩:=dg.resolve_right fun ⟨_,_,du,h⟩=>by rw [bb] at h; cases h
 obtain rfl :b=ce:=by rw [bb] at bL; cases bL; rfl
 refine p mv<|aj 4 U<|e<|dz pE fun dt ek dC bJ cm=> ?_;have dT:=bJ.size;refine p aT<|e<|dZ kL U U U c3 cm aF fun bp bH dv=> ?_;have dX:=bH.size;have bA:Wk dm bp:=bJ.md.trans' bH fun k O h=>by omega
 have bu:=bw.trans bA;have cF:cJ 524 bE bp:=cG.mono bu fun _ _ h=>h;refine aj 10 U<|gb (t:=33) U (fun h=>absurd (h.symm.trans<|U) c9) fun dI=>eg U U U<|ba (DN bp cF) U ?_;rintro eb dp ⟨rfl,bx⟩;have ct:=bu.trans bx;have br:=(cp.wk bA).wk bx;refine aN 4 U<|cf (U)<|aJ 4 U<|p mv<|e<|ba (zu _ I b s dp br E) U ?_;rintro ec dq ⟨cs,rfl,⟨d3,rc,vs,rfl,_⟩,hE38⟩;have bq:=br.wk hE38;refine p U<|aj 11 U<|p mv<|e<|ba (Ja _ I b s 1 [] 60 dq bq cB aF) U ?_;rintro ed aX ⟨aP,a5⟩;rw [KP] at aP;obtain ⟨L,a8⟩:∃ L,gL (b.au.getD 1 []) [] 60=L:=⟨_,rfl⟩
 rw [a8] at aP;have a9:∀ u∈L,kG (b.au.getD 1 []) u=true∧u.length≤1048576:=fun u hu=>Jk<|by rw [a8]; exact hu
 have dy:L.length≤4096:=by rw [← a8]; exact Jl _ _ _
 obtain ⟨ca,ci,rfl⟩:=cT aP;have cn:=bq.wk a5;have cr:=(ct.trans hE38).trans a5;have bM:=(bU aP).2;have d0:=a5.size;refine aN 5 U<|lp (fun J b5 av=> ∃ (q:Nat) (ar:ag),(q≤L.length)∧(bj av aX.heap.size 9 1 ar (gq b.least<|L.take q).length<|(gq b.least<|L.take q).map str)∧(Wk aX av)∧(Sl b5 [(1,.slice ak C.length ay),(5,aU I),(9,aB (b.least)),(10,ar),(41,.slice ca L.length ci),(42,aB (L.length)),(43,aB q)])∧(L.length - q=J)) _ ⟨0,.slice none 0 0,ab,(eT _ _ _ _),(Md.refl _ _),U,U⟩ ?_;rintro J b5 av ⟨q,ar,dO,ad,ac,c7,rfl⟩;refine bF c7<|bT 6 U<|cd U (fun cI=> ?_) fun cI=> ?_;refine bS 5 U ?_;obtain ⟨A,aH⟩:∃ A,L[q]? =some A:=⟨_,bt ab⟩
 have c5:=a9 A<|j5 aH;have cQ:=BG b.least<|L.take q;rw [cV] at cQ;refine aJ 1 U<|p (bG qw U U ab<|aV.ok (bM.wk ac)<|oO ab)<|p (ax U<|aV.qc (bM.wk ac) (show (_:List ag)[q]? =some (str A) by rw [eV,aH]; rfl)) ?_;refine aN 11 U<|cd U (fun cL=> ?_) fun cL=> ?_;refine aJ 1 U<|tg (ar)<|aj 1 U<|e<|jD iw U U fun ds ej dB aK ck=> ?_;have dR:=aK.size;refine e<|ap iw (bg ad aK.md) U (by have :=ac.size; omega) U (aV.fL ck) (U) (U) ab ab fun b1 b2 cZ cE dS dF=> ?_;have cx:Wk aX b2:=(ac.trans aK.md).trans' cE fun k O h=>by have :=(cy (bg ad aK.md) h).1; omega
 have c0:bj b2 aX.heap.size 9 1 b1 (gq b.least<|L.take<|q+1).length ((gq b.least<|L.take<|q+1).map str):=by
  rw [BH aH,if_pos ab,gD,bK]; exact cZ
 exact p aT<|aj 4 U<|p (cg<|q+1)<|az 2 U<|tn<|⟨_,ab,q+1,b1,ab,c0,cx,U,U⟩
 exact aJ 4 U<|p (cg<|q+1)<|az 2 U<|tn<|⟨_,ab,q+1,ar,ab,(by rw [BH aH,if_neg ab,js]; exact ad),ac,U,U⟩
 refine aG 2 U<|b9<|dn 3 U ?_;obtain rfl :q=L.length:=ab;rw [uG] at ad;obtain ⟨cb,co,rfl⟩:=cT ad;have aL:∀ A∈gq b.least L,0 < A.length∧b.least≤A.length∧kG (b.au.getD 1 []) A=true∧A.length≤1048576:=fun A hp=>by
  obtain ⟨h1,cj⟩:=Jf hp;exact ⟨ab,cj,(a9 A h1).1,(a9 A h1).2⟩
 have dA:=BG b.least L;have aC:=cr.trans ac;have aA:=cn.wk ac;refine bS 5 U ?_;refine dY (fun b6 ae=> ∃ (ps:List (List UInt8)),(∀ A∈ps,A∈(gq b.least L))∧(ps.length≤C.length)∧(ps.flatten.length≤1024)∧(Wk av ae)∧(Sl b6 [(5,aU I),(13,str ps.flatten),(14,aB (ps.length))])) ?_ ?_;refine bT 8 U<|lp (fun J aY b4=> ∃ (j:Nat) (ps:List (List UInt8)),(j≤C.length)∧(∀ A∈ps,A∈(gq b.least L))∧(ps.length≤j)∧(ps.flatten.length≤1024)∧(Wk av b4)∧(aY 13=str ps.flatten)∧(aY 14=aB (ps.length))∧(Sl aY [(1,.slice ak C.length ay),(5,aU I),(9,aB (b.least)),(10,.slice cb (gq b.least L).length co),(56,.slice ak C.length ay),(57,aB (C.length)),(58,aB j)])∧(C.length - j=J)) _ ⟨0,[],ab,(fun A hp=>by cases hp),(by simp),(by simp),(Md.refl _ _),(by first | rfl | (rw [vM]; rfl)),(by first | rfl | (rw [bK]; rfl)),U,U⟩ ?_;rintro J aY b4 ⟨j,ps,cR,V,c4,ao,M,db,dc,da,rfl⟩;refine bF da<|fx 13 db<|fx 14 dc<|bT 6 U<|cd U (fun cM=> ?_) fun cM=> ?_;refine bS 5 U ?_;obtain ⟨k,cW⟩:∃ k,C[j]? =some k:=⟨_,bt ab⟩
 refine aJ 1 U<|p (bG dE U U ab<|aV.ok (bP.wk<|aC.trans M)<|oO ab)<|p (ax U<|D4 (bP.wk<|aC.trans M) cW)<|aN 11 U<|cd U (fun cN=> ?_) fun cN=> ?_;exact aG 4 U<|b9<|bf 1 U<|tn<|⟨ps,V,ab,ao,M,U⟩
 refine bS 3 U ?_;obtain ⟨bi,cU,cS⟩:=Kc (k:=k) (n:=(gq b.least L).length) ab;obtain ⟨A,bh⟩:∃ A,(gq b.least L)[bi]? =some A:=⟨_,bt cS⟩
 have c5:=aL A<|j5 bh;refine aJ 3 U<|p (mx U U)<|aj 2 U<|p (Kt (((bi:Nat):Int)) U U ab<|cU)<|p (bG qw U U ab<|aV.ok ((bU ad).2.wk M)<|oO ab)<|p (ax U<|aV.qc ((bU ad).2.wk M) (show (_:List ag)[bi]? =some (str A) by rw [eV,bh]; rfl)) ?_;refine aN 14 U<|cd U (fun cO=> ?_) fun cO=> ?_;exact aG 4 U<|b9<|bf 1 U<|tn<|⟨ps,V,ab,ao,M,U⟩
 exact aJ 6 U<|p (cc U U ab)<|aj 5 U<|p (cg<|ps.length+1)<|aj 5 U<|p (cg<|j+1)<|az 2 U<|tn<|⟨_,ab,j+1,ps++ [A],ab,(fun x de=>by rcases dx.1 de with h | h; exact V x h; rw [dN.1 h]; exact j5 bh),(by rw [bK,mz]; omega),(by rw [vM,bK]; omega),M,(by first | rfl | (rw [vM]; rfl)),(by first | rfl | (rw [bK]; rfl)),U,U⟩
 exact aG 2 U<|b9<|bf 1 U<|tn<|⟨ps,V,ab,ao,M,U⟩
 rintro b6 ae ⟨ps,V,c4,ao,Z,c8⟩;refine bF c8<|bS 7 U<|cd U (fun cP=> ?_) fun cP=> ?_;exact aG 7 U<|aR U<|⟨U,aC.trans Z⟩
 refine bS 3 U ?_;have aM:=made (l:=b.au.getD 1 []) (least:=b.least) cX (fun A hp=>⟨(aL A<|V A hp).1,(aL A<|V A hp).2.1,(aL A<|V A hp).2.2.1⟩) ab ao;have dW:=Z.size;have cq:=aC.trans Z;refine aJ 3 U<|e<|ba (qY _ I b s ps.flatten ae (aA.wk Z) E ab) U ?_;rintro ee b3 ⟨aQ,a6⟩;obtain ⟨ai,al,rfl⟩:=cT aQ;have dU:=a6.size;refine aj 2 U<|e<|ba (qY _ I b s ps.flatten b3 ((aA.wk Z).wk a6) E ab) U ?_;rintro ef dr ⟨aS,aE⟩;obtain ⟨a0,a2,rfl⟩:=cT aS;have dV:=aE.size;refine p aT<|p aT<|aj 5 U<|p mv<|aj 3 U<|gs (t:=96) U (fun h=>absurd h ab) fun dJ=>bO U mv<|aj 5 U<|gs (t:=102) U (fun h=>absurd h ab) fun dG=>bO U mv<|bO U mv<|eg U U U<|ba (tA (cw (b.au.getD 1 []) b.least ps.flatten) (cw (b.au.getD 1 []) b.least ps.flatten) ai a0 al a2 dr (bU<|bg aQ aE).2 (bU aS).2 ab ab) U ?_;rintro d4 bm ⟨bY,am⟩;rw [decide_eq_true rfl] at bY;subst bY;refine aN 4 U<|cf (U)<|aJ 4 U<|p mv<|e<|ap iw ((eT _ _ _ _:bj bm bm.heap.size 9 1 (.slice none 0 0) 0 [])) U ab U ((bU aS).2.wk am) (by simp) (LP _) ab ab fun d5 bn aO cC dh dD=> ?_;rw [n3,Nat.zero_add] at aO;obtain ⟨aZ,a1,rfl⟩:=cT aO;have aD:Wk bm bn:=cC.mono fun _ _ h=>by simp [Value.ownBlock] at h
 have c1:=bg (bg (bg aQ aE) am) aD;have bR:=bg (bg aS am) aD;have dP:=am.size;have dh:=aD.size;have cv:Wk ae bn:=((a6.trans aE).trans am).trans aD;refine p aT<|aj 5 U<|p mv<|aN 5 U<|lp (fun J b7 aw=> ∃ (j:Nat) (xs:List ag),(j≤(cw (b.au.getD 1 []) b.least ps.flatten).length)∧(bj aw ae.heap.size 9 1 (cz ai (cw (b.au.getD 1 []) b.least ps.flatten).length al) (cw (b.au.getD 1 []) b.least ps.flatten).length xs)∧(Md (fun k=>(cz ai (cw (b.au.getD 1 []) b.least ps.flatten).length al).ownBlock=some k) bn aw)∧(Sl b7 [(5,aU I),(13,str ps.flatten),(18,.slice ai (cw (b.au.getD 1 []) b.least ps.flatten).length al),(19,.slice a0 (cw (b.au.getD 1 []) b.least ps.flatten).length a2),(20,.slice aZ (cw (b.au.getD 1 []) b.least ps.flatten).length a1),(111,aB ((cw (b.au.getD 1 []) b.least ps.flatten).length)),(112,aB j)])∧((cw (b.au.getD 1 []) b.least ps.flatten).length - j=J)) _ ⟨0,_,ab,c1,(Md.refl _ _),U,U⟩ ?_;rintro J b7 aw ⟨j,xs,cR,bd,aI,dd,rfl⟩;refine bF dd<|bT 6 U<|cd U (fun cH=> ?_) fun cH=> ?_;exact aJ 13 U<|p (bG qw U U ab<|aV.ok (bU bd).2 fun h=>by have :=bd.1; rw [h,gY] at this; omega)<|e<|ni (j:=j) (u:=str [109,97,114,107]) bd vm U U U (by first | omega | (rw [pO]; omega)) ab fun ei cD cY=>aj 4 U<|p (cg<|j+1)<|az 2 U<|tn<|⟨_,ab,j+1,_,ab,cY,(aI.trans cD),U,U⟩
 refine aG 2 U<|b9<|dn 3 U ?_;have a3:∀ k,(cz ai (cw (b.au.getD 1 []) b.least ps.flatten).length al).ownBlock=some k→ae.heap.size≤k∧k < b3.heap.size:=fun k O=>cy aQ O;have a7:Wk ae aw:=cv.trans' aI fun k O h=>by have :=(a3 k h).1; omega
 have c2:=bN bR aI fun k O h=>by have :=(a3 k h).2; have :=(cy bR O).1; omega
 have bW:=bN aO aI fun k O h=>by have :=(a3 k h).2; have :=(cy aO O).1; omega
 refine aJ 3 U<|e<|ba (zM _ I b s ps.flatten aw ((aA.wk Z).wk a7) E ab) U ?_;rintro d6 di ⟨rfl,an⟩;refine p mv<|aj 10 U<|e<|ba (tA (cw (b.au.getD 1 []) b.least ps.flatten) (cw (b.au.getD 1 []) b.least ps.flatten) a0 aZ a2 a1 di ((bU c2).2.wk an) ((bU bW).2.wk an) ab ab) U ?_;rintro d7 dj ⟨bZ,a4⟩;rw [decide_eq_true rfl] at bZ;subst bZ;refine aj 3 U<|eg U U U<|ba (qY _ I b s ps.flatten dj ((((aA.wk Z).wk a7).wk an).wk a4) E ab) U ?_;rintro d8 dl ⟨bQ,bv⟩;obtain ⟨b8,ch,rfl⟩:=cT bQ;refine aj 1 U<|eg U U U<|ba (tA (cw (b.au.getD 1 []) b.least ps.flatten) (cw (b.au.getD 1 []) b.least ps.flatten) b8 aZ ch a1 dl (bU bQ).2 ((((bU bW).2.wk an).wk a4).wk bv) ab ab) U ?_;rintro d9 eh ⟨b0,cu⟩;rw [decide_eq_true rfl] at b0;subst b0;have bz:=(((cq.trans a7).trans an).trans a4).trans<|bv.trans cu;refine aj 5 U<|gb (t:=138) U (fun bc=> ?_) fun bc=> ?_;exact aj 3 U<|p (mg U)<|p aT<|az 3 U<|aR U<|⟨by first | rfl | exact congrArg bD (decide_eq_true<|by have h1:=(zL (l:=b.au.getD 1 []) (least:=b.least) (w:=ps.flatten)<|by simpa using bc).2 (fun e=>by rw [e] at aM; simp at aM); omega),bz⟩
 exact az 8 U<|aR U<|⟨by first | rfl | exact congrArg bD (decide_eq_true<|by have h1:=(zL (l:=b.au.getD 1 []) (least:=b.least) (w:=ps.flatten)<|by simpa using bc).2 (fun e=>by rw [e] at aM; simp at aM); omega),bz⟩
theorem JA (s:List UInt8) (A:List Int) (E:Option bl) (L:Nat) (ap:Nat) (w:ah) (aH:cJ 524 bE w) (aP:s.length≤1048576) (ae:aV w.heap E (A.map zv)) (bg:A.length≤1048576) (aI:bI s= .error ap):
 bo prog 6 (bB [str s,.slice E A.length L]) w (fun v w'=>v= .bool true∧Wk w w'):=by
 refine enter func6 U ntmps6 U<|aW 7 U<|p mv<|e<|ba (Cv s w aP) U ?_;rintro bp a1 ⟨bn,bw,bx,x2,bz,bA,bD,bH,bm,rfl,aO,Z,aX⟩;have bh:=Z.size;obtain ⟨rfl,rfl,_⟩:=aX.resolve_left fun ⟨_,_,_,_,h,_⟩=>by rw [aI] at h; cases h
 refine p mv<|aj 4 U<|e<|dz pE fun a5 bv a7 ad ar=> ?_;have bi:=ad.size;refine p aT<|e<|dZ kL U U U aO ar aF fun O ac a6=> ?_;have bj:=ac.size;have aC:Wk a1 O:=ad.md.trans' ac fun k bd h=>by omega
 have V:=Z.trans aC;have aE:cJ 524 bE O:=aH.mono V fun _ _ h=>h;refine aj 10 U<|gb (t:=33) U (fun h=>absurd (h.symm.trans<|U) c9) fun bc=>eg U U U<|ba (DN O aE) U ?_;rintro bq a2 ⟨rfl,aw⟩;have av:=V.trans aw;refine aN 4 U<|cf (U)<|aJ 4 U<|p mv<|e<|ba (F3 a2) U ?_;rintro br a3 ⟨rfl,ay⟩;refine p U<|aj 11 U<|p mv<|e<|ba (Jb 1 [] 60 a3 aF) U ?_;rintro bu a4 ⟨aM,az⟩;obtain ⟨an,ao,rfl⟩:=cT aM;have au:=(av.trans ay).trans az;refine aN 5 U<|lp (fun C ak J=> ∃ (aZ:Unit),(Wk a4 J)∧(Sl ak [(1,.slice E A.length L),(5,.pointer none),(9,.int .i64 ((0:Nat):Int)),(10,.slice none 0 0),(41,.slice an 0 ao),(42,.int .i64 ((0:Nat):Int)),(43,.int .i64 ((0:Nat):Int))])∧(0=C)) _ ⟨(),(Md.refl _ _),U,U⟩ ?_;rintro C ak J ⟨aZ,aD,aQ,rfl⟩;refine bF aQ<|bT 6 U<|cd U (fun h=>absurd h ab) fun a8=>aG 2 U<|b9<|dn 3 U ?_;have M:=au.trans aD;refine bS 5 U ?_;refine dY (fun al ag=> ∃ (aY:Unit),(Wk J ag)∧(Sl al [(14,.int .i64 ((0:Nat):Int))])) ?_ ?_;refine bT 8 U<|lp (fun C am ai=> ∃ (a0:Unit),(Wk J ai)∧(Sl am [(10,.slice none 0 0),(14,.int .i64 ((0:Nat):Int)),(56,.slice E A.length L),(57,aB (A.length)),(58,.int .i64 ((0:Nat):Int))])∧(0=C)) _ ⟨(),(Md.refl _ _),U,U⟩ ?_;rintro C am ai ⟨a0,I,aU,rfl⟩;refine bF aU<|bT 6 U<|cd U (fun aK=> ?_) fun aK=> ?_;refine bS 5 U ?_;obtain ⟨k,aL⟩:∃ k,A[0]? =some k:=⟨_,bt ab⟩
 refine aJ 1 U<|p (bG dE U U ab<|aV.ok (ae.wk<|M.trans I)<|oO ab)<|p (ax U<|D4 (i:=0) (ae.wk<|M.trans I) aL)<|aN 11 U<|cd U (fun a9=> ?_) fun h=>absurd U h;exact aG 4 U<|b9<|bf 1 U<|tn<|⟨(),I,U⟩
 exact aG 2 U<|b9<|bf 1 U<|tn<|⟨(),I,U⟩
 rintro al ag ⟨aY,aA,aS⟩;refine bF aS<|bS 7 U<|cd U (fun bb=> ?_) fun h=>absurd ab h;exact aG 7 U<|aR U<|⟨U,M.trans aA⟩
theorem Jr (s:List UInt8) (A:List Int) (C:Option bl) (E:Nat) (w:ah) (I:cJ 524 bE w) (M:s.length≤1048576) (L:aV w.heap C (A.map zv)) (J:A.length≤1048576):bo prog 6 (bB [str s,.slice C A.length E]) w (fun v w'=>v= .bool true∧Wk w w'):=by
 cases hX:bI s with
 | ok b=>exact Jz s A C E b w I M L J hX
 | error O=>exact JA s A C E O w I M L J hX
end Go.Hb
end
namespace Go.Hb
theorem Iz {W:ah} {v:ag} {A:List Int} (h:RS 1 (fun _ cs (x:Int)=>cs= [.int .i64 x]∧(Lit.int .i64 x).wf=true) W [v] A):∃ a c,v= .slice a A.length c∧aV W.heap a (A.map zv)∧A.length≤c:=by
 obtain ⟨a,c,L,I,O,J,M,C⟩:=h;simp only [List.cons.injEq,and_true] at I;refine ⟨a,c,I,?_,M⟩;have e:L.flatten=A.map zv:=by
  have key:∀ (L:List (List ag)) (A:List Int),L.length=A.length→(∀ (i:Nat) l x,L[i]? =some l→A[i]? =some x→l= [zv x])→L.flatten=A.map zv:=by
   intro L
   induction L with
   | nil=>intro A h _; rw [List.eq_nil_of_length_eq_zero h.symm]; rfl
   | cons a L ih=>
     intro A h C;cases A with
     | nil=>simp at h
     | cons w A=>
       rw [List.flatten_cons,fq,C 0 a w rfl rfl,ih A (by simpa using h) (fun i l x h1 E=>C (i+1) l x (by simpa using h1)<|by simpa using E)]; rfl
  exact key L A O fun i l x h1 E=>(C i l x h1 E).2.1
 rw [← e]; exact J
theorem LR (A:List Int):(A.map fun _=>1).sum=A.length:=by
 induction A with
 | nil=>rfl
 | cons a l ih=>simp only [fq,List.sum_cons,ih,dm]; omega
theorem Jq (s:List UInt8) (A:List Int) (C:Option bl) (E:Nat) (w:ah) (I:cJ 524 bE w) (M:s.length≤1048576) (L:aV w.heap C (A.map zv)) (J:A.length≤1048576):bo prog 6 (bB [str s,.slice C A.length E]) w (fun v w'=>v= .bool true∧Wk w w'):=Jr s A C E w I M L J
end Go.Hb
